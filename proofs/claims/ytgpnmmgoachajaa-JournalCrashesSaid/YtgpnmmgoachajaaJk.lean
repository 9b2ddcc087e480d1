/- The journal's Open. -/
import Derived.Test.YtgpnmmgoachajaaJi
namespace Go.Proofs.Ytgpnmmgoachajaa
open Go.RowKit Go.Shelf
open Go.Proofs

theorem joinAt_le (b : List UInt8) (e n : Int) : ∀ f i l, 128 * (joinAt b e n f i l).2 ≤ b.length
  | 0, _, _ => Nat.zero_le _
  | f + 1, i, l => by
    rw [joinAt]
    split
    · split
      · exact Nat.zero_le _
      · split
        · split
          · split
            · assumption
            · exact Nat.zero_le _
          · exact joinAt_le b e n f _ _
        · exact Nat.zero_le _
    · exact Nat.zero_le _
theorem join_le (b : List UInt8) (e n : Int) : 128 * (joinOf b e n).2 ≤ b.length := joinAt_le b e n _ _ _
/-- The journal that is opened. -/
def jOpen (s : Dk) (fr k e st : Nat) : Jn :=
  ⟨fr, k, e, (st + (opn (k + 1) (rall s fr k st k) e 0).2) % k, (opn (k + 1) (rall s fr k st k) e 0).1.length, (opn (k + 1) (rall s fr k st k) e 0).2, false,
    stain ((rall s fr k st k).drop (128 * (opn (k + 1) (rall s fr k st k) e 0).2)) e (k - (opn (k + 1) (rall s fr k st k) e 0).2)⟩
theorem octs_upd {F : Nat → Prop} {w w' : World} {B : Option Addr} {l : List UInt8} (hx : Octs w B l) (u : Upd F w w') (hB : ∀ a, B = some a → ¬ F a.block) : Octs w' B l := fun hpos => by
  obtain ⟨b, o, e, hc⟩ := hx hpos
  exact ⟨b, o, e, fun j v hv => u.cell (hc j v hv) (hB ⟨b, o, none⟩ e)⟩
theorem Pays.mono {W : World} {base base' : Nat} {v : Value} {Ps : List (List UInt8)} (h : Pays W base v Ps) (k : base' ≤ base) : Pays W base' v Ps := by
  obtain ⟨vs, h1, h2, h3⟩ := h
  exact ⟨vs, h1, h2.mono k, fun i hi => by
    obtain ⟨u, h4, h5⟩ := h3 i hi
    exact ⟨u, h4, h5.mono k⟩⟩
def lenV : Value → Nat
  | .slice _ n _ => n
  | _ => 0
theorem dk_same (s : Dk) (h : s.calls = -1) : dkRead s = s := by
  unfold dkRead
  rw [h]
  show { s with calls := -1 } = s
  rw [← h]

set_option maxRecDepth 100000 in
set_option maxHeartbeats 8000000 in
theorem jopen_any {K : Nat → Prop} {w : World} {p : Nat} {s : Dk} (h : Disk K w p s) (hc1 : s.calls = -1) (fr k e st : Nat) (hk1 : 4 ≤ k) (hk2 : k ≤ 46) (hf : fr + k ≤ s.safe.length) (he1 : 1 ≤ e) (he2 : e ≤ 2147483648) (hst : st < k) (hKb : ∀ b, K b → b < w.heap.size) :
    Calls Try.prog 43 #[.pointer (some ⟨p, 0, none⟩), .int .i64 (fr : Int), .int .i64 (k : Int), .int .i64 (e : Int), .int .i64 (st : Int)] w fun x w' => ∃ y v K', x = .returned (.tuple #[.pointer (some ⟨y, 0, none⟩), v, .int .i64 0]) ∧ JnAt w' y p (jOpen s fr k e st) ∧ Pays w' w.heap.size v (opn (k + 1) (rall s fr k st k) e 0).1 ∧ Disk K' w' p s ∧ (∀ b, K b → K' b) ∧ K' y ∧ (∀ b, K' b → b < w'.heap.size) ∧ w.heap.size ≤ y ∧ Upd (fun b => ¬ K b) w w' := by
  have hbig : s.safe.length ≤ 65536 := h.choose_spec.choose_spec.choose_spec.1.big
  have hok : DkOk s := h.choose_spec.choose_spec.choose_spec.1.ok
  have hnw := jnew_good h fr k e st hk1 (by omega) hf he1 he2 hst
  obtain ⟨N, hN⟩ : ∃ N, N = 128 * k := ⟨_, rfl⟩
  obtain ⟨T, hT⟩ : ∃ T, T = st * 128 := ⟨_, rfl⟩
  have t1 : (st : Int) * 128 = (T : Int) := by omega
  have t2 : IntKind.i64.wrap (T : Int) = (T : Int) := IntWalk.i64_in _ (by omega)
  obtain ⟨all, hall⟩ : ∃ all, all = dkSecs s fr k := ⟨_, rfl⟩
  have alll : all.length = N := by rw [hall, length_dkSecs hok fr k hf, hN]
  have rd : ∀ W K', Disk K' W p s → Calls Try.prog 22 #[.pointer (some ⟨p, 0, none⟩), .int .i64 (fr : Int), .int .i64 (k : Int)] W fun e w' => ∃ B d, e = .returned (.tuple #[.slice B N d, .int .i64 0]) ∧ N ≤ d ∧ Octs w' B all ∧ Disk K' w' p s ∧ Upd (fun b => ¬ K' b) W w' := fun W K' hd => (dk22_on hd (by rw [hc1]; decide) fr k hf).mono (by
    rintro e w' ⟨v, rfl, o, hd2, u⟩
    rw [dk_same s hc1] at hd2
    obtain ⟨A, c, rfl, hc, _, hx⟩ := o.form
    rw [← hall] at hc hx
    rw [← hall, alll] at hd2
    rw [alll] at hc
    rw [← hall, alll]
    exact ⟨A, c, rfl, hc, hx, hd2.less (fun b e => .inl e), u⟩)
  have b0e : all.drop T ++ all.take T = rall s fr k st k := by rw [hall, hT]; exact open_left hok fr k st hst hf
  have dl : (all.drop T).length = N - T := by rw [List.length_drop, alll]
  have tl : (all.take T).length = T := by rw [List.length_take, alll]; omega
  have ct : ∀ B d, N ≤ d → ∃ A1 A2, (∀ w, (Instr.slice 22 (.slice B N d) (some (.int .i64 (T : Int))) none none).run Try.prog w = .ok (.slice A1 (N - T) (d - T)) w) ∧ (∀ w, (Instr.slice 22 (.slice B N d) none (some (.int .i64 (T : Int))) none).run Try.prog w = .ok (.slice A2 T d) w) ∧ (∀ w, Octs w B all → Octs w A1 (all.drop T) ∧ Octs w A2 (all.take T)) := fun B d hd => by
    obtain ⟨A1, k1, _, o1, _⟩ := cut_lo B all d T (by omega) (by omega)
    obtain ⟨A2, k2, _, o2, _⟩ := cut_hi B all d T (by omega) (by omega)
    rw [alll] at k1 k2
    exact ⟨A1, A2, k1, k2, fun w o => ⟨o1 w o, o2 w o⟩⟩
  obtain ⟨b0, hb0⟩ : ∃ b0, b0 = rall s fr k st k := ⟨_, rfl⟩
  have hcat : ∀ W A1 A2 c1 c2, Octs W A1 (all.drop T) → Octs W A2 (all.take T) → N - T ≤ c1 → T ≤ c2 → Calls Try.prog 60 #[.slice (some ⟨W.heap.size, 0, none⟩) 2 2] (W.alloc (.cells #[.slice A1 (N - T) c1, .slice A2 T c2] 22)) fun x w' => ∃ A3 c3, x = .returned (.slice A3 N c3) ∧ N ≤ c3 ∧ Octs w' A3 b0 ∧ (∀ a, A3 = some a → W.heap.size + 1 ≤ a.block ∧ a.block < w'.heap.size) ∧ Ext W w' := fun W A1 A2 c1 c2 o1 o2 h1 h2 => by
    have hL := Lists.two (w := W) (B := A1) (C := A2) (l := all.drop T) (m := all.take T) (c := c1) (d := c2) 22 o1 (by omega) (by omega) o2 (by omega) (by omega)
    have hfl : [all.drop T, all.take T].flatten = b0 := by rw [hb0, ← b0e]; simp
    have hbl : b0.length = N := by rw [← hfl]; simp; omega
    have := f131_any (some ⟨W.heap.size, 0, none⟩) [all.drop T, all.take T] 2 _ (by show 2 ≤ _; decide) (by rw [hfl, hbl]; omega) hL
    rw [dl, tl] at this
    refine this.mono ?_
    rintro e w' ⟨v, rfl, o, x⟩
    rw [hfl] at o
    obtain ⟨A3, c3, rfl, h3, h4⟩ := o.octs_form
    rw [hbl] at h3 o ⊢
    refine ⟨A3, c3, rfl, h3, h4, fun a e => ?_, ((Ext.refl W).alloc _).trans x⟩
    have := o.block a.block (by rw [e]; rfl)
    rw [World.size_alloc] at this
    exact this
  have b0l : b0.length = N := by rw [hb0, ← b0e, List.length_append, dl, tl]; omega
  rw [← hb0]
  unfold jOpen
  rw [← hb0]
  obtain ⟨R, hR⟩ : ∃ R, R = opn (k + 1) b0 e 0 := ⟨_, rfl⟩
  rw [← hR]
  have HR := Lib.hid hR
  clear hR
  have HN := Lib.hid hN
  have HB0 := Lib.hid b0l
  clear hb0 b0e hall alll dl tl hT hN b0l
  go_enter Try.func43, Try.ntmps43
  go_wp2_with first
    | (go_at_call 35; refine hnw.mono ?_; clear hnw; rintro x w1 ⟨rfl, hy, x1⟩; have hd1 := h.grow x1)
    | (go_at_call 22; refine (rd _ _ hd1).mono ?_; clear rd; rintro x w2 ⟨B, d, rfl, hBd, hoB, hd2, u2⟩)
  have ky : K w.heap.size ∨ (w.heap.size ≤ w.heap.size ∧ w.heap.size < w1.heap.size) := .inr ⟨Nat.le_refl _, hy.lt⟩
  have hy2 : JnAt w2 w.heap.size p (jNew fr k e st) := u2.heap hy (fun x => x ky)
  have ux : Upd (fun b => ¬ K b) w w2 := (Upd.of_ext _ x1).trans (u2.mono (fun b _ x y => x (Or.inl y)))
  obtain ⟨A1, A2, k1, k2, o12⟩ := ct B d hBd
  obtain ⟨oA1, oA2⟩ := o12 w2 hoB
  have hdT1 : N - T ≤ d - T := by omega
  have hdT2 : T ≤ d := by have := HN.out; omega
  clear ct o12 hoB
  refine wp_region_held_drew (S := fun w' => Ext w2.drew w') (by kernel_rfl) (Ext.refl _) (fun hS => ?_)
  refine takeH (i := 0) (v := ?_) rfl rfl (by kernel_rfl) (by kernel_rfl) (by kernel_rfl) (fun _ _ _ h => h) (Or.inl ⟨by kernel_rfl, ?_⟩) hS ?_
  rotate_left 1
  · (intro w' hS'; go_simp; try (with_reducible rfl))
  simp only [List.setIfInBounds_toArray, List.set_cons_succ, List.set_cons_zero]
  refine takeH (i := 1) (v := ?_) rfl rfl (by kernel_rfl) (by kernel_rfl) (by kernel_rfl) (fun _ _ _ h => h) (Or.inl ⟨by kernel_rfl, ?_⟩) hS ?_
  rotate_left 1
  · (intro w' hS'; go_simp; try (with_reducible rfl))
  simp only [List.setIfInBounds_toArray, List.set_cons_succ, List.set_cons_zero]
  refine takeH (i := 2) (v := ?_) rfl rfl (by kernel_rfl) (by kernel_rfl) (by kernel_rfl) (fun _ _ _ h => h) (Or.inl ⟨by kernel_rfl, ?_⟩) hS ?_
  rotate_left 1
  · (intro w' hS'; have k1 := k1 w'; go_simp; try (with_reducible rfl))
  simp only [List.setIfInBounds_toArray, List.set_cons_succ, List.set_cons_zero]
  refine takeH (i := 3) (v := ?_) rfl rfl (by kernel_rfl) (by kernel_rfl) (by kernel_rfl) (fun _ _ _ h => h) (Or.inl ⟨by kernel_rfl, ?_⟩) hS ?_
  rotate_left 1
  · (intro w' hS'; go_simp; try (with_reducible rfl))
  simp only [List.setIfInBounds_toArray, List.set_cons_succ, List.set_cons_zero]
  refine takeH (i := 4) (v := ?_) rfl rfl (by kernel_rfl) (by kernel_rfl) (by kernel_rfl) (fun _ _ _ h => h) (Or.inl ⟨by kernel_rfl, ?_⟩) hS ?_
  rotate_left 1
  · (intro w' hS'; go_simp; try (with_reducible rfl))
  simp only [List.setIfInBounds_toArray, List.set_cons_succ, List.set_cons_zero]
  refine takeH (i := 5) (v := ?_) rfl rfl (by kernel_rfl) (by kernel_rfl) (by kernel_rfl) (fun _ _ _ h => h) (Or.inl ⟨by kernel_rfl, ?_⟩) hS ?_
  rotate_left 1
  · (intro w' hS'; have k2 := k2 w'; go_simp; try (with_reducible rfl))
  simp only [List.setIfInBounds_toArray, List.set_cons_succ, List.set_cons_zero]
  refine wpAnyH_ready (rs := [6]) (by kernel_rfl) (by simp) ?_
  refine AllReadyH.cons rfl (fun K hK => ?_) ?_
  rotate_left 1
  · exact AllReadyH.nil
  go_simp
  refine hK.out _ _ (by first | exact hS | exact hS.alloc _ | exact hS.trans hext) (fun hS => ?_)
  clear hK K
  refine wpAnyH_ready (rs := [7]) (by kernel_rfl) (by simp) ?_
  refine AllReadyH.cons rfl (fun K hK => ?_) ?_
  rotate_left 1
  · exact AllReadyH.nil
  go_simp
  refine (hcat w2.drew A1 A2 _ _ oA1.drew oA2.drew hdT1 hdT2).mono ?_; clear hcat; rintro x w3 ⟨A3, c3, rfl, hc3, o3, b3, x3⟩
  refine hK.out _ _ (x3) (fun hS => ?_)
  clear hK K
  refine takeH (i := 8) (v := ?_) rfl rfl (by kernel_rfl) (by kernel_rfl) (by kernel_rfl) (fun _ _ _ h => h) (Or.inl ⟨by kernel_rfl, ?_⟩) hS ?_
  rotate_left 1
  · (intro w' hS'; go_simp; try (with_reducible rfl))
  simp only [List.setIfInBounds_toArray, List.set_cons_succ, List.set_cons_zero]
  refine wpAnyH_done (by kernel_rfl) ?_ _
  go_wp2_with fail
  have yl : w.heap.size < w2.heap.size := Nat.lt_of_lt_of_le hy.lt u2.size
  have zd : w2.drew.heap.size = w2.heap.size := rfl
  have z3 : w2.heap.size ≤ w3.heap.size := by have := hS.size; omega
  have hy3 : JnAt w3 w.heap.size p (jNew fr k e st) := Ext.heap hS hy2
  have hd3 := hd2.drew.ext hS
  have u3 : Upd (fun b => ¬ K b) w w3 := ux.drew.trans (Upd.of_ext _ hS)
  have base : w.heap.size ≤ w3.heap.size := by omega
  have hKd : ∀ F : Nat → Prop, (∀ b, F b → w2.heap.size ≤ b ∨ b = w.heap.size ∨ K b) → Disk F w3 p s := fun F hF => by
    obtain ⟨S, M, qv, g1, g2⟩ := hd2
    obtain ⟨l1, l2, l3, l4⟩ := g1.lt
    refine ⟨S, M, qv, (g1.ext ((Ext.refl w2).drew)).ext hS, fun b hb x => ?_⟩
    have hlt : b < w2.heap.size := by
      rcases hb with rfl | rfl | rfl | hb
      · exact l1
      · exact l2
      · exact l3
      · exact l4 b hb
    rcases hF b x with z | z | z
    · omega
    · exact g2 b hb (.inr (by rw [z]; exact ⟨Nat.le_refl _, by have := hy.lt; omega⟩))
    · exact g2 b hb (.inl z)
  clear hd1 hd2 hd3 hy hy2 u2 x1 ux hS k1 k2 oA1 oA2 hdT1 hdT2
  generalize hyy : w.heap.size = y at *
  go_loopw [17, 18] (fun lv ov wr => ∃ (c u f' : Nat) (Ps : List (List UInt8)) (b : List UInt8) (A : Option Addr) (cap : Nat), lv = .slice A (128 * (k - u)) cap ∧ 128 * (k - u) ≤ cap ∧ b = b0.drop (128 * u) ∧ Octs wr A b ∧ (∀ a, A = some a → y < a.block ∧ a.block < w3.heap.size) ∧ Pays wr w3.heap.size ov Ps ∧ JnAt wr y p ⟨fr, k, e, (st + u) % k, c, u, false, false⟩ ∧ Ps.length = c ∧ c ≤ u ∧ u ≤ k ∧ c + f' = k + 1 ∧ R = (Ps ++ (opn f' b e c).1, u + (opn f' b e c).2) ∧ Upd (fun b => b = y) w3 wr) (fun lv _ _ => lenV lv)
  case atStart =>
    refine ⟨0, 0, k + 1, [], b0, A3, c3, ?_, ?_, rfl, o3, ?_, Pays.nil _ _, ?_, rfl, Nat.le_refl _, Nat.zero_le _, by omega, ?_, Upd.refl _ _⟩
    · rw [HN.out]; rfl
    · have := HN.out; omega
    · intro a ea
      have := b3 a ea
      rw [zd] at this
      omega
    · rw [Nat.add_zero, Nat.mod_eq_of_lt hst]
      exact hy3
    · rw [HR.out, List.nil_append, Nat.zero_add]
  case round =>
    obtain ⟨c, u, f', Ps, b, A, cap, rfl, hcap, hb, ho, hA, hp, hj, hPl, hcu, huk, hcf, hrel2, hu⟩ := hrel
    clear o3 b3 hy3 hc3
    obtain ⟨D, hD⟩ : ∃ D, D = k - u := ⟨_, rfl⟩
    obtain ⟨M, hM⟩ : ∃ M, M = 128 * D := ⟨_, rfl⟩
    rw [← hD, ← hM] at hcap ⊢
    have hbl : b.length = M := by rw [hb, List.length_drop, HB0.out, HN.out]; omega
    obtain ⟨c0, c1, c2, c3', c4, c5, c6, c7, c8, hf'⟩ := jn_cells hj
    dsimp only at c0 c1 c2 c3' c4 c5 c6 c7 c8
    have jl := join_le b (e : Int) (c : Int)
    rw [hbl] at jl
    have hjn := f34_any A b M cap (e : Int) (c : Int) wr hbl (by have := HN.out; omega) hcap ho
    obtain ⟨q, hq⟩ : ∃ q, q = (joinOf b (e : Int) (c : Int)).2 := ⟨_, rfl⟩
    obtain ⟨P, hP⟩ : ∃ P, P = (joinOf b (e : Int) (c : Int)).1 := ⟨_, rfl⟩
    obtain ⟨f'', hf2⟩ : ∃ f'', f' = f'' + 1 := ⟨f' - 1, by omega⟩
    subst hf2
    rw [opn, ← hq, ← hP] at hrel2
    rw [← hq, ← hP] at hjn
    rw [← hq] at jl
    have zr : w3.heap.size ≤ wr.heap.size := hu.size
    by_cases q0 : q = 0
    · rw [if_pos q0] at hrel2
      have hR1 : R.1 = Ps := by rw [hrel2]; exact List.append_nil _
      have hR2 : R.2 = u := by rw [hrel2]; rfl
      have d1 : (k : Int) - (u : Int) = (D : Int) := by omega
      have d2 : (D : Int) * 128 = (M : Int) := by omega
      have w1' : IntKind.i64.wrap (D : Int) = (D : Int) := IntWalk.i64_in _ (by omega)
      have w2' : IntKind.i64.wrap (M : Int) = (M : Int) := IntWalk.i64_in _ (by omega)
      obtain ⟨A5, k5, _, o5, _⟩ := cut_hi A b cap M (by omega) (by omega)
      rw [hbl] at k5
      have o5 := o5 wr ho
      rw [List.take_of_length_le (by omega)] at o5
      have hst' : ∀ W, Ext wr W → Calls Try.prog 62 #[.slice A5 M cap, .int .i64 (e : Int)] W fun x w' => x = .returned (.bool (stain b e D)) ∧ Ext W w' := fun W x => stained_any A5 b D M cap e W hbl hM (by omega) hcap (o5.ext x)
      have hjf : ∀ W, Ext wr W → JnAt (W.setCell ⟨y, 8, none⟩ (.bool (stain b e D))) y p ⟨fr, k, e, (st + u) % k, c, u, false, stain b e D⟩ := fun W x => jn_set (Ext.heap x hj) 8 (.bool (stain b e D)) ⟨fr, k, e, (st + u) % k, c, u, false, stain b e D⟩ rfl
      have HR1 := Lib.hid hR1
      have HR2 := Lib.hid hR2
      have HB := Lib.hid hb
      have HD := Lib.hid hD
      have HP := Lib.hid hPl
      have fin : ∀ W, Ext wr W → ∃ K' : Nat → Prop, Disk K' (W.setCell ⟨y, 8, none⟩ (.bool (stain b e D))) p s ∧ (∀ b, K b → K' b) ∧ K' y ∧ (∀ b', K' b' → b' < (W.setCell ⟨y, 8, none⟩ (.bool (stain b e D))).heap.size) ∧ y ≤ y ∧ Upd (fun b => ¬ K b) w (W.setCell ⟨y, 8, none⟩ (.bool (stain b e D))) := fun W x => by
        have uW : Upd (fun b => b = y) w3 (W.setCell ⟨y, 8, none⟩ (.bool (stain b e D))) := (hu.trans (Upd.of_ext _ x)).setCell (p := ⟨y, 8, none⟩) (.inl rfl) _
        have zW := uW.size
        refine ⟨fun b => K b ∨ b = y ∨ (w2.heap.size ≤ b ∧ b < (W.setCell ⟨y, 8, none⟩ (.bool (stain b0 e D))).heap.size), disk_upd (hKd _ (fun b' z => ?_)) uW (fun b' z => .inr (.inl z)), fun _ => .inl, .inr (.inl rfl), fun b' z => ?_, Nat.le_refl _, u3.trans' uW (fun b' z => .inr (by rw [z, hyy]; exact Nat.le_refl _))⟩
        · rcases z with z | z | z
          · exact .inr (.inr z)
          · exact .inr (.inl z)
          · exact .inl z.1
        · rcases z with z | z | z
          · have := hKb b' z
            omega
          · omega
          · have := z.2
            simpa using this
      have c6w := fun W (x : Ext wr W) => x.cell c6
      have c8w := fun W (x : Ext wr W) => x.cell c8
      have f8w := fun W (x : Ext wr W) => frozen_of_row W y 8 _ _ (Ext.heap x hj)
      have hpw := fun W (x : Ext wr W) => ((hp.ext x).upd ((Upd.refl (fun b => b = y) W).setCell (p := ⟨y, 8, none⟩) (.inl rfl) (.bool (stain b e D))) (fun b' z => by omega)).mono base
      have qq : ((q : Int) == 0) = true := by rw [beq_iff_eq]; omega
      clear hPl hb hP hq jl hrel2 hR1 hR2 hbl o5 hM hD c0 c1 c2 c3' c4 c7 hf' HB0 HN HR
      go_wp2_with first
        | (go_at_call 61; refine hjn.mono ?_; clear hjn; rintro x w4 ⟨v4, rfl, o4, x4⟩; have c6 := c6w w4 x4)
        | (go_at_call 62; refine (hst' _ x4).mono ?_; clear hst'; rintro x w5 ⟨rfl, x5⟩; have X5 := x4.trans x5; have c8 := c8w w5 X5; have f8 := f8w w5 X5)
      obtain ⟨K', g1, g2, g3, g4, g5, g6⟩ := fin w5 X5
      go_ret3
      rw [HR1.out, HR2.out, ← HB.out, ← HD.out, HP.out]
      exact ⟨y, _, K', rfl, hjf w5 X5, (hpw w5 X5).mono (Nat.le_of_eq hyy), g1, g2, g3, g4, Nat.le_of_eq hyy, g6⟩
    · rw [if_neg q0] at hrel2
      obtain ⟨Q, hQ⟩ : ∃ Q, Q = 128 * q := ⟨_, rfl⟩
      have d3 : (q : Int) * 128 = (Q : Int) := by omega
      have w3' : IntKind.i64.wrap (Q : Int) = (Q : Int) := IntWalk.i64_in _ (by omega)
      obtain ⟨A7, k7, _, o7, b7⟩ := cut_lo A b cap Q (by omega) (by omega)
      rw [hbl] at k7
      have o7 := o7 wr ho
      have hA7 : ∀ a, A7 = some a → y < a.block ∧ a.block < w3.heap.size := fun a ea => by
        obtain ⟨b', e1, e2⟩ := b7 a ea
        rw [← e2]
        exact hA b' e1
      have hst' : ∀ W, JnAt W y p ⟨fr, k, e, (st + u) % k, c, u, false, false⟩ → Calls Try.prog 59 #[.pointer (some ⟨y, 0, none⟩), .int .i64 (q : Int)] W fun x w' => x = .returned (.tuple #[]) ∧ JnAt w' y p ⟨fr, k, e, (st + (u + q)) % k, c + 1, u + q, false, false⟩ ∧ Upd (fun b => b = y) W w' := fun W h => by
        have hm := Nat.mod_lt (st + u) (show 0 < k by omega)
        have := jstep_any h q (by omega) ⟨by show 1 ≤ k; omega, by show k ≤ 4096; omega⟩ (by show u ≤ 65536; omega) (by show c ≤ 2147483648; omega) (by show (st + u) % k ≤ 65536; omega)
        have e1 : jStep ⟨fr, k, e, (st + u) % k, c, u, false, false⟩ q = ⟨fr, k, e, (st + (u + q)) % k, c + 1, u + q, false, false⟩ := by
          unfold jStep
          dsimp only
          rw [Nat.mod_add_mod, Nat.add_assoc]
        rw [e1] at this
        exact this
      have huq : u + q ≤ k := by omega
      have hb2 : b.drop Q = b0.drop (128 * (u + q)) := by rw [hb, List.drop_drop, hQ, Nat.mul_add]
      have hM2 : M - Q = 128 * (k - (u + q)) := by omega
      have hcap2 : M - Q ≤ cap - Q := by omega
      have qq : ((q : Int) == 0) = false := by rw [beq_eq_false_iff_ne]; omega
      have hQ1 : 0 < Q ∧ Q ≤ M := by omega
      have hRn : R = ((Ps ++ [P]) ++ (opn f'' (b.drop Q) e (c + 1)).1, (u + q) + (opn f'' (b.drop Q) e (c + 1)).2) := by
        rw [hrel2, hQ, List.append_assoc, Nat.add_assoc]
        rfl
      have h59 := fun W (h : JnAt W y p ⟨fr, k, e, (st + u) % k, c, u, false, false⟩) => hst' W h
      have hjx := fun W (x : Ext wr W) => show JnAt W y p _ from Ext.heap x hj
      have HB := Lib.hid hb2
      have HRn := Lib.hid hRn
      have HM2 := Lib.hid hM2
      have HPl : Hid ((Ps ++ [P]).length = c + 1) := Lib.hid (by rw [List.length_append, hPl]; rfl)
      have Pl2 : Ps.length < 4294967296 := by omega
      have hcf2 : c + 1 + f'' = k + 1 := by omega
      have hcu2 : c + 1 ≤ u + q := by omega
      clear hb hP hq jl hrel2 hbl hM hD hQ c0 c1 c2 c3' c4 c6 c7 c8 hf' HB0 HN HR hRn hb2 hM2 q0 hst' hPl ho hA b7
      go_wp2_with first
        | (go_at_call 61; refine hjn.mono ?_; clear hjn; rintro x w4 ⟨v4, rfl, o4, x4⟩; obtain ⟨A4, c4', rfl, _, _⟩ := o4.octs_form; have z4 := x4.size; have p4 := (hp.ext x4).ext ((Ext.refl w4).alloc (.cells #[.slice A4 P.length c4'] 22)); have o4' := (o4.mono zr).alloc (.cells #[.slice A4 P.length c4'] 22); have g4 := heap_alloc_new w4 (.cells #[.slice A4 P.length c4'] 22))
        | (at_builtin; refine wpList_pay rfl (.tmp 81) (.tmp 83) rfl w3.heap.size _ Ps rfl p4 w4.heap.size (.slice A4 P.length c4') rfl g4 P o4' Pl2 (by rw [World.size_alloc]; omega) ?_; intro v6 w6 p6 u6; have U6 : Upd (fun b => w3.heap.size ≤ b) wr w6 := ((Upd.of_ext _ x4).alloc _).trans u6; have j6 : JnAt w6 y p ⟨fr, k, e, (st + u) % k, c, u, false, false⟩ := U6.heap hj (fun z => by omega); have o8 := octs_upd o7 U6 (fun a ea z => by have := hA7 a ea; omega))
        | (go_at_call 59; refine (h59 w6 j6).mono ?_; clear h59; rintro x w7 ⟨rfl, j7, u7⟩)
      go_roundw
      case rel =>
        refine ⟨c + 1, u + q, f'', Ps ++ [P], b.drop Q, A7, cap - Q, by rw [HM2.out], by rw [← HM2.out]; exact hcap2, HB.out, octs_upd o8 u7 (fun a ea z => by have := hA7 a ea; omega), hA7, p6.upd u7 (fun b' z => by omega), j7, HPl.out, hcu2, huq, hcf2, HRn.out, ?_⟩
        exact (hu.trans' (U6.mono (G := fun b => b = y ∨ w3.heap.size ≤ b) (fun b' _ z => .inr z)) (fun b' z => z)).trans u7
      case measure => show M - Q < M; omega
end Go.Proofs.Ytgpnmmgoachajaa
