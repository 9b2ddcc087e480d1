/- The disk's Write. -/
import Derived.Test.YtgpnmmgoachajaaDv
namespace Go.Proofs.Ytgpnmmgoachajaa
open Go.RowKit Go.Shelf
open Go.Proofs
attribute [local go_sem] Oper.semAt_some

set_option maxRecDepth 100000 in
set_option maxHeartbeats 8000000 in
theorem dk16_on {K : Nat → Prop} {w : World} {p : Nat} {s : Dk} (h : Disk K w p s) (h0 : s.calls ≠ 0) (A : Option Addr) (l : List UInt8) (m c at_ : Nat) (hl : l.length = m) (hm : m % 128 = 0) (hat : at_ + m / 128 ≤ s.safe.length) (hc : m ≤ c)
    (hx : Octs w A l) (hA : ∀ a, A = some a → K a.block) (hwr : 0 ≤ s.writes ∧ s.writes ≤ 4294967296) (hq : s.queue.length ≤ 2147483648) (hKb : ∀ b, K b → b < w.heap.size) :
    Calls Try.prog 16 #[.pointer (some ⟨p, 0, none⟩), .int .i64 (at_ : Int), .slice A m c] w fun x w' => x = .returned (.int .i64 0) ∧ Disk K w' p (dkWrite s at_ l) ∧ Upd (fun b => ¬ K b) w w' := by
  obtain ⟨n, hmn⟩ : ∃ n, m = 128 * n := ⟨m / 128, by omega⟩
  have hnn : m / 128 = n := by omega
  rw [hnn] at hat
  obtain ⟨w1, hw1⟩ : ∃ w1, w1 = (w.alloc (.cells #[.pointer (some ⟨p, 0, none⟩)] 25)).alloc (.cells #[.int .i64 (at_ : Int)] 3) := ⟨_, rfl⟩
  have hbig : s.safe.length ≤ 65536 := h.choose_spec.choose_spec.choose_spec.1.big
  have X1 : Ext w w1 := by rw [hw1]; exact ((Ext.refl w).alloc _).alloc _
  have z1 : w1.heap.size = w.heap.size + 1 + 1 := by rw [hw1]; simp
  have b3 : Boxed w1 w.heap.size 25 (.pointer (some ⟨p, 0, none⟩)) := by rw [hw1]; exact (Boxed.new w _ _).alloc _
  have b4 : Boxed w1 (w.heap.size + 1) 3 (.int .i64 (at_ : Int)) := by
    rw [hw1]
    have := Boxed.new (w.alloc (.cells #[.pointer (some ⟨p, 0, none⟩)] 25)) 3 (.int .i64 (at_ : Int))
    rw [World.size_alloc] at this
    exact this
  have h1 : Disk (fun b => K b ∨ w.heap.size ≤ b) w1 p s := h.more X1
  have hth : thereOf s.safe.length (at_ : Int) (n : Int) = 0 := by unfold thereOf; rw [if_pos (by omega)]
  have hf46 : Calls Try.prog 46 #[.pointer (some ⟨p, 0, none⟩), .int .i64 (at_ : Int), .int .i64 (n : Int)] w1 fun e w' => e = .returned (.int .i64 0) ∧ w1 = w' := by
    obtain ⟨S, M, qv, g, _⟩ := h1
    have := dk46_any g (at_ : Int) (n : Int)
    rw [hth] at this
    exact this
  have hf47 := dk47_on h1 h0
  have hm0 : ((m : Nat) : Int).tmod 128 = 0 := by rw [Int.tmod_eq_emod_of_nonneg (by omega)]; omega
  have hm1 : ((m : Nat) : Int) % 128 = 0 := by omega
  have hm2 : ((m : Nat) : Int).tdiv 128 = (n : Int) := by rw [Int.tdiv_eq_ediv_of_nonneg (by omega)]; omega
  have hm3 : ((m : Nat) : Int) / 128 = (n : Int) := by omega
  rw [hw1] at hf46 hf47
  have HMN := Lib.hid hmn
  have HM := Lib.hid hm
  have HNN := Lib.hid hnn
  clear hmn hm hnn
  refine (callsIn_wide (n := 3)).1 ?_
  refine callsIn_of_wp_marks Try.func16 rfl trivial ?_ rfl
  simp only [Try.ntmps16, List.size_toArray, List.length_cons, List.length_nil, Nat.reduceAdd, Nat.reduceSub, Array.replicate_succ, Array.replicate_zero, List.push_toArray, List.append_toArray, List.nil_append, List.cons_append]
  gi_wp2_with first
    | (refine ⟨trivial, ?_⟩; gi_at_call 46; refine (callsIn_wide.2 hf46).mono ?_; clear hf46; rintro e w' ⟨rfl, rfl⟩)
    | (refine ⟨trivial, ?_⟩; gi_at_call 47; refine (callsIn_wide.2 hf47).mono ?_; clear hf47; rw [← hw1]; rintro e w2 ⟨rfl, h2, u2⟩; have b32 : Boxed w2 _ _ _ := u2.heap b3 (fun x => x (.inr (Nat.le_refl _))); have b42 : Boxed w2 _ _ _ := u2.heap b4 (fun x => x (.inr (Nat.le_succ _))))
    | (refine ⟨trivial, ?_⟩; gi_at_call 48; refine (callsIn_wide.2 (chunk8_any A m c _)).mono ?_; rintro e w' ⟨rfl, rfl⟩)
  obtain ⟨q3, hq3⟩ : ∃ q3, q3 = w.heap.size := ⟨_, rfl⟩
  obtain ⟨B, hB⟩ : ∃ B, B = w2.heap.size := ⟨_, rfl⟩
  obtain ⟨w3, hw3⟩ : ∃ w3, w3 = (w2.alloc (.cells #[.slice A m c] 22)).alloc (.cells #[.int .i64 128] 3) := ⟨_, rfl⟩
  have X3 : Ext w2 w3 := by rw [hw3]; exact ((Ext.refl w2).alloc _).alloc _
  have s3 : w3.heap.size = w2.heap.size + 1 + 1 := by rw [hw3]; simp
  have b5 : Boxed w3 w2.heap.size 22 (.slice A m c) := by rw [hw3]; exact (Boxed.new w2 _ _).alloc _
  have b6 : Boxed w3 (w2.heap.size + 1) 3 (.int .i64 128) := by
    rw [hw3]
    have := Boxed.new (w2.alloc (.cells #[.slice A m c] 22)) 3 (.int .i64 128)
    rw [World.size_alloc] at this
    exact this
  have b33 : Boxed w3 w.heap.size 25 (.pointer (some ⟨p, 0, none⟩)) := X3.heap b32
  have b43 : Boxed w3 (w.heap.size + 1) 3 (.int .i64 (at_ : Int)) := X3.heap b42
  have hx3 : Octs w3 A l := fun hpos => by
    obtain ⟨b, o, e, hc⟩ := (hx.ext X1) hpos
    exact ⟨b, o, e, fun j u hu => X3.cell (u2.cell (hc j u hu) (fun x => x (.inl (hA ⟨b, o, none⟩ e))))⟩
  have h3 := h2.more X3
  have sz2 := u2.size
  obtain ⟨S, M, qv, hd, hk⟩ := h3
  obtain ⟨K2, hK2⟩ : ∃ K2 : Nat → Prop, K2 = fun b => K b ∨ b = w.heap.size ∨ b = w2.heap.size ∨ b = w2.heap.size + 1 := ⟨_, rfl⟩
  have hk2 : ∀ b, dkB p S M qv b → ¬ K2 b ∧ b ≠ w.heap.size + 1 := fun b hb => by
    refine ⟨fun x => ?_, fun e => hk b hb (.inl (.inr (by omega)))⟩
    rw [hK2] at x
    rcases x with x | x | x | x
    · exact hk b hb (.inl (.inl x))
    · exact hk b hb (.inl (.inr (by omega)))
    · exact hk b hb (.inr (by omega))
    · exact hk b hb (.inr (by omega))
  have kK : ∀ b, K b → K2 b := fun b x => by rw [hK2]; exact .inl x
  have k3 : K2 w.heap.size := by rw [hK2]; exact .inr (.inl rfl)
  have k5 : K2 w2.heap.size := by rw [hK2]; exact .inr (.inr (.inl rfl))
  have k6 : K2 (w2.heap.size + 1) := by rw [hK2]; exact .inr (.inr (.inr rfl))
  have K2lt : ∀ b, K2 b → b < w3.heap.size := fun b x => by
    rw [hK2] at x
    rcases x with x | x | x | x
    · have := hKb b x; omega
    · omega
    · omega
    · omega
  have k4 : ¬ K2 (w.heap.size + 1) := fun x => by
    rw [hK2] at x
    rcases x with x | x | x | x
    · have := hKb _ x; omega
    · omega
    · omega
    · omega
  have u13 : Upd (fun b => ¬ K b) w w3 := ((Upd.of_ext _ X1).trans (u2.mono (fun b _ x => fun y => x (.inl y)))).trans (Upd.of_ext _ X3)
  obtain ⟨s1, hs1⟩ : ∃ s1 : Dk, s1 = { s with calls := callTo s.calls } := ⟨_, rfl⟩
  have hsq : s1.queue = s.queue := by rw [hs1]
  have hss : s1.safe = s.safe := by rw [hs1]
  have hsw : s1.writes = s.writes := by rw [hs1]
  have hsW : dkWrite s at_ l = ⟨s1.safe, s1.queue ++ cutSec at_ l n, s1.calls, s1.writes + (n : Int)⟩ := by rw [hs1, dkWrite, hl, HNN.out]
  rw [← hs1] at hd
  have hI0 : WrI K2 w3 p S M (w.heap.size + 1) at_ l s1 [] w3 := ⟨qv, by
    have e1 : s1.queue ++ qOf at_ l 0 [] = s1.queue := List.append_nil _
    have e2 : s1.writes + (([] : List Nat).length : Int) = s1.writes := Int.add_zero _
    rw [e1, e2]; exact hd, hk2, Upd.refl _ _, b43⟩
  have hMlt := hd.lt.2.2.1
  show Code.wpIn Fence.wide 3 Try.prog _ _ _ ((w2.alloc (.cells #[.slice A m c] 22)).alloc (.cells #[.int .i64 128] 3))
  rw [← hw3]
  rw [← hB] at s3 b5 b6 k5 k6 ⊢
  rw [← hq3] at b33 b43 k3 k4 hI0 ⊢
  have hsz3 : B + 1 < w3.heap.size := by omega
  have hq3l : q3 + 1 < w3.heap.size := by omega
  have hqB : q3 + 1 < B := by omega
  clear hw3 hq3 hB hw1 hK2 hk hk2 h1 h2 hd b3 b4 b32 b42 hm0 hm1 hm2 hm3 hth hs1 u2 X1 X3 b43 z1
  obtain ⟨f, hf⟩ : ∃ f : Nat → Nat, f = fun x => if x < n then x else 0 := ⟨_, rfl⟩
  have hf1 : ∀ x, x < n → f x = x := fun x hx => by rw [hf]; exact if_pos hx
  have hf2 : ∀ x, 0 < n → f x < n := fun x h0 => by
    rw [hf]
    show (if x < n then x else 0) < n
    split
    · assumption
    · exact h0
  have hN : (m + 127) / 128 = n := by have := HMN.out; omega
  have hnb : n ≤ 65536 := by omega
  clear hf
  refine wpIn_rangeFunc_ownG rfl (by decide) (gf := 63) (lb := #[.pointer (some ⟨B, 0, none⟩), .pointer (some ⟨B + 1, 0, none⟩)]) rfl trivial (enters_of Try.func63 (by kernel_rfl) rfl)
    (chunk8_stops f (3 - 1) B A m c w3 hsz3 (by have := HMN.out; omega) hc (by decide) (fun x hx => hf1 x (by omega)) b5 b6) kdB_t (kdB_b hsz3) (Below.refl _ _) (fun _ => rfl)
    (fun pre W => WrI K2 w3 p S M (q3 + 1) at_ l s1 (pre.map f) W) (fun _ _ _ => False) (fun pre => wrI_own (Nat.le_refl _) hMlt (pre.map f)) (fun _ _ _ _ _ hs _ _ => hs) hI0
    (fun x => { tmps := #[.pointer (some ⟨p, 0, none⟩), .int .i64 (at_ : Int), .slice A m c, .pointer (some ⟨q3, 0, none⟩), .pointer (some ⟨q3 + 1, 0, none⟩), undef, .int .i64 0, .int .i64 0, dhV A m (f x), undef, .slice A m c, .int .i64 (m : Int), .int .i64 0, .bool false, .pointer (some ⟨p, 0, none⟩), .int .i64 (at_ : Int), .slice A m c, .int .i64 (m : Int), .int .i64 (n : Int), .int .i64 0, .int .i64 0, .bool true, .pointer (some ⟨p, 0, none⟩), .int .i64 0, .int .i64 0, .bool false, undef, .slice A m c, .func (.func 63) #[] #[.pointer (some ⟨B, 0, none⟩), .pointer (some ⟨B + 1, 0, none⟩)], dhV A m (f x), undef, undef, undef, undef, undef, undef, undef, undef, undef, undef, undef, undef, undef, undef, undef, undef, undef, undef, undef, undef, undef, undef, undef, undef, undef, undef, undef, undef, undef, undef, undef], defers := [] }) ?assign ?body ?done ?stop
  case assign =>
    intro k x W Kk hKk
    gi_wp2
    exact hKk
  case body =>
    rintro k pre x W ⟨qv, hd, hk, hu, hb⟩ hlt
    rw [hN] at hlt
    have h0n : 0 < n := by omega
    obtain ⟨y, hy⟩ : ∃ y, y = f x := ⟨_, rfl⟩
    have hyn : y < n := by rw [hy]; exact hf2 x h0n
    rw [← hy]
    obtain ⟨j, hj⟩ : ∃ j, j = pre.length := ⟨_, rfl⟩
    rw [List.length_map, ← hj] at hb
    rw [← hj] at hlt
    obtain ⟨D, hD⟩ : ∃ D, D = (l.drop (128 * y)).take 128 := ⟨_, rfl⟩
    have hD128 : D.length = 128 := by rw [hD, List.length_take, List.length_drop, hl]; have := HMN.out; omega
    have hqo := qOf_snoc at_ l y (pre.map f) 0
    rw [Nat.zero_add, List.length_map, ← hj, ← hD] at hqo
    obtain ⟨Q, hQ⟩ : ∃ Q, Q = s1.queue ++ qOf at_ l 0 (pre.map f) := ⟨_, rfl⟩
    have hQ2 : s1.queue ++ qOf at_ l 0 ((pre ++ [x]).map f) = Q ++ [(at_ + j, D)] := by rw [List.map_append, List.map_cons, List.map_nil, ← hy, hqo, ← List.append_assoc, ← hQ]
    have hQl : Q.length = s1.queue.length + j := by rw [hQ, List.length_append, length_qOf, List.length_map, ← hj]
    rw [List.length_map, ← hj, ← hQ] at hd
    have hjl : (pre ++ [x]).length = j + 1 := by rw [List.length_append, List.length_singleton, ← hj]
    have hxW : Octs W A l := fun hpos => by
      obtain ⟨b, o, e, hc⟩ := hx3 hpos
      exact ⟨b, o, e, fun j u hu2 => hu.cell (hc j u hu2) (fun x => x (kK _ (hA ⟨b, o, none⟩ e)))⟩
    obtain ⟨ab, ao, hAe, _⟩ := hxW (by rw [length_octs, hl]; have := HMN.out; omega)
    have hch := dh_octs hxW y
    rw [← hD] at hch
    have hAy : dhA A y = some ⟨ab, ao + 128 * y, none⟩ := by rw [hAe]; simp [dhA, Addr.add_mid]
    have hNy : dhN m y = 128 := by unfold dhN; have := HMN.out; omega
    have hV : dhV A m y = .slice (some ⟨ab, ao + 128 * y, none⟩) 128 128 := by show Value.slice (dhA A y) (dhN m y) (dhN m y) = _; rw [hAy, hNy]
    rw [hV]
    rw [hAy] at hch
    obtain ⟨ko, hko⟩ : ∃ ko, ko = ao + 128 * y := ⟨_, rfl⟩
    rw [← hko] at hch ⊢
    have hrD : ∀ w', Ext W w' → w'.rangeAt ab ko (octs D) := fun w' x => by
      obtain ⟨b', o', e, hc⟩ := (hch.ext x) (by rw [length_octs, hD128]; decide)
      injection e with e
      injection e with e1 e2
      subst e1; subst e2
      exact fun j v hv => hc j v hv
    have hzw : Try.zeroCells93.size = (wCells (at_ + j, D)).length := by rw [zero_wsize, length_wCells _ hD128]
    have hb3 : Boxed W q3 25 (.pointer (some ⟨p, 0, none⟩)) := hu.heap b33 (fun x => x k3)
    have c3 := hb3.cell
    have c4 := hb.cell
    have hKx := Lib.hid hQ2
    have hjx := Lib.hid hjl
    have hQlx := hQl
    have hatj : at_ + j < 65536 := by omega
    have hqv : ∃ A c, qv = .slice A Q.length c := hd.qform
    have hwra : s1.writes + (j : Int) < 8589934592 ∧ 0 ≤ s1.writes + (j : Int) := by rw [hsw]; omega
    have hQb : Q.length ≤ 4294967295 := by rw [hQl, hsq]; omega
    clear hQ2 hjl hqo hQ hD hy hj hV hAy hNy hAe hko hch hxW hx3 hx hA
    obtain ⟨qA, qc, rfl⟩ := hqv
    gi_wp2
    refine region_inRound (S := fun w' => Ext W w') (by kernel_rfl) (fun ⟨_, _, h⟩ => h) (by kernel_rfl) ((Ext.refl _).drew) (fun hS => ?_)
    refine takeH (i := 0) (v := ?_) rfl rfl (by kernel_rfl) (by kernel_rfl) (by kernel_rfl) (fun _ _ _ h => h) (Or.inl ⟨by kernel_rfl, ?_⟩) hS ?_
    rotate_left 1
    · (intro w' hS'; have k0 := hS'.cell c4; go_simp; try (with_reducible rfl))
    simp only [List.setIfInBounds_toArray, List.set_cons_succ, List.set_cons_zero]
    refine takeH (i := 1) (v := ?_) rfl rfl (by kernel_rfl) (by kernel_rfl) (by kernel_rfl) (fun _ _ _ h => h) (Or.inl ⟨by kernel_rfl, ?_⟩) hS ?_
    rotate_left 1
    · (intro w' hS'; go_simp; try (with_reducible rfl))
    simp only [List.setIfInBounds_toArray, List.set_cons_succ, List.set_cons_zero]
    refine takeH (i := 2) (v := ?_) rfl rfl (by kernel_rfl) (by kernel_rfl) (by kernel_rfl) (fun _ _ _ h => h) (Or.inl ⟨by kernel_rfl, ?_⟩) hS ?_
    rotate_left 1
    · (intro w' hS'; have k2 := run_arrayAt (P := Try.prog) (w := w') 91 5 128 (some ⟨ab, ko, none⟩) 128 128 und_sec (Nat.le_refl _); go_simp; try (with_reducible rfl))
    simp only [List.setIfInBounds_toArray, List.set_cons_succ, List.set_cons_zero]
    refine takeH (i := 3) (v := secV D) rfl rfl (by kernel_rfl) (by kernel_rfl) (by kernel_rfl) (fun _ _ _ h => h) (yieldsIf_load_mid (by kernel_rfl) 91 (.tmp 32) rfl ab ko rfl (octs D) _ hrD und_sec rfl (by rw [size_sec, length_octs, hD128])) hS ?_
    simp only [List.setIfInBounds_toArray, List.set_cons_succ, List.set_cons_zero]
    refine takeH (i := 4) (v := .agg (wCells (at_ + j, D)).toArray) rfl rfl (by kernel_rfl) (by kernel_rfl) (by kernel_rfl) (fun _ _ _ h => h) (yields_build_w (by kernel_rfl) (.tmp 30) (.tmp 33) rfl ((at_ + j : Nat) : Int) D rfl rfl hD128) hS ?_
    simp only [List.setIfInBounds_toArray, List.set_cons_succ, List.set_cons_zero]
    refine wpAnyH_ready (rs := [5]) (by kernel_rfl) (by simp) ?_
    refine AllReadyH.cons rfl (fun K hK => ?_) ?_
    rotate_left 1
    · exact AllReadyH.nil
    go_simp
    refine hK.out _ _ (by first | exact hS | exact hS.alloc _ | exact u5.to_ext hS (fun g e => by rw [e]; exact Nat.le_refl _)) (fun hS => ?_)
    clear hK K
    refine wpAnyH_ready (rs := [6]) (by kernel_rfl) (by simp) ?_
    refine AllReadyH.cons rfl (fun K hK => ?_) ?_
    rotate_left 1
    · exact AllReadyH.nil
    refine step_store_w rfl (.tmp 9) (.tmp 34) rfl W.heap.size 0 rfl (at_ + j, D) rfl hD128 Try.zeroCells93 93 (heap_alloc_new _ _) (by rw [zero_wsize]; decide) ?_; intro w5 e5 u5; rw [putAt_all _ _ hzw] at e5
    try go_simp
    refine hK.out _ _ (by first | exact hS | exact hS.alloc _ | exact u5.to_ext hS (fun g e => by rw [e]; exact Nat.le_refl _)) (fun hS => ?_)
    clear hK K
    refine wpAnyH_done (by kernel_rfl) ?_ _
    have hX5 : Ext W w5 := hS
    have hd5 := hd.ext hS
    have b35 : Boxed w5 q3 _ _ := hS.heap hb3
    have b45 : Boxed w5 (q3 + 1) _ _ := hS.heap hb
    have nF3 : ¬ (q3 = p ∨ (Value.slice qA Q.length qc).ownBlock = some q3) := fun x => (hk q3 (x.elim .inl (fun e => .inr (.inr (.inr e))))).1 k3
    have nF4 : ¬ (q3 + 1 = p ∨ (Value.slice qA Q.length qc).ownBlock = some (q3 + 1)) := fun x => (hk (q3 + 1) (x.elim .inl (fun e => .inr (.inr (.inr e))))).2 rfl
    have nM3 : q3 ≠ M := fun e => (hk q3 (.inr (.inr (.inl e)))).1 k3
    have nM4 : q3 + 1 ≠ M := fun e => (hk (q3 + 1) (.inr (.inr (.inl e)))).2 rfl
    have hWlt := hd.lt
    have nFW : ¬ (W.heap.size = p ∨ (Value.slice qA Q.length qc).ownBlock = some W.heap.size) := fun x => x.elim (fun e => by omega) (fun e => by have := hWlt.2.2.2 _ e; omega)
    have nMW : W.heap.size ≠ M := by omega
    have hr5 : ∀ w', Upd (fun b => b = p ∨ (Value.slice qA Q.length qc).ownBlock = some b) w5 w' → w'.rangeAt W.heap.size 0 (wCells (at_ + j, D)) := fun w' u => range_row (u.heap e5 nFW) 0 _ (by rw [List.drop_zero]; exact List.take_of_length_le (Nat.le_refl _))
    have c2 : w5.cell? ⟨p, 2, none⟩ = some (.slice qA Q.length qc) := hd5.cells.2.2.1
    have d2 : (w5.alloc (.cells (wCells (at_ + j, D)).toArray 93)).cell? ⟨p, 2, none⟩ = some (.slice qA Q.length qc) := (hd5.ext ((Ext.refl _).alloc _)).cells.2.2.1
    have X7 : Ext w5 (w5.alloc (.cells (wCells (at_ + j, D)).toArray 93)).drew := ((Ext.refl w5).alloc _).drew
    have HSS := Lib.hid hss
    have HSW := Lib.hid hsW
    clear hss hsq hsw hQl hQlx hsW
    gi_wp2
    refine region_inRound (S := fun w' => Upd (fun b => b = p ∨ (Value.slice qA Q.length qc).ownBlock = some b) w5 w') (by kernel_rfl) (fun ⟨_, _, h⟩ => h) (by kernel_rfl) ((Upd.refl _ _).drew) (fun hS => ?_)
    refine takeH (i := 0) (v := ?_) rfl rfl (by kernel_rfl) (by kernel_rfl) (by kernel_rfl) (fun _ _ _ h => h) (Or.inl ⟨by kernel_rfl, ?_⟩) hS ?_
    rotate_left 1
    · (intro w' hS'; have k0 : Boxed w' _ _ _ := hS'.heap b35 nF3; have k0 := k0.cell; go_simp; try (with_reducible rfl))
    simp only [List.setIfInBounds_toArray, List.set_cons_succ, List.set_cons_zero]
    refine takeH (i := 1) (v := ?_) rfl rfl (by kernel_rfl) (by kernel_rfl) (by kernel_rfl) (fun _ _ _ h => h) (Or.inl ⟨by kernel_rfl, ?_⟩) hS ?_
    rotate_left 1
    · (intro w' hS'; have k0 : Boxed w' _ _ _ := hS'.heap b35 nF3; have k0 := k0.cell; go_simp; try (with_reducible rfl))
    simp only [List.setIfInBounds_toArray, List.set_cons_succ, List.set_cons_zero]
    refine takeH (i := 2) (v := ?_) rfl rfl (by kernel_rfl) (by kernel_rfl) (by kernel_rfl) (fun _ _ _ h => h) (Or.inl ⟨by kernel_rfl, ?_⟩) hS ?_
    rotate_left 1
    · (intro w' hS'; go_simp; try (with_reducible rfl))
    simp only [List.setIfInBounds_toArray, List.set_cons_succ, List.set_cons_zero]
    refine takeH (i := 3) (v := ?_) rfl rfl (by kernel_rfl) (by kernel_rfl) (by kernel_rfl) (fun _ _ _ h => h) (Or.inl ⟨by kernel_rfl, ?_⟩) hS ?_
    rotate_left 1
    · (intro w' hS'; go_simp; try (with_reducible rfl))
    simp only [List.setIfInBounds_toArray, List.set_cons_succ, List.set_cons_zero]
    refine takeH (i := 5) (v := .agg (wCells (at_ + j, D)).toArray) rfl rfl (by kernel_rfl) (by kernel_rfl) (by kernel_rfl) (fun _ _ _ h => h) (yieldsIf_load_mid (by kernel_rfl) 93 (.tmp 9) rfl W.heap.size 0 rfl (wCells (at_ + j, D)) _ hr5 Try.underlying93 rfl (by rw [size_w, length_wCells _ hD128])) hS ?_
    simp only [List.setIfInBounds_toArray, List.set_cons_succ, List.set_cons_zero]
    refine wpAnyH_ready (rs := [4, 6]) (by kernel_rfl) (by simp) ?_
    refine AllReadyH.cons rfl (fun K hK => ?_) ?_
    · skip
      go_simp
      refine hK.out _ _ (by first | exact hS | exact hS.alloc _ | exact hS7 | exact hS.setCell (p := ⟨p, 2, none⟩) (.inl (.inl rfl)) _) (fun hS => ?_)
      clear hK K
      refine wpAnyH_ready (rs := [6]) (by kernel_rfl) (by simp) ?_
      refine AllReadyH.cons rfl (fun K hK => ?_) ?_
      rotate_left 1
      · exact AllReadyH.nil
      refine step_bslice_w rfl (.tmp 40) rfl (at_ + j, D) rfl hD128 ?_
      try go_simp
      refine hK.out _ _ (by first | exact hS | exact hS.alloc _ | exact hS7 | exact hS.setCell (p := ⟨p, 2, none⟩) (.inl (.inl rfl)) _) (fun hS => ?_)
      clear hK K
      refine wpAnyH_ready (rs := [7]) (by kernel_rfl) (by simp) ?_
      refine AllReadyH.cons rfl (fun K hK => ?_) ?_
      rotate_left 1
      · exact AllReadyH.nil
      refine step_app_w rfl (.tmp 39) (.tmp 41) rfl _ Q.length (qCells Q) rfl (hd5.ext X7).queue _ rfl (at_ + j, D) hD128 (heap_alloc_new _ _) (by omega) ?_; intro V w7 r7 g7 k7; obtain ⟨g', c', rfl⟩ := ownsRow_succ r7; obtain ⟨p7, me8, u8, r8, g8⟩ := hd5.push rfl X7 (at_ + j, D) r7 g7 k7; have c27 : w7.cell? ⟨p, 2, none⟩ = some (.slice qA Q.length qc) := (cell_of_row w7 p _ _ _ _ (p7.trans hd5.me)).trans rfl; have f27 := frozen_of_row w7 p 2 _ _ (p7.trans hd5.me); have hS7 : Upd (fun b => b = p ∨ (Value.slice qA Q.length qc).ownBlock = some b) w5 w7 := (Upd.of_ext _ X7).trans (Upd.grown g7 (fun k e => .inr e))
      try go_simp
      refine hK.out _ _ (by first | exact hS | exact hS.alloc _ | exact hS7 | exact hS.setCell (p := ⟨p, 2, none⟩) (.inl (.inl rfl)) _) (fun hS => ?_)
      clear hK K
      refine takeH (i := 8) (v := ?_) rfl rfl (by kernel_rfl) (by kernel_rfl) (by kernel_rfl) (fun _ _ _ h => h) (Or.inl ⟨by kernel_rfl, ?_⟩) hS ?_
      rotate_left 1
      · (intro w' hS'; go_simp; try (with_reducible rfl))
      simp only [List.setIfInBounds_toArray, List.set_cons_succ, List.set_cons_zero]
      refine takeH (i := 9) (v := ?_) rfl rfl (by kernel_rfl) (by kernel_rfl) (by kernel_rfl) (fun _ _ _ h => h) (Or.inl ⟨by kernel_rfl, ?_⟩) hS ?_
      rotate_left 1
      · (intro w' hS'; go_simp; try (with_reducible rfl))
      simp only [List.setIfInBounds_toArray, List.set_cons_succ, List.set_cons_zero]
      refine wpAnyH_ready (rs := [10]) (by kernel_rfl) (by simp) ?_
      refine AllReadyH.cons rfl (fun K hK => ?_) ?_
      rotate_left 1
      · exact AllReadyH.nil
      go_simp
      refine hK.out _ _ (by first | exact hS | exact hS.alloc _ | exact hS7 | exact hS.setCell (p := ⟨p, 2, none⟩) (.inl (.inl rfl)) _) (fun hS => ?_)
      clear hK K
      refine wpAnyH_done (by kernel_rfl) ?_ _
      obtain ⟨w8, hw8⟩ : ∃ w8, w8 = w7.setCell ⟨p, 2, none⟩ (.slice (some ⟨g', 0, none⟩) (Q.length + 1) c') := ⟨_, rfl⟩
      rw [← hw8] at me8 u8 r8 ⊢
      have b38 : Boxed w8 _ _ _ := u8.heap b35 nF3
      have b48 : Boxed w8 _ _ _ := u8.heap b45 nF4
      have c1 : w8.cell? ⟨p, 1, none⟩ = some (.map (some M)) := by rw [cell_of_row w8 p _ _ _ _ me8]; rfl
      have hs8 : Seen w8 M Q := hd5.seen.upd u8 (fun x => x.elim (fun e => hd5.pM e.symm) (fun e => (hd5.row e).2.2 rfl))
      have hr6 : ∀ w', Upd (fun b => b = M) w8 w' → w'.rangeAt W.heap.size 1 (octs D) := fun w' u => range_row (u.heap (u8.heap e5 nFW) nMW) 1 (octs D) (by show (octs D).take (octs D).length = octs D; exact List.take_length)
      clear c2 d2 hS
      gi_wp2
      rw [← hw8]
      refine region_inRound (S := fun w' => Upd (fun b => b = M) w8 w') (by kernel_rfl) (fun ⟨_, _, h⟩ => h) (by kernel_rfl) ((Upd.refl _ _).drew) (fun hS => ?_)
      refine takeH (i := 0) (v := ?_) rfl rfl (by kernel_rfl) (by kernel_rfl) (by kernel_rfl) (fun _ _ _ h => h) (Or.inl ⟨by kernel_rfl, ?_⟩) hS ?_
      rotate_left 1
      · (intro w' hS'; have k0 : Boxed w' _ _ _ := hS'.heap b38 nM3; have k0 := k0.cell; go_simp; try (with_reducible rfl))
      simp only [List.setIfInBounds_toArray, List.set_cons_succ, List.set_cons_zero]
      refine takeH (i := 1) (v := ?_) rfl rfl (by kernel_rfl) (by kernel_rfl) (by kernel_rfl) (fun _ _ _ h => h) (Or.inl ⟨by kernel_rfl, ?_⟩) hS ?_
      rotate_left 1
      · (intro w' hS'; go_simp; try (with_reducible rfl))
      simp only [List.setIfInBounds_toArray, List.set_cons_succ, List.set_cons_zero]
      refine takeH (i := 2) (v := ?_) rfl rfl (by kernel_rfl) (by kernel_rfl) (by kernel_rfl) (fun _ _ _ h => h) (Or.inl ⟨by kernel_rfl, ?_⟩) hS ?_
      rotate_left 1
      · (intro w' hS'; go_simp; try (with_reducible rfl))
      simp only [List.setIfInBounds_toArray, List.set_cons_succ, List.set_cons_zero]
      refine takeH (i := 3) (v := ?_) rfl rfl (by kernel_rfl) (by kernel_rfl) (by kernel_rfl) (fun _ _ _ h => h) (Or.inl ⟨by kernel_rfl, ?_⟩) hS ?_
      rotate_left 1
      · (intro w' hS'; have k3 := hS'.cell c1 hd5.pM; go_simp; try (with_reducible rfl))
      simp only [List.setIfInBounds_toArray, List.set_cons_succ, List.set_cons_zero]
      refine takeH (i := 4) (v := ?_) rfl rfl (by kernel_rfl) (by kernel_rfl) (by kernel_rfl) (fun _ _ _ h => h) (Or.inl ⟨by kernel_rfl, ?_⟩) hS ?_
      rotate_left 1
      · (intro w' hS'; have k4 : Boxed w' _ _ _ := hS'.heap b48 nM4; have k4 := k4.cell; go_simp; try (with_reducible rfl))
      simp only [List.setIfInBounds_toArray, List.set_cons_succ, List.set_cons_zero]
      refine takeH (i := 5) (v := ?_) rfl rfl (by kernel_rfl) (by kernel_rfl) (by kernel_rfl) (fun _ _ _ h => h) (Or.inl ⟨by kernel_rfl, ?_⟩) hS ?_
      rotate_left 1
      · (intro w' hS'; go_simp; try (with_reducible rfl))
      simp only [List.setIfInBounds_toArray, List.set_cons_succ, List.set_cons_zero]
      refine takeH (i := 6) (v := secV D) rfl rfl (by kernel_rfl) (by kernel_rfl) (by kernel_rfl) (fun _ _ _ h => h) (yieldsIf_load_mid (by kernel_rfl) 91 (.tmp 50) rfl W.heap.size 1 rfl (octs D) _ hr6 und_sec rfl (by rw [size_sec, length_octs, hD128])) hS ?_
      simp only [List.setIfInBounds_toArray, List.set_cons_succ, List.set_cons_zero]
      refine wpAnyH_ready (rs := [7]) (by kernel_rfl) (by simp) ?_
      refine AllReadyH.cons rfl (fun K hK => ?_) ?_
      rotate_left 1
      · exact AllReadyH.nil
      refine step_put_sec rfl (.tmp 48) (.tmp 49) (.tmp 51) rfl M (at_ + j) Q D rfl rfl rfl (hs8.kept rfl) (by omega) (by simp only [maxLen]; omega) ?_; intro w9 m9 u9
      try go_simp
      refine hK.out _ _ (by first | exact hS.trans u9 | exact hS) (fun hS => ?_)
      clear hK K
      refine wpAnyH_done (by kernel_rfl) ?_ _
      have hd9 := hd5.pushed (at_ + j, D) ⟨by show at_ + j < s1.safe.length; rw [HSS.out]; omega, hD128⟩ me8 u8 r8 g8 m9 hS
      have b39 : Boxed w9 _ _ _ := hS.heap b38 nM3
      have b49 : Boxed w9 _ _ _ := hS.heap b48 nM4
      have c39 := b39.cell
      have c49 := b49.cell
      have cf49 := b49.frozen
      have c9 : w9.cell? ⟨p, 4, none⟩ = some (.int .i64 (s1.writes + (j : Int))) := hd9.cells.2.2.2.2.1
      have cf9 : w9.frozen? ⟨p, 4, none⟩ = false := hd9.cells.2.2.2.2.2 4
      gi_wp2
      obtain ⟨V, hV⟩ : ∃ V, V = Value.slice (some ⟨g', 0, none⟩) (Q.length + 1) c' := ⟨_, rfl⟩
      rw [← hV] at hd9 g8
      clear hV hw8
      have uW : Upd (fun b => dkB p S M (Value.slice qA Q.length qc) b ∨ b = q3 + 1) W w9 := ((Upd.of_ext _ hX5).trans (u8.mono (fun b _ e => .inl (e.elim .inl (fun e => .inr (.inr (.inr e))))))).trans (hS.mono (fun b _ e => .inl (.inr (.inr (.inl e)))))
      have ua := (uW.setCell (p := ⟨p, 4, none⟩) (.inl (.inl (.inl rfl))) (.int .i64 (s1.writes + (j : Int) + 1)))
      have uf := ua.setCell (p := ⟨q3 + 1, 0, none⟩) (.inl (.inr rfl)) (.int .i64 ((at_ : Int) + (j : Int) + 1))
      have hda := hd9.setWrites (s1.writes + (j : Int) + 1)
      have b4a : Boxed (w9.setCell ⟨p, 4, none⟩ (.int .i64 (s1.writes + (j : Int) + 1))) (q3 + 1) _ _ := Upd.heap ((Upd.refl (fun b => b = p) w9).setCell (p := ⟨p, 4, none⟩) (.inl rfl) (.int .i64 (s1.writes + (j : Int) + 1))) b49 (fun e => nF4 (.inl e))
      have hba := b4a.set (.int .i64 ((at_ : Int) + (j : Int) + 1))
      have ub : Upd (fun b => b = q3 + 1) (w9.setCell ⟨p, 4, none⟩ (.int .i64 (s1.writes + (j : Int) + 1))) ((w9.setCell ⟨p, 4, none⟩ (.int .i64 (s1.writes + (j : Int) + 1))).setCell ⟨q3 + 1, 0, none⟩ (.int .i64 ((at_ : Int) + (j : Int) + 1))) := (Upd.refl (fun b => b = q3 + 1) _).setCell (.inl rfl) _
      have szW := hu.size
      have sz5 := hX5.size
      have hVb : ∀ b, V.ownBlock = some b → ¬ K2 b ∧ b ≠ q3 + 1 := fun b e => by
        rcases g8 b e with e | e
        · exact hk b (.inr (.inr (.inr e)))
        · exact ⟨fun x => by have := K2lt b x; omega, by omega⟩
      have hkf : ∀ b, dkB p S M V b → ¬ K2 b ∧ b ≠ q3 + 1 := fun b e => by
        rcases e with e | e | e | e
        · exact hk b (.inl e)
        · exact hk b (.inr (.inl e))
        · exact hk b (.inr (.inr (.inl e)))
        · exact hVb b e
      have hdf := hda.keep (ub.block p hda.lt.1 (hkf p (.inl rfl)).2) (ub.block S hda.lt.2.1 (hkf S (.inr (.inl rfl))).2) (ub.block M hda.lt.2.2.1 (hkf M (.inr (.inr (.inl rfl)))).2) (fun g e => ub.block g (hda.lt.2.2.2 g e) (hVb g e).2)
      have nB : ∀ b, K2 b → ¬ (dkB p S M (Value.slice qA Q.length qc) b ∨ b = q3 + 1) := fun b x e => e.elim (fun e => (hk b e).1 x) (fun e => k4 (e ▸ x))
      have huf := hu.trans (uf.mono (fun b _ e x => nB b x e))
      have hlen : ((pre ++ [x]).map f).length = j + 1 := by rw [List.length_map, hjx.out]
      refine ⟨wr_keeps hd hb (by omega) uf, ⟨uf.block B (by omega) (nB _ k5), uf.block (B + 1) (by omega) (nB _ k6)⟩, V, ?_, hkf, huf, ?_⟩
      · rw [hKx.out, hlen, show s1.writes + ((j + 1 : Nat) : Int) = s1.writes + (j : Int) + 1 by omega]
        exact hdf
      · rw [hlen, show ((at_ + (j + 1) : Nat) : Int) = (at_ : Int) + (j : Int) + 1 by omega]
        exact hba
    refine AllReadyH.cons rfl (fun K hK => ?_) ?_
    · skip
      refine step_bslice_w rfl (.tmp 40) rfl (at_ + j, D) rfl hD128 ?_
      try go_simp
      refine hK.out _ _ (by first | exact hS | exact hS.alloc _ | exact hS7 | exact hS.setCell (p := ⟨p, 2, none⟩) (.inl (.inl rfl)) _) (fun hS => ?_)
      clear hK K
      refine wpAnyH_ready (rs := [4]) (by kernel_rfl) (by simp) ?_
      refine AllReadyH.cons rfl (fun K hK => ?_) ?_
      rotate_left 1
      · exact AllReadyH.nil
      go_simp
      refine hK.out _ _ (by first | exact hS | exact hS.alloc _ | exact hS7 | exact hS.setCell (p := ⟨p, 2, none⟩) (.inl (.inl rfl)) _) (fun hS => ?_)
      clear hK K
      refine wpAnyH_ready (rs := [7]) (by kernel_rfl) (by simp) ?_
      refine AllReadyH.cons rfl (fun K hK => ?_) ?_
      rotate_left 1
      · exact AllReadyH.nil
      refine step_app_w rfl (.tmp 39) (.tmp 41) rfl _ Q.length (qCells Q) rfl (hd5.ext X7).queue _ rfl (at_ + j, D) hD128 (heap_alloc_new _ _) (by omega) ?_; intro V w7 r7 g7 k7; obtain ⟨g', c', rfl⟩ := ownsRow_succ r7; obtain ⟨p7, me8, u8, r8, g8⟩ := hd5.push rfl X7 (at_ + j, D) r7 g7 k7; have c27 : w7.cell? ⟨p, 2, none⟩ = some (.slice qA Q.length qc) := (cell_of_row w7 p _ _ _ _ (p7.trans hd5.me)).trans rfl; have f27 := frozen_of_row w7 p 2 _ _ (p7.trans hd5.me); have hS7 : Upd (fun b => b = p ∨ (Value.slice qA Q.length qc).ownBlock = some b) w5 w7 := (Upd.of_ext _ X7).trans (Upd.grown g7 (fun k e => .inr e))
      try go_simp
      refine hK.out _ _ (by first | exact hS | exact hS.alloc _ | exact hS7 | exact hS.setCell (p := ⟨p, 2, none⟩) (.inl (.inl rfl)) _) (fun hS => ?_)
      clear hK K
      refine takeH (i := 8) (v := ?_) rfl rfl (by kernel_rfl) (by kernel_rfl) (by kernel_rfl) (fun _ _ _ h => h) (Or.inl ⟨by kernel_rfl, ?_⟩) hS ?_
      rotate_left 1
      · (intro w' hS'; go_simp; try (with_reducible rfl))
      simp only [List.setIfInBounds_toArray, List.set_cons_succ, List.set_cons_zero]
      refine takeH (i := 9) (v := ?_) rfl rfl (by kernel_rfl) (by kernel_rfl) (by kernel_rfl) (fun _ _ _ h => h) (Or.inl ⟨by kernel_rfl, ?_⟩) hS ?_
      rotate_left 1
      · (intro w' hS'; go_simp; try (with_reducible rfl))
      simp only [List.setIfInBounds_toArray, List.set_cons_succ, List.set_cons_zero]
      refine wpAnyH_ready (rs := [10]) (by kernel_rfl) (by simp) ?_
      refine AllReadyH.cons rfl (fun K hK => ?_) ?_
      rotate_left 1
      · exact AllReadyH.nil
      go_simp
      refine hK.out _ _ (by first | exact hS | exact hS.alloc _ | exact hS7 | exact hS.setCell (p := ⟨p, 2, none⟩) (.inl (.inl rfl)) _) (fun hS => ?_)
      clear hK K
      refine wpAnyH_done (by kernel_rfl) ?_ _
      obtain ⟨w8, hw8⟩ : ∃ w8, w8 = w7.setCell ⟨p, 2, none⟩ (.slice (some ⟨g', 0, none⟩) (Q.length + 1) c') := ⟨_, rfl⟩
      rw [← hw8] at me8 u8 r8 ⊢
      have b38 : Boxed w8 _ _ _ := u8.heap b35 nF3
      have b48 : Boxed w8 _ _ _ := u8.heap b45 nF4
      have c1 : w8.cell? ⟨p, 1, none⟩ = some (.map (some M)) := by rw [cell_of_row w8 p _ _ _ _ me8]; rfl
      have hs8 : Seen w8 M Q := hd5.seen.upd u8 (fun x => x.elim (fun e => hd5.pM e.symm) (fun e => (hd5.row e).2.2 rfl))
      have hr6 : ∀ w', Upd (fun b => b = M) w8 w' → w'.rangeAt W.heap.size 1 (octs D) := fun w' u => range_row (u.heap (u8.heap e5 nFW) nMW) 1 (octs D) (by show (octs D).take (octs D).length = octs D; exact List.take_length)
      clear c2 d2 hS
      gi_wp2
      rw [← hw8]
      refine region_inRound (S := fun w' => Upd (fun b => b = M) w8 w') (by kernel_rfl) (fun ⟨_, _, h⟩ => h) (by kernel_rfl) ((Upd.refl _ _).drew) (fun hS => ?_)
      refine takeH (i := 0) (v := ?_) rfl rfl (by kernel_rfl) (by kernel_rfl) (by kernel_rfl) (fun _ _ _ h => h) (Or.inl ⟨by kernel_rfl, ?_⟩) hS ?_
      rotate_left 1
      · (intro w' hS'; have k0 : Boxed w' _ _ _ := hS'.heap b38 nM3; have k0 := k0.cell; go_simp; try (with_reducible rfl))
      simp only [List.setIfInBounds_toArray, List.set_cons_succ, List.set_cons_zero]
      refine takeH (i := 1) (v := ?_) rfl rfl (by kernel_rfl) (by kernel_rfl) (by kernel_rfl) (fun _ _ _ h => h) (Or.inl ⟨by kernel_rfl, ?_⟩) hS ?_
      rotate_left 1
      · (intro w' hS'; go_simp; try (with_reducible rfl))
      simp only [List.setIfInBounds_toArray, List.set_cons_succ, List.set_cons_zero]
      refine takeH (i := 2) (v := ?_) rfl rfl (by kernel_rfl) (by kernel_rfl) (by kernel_rfl) (fun _ _ _ h => h) (Or.inl ⟨by kernel_rfl, ?_⟩) hS ?_
      rotate_left 1
      · (intro w' hS'; go_simp; try (with_reducible rfl))
      simp only [List.setIfInBounds_toArray, List.set_cons_succ, List.set_cons_zero]
      refine takeH (i := 3) (v := ?_) rfl rfl (by kernel_rfl) (by kernel_rfl) (by kernel_rfl) (fun _ _ _ h => h) (Or.inl ⟨by kernel_rfl, ?_⟩) hS ?_
      rotate_left 1
      · (intro w' hS'; have k3 := hS'.cell c1 hd5.pM; go_simp; try (with_reducible rfl))
      simp only [List.setIfInBounds_toArray, List.set_cons_succ, List.set_cons_zero]
      refine takeH (i := 4) (v := ?_) rfl rfl (by kernel_rfl) (by kernel_rfl) (by kernel_rfl) (fun _ _ _ h => h) (Or.inl ⟨by kernel_rfl, ?_⟩) hS ?_
      rotate_left 1
      · (intro w' hS'; have k4 : Boxed w' _ _ _ := hS'.heap b48 nM4; have k4 := k4.cell; go_simp; try (with_reducible rfl))
      simp only [List.setIfInBounds_toArray, List.set_cons_succ, List.set_cons_zero]
      refine takeH (i := 5) (v := ?_) rfl rfl (by kernel_rfl) (by kernel_rfl) (by kernel_rfl) (fun _ _ _ h => h) (Or.inl ⟨by kernel_rfl, ?_⟩) hS ?_
      rotate_left 1
      · (intro w' hS'; go_simp; try (with_reducible rfl))
      simp only [List.setIfInBounds_toArray, List.set_cons_succ, List.set_cons_zero]
      refine takeH (i := 6) (v := secV D) rfl rfl (by kernel_rfl) (by kernel_rfl) (by kernel_rfl) (fun _ _ _ h => h) (yieldsIf_load_mid (by kernel_rfl) 91 (.tmp 50) rfl W.heap.size 1 rfl (octs D) _ hr6 und_sec rfl (by rw [size_sec, length_octs, hD128])) hS ?_
      simp only [List.setIfInBounds_toArray, List.set_cons_succ, List.set_cons_zero]
      refine wpAnyH_ready (rs := [7]) (by kernel_rfl) (by simp) ?_
      refine AllReadyH.cons rfl (fun K hK => ?_) ?_
      rotate_left 1
      · exact AllReadyH.nil
      refine step_put_sec rfl (.tmp 48) (.tmp 49) (.tmp 51) rfl M (at_ + j) Q D rfl rfl rfl (hs8.kept rfl) (by omega) (by simp only [maxLen]; omega) ?_; intro w9 m9 u9
      try go_simp
      refine hK.out _ _ (by first | exact hS.trans u9 | exact hS) (fun hS => ?_)
      clear hK K
      refine wpAnyH_done (by kernel_rfl) ?_ _
      have hd9 := hd5.pushed (at_ + j, D) ⟨by show at_ + j < s1.safe.length; rw [HSS.out]; omega, hD128⟩ me8 u8 r8 g8 m9 hS
      have b39 : Boxed w9 _ _ _ := hS.heap b38 nM3
      have b49 : Boxed w9 _ _ _ := hS.heap b48 nM4
      have c39 := b39.cell
      have c49 := b49.cell
      have cf49 := b49.frozen
      have c9 : w9.cell? ⟨p, 4, none⟩ = some (.int .i64 (s1.writes + (j : Int))) := hd9.cells.2.2.2.2.1
      have cf9 : w9.frozen? ⟨p, 4, none⟩ = false := hd9.cells.2.2.2.2.2 4
      gi_wp2
      obtain ⟨V, hV⟩ : ∃ V, V = Value.slice (some ⟨g', 0, none⟩) (Q.length + 1) c' := ⟨_, rfl⟩
      rw [← hV] at hd9 g8
      clear hV hw8
      have uW : Upd (fun b => dkB p S M (Value.slice qA Q.length qc) b ∨ b = q3 + 1) W w9 := ((Upd.of_ext _ hX5).trans (u8.mono (fun b _ e => .inl (e.elim .inl (fun e => .inr (.inr (.inr e))))))).trans (hS.mono (fun b _ e => .inl (.inr (.inr (.inl e)))))
      have ua := (uW.setCell (p := ⟨p, 4, none⟩) (.inl (.inl (.inl rfl))) (.int .i64 (s1.writes + (j : Int) + 1)))
      have uf := ua.setCell (p := ⟨q3 + 1, 0, none⟩) (.inl (.inr rfl)) (.int .i64 ((at_ : Int) + (j : Int) + 1))
      have hda := hd9.setWrites (s1.writes + (j : Int) + 1)
      have b4a : Boxed (w9.setCell ⟨p, 4, none⟩ (.int .i64 (s1.writes + (j : Int) + 1))) (q3 + 1) _ _ := Upd.heap ((Upd.refl (fun b => b = p) w9).setCell (p := ⟨p, 4, none⟩) (.inl rfl) (.int .i64 (s1.writes + (j : Int) + 1))) b49 (fun e => nF4 (.inl e))
      have hba := b4a.set (.int .i64 ((at_ : Int) + (j : Int) + 1))
      have ub : Upd (fun b => b = q3 + 1) (w9.setCell ⟨p, 4, none⟩ (.int .i64 (s1.writes + (j : Int) + 1))) ((w9.setCell ⟨p, 4, none⟩ (.int .i64 (s1.writes + (j : Int) + 1))).setCell ⟨q3 + 1, 0, none⟩ (.int .i64 ((at_ : Int) + (j : Int) + 1))) := (Upd.refl (fun b => b = q3 + 1) _).setCell (.inl rfl) _
      have szW := hu.size
      have sz5 := hX5.size
      have hVb : ∀ b, V.ownBlock = some b → ¬ K2 b ∧ b ≠ q3 + 1 := fun b e => by
        rcases g8 b e with e | e
        · exact hk b (.inr (.inr (.inr e)))
        · exact ⟨fun x => by have := K2lt b x; omega, by omega⟩
      have hkf : ∀ b, dkB p S M V b → ¬ K2 b ∧ b ≠ q3 + 1 := fun b e => by
        rcases e with e | e | e | e
        · exact hk b (.inl e)
        · exact hk b (.inr (.inl e))
        · exact hk b (.inr (.inr (.inl e)))
        · exact hVb b e
      have hdf := hda.keep (ub.block p hda.lt.1 (hkf p (.inl rfl)).2) (ub.block S hda.lt.2.1 (hkf S (.inr (.inl rfl))).2) (ub.block M hda.lt.2.2.1 (hkf M (.inr (.inr (.inl rfl)))).2) (fun g e => ub.block g (hda.lt.2.2.2 g e) (hVb g e).2)
      have nB : ∀ b, K2 b → ¬ (dkB p S M (Value.slice qA Q.length qc) b ∨ b = q3 + 1) := fun b x e => e.elim (fun e => (hk b e).1 x) (fun e => k4 (e ▸ x))
      have huf := hu.trans (uf.mono (fun b _ e x => nB b x e))
      have hlen : ((pre ++ [x]).map f).length = j + 1 := by rw [List.length_map, hjx.out]
      refine ⟨wr_keeps hd hb (by omega) uf, ⟨uf.block B (by omega) (nB _ k5), uf.block (B + 1) (by omega) (nB _ k6)⟩, V, ?_, hkf, huf, ?_⟩
      · rw [hKx.out, hlen, show s1.writes + ((j + 1 : Nat) : Int) = s1.writes + (j : Int) + 1 by omega]
        exact hdf
      · rw [hlen, show ((at_ + (j + 1) : Nat) : Int) = (at_ : Int) + (j : Int) + 1 by omega]
        exact hba
    exact AllReadyH.nil
  case done =>
    rintro D ys W hD rfl hI hK
    have hmap : (List.range ((m + 127) / 128)).map f = List.range n := by rw [hN]; exact (List.map_congr_left (fun x hx => hf1 x (List.mem_range.1 hx))).trans (List.map_id _)
    rw [hmap] at hI
    have hI2 := (wrI_own (K := K2) (p := p) (S := S) (at_ := at_) (b4 := q3 + 1) (l := l) (s := s1) (Nat.le_refl w3.heap.size) hMlt) _ W (W.putObj D (.deferred none)) (some D) hI (grownBy_putObj' W D (.deferred none)) (fun r e => by cases e; exact ⟨by omega, _, hK, rfl⟩)
    have hsW2 := hsW
    clear hI hsW hsq hss hsw
    gi_wp2
    obtain ⟨qv2, hd2, hk2, hu2, _⟩ := hI2
    refine ⟨by simp, .inl ⟨_, _, rfl, run_takeDeferred hK, ?_⟩⟩
    refine ⟨_, results_tmp rfl _ _ _, rfl, ⟨S, M, qv2, ?_, fun b e x => (hk2 b e).1 (kK b x)⟩, u13.trans (hu2.mono (fun b _ x y => x (kK b y)))⟩
    rw [hsW2]
    rw [qOf_range, List.length_range] at hd2
    exact hd2
  case stop =>
    rintro D k pre W _ _ h _
    exact h.elim
end Go.Proofs.Ytgpnmmgoachajaa
