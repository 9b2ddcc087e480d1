/- The walk of JournalElder. -/
import Derived.Test.YtgpnmmgoachajaaJl
namespace Go.Proofs.Ytgpnmmgoachajaa
open Go.RowKit Go.Shelf
open Go.Proofs

set_option maxRecDepth 100000 in
set_option maxHeartbeats 8000000 in
theorem f11_any (x z : Int) (A : Option Addr) (ls : List Nat) (n c : Nat) (w : World) (hl : ls.length = n) (hn : n ≤ 9223372036854775807) (hx : Cells w A (u16s ls)) (hls : ∀ x ∈ ls, x < 65536) :
    Calls Try.prog 11 #[.int .i64 x, .int .i64 z, .slice A n c] w fun e w' => e = .returned (.bool true) ∧ Ext w w' := by
  by_cases gn : 20 < n
  · have G : ((20 : Int) < (n : Int)) = True := eq_true (by omega)
    clear hx hls
    go_enter Try.func11, Try.ntmps11
    go_wp2_with first
      | (go_at_call 34; refine (aw07_any w1).mono ?_; rintro e w2 ⟨rfl, x2⟩)
      | (go_at_call 34; refine (aw07_any _).mono ?_; rintro e w1 ⟨rfl, x1⟩)
    go_ret
    exact ⟨rfl, x1.trans x2⟩
  have G : ((20 : Int) < (n : Int)) = False := eq_false (by omega)
  obtain ⟨t, r, e1, e2, e3, e4, e5, hr⟩ := round_mod x 20 (by omega)
  rw [show ((20 : Nat) : Int) = 20 from rfl] at e1 e2 e3 e4 e5
  have hw1 : IntKind.i64.wrap (t + 20) = t + 20 := IntWalk.i64_in _ (by omega)
  obtain ⟨k, hk⟩ : ∃ k, k = r + 8 := ⟨_, rfl⟩
  have a1 : 8 + (r : Int) = (k : Int) := by omega
  have b1 : IntKind.i64.wrap (k : Int) = (k : Int) := IntWalk.i64_in _ (by omega)
  have hk4 : 8 ≤ k ∧ k ≤ 27 := by omega
  obtain ⟨t2, st, i1, i2, i3, i4, i5, hst⟩ := round_mod z k (by omega)
  have hw2 : IntKind.i64.wrap (t2 + (k : Int)) = t2 + (k : Int) := IntWalk.i64_in _ (by omega)
  have k0 : ¬ ((k : Int) = 0) := by omega
  have k0' : ¬ (k = 0) := by omega
  have hf15 : ∀ W, Calls Try.prog 15 #[.int .i64 (k : Int)] W fun e w' => ∃ p, e = .returned (.tuple #[.pointer (some ⟨p, 0, none⟩), .int .i64 0]) ∧ Disk (fun b => b < W.heap.size) w' p (dkNew k) ∧ Ext W w' := fun W => dk15_good k W (by omega) (by omega)
  have hnw : ∀ p (K : Nat → Prop) W, Disk K W p (dkNew k) → Calls Try.prog 35 #[.pointer (some ⟨p, 0, none⟩), .int .i64 0, .int .i64 (k : Int), .int .i64 5, .int .i64 (st : Int)] W fun e w' => e = .returned (.tuple #[.pointer (some ⟨W.heap.size, 0, none⟩), .int .i64 0]) ∧ JnAt w' W.heap.size p (jNew 0 k 5 st) ∧ Ext W w' := fun p K W h => jnew_good h 0 k 5 st (by omega) (by omega) (by show 0 + k ≤ (List.replicate k _).length; rw [List.length_replicate]; omega) (by omega) (by omega) hst
  have g0 := jrun_new k 0 k 5 st (by omega) (by omega) hst (by omega)
  have ep0 : (jNew 0 k 5 st).epoch = 5 := rfl
  generalize hj0 : jNew 0 k 5 st = j0 at *
  generalize hs0 : dkNew k = s0 at *
  clear hk hj0 hs0
  go_enter Try.func11, Try.ntmps11
  go_wp2_with first
    | (go_at_call 34; refine (aw07_any _).mono ?_; rintro e w0 ⟨rfl, x0⟩)
    | (go_at_call 15; refine (hf15 w0).mono ?_; clear hf15; rintro e w1 ⟨p, rfl, h1, x1⟩; have hnw := hnw p _ w1 h1)
    | (go_at_call 35; refine hnw.mono ?_; clear hnw; rintro e w2 ⟨rfl, hy, x2⟩)
  clear e1 e2 e3 e4 e5 hw1 i1 i2 i3 i4 i5 hw2
  obtain ⟨K, hK⟩ : ∃ K : Nat → Prop, K = fun b => b < w0.heap.size ∨ (w1.heap.size ≤ b ∧ b < w2.heap.size) := ⟨_, rfl⟩
  have h2 : Disk K w2 p s0 := by rw [hK]; exact h1.grow x2
  have ky : K w1.heap.size := by rw [hK]; exact .inr ⟨Nat.le_refl _, hy.lt⟩
  have z0 := x0.size
  have z1 := x1.size
  have z2 := x2.size
  have hKb : ∀ b, K b → b < w2.heap.size := fun b e => by rw [hK] at e; rcases e with e | e <;> omega
  have hKn : ∀ b, ¬ K b ∨ b = w1.heap.size → w.heap.size ≤ b := fun b e => by rw [hK] at e; omega
  have X2 := (x0.trans x1).trans x2
  have hx2 := hx.ext X2
  have hKx : ∀ W, Upd (fun b => ¬ K b ∨ b = w1.heap.size) w2 W → Cells W A (u16s ls) := fun W u h0 => by
    obtain ⟨b, o, e, hc⟩ := hx h0
    have hb : b < w.heap.size := block_lt_of_cell (hc 0 _ (List.getElem?_eq_getElem h0))
    refine ⟨b, o, e, fun j v hv => u.cell (X2.cell (hc j v hv)) (fun z => ?_)⟩
    have : w.heap.size ≤ b := hKn b z
    omega
  clear hK hx hx2 h1
  generalize w1.heap.size = y at *
  go_loopw [12] (fun i wr => ∃ (t : Nat) (s : Dk) (j : Jn) (Ps : List (List UInt8)), t ≤ n ∧ i = .int .i64 (t : Int) ∧ Disk K wr p s ∧ JnAt wr y p j ∧ JRun s j k 0 k t st Ps ∧ j.epoch = 5 ∧ Upd (fun b => ¬ K b ∨ b = y) w2 wr) (fun i _ => n - (intOf i).toNat)
  case atStart => exact ⟨0, s0, j0, [], Nat.zero_le _, rfl, h2, hy, g0, ep0, Upd.refl _ _⟩
  case round =>
    clear g0 ep0 h2 hy
    obtain ⟨t, s, j, Ps, ht, rfl, hd, hj, gj, ep, hu⟩ := hrel
    by_cases hlt : t < n
    · obtain ⟨b, o, rfl, hcell⟩ := hKx wr hu (by rw [length_u16s]; omega)
      obtain ⟨v, hv⟩ : ∃ v, v = ls[t]'(by omega) := ⟨_, rfl⟩
      have hv16 : v < 65536 := by rw [hv]; exact hls _ (List.getElem_mem _)
      have cv : wr.cell? ⟨b, o + t, none⟩ = some (.int .u16 (v : Int)) := hcell t _ (by simp [u16s, hv, List.getElem?_eq_getElem (show t < ls.length by omega)])
      have wv : IntKind.i64.wrap (v : Int) = (v : Int) := IntWalk.i64_in _ (by omega)
      obtain ⟨m0, hm0⟩ : ∃ m0, m0 = v % 400 := ⟨_, rfl⟩
      have tm : (v : Int).tmod 400 = (m0 : Int) := by rw [Int.tmod_eq_emod_of_nonneg (by omega)]; omega
      have tm2 : (v : Int) % 400 = (m0 : Int) := by omega
      have wm0 : IntKind.i64.wrap (m0 : Int) = (m0 : Int) := IntWalk.i64_in _ (by omega)
      obtain ⟨m, hm⟩ : ∃ m, m = 1 + m0 := ⟨_, rfl⟩
      have tm3 : 1 + (m0 : Int) = (m : Int) := by omega
      have wm : IntKind.i64.wrap (m : Int) = (m : Int) := IntWalk.i64_in _ (by omega)
      obtain ⟨l, hl0⟩ : ∃ l, l = List.replicate m (0 : UInt8) := ⟨_, rfl⟩
      have ll : l.length = m := by rw [hl0, List.length_replicate]
      have mk := fun W => make_zero m (by omega) W
      have mo := fun W => made_zero m W
      simp only [← hl0] at mk mo
      have app : ∀ W, Ext wr W → ∀ A, Octs W A l → Calls Try.prog 38 #[.pointer (some ⟨y, 0, none⟩), .slice A m m] W fun e w' => ∃ s' j' Ps' E, e = .returned (.int .i64 E) ∧ Disk K w' p s' ∧ JnAt w' y p j' ∧ JRun s' j' k 0 k (t + 1) st Ps' ∧ j'.epoch = 5 ∧ Upd (fun b => ¬ K b ∨ b = y) W w' := fun W x A hx =>
        (jrun_append gj (by omega) (by omega) (by omega) (by omega) (hd.ext x) (x.heap hj) ky A l m m ll (by omega) (by omega) (by omega) hx (fun b e => Nat.lt_of_lt_of_le (hKb b e) (Nat.le_trans hu.size x.size))).mono (by
          rintro e w' ⟨s', j', Ps', rfl, a1, a2, a3, a4, _, a5⟩
          exact ⟨s', j', Ps', _, rfl, a1, a2, a3, by rw [a4, ep], a5⟩)
      clear hl0 hv hcell hKx hls gj hm hm0
      go_wp2_with first
        | (go_at_call 38; refine (app _ ((Ext.refl wr).alloc _) _ (mo wr)).mono ?_; clear app; rintro e w6 ⟨s', j', Ps', E, rfl, h6, j6, g6, ep6, u6⟩)
      go_roundw
      case rel => exact ⟨t + 1, s', j', Ps', by omega, val_int (by omega), h6, j6, g6, ep6, hu.trans ((Upd.of_ext _ ((Ext.refl wr).alloc _)).trans u6)⟩
      case measure => simp [intOf]; omega
    · obtain rfl : n = t := by omega
      have hlt2 : ¬ ((n : Int) < (n : Int)) := by omega
      have gg := gj.good
      have cal := gg.calls
      have hok : DkOk s := hd.choose_spec.choose_spec.choose_spec.1.ok
      have slen := gg.safe
      have hres := jreset_on hj gg.dead (by omega)
      have hep : ∀ W, JnAt W y p (jReset j) → Calls Try.prog 42 #[.pointer (some ⟨y, 0, none⟩)] W fun e w' => e = .returned (.int .i64 6) ∧ W = w' := fun W h => by
        have := jepoch_any h
        rw [show (jReset j).epoch = j.epoch + 1 from rfl, ep] at this
        exact this
      have cont6 : ∀ q, Cont s 0 k q 6 [] := fun q => by
        have := (gj.cont.reset hok (by omega) (by omega) q).1
        rw [ep] at this
        exact this
      have opens : ∀ q, q < k → ∀ W, Disk K W p s → (∀ b, K b → b < W.heap.size) → Calls Try.prog 43 #[.pointer (some ⟨p, 0, none⟩), .int .i64 0, .int .i64 (k : Int), .int .i64 6, .int .i64 (q : Int)] W fun x w' => ∃ y2 A2 c2 j2, x = .returned (.tuple #[.pointer (some ⟨y2, 0, none⟩), .slice A2 0 c2, .int .i64 0]) ∧ JnAt w' y2 p j2 ∧ j2.used = 0 ∧ j2.place = q ∧ Disk K w' p s ∧ Upd (fun b => ¬ K b) W w' := fun q hq W hd hKb => by
        refine (jopen_any hd cal 0 k 6 q (by omega) (by omega) (by omega) (by omega) (by omega) hq hKb).mono ?_
        rintro x w' ⟨y2, v, K', rfl, a1, a2, a3, a4, a5, a6, a7, a8⟩
        have ho := (cont6 q).opens (by omega) (Nat.zero_le _) (k + 1) (by show 0 < k + 1; omega)
        rw [ho] at a2
        obtain ⟨A2, c2, rfl, _, _⟩ := a2.form
        refine ⟨y2, A2, c2, _, rfl, a1, ?_, ?_, a3.less a4, a8⟩
        · unfold jOpen
          rw [ho]
          rfl
        · unfold jOpen
          rw [ho]
          show (q + 0) % k = q
          rw [Nat.add_zero, Nat.mod_eq_of_lt hq]
      clear cont6 gj gg hok hKx hls
      go_wp2_with first
        | (go_at_call 41; refine hres.mono ?_; clear hres; rintro e w4 ⟨rfl, j4, u4⟩; have d4 := disk_upd hd u4 (fun b e => by rw [e]; exact ky))
        | (go_at_call 42; refine (hep w4 j4).mono ?_; clear hep; rintro e w5 ⟨rfl, rfl⟩)
      have hu4 := hu.trans (u4.mono (fun b _ e => Or.inr e))
      clear j4 hj hd u4 hu
      go_loopw [13] (fun i wq => ∃ (q : Nat), q ≤ k ∧ i = .int .i64 (q : Int) ∧ Disk K wq p s ∧ Upd (fun b => ¬ K b ∨ b = y) w2 wq) (fun i _ => k - (intOf i).toNat)
      case atStart => exact ⟨0, Nat.zero_le _, rfl, d4, hu4⟩
      case round =>
        clear d4 hu4
        obtain ⟨q, hq, rfl, hd, hu⟩ := hrel
        by_cases hlt : q < k
        · have op := opens q hlt _ hd (fun b e => Nat.lt_of_lt_of_le (hKb b e) hu.size)
          have us : ∀ W y2 j2, JnAt W y2 p j2 → j2.used = 0 → Calls Try.prog 40 #[.pointer (some ⟨y2, 0, none⟩)] W fun e w' => e = .returned (.int .i64 0) ∧ W = w' := fun W y2 j2 h e => by
            have := jused_any h
            rw [e] at this
            exact this
          have pl : ∀ W y2 j2, JnAt W y2 p j2 → j2.place = q → Calls Try.prog 44 #[.pointer (some ⟨y2, 0, none⟩)] W fun e w' => e = .returned (.int .i64 (q : Int)) ∧ W = w' := fun W y2 j2 h e => by
            have := jplace_any h
            rw [e] at this
            exact this
          clear opens
          go_wp2_with first
            | (go_at_call 43; refine op.mono ?_; clear op; rintro e w6 ⟨y2, A2, c2, j2, rfl, j6, us6, pl6, d6, u6⟩; have us := us w6 y2 j2 j6 us6; have pl := pl w6 y2 j2 j6 pl6; clear us6 pl6)
            | (go_at_call 40; refine us.mono ?_; clear us; rintro e w7 ⟨rfl, rfl⟩)
            | (go_at_call 44; refine pl.mono ?_; clear pl; rintro e w7 ⟨rfl, rfl⟩)
          go_roundw
          case rel => exact ⟨q + 1, by omega, val_int (by omega), d6, hu.trans (u6.mono (fun b _ e => Or.inl e))⟩
          case measure => simp [intOf]; omega
        · obtain rfl : k = q := by omega
          have hlt2 : ¬ ((k : Int) < (k : Int)) := by omega
          go_wp2
          go_ret
          exact ⟨rfl, hu.to_ext X2 hKn⟩
end Go.Proofs.Ytgpnmmgoachajaa
