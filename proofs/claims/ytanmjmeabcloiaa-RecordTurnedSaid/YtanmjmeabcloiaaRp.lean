/- The parts of layer 6: their octets; which are right; record.Put. -/
import Derived.Test.YtanmjmeabcloiaaSg
namespace Go.Proofs.Ytanmjmeabcloiaa
open Go.RowKit
open Go.Proofs

structure Prt where
  foot : Bool
  epoch : Int
  number : Int
  index : Int
  data : List UInt8
deriving DecidableEq
def prtRight (p : Prt) : Prop := 1 ≤ p.epoch ∧ p.epoch ≤ 2147483648 ∧ 0 ≤ p.number ∧ p.number ≤ 2147483648 ∧ 0 ≤ p.index ∧ p.index ≤ 65535 ∧ p.data.length ≤ 112
instance (p : Prt) : Decidable (prtRight p) := by unfold prtRight; infer_instance
def sgnOf (foot : Bool) : Int := if foot then 70 else 80
/-- The twelve octets ahead of the data. -/
def prtHead (p : Prt) : List UInt8 := [] ++ leN 1 (u64of (sgnOf p.foot)) ++ leN 4 (u64of p.epoch) ++ leN 4 (u64of p.number) ++ leN 2 (u64of p.index) ++ leN 1 (u64of (p.data.length : Int))
theorem length_prtHead (p : Prt) : (prtHead p).length = 12 := by simp only [prtHead, List.length_append, length_leN, List.length_nil]
def prtBody (p : Prt) : List UInt8 := prtHead p ++ p.data ++ zer (112 - p.data.length)
theorem length_prtBody (p : Prt) (h : prtRight p) : (prtBody p).length = 124 := by
  have := h.2.2.2.2.2.2
  rw [prtBody, List.length_append, List.length_append, length_prtHead, length_zer]
  omega
def prtPut (p : Prt) : List UInt8 := Mb.seal_ (prtBody p)
theorem length_prtPut (p : Prt) (h : prtRight p) : (prtPut p).length = 128 := by rw [prtPut, Mb.seal_length, length_prtBody p h]
/-- A part as a value, its data at an address. -/
abbrev prtCells (p : Prt) (A : Option Addr) (n c : Nat) : Array Value := #[.bool p.foot, .int .i64 p.epoch, .int .i64 p.number, .int .i64 p.index, .slice A n c]
abbrev prtV (p : Prt) (A : Option Addr) (n c : Nat) : Value := .agg (prtCells p A n c)
theorem prt_cells {w : World} {q : Nat} {p : Prt} {A : Option Addr} {n c : Nat} (hb : w.heap[q]? = some (.cells (prtCells p A n c) 24 (0, 0))) :
    w.cell? ⟨q, 0, none⟩ = some (.bool p.foot) ∧ w.cell? ⟨q, 1, none⟩ = some (.int .i64 p.epoch) ∧ w.cell? ⟨q, 2, none⟩ = some (.int .i64 p.number) ∧ w.cell? ⟨q, 3, none⟩ = some (.int .i64 p.index) ∧ w.cell? ⟨q, 4, none⟩ = some (.slice A n c) ∧
    ∀ j, w.frozen? ⟨q, j, none⟩ = false := by
  refine ⟨?_, ?_, ?_, ?_, ?_, fun j => frozen_of_row w q j _ _ hb⟩ <;> (rw [cell_of_row w q _ _ _ _ hb]; rfl)

set_option maxRecDepth 100000 in
theorem f38_sgn (b : Bool) (w : World) : Calls Try.prog 38 #[.bool b] w fun e w' => e = .returned (.int .i64 (sgnOf b)) ∧ w = w' := by
  cases b
  all_goals
    go_enter Try.func38, Try.ntmps38
    go_wp2
    go_ret
    exact ⟨rfl, rfl⟩

set_option maxRecDepth 100000 in
theorem f17_prt (p : Prt) (A : Option Addr) (n c : Nat) (w : World) (hn : p.data.length = n) : Calls Try.prog 17 #[prtV p A n c] w fun e w' => e = .returned (.bool (decide (prtRight p))) ∧ Ext w w' := by
  obtain ⟨foot, epoch, number, index, data⟩ := p
  obtain ⟨R, hR⟩ : ∃ R, R = decide (prtRight ⟨foot, epoch, number, index, data⟩) := ⟨_, rfl⟩
  rw [← hR]
  have HR := Lib.hid hR
  have HN := Lib.hid hn
  clear hR hn
  go_enter Try.func17, Try.ntmps17
  go_wp2
  all_goals go_ret
  all_goals
    refine ⟨ret_bool ?_, (Ext.refl w).alloc _⟩
    rw [HR.out]
    have hn := HN.out
    refine Eq.symm ?_
    unfold prtRight
    simp only [hn]
    first
      | (refine decide_eq_false ?_; omega)
      | (refine decide_eq_true ?_; omega)
      | (refine decide_eq_decide.2 ?_; omega)

theorem wid1 : wid 1 = 1 := by decide
theorem wid2 : wid 2 = 2 := by decide

set_option maxRecDepth 100000 in
set_option maxHeartbeats 2000000 in
theorem f13_right (p : Prt) (A : Option Addr) (n c : Nat) (w : World) (hn : p.data.length = n) (hr : prtRight p) (hx : Octs w A p.data) :
    Calls Try.prog 13 #[prtV p A n c] w fun e w' => ∃ v, e = .returned (.tuple #[v, .int .i64 0]) ∧ Own w' w.heap.size 5 v (octs (prtPut p)) ∧ Ext w w' := by
  have hn112 : n ≤ 112 := by have := hr.2.2.2.2.2.2; omega
  have hle := length_prtBody p hr
  have HN := Lib.hid hn
  have HLE := Lib.hid hle
  have H112 := Lib.hid hn112
  obtain ⟨r1, r2, r3, r4, r5, r6, r7⟩ := hr
  have g1 : (p.epoch < 1) = False := eq_false (by omega)
  have g2 : (2147483648 < p.epoch) = False := eq_false (by omega)
  have g3 : (p.number < 0) = False := eq_false (by omega)
  have g4 : (2147483648 < p.number) = False := eq_false (by omega)
  have g5 : (p.index < 0) = False := eq_false (by omega)
  have g6 : (65535 < p.index) = False := eq_false (by omega)
  have g7 : ((112 : Int) < (n : Int)) = False := eq_false (by omega)
  clear r1 r2 r3 r4 r5 r6 r7 hn hn112 hle
  go_enter Try.func13, Try.ntmps13
  go_wp2_with fail
  have hX1 : Ext w (w.alloc (.cells (prtCells p A n c) 24)) := (Ext.refl w).alloc _
  have hb := heap_alloc_new w (.cells (prtCells p A n c) 24)
  have hx1 := hx.alloc (.cells (prtCells p A n c) 24)
  clear g1 g2 g3 g4 g5 g6 g7 hx
  obtain ⟨q, hq⟩ : ∃ q, w.heap.size = q := ⟨_, rfl⟩
  rw [hq] at hb ⊢
  have HQ := Lib.hid hq
  clear hq
  generalize w.alloc (.cells (prtCells p A n c) 24) = w1 at *
  refine wp_region_held_drew (S := fun w' => Ext w1 w') (by kernel_rfl) ((Ext.refl _).drew) (fun hS => ?_)
  refine takeH (i := 1) (v := ?_) rfl rfl (by kernel_rfl) (by kernel_rfl) (by kernel_rfl) (fun _ _ _ h => h) (Or.inl ⟨by kernel_rfl, ?_⟩) hS ?_
  rotate_left 1
  · (intro w' hS'; go_simp; try (with_reducible rfl))
  simp only [List.setIfInBounds_toArray, List.set_cons_succ, List.set_cons_zero]
  refine takeH (i := 2) (v := ?_) rfl rfl (by kernel_rfl) (by kernel_rfl) (by kernel_rfl) (fun _ _ _ h => h) (Or.inl ⟨by kernel_rfl, ?_⟩) hS ?_
  rotate_left 1
  · (intro w' hS'; obtain ⟨c0, c1, c2, c3, c4, cf⟩ := prt_cells (hS'.heap hb); go_simp; try (with_reducible rfl))
  simp only [List.setIfInBounds_toArray, List.set_cons_succ, List.set_cons_zero]
  refine takeH (i := 5) (v := ?_) rfl rfl (by kernel_rfl) (by kernel_rfl) (by kernel_rfl) (fun _ _ _ h => h) (Or.inl ⟨by kernel_rfl, ?_⟩) hS ?_
  rotate_left 1
  · (intro w' hS'; go_simp; try (with_reducible rfl))
  simp only [List.setIfInBounds_toArray, List.set_cons_succ, List.set_cons_zero]
  refine takeH (i := 6) (v := ?_) rfl rfl (by kernel_rfl) (by kernel_rfl) (by kernel_rfl) (fun _ _ _ h => h) (Or.inl ⟨by kernel_rfl, ?_⟩) hS ?_
  rotate_left 1
  · (intro w' hS'; obtain ⟨c0, c1, c2, c3, c4, cf⟩ := prt_cells (hS'.heap hb); go_simp; try (with_reducible rfl))
  simp only [List.setIfInBounds_toArray, List.set_cons_succ, List.set_cons_zero]
  refine takeH (i := 8) (v := ?_) rfl rfl (by kernel_rfl) (by kernel_rfl) (by kernel_rfl) (fun _ _ _ h => h) (Or.inl ⟨by kernel_rfl, ?_⟩) hS ?_
  rotate_left 1
  · (intro w' hS'; go_simp; try (with_reducible rfl))
  simp only [List.setIfInBounds_toArray, List.set_cons_succ, List.set_cons_zero]
  refine takeH (i := 9) (v := ?_) rfl rfl (by kernel_rfl) (by kernel_rfl) (by kernel_rfl) (fun _ _ _ h => h) (Or.inl ⟨by kernel_rfl, ?_⟩) hS ?_
  rotate_left 1
  · (intro w' hS'; obtain ⟨c0, c1, c2, c3, c4, cf⟩ := prt_cells (hS'.heap hb); go_simp; try (with_reducible rfl))
  simp only [List.setIfInBounds_toArray, List.set_cons_succ, List.set_cons_zero]
  refine takeH (i := 11) (v := ?_) rfl rfl (by kernel_rfl) (by kernel_rfl) (by kernel_rfl) (fun _ _ _ h => h) (Or.inl ⟨by kernel_rfl, ?_⟩) hS ?_
  rotate_left 1
  · (intro w' hS'; go_simp; try (with_reducible rfl))
  simp only [List.setIfInBounds_toArray, List.set_cons_succ, List.set_cons_zero]
  refine takeH (i := 12) (v := ?_) rfl rfl (by kernel_rfl) (by kernel_rfl) (by kernel_rfl) (fun _ _ _ h => h) (Or.inl ⟨by kernel_rfl, ?_⟩) hS ?_
  rotate_left 1
  · (intro w' hS'; obtain ⟨c0, c1, c2, c3, c4, cf⟩ := prt_cells (hS'.heap hb); go_simp; try (with_reducible rfl))
  simp only [List.setIfInBounds_toArray, List.set_cons_succ, List.set_cons_zero]
  refine takeH (i := 14) (v := ?_) rfl rfl (by kernel_rfl) (by kernel_rfl) (by kernel_rfl) (fun _ _ _ h => h) (Or.inl ⟨by kernel_rfl, ?_⟩) hS ?_
  rotate_left 1
  · (intro w' hS'; go_simp; try (with_reducible rfl))
  simp only [List.setIfInBounds_toArray, List.set_cons_succ, List.set_cons_zero]
  refine takeH (i := 15) (v := ?_) rfl rfl (by kernel_rfl) (by kernel_rfl) (by kernel_rfl) (fun _ _ _ h => h) (Or.inl ⟨by kernel_rfl, ?_⟩) hS ?_
  rotate_left 1
  · (intro w' hS'; obtain ⟨c0, c1, c2, c3, c4, cf⟩ := prt_cells (hS'.heap hb); go_simp; try (with_reducible rfl))
  simp only [List.setIfInBounds_toArray, List.set_cons_succ, List.set_cons_zero]
  refine takeH (i := 16) (v := ?_) rfl rfl (by kernel_rfl) (by kernel_rfl) (by kernel_rfl) (fun _ _ _ h => h) (Or.inl ⟨by kernel_rfl, ?_⟩) hS ?_
  rotate_left 1
  · (intro w' hS'; go_simp; try (with_reducible rfl))
  simp only [List.setIfInBounds_toArray, List.set_cons_succ, List.set_cons_zero]
  refine wpAnyH_ready (rs := [0]) (by kernel_rfl) (by simp) ?_
  refine AllReadyH.cons rfl (fun K hK => ?_) ?_
  rotate_left 1
  · exact AllReadyH.nil
  go_simp
  refine (wr_new hS).mono ?_; rintro e wa ⟨kk, rfl, t0, x0⟩
  refine hK.out _ _ (hS.trans x0) (fun hS => ?_)
  clear hK K
  refine wpAnyH_ready (rs := [3]) (by kernel_rfl) (by simp) ?_
  refine AllReadyH.cons rfl (fun K hK => ?_) ?_
  rotate_left 1
  · exact AllReadyH.nil
  go_simp
  refine (f38_sgn _ _).mono ?_; rintro e w' ⟨rfl, rfl⟩
  refine hK.out _ _ (hS) (fun hS => ?_)
  clear hK K
  refine wpAnyH_ready (rs := [4]) (by kernel_rfl) (by simp) ?_
  refine AllReadyH.cons rfl (fun K hK => ?_) ?_
  rotate_left 1
  · exact AllReadyH.nil
  go_simp
  refine (wr_num (sgnOf p.foot) 1 hS t0 (by simp)).mono ?_; rintro e wb1 ⟨rfl, t1, x1⟩; rw [wid1] at t1
  refine hK.out _ _ (x1) (fun hS => ?_)
  clear hK K
  refine wpAnyH_ready (rs := [7]) (by kernel_rfl) (by simp) ?_
  refine AllReadyH.cons rfl (fun K hK => ?_) ?_
  rotate_left 1
  · exact AllReadyH.nil
  go_simp
  refine (wr_num p.epoch 4 hS t1 (by simp only [List.length_append, length_leN, List.length_nil]; omega)).mono ?_; rintro e wb2 ⟨rfl, t2, x2⟩; rw [wid4] at t2
  refine hK.out _ _ (x2) (fun hS => ?_)
  clear hK K
  refine wpAnyH_ready (rs := [10]) (by kernel_rfl) (by simp) ?_
  refine AllReadyH.cons rfl (fun K hK => ?_) ?_
  rotate_left 1
  · exact AllReadyH.nil
  go_simp
  refine (wr_num p.number 4 hS t2 (by simp only [List.length_append, length_leN, List.length_nil]; omega)).mono ?_; rintro e wb3 ⟨rfl, t3, x3⟩; rw [wid4] at t3
  refine hK.out _ _ (x3) (fun hS => ?_)
  clear hK K
  refine wpAnyH_ready (rs := [13]) (by kernel_rfl) (by simp) ?_
  refine AllReadyH.cons rfl (fun K hK => ?_) ?_
  rotate_left 1
  · exact AllReadyH.nil
  go_simp
  refine (wr_num p.index 2 hS t3 (by simp only [List.length_append, length_leN, List.length_nil]; omega)).mono ?_; rintro e wb4 ⟨rfl, t4, x4⟩; rw [wid2] at t4
  refine hK.out _ _ (x4) (fun hS => ?_)
  clear hK K
  refine wpAnyH_ready (rs := [17]) (by kernel_rfl) (by simp) ?_
  refine AllReadyH.cons rfl (fun K hK => ?_) ?_
  rotate_left 1
  · exact AllReadyH.nil
  go_simp
  refine (wr_num (n : Int) 1 hS t4 (by simp only [List.length_append, length_leN, List.length_nil]; omega)).mono ?_; rintro e wb5 ⟨rfl, t5, x5⟩; rw [wid1, ← HN.out] at t5
  refine hK.out _ _ (x5) (fun hS => ?_)
  clear hK K
  refine wpAnyH_ready (rs := [18]) (by kernel_rfl) (by simp) ?_
  refine AllReadyH.cons rfl (fun K hK => ?_) ?_
  rotate_left 1
  · exact AllReadyH.nil
  go_simp
  refine (wr_bytes t5 (by rw [← prtHead, length_prtHead]; decide)).mono ?_; rintro e wb6 ⟨v6, rfl, o6, x6⟩; have ub : Up w1 wb6 v6 (prtHead p) := Up.of_own o6 hS.size; obtain ⟨A6, d6, rfl, k6, _, z6⟩ := ub.form; rw [length_prtHead] at ub ⊢
  refine hK.out _ _ (hS.trans x6) (fun hS => ?_)
  clear hK K
  refine takeH (i := 19) (v := ?_) rfl rfl (by kernel_rfl) (by kernel_rfl) (by kernel_rfl) (fun _ _ _ h => h) (Or.inl ⟨by kernel_rfl, ?_⟩) hS ?_
  rotate_left 1
  · (intro w' hS'; go_simp; try (with_reducible rfl))
  simp only [List.setIfInBounds_toArray, List.set_cons_succ, List.set_cons_zero]
  refine wpAnyH_done (by kernel_rfl) ?_ _
  have y2 := hx1.ext hS
  obtain ⟨c0, c1, c2, c3, c4, cf⟩ := prt_cells (hS.heap hb)
  obtain ⟨m, hm⟩ : ∃ m, m = 12 + n := ⟨_, rfl⟩
  obtain ⟨k, hk⟩ : ∃ k, k = 112 - n := ⟨_, rfl⟩
  have l2 : (prtHead p ++ p.data).length = m := by rw [List.length_append, length_prtHead, HN.out, hm]
  have l3 : (prtHead p ++ p.data ++ List.replicate k 0).length = 124 := by
    have := HLE.out
    rw [prtBody, HN.out, ← hk] at this
    exact this
  have e3 : Mb.seal_ (prtHead p ++ p.data ++ List.replicate k 0) = prtPut p := by rw [prtPut, prtBody, HN.out, ← hk, zer]
  have hn112 := H112.out
  have hsub : (124 : Int) - (m : Int) = (k : Int) := by omega
  have hwk : IntKind.i64.wrap (k : Int) = (k : Int) := IntWalk.i64_in _ (by omega)
  have hk9 : k ≤ 112 := by omega
  have hm9 : m ≤ 124 := by omega
  have L2 := Lib.hid l2
  have L3 := Lib.hid l3
  have E3 := Lib.hid e3
  clear l2 l3 e3 hm hk hx1 hn112
  go_wp2_with (first
    | (at_builtin; refine wpList_up rfl (.tmp 58) (.tmp 60) rfl _ _ rfl ub hS A n c p.data rfl HN.out y2 (by rw [HN.out, length_prtHead]; have := H112.out; omega) ?_; intro v2 w2 u2 x2; obtain ⟨A2, d2, rfl, k2, _, z2⟩ := u2.form; rw [L2.out] at u2 ⊢)
    | (at_builtin; refine wpList_up_zeros rfl (.tmp 62) (.tmp 65) rfl _ _ rfl u2 x2 k rfl (by rw [L2.out]; omega) ?_; intro v3 w3 u3 x3; obtain ⟨A3, d3, rfl, k3, _, z3⟩ := u3.form; rw [L3.out] at k3 ⊢)
    | (at_builtin; fail)
    | fail)
  refine (f45_n A3 _ 124 d3 _ L3.out (by decide) k3 z3).mono ?_
  rw [E3.out]
  rintro e w4 ⟨v4, rfl, o4, x4⟩
  go_wp2_with fail
  go_ret2
  exact ⟨_, rfl, o4.mono (Nat.le_trans hX1.size x3.size), hX1.trans (x3.trans x4)⟩

set_option maxRecDepth 100000 in
set_option maxHeartbeats 2000000 in
theorem f13_wrong (p : Prt) (A : Option Addr) (n c : Nat) (w : World) (hn : p.data.length = n) (hr : ¬ prtRight p) :
    Calls Try.prog 13 #[prtV p A n c] w fun e w' => e = .returned (.tuple #[.slice none 0 0, .int .i64 2]) ∧ Ext w w' := by
  have hr2 : ¬ (1 ≤ p.epoch ∧ p.epoch ≤ 2147483648 ∧ 0 ≤ p.number ∧ p.number ≤ 2147483648 ∧ 0 ≤ p.index ∧ p.index ≤ 65535 ∧ n ≤ 112) := fun e => hr (by unfold prtRight; rw [hn]; exact e)
  have HR := Lib.hid hr2
  have hX1 : Ext w (w.alloc (.cells (prtCells p A n c) 24)) := (Ext.refl w).alloc _
  clear hr2 hr hn
  by_cases h1 : p.epoch < 1 ∨ 2147483648 < p.epoch
  · rcases h1 with h1 | h1
    · have g1 : (p.epoch < 1) = True := eq_true h1
      clear h1
      go_enter Try.func13, Try.ntmps13
      go_wp2_with fail
      go_ret2
      exact ⟨rfl, hX1⟩
    · have g1 : (p.epoch < 1) = False := eq_false (by omega)
      have g2 : (2147483648 < p.epoch) = True := eq_true h1
      clear h1
      go_enter Try.func13, Try.ntmps13
      go_wp2_with fail
      go_ret2
      exact ⟨rfl, hX1⟩
  have g1 : (p.epoch < 1) = False := eq_false (by omega)
  have g2 : (2147483648 < p.epoch) = False := eq_false (by omega)
  by_cases h2 : p.number < 0 ∨ 2147483648 < p.number
  · rcases h2 with h2 | h2
    · have g3 : (p.number < 0) = True := eq_true h2
      clear h1 h2
      go_enter Try.func13, Try.ntmps13
      go_wp2_with fail
      go_ret2
      exact ⟨rfl, hX1⟩
    · have g3 : (p.number < 0) = False := eq_false (by omega)
      have g4 : (2147483648 < p.number) = True := eq_true h2
      clear h1 h2
      go_enter Try.func13, Try.ntmps13
      go_wp2_with fail
      go_ret2
      exact ⟨rfl, hX1⟩
  have g3 : (p.number < 0) = False := eq_false (by omega)
  have g4 : (2147483648 < p.number) = False := eq_false (by omega)
  by_cases h3 : p.index < 0 ∨ 65535 < p.index
  · rcases h3 with h3 | h3
    · have g5 : (p.index < 0) = True := eq_true h3
      clear h1 h2 h3
      go_enter Try.func13, Try.ntmps13
      go_wp2_with fail
      go_ret2
      exact ⟨rfl, hX1⟩
    · have g5 : (p.index < 0) = False := eq_false (by omega)
      have g6 : (65535 < p.index) = True := eq_true h3
      clear h1 h2 h3
      go_enter Try.func13, Try.ntmps13
      go_wp2_with fail
      go_ret2
      exact ⟨rfl, hX1⟩
  have g5 : (p.index < 0) = False := eq_false (by omega)
  have g6 : (65535 < p.index) = False := eq_false (by omega)
  have g7 : ((112 : Int) < (n : Int)) = True := eq_true (by
    have := HR.out
    omega)
  clear h1 h2 h3
  go_enter Try.func13, Try.ntmps13
  go_wp2_with fail
  go_ret2
  exact ⟨rfl, hX1⟩
end Go.Proofs.Ytanmjmeabcloiaa
