/- Superblocks (layer 5): the document's Newest. -/
import Derived.Test.YtanmjmeabcloiaaRt
import Derived.Test.YtanmjmeabcloiaaSn
namespace Go.Proofs.Ytanmjmeabcloiaa
open Go.RowKit
open Go.Proofs

theorem str_hi (l : List UInt8) (j : Nat) (hj : j ≤ l.length) (w : World) : (Instr.slice 9 (strOf l) none (some (.int .i64 (j : Int))) none).run Try.prog w = .ok (strOf (l.take j)) w := by
  have h := run_slice_string_h (P := Try.prog) w 9 ⟨l.toArray⟩ Try.underlying9 .i64 (j : Int) (by omega) (by show (j : Int) ≤ (l.toArray.size : Int); rw [List.size_toArray]; omega)
  rw [h, show ((j : Int).toNat) = j by omega, extract_mid l 0 j j (by omega)]
  rfl
theorem str_lo (l : List UInt8) (i : Nat) (hi : i ≤ l.length) (w : World) : (Instr.slice 9 (strOf l) (some (.int .i64 (i : Int))) none none).run Try.prog w = .ok (strOf (l.drop i)) w := by
  have h := run_slice_string_l (P := Try.prog) w 9 ⟨l.toArray⟩ Try.underlying9 .i64 (i : Int) (by omega) (by show (i : Int) ≤ (l.toArray.size : Int); rw [List.size_toArray]; omega)
  have hz : (⟨l.toArray⟩ : ByteArray).size = l.length := List.size_toArray ..
  rw [h, show ((i : Int).toNat) = i by omega, hz, extract_mid l i (l.length - i) l.length (by omega), List.take_of_length_le (by rw [List.length_drop]; exact Nat.le_refl _)]
set_option maxRecDepth 100000 in
set_option maxHeartbeats 8000000 in
theorem f27_core (l : List UInt8) (o0 o1 : Option Sup) (w : World) (h256 : l.length = 256)
    (H0 : ∀ W, Calls Try.prog 28 #[strOf (l.take 128)] W fun e w' => e = .returned (.tuple #[supV (o0.getD sup0), .bool o0.isSome]) ∧ Ext W w')
    (H1 : ∀ W, Calls Try.prog 28 #[strOf (l.drop 128)] W fun e w' => e = .returned (.tuple #[supV (o1.getD sup0), .bool o1.isSome]) ∧ Ext W w')
    (Q0 : ∀ s, o0 = some s → 1 ≤ s.gen) (Q1 : ∀ s, o1 = some s → 1 ≤ s.gen) :
    Calls Try.prog 27 #[strOf l] w fun e w' => e = .returned (.tuple #[supV ((supNewer (supPick o0 0) (supPick o1 1)).getD sup0), .bool (supNewer (supPick o0 0) (supPick o1 1)).isSome]) ∧ Ext w w' := by
  have s0 : ∀ w, (Instr.slice 9 (strOf l) none (some (.int .i64 128)) none).run Try.prog w = .ok (strOf (l.take 128)) w := fun w => str_hi l 128 (by omega) w
  have s1 : ∀ w, (Instr.slice 9 (strOf l) (some (.int .i64 128)) none none).run Try.prog w = .ok (strOf (l.drop 128)) w := fun w => str_lo l 128 (by omega) w
  have e0 : (⟨l.toArray⟩ : ByteArray).extract 0 128 = ⟨(l.take 128).toArray⟩ := extract_mid l 0 128 128 rfl
  have e1 : (⟨l.toArray⟩ : ByteArray).extract 128 256 = ⟨(l.drop 128).toArray⟩ := by
    rw [extract_mid l 128 128 256 rfl, List.take_of_length_le (by rw [List.length_drop]; omega)]
  generalize l.take 128 = L0 at H0 s0 e0
  generalize l.drop 128 = L1 at H1 s1 e1
  have par : ∀ s : Sup, 1 ≤ s.gen → s.gen.tmod 2 = 0 ∧ s.gen % 2 = 0 ∨ s.gen.tmod 2 = 1 ∧ s.gen % 2 = 1 := fun s h => by
    rw [Int.tmod_eq_emod_of_nonneg (by omega)]
    omega
  obtain ⟨N, hN⟩ : ∃ N, N = supNewer (supPick o0 0) (supPick o1 1) := ⟨_, rfl⟩
  rw [← hN]
  cases o0 with
  | none =>
    cases o1 with
    | none =>
      have k0 : supPick (none : Option Sup) 0 = none := rfl
      have k1 : supPick (none : Option Sup) 1 = none := rfl
      rw [k0, k1] at hN
      have hM : N = none := hN
      subst hM
      clear hN
      clear k0 k1 Q0 Q1 par
      rw [show supV ((none : Option Sup).getD sup0) = .agg #[.int .i64 0, .int .i64 0, .int .i64 0, .int .i64 0, .int .i64 0, .int .u32 0, .int .i64 0, .int .i64 0] from rfl] at H0
      rw [show supV ((none : Option Sup).getD sup0) = .agg #[.int .i64 0, .int .i64 0, .int .i64 0, .int .i64 0, .int .i64 0, .int .u32 0, .int .i64 0, .int .i64 0] from rfl] at H1
      go_enter Try.func27, Try.ntmps27
      go_wp2_with fail
      refine (H0 _).mono ?_
      rintro e w1 ⟨rfl, x1⟩
      go_wp2_with fail
      refine (H1 _).mono ?_
      rintro e w2 ⟨rfl, x2⟩
      have hq := x2.heap (heap_alloc_new w1 (.cells (supCells sup0) 38))
      have hp := x2.heap ((Ext.refl w1).alloc (.cells (supCells sup0) 38) |>.heap (x1.heap (heap_alloc_new w (.cells (supCells sup0) 38))))
      have X2 : Ext w w2 := (((Ext.refl w).alloc (.cells (supCells sup0) 38)).trans x1).trans (((Ext.refl w1).alloc (.cells (supCells sup0) 38)).trans x2)
      have lq := block_lt_of_cell (sup_cells hq).1
      have lp := block_lt_of_cell (sup_cells hp).1
      simp only at lq lp
      obtain ⟨c0, c1, c2, c3, c4, c5, c6, c7, cf⟩ := sup_cells hq
      obtain ⟨d0, d1, d2, d3, d4, d5, d6, d7, df⟩ := sup_cells hp
      go_wp2_with fail
      refine bodyPost_ret (ret_sup rfl _ _ w.heap.size sup0 false rfl ((Ext.refl _).alloc _ |>.heap (setSup_heap hp sup0)) rfl) rfl ?_
      exact ⟨rfl, (setSup_ext X2 (Nat.le_refl _) sup0).alloc _⟩
    | some t =>
      rcases par t (Q1 t rfl) with ⟨pb, pb2⟩ | ⟨pb, pb2⟩
      · have k0 : supPick (none : Option Sup) 0 = none := rfl
        have k1 : supPick (some t) 1 = none := by unfold supPick; simp only; rw [if_neg (by omega)]
        rw [k0, k1] at hN
        have hM : N = none := hN
        subst hM
        clear hN
        clear k0 k1 pb2 Q0 Q1 par
        rw [show supV ((none : Option Sup).getD sup0) = .agg #[.int .i64 0, .int .i64 0, .int .i64 0, .int .i64 0, .int .i64 0, .int .u32 0, .int .i64 0, .int .i64 0] from rfl] at H0
        rw [show supV ((some t : Option Sup).getD sup0) = supV t from rfl] at H1
        go_enter Try.func27, Try.ntmps27
        go_wp2_with fail
        refine (H0 _).mono ?_
        rintro e w1 ⟨rfl, x1⟩
        go_wp2_with fail
        refine (H1 _).mono ?_
        rintro e w2 ⟨rfl, x2⟩
        have hq := x2.heap (heap_alloc_new w1 (.cells (supCells sup0) 38))
        have hp := x2.heap ((Ext.refl w1).alloc (.cells (supCells sup0) 38) |>.heap (x1.heap (heap_alloc_new w (.cells (supCells sup0) 38))))
        have X2 : Ext w w2 := (((Ext.refl w).alloc (.cells (supCells sup0) 38)).trans x1).trans (((Ext.refl w1).alloc (.cells (supCells sup0) 38)).trans x2)
        have lq := block_lt_of_cell (sup_cells hq).1
        have lp := block_lt_of_cell (sup_cells hp).1
        simp only at lq lp
        obtain ⟨c0, c1, c2, c3, c4, c5, c6, c7, cf⟩ := sup_cells hq
        obtain ⟨d0, d1, d2, d3, d4, d5, d6, d7, df⟩ := sup_cells hp
        go_wp2_with fail
        refine bodyPost_ret (ret_sup rfl _ _ w.heap.size sup0 false rfl ((Ext.refl _).alloc _ |>.heap (setSup_heap hp sup0)) rfl) rfl ?_
        exact ⟨rfl, (setSup_ext X2 (Nat.le_refl _) sup0).alloc _⟩
      · have k0 : supPick (none : Option Sup) 0 = none := rfl
        have k1 : supPick (some t) 1 = some t := by unfold supPick; simp only; rw [if_pos (by omega)]
        rw [k0, k1] at hN
        have hM : N = some t := hN
        subst hM
        clear hN
        clear k0 k1 pb2 Q0 Q1 par
        rw [show supV ((none : Option Sup).getD sup0) = .agg #[.int .i64 0, .int .i64 0, .int .i64 0, .int .i64 0, .int .i64 0, .int .u32 0, .int .i64 0, .int .i64 0] from rfl] at H0
        rw [show supV ((some t : Option Sup).getD sup0) = supV t from rfl] at H1
        go_enter Try.func27, Try.ntmps27
        go_wp2_with fail
        refine (H0 _).mono ?_
        rintro e w1 ⟨rfl, x1⟩
        go_wp2_with fail
        refine (H1 _).mono ?_
        rintro e w2 ⟨rfl, x2⟩
        have hq := x2.heap (heap_alloc_new w1 (.cells (supCells sup0) 38))
        have hp := x2.heap ((Ext.refl w1).alloc (.cells (supCells sup0) 38) |>.heap (x1.heap (heap_alloc_new w (.cells (supCells sup0) 38))))
        have X2 : Ext w w2 := (((Ext.refl w).alloc (.cells (supCells sup0) 38)).trans x1).trans (((Ext.refl w1).alloc (.cells (supCells sup0) 38)).trans x2)
        have lq := block_lt_of_cell (sup_cells hq).1
        have lp := block_lt_of_cell (sup_cells hp).1
        simp only at lq lp
        obtain ⟨c0, c1, c2, c3, c4, c5, c6, c7, cf⟩ := sup_cells hq
        obtain ⟨d0, d1, d2, d3, d4, d5, d6, d7, df⟩ := sup_cells hp
        go_wp2_with fail
        refine bodyPost_ret (ret_sup rfl _ _ w.heap.size t true rfl ((Ext.refl _).alloc _ |>.heap (setSup_heap hp t)) rfl) rfl ?_
        exact ⟨rfl, (setSup_ext X2 (Nat.le_refl _) t).alloc _⟩
  | some s =>
    rcases par s (Q0 s rfl) with ⟨pa, pa2⟩ | ⟨pa, pa2⟩
    · cases o1 with
      | none =>
        have k0 : supPick (some s) 0 = some s := by unfold supPick; simp only; rw [if_pos (by omega)]
        have k1 : supPick (none : Option Sup) 1 = none := rfl
        rw [k0, k1] at hN
        have hM : N = some s := hN
        subst hM
        clear hN
        clear k0 k1 pa2 Q0 Q1 par
        rw [show supV ((some s : Option Sup).getD sup0) = supV s from rfl] at H0
        rw [show supV ((none : Option Sup).getD sup0) = .agg #[.int .i64 0, .int .i64 0, .int .i64 0, .int .i64 0, .int .i64 0, .int .u32 0, .int .i64 0, .int .i64 0] from rfl] at H1
        go_enter Try.func27, Try.ntmps27
        go_wp2_with fail
        refine (H0 _).mono ?_
        rintro e w1 ⟨rfl, x1⟩
        go_wp2_with fail
        refine (H1 _).mono ?_
        rintro e w2 ⟨rfl, x2⟩
        have hq := x2.heap (heap_alloc_new w1 (.cells (supCells s) 38))
        have hp := x2.heap ((Ext.refl w1).alloc (.cells (supCells s) 38) |>.heap (x1.heap (heap_alloc_new w (.cells (supCells sup0) 38))))
        have X2 : Ext w w2 := (((Ext.refl w).alloc (.cells (supCells sup0) 38)).trans x1).trans (((Ext.refl w1).alloc (.cells (supCells s) 38)).trans x2)
        have lq := block_lt_of_cell (sup_cells hq).1
        have lp := block_lt_of_cell (sup_cells hp).1
        simp only at lq lp
        obtain ⟨c0, c1, c2, c3, c4, c5, c6, c7, cf⟩ := sup_cells hq
        obtain ⟨d0, d1, d2, d3, d4, d5, d6, d7, df⟩ := sup_cells hp
        go_wp2_with fail
        refine bodyPost_ret (ret_sup rfl _ _ w.heap.size s true rfl ((Ext.refl _).alloc _ |>.heap (setSup_heap hp s)) rfl) rfl ?_
        exact ⟨rfl, (setSup_ext X2 (Nat.le_refl _) s).alloc _⟩
      | some t =>
        rcases par t (Q1 t rfl) with ⟨pb, pb2⟩ | ⟨pb, pb2⟩
        · have k0 : supPick (some s) 0 = some s := by unfold supPick; simp only; rw [if_pos (by omega)]
          have k1 : supPick (some t) 1 = none := by unfold supPick; simp only; rw [if_neg (by omega)]
          rw [k0, k1] at hN
          have hM : N = some s := hN
          subst hM
          clear hN
          clear k0 k1 pa2 pb2 Q0 Q1 par
          rw [show supV ((some s : Option Sup).getD sup0) = supV s from rfl] at H0
          rw [show supV ((some t : Option Sup).getD sup0) = supV t from rfl] at H1
          go_enter Try.func27, Try.ntmps27
          go_wp2_with fail
          refine (H0 _).mono ?_
          rintro e w1 ⟨rfl, x1⟩
          go_wp2_with fail
          refine (H1 _).mono ?_
          rintro e w2 ⟨rfl, x2⟩
          have hq := x2.heap (heap_alloc_new w1 (.cells (supCells s) 38))
          have hp := x2.heap ((Ext.refl w1).alloc (.cells (supCells s) 38) |>.heap (x1.heap (heap_alloc_new w (.cells (supCells sup0) 38))))
          have X2 : Ext w w2 := (((Ext.refl w).alloc (.cells (supCells sup0) 38)).trans x1).trans (((Ext.refl w1).alloc (.cells (supCells s) 38)).trans x2)
          have lq := block_lt_of_cell (sup_cells hq).1
          have lp := block_lt_of_cell (sup_cells hp).1
          simp only at lq lp
          obtain ⟨c0, c1, c2, c3, c4, c5, c6, c7, cf⟩ := sup_cells hq
          obtain ⟨d0, d1, d2, d3, d4, d5, d6, d7, df⟩ := sup_cells hp
          go_wp2_with fail
          refine bodyPost_ret (ret_sup rfl _ _ w.heap.size s true rfl ((Ext.refl _).alloc _ |>.heap (setSup_heap hp s)) rfl) rfl ?_
          exact ⟨rfl, (setSup_ext X2 (Nat.le_refl _) s).alloc _⟩
        · have k0 : supPick (some s) 0 = some s := by unfold supPick; simp only; rw [if_pos (by omega)]
          have k1 : supPick (some t) 1 = some t := by unfold supPick; simp only; rw [if_pos (by omega)]
          rw [k0, k1] at hN
          by_cases q : t.gen < s.gen
          · have hM : N = some s := by rw [hN]; unfold supNewer; simp only; rw [if_neg (by omega)]
            subst hM
            clear hN
            clear k0 k1 pa2 pb2 Q0 Q1 par
            rw [show supV ((some s : Option Sup).getD sup0) = supV s from rfl] at H0
            rw [show supV ((some t : Option Sup).getD sup0) = supV t from rfl] at H1
            go_enter Try.func27, Try.ntmps27
            go_wp2_with fail
            refine (H0 _).mono ?_
            rintro e w1 ⟨rfl, x1⟩
            go_wp2_with fail
            refine (H1 _).mono ?_
            rintro e w2 ⟨rfl, x2⟩
            have hq := x2.heap (heap_alloc_new w1 (.cells (supCells s) 38))
            have hp := x2.heap ((Ext.refl w1).alloc (.cells (supCells s) 38) |>.heap (x1.heap (heap_alloc_new w (.cells (supCells sup0) 38))))
            have X2 : Ext w w2 := (((Ext.refl w).alloc (.cells (supCells sup0) 38)).trans x1).trans (((Ext.refl w1).alloc (.cells (supCells s) 38)).trans x2)
            have lq := block_lt_of_cell (sup_cells hq).1
            have lp := block_lt_of_cell (sup_cells hp).1
            simp only at lq lp
            obtain ⟨c0, c1, c2, c3, c4, c5, c6, c7, cf⟩ := sup_cells hq
            obtain ⟨d0, d1, d2, d3, d4, d5, d6, d7, df⟩ := sup_cells hp
            go_wp2_with fail
            refine bodyPost_ret (ret_sup rfl _ _ w.heap.size s true rfl ((Ext.refl _).alloc _ |>.heap (setSup_heap hp s)) rfl) rfl ?_
            exact ⟨rfl, (setSup_ext X2 (Nat.le_refl _) s).alloc _⟩
          · have hM : N = some t := by rw [hN]; unfold supNewer; simp only; rw [if_pos (by omega)]
            subst hM
            have q2 : (t.gen < s.gen) = False := eq_false q
            clear hN
            clear k0 k1 pa2 pb2 Q0 Q1 par
            rw [show supV ((some s : Option Sup).getD sup0) = supV s from rfl] at H0
            rw [show supV ((some t : Option Sup).getD sup0) = supV t from rfl] at H1
            go_enter Try.func27, Try.ntmps27
            go_wp2_with fail
            refine (H0 _).mono ?_
            rintro e w1 ⟨rfl, x1⟩
            go_wp2_with fail
            refine (H1 _).mono ?_
            rintro e w2 ⟨rfl, x2⟩
            have hq := x2.heap (heap_alloc_new w1 (.cells (supCells s) 38))
            have hp := x2.heap ((Ext.refl w1).alloc (.cells (supCells s) 38) |>.heap (x1.heap (heap_alloc_new w (.cells (supCells sup0) 38))))
            have X2 : Ext w w2 := (((Ext.refl w).alloc (.cells (supCells sup0) 38)).trans x1).trans (((Ext.refl w1).alloc (.cells (supCells s) 38)).trans x2)
            have lq := block_lt_of_cell (sup_cells hq).1
            have lp := block_lt_of_cell (sup_cells hp).1
            simp only at lq lp
            obtain ⟨c0, c1, c2, c3, c4, c5, c6, c7, cf⟩ := sup_cells hq
            obtain ⟨d0, d1, d2, d3, d4, d5, d6, d7, df⟩ := sup_cells hp
            go_wp2_with fail
            refine bodyPost_ret (ret_sup rfl _ _ w.heap.size t true rfl ((Ext.refl _).alloc _ |>.heap (setSup_heap hp t)) rfl) rfl ?_
            exact ⟨rfl, (setSup_ext X2 (Nat.le_refl _) t).alloc _⟩
    · cases o1 with
      | none =>
        have k0 : supPick (some s) 0 = none := by unfold supPick; simp only; rw [if_neg (by omega)]
        have k1 : supPick (none : Option Sup) 1 = none := rfl
        rw [k0, k1] at hN
        have hM : N = none := hN
        subst hM
        clear hN
        clear k0 k1 pa2 Q0 Q1 par
        rw [show supV ((some s : Option Sup).getD sup0) = supV s from rfl] at H0
        rw [show supV ((none : Option Sup).getD sup0) = .agg #[.int .i64 0, .int .i64 0, .int .i64 0, .int .i64 0, .int .i64 0, .int .u32 0, .int .i64 0, .int .i64 0] from rfl] at H1
        go_enter Try.func27, Try.ntmps27
        go_wp2_with fail
        refine (H0 _).mono ?_
        rintro e w1 ⟨rfl, x1⟩
        go_wp2_with fail
        refine (H1 _).mono ?_
        rintro e w2 ⟨rfl, x2⟩
        have hq := x2.heap (heap_alloc_new w1 (.cells (supCells s) 38))
        have hp := x2.heap ((Ext.refl w1).alloc (.cells (supCells s) 38) |>.heap (x1.heap (heap_alloc_new w (.cells (supCells sup0) 38))))
        have X2 : Ext w w2 := (((Ext.refl w).alloc (.cells (supCells sup0) 38)).trans x1).trans (((Ext.refl w1).alloc (.cells (supCells s) 38)).trans x2)
        have lq := block_lt_of_cell (sup_cells hq).1
        have lp := block_lt_of_cell (sup_cells hp).1
        simp only at lq lp
        obtain ⟨c0, c1, c2, c3, c4, c5, c6, c7, cf⟩ := sup_cells hq
        obtain ⟨d0, d1, d2, d3, d4, d5, d6, d7, df⟩ := sup_cells hp
        go_wp2_with fail
        refine bodyPost_ret (ret_sup rfl _ _ w.heap.size sup0 false rfl ((Ext.refl _).alloc _ |>.heap (setSup_heap hp sup0)) rfl) rfl ?_
        exact ⟨rfl, (setSup_ext X2 (Nat.le_refl _) sup0).alloc _⟩
      | some t =>
        rcases par t (Q1 t rfl) with ⟨pb, pb2⟩ | ⟨pb, pb2⟩
        · have k0 : supPick (some s) 0 = none := by unfold supPick; simp only; rw [if_neg (by omega)]
          have k1 : supPick (some t) 1 = none := by unfold supPick; simp only; rw [if_neg (by omega)]
          rw [k0, k1] at hN
          have hM : N = none := hN
          subst hM
          clear hN
          clear k0 k1 pa2 pb2 Q0 Q1 par
          rw [show supV ((some s : Option Sup).getD sup0) = supV s from rfl] at H0
          rw [show supV ((some t : Option Sup).getD sup0) = supV t from rfl] at H1
          go_enter Try.func27, Try.ntmps27
          go_wp2_with fail
          refine (H0 _).mono ?_
          rintro e w1 ⟨rfl, x1⟩
          go_wp2_with fail
          refine (H1 _).mono ?_
          rintro e w2 ⟨rfl, x2⟩
          have hq := x2.heap (heap_alloc_new w1 (.cells (supCells s) 38))
          have hp := x2.heap ((Ext.refl w1).alloc (.cells (supCells s) 38) |>.heap (x1.heap (heap_alloc_new w (.cells (supCells sup0) 38))))
          have X2 : Ext w w2 := (((Ext.refl w).alloc (.cells (supCells sup0) 38)).trans x1).trans (((Ext.refl w1).alloc (.cells (supCells s) 38)).trans x2)
          have lq := block_lt_of_cell (sup_cells hq).1
          have lp := block_lt_of_cell (sup_cells hp).1
          simp only at lq lp
          obtain ⟨c0, c1, c2, c3, c4, c5, c6, c7, cf⟩ := sup_cells hq
          obtain ⟨d0, d1, d2, d3, d4, d5, d6, d7, df⟩ := sup_cells hp
          go_wp2_with fail
          refine bodyPost_ret (ret_sup rfl _ _ w.heap.size sup0 false rfl ((Ext.refl _).alloc _ |>.heap (setSup_heap hp sup0)) rfl) rfl ?_
          exact ⟨rfl, (setSup_ext X2 (Nat.le_refl _) sup0).alloc _⟩
        · have k0 : supPick (some s) 0 = none := by unfold supPick; simp only; rw [if_neg (by omega)]
          have k1 : supPick (some t) 1 = some t := by unfold supPick; simp only; rw [if_pos (by omega)]
          rw [k0, k1] at hN
          have hM : N = some t := hN
          subst hM
          clear hN
          clear k0 k1 pa2 pb2 Q0 Q1 par
          rw [show supV ((some s : Option Sup).getD sup0) = supV s from rfl] at H0
          rw [show supV ((some t : Option Sup).getD sup0) = supV t from rfl] at H1
          go_enter Try.func27, Try.ntmps27
          go_wp2_with fail
          refine (H0 _).mono ?_
          rintro e w1 ⟨rfl, x1⟩
          go_wp2_with fail
          refine (H1 _).mono ?_
          rintro e w2 ⟨rfl, x2⟩
          have hq := x2.heap (heap_alloc_new w1 (.cells (supCells s) 38))
          have hp := x2.heap ((Ext.refl w1).alloc (.cells (supCells s) 38) |>.heap (x1.heap (heap_alloc_new w (.cells (supCells sup0) 38))))
          have X2 : Ext w w2 := (((Ext.refl w).alloc (.cells (supCells sup0) 38)).trans x1).trans (((Ext.refl w1).alloc (.cells (supCells s) 38)).trans x2)
          have lq := block_lt_of_cell (sup_cells hq).1
          have lp := block_lt_of_cell (sup_cells hp).1
          simp only at lq lp
          obtain ⟨c0, c1, c2, c3, c4, c5, c6, c7, cf⟩ := sup_cells hq
          obtain ⟨d0, d1, d2, d3, d4, d5, d6, d7, df⟩ := sup_cells hp
          go_wp2_with fail
          refine bodyPost_ret (ret_sup rfl _ _ w.heap.size t true rfl ((Ext.refl _).alloc _ |>.heap (setSup_heap hp t)) rfl) rfl ?_
          exact ⟨rfl, (setSup_ext X2 (Nat.le_refl _) t).alloc _⟩

theorem f27_any (l : List UInt8) (w : World) : Calls Try.prog 27 #[strOf l] w fun e w' => e = .returned (.tuple #[supV ((supNewest l).getD sup0), .bool (supNewest l).isSome]) ∧ Ext w w' := by
  by_cases h256 : l.length = 256
  · rw [supNewest, if_pos h256]
    exact f27_core l _ _ w h256 (fun W => f28_any _ W) (fun W => f28_any _ W) (fun s h => (get_some h).1.1) (fun s h => (get_some h).1.1)
  · rw [newest_short l h256]
    have hb : ((l.length : Int) == 256) = false := by simp; omega
    clear h256
    go_enter Try.func27, Try.ntmps27
    go_wp2_with fail
    refine bodyPost_ret (ret_sup rfl _ _ w.heap.size sup0 false rfl (heap_alloc_new w _) rfl) rfl ?_
    exact ⟨rfl, (Ext.refl w).alloc _⟩
end Go.Proofs.Ytanmjmeabcloiaa
