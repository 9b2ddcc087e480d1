/- Superblocks (layer 5): the document's Get. -/
import Derived.Test.YtanmjmeabcloiaaRg
import Derived.Test.YtanmjmeabcloiaaSq
namespace Go.Proofs.Ytanmjmeabcloiaa
open Go.RowKit
open Go.Proofs

theorem setF1 {w : World} {q : Nat} {S : Sup} (hb : w.heap[q]? = some (.cells (supCells S) 38 (0, 0))) (v : Int) : (w.setCell ⟨q, 1, none⟩ (.int .i64 v)).heap[q]? = some (.cells (supCells { S with journal := v }) 38 (0, 0)) := by
  have h := heap_setCell_same w q 1 _ _ (.int .i64 v) hb
  simp only [supCells, List.setIfInBounds_toArray, List.set_cons_succ, List.set_cons_zero] at h
  exact h
theorem setF2 {w : World} {q : Nat} {S : Sup} (hb : w.heap[q]? = some (.cells (supCells S) 38 (0, 0))) (v : Int) : (w.setCell ⟨q, 2, none⟩ (.int .i64 v)).heap[q]? = some (.cells (supCells { S with area := v }) 38 (0, 0)) := by
  have h := heap_setCell_same w q 2 _ _ (.int .i64 v) hb
  simp only [supCells, List.setIfInBounds_toArray, List.set_cons_succ, List.set_cons_zero] at h
  exact h
theorem setF3 {w : World} {q : Nat} {S : Sup} (hb : w.heap[q]? = some (.cells (supCells S) 38 (0, 0))) (v : Int) : (w.setCell ⟨q, 3, none⟩ (.int .i64 v)).heap[q]? = some (.cells (supCells { S with which := v }) 38 (0, 0)) := by
  have h := heap_setCell_same w q 3 _ _ (.int .i64 v) hb
  simp only [supCells, List.setIfInBounds_toArray, List.set_cons_succ, List.set_cons_zero] at h
  exact h
theorem setF4 {w : World} {q : Nat} {S : Sup} (hb : w.heap[q]? = some (.cells (supCells S) 38 (0, 0))) (v : Int) : (w.setCell ⟨q, 4, none⟩ (.int .i64 v)).heap[q]? = some (.cells (supCells { S with len := v }) 38 (0, 0)) := by
  have h := heap_setCell_same w q 4 _ _ (.int .i64 v) hb
  simp only [supCells, List.setIfInBounds_toArray, List.set_cons_succ, List.set_cons_zero] at h
  exact h
theorem setF5 {w : World} {q : Nat} {S : Sup} (hb : w.heap[q]? = some (.cells (supCells S) 38 (0, 0))) (v : Nat) : (w.setCell ⟨q, 5, none⟩ (.int .u32 (v : Int))).heap[q]? = some (.cells (supCells { S with sum := v }) 38 (0, 0)) := by
  have h := heap_setCell_same w q 5 _ _ (.int .u32 (v : Int)) hb
  simp only [supCells, List.setIfInBounds_toArray, List.set_cons_succ, List.set_cons_zero] at h
  exact h
theorem setF6 {w : World} {q : Nat} {S : Sup} (hb : w.heap[q]? = some (.cells (supCells S) 38 (0, 0))) (v : Int) : (w.setCell ⟨q, 6, none⟩ (.int .i64 v)).heap[q]? = some (.cells (supCells { S with epoch := v }) 38 (0, 0)) := by
  have h := heap_setCell_same w q 6 _ _ (.int .i64 v) hb
  simp only [supCells, List.setIfInBounds_toArray, List.set_cons_succ, List.set_cons_zero] at h
  exact h
theorem setF7 {w : World} {q : Nat} {S : Sup} (hb : w.heap[q]? = some (.cells (supCells S) 38 (0, 0))) (v : Int) : (w.setCell ⟨q, 7, none⟩ (.int .i64 v)).heap[q]? = some (.cells (supCells { S with start := v }) 38 (0, 0)) := by
  have h := heap_setCell_same w q 7 _ _ (.int .i64 v) hb
  simp only [supCells, List.setIfInBounds_toArray, List.set_cons_succ, List.set_cons_zero] at h
  exact h
set_option maxRecDepth 100000 in
set_option maxHeartbeats 4000000 in
theorem f28_any (l : List UInt8) (w : World) :
    Calls Try.prog 28 #[strOf l] w fun e w' => e = .returned (.tuple #[supV ((supGet l).getD sup0), .bool (supGet l).isSome]) ∧ Ext w w' := by
  by_cases h128 : l.length = 128
  · obtain ⟨R, hR⟩ : ∃ R, R = supGet l := ⟨_, rfl⟩
    rw [← hR]
    have HG := Lib.hid hR
    clear hR
    have h1 := getN_lt ((l.drop 28).take 4)
    have h2 : ((l.drop 28).take 4).length = 4 := by rw [List.length_take, List.length_drop]; omega
    rw [h2] at h1
    simp only [Nat.reducePow] at h1
    have hu : IntKind.u32.wrap (numAt l 28 4) = ((getN ((l.drop 28).take 4) : Nat) : Int) := by
      rw [numAt, i64of_small _ (by omega)]
      exact IntWalk.u32_in _ (by omega)
    have hs : (supDec l).sum < 4294967296 := h1
    have HW := fun W => f22_any (supDec l) W
    have HP := fun W => f24_right (supDec l) W hs
    have ea : supV (supDec l) = .agg #[.int .i64 (numAt l 4 8), .int .i64 (numAt l 12 4), .int .i64 (numAt l 16 4), .int .i64 (numAt l 20 4), .int .i64 (numAt l 24 4), .int .u32 ((getN ((l.drop 28).take 4) : Nat) : Int), .int .i64 (numAt l 32 4), .int .i64 (numAt l 36 4)] := rfl
    rw [ea] at HW HP
    clear ea h1 h2 hs
    obtain ⟨C0, F0, v0, g0⟩ := rget l 4 8 (by decide) (by omega)
    have s0 : ∀ w, (Instr.slice 9 (strOf l) (some (.int .i64 4)) (some (.int .i64 12)) none).run Try.prog w = .ok (strOf ((l.drop 4).take 8)) w := fun w => str_mid l 4 8 12 rfl (by omega) w
    have e0 := extract_mid l 4 8 12 rfl
    obtain ⟨C1, F1, v1, g1⟩ := rget l 12 4 (by decide) (by omega)
    have s1 : ∀ w, (Instr.slice 9 (strOf l) (some (.int .i64 12)) (some (.int .i64 16)) none).run Try.prog w = .ok (strOf ((l.drop 12).take 4)) w := fun w => str_mid l 12 4 16 rfl (by omega) w
    have e1 := extract_mid l 12 4 16 rfl
    obtain ⟨C2, F2, v2, g2⟩ := rget l 16 4 (by decide) (by omega)
    have s2 : ∀ w, (Instr.slice 9 (strOf l) (some (.int .i64 16)) (some (.int .i64 20)) none).run Try.prog w = .ok (strOf ((l.drop 16).take 4)) w := fun w => str_mid l 16 4 20 rfl (by omega) w
    have e2 := extract_mid l 16 4 20 rfl
    obtain ⟨C3, F3, v3, g3⟩ := rget l 20 4 (by decide) (by omega)
    have s3 : ∀ w, (Instr.slice 9 (strOf l) (some (.int .i64 20)) (some (.int .i64 24)) none).run Try.prog w = .ok (strOf ((l.drop 20).take 4)) w := fun w => str_mid l 20 4 24 rfl (by omega) w
    have e3 := extract_mid l 20 4 24 rfl
    obtain ⟨C4, F4, v4, g4⟩ := rget l 24 4 (by decide) (by omega)
    have s4 : ∀ w, (Instr.slice 9 (strOf l) (some (.int .i64 24)) (some (.int .i64 28)) none).run Try.prog w = .ok (strOf ((l.drop 24).take 4)) w := fun w => str_mid l 24 4 28 rfl (by omega) w
    have e4 := extract_mid l 24 4 28 rfl
    obtain ⟨C5, F5, v5, g5⟩ := rget l 28 4 (by decide) (by omega)
    have s5 : ∀ w, (Instr.slice 9 (strOf l) (some (.int .i64 28)) (some (.int .i64 32)) none).run Try.prog w = .ok (strOf ((l.drop 28).take 4)) w := fun w => str_mid l 28 4 32 rfl (by omega) w
    have e5 := extract_mid l 28 4 32 rfl
    obtain ⟨C6, F6, v6, g6⟩ := rget l 32 4 (by decide) (by omega)
    have s6 : ∀ w, (Instr.slice 9 (strOf l) (some (.int .i64 32)) (some (.int .i64 36)) none).run Try.prog w = .ok (strOf ((l.drop 32).take 4)) w := fun w => str_mid l 32 4 36 rfl (by omega) w
    have e6 := extract_mid l 32 4 36 rfl
    obtain ⟨C7, F7, v7, g7⟩ := rget l 36 4 (by decide) (by omega)
    have s7 : ∀ w, (Instr.slice 9 (strOf l) (some (.int .i64 36)) (some (.int .i64 40)) none).run Try.prog w = .ok (strOf ((l.drop 36).take 4)) w := fun w => str_mid l 36 4 40 rfl (by omega) w
    have e7 := extract_mid l 36 4 40 rfl
    generalize (l.drop 4).take 8 = B0 at v0 s0 e0
    generalize (l.drop 12).take 4 = B1 at v1 s1 e1
    generalize (l.drop 16).take 4 = B2 at v2 s2 e2
    generalize (l.drop 20).take 4 = B3 at v3 s3 e3
    generalize (l.drop 24).take 4 = B4 at v4 s4 e4
    generalize (l.drop 28).take 4 = B5 at v5 s5 e5
    generalize (l.drop 32).take 4 = B6 at v6 s6 e6
    generalize (l.drop 36).take 4 = B7 at v7 s7 e7
    have hp := heap_alloc_new w (.cells (supCells sup0) 38)
    have X0 := (Ext.refl w).alloc (.cells (supCells sup0) 38)
    go_enter Try.func28, Try.ntmps28
    go_wp2_with fail
    refine (g0 _ _ (by simp)).mono ?_
    rintro e w1 ⟨rfl, x1⟩
    have hp1 := x1.heap hp
    have X1 := X0.trans x1
    have hq1 : (w1.alloc (.cells (supCells { sup0 with gen := numAt l 4 8 }) 38)).heap[w1.heap.size]? = _ := heap_alloc_new w1 _
    have hp1' := ((Ext.refl w1).alloc (.cells (supCells { sup0 with gen := numAt l 4 8 }) 38)).heap hp1
    have Y1 := X1.alloc (.cells (supCells { sup0 with gen := numAt l 4 8 }) 38)
    have hpq : w.heap.size < w1.heap.size := Nat.lt_of_lt_of_le (by simp) x1.size
    have hwq : w.heap.size ≤ w1.heap.size := Nat.le_of_lt hpq
    clear hp X0 x1 X1 hp1
    go_wp2_with fail
    refine (g1 _ _ (by simp)).mono ?_
    rintro e w2 ⟨rfl, x2⟩
    have hp2 := x2.heap hp1'
    have hq2 := x2.heap hq1
    have X2 := Y1.trans x2
    obtain ⟨c0, c1, c2, c3, c4, c5, c6, c7, cf⟩ := sup_cells hq2
    have hn2 := setF1 hq2 (numAt l 12 4)
    have Y2 := X2.setCell (p := ⟨w1.heap.size, 1, none⟩) hwq (.int .i64 (numAt l 12 4))
    have hp2' := ((Upd.refl (fun b => b = w1.heap.size) w2).setCell (p := ⟨w1.heap.size, 1, none⟩) (.inl rfl) (.int .i64 (numAt l 12 4))).heap hp2 (by omega)
    clear hp1' hp2 hq1 x2 X2 Y1 hq2
    have hq2 := hn2
    clear hn2
    go_wp2_with fail
    refine (g2 _ _ (by simp)).mono ?_
    rintro e w3 ⟨rfl, x3⟩
    have hp3 := x3.heap hp2'
    have hq3 := x3.heap hq2
    have X3 := Y2.trans x3
    obtain ⟨c0, c1, c2, c3, c4, c5, c6, c7, cf⟩ := sup_cells hq3
    have hn3 := setF2 hq3 (numAt l 16 4)
    have Y3 := X3.setCell (p := ⟨w1.heap.size, 2, none⟩) hwq (.int .i64 (numAt l 16 4))
    have hp3' := ((Upd.refl (fun b => b = w1.heap.size) w3).setCell (p := ⟨w1.heap.size, 2, none⟩) (.inl rfl) (.int .i64 (numAt l 16 4))).heap hp3 (by omega)
    clear hp2' hp3 hq2 x3 X3 Y2 hq3
    have hq3 := hn3
    clear hn3
    go_wp2_with fail
    refine (g3 _ _ (by simp)).mono ?_
    rintro e w4 ⟨rfl, x4⟩
    have hp4 := x4.heap hp3'
    have hq4 := x4.heap hq3
    have X4 := Y3.trans x4
    obtain ⟨c0, c1, c2, c3, c4, c5, c6, c7, cf⟩ := sup_cells hq4
    have hn4 := setF3 hq4 (numAt l 20 4)
    have Y4 := X4.setCell (p := ⟨w1.heap.size, 3, none⟩) hwq (.int .i64 (numAt l 20 4))
    have hp4' := ((Upd.refl (fun b => b = w1.heap.size) w4).setCell (p := ⟨w1.heap.size, 3, none⟩) (.inl rfl) (.int .i64 (numAt l 20 4))).heap hp4 (by omega)
    clear hp3' hp4 hq3 x4 X4 Y3 hq4
    have hq4 := hn4
    clear hn4
    go_wp2_with fail
    refine (g4 _ _ (by simp)).mono ?_
    rintro e w5 ⟨rfl, x5⟩
    have hp5 := x5.heap hp4'
    have hq5 := x5.heap hq4
    have X5 := Y4.trans x5
    obtain ⟨c0, c1, c2, c3, c4, c5, c6, c7, cf⟩ := sup_cells hq5
    have hn5 := setF4 hq5 (numAt l 24 4)
    have Y5 := X5.setCell (p := ⟨w1.heap.size, 4, none⟩) hwq (.int .i64 (numAt l 24 4))
    have hp5' := ((Upd.refl (fun b => b = w1.heap.size) w5).setCell (p := ⟨w1.heap.size, 4, none⟩) (.inl rfl) (.int .i64 (numAt l 24 4))).heap hp5 (by omega)
    clear hp4' hp5 hq4 x5 X5 Y4 hq5
    have hq5 := hn5
    clear hn5
    go_wp2_with fail
    refine (g5 _ _ (by simp)).mono ?_
    rintro e w6 ⟨rfl, x6⟩
    have hp6 := x6.heap hp5'
    have hq6 := x6.heap hq5
    have X6 := Y5.trans x6
    obtain ⟨c0, c1, c2, c3, c4, c5, c6, c7, cf⟩ := sup_cells hq6
    have hn6 := setF5 hq6 (getN ((l.drop 28).take 4))
    have Y6 := X6.setCell (p := ⟨w1.heap.size, 5, none⟩) hwq (.int .u32 ((getN ((l.drop 28).take 4) : Nat) : Int))
    have hp6' := ((Upd.refl (fun b => b = w1.heap.size) w6).setCell (p := ⟨w1.heap.size, 5, none⟩) (.inl rfl) (.int .u32 ((getN ((l.drop 28).take 4) : Nat) : Int))).heap hp6 (by omega)
    clear hp5' hp6 hq5 x6 X6 Y5 hq6
    have hq6 := hn6
    clear hn6
    go_wp2_with fail
    refine (g6 _ _ (by simp)).mono ?_
    rintro e w7 ⟨rfl, x7⟩
    have hp7 := x7.heap hp6'
    have hq7 := x7.heap hq6
    have X7 := Y6.trans x7
    obtain ⟨c0, c1, c2, c3, c4, c5, c6, c7, cf⟩ := sup_cells hq7
    have hn7 := setF6 hq7 (numAt l 32 4)
    have Y7 := X7.setCell (p := ⟨w1.heap.size, 6, none⟩) hwq (.int .i64 (numAt l 32 4))
    have hp7' := ((Upd.refl (fun b => b = w1.heap.size) w7).setCell (p := ⟨w1.heap.size, 6, none⟩) (.inl rfl) (.int .i64 (numAt l 32 4))).heap hp7 (by omega)
    clear hp6' hp7 hq6 x7 X7 Y6 hq7
    have hq7 := hn7
    clear hn7
    go_wp2_with fail
    refine (g7 _ _ (by simp)).mono ?_
    rintro e w8 ⟨rfl, x8⟩
    have hp8 := x8.heap hp7'
    have hq8 := x8.heap hq7
    have X8 := Y7.trans x8
    obtain ⟨c0, c1, c2, c3, c4, c5, c6, c7, cf⟩ := sup_cells hq8
    have hn8 := setF7 hq8 (numAt l 36 4)
    have Y8 := X8.setCell (p := ⟨w1.heap.size, 7, none⟩) hwq (.int .i64 (numAt l 36 4))
    have hp8' := ((Upd.refl (fun b => b = w1.heap.size) w8).setCell (p := ⟨w1.heap.size, 7, none⟩) (.inl rfl) (.int .i64 (numAt l 36 4))).heap hp8 (by omega)
    clear hp7' hp8 hq7 x8 X8 Y7 hq8
    have hq8 := hn8
    clear hn8
    go_wp2_with fail
    have hq8' : _ = some (Obj.cells (supCells (supDec l)) 38 (0, 0)) := hq8
    clear c0 c1 c2 c3 c4 c5 c6 c7 cf hq8
    by_cases hr : supRight (supDec l)
    · rw [decide_eq_true hr] at HW
      refine (HW _).mono ?_
      rintro e w9 ⟨rfl, x9⟩
      have hp9 := x9.heap hp8'
      have hq9 := x9.heap hq8'
      have X9 := Y8.trans x9
      clear hp8' hq8' Y8 x9 v0 v1 v2 v3 v4 v5 v6 v7 s0 s1 s2 s3 s4 s5 s6 s7 e0 e1 e2 e3 e4 e5 e6 e7 g0 g1 g2 g3 g4 g5 g6 g7
      obtain ⟨c0, c1, c2, c3, c4, c5, c6, c7, cf⟩ := sup_cells hq9
      simp only [supDec] at c0 c1 c2 c3 c4 c5 c6 c7
      by_cases he : supPut (supDec l) = l
      · have hg : R = some (supDec l) := by
          rw [HG.out]
          unfold supGet
          rw [if_pos ⟨h128, hr, he⟩]
        subst hg
        rw [he] at HP
        have HP' := HP
        clear hr he HP
        go_wp2_with fail
        refine (HP' _).mono ?_
        rintro e w10 ⟨rfl, x10⟩
        have hp10 := x10.heap hp9
        have hq10 := x10.heap hq9
        clear c0 c1 c2 c3 c4 c5 c6 c7 cf
        obtain ⟨c0, c1, c2, c3, c4, c5, c6, c7, cf⟩ := sup_cells hq10
        obtain ⟨d0, d1, d2, d3, d4, d5, d6, d7, df⟩ := sup_cells hp10
        go_wp2_with fail
        refine bodyPost_ret (ret_sup rfl _ _ w.heap.size (supDec l) true rfl (setSup_heap hp10 (supDec l)) rfl) rfl ?_
        exact ⟨rfl, setSup_ext (X9.trans x10) (Nat.le_refl _) (supDec l)⟩
      · have hg : R = none := by
          rw [HG.out]
          unfold supGet
          rw [if_neg (fun e => he e.2.2)]
        subst hg
        have hne : (supPut (supDec l) == l) = false := beq_eq_false_iff_ne.2 he
        clear hr he
        generalize supPut (supDec l) = T at HP hne
        go_wp2_with fail
        refine (HP _).mono ?_
        rintro e w10 ⟨rfl, x10⟩
        have hp10 := x10.heap hp9
        clear c0 c1 c2 c3 c4 c5 c6 c7 cf
        obtain ⟨d0, d1, d2, d3, d4, d5, d6, d7, df⟩ := sup_cells hp10
        go_wp2_with fail
        refine bodyPost_ret (ret_sup rfl _ _ w.heap.size sup0 false rfl (setSup_heap hp10 sup0) rfl) rfl ?_
        exact ⟨rfl, setSup_ext (X9.trans x10) (Nat.le_refl _) sup0⟩
    · have hg : R = none := by
        rw [HG.out]
        unfold supGet
        rw [if_neg (fun e => hr e.2.1)]
      subst hg
      rw [decide_eq_false hr] at HW
      clear hr
      refine (HW _).mono ?_
      rintro e w9 ⟨rfl, x9⟩
      have hp9 := x9.heap hp8'
      obtain ⟨d0, d1, d2, d3, d4, d5, d6, d7, df⟩ := sup_cells hp9
      clear hp8' hq8' v0 v1 v2 v3 v4 v5 v6 v7 s0 s1 s2 s3 s4 s5 s6 s7 e0 e1 e2 e3 e4 e5 e6 e7 g0 g1 g2 g3 g4 g5 g6 g7 HP
      go_wp2_with fail
      refine bodyPost_ret (ret_sup rfl _ _ w.heap.size sup0 false rfl (setSup_heap hp9 sup0) rfl) rfl ?_
      exact ⟨rfl, setSup_ext (Y8.trans x9) (Nat.le_refl _) sup0⟩
  · rw [get_short l h128]
    have hb : ((l.length : Int) == 128) = false := by simp; omega
    clear h128
    go_enter Try.func28, Try.ntmps28
    go_wp2_with fail
    refine bodyPost_ret (ret_sup rfl _ _ w.heap.size sup0 false rfl (heap_alloc_new w _) rfl) rfl ?_
    exact ⟨rfl, (Ext.refl w).alloc _⟩
end Go.Proofs.Ytanmjmeabcloiaa
