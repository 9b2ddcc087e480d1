/- SuperTurns: the walk. -/
import Derived.Test.YtanmjmeabcloiaaSuN
import Derived.Test.YtanmjmeabcloiaaRn
namespace Go.Proofs.Ytanmjmeabcloiaa
open Go.RowKit
open Go.Proofs

theorem setF0 {w : World} {q : Nat} {S : Sup} (hb : w.heap[q]? = some (.cells (supCells S) 38 (0, 0))) (v : Int) : (w.setCell ⟨q, 0, none⟩ (.int .i64 v)).heap[q]? = some (.cells (supCells { S with gen := v }) 38 (0, 0)) := by
  have h := heap_setCell_same w q 0 _ _ (.int .i64 v) hb
  simp only [supCells, List.setIfInBounds_toArray, List.set_cons_zero] at h
  exact h
theorem row_octs {w : World} {g : Nat} {L : List UInt8} (h : w.heap[g]? = some (.cells (octs L).toArray 5 (0, 0))) : Octs w (some ⟨g, 0, none⟩) L := by
  have := Cells.of_block h
  unfold Octs
  simpa using this
set_option maxRecDepth 100000 in
theorem f5_early0 (n : Int) (s : Sup) (cut : Int) (w : World) (h : n < 1) :
    Calls Try.prog 5 #[.int .i64 n, supV s, .int .i64 cut] w fun e w' => e = .returned (.bool true) ∧ Ext w w' := by
  have hn1 : (n < 1) = True := eq_true h
  clear h
  go_enter Try.func5, Try.ntmps5
  go_wp2_with fail
  refine (f19_any _).mono ?_
  rintro e w1 ⟨rfl, x1⟩
  go_wp2_with fail
  refine (f19_any _).mono ?_
  rintro e w2 ⟨rfl, x2⟩
  go_wp2_with fail
  go_ret
  exact ⟨rfl, (((Ext.refl w).alloc _).trans x1).trans x2⟩
set_option maxRecDepth 100000 in
theorem f5_early1 (n : Int) (s : Sup) (cut : Int) (w : World) (h0 : ¬ n < 1) (h : 140737488355328 < n) :
    Calls Try.prog 5 #[.int .i64 n, supV s, .int .i64 cut] w fun e w' => e = .returned (.bool true) ∧ Ext w w' := by
  have hn1 : (n < 1) = False := eq_false h0
  have hn2 : (140737488355328 < n) = True := eq_true h
  clear h0
  clear h
  go_enter Try.func5, Try.ntmps5
  go_wp2_with fail
  refine (f19_any _).mono ?_
  rintro e w1 ⟨rfl, x1⟩
  go_wp2_with fail
  refine (f19_any _).mono ?_
  rintro e w2 ⟨rfl, x2⟩
  go_wp2_with fail
  go_ret
  exact ⟨rfl, (((Ext.refl w).alloc _).trans x1).trans x2⟩
set_option maxRecDepth 100000 in
theorem f5_wrong (n : Int) (s : Sup) (cut : Int) (w : World) (h1 : ¬ n < 1) (h2 : ¬ 140737488355328 < n) (hr : ¬ supRight (⟨n + 1, s.journal, s.area, s.which, s.len, s.sum, s.epoch, s.start⟩ : Sup)) :
    Calls Try.prog 5 #[.int .i64 n, supV s, .int .i64 cut] w fun e w' => e = .returned (.bool true) ∧ Ext w w' := by
  have R22 : ∀ W, Calls Try.prog 22 #[supV (⟨n + 1, s.journal, s.area, s.which, s.len, s.sum, s.epoch, s.start⟩ : Sup)] W fun e w' => e = .returned (.bool false) ∧ Ext W w' := fun W => by
    have := f22_any (⟨n + 1, s.journal, s.area, s.which, s.len, s.sum, s.epoch, s.start⟩ : Sup) W
    rw [decide_eq_false hr] at this
    exact this
  rw [show supV (⟨n + 1, s.journal, s.area, s.which, s.len, s.sum, s.epoch, s.start⟩ : Sup) = .agg #[.int .i64 (n + 1), .int .i64 s.journal, .int .i64 s.area, .int .i64 s.which, .int .i64 s.len, .int .u32 (s.sum : Int), .int .i64 s.epoch, .int .i64 s.start] from rfl] at R22
  have hw2 : IntKind.i64.wrap (n + 1) = n + 1 := IntWalk.i64_in _ (by omega)
  have hn1 : (n < 1) = False := eq_false h1
  have hn2 : (140737488355328 < n) = False := eq_false h2
  clear h1 h2 hr
  go_enter Try.func5, Try.ntmps5
  go_wp2_with fail
  refine (f19_any _).mono ?_
  rintro e w1 ⟨rfl, x1⟩
  have hp := x1.heap (heap_alloc_new w (.cells (supCells s) 38))
  have X1 := ((Ext.refl w).alloc (.cells (supCells s) 38)).trans x1
  obtain ⟨c0, c1, c2, c3, c4, c5, c6, c7, cf⟩ := sup_cells hp
  go_wp2_with fail
  refine (R22 _).mono ?_
  rintro e w2 ⟨rfl, x2⟩
  go_wp2_with fail
  go_ret
  exact ⟨rfl, (X1.setCell (p := ⟨w.heap.size, 0, none⟩) (Nat.le_refl _) (.int .i64 (n + 1))).trans x2⟩
set_option maxRecDepth 100000 in
set_option maxHeartbeats 4000000 in
theorem f5_even_x (n : Int) (s : Sup) (cut : Int) (w : World) (hs : s.sum < 4294967296) (h1 : 1 ≤ n) (h2 : n ≤ 140737488355328) (hr : supRight (⟨n + 1, s.journal, s.area, s.which, s.len, s.sum, s.epoch, s.start⟩ : Sup)) (ho : n % 2 = 0)
    (hyy : ∀ k : Nat, (cut.tmod 128 + 128).tmod 128 = (k : Int) → supNewest (img false (supPut (plainS n)) ((supPut (⟨n + 1, s.journal, s.area, s.which, s.len, s.sum, s.epoch, s.start⟩ : Sup)).take k ++ zer (128 - k))) = some (plainS n)) :
    Calls Try.prog 5 #[.int .i64 n, supV s, .int .i64 cut] w fun e w' => e = .returned (.bool true) ∧ Ext w w' := by
  obtain ⟨a0, k, ha0, ha1, ha2, ha3, ha4⟩ := round_two cut 128 (by decide)
  replace ha0 : cut.tmod 128 = a0 := ha0
  replace ha3 : (a0 + 128).tmod 128 = (k : Int) := ha3
  replace ha1 : -128 < a0 := ha1
  replace ha2 : a0 < 128 := ha2
  have hw1 : IntKind.i64.wrap (a0 + 128) = a0 + 128 := IntWalk.i64_in _ (by omega)
  have hw2 : IntKind.i64.wrap (n + 1) = n + 1 := IntWalk.i64_in _ (by omega)
  have hw3 : IntKind.i64.wrap n = n := IntWalk.i64_in _ (by omega)
  have hand : bits .and .i64 n 1 = 0 := by
    obtain ⟨m, hm⟩ : ∃ m : Nat, n = (m : Int) := ⟨n.toNat, by omega⟩
    rw [hm, and_one_nat m (by omega)]
    omega
  have N2 := hyy k (by rw [ha0]; exact ha3)
  have N1 := img_none n h1 (by omega) false ho (zer 128) (length_zer _) get_zero
  have N3 := img_some n h1 (by omega) false ho (supPut (⟨n + 1, s.journal, s.area, s.which, s.len, s.sum, s.epoch, s.start⟩ : Sup)) (length_supPut _) (⟨n + 1, s.journal, s.area, s.which, s.len, s.sum, s.epoch, s.start⟩ : Sup) (get_put _ hr hs) rfl
  have PX := fun W => f25_plain n W
  have PA := fun W => f20_right (plainS n) W (by show (0 : Nat) < 4294967296; decide) (right_plain n h1 (by omega))
  have PB := fun W => f20_right (⟨n + 1, s.journal, s.area, s.which, s.len, s.sum, s.epoch, s.start⟩ : Sup) W hs hr
  have R22 : ∀ W, Calls Try.prog 22 #[supV (⟨n + 1, s.journal, s.area, s.which, s.len, s.sum, s.epoch, s.start⟩ : Sup)] W fun e w' => e = .returned (.bool true) ∧ Ext W w' := fun W => by
    have := f22_any (⟨n + 1, s.journal, s.area, s.which, s.len, s.sum, s.epoch, s.start⟩ : Sup) W
    rw [decide_eq_true hr] at this
    exact this
  have lP := length_supPut (plainS n)
  have lB := length_supPut (⟨n + 1, s.journal, s.area, s.which, s.len, s.sum, s.epoch, s.start⟩ : Sup)
  rw [show supV (plainS n) = .agg #[.int .i64 n, .int .i64 4, .int .i64 1, .int .i64 0, .int .i64 0, .int .u32 0, .int .i64 1, .int .i64 0] from rfl] at PX PA
  rw [show supV (⟨n + 1, s.journal, s.area, s.which, s.len, s.sum, s.epoch, s.start⟩ : Sup) = .agg #[.int .i64 (n + 1), .int .i64 s.journal, .int .i64 s.area, .int .i64 s.which, .int .i64 s.len, .int .u32 (s.sum : Int), .int .i64 s.epoch, .int .i64 s.start] from rfl] at PB R22
  have hne : ((n + 1 : Int) == n) = false := beq_eq_false_iff_ne.2 (by omega)
  have hne2 : ((n : Int) == n + 1) = false := beq_eq_false_iff_ne.2 (by omega)
  generalize supPut (plainS n) = P at *
  generalize supPut (⟨n + 1, s.journal, s.area, s.which, s.len, s.sum, s.epoch, s.start⟩ : Sup) = B at *
  have J1 : splice (zer 256) 0 P = img false P (zer 128) := splice_first false P lP
  have J2 : splice (img false P (zer 128)) 128 (B.take k) = img false P (B.take k ++ zer (128 - k)) := by
    have := splice_img false P (zer 128) (B.take k) lP (by rw [List.length_take, length_zer]; omega)
    rw [show (zer 128).drop (B.take k).length = zer (128 - k) by rw [List.length_take, lB, Nat.min_eq_left (by omega), zer, zer, List.drop_replicate]] at this
    exact this
  have J3 : splice (img false P (B.take k ++ zer (128 - k))) 128 B = img false P B := by
    have := splice_img false P (B.take k ++ zer (128 - k)) B lP (by rw [List.length_append, List.length_take, length_zer]; omega)
    rw [List.drop_eq_nil_of_le (by rw [List.length_append, List.length_take, length_zer]; omega), List.append_nil] at this
    exact this
  have K1 := length_img false P (zer 128) lP (length_zer _)
  have K2 := length_img false P (B.take k ++ zer (128 - k)) lP (by rw [List.length_append, List.length_take, length_zer]; omega)
  have K3 := length_img false P B lP lB
  generalize img false P (zer 128) = I1 at N1 J1 J2 K1
  generalize img false P (B.take k ++ zer (128 - k)) = I2 at N2 J2 J3 K2
  generalize img false P B = I3 at N3 J3 K3
  have HN1 := Lib.hid N1
  have HN2 := Lib.hid N2
  have HN3 := Lib.hid N3
  have HJ1 := Lib.hid J1
  have HJ2 := Lib.hid J2
  have HJ3 := Lib.hid J3
  have HK1 := Lib.hid K1
  have HK2 := Lib.hid K2
  have HK3 := Lib.hid K3
  have HP := Lib.hid lP
  have HB := Lib.hid lB
  have HK := Lib.hid ha4
  have H2 := Lib.hid (And.intro h1 h2)
  have hn1 : (n < 1) = False := eq_false (by omega)
  have hn2 : (140737488355328 < n) = False := eq_false (by omega)
  have hmk : ∀ w : World, (Instr.makeSlice 22 (.int .i64 256) (.int .i64 256)).run Try.prog w = .ok (.slice (some ⟨w.heap.size, 0, none⟩) 256 256) (w.alloc (.cells (zeros 256) 5)) := make_octs 256 (by decide)
  clear hyy N1 N2 N3 J1 J2 J3 K1 K2 K3 lP lB ha1 ha2 ha4 h1 h2 hr ho hs
  go_enter Try.func5, Try.ntmps5
  go_wp2_with fail
  refine (f19_any _).mono ?_
  rintro e w1 ⟨rfl, x1⟩
  have hp := x1.heap (heap_alloc_new w (.cells (supCells s) 38))
  have X1 := ((Ext.refl w).alloc (.cells (supCells s) 38)).trans x1
  obtain ⟨c0, c1, c2, c3, c4, c5, c6, c7, cf⟩ := sup_cells hp
  go_wp2_with fail
  refine (R22 _).mono ?_
  rintro e w2 ⟨rfl, x2⟩
  have hp2 := x2.heap (setF0 hp (n + 1))
  have X2 := (X1.setCell (p := ⟨w.heap.size, 0, none⟩) (Nat.le_refl _) (.int .i64 (n + 1))).trans x2
  have ltp := block_lt_of_cell (sup_cells hp2).1
  simp only at ltp
  obtain ⟨p, hpe⟩ : ∃ p, w.heap.size = p := ⟨_, rfl⟩
  rw [hpe] at hp2 ltp ⊢
  have HPE := Lib.hid hpe
  clear c0 c1 c2 c3 c4 c5 c6 c7 cf hp x1 x2 X1 R22 hpe hw2
  go_wp2_with fail
  refine (PX _).mono ?_
  rintro e w3 ⟨rfl, x3⟩
  go_wp2_with fail
  refine (PA _).mono ?_
  rintro e w4 ⟨v4, rfl, o4, x4⟩
  obtain ⟨A4, e4, rfl, k4, y4⟩ := o4.octs_form
  rw [HP.out] at k4 ⊢
  have hp4 := (x3.trans x4).heap hp2
  obtain ⟨c0, c1, c2, c3, c4, c5, c6, c7, cf⟩ := sup_cells hp4
  simp only at c0 c1 c2 c3 c4 c5 c6 c7
  go_wp2_with fail
  refine (PB _).mono ?_
  rintro e w5 ⟨v5, rfl, o5, x5⟩
  obtain ⟨A5, e5, rfl, k5, y5⟩ := o5.octs_form
  rw [HB.out] at k5 ⊢
  have hp5 := x5.heap hp4
  have y45 := y4.ext x5
  have X5 := X2.trans ((x3.trans x4).trans x5)
  have g0 : (w5.alloc (.cells (zeros 256) 5)).heap[w5.heap.size]? = some (.cells (octs (zer 256)).toArray 5 (0, 0)) := by
    have : zeros 256 = (octs (zer 256)).toArray := by
      have := zeros_list 256
      rw [zer, ← this]
    rw [heap_alloc_new, this]
  have NA5 : ∀ a, A5 = some a → a.block < w5.heap.size := fun a e => (o5.block a.block (by rw [e]; rfl)).2
  have pg : p < w5.heap.size := Nat.lt_of_lt_of_le ltp ((x3.trans x4).trans x5).size
  have XA := X5.alloc (.cells (zeros 256) 5)
  have hpA := ((Ext.refl w5).alloc (.cells (zeros 256) 5)).heap hp5
  have yA := y45.ext ((Ext.refl w5).alloc (.cells (zeros 256) 5))
  have yB := y5.ext ((Ext.refl w5).alloc (.cells (zeros 256) 5))
  have wg : w.heap.size ≤ w5.heap.size := X5.size
  clear c0 c1 c2 c3 c4 c5 c6 c7 cf x3 x4 x5 o4 o5 y4 y45 y5 hp4 hp5 hp2 X2 X5 ltp PA PB
  go_wp2_with (first
    | (refine wpList_copy_upd rfl (.tmp 63) (.tmp 64) rfl _ _ _ _ _ _ rfl rfl w5.heap.size 0 (zer 256) g0 P HP.out (by decide) (fun _ => rfl) yA (by rw [HP.out, length_zer]; decide) ?_; intro w6 g6 u6; rw [HJ1.out] at g6; rw [HP.out])
    | fail)

  obtain ⟨g, hge⟩ : ∃ g, w5.heap.size = g := ⟨_, rfl⟩
  rw [hge] at g6 u6 pg NA5 wg ⊢
  have HGE := Lib.hid hge
  have h6p := u6.heap hpA (show ¬ p = g by omega)
  have h6y := yB.upd u6 (fun a e => by have := NA5 a e; omega)
  have h6X : Ext w w6 := u6.to_ext XA (fun b hb => by rw [hb]; exact wg)
  clear hge g0 hpA yB yA XA u6 hmk hand hw3 hn1 hn2
  refine (f26_any (some ⟨g, 0, none⟩) I1 256 256 _ HK1.out (by decide) (by decide) (row_octs g6)).mono ?_
  rw [HN1.out, show supV ((some (plainS n) : Option Sup).getD sup0) = .agg #[.int .i64 n, .int .i64 4, .int .i64 1, .int .i64 0, .int .i64 0, .int .u32 0, .int .i64 1, .int .i64 0] from rfl]
  rintro e w7 ⟨rfl, x7⟩
  go_wp2_with fail
  have e7 : Ext w6 (w7.alloc (.cells #[.int .i64 n, .int .i64 4, .int .i64 1, .int .i64 0, .int .i64 0, .int .u32 0, .int .i64 1, .int .i64 0] 38)) := x7.alloc _
  have h7x : (w7.alloc (.cells #[.int .i64 n, .int .i64 4, .int .i64 1, .int .i64 0, .int .i64 0, .int .u32 0, .int .i64 1, .int .i64 0] 38)).heap[w7.heap.size]? = some (.cells (supCells (plainS n)) 38 (0, 0)) := heap_alloc_new w7 _
  have h7g := e7.heap g6
  have h7p := e7.heap h6p
  have h7y := h6y.ext e7
  have h7X := h6X.trans e7
  have gx : g < w7.heap.size := Nat.lt_of_lt_of_le (Array.getElem?_eq_some_iff.1 g6).1 x7.size
  obtain ⟨qx, hqx⟩ : ∃ q, w7.heap.size = q := ⟨_, rfl⟩
  rw [hqx] at h7x gx ⊢
  have HQX := Lib.hid hqx
  clear x7 hqx g6 h6p h6y h6X e7
  generalize w7.alloc (.cells #[.int .i64 n, .int .i64 4, .int .i64 1, .int .i64 0, .int .i64 0, .int .u32 0, .int .i64 1, .int .i64 0] 38) = w8 at *
  obtain ⟨B5, s1, _, s3, _⟩ := cut_hi A5 B e5 k (by rw [HB.out]; have := HK.out; omega) (by rw [HB.out]; exact k5)
  rw [HB.out] at s1
  have yBk := s3 _ h7y
  have lBk : Hid ((B.take k).length = k) := Lib.hid (by rw [List.length_take, HB.out]; have := HK.out; omega)
  have hk128 : k ≤ 128 := by have := HK.out; omega
  clear s3
  have hwq : IntKind.i64.wrap 128 = 128 := by decide
  refine wp_region_held_drew (S := fun _ => True) (by kernel_rfl) (trivial) (fun hS => ?_)
  refine takeH (i := 0) (v := ?_) rfl rfl (by kernel_rfl) (by kernel_rfl) (by kernel_rfl) (fun _ _ _ h => h) (Or.inl ⟨by kernel_rfl, ?_⟩) hS ?_
  rotate_left 1
  · (intro w' hS'; go_simp; try (with_reducible rfl))
  simp only [List.setIfInBounds_toArray, List.set_cons_succ, List.set_cons_zero]
  refine takeH (i := 1) (v := ?_) rfl rfl (by kernel_rfl) (by kernel_rfl) (by kernel_rfl) (fun _ _ _ h => h) (Or.inl ⟨by kernel_rfl, ?_⟩) hS ?_
  rotate_left 1
  · (intro w' hS'; go_simp; try (with_reducible rfl))
  simp only [List.setIfInBounds_toArray, List.set_cons_succ, List.set_cons_zero]
  refine takeH (i := 2) (v := ?_) rfl rfl (by kernel_rfl) (by kernel_rfl) (by kernel_rfl) (fun _ _ _ h => h) (Or.inl ⟨by kernel_rfl, ?_⟩) hS ?_
  rotate_left 1
  · (intro w' hS'; go_simp; try (with_reducible rfl))
  simp only [List.setIfInBounds_toArray, List.set_cons_succ, List.set_cons_zero]
  refine takeH (i := 3) (v := ?_) rfl rfl (by kernel_rfl) (by kernel_rfl) (by kernel_rfl) (fun _ _ _ h => h) (Or.inl ⟨by kernel_rfl, ?_⟩) hS ?_
  rotate_left 1
  · (intro w' hS'; go_simp; try (with_reducible rfl))
  simp only [List.setIfInBounds_toArray, List.set_cons_succ, List.set_cons_zero]
  refine takeH (i := 4) (v := ?_) rfl rfl (by kernel_rfl) (by kernel_rfl) (by kernel_rfl) (fun _ _ _ h => h) (Or.inl ⟨by kernel_rfl, ?_⟩) hS ?_
  rotate_left 1
  · (intro w' hS'; go_simp; try (with_reducible rfl))
  simp only [List.setIfInBounds_toArray, List.set_cons_succ, List.set_cons_zero]
  refine takeH (i := 5) (v := ?_) rfl rfl (by kernel_rfl) (by kernel_rfl) (by kernel_rfl) (fun _ _ _ h => h) (Or.inl ⟨by kernel_rfl, ?_⟩) hS ?_
  rotate_left 1
  · (intro w' hS'; go_simp; try (with_reducible rfl))
  simp only [List.setIfInBounds_toArray, List.set_cons_succ, List.set_cons_zero]
  refine takeH (i := 6) (v := ?_) rfl rfl (by kernel_rfl) (by kernel_rfl) (by kernel_rfl) (fun _ _ _ h => h) (Or.inl ⟨by kernel_rfl, ?_⟩) hS ?_
  rotate_left 1
  · (intro w' hS'; go_simp; try (with_reducible rfl))
  simp only [List.setIfInBounds_toArray, List.set_cons_succ, List.set_cons_zero]
  refine takeH (i := 7) (v := ?_) rfl rfl (by kernel_rfl) (by kernel_rfl) (by kernel_rfl) (fun _ _ _ h => h) (Or.inl ⟨by kernel_rfl, ?_⟩) hS ?_
  rotate_left 1
  · (intro w' hS'; go_simp; try (with_reducible rfl))
  simp only [List.setIfInBounds_toArray, List.set_cons_succ, List.set_cons_zero]
  refine takeH (i := 8) (v := ?_) rfl rfl (by kernel_rfl) (by kernel_rfl) (by kernel_rfl) (fun _ _ _ h => h) (Or.inl ⟨by kernel_rfl, ?_⟩) hS ?_
  rotate_left 1
  · (intro w' hS'; go_simp; try (with_reducible rfl))
  simp only [List.setIfInBounds_toArray, List.set_cons_succ, List.set_cons_zero]
  refine takeH (i := 9) (v := ?_) rfl rfl (by kernel_rfl) (by kernel_rfl) (by kernel_rfl) (fun _ _ _ h => h) (Or.inl ⟨by kernel_rfl, ?_⟩) hS ?_
  rotate_left 1
  · (intro w' hS'; go_simp; try (with_reducible rfl))
  simp only [List.setIfInBounds_toArray, List.set_cons_succ, List.set_cons_zero]
  refine wpAnyH_ready (rs := [10]) (by kernel_rfl) (by simp) ?_
  refine AllReadyH.cons rfl (fun K hK => ?_) ?_
  rotate_left 1
  · exact AllReadyH.nil
  refine step_copy_upd rfl (.tmp 74) (.tmp 80) rfl _ _ _ _ _ _ rfl rfl g 128 I1 h7g (B.take k) lBk.out (by omega) (fun _ => rfl) (Octs.drew yBk) (by rw [lBk.out, HK1.out]; omega) ?_; intro w9 g9 u9; rw [HJ2.out] at g9; rw [lBk.out]
  try go_simp
  refine hK.out _ _ (trivial) (fun hS => ?_)
  clear hK K
  refine wpAnyH_done (by kernel_rfl) ?_ _
  have h9p := u9.heap (w := w8.drew) h7p (show ¬ p = g by omega)
  have h9x := u9.heap (w := w8.drew) h7x (show ¬ qx = g by omega)
  have h9y := (Octs.drew h7y).upd u9 (fun a e => by have := NA5 a e; omega)
  have h9X : Ext w w9 := u9.to_ext h7X.drew (fun b hb => by rw [hb]; exact wg)
  clear h7p h7x h7y h7X h7g u9 yBk s1 lBk hS
  go_wp2_with fail
  refine (f26_any (some ⟨g, 0, none⟩) I2 256 256 _ HK2.out (by decide) (by decide) (row_octs g9)).mono ?_
  rw [HN2.out, show supV ((some (plainS n) : Option Sup).getD sup0) = .agg #[.int .i64 n, .int .i64 4, .int .i64 1, .int .i64 0, .int .i64 0, .int .u32 0, .int .i64 1, .int .i64 0] from rfl]
  rintro e w10 ⟨rfl, x10⟩
  have e10 : Ext w9 (w10.alloc (.cells #[.int .i64 n, .int .i64 4, .int .i64 1, .int .i64 0, .int .i64 0, .int .u32 0, .int .i64 1, .int .i64 0] 38)) := x10.alloc _
  have h10y' : (w10.alloc (.cells #[.int .i64 n, .int .i64 4, .int .i64 1, .int .i64 0, .int .i64 0, .int .u32 0, .int .i64 1, .int .i64 0] 38)).heap[w10.heap.size]? = some (.cells (supCells (plainS n)) 38 (0, 0)) := heap_alloc_new w10 _
  have h10g := e10.heap g9
  have h10p := e10.heap h9p
  have h10x := e10.heap h9x
  have h10y := h9y.ext e10
  have h10X := h9X.trans e10
  have k10 := conv_str (some ⟨g, 0, none⟩) I2 256 256 _ HK2.out (row_octs h10g)
  have gy : g < w10.heap.size := Nat.lt_of_lt_of_le (Array.getElem?_eq_some_iff.1 g9).1 x10.size
  clear x10 g9 h9p h9x h9y h9X e10
  go_wp2_with fail
  refine (f27_any I2 _).mono ?_
  rw [HN2.out, show supV ((some (plainS n) : Option Sup).getD sup0) = .agg #[.int .i64 n, .int .i64 4, .int .i64 1, .int .i64 0, .int .i64 0, .int .u32 0, .int .i64 1, .int .i64 0] from rfl]
  rintro e w12 ⟨rfl, x12⟩
  clear k10
  have e12 : Ext (w10.alloc (.cells #[.int .i64 n, .int .i64 4, .int .i64 1, .int .i64 0, .int .i64 0, .int .u32 0, .int .i64 1, .int .i64 0] 38)) (w12.alloc (.cells #[.int .i64 n, .int .i64 4, .int .i64 1, .int .i64 0, .int .i64 0, .int .u32 0, .int .i64 1, .int .i64 0] 38)) := x12.alloc _
  have h12w : (w12.alloc (.cells #[.int .i64 n, .int .i64 4, .int .i64 1, .int .i64 0, .int .i64 0, .int .u32 0, .int .i64 1, .int .i64 0] 38)).heap[w12.heap.size]? = some (.cells (supCells (plainS n)) 38 (0, 0)) := heap_alloc_new w12 _
  have h12g := e12.heap h10g
  have h12p := e12.heap h10p
  have h12x := e12.heap h10x
  have h12y' := e12.heap h10y'
  have h12y := h10y.ext e12
  have h12X := h10X.trans e12
  have gw : g < w12.heap.size := Nat.lt_of_lt_of_le gy (Nat.le_trans (by simp) x12.size)
  clear x12 h10g h10p h10x h10y' h10y h10X e12
  go_wp2_with (first
    | (refine wpList_copy_upd rfl (.tmp 96) (.tmp 97) rfl _ _ _ _ _ _ rfl rfl g 128 I2 h12g B HB.out (by decide) (fun _ => rfl) h12y (by rw [HB.out, HK2.out]; decide) ?_; intro w13 g13 u13; rw [HJ3.out] at g13; rw [HB.out])
    | fail)
  have h13p := u13.heap h12p (show ¬ p = g by omega)
  have h13x := u13.heap h12x (show ¬ qx = g by omega)
  have h13y := u13.heap h12y' (show ¬ w10.heap.size = g by omega)
  have h13w := u13.heap h12w (show ¬ w12.heap.size = g by omega)
  have h13X : Ext w w13 := u13.to_ext h12X (fun b hb => by rw [hb]; exact wg)
  clear h12g h12p h12x h12y' h12y h12w h12X u13
  refine (f26_any (some ⟨g, 0, none⟩) I3 256 256 _ HK3.out (by decide) (by decide) (row_octs g13)).mono ?_
  rw [HN3.out, show supV ((some (⟨n + 1, s.journal, s.area, s.which, s.len, s.sum, s.epoch, s.start⟩ : Sup) : Option Sup).getD sup0) = .agg #[.int .i64 (n + 1), .int .i64 s.journal, .int .i64 s.area, .int .i64 s.which, .int .i64 s.len, .int .u32 (s.sum : Int), .int .i64 s.epoch, .int .i64 s.start] from rfl]
  rintro e w14 ⟨rfl, x14⟩
  go_wp2_with fail
  have e14 : Ext w13 (w14.alloc (.cells #[.int .i64 (n + 1), .int .i64 s.journal, .int .i64 s.area, .int .i64 s.which, .int .i64 s.len, .int .u32 (s.sum : Int), .int .i64 s.epoch, .int .i64 s.start] 38)) := x14.alloc _
  have hz : (w14.alloc (.cells #[.int .i64 (n + 1), .int .i64 s.journal, .int .i64 s.area, .int .i64 s.which, .int .i64 s.len, .int .u32 (s.sum : Int), .int .i64 s.epoch, .int .i64 s.start] 38)).heap[w14.heap.size]? = some (.cells (supCells (⟨n + 1, s.journal, s.area, s.which, s.len, s.sum, s.epoch, s.start⟩ : Sup)) 38 (0, 0)) := heap_alloc_new w14 _
  have hp14 := e14.heap h13p
  have hx14 := e14.heap h13x
  have hy14 := e14.heap h13y
  have hw14 := e14.heap h13w
  have X14 := h13X.trans e14
  obtain ⟨qy, hqy⟩ : ∃ q, w10.heap.size = q := ⟨_, rfl⟩
  obtain ⟨qw, hqw⟩ : ∃ q, w12.heap.size = q := ⟨_, rfl⟩
  obtain ⟨qz, hqz⟩ : ∃ q, w14.heap.size = q := ⟨_, rfl⟩
  rw [hqy] at hy14 ⊢
  rw [hqw] at hw14 ⊢
  rw [hqz] at hz ⊢
  clear hqy hqw hqz gy gw gx e14 x14 h13p h13x h13y h13w h13X g13
  generalize w14.alloc (.cells #[.int .i64 (n + 1), .int .i64 s.journal, .int .i64 s.area, .int .i64 s.which, .int .i64 s.len, .int .u32 (s.sum : Int), .int .i64 s.epoch, .int .i64 s.start] 38) = w15 at *
  refine wp_region_held_drew (S := fun w' => Ext w15 w') (by kernel_rfl) ((Ext.refl _).drew) (fun hS => ?_)
  refine takeH (i := 0) (v := ?_) rfl rfl (by kernel_rfl) (by kernel_rfl) (by kernel_rfl) (fun _ _ _ h => h) (Or.inl ⟨by kernel_rfl, ?_⟩) hS ?_
  rotate_left 1
  · (intro w' hS'; go_simp; try (with_reducible rfl))
  simp only [List.setIfInBounds_toArray, List.set_cons_succ, List.set_cons_zero]
  refine takeH (i := 1) (v := ?_) rfl rfl (by kernel_rfl) (by kernel_rfl) (by kernel_rfl) (fun _ _ _ h => h) (Or.inl ⟨by kernel_rfl, ?_⟩) hS ?_
  rotate_left 1
  · (intro w' hS'; go_simp; try (with_reducible rfl))
  simp only [List.setIfInBounds_toArray, List.set_cons_succ, List.set_cons_zero]
  refine takeH (i := 2) (v := ?_) rfl rfl (by kernel_rfl) (by kernel_rfl) (by kernel_rfl) (fun _ _ _ h => h) (Or.inl ⟨by kernel_rfl, ?_⟩) hS ?_
  rotate_left 1
  · (intro w' hS'; go_simp; try (with_reducible rfl))
  simp only [List.setIfInBounds_toArray, List.set_cons_succ, List.set_cons_zero]
  refine takeH (i := 3) (v := ?_) rfl rfl (by kernel_rfl) (by kernel_rfl) (by kernel_rfl) (fun _ _ _ h => h) (Or.inl ⟨by kernel_rfl, ?_⟩) hS ?_
  rotate_left 1
  · (intro w' hS'; go_simp; try (with_reducible rfl))
  simp only [List.setIfInBounds_toArray, List.set_cons_succ, List.set_cons_zero]
  refine takeH (i := 4) (v := ?_) rfl rfl (by kernel_rfl) (by kernel_rfl) (by kernel_rfl) (fun _ _ _ h => h) (Or.inl ⟨by kernel_rfl, ?_⟩) hS ?_
  rotate_left 1
  · (intro w' hS'; go_simp; try (with_reducible rfl))
  simp only [List.setIfInBounds_toArray, List.set_cons_succ, List.set_cons_zero]
  refine takeH (i := 5) (v := ?_) rfl rfl (by kernel_rfl) (by kernel_rfl) (by kernel_rfl) (fun _ _ _ h => h) (Or.inl ⟨by kernel_rfl, ?_⟩) hS ?_
  rotate_left 1
  · (intro w' hS'; go_simp; try (with_reducible rfl))
  simp only [List.setIfInBounds_toArray, List.set_cons_succ, List.set_cons_zero]
  refine takeH (i := 6) (v := ?_) rfl rfl (by kernel_rfl) (by kernel_rfl) (by kernel_rfl) (fun _ _ _ h => h) (Or.inl ⟨by kernel_rfl, ?_⟩) hS ?_
  rotate_left 1
  · (intro w' hS'; go_simp; try (with_reducible rfl))
  simp only [List.setIfInBounds_toArray, List.set_cons_succ, List.set_cons_zero]
  refine takeH (i := 7) (v := ?_) rfl rfl (by kernel_rfl) (by kernel_rfl) (by kernel_rfl) (fun _ _ _ h => h) (Or.inl ⟨by kernel_rfl, ?_⟩) hS ?_
  rotate_left 1
  · (intro w' hS'; obtain ⟨c0, c1, c2, c3, c4, c5, c6, c7, cf⟩ := sup_cells (s := plainS n) (hS'.heap hx14); simp only [plainS] at c0 c1 c2 c3 c4 c5 c6 c7; go_simp; try (with_reducible rfl))
  simp only [List.setIfInBounds_toArray, List.set_cons_succ, List.set_cons_zero]
  refine takeH (i := 8) (v := ?_) rfl rfl (by kernel_rfl) (by kernel_rfl) (by kernel_rfl) (fun _ _ _ h => h) (Or.inl ⟨by kernel_rfl, ?_⟩) hS ?_
  rotate_left 1
  · (intro w' hS'; go_simp; try (with_reducible rfl))
  simp only [List.setIfInBounds_toArray, List.set_cons_succ, List.set_cons_zero]
  refine wpAnyH_ready (rs := [9]) (by kernel_rfl) (by simp) ?_
  refine AllReadyH.cons rfl (fun K hK => ?_) ?_
  rotate_left 1
  · exact AllReadyH.nil
  go_simp
  refine (PX _).mono ?_; rintro e w16 ⟨rfl, x16⟩
  refine hK.out _ _ (hS.trans x16) (fun hS => ?_)
  clear hK K
  refine takeH (i := 10) (v := ?_) rfl rfl (by kernel_rfl) (by kernel_rfl) (by kernel_rfl) (fun _ _ _ h => h) (Or.inl ⟨by kernel_rfl, ?_⟩) hS ?_
  rotate_left 1
  · (intro w' hS'; go_simp; try (with_reducible rfl))
  simp only [List.setIfInBounds_toArray, List.set_cons_succ, List.set_cons_zero]
  refine takeH (i := 11) (v := ?_) rfl rfl (by kernel_rfl) (by kernel_rfl) (by kernel_rfl) (fun _ _ _ h => h) (Or.inl ⟨by kernel_rfl, ?_⟩) hS ?_
  rotate_left 1
  · (intro w' hS'; go_simp; try (with_reducible rfl))
  simp only [List.setIfInBounds_toArray, List.set_cons_succ, List.set_cons_zero]
  refine takeH (i := 12) (v := ?_) rfl rfl (by kernel_rfl) (by kernel_rfl) (by kernel_rfl) (fun _ _ _ h => h) (Or.inl ⟨by kernel_rfl, ?_⟩) hS ?_
  rotate_left 1
  · (intro w' hS'; go_simp; try (with_reducible rfl))
  simp only [List.setIfInBounds_toArray, List.set_cons_succ, List.set_cons_zero]
  refine takeH (i := 13) (v := ?_) rfl rfl (by kernel_rfl) (by kernel_rfl) (by kernel_rfl) (fun _ _ _ h => h) (Or.inl ⟨by kernel_rfl, ?_⟩) hS ?_
  rotate_left 1
  · (intro w' hS'; obtain ⟨c0, c1, c2, c3, c4, c5, c6, c7, cf⟩ := sup_cells (s := (⟨n + 1, s.journal, s.area, s.which, s.len, s.sum, s.epoch, s.start⟩ : Sup)) (hS'.heap hz); simp only at c0 c1 c2 c3 c4 c5 c6 c7; go_simp; try (with_reducible rfl))
  simp only [List.setIfInBounds_toArray, List.set_cons_succ, List.set_cons_zero]
  refine takeH (i := 14) (v := ?_) rfl rfl (by kernel_rfl) (by kernel_rfl) (by kernel_rfl) (fun _ _ _ h => h) (Or.inl ⟨by kernel_rfl, ?_⟩) hS ?_
  rotate_left 1
  · (intro w' hS'; obtain ⟨c0, c1, c2, c3, c4, c5, c6, c7, cf⟩ := sup_cells (s := (⟨n + 1, s.journal, s.area, s.which, s.len, s.sum, s.epoch, s.start⟩ : Sup)) (hS'.heap hp14); simp only at c0 c1 c2 c3 c4 c5 c6 c7; go_simp; try (with_reducible rfl))
  simp only [List.setIfInBounds_toArray, List.set_cons_succ, List.set_cons_zero]
  refine takeH (i := 15) (v := ?_) rfl rfl (by kernel_rfl) (by kernel_rfl) (by kernel_rfl) (fun _ _ _ h => h) (Or.inl ⟨by kernel_rfl, ?_⟩) hS ?_
  rotate_left 1
  · (intro w' hS'; go_simp; try (with_reducible rfl))
  simp only [List.setIfInBounds_toArray, List.set_cons_succ, List.set_cons_zero]
  refine takeH (i := 16) (v := ?_) rfl rfl (by kernel_rfl) (by kernel_rfl) (by kernel_rfl) (fun _ _ _ h => h) (Or.inl ⟨by kernel_rfl, ?_⟩) hS ?_
  rotate_left 1
  · (intro w' hS'; go_simp; try (with_reducible rfl))
  simp only [List.setIfInBounds_toArray, List.set_cons_succ, List.set_cons_zero]
  refine wpAnyH_done (by kernel_rfl) ?_ _
  have hp16 := hS.heap hp14
  have hx16 := hS.heap hx14
  have hy16 := hS.heap hy14
  have hw16 := hS.heap hw14
  obtain ⟨c0, c1, c2, c3, c4, c5, c6, c7, cf⟩ := sup_cells (s := plainS n) hx16
  obtain ⟨d0, d1, d2, d3, d4, d5, d6, d7, df⟩ := sup_cells (s := (⟨n + 1, s.journal, s.area, s.which, s.len, s.sum, s.epoch, s.start⟩ : Sup)) hp16
  obtain ⟨i0, i1, i2, i3, i4, i5, i6, i7, jf⟩ := sup_cells (s := (plainS n)) hy16
  obtain ⟨j0, j1, j2, j3, j4, j5, j6, j7, kf⟩ := sup_cells (s := (plainS n)) hw16
  simp only [plainS] at c0 c1 c2 c3 c4 c5 c6 c7 d0 d1 d2 d3 d4 d5 d6 d7 i0 i1 i2 i3 i4 i5 i6 i7 j0 j1 j2 j3 j4 j5 j6 j7
  go_wp2_with fail
  all_goals
    go_ret
    refine ⟨ret_bool ?_, X14.trans hS⟩
    first
      | rfl
      | simp
set_option maxRecDepth 100000 in
set_option maxHeartbeats 4000000 in
theorem f5_even_s (n : Int) (s : Sup) (cut : Int) (w : World) (hs : s.sum < 4294967296) (h1 : 1 ≤ n) (h2 : n ≤ 140737488355328) (hr : supRight (⟨n + 1, s.journal, s.area, s.which, s.len, s.sum, s.epoch, s.start⟩ : Sup)) (ho : n % 2 = 0)
    (hyy : ∀ k : Nat, (cut.tmod 128 + 128).tmod 128 = (k : Int) → supNewest (img false (supPut (plainS n)) ((supPut (⟨n + 1, s.journal, s.area, s.which, s.len, s.sum, s.epoch, s.start⟩ : Sup)).take k ++ zer (128 - k))) = some (⟨n + 1, s.journal, s.area, s.which, s.len, s.sum, s.epoch, s.start⟩ : Sup)) :
    Calls Try.prog 5 #[.int .i64 n, supV s, .int .i64 cut] w fun e w' => e = .returned (.bool true) ∧ Ext w w' := by
  obtain ⟨a0, k, ha0, ha1, ha2, ha3, ha4⟩ := round_two cut 128 (by decide)
  replace ha0 : cut.tmod 128 = a0 := ha0
  replace ha3 : (a0 + 128).tmod 128 = (k : Int) := ha3
  replace ha1 : -128 < a0 := ha1
  replace ha2 : a0 < 128 := ha2
  have hw1 : IntKind.i64.wrap (a0 + 128) = a0 + 128 := IntWalk.i64_in _ (by omega)
  have hw2 : IntKind.i64.wrap (n + 1) = n + 1 := IntWalk.i64_in _ (by omega)
  have hw3 : IntKind.i64.wrap n = n := IntWalk.i64_in _ (by omega)
  have hand : bits .and .i64 n 1 = 0 := by
    obtain ⟨m, hm⟩ : ∃ m : Nat, n = (m : Int) := ⟨n.toNat, by omega⟩
    rw [hm, and_one_nat m (by omega)]
    omega
  have N2 := hyy k (by rw [ha0]; exact ha3)
  have N1 := img_none n h1 (by omega) false ho (zer 128) (length_zer _) get_zero
  have N3 := img_some n h1 (by omega) false ho (supPut (⟨n + 1, s.journal, s.area, s.which, s.len, s.sum, s.epoch, s.start⟩ : Sup)) (length_supPut _) (⟨n + 1, s.journal, s.area, s.which, s.len, s.sum, s.epoch, s.start⟩ : Sup) (get_put _ hr hs) rfl
  have PX := fun W => f25_plain n W
  have PA := fun W => f20_right (plainS n) W (by show (0 : Nat) < 4294967296; decide) (right_plain n h1 (by omega))
  have PB := fun W => f20_right (⟨n + 1, s.journal, s.area, s.which, s.len, s.sum, s.epoch, s.start⟩ : Sup) W hs hr
  have R22 : ∀ W, Calls Try.prog 22 #[supV (⟨n + 1, s.journal, s.area, s.which, s.len, s.sum, s.epoch, s.start⟩ : Sup)] W fun e w' => e = .returned (.bool true) ∧ Ext W w' := fun W => by
    have := f22_any (⟨n + 1, s.journal, s.area, s.which, s.len, s.sum, s.epoch, s.start⟩ : Sup) W
    rw [decide_eq_true hr] at this
    exact this
  have lP := length_supPut (plainS n)
  have lB := length_supPut (⟨n + 1, s.journal, s.area, s.which, s.len, s.sum, s.epoch, s.start⟩ : Sup)
  rw [show supV (plainS n) = .agg #[.int .i64 n, .int .i64 4, .int .i64 1, .int .i64 0, .int .i64 0, .int .u32 0, .int .i64 1, .int .i64 0] from rfl] at PX PA
  rw [show supV (⟨n + 1, s.journal, s.area, s.which, s.len, s.sum, s.epoch, s.start⟩ : Sup) = .agg #[.int .i64 (n + 1), .int .i64 s.journal, .int .i64 s.area, .int .i64 s.which, .int .i64 s.len, .int .u32 (s.sum : Int), .int .i64 s.epoch, .int .i64 s.start] from rfl] at PB R22
  have hne : ((n + 1 : Int) == n) = false := beq_eq_false_iff_ne.2 (by omega)
  have hne2 : ((n : Int) == n + 1) = false := beq_eq_false_iff_ne.2 (by omega)
  generalize supPut (plainS n) = P at *
  generalize supPut (⟨n + 1, s.journal, s.area, s.which, s.len, s.sum, s.epoch, s.start⟩ : Sup) = B at *
  have J1 : splice (zer 256) 0 P = img false P (zer 128) := splice_first false P lP
  have J2 : splice (img false P (zer 128)) 128 (B.take k) = img false P (B.take k ++ zer (128 - k)) := by
    have := splice_img false P (zer 128) (B.take k) lP (by rw [List.length_take, length_zer]; omega)
    rw [show (zer 128).drop (B.take k).length = zer (128 - k) by rw [List.length_take, lB, Nat.min_eq_left (by omega), zer, zer, List.drop_replicate]] at this
    exact this
  have J3 : splice (img false P (B.take k ++ zer (128 - k))) 128 B = img false P B := by
    have := splice_img false P (B.take k ++ zer (128 - k)) B lP (by rw [List.length_append, List.length_take, length_zer]; omega)
    rw [List.drop_eq_nil_of_le (by rw [List.length_append, List.length_take, length_zer]; omega), List.append_nil] at this
    exact this
  have K1 := length_img false P (zer 128) lP (length_zer _)
  have K2 := length_img false P (B.take k ++ zer (128 - k)) lP (by rw [List.length_append, List.length_take, length_zer]; omega)
  have K3 := length_img false P B lP lB
  generalize img false P (zer 128) = I1 at N1 J1 J2 K1
  generalize img false P (B.take k ++ zer (128 - k)) = I2 at N2 J2 J3 K2
  generalize img false P B = I3 at N3 J3 K3
  have HN1 := Lib.hid N1
  have HN2 := Lib.hid N2
  have HN3 := Lib.hid N3
  have HJ1 := Lib.hid J1
  have HJ2 := Lib.hid J2
  have HJ3 := Lib.hid J3
  have HK1 := Lib.hid K1
  have HK2 := Lib.hid K2
  have HK3 := Lib.hid K3
  have HP := Lib.hid lP
  have HB := Lib.hid lB
  have HK := Lib.hid ha4
  have H2 := Lib.hid (And.intro h1 h2)
  have hn1 : (n < 1) = False := eq_false (by omega)
  have hn2 : (140737488355328 < n) = False := eq_false (by omega)
  have hmk : ∀ w : World, (Instr.makeSlice 22 (.int .i64 256) (.int .i64 256)).run Try.prog w = .ok (.slice (some ⟨w.heap.size, 0, none⟩) 256 256) (w.alloc (.cells (zeros 256) 5)) := make_octs 256 (by decide)
  clear hyy N1 N2 N3 J1 J2 J3 K1 K2 K3 lP lB ha1 ha2 ha4 h1 h2 hr ho hs
  go_enter Try.func5, Try.ntmps5
  go_wp2_with fail
  refine (f19_any _).mono ?_
  rintro e w1 ⟨rfl, x1⟩
  have hp := x1.heap (heap_alloc_new w (.cells (supCells s) 38))
  have X1 := ((Ext.refl w).alloc (.cells (supCells s) 38)).trans x1
  obtain ⟨c0, c1, c2, c3, c4, c5, c6, c7, cf⟩ := sup_cells hp
  go_wp2_with fail
  refine (R22 _).mono ?_
  rintro e w2 ⟨rfl, x2⟩
  have hp2 := x2.heap (setF0 hp (n + 1))
  have X2 := (X1.setCell (p := ⟨w.heap.size, 0, none⟩) (Nat.le_refl _) (.int .i64 (n + 1))).trans x2
  have ltp := block_lt_of_cell (sup_cells hp2).1
  simp only at ltp
  obtain ⟨p, hpe⟩ : ∃ p, w.heap.size = p := ⟨_, rfl⟩
  rw [hpe] at hp2 ltp ⊢
  have HPE := Lib.hid hpe
  clear c0 c1 c2 c3 c4 c5 c6 c7 cf hp x1 x2 X1 R22 hpe hw2
  go_wp2_with fail
  refine (PX _).mono ?_
  rintro e w3 ⟨rfl, x3⟩
  go_wp2_with fail
  refine (PA _).mono ?_
  rintro e w4 ⟨v4, rfl, o4, x4⟩
  obtain ⟨A4, e4, rfl, k4, y4⟩ := o4.octs_form
  rw [HP.out] at k4 ⊢
  have hp4 := (x3.trans x4).heap hp2
  obtain ⟨c0, c1, c2, c3, c4, c5, c6, c7, cf⟩ := sup_cells hp4
  simp only at c0 c1 c2 c3 c4 c5 c6 c7
  go_wp2_with fail
  refine (PB _).mono ?_
  rintro e w5 ⟨v5, rfl, o5, x5⟩
  obtain ⟨A5, e5, rfl, k5, y5⟩ := o5.octs_form
  rw [HB.out] at k5 ⊢
  have hp5 := x5.heap hp4
  have y45 := y4.ext x5
  have X5 := X2.trans ((x3.trans x4).trans x5)
  have g0 : (w5.alloc (.cells (zeros 256) 5)).heap[w5.heap.size]? = some (.cells (octs (zer 256)).toArray 5 (0, 0)) := by
    have : zeros 256 = (octs (zer 256)).toArray := by
      have := zeros_list 256
      rw [zer, ← this]
    rw [heap_alloc_new, this]
  have NA5 : ∀ a, A5 = some a → a.block < w5.heap.size := fun a e => (o5.block a.block (by rw [e]; rfl)).2
  have pg : p < w5.heap.size := Nat.lt_of_lt_of_le ltp ((x3.trans x4).trans x5).size
  have XA := X5.alloc (.cells (zeros 256) 5)
  have hpA := ((Ext.refl w5).alloc (.cells (zeros 256) 5)).heap hp5
  have yA := y45.ext ((Ext.refl w5).alloc (.cells (zeros 256) 5))
  have yB := y5.ext ((Ext.refl w5).alloc (.cells (zeros 256) 5))
  have wg : w.heap.size ≤ w5.heap.size := X5.size
  clear c0 c1 c2 c3 c4 c5 c6 c7 cf x3 x4 x5 o4 o5 y4 y45 y5 hp4 hp5 hp2 X2 X5 ltp PA PB
  go_wp2_with (first
    | (refine wpList_copy_upd rfl (.tmp 63) (.tmp 64) rfl _ _ _ _ _ _ rfl rfl w5.heap.size 0 (zer 256) g0 P HP.out (by decide) (fun _ => rfl) yA (by rw [HP.out, length_zer]; decide) ?_; intro w6 g6 u6; rw [HJ1.out] at g6; rw [HP.out])
    | fail)

  obtain ⟨g, hge⟩ : ∃ g, w5.heap.size = g := ⟨_, rfl⟩
  rw [hge] at g6 u6 pg NA5 wg ⊢
  have HGE := Lib.hid hge
  have h6p := u6.heap hpA (show ¬ p = g by omega)
  have h6y := yB.upd u6 (fun a e => by have := NA5 a e; omega)
  have h6X : Ext w w6 := u6.to_ext XA (fun b hb => by rw [hb]; exact wg)
  clear hge g0 hpA yB yA XA u6 hmk hand hw3 hn1 hn2
  refine (f26_any (some ⟨g, 0, none⟩) I1 256 256 _ HK1.out (by decide) (by decide) (row_octs g6)).mono ?_
  rw [HN1.out, show supV ((some (plainS n) : Option Sup).getD sup0) = .agg #[.int .i64 n, .int .i64 4, .int .i64 1, .int .i64 0, .int .i64 0, .int .u32 0, .int .i64 1, .int .i64 0] from rfl]
  rintro e w7 ⟨rfl, x7⟩
  go_wp2_with fail
  have e7 : Ext w6 (w7.alloc (.cells #[.int .i64 n, .int .i64 4, .int .i64 1, .int .i64 0, .int .i64 0, .int .u32 0, .int .i64 1, .int .i64 0] 38)) := x7.alloc _
  have h7x : (w7.alloc (.cells #[.int .i64 n, .int .i64 4, .int .i64 1, .int .i64 0, .int .i64 0, .int .u32 0, .int .i64 1, .int .i64 0] 38)).heap[w7.heap.size]? = some (.cells (supCells (plainS n)) 38 (0, 0)) := heap_alloc_new w7 _
  have h7g := e7.heap g6
  have h7p := e7.heap h6p
  have h7y := h6y.ext e7
  have h7X := h6X.trans e7
  have gx : g < w7.heap.size := Nat.lt_of_lt_of_le (Array.getElem?_eq_some_iff.1 g6).1 x7.size
  obtain ⟨qx, hqx⟩ : ∃ q, w7.heap.size = q := ⟨_, rfl⟩
  rw [hqx] at h7x gx ⊢
  have HQX := Lib.hid hqx
  clear x7 hqx g6 h6p h6y h6X e7
  generalize w7.alloc (.cells #[.int .i64 n, .int .i64 4, .int .i64 1, .int .i64 0, .int .i64 0, .int .u32 0, .int .i64 1, .int .i64 0] 38) = w8 at *
  obtain ⟨B5, s1, _, s3, _⟩ := cut_hi A5 B e5 k (by rw [HB.out]; have := HK.out; omega) (by rw [HB.out]; exact k5)
  rw [HB.out] at s1
  have yBk := s3 _ h7y
  have lBk : Hid ((B.take k).length = k) := Lib.hid (by rw [List.length_take, HB.out]; have := HK.out; omega)
  have hk128 : k ≤ 128 := by have := HK.out; omega
  clear s3
  have hwq : IntKind.i64.wrap 128 = 128 := by decide
  refine wp_region_held_drew (S := fun _ => True) (by kernel_rfl) (trivial) (fun hS => ?_)
  refine takeH (i := 0) (v := ?_) rfl rfl (by kernel_rfl) (by kernel_rfl) (by kernel_rfl) (fun _ _ _ h => h) (Or.inl ⟨by kernel_rfl, ?_⟩) hS ?_
  rotate_left 1
  · (intro w' hS'; go_simp; try (with_reducible rfl))
  simp only [List.setIfInBounds_toArray, List.set_cons_succ, List.set_cons_zero]
  refine takeH (i := 1) (v := ?_) rfl rfl (by kernel_rfl) (by kernel_rfl) (by kernel_rfl) (fun _ _ _ h => h) (Or.inl ⟨by kernel_rfl, ?_⟩) hS ?_
  rotate_left 1
  · (intro w' hS'; go_simp; try (with_reducible rfl))
  simp only [List.setIfInBounds_toArray, List.set_cons_succ, List.set_cons_zero]
  refine takeH (i := 2) (v := ?_) rfl rfl (by kernel_rfl) (by kernel_rfl) (by kernel_rfl) (fun _ _ _ h => h) (Or.inl ⟨by kernel_rfl, ?_⟩) hS ?_
  rotate_left 1
  · (intro w' hS'; go_simp; try (with_reducible rfl))
  simp only [List.setIfInBounds_toArray, List.set_cons_succ, List.set_cons_zero]
  refine takeH (i := 3) (v := ?_) rfl rfl (by kernel_rfl) (by kernel_rfl) (by kernel_rfl) (fun _ _ _ h => h) (Or.inl ⟨by kernel_rfl, ?_⟩) hS ?_
  rotate_left 1
  · (intro w' hS'; go_simp; try (with_reducible rfl))
  simp only [List.setIfInBounds_toArray, List.set_cons_succ, List.set_cons_zero]
  refine takeH (i := 4) (v := ?_) rfl rfl (by kernel_rfl) (by kernel_rfl) (by kernel_rfl) (fun _ _ _ h => h) (Or.inl ⟨by kernel_rfl, ?_⟩) hS ?_
  rotate_left 1
  · (intro w' hS'; go_simp; try (with_reducible rfl))
  simp only [List.setIfInBounds_toArray, List.set_cons_succ, List.set_cons_zero]
  refine takeH (i := 5) (v := ?_) rfl rfl (by kernel_rfl) (by kernel_rfl) (by kernel_rfl) (fun _ _ _ h => h) (Or.inl ⟨by kernel_rfl, ?_⟩) hS ?_
  rotate_left 1
  · (intro w' hS'; go_simp; try (with_reducible rfl))
  simp only [List.setIfInBounds_toArray, List.set_cons_succ, List.set_cons_zero]
  refine takeH (i := 6) (v := ?_) rfl rfl (by kernel_rfl) (by kernel_rfl) (by kernel_rfl) (fun _ _ _ h => h) (Or.inl ⟨by kernel_rfl, ?_⟩) hS ?_
  rotate_left 1
  · (intro w' hS'; go_simp; try (with_reducible rfl))
  simp only [List.setIfInBounds_toArray, List.set_cons_succ, List.set_cons_zero]
  refine takeH (i := 7) (v := ?_) rfl rfl (by kernel_rfl) (by kernel_rfl) (by kernel_rfl) (fun _ _ _ h => h) (Or.inl ⟨by kernel_rfl, ?_⟩) hS ?_
  rotate_left 1
  · (intro w' hS'; go_simp; try (with_reducible rfl))
  simp only [List.setIfInBounds_toArray, List.set_cons_succ, List.set_cons_zero]
  refine takeH (i := 8) (v := ?_) rfl rfl (by kernel_rfl) (by kernel_rfl) (by kernel_rfl) (fun _ _ _ h => h) (Or.inl ⟨by kernel_rfl, ?_⟩) hS ?_
  rotate_left 1
  · (intro w' hS'; go_simp; try (with_reducible rfl))
  simp only [List.setIfInBounds_toArray, List.set_cons_succ, List.set_cons_zero]
  refine takeH (i := 9) (v := ?_) rfl rfl (by kernel_rfl) (by kernel_rfl) (by kernel_rfl) (fun _ _ _ h => h) (Or.inl ⟨by kernel_rfl, ?_⟩) hS ?_
  rotate_left 1
  · (intro w' hS'; go_simp; try (with_reducible rfl))
  simp only [List.setIfInBounds_toArray, List.set_cons_succ, List.set_cons_zero]
  refine wpAnyH_ready (rs := [10]) (by kernel_rfl) (by simp) ?_
  refine AllReadyH.cons rfl (fun K hK => ?_) ?_
  rotate_left 1
  · exact AllReadyH.nil
  refine step_copy_upd rfl (.tmp 74) (.tmp 80) rfl _ _ _ _ _ _ rfl rfl g 128 I1 h7g (B.take k) lBk.out (by omega) (fun _ => rfl) (Octs.drew yBk) (by rw [lBk.out, HK1.out]; omega) ?_; intro w9 g9 u9; rw [HJ2.out] at g9; rw [lBk.out]
  try go_simp
  refine hK.out _ _ (trivial) (fun hS => ?_)
  clear hK K
  refine wpAnyH_done (by kernel_rfl) ?_ _
  have h9p := u9.heap (w := w8.drew) h7p (show ¬ p = g by omega)
  have h9x := u9.heap (w := w8.drew) h7x (show ¬ qx = g by omega)
  have h9y := (Octs.drew h7y).upd u9 (fun a e => by have := NA5 a e; omega)
  have h9X : Ext w w9 := u9.to_ext h7X.drew (fun b hb => by rw [hb]; exact wg)
  clear h7p h7x h7y h7X h7g u9 yBk s1 lBk hS
  go_wp2_with fail
  refine (f26_any (some ⟨g, 0, none⟩) I2 256 256 _ HK2.out (by decide) (by decide) (row_octs g9)).mono ?_
  rw [HN2.out, show supV ((some (⟨n + 1, s.journal, s.area, s.which, s.len, s.sum, s.epoch, s.start⟩ : Sup) : Option Sup).getD sup0) = .agg #[.int .i64 (n + 1), .int .i64 s.journal, .int .i64 s.area, .int .i64 s.which, .int .i64 s.len, .int .u32 (s.sum : Int), .int .i64 s.epoch, .int .i64 s.start] from rfl]
  rintro e w10 ⟨rfl, x10⟩
  have e10 : Ext w9 (w10.alloc (.cells #[.int .i64 (n + 1), .int .i64 s.journal, .int .i64 s.area, .int .i64 s.which, .int .i64 s.len, .int .u32 (s.sum : Int), .int .i64 s.epoch, .int .i64 s.start] 38)) := x10.alloc _
  have h10y' : (w10.alloc (.cells #[.int .i64 (n + 1), .int .i64 s.journal, .int .i64 s.area, .int .i64 s.which, .int .i64 s.len, .int .u32 (s.sum : Int), .int .i64 s.epoch, .int .i64 s.start] 38)).heap[w10.heap.size]? = some (.cells (supCells (⟨n + 1, s.journal, s.area, s.which, s.len, s.sum, s.epoch, s.start⟩ : Sup)) 38 (0, 0)) := heap_alloc_new w10 _
  have h10g := e10.heap g9
  have h10p := e10.heap h9p
  have h10x := e10.heap h9x
  have h10y := h9y.ext e10
  have h10X := h9X.trans e10
  have k10 := conv_str (some ⟨g, 0, none⟩) I2 256 256 _ HK2.out (row_octs h10g)
  have gy : g < w10.heap.size := Nat.lt_of_lt_of_le (Array.getElem?_eq_some_iff.1 g9).1 x10.size
  clear x10 g9 h9p h9x h9y h9X e10
  go_wp2_with fail
  refine (f27_any I2 _).mono ?_
  rw [HN2.out, show supV ((some (⟨n + 1, s.journal, s.area, s.which, s.len, s.sum, s.epoch, s.start⟩ : Sup) : Option Sup).getD sup0) = .agg #[.int .i64 (n + 1), .int .i64 s.journal, .int .i64 s.area, .int .i64 s.which, .int .i64 s.len, .int .u32 (s.sum : Int), .int .i64 s.epoch, .int .i64 s.start] from rfl]
  rintro e w12 ⟨rfl, x12⟩
  clear k10
  have e12 : Ext (w10.alloc (.cells #[.int .i64 (n + 1), .int .i64 s.journal, .int .i64 s.area, .int .i64 s.which, .int .i64 s.len, .int .u32 (s.sum : Int), .int .i64 s.epoch, .int .i64 s.start] 38)) (w12.alloc (.cells #[.int .i64 (n + 1), .int .i64 s.journal, .int .i64 s.area, .int .i64 s.which, .int .i64 s.len, .int .u32 (s.sum : Int), .int .i64 s.epoch, .int .i64 s.start] 38)) := x12.alloc _
  have h12w : (w12.alloc (.cells #[.int .i64 (n + 1), .int .i64 s.journal, .int .i64 s.area, .int .i64 s.which, .int .i64 s.len, .int .u32 (s.sum : Int), .int .i64 s.epoch, .int .i64 s.start] 38)).heap[w12.heap.size]? = some (.cells (supCells (⟨n + 1, s.journal, s.area, s.which, s.len, s.sum, s.epoch, s.start⟩ : Sup)) 38 (0, 0)) := heap_alloc_new w12 _
  have h12g := e12.heap h10g
  have h12p := e12.heap h10p
  have h12x := e12.heap h10x
  have h12y' := e12.heap h10y'
  have h12y := h10y.ext e12
  have h12X := h10X.trans e12
  have gw : g < w12.heap.size := Nat.lt_of_lt_of_le gy (Nat.le_trans (by simp) x12.size)
  clear x12 h10g h10p h10x h10y' h10y h10X e12
  go_wp2_with (first
    | (refine wpList_copy_upd rfl (.tmp 96) (.tmp 97) rfl _ _ _ _ _ _ rfl rfl g 128 I2 h12g B HB.out (by decide) (fun _ => rfl) h12y (by rw [HB.out, HK2.out]; decide) ?_; intro w13 g13 u13; rw [HJ3.out] at g13; rw [HB.out])
    | fail)
  have h13p := u13.heap h12p (show ¬ p = g by omega)
  have h13x := u13.heap h12x (show ¬ qx = g by omega)
  have h13y := u13.heap h12y' (show ¬ w10.heap.size = g by omega)
  have h13w := u13.heap h12w (show ¬ w12.heap.size = g by omega)
  have h13X : Ext w w13 := u13.to_ext h12X (fun b hb => by rw [hb]; exact wg)
  clear h12g h12p h12x h12y' h12y h12w h12X u13
  refine (f26_any (some ⟨g, 0, none⟩) I3 256 256 _ HK3.out (by decide) (by decide) (row_octs g13)).mono ?_
  rw [HN3.out, show supV ((some (⟨n + 1, s.journal, s.area, s.which, s.len, s.sum, s.epoch, s.start⟩ : Sup) : Option Sup).getD sup0) = .agg #[.int .i64 (n + 1), .int .i64 s.journal, .int .i64 s.area, .int .i64 s.which, .int .i64 s.len, .int .u32 (s.sum : Int), .int .i64 s.epoch, .int .i64 s.start] from rfl]
  rintro e w14 ⟨rfl, x14⟩
  go_wp2_with fail
  have e14 : Ext w13 (w14.alloc (.cells #[.int .i64 (n + 1), .int .i64 s.journal, .int .i64 s.area, .int .i64 s.which, .int .i64 s.len, .int .u32 (s.sum : Int), .int .i64 s.epoch, .int .i64 s.start] 38)) := x14.alloc _
  have hz : (w14.alloc (.cells #[.int .i64 (n + 1), .int .i64 s.journal, .int .i64 s.area, .int .i64 s.which, .int .i64 s.len, .int .u32 (s.sum : Int), .int .i64 s.epoch, .int .i64 s.start] 38)).heap[w14.heap.size]? = some (.cells (supCells (⟨n + 1, s.journal, s.area, s.which, s.len, s.sum, s.epoch, s.start⟩ : Sup)) 38 (0, 0)) := heap_alloc_new w14 _
  have hp14 := e14.heap h13p
  have hx14 := e14.heap h13x
  have hy14 := e14.heap h13y
  have hw14 := e14.heap h13w
  have X14 := h13X.trans e14
  obtain ⟨qy, hqy⟩ : ∃ q, w10.heap.size = q := ⟨_, rfl⟩
  obtain ⟨qw, hqw⟩ : ∃ q, w12.heap.size = q := ⟨_, rfl⟩
  obtain ⟨qz, hqz⟩ : ∃ q, w14.heap.size = q := ⟨_, rfl⟩
  rw [hqy] at hy14 ⊢
  rw [hqw] at hw14 ⊢
  rw [hqz] at hz ⊢
  clear hqy hqw hqz gy gw gx e14 x14 h13p h13x h13y h13w h13X g13
  generalize w14.alloc (.cells #[.int .i64 (n + 1), .int .i64 s.journal, .int .i64 s.area, .int .i64 s.which, .int .i64 s.len, .int .u32 (s.sum : Int), .int .i64 s.epoch, .int .i64 s.start] 38) = w15 at *
  refine wp_region_held_drew (S := fun w' => Ext w15 w') (by kernel_rfl) ((Ext.refl _).drew) (fun hS => ?_)
  refine takeH (i := 0) (v := ?_) rfl rfl (by kernel_rfl) (by kernel_rfl) (by kernel_rfl) (fun _ _ _ h => h) (Or.inl ⟨by kernel_rfl, ?_⟩) hS ?_
  rotate_left 1
  · (intro w' hS'; go_simp; try (with_reducible rfl))
  simp only [List.setIfInBounds_toArray, List.set_cons_succ, List.set_cons_zero]
  refine takeH (i := 1) (v := ?_) rfl rfl (by kernel_rfl) (by kernel_rfl) (by kernel_rfl) (fun _ _ _ h => h) (Or.inl ⟨by kernel_rfl, ?_⟩) hS ?_
  rotate_left 1
  · (intro w' hS'; go_simp; try (with_reducible rfl))
  simp only [List.setIfInBounds_toArray, List.set_cons_succ, List.set_cons_zero]
  refine takeH (i := 2) (v := ?_) rfl rfl (by kernel_rfl) (by kernel_rfl) (by kernel_rfl) (fun _ _ _ h => h) (Or.inl ⟨by kernel_rfl, ?_⟩) hS ?_
  rotate_left 1
  · (intro w' hS'; go_simp; try (with_reducible rfl))
  simp only [List.setIfInBounds_toArray, List.set_cons_succ, List.set_cons_zero]
  refine takeH (i := 3) (v := ?_) rfl rfl (by kernel_rfl) (by kernel_rfl) (by kernel_rfl) (fun _ _ _ h => h) (Or.inl ⟨by kernel_rfl, ?_⟩) hS ?_
  rotate_left 1
  · (intro w' hS'; go_simp; try (with_reducible rfl))
  simp only [List.setIfInBounds_toArray, List.set_cons_succ, List.set_cons_zero]
  refine takeH (i := 4) (v := ?_) rfl rfl (by kernel_rfl) (by kernel_rfl) (by kernel_rfl) (fun _ _ _ h => h) (Or.inl ⟨by kernel_rfl, ?_⟩) hS ?_
  rotate_left 1
  · (intro w' hS'; go_simp; try (with_reducible rfl))
  simp only [List.setIfInBounds_toArray, List.set_cons_succ, List.set_cons_zero]
  refine takeH (i := 5) (v := ?_) rfl rfl (by kernel_rfl) (by kernel_rfl) (by kernel_rfl) (fun _ _ _ h => h) (Or.inl ⟨by kernel_rfl, ?_⟩) hS ?_
  rotate_left 1
  · (intro w' hS'; go_simp; try (with_reducible rfl))
  simp only [List.setIfInBounds_toArray, List.set_cons_succ, List.set_cons_zero]
  refine takeH (i := 6) (v := ?_) rfl rfl (by kernel_rfl) (by kernel_rfl) (by kernel_rfl) (fun _ _ _ h => h) (Or.inl ⟨by kernel_rfl, ?_⟩) hS ?_
  rotate_left 1
  · (intro w' hS'; go_simp; try (with_reducible rfl))
  simp only [List.setIfInBounds_toArray, List.set_cons_succ, List.set_cons_zero]
  refine takeH (i := 7) (v := ?_) rfl rfl (by kernel_rfl) (by kernel_rfl) (by kernel_rfl) (fun _ _ _ h => h) (Or.inl ⟨by kernel_rfl, ?_⟩) hS ?_
  rotate_left 1
  · (intro w' hS'; obtain ⟨c0, c1, c2, c3, c4, c5, c6, c7, cf⟩ := sup_cells (s := plainS n) (hS'.heap hx14); simp only [plainS] at c0 c1 c2 c3 c4 c5 c6 c7; go_simp; try (with_reducible rfl))
  simp only [List.setIfInBounds_toArray, List.set_cons_succ, List.set_cons_zero]
  refine takeH (i := 8) (v := ?_) rfl rfl (by kernel_rfl) (by kernel_rfl) (by kernel_rfl) (fun _ _ _ h => h) (Or.inl ⟨by kernel_rfl, ?_⟩) hS ?_
  rotate_left 1
  · (intro w' hS'; go_simp; try (with_reducible rfl))
  simp only [List.setIfInBounds_toArray, List.set_cons_succ, List.set_cons_zero]
  refine wpAnyH_ready (rs := [9]) (by kernel_rfl) (by simp) ?_
  refine AllReadyH.cons rfl (fun K hK => ?_) ?_
  rotate_left 1
  · exact AllReadyH.nil
  go_simp
  refine (PX _).mono ?_; rintro e w16 ⟨rfl, x16⟩
  refine hK.out _ _ (hS.trans x16) (fun hS => ?_)
  clear hK K
  refine takeH (i := 10) (v := ?_) rfl rfl (by kernel_rfl) (by kernel_rfl) (by kernel_rfl) (fun _ _ _ h => h) (Or.inl ⟨by kernel_rfl, ?_⟩) hS ?_
  rotate_left 1
  · (intro w' hS'; go_simp; try (with_reducible rfl))
  simp only [List.setIfInBounds_toArray, List.set_cons_succ, List.set_cons_zero]
  refine takeH (i := 11) (v := ?_) rfl rfl (by kernel_rfl) (by kernel_rfl) (by kernel_rfl) (fun _ _ _ h => h) (Or.inl ⟨by kernel_rfl, ?_⟩) hS ?_
  rotate_left 1
  · (intro w' hS'; go_simp; try (with_reducible rfl))
  simp only [List.setIfInBounds_toArray, List.set_cons_succ, List.set_cons_zero]
  refine takeH (i := 12) (v := ?_) rfl rfl (by kernel_rfl) (by kernel_rfl) (by kernel_rfl) (fun _ _ _ h => h) (Or.inl ⟨by kernel_rfl, ?_⟩) hS ?_
  rotate_left 1
  · (intro w' hS'; go_simp; try (with_reducible rfl))
  simp only [List.setIfInBounds_toArray, List.set_cons_succ, List.set_cons_zero]
  refine takeH (i := 13) (v := ?_) rfl rfl (by kernel_rfl) (by kernel_rfl) (by kernel_rfl) (fun _ _ _ h => h) (Or.inl ⟨by kernel_rfl, ?_⟩) hS ?_
  rotate_left 1
  · (intro w' hS'; obtain ⟨c0, c1, c2, c3, c4, c5, c6, c7, cf⟩ := sup_cells (s := (⟨n + 1, s.journal, s.area, s.which, s.len, s.sum, s.epoch, s.start⟩ : Sup)) (hS'.heap hz); simp only at c0 c1 c2 c3 c4 c5 c6 c7; go_simp; try (with_reducible rfl))
  simp only [List.setIfInBounds_toArray, List.set_cons_succ, List.set_cons_zero]
  refine takeH (i := 14) (v := ?_) rfl rfl (by kernel_rfl) (by kernel_rfl) (by kernel_rfl) (fun _ _ _ h => h) (Or.inl ⟨by kernel_rfl, ?_⟩) hS ?_
  rotate_left 1
  · (intro w' hS'; obtain ⟨c0, c1, c2, c3, c4, c5, c6, c7, cf⟩ := sup_cells (s := (⟨n + 1, s.journal, s.area, s.which, s.len, s.sum, s.epoch, s.start⟩ : Sup)) (hS'.heap hp14); simp only at c0 c1 c2 c3 c4 c5 c6 c7; go_simp; try (with_reducible rfl))
  simp only [List.setIfInBounds_toArray, List.set_cons_succ, List.set_cons_zero]
  refine takeH (i := 15) (v := ?_) rfl rfl (by kernel_rfl) (by kernel_rfl) (by kernel_rfl) (fun _ _ _ h => h) (Or.inl ⟨by kernel_rfl, ?_⟩) hS ?_
  rotate_left 1
  · (intro w' hS'; go_simp; try (with_reducible rfl))
  simp only [List.setIfInBounds_toArray, List.set_cons_succ, List.set_cons_zero]
  refine takeH (i := 16) (v := ?_) rfl rfl (by kernel_rfl) (by kernel_rfl) (by kernel_rfl) (fun _ _ _ h => h) (Or.inl ⟨by kernel_rfl, ?_⟩) hS ?_
  rotate_left 1
  · (intro w' hS'; go_simp; try (with_reducible rfl))
  simp only [List.setIfInBounds_toArray, List.set_cons_succ, List.set_cons_zero]
  refine wpAnyH_done (by kernel_rfl) ?_ _
  have hp16 := hS.heap hp14
  have hx16 := hS.heap hx14
  have hy16 := hS.heap hy14
  have hw16 := hS.heap hw14
  obtain ⟨c0, c1, c2, c3, c4, c5, c6, c7, cf⟩ := sup_cells (s := plainS n) hx16
  obtain ⟨d0, d1, d2, d3, d4, d5, d6, d7, df⟩ := sup_cells (s := (⟨n + 1, s.journal, s.area, s.which, s.len, s.sum, s.epoch, s.start⟩ : Sup)) hp16
  obtain ⟨i0, i1, i2, i3, i4, i5, i6, i7, jf⟩ := sup_cells (s := (⟨n + 1, s.journal, s.area, s.which, s.len, s.sum, s.epoch, s.start⟩ : Sup)) hy16
  obtain ⟨j0, j1, j2, j3, j4, j5, j6, j7, kf⟩ := sup_cells (s := (⟨n + 1, s.journal, s.area, s.which, s.len, s.sum, s.epoch, s.start⟩ : Sup)) hw16
  simp only [plainS] at c0 c1 c2 c3 c4 c5 c6 c7 d0 d1 d2 d3 d4 d5 d6 d7 i0 i1 i2 i3 i4 i5 i6 i7 j0 j1 j2 j3 j4 j5 j6 j7
  go_wp2_with fail
  all_goals
    go_ret
    refine ⟨ret_bool ?_, X14.trans hS⟩
    first
      | rfl
      | simp
set_option maxRecDepth 100000 in
set_option maxHeartbeats 4000000 in
theorem f5_odd_x (n : Int) (s : Sup) (cut : Int) (w : World) (hs : s.sum < 4294967296) (h1 : 1 ≤ n) (h2 : n ≤ 140737488355328) (hr : supRight (⟨n + 1, s.journal, s.area, s.which, s.len, s.sum, s.epoch, s.start⟩ : Sup)) (ho : n % 2 = 1)
    (hyy : ∀ k : Nat, (cut.tmod 128 + 128).tmod 128 = (k : Int) → supNewest (img true (supPut (plainS n)) ((supPut (⟨n + 1, s.journal, s.area, s.which, s.len, s.sum, s.epoch, s.start⟩ : Sup)).take k ++ zer (128 - k))) = some (plainS n)) :
    Calls Try.prog 5 #[.int .i64 n, supV s, .int .i64 cut] w fun e w' => e = .returned (.bool true) ∧ Ext w w' := by
  obtain ⟨a0, k, ha0, ha1, ha2, ha3, ha4⟩ := round_two cut 128 (by decide)
  replace ha0 : cut.tmod 128 = a0 := ha0
  replace ha3 : (a0 + 128).tmod 128 = (k : Int) := ha3
  replace ha1 : -128 < a0 := ha1
  replace ha2 : a0 < 128 := ha2
  have hw1 : IntKind.i64.wrap (a0 + 128) = a0 + 128 := IntWalk.i64_in _ (by omega)
  have hw2 : IntKind.i64.wrap (n + 1) = n + 1 := IntWalk.i64_in _ (by omega)
  have hw3 : IntKind.i64.wrap n = n := IntWalk.i64_in _ (by omega)
  have hand : bits .and .i64 n 1 = 1 := by
    obtain ⟨m, hm⟩ : ∃ m : Nat, n = (m : Int) := ⟨n.toNat, by omega⟩
    rw [hm, and_one_nat m (by omega)]
    omega
  have N2 := hyy k (by rw [ha0]; exact ha3)
  have N1 := img_none n h1 (by omega) true ho (zer 128) (length_zer _) get_zero
  have N3 := img_some n h1 (by omega) true ho (supPut (⟨n + 1, s.journal, s.area, s.which, s.len, s.sum, s.epoch, s.start⟩ : Sup)) (length_supPut _) (⟨n + 1, s.journal, s.area, s.which, s.len, s.sum, s.epoch, s.start⟩ : Sup) (get_put _ hr hs) rfl
  have PX := fun W => f25_plain n W
  have PA := fun W => f20_right (plainS n) W (by show (0 : Nat) < 4294967296; decide) (right_plain n h1 (by omega))
  have PB := fun W => f20_right (⟨n + 1, s.journal, s.area, s.which, s.len, s.sum, s.epoch, s.start⟩ : Sup) W hs hr
  have R22 : ∀ W, Calls Try.prog 22 #[supV (⟨n + 1, s.journal, s.area, s.which, s.len, s.sum, s.epoch, s.start⟩ : Sup)] W fun e w' => e = .returned (.bool true) ∧ Ext W w' := fun W => by
    have := f22_any (⟨n + 1, s.journal, s.area, s.which, s.len, s.sum, s.epoch, s.start⟩ : Sup) W
    rw [decide_eq_true hr] at this
    exact this
  have lP := length_supPut (plainS n)
  have lB := length_supPut (⟨n + 1, s.journal, s.area, s.which, s.len, s.sum, s.epoch, s.start⟩ : Sup)
  rw [show supV (plainS n) = .agg #[.int .i64 n, .int .i64 4, .int .i64 1, .int .i64 0, .int .i64 0, .int .u32 0, .int .i64 1, .int .i64 0] from rfl] at PX PA
  rw [show supV (⟨n + 1, s.journal, s.area, s.which, s.len, s.sum, s.epoch, s.start⟩ : Sup) = .agg #[.int .i64 (n + 1), .int .i64 s.journal, .int .i64 s.area, .int .i64 s.which, .int .i64 s.len, .int .u32 (s.sum : Int), .int .i64 s.epoch, .int .i64 s.start] from rfl] at PB R22
  have hne : ((n + 1 : Int) == n) = false := beq_eq_false_iff_ne.2 (by omega)
  have hne2 : ((n : Int) == n + 1) = false := beq_eq_false_iff_ne.2 (by omega)
  generalize supPut (plainS n) = P at *
  generalize supPut (⟨n + 1, s.journal, s.area, s.which, s.len, s.sum, s.epoch, s.start⟩ : Sup) = B at *
  have J1 : splice (zer 256) 128 P = img true P (zer 128) := splice_first true P lP
  have J2 : splice (img true P (zer 128)) 0 (B.take k) = img true P (B.take k ++ zer (128 - k)) := by
    have := splice_img true P (zer 128) (B.take k) lP (by rw [List.length_take, length_zer]; omega)
    rw [show (zer 128).drop (B.take k).length = zer (128 - k) by rw [List.length_take, lB, Nat.min_eq_left (by omega), zer, zer, List.drop_replicate]] at this
    exact this
  have J3 : splice (img true P (B.take k ++ zer (128 - k))) 0 B = img true P B := by
    have := splice_img true P (B.take k ++ zer (128 - k)) B lP (by rw [List.length_append, List.length_take, length_zer]; omega)
    rw [List.drop_eq_nil_of_le (by rw [List.length_append, List.length_take, length_zer]; omega), List.append_nil] at this
    exact this
  have K1 := length_img true P (zer 128) lP (length_zer _)
  have K2 := length_img true P (B.take k ++ zer (128 - k)) lP (by rw [List.length_append, List.length_take, length_zer]; omega)
  have K3 := length_img true P B lP lB
  generalize img true P (zer 128) = I1 at N1 J1 J2 K1
  generalize img true P (B.take k ++ zer (128 - k)) = I2 at N2 J2 J3 K2
  generalize img true P B = I3 at N3 J3 K3
  have HN1 := Lib.hid N1
  have HN2 := Lib.hid N2
  have HN3 := Lib.hid N3
  have HJ1 := Lib.hid J1
  have HJ2 := Lib.hid J2
  have HJ3 := Lib.hid J3
  have HK1 := Lib.hid K1
  have HK2 := Lib.hid K2
  have HK3 := Lib.hid K3
  have HP := Lib.hid lP
  have HB := Lib.hid lB
  have HK := Lib.hid ha4
  have H2 := Lib.hid (And.intro h1 h2)
  have hn1 : (n < 1) = False := eq_false (by omega)
  have hn2 : (140737488355328 < n) = False := eq_false (by omega)
  have hmk : ∀ w : World, (Instr.makeSlice 22 (.int .i64 256) (.int .i64 256)).run Try.prog w = .ok (.slice (some ⟨w.heap.size, 0, none⟩) 256 256) (w.alloc (.cells (zeros 256) 5)) := make_octs 256 (by decide)
  clear hyy N1 N2 N3 J1 J2 J3 K1 K2 K3 lP lB ha1 ha2 ha4 h1 h2 hr ho hs
  go_enter Try.func5, Try.ntmps5
  go_wp2_with fail
  refine (f19_any _).mono ?_
  rintro e w1 ⟨rfl, x1⟩
  have hp := x1.heap (heap_alloc_new w (.cells (supCells s) 38))
  have X1 := ((Ext.refl w).alloc (.cells (supCells s) 38)).trans x1
  obtain ⟨c0, c1, c2, c3, c4, c5, c6, c7, cf⟩ := sup_cells hp
  go_wp2_with fail
  refine (R22 _).mono ?_
  rintro e w2 ⟨rfl, x2⟩
  have hp2 := x2.heap (setF0 hp (n + 1))
  have X2 := (X1.setCell (p := ⟨w.heap.size, 0, none⟩) (Nat.le_refl _) (.int .i64 (n + 1))).trans x2
  have ltp := block_lt_of_cell (sup_cells hp2).1
  simp only at ltp
  obtain ⟨p, hpe⟩ : ∃ p, w.heap.size = p := ⟨_, rfl⟩
  rw [hpe] at hp2 ltp ⊢
  have HPE := Lib.hid hpe
  clear c0 c1 c2 c3 c4 c5 c6 c7 cf hp x1 x2 X1 R22 hpe hw2
  go_wp2_with fail
  refine (PX _).mono ?_
  rintro e w3 ⟨rfl, x3⟩
  go_wp2_with fail
  refine (PA _).mono ?_
  rintro e w4 ⟨v4, rfl, o4, x4⟩
  obtain ⟨A4, e4, rfl, k4, y4⟩ := o4.octs_form
  rw [HP.out] at k4 ⊢
  have hp4 := (x3.trans x4).heap hp2
  obtain ⟨c0, c1, c2, c3, c4, c5, c6, c7, cf⟩ := sup_cells hp4
  simp only at c0 c1 c2 c3 c4 c5 c6 c7
  go_wp2_with fail
  refine (PB _).mono ?_
  rintro e w5 ⟨v5, rfl, o5, x5⟩
  obtain ⟨A5, e5, rfl, k5, y5⟩ := o5.octs_form
  rw [HB.out] at k5 ⊢
  have hp5 := x5.heap hp4
  have y45 := y4.ext x5
  have X5 := X2.trans ((x3.trans x4).trans x5)
  have g0 : (w5.alloc (.cells (zeros 256) 5)).heap[w5.heap.size]? = some (.cells (octs (zer 256)).toArray 5 (0, 0)) := by
    have : zeros 256 = (octs (zer 256)).toArray := by
      have := zeros_list 256
      rw [zer, ← this]
    rw [heap_alloc_new, this]
  have NA5 : ∀ a, A5 = some a → a.block < w5.heap.size := fun a e => (o5.block a.block (by rw [e]; rfl)).2
  have pg : p < w5.heap.size := Nat.lt_of_lt_of_le ltp ((x3.trans x4).trans x5).size
  have XA := X5.alloc (.cells (zeros 256) 5)
  have hpA := ((Ext.refl w5).alloc (.cells (zeros 256) 5)).heap hp5
  have yA := y45.ext ((Ext.refl w5).alloc (.cells (zeros 256) 5))
  have yB := y5.ext ((Ext.refl w5).alloc (.cells (zeros 256) 5))
  have wg : w.heap.size ≤ w5.heap.size := X5.size
  clear c0 c1 c2 c3 c4 c5 c6 c7 cf x3 x4 x5 o4 o5 y4 y45 y5 hp4 hp5 hp2 X2 X5 ltp PA PB
  go_wp2_with (first
    | (refine wpList_copy_upd rfl (.tmp 63) (.tmp 64) rfl _ _ _ _ _ _ rfl rfl w5.heap.size 128 (zer 256) g0 P HP.out (by decide) (fun _ => rfl) yA (by rw [HP.out, length_zer]; decide) ?_; intro w6 g6 u6; rw [HJ1.out] at g6; rw [HP.out])
    | fail)

  obtain ⟨g, hge⟩ : ∃ g, w5.heap.size = g := ⟨_, rfl⟩
  rw [hge] at g6 u6 pg NA5 wg ⊢
  have HGE := Lib.hid hge
  have h6p := u6.heap hpA (show ¬ p = g by omega)
  have h6y := yB.upd u6 (fun a e => by have := NA5 a e; omega)
  have h6X : Ext w w6 := u6.to_ext XA (fun b hb => by rw [hb]; exact wg)
  clear hge g0 hpA yB yA XA u6 hmk hand hw3 hn1 hn2
  refine (f26_any (some ⟨g, 0, none⟩) I1 256 256 _ HK1.out (by decide) (by decide) (row_octs g6)).mono ?_
  rw [HN1.out, show supV ((some (plainS n) : Option Sup).getD sup0) = .agg #[.int .i64 n, .int .i64 4, .int .i64 1, .int .i64 0, .int .i64 0, .int .u32 0, .int .i64 1, .int .i64 0] from rfl]
  rintro e w7 ⟨rfl, x7⟩
  go_wp2_with fail
  have e7 : Ext w6 (w7.alloc (.cells #[.int .i64 n, .int .i64 4, .int .i64 1, .int .i64 0, .int .i64 0, .int .u32 0, .int .i64 1, .int .i64 0] 38)) := x7.alloc _
  have h7x : (w7.alloc (.cells #[.int .i64 n, .int .i64 4, .int .i64 1, .int .i64 0, .int .i64 0, .int .u32 0, .int .i64 1, .int .i64 0] 38)).heap[w7.heap.size]? = some (.cells (supCells (plainS n)) 38 (0, 0)) := heap_alloc_new w7 _
  have h7g := e7.heap g6
  have h7p := e7.heap h6p
  have h7y := h6y.ext e7
  have h7X := h6X.trans e7
  have gx : g < w7.heap.size := Nat.lt_of_lt_of_le (Array.getElem?_eq_some_iff.1 g6).1 x7.size
  obtain ⟨qx, hqx⟩ : ∃ q, w7.heap.size = q := ⟨_, rfl⟩
  rw [hqx] at h7x gx ⊢
  have HQX := Lib.hid hqx
  clear x7 hqx g6 h6p h6y h6X e7
  generalize w7.alloc (.cells #[.int .i64 n, .int .i64 4, .int .i64 1, .int .i64 0, .int .i64 0, .int .u32 0, .int .i64 1, .int .i64 0] 38) = w8 at *
  obtain ⟨B5, s1, _, s3, _⟩ := cut_hi A5 B e5 k (by rw [HB.out]; have := HK.out; omega) (by rw [HB.out]; exact k5)
  rw [HB.out] at s1
  have yBk := s3 _ h7y
  have lBk : Hid ((B.take k).length = k) := Lib.hid (by rw [List.length_take, HB.out]; have := HK.out; omega)
  have hk128 : k ≤ 128 := by have := HK.out; omega
  clear s3
  have hwq : IntKind.i64.wrap 0 = 0 := by decide
  refine wp_region_held_drew (S := fun _ => True) (by kernel_rfl) (trivial) (fun hS => ?_)
  refine takeH (i := 0) (v := ?_) rfl rfl (by kernel_rfl) (by kernel_rfl) (by kernel_rfl) (fun _ _ _ h => h) (Or.inl ⟨by kernel_rfl, ?_⟩) hS ?_
  rotate_left 1
  · (intro w' hS'; go_simp; try (with_reducible rfl))
  simp only [List.setIfInBounds_toArray, List.set_cons_succ, List.set_cons_zero]
  refine takeH (i := 1) (v := ?_) rfl rfl (by kernel_rfl) (by kernel_rfl) (by kernel_rfl) (fun _ _ _ h => h) (Or.inl ⟨by kernel_rfl, ?_⟩) hS ?_
  rotate_left 1
  · (intro w' hS'; go_simp; try (with_reducible rfl))
  simp only [List.setIfInBounds_toArray, List.set_cons_succ, List.set_cons_zero]
  refine takeH (i := 2) (v := ?_) rfl rfl (by kernel_rfl) (by kernel_rfl) (by kernel_rfl) (fun _ _ _ h => h) (Or.inl ⟨by kernel_rfl, ?_⟩) hS ?_
  rotate_left 1
  · (intro w' hS'; go_simp; try (with_reducible rfl))
  simp only [List.setIfInBounds_toArray, List.set_cons_succ, List.set_cons_zero]
  refine takeH (i := 3) (v := ?_) rfl rfl (by kernel_rfl) (by kernel_rfl) (by kernel_rfl) (fun _ _ _ h => h) (Or.inl ⟨by kernel_rfl, ?_⟩) hS ?_
  rotate_left 1
  · (intro w' hS'; go_simp; try (with_reducible rfl))
  simp only [List.setIfInBounds_toArray, List.set_cons_succ, List.set_cons_zero]
  refine takeH (i := 4) (v := ?_) rfl rfl (by kernel_rfl) (by kernel_rfl) (by kernel_rfl) (fun _ _ _ h => h) (Or.inl ⟨by kernel_rfl, ?_⟩) hS ?_
  rotate_left 1
  · (intro w' hS'; go_simp; try (with_reducible rfl))
  simp only [List.setIfInBounds_toArray, List.set_cons_succ, List.set_cons_zero]
  refine takeH (i := 5) (v := ?_) rfl rfl (by kernel_rfl) (by kernel_rfl) (by kernel_rfl) (fun _ _ _ h => h) (Or.inl ⟨by kernel_rfl, ?_⟩) hS ?_
  rotate_left 1
  · (intro w' hS'; go_simp; try (with_reducible rfl))
  simp only [List.setIfInBounds_toArray, List.set_cons_succ, List.set_cons_zero]
  refine takeH (i := 6) (v := ?_) rfl rfl (by kernel_rfl) (by kernel_rfl) (by kernel_rfl) (fun _ _ _ h => h) (Or.inl ⟨by kernel_rfl, ?_⟩) hS ?_
  rotate_left 1
  · (intro w' hS'; go_simp; try (with_reducible rfl))
  simp only [List.setIfInBounds_toArray, List.set_cons_succ, List.set_cons_zero]
  refine takeH (i := 7) (v := ?_) rfl rfl (by kernel_rfl) (by kernel_rfl) (by kernel_rfl) (fun _ _ _ h => h) (Or.inl ⟨by kernel_rfl, ?_⟩) hS ?_
  rotate_left 1
  · (intro w' hS'; go_simp; try (with_reducible rfl))
  simp only [List.setIfInBounds_toArray, List.set_cons_succ, List.set_cons_zero]
  refine takeH (i := 8) (v := ?_) rfl rfl (by kernel_rfl) (by kernel_rfl) (by kernel_rfl) (fun _ _ _ h => h) (Or.inl ⟨by kernel_rfl, ?_⟩) hS ?_
  rotate_left 1
  · (intro w' hS'; go_simp; try (with_reducible rfl))
  simp only [List.setIfInBounds_toArray, List.set_cons_succ, List.set_cons_zero]
  refine takeH (i := 9) (v := ?_) rfl rfl (by kernel_rfl) (by kernel_rfl) (by kernel_rfl) (fun _ _ _ h => h) (Or.inl ⟨by kernel_rfl, ?_⟩) hS ?_
  rotate_left 1
  · (intro w' hS'; go_simp; try (with_reducible rfl))
  simp only [List.setIfInBounds_toArray, List.set_cons_succ, List.set_cons_zero]
  refine wpAnyH_ready (rs := [10]) (by kernel_rfl) (by simp) ?_
  refine AllReadyH.cons rfl (fun K hK => ?_) ?_
  rotate_left 1
  · exact AllReadyH.nil
  refine step_copy_upd rfl (.tmp 74) (.tmp 80) rfl _ _ _ _ _ _ rfl rfl g 0 I1 h7g (B.take k) lBk.out (by omega) (fun _ => rfl) (Octs.drew yBk) (by rw [lBk.out, HK1.out]; omega) ?_; intro w9 g9 u9; rw [HJ2.out] at g9; rw [lBk.out]
  try go_simp
  refine hK.out _ _ (trivial) (fun hS => ?_)
  clear hK K
  refine wpAnyH_done (by kernel_rfl) ?_ _
  have h9p := u9.heap (w := w8.drew) h7p (show ¬ p = g by omega)
  have h9x := u9.heap (w := w8.drew) h7x (show ¬ qx = g by omega)
  have h9y := (Octs.drew h7y).upd u9 (fun a e => by have := NA5 a e; omega)
  have h9X : Ext w w9 := u9.to_ext h7X.drew (fun b hb => by rw [hb]; exact wg)
  clear h7p h7x h7y h7X h7g u9 yBk s1 lBk hS
  go_wp2_with fail
  refine (f26_any (some ⟨g, 0, none⟩) I2 256 256 _ HK2.out (by decide) (by decide) (row_octs g9)).mono ?_
  rw [HN2.out, show supV ((some (plainS n) : Option Sup).getD sup0) = .agg #[.int .i64 n, .int .i64 4, .int .i64 1, .int .i64 0, .int .i64 0, .int .u32 0, .int .i64 1, .int .i64 0] from rfl]
  rintro e w10 ⟨rfl, x10⟩
  have e10 : Ext w9 (w10.alloc (.cells #[.int .i64 n, .int .i64 4, .int .i64 1, .int .i64 0, .int .i64 0, .int .u32 0, .int .i64 1, .int .i64 0] 38)) := x10.alloc _
  have h10y' : (w10.alloc (.cells #[.int .i64 n, .int .i64 4, .int .i64 1, .int .i64 0, .int .i64 0, .int .u32 0, .int .i64 1, .int .i64 0] 38)).heap[w10.heap.size]? = some (.cells (supCells (plainS n)) 38 (0, 0)) := heap_alloc_new w10 _
  have h10g := e10.heap g9
  have h10p := e10.heap h9p
  have h10x := e10.heap h9x
  have h10y := h9y.ext e10
  have h10X := h9X.trans e10
  have k10 := conv_str (some ⟨g, 0, none⟩) I2 256 256 _ HK2.out (row_octs h10g)
  have gy : g < w10.heap.size := Nat.lt_of_lt_of_le (Array.getElem?_eq_some_iff.1 g9).1 x10.size
  clear x10 g9 h9p h9x h9y h9X e10
  go_wp2_with fail
  refine (f27_any I2 _).mono ?_
  rw [HN2.out, show supV ((some (plainS n) : Option Sup).getD sup0) = .agg #[.int .i64 n, .int .i64 4, .int .i64 1, .int .i64 0, .int .i64 0, .int .u32 0, .int .i64 1, .int .i64 0] from rfl]
  rintro e w12 ⟨rfl, x12⟩
  clear k10
  have e12 : Ext (w10.alloc (.cells #[.int .i64 n, .int .i64 4, .int .i64 1, .int .i64 0, .int .i64 0, .int .u32 0, .int .i64 1, .int .i64 0] 38)) (w12.alloc (.cells #[.int .i64 n, .int .i64 4, .int .i64 1, .int .i64 0, .int .i64 0, .int .u32 0, .int .i64 1, .int .i64 0] 38)) := x12.alloc _
  have h12w : (w12.alloc (.cells #[.int .i64 n, .int .i64 4, .int .i64 1, .int .i64 0, .int .i64 0, .int .u32 0, .int .i64 1, .int .i64 0] 38)).heap[w12.heap.size]? = some (.cells (supCells (plainS n)) 38 (0, 0)) := heap_alloc_new w12 _
  have h12g := e12.heap h10g
  have h12p := e12.heap h10p
  have h12x := e12.heap h10x
  have h12y' := e12.heap h10y'
  have h12y := h10y.ext e12
  have h12X := h10X.trans e12
  have gw : g < w12.heap.size := Nat.lt_of_lt_of_le gy (Nat.le_trans (by simp) x12.size)
  clear x12 h10g h10p h10x h10y' h10y h10X e12
  go_wp2_with (first
    | (refine wpList_copy_upd rfl (.tmp 96) (.tmp 97) rfl _ _ _ _ _ _ rfl rfl g 0 I2 h12g B HB.out (by decide) (fun _ => rfl) h12y (by rw [HB.out, HK2.out]; decide) ?_; intro w13 g13 u13; rw [HJ3.out] at g13; rw [HB.out])
    | fail)
  have h13p := u13.heap h12p (show ¬ p = g by omega)
  have h13x := u13.heap h12x (show ¬ qx = g by omega)
  have h13y := u13.heap h12y' (show ¬ w10.heap.size = g by omega)
  have h13w := u13.heap h12w (show ¬ w12.heap.size = g by omega)
  have h13X : Ext w w13 := u13.to_ext h12X (fun b hb => by rw [hb]; exact wg)
  clear h12g h12p h12x h12y' h12y h12w h12X u13
  refine (f26_any (some ⟨g, 0, none⟩) I3 256 256 _ HK3.out (by decide) (by decide) (row_octs g13)).mono ?_
  rw [HN3.out, show supV ((some (⟨n + 1, s.journal, s.area, s.which, s.len, s.sum, s.epoch, s.start⟩ : Sup) : Option Sup).getD sup0) = .agg #[.int .i64 (n + 1), .int .i64 s.journal, .int .i64 s.area, .int .i64 s.which, .int .i64 s.len, .int .u32 (s.sum : Int), .int .i64 s.epoch, .int .i64 s.start] from rfl]
  rintro e w14 ⟨rfl, x14⟩
  go_wp2_with fail
  have e14 : Ext w13 (w14.alloc (.cells #[.int .i64 (n + 1), .int .i64 s.journal, .int .i64 s.area, .int .i64 s.which, .int .i64 s.len, .int .u32 (s.sum : Int), .int .i64 s.epoch, .int .i64 s.start] 38)) := x14.alloc _
  have hz : (w14.alloc (.cells #[.int .i64 (n + 1), .int .i64 s.journal, .int .i64 s.area, .int .i64 s.which, .int .i64 s.len, .int .u32 (s.sum : Int), .int .i64 s.epoch, .int .i64 s.start] 38)).heap[w14.heap.size]? = some (.cells (supCells (⟨n + 1, s.journal, s.area, s.which, s.len, s.sum, s.epoch, s.start⟩ : Sup)) 38 (0, 0)) := heap_alloc_new w14 _
  have hp14 := e14.heap h13p
  have hx14 := e14.heap h13x
  have hy14 := e14.heap h13y
  have hw14 := e14.heap h13w
  have X14 := h13X.trans e14
  obtain ⟨qy, hqy⟩ : ∃ q, w10.heap.size = q := ⟨_, rfl⟩
  obtain ⟨qw, hqw⟩ : ∃ q, w12.heap.size = q := ⟨_, rfl⟩
  obtain ⟨qz, hqz⟩ : ∃ q, w14.heap.size = q := ⟨_, rfl⟩
  rw [hqy] at hy14 ⊢
  rw [hqw] at hw14 ⊢
  rw [hqz] at hz ⊢
  clear hqy hqw hqz gy gw gx e14 x14 h13p h13x h13y h13w h13X g13
  generalize w14.alloc (.cells #[.int .i64 (n + 1), .int .i64 s.journal, .int .i64 s.area, .int .i64 s.which, .int .i64 s.len, .int .u32 (s.sum : Int), .int .i64 s.epoch, .int .i64 s.start] 38) = w15 at *
  refine wp_region_held_drew (S := fun w' => Ext w15 w') (by kernel_rfl) ((Ext.refl _).drew) (fun hS => ?_)
  refine takeH (i := 0) (v := ?_) rfl rfl (by kernel_rfl) (by kernel_rfl) (by kernel_rfl) (fun _ _ _ h => h) (Or.inl ⟨by kernel_rfl, ?_⟩) hS ?_
  rotate_left 1
  · (intro w' hS'; go_simp; try (with_reducible rfl))
  simp only [List.setIfInBounds_toArray, List.set_cons_succ, List.set_cons_zero]
  refine takeH (i := 1) (v := ?_) rfl rfl (by kernel_rfl) (by kernel_rfl) (by kernel_rfl) (fun _ _ _ h => h) (Or.inl ⟨by kernel_rfl, ?_⟩) hS ?_
  rotate_left 1
  · (intro w' hS'; go_simp; try (with_reducible rfl))
  simp only [List.setIfInBounds_toArray, List.set_cons_succ, List.set_cons_zero]
  refine takeH (i := 2) (v := ?_) rfl rfl (by kernel_rfl) (by kernel_rfl) (by kernel_rfl) (fun _ _ _ h => h) (Or.inl ⟨by kernel_rfl, ?_⟩) hS ?_
  rotate_left 1
  · (intro w' hS'; go_simp; try (with_reducible rfl))
  simp only [List.setIfInBounds_toArray, List.set_cons_succ, List.set_cons_zero]
  refine takeH (i := 3) (v := ?_) rfl rfl (by kernel_rfl) (by kernel_rfl) (by kernel_rfl) (fun _ _ _ h => h) (Or.inl ⟨by kernel_rfl, ?_⟩) hS ?_
  rotate_left 1
  · (intro w' hS'; go_simp; try (with_reducible rfl))
  simp only [List.setIfInBounds_toArray, List.set_cons_succ, List.set_cons_zero]
  refine takeH (i := 4) (v := ?_) rfl rfl (by kernel_rfl) (by kernel_rfl) (by kernel_rfl) (fun _ _ _ h => h) (Or.inl ⟨by kernel_rfl, ?_⟩) hS ?_
  rotate_left 1
  · (intro w' hS'; go_simp; try (with_reducible rfl))
  simp only [List.setIfInBounds_toArray, List.set_cons_succ, List.set_cons_zero]
  refine takeH (i := 5) (v := ?_) rfl rfl (by kernel_rfl) (by kernel_rfl) (by kernel_rfl) (fun _ _ _ h => h) (Or.inl ⟨by kernel_rfl, ?_⟩) hS ?_
  rotate_left 1
  · (intro w' hS'; go_simp; try (with_reducible rfl))
  simp only [List.setIfInBounds_toArray, List.set_cons_succ, List.set_cons_zero]
  refine takeH (i := 6) (v := ?_) rfl rfl (by kernel_rfl) (by kernel_rfl) (by kernel_rfl) (fun _ _ _ h => h) (Or.inl ⟨by kernel_rfl, ?_⟩) hS ?_
  rotate_left 1
  · (intro w' hS'; go_simp; try (with_reducible rfl))
  simp only [List.setIfInBounds_toArray, List.set_cons_succ, List.set_cons_zero]
  refine takeH (i := 7) (v := ?_) rfl rfl (by kernel_rfl) (by kernel_rfl) (by kernel_rfl) (fun _ _ _ h => h) (Or.inl ⟨by kernel_rfl, ?_⟩) hS ?_
  rotate_left 1
  · (intro w' hS'; obtain ⟨c0, c1, c2, c3, c4, c5, c6, c7, cf⟩ := sup_cells (s := plainS n) (hS'.heap hx14); simp only [plainS] at c0 c1 c2 c3 c4 c5 c6 c7; go_simp; try (with_reducible rfl))
  simp only [List.setIfInBounds_toArray, List.set_cons_succ, List.set_cons_zero]
  refine takeH (i := 8) (v := ?_) rfl rfl (by kernel_rfl) (by kernel_rfl) (by kernel_rfl) (fun _ _ _ h => h) (Or.inl ⟨by kernel_rfl, ?_⟩) hS ?_
  rotate_left 1
  · (intro w' hS'; go_simp; try (with_reducible rfl))
  simp only [List.setIfInBounds_toArray, List.set_cons_succ, List.set_cons_zero]
  refine wpAnyH_ready (rs := [9]) (by kernel_rfl) (by simp) ?_
  refine AllReadyH.cons rfl (fun K hK => ?_) ?_
  rotate_left 1
  · exact AllReadyH.nil
  go_simp
  refine (PX _).mono ?_; rintro e w16 ⟨rfl, x16⟩
  refine hK.out _ _ (hS.trans x16) (fun hS => ?_)
  clear hK K
  refine takeH (i := 10) (v := ?_) rfl rfl (by kernel_rfl) (by kernel_rfl) (by kernel_rfl) (fun _ _ _ h => h) (Or.inl ⟨by kernel_rfl, ?_⟩) hS ?_
  rotate_left 1
  · (intro w' hS'; go_simp; try (with_reducible rfl))
  simp only [List.setIfInBounds_toArray, List.set_cons_succ, List.set_cons_zero]
  refine takeH (i := 11) (v := ?_) rfl rfl (by kernel_rfl) (by kernel_rfl) (by kernel_rfl) (fun _ _ _ h => h) (Or.inl ⟨by kernel_rfl, ?_⟩) hS ?_
  rotate_left 1
  · (intro w' hS'; go_simp; try (with_reducible rfl))
  simp only [List.setIfInBounds_toArray, List.set_cons_succ, List.set_cons_zero]
  refine takeH (i := 12) (v := ?_) rfl rfl (by kernel_rfl) (by kernel_rfl) (by kernel_rfl) (fun _ _ _ h => h) (Or.inl ⟨by kernel_rfl, ?_⟩) hS ?_
  rotate_left 1
  · (intro w' hS'; go_simp; try (with_reducible rfl))
  simp only [List.setIfInBounds_toArray, List.set_cons_succ, List.set_cons_zero]
  refine takeH (i := 13) (v := ?_) rfl rfl (by kernel_rfl) (by kernel_rfl) (by kernel_rfl) (fun _ _ _ h => h) (Or.inl ⟨by kernel_rfl, ?_⟩) hS ?_
  rotate_left 1
  · (intro w' hS'; obtain ⟨c0, c1, c2, c3, c4, c5, c6, c7, cf⟩ := sup_cells (s := (⟨n + 1, s.journal, s.area, s.which, s.len, s.sum, s.epoch, s.start⟩ : Sup)) (hS'.heap hz); simp only at c0 c1 c2 c3 c4 c5 c6 c7; go_simp; try (with_reducible rfl))
  simp only [List.setIfInBounds_toArray, List.set_cons_succ, List.set_cons_zero]
  refine takeH (i := 14) (v := ?_) rfl rfl (by kernel_rfl) (by kernel_rfl) (by kernel_rfl) (fun _ _ _ h => h) (Or.inl ⟨by kernel_rfl, ?_⟩) hS ?_
  rotate_left 1
  · (intro w' hS'; obtain ⟨c0, c1, c2, c3, c4, c5, c6, c7, cf⟩ := sup_cells (s := (⟨n + 1, s.journal, s.area, s.which, s.len, s.sum, s.epoch, s.start⟩ : Sup)) (hS'.heap hp14); simp only at c0 c1 c2 c3 c4 c5 c6 c7; go_simp; try (with_reducible rfl))
  simp only [List.setIfInBounds_toArray, List.set_cons_succ, List.set_cons_zero]
  refine takeH (i := 15) (v := ?_) rfl rfl (by kernel_rfl) (by kernel_rfl) (by kernel_rfl) (fun _ _ _ h => h) (Or.inl ⟨by kernel_rfl, ?_⟩) hS ?_
  rotate_left 1
  · (intro w' hS'; go_simp; try (with_reducible rfl))
  simp only [List.setIfInBounds_toArray, List.set_cons_succ, List.set_cons_zero]
  refine takeH (i := 16) (v := ?_) rfl rfl (by kernel_rfl) (by kernel_rfl) (by kernel_rfl) (fun _ _ _ h => h) (Or.inl ⟨by kernel_rfl, ?_⟩) hS ?_
  rotate_left 1
  · (intro w' hS'; go_simp; try (with_reducible rfl))
  simp only [List.setIfInBounds_toArray, List.set_cons_succ, List.set_cons_zero]
  refine wpAnyH_done (by kernel_rfl) ?_ _
  have hp16 := hS.heap hp14
  have hx16 := hS.heap hx14
  have hy16 := hS.heap hy14
  have hw16 := hS.heap hw14
  obtain ⟨c0, c1, c2, c3, c4, c5, c6, c7, cf⟩ := sup_cells (s := plainS n) hx16
  obtain ⟨d0, d1, d2, d3, d4, d5, d6, d7, df⟩ := sup_cells (s := (⟨n + 1, s.journal, s.area, s.which, s.len, s.sum, s.epoch, s.start⟩ : Sup)) hp16
  obtain ⟨i0, i1, i2, i3, i4, i5, i6, i7, jf⟩ := sup_cells (s := (plainS n)) hy16
  obtain ⟨j0, j1, j2, j3, j4, j5, j6, j7, kf⟩ := sup_cells (s := (plainS n)) hw16
  simp only [plainS] at c0 c1 c2 c3 c4 c5 c6 c7 d0 d1 d2 d3 d4 d5 d6 d7 i0 i1 i2 i3 i4 i5 i6 i7 j0 j1 j2 j3 j4 j5 j6 j7
  go_wp2_with fail
  all_goals
    go_ret
    refine ⟨ret_bool ?_, X14.trans hS⟩
    first
      | rfl
      | simp
set_option maxRecDepth 100000 in
set_option maxHeartbeats 4000000 in
theorem f5_odd_s (n : Int) (s : Sup) (cut : Int) (w : World) (hs : s.sum < 4294967296) (h1 : 1 ≤ n) (h2 : n ≤ 140737488355328) (hr : supRight (⟨n + 1, s.journal, s.area, s.which, s.len, s.sum, s.epoch, s.start⟩ : Sup)) (ho : n % 2 = 1)
    (hyy : ∀ k : Nat, (cut.tmod 128 + 128).tmod 128 = (k : Int) → supNewest (img true (supPut (plainS n)) ((supPut (⟨n + 1, s.journal, s.area, s.which, s.len, s.sum, s.epoch, s.start⟩ : Sup)).take k ++ zer (128 - k))) = some (⟨n + 1, s.journal, s.area, s.which, s.len, s.sum, s.epoch, s.start⟩ : Sup)) :
    Calls Try.prog 5 #[.int .i64 n, supV s, .int .i64 cut] w fun e w' => e = .returned (.bool true) ∧ Ext w w' := by
  obtain ⟨a0, k, ha0, ha1, ha2, ha3, ha4⟩ := round_two cut 128 (by decide)
  replace ha0 : cut.tmod 128 = a0 := ha0
  replace ha3 : (a0 + 128).tmod 128 = (k : Int) := ha3
  replace ha1 : -128 < a0 := ha1
  replace ha2 : a0 < 128 := ha2
  have hw1 : IntKind.i64.wrap (a0 + 128) = a0 + 128 := IntWalk.i64_in _ (by omega)
  have hw2 : IntKind.i64.wrap (n + 1) = n + 1 := IntWalk.i64_in _ (by omega)
  have hw3 : IntKind.i64.wrap n = n := IntWalk.i64_in _ (by omega)
  have hand : bits .and .i64 n 1 = 1 := by
    obtain ⟨m, hm⟩ : ∃ m : Nat, n = (m : Int) := ⟨n.toNat, by omega⟩
    rw [hm, and_one_nat m (by omega)]
    omega
  have N2 := hyy k (by rw [ha0]; exact ha3)
  have N1 := img_none n h1 (by omega) true ho (zer 128) (length_zer _) get_zero
  have N3 := img_some n h1 (by omega) true ho (supPut (⟨n + 1, s.journal, s.area, s.which, s.len, s.sum, s.epoch, s.start⟩ : Sup)) (length_supPut _) (⟨n + 1, s.journal, s.area, s.which, s.len, s.sum, s.epoch, s.start⟩ : Sup) (get_put _ hr hs) rfl
  have PX := fun W => f25_plain n W
  have PA := fun W => f20_right (plainS n) W (by show (0 : Nat) < 4294967296; decide) (right_plain n h1 (by omega))
  have PB := fun W => f20_right (⟨n + 1, s.journal, s.area, s.which, s.len, s.sum, s.epoch, s.start⟩ : Sup) W hs hr
  have R22 : ∀ W, Calls Try.prog 22 #[supV (⟨n + 1, s.journal, s.area, s.which, s.len, s.sum, s.epoch, s.start⟩ : Sup)] W fun e w' => e = .returned (.bool true) ∧ Ext W w' := fun W => by
    have := f22_any (⟨n + 1, s.journal, s.area, s.which, s.len, s.sum, s.epoch, s.start⟩ : Sup) W
    rw [decide_eq_true hr] at this
    exact this
  have lP := length_supPut (plainS n)
  have lB := length_supPut (⟨n + 1, s.journal, s.area, s.which, s.len, s.sum, s.epoch, s.start⟩ : Sup)
  rw [show supV (plainS n) = .agg #[.int .i64 n, .int .i64 4, .int .i64 1, .int .i64 0, .int .i64 0, .int .u32 0, .int .i64 1, .int .i64 0] from rfl] at PX PA
  rw [show supV (⟨n + 1, s.journal, s.area, s.which, s.len, s.sum, s.epoch, s.start⟩ : Sup) = .agg #[.int .i64 (n + 1), .int .i64 s.journal, .int .i64 s.area, .int .i64 s.which, .int .i64 s.len, .int .u32 (s.sum : Int), .int .i64 s.epoch, .int .i64 s.start] from rfl] at PB R22
  have hne : ((n + 1 : Int) == n) = false := beq_eq_false_iff_ne.2 (by omega)
  have hne2 : ((n : Int) == n + 1) = false := beq_eq_false_iff_ne.2 (by omega)
  generalize supPut (plainS n) = P at *
  generalize supPut (⟨n + 1, s.journal, s.area, s.which, s.len, s.sum, s.epoch, s.start⟩ : Sup) = B at *
  have J1 : splice (zer 256) 128 P = img true P (zer 128) := splice_first true P lP
  have J2 : splice (img true P (zer 128)) 0 (B.take k) = img true P (B.take k ++ zer (128 - k)) := by
    have := splice_img true P (zer 128) (B.take k) lP (by rw [List.length_take, length_zer]; omega)
    rw [show (zer 128).drop (B.take k).length = zer (128 - k) by rw [List.length_take, lB, Nat.min_eq_left (by omega), zer, zer, List.drop_replicate]] at this
    exact this
  have J3 : splice (img true P (B.take k ++ zer (128 - k))) 0 B = img true P B := by
    have := splice_img true P (B.take k ++ zer (128 - k)) B lP (by rw [List.length_append, List.length_take, length_zer]; omega)
    rw [List.drop_eq_nil_of_le (by rw [List.length_append, List.length_take, length_zer]; omega), List.append_nil] at this
    exact this
  have K1 := length_img true P (zer 128) lP (length_zer _)
  have K2 := length_img true P (B.take k ++ zer (128 - k)) lP (by rw [List.length_append, List.length_take, length_zer]; omega)
  have K3 := length_img true P B lP lB
  generalize img true P (zer 128) = I1 at N1 J1 J2 K1
  generalize img true P (B.take k ++ zer (128 - k)) = I2 at N2 J2 J3 K2
  generalize img true P B = I3 at N3 J3 K3
  have HN1 := Lib.hid N1
  have HN2 := Lib.hid N2
  have HN3 := Lib.hid N3
  have HJ1 := Lib.hid J1
  have HJ2 := Lib.hid J2
  have HJ3 := Lib.hid J3
  have HK1 := Lib.hid K1
  have HK2 := Lib.hid K2
  have HK3 := Lib.hid K3
  have HP := Lib.hid lP
  have HB := Lib.hid lB
  have HK := Lib.hid ha4
  have H2 := Lib.hid (And.intro h1 h2)
  have hn1 : (n < 1) = False := eq_false (by omega)
  have hn2 : (140737488355328 < n) = False := eq_false (by omega)
  have hmk : ∀ w : World, (Instr.makeSlice 22 (.int .i64 256) (.int .i64 256)).run Try.prog w = .ok (.slice (some ⟨w.heap.size, 0, none⟩) 256 256) (w.alloc (.cells (zeros 256) 5)) := make_octs 256 (by decide)
  clear hyy N1 N2 N3 J1 J2 J3 K1 K2 K3 lP lB ha1 ha2 ha4 h1 h2 hr ho hs
  go_enter Try.func5, Try.ntmps5
  go_wp2_with fail
  refine (f19_any _).mono ?_
  rintro e w1 ⟨rfl, x1⟩
  have hp := x1.heap (heap_alloc_new w (.cells (supCells s) 38))
  have X1 := ((Ext.refl w).alloc (.cells (supCells s) 38)).trans x1
  obtain ⟨c0, c1, c2, c3, c4, c5, c6, c7, cf⟩ := sup_cells hp
  go_wp2_with fail
  refine (R22 _).mono ?_
  rintro e w2 ⟨rfl, x2⟩
  have hp2 := x2.heap (setF0 hp (n + 1))
  have X2 := (X1.setCell (p := ⟨w.heap.size, 0, none⟩) (Nat.le_refl _) (.int .i64 (n + 1))).trans x2
  have ltp := block_lt_of_cell (sup_cells hp2).1
  simp only at ltp
  obtain ⟨p, hpe⟩ : ∃ p, w.heap.size = p := ⟨_, rfl⟩
  rw [hpe] at hp2 ltp ⊢
  have HPE := Lib.hid hpe
  clear c0 c1 c2 c3 c4 c5 c6 c7 cf hp x1 x2 X1 R22 hpe hw2
  go_wp2_with fail
  refine (PX _).mono ?_
  rintro e w3 ⟨rfl, x3⟩
  go_wp2_with fail
  refine (PA _).mono ?_
  rintro e w4 ⟨v4, rfl, o4, x4⟩
  obtain ⟨A4, e4, rfl, k4, y4⟩ := o4.octs_form
  rw [HP.out] at k4 ⊢
  have hp4 := (x3.trans x4).heap hp2
  obtain ⟨c0, c1, c2, c3, c4, c5, c6, c7, cf⟩ := sup_cells hp4
  simp only at c0 c1 c2 c3 c4 c5 c6 c7
  go_wp2_with fail
  refine (PB _).mono ?_
  rintro e w5 ⟨v5, rfl, o5, x5⟩
  obtain ⟨A5, e5, rfl, k5, y5⟩ := o5.octs_form
  rw [HB.out] at k5 ⊢
  have hp5 := x5.heap hp4
  have y45 := y4.ext x5
  have X5 := X2.trans ((x3.trans x4).trans x5)
  have g0 : (w5.alloc (.cells (zeros 256) 5)).heap[w5.heap.size]? = some (.cells (octs (zer 256)).toArray 5 (0, 0)) := by
    have : zeros 256 = (octs (zer 256)).toArray := by
      have := zeros_list 256
      rw [zer, ← this]
    rw [heap_alloc_new, this]
  have NA5 : ∀ a, A5 = some a → a.block < w5.heap.size := fun a e => (o5.block a.block (by rw [e]; rfl)).2
  have pg : p < w5.heap.size := Nat.lt_of_lt_of_le ltp ((x3.trans x4).trans x5).size
  have XA := X5.alloc (.cells (zeros 256) 5)
  have hpA := ((Ext.refl w5).alloc (.cells (zeros 256) 5)).heap hp5
  have yA := y45.ext ((Ext.refl w5).alloc (.cells (zeros 256) 5))
  have yB := y5.ext ((Ext.refl w5).alloc (.cells (zeros 256) 5))
  have wg : w.heap.size ≤ w5.heap.size := X5.size
  clear c0 c1 c2 c3 c4 c5 c6 c7 cf x3 x4 x5 o4 o5 y4 y45 y5 hp4 hp5 hp2 X2 X5 ltp PA PB
  go_wp2_with (first
    | (refine wpList_copy_upd rfl (.tmp 63) (.tmp 64) rfl _ _ _ _ _ _ rfl rfl w5.heap.size 128 (zer 256) g0 P HP.out (by decide) (fun _ => rfl) yA (by rw [HP.out, length_zer]; decide) ?_; intro w6 g6 u6; rw [HJ1.out] at g6; rw [HP.out])
    | fail)

  obtain ⟨g, hge⟩ : ∃ g, w5.heap.size = g := ⟨_, rfl⟩
  rw [hge] at g6 u6 pg NA5 wg ⊢
  have HGE := Lib.hid hge
  have h6p := u6.heap hpA (show ¬ p = g by omega)
  have h6y := yB.upd u6 (fun a e => by have := NA5 a e; omega)
  have h6X : Ext w w6 := u6.to_ext XA (fun b hb => by rw [hb]; exact wg)
  clear hge g0 hpA yB yA XA u6 hmk hand hw3 hn1 hn2
  refine (f26_any (some ⟨g, 0, none⟩) I1 256 256 _ HK1.out (by decide) (by decide) (row_octs g6)).mono ?_
  rw [HN1.out, show supV ((some (plainS n) : Option Sup).getD sup0) = .agg #[.int .i64 n, .int .i64 4, .int .i64 1, .int .i64 0, .int .i64 0, .int .u32 0, .int .i64 1, .int .i64 0] from rfl]
  rintro e w7 ⟨rfl, x7⟩
  go_wp2_with fail
  have e7 : Ext w6 (w7.alloc (.cells #[.int .i64 n, .int .i64 4, .int .i64 1, .int .i64 0, .int .i64 0, .int .u32 0, .int .i64 1, .int .i64 0] 38)) := x7.alloc _
  have h7x : (w7.alloc (.cells #[.int .i64 n, .int .i64 4, .int .i64 1, .int .i64 0, .int .i64 0, .int .u32 0, .int .i64 1, .int .i64 0] 38)).heap[w7.heap.size]? = some (.cells (supCells (plainS n)) 38 (0, 0)) := heap_alloc_new w7 _
  have h7g := e7.heap g6
  have h7p := e7.heap h6p
  have h7y := h6y.ext e7
  have h7X := h6X.trans e7
  have gx : g < w7.heap.size := Nat.lt_of_lt_of_le (Array.getElem?_eq_some_iff.1 g6).1 x7.size
  obtain ⟨qx, hqx⟩ : ∃ q, w7.heap.size = q := ⟨_, rfl⟩
  rw [hqx] at h7x gx ⊢
  have HQX := Lib.hid hqx
  clear x7 hqx g6 h6p h6y h6X e7
  generalize w7.alloc (.cells #[.int .i64 n, .int .i64 4, .int .i64 1, .int .i64 0, .int .i64 0, .int .u32 0, .int .i64 1, .int .i64 0] 38) = w8 at *
  obtain ⟨B5, s1, _, s3, _⟩ := cut_hi A5 B e5 k (by rw [HB.out]; have := HK.out; omega) (by rw [HB.out]; exact k5)
  rw [HB.out] at s1
  have yBk := s3 _ h7y
  have lBk : Hid ((B.take k).length = k) := Lib.hid (by rw [List.length_take, HB.out]; have := HK.out; omega)
  have hk128 : k ≤ 128 := by have := HK.out; omega
  clear s3
  have hwq : IntKind.i64.wrap 0 = 0 := by decide
  refine wp_region_held_drew (S := fun _ => True) (by kernel_rfl) (trivial) (fun hS => ?_)
  refine takeH (i := 0) (v := ?_) rfl rfl (by kernel_rfl) (by kernel_rfl) (by kernel_rfl) (fun _ _ _ h => h) (Or.inl ⟨by kernel_rfl, ?_⟩) hS ?_
  rotate_left 1
  · (intro w' hS'; go_simp; try (with_reducible rfl))
  simp only [List.setIfInBounds_toArray, List.set_cons_succ, List.set_cons_zero]
  refine takeH (i := 1) (v := ?_) rfl rfl (by kernel_rfl) (by kernel_rfl) (by kernel_rfl) (fun _ _ _ h => h) (Or.inl ⟨by kernel_rfl, ?_⟩) hS ?_
  rotate_left 1
  · (intro w' hS'; go_simp; try (with_reducible rfl))
  simp only [List.setIfInBounds_toArray, List.set_cons_succ, List.set_cons_zero]
  refine takeH (i := 2) (v := ?_) rfl rfl (by kernel_rfl) (by kernel_rfl) (by kernel_rfl) (fun _ _ _ h => h) (Or.inl ⟨by kernel_rfl, ?_⟩) hS ?_
  rotate_left 1
  · (intro w' hS'; go_simp; try (with_reducible rfl))
  simp only [List.setIfInBounds_toArray, List.set_cons_succ, List.set_cons_zero]
  refine takeH (i := 3) (v := ?_) rfl rfl (by kernel_rfl) (by kernel_rfl) (by kernel_rfl) (fun _ _ _ h => h) (Or.inl ⟨by kernel_rfl, ?_⟩) hS ?_
  rotate_left 1
  · (intro w' hS'; go_simp; try (with_reducible rfl))
  simp only [List.setIfInBounds_toArray, List.set_cons_succ, List.set_cons_zero]
  refine takeH (i := 4) (v := ?_) rfl rfl (by kernel_rfl) (by kernel_rfl) (by kernel_rfl) (fun _ _ _ h => h) (Or.inl ⟨by kernel_rfl, ?_⟩) hS ?_
  rotate_left 1
  · (intro w' hS'; go_simp; try (with_reducible rfl))
  simp only [List.setIfInBounds_toArray, List.set_cons_succ, List.set_cons_zero]
  refine takeH (i := 5) (v := ?_) rfl rfl (by kernel_rfl) (by kernel_rfl) (by kernel_rfl) (fun _ _ _ h => h) (Or.inl ⟨by kernel_rfl, ?_⟩) hS ?_
  rotate_left 1
  · (intro w' hS'; go_simp; try (with_reducible rfl))
  simp only [List.setIfInBounds_toArray, List.set_cons_succ, List.set_cons_zero]
  refine takeH (i := 6) (v := ?_) rfl rfl (by kernel_rfl) (by kernel_rfl) (by kernel_rfl) (fun _ _ _ h => h) (Or.inl ⟨by kernel_rfl, ?_⟩) hS ?_
  rotate_left 1
  · (intro w' hS'; go_simp; try (with_reducible rfl))
  simp only [List.setIfInBounds_toArray, List.set_cons_succ, List.set_cons_zero]
  refine takeH (i := 7) (v := ?_) rfl rfl (by kernel_rfl) (by kernel_rfl) (by kernel_rfl) (fun _ _ _ h => h) (Or.inl ⟨by kernel_rfl, ?_⟩) hS ?_
  rotate_left 1
  · (intro w' hS'; go_simp; try (with_reducible rfl))
  simp only [List.setIfInBounds_toArray, List.set_cons_succ, List.set_cons_zero]
  refine takeH (i := 8) (v := ?_) rfl rfl (by kernel_rfl) (by kernel_rfl) (by kernel_rfl) (fun _ _ _ h => h) (Or.inl ⟨by kernel_rfl, ?_⟩) hS ?_
  rotate_left 1
  · (intro w' hS'; go_simp; try (with_reducible rfl))
  simp only [List.setIfInBounds_toArray, List.set_cons_succ, List.set_cons_zero]
  refine takeH (i := 9) (v := ?_) rfl rfl (by kernel_rfl) (by kernel_rfl) (by kernel_rfl) (fun _ _ _ h => h) (Or.inl ⟨by kernel_rfl, ?_⟩) hS ?_
  rotate_left 1
  · (intro w' hS'; go_simp; try (with_reducible rfl))
  simp only [List.setIfInBounds_toArray, List.set_cons_succ, List.set_cons_zero]
  refine wpAnyH_ready (rs := [10]) (by kernel_rfl) (by simp) ?_
  refine AllReadyH.cons rfl (fun K hK => ?_) ?_
  rotate_left 1
  · exact AllReadyH.nil
  refine step_copy_upd rfl (.tmp 74) (.tmp 80) rfl _ _ _ _ _ _ rfl rfl g 0 I1 h7g (B.take k) lBk.out (by omega) (fun _ => rfl) (Octs.drew yBk) (by rw [lBk.out, HK1.out]; omega) ?_; intro w9 g9 u9; rw [HJ2.out] at g9; rw [lBk.out]
  try go_simp
  refine hK.out _ _ (trivial) (fun hS => ?_)
  clear hK K
  refine wpAnyH_done (by kernel_rfl) ?_ _
  have h9p := u9.heap (w := w8.drew) h7p (show ¬ p = g by omega)
  have h9x := u9.heap (w := w8.drew) h7x (show ¬ qx = g by omega)
  have h9y := (Octs.drew h7y).upd u9 (fun a e => by have := NA5 a e; omega)
  have h9X : Ext w w9 := u9.to_ext h7X.drew (fun b hb => by rw [hb]; exact wg)
  clear h7p h7x h7y h7X h7g u9 yBk s1 lBk hS
  go_wp2_with fail
  refine (f26_any (some ⟨g, 0, none⟩) I2 256 256 _ HK2.out (by decide) (by decide) (row_octs g9)).mono ?_
  rw [HN2.out, show supV ((some (⟨n + 1, s.journal, s.area, s.which, s.len, s.sum, s.epoch, s.start⟩ : Sup) : Option Sup).getD sup0) = .agg #[.int .i64 (n + 1), .int .i64 s.journal, .int .i64 s.area, .int .i64 s.which, .int .i64 s.len, .int .u32 (s.sum : Int), .int .i64 s.epoch, .int .i64 s.start] from rfl]
  rintro e w10 ⟨rfl, x10⟩
  have e10 : Ext w9 (w10.alloc (.cells #[.int .i64 (n + 1), .int .i64 s.journal, .int .i64 s.area, .int .i64 s.which, .int .i64 s.len, .int .u32 (s.sum : Int), .int .i64 s.epoch, .int .i64 s.start] 38)) := x10.alloc _
  have h10y' : (w10.alloc (.cells #[.int .i64 (n + 1), .int .i64 s.journal, .int .i64 s.area, .int .i64 s.which, .int .i64 s.len, .int .u32 (s.sum : Int), .int .i64 s.epoch, .int .i64 s.start] 38)).heap[w10.heap.size]? = some (.cells (supCells (⟨n + 1, s.journal, s.area, s.which, s.len, s.sum, s.epoch, s.start⟩ : Sup)) 38 (0, 0)) := heap_alloc_new w10 _
  have h10g := e10.heap g9
  have h10p := e10.heap h9p
  have h10x := e10.heap h9x
  have h10y := h9y.ext e10
  have h10X := h9X.trans e10
  have k10 := conv_str (some ⟨g, 0, none⟩) I2 256 256 _ HK2.out (row_octs h10g)
  have gy : g < w10.heap.size := Nat.lt_of_lt_of_le (Array.getElem?_eq_some_iff.1 g9).1 x10.size
  clear x10 g9 h9p h9x h9y h9X e10
  go_wp2_with fail
  refine (f27_any I2 _).mono ?_
  rw [HN2.out, show supV ((some (⟨n + 1, s.journal, s.area, s.which, s.len, s.sum, s.epoch, s.start⟩ : Sup) : Option Sup).getD sup0) = .agg #[.int .i64 (n + 1), .int .i64 s.journal, .int .i64 s.area, .int .i64 s.which, .int .i64 s.len, .int .u32 (s.sum : Int), .int .i64 s.epoch, .int .i64 s.start] from rfl]
  rintro e w12 ⟨rfl, x12⟩
  clear k10
  have e12 : Ext (w10.alloc (.cells #[.int .i64 (n + 1), .int .i64 s.journal, .int .i64 s.area, .int .i64 s.which, .int .i64 s.len, .int .u32 (s.sum : Int), .int .i64 s.epoch, .int .i64 s.start] 38)) (w12.alloc (.cells #[.int .i64 (n + 1), .int .i64 s.journal, .int .i64 s.area, .int .i64 s.which, .int .i64 s.len, .int .u32 (s.sum : Int), .int .i64 s.epoch, .int .i64 s.start] 38)) := x12.alloc _
  have h12w : (w12.alloc (.cells #[.int .i64 (n + 1), .int .i64 s.journal, .int .i64 s.area, .int .i64 s.which, .int .i64 s.len, .int .u32 (s.sum : Int), .int .i64 s.epoch, .int .i64 s.start] 38)).heap[w12.heap.size]? = some (.cells (supCells (⟨n + 1, s.journal, s.area, s.which, s.len, s.sum, s.epoch, s.start⟩ : Sup)) 38 (0, 0)) := heap_alloc_new w12 _
  have h12g := e12.heap h10g
  have h12p := e12.heap h10p
  have h12x := e12.heap h10x
  have h12y' := e12.heap h10y'
  have h12y := h10y.ext e12
  have h12X := h10X.trans e12
  have gw : g < w12.heap.size := Nat.lt_of_lt_of_le gy (Nat.le_trans (by simp) x12.size)
  clear x12 h10g h10p h10x h10y' h10y h10X e12
  go_wp2_with (first
    | (refine wpList_copy_upd rfl (.tmp 96) (.tmp 97) rfl _ _ _ _ _ _ rfl rfl g 0 I2 h12g B HB.out (by decide) (fun _ => rfl) h12y (by rw [HB.out, HK2.out]; decide) ?_; intro w13 g13 u13; rw [HJ3.out] at g13; rw [HB.out])
    | fail)
  have h13p := u13.heap h12p (show ¬ p = g by omega)
  have h13x := u13.heap h12x (show ¬ qx = g by omega)
  have h13y := u13.heap h12y' (show ¬ w10.heap.size = g by omega)
  have h13w := u13.heap h12w (show ¬ w12.heap.size = g by omega)
  have h13X : Ext w w13 := u13.to_ext h12X (fun b hb => by rw [hb]; exact wg)
  clear h12g h12p h12x h12y' h12y h12w h12X u13
  refine (f26_any (some ⟨g, 0, none⟩) I3 256 256 _ HK3.out (by decide) (by decide) (row_octs g13)).mono ?_
  rw [HN3.out, show supV ((some (⟨n + 1, s.journal, s.area, s.which, s.len, s.sum, s.epoch, s.start⟩ : Sup) : Option Sup).getD sup0) = .agg #[.int .i64 (n + 1), .int .i64 s.journal, .int .i64 s.area, .int .i64 s.which, .int .i64 s.len, .int .u32 (s.sum : Int), .int .i64 s.epoch, .int .i64 s.start] from rfl]
  rintro e w14 ⟨rfl, x14⟩
  go_wp2_with fail
  have e14 : Ext w13 (w14.alloc (.cells #[.int .i64 (n + 1), .int .i64 s.journal, .int .i64 s.area, .int .i64 s.which, .int .i64 s.len, .int .u32 (s.sum : Int), .int .i64 s.epoch, .int .i64 s.start] 38)) := x14.alloc _
  have hz : (w14.alloc (.cells #[.int .i64 (n + 1), .int .i64 s.journal, .int .i64 s.area, .int .i64 s.which, .int .i64 s.len, .int .u32 (s.sum : Int), .int .i64 s.epoch, .int .i64 s.start] 38)).heap[w14.heap.size]? = some (.cells (supCells (⟨n + 1, s.journal, s.area, s.which, s.len, s.sum, s.epoch, s.start⟩ : Sup)) 38 (0, 0)) := heap_alloc_new w14 _
  have hp14 := e14.heap h13p
  have hx14 := e14.heap h13x
  have hy14 := e14.heap h13y
  have hw14 := e14.heap h13w
  have X14 := h13X.trans e14
  obtain ⟨qy, hqy⟩ : ∃ q, w10.heap.size = q := ⟨_, rfl⟩
  obtain ⟨qw, hqw⟩ : ∃ q, w12.heap.size = q := ⟨_, rfl⟩
  obtain ⟨qz, hqz⟩ : ∃ q, w14.heap.size = q := ⟨_, rfl⟩
  rw [hqy] at hy14 ⊢
  rw [hqw] at hw14 ⊢
  rw [hqz] at hz ⊢
  clear hqy hqw hqz gy gw gx e14 x14 h13p h13x h13y h13w h13X g13
  generalize w14.alloc (.cells #[.int .i64 (n + 1), .int .i64 s.journal, .int .i64 s.area, .int .i64 s.which, .int .i64 s.len, .int .u32 (s.sum : Int), .int .i64 s.epoch, .int .i64 s.start] 38) = w15 at *
  refine wp_region_held_drew (S := fun w' => Ext w15 w') (by kernel_rfl) ((Ext.refl _).drew) (fun hS => ?_)
  refine takeH (i := 0) (v := ?_) rfl rfl (by kernel_rfl) (by kernel_rfl) (by kernel_rfl) (fun _ _ _ h => h) (Or.inl ⟨by kernel_rfl, ?_⟩) hS ?_
  rotate_left 1
  · (intro w' hS'; go_simp; try (with_reducible rfl))
  simp only [List.setIfInBounds_toArray, List.set_cons_succ, List.set_cons_zero]
  refine takeH (i := 1) (v := ?_) rfl rfl (by kernel_rfl) (by kernel_rfl) (by kernel_rfl) (fun _ _ _ h => h) (Or.inl ⟨by kernel_rfl, ?_⟩) hS ?_
  rotate_left 1
  · (intro w' hS'; go_simp; try (with_reducible rfl))
  simp only [List.setIfInBounds_toArray, List.set_cons_succ, List.set_cons_zero]
  refine takeH (i := 2) (v := ?_) rfl rfl (by kernel_rfl) (by kernel_rfl) (by kernel_rfl) (fun _ _ _ h => h) (Or.inl ⟨by kernel_rfl, ?_⟩) hS ?_
  rotate_left 1
  · (intro w' hS'; go_simp; try (with_reducible rfl))
  simp only [List.setIfInBounds_toArray, List.set_cons_succ, List.set_cons_zero]
  refine takeH (i := 3) (v := ?_) rfl rfl (by kernel_rfl) (by kernel_rfl) (by kernel_rfl) (fun _ _ _ h => h) (Or.inl ⟨by kernel_rfl, ?_⟩) hS ?_
  rotate_left 1
  · (intro w' hS'; go_simp; try (with_reducible rfl))
  simp only [List.setIfInBounds_toArray, List.set_cons_succ, List.set_cons_zero]
  refine takeH (i := 4) (v := ?_) rfl rfl (by kernel_rfl) (by kernel_rfl) (by kernel_rfl) (fun _ _ _ h => h) (Or.inl ⟨by kernel_rfl, ?_⟩) hS ?_
  rotate_left 1
  · (intro w' hS'; go_simp; try (with_reducible rfl))
  simp only [List.setIfInBounds_toArray, List.set_cons_succ, List.set_cons_zero]
  refine takeH (i := 5) (v := ?_) rfl rfl (by kernel_rfl) (by kernel_rfl) (by kernel_rfl) (fun _ _ _ h => h) (Or.inl ⟨by kernel_rfl, ?_⟩) hS ?_
  rotate_left 1
  · (intro w' hS'; go_simp; try (with_reducible rfl))
  simp only [List.setIfInBounds_toArray, List.set_cons_succ, List.set_cons_zero]
  refine takeH (i := 6) (v := ?_) rfl rfl (by kernel_rfl) (by kernel_rfl) (by kernel_rfl) (fun _ _ _ h => h) (Or.inl ⟨by kernel_rfl, ?_⟩) hS ?_
  rotate_left 1
  · (intro w' hS'; go_simp; try (with_reducible rfl))
  simp only [List.setIfInBounds_toArray, List.set_cons_succ, List.set_cons_zero]
  refine takeH (i := 7) (v := ?_) rfl rfl (by kernel_rfl) (by kernel_rfl) (by kernel_rfl) (fun _ _ _ h => h) (Or.inl ⟨by kernel_rfl, ?_⟩) hS ?_
  rotate_left 1
  · (intro w' hS'; obtain ⟨c0, c1, c2, c3, c4, c5, c6, c7, cf⟩ := sup_cells (s := plainS n) (hS'.heap hx14); simp only [plainS] at c0 c1 c2 c3 c4 c5 c6 c7; go_simp; try (with_reducible rfl))
  simp only [List.setIfInBounds_toArray, List.set_cons_succ, List.set_cons_zero]
  refine takeH (i := 8) (v := ?_) rfl rfl (by kernel_rfl) (by kernel_rfl) (by kernel_rfl) (fun _ _ _ h => h) (Or.inl ⟨by kernel_rfl, ?_⟩) hS ?_
  rotate_left 1
  · (intro w' hS'; go_simp; try (with_reducible rfl))
  simp only [List.setIfInBounds_toArray, List.set_cons_succ, List.set_cons_zero]
  refine wpAnyH_ready (rs := [9]) (by kernel_rfl) (by simp) ?_
  refine AllReadyH.cons rfl (fun K hK => ?_) ?_
  rotate_left 1
  · exact AllReadyH.nil
  go_simp
  refine (PX _).mono ?_; rintro e w16 ⟨rfl, x16⟩
  refine hK.out _ _ (hS.trans x16) (fun hS => ?_)
  clear hK K
  refine takeH (i := 10) (v := ?_) rfl rfl (by kernel_rfl) (by kernel_rfl) (by kernel_rfl) (fun _ _ _ h => h) (Or.inl ⟨by kernel_rfl, ?_⟩) hS ?_
  rotate_left 1
  · (intro w' hS'; go_simp; try (with_reducible rfl))
  simp only [List.setIfInBounds_toArray, List.set_cons_succ, List.set_cons_zero]
  refine takeH (i := 11) (v := ?_) rfl rfl (by kernel_rfl) (by kernel_rfl) (by kernel_rfl) (fun _ _ _ h => h) (Or.inl ⟨by kernel_rfl, ?_⟩) hS ?_
  rotate_left 1
  · (intro w' hS'; go_simp; try (with_reducible rfl))
  simp only [List.setIfInBounds_toArray, List.set_cons_succ, List.set_cons_zero]
  refine takeH (i := 12) (v := ?_) rfl rfl (by kernel_rfl) (by kernel_rfl) (by kernel_rfl) (fun _ _ _ h => h) (Or.inl ⟨by kernel_rfl, ?_⟩) hS ?_
  rotate_left 1
  · (intro w' hS'; go_simp; try (with_reducible rfl))
  simp only [List.setIfInBounds_toArray, List.set_cons_succ, List.set_cons_zero]
  refine takeH (i := 13) (v := ?_) rfl rfl (by kernel_rfl) (by kernel_rfl) (by kernel_rfl) (fun _ _ _ h => h) (Or.inl ⟨by kernel_rfl, ?_⟩) hS ?_
  rotate_left 1
  · (intro w' hS'; obtain ⟨c0, c1, c2, c3, c4, c5, c6, c7, cf⟩ := sup_cells (s := (⟨n + 1, s.journal, s.area, s.which, s.len, s.sum, s.epoch, s.start⟩ : Sup)) (hS'.heap hz); simp only at c0 c1 c2 c3 c4 c5 c6 c7; go_simp; try (with_reducible rfl))
  simp only [List.setIfInBounds_toArray, List.set_cons_succ, List.set_cons_zero]
  refine takeH (i := 14) (v := ?_) rfl rfl (by kernel_rfl) (by kernel_rfl) (by kernel_rfl) (fun _ _ _ h => h) (Or.inl ⟨by kernel_rfl, ?_⟩) hS ?_
  rotate_left 1
  · (intro w' hS'; obtain ⟨c0, c1, c2, c3, c4, c5, c6, c7, cf⟩ := sup_cells (s := (⟨n + 1, s.journal, s.area, s.which, s.len, s.sum, s.epoch, s.start⟩ : Sup)) (hS'.heap hp14); simp only at c0 c1 c2 c3 c4 c5 c6 c7; go_simp; try (with_reducible rfl))
  simp only [List.setIfInBounds_toArray, List.set_cons_succ, List.set_cons_zero]
  refine takeH (i := 15) (v := ?_) rfl rfl (by kernel_rfl) (by kernel_rfl) (by kernel_rfl) (fun _ _ _ h => h) (Or.inl ⟨by kernel_rfl, ?_⟩) hS ?_
  rotate_left 1
  · (intro w' hS'; go_simp; try (with_reducible rfl))
  simp only [List.setIfInBounds_toArray, List.set_cons_succ, List.set_cons_zero]
  refine takeH (i := 16) (v := ?_) rfl rfl (by kernel_rfl) (by kernel_rfl) (by kernel_rfl) (fun _ _ _ h => h) (Or.inl ⟨by kernel_rfl, ?_⟩) hS ?_
  rotate_left 1
  · (intro w' hS'; go_simp; try (with_reducible rfl))
  simp only [List.setIfInBounds_toArray, List.set_cons_succ, List.set_cons_zero]
  refine wpAnyH_done (by kernel_rfl) ?_ _
  have hp16 := hS.heap hp14
  have hx16 := hS.heap hx14
  have hy16 := hS.heap hy14
  have hw16 := hS.heap hw14
  obtain ⟨c0, c1, c2, c3, c4, c5, c6, c7, cf⟩ := sup_cells (s := plainS n) hx16
  obtain ⟨d0, d1, d2, d3, d4, d5, d6, d7, df⟩ := sup_cells (s := (⟨n + 1, s.journal, s.area, s.which, s.len, s.sum, s.epoch, s.start⟩ : Sup)) hp16
  obtain ⟨i0, i1, i2, i3, i4, i5, i6, i7, jf⟩ := sup_cells (s := (⟨n + 1, s.journal, s.area, s.which, s.len, s.sum, s.epoch, s.start⟩ : Sup)) hy16
  obtain ⟨j0, j1, j2, j3, j4, j5, j6, j7, kf⟩ := sup_cells (s := (⟨n + 1, s.journal, s.area, s.which, s.len, s.sum, s.epoch, s.start⟩ : Sup)) hw16
  simp only [plainS] at c0 c1 c2 c3 c4 c5 c6 c7 d0 d1 d2 d3 d4 d5 d6 d7 i0 i1 i2 i3 i4 i5 i6 i7 j0 j1 j2 j3 j4 j5 j6 j7
  go_wp2_with fail
  all_goals
    go_ret
    refine ⟨ret_bool ?_, X14.trans hS⟩
    first
      | rfl
      | simp
theorem f5_walk (n : Int) (s : Sup) (cut : Int) (w : World) (hs : s.sum < 4294967296) :
    Calls Try.prog 5 #[.int .i64 n, supV s, .int .i64 cut] w fun e w' => e = .returned (.bool true) ∧ Ext w w' := by
  by_cases h1 : n < 1
  · exact f5_early0 n s cut w h1
  by_cases h2 : 140737488355328 < n
  · exact f5_early1 n s cut w h1 h2
  by_cases hr : supRight (⟨n + 1, s.journal, s.area, s.which, s.len, s.sum, s.epoch, s.start⟩ : Sup)
  · obtain ⟨a0, k, ha0, _, _, ha3, ha4⟩ := round_two cut 128 (by decide)
    replace ha0 : cut.tmod 128 = a0 := ha0
    replace ha3 : (a0 + 128).tmod 128 = (k : Int) := ha3
    have hk : ∀ (odd : Bool) (r : Option Sup), supNewest (img odd (supPut (plainS n)) ((supPut (⟨n + 1, s.journal, s.area, s.which, s.len, s.sum, s.epoch, s.start⟩ : Sup)).take k ++ zer (128 - k))) = r → ∀ k2 : Nat, (cut.tmod 128 + 128).tmod 128 = (k2 : Int) → supNewest (img odd (supPut (plainS n)) ((supPut (⟨n + 1, s.journal, s.area, s.which, s.len, s.sum, s.epoch, s.start⟩ : Sup)).take k2 ++ zer (128 - k2))) = r := by
      intro odd r hr2 k2 h3
      rw [ha0, ha3] at h3
      obtain rfl : k = k2 := by omega
      exact hr2
    have hq : ((supPut (⟨n + 1, s.journal, s.area, s.which, s.len, s.sum, s.epoch, s.start⟩ : Sup)).take k ++ zer (128 - k)).length = 128 := by rw [List.length_append, List.length_take, length_supPut, length_zer]; omega
    have hcase : supGet ((supPut (⟨n + 1, s.journal, s.area, s.which, s.len, s.sum, s.epoch, s.start⟩ : Sup)).take k ++ zer (128 - k)) = none ∨ supGet ((supPut (⟨n + 1, s.journal, s.area, s.which, s.len, s.sum, s.epoch, s.start⟩ : Sup)).take k ++ zer (128 - k)) = some (⟨n + 1, s.journal, s.area, s.which, s.len, s.sum, s.epoch, s.start⟩ : Sup) := by
      cases hg : supGet ((supPut (⟨n + 1, s.journal, s.area, s.which, s.len, s.sum, s.epoch, s.start⟩ : Sup)).take k ++ zer (128 - k)) with
      | none => exact .inl rfl
      | some u => exact .inr (by rw [get_part _ hr hs k ha4 u hg])
    rcases (by omega : n % 2 = 0 ∨ n % 2 = 1) with ho | ho
    · rcases hcase with hg | hg
      · exact f5_even_x n s cut w hs (by omega) (by omega) hr ho (hk false _ (img_none n (by omega) (by omega) false ho _ hq hg))
      · exact f5_even_s n s cut w hs (by omega) (by omega) hr ho (hk false _ (img_some n (by omega) (by omega) false ho _ hq _ hg rfl))
    · rcases hcase with hg | hg
      · exact f5_odd_x n s cut w hs (by omega) (by omega) hr ho (hk true _ (img_none n (by omega) (by omega) true ho _ hq hg))
      · exact f5_odd_s n s cut w hs (by omega) (by omega) hr ho (hk true _ (img_some n (by omega) (by omega) true ho _ hq _ hg rfl))
  · exact f5_wrong n s cut w h1 h2 hr
end Go.Proofs.Ytanmjmeabcloiaa
