/- SuperTorn: the walk. -/
import Derived.Test.YtanmjmeabcloiaaSa
import Derived.Test.YtanmjmeabcloiaaTo
import Derived.Test.YtanmjmeabcloiaaSuT
namespace Go.Proofs.Ytanmjmeabcloiaa
open Go.RowKit
open Go.Proofs

theorem up_empty (W0 : World) : Up W0 (W0.alloc (.cells #[] 5)) (.slice (some ⟨W0.heap.size, 0, none⟩) 0 0) [] := Up.new (Ext.refl W0) #[] 0 0 [] rfl (Nat.le_refl _) (Nat.le_refl _) (by decide) (fun j u h => by simp [octs] at h)
set_option maxRecDepth 100000 in
set_option maxHeartbeats 1000000 in
theorem f8_e1 (s t : Sup) (cut : Int) (w : World) (rs : ¬ supRight s) :
    Calls Try.prog 8 #[supV s, supV t, .int .i64 cut] w fun e w' => e = .returned (.bool true) ∧ Ext w w' := by
  have RS : ∀ W, Calls Try.prog 22 #[supV s] W fun e w' => e = .returned (.bool false) ∧ Ext W w' := fun W => by
    have := f22_any s W
    rw [decide_eq_false rs] at this
    exact this
  simp only [supV, supCells] at RS
  go_enter Try.func8, Try.ntmps8
  go_wp2_with fail
  refine (f19_any _).mono ?_
  rintro e w1 ⟨rfl, x1⟩
  have hp := x1.heap (heap_alloc2_old w (.cells (supCells s) 38) (.cells (supCells t) 38))
  have hq := x1.heap (heap_alloc2_new w (.cells (supCells s) 38) (.cells (supCells t) 38))
  have X1 := (((Ext.refl w).alloc (.cells (supCells s) 38)).alloc (.cells (supCells t) 38)).trans x1
  obtain ⟨c0, c1, c2, c3, c4, c5, c6, c7, cf⟩ := sup_cells hp
  obtain ⟨d0, d1, d2, d3, d4, d5, d6, d7, df⟩ := sup_cells hq
  go_wp2_with fail
  refine (RS _).mono ?_
  rintro e w2 ⟨rfl, x2⟩
  go_wp2_with fail
  refine (f19_any _).mono ?_
  rintro e w9 ⟨rfl, x9⟩
  go_wp2_with fail
  go_ret
  exact ⟨rfl, (X1.trans x2).trans x9⟩
set_option maxRecDepth 100000 in
set_option maxHeartbeats 1000000 in
theorem f8_e2 (s t : Sup) (cut : Int) (w : World) (rs : supRight s) (rt : ¬ supRight t) :
    Calls Try.prog 8 #[supV s, supV t, .int .i64 cut] w fun e w' => e = .returned (.bool true) ∧ Ext w w' := by
  have RS : ∀ W, Calls Try.prog 22 #[supV s] W fun e w' => e = .returned (.bool true) ∧ Ext W w' := fun W => by
    have := f22_any s W
    rw [decide_eq_true rs] at this
    exact this
  simp only [supV, supCells] at RS
  have RT : ∀ W, Calls Try.prog 22 #[supV t] W fun e w' => e = .returned (.bool false) ∧ Ext W w' := fun W => by
    have := f22_any t W
    rw [decide_eq_false rt] at this
    exact this
  simp only [supV, supCells] at RT
  go_enter Try.func8, Try.ntmps8
  go_wp2_with fail
  refine (f19_any _).mono ?_
  rintro e w1 ⟨rfl, x1⟩
  have hp := x1.heap (heap_alloc2_old w (.cells (supCells s) 38) (.cells (supCells t) 38))
  have hq := x1.heap (heap_alloc2_new w (.cells (supCells s) 38) (.cells (supCells t) 38))
  have X1 := (((Ext.refl w).alloc (.cells (supCells s) 38)).alloc (.cells (supCells t) 38)).trans x1
  obtain ⟨c0, c1, c2, c3, c4, c5, c6, c7, cf⟩ := sup_cells hp
  obtain ⟨d0, d1, d2, d3, d4, d5, d6, d7, df⟩ := sup_cells hq
  go_wp2_with fail
  refine (RS _).mono ?_
  rintro e w2 ⟨rfl, x2⟩
  clear c0 c1 c2 c3 c4 c5 c6 c7 cf d0 d1 d2 d3 d4 d5 d6 d7 df
  have hp2 := x2.heap hp
  have hq2 := x2.heap hq
  obtain ⟨c0, c1, c2, c3, c4, c5, c6, c7, cf⟩ := sup_cells hp2
  obtain ⟨d0, d1, d2, d3, d4, d5, d6, d7, df⟩ := sup_cells hq2
  go_wp2_with fail
  refine (RT _).mono ?_
  rintro e w3 ⟨rfl, x3⟩
  go_wp2_with fail
  refine (f19_any _).mono ?_
  rintro e w9 ⟨rfl, x9⟩
  go_wp2_with fail
  go_ret
  exact ⟨rfl, ((X1.trans x2).trans x3).trans x9⟩
set_option maxRecDepth 100000 in
set_option maxHeartbeats 1000000 in
theorem f8_e3 (s t : Sup) (cut : Int) (w : World) (rs : supRight s) (rt : supRight t) (h : ¬ s.gen < t.gen) :
    Calls Try.prog 8 #[supV s, supV t, .int .i64 cut] w fun e w' => e = .returned (.bool true) ∧ Ext w w' := by
  have RS : ∀ W, Calls Try.prog 22 #[supV s] W fun e w' => e = .returned (.bool true) ∧ Ext W w' := fun W => by
    have := f22_any s W
    rw [decide_eq_true rs] at this
    exact this
  simp only [supV, supCells] at RS
  have RT : ∀ W, Calls Try.prog 22 #[supV t] W fun e w' => e = .returned (.bool true) ∧ Ext W w' := fun W => by
    have := f22_any t W
    rw [decide_eq_true rt] at this
    exact this
  simp only [supV, supCells] at RT
  have h2 : (t.gen ≤ s.gen) = True := eq_true (by omega)
  go_enter Try.func8, Try.ntmps8
  go_wp2_with fail
  refine (f19_any _).mono ?_
  rintro e w1 ⟨rfl, x1⟩
  have hp := x1.heap (heap_alloc2_old w (.cells (supCells s) 38) (.cells (supCells t) 38))
  have hq := x1.heap (heap_alloc2_new w (.cells (supCells s) 38) (.cells (supCells t) 38))
  have X1 := (((Ext.refl w).alloc (.cells (supCells s) 38)).alloc (.cells (supCells t) 38)).trans x1
  obtain ⟨c0, c1, c2, c3, c4, c5, c6, c7, cf⟩ := sup_cells hp
  obtain ⟨d0, d1, d2, d3, d4, d5, d6, d7, df⟩ := sup_cells hq
  go_wp2_with fail
  refine (RS _).mono ?_
  rintro e w2 ⟨rfl, x2⟩
  clear c0 c1 c2 c3 c4 c5 c6 c7 cf d0 d1 d2 d3 d4 d5 d6 d7 df
  have hp2 := x2.heap hp
  have hq2 := x2.heap hq
  obtain ⟨c0, c1, c2, c3, c4, c5, c6, c7, cf⟩ := sup_cells hp2
  obtain ⟨d0, d1, d2, d3, d4, d5, d6, d7, df⟩ := sup_cells hq2
  go_wp2_with fail
  refine (RT _).mono ?_
  rintro e w3 ⟨rfl, x3⟩
  clear c0 c1 c2 c3 c4 c5 c6 c7 cf d0 d1 d2 d3 d4 d5 d6 d7 df
  have hp3 := x3.heap hp2
  have hq3 := x3.heap hq2
  obtain ⟨c0, c1, c2, c3, c4, c5, c6, c7, cf⟩ := sup_cells hp3
  obtain ⟨d0, d1, d2, d3, d4, d5, d6, d7, df⟩ := sup_cells hq3
  go_wp2_with fail
  refine (f19_any _).mono ?_
  rintro e w9 ⟨rfl, x9⟩
  go_wp2_with fail
  go_ret
  exact ⟨rfl, ((X1.trans x2).trans x3).trans x9⟩
set_option maxRecDepth 100000 in
set_option maxHeartbeats 1000000 in
theorem f8_e4 (s t : Sup) (cut : Int) (w : World) (rs : supRight s) (rt : supRight t) (h0 : s.gen < t.gen) (h : ¬ t.gen ≤ 255) :
    Calls Try.prog 8 #[supV s, supV t, .int .i64 cut] w fun e w' => e = .returned (.bool true) ∧ Ext w w' := by
  have RS : ∀ W, Calls Try.prog 22 #[supV s] W fun e w' => e = .returned (.bool true) ∧ Ext W w' := fun W => by
    have := f22_any s W
    rw [decide_eq_true rs] at this
    exact this
  simp only [supV, supCells] at RS
  have RT : ∀ W, Calls Try.prog 22 #[supV t] W fun e w' => e = .returned (.bool true) ∧ Ext W w' := fun W => by
    have := f22_any t W
    rw [decide_eq_true rt] at this
    exact this
  simp only [supV, supCells] at RT
  have h2 : (t.gen ≤ s.gen) = False := eq_false (by omega)
  have h3 : (255 < t.gen) = True := eq_true (by omega)
  go_enter Try.func8, Try.ntmps8
  go_wp2_with fail
  refine (f19_any _).mono ?_
  rintro e w1 ⟨rfl, x1⟩
  have hp := x1.heap (heap_alloc2_old w (.cells (supCells s) 38) (.cells (supCells t) 38))
  have hq := x1.heap (heap_alloc2_new w (.cells (supCells s) 38) (.cells (supCells t) 38))
  have X1 := (((Ext.refl w).alloc (.cells (supCells s) 38)).alloc (.cells (supCells t) 38)).trans x1
  obtain ⟨c0, c1, c2, c3, c4, c5, c6, c7, cf⟩ := sup_cells hp
  obtain ⟨d0, d1, d2, d3, d4, d5, d6, d7, df⟩ := sup_cells hq
  go_wp2_with fail
  refine (RS _).mono ?_
  rintro e w2 ⟨rfl, x2⟩
  clear c0 c1 c2 c3 c4 c5 c6 c7 cf d0 d1 d2 d3 d4 d5 d6 d7 df
  have hp2 := x2.heap hp
  have hq2 := x2.heap hq
  obtain ⟨c0, c1, c2, c3, c4, c5, c6, c7, cf⟩ := sup_cells hp2
  obtain ⟨d0, d1, d2, d3, d4, d5, d6, d7, df⟩ := sup_cells hq2
  go_wp2_with fail
  refine (RT _).mono ?_
  rintro e w3 ⟨rfl, x3⟩
  clear c0 c1 c2 c3 c4 c5 c6 c7 cf d0 d1 d2 d3 d4 d5 d6 d7 df
  have hp3 := x3.heap hp2
  have hq3 := x3.heap hq2
  obtain ⟨c0, c1, c2, c3, c4, c5, c6, c7, cf⟩ := sup_cells hp3
  obtain ⟨d0, d1, d2, d3, d4, d5, d6, d7, df⟩ := sup_cells hq3
  go_wp2_with fail
  refine (f19_any _).mono ?_
  rintro e w9 ⟨rfl, x9⟩
  go_wp2_with fail
  go_ret
  exact ⟨rfl, ((X1.trans x2).trans x3).trans x9⟩
set_option maxRecDepth 100000 in
set_option maxHeartbeats 2000000 in
theorem f8_none (s t : Sup) (cut : Int) (w : World) (hs : s.sum < 4294967296) (ht : t.sum < 4294967296) (rs : supRight s) (rt : supRight t) (hlt : s.gen < t.gen) (h255 : t.gen ≤ 255)
    (hgg : ∀ k : Nat, (cut.tmod 129 + 129).tmod 129 = (k : Int) → supGet ((supPut t).take k ++ (supPut s).drop k) = (none : Option Sup)) :
    Calls Try.prog 8 #[supV s, supV t, .int .i64 cut] w fun e w' => e = .returned (.bool true) ∧ Ext w w' := by
  obtain ⟨a0, k, ha0, ha1, ha2, ha3, ha4⟩ := round_two cut 129 (by decide)
  replace ha0 : cut.tmod 129 = a0 := ha0
  replace ha3 : (a0 + 129).tmod 129 = (k : Int) := ha3
  replace ha1 : -129 < a0 := ha1
  replace ha2 : a0 < 129 := ha2
  have hw1 : IntKind.i64.wrap (a0 + 129) = a0 + 129 := IntWalk.i64_in _ (by omega)
  have HT := top_torn s t rs hlt h255 k (by omega)
  have hg := hgg k (by rw [ha0]; exact ha3)
  clear hgg
  have PS := fun W => f20_right s W hs rs
  have PT := fun W => f20_right t W ht rt
  have RS : ∀ W, Calls Try.prog 22 #[supV s] W fun e w' => e = .returned (.bool true) ∧ Ext W w' := fun W => by
    have := f22_any s W
    rw [decide_eq_true rs] at this
    exact this
  have RT : ∀ W, Calls Try.prog 22 #[supV t] W fun e w' => e = .returned (.bool true) ∧ Ext W w' := fun W => by
    have := f22_any t W
    rw [decide_eq_true rt] at this
    exact this
  have ls := length_supPut s
  have lt := length_supPut t
  simp only [supV, supCells] at PS PT RS RT
  have hne : (t.gen == s.gen) = false := beq_eq_false_iff_ne.2 (by omega)
  have hne2 : (s.gen == t.gen) = false := beq_eq_false_iff_ne.2 (by omega)
  generalize supPut s = X at *
  generalize supPut t = Y at *
  obtain ⟨Z, hZ⟩ : ∃ Z, Z = Y.take k ++ X.drop k := ⟨_, rfl⟩
  rw [← hZ] at HT hg
  have lZ : Z.length = 128 := by rw [hZ, List.length_append, List.length_take, List.length_drop]; omega
  have HX := Lib.hid ls
  have HY := Lib.hid lt
  have HZ := Lib.hid hZ
  have HZL := Lib.hid lZ
  have HTT := Lib.hid HT
  have HUU := Lib.hid hg
  have hk9 : (k : Int) < 129 := by omega
  have HK := Lib.hid ha4
  clear hs ht rs rt ls lt hZ lZ HT hg ha1 ha2 ha4
  go_enter Try.func8, Try.ntmps8
  go_wp2_with fail
  refine (f19_any _).mono ?_
  rintro e w1 ⟨rfl, x1⟩
  have hp := x1.heap (heap_alloc2_old w (.cells (supCells s) 38) (.cells (supCells t) 38))
  have hq := x1.heap (heap_alloc2_new w (.cells (supCells s) 38) (.cells (supCells t) 38))
  have X1 := (((Ext.refl w).alloc (.cells (supCells s) 38)).alloc (.cells (supCells t) 38)).trans x1
  obtain ⟨q, hq1⟩ : ∃ q, w.heap.size + 1 = q := ⟨_, rfl⟩
  obtain ⟨p, hp1⟩ : ∃ p, w.heap.size = p := ⟨_, rfl⟩
  rw [hq1] at hq ⊢
  rw [hp1] at hp ⊢
  have HP1 := Lib.hid hp1
  clear hp1 hq1 x1
  obtain ⟨c0, c1, c2, c3, c4, c5, c6, c7, cf⟩ := sup_cells hp
  obtain ⟨d0, d1, d2, d3, d4, d5, d6, d7, df⟩ := sup_cells hq
  go_wp2_with fail
  refine (RS _).mono ?_
  rintro e w2 ⟨rfl, x2⟩
  clear c0 c1 c2 c3 c4 c5 c6 c7 cf d0 d1 d2 d3 d4 d5 d6 d7 df
  have hp2 := x2.heap hp
  have hq2 := x2.heap hq
  obtain ⟨c0, c1, c2, c3, c4, c5, c6, c7, cf⟩ := sup_cells hp2
  obtain ⟨d0, d1, d2, d3, d4, d5, d6, d7, df⟩ := sup_cells hq2
  go_wp2_with fail
  refine (RT _).mono ?_
  rintro e w3 ⟨rfl, x3⟩
  clear c0 c1 c2 c3 c4 c5 c6 c7 cf d0 d1 d2 d3 d4 d5 d6 d7 df
  have hp3 := x3.heap hp2
  have hq3 := x3.heap hq2
  obtain ⟨c0, c1, c2, c3, c4, c5, c6, c7, cf⟩ := sup_cells hp3
  obtain ⟨d0, d1, d2, d3, d4, d5, d6, d7, df⟩ := sup_cells hq3
  go_wp2_with fail
  refine (PS _).mono ?_
  rintro e w4 ⟨v4, rfl, o4, x4⟩
  obtain ⟨A4, e4, rfl, k4, y4⟩ := o4.octs_form
  rw [HX.out] at k4 ⊢
  clear c0 c1 c2 c3 c4 c5 c6 c7 cf d0 d1 d2 d3 d4 d5 d6 d7 df
  have hp4 := x4.heap hp3
  have hq4 := x4.heap hq3
  obtain ⟨c0, c1, c2, c3, c4, c5, c6, c7, cf⟩ := sup_cells hp4
  obtain ⟨d0, d1, d2, d3, d4, d5, d6, d7, df⟩ := sup_cells hq4
  go_wp2_with fail
  refine (PT _).mono ?_
  rintro e w5 ⟨v5, rfl, o5, x5⟩
  obtain ⟨A5, e5, rfl, k5, y5⟩ := o5.octs_form
  rw [HY.out] at k5 ⊢
  clear c0 c1 c2 c3 c4 c5 c6 c7 cf d0 d1 d2 d3 d4 d5 d6 d7 df
  have hp5 := x5.heap hp4
  have hq5 := x5.heap hq4
  have X5 := (((X1.trans x2).trans x3).trans x4).trans x5
  have y45 := y4.ext x5
  clear X1 x2 x3 x4 x5 hp hq hp2 hq2 hp3 hq3 hp4 hq4 y4 o4 o5 PS PT RS RT
  obtain ⟨B5, s1, _, s3, _⟩ := cut_hi A5 Y e5 k (by rw [HY.out]; omega) (by rw [HY.out]; exact k5)
  obtain ⟨B4, r1, _, r3, _⟩ := cut_lo A4 X e4 k (by rw [HX.out]; omega) (by rw [HX.out]; exact k4)
  rw [HY.out] at s1
  rw [HX.out] at r1
  have yB5 := s3 _ y5
  have yB4 := r3 _ y45
  have lB5 : Hid ((Y.take k).length = k) := Lib.hid (by rw [List.length_take, HY.out]; have := HK.out; omega)
  have lB4 : Hid ((X.drop k).length = 128 - k) := Lib.hid (by rw [List.length_drop, HX.out])
  clear s3 r3 y5 y45
  have hk128 : k ≤ 128 := by omega
  go_wp2_with fail
  refine wp_region_held_drew (S := fun w' => Ext w5 w') (by kernel_rfl) ((Ext.refl _).drew) (fun hS => ?_)
  refine takeH (i := 1) (v := ?_) rfl rfl (by kernel_rfl) (by kernel_rfl) (by kernel_rfl) (fun _ _ _ h => h) (Or.inl ⟨by kernel_rfl, ?_⟩) hS ?_
  rotate_left 1
  · (intro w' hS'; go_simp; try (with_reducible rfl))
  simp only [List.setIfInBounds_toArray, List.set_cons_succ, List.set_cons_zero]
  refine takeH (i := 2) (v := ?_) rfl rfl (by kernel_rfl) (by kernel_rfl) (by kernel_rfl) (fun _ _ _ h => h) (Or.inl ⟨by kernel_rfl, ?_⟩) hS ?_
  rotate_left 1
  · (intro w' hS'; go_simp; try (with_reducible rfl))
  simp only [List.setIfInBounds_toArray, List.set_cons_succ, List.set_cons_zero]
  refine takeH (i := 3) (v := ?_) rfl rfl (by kernel_rfl) (by kernel_rfl) (by kernel_rfl) (fun _ _ _ h => h) (Or.inl ⟨by kernel_rfl, ?_⟩) hS ?_
  rotate_left 1
  · (intro w' hS'; go_simp; try (with_reducible rfl))
  simp only [List.setIfInBounds_toArray, List.set_cons_succ, List.set_cons_zero]
  refine takeH (i := 5) (v := ?_) rfl rfl (by kernel_rfl) (by kernel_rfl) (by kernel_rfl) (fun _ _ _ h => h) (Or.inl ⟨by kernel_rfl, ?_⟩) hS ?_
  rotate_left 1
  · (intro w' hS'; go_simp; try (with_reducible rfl))
  simp only [List.setIfInBounds_toArray, List.set_cons_succ, List.set_cons_zero]
  refine takeH (i := 6) (v := ?_) rfl rfl (by kernel_rfl) (by kernel_rfl) (by kernel_rfl) (fun _ _ _ h => h) (Or.inl ⟨by kernel_rfl, ?_⟩) hS ?_
  rotate_left 1
  · (intro w' hS'; go_simp; try (with_reducible rfl))
  simp only [List.setIfInBounds_toArray, List.set_cons_succ, List.set_cons_zero]
  refine takeH (i := 7) (v := ?_) rfl rfl (by kernel_rfl) (by kernel_rfl) (by kernel_rfl) (fun _ _ _ h => h) (Or.inl ⟨by kernel_rfl, ?_⟩) hS ?_
  rotate_left 1
  · (intro w' hS'; go_simp; try (with_reducible rfl))
  simp only [List.setIfInBounds_toArray, List.set_cons_succ, List.set_cons_zero]
  refine wpAnyH_ready (rs := [0]) (by kernel_rfl) (by simp) ?_
  refine AllReadyH.cons rfl (fun K hK => ?_) ?_
  rotate_left 1
  · exact AllReadyH.nil
  go_simp
  refine hK.out _ _ (by first | exact hS | exact hS.alloc _ | exact x7 | exact x6) (fun hS => ?_)
  clear hK K
  refine wpAnyH_ready (rs := [4]) (by kernel_rfl) (by simp) ?_
  refine AllReadyH.cons rfl (fun K hK => ?_) ?_
  rotate_left 1
  · exact AllReadyH.nil
  refine step_up rfl (.tmp 63) (.tmp 66) rfl _ [] rfl ((up_empty w5).ext ((Ext.refl _).drew)) (((Ext.refl w5).alloc _).drew) B5 _ _ (Y.take k) rfl lB5.out ((yB5.alloc _).drew) (by rw [lB5.out]; have := HK.out; simp only [List.length_nil]; omega) ?_; intro v6 w6 u6 x6; rw [List.nil_append] at u6
  try go_simp
  refine hK.out _ _ (by first | exact hS | exact hS.alloc _ | exact x7 | exact x6) (fun hS => ?_)
  clear hK K
  refine wpAnyH_ready (rs := [8]) (by kernel_rfl) (by simp) ?_
  refine AllReadyH.cons rfl (fun K hK => ?_) ?_
  rotate_left 1
  · exact AllReadyH.nil
  refine step_up rfl (.tmp 67) (.tmp 70) rfl v6 _ rfl u6 x6 B4 _ _ (X.drop k) rfl lB4.out (yB4.ext x6) (by rw [lB5.out, lB4.out]; have := HK.out; omega) ?_; intro v7 w7 u7 x7; rw [← HZ.out] at u7; obtain ⟨A7, e7, rfl, k7, _, y7⟩ := u7.form; rw [HZL.out] at k7 ⊢
  try go_simp
  refine hK.out _ _ (by first | exact hS | exact hS.alloc _ | exact x7 | exact x6) (fun hS => ?_)
  clear hK K
  refine takeH (i := 9) (v := ?_) rfl rfl (by kernel_rfl) (by kernel_rfl) (by kernel_rfl) (fun _ _ _ h => h) (Or.inl ⟨by kernel_rfl, ?_⟩) hS ?_
  rotate_left 1
  · (intro w' hS'; go_simp; try (with_reducible rfl))
  simp only [List.setIfInBounds_toArray, List.set_cons_succ, List.set_cons_zero]
  refine wpAnyH_done (by kernel_rfl) ?_ _
  have X7 := X5.trans hS
  have hp7 := hS.heap hp5
  have hq7 := hS.heap hq5
  have ltp := block_lt_of_cell (sup_cells hp7).1
  have ltq := block_lt_of_cell (sup_cells hq7).1
  simp only at ltp ltq
  clear X5 hp5 hq5 hS x7 x6 yB5 yB4 s1 r1 lB5 lB4
  go_wp2_with fail
  refine (f23_any A7 Z 128 e7 _ HZL.out (by decide) k7 y7).mono ?_
  rintro e w8 ⟨rfl, x8⟩
  have y8 := y7.ext x8
  have X8 := X7.trans x8
  have hp8 := x8.heap hp7
  have hq8 := x8.heap hq7
  have ltp8 := Nat.lt_of_lt_of_le ltp x8.size
  have ltq8 := Nat.lt_of_lt_of_le ltq x8.size
  clear x8 hp7 hq7 y7 X7 ltp ltq
  obtain ⟨c0, c1, c2, c3, c4, c5, c6, c7, cf⟩ := sup_cells hp8
  obtain ⟨d0, d1, d2, d3, d4, d5, d6, d7, df⟩ := sup_cells hq8
  have H9 := fun (U : Sup) (v9 : Value) (w9 : World) (u9 : Up (w8.alloc (.cells (supCells U) 38)) w9 v9 Z) => u9
  have lZZ : Hid ((Z ++ List.replicate 128 0).length = 256) := Lib.hid (by rw [List.length_append, HZL.out, List.length_replicate])
  rw [HUU.out, show supV ((none : Option Sup).getD sup0) = .agg #[.int .i64 0, .int .i64 0, .int .i64 0, .int .i64 0, .int .i64 0, .int .u32 0, .int .i64 0, .int .i64 0] from rfl]
  go_wp2_with (first
    | (go_at_call 29; refine (f29_any A10 _ 256 e10 _ lZZ.out k10 y10).mono ?_; rw [show (Z ++ List.replicate 128 0) = Z ++ zer 128 from rfl, HTT.out]; rintro e w11 ⟨rfl, x11⟩; have X11 := x10.trans x11; have hp11 := X11.heap ((Ext.refl w8).alloc (.cells #[.int .i64 0, .int .i64 0, .int .i64 0, .int .i64 0, .int .i64 0, .int .u32 0, .int .i64 0, .int .i64 0] 38) |>.heap hp8); have hq11 := X11.heap ((Ext.refl w8).alloc (.cells #[.int .i64 0, .int .i64 0, .int .i64 0, .int .i64 0, .int .i64 0, .int .u32 0, .int .i64 0, .int .i64 0] 38) |>.heap hq8); obtain ⟨c0, c1, c2, c3, c4, c5, c6, c7, cf⟩ := sup_cells hp11; obtain ⟨d0, d1, d2, d3, d4, d5, d6, d7, df⟩ := sup_cells hq11)
    | (at_builtin; refine wpList_up0 rfl (.tmp 88) (.tmp 89) rfl rfl _ rfl (by simp) A7 _ e7 Z rfl HZL.out (y8.alloc _) (by rw [HZL.out]; decide) ?_; intro v9 w9 u9 x9)
    | (at_builtin; refine wpList_up_zeros rfl (.tmp 90) (.const (.int .i64 128)) rfl v9 _ rfl u9 x9 128 rfl (by rw [HZL.out]; decide) ?_; intro v10 w10 u10 x10; obtain ⟨A10, e10, rfl, k10, _, y10⟩ := u10.form; rw [lZZ.out] at k10 ⊢)
    | (at_builtin; fail))
  all_goals
    go_ret
    refine ⟨ret_bool ?_, X8.trans (((Ext.refl w8).alloc _).trans X11)⟩
    first
      | rfl
      | (simp; omega)
set_option maxRecDepth 100000 in
set_option maxHeartbeats 2000000 in
theorem f8_s (s t : Sup) (cut : Int) (w : World) (hs : s.sum < 4294967296) (ht : t.sum < 4294967296) (rs : supRight s) (rt : supRight t) (hlt : s.gen < t.gen) (h255 : t.gen ≤ 255)
    (hgg : ∀ k : Nat, (cut.tmod 129 + 129).tmod 129 = (k : Int) → supGet ((supPut t).take k ++ (supPut s).drop k) = (some s : Option Sup)) :
    Calls Try.prog 8 #[supV s, supV t, .int .i64 cut] w fun e w' => e = .returned (.bool true) ∧ Ext w w' := by
  obtain ⟨a0, k, ha0, ha1, ha2, ha3, ha4⟩ := round_two cut 129 (by decide)
  replace ha0 : cut.tmod 129 = a0 := ha0
  replace ha3 : (a0 + 129).tmod 129 = (k : Int) := ha3
  replace ha1 : -129 < a0 := ha1
  replace ha2 : a0 < 129 := ha2
  have hw1 : IntKind.i64.wrap (a0 + 129) = a0 + 129 := IntWalk.i64_in _ (by omega)
  have HT := top_torn s t rs hlt h255 k (by omega)
  have hg := hgg k (by rw [ha0]; exact ha3)
  clear hgg
  have PS := fun W => f20_right s W hs rs
  have PT := fun W => f20_right t W ht rt
  have RS : ∀ W, Calls Try.prog 22 #[supV s] W fun e w' => e = .returned (.bool true) ∧ Ext W w' := fun W => by
    have := f22_any s W
    rw [decide_eq_true rs] at this
    exact this
  have RT : ∀ W, Calls Try.prog 22 #[supV t] W fun e w' => e = .returned (.bool true) ∧ Ext W w' := fun W => by
    have := f22_any t W
    rw [decide_eq_true rt] at this
    exact this
  have ls := length_supPut s
  have lt := length_supPut t
  simp only [supV, supCells] at PS PT RS RT
  have hne : (t.gen == s.gen) = false := beq_eq_false_iff_ne.2 (by omega)
  have hne2 : (s.gen == t.gen) = false := beq_eq_false_iff_ne.2 (by omega)
  generalize supPut s = X at *
  generalize supPut t = Y at *
  obtain ⟨Z, hZ⟩ : ∃ Z, Z = Y.take k ++ X.drop k := ⟨_, rfl⟩
  rw [← hZ] at HT hg
  have lZ : Z.length = 128 := by rw [hZ, List.length_append, List.length_take, List.length_drop]; omega
  have HX := Lib.hid ls
  have HY := Lib.hid lt
  have HZ := Lib.hid hZ
  have HZL := Lib.hid lZ
  have HTT := Lib.hid HT
  have HUU := Lib.hid hg
  have hk9 : (k : Int) < 129 := by omega
  have HK := Lib.hid ha4
  clear hs ht rs rt ls lt hZ lZ HT hg ha1 ha2 ha4
  go_enter Try.func8, Try.ntmps8
  go_wp2_with fail
  refine (f19_any _).mono ?_
  rintro e w1 ⟨rfl, x1⟩
  have hp := x1.heap (heap_alloc2_old w (.cells (supCells s) 38) (.cells (supCells t) 38))
  have hq := x1.heap (heap_alloc2_new w (.cells (supCells s) 38) (.cells (supCells t) 38))
  have X1 := (((Ext.refl w).alloc (.cells (supCells s) 38)).alloc (.cells (supCells t) 38)).trans x1
  obtain ⟨q, hq1⟩ : ∃ q, w.heap.size + 1 = q := ⟨_, rfl⟩
  obtain ⟨p, hp1⟩ : ∃ p, w.heap.size = p := ⟨_, rfl⟩
  rw [hq1] at hq ⊢
  rw [hp1] at hp ⊢
  have HP1 := Lib.hid hp1
  clear hp1 hq1 x1
  obtain ⟨c0, c1, c2, c3, c4, c5, c6, c7, cf⟩ := sup_cells hp
  obtain ⟨d0, d1, d2, d3, d4, d5, d6, d7, df⟩ := sup_cells hq
  go_wp2_with fail
  refine (RS _).mono ?_
  rintro e w2 ⟨rfl, x2⟩
  clear c0 c1 c2 c3 c4 c5 c6 c7 cf d0 d1 d2 d3 d4 d5 d6 d7 df
  have hp2 := x2.heap hp
  have hq2 := x2.heap hq
  obtain ⟨c0, c1, c2, c3, c4, c5, c6, c7, cf⟩ := sup_cells hp2
  obtain ⟨d0, d1, d2, d3, d4, d5, d6, d7, df⟩ := sup_cells hq2
  go_wp2_with fail
  refine (RT _).mono ?_
  rintro e w3 ⟨rfl, x3⟩
  clear c0 c1 c2 c3 c4 c5 c6 c7 cf d0 d1 d2 d3 d4 d5 d6 d7 df
  have hp3 := x3.heap hp2
  have hq3 := x3.heap hq2
  obtain ⟨c0, c1, c2, c3, c4, c5, c6, c7, cf⟩ := sup_cells hp3
  obtain ⟨d0, d1, d2, d3, d4, d5, d6, d7, df⟩ := sup_cells hq3
  go_wp2_with fail
  refine (PS _).mono ?_
  rintro e w4 ⟨v4, rfl, o4, x4⟩
  obtain ⟨A4, e4, rfl, k4, y4⟩ := o4.octs_form
  rw [HX.out] at k4 ⊢
  clear c0 c1 c2 c3 c4 c5 c6 c7 cf d0 d1 d2 d3 d4 d5 d6 d7 df
  have hp4 := x4.heap hp3
  have hq4 := x4.heap hq3
  obtain ⟨c0, c1, c2, c3, c4, c5, c6, c7, cf⟩ := sup_cells hp4
  obtain ⟨d0, d1, d2, d3, d4, d5, d6, d7, df⟩ := sup_cells hq4
  go_wp2_with fail
  refine (PT _).mono ?_
  rintro e w5 ⟨v5, rfl, o5, x5⟩
  obtain ⟨A5, e5, rfl, k5, y5⟩ := o5.octs_form
  rw [HY.out] at k5 ⊢
  clear c0 c1 c2 c3 c4 c5 c6 c7 cf d0 d1 d2 d3 d4 d5 d6 d7 df
  have hp5 := x5.heap hp4
  have hq5 := x5.heap hq4
  have X5 := (((X1.trans x2).trans x3).trans x4).trans x5
  have y45 := y4.ext x5
  clear X1 x2 x3 x4 x5 hp hq hp2 hq2 hp3 hq3 hp4 hq4 y4 o4 o5 PS PT RS RT
  obtain ⟨B5, s1, _, s3, _⟩ := cut_hi A5 Y e5 k (by rw [HY.out]; omega) (by rw [HY.out]; exact k5)
  obtain ⟨B4, r1, _, r3, _⟩ := cut_lo A4 X e4 k (by rw [HX.out]; omega) (by rw [HX.out]; exact k4)
  rw [HY.out] at s1
  rw [HX.out] at r1
  have yB5 := s3 _ y5
  have yB4 := r3 _ y45
  have lB5 : Hid ((Y.take k).length = k) := Lib.hid (by rw [List.length_take, HY.out]; have := HK.out; omega)
  have lB4 : Hid ((X.drop k).length = 128 - k) := Lib.hid (by rw [List.length_drop, HX.out])
  clear s3 r3 y5 y45
  have hk128 : k ≤ 128 := by omega
  go_wp2_with fail
  refine wp_region_held_drew (S := fun w' => Ext w5 w') (by kernel_rfl) ((Ext.refl _).drew) (fun hS => ?_)
  refine takeH (i := 1) (v := ?_) rfl rfl (by kernel_rfl) (by kernel_rfl) (by kernel_rfl) (fun _ _ _ h => h) (Or.inl ⟨by kernel_rfl, ?_⟩) hS ?_
  rotate_left 1
  · (intro w' hS'; go_simp; try (with_reducible rfl))
  simp only [List.setIfInBounds_toArray, List.set_cons_succ, List.set_cons_zero]
  refine takeH (i := 2) (v := ?_) rfl rfl (by kernel_rfl) (by kernel_rfl) (by kernel_rfl) (fun _ _ _ h => h) (Or.inl ⟨by kernel_rfl, ?_⟩) hS ?_
  rotate_left 1
  · (intro w' hS'; go_simp; try (with_reducible rfl))
  simp only [List.setIfInBounds_toArray, List.set_cons_succ, List.set_cons_zero]
  refine takeH (i := 3) (v := ?_) rfl rfl (by kernel_rfl) (by kernel_rfl) (by kernel_rfl) (fun _ _ _ h => h) (Or.inl ⟨by kernel_rfl, ?_⟩) hS ?_
  rotate_left 1
  · (intro w' hS'; go_simp; try (with_reducible rfl))
  simp only [List.setIfInBounds_toArray, List.set_cons_succ, List.set_cons_zero]
  refine takeH (i := 5) (v := ?_) rfl rfl (by kernel_rfl) (by kernel_rfl) (by kernel_rfl) (fun _ _ _ h => h) (Or.inl ⟨by kernel_rfl, ?_⟩) hS ?_
  rotate_left 1
  · (intro w' hS'; go_simp; try (with_reducible rfl))
  simp only [List.setIfInBounds_toArray, List.set_cons_succ, List.set_cons_zero]
  refine takeH (i := 6) (v := ?_) rfl rfl (by kernel_rfl) (by kernel_rfl) (by kernel_rfl) (fun _ _ _ h => h) (Or.inl ⟨by kernel_rfl, ?_⟩) hS ?_
  rotate_left 1
  · (intro w' hS'; go_simp; try (with_reducible rfl))
  simp only [List.setIfInBounds_toArray, List.set_cons_succ, List.set_cons_zero]
  refine takeH (i := 7) (v := ?_) rfl rfl (by kernel_rfl) (by kernel_rfl) (by kernel_rfl) (fun _ _ _ h => h) (Or.inl ⟨by kernel_rfl, ?_⟩) hS ?_
  rotate_left 1
  · (intro w' hS'; go_simp; try (with_reducible rfl))
  simp only [List.setIfInBounds_toArray, List.set_cons_succ, List.set_cons_zero]
  refine wpAnyH_ready (rs := [0]) (by kernel_rfl) (by simp) ?_
  refine AllReadyH.cons rfl (fun K hK => ?_) ?_
  rotate_left 1
  · exact AllReadyH.nil
  go_simp
  refine hK.out _ _ (by first | exact hS | exact hS.alloc _ | exact x7 | exact x6) (fun hS => ?_)
  clear hK K
  refine wpAnyH_ready (rs := [4]) (by kernel_rfl) (by simp) ?_
  refine AllReadyH.cons rfl (fun K hK => ?_) ?_
  rotate_left 1
  · exact AllReadyH.nil
  refine step_up rfl (.tmp 63) (.tmp 66) rfl _ [] rfl ((up_empty w5).ext ((Ext.refl _).drew)) (((Ext.refl w5).alloc _).drew) B5 _ _ (Y.take k) rfl lB5.out ((yB5.alloc _).drew) (by rw [lB5.out]; have := HK.out; simp only [List.length_nil]; omega) ?_; intro v6 w6 u6 x6; rw [List.nil_append] at u6
  try go_simp
  refine hK.out _ _ (by first | exact hS | exact hS.alloc _ | exact x7 | exact x6) (fun hS => ?_)
  clear hK K
  refine wpAnyH_ready (rs := [8]) (by kernel_rfl) (by simp) ?_
  refine AllReadyH.cons rfl (fun K hK => ?_) ?_
  rotate_left 1
  · exact AllReadyH.nil
  refine step_up rfl (.tmp 67) (.tmp 70) rfl v6 _ rfl u6 x6 B4 _ _ (X.drop k) rfl lB4.out (yB4.ext x6) (by rw [lB5.out, lB4.out]; have := HK.out; omega) ?_; intro v7 w7 u7 x7; rw [← HZ.out] at u7; obtain ⟨A7, e7, rfl, k7, _, y7⟩ := u7.form; rw [HZL.out] at k7 ⊢
  try go_simp
  refine hK.out _ _ (by first | exact hS | exact hS.alloc _ | exact x7 | exact x6) (fun hS => ?_)
  clear hK K
  refine takeH (i := 9) (v := ?_) rfl rfl (by kernel_rfl) (by kernel_rfl) (by kernel_rfl) (fun _ _ _ h => h) (Or.inl ⟨by kernel_rfl, ?_⟩) hS ?_
  rotate_left 1
  · (intro w' hS'; go_simp; try (with_reducible rfl))
  simp only [List.setIfInBounds_toArray, List.set_cons_succ, List.set_cons_zero]
  refine wpAnyH_done (by kernel_rfl) ?_ _
  have X7 := X5.trans hS
  have hp7 := hS.heap hp5
  have hq7 := hS.heap hq5
  have ltp := block_lt_of_cell (sup_cells hp7).1
  have ltq := block_lt_of_cell (sup_cells hq7).1
  simp only at ltp ltq
  clear X5 hp5 hq5 hS x7 x6 yB5 yB4 s1 r1 lB5 lB4
  go_wp2_with fail
  refine (f23_any A7 Z 128 e7 _ HZL.out (by decide) k7 y7).mono ?_
  rintro e w8 ⟨rfl, x8⟩
  have y8 := y7.ext x8
  have X8 := X7.trans x8
  have hp8 := x8.heap hp7
  have hq8 := x8.heap hq7
  have ltp8 := Nat.lt_of_lt_of_le ltp x8.size
  have ltq8 := Nat.lt_of_lt_of_le ltq x8.size
  clear x8 hp7 hq7 y7 X7 ltp ltq
  obtain ⟨c0, c1, c2, c3, c4, c5, c6, c7, cf⟩ := sup_cells hp8
  obtain ⟨d0, d1, d2, d3, d4, d5, d6, d7, df⟩ := sup_cells hq8
  have H9 := fun (U : Sup) (v9 : Value) (w9 : World) (u9 : Up (w8.alloc (.cells (supCells U) 38)) w9 v9 Z) => u9
  have lZZ : Hid ((Z ++ List.replicate 128 0).length = 256) := Lib.hid (by rw [List.length_append, HZL.out, List.length_replicate])
  rw [HUU.out, show supV ((some s : Option Sup).getD sup0) = supV s from rfl]
  go_wp2_with (first
    | (go_at_call 29; refine (f29_any A10 _ 256 e10 _ lZZ.out k10 y10).mono ?_; rw [show (Z ++ List.replicate 128 0) = Z ++ zer 128 from rfl, HTT.out]; rintro e w11 ⟨rfl, x11⟩; have X11 := x10.trans x11; have hp11 := X11.heap ((Ext.refl w8).alloc (.cells (supCells s) 38) |>.heap hp8); have hq11 := X11.heap ((Ext.refl w8).alloc (.cells (supCells s) 38) |>.heap hq8); obtain ⟨c0, c1, c2, c3, c4, c5, c6, c7, cf⟩ := sup_cells hp11; obtain ⟨d0, d1, d2, d3, d4, d5, d6, d7, df⟩ := sup_cells hq11)
    | (at_builtin; refine wpList_up0 rfl (.tmp 88) (.tmp 89) rfl rfl _ rfl (by simp) A7 _ e7 Z rfl HZL.out (y8.alloc _) (by rw [HZL.out]; decide) ?_; intro v9 w9 u9 x9)
    | (at_builtin; refine wpList_up_zeros rfl (.tmp 90) (.const (.int .i64 128)) rfl v9 _ rfl u9 x9 128 rfl (by rw [HZL.out]; decide) ?_; intro v10 w10 u10 x10; obtain ⟨A10, e10, rfl, k10, _, y10⟩ := u10.form; rw [lZZ.out] at k10 ⊢)
    | (at_builtin; fail))
  all_goals
    go_ret
    refine ⟨ret_bool ?_, X8.trans (((Ext.refl w8).alloc _).trans X11)⟩
    first
      | rfl
      | (simp; omega)
set_option maxRecDepth 100000 in
set_option maxHeartbeats 2000000 in
theorem f8_t (s t : Sup) (cut : Int) (w : World) (hs : s.sum < 4294967296) (ht : t.sum < 4294967296) (rs : supRight s) (rt : supRight t) (hlt : s.gen < t.gen) (h255 : t.gen ≤ 255)
    (hgg : ∀ k : Nat, (cut.tmod 129 + 129).tmod 129 = (k : Int) → supGet ((supPut t).take k ++ (supPut s).drop k) = (some t : Option Sup)) :
    Calls Try.prog 8 #[supV s, supV t, .int .i64 cut] w fun e w' => e = .returned (.bool true) ∧ Ext w w' := by
  obtain ⟨a0, k, ha0, ha1, ha2, ha3, ha4⟩ := round_two cut 129 (by decide)
  replace ha0 : cut.tmod 129 = a0 := ha0
  replace ha3 : (a0 + 129).tmod 129 = (k : Int) := ha3
  replace ha1 : -129 < a0 := ha1
  replace ha2 : a0 < 129 := ha2
  have hw1 : IntKind.i64.wrap (a0 + 129) = a0 + 129 := IntWalk.i64_in _ (by omega)
  have HT := top_torn s t rs hlt h255 k (by omega)
  have hg := hgg k (by rw [ha0]; exact ha3)
  clear hgg
  have PS := fun W => f20_right s W hs rs
  have PT := fun W => f20_right t W ht rt
  have RS : ∀ W, Calls Try.prog 22 #[supV s] W fun e w' => e = .returned (.bool true) ∧ Ext W w' := fun W => by
    have := f22_any s W
    rw [decide_eq_true rs] at this
    exact this
  have RT : ∀ W, Calls Try.prog 22 #[supV t] W fun e w' => e = .returned (.bool true) ∧ Ext W w' := fun W => by
    have := f22_any t W
    rw [decide_eq_true rt] at this
    exact this
  have ls := length_supPut s
  have lt := length_supPut t
  simp only [supV, supCells] at PS PT RS RT
  have hne : (t.gen == s.gen) = false := beq_eq_false_iff_ne.2 (by omega)
  have hne2 : (s.gen == t.gen) = false := beq_eq_false_iff_ne.2 (by omega)
  generalize supPut s = X at *
  generalize supPut t = Y at *
  obtain ⟨Z, hZ⟩ : ∃ Z, Z = Y.take k ++ X.drop k := ⟨_, rfl⟩
  rw [← hZ] at HT hg
  have lZ : Z.length = 128 := by rw [hZ, List.length_append, List.length_take, List.length_drop]; omega
  have HX := Lib.hid ls
  have HY := Lib.hid lt
  have HZ := Lib.hid hZ
  have HZL := Lib.hid lZ
  have HTT := Lib.hid HT
  have HUU := Lib.hid hg
  have hk9 : (k : Int) < 129 := by omega
  have HK := Lib.hid ha4
  clear hs ht rs rt ls lt hZ lZ HT hg ha1 ha2 ha4
  go_enter Try.func8, Try.ntmps8
  go_wp2_with fail
  refine (f19_any _).mono ?_
  rintro e w1 ⟨rfl, x1⟩
  have hp := x1.heap (heap_alloc2_old w (.cells (supCells s) 38) (.cells (supCells t) 38))
  have hq := x1.heap (heap_alloc2_new w (.cells (supCells s) 38) (.cells (supCells t) 38))
  have X1 := (((Ext.refl w).alloc (.cells (supCells s) 38)).alloc (.cells (supCells t) 38)).trans x1
  obtain ⟨q, hq1⟩ : ∃ q, w.heap.size + 1 = q := ⟨_, rfl⟩
  obtain ⟨p, hp1⟩ : ∃ p, w.heap.size = p := ⟨_, rfl⟩
  rw [hq1] at hq ⊢
  rw [hp1] at hp ⊢
  have HP1 := Lib.hid hp1
  clear hp1 hq1 x1
  obtain ⟨c0, c1, c2, c3, c4, c5, c6, c7, cf⟩ := sup_cells hp
  obtain ⟨d0, d1, d2, d3, d4, d5, d6, d7, df⟩ := sup_cells hq
  go_wp2_with fail
  refine (RS _).mono ?_
  rintro e w2 ⟨rfl, x2⟩
  clear c0 c1 c2 c3 c4 c5 c6 c7 cf d0 d1 d2 d3 d4 d5 d6 d7 df
  have hp2 := x2.heap hp
  have hq2 := x2.heap hq
  obtain ⟨c0, c1, c2, c3, c4, c5, c6, c7, cf⟩ := sup_cells hp2
  obtain ⟨d0, d1, d2, d3, d4, d5, d6, d7, df⟩ := sup_cells hq2
  go_wp2_with fail
  refine (RT _).mono ?_
  rintro e w3 ⟨rfl, x3⟩
  clear c0 c1 c2 c3 c4 c5 c6 c7 cf d0 d1 d2 d3 d4 d5 d6 d7 df
  have hp3 := x3.heap hp2
  have hq3 := x3.heap hq2
  obtain ⟨c0, c1, c2, c3, c4, c5, c6, c7, cf⟩ := sup_cells hp3
  obtain ⟨d0, d1, d2, d3, d4, d5, d6, d7, df⟩ := sup_cells hq3
  go_wp2_with fail
  refine (PS _).mono ?_
  rintro e w4 ⟨v4, rfl, o4, x4⟩
  obtain ⟨A4, e4, rfl, k4, y4⟩ := o4.octs_form
  rw [HX.out] at k4 ⊢
  clear c0 c1 c2 c3 c4 c5 c6 c7 cf d0 d1 d2 d3 d4 d5 d6 d7 df
  have hp4 := x4.heap hp3
  have hq4 := x4.heap hq3
  obtain ⟨c0, c1, c2, c3, c4, c5, c6, c7, cf⟩ := sup_cells hp4
  obtain ⟨d0, d1, d2, d3, d4, d5, d6, d7, df⟩ := sup_cells hq4
  go_wp2_with fail
  refine (PT _).mono ?_
  rintro e w5 ⟨v5, rfl, o5, x5⟩
  obtain ⟨A5, e5, rfl, k5, y5⟩ := o5.octs_form
  rw [HY.out] at k5 ⊢
  clear c0 c1 c2 c3 c4 c5 c6 c7 cf d0 d1 d2 d3 d4 d5 d6 d7 df
  have hp5 := x5.heap hp4
  have hq5 := x5.heap hq4
  have X5 := (((X1.trans x2).trans x3).trans x4).trans x5
  have y45 := y4.ext x5
  clear X1 x2 x3 x4 x5 hp hq hp2 hq2 hp3 hq3 hp4 hq4 y4 o4 o5 PS PT RS RT
  obtain ⟨B5, s1, _, s3, _⟩ := cut_hi A5 Y e5 k (by rw [HY.out]; omega) (by rw [HY.out]; exact k5)
  obtain ⟨B4, r1, _, r3, _⟩ := cut_lo A4 X e4 k (by rw [HX.out]; omega) (by rw [HX.out]; exact k4)
  rw [HY.out] at s1
  rw [HX.out] at r1
  have yB5 := s3 _ y5
  have yB4 := r3 _ y45
  have lB5 : Hid ((Y.take k).length = k) := Lib.hid (by rw [List.length_take, HY.out]; have := HK.out; omega)
  have lB4 : Hid ((X.drop k).length = 128 - k) := Lib.hid (by rw [List.length_drop, HX.out])
  clear s3 r3 y5 y45
  have hk128 : k ≤ 128 := by omega
  go_wp2_with fail
  refine wp_region_held_drew (S := fun w' => Ext w5 w') (by kernel_rfl) ((Ext.refl _).drew) (fun hS => ?_)
  refine takeH (i := 1) (v := ?_) rfl rfl (by kernel_rfl) (by kernel_rfl) (by kernel_rfl) (fun _ _ _ h => h) (Or.inl ⟨by kernel_rfl, ?_⟩) hS ?_
  rotate_left 1
  · (intro w' hS'; go_simp; try (with_reducible rfl))
  simp only [List.setIfInBounds_toArray, List.set_cons_succ, List.set_cons_zero]
  refine takeH (i := 2) (v := ?_) rfl rfl (by kernel_rfl) (by kernel_rfl) (by kernel_rfl) (fun _ _ _ h => h) (Or.inl ⟨by kernel_rfl, ?_⟩) hS ?_
  rotate_left 1
  · (intro w' hS'; go_simp; try (with_reducible rfl))
  simp only [List.setIfInBounds_toArray, List.set_cons_succ, List.set_cons_zero]
  refine takeH (i := 3) (v := ?_) rfl rfl (by kernel_rfl) (by kernel_rfl) (by kernel_rfl) (fun _ _ _ h => h) (Or.inl ⟨by kernel_rfl, ?_⟩) hS ?_
  rotate_left 1
  · (intro w' hS'; go_simp; try (with_reducible rfl))
  simp only [List.setIfInBounds_toArray, List.set_cons_succ, List.set_cons_zero]
  refine takeH (i := 5) (v := ?_) rfl rfl (by kernel_rfl) (by kernel_rfl) (by kernel_rfl) (fun _ _ _ h => h) (Or.inl ⟨by kernel_rfl, ?_⟩) hS ?_
  rotate_left 1
  · (intro w' hS'; go_simp; try (with_reducible rfl))
  simp only [List.setIfInBounds_toArray, List.set_cons_succ, List.set_cons_zero]
  refine takeH (i := 6) (v := ?_) rfl rfl (by kernel_rfl) (by kernel_rfl) (by kernel_rfl) (fun _ _ _ h => h) (Or.inl ⟨by kernel_rfl, ?_⟩) hS ?_
  rotate_left 1
  · (intro w' hS'; go_simp; try (with_reducible rfl))
  simp only [List.setIfInBounds_toArray, List.set_cons_succ, List.set_cons_zero]
  refine takeH (i := 7) (v := ?_) rfl rfl (by kernel_rfl) (by kernel_rfl) (by kernel_rfl) (fun _ _ _ h => h) (Or.inl ⟨by kernel_rfl, ?_⟩) hS ?_
  rotate_left 1
  · (intro w' hS'; go_simp; try (with_reducible rfl))
  simp only [List.setIfInBounds_toArray, List.set_cons_succ, List.set_cons_zero]
  refine wpAnyH_ready (rs := [0]) (by kernel_rfl) (by simp) ?_
  refine AllReadyH.cons rfl (fun K hK => ?_) ?_
  rotate_left 1
  · exact AllReadyH.nil
  go_simp
  refine hK.out _ _ (by first | exact hS | exact hS.alloc _ | exact x7 | exact x6) (fun hS => ?_)
  clear hK K
  refine wpAnyH_ready (rs := [4]) (by kernel_rfl) (by simp) ?_
  refine AllReadyH.cons rfl (fun K hK => ?_) ?_
  rotate_left 1
  · exact AllReadyH.nil
  refine step_up rfl (.tmp 63) (.tmp 66) rfl _ [] rfl ((up_empty w5).ext ((Ext.refl _).drew)) (((Ext.refl w5).alloc _).drew) B5 _ _ (Y.take k) rfl lB5.out ((yB5.alloc _).drew) (by rw [lB5.out]; have := HK.out; simp only [List.length_nil]; omega) ?_; intro v6 w6 u6 x6; rw [List.nil_append] at u6
  try go_simp
  refine hK.out _ _ (by first | exact hS | exact hS.alloc _ | exact x7 | exact x6) (fun hS => ?_)
  clear hK K
  refine wpAnyH_ready (rs := [8]) (by kernel_rfl) (by simp) ?_
  refine AllReadyH.cons rfl (fun K hK => ?_) ?_
  rotate_left 1
  · exact AllReadyH.nil
  refine step_up rfl (.tmp 67) (.tmp 70) rfl v6 _ rfl u6 x6 B4 _ _ (X.drop k) rfl lB4.out (yB4.ext x6) (by rw [lB5.out, lB4.out]; have := HK.out; omega) ?_; intro v7 w7 u7 x7; rw [← HZ.out] at u7; obtain ⟨A7, e7, rfl, k7, _, y7⟩ := u7.form; rw [HZL.out] at k7 ⊢
  try go_simp
  refine hK.out _ _ (by first | exact hS | exact hS.alloc _ | exact x7 | exact x6) (fun hS => ?_)
  clear hK K
  refine takeH (i := 9) (v := ?_) rfl rfl (by kernel_rfl) (by kernel_rfl) (by kernel_rfl) (fun _ _ _ h => h) (Or.inl ⟨by kernel_rfl, ?_⟩) hS ?_
  rotate_left 1
  · (intro w' hS'; go_simp; try (with_reducible rfl))
  simp only [List.setIfInBounds_toArray, List.set_cons_succ, List.set_cons_zero]
  refine wpAnyH_done (by kernel_rfl) ?_ _
  have X7 := X5.trans hS
  have hp7 := hS.heap hp5
  have hq7 := hS.heap hq5
  have ltp := block_lt_of_cell (sup_cells hp7).1
  have ltq := block_lt_of_cell (sup_cells hq7).1
  simp only at ltp ltq
  clear X5 hp5 hq5 hS x7 x6 yB5 yB4 s1 r1 lB5 lB4
  go_wp2_with fail
  refine (f23_any A7 Z 128 e7 _ HZL.out (by decide) k7 y7).mono ?_
  rintro e w8 ⟨rfl, x8⟩
  have y8 := y7.ext x8
  have X8 := X7.trans x8
  have hp8 := x8.heap hp7
  have hq8 := x8.heap hq7
  have ltp8 := Nat.lt_of_lt_of_le ltp x8.size
  have ltq8 := Nat.lt_of_lt_of_le ltq x8.size
  clear x8 hp7 hq7 y7 X7 ltp ltq
  obtain ⟨c0, c1, c2, c3, c4, c5, c6, c7, cf⟩ := sup_cells hp8
  obtain ⟨d0, d1, d2, d3, d4, d5, d6, d7, df⟩ := sup_cells hq8
  have H9 := fun (U : Sup) (v9 : Value) (w9 : World) (u9 : Up (w8.alloc (.cells (supCells U) 38)) w9 v9 Z) => u9
  have lZZ : Hid ((Z ++ List.replicate 128 0).length = 256) := Lib.hid (by rw [List.length_append, HZL.out, List.length_replicate])
  rw [HUU.out, show supV ((some t : Option Sup).getD sup0) = supV t from rfl]
  go_wp2_with (first
    | (go_at_call 29; refine (f29_any A10 _ 256 e10 _ lZZ.out k10 y10).mono ?_; rw [show (Z ++ List.replicate 128 0) = Z ++ zer 128 from rfl, HTT.out]; rintro e w11 ⟨rfl, x11⟩; have X11 := x10.trans x11; have hp11 := X11.heap ((Ext.refl w8).alloc (.cells (supCells t) 38) |>.heap hp8); have hq11 := X11.heap ((Ext.refl w8).alloc (.cells (supCells t) 38) |>.heap hq8); obtain ⟨c0, c1, c2, c3, c4, c5, c6, c7, cf⟩ := sup_cells hp11; obtain ⟨d0, d1, d2, d3, d4, d5, d6, d7, df⟩ := sup_cells hq11)
    | (at_builtin; refine wpList_up0 rfl (.tmp 88) (.tmp 89) rfl rfl _ rfl (by simp) A7 _ e7 Z rfl HZL.out (y8.alloc _) (by rw [HZL.out]; decide) ?_; intro v9 w9 u9 x9)
    | (at_builtin; refine wpList_up_zeros rfl (.tmp 90) (.const (.int .i64 128)) rfl v9 _ rfl u9 x9 128 rfl (by rw [HZL.out]; decide) ?_; intro v10 w10 u10 x10; obtain ⟨A10, e10, rfl, k10, _, y10⟩ := u10.form; rw [lZZ.out] at k10 ⊢)
    | (at_builtin; fail))
  all_goals
    go_ret
    refine ⟨ret_bool ?_, X8.trans (((Ext.refl w8).alloc _).trans X11)⟩
    first
      | rfl
      | (simp; omega)
theorem f8_walk (s t : Sup) (cut : Int) (w : World) (hs : s.sum < 4294967296) (ht : t.sum < 4294967296) :
    Calls Try.prog 8 #[supV s, supV t, .int .i64 cut] w fun e w' => e = .returned (.bool true) ∧ Ext w w' := by
  by_cases rs : supRight s
  · by_cases rt : supRight t
    · by_cases h : s.gen < t.gen
      · by_cases h2 : t.gen ≤ 255
        · obtain ⟨a0, k, ha0, _, _, ha3, ha4⟩ := round_two cut 129 (by decide)
          replace ha0 : cut.tmod 129 = a0 := ha0
          replace ha3 : (a0 + 129).tmod 129 = (k : Int) := ha3
          have hk : ∀ (r : Option Sup), supGet ((supPut t).take k ++ (supPut s).drop k) = r → ∀ k2 : Nat, (cut.tmod 129 + 129).tmod 129 = (k2 : Int) → supGet ((supPut t).take k2 ++ (supPut s).drop k2) = r := by
            intro r hr k2 h2
            rw [ha0, ha3] at h2
            obtain rfl : k = k2 := by omega
            exact hr
          cases hg : supGet ((supPut t).take k ++ (supPut s).drop k) with
          | none => exact f8_none s t cut w hs ht rs rt h h2 (hk _ hg)
          | some u =>
            rcases get_torn s t rs hs rt ht h h2 k (by omega) u hg with hu | hu
            · rw [hu] at hg
              exact f8_s s t cut w hs ht rs rt h h2 (hk _ hg)
            · rw [hu] at hg
              exact f8_t s t cut w hs ht rs rt h h2 (hk _ hg)
        · exact f8_e4 s t cut w rs rt h h2
      · exact f8_e3 s t cut w rs rt h
    · exact f8_e2 s t cut w rs rt
  · exact f8_e1 s t cut w rs
end Go.Proofs.Ytanmjmeabcloiaa
