/- SuperPuts: the walk. -/
import Derived.Test.YtanmjmeabcloiaaSa
import Derived.Test.YtanmjmeabcloiaaSq
namespace Go.Proofs.Ytanmjmeabcloiaa
open Go.RowKit
open Go.Proofs

set_option maxRecDepth 100000 in
set_option maxHeartbeats 1000000 in
theorem f4_walk (s : Sup) (w : World) (hs : s.sum < 4294967296) :
    Calls Try.prog 4 #[supV s] w fun e w' => e = .returned (.bool true) ∧ Ext w w' := by
  obtain ⟨R, hR⟩ : ∃ R, R = decide (supRight s) := ⟨_, rfl⟩
  have H21 : ∀ W, Calls Try.prog 21 #[supV s] W fun e w' => e = .returned (.bool R) ∧ Ext W w' := fun W => by rw [hR]; exact f21_any s W
  have H22 : ∀ W, Calls Try.prog 22 #[supV s] W fun e w' => e = .returned (.bool R) ∧ Ext W w' := fun W => by rw [hR]; exact f22_any s W
  by_cases hr : supRight s
  · rw [decide_eq_true hr] at hR
    subst hR
    have HP := fun W => f20_right s W hs hr
    have HQ := fun W => f24_right s W hs
    have HG := get_put s hr hs
    have HL := length_supPut s
    simp only [supV, supCells] at H21 H22 HP HQ
    obtain ⟨L, hL⟩ : ∃ L, L = supPut s := ⟨_, rfl⟩
    rw [← hL] at HP HQ HG HL
    have HN := Lib.hid HL
    have HGG := Lib.hid HG
    clear hr hs hL HL HG
    go_enter Try.func4, Try.ntmps4
    go_wp2_with fail
    refine (f19_any _).mono ?_
    rintro e w1 ⟨rfl, x1⟩
    have hb := x1.heap (heap_alloc_new w _)
    obtain ⟨c0, c1, c2, c3, c4, c5, c6, c7, cf⟩ := sup_cells hb
    go_wp2_with fail
    refine (HP _).mono ?_
    rintro e w2 ⟨v, rfl, o2, x2⟩
    clear c0 c1 c2 c3 c4 c5 c6 c7 cf
    have hb2 := x2.heap hb
    obtain ⟨A, c, rfl, hc, y2⟩ := o2.octs_form
    rw [HN.out] at hc ⊢
    have X2 := ((Ext.refl w).alloc (.cells (supCells s) 38)).trans (x1.trans x2)
    have hlt : w.heap.size < w1.heap.size := Nat.lt_of_lt_of_le (by simp) x1.size
    have hlt2 := Nat.lt_of_lt_of_le hlt x2.size
    clear x1 x2 hb o2
    obtain ⟨p, hp⟩ : ∃ p, w.heap.size = p := ⟨_, rfl⟩
    rw [hp] at hb2 hlt hlt2 ⊢
    have HPP := Lib.hid hp
    clear hp
    go_wp2_with fail
    refine wp_region_held_drew (S := fun w' => Ext w2 w') (by kernel_rfl) ((Ext.refl _).drew) (fun hS => ?_)
    refine takeH (i := 0) (v := ?_) rfl rfl (by kernel_rfl) (by kernel_rfl) (by kernel_rfl) (fun _ _ _ h => h) (Or.inl ⟨by kernel_rfl, ?_⟩) hS ?_
    rotate_left 1
    · (intro w' hS'; obtain ⟨c0, c1, c2, c3, c4, c5, c6, c7, cf⟩ := sup_cells (hS'.heap hb2); go_simp; try (with_reducible rfl))
    simp only [List.setIfInBounds_toArray, List.set_cons_succ, List.set_cons_zero]
    refine takeH (i := 2) (v := ?_) rfl rfl (by kernel_rfl) (by kernel_rfl) (by kernel_rfl) (fun _ _ _ h => h) (Or.inl ⟨by kernel_rfl, ?_⟩) hS ?_
    rotate_left 1
    · (intro w' hS'; obtain ⟨c0, c1, c2, c3, c4, c5, c6, c7, cf⟩ := sup_cells (hS'.heap hb2); go_simp; try (with_reducible rfl))
    simp only [List.setIfInBounds_toArray, List.set_cons_succ, List.set_cons_zero]
    refine wpAnyH_ready (rs := [1]) (by kernel_rfl) (by simp) ?_
    refine AllReadyH.cons rfl (fun K hK => ?_) ?_
    rotate_left 1
    · exact AllReadyH.nil
    go_simp
    refine (H21 _).mono ?_; rintro e w3 ⟨rfl, x3⟩
    refine hK.out _ _ (hS.trans x3) (fun hS => ?_)
    clear hK K
    refine wpAnyH_ready (rs := [3]) (by kernel_rfl) (by simp) ?_
    refine AllReadyH.cons rfl (fun K hK => ?_) ?_
    rotate_left 1
    · exact AllReadyH.nil
    go_simp
    refine (H22 _).mono ?_; rintro e w4 ⟨rfl, x4⟩
    refine hK.out _ _ (hS.trans x4) (fun hS => ?_)
    clear hK K
    refine takeH (i := 4) (v := ?_) rfl rfl (by kernel_rfl) (by kernel_rfl) (by kernel_rfl) (fun _ _ _ h => h) (Or.inl ⟨by kernel_rfl, ?_⟩) hS ?_
    rotate_left 1
    · (intro w' hS'; go_simp; try (with_reducible rfl))
    simp only [List.setIfInBounds_toArray, List.set_cons_succ, List.set_cons_zero]
    refine wpAnyH_done (by kernel_rfl) ?_ _
    have X3 := X2.trans hS
    have y3 := y2.ext hS
    have hb3 := hS.heap hb2
    have hlt3 := Nat.lt_of_lt_of_le hlt2 hS.size
    clear X2 y2 hb2 hS x3 x4 hlt2 hlt
    generalize w4 = w5 at *
    obtain ⟨c0, c1, c2, c3, c4, c5, c6, c7, cf⟩ := sup_cells hb3
    go_wp2_with fail
    refine (H22 _).mono ?_
    rintro e w6 ⟨rfl, x6⟩
    have hb6 := x6.heap hb3
    clear c0 c1 c2 c3 c4 c5 c6 c7 cf
    go_wp2_with fail
    refine (f23_any A L 128 c _ HN.out (by decide) hc (y3.ext x6)).mono ?_
    rw [HGG.out, show supV ((some s : Option Sup).getD sup0) = supV s from rfl]
    rintro e w7 ⟨rfl, x7⟩
    go_wp2_with fail
    have hq := heap_alloc_new w7 (.cells (supCells s) 38)
    have h8 : Ext w5 (w7.alloc (.cells (supCells s) 38)) := (x6.trans x7).alloc _
    obtain ⟨q, hq1⟩ : ∃ q, w7.heap.size = q := ⟨_, rfl⟩
    rw [hq1] at hq ⊢
    have HQQ := Lib.hid hq1
    clear hq1 x7
    simp only [supCells] at hq h8
    generalize w7.alloc (.cells #[.int .i64 s.gen, .int .i64 s.journal, .int .i64 s.area, .int .i64 s.which, .int .i64 s.len, .int .u32 (s.sum : Int), .int .i64 s.epoch, .int .i64 s.start] 38) = w8 at hq h8 ⊢
    have hb8 := h8.heap hb3
    have y8 := y3.ext h8
    refine wp_region_held_drew (S := fun w' => Ext w8 w') (by kernel_rfl) ((Ext.refl _).drew) (fun hS => ?_)
    refine takeH (i := 0) (v := ?_) rfl rfl (by kernel_rfl) (by kernel_rfl) (by kernel_rfl) (fun _ _ _ h => h) (Or.inl ⟨by kernel_rfl, ?_⟩) hS ?_
    rotate_left 1
    · (intro w' hS'; go_simp; try (with_reducible rfl))
    simp only [List.setIfInBounds_toArray, List.set_cons_succ, List.set_cons_zero]
    refine takeH (i := 1) (v := ?_) rfl rfl (by kernel_rfl) (by kernel_rfl) (by kernel_rfl) (fun _ _ _ h => h) (Or.inl ⟨by kernel_rfl, ?_⟩) hS ?_
    rotate_left 1
    · (intro w' hS'; go_simp; try (with_reducible rfl))
    simp only [List.setIfInBounds_toArray, List.set_cons_succ, List.set_cons_zero]
    refine takeH (i := 2) (v := ?_) rfl rfl (by kernel_rfl) (by kernel_rfl) (by kernel_rfl) (fun _ _ _ h => h) (Or.inl ⟨by kernel_rfl, ?_⟩) hS ?_
    rotate_left 1
    · (intro w' hS'; go_simp; try (with_reducible rfl))
    simp only [List.setIfInBounds_toArray, List.set_cons_succ, List.set_cons_zero]
    refine takeH (i := 3) (v := ?_) rfl rfl (by kernel_rfl) (by kernel_rfl) (by kernel_rfl) (fun _ _ _ h => h) (Or.inl ⟨by kernel_rfl, ?_⟩) hS ?_
    rotate_left 1
    · (intro w' hS'; go_simp; try (with_reducible rfl))
    simp only [List.setIfInBounds_toArray, List.set_cons_succ, List.set_cons_zero]
    refine takeH (i := 4) (v := ?_) rfl rfl (by kernel_rfl) (by kernel_rfl) (by kernel_rfl) (fun _ _ _ h => h) (Or.inl ⟨by kernel_rfl, ?_⟩) hS ?_
    rotate_left 1
    · (intro w' hS'; have k4 := conv_str A L 128 c w' HN.out (y8.ext hS'); go_simp; try (with_reducible rfl))
    simp only [List.setIfInBounds_toArray, List.set_cons_succ, List.set_cons_zero]
    refine takeH (i := 5) (v := ?_) rfl rfl (by kernel_rfl) (by kernel_rfl) (by kernel_rfl) (fun _ _ _ h => h) (Or.inl ⟨by kernel_rfl, ?_⟩) hS ?_
    rotate_left 1
    · (intro w' hS'; obtain ⟨c0, c1, c2, c3, c4, c5, c6, c7, cf⟩ := sup_cells (hS'.heap hb8); go_simp; try (with_reducible rfl))
    simp only [List.setIfInBounds_toArray, List.set_cons_succ, List.set_cons_zero]
    refine wpAnyH_ready (rs := [6]) (by kernel_rfl) (by simp) ?_
    refine AllReadyH.cons rfl (fun K hK => ?_) ?_
    rotate_left 1
    · exact AllReadyH.nil
    go_simp
    refine (HQ _).mono ?_; rintro e w9 ⟨rfl, x9⟩
    refine hK.out _ _ (hS.trans x9) (fun hS => ?_)
    clear hK K
    refine takeH (i := 7) (v := ?_) rfl rfl (by kernel_rfl) (by kernel_rfl) (by kernel_rfl) (fun _ _ _ h => h) (Or.inl ⟨by kernel_rfl, ?_⟩) hS ?_
    rotate_left 1
    · (intro w' hS'; go_simp; try (with_reducible rfl))
    simp only [List.setIfInBounds_toArray, List.set_cons_succ, List.set_cons_zero]
    refine takeH (i := 8) (v := ?_) rfl rfl (by kernel_rfl) (by kernel_rfl) (by kernel_rfl) (fun _ _ _ h => h) (Or.inl ⟨by kernel_rfl, ?_⟩) hS ?_
    rotate_left 1
    · (intro w' hS'; go_simp; try (with_reducible rfl))
    simp only [List.setIfInBounds_toArray, List.set_cons_succ, List.set_cons_zero]
    refine takeH (i := 9) (v := ?_) rfl rfl (by kernel_rfl) (by kernel_rfl) (by kernel_rfl) (fun _ _ _ h => h) (Or.inl ⟨by kernel_rfl, ?_⟩) hS ?_
    rotate_left 1
    · (intro w' hS'; go_simp; try (with_reducible rfl))
    simp only [List.setIfInBounds_toArray, List.set_cons_succ, List.set_cons_zero]
    refine takeH (i := 10) (v := ?_) rfl rfl (by kernel_rfl) (by kernel_rfl) (by kernel_rfl) (fun _ _ _ h => h) (Or.inl ⟨by kernel_rfl, ?_⟩) hS ?_
    rotate_left 1
    · (intro w' hS'; go_simp; try (with_reducible rfl))
    simp only [List.setIfInBounds_toArray, List.set_cons_succ, List.set_cons_zero]
    refine takeH (i := 11) (v := ?_) rfl rfl (by kernel_rfl) (by kernel_rfl) (by kernel_rfl) (fun _ _ _ h => h) (Or.inl ⟨by kernel_rfl, ?_⟩) hS ?_
    rotate_left 1
    · (intro w' hS'; go_simp; try (with_reducible rfl))
    simp only [List.setIfInBounds_toArray, List.set_cons_succ, List.set_cons_zero]
    refine takeH (i := 12) (v := ?_) rfl rfl (by kernel_rfl) (by kernel_rfl) (by kernel_rfl) (fun _ _ _ h => h) (Or.inl ⟨by kernel_rfl, ?_⟩) hS ?_
    rotate_left 1
    · (intro w' hS'; go_simp; try (with_reducible rfl))
    simp only [List.setIfInBounds_toArray, List.set_cons_succ, List.set_cons_zero]
    refine takeH (i := 13) (v := ?_) rfl rfl (by kernel_rfl) (by kernel_rfl) (by kernel_rfl) (fun _ _ _ h => h) (Or.inl ⟨by kernel_rfl, ?_⟩) hS ?_
    rotate_left 1
    · (intro w' hS'; obtain ⟨c0, c1, c2, c3, c4, c5, c6, c7, cf⟩ := sup_cells (hS'.heap hq); go_simp; try (with_reducible rfl))
    simp only [List.setIfInBounds_toArray, List.set_cons_succ, List.set_cons_zero]
    refine takeH (i := 14) (v := ?_) rfl rfl (by kernel_rfl) (by kernel_rfl) (by kernel_rfl) (fun _ _ _ h => h) (Or.inl ⟨by kernel_rfl, ?_⟩) hS ?_
    rotate_left 1
    · (intro w' hS'; obtain ⟨c0, c1, c2, c3, c4, c5, c6, c7, cf⟩ := sup_cells (hS'.heap hb8); go_simp; try (with_reducible rfl))
    simp only [List.setIfInBounds_toArray, List.set_cons_succ, List.set_cons_zero]
    refine takeH (i := 15) (v := ?_) rfl rfl (by kernel_rfl) (by kernel_rfl) (by kernel_rfl) (fun _ _ _ h => h) (Or.inl ⟨by kernel_rfl, ?_⟩) hS ?_
    rotate_left 1
    · (intro w' hS'; go_simp; try (with_reducible rfl))
    simp only [List.setIfInBounds_toArray, List.set_cons_succ, List.set_cons_zero]
    refine takeH (i := 16) (v := ?_) rfl rfl (by kernel_rfl) (by kernel_rfl) (by kernel_rfl) (fun _ _ _ h => h) (Or.inl ⟨by kernel_rfl, ?_⟩) hS ?_
    rotate_left 1
    · (intro w' hS'; go_simp; try (with_reducible rfl))
    simp only [List.setIfInBounds_toArray, List.set_cons_succ, List.set_cons_zero]
    refine takeH (i := 17) (v := ?_) rfl rfl (by kernel_rfl) (by kernel_rfl) (by kernel_rfl) (fun _ _ _ h => h) (Or.inl ⟨by kernel_rfl, ?_⟩) hS ?_
    rotate_left 1
    · (intro w' hS'; go_simp; try (with_reducible rfl))
    simp only [List.setIfInBounds_toArray, List.set_cons_succ, List.set_cons_zero]
    refine wpAnyH_done (by kernel_rfl) ?_ _
    go_wp2_with fail
    go_ret
    exact ⟨rfl, X3.trans (h8.trans hS)⟩
  · rw [decide_eq_false hr] at hR
    subst hR
    have HP := fun W => f20_wrong s W hr
    simp only [supV, supCells] at H21 H22 HP
    clear hr hs
    go_enter Try.func4, Try.ntmps4
    go_wp2_with fail
    refine (f19_any _).mono ?_
    rintro e w1 ⟨rfl, x1⟩
    have hb := x1.heap (heap_alloc_new w _)
    obtain ⟨c0, c1, c2, c3, c4, c5, c6, c7, cf⟩ := sup_cells hb
    go_wp2_with fail
    refine (HP _).mono ?_
    rintro e w2 ⟨rfl, x2⟩
    clear c0 c1 c2 c3 c4 c5 c6 c7 cf
    have hb2 := x2.heap hb
    have X2 := ((Ext.refl w).alloc (.cells (supCells s) 38)).trans (x1.trans x2)
    clear x1 x2 hb
    obtain ⟨p, hp⟩ : ∃ p, w.heap.size = p := ⟨_, rfl⟩
    rw [hp] at hb2 ⊢
    have HPP := Lib.hid hp
    clear hp
    go_wp2_with fail
    refine wp_region_held_drew (S := fun w' => Ext w2 w') (by kernel_rfl) ((Ext.refl _).drew) (fun hS => ?_)
    refine takeH (i := 0) (v := ?_) rfl rfl (by kernel_rfl) (by kernel_rfl) (by kernel_rfl) (fun _ _ _ h => h) (Or.inl ⟨by kernel_rfl, ?_⟩) hS ?_
    rotate_left 1
    · (intro w' hS'; obtain ⟨c0, c1, c2, c3, c4, c5, c6, c7, cf⟩ := sup_cells (hS'.heap hb2); go_simp; try (with_reducible rfl))
    simp only [List.setIfInBounds_toArray, List.set_cons_succ, List.set_cons_zero]
    refine takeH (i := 2) (v := ?_) rfl rfl (by kernel_rfl) (by kernel_rfl) (by kernel_rfl) (fun _ _ _ h => h) (Or.inl ⟨by kernel_rfl, ?_⟩) hS ?_
    rotate_left 1
    · (intro w' hS'; obtain ⟨c0, c1, c2, c3, c4, c5, c6, c7, cf⟩ := sup_cells (hS'.heap hb2); go_simp; try (with_reducible rfl))
    simp only [List.setIfInBounds_toArray, List.set_cons_succ, List.set_cons_zero]
    refine wpAnyH_ready (rs := [1]) (by kernel_rfl) (by simp) ?_
    refine AllReadyH.cons rfl (fun K hK => ?_) ?_
    rotate_left 1
    · exact AllReadyH.nil
    go_simp
    refine (H21 _).mono ?_; rintro e w3 ⟨rfl, x3⟩
    refine hK.out _ _ (hS.trans x3) (fun hS => ?_)
    clear hK K
    refine wpAnyH_ready (rs := [3]) (by kernel_rfl) (by simp) ?_
    refine AllReadyH.cons rfl (fun K hK => ?_) ?_
    rotate_left 1
    · exact AllReadyH.nil
    go_simp
    refine (H22 _).mono ?_; rintro e w4 ⟨rfl, x4⟩
    refine hK.out _ _ (hS.trans x4) (fun hS => ?_)
    clear hK K
    refine takeH (i := 4) (v := ?_) rfl rfl (by kernel_rfl) (by kernel_rfl) (by kernel_rfl) (fun _ _ _ h => h) (Or.inl ⟨by kernel_rfl, ?_⟩) hS ?_
    rotate_left 1
    · (intro w' hS'; go_simp; try (with_reducible rfl))
    simp only [List.setIfInBounds_toArray, List.set_cons_succ, List.set_cons_zero]
    refine wpAnyH_done (by kernel_rfl) ?_ _
    have X3 := X2.trans hS
    have hb3 := hS.heap hb2
    clear X2 hb2 hS x3 x4
    generalize w4 = w5 at *
    obtain ⟨c0, c1, c2, c3, c4, c5, c6, c7, cf⟩ := sup_cells hb3
    go_wp2_with fail
    refine (H22 _).mono ?_
    rintro e w6 ⟨rfl, x6⟩
    go_wp2_with fail
    go_ret
    exact ⟨rfl, X3.trans x6⟩
end Go.Proofs.Ytanmjmeabcloiaa
