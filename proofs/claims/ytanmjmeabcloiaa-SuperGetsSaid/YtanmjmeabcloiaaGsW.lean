/- SuperGets: the walk. -/
import Derived.Test.YtanmjmeabcloiaaSa
import Derived.Test.YtanmjmeabcloiaaRn
import Derived.Test.YtanmjmeabcloiaaRo
namespace Go.Proofs.Ytanmjmeabcloiaa
open Go.RowKit
open Go.Proofs

set_option maxRecDepth 100000 in
set_option maxHeartbeats 4000000 in
theorem f7_gets (A : Option Addr) (l : List UInt8) (n c : Nat) (w : World) (hn : l.length = n) (hc : n ≤ c) (hx : Octs w A l) :
    Calls Try.prog 7 #[.slice A n c] w fun e w' => e = .returned (.bool true) ∧ Ext w w' := by
  by_cases h600 : n ≤ 600
  · have G23 := fun A3 c3 W => f23_any A3 l n c3 W hn (by omega)
    have G28 := fun W => f28_any l W
    have G26 := fun A3 c3 W => f26_any A3 l n c3 W hn (by omega)
    have G27 := fun W => f27_any l W
    have G29 := fun A3 c3 W => f29_any A3 l n c3 W hn
    have G30 := fun W => f30_any l W
    generalize (supGet l).getD sup0 = S at G23 G28
    generalize (supGet l).isSome = f at G23 G28
    generalize (supNewest l).getD sup0 = U at G26 G27
    generalize (supNewest l).isSome = g at G26 G27
    generalize supTop l = T at G29 G30
    have HN := Lib.hid hn
    have hgt : ((600 : Int) < (n : Int)) = False := eq_false (by omega)
    have H6 := Lib.hid h600
    have HC := Lib.hid hc
    clear hn h600 hc
    go_enter Try.func7, Try.ntmps7
    go_wp2_with fail
    refine (f19_any _).mono ?_
    rintro e w1 ⟨rfl, x1⟩
    have y1 := hx.ext x1
    go_wp2_with (first
      | (at_builtin; refine wpList_up0 rfl (.tmp 20) (.tmp 21) rfl rfl _ rfl rfl A n c l rfl HN.out y1 (by rw [HN.out]; have := H6.out; omega) ?_; intro v3 w3 u3 x3; obtain ⟨A3, c3, rfl, k3, _, y3⟩ := u3.form; rw [HN.out] at k3 ⊢)
      | (at_builtin; fail)
      | fail)
    refine (G23 A3 c3 _ k3 y3).mono ?_
    rintro e w4 ⟨rfl, x4⟩
    have X4 := x1.trans (x3.trans x4)
    have q4 := heap_alloc_new w4 (.cells (supCells S) 38)
    have e4 := (Ext.refl w4).alloc (.cells (supCells S) 38)
    have y4 := (y3.ext x4).ext e4
    have z4 := (hx.ext X4).ext e4
    have Z4 := X4.trans e4
    have k4 := conv_str A l n c _ HN.out z4
    simp only [supCells] at k4
    clear x1 x3 x4 X4 y1 y3 u3 e4 hx
    go_wp2_with fail
    refine (G28 _).mono ?_
    rintro e w5 ⟨rfl, x5⟩
    clear k4
    have q5 := heap_alloc_new w5 (.cells (supCells S) 38)
    have e5 := x5.trans ((Ext.refl w5).alloc (.cells (supCells S) 38))
    have q45 := e5.heap q4
    have y5 := y4.ext e5
    have z5 := z4.ext e5
    have Z5 := Z4.trans e5
    clear x5 q4 y4 z4 Z4 e5
    go_wp2_with fail
    refine (G26 A3 c3 _ k3 y5).mono ?_
    rintro e w6 ⟨rfl, x6⟩
    have q6 := heap_alloc_new w6 (.cells (supCells U) 38)
    have e6 := x6.trans ((Ext.refl w6).alloc (.cells (supCells U) 38))
    have q46 := e6.heap q45
    have q56 := e6.heap q5
    have y6 := y5.ext e6
    have z6 := z5.ext e6
    have Z6 := Z5.trans e6
    have k6 := conv_str A l n c _ HN.out z6
    simp only [supCells] at k6
    clear x6 q45 q5 y5 z5 Z5 e6
    go_wp2_with fail
    refine (G27 _).mono ?_
    rintro e w7 ⟨rfl, x7⟩
    clear k6
    have q7 := heap_alloc_new w7 (.cells (supCells U) 38)
    have e7 := x7.trans ((Ext.refl w7).alloc (.cells (supCells U) 38))
    have q47 := e7.heap q46
    have q57 := e7.heap q56
    have q67 := e7.heap q6
    have y7 := y6.ext e7
    have z7 := z6.ext e7
    have Z7 := Z6.trans e7
    clear x7 q46 q56 q6 y6 z6 Z6 e7
    go_wp2_with fail
    simp only [supCells] at q47 q57 q67 q7 y7 z7 Z7
    obtain ⟨a4, ha4⟩ : ∃ a, w4.heap.size = a := ⟨_, rfl⟩
    obtain ⟨a5, ha5⟩ : ∃ a, w5.heap.size = a := ⟨_, rfl⟩
    obtain ⟨a6, ha6⟩ : ∃ a, w6.heap.size = a := ⟨_, rfl⟩
    obtain ⟨a7, ha7⟩ : ∃ a, w7.heap.size = a := ⟨_, rfl⟩
    rw [ha4] at q47 ⊢
    rw [ha5] at q57 ⊢
    rw [ha6] at q67 ⊢
    rw [ha7] at q7 ⊢
    generalize w7.alloc (.cells #[.int .i64 U.gen, .int .i64 U.journal, .int .i64 U.area, .int .i64 U.which, .int .i64 U.len, .int .u32 (U.sum : Int), .int .i64 U.epoch, .int .i64 U.start] 38) = w8 at *
    clear ha4 ha5 ha6 ha7 G23 G28 G26 G27
    refine wp_region_held_drew (S := fun w' => Ext w8 w') (by kernel_rfl) ((Ext.refl _).drew) (fun hS => ?_)
    refine takeH (i := 0) (v := ?_) rfl rfl (by kernel_rfl) (by kernel_rfl) (by kernel_rfl) (fun _ _ _ h => h) (Or.inl ⟨by kernel_rfl, ?_⟩) hS ?_
    rotate_left 1
    · (intro w' hS'; obtain ⟨c0, c1, c2, c3', c4, c5, c6, c7, cf⟩ := sup_cells (hS'.heap q47); go_simp; try (with_reducible rfl))
    simp only [List.setIfInBounds_toArray, List.set_cons_succ, List.set_cons_zero]
    refine takeH (i := 1) (v := ?_) rfl rfl (by kernel_rfl) (by kernel_rfl) (by kernel_rfl) (fun _ _ _ h => h) (Or.inl ⟨by kernel_rfl, ?_⟩) hS ?_
    rotate_left 1
    · (intro w' hS'; obtain ⟨c0, c1, c2, c3', c4, c5, c6, c7, cf⟩ := sup_cells (hS'.heap q57); go_simp; try (with_reducible rfl))
    simp only [List.setIfInBounds_toArray, List.set_cons_succ, List.set_cons_zero]
    refine takeH (i := 2) (v := ?_) rfl rfl (by kernel_rfl) (by kernel_rfl) (by kernel_rfl) (fun _ _ _ h => h) (Or.inl ⟨by kernel_rfl, ?_⟩) hS ?_
    rotate_left 1
    · (intro w' hS'; go_simp; try (with_reducible rfl))
    simp only [List.setIfInBounds_toArray, List.set_cons_succ, List.set_cons_zero]
    refine takeH (i := 3) (v := ?_) rfl rfl (by kernel_rfl) (by kernel_rfl) (by kernel_rfl) (fun _ _ _ h => h) (Or.inl ⟨by kernel_rfl, ?_⟩) hS ?_
    rotate_left 1
    · (intro w' hS'; go_simp; try (with_reducible rfl))
    simp only [List.setIfInBounds_toArray, List.set_cons_succ, List.set_cons_zero]
    refine takeH (i := 4) (v := ?_) rfl rfl (by kernel_rfl) (by kernel_rfl) (by kernel_rfl) (fun _ _ _ h => h) (Or.inl ⟨by kernel_rfl, ?_⟩) hS ?_
    rotate_left 1
    · (intro w' hS'; go_simp; try (with_reducible rfl))
    simp only [List.setIfInBounds_toArray, List.set_cons_succ, List.set_cons_zero]
    refine takeH (i := 5) (v := ?_) rfl rfl (by kernel_rfl) (by kernel_rfl) (by kernel_rfl) (fun _ _ _ h => h) (Or.inl ⟨by kernel_rfl, ?_⟩) hS ?_
    rotate_left 1
    · (intro w' hS'; go_simp; try (with_reducible rfl))
    simp only [List.setIfInBounds_toArray, List.set_cons_succ, List.set_cons_zero]
    refine takeH (i := 6) (v := ?_) rfl rfl (by kernel_rfl) (by kernel_rfl) (by kernel_rfl) (fun _ _ _ h => h) (Or.inl ⟨by kernel_rfl, ?_⟩) hS ?_
    rotate_left 1
    · (intro w' hS'; go_simp; try (with_reducible rfl))
    simp only [List.setIfInBounds_toArray, List.set_cons_succ, List.set_cons_zero]
    refine takeH (i := 7) (v := ?_) rfl rfl (by kernel_rfl) (by kernel_rfl) (by kernel_rfl) (fun _ _ _ h => h) (Or.inl ⟨by kernel_rfl, ?_⟩) hS ?_
    rotate_left 1
    · (intro w' hS'; go_simp; try (with_reducible rfl))
    simp only [List.setIfInBounds_toArray, List.set_cons_succ, List.set_cons_zero]
    refine takeH (i := 8) (v := ?_) rfl rfl (by kernel_rfl) (by kernel_rfl) (by kernel_rfl) (fun _ _ _ h => h) (Or.inl ⟨by kernel_rfl, ?_⟩) hS ?_
    rotate_left 1
    · (intro w' hS'; go_simp; try (with_reducible rfl))
    simp only [List.setIfInBounds_toArray, List.set_cons_succ, List.set_cons_zero]
    refine takeH (i := 9) (v := ?_) rfl rfl (by kernel_rfl) (by kernel_rfl) (by kernel_rfl) (fun _ _ _ h => h) (Or.inl ⟨by kernel_rfl, ?_⟩) hS ?_
    rotate_left 1
    · (intro w' hS'; obtain ⟨c0, c1, c2, c3', c4, c5, c6, c7, cf⟩ := sup_cells (hS'.heap q67); go_simp; try (with_reducible rfl))
    simp only [List.setIfInBounds_toArray, List.set_cons_succ, List.set_cons_zero]
    refine takeH (i := 10) (v := ?_) rfl rfl (by kernel_rfl) (by kernel_rfl) (by kernel_rfl) (fun _ _ _ h => h) (Or.inl ⟨by kernel_rfl, ?_⟩) hS ?_
    rotate_left 1
    · (intro w' hS'; obtain ⟨c0, c1, c2, c3', c4, c5, c6, c7, cf⟩ := sup_cells (hS'.heap q7); go_simp; try (with_reducible rfl))
    simp only [List.setIfInBounds_toArray, List.set_cons_succ, List.set_cons_zero]
    refine takeH (i := 11) (v := ?_) rfl rfl (by kernel_rfl) (by kernel_rfl) (by kernel_rfl) (fun _ _ _ h => h) (Or.inl ⟨by kernel_rfl, ?_⟩) hS ?_
    rotate_left 1
    · (intro w' hS'; go_simp; try (with_reducible rfl))
    simp only [List.setIfInBounds_toArray, List.set_cons_succ, List.set_cons_zero]
    refine takeH (i := 12) (v := ?_) rfl rfl (by kernel_rfl) (by kernel_rfl) (by kernel_rfl) (fun _ _ _ h => h) (Or.inl ⟨by kernel_rfl, ?_⟩) hS ?_
    rotate_left 1
    · (intro w' hS'; go_simp; try (with_reducible rfl))
    simp only [List.setIfInBounds_toArray, List.set_cons_succ, List.set_cons_zero]
    refine takeH (i := 13) (v := ?_) rfl rfl (by kernel_rfl) (by kernel_rfl) (by kernel_rfl) (fun _ _ _ h => h) (Or.inl ⟨by kernel_rfl, ?_⟩) hS ?_
    rotate_left 1
    · (intro w' hS'; go_simp; try (with_reducible rfl))
    simp only [List.setIfInBounds_toArray, List.set_cons_succ, List.set_cons_zero]
    refine takeH (i := 14) (v := ?_) rfl rfl (by kernel_rfl) (by kernel_rfl) (by kernel_rfl) (fun _ _ _ h => h) (Or.inl ⟨by kernel_rfl, ?_⟩) hS ?_
    rotate_left 1
    · (intro w' hS'; go_simp; try (with_reducible rfl))
    simp only [List.setIfInBounds_toArray, List.set_cons_succ, List.set_cons_zero]
    refine takeH (i := 15) (v := ?_) rfl rfl (by kernel_rfl) (by kernel_rfl) (by kernel_rfl) (fun _ _ _ h => h) (Or.inl ⟨by kernel_rfl, ?_⟩) hS ?_
    rotate_left 1
    · (intro w' hS'; go_simp; try (with_reducible rfl))
    simp only [List.setIfInBounds_toArray, List.set_cons_succ, List.set_cons_zero]
    refine takeH (i := 16) (v := ?_) rfl rfl (by kernel_rfl) (by kernel_rfl) (by kernel_rfl) (fun _ _ _ h => h) (Or.inl ⟨by kernel_rfl, ?_⟩) hS ?_
    rotate_left 1
    · (intro w' hS'; go_simp; try (with_reducible rfl))
    simp only [List.setIfInBounds_toArray, List.set_cons_succ, List.set_cons_zero]
    refine takeH (i := 17) (v := ?_) rfl rfl (by kernel_rfl) (by kernel_rfl) (by kernel_rfl) (fun _ _ _ h => h) (Or.inl ⟨by kernel_rfl, ?_⟩) hS ?_
    rotate_left 1
    · (intro w' hS'; go_simp; try (with_reducible rfl))
    simp only [List.setIfInBounds_toArray, List.set_cons_succ, List.set_cons_zero]
    refine takeH (i := 18) (v := ?_) rfl rfl (by kernel_rfl) (by kernel_rfl) (by kernel_rfl) (fun _ _ _ h => h) (Or.inl ⟨by kernel_rfl, ?_⟩) hS ?_
    rotate_left 1
    · (intro w' hS'; go_simp; try (with_reducible rfl))
    simp only [List.setIfInBounds_toArray, List.set_cons_succ, List.set_cons_zero]
    refine takeH (i := 19) (v := ?_) rfl rfl (by kernel_rfl) (by kernel_rfl) (by kernel_rfl) (fun _ _ _ h => h) (Or.inl ⟨by kernel_rfl, ?_⟩) hS ?_
    rotate_left 1
    · (intro w' hS'; go_simp; try (with_reducible rfl))
    simp only [List.setIfInBounds_toArray, List.set_cons_succ, List.set_cons_zero]
    refine takeH (i := 21) (v := ?_) rfl rfl (by kernel_rfl) (by kernel_rfl) (by kernel_rfl) (fun _ _ _ h => h) (Or.inl ⟨by kernel_rfl, ?_⟩) hS ?_
    rotate_left 1
    · (intro w' hS'; go_simp; try (with_reducible rfl))
    simp only [List.setIfInBounds_toArray, List.set_cons_succ, List.set_cons_zero]
    refine takeH (i := 22) (v := ?_) rfl rfl (by kernel_rfl) (by kernel_rfl) (by kernel_rfl) (fun _ _ _ h => h) (Or.inl ⟨by kernel_rfl, ?_⟩) hS ?_
    rotate_left 1
    · (intro w' hS'; have k22 := conv_str A l n c w' HN.out (z7.ext hS'); go_simp; try (with_reducible rfl))
    simp only [List.setIfInBounds_toArray, List.set_cons_succ, List.set_cons_zero]
    refine wpAnyH_ready (rs := [20]) (by kernel_rfl) (by simp) ?_
    refine AllReadyH.cons rfl (fun K hK => ?_) ?_
    rotate_left 1
    · exact AllReadyH.nil
    go_simp
    refine (G29 A3 c3 _ k3 (y7.ext hS)).mono ?_; rintro e w9 ⟨rfl, x9⟩
    refine hK.out _ _ (hS.trans x9) (fun hS => ?_)
    clear hK K
    refine wpAnyH_ready (rs := [23]) (by kernel_rfl) (by simp) ?_
    refine AllReadyH.cons rfl (fun K hK => ?_) ?_
    rotate_left 1
    · exact AllReadyH.nil
    go_simp
    refine (G30 _).mono ?_; rintro e w10 ⟨rfl, x10⟩
    refine hK.out _ _ (hS.trans x10) (fun hS => ?_)
    clear hK K
    refine takeH (i := 24) (v := ?_) rfl rfl (by kernel_rfl) (by kernel_rfl) (by kernel_rfl) (fun _ _ _ h => h) (Or.inl ⟨by kernel_rfl, ?_⟩) hS ?_
    rotate_left 1
    · (intro w' hS'; go_simp; try (with_reducible rfl))
    simp only [List.setIfInBounds_toArray, List.set_cons_succ, List.set_cons_zero]
    refine takeH (i := 25) (v := ?_) rfl rfl (by kernel_rfl) (by kernel_rfl) (by kernel_rfl) (fun _ _ _ h => h) (Or.inl ⟨by kernel_rfl, ?_⟩) hS ?_
    rotate_left 1
    · (intro w' hS'; go_simp; try (with_reducible rfl))
    simp only [List.setIfInBounds_toArray, List.set_cons_succ, List.set_cons_zero]
    refine takeH (i := 26) (v := ?_) rfl rfl (by kernel_rfl) (by kernel_rfl) (by kernel_rfl) (fun _ _ _ h => h) (Or.inl ⟨by kernel_rfl, ?_⟩) hS ?_
    rotate_left 1
    · (intro w' hS'; go_simp; try (with_reducible rfl))
    simp only [List.setIfInBounds_toArray, List.set_cons_succ, List.set_cons_zero]
    refine takeH (i := 27) (v := ?_) rfl rfl (by kernel_rfl) (by kernel_rfl) (by kernel_rfl) (fun _ _ _ h => h) (Or.inl ⟨by kernel_rfl, ?_⟩) hS ?_
    rotate_left 1
    · (intro w' hS'; go_simp; try (with_reducible rfl))
    simp only [List.setIfInBounds_toArray, List.set_cons_succ, List.set_cons_zero]
    refine takeH (i := 28) (v := ?_) rfl rfl (by kernel_rfl) (by kernel_rfl) (by kernel_rfl) (fun _ _ _ h => h) (Or.inl ⟨by kernel_rfl, ?_⟩) hS ?_
    rotate_left 1
    · (intro w' hS'; have k28 := conv_str A3 l n c3 w' HN.out (y7.ext hS'); go_simp; try (with_reducible rfl))
    simp only [List.setIfInBounds_toArray, List.set_cons_succ, List.set_cons_zero]
    refine takeH (i := 29) (v := ?_) rfl rfl (by kernel_rfl) (by kernel_rfl) (by kernel_rfl) (fun _ _ _ h => h) (Or.inl ⟨by kernel_rfl, ?_⟩) hS ?_
    rotate_left 1
    · (intro w' hS'; go_simp; try (with_reducible rfl))
    simp only [List.setIfInBounds_toArray, List.set_cons_succ, List.set_cons_zero]
    refine takeH (i := 30) (v := ?_) rfl rfl (by kernel_rfl) (by kernel_rfl) (by kernel_rfl) (fun _ _ _ h => h) (Or.inl ⟨by kernel_rfl, ?_⟩) hS ?_
    rotate_left 1
    · (intro w' hS'; have k30 := conv_str A l n c w' HN.out (z7.ext hS'); go_simp; try (with_reducible rfl))
    simp only [List.setIfInBounds_toArray, List.set_cons_succ, List.set_cons_zero]
    refine takeH (i := 31) (v := ?_) rfl rfl (by kernel_rfl) (by kernel_rfl) (by kernel_rfl) (fun _ _ _ h => h) (Or.inl ⟨by kernel_rfl, ?_⟩) hS ?_
    rotate_left 1
    · (intro w' hS'; go_simp; try (with_reducible rfl))
    simp only [List.setIfInBounds_toArray, List.set_cons_succ, List.set_cons_zero]
    refine takeH (i := 32) (v := ?_) rfl rfl (by kernel_rfl) (by kernel_rfl) (by kernel_rfl) (fun _ _ _ h => h) (Or.inl ⟨by kernel_rfl, ?_⟩) hS ?_
    rotate_left 1
    · (intro w' hS'; go_simp; try (with_reducible rfl))
    simp only [List.setIfInBounds_toArray, List.set_cons_succ, List.set_cons_zero]
    refine takeH (i := 33) (v := ?_) rfl rfl (by kernel_rfl) (by kernel_rfl) (by kernel_rfl) (fun _ _ _ h => h) (Or.inl ⟨by kernel_rfl, ?_⟩) hS ?_
    rotate_left 1
    · (intro w' hS'; go_simp; try (with_reducible rfl))
    simp only [List.setIfInBounds_toArray, List.set_cons_succ, List.set_cons_zero]
    refine wpAnyH_done (by kernel_rfl) ?_ _
    go_wp2_with fail
    go_ret
    exact ⟨rfl, Z7.trans hS⟩
  · have hgt : ((600 : Int) < (n : Int)) = True := eq_true (by omega)
    clear hn hc hx h600
    go_enter Try.func7, Try.ntmps7
    go_wp2_with fail
    refine (f19_any _).mono ?_
    rintro e w1 ⟨rfl, x1⟩
    go_wp2_with fail
    refine (f19_any _).mono ?_
    rintro e w2 ⟨rfl, x2⟩
    go_wp2_with fail
    go_ret
    exact ⟨rfl, x1.trans x2⟩
end Go.Proofs.Ytanmjmeabcloiaa
