/- RecordCuts: the walk. -/
import Derived.Test.YtanmjmeabcloiaaRcj
namespace Go.Proofs.Ytanmjmeabcloiaa
open Go.RowKit
open Go.Proofs

theorem up_none (W0 : World) : Up W0 (W0.alloc (.cells #[] 5)) (.slice (some ⟨W0.heap.size, 0, none⟩) 0 0) [] := Up.new (Ext.refl W0) #[] 0 0 [] rfl (Nat.le_refl _) (Nat.le_refl _) (by decide) (fun j u h => by simp [octs] at h)

set_option maxRecDepth 100000 in
set_option maxHeartbeats 4000000 in
theorem f9_right (A B : Option Addr) (l r : List UInt8) (nb cb nr cr : Nat) (E N : Int) (w : World) (hl : l.length = nb) (hr : r.length = nr) (hc : nb ≤ cb) (h1 : 1 ≤ nb) (h2 : nb ≤ 1500) (h3 : nr ≤ 300) (hx : Octs w A l) (hz : Octs w B r) (hi : idRight E N) :
    Calls Try.prog 9 #[.agg #[.int .i64 E, .int .i64 N], .slice A nb cb, .slice B nr cr] w fun e w' => e = .returned (.bool true) ∧ Ext w w' := by
  have g1 : ((1500 : Int) < (nb : Int)) = False := eq_false (by omega)
  have g2 : ((300 : Int) < (nr : Int)) = False := eq_false (by omega)
  have g3 : ((nb : Int) = 0) = False := eq_false (by omega)
  have hn5 := nsec_le l (by omega)
  have hns : 128 * (nsec l + 1) ≤ 2000 := by unfold nsec; omega
  have hLl := length_cutOf hi l (by omega)
  have hsec := secs_nsec l (by omega) (by omega)
  rw [hl] at hsec
  have hj1 := join_cut hi l (by omega) (by omega) r
  have hj2 := join_wrong (m := N + 1) hi l (by omega) (by omega) (by omega)
  have hcut := fun W (h : Ext w W) => f31_right E N A l nb cb W hi hl h1 (by omega) hc (hx.ext h)
  have hrcut := fun W (h : Ext w W) => f32_right E N A l nb cb W hi hl (by omega) hc (hx.ext h)
  have hrt := fun W => f17_prt ⟨false, E, N, 0, []⟩ none 0 0 W rfl
  have hrt2 : prtRight ⟨false, E, N, 0, []⟩ := ⟨hi.1, hi.2.1, hi.2.2.1, hi.2.2.2, by simp, by simp, by simp⟩
  rw [decide_eq_true hrt2] at hrt
  obtain ⟨L, hL⟩ : ∃ L, L = cutOf E N l := ⟨_, rfl⟩
  rw [← hL] at hLl hj1 hj2
  simp only [← hL] at hcut hrcut
  obtain ⟨K, hK⟩ : ∃ K, K = nsec l + 1 := ⟨_, rfl⟩
  rw [← hK] at hLl hns hsec hj1
  have hJ1 := fun A3 c3 n3 W (hn : (L ++ r).length = n3) (h : n3 ≤ 6000) (k : n3 ≤ c3) (z : Octs W A3 (L ++ r)) => f34_any A3 (L ++ r) n3 c3 E N W hn h k z
  rw [hj1] at hJ1
  dsimp only at hJ1
  have hJ2 := fun A3 c3 n3 W (hn : L.length = n3) (h : n3 ≤ 6000) (k : n3 ≤ c3) (z : Octs W A3 L) => f34_any A3 L n3 c3 E (N + 1) W hn h k z
  rw [hj2] at hJ2
  dsimp only at hJ2
  have hS33 := fun W => sec_any (nb : Int) W (by omega) (by omega)
  rw [hsec] at hS33
  have hid4 : 0 ≤ N ∧ N ≤ 2147483648 := ⟨hi.2.2.1, hi.2.2.2⟩
  have hLR : (L ++ r).length = 128 * K + nr := by rw [List.length_append, hLl, hr]
  have g5 : IntKind.i64.wrap (128 * (K : Int)) = 128 * (K : Int) := iwrap_in _ (by omega)
  clear hn5 hL hK hj1 hj2 hrt2 hi hsec
  have hb := heap_alloc_new w (.cells #[.int .i64 E, .int .i64 N] 52)
  have X1 : Ext w (w.alloc (.cells #[.int .i64 E, .int .i64 N] 52)) := (Ext.refl w).alloc _
  go_enter Try.func9, Try.ntmps9
  go_wp2_with fail
  obtain ⟨q, hq⟩ : ∃ q, w.heap.size = q := ⟨_, rfl⟩
  rw [hq] at hb ⊢
  clear hq
  generalize w.alloc (.cells #[.int .i64 E, .int .i64 N] 52) = w1 at *
  refine (awake06_any _).mono ?_
  rintro e w0 ⟨rfl, rfl⟩
  obtain ⟨c0, c1⟩ := two_cells hb
  go_wp2_with fail
  refine (hcut _ X1).mono ?_
  rintro e w2 ⟨v2, rfl, o2, x2⟩
  obtain ⟨A2, c2, rfl, k2, z2⟩ := o2.octs_form
  rw [hLl] at k2 ⊢
  have hb2 := x2.heap hb
  clear c0 c1 hcut
  obtain ⟨c0, c1⟩ := two_cells hb2
  go_wp2_with fail
  refine (hrt _).mono ?_
  rintro e w3 ⟨rfl, x3⟩
  have hb3 := x3.heap hb2
  have X3 := X1.trans (x2.trans x3)
  have z3 := z2.ext x3
  clear c0 c1 hrt hb hb2 o2 z2
  go_wp2_with fail
  refine wp_region_held_drew (S := fun w' => Ext w3 w') (by kernel_rfl) ((Ext.refl _).drew) (fun hS => ?_)
  refine takeH (i := 0) (v := ?_) rfl rfl (by kernel_rfl) (by kernel_rfl) (by kernel_rfl) (fun _ _ _ h => h) (Or.inl ⟨by kernel_rfl, ?_⟩) hS ?_
  rotate_left 1
  · (intro w' hS'; go_simp; try (with_reducible rfl))
  simp only [List.setIfInBounds_toArray, List.set_cons_succ, List.set_cons_zero]
  refine takeH (i := 1) (v := ?_) rfl rfl (by kernel_rfl) (by kernel_rfl) (by kernel_rfl) (fun _ _ _ h => h) (Or.inl ⟨by kernel_rfl, ?_⟩) hS ?_
  rotate_left 1
  · (intro w' hS'; go_simp; try (with_reducible rfl))
  simp only [List.setIfInBounds_toArray, List.set_cons_succ, List.set_cons_zero]
  refine takeH (i := 2) (v := ?_) rfl rfl (by kernel_rfl) (by kernel_rfl) (by kernel_rfl) (fun _ _ _ h => h) (Or.inl ⟨by kernel_rfl, ?_⟩) hS ?_
  rotate_left 1
  · (intro w' hS'; go_simp; try (with_reducible rfl))
  simp only [List.setIfInBounds_toArray, List.set_cons_succ, List.set_cons_zero]
  refine takeH (i := 3) (v := ?_) rfl rfl (by kernel_rfl) (by kernel_rfl) (by kernel_rfl) (fun _ _ _ h => h) (Or.inl ⟨by kernel_rfl, ?_⟩) hS ?_
  rotate_left 1
  · (intro w' hS'; go_simp; try (with_reducible rfl))
  simp only [List.setIfInBounds_toArray, List.set_cons_succ, List.set_cons_zero]
  refine takeH (i := 4) (v := ?_) rfl rfl (by kernel_rfl) (by kernel_rfl) (by kernel_rfl) (fun _ _ _ h => h) (Or.inl ⟨by kernel_rfl, ?_⟩) hS ?_
  rotate_left 1
  · (intro w' hS'; have k4 := conv_str A2 L (128 * K) c2 w' hLl (z3.ext hS'); go_simp; try (with_reducible rfl))
  simp only [List.setIfInBounds_toArray, List.set_cons_succ, List.set_cons_zero]
  refine takeH (i := 5) (v := ?_) rfl rfl (by kernel_rfl) (by kernel_rfl) (by kernel_rfl) (fun _ _ _ h => h) (Or.inl ⟨by kernel_rfl, ?_⟩) hS ?_
  rotate_left 1
  · (intro w' hS'; go_simp; try (with_reducible rfl))
  simp only [List.setIfInBounds_toArray, List.set_cons_succ, List.set_cons_zero]
  refine takeH (i := 6) (v := ?_) rfl rfl (by kernel_rfl) (by kernel_rfl) (by kernel_rfl) (fun _ _ _ h => h) (Or.inl ⟨by kernel_rfl, ?_⟩) hS ?_
  rotate_left 1
  · (intro w' hS'; obtain ⟨c0, c1⟩ := two_cells (hS'.heap hb3); go_simp; try (with_reducible rfl))
  simp only [List.setIfInBounds_toArray, List.set_cons_succ, List.set_cons_zero]
  refine takeH (i := 7) (v := ?_) rfl rfl (by kernel_rfl) (by kernel_rfl) (by kernel_rfl) (fun _ _ _ h => h) (Or.inl ⟨by kernel_rfl, ?_⟩) hS ?_
  rotate_left 1
  · (intro w' hS'; go_simp; try (with_reducible rfl))
  simp only [List.setIfInBounds_toArray, List.set_cons_succ, List.set_cons_zero]
  refine takeH (i := 8) (v := ?_) rfl rfl (by kernel_rfl) (by kernel_rfl) (by kernel_rfl) (fun _ _ _ h => h) (Or.inl ⟨by kernel_rfl, ?_⟩) hS ?_
  rotate_left 1
  · (intro w' hS'; obtain ⟨c0, c1⟩ := two_cells (hS'.heap hb3); go_simp; try (with_reducible rfl))
  simp only [List.setIfInBounds_toArray, List.set_cons_succ, List.set_cons_zero]
  refine takeH (i := 9) (v := ?_) rfl rfl (by kernel_rfl) (by kernel_rfl) (by kernel_rfl) (fun _ _ _ h => h) (Or.inl ⟨by kernel_rfl, ?_⟩) hS ?_
  rotate_left 1
  · (intro w' hS'; go_simp; try (with_reducible rfl))
  simp only [List.setIfInBounds_toArray, List.set_cons_succ, List.set_cons_zero]
  refine wpAnyH_ready (rs := [10]) (by kernel_rfl) (by simp) ?_
  refine AllReadyH.cons rfl (fun K hK => ?_) ?_
  rotate_left 1
  · exact AllReadyH.nil
  go_simp
  refine (hrcut _ (X3.trans hS)).mono ?_; rintro e w4 ⟨rfl, x4⟩
  refine hK.out _ _ (hS.trans x4) (fun hS => ?_)
  clear hK K
  refine takeH (i := 11) (v := ?_) rfl rfl (by kernel_rfl) (by kernel_rfl) (by kernel_rfl) (fun _ _ _ h => h) (Or.inl ⟨by kernel_rfl, ?_⟩) hS ?_
  rotate_left 1
  · (intro w' hS'; go_simp; try (with_reducible rfl))
  simp only [List.setIfInBounds_toArray, List.set_cons_succ, List.set_cons_zero]
  refine takeH (i := 12) (v := ?_) rfl rfl (by kernel_rfl) (by kernel_rfl) (by kernel_rfl) (fun _ _ _ h => h) (Or.inl ⟨by kernel_rfl, ?_⟩) hS ?_
  rotate_left 1
  · (intro w' hS'; go_simp; try (with_reducible rfl))
  simp only [List.setIfInBounds_toArray, List.set_cons_succ, List.set_cons_zero]
  refine takeH (i := 13) (v := ?_) rfl rfl (by kernel_rfl) (by kernel_rfl) (by kernel_rfl) (fun _ _ _ h => h) (Or.inl ⟨by kernel_rfl, ?_⟩) hS ?_
  rotate_left 1
  · (intro w' hS'; go_simp; try (with_reducible rfl))
  simp only [List.setIfInBounds_toArray, List.set_cons_succ, List.set_cons_zero]
  refine takeH (i := 14) (v := ?_) rfl rfl (by kernel_rfl) (by kernel_rfl) (by kernel_rfl) (fun _ _ _ h => h) (Or.inl ⟨by kernel_rfl, ?_⟩) hS ?_
  rotate_left 1
  · (intro w' hS'; go_simp; try (with_reducible rfl))
  simp only [List.setIfInBounds_toArray, List.set_cons_succ, List.set_cons_zero]
  refine takeH (i := 15) (v := ?_) rfl rfl (by kernel_rfl) (by kernel_rfl) (by kernel_rfl) (fun _ _ _ h => h) (Or.inl ⟨by kernel_rfl, ?_⟩) hS ?_
  rotate_left 1
  · (intro w' hS'; go_simp; try (with_reducible rfl))
  simp only [List.setIfInBounds_toArray, List.set_cons_succ, List.set_cons_zero]
  refine takeH (i := 16) (v := ?_) rfl rfl (by kernel_rfl) (by kernel_rfl) (by kernel_rfl) (fun _ _ _ h => h) (Or.inl ⟨by kernel_rfl, ?_⟩) hS ?_
  rotate_left 1
  · (intro w' hS'; go_simp; try (with_reducible rfl))
  simp only [List.setIfInBounds_toArray, List.set_cons_succ, List.set_cons_zero]
  refine takeH (i := 17) (v := ?_) rfl rfl (by kernel_rfl) (by kernel_rfl) (by kernel_rfl) (fun _ _ _ h => h) (Or.inl ⟨by kernel_rfl, ?_⟩) hS ?_
  rotate_left 1
  · (intro w' hS'; go_simp; try (with_reducible rfl))
  simp only [List.setIfInBounds_toArray, List.set_cons_succ, List.set_cons_zero]
  refine wpAnyH_ready (rs := [18]) (by kernel_rfl) (by simp) ?_
  refine AllReadyH.cons rfl (fun K hK => ?_) ?_
  rotate_left 1
  · exact AllReadyH.nil
  go_simp
  refine (hS33 _).mono ?_; rintro e w5 ⟨rfl, rfl⟩
  refine hK.out _ _ (hS) (fun hS => ?_)
  clear hK K
  refine takeH (i := 19) (v := ?_) rfl rfl (by kernel_rfl) (by kernel_rfl) (by kernel_rfl) (fun _ _ _ h => h) (Or.inl ⟨by kernel_rfl, ?_⟩) hS ?_
  rotate_left 1
  · (intro w' hS'; go_simp; try (with_reducible rfl))
  simp only [List.setIfInBounds_toArray, List.set_cons_succ, List.set_cons_zero]
  refine takeH (i := 20) (v := ?_) rfl rfl (by kernel_rfl) (by kernel_rfl) (by kernel_rfl) (fun _ _ _ h => h) (Or.inl ⟨by kernel_rfl, ?_⟩) hS ?_
  rotate_left 1
  · (intro w' hS'; go_simp; try (with_reducible rfl))
  simp only [List.setIfInBounds_toArray, List.set_cons_succ, List.set_cons_zero]
  refine takeH (i := 21) (v := ?_) rfl rfl (by kernel_rfl) (by kernel_rfl) (by kernel_rfl) (fun _ _ _ h => h) (Or.inl ⟨by kernel_rfl, ?_⟩) hS ?_
  rotate_left 1
  · (intro w' hS'; go_simp; try (with_reducible rfl))
  simp only [List.setIfInBounds_toArray, List.set_cons_succ, List.set_cons_zero]
  refine wpAnyH_done (by kernel_rfl) ?_ _
  have X4 := X3.trans hS
  have hb4 := hS.heap hb3
  have z4 := z3.ext hS
  have zB := hz.ext X4
  clear hb3 z3 hrcut hS33
  clear hS
  go_wp2_with fail
  refine wp_region_held_drew (S := fun w' => Ext w4 w') (by kernel_rfl) ((Ext.refl _).drew) (fun hS => ?_)
  refine takeH (i := 1) (v := ?_) rfl rfl (by kernel_rfl) (by kernel_rfl) (by kernel_rfl) (fun _ _ _ h => h) (Or.inl ⟨by kernel_rfl, ?_⟩) hS ?_
  rotate_left 1
  · (intro w' hS'; go_simp; try (with_reducible rfl))
  simp only [List.setIfInBounds_toArray, List.set_cons_succ, List.set_cons_zero]
  refine takeH (i := 3) (v := ?_) rfl rfl (by kernel_rfl) (by kernel_rfl) (by kernel_rfl) (fun _ _ _ h => h) (Or.inl ⟨by kernel_rfl, ?_⟩) hS ?_
  rotate_left 1
  · (intro w' hS'; go_simp; try (with_reducible rfl))
  simp only [List.setIfInBounds_toArray, List.set_cons_succ, List.set_cons_zero]
  refine takeH (i := 5) (v := ?_) rfl rfl (by kernel_rfl) (by kernel_rfl) (by kernel_rfl) (fun _ _ _ h => h) (Or.inl ⟨by kernel_rfl, ?_⟩) hS ?_
  rotate_left 1
  · (intro w' hS'; go_simp; try (with_reducible rfl))
  simp only [List.setIfInBounds_toArray, List.set_cons_succ, List.set_cons_zero]
  refine takeH (i := 6) (v := ?_) rfl rfl (by kernel_rfl) (by kernel_rfl) (by kernel_rfl) (fun _ _ _ h => h) (Or.inl ⟨by kernel_rfl, ?_⟩) hS ?_
  rotate_left 1
  · (intro w' hS'; obtain ⟨c0, c1⟩ := two_cells (hS'.heap hb4); go_simp; try (with_reducible rfl))
  simp only [List.setIfInBounds_toArray, List.set_cons_succ, List.set_cons_zero]
  refine takeH (i := 7) (v := ?_) rfl rfl (by kernel_rfl) (by kernel_rfl) (by kernel_rfl) (fun _ _ _ h => h) (Or.inl ⟨by kernel_rfl, ?_⟩) hS ?_
  rotate_left 1
  · (intro w' hS'; go_simp; try (with_reducible rfl))
  simp only [List.setIfInBounds_toArray, List.set_cons_succ, List.set_cons_zero]
  refine takeH (i := 8) (v := ?_) rfl rfl (by kernel_rfl) (by kernel_rfl) (by kernel_rfl) (fun _ _ _ h => h) (Or.inl ⟨by kernel_rfl, ?_⟩) hS ?_
  rotate_left 1
  · (intro w' hS'; obtain ⟨c0, c1⟩ := two_cells (hS'.heap hb4); go_simp; try (with_reducible rfl))
  simp only [List.setIfInBounds_toArray, List.set_cons_succ, List.set_cons_zero]
  refine wpAnyH_ready (rs := [0]) (by kernel_rfl) (by simp) ?_
  refine AllReadyH.cons rfl (fun K hK => ?_) ?_
  rotate_left 1
  · exact AllReadyH.nil
  go_simp
  refine hK.out _ _ (by first | exact hS | exact hS.alloc _ | exact x7 | exact x6) (fun hS => ?_)
  clear hK K
  refine wpAnyH_ready (rs := [2]) (by kernel_rfl) (by simp) ?_
  refine AllReadyH.cons rfl (fun K hK => ?_) ?_
  rotate_left 1
  · exact AllReadyH.nil
  refine step_up rfl (.tmp 79) (.tmp 80) rfl _ [] rfl ((up_none w4).ext ((Ext.refl _).drew)) (((Ext.refl w4).alloc _).drew) A2 _ c2 L rfl hLl ((z4.alloc _).drew) (by simp only [List.length_nil]; omega) ?_; intro v6 w6 u6 x6; rw [List.nil_append] at u6
  try go_simp
  refine hK.out _ _ (by first | exact hS | exact hS.alloc _ | exact x7 | exact x6) (fun hS => ?_)
  clear hK K
  refine wpAnyH_ready (rs := [4]) (by kernel_rfl) (by simp) ?_
  refine AllReadyH.cons rfl (fun K hK => ?_) ?_
  rotate_left 1
  · exact AllReadyH.nil
  refine step_up rfl (.tmp 81) (.tmp 82) rfl v6 _ rfl u6 x6 B _ _ r rfl hr (zB.ext x6) (by omega) ?_; intro v7 w7 u7 x7; obtain ⟨A7, e7, rfl, k7, _, y7⟩ := u7.form; rw [hLR] at k7 ⊢
  try go_simp
  refine hK.out _ _ (by first | exact hS | exact hS.alloc _ | exact x7 | exact x6) (fun hS => ?_)
  clear hK K
  refine wpAnyH_ready (rs := [9]) (by kernel_rfl) (by simp) ?_
  refine AllReadyH.cons rfl (fun K hK => ?_) ?_
  rotate_left 1
  · exact AllReadyH.nil
  go_simp
  refine (hJ1 A7 e7 _ _ hLR (by omega) k7 y7).mono ?_; rintro e w8 ⟨v8, rfl, o8, x8⟩; obtain ⟨A8, c8, rfl, k8, z8⟩ := o8.octs_form
  refine hK.out _ _ (x7.trans x8) (fun hS => ?_)
  clear hK K
  refine takeH (i := 10) (v := ?_) rfl rfl (by kernel_rfl) (by kernel_rfl) (by kernel_rfl) (fun _ _ _ h => h) (Or.inl ⟨by kernel_rfl, ?_⟩) hS ?_
  rotate_left 1
  · (intro w' hS'; go_simp; try (with_reducible rfl))
  simp only [List.setIfInBounds_toArray, List.set_cons_succ, List.set_cons_zero]
  refine takeH (i := 11) (v := ?_) rfl rfl (by kernel_rfl) (by kernel_rfl) (by kernel_rfl) (fun _ _ _ h => h) (Or.inl ⟨by kernel_rfl, ?_⟩) hS ?_
  rotate_left 1
  · (intro w' hS'; go_simp; try (with_reducible rfl))
  simp only [List.setIfInBounds_toArray, List.set_cons_succ, List.set_cons_zero]
  refine takeH (i := 12) (v := ?_) rfl rfl (by kernel_rfl) (by kernel_rfl) (by kernel_rfl) (fun _ _ _ h => h) (Or.inl ⟨by kernel_rfl, ?_⟩) hS ?_
  rotate_left 1
  · (intro w' hS'; go_simp; try (with_reducible rfl))
  simp only [List.setIfInBounds_toArray, List.set_cons_succ, List.set_cons_zero]
  refine takeH (i := 13) (v := ?_) rfl rfl (by kernel_rfl) (by kernel_rfl) (by kernel_rfl) (fun _ _ _ h => h) (Or.inl ⟨by kernel_rfl, ?_⟩) hS ?_
  rotate_left 1
  · (intro w' hS'; go_simp; try (with_reducible rfl))
  simp only [List.setIfInBounds_toArray, List.set_cons_succ, List.set_cons_zero]
  refine takeH (i := 14) (v := ?_) rfl rfl (by kernel_rfl) (by kernel_rfl) (by kernel_rfl) (fun _ _ _ h => h) (Or.inl ⟨by kernel_rfl, ?_⟩) hS ?_
  rotate_left 1
  · (intro w' hS'; go_simp; try (with_reducible rfl))
  simp only [List.setIfInBounds_toArray, List.set_cons_succ, List.set_cons_zero]
  refine wpAnyH_done (by kernel_rfl) ?_ _
  have hb8 := hS.heap hb4
  obtain ⟨c0, c1⟩ := two_cells hb8
  rw [hl] at k8 ⊢
  go_wp2_with fail
  refine (hJ2 A2 c2 _ _ hLl (by omega) k2 (z4.ext hS)).mono ?_
  rintro e w9 ⟨v9, rfl, o9, x9⟩
  obtain ⟨A9, c9, rfl, k9, z9⟩ := o9.octs_form
  have q1 := conv_str A8 l nb c8 w9 hl (z8.ext x9)
  have q2 := conv_str A l nb cb w9 hl (hx.ext (X4.trans (hS.trans x9)))
  go_wp2_with fail
  go_ret
  exact ⟨rfl, X4.trans (hS.trans x9)⟩

set_option maxRecDepth 100000 in
set_option maxHeartbeats 4000000 in
theorem f9_wrong (A B : Option Addr) (l : List UInt8) (nb cb nr cr : Nat) (E N : Int) (w : World) (hl : l.length = nb) (hc : nb ≤ cb) (h2 : nb ≤ 1500) (h3 : nr ≤ 300) (hw : ¬ (idRight E N ∧ 1 ≤ nb)) :
    Calls Try.prog 9 #[.agg #[.int .i64 E, .int .i64 N], .slice A nb cb, .slice B nr cr] w fun e w' => e = .returned (.bool true) ∧ Ext w w' := by
  have g1 : ((1500 : Int) < (nb : Int)) = False := eq_false (by omega)
  have g2 : ((300 : Int) < (nr : Int)) = False := eq_false (by omega)
  have hcut : ∀ W, Calls Try.prog 31 #[.int .i64 E, .int .i64 N, .slice A nb cb] W fun x w' => x = .returned (.tuple #[.slice none 0 0, .int .i64 2]) ∧ Ext W w' := fun W => by
    by_cases h0 : nb = 0
    · exact f31_none E N A nb cb W (by unfold secs; rw [if_pos (by omega)]) (by omega)
    · exact f31_wrong E N A l nb cb W (fun h => hw ⟨h, by omega⟩) hl (by omega) (by omega) hc
  have hrt := fun W => f17_prt ⟨false, E, N, 0, []⟩ none 0 0 W rfl
  obtain ⟨d, hd⟩ : ∃ d, d = decide (prtRight ⟨false, E, N, 0, []⟩) := ⟨_, rfl⟩
  rw [← hd] at hrt
  have hor : d = true → ((nb : Int) == 0) = true := fun h => by
    rw [h] at hd
    have := of_decide_eq_true hd.symm
    have h0 : nb = 0 := by
      rcases Nat.lt_or_ge 0 nb with x | x
      · exact absurd ⟨⟨this.1, this.2.1, this.2.2.1, this.2.2.2.1⟩, x⟩ hw
      · omega
    rw [h0]; rfl
  clear hd hw hc hl
  have hb := heap_alloc_new w (.cells #[.int .i64 E, .int .i64 N] 52)
  have X1 : Ext w (w.alloc (.cells #[.int .i64 E, .int .i64 N] 52)) := (Ext.refl w).alloc _
  go_enter Try.func9, Try.ntmps9
  go_wp2_with fail
  obtain ⟨q, hq⟩ : ∃ q, w.heap.size = q := ⟨_, rfl⟩
  rw [hq] at hb ⊢
  clear hq
  generalize w.alloc (.cells #[.int .i64 E, .int .i64 N] 52) = w1 at *
  refine (awake06_any _).mono ?_
  rintro e w0 ⟨rfl, rfl⟩
  obtain ⟨c0, c1⟩ := two_cells hb
  go_wp2_with fail
  refine (hcut _).mono ?_
  rintro e w2 ⟨rfl, x2⟩
  have hb2 := x2.heap hb
  clear c0 c1 hcut
  obtain ⟨c0, c1⟩ := two_cells hb2
  go_wp2_with fail
  refine (hrt _).mono ?_
  rintro e w3 ⟨rfl, x3⟩
  cases hd : d with
  | false =>
    clear hor
    go_wp2_with fail
    go_ret
    exact ⟨rfl, X1.trans (x2.trans x3)⟩
  | true =>
    have h0 := hor hd
    clear hor
    go_wp2_with fail
    go_ret
    exact ⟨rfl, X1.trans (x2.trans x3)⟩

set_option maxRecDepth 100000 in
theorem f9_early (A B : Option Addr) (nb cb nr cr : Nat) (E N : Int) (w : World) (h : 1500 < nb ∨ 300 < nr) :
    Calls Try.prog 9 #[.agg #[.int .i64 E, .int .i64 N], .slice A nb cb, .slice B nr cr] w fun e w' => e = .returned (.bool true) ∧ Ext w w' := by
  by_cases h1 : 1500 < nb
  · have g1 : ((1500 : Int) < (nb : Int)) = True := eq_true (by omega)
    go_enter Try.func9, Try.ntmps9
    go_wp2_with (go_at_call 12; refine (awake06_any _).mono ?_; rintro e w0 ⟨rfl, rfl⟩)
    go_ret
    exact ⟨rfl, (Ext.refl w).alloc _⟩
  · have g1 : ((1500 : Int) < (nb : Int)) = False := eq_false (by omega)
    have g2 : ((300 : Int) < (nr : Int)) = True := eq_true (by omega)
    go_enter Try.func9, Try.ntmps9
    go_wp2_with (go_at_call 12; refine (awake06_any _).mono ?_; rintro e w0 ⟨rfl, rfl⟩)
    go_ret
    exact ⟨rfl, (Ext.refl w).alloc _⟩
theorem f9_walk (A B : Option Addr) (l r : List UInt8) (nb cb nr cr : Nat) (E N : Int) (w : World) (hl : l.length = nb) (hr : r.length = nr) (hc : nb ≤ cb) (hx : Octs w A l) (hz : Octs w B r) :
    Calls Try.prog 9 #[.agg #[.int .i64 E, .int .i64 N], .slice A nb cb, .slice B nr cr] w fun e w' => e = .returned (.bool true) ∧ Ext w w' := by
  by_cases h : 1500 < nb ∨ 300 < nr
  · exact f9_early A B nb cb nr cr E N w h
  · by_cases hw : idRight E N ∧ 1 ≤ nb
    · exact f9_right A B l r nb cb nr cr E N w hl hr hc hw.2 (by omega) (by omega) hx hz hw.1
    · exact f9_wrong A B l nb cb nr cr E N w hl hc (by omega) (by omega) hw
end Go.Proofs.Ytanmjmeabcloiaa
