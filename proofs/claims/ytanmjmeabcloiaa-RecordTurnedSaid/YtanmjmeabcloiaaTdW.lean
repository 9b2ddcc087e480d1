/- RecordTurned: the walk. -/
import Derived.Test.YtanmjmeabcloiaaRcj
namespace Go.Proofs.Ytanmjmeabcloiaa
open Go.RowKit
open Go.Proofs

theorem up_nul (W0 : World) : Up W0 (W0.alloc (.cells #[] 5)) (.slice (some ⟨W0.heap.size, 0, none⟩) 0 0) [] := Up.new (Ext.refl W0) #[] 0 0 [] rfl (Nat.le_refl _) (Nat.le_refl _) (by decide) (fun j u h => by simp [octs] at h)

set_option maxRecDepth 100000 in
set_option maxHeartbeats 4000000 in
theorem f11_main (A : Option Addr) (l : List UInt8) (nb cb : Nat) (at_ : Int) (c : UInt8) (w : World) (hl : l.length = nb) (hc : nb ≤ cb) (h1 : 1 ≤ nb) (h2 : nb ≤ 1000) (hx : Octs w A l) :
    Calls Try.prog 11 #[.slice A nb cb, .int .i64 at_, .int .u8 ((c.toNat : Nat) : Int)] w fun e w' => e = .returned (.bool true) ∧ Ext w w' := by
  have g1 : ((1000 : Int) < (nb : Int)) = False := eq_false (by omega)
  have g2 : ((nb : Int) = 0) = False := eq_false (by omega)
  have hi : idRight 1 2 := by decide
  have hn5 := nsec_le l (by omega)
  have hn1 : 1 ≤ nsec l := by unfold nsec; omega
  have hns : 128 * (nsec l + 1) ≤ 1500 := by unfold nsec; omega
  have hLl := length_cutOf hi l (by omega)
  have hcut := fun W (h : Ext w W) => f31_right 1 2 A l nb cb W hi hl h1 (by omega) hc (hx.ext h)
  have hj1 := join_cut hi l (by omega) (by omega) []
  rw [List.append_nil] at hj1
  have hj3 := join_missing hi l (by omega)
  obtain ⟨L, hL⟩ : ∃ L, L = cutOf 1 2 l := ⟨_, rfl⟩
  rw [← hL] at hLl hj1
  simp only [← hL] at hcut hj3
  have hj2 : ∀ k, k < L.length → L.getD k 0 ≠ c → joinOf (L.set k c) 1 2 = ([], 0) := by
    rw [hL]
    intro k hk hne
    refine join_turned hi l (by omega) k hk c (fun e => hne ?_)
    rw [List.getD_eq_getElem?_getD, List.getElem?_eq_getElem hk]
    exact e
  obtain ⟨K, hK⟩ : ∃ K, K = nsec l + 1 := ⟨_, rfl⟩
  rw [← hK] at hLl hns hj1
  have hK2 : 2 ≤ K := by omega
  obtain ⟨N, hN⟩ : ∃ N, N = 128 * K := ⟨_, rfl⟩
  rw [← hN] at hLl
  have hN1 : 256 ≤ N := by omega
  have hN2 : N ≤ 1500 := by omega
  have g3 : ((N : Int) < 256) = False := eq_false (by omega)
  obtain ⟨a0, k, ha0, ha1, ha2, ha3, ha4⟩ := round_two at_ N (by omega)
  have hw1 : IntKind.i64.wrap (a0 + (N : Int)) = a0 + (N : Int) := IntWalk.i64_in _ (by omega)
  have hki : (k : Int) < (N : Int) := by omega
  obtain ⟨s, hs⟩ : ∃ s, s = k / 128 := ⟨_, rfl⟩
  have hsK : s ≤ nsec l := by omega
  replace hj3 := hj3 s hsK
  obtain ⟨M, hM⟩ : ∃ M, M = 128 * s := ⟨_, rfl⟩
  obtain ⟨M2, hM2⟩ : ∃ M2, M2 = 128 * (s + 1) := ⟨_, rfl⟩
  rw [← hM, ← hM2] at hj3
  have hq1 : (k : Int).tdiv 128 = (s : Int) := by rw [Int.tdiv_eq_ediv_of_nonneg (by omega)]; omega
  have hq2 : (k : Int) / 128 = (s : Int) := by omega
  have hM3 : 128 * (s : Int) = (M : Int) := by omega
  have hM4 : (M : Int) + 128 = (M2 : Int) := by omega
  have hM5 : M2 ≤ N := by omega
  have hM6 : M2 = M + 128 := by omega
  have hw2 : IntKind.i64.wrap (M : Int) = (M : Int) := IntWalk.i64_in _ (by omega)
  have hw3 : IntKind.i64.wrap (M2 : Int) = (M2 : Int) := IntWalk.i64_in _ (by omega)
  have hT1 : (L.take M).length = M := by rw [List.length_take]; omega
  have hT2 : (L.drop M2).length = N - M2 := by rw [List.length_drop]; omega
  have hT3 : (L.take M ++ L.drop M2).length = M + (N - M2) := by rw [List.length_append, hT1, hT2]
  have hJ3 := fun A3 c3 n3 W (hn : (L.take M ++ L.drop M2).length = n3) (h : n3 ≤ 6000) (k : n3 ≤ c3) (z : Octs W A3 (L.take M ++ L.drop M2)) => f34_any A3 (L.take M ++ L.drop M2) n3 c3 1 2 W hn h k z
  rw [hj3] at hJ3
  dsimp only at hJ3
  clear hM hM2 hs hK hn5 hn1 hsK hj3 hL hN hM6
  go_enter Try.func11, Try.ntmps11
  go_wp2_with fail
  refine (awake06_any _).mono ?_
  rintro e w0 ⟨rfl, rfl⟩
  go_wp2_with fail
  refine (hcut _ (Ext.refl _)).mono ?_
  rintro e w2 ⟨v2, rfl, o2, x2⟩
  obtain ⟨A2, c2, rfl, k2, z2⟩ := o2.octs_form
  rw [hLl] at k2 ⊢
  obtain ⟨A5, r5, _, fT, _⟩ := cut_hi A2 L c2 M (by omega) (by omega)
  obtain ⟨A6, r6, _, fD, _⟩ := cut_lo A2 L c2 M2 (by omega) (by omega)
  rw [hLl] at r5 r6
  clear hcut
  obtain ⟨b, hb⟩ : ∃ b, b = L.getD k 0 := ⟨_, rfl⟩
  have hkL : k < L.length := by omega
  have HK : L.set k (L.getD k 0) = L := by
    have e : L.getD k 0 = L[k] := by rw [List.getD_eq_getElem?_getD, List.getElem?_eq_getElem hkL]; rfl
    rw [e]
    exact List.set_getElem_self hkL
  have hj2 := hj2 k hkL
  rw [← hb] at hj2 HK
  have hL4 : (L.set k c).length = N := by rw [List.length_set, hLl]
  have hK0 : ((0 : Int) < (K : Int)) = True := eq_true (by omega)
  have hK1 : (0 < K) = True := eq_true (by omega)
  by_cases hbc : b = c
  · rw [hbc] at hb HK
    have HS : joinOf (L.set k c) 1 2 = (l, K) := by rw [HK]; exact hj1
    have HB := Lib.hid hb
    clear hj2 hj1 hbc HK hb
    go_wp2_with (first
      | (at_builtin; refine wpList_copyo rfl (.tmp 52) (.tmp 53) rfl rfl rfl A2 N c2 L rfl hLl z2 (by omega) ?_; intro v4 w4 o4 x4; obtain ⟨g, cp, rfl, hcp, hg, hgl, hcell, hfr⟩ := o4.head (by omega); have hck := hcell k hkL; clear hcell; rw [← HB.out] at hck; rw [hLl] at hcp o4 ⊢)
      | fail)
    have hg2 : w2.heap.size ≤ g := hg
    have hgw : w.heap.size ≤ g := Nat.le_trans x2.size hg
    have X24 := x4
    have X4 := x2.trans x4
    have O4 := Own.set o4 k c
    have hJ := fun W (x : Ext (w4.setCell ⟨g, k, none⟩ (.int .u8 ((c.toNat : Nat) : Int))) W) => f34_any (some ⟨g, 0, none⟩) (L.set k c) N cp 1 2 W hL4 (by omega) hcp (by
      obtain ⟨_, _, e1, _, y⟩ := O4.octs_form
      injection e1 with e1
      rw [← e1] at y
      exact y.ext x)
    rw [HS] at hJ
    dsimp only at hJ
    clear O4 o4 hck hfr HS
    refine (hJ _ (Ext.refl _)).mono ?_
    rintro e w6 ⟨v6, rfl, o6, x6⟩
    obtain ⟨A7, c7, rfl, k7, z7⟩ := o6.octs_form
    have X6 := (X4.setCell (p := ⟨g, k, none⟩) hgw (.int .u8 ((c.toNat : Nat) : Int))).trans x6
    have z6 := z2.ext ((X24.setCell (p := ⟨g, k, none⟩) hg2 (.int .u8 ((c.toNat : Nat) : Int))).trans x6)
    have zT := fT w6 z6
    have zD := fD w6 z6
    go_wp2_with fail
    refine wp_region_held_drew (S := fun w' => Ext w6 w') (by kernel_rfl) ((Ext.refl _).drew) (fun hS => ?_)
    refine takeH (i := 1) (v := ?_) rfl rfl (by kernel_rfl) (by kernel_rfl) (by kernel_rfl) (fun _ _ _ h => h) (Or.inl ⟨by kernel_rfl, ?_⟩) hS ?_
    rotate_left 1
    · (intro w' hS'; go_simp; try (with_reducible rfl))
    simp only [List.setIfInBounds_toArray, List.set_cons_succ, List.set_cons_zero]
    refine takeH (i := 2) (v := ?_) rfl rfl (by kernel_rfl) (by kernel_rfl) (by kernel_rfl) (fun _ _ _ h => h) (Or.inl ⟨by kernel_rfl, ?_⟩) hS ?_
    rotate_left 1
    · (intro w' hS'; go_simp; try (with_reducible rfl))
    simp only [List.setIfInBounds_toArray, List.set_cons_succ, List.set_cons_zero]
    refine takeH (i := 3) (v := ?_) rfl rfl (by kernel_rfl) (by kernel_rfl) (by kernel_rfl) (fun _ _ _ h => h) (Or.inl ⟨by kernel_rfl, ?_⟩) hS ?_
    rotate_left 1
    · (intro w' hS'; go_simp; try (with_reducible rfl))
    simp only [List.setIfInBounds_toArray, List.set_cons_succ, List.set_cons_zero]
    refine takeH (i := 5) (v := ?_) rfl rfl (by kernel_rfl) (by kernel_rfl) (by kernel_rfl) (fun _ _ _ h => h) (Or.inl ⟨by kernel_rfl, ?_⟩) hS ?_
    rotate_left 1
    · (intro w' hS'; go_simp; try (with_reducible rfl))
    simp only [List.setIfInBounds_toArray, List.set_cons_succ, List.set_cons_zero]
    refine takeH (i := 6) (v := ?_) rfl rfl (by kernel_rfl) (by kernel_rfl) (by kernel_rfl) (fun _ _ _ h => h) (Or.inl ⟨by kernel_rfl, ?_⟩) hS ?_
    rotate_left 1
    · (intro w' hS'; go_simp; try (with_reducible rfl))
    simp only [List.setIfInBounds_toArray, List.set_cons_succ, List.set_cons_zero]
    refine takeH (i := 7) (v := ?_) rfl rfl (by kernel_rfl) (by kernel_rfl) (by kernel_rfl) (fun _ _ _ h => h) (Or.inl ⟨by kernel_rfl, ?_⟩) hS ?_
    rotate_left 1
    · (intro w' hS'; go_simp; try (with_reducible rfl))
    simp only [List.setIfInBounds_toArray, List.set_cons_succ, List.set_cons_zero]
    refine takeH (i := 8) (v := ?_) rfl rfl (by kernel_rfl) (by kernel_rfl) (by kernel_rfl) (fun _ _ _ h => h) (Or.inl ⟨by kernel_rfl, ?_⟩) hS ?_
    rotate_left 1
    · (intro w' hS'; go_simp; try (with_reducible rfl))
    simp only [List.setIfInBounds_toArray, List.set_cons_succ, List.set_cons_zero]
    refine wpAnyH_ready (rs := [0]) (by kernel_rfl) (by simp) ?_
    refine AllReadyH.cons rfl (fun K hK => ?_) ?_
    rotate_left 1
    · exact AllReadyH.nil
    go_simp
    refine hK.out _ _ (by first | exact hS | exact hS.alloc _ | exact x8 | exact x7) (fun hS => ?_)
    clear hK K
    refine wpAnyH_ready (rs := [4]) (by kernel_rfl) (by simp) ?_
    refine AllReadyH.cons rfl (fun K hK => ?_) ?_
    rotate_left 1
    · exact AllReadyH.nil
    refine step_up rfl (.tmp 74) (.tmp 77) rfl _ [] rfl ((up_nul w6).ext ((Ext.refl _).drew)) (((Ext.refl w6).alloc _).drew) A5 _ c2 (L.take M) rfl hT1 ((zT.alloc _).drew) (by simp only [List.length_nil]; omega) ?_; intro v7 w7 u7 x7; rw [List.nil_append] at u7
    try go_simp
    refine hK.out _ _ (by first | exact hS | exact hS.alloc _ | exact x8 | exact x7) (fun hS => ?_)
    clear hK K
    refine wpAnyH_ready (rs := [9]) (by kernel_rfl) (by simp) ?_
    refine AllReadyH.cons rfl (fun K hK => ?_) ?_
    rotate_left 1
    · exact AllReadyH.nil
    refine step_up rfl (.tmp 78) (.tmp 82) rfl v7 _ rfl u7 x7 A6 _ _ (L.drop M2) rfl hT2 (zD.ext x7) (by omega) ?_; intro v8 w8 u8 x8; obtain ⟨A8, e8, rfl, k8, _, y8⟩ := u8.form; rw [hT3] at k8 ⊢
    try go_simp
    refine hK.out _ _ (by first | exact hS | exact hS.alloc _ | exact x8 | exact x7) (fun hS => ?_)
    clear hK K
    refine wpAnyH_ready (rs := [10]) (by kernel_rfl) (by simp) ?_
    refine AllReadyH.cons rfl (fun K hK => ?_) ?_
    rotate_left 1
    · exact AllReadyH.nil
    go_simp
    refine (hJ3 A8 e8 _ _ hT3 (by omega) k8 y8).mono ?_; rintro e w9 ⟨v9, rfl, o9, x9⟩; obtain ⟨A9, c9, rfl, k9, z9⟩ := o9.octs_form
    refine hK.out _ _ (x8.trans x9) (fun hS => ?_)
    clear hK K
    refine takeH (i := 11) (v := ?_) rfl rfl (by kernel_rfl) (by kernel_rfl) (by kernel_rfl) (fun _ _ _ h => h) (Or.inl ⟨by kernel_rfl, ?_⟩) hS ?_
    rotate_left 1
    · (intro w' hS'; go_simp; try (with_reducible rfl))
    simp only [List.setIfInBounds_toArray, List.set_cons_succ, List.set_cons_zero]
    refine takeH (i := 12) (v := ?_) rfl rfl (by kernel_rfl) (by kernel_rfl) (by kernel_rfl) (fun _ _ _ h => h) (Or.inl ⟨by kernel_rfl, ?_⟩) hS ?_
    rotate_left 1
    · (intro w' hS'; go_simp; try (with_reducible rfl))
    simp only [List.setIfInBounds_toArray, List.set_cons_succ, List.set_cons_zero]
    refine takeH (i := 13) (v := ?_) rfl rfl (by kernel_rfl) (by kernel_rfl) (by kernel_rfl) (fun _ _ _ h => h) (Or.inl ⟨by kernel_rfl, ?_⟩) hS ?_
    rotate_left 1
    · (intro w' hS'; go_simp; try (with_reducible rfl))
    simp only [List.setIfInBounds_toArray, List.set_cons_succ, List.set_cons_zero]
    refine takeH (i := 14) (v := ?_) rfl rfl (by kernel_rfl) (by kernel_rfl) (by kernel_rfl) (fun _ _ _ h => h) (Or.inl ⟨by kernel_rfl, ?_⟩) hS ?_
    rotate_left 1
    · (intro w' hS'; go_simp; try (with_reducible rfl))
    simp only [List.setIfInBounds_toArray, List.set_cons_succ, List.set_cons_zero]
    refine takeH (i := 15) (v := ?_) rfl rfl (by kernel_rfl) (by kernel_rfl) (by kernel_rfl) (fun _ _ _ h => h) (Or.inl ⟨by kernel_rfl, ?_⟩) hS ?_
    rotate_left 1
    · (intro w' hS'; go_simp; try (with_reducible rfl))
    simp only [List.setIfInBounds_toArray, List.set_cons_succ, List.set_cons_zero]
    refine wpAnyH_done (by kernel_rfl) ?_ _
    have q1 := conv_str A7 l nb c7 _ hl (z7.ext hS)
    have q2 := conv_str A l nb cb _ hl (hx.ext (X6.trans hS))
    go_wp2_with fail
    go_ret
    exact ⟨rfl, X6.trans hS⟩
  · have HS : joinOf (L.set k c) 1 2 = ([], 0) := hj2 hbc
    have hne : (((b.toNat : Nat) : Int) == ((c.toNat : Nat) : Int)) = false := beq_eq_false_iff_ne.2 (fun e => hbc (UInt8.toNat_inj.1 (by omega)))
    have HB := Lib.hid hb
    clear hj2 hj1 hbc HK hb
    go_wp2_with (first
      | (at_builtin; refine wpList_copyo rfl (.tmp 52) (.tmp 53) rfl rfl rfl A2 N c2 L rfl hLl z2 (by omega) ?_; intro v4 w4 o4 x4; obtain ⟨g, cp, rfl, hcp, hg, hgl, hcell, hfr⟩ := o4.head (by omega); have hck := hcell k hkL; clear hcell; rw [← HB.out] at hck; rw [hLl] at hcp o4 ⊢)
      | fail)
    have hg2 : w2.heap.size ≤ g := hg
    have hgw : w.heap.size ≤ g := Nat.le_trans x2.size hg
    have X24 := x4
    have X4 := x2.trans x4
    have O4 := Own.set o4 k c
    have hJ := fun W (x : Ext (w4.setCell ⟨g, k, none⟩ (.int .u8 ((c.toNat : Nat) : Int))) W) => f34_any (some ⟨g, 0, none⟩) (L.set k c) N cp 1 2 W hL4 (by omega) hcp (by
      obtain ⟨_, _, e1, _, y⟩ := O4.octs_form
      injection e1 with e1
      rw [← e1] at y
      exact y.ext x)
    rw [HS] at hJ
    dsimp only at hJ
    clear O4 o4 hck hfr HS
    refine (hJ _ (Ext.refl _)).mono ?_
    rintro e w6 ⟨v6, rfl, o6, x6⟩
    obtain ⟨A7, c7, rfl, k7, z7⟩ := o6.octs_form
    have X6 := (X4.setCell (p := ⟨g, k, none⟩) hgw (.int .u8 ((c.toNat : Nat) : Int))).trans x6
    have z6 := z2.ext ((X24.setCell (p := ⟨g, k, none⟩) hg2 (.int .u8 ((c.toNat : Nat) : Int))).trans x6)
    have zT := fT w6 z6
    have zD := fD w6 z6
    go_wp2_with fail
    refine wp_region_held_drew (S := fun w' => Ext w6 w') (by kernel_rfl) ((Ext.refl _).drew) (fun hS => ?_)
    refine takeH (i := 1) (v := ?_) rfl rfl (by kernel_rfl) (by kernel_rfl) (by kernel_rfl) (fun _ _ _ h => h) (Or.inl ⟨by kernel_rfl, ?_⟩) hS ?_
    rotate_left 1
    · (intro w' hS'; go_simp; try (with_reducible rfl))
    simp only [List.setIfInBounds_toArray, List.set_cons_succ, List.set_cons_zero]
    refine takeH (i := 2) (v := ?_) rfl rfl (by kernel_rfl) (by kernel_rfl) (by kernel_rfl) (fun _ _ _ h => h) (Or.inl ⟨by kernel_rfl, ?_⟩) hS ?_
    rotate_left 1
    · (intro w' hS'; go_simp; try (with_reducible rfl))
    simp only [List.setIfInBounds_toArray, List.set_cons_succ, List.set_cons_zero]
    refine takeH (i := 3) (v := ?_) rfl rfl (by kernel_rfl) (by kernel_rfl) (by kernel_rfl) (fun _ _ _ h => h) (Or.inl ⟨by kernel_rfl, ?_⟩) hS ?_
    rotate_left 1
    · (intro w' hS'; go_simp; try (with_reducible rfl))
    simp only [List.setIfInBounds_toArray, List.set_cons_succ, List.set_cons_zero]
    refine takeH (i := 5) (v := ?_) rfl rfl (by kernel_rfl) (by kernel_rfl) (by kernel_rfl) (fun _ _ _ h => h) (Or.inl ⟨by kernel_rfl, ?_⟩) hS ?_
    rotate_left 1
    · (intro w' hS'; go_simp; try (with_reducible rfl))
    simp only [List.setIfInBounds_toArray, List.set_cons_succ, List.set_cons_zero]
    refine takeH (i := 6) (v := ?_) rfl rfl (by kernel_rfl) (by kernel_rfl) (by kernel_rfl) (fun _ _ _ h => h) (Or.inl ⟨by kernel_rfl, ?_⟩) hS ?_
    rotate_left 1
    · (intro w' hS'; go_simp; try (with_reducible rfl))
    simp only [List.setIfInBounds_toArray, List.set_cons_succ, List.set_cons_zero]
    refine takeH (i := 7) (v := ?_) rfl rfl (by kernel_rfl) (by kernel_rfl) (by kernel_rfl) (fun _ _ _ h => h) (Or.inl ⟨by kernel_rfl, ?_⟩) hS ?_
    rotate_left 1
    · (intro w' hS'; go_simp; try (with_reducible rfl))
    simp only [List.setIfInBounds_toArray, List.set_cons_succ, List.set_cons_zero]
    refine takeH (i := 8) (v := ?_) rfl rfl (by kernel_rfl) (by kernel_rfl) (by kernel_rfl) (fun _ _ _ h => h) (Or.inl ⟨by kernel_rfl, ?_⟩) hS ?_
    rotate_left 1
    · (intro w' hS'; go_simp; try (with_reducible rfl))
    simp only [List.setIfInBounds_toArray, List.set_cons_succ, List.set_cons_zero]
    refine wpAnyH_ready (rs := [0]) (by kernel_rfl) (by simp) ?_
    refine AllReadyH.cons rfl (fun K hK => ?_) ?_
    rotate_left 1
    · exact AllReadyH.nil
    go_simp
    refine hK.out _ _ (by first | exact hS | exact hS.alloc _ | exact x8 | exact x7) (fun hS => ?_)
    clear hK K
    refine wpAnyH_ready (rs := [4]) (by kernel_rfl) (by simp) ?_
    refine AllReadyH.cons rfl (fun K hK => ?_) ?_
    rotate_left 1
    · exact AllReadyH.nil
    refine step_up rfl (.tmp 74) (.tmp 77) rfl _ [] rfl ((up_nul w6).ext ((Ext.refl _).drew)) (((Ext.refl w6).alloc _).drew) A5 _ c2 (L.take M) rfl hT1 ((zT.alloc _).drew) (by simp only [List.length_nil]; omega) ?_; intro v7 w7 u7 x7; rw [List.nil_append] at u7
    try go_simp
    refine hK.out _ _ (by first | exact hS | exact hS.alloc _ | exact x8 | exact x7) (fun hS => ?_)
    clear hK K
    refine wpAnyH_ready (rs := [9]) (by kernel_rfl) (by simp) ?_
    refine AllReadyH.cons rfl (fun K hK => ?_) ?_
    rotate_left 1
    · exact AllReadyH.nil
    refine step_up rfl (.tmp 78) (.tmp 82) rfl v7 _ rfl u7 x7 A6 _ _ (L.drop M2) rfl hT2 (zD.ext x7) (by omega) ?_; intro v8 w8 u8 x8; obtain ⟨A8, e8, rfl, k8, _, y8⟩ := u8.form; rw [hT3] at k8 ⊢
    try go_simp
    refine hK.out _ _ (by first | exact hS | exact hS.alloc _ | exact x8 | exact x7) (fun hS => ?_)
    clear hK K
    refine wpAnyH_ready (rs := [10]) (by kernel_rfl) (by simp) ?_
    refine AllReadyH.cons rfl (fun K hK => ?_) ?_
    rotate_left 1
    · exact AllReadyH.nil
    go_simp
    refine (hJ3 A8 e8 _ _ hT3 (by omega) k8 y8).mono ?_; rintro e w9 ⟨v9, rfl, o9, x9⟩; obtain ⟨A9, c9, rfl, k9, z9⟩ := o9.octs_form
    refine hK.out _ _ (x8.trans x9) (fun hS => ?_)
    clear hK K
    refine takeH (i := 11) (v := ?_) rfl rfl (by kernel_rfl) (by kernel_rfl) (by kernel_rfl) (fun _ _ _ h => h) (Or.inl ⟨by kernel_rfl, ?_⟩) hS ?_
    rotate_left 1
    · (intro w' hS'; go_simp; try (with_reducible rfl))
    simp only [List.setIfInBounds_toArray, List.set_cons_succ, List.set_cons_zero]
    refine takeH (i := 12) (v := ?_) rfl rfl (by kernel_rfl) (by kernel_rfl) (by kernel_rfl) (fun _ _ _ h => h) (Or.inl ⟨by kernel_rfl, ?_⟩) hS ?_
    rotate_left 1
    · (intro w' hS'; go_simp; try (with_reducible rfl))
    simp only [List.setIfInBounds_toArray, List.set_cons_succ, List.set_cons_zero]
    refine takeH (i := 13) (v := ?_) rfl rfl (by kernel_rfl) (by kernel_rfl) (by kernel_rfl) (fun _ _ _ h => h) (Or.inl ⟨by kernel_rfl, ?_⟩) hS ?_
    rotate_left 1
    · (intro w' hS'; go_simp; try (with_reducible rfl))
    simp only [List.setIfInBounds_toArray, List.set_cons_succ, List.set_cons_zero]
    refine takeH (i := 14) (v := ?_) rfl rfl (by kernel_rfl) (by kernel_rfl) (by kernel_rfl) (fun _ _ _ h => h) (Or.inl ⟨by kernel_rfl, ?_⟩) hS ?_
    rotate_left 1
    · (intro w' hS'; go_simp; try (with_reducible rfl))
    simp only [List.setIfInBounds_toArray, List.set_cons_succ, List.set_cons_zero]
    refine takeH (i := 15) (v := ?_) rfl rfl (by kernel_rfl) (by kernel_rfl) (by kernel_rfl) (fun _ _ _ h => h) (Or.inl ⟨by kernel_rfl, ?_⟩) hS ?_
    rotate_left 1
    · (intro w' hS'; go_simp; try (with_reducible rfl))
    simp only [List.setIfInBounds_toArray, List.set_cons_succ, List.set_cons_zero]
    refine wpAnyH_done (by kernel_rfl) ?_ _
    have q1 := conv_str A7 [] _ c7 _ rfl (z7.ext hS)
    have q2 := conv_str A l nb cb _ hl (hx.ext (X6.trans hS))
    go_wp2_with fail
    go_ret
    exact ⟨rfl, X6.trans hS⟩

theorem f11_walk (A : Option Addr) (l : List UInt8) (nb cb : Nat) (at_ : Int) (n : Nat) (w : World) (hl : l.length = nb) (hc : nb ≤ cb) (hn : n < 256) (hx : Octs w A l) :
    Calls Try.prog 11 #[.slice A nb cb, .int .i64 at_, .int .u8 n] w fun e w' => e = .returned (.bool true) ∧ Ext w w' := by
  by_cases h0 : nb = 0
  · subst h0
    go_enter Try.func11, Try.ntmps11
    go_wp2_with (go_at_call 12; refine (awake06_any _).mono ?_; rintro e w0 ⟨rfl, rfl⟩)
    go_ret
    exact ⟨rfl, Ext.refl w⟩
  · by_cases h1 : 1000 < nb
    · have g1 : ((1000 : Int) < (nb : Int)) = True := eq_true (by omega)
      have g2 : ((nb : Int) = 0) = False := eq_false (by omega)
      clear h0
      go_enter Try.func11, Try.ntmps11
      go_wp2_with (go_at_call 12; refine (awake06_any _).mono ?_; rintro e w0 ⟨rfl, rfl⟩)
      go_ret
      exact ⟨rfl, Ext.refl w⟩
    · obtain ⟨c, rfl⟩ : ∃ c : UInt8, c.toNat = n := ⟨UInt8.ofNat n, by rw [UInt8.toNat_ofNat']; omega⟩
      exact f11_main A l nb cb at_ c w hl hc (by omega) (by omega) hx
end Go.Proofs.Ytanmjmeabcloiaa
