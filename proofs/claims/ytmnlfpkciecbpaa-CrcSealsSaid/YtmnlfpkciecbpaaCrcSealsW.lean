/- What is sealed, and opened: the law's walk. -/
import Derived.Test.YtmnlfpkciecbpaaAppo
import Derived.Test.YtmnlfpkciecbpaaLaw02a
import Derived.Test.YtmnlfpkciecbpaaReg
import Derived.RegionTactic
import Derived.Deep.QuietTactic
import Derived.BigQuiet
namespace Go.Proofs.Ytmnlfpkciecbpaa
open Go.RowKit
open Go.Proofs

theorem opened_seal (l : List UInt8) : opened (Mb.seal_ l) = l := by
  unfold opened
  rw [if_pos (Mb.isSealed_seal l), Mb.take_seal]

set_option maxRecDepth 100000 in
set_option maxHeartbeats 1000000 in
theorem f6_walk (A : Option Addr) (l : List UInt8) (n c : Nat) (w : World) (hn : l.length = n) (hm : n ≤ 9223372036854775807) (hc : n ≤ c) (hx : Octs w A l) :
    Calls Try.prog 6 #[.slice A n c] w fun e w' => e = .returned (.bool true) ∧ Ext w w' := by
  have HN := Lib.hid hn
  by_cases h6 : 600 < n
  · clear hn
    go_enter Try.func6, Try.ntmps6
    go_wp2_with fail
    refine (f40_any _).mono ?_
    rintro e w1 ⟨rfl, hext1⟩
    go_wp2_with fail
    refine (f40_any _).mono ?_
    rintro e w2 ⟨rfl, hext2⟩
    go_wp2
    go_ret
    exact ⟨rfl, hext1.trans hext2⟩
  · have h600 : n ≤ 600 := by omega
    have hs4 : (Mb.seal_ l).length = n + 4 := by rw [Mb.seal_length, hn]
    have HS4 := Lib.hid hs4
    have hop := Lib.hid (opened_seal l)
    have his := Lib.hid (Mb.isSealed_seal l)
    clear hn h6 hs4 hm
    by_cases h4 : n < 4
    · have hsl : Hid (Mb.isSealed l = false) := by
        unfold Hid Mb.isSealed
        rw [decide_eq_false (by rw [HN.out]; omega), Bool.false_and]
      have hol : Hid (opened l = []) := by
        unfold Hid opened
        rw [hsl.out]; rfl
      have hd : decide ((4 : Int) ≤ (n : Int)) = false := by simp; omega
      go_enter Try.func6, Try.ntmps6
      go_wp2_with fail
      refine (f40_any _).mono ?_
      rintro e w1 ⟨rfl, hext1⟩
      go_wp2_with (at_builtin; refine wpList_copyo (w0 := w1) rfl (.tmp 18) (.tmp 19) rfl rfl rfl A n c l rfl HN.out (hx.ext hext1) (by rw [HN.out]; omega) ?_)
      intro v2 w2 hown2 hext2
      obtain ⟨A2, c2, rfl, hc2, hx2⟩ := hown2.octs_form
      rw [HN.out] at hc2 ⊢
      go_wp2_with fail
      refine (f45_n A2 l n c2 w2 HN.out (by omega) hc2 hx2).mono ?_
      rintro e w3 ⟨v3, rfl, hown3, hext3⟩
      obtain ⟨A3, c3, rfl, hc3, hx3⟩ := hown3.octs_form
      rw [HS4.out] at hc3 ⊢
      go_wp2_with fail
      refine (f46_n A3 (Mb.seal_ l) (n + 4) c3 w3 HS4.out (by omega) hc3 hx3).mono ?_
      rintro e w4 ⟨v4, rfl, hown4, hext4⟩
      rw [hop.out] at hown4
      rw [his.out]
      obtain ⟨A4, c4, rfl, hc4, hx4⟩ := hown4.octs_form
      rw [HN.out] at hc4 ⊢
      go_wp2_with fail
      refine (f46_n A2 l n c2 w4 HN.out (by omega) hc2 (hx2.ext (hext3.trans hext4))).mono ?_
      rintro e w5 ⟨v5, rfl, hown5, hext5⟩
      rw [hsl.out]
      rw [hol.out] at hown5
      obtain ⟨A5, c5, rfl, hc5, hx5⟩ := hown5.octs_form
      have hY : Ext w w5 := (((hext1.trans hext2).trans hext3).trans hext4).trans hext5
      have hX0 := hx.ext hY
      have hX2 := hx2.ext ((hext3.trans hext4).trans hext5)
      have hX3 := hx3.ext (hext4.trans hext5)
      have hX4 := hx4.ext hext5
      clear hown2 hown3 hown4 hown5 hx2 hx3 hx4 hext1 hext2 hext3 hext4 hext5 hx
      go_wp2_with fail
      refine wp_region_held_drew (S := fun w' => Ext w5 w') (by kernel_rfl) ((Ext.refl _).drew) (fun hS => ?_)
      refine takeH (i := 0) (v := ?_) rfl rfl (by kernel_rfl) (by kernel_rfl) (by kernel_rfl) (fun _ _ _ h => h) (Or.inl ⟨by kernel_rfl, ?_⟩) hS ?_
      rotate_left 1
      · (intro w' hS'; go_simp; try (with_reducible rfl))
      simp only [List.setIfInBounds_toArray, List.set_cons_succ, List.set_cons_zero]
      refine takeH (i := 1) (v := ?_) rfl rfl (by kernel_rfl) (by kernel_rfl) (by kernel_rfl) (fun _ _ _ h => h) (Or.inl ⟨by kernel_rfl, ?_⟩) hS ?_
      rotate_left 1
      · (intro w' hS'; go_simp; try (with_reducible rfl))
      simp only [List.setIfInBounds_toArray, List.set_cons_succ, List.set_cons_zero]
      refine takeH (i := 2) (v := ?_) rfl rfl (by kernel_rfl) (by kernel_rfl) (by kernel_rfl) (fun _ _ _ h => h) (Or.inl ⟨by kernel_rfl, ?_⟩) hS ?_
      rotate_left 1
      · (intro w' hS'; go_simp; try (with_reducible rfl))
      simp only [List.setIfInBounds_toArray, List.set_cons_succ, List.set_cons_zero]
      refine takeH (i := 3) (v := ?_) rfl rfl (by kernel_rfl) (by kernel_rfl) (by kernel_rfl) (fun _ _ _ h => h) (Or.inl ⟨by kernel_rfl, ?_⟩) hS ?_
      rotate_left 1
      · (intro w' hS'; go_simp; try (with_reducible rfl))
      simp only [List.setIfInBounds_toArray, List.set_cons_succ, List.set_cons_zero]
      refine takeH (i := 4) (v := undef) rfl rfl (by kernel_rfl) (by kernel_rfl) (by kernel_rfl) (fun _ _ _ h => h) (Or.inr ⟨by kernel_rfl, rfl⟩) hS ?_
      simp only [List.setIfInBounds_toArray, List.set_cons_succ, List.set_cons_zero]
      refine takeH (i := 5) (v := undef) rfl rfl (by kernel_rfl) (by kernel_rfl) (by kernel_rfl) (fun _ _ _ h => h) (Or.inr ⟨by kernel_rfl, rfl⟩) hS ?_
      simp only [List.setIfInBounds_toArray, List.set_cons_succ, List.set_cons_zero]
      refine takeH (i := 6) (v := undef) rfl rfl (by kernel_rfl) (by kernel_rfl) (by kernel_rfl) (fun _ _ _ h => h) (Or.inr ⟨by kernel_rfl, rfl⟩) hS ?_
      simp only [List.setIfInBounds_toArray, List.set_cons_succ, List.set_cons_zero]
      refine takeH (i := 7) (v := undef) rfl rfl (by kernel_rfl) (by kernel_rfl) (by kernel_rfl) (fun _ _ _ h => h) (Or.inr ⟨by kernel_rfl, rfl⟩) hS ?_
      simp only [List.setIfInBounds_toArray, List.set_cons_succ, List.set_cons_zero]
      refine takeH (i := 8) (v := undef) rfl rfl (by kernel_rfl) (by kernel_rfl) (by kernel_rfl) (fun _ _ _ h => h) (Or.inr ⟨by kernel_rfl, rfl⟩) hS ?_
      simp only [List.setIfInBounds_toArray, List.set_cons_succ, List.set_cons_zero]
      refine takeH (i := 9) (v := undef) rfl rfl (by kernel_rfl) (by kernel_rfl) (by kernel_rfl) (fun _ _ _ h => h) (Or.inr ⟨by kernel_rfl, rfl⟩) hS ?_
      simp only [List.setIfInBounds_toArray, List.set_cons_succ, List.set_cons_zero]
      refine takeH (i := 10) (v := undef) rfl rfl (by kernel_rfl) (by kernel_rfl) (by kernel_rfl) (fun _ _ _ h => h) (Or.inr ⟨by kernel_rfl, rfl⟩) hS ?_
      simp only [List.setIfInBounds_toArray, List.set_cons_succ, List.set_cons_zero]
      refine takeH (i := 11) (v := undef) rfl rfl (by kernel_rfl) (by kernel_rfl) (by kernel_rfl) (fun _ _ _ h => h) (Or.inr ⟨by kernel_rfl, rfl⟩) hS ?_
      simp only [List.setIfInBounds_toArray, List.set_cons_succ, List.set_cons_zero]
      refine takeH (i := 12) (v := undef) rfl rfl (by kernel_rfl) (by kernel_rfl) (by kernel_rfl) (fun _ _ _ h => h) (Or.inr ⟨by kernel_rfl, rfl⟩) hS ?_
      simp only [List.setIfInBounds_toArray, List.set_cons_succ, List.set_cons_zero]
      refine takeH (i := 13) (v := undef) rfl rfl (by kernel_rfl) (by kernel_rfl) (by kernel_rfl) (fun _ _ _ h => h) (Or.inr ⟨by kernel_rfl, rfl⟩) hS ?_
      simp only [List.setIfInBounds_toArray, List.set_cons_succ, List.set_cons_zero]
      refine takeH (i := 14) (v := ?_) rfl rfl (by kernel_rfl) (by kernel_rfl) (by kernel_rfl) (fun _ _ _ h => h) (Or.inl ⟨by kernel_rfl, ?_⟩) hS ?_
      rotate_left 1
      · (intro w' hS'; go_simp; try (with_reducible rfl))
      simp only [List.setIfInBounds_toArray, List.set_cons_succ, List.set_cons_zero]
      refine takeH (i := 15) (v := ?_) rfl rfl (by kernel_rfl) (by kernel_rfl) (by kernel_rfl) (fun _ _ _ h => h) (Or.inl ⟨by kernel_rfl, ?_⟩) hS ?_
      rotate_left 1
      · (intro w' hS'; go_simp; try (with_reducible rfl))
      simp only [List.setIfInBounds_toArray, List.set_cons_succ, List.set_cons_zero]
      refine wpAnyH_done (by kernel_rfl) ?_ _
      have hZ : Ext w5 w5.drew := (Ext.refl _).drew
      go_wp2_with fail
      refine wp_region_held_drew (S := fun w' => Ext w5.drew w') (by kernel_rfl) ((Ext.refl _).drew) (fun hS => ?_)
      refine takeH (i := 0) (v := ?_) rfl rfl (by kernel_rfl) (by kernel_rfl) (by kernel_rfl) (fun _ _ _ h => h) (Or.inl ⟨by kernel_rfl, ?_⟩) hS ?_
      rotate_left 1
      · (intro w' hS'; go_simp; try (with_reducible rfl))
      simp only [List.setIfInBounds_toArray, List.set_cons_succ, List.set_cons_zero]
      refine takeH (i := 1) (v := ?_) rfl rfl (by kernel_rfl) (by kernel_rfl) (by kernel_rfl) (fun _ _ _ h => h) (Or.inl ⟨by kernel_rfl, ?_⟩) hS ?_
      rotate_left 1
      · (intro w' hS'; have k1 := conv_str A3 (Mb.seal_ l) (n + 4) c3 w' HS4.out (hX3.ext (hZ.trans hS')); go_simp; try (with_reducible rfl))
      simp only [List.setIfInBounds_toArray, List.set_cons_succ, List.set_cons_zero]
      refine takeH (i := 2) (v := ?_) rfl rfl (by kernel_rfl) (by kernel_rfl) (by kernel_rfl) (fun _ _ _ h => h) (Or.inl ⟨by kernel_rfl, ?_⟩) hS ?_
      rotate_left 1
      · (intro w' hS'; go_simp; try (with_reducible rfl))
      simp only [List.setIfInBounds_toArray, List.set_cons_succ, List.set_cons_zero]
      refine wpAnyH_ready (rs := [3]) (by kernel_rfl) (by simp) ?_
      refine AllReadyH.cons rfl (fun K hK => ?_) ?_
      rotate_left 1
      · exact AllReadyH.nil
      go_simp
      refine (f47_n A l n c _ HN.out (by omega) (hX0.ext (hZ.trans hS))).mono ?_; rintro e w8 ⟨rfl, hext8⟩
      refine hK.out _ _ (hS.trans hext8) (fun hS => ?_)
      clear hK K
      refine takeH (i := 4) (v := ?_) rfl rfl (by kernel_rfl) (by kernel_rfl) (by kernel_rfl) (fun _ _ _ h => h) (Or.inl ⟨by kernel_rfl, ?_⟩) hS ?_
      rotate_left 1
      · (intro w' hS'; go_simp; try (with_reducible rfl))
      simp only [List.setIfInBounds_toArray, List.set_cons_succ, List.set_cons_zero]
      refine takeH (i := 5) (v := ?_) rfl rfl (by kernel_rfl) (by kernel_rfl) (by kernel_rfl) (fun _ _ _ h => h) (Or.inl ⟨by kernel_rfl, ?_⟩) hS ?_
      rotate_left 1
      · (intro w' hS'; go_simp; try (with_reducible rfl))
      simp only [List.setIfInBounds_toArray, List.set_cons_succ, List.set_cons_zero]
      refine takeH (i := 6) (v := ?_) rfl rfl (by kernel_rfl) (by kernel_rfl) (by kernel_rfl) (fun _ _ _ h => h) (Or.inl ⟨by kernel_rfl, ?_⟩) hS ?_
      rotate_left 1
      · (intro w' hS'; go_simp; try (with_reducible rfl))
      simp only [List.setIfInBounds_toArray, List.set_cons_succ, List.set_cons_zero]
      refine takeH (i := 7) (v := ?_) rfl rfl (by kernel_rfl) (by kernel_rfl) (by kernel_rfl) (fun _ _ _ h => h) (Or.inl ⟨by kernel_rfl, ?_⟩) hS ?_
      rotate_left 1
      · (intro w' hS'; go_simp; try (with_reducible rfl))
      simp only [List.setIfInBounds_toArray, List.set_cons_succ, List.set_cons_zero]
      refine takeH (i := 8) (v := ?_) rfl rfl (by kernel_rfl) (by kernel_rfl) (by kernel_rfl) (fun _ _ _ h => h) (Or.inl ⟨by kernel_rfl, ?_⟩) hS ?_
      rotate_left 1
      · (intro w' hS'; go_simp; try (with_reducible rfl))
      simp only [List.setIfInBounds_toArray, List.set_cons_succ, List.set_cons_zero]
      refine takeH (i := 9) (v := ?_) rfl rfl (by kernel_rfl) (by kernel_rfl) (by kernel_rfl) (fun _ _ _ h => h) (Or.inl ⟨by kernel_rfl, ?_⟩) hS ?_
      rotate_left 1
      · (intro w' hS'; go_simp; try (with_reducible rfl))
      simp only [List.setIfInBounds_toArray, List.set_cons_succ, List.set_cons_zero]
      refine takeH (i := 10) (v := ?_) rfl rfl (by kernel_rfl) (by kernel_rfl) (by kernel_rfl) (fun _ _ _ h => h) (Or.inl ⟨by kernel_rfl, ?_⟩) hS ?_
      rotate_left 1
      · (intro w' hS'; go_simp; try (with_reducible rfl))
      simp only [List.setIfInBounds_toArray, List.set_cons_succ, List.set_cons_zero]
      refine takeH (i := 11) (v := ?_) rfl rfl (by kernel_rfl) (by kernel_rfl) (by kernel_rfl) (fun _ _ _ h => h) (Or.inl ⟨by kernel_rfl, ?_⟩) hS ?_
      rotate_left 1
      · (intro w' hS'; have k1 := conv_str A4 l n c4 w' HN.out (hX4.ext (hZ.trans hS')); go_simp; try (with_reducible rfl))
      simp only [List.setIfInBounds_toArray, List.set_cons_succ, List.set_cons_zero]
      refine takeH (i := 12) (v := ?_) rfl rfl (by kernel_rfl) (by kernel_rfl) (by kernel_rfl) (fun _ _ _ h => h) (Or.inl ⟨by kernel_rfl, ?_⟩) hS ?_
      rotate_left 1
      · (intro w' hS'; go_simp; try (with_reducible rfl))
      simp only [List.setIfInBounds_toArray, List.set_cons_succ, List.set_cons_zero]
      refine takeH (i := 13) (v := ?_) rfl rfl (by kernel_rfl) (by kernel_rfl) (by kernel_rfl) (fun _ _ _ h => h) (Or.inl ⟨by kernel_rfl, ?_⟩) hS ?_
      rotate_left 1
      · (intro w' hS'; have k1 := conv_str A l n c w' HN.out (hX0.ext (hZ.trans hS')); go_simp; try (with_reducible rfl))
      simp only [List.setIfInBounds_toArray, List.set_cons_succ, List.set_cons_zero]
      refine takeH (i := 14) (v := ?_) rfl rfl (by kernel_rfl) (by kernel_rfl) (by kernel_rfl) (fun _ _ _ h => h) (Or.inl ⟨by kernel_rfl, ?_⟩) hS ?_
      rotate_left 1
      · (intro w' hS'; go_simp; try (with_reducible rfl))
      simp only [List.setIfInBounds_toArray, List.set_cons_succ, List.set_cons_zero]
      refine takeH (i := 15) (v := ?_) rfl rfl (by kernel_rfl) (by kernel_rfl) (by kernel_rfl) (fun _ _ _ h => h) (Or.inl ⟨by kernel_rfl, ?_⟩) hS ?_
      rotate_left 1
      · (intro w' hS'; go_simp; try (with_reducible rfl))
      simp only [List.setIfInBounds_toArray, List.set_cons_succ, List.set_cons_zero]
      refine takeH (i := 16) (v := ?_) rfl rfl (by kernel_rfl) (by kernel_rfl) (by kernel_rfl) (fun _ _ _ h => h) (Or.inl ⟨by kernel_rfl, ?_⟩) hS ?_
      rotate_left 1
      · (intro w' hS'; go_simp; try (with_reducible rfl))
      simp only [List.setIfInBounds_toArray, List.set_cons_succ, List.set_cons_zero]
      refine takeH (i := 17) (v := ?_) rfl rfl (by kernel_rfl) (by kernel_rfl) (by kernel_rfl) (fun _ _ _ h => h) (Or.inl ⟨by kernel_rfl, ?_⟩) hS ?_
      rotate_left 1
      · (intro w' hS'; go_simp; try (with_reducible rfl))
      simp only [List.setIfInBounds_toArray, List.set_cons_succ, List.set_cons_zero]
      refine takeH (i := 18) (v := ?_) rfl rfl (by kernel_rfl) (by kernel_rfl) (by kernel_rfl) (fun _ _ _ h => h) (Or.inl ⟨by kernel_rfl, ?_⟩) hS ?_
      rotate_left 1
      · (intro w' hS'; go_simp; try (with_reducible rfl))
      simp only [List.setIfInBounds_toArray, List.set_cons_succ, List.set_cons_zero]
      refine takeH (i := 19) (v := ?_) rfl rfl (by kernel_rfl) (by kernel_rfl) (by kernel_rfl) (fun _ _ _ h => h) (Or.inl ⟨by kernel_rfl, ?_⟩) hS ?_
      rotate_left 1
      · (intro w' hS'; go_simp; try (with_reducible rfl))
      simp only [List.setIfInBounds_toArray, List.set_cons_succ, List.set_cons_zero]
      refine takeH (i := 20) (v := ?_) rfl rfl (by kernel_rfl) (by kernel_rfl) (by kernel_rfl) (fun _ _ _ h => h) (Or.inl ⟨by kernel_rfl, ?_⟩) hS ?_
      rotate_left 1
      · (intro w' hS'; go_simp; try (with_reducible rfl))
      simp only [List.setIfInBounds_toArray, List.set_cons_succ, List.set_cons_zero]
      refine takeH (i := 21) (v := ?_) rfl rfl (by kernel_rfl) (by kernel_rfl) (by kernel_rfl) (fun _ _ _ h => h) (Or.inl ⟨by kernel_rfl, ?_⟩) hS ?_
      rotate_left 1
      · (intro w' hS'; go_simp; try (with_reducible rfl))
      simp only [List.setIfInBounds_toArray, List.set_cons_succ, List.set_cons_zero]
      refine takeH (i := 22) (v := ?_) rfl rfl (by kernel_rfl) (by kernel_rfl) (by kernel_rfl) (fun _ _ _ h => h) (Or.inl ⟨by kernel_rfl, ?_⟩) hS ?_
      rotate_left 1
      · (intro w' hS'; go_simp; try (with_reducible rfl))
      simp only [List.setIfInBounds_toArray, List.set_cons_succ, List.set_cons_zero]
      refine takeH (i := 23) (v := ?_) rfl rfl (by kernel_rfl) (by kernel_rfl) (by kernel_rfl) (fun _ _ _ h => h) (Or.inl ⟨by kernel_rfl, ?_⟩) hS ?_
      rotate_left 1
      · (intro w' hS'; have k1 := conv_str A2 l n c2 w' HN.out (hX2.ext (hZ.trans hS')); go_simp; try (with_reducible rfl))
      simp only [List.setIfInBounds_toArray, List.set_cons_succ, List.set_cons_zero]
      refine takeH (i := 24) (v := ?_) rfl rfl (by kernel_rfl) (by kernel_rfl) (by kernel_rfl) (fun _ _ _ h => h) (Or.inl ⟨by kernel_rfl, ?_⟩) hS ?_
      rotate_left 1
      · (intro w' hS'; go_simp; try (with_reducible rfl))
      simp only [List.setIfInBounds_toArray, List.set_cons_succ, List.set_cons_zero]
      refine takeH (i := 25) (v := ?_) rfl rfl (by kernel_rfl) (by kernel_rfl) (by kernel_rfl) (fun _ _ _ h => h) (Or.inl ⟨by kernel_rfl, ?_⟩) hS ?_
      rotate_left 1
      · (intro w' hS'; have k1 := conv_str A l n c w' HN.out (hX0.ext (hZ.trans hS')); go_simp; try (with_reducible rfl))
      simp only [List.setIfInBounds_toArray, List.set_cons_succ, List.set_cons_zero]
      refine takeH (i := 26) (v := ?_) rfl rfl (by kernel_rfl) (by kernel_rfl) (by kernel_rfl) (fun _ _ _ h => h) (Or.inl ⟨by kernel_rfl, ?_⟩) hS ?_
      rotate_left 1
      · (intro w' hS'; go_simp; try (with_reducible rfl))
      simp only [List.setIfInBounds_toArray, List.set_cons_succ, List.set_cons_zero]
      refine takeH (i := 27) (v := ?_) rfl rfl (by kernel_rfl) (by kernel_rfl) (by kernel_rfl) (fun _ _ _ h => h) (Or.inl ⟨by kernel_rfl, ?_⟩) hS ?_
      rotate_left 1
      · (intro w' hS'; go_simp; try (with_reducible rfl))
      simp only [List.setIfInBounds_toArray, List.set_cons_succ, List.set_cons_zero]
      refine wpAnyH_done (by kernel_rfl) ?_ _
      go_wp2
      go_ret
      exact ⟨rfl, hY.trans (hZ.trans hS)⟩
    · obtain ⟨k, hk⟩ : ∃ k, k = n - 4 := ⟨_, rfl⟩
      have hk1 : k ≤ n := by omega
      have hk2 : (n : Int) - 4 = (k : Int) := by omega
      have hk3 : ¬ n < 4 := h4
      have hd : decide ((4 : Int) ≤ (n : Int)) = true := by simp; omega
      obtain ⟨A1, s1, s2, s3, _⟩ := cut_hi A l c k (by rw [HN.out]; exact hk1) (by rw [HN.out]; exact hc)
      rw [HN.out] at s1 s2
      have HK : Hid ((l.take k).length = k) := by
        unfold Hid
        rw [List.length_take, HN.out]; omega
      have hwk : IntKind.i64.wrap (k : Int) = (k : Int) := IntWalk.i64_in _ (by omega)
      have hkn : ((k : Int) < 0) = False := by simp
      have hkc : (k : Int) ≤ (c : Int) := by omega
      have hsl0 : Hid (Mb.isSealed l = (Mb.seal_ (l.take k) == l)) := by
        unfold Hid
        rw [Mb.isSealed_iff_seal, decide_eq_true (by rw [HN.out]; omega), Bool.true_and, HN.out, ← hk, Bool.eq_iff_iff]
        simp
      have hol0 : Hid (opened l = if (Mb.seal_ (l.take k) == l) = true then l.take k else []) := by
        unfold Hid opened
        rw [hsl0.out, HN.out, ← hk]
      clear hk h4
      cases hz : (Mb.seal_ (l.take k) == l) with
      | true =>
        have hsl : Hid (Mb.isSealed l = true) := by
          unfold Hid
          rw [hsl0.out, hz]
        have hol : Hid (opened l = l.take k) := by
          unfold Hid
          rw [hol0.out, hz, if_pos rfl]
        go_enter Try.func6, Try.ntmps6
        go_wp2_with fail
        refine (f40_any _).mono ?_
        rintro e w1 ⟨rfl, hext1⟩
        go_wp2_with (at_builtin; refine wpList_copyo (w0 := w1) rfl (.tmp 18) (.tmp 19) rfl rfl rfl A n c l rfl HN.out (hx.ext hext1) (by rw [HN.out]; omega) ?_)
        intro v2 w2 hown2 hext2
        obtain ⟨A2, c2, rfl, hc2, hx2⟩ := hown2.octs_form
        rw [HN.out] at hc2 ⊢
        go_wp2_with fail
        refine (f45_n A2 l n c2 w2 HN.out (by omega) hc2 hx2).mono ?_
        rintro e w3 ⟨v3, rfl, hown3, hext3⟩
        obtain ⟨A3, c3, rfl, hc3, hx3⟩ := hown3.octs_form
        rw [HS4.out] at hc3 ⊢
        go_wp2_with fail
        refine (f46_n A3 (Mb.seal_ l) (n + 4) c3 w3 HS4.out (by omega) hc3 hx3).mono ?_
        rintro e w4 ⟨v4, rfl, hown4, hext4⟩
        rw [hop.out] at hown4
        rw [his.out]
        obtain ⟨A4, c4, rfl, hc4, hx4⟩ := hown4.octs_form
        rw [HN.out] at hc4 ⊢
        go_wp2_with fail
        refine (f46_n A2 l n c2 w4 HN.out (by omega) hc2 (hx2.ext (hext3.trans hext4))).mono ?_
        rintro e w5 ⟨v5, rfl, hown5, hext5⟩
        rw [hsl.out]
        rw [hol.out] at hown5
        obtain ⟨A5, c5, rfl, hc5, hx5⟩ := hown5.octs_form
        have hY : Ext w w5 := (((hext1.trans hext2).trans hext3).trans hext4).trans hext5
        have hX0 := hx.ext hY
        have hX2 := hx2.ext ((hext3.trans hext4).trans hext5)
        have hX3 := hx3.ext (hext4.trans hext5)
        have hX4 := hx4.ext hext5
        clear hown2 hown3 hown4 hown5 hx2 hx3 hx4 hext1 hext2 hext3 hext4 hext5 hx
        rw [HK.out] at hc5 ⊢
        have hX1 := s3 w5 hX0
        go_wp2_with fail
        refine wp_region_held_drew (S := fun w' => Ext w5 w') (by kernel_rfl) ((Ext.refl _).drew) (fun hS => ?_)
        refine takeH (i := 0) (v := ?_) rfl rfl (by kernel_rfl) (by kernel_rfl) (by kernel_rfl) (fun _ _ _ h => h) (Or.inl ⟨by kernel_rfl, ?_⟩) hS ?_
        rotate_left 1
        · (intro w' hS'; go_simp; try (with_reducible rfl))
        simp only [List.setIfInBounds_toArray, List.set_cons_succ, List.set_cons_zero]
        refine takeH (i := 1) (v := ?_) rfl rfl (by kernel_rfl) (by kernel_rfl) (by kernel_rfl) (fun _ _ _ h => h) (Or.inl ⟨by kernel_rfl, ?_⟩) hS ?_
        rotate_left 1
        · (intro w' hS'; go_simp; try (with_reducible rfl))
        simp only [List.setIfInBounds_toArray, List.set_cons_succ, List.set_cons_zero]
        refine takeH (i := 2) (v := ?_) rfl rfl (by kernel_rfl) (by kernel_rfl) (by kernel_rfl) (fun _ _ _ h => h) (Or.inl ⟨by kernel_rfl, ?_⟩) hS ?_
        rotate_left 1
        · (intro w' hS'; go_simp; try (with_reducible rfl))
        simp only [List.setIfInBounds_toArray, List.set_cons_succ, List.set_cons_zero]
        refine takeH (i := 3) (v := ?_) rfl rfl (by kernel_rfl) (by kernel_rfl) (by kernel_rfl) (fun _ _ _ h => h) (Or.inl ⟨by kernel_rfl, ?_⟩) hS ?_
        rotate_left 1
        · (intro w' hS'; go_simp; try (with_reducible rfl))
        simp only [List.setIfInBounds_toArray, List.set_cons_succ, List.set_cons_zero]
        refine takeH (i := 4) (v := ?_) rfl rfl (by kernel_rfl) (by kernel_rfl) (by kernel_rfl) (fun _ _ _ h => h) (Or.inl ⟨by kernel_rfl, ?_⟩) hS ?_
        rotate_left 1
        · (intro w' hS'; go_simp; try (with_reducible rfl))
        simp only [List.setIfInBounds_toArray, List.set_cons_succ, List.set_cons_zero]
        refine takeH (i := 5) (v := ?_) rfl rfl (by kernel_rfl) (by kernel_rfl) (by kernel_rfl) (fun _ _ _ h => h) (Or.inl ⟨by kernel_rfl, ?_⟩) hS ?_
        rotate_left 1
        · (intro w' hS'; go_simp; try (with_reducible rfl))
        simp only [List.setIfInBounds_toArray, List.set_cons_succ, List.set_cons_zero]
        refine takeH (i := 6) (v := ?_) rfl rfl (by kernel_rfl) (by kernel_rfl) (by kernel_rfl) (fun _ _ _ h => h) (Or.inl ⟨by kernel_rfl, ?_⟩) hS ?_
        rotate_left 1
        · (intro w' hS'; go_simp; try (with_reducible rfl))
        simp only [List.setIfInBounds_toArray, List.set_cons_succ, List.set_cons_zero]
        refine takeH (i := 7) (v := ?_) rfl rfl (by kernel_rfl) (by kernel_rfl) (by kernel_rfl) (fun _ _ _ h => h) (Or.inl ⟨by kernel_rfl, ?_⟩) hS ?_
        rotate_left 1
        · (intro w' hS'; go_simp; try (with_reducible rfl))
        simp only [List.setIfInBounds_toArray, List.set_cons_succ, List.set_cons_zero]
        refine takeH (i := 8) (v := ?_) rfl rfl (by kernel_rfl) (by kernel_rfl) (by kernel_rfl) (fun _ _ _ h => h) (Or.inl ⟨by kernel_rfl, ?_⟩) hS ?_
        rotate_left 1
        · (intro w' hS'; go_simp; try (with_reducible rfl))
        simp only [List.setIfInBounds_toArray, List.set_cons_succ, List.set_cons_zero]
        refine takeH (i := 9) (v := ?_) rfl rfl (by kernel_rfl) (by kernel_rfl) (by kernel_rfl) (fun _ _ _ h => h) (Or.inl ⟨by kernel_rfl, ?_⟩) hS ?_
        rotate_left 1
        · (intro w' hS'; go_simp; try (with_reducible rfl))
        simp only [List.setIfInBounds_toArray, List.set_cons_succ, List.set_cons_zero]
        refine takeH (i := 11) (v := ?_) rfl rfl (by kernel_rfl) (by kernel_rfl) (by kernel_rfl) (fun _ _ _ h => h) (Or.inl ⟨by kernel_rfl, ?_⟩) hS ?_
        rotate_left 1
        · (intro w' hS'; go_simp; try (with_reducible rfl))
        simp only [List.setIfInBounds_toArray, List.set_cons_succ, List.set_cons_zero]
        refine takeH (i := 12) (v := ?_) rfl rfl (by kernel_rfl) (by kernel_rfl) (by kernel_rfl) (fun _ _ _ h => h) (Or.inl ⟨by kernel_rfl, ?_⟩) hS ?_
        rotate_left 1
        · (intro w' hS'; have k1 := conv_str A l n c w' HN.out (hX0.ext hS'); go_simp; try (with_reducible rfl))
        simp only [List.setIfInBounds_toArray, List.set_cons_succ, List.set_cons_zero]
        refine wpAnyH_ready (rs := [10]) (by kernel_rfl) (by simp) ?_
        refine AllReadyH.cons rfl (fun K hK => ?_) ?_
        rotate_left 1
        · exact AllReadyH.nil
        go_simp
        refine (f47_n A1 (l.take k) k c _ HK.out (by omega) (hX1.ext hS)).mono ?_; rintro e w6 ⟨rfl, hext6⟩
        refine hK.out _ _ (hS.trans hext6) (fun hS => ?_)
        clear hK K
        refine takeH (i := 13) (v := ?_) rfl rfl (by kernel_rfl) (by kernel_rfl) (by kernel_rfl) (fun _ _ _ h => h) (Or.inl ⟨by kernel_rfl, ?_⟩) hS ?_
        rotate_left 1
        · (intro w' hS'; go_simp; try (with_reducible rfl))
        simp only [List.setIfInBounds_toArray, List.set_cons_succ, List.set_cons_zero]
        refine takeH (i := 14) (v := ?_) rfl rfl (by kernel_rfl) (by kernel_rfl) (by kernel_rfl) (fun _ _ _ h => h) (Or.inl ⟨by kernel_rfl, ?_⟩) hS ?_
        rotate_left 1
        · (intro w' hS'; go_simp; try (with_reducible rfl))
        simp only [List.setIfInBounds_toArray, List.set_cons_succ, List.set_cons_zero]
        refine takeH (i := 15) (v := ?_) rfl rfl (by kernel_rfl) (by kernel_rfl) (by kernel_rfl) (fun _ _ _ h => h) (Or.inl ⟨by kernel_rfl, ?_⟩) hS ?_
        rotate_left 1
        · (intro w' hS'; go_simp; try (with_reducible rfl))
        simp only [List.setIfInBounds_toArray, List.set_cons_succ, List.set_cons_zero]
        refine wpAnyH_done (by kernel_rfl) ?_ _
        have hZ := hS
        clear hS
        go_wp2_with fail
        refine wp_region_held_drew (S := fun w' => Ext w6 w') (by kernel_rfl) ((Ext.refl _).drew) (fun hS => ?_)
        refine takeH (i := 0) (v := ?_) rfl rfl (by kernel_rfl) (by kernel_rfl) (by kernel_rfl) (fun _ _ _ h => h) (Or.inl ⟨by kernel_rfl, ?_⟩) hS ?_
        rotate_left 1
        · (intro w' hS'; go_simp; try (with_reducible rfl))
        simp only [List.setIfInBounds_toArray, List.set_cons_succ, List.set_cons_zero]
        refine takeH (i := 1) (v := ?_) rfl rfl (by kernel_rfl) (by kernel_rfl) (by kernel_rfl) (fun _ _ _ h => h) (Or.inl ⟨by kernel_rfl, ?_⟩) hS ?_
        rotate_left 1
        · (intro w' hS'; have k1 := conv_str A3 (Mb.seal_ l) (n + 4) c3 w' HS4.out (hX3.ext (hZ.trans hS')); go_simp; try (with_reducible rfl))
        simp only [List.setIfInBounds_toArray, List.set_cons_succ, List.set_cons_zero]
        refine takeH (i := 2) (v := ?_) rfl rfl (by kernel_rfl) (by kernel_rfl) (by kernel_rfl) (fun _ _ _ h => h) (Or.inl ⟨by kernel_rfl, ?_⟩) hS ?_
        rotate_left 1
        · (intro w' hS'; go_simp; try (with_reducible rfl))
        simp only [List.setIfInBounds_toArray, List.set_cons_succ, List.set_cons_zero]
        refine wpAnyH_ready (rs := [3]) (by kernel_rfl) (by simp) ?_
        refine AllReadyH.cons rfl (fun K hK => ?_) ?_
        rotate_left 1
        · exact AllReadyH.nil
        go_simp
        refine (f47_n A l n c _ HN.out (by omega) (hX0.ext (hZ.trans hS))).mono ?_; rintro e w8 ⟨rfl, hext8⟩
        refine hK.out _ _ (hS.trans hext8) (fun hS => ?_)
        clear hK K
        refine takeH (i := 4) (v := ?_) rfl rfl (by kernel_rfl) (by kernel_rfl) (by kernel_rfl) (fun _ _ _ h => h) (Or.inl ⟨by kernel_rfl, ?_⟩) hS ?_
        rotate_left 1
        · (intro w' hS'; go_simp; try (with_reducible rfl))
        simp only [List.setIfInBounds_toArray, List.set_cons_succ, List.set_cons_zero]
        refine takeH (i := 5) (v := ?_) rfl rfl (by kernel_rfl) (by kernel_rfl) (by kernel_rfl) (fun _ _ _ h => h) (Or.inl ⟨by kernel_rfl, ?_⟩) hS ?_
        rotate_left 1
        · (intro w' hS'; go_simp; try (with_reducible rfl))
        simp only [List.setIfInBounds_toArray, List.set_cons_succ, List.set_cons_zero]
        refine takeH (i := 6) (v := ?_) rfl rfl (by kernel_rfl) (by kernel_rfl) (by kernel_rfl) (fun _ _ _ h => h) (Or.inl ⟨by kernel_rfl, ?_⟩) hS ?_
        rotate_left 1
        · (intro w' hS'; go_simp; try (with_reducible rfl))
        simp only [List.setIfInBounds_toArray, List.set_cons_succ, List.set_cons_zero]
        refine takeH (i := 7) (v := ?_) rfl rfl (by kernel_rfl) (by kernel_rfl) (by kernel_rfl) (fun _ _ _ h => h) (Or.inl ⟨by kernel_rfl, ?_⟩) hS ?_
        rotate_left 1
        · (intro w' hS'; go_simp; try (with_reducible rfl))
        simp only [List.setIfInBounds_toArray, List.set_cons_succ, List.set_cons_zero]
        refine takeH (i := 8) (v := ?_) rfl rfl (by kernel_rfl) (by kernel_rfl) (by kernel_rfl) (fun _ _ _ h => h) (Or.inl ⟨by kernel_rfl, ?_⟩) hS ?_
        rotate_left 1
        · (intro w' hS'; go_simp; try (with_reducible rfl))
        simp only [List.setIfInBounds_toArray, List.set_cons_succ, List.set_cons_zero]
        refine takeH (i := 9) (v := ?_) rfl rfl (by kernel_rfl) (by kernel_rfl) (by kernel_rfl) (fun _ _ _ h => h) (Or.inl ⟨by kernel_rfl, ?_⟩) hS ?_
        rotate_left 1
        · (intro w' hS'; go_simp; try (with_reducible rfl))
        simp only [List.setIfInBounds_toArray, List.set_cons_succ, List.set_cons_zero]
        refine takeH (i := 10) (v := ?_) rfl rfl (by kernel_rfl) (by kernel_rfl) (by kernel_rfl) (fun _ _ _ h => h) (Or.inl ⟨by kernel_rfl, ?_⟩) hS ?_
        rotate_left 1
        · (intro w' hS'; go_simp; try (with_reducible rfl))
        simp only [List.setIfInBounds_toArray, List.set_cons_succ, List.set_cons_zero]
        refine takeH (i := 11) (v := ?_) rfl rfl (by kernel_rfl) (by kernel_rfl) (by kernel_rfl) (fun _ _ _ h => h) (Or.inl ⟨by kernel_rfl, ?_⟩) hS ?_
        rotate_left 1
        · (intro w' hS'; have k1 := conv_str A4 l n c4 w' HN.out (hX4.ext (hZ.trans hS')); go_simp; try (with_reducible rfl))
        simp only [List.setIfInBounds_toArray, List.set_cons_succ, List.set_cons_zero]
        refine takeH (i := 12) (v := ?_) rfl rfl (by kernel_rfl) (by kernel_rfl) (by kernel_rfl) (fun _ _ _ h => h) (Or.inl ⟨by kernel_rfl, ?_⟩) hS ?_
        rotate_left 1
        · (intro w' hS'; go_simp; try (with_reducible rfl))
        simp only [List.setIfInBounds_toArray, List.set_cons_succ, List.set_cons_zero]
        refine takeH (i := 13) (v := ?_) rfl rfl (by kernel_rfl) (by kernel_rfl) (by kernel_rfl) (fun _ _ _ h => h) (Or.inl ⟨by kernel_rfl, ?_⟩) hS ?_
        rotate_left 1
        · (intro w' hS'; have k1 := conv_str A l n c w' HN.out (hX0.ext (hZ.trans hS')); go_simp; try (with_reducible rfl))
        simp only [List.setIfInBounds_toArray, List.set_cons_succ, List.set_cons_zero]
        refine takeH (i := 14) (v := ?_) rfl rfl (by kernel_rfl) (by kernel_rfl) (by kernel_rfl) (fun _ _ _ h => h) (Or.inl ⟨by kernel_rfl, ?_⟩) hS ?_
        rotate_left 1
        · (intro w' hS'; go_simp; try (with_reducible rfl))
        simp only [List.setIfInBounds_toArray, List.set_cons_succ, List.set_cons_zero]
        refine takeH (i := 15) (v := ?_) rfl rfl (by kernel_rfl) (by kernel_rfl) (by kernel_rfl) (fun _ _ _ h => h) (Or.inl ⟨by kernel_rfl, ?_⟩) hS ?_
        rotate_left 1
        · (intro w' hS'; go_simp; try (with_reducible rfl))
        simp only [List.setIfInBounds_toArray, List.set_cons_succ, List.set_cons_zero]
        refine takeH (i := 16) (v := ?_) rfl rfl (by kernel_rfl) (by kernel_rfl) (by kernel_rfl) (fun _ _ _ h => h) (Or.inl ⟨by kernel_rfl, ?_⟩) hS ?_
        rotate_left 1
        · (intro w' hS'; go_simp; try (with_reducible rfl))
        simp only [List.setIfInBounds_toArray, List.set_cons_succ, List.set_cons_zero]
        refine takeH (i := 17) (v := ?_) rfl rfl (by kernel_rfl) (by kernel_rfl) (by kernel_rfl) (fun _ _ _ h => h) (Or.inl ⟨by kernel_rfl, ?_⟩) hS ?_
        rotate_left 1
        · (intro w' hS'; go_simp; try (with_reducible rfl))
        simp only [List.setIfInBounds_toArray, List.set_cons_succ, List.set_cons_zero]
        refine takeH (i := 18) (v := ?_) rfl rfl (by kernel_rfl) (by kernel_rfl) (by kernel_rfl) (fun _ _ _ h => h) (Or.inl ⟨by kernel_rfl, ?_⟩) hS ?_
        rotate_left 1
        · (intro w' hS'; go_simp; try (with_reducible rfl))
        simp only [List.setIfInBounds_toArray, List.set_cons_succ, List.set_cons_zero]
        refine takeH (i := 19) (v := ?_) rfl rfl (by kernel_rfl) (by kernel_rfl) (by kernel_rfl) (fun _ _ _ h => h) (Or.inl ⟨by kernel_rfl, ?_⟩) hS ?_
        rotate_left 1
        · (intro w' hS'; go_simp; try (with_reducible rfl))
        simp only [List.setIfInBounds_toArray, List.set_cons_succ, List.set_cons_zero]
        refine takeH (i := 20) (v := ?_) rfl rfl (by kernel_rfl) (by kernel_rfl) (by kernel_rfl) (fun _ _ _ h => h) (Or.inl ⟨by kernel_rfl, ?_⟩) hS ?_
        rotate_left 1
        · (intro w' hS'; go_simp; try (with_reducible rfl))
        simp only [List.setIfInBounds_toArray, List.set_cons_succ, List.set_cons_zero]
        refine takeH (i := 21) (v := ?_) rfl rfl (by kernel_rfl) (by kernel_rfl) (by kernel_rfl) (fun _ _ _ h => h) (Or.inl ⟨by kernel_rfl, ?_⟩) hS ?_
        rotate_left 1
        · (intro w' hS'; go_simp; try (with_reducible rfl))
        simp only [List.setIfInBounds_toArray, List.set_cons_succ, List.set_cons_zero]
        refine takeH (i := 22) (v := ?_) rfl rfl (by kernel_rfl) (by kernel_rfl) (by kernel_rfl) (fun _ _ _ h => h) (Or.inl ⟨by kernel_rfl, ?_⟩) hS ?_
        rotate_left 1
        · (intro w' hS'; go_simp; try (with_reducible rfl))
        simp only [List.setIfInBounds_toArray, List.set_cons_succ, List.set_cons_zero]
        refine takeH (i := 23) (v := ?_) rfl rfl (by kernel_rfl) (by kernel_rfl) (by kernel_rfl) (fun _ _ _ h => h) (Or.inl ⟨by kernel_rfl, ?_⟩) hS ?_
        rotate_left 1
        · (intro w' hS'; have k1 := conv_str A2 l n c2 w' HN.out (hX2.ext (hZ.trans hS')); go_simp; try (with_reducible rfl))
        simp only [List.setIfInBounds_toArray, List.set_cons_succ, List.set_cons_zero]
        refine takeH (i := 24) (v := ?_) rfl rfl (by kernel_rfl) (by kernel_rfl) (by kernel_rfl) (fun _ _ _ h => h) (Or.inl ⟨by kernel_rfl, ?_⟩) hS ?_
        rotate_left 1
        · (intro w' hS'; go_simp; try (with_reducible rfl))
        simp only [List.setIfInBounds_toArray, List.set_cons_succ, List.set_cons_zero]
        refine takeH (i := 25) (v := ?_) rfl rfl (by kernel_rfl) (by kernel_rfl) (by kernel_rfl) (fun _ _ _ h => h) (Or.inl ⟨by kernel_rfl, ?_⟩) hS ?_
        rotate_left 1
        · (intro w' hS'; have k1 := conv_str A l n c w' HN.out (hX0.ext (hZ.trans hS')); go_simp; try (with_reducible rfl))
        simp only [List.setIfInBounds_toArray, List.set_cons_succ, List.set_cons_zero]
        refine takeH (i := 26) (v := ?_) rfl rfl (by kernel_rfl) (by kernel_rfl) (by kernel_rfl) (fun _ _ _ h => h) (Or.inl ⟨by kernel_rfl, ?_⟩) hS ?_
        rotate_left 1
        · (intro w' hS'; go_simp; try (with_reducible rfl))
        simp only [List.setIfInBounds_toArray, List.set_cons_succ, List.set_cons_zero]
        refine takeH (i := 27) (v := ?_) rfl rfl (by kernel_rfl) (by kernel_rfl) (by kernel_rfl) (fun _ _ _ h => h) (Or.inl ⟨by kernel_rfl, ?_⟩) hS ?_
        rotate_left 1
        · (intro w' hS'; go_simp; try (with_reducible rfl))
        simp only [List.setIfInBounds_toArray, List.set_cons_succ, List.set_cons_zero]
        refine wpAnyH_done (by kernel_rfl) ?_ _
        have hX5 := (hx5.ext hZ).ext hS
        have k5 := fun q => conv_str A5 (l.take k) k c5 (w8.drewN q) HK.out (hX5.drewN q)
        have k6 := fun q => conv_str A1 (l.take k) k c (w8.drewN q) HK.out (((hX1.ext hZ).ext hS).drewN q)
        go_wp2_with fail
        go_quiet (fail)
        go_wp2
        go_ret
        exact ⟨rfl, hY.trans ((hZ.trans hS).drewN _)⟩
      | false =>
        have hsl : Hid (Mb.isSealed l = false) := by
          unfold Hid
          rw [hsl0.out, hz]
        have hol : Hid (opened l = []) := by
          unfold Hid
          rw [hol0.out, hz, if_neg (by simp)]
        go_enter Try.func6, Try.ntmps6
        go_wp2_with fail
        refine (f40_any _).mono ?_
        rintro e w1 ⟨rfl, hext1⟩
        go_wp2_with (at_builtin; refine wpList_copyo (w0 := w1) rfl (.tmp 18) (.tmp 19) rfl rfl rfl A n c l rfl HN.out (hx.ext hext1) (by rw [HN.out]; omega) ?_)
        intro v2 w2 hown2 hext2
        obtain ⟨A2, c2, rfl, hc2, hx2⟩ := hown2.octs_form
        rw [HN.out] at hc2 ⊢
        go_wp2_with fail
        refine (f45_n A2 l n c2 w2 HN.out (by omega) hc2 hx2).mono ?_
        rintro e w3 ⟨v3, rfl, hown3, hext3⟩
        obtain ⟨A3, c3, rfl, hc3, hx3⟩ := hown3.octs_form
        rw [HS4.out] at hc3 ⊢
        go_wp2_with fail
        refine (f46_n A3 (Mb.seal_ l) (n + 4) c3 w3 HS4.out (by omega) hc3 hx3).mono ?_
        rintro e w4 ⟨v4, rfl, hown4, hext4⟩
        rw [hop.out] at hown4
        rw [his.out]
        obtain ⟨A4, c4, rfl, hc4, hx4⟩ := hown4.octs_form
        rw [HN.out] at hc4 ⊢
        go_wp2_with fail
        refine (f46_n A2 l n c2 w4 HN.out (by omega) hc2 (hx2.ext (hext3.trans hext4))).mono ?_
        rintro e w5 ⟨v5, rfl, hown5, hext5⟩
        rw [hsl.out]
        rw [hol.out] at hown5
        obtain ⟨A5, c5, rfl, hc5, hx5⟩ := hown5.octs_form
        have hY : Ext w w5 := (((hext1.trans hext2).trans hext3).trans hext4).trans hext5
        have hX0 := hx.ext hY
        have hX2 := hx2.ext ((hext3.trans hext4).trans hext5)
        have hX3 := hx3.ext (hext4.trans hext5)
        have hX4 := hx4.ext hext5
        clear hown2 hown3 hown4 hown5 hx2 hx3 hx4 hext1 hext2 hext3 hext4 hext5 hx
        have hX1 := s3 w5 hX0
        go_wp2_with fail
        refine wp_region_held_drew (S := fun w' => Ext w5 w') (by kernel_rfl) ((Ext.refl _).drew) (fun hS => ?_)
        refine takeH (i := 0) (v := ?_) rfl rfl (by kernel_rfl) (by kernel_rfl) (by kernel_rfl) (fun _ _ _ h => h) (Or.inl ⟨by kernel_rfl, ?_⟩) hS ?_
        rotate_left 1
        · (intro w' hS'; go_simp; try (with_reducible rfl))
        simp only [List.setIfInBounds_toArray, List.set_cons_succ, List.set_cons_zero]
        refine takeH (i := 1) (v := ?_) rfl rfl (by kernel_rfl) (by kernel_rfl) (by kernel_rfl) (fun _ _ _ h => h) (Or.inl ⟨by kernel_rfl, ?_⟩) hS ?_
        rotate_left 1
        · (intro w' hS'; go_simp; try (with_reducible rfl))
        simp only [List.setIfInBounds_toArray, List.set_cons_succ, List.set_cons_zero]
        refine takeH (i := 2) (v := ?_) rfl rfl (by kernel_rfl) (by kernel_rfl) (by kernel_rfl) (fun _ _ _ h => h) (Or.inl ⟨by kernel_rfl, ?_⟩) hS ?_
        rotate_left 1
        · (intro w' hS'; go_simp; try (with_reducible rfl))
        simp only [List.setIfInBounds_toArray, List.set_cons_succ, List.set_cons_zero]
        refine takeH (i := 3) (v := ?_) rfl rfl (by kernel_rfl) (by kernel_rfl) (by kernel_rfl) (fun _ _ _ h => h) (Or.inl ⟨by kernel_rfl, ?_⟩) hS ?_
        rotate_left 1
        · (intro w' hS'; go_simp; try (with_reducible rfl))
        simp only [List.setIfInBounds_toArray, List.set_cons_succ, List.set_cons_zero]
        refine takeH (i := 4) (v := ?_) rfl rfl (by kernel_rfl) (by kernel_rfl) (by kernel_rfl) (fun _ _ _ h => h) (Or.inl ⟨by kernel_rfl, ?_⟩) hS ?_
        rotate_left 1
        · (intro w' hS'; go_simp; try (with_reducible rfl))
        simp only [List.setIfInBounds_toArray, List.set_cons_succ, List.set_cons_zero]
        refine takeH (i := 5) (v := ?_) rfl rfl (by kernel_rfl) (by kernel_rfl) (by kernel_rfl) (fun _ _ _ h => h) (Or.inl ⟨by kernel_rfl, ?_⟩) hS ?_
        rotate_left 1
        · (intro w' hS'; go_simp; try (with_reducible rfl))
        simp only [List.setIfInBounds_toArray, List.set_cons_succ, List.set_cons_zero]
        refine takeH (i := 6) (v := ?_) rfl rfl (by kernel_rfl) (by kernel_rfl) (by kernel_rfl) (fun _ _ _ h => h) (Or.inl ⟨by kernel_rfl, ?_⟩) hS ?_
        rotate_left 1
        · (intro w' hS'; go_simp; try (with_reducible rfl))
        simp only [List.setIfInBounds_toArray, List.set_cons_succ, List.set_cons_zero]
        refine takeH (i := 7) (v := ?_) rfl rfl (by kernel_rfl) (by kernel_rfl) (by kernel_rfl) (fun _ _ _ h => h) (Or.inl ⟨by kernel_rfl, ?_⟩) hS ?_
        rotate_left 1
        · (intro w' hS'; go_simp; try (with_reducible rfl))
        simp only [List.setIfInBounds_toArray, List.set_cons_succ, List.set_cons_zero]
        refine takeH (i := 8) (v := ?_) rfl rfl (by kernel_rfl) (by kernel_rfl) (by kernel_rfl) (fun _ _ _ h => h) (Or.inl ⟨by kernel_rfl, ?_⟩) hS ?_
        rotate_left 1
        · (intro w' hS'; go_simp; try (with_reducible rfl))
        simp only [List.setIfInBounds_toArray, List.set_cons_succ, List.set_cons_zero]
        refine takeH (i := 9) (v := ?_) rfl rfl (by kernel_rfl) (by kernel_rfl) (by kernel_rfl) (fun _ _ _ h => h) (Or.inl ⟨by kernel_rfl, ?_⟩) hS ?_
        rotate_left 1
        · (intro w' hS'; go_simp; try (with_reducible rfl))
        simp only [List.setIfInBounds_toArray, List.set_cons_succ, List.set_cons_zero]
        refine takeH (i := 11) (v := ?_) rfl rfl (by kernel_rfl) (by kernel_rfl) (by kernel_rfl) (fun _ _ _ h => h) (Or.inl ⟨by kernel_rfl, ?_⟩) hS ?_
        rotate_left 1
        · (intro w' hS'; go_simp; try (with_reducible rfl))
        simp only [List.setIfInBounds_toArray, List.set_cons_succ, List.set_cons_zero]
        refine takeH (i := 12) (v := ?_) rfl rfl (by kernel_rfl) (by kernel_rfl) (by kernel_rfl) (fun _ _ _ h => h) (Or.inl ⟨by kernel_rfl, ?_⟩) hS ?_
        rotate_left 1
        · (intro w' hS'; have k1 := conv_str A l n c w' HN.out (hX0.ext hS'); go_simp; try (with_reducible rfl))
        simp only [List.setIfInBounds_toArray, List.set_cons_succ, List.set_cons_zero]
        refine wpAnyH_ready (rs := [10]) (by kernel_rfl) (by simp) ?_
        refine AllReadyH.cons rfl (fun K hK => ?_) ?_
        rotate_left 1
        · exact AllReadyH.nil
        go_simp
        refine (f47_n A1 (l.take k) k c _ HK.out (by omega) (hX1.ext hS)).mono ?_; rintro e w6 ⟨rfl, hext6⟩
        refine hK.out _ _ (hS.trans hext6) (fun hS => ?_)
        clear hK K
        refine takeH (i := 13) (v := ?_) rfl rfl (by kernel_rfl) (by kernel_rfl) (by kernel_rfl) (fun _ _ _ h => h) (Or.inl ⟨by kernel_rfl, ?_⟩) hS ?_
        rotate_left 1
        · (intro w' hS'; go_simp; try (with_reducible rfl))
        simp only [List.setIfInBounds_toArray, List.set_cons_succ, List.set_cons_zero]
        refine takeH (i := 14) (v := ?_) rfl rfl (by kernel_rfl) (by kernel_rfl) (by kernel_rfl) (fun _ _ _ h => h) (Or.inl ⟨by kernel_rfl, ?_⟩) hS ?_
        rotate_left 1
        · (intro w' hS'; go_simp; try (with_reducible rfl))
        simp only [List.setIfInBounds_toArray, List.set_cons_succ, List.set_cons_zero]
        refine takeH (i := 15) (v := ?_) rfl rfl (by kernel_rfl) (by kernel_rfl) (by kernel_rfl) (fun _ _ _ h => h) (Or.inl ⟨by kernel_rfl, ?_⟩) hS ?_
        rotate_left 1
        · (intro w' hS'; go_simp; try (with_reducible rfl))
        simp only [List.setIfInBounds_toArray, List.set_cons_succ, List.set_cons_zero]
        refine wpAnyH_done (by kernel_rfl) ?_ _
        have hZ := hS
        clear hS
        go_wp2_with fail
        refine wp_region_held_drew (S := fun w' => Ext w6 w') (by kernel_rfl) ((Ext.refl _).drew) (fun hS => ?_)
        refine takeH (i := 0) (v := ?_) rfl rfl (by kernel_rfl) (by kernel_rfl) (by kernel_rfl) (fun _ _ _ h => h) (Or.inl ⟨by kernel_rfl, ?_⟩) hS ?_
        rotate_left 1
        · (intro w' hS'; go_simp; try (with_reducible rfl))
        simp only [List.setIfInBounds_toArray, List.set_cons_succ, List.set_cons_zero]
        refine takeH (i := 1) (v := ?_) rfl rfl (by kernel_rfl) (by kernel_rfl) (by kernel_rfl) (fun _ _ _ h => h) (Or.inl ⟨by kernel_rfl, ?_⟩) hS ?_
        rotate_left 1
        · (intro w' hS'; have k1 := conv_str A3 (Mb.seal_ l) (n + 4) c3 w' HS4.out (hX3.ext (hZ.trans hS')); go_simp; try (with_reducible rfl))
        simp only [List.setIfInBounds_toArray, List.set_cons_succ, List.set_cons_zero]
        refine takeH (i := 2) (v := ?_) rfl rfl (by kernel_rfl) (by kernel_rfl) (by kernel_rfl) (fun _ _ _ h => h) (Or.inl ⟨by kernel_rfl, ?_⟩) hS ?_
        rotate_left 1
        · (intro w' hS'; go_simp; try (with_reducible rfl))
        simp only [List.setIfInBounds_toArray, List.set_cons_succ, List.set_cons_zero]
        refine wpAnyH_ready (rs := [3]) (by kernel_rfl) (by simp) ?_
        refine AllReadyH.cons rfl (fun K hK => ?_) ?_
        rotate_left 1
        · exact AllReadyH.nil
        go_simp
        refine (f47_n A l n c _ HN.out (by omega) (hX0.ext (hZ.trans hS))).mono ?_; rintro e w8 ⟨rfl, hext8⟩
        refine hK.out _ _ (hS.trans hext8) (fun hS => ?_)
        clear hK K
        refine takeH (i := 4) (v := ?_) rfl rfl (by kernel_rfl) (by kernel_rfl) (by kernel_rfl) (fun _ _ _ h => h) (Or.inl ⟨by kernel_rfl, ?_⟩) hS ?_
        rotate_left 1
        · (intro w' hS'; go_simp; try (with_reducible rfl))
        simp only [List.setIfInBounds_toArray, List.set_cons_succ, List.set_cons_zero]
        refine takeH (i := 5) (v := ?_) rfl rfl (by kernel_rfl) (by kernel_rfl) (by kernel_rfl) (fun _ _ _ h => h) (Or.inl ⟨by kernel_rfl, ?_⟩) hS ?_
        rotate_left 1
        · (intro w' hS'; go_simp; try (with_reducible rfl))
        simp only [List.setIfInBounds_toArray, List.set_cons_succ, List.set_cons_zero]
        refine takeH (i := 6) (v := ?_) rfl rfl (by kernel_rfl) (by kernel_rfl) (by kernel_rfl) (fun _ _ _ h => h) (Or.inl ⟨by kernel_rfl, ?_⟩) hS ?_
        rotate_left 1
        · (intro w' hS'; go_simp; try (with_reducible rfl))
        simp only [List.setIfInBounds_toArray, List.set_cons_succ, List.set_cons_zero]
        refine takeH (i := 7) (v := ?_) rfl rfl (by kernel_rfl) (by kernel_rfl) (by kernel_rfl) (fun _ _ _ h => h) (Or.inl ⟨by kernel_rfl, ?_⟩) hS ?_
        rotate_left 1
        · (intro w' hS'; go_simp; try (with_reducible rfl))
        simp only [List.setIfInBounds_toArray, List.set_cons_succ, List.set_cons_zero]
        refine takeH (i := 8) (v := ?_) rfl rfl (by kernel_rfl) (by kernel_rfl) (by kernel_rfl) (fun _ _ _ h => h) (Or.inl ⟨by kernel_rfl, ?_⟩) hS ?_
        rotate_left 1
        · (intro w' hS'; go_simp; try (with_reducible rfl))
        simp only [List.setIfInBounds_toArray, List.set_cons_succ, List.set_cons_zero]
        refine takeH (i := 9) (v := ?_) rfl rfl (by kernel_rfl) (by kernel_rfl) (by kernel_rfl) (fun _ _ _ h => h) (Or.inl ⟨by kernel_rfl, ?_⟩) hS ?_
        rotate_left 1
        · (intro w' hS'; go_simp; try (with_reducible rfl))
        simp only [List.setIfInBounds_toArray, List.set_cons_succ, List.set_cons_zero]
        refine takeH (i := 10) (v := ?_) rfl rfl (by kernel_rfl) (by kernel_rfl) (by kernel_rfl) (fun _ _ _ h => h) (Or.inl ⟨by kernel_rfl, ?_⟩) hS ?_
        rotate_left 1
        · (intro w' hS'; go_simp; try (with_reducible rfl))
        simp only [List.setIfInBounds_toArray, List.set_cons_succ, List.set_cons_zero]
        refine takeH (i := 11) (v := ?_) rfl rfl (by kernel_rfl) (by kernel_rfl) (by kernel_rfl) (fun _ _ _ h => h) (Or.inl ⟨by kernel_rfl, ?_⟩) hS ?_
        rotate_left 1
        · (intro w' hS'; have k1 := conv_str A4 l n c4 w' HN.out (hX4.ext (hZ.trans hS')); go_simp; try (with_reducible rfl))
        simp only [List.setIfInBounds_toArray, List.set_cons_succ, List.set_cons_zero]
        refine takeH (i := 12) (v := ?_) rfl rfl (by kernel_rfl) (by kernel_rfl) (by kernel_rfl) (fun _ _ _ h => h) (Or.inl ⟨by kernel_rfl, ?_⟩) hS ?_
        rotate_left 1
        · (intro w' hS'; go_simp; try (with_reducible rfl))
        simp only [List.setIfInBounds_toArray, List.set_cons_succ, List.set_cons_zero]
        refine takeH (i := 13) (v := ?_) rfl rfl (by kernel_rfl) (by kernel_rfl) (by kernel_rfl) (fun _ _ _ h => h) (Or.inl ⟨by kernel_rfl, ?_⟩) hS ?_
        rotate_left 1
        · (intro w' hS'; have k1 := conv_str A l n c w' HN.out (hX0.ext (hZ.trans hS')); go_simp; try (with_reducible rfl))
        simp only [List.setIfInBounds_toArray, List.set_cons_succ, List.set_cons_zero]
        refine takeH (i := 14) (v := ?_) rfl rfl (by kernel_rfl) (by kernel_rfl) (by kernel_rfl) (fun _ _ _ h => h) (Or.inl ⟨by kernel_rfl, ?_⟩) hS ?_
        rotate_left 1
        · (intro w' hS'; go_simp; try (with_reducible rfl))
        simp only [List.setIfInBounds_toArray, List.set_cons_succ, List.set_cons_zero]
        refine takeH (i := 15) (v := ?_) rfl rfl (by kernel_rfl) (by kernel_rfl) (by kernel_rfl) (fun _ _ _ h => h) (Or.inl ⟨by kernel_rfl, ?_⟩) hS ?_
        rotate_left 1
        · (intro w' hS'; go_simp; try (with_reducible rfl))
        simp only [List.setIfInBounds_toArray, List.set_cons_succ, List.set_cons_zero]
        refine takeH (i := 16) (v := ?_) rfl rfl (by kernel_rfl) (by kernel_rfl) (by kernel_rfl) (fun _ _ _ h => h) (Or.inl ⟨by kernel_rfl, ?_⟩) hS ?_
        rotate_left 1
        · (intro w' hS'; go_simp; try (with_reducible rfl))
        simp only [List.setIfInBounds_toArray, List.set_cons_succ, List.set_cons_zero]
        refine takeH (i := 17) (v := ?_) rfl rfl (by kernel_rfl) (by kernel_rfl) (by kernel_rfl) (fun _ _ _ h => h) (Or.inl ⟨by kernel_rfl, ?_⟩) hS ?_
        rotate_left 1
        · (intro w' hS'; go_simp; try (with_reducible rfl))
        simp only [List.setIfInBounds_toArray, List.set_cons_succ, List.set_cons_zero]
        refine takeH (i := 18) (v := ?_) rfl rfl (by kernel_rfl) (by kernel_rfl) (by kernel_rfl) (fun _ _ _ h => h) (Or.inl ⟨by kernel_rfl, ?_⟩) hS ?_
        rotate_left 1
        · (intro w' hS'; go_simp; try (with_reducible rfl))
        simp only [List.setIfInBounds_toArray, List.set_cons_succ, List.set_cons_zero]
        refine takeH (i := 19) (v := ?_) rfl rfl (by kernel_rfl) (by kernel_rfl) (by kernel_rfl) (fun _ _ _ h => h) (Or.inl ⟨by kernel_rfl, ?_⟩) hS ?_
        rotate_left 1
        · (intro w' hS'; go_simp; try (with_reducible rfl))
        simp only [List.setIfInBounds_toArray, List.set_cons_succ, List.set_cons_zero]
        refine takeH (i := 20) (v := ?_) rfl rfl (by kernel_rfl) (by kernel_rfl) (by kernel_rfl) (fun _ _ _ h => h) (Or.inl ⟨by kernel_rfl, ?_⟩) hS ?_
        rotate_left 1
        · (intro w' hS'; go_simp; try (with_reducible rfl))
        simp only [List.setIfInBounds_toArray, List.set_cons_succ, List.set_cons_zero]
        refine takeH (i := 21) (v := ?_) rfl rfl (by kernel_rfl) (by kernel_rfl) (by kernel_rfl) (fun _ _ _ h => h) (Or.inl ⟨by kernel_rfl, ?_⟩) hS ?_
        rotate_left 1
        · (intro w' hS'; go_simp; try (with_reducible rfl))
        simp only [List.setIfInBounds_toArray, List.set_cons_succ, List.set_cons_zero]
        refine takeH (i := 22) (v := ?_) rfl rfl (by kernel_rfl) (by kernel_rfl) (by kernel_rfl) (fun _ _ _ h => h) (Or.inl ⟨by kernel_rfl, ?_⟩) hS ?_
        rotate_left 1
        · (intro w' hS'; go_simp; try (with_reducible rfl))
        simp only [List.setIfInBounds_toArray, List.set_cons_succ, List.set_cons_zero]
        refine takeH (i := 23) (v := ?_) rfl rfl (by kernel_rfl) (by kernel_rfl) (by kernel_rfl) (fun _ _ _ h => h) (Or.inl ⟨by kernel_rfl, ?_⟩) hS ?_
        rotate_left 1
        · (intro w' hS'; have k1 := conv_str A2 l n c2 w' HN.out (hX2.ext (hZ.trans hS')); go_simp; try (with_reducible rfl))
        simp only [List.setIfInBounds_toArray, List.set_cons_succ, List.set_cons_zero]
        refine takeH (i := 24) (v := ?_) rfl rfl (by kernel_rfl) (by kernel_rfl) (by kernel_rfl) (fun _ _ _ h => h) (Or.inl ⟨by kernel_rfl, ?_⟩) hS ?_
        rotate_left 1
        · (intro w' hS'; go_simp; try (with_reducible rfl))
        simp only [List.setIfInBounds_toArray, List.set_cons_succ, List.set_cons_zero]
        refine takeH (i := 25) (v := ?_) rfl rfl (by kernel_rfl) (by kernel_rfl) (by kernel_rfl) (fun _ _ _ h => h) (Or.inl ⟨by kernel_rfl, ?_⟩) hS ?_
        rotate_left 1
        · (intro w' hS'; have k1 := conv_str A l n c w' HN.out (hX0.ext (hZ.trans hS')); go_simp; try (with_reducible rfl))
        simp only [List.setIfInBounds_toArray, List.set_cons_succ, List.set_cons_zero]
        refine takeH (i := 26) (v := ?_) rfl rfl (by kernel_rfl) (by kernel_rfl) (by kernel_rfl) (fun _ _ _ h => h) (Or.inl ⟨by kernel_rfl, ?_⟩) hS ?_
        rotate_left 1
        · (intro w' hS'; go_simp; try (with_reducible rfl))
        simp only [List.setIfInBounds_toArray, List.set_cons_succ, List.set_cons_zero]
        refine takeH (i := 27) (v := ?_) rfl rfl (by kernel_rfl) (by kernel_rfl) (by kernel_rfl) (fun _ _ _ h => h) (Or.inl ⟨by kernel_rfl, ?_⟩) hS ?_
        rotate_left 1
        · (intro w' hS'; go_simp; try (with_reducible rfl))
        simp only [List.setIfInBounds_toArray, List.set_cons_succ, List.set_cons_zero]
        refine wpAnyH_done (by kernel_rfl) ?_ _
        go_wp2
        go_ret
        exact ⟨rfl, hY.trans (hZ.trans hS)⟩
end Go.Proofs.Ytmnlfpkciecbpaa
