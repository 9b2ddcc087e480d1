/- What is sealed twice is opened twice: the law's walk. -/
import Derived.Test.YtmnlfpkciecbpaaAppo
import Derived.Test.YtmnlfpkciecbpaaConv
import Derived.Test.YtmnlfpkciecbpaaLaw02a
import Derived.Test.YtmnlfpkciecbpaaReg
import Derived.RegionTactic
import Derived.Deep.QuietTactic
import Derived.BigQuiet
namespace Go.Proofs.Ytmnlfpkciecbpaa
open Go.RowKit
open Go.Proofs

theorem opened_seal2 (l : List UInt8) : opened (Mb.seal_ l) = l := by
  unfold opened
  rw [if_pos (Mb.isSealed_seal l), Mb.take_seal]

set_option maxRecDepth 100000 in
set_option maxHeartbeats 1000000 in
theorem f8_walk (A : Option Addr) (l : List UInt8) (n c : Nat) (w : World) (hn : l.length = n) (hm : n ≤ 9223372036854775807) (hc : n ≤ c) (hx : Octs w A l) :
    Calls Try.prog 8 #[.slice A n c] w fun e w' => e = .returned (.bool true) ∧ Ext w w' := by
  have HN := Lib.hid hn
  by_cases h6 : 500 < n
  · clear hn
    go_enter Try.func8, Try.ntmps8
    go_wp2_with fail
    refine (f40_any _).mono ?_
    rintro e w1 ⟨rfl, hext1⟩
    go_wp2_with fail
    refine (f40_any _).mono ?_
    rintro e w2 ⟨rfl, hext2⟩
    go_wp2
    go_ret
    exact ⟨rfl, hext1.trans hext2⟩
  · have h500 : n ≤ 500 := by omega
    obtain ⟨r, hr⟩ : ∃ r, Mb.seal_ l = r := ⟨_, rfl⟩
    obtain ⟨s, hs⟩ : ∃ s, Mb.seal_ r = s := ⟨_, rfl⟩
    obtain ⟨q, hq⟩ : ∃ q, q = n + 4 := ⟨_, rfl⟩
    obtain ⟨m, hmm⟩ : ∃ m, m = n + 8 := ⟨_, rfl⟩
    obtain ⟨d, hd⟩ : ∃ d, d = m + m := ⟨_, rfl⟩
    obtain ⟨p, hp⟩ : ∃ p, p = d - 4 := ⟨_, rfl⟩
    have hq1 : r.length = q := by rw [← hr, Mb.seal_length, hn, hq]
    have hm1 : s.length = m := by rw [← hs, Mb.seal_length, hq1, hq, hmm]
    have hd1 : (s ++ s).length = d := by rw [List.length_append, hm1, hd]
    have hp1 : ((s ++ s).take p).length = p := by rw [List.length_take, hd1]; omega
    have HQ := Lib.hid hq1
    have HM := Lib.hid hm1
    have HSS := Lib.hid hd1
    have HP := Lib.hid hp1
    have ho1 : Hid (opened s = r) := by unfold Hid; rw [← hs]; exact opened_seal2 r
    have ho2 : Hid (opened r = l) := by unfold Hid; rw [← hr]; exact opened_seal2 l
    have hi1 : Hid (Mb.isSealed s = true) := by unfold Hid; rw [← hs]; exact Mb.isSealed_seal r
    have hi2 : Hid (Mb.isSealed r = true) := by unfold Hid; rw [← hr]; exact Mb.isSealed_seal l
    have hi3 : Hid (Mb.isSealed (s ++ s) = (Mb.seal_ ((s ++ s).take p) == (s ++ s))) := by
      unfold Hid
      rw [Mb.isSealed_iff_seal, decide_eq_true (by rw [hd1]; omega), Bool.true_and, hd1, ← hp, Bool.eq_iff_iff]
      simp
    have HR := Lib.hid hr
    have HS := Lib.hid hs
    have hb1 : n ≤ 500 ∧ q ≤ 600 ∧ m ≤ 600 ∧ d ≤ 1200 ∧ p ≤ 1200 := by omega
    obtain ⟨b1, b2, b3, b4, b5⟩ := hb1
    have hw1 : (n : Int) + 8 = (m : Int) := by omega
    have hw2 : IntKind.i64.wrap (m : Int) = (m : Int) := IntWalk.i64_in _ (by omega)
    have hw3 : 2 * (m : Int) = (d : Int) := by omega
    have hw4 : IntKind.i64.wrap (d : Int) = (d : Int) := IntWalk.i64_in _ (by omega)
    have hw5 : (d : Int) - 4 = (p : Int) := by omega
    have hw6 : IntKind.i64.wrap (p : Int) = (p : Int) := IntWalk.i64_in _ (by omega)
    clear hn h6 hm hq hmm hd hp hq1 hm1 hd1 hp1 hr hs
    go_enter Try.func8, Try.ntmps8
    go_wp2_with fail
    refine (f40_any _).mono ?_
    rintro e w1 ⟨rfl, hext1⟩
    go_wp2_with fail
    refine (f45_n A l n c w1 HN.out (by omega) hc (hx.ext hext1)).mono ?_
    rintro e w2 ⟨v2, rfl, hown2, hext2⟩
    rw [HR.out] at hown2
    obtain ⟨A1, c1, rfl, hc1, hx1⟩ := hown2.octs_form
    rw [HQ.out] at hc1 ⊢
    go_wp2_with fail
    refine (f45_n A1 r q c1 w2 HQ.out (by omega) hc1 hx1).mono ?_
    rintro e w3 ⟨v3, rfl, hown3, hext3⟩
    rw [HS.out] at hown3
    obtain ⟨A2, c2, rfl, hc2, hx2⟩ := hown3.octs_form
    rw [HM.out] at hc2 ⊢
    go_wp2_with fail
    refine (f46_n A2 s m c2 w3 HM.out (by omega) hc2 hx2).mono ?_
    rintro e w4 ⟨v4, rfl, hown4, hext4⟩
    rw [ho1.out] at hown4
    rw [hi1.out]
    obtain ⟨A3, c3, rfl, hc3, hx3⟩ := hown4.octs_form
    rw [HQ.out] at hc3 ⊢
    go_wp2_with fail
    refine (f46_n A3 r q c3 w4 HQ.out (by omega) hc3 hx3).mono ?_
    rintro e w5 ⟨v5, rfl, hown5, hext5⟩
    rw [ho2.out] at hown5
    rw [hi2.out]
    obtain ⟨A4, c4, rfl, hc4, hx4⟩ := hown5.octs_form
    rw [HN.out] at hc4 ⊢
    have hY : Ext w w5 := (((hext1.trans hext2).trans hext3).trans hext4).trans hext5
    have hX0 := hx.ext hY
    have hX2 := hx2.ext (hext4.trans hext5)
    have hX4 := hx4
    clear hown2 hown3 hown4 hown5 hx1 hx2 hx3 hx4 hext1 hext2 hext3 hext4 hext5 hx
    go_wp2_with (at_builtin; refine wpList_copyo (w0 := w5) rfl (.tmp 32) (.tmp 33) rfl rfl rfl A2 m c2 s rfl HM.out hX2 (by rw [HM.out]; omega) ?_)
    intro v6 w6 hown6 hext6
    go_wp2_with (at_builtin; refine wpList_appo rfl (.tmp 34) (.tmp 35) rfl w5.heap.size _ s rfl hown6 A2 m c2 s rfl HM.out (hX2.ext hext6) (by rw [HM.out]; omega) hext6.size ?_)
    intro v7 w6' hown7 hg7 hb7
    have hext7 : Ext w5 w6' := hext6.grown hg7 (fun b hb => (hown6.block b hb).1)
    obtain ⟨A5, c5, rfl, hc5, hx5⟩ := hown7.octs_form
    rw [HSS.out] at hc5 ⊢
    go_wp2_with fail
    refine (f46_n A5 (s ++ s) d c5 w6' HSS.out (by omega) hc5 hx5).mono ?_
    rintro e w7 ⟨v8, rfl, hown8, hext8⟩
    rw [hi3.out]
    have hZ := hext7.trans hext8
    have hY7 := hY.trans hZ
    replace hX0 := hX0.ext hZ
    replace hX2 := hX2.ext hZ
    replace hX4 := hX4.ext hZ
    obtain ⟨A6, c6, rfl, hc6, hx6⟩ := hown8.octs_form
    clear hown6 hown7 hown8 hx5 hx6 hext6 hext7 hext8 hg7 hb7 hZ hY
    go_wp2_with fail
    refine wp_region_held_drew (S := fun w' => Ext w7 w') (by kernel_rfl) ((Ext.refl _).drew) (fun hS => ?_)
    refine takeH (i := 0) (v := ?_) rfl rfl (by kernel_rfl) (by kernel_rfl) (by kernel_rfl) (fun _ _ _ h => h) (Or.inl ⟨by kernel_rfl, ?_⟩) hS ?_
    rotate_left 1
    · (intro w' hS'; go_simp; try (with_reducible rfl))
    simp only [List.setIfInBounds_toArray, List.set_cons_succ, List.set_cons_zero]
    refine takeH (i := 1) (v := ?_) rfl rfl (by kernel_rfl) (by kernel_rfl) (by kernel_rfl) (fun _ _ _ h => h) (Or.inl ⟨by kernel_rfl, ?_⟩) hS ?_
    rotate_left 1
    · (intro w' hS'; go_simp; try (with_reducible rfl))
    simp only [List.setIfInBounds_toArray, List.set_cons_succ, List.set_cons_zero]
    refine takeH (i := 2) (v := ?_) rfl rfl (by kernel_rfl) (by kernel_rfl) (by kernel_rfl) (fun _ _ _ h => h) (Or.inl ⟨by kernel_rfl, ?_⟩) hS ?_
    rotate_left 1
    · (intro w' hS'; go_simp; try (with_reducible rfl))
    simp only [List.setIfInBounds_toArray, List.set_cons_succ, List.set_cons_zero]
    refine takeH (i := 3) (v := ?_) rfl rfl (by kernel_rfl) (by kernel_rfl) (by kernel_rfl) (fun _ _ _ h => h) (Or.inl ⟨by kernel_rfl, ?_⟩) hS ?_
    rotate_left 1
    · (intro w' hS'; go_simp; try (with_reducible rfl))
    simp only [List.setIfInBounds_toArray, List.set_cons_succ, List.set_cons_zero]
    refine takeH (i := 4) (v := ?_) rfl rfl (by kernel_rfl) (by kernel_rfl) (by kernel_rfl) (fun _ _ _ h => h) (Or.inl ⟨by kernel_rfl, ?_⟩) hS ?_
    rotate_left 1
    · (intro w' hS'; go_simp; try (with_reducible rfl))
    simp only [List.setIfInBounds_toArray, List.set_cons_succ, List.set_cons_zero]
    refine takeH (i := 5) (v := ?_) rfl rfl (by kernel_rfl) (by kernel_rfl) (by kernel_rfl) (fun _ _ _ h => h) (Or.inl ⟨by kernel_rfl, ?_⟩) hS ?_
    rotate_left 1
    · (intro w' hS'; go_simp; try (with_reducible rfl))
    simp only [List.setIfInBounds_toArray, List.set_cons_succ, List.set_cons_zero]
    refine takeH (i := 6) (v := ?_) rfl rfl (by kernel_rfl) (by kernel_rfl) (by kernel_rfl) (fun _ _ _ h => h) (Or.inl ⟨by kernel_rfl, ?_⟩) hS ?_
    rotate_left 1
    · (intro w' hS'; have k1 := conv_str A4 l n c4 w' HN.out (hX4.ext hS'); go_simp; try (with_reducible rfl))
    simp only [List.setIfInBounds_toArray, List.set_cons_succ, List.set_cons_zero]
    refine takeH (i := 7) (v := ?_) rfl rfl (by kernel_rfl) (by kernel_rfl) (by kernel_rfl) (fun _ _ _ h => h) (Or.inl ⟨by kernel_rfl, ?_⟩) hS ?_
    rotate_left 1
    · (intro w' hS'; go_simp; try (with_reducible rfl))
    simp only [List.setIfInBounds_toArray, List.set_cons_succ, List.set_cons_zero]
    refine takeH (i := 8) (v := ?_) rfl rfl (by kernel_rfl) (by kernel_rfl) (by kernel_rfl) (fun _ _ _ h => h) (Or.inl ⟨by kernel_rfl, ?_⟩) hS ?_
    rotate_left 1
    · (intro w' hS'; have k1 := conv_str A l n c w' HN.out (hX0.ext hS'); go_simp; try (with_reducible rfl))
    simp only [List.setIfInBounds_toArray, List.set_cons_succ, List.set_cons_zero]
    refine takeH (i := 9) (v := ?_) rfl rfl (by kernel_rfl) (by kernel_rfl) (by kernel_rfl) (fun _ _ _ h => h) (Or.inl ⟨by kernel_rfl, ?_⟩) hS ?_
    rotate_left 1
    · (intro w' hS'; go_simp; try (with_reducible rfl))
    simp only [List.setIfInBounds_toArray, List.set_cons_succ, List.set_cons_zero]
    refine takeH (i := 10) (v := ?_) rfl rfl (by kernel_rfl) (by kernel_rfl) (by kernel_rfl) (fun _ _ _ h => h) (Or.inl ⟨by kernel_rfl, ?_⟩) hS ?_
    rotate_left 1
    · (intro w' hS'; go_simp; try (with_reducible rfl))
    simp only [List.setIfInBounds_toArray, List.set_cons_succ, List.set_cons_zero]
    refine takeH (i := 11) (v := ?_) rfl rfl (by kernel_rfl) (by kernel_rfl) (by kernel_rfl) (fun _ _ _ h => h) (Or.inl ⟨by kernel_rfl, ?_⟩) hS ?_
    rotate_left 1
    · (intro w' hS'; go_simp; try (with_reducible rfl))
    simp only [List.setIfInBounds_toArray, List.set_cons_succ, List.set_cons_zero]
    refine takeH (i := 12) (v := ?_) rfl rfl (by kernel_rfl) (by kernel_rfl) (by kernel_rfl) (fun _ _ _ h => h) (Or.inl ⟨by kernel_rfl, ?_⟩) hS ?_
    rotate_left 1
    · (intro w' hS'; go_simp; try (with_reducible rfl))
    simp only [List.setIfInBounds_toArray, List.set_cons_succ, List.set_cons_zero]
    refine takeH (i := 13) (v := ?_) rfl rfl (by kernel_rfl) (by kernel_rfl) (by kernel_rfl) (fun _ _ _ h => h) (Or.inl ⟨by kernel_rfl, ?_⟩) hS ?_
    rotate_left 1
    · (intro w' hS'; go_simp; try (with_reducible rfl))
    simp only [List.setIfInBounds_toArray, List.set_cons_succ, List.set_cons_zero]
    refine takeH (i := 14) (v := ?_) rfl rfl (by kernel_rfl) (by kernel_rfl) (by kernel_rfl) (fun _ _ _ h => h) (Or.inl ⟨by kernel_rfl, ?_⟩) hS ?_
    rotate_left 1
    · (intro w' hS'; go_simp; try (with_reducible rfl))
    simp only [List.setIfInBounds_toArray, List.set_cons_succ, List.set_cons_zero]
    refine takeH (i := 15) (v := ?_) rfl rfl (by kernel_rfl) (by kernel_rfl) (by kernel_rfl) (fun _ _ _ h => h) (Or.inl ⟨by kernel_rfl, ?_⟩) hS ?_
    rotate_left 1
    · (intro w' hS'; go_simp; try (with_reducible rfl))
    simp only [List.setIfInBounds_toArray, List.set_cons_succ, List.set_cons_zero]
    refine takeH (i := 16) (v := ?_) rfl rfl (by kernel_rfl) (by kernel_rfl) (by kernel_rfl) (fun _ _ _ h => h) (Or.inl ⟨by kernel_rfl, ?_⟩) hS ?_
    rotate_left 1
    · (intro w' hS'; go_simp; try (with_reducible rfl))
    simp only [List.setIfInBounds_toArray, List.set_cons_succ, List.set_cons_zero]
    refine takeH (i := 17) (v := ?_) rfl rfl (by kernel_rfl) (by kernel_rfl) (by kernel_rfl) (fun _ _ _ h => h) (Or.inl ⟨by kernel_rfl, ?_⟩) hS ?_
    rotate_left 1
    · (intro w' hS'; go_simp; try (with_reducible rfl))
    simp only [List.setIfInBounds_toArray, List.set_cons_succ, List.set_cons_zero]
    refine takeH (i := 18) (v := ?_) rfl rfl (by kernel_rfl) (by kernel_rfl) (by kernel_rfl) (fun _ _ _ h => h) (Or.inl ⟨by kernel_rfl, ?_⟩) hS ?_
    rotate_left 1
    · (intro w' hS'; go_simp; try (with_reducible rfl))
    simp only [List.setIfInBounds_toArray, List.set_cons_succ, List.set_cons_zero]
    refine takeH (i := 19) (v := ?_) rfl rfl (by kernel_rfl) (by kernel_rfl) (by kernel_rfl) (fun _ _ _ h => h) (Or.inl ⟨by kernel_rfl, ?_⟩) hS ?_
    rotate_left 1
    · (intro w' hS'; go_simp; try (with_reducible rfl))
    simp only [List.setIfInBounds_toArray, List.set_cons_succ, List.set_cons_zero]
    refine takeH (i := 20) (v := ?_) rfl rfl (by kernel_rfl) (by kernel_rfl) (by kernel_rfl) (fun _ _ _ h => h) (Or.inl ⟨by kernel_rfl, ?_⟩) hS ?_
    rotate_left 1
    · (intro w' hS'; go_simp; try (with_reducible rfl))
    simp only [List.setIfInBounds_toArray, List.set_cons_succ, List.set_cons_zero]
    refine takeH (i := 21) (v := ?_) rfl rfl (by kernel_rfl) (by kernel_rfl) (by kernel_rfl) (fun _ _ _ h => h) (Or.inl ⟨by kernel_rfl, ?_⟩) hS ?_
    rotate_left 1
    · (intro w' hS'; go_simp; try (with_reducible rfl))
    simp only [List.setIfInBounds_toArray, List.set_cons_succ, List.set_cons_zero]
    refine takeH (i := 22) (v := ?_) rfl rfl (by kernel_rfl) (by kernel_rfl) (by kernel_rfl) (fun _ _ _ h => h) (Or.inl ⟨by kernel_rfl, ?_⟩) hS ?_
    rotate_left 1
    · (intro w' hS'; have k1 := conv_str A2 s m c2 w' HM.out (hX2.ext hS'); go_simp; try (with_reducible rfl))
    simp only [List.setIfInBounds_toArray, List.set_cons_succ, List.set_cons_zero]
    refine takeH (i := 23) (v := ?_) rfl rfl (by kernel_rfl) (by kernel_rfl) (by kernel_rfl) (fun _ _ _ h => h) (Or.inl ⟨by kernel_rfl, ?_⟩) hS ?_
    rotate_left 1
    · (intro w' hS'; go_simp; try (with_reducible rfl))
    simp only [List.setIfInBounds_toArray, List.set_cons_succ, List.set_cons_zero]
    refine takeH (i := 24) (v := ?_) rfl rfl (by kernel_rfl) (by kernel_rfl) (by kernel_rfl) (fun _ _ _ h => h) (Or.inl ⟨by kernel_rfl, ?_⟩) hS ?_
    rotate_left 1
    · (intro w' hS'; have k1 := conv_str A2 s m c2 w' HM.out (hX2.ext hS'); go_simp; try (with_reducible rfl))
    simp only [List.setIfInBounds_toArray, List.set_cons_succ, List.set_cons_zero]
    refine takeH (i := 25) (v := ?_) rfl rfl (by kernel_rfl) (by kernel_rfl) (by kernel_rfl) (fun _ _ _ h => h) (Or.inl ⟨by kernel_rfl, ?_⟩) hS ?_
    rotate_left 1
    · (intro w' hS'; have k1 : (9223372036854775807 < s.length + s.length) = False := (by rw [HM.out]; simp; omega); have k2 : ((⟨s.toArray⟩ : ByteArray) ++ ⟨s.toArray⟩) = ⟨(s ++ s).toArray⟩ := (by rw [ByteArray.mk_append_mk]); go_simp; try (with_reducible rfl))
    simp only [List.setIfInBounds_toArray, List.set_cons_succ, List.set_cons_zero]
    refine takeH (i := 27) (v := ?_) rfl rfl (by kernel_rfl) (by kernel_rfl) (by kernel_rfl) (fun _ _ _ h => h) (Or.inl ⟨by kernel_rfl, ?_⟩) hS ?_
    rotate_left 1
    · (intro w' hS'; go_simp; try (with_reducible rfl))
    simp only [List.setIfInBounds_toArray, List.set_cons_succ, List.set_cons_zero]
    refine takeH (i := 28) (v := ?_) rfl rfl (by kernel_rfl) (by kernel_rfl) (by kernel_rfl) (fun _ _ _ h => h) (Or.inl ⟨by kernel_rfl, ?_⟩) hS ?_
    rotate_left 1
    · (intro w' hS'; go_simp; try (with_reducible rfl))
    simp only [List.setIfInBounds_toArray, List.set_cons_succ, List.set_cons_zero]
    refine takeH (i := 29) (v := ?_) rfl rfl (by kernel_rfl) (by kernel_rfl) (by kernel_rfl) (fun _ _ _ h => h) (Or.inl ⟨by kernel_rfl, ?_⟩) hS ?_
    rotate_left 1
    · (intro w' hS'; go_simp; try (with_reducible rfl))
    simp only [List.setIfInBounds_toArray, List.set_cons_succ, List.set_cons_zero]
    refine takeH (i := 30) (v := ?_) rfl rfl (by kernel_rfl) (by kernel_rfl) (by kernel_rfl) (fun _ _ _ h => h) (Or.inl ⟨by kernel_rfl, ?_⟩) hS ?_
    rotate_left 1
    · (intro w' hS'; go_simp; try (with_reducible rfl))
    simp only [List.setIfInBounds_toArray, List.set_cons_succ, List.set_cons_zero]
    refine takeH (i := 33) (v := ?_) rfl rfl (by kernel_rfl) (by kernel_rfl) (by kernel_rfl) (fun _ _ _ h => h) (Or.inl ⟨by kernel_rfl, ?_⟩) hS ?_
    rotate_left 1
    · (intro w' hS'; go_simp; try (with_reducible rfl))
    simp only [List.setIfInBounds_toArray, List.set_cons_succ, List.set_cons_zero]
    refine takeH (i := 34) (v := ?_) rfl rfl (by kernel_rfl) (by kernel_rfl) (by kernel_rfl) (fun _ _ _ h => h) (Or.inl ⟨by kernel_rfl, ?_⟩) hS ?_
    rotate_left 1
    · (intro w' hS'; have k1 := conv_str A2 s m c2 w' HM.out (hX2.ext hS'); go_simp; try (with_reducible rfl))
    simp only [List.setIfInBounds_toArray, List.set_cons_succ, List.set_cons_zero]
    refine takeH (i := 35) (v := ?_) rfl rfl (by kernel_rfl) (by kernel_rfl) (by kernel_rfl) (fun _ _ _ h => h) (Or.inl ⟨by kernel_rfl, ?_⟩) hS ?_
    rotate_left 1
    · (intro w' hS'; go_simp; try (with_reducible rfl))
    simp only [List.setIfInBounds_toArray, List.set_cons_succ, List.set_cons_zero]
    refine takeH (i := 36) (v := ?_) rfl rfl (by kernel_rfl) (by kernel_rfl) (by kernel_rfl) (fun _ _ _ h => h) (Or.inl ⟨by kernel_rfl, ?_⟩) hS ?_
    rotate_left 1
    · (intro w' hS'; have k1 := conv_str A2 s m c2 w' HM.out (hX2.ext hS'); go_simp; try (with_reducible rfl))
    simp only [List.setIfInBounds_toArray, List.set_cons_succ, List.set_cons_zero]
    refine takeH (i := 37) (v := ?_) rfl rfl (by kernel_rfl) (by kernel_rfl) (by kernel_rfl) (fun _ _ _ h => h) (Or.inl ⟨by kernel_rfl, ?_⟩) hS ?_
    rotate_left 1
    · (intro w' hS'; have k1 : (9223372036854775807 < s.length + s.length) = False := (by rw [HM.out]; simp; omega); have k2 : ((⟨s.toArray⟩ : ByteArray) ++ ⟨s.toArray⟩) = ⟨(s ++ s).toArray⟩ := (by rw [ByteArray.mk_append_mk]); go_simp; try (with_reducible rfl))
    simp only [List.setIfInBounds_toArray, List.set_cons_succ, List.set_cons_zero]
    refine wpAnyH_ready (rs := [26]) (by kernel_rfl) (by simp) ?_
    refine AllReadyH.cons rfl (fun K hK => ?_) ?_
    rotate_left 1
    · exact AllReadyH.nil
    go_simp
    obtain ⟨c8, w8, k8, hc8, hx8, hext8⟩ := conv_octs (s ++ s) w7.drew; rw [HSS.out] at k8 hc8; generalize (some ⟨w7.drew.heap.size, 0, none⟩ : Option Addr) = A8 at k8 hx8; obtain ⟨A9, s1, s2, s3, _⟩ := cut_hi A8 (s ++ s) c8 p (by rw [HSS.out]; omega) (by rw [HSS.out]; exact hc8); rw [HSS.out] at s1 s2; have hx9 := s3 w8 hx8; rw [k8]; go_simp
    refine hK.out _ _ (hS.trans hext8) (fun hS => ?_)
    clear hK K
    refine takeH (i := 31) (v := ?_) rfl rfl (by kernel_rfl) (by kernel_rfl) (by kernel_rfl) (fun _ _ _ h => h) (Or.inl ⟨by kernel_rfl, ?_⟩) hS ?_
    rotate_left 1
    · (intro w' hS'; go_simp; try (with_reducible rfl))
    simp only [List.setIfInBounds_toArray, List.set_cons_succ, List.set_cons_zero]
    refine wpAnyH_ready (rs := [32]) (by kernel_rfl) (by simp) ?_
    refine AllReadyH.cons rfl (fun K hK => ?_) ?_
    rotate_left 1
    · exact AllReadyH.nil
    go_simp
    refine (f47_n A9 ((s ++ s).take p) p c8 _ HP.out (by omega) hx9).mono ?_; rintro e w10 ⟨rfl, hext10⟩
    refine hK.out _ _ (hS.trans hext10) (fun hS => ?_)
    clear hK K
    refine takeH (i := 38) (v := ?_) rfl rfl (by kernel_rfl) (by kernel_rfl) (by kernel_rfl) (fun _ _ _ h => h) (Or.inl ⟨by kernel_rfl, ?_⟩) hS ?_
    rotate_left 1
    · (intro w' hS'; go_simp; try (with_reducible rfl))
    simp only [List.setIfInBounds_toArray, List.set_cons_succ, List.set_cons_zero]
    refine takeH (i := 39) (v := ?_) rfl rfl (by kernel_rfl) (by kernel_rfl) (by kernel_rfl) (fun _ _ _ h => h) (Or.inl ⟨by kernel_rfl, ?_⟩) hS ?_
    rotate_left 1
    · (intro w' hS'; go_simp; try (with_reducible rfl))
    simp only [List.setIfInBounds_toArray, List.set_cons_succ, List.set_cons_zero]
    refine takeH (i := 40) (v := ?_) rfl rfl (by kernel_rfl) (by kernel_rfl) (by kernel_rfl) (fun _ _ _ h => h) (Or.inl ⟨by kernel_rfl, ?_⟩) hS ?_
    rotate_left 1
    · (intro w' hS'; go_simp; try (with_reducible rfl))
    simp only [List.setIfInBounds_toArray, List.set_cons_succ, List.set_cons_zero]
    refine takeH (i := 41) (v := ?_) rfl rfl (by kernel_rfl) (by kernel_rfl) (by kernel_rfl) (fun _ _ _ h => h) (Or.inl ⟨by kernel_rfl, ?_⟩) hS ?_
    rotate_left 1
    · (intro w' hS'; go_simp; try (with_reducible rfl))
    simp only [List.setIfInBounds_toArray, List.set_cons_succ, List.set_cons_zero]
    refine wpAnyH_done (by kernel_rfl) ?_ _
    go_wp2
    go_ret
    exact ⟨rfl, hY7.trans hS⟩
end Go.Proofs.Ytmnlfpkciecbpaa
