/- Superblocks (layer 5): the document's Top. -/
import Derived.Test.YtanmjmeabcloiaaRg
import Derived.Test.YtanmjmeabcloiaaTo
namespace Go.Proofs.Ytanmjmeabcloiaa
open Go.RowKit
open Go.Proofs

set_option maxRecDepth 100000 in
set_option maxHeartbeats 4000000 in
theorem f30_any (l : List UInt8) (w : World) : Calls Try.prog 30 #[strOf l] w fun e w' => e = .returned (.int .i64 (supTop l)) ∧ Ext w w' := by
  by_cases h256 : l.length = 256
  · rw [← topTo_four l h256]
    obtain ⟨C0, F0, v0, g0⟩ := rget l 4 8 (by decide) (by omega)
    have s0 : ∀ w, (Instr.slice 9 (strOf l) (some (.int .i64 4)) (some (.int .i64 12)) none).run Try.prog w = .ok (strOf ((l.drop 4).take 8)) w := fun w => str_mid l 4 8 12 rfl (by omega) w
    have e0 := extract_mid l 4 8 12 rfl
    generalize (l.drop 4).take 8 = B0 at v0 s0 e0
    obtain ⟨C1, F1, v1, g1⟩ := rget l 116 8 (by decide) (by omega)
    have s1 : ∀ w, (Instr.slice 9 (strOf l) (some (.int .i64 116)) (some (.int .i64 124)) none).run Try.prog w = .ok (strOf ((l.drop 116).take 8)) w := fun w => str_mid l 116 8 124 rfl (by omega) w
    have e1 := extract_mid l 116 8 124 rfl
    generalize (l.drop 116).take 8 = B1 at v1 s1 e1
    obtain ⟨C2, F2, v2, g2⟩ := rget l 132 8 (by decide) (by omega)
    have s2 : ∀ w, (Instr.slice 9 (strOf l) (some (.int .i64 132)) (some (.int .i64 140)) none).run Try.prog w = .ok (strOf ((l.drop 132).take 8)) w := fun w => str_mid l 132 8 140 rfl (by omega) w
    have e2 := extract_mid l 132 8 140 rfl
    generalize (l.drop 132).take 8 = B2 at v2 s2 e2
    obtain ⟨C3, F3, v3, g3⟩ := rget l 244 8 (by decide) (by omega)
    have s3 : ∀ w, (Instr.slice 9 (strOf l) (some (.int .i64 244)) (some (.int .i64 252)) none).run Try.prog w = .ok (strOf ((l.drop 244).take 8)) w := fun w => str_mid l 244 8 252 rfl (by omega) w
    have e3 := extract_mid l 244 8 252 rfl
    generalize (l.drop 244).take 8 = B3 at v3 s3 e3
    obtain ⟨T, hT⟩ : ∃ T, T = topTo l := ⟨_, rfl⟩
    have T0 : T 0 = 0 := by rw [hT]; rfl
    have T1 : T 1 = topStep (T 0) (numAt l 4 8) := by rw [hT]; exact topTo_succ l 0
    generalize numAt l 4 8 = z0 at T1 g0
    have T2 : T 2 = topStep (T 1) (numAt l 116 8) := by rw [hT]; exact topTo_succ l 1
    generalize numAt l 116 8 = z1 at T2 g1
    have T3 : T 3 = topStep (T 2) (numAt l 132 8) := by rw [hT]; exact topTo_succ l 2
    generalize numAt l 132 8 = z2 at T3 g2
    have T4 : T 4 = topStep (T 3) (numAt l 244 8) := by rw [hT]; exact topTo_succ l 3
    generalize numAt l 244 8 = z3 at T4 g3
    rw [← hT]
    clear hT
    have HT0 := Lib.hid T1
    clear T1
    have HT1 := Lib.hid T2
    clear T2
    have HT2 := Lib.hid T3
    clear T3
    have HT3 := Lib.hid T4
    clear T4
    have H0 := Lib.hid T0
    clear T0
    go_enter Try.func30, Try.ntmps30
    go_wp2_with fail
    have hv0 : Value.int .i64 0 = .int .i64 (T 0) := by rw [H0.out]
    go_loopg [3, 4] 4 (fun g v i wr => ∃ j : Nat, j ≤ 4 ∧ 4 - j ≤ g ∧ i = .int .i64 j ∧ v = .int .i64 (T j) ∧ Ext w wr)
    case atStart => exact ⟨0, by omega, by omega, rfl, hv0, Ext.refl w⟩
    case round =>
      obtain ⟨j, hj, hg, rfl, rfl, hm⟩ := hrel
      clear hv0
      by_cases h4 : j = 4
      · subst h4
        clear hj hg
        go_wp2_with fail
        go_ret
        exact ⟨rfl, hm⟩
      obtain rfl | rfl | rfl | rfl : j = 0 ∨ j = 1 ∨ j = 2 ∨ j = 3 := by omega
      · go_wp2_with fail
        refine (g0 _ _ (by simp)).mono ?_
        rintro e w3 ⟨rfl, x3⟩
        clear v0 v1 v2 v3 s0 s1 s2 s3 e0 e1 e2 e3
        by_cases q1 : T 0 < z0
        · by_cases q2 : z0 ≤ 281474976710656
          · skip
            go_wp2_with fail
            go_roundg (4 - (0 + 1))
            case measure => omega
            case rel =>
              have hst : T 1 = z0 := by (rw [HT0.out, topStep]; exact if_pos ⟨q1, q2⟩)
              exact ⟨1, by omega, by omega, by go_num, by rw [hst], hm.trans x3⟩
          · have q3 : (z0 ≤ 281474976710656) = False := eq_false q2
            go_wp2_with fail
            go_roundg (4 - (0 + 1))
            case measure => omega
            case rel =>
              have hst : T 1 = T 0 := by (rw [HT0.out, topStep]; exact if_neg (fun e => by omega))
              exact ⟨1, by omega, by omega, by go_num, by rw [hst], hm.trans x3⟩
        · have q3 : (T 0 < z0) = False := eq_false q1
          go_wp2_with fail
          go_roundg (4 - (0 + 1))
          case measure => omega
          case rel =>
            have hst : T 1 = T 0 := by (rw [HT0.out, topStep]; exact if_neg (fun e => by omega))
            exact ⟨1, by omega, by omega, by go_num, by rw [hst], hm.trans x3⟩
      · go_wp2_with fail
        refine (g1 _ _ (by simp)).mono ?_
        rintro e w3 ⟨rfl, x3⟩
        clear v0 v1 v2 v3 s0 s1 s2 s3 e0 e1 e2 e3
        by_cases q1 : T 1 < z1
        · by_cases q2 : z1 ≤ 281474976710656
          · skip
            go_wp2_with fail
            go_roundg (4 - (1 + 1))
            case measure => omega
            case rel =>
              have hst : T 2 = z1 := by (rw [HT1.out, topStep]; exact if_pos ⟨q1, q2⟩)
              exact ⟨2, by omega, by omega, by go_num, by rw [hst], hm.trans x3⟩
          · have q3 : (z1 ≤ 281474976710656) = False := eq_false q2
            go_wp2_with fail
            go_roundg (4 - (1 + 1))
            case measure => omega
            case rel =>
              have hst : T 2 = T 1 := by (rw [HT1.out, topStep]; exact if_neg (fun e => by omega))
              exact ⟨2, by omega, by omega, by go_num, by rw [hst], hm.trans x3⟩
        · have q3 : (T 1 < z1) = False := eq_false q1
          go_wp2_with fail
          go_roundg (4 - (1 + 1))
          case measure => omega
          case rel =>
            have hst : T 2 = T 1 := by (rw [HT1.out, topStep]; exact if_neg (fun e => by omega))
            exact ⟨2, by omega, by omega, by go_num, by rw [hst], hm.trans x3⟩
      · go_wp2_with fail
        refine (g2 _ _ (by simp)).mono ?_
        rintro e w3 ⟨rfl, x3⟩
        clear v0 v1 v2 v3 s0 s1 s2 s3 e0 e1 e2 e3
        by_cases q1 : T 2 < z2
        · by_cases q2 : z2 ≤ 281474976710656
          · skip
            go_wp2_with fail
            go_roundg (4 - (2 + 1))
            case measure => omega
            case rel =>
              have hst : T 3 = z2 := by (rw [HT2.out, topStep]; exact if_pos ⟨q1, q2⟩)
              exact ⟨3, by omega, by omega, by go_num, by rw [hst], hm.trans x3⟩
          · have q3 : (z2 ≤ 281474976710656) = False := eq_false q2
            go_wp2_with fail
            go_roundg (4 - (2 + 1))
            case measure => omega
            case rel =>
              have hst : T 3 = T 2 := by (rw [HT2.out, topStep]; exact if_neg (fun e => by omega))
              exact ⟨3, by omega, by omega, by go_num, by rw [hst], hm.trans x3⟩
        · have q3 : (T 2 < z2) = False := eq_false q1
          go_wp2_with fail
          go_roundg (4 - (2 + 1))
          case measure => omega
          case rel =>
            have hst : T 3 = T 2 := by (rw [HT2.out, topStep]; exact if_neg (fun e => by omega))
            exact ⟨3, by omega, by omega, by go_num, by rw [hst], hm.trans x3⟩
      · go_wp2_with fail
        refine (g3 _ _ (by simp)).mono ?_
        rintro e w3 ⟨rfl, x3⟩
        clear v0 v1 v2 v3 s0 s1 s2 s3 e0 e1 e2 e3
        by_cases q1 : T 3 < z3
        · by_cases q2 : z3 ≤ 281474976710656
          · skip
            go_wp2_with fail
            go_roundg (4 - (3 + 1))
            case measure => omega
            case rel =>
              have hst : T 4 = z3 := by (rw [HT3.out, topStep]; exact if_pos ⟨q1, q2⟩)
              exact ⟨4, by omega, by omega, by go_num, by rw [hst], hm.trans x3⟩
          · have q3 : (z3 ≤ 281474976710656) = False := eq_false q2
            go_wp2_with fail
            go_roundg (4 - (3 + 1))
            case measure => omega
            case rel =>
              have hst : T 4 = T 3 := by (rw [HT3.out, topStep]; exact if_neg (fun e => by omega))
              exact ⟨4, by omega, by omega, by go_num, by rw [hst], hm.trans x3⟩
        · have q3 : (T 3 < z3) = False := eq_false q1
          go_wp2_with fail
          go_roundg (4 - (3 + 1))
          case measure => omega
          case rel =>
            have hst : T 4 = T 3 := by (rw [HT3.out, topStep]; exact if_neg (fun e => by omega))
            exact ⟨4, by omega, by omega, by go_num, by rw [hst], hm.trans x3⟩
  · rw [top_short l h256]
    have hb : ((l.length : Int) == 256) = false := by simp; omega
    clear h256
    go_enter Try.func30, Try.ntmps30
    go_wp2_with fail
    go_ret
    exact ⟨rfl, Ext.refl w⟩
end Go.Proofs.Ytanmjmeabcloiaa
