/- Superblocks (layer 5): Top. -/
import Derived.Test.YtanmjmeabcloiaaSg
namespace Go.Proofs.Ytanmjmeabcloiaa
open Go.RowKit
open Go.Proofs

/-- A number is taken off. -/
theorem rd_take {W0 w : World} {k : Nat} (B : List UInt8) (n : Nat) (hn : n ≤ 8) (hl : n ≤ B.length) (hX : Ext W0 w) (h : RdX W0 w k B) :
    Calls Try.prog 43 #[.pointer (some ⟨k, 0, none⟩), .int .i64 (n : Int)] w fun e w' => e = .returned (.int .i64 (i64of (getN (B.take n)))) ∧ Ext W0 w' := by
  obtain ⟨F, h1, h2⟩ := h
  have hw : wid (n : Int) = n := by unfold wid; omega
  have h5 := f35_any k F B false n w h2
  rw [hw, rTake_in n _ hl] at h5
  refine h5.mono ?_
  rintro e w1 ⟨rfl, h6, h7⟩
  refine ⟨ret_int ?_, h7.to_ext hX fun b hb => ?_⟩
  · rw [rNum, hw, rTake_in n _ hl]
  · rw [hb]
    obtain ⟨_, _, h8⟩ := h2
    exact h1 k h8.mem
def topAt (j : Nat) : Nat := if j = 0 then 4 else if j = 1 then 116 else if j = 2 then 132 else 244
def topTo (l : List UInt8) : Nat → Int
  | 0 => 0
  | j + 1 => topStep (topTo l j) (numAt l (topAt j) 8)
theorem topTo_succ (l : List UInt8) (j : Nat) : topTo l (j + 1) = topStep (topTo l j) (numAt l (topAt j) 8) := rfl
theorem top_step (l : List UInt8) (j a : Nat) (ha : topAt j = a) (hl : ((l.drop a).take 8).length = 8) : topTo l (j + 1) = topStep (topTo l j) (i64of (getN (((l.drop a).take 8).take 8))) := by
  rw [topTo_succ, ha, List.take_of_length_le (l := (l.drop a).take 8) (by rw [hl]; exact Nat.le_refl _), numAt]
theorem topTo_four (l : List UInt8) (h : l.length = 256) : topTo l 4 = supTop l := by
  rw [supTop, if_pos h, topTo_succ, topTo_succ, topTo_succ, topTo_succ]
  have h0 : topAt 0 = 4 := by decide
  have h1 : topAt 1 = 116 := by decide
  have h2 : topAt 2 = 132 := by decide
  have h3 : topAt 3 = 244 := by decide
  rw [h0, h1, h2, h3]
  congr 1
theorem top_short (l : List UInt8) (h : l.length ≠ 256) : supTop l = 0 := by rw [supTop, if_neg h]
theorem idx4_0 (w : World) : (Instr.index 79 (.agg #[.int .i64 4, .int .i64 116, .int .i64 132, .int .i64 244]) (.int .i64 0)).run Try.prog w = .ok (.int .i64 4) w := by kernel_rfl
theorem idx4_1 (w : World) : (Instr.index 79 (.agg #[.int .i64 4, .int .i64 116, .int .i64 132, .int .i64 244]) (.int .i64 1)).run Try.prog w = .ok (.int .i64 116) w := by kernel_rfl
theorem idx4_2 (w : World) : (Instr.index 79 (.agg #[.int .i64 4, .int .i64 116, .int .i64 132, .int .i64 244]) (.int .i64 2)).run Try.prog w = .ok (.int .i64 132) w := by kernel_rfl
theorem idx4_3 (w : World) : (Instr.index 79 (.agg #[.int .i64 4, .int .i64 116, .int .i64 132, .int .i64 244]) (.int .i64 3)).run Try.prog w = .ok (.int .i64 244) w := by kernel_rfl
/-- The sector's number at a place. -/
theorem rd_at (A : Option Addr) (l : List UInt8) (c i j : Nat) (hl : l.length = 256) (hc : 256 ≤ c) (hij : i + 8 = j) (hj : j ≤ 256) (w : World) (hx : Octs w A l) :
    ∃ A1, (∀ w, (Instr.slice 22 (.slice A 256 c) (some (.int .i64 (i : Int))) (some (.int .i64 (j : Int))) none).run Try.prog w = .ok (.slice A1 8 (c - i)) w) ∧ Octs w A1 ((l.drop i).take 8) ∧ ((l.drop i).take 8).length = 8 := by
  obtain ⟨A1, s1, _, s3, _⟩ := cut_mid A l c i j (by omega) (by omega) (by omega)
  rw [hl, show j - i = 8 by omega] at s1
  have := s3 w hx
  rw [show j - i = 8 by omega] at this
  exact ⟨A1, s1, this, by rw [List.length_take, List.length_drop]; omega⟩

set_option maxRecDepth 100000 in
set_option maxHeartbeats 2000000 in
theorem f29_any (A : Option Addr) (l : List UInt8) (n c : Nat) (w : World) (hn : l.length = n) (hc : n ≤ c) (hx : Octs w A l) :
    Calls Try.prog 29 #[.slice A n c] w fun e w' => e = .returned (.int .i64 (supTop l)) ∧ Ext w w' := by
  by_cases h256 : n = 256
  · subst h256
    rw [← topTo_four l hn]
    obtain ⟨A0, r0, y0, l0⟩ := rd_at A l c 4 12 hn hc rfl (by decide) w hx
    have s0 : ∀ w, (Instr.slice 22 (.slice A 256 c) (some (.int .i64 4)) (some (.int .i64 12)) none).run Try.prog w = .ok (.slice A0 8 (c - 4)) w := r0
    clear r0
    obtain ⟨A1, r1, y1, l1⟩ := rd_at A l c 116 124 hn hc rfl (by decide) w hx
    have s1 : ∀ w, (Instr.slice 22 (.slice A 256 c) (some (.int .i64 116)) (some (.int .i64 124)) none).run Try.prog w = .ok (.slice A1 8 (c - 116)) w := r1
    clear r1
    obtain ⟨A2, r2, y2, l2⟩ := rd_at A l c 132 140 hn hc rfl (by decide) w hx
    have s2 : ∀ w, (Instr.slice 22 (.slice A 256 c) (some (.int .i64 132)) (some (.int .i64 140)) none).run Try.prog w = .ok (.slice A2 8 (c - 132)) w := r2
    clear r2
    obtain ⟨A3, r3, y3, l3⟩ := rd_at A l c 244 252 hn hc rfl (by decide) w hx
    have s3 : ∀ w, (Instr.slice 22 (.slice A 256 c) (some (.int .i64 244)) (some (.int .i64 252)) none).run Try.prog w = .ok (.slice A3 8 (c - 244)) w := r3
    clear r3
    obtain ⟨T, hT⟩ : ∃ T, T = topTo l := ⟨_, rfl⟩
    have T0 : T 0 = 0 := by rw [hT]; rfl
    have T1 : T 1 = topStep (T 0) (i64of (getN (((l.drop 4).take 8).take 8))) := by rw [hT]; exact top_step l 0 4 (by decide) l0
    generalize (l.drop 4).take 8 = B0 at T1 y0 l0
    have T2 : T 2 = topStep (T 1) (i64of (getN (((l.drop 116).take 8).take 8))) := by rw [hT]; exact top_step l 1 116 (by decide) l1
    generalize (l.drop 116).take 8 = B1 at T2 y1 l1
    have T3 : T 3 = topStep (T 2) (i64of (getN (((l.drop 132).take 8).take 8))) := by rw [hT]; exact top_step l 2 132 (by decide) l2
    generalize (l.drop 132).take 8 = B2 at T3 y2 l2
    have T4 : T 4 = topStep (T 3) (i64of (getN (((l.drop 244).take 8).take 8))) := by rw [hT]; exact top_step l 3 244 (by decide) l3
    generalize (l.drop 244).take 8 = B3 at T4 y3 l3
    rw [← hT]
    clear hn hc hx hT
    have HT0 := Lib.hid T1
    have HL0 := Lib.hid l0
    clear T1 l0
    have HT1 := Lib.hid T2
    have HL1 := Lib.hid l1
    clear T2 l1
    have HT2 := Lib.hid T3
    have HL2 := Lib.hid l2
    clear T3 l2
    have HT3 := Lib.hid T4
    have HL3 := Lib.hid l3
    clear T4 l3
    have H0 := Lib.hid T0
    clear T0
    go_enter Try.func29, Try.ntmps29
    go_wp2_with fail
    have hv0 : Value.int .i64 0 = .int .i64 (T 0) := by rw [H0.out]
    go_loopg [3, 11] 4 (fun g v i wr => ∃ j : Nat, j ≤ 4 ∧ 4 - j ≤ g ∧ i = .int .i64 j ∧ v = .int .i64 (T j) ∧ Ext w wr)
    case atStart => exact ⟨0, by omega, by omega, rfl, hv0, Ext.refl w⟩
    case round =>
      obtain ⟨j, hj, hg, rfl, rfl, hm⟩ := hrel
      clear hv0
      by_cases h4 : j = 4
      · subst h4
        clear hj hg
        go_wp2_with fail
        go_ret
        exact ⟨rfl, hm⟩
      obtain rfl | rfl | rfl | rfl : j = 0 ∨ j = 1 ∨ j = 2 ∨ j = 3 := by omega
      · have hI := idx4_0
        have HR := rd_new hm A0 B0 8 (c - 4) HL0.out (by decide) (by decide) (y0.ext hm)
        have hstep := HT0.out
        generalize hz : i64of (getN (B0.take 8)) = z at hstep
        have HS := Lib.hid hstep
        have HZ := Lib.hid hz
        clear hstep hz
        go_wp2_with fail
        refine HR.mono ?_
        rintro e w2 ⟨k, rfl, r2, x2⟩
        go_wp2_with fail
        refine (rd_take B0 8 (by decide) (by rw [HL0.out]; decide) (hm.trans x2) r2).mono ?_
        rw [HZ.out]
        rintro e w3 ⟨rfl, x3⟩
        clear hI HR s0 s1 s2 s3 y0 y1 y2 y3
        by_cases q1 : T 0 < z
        · by_cases q2 : z ≤ 281474976710656
          · go_wp2_with fail
            go_roundg (4 - (0 + 1))
            case measure => omega
            case rel =>
              have hst : T 1 = z := by (rw [HS.out, topStep]; exact if_pos ⟨q1, q2⟩)
              exact ⟨1, by omega, by omega, by go_num, by rw [hst], x3⟩
          · have q3 : (z ≤ 281474976710656) = False := eq_false q2
            go_wp2_with fail
            go_roundg (4 - (0 + 1))
            case measure => omega
            case rel =>
              have hst : T 1 = T 0 := by (rw [HS.out, topStep]; exact if_neg (fun e => by omega))
              exact ⟨1, by omega, by omega, by go_num, by rw [hst], x3⟩
        · have q3 : (T 0 < z) = False := eq_false q1
          go_wp2_with fail
          go_roundg (4 - (0 + 1))
          case measure => omega
          case rel =>
            have hst : T 1 = T 0 := by (rw [HS.out, topStep]; exact if_neg (fun e => by omega))
            exact ⟨1, by omega, by omega, by go_num, by rw [hst], x3⟩
      · have hI := idx4_1
        have HR := rd_new hm A1 B1 8 (c - 116) HL1.out (by decide) (by decide) (y1.ext hm)
        have hstep := HT1.out
        generalize hz : i64of (getN (B1.take 8)) = z at hstep
        have HS := Lib.hid hstep
        have HZ := Lib.hid hz
        clear hstep hz
        go_wp2_with fail
        refine HR.mono ?_
        rintro e w2 ⟨k, rfl, r2, x2⟩
        go_wp2_with fail
        refine (rd_take B1 8 (by decide) (by rw [HL1.out]; decide) (hm.trans x2) r2).mono ?_
        rw [HZ.out]
        rintro e w3 ⟨rfl, x3⟩
        clear hI HR s0 s1 s2 s3 y0 y1 y2 y3
        by_cases q1 : T 1 < z
        · by_cases q2 : z ≤ 281474976710656
          · go_wp2_with fail
            go_roundg (4 - (1 + 1))
            case measure => omega
            case rel =>
              have hst : T 2 = z := by (rw [HS.out, topStep]; exact if_pos ⟨q1, q2⟩)
              exact ⟨2, by omega, by omega, by go_num, by rw [hst], x3⟩
          · have q3 : (z ≤ 281474976710656) = False := eq_false q2
            go_wp2_with fail
            go_roundg (4 - (1 + 1))
            case measure => omega
            case rel =>
              have hst : T 2 = T 1 := by (rw [HS.out, topStep]; exact if_neg (fun e => by omega))
              exact ⟨2, by omega, by omega, by go_num, by rw [hst], x3⟩
        · have q3 : (T 1 < z) = False := eq_false q1
          go_wp2_with fail
          go_roundg (4 - (1 + 1))
          case measure => omega
          case rel =>
            have hst : T 2 = T 1 := by (rw [HS.out, topStep]; exact if_neg (fun e => by omega))
            exact ⟨2, by omega, by omega, by go_num, by rw [hst], x3⟩
      · have hI := idx4_2
        have HR := rd_new hm A2 B2 8 (c - 132) HL2.out (by decide) (by decide) (y2.ext hm)
        have hstep := HT2.out
        generalize hz : i64of (getN (B2.take 8)) = z at hstep
        have HS := Lib.hid hstep
        have HZ := Lib.hid hz
        clear hstep hz
        go_wp2_with fail
        refine HR.mono ?_
        rintro e w2 ⟨k, rfl, r2, x2⟩
        go_wp2_with fail
        refine (rd_take B2 8 (by decide) (by rw [HL2.out]; decide) (hm.trans x2) r2).mono ?_
        rw [HZ.out]
        rintro e w3 ⟨rfl, x3⟩
        clear hI HR s0 s1 s2 s3 y0 y1 y2 y3
        by_cases q1 : T 2 < z
        · by_cases q2 : z ≤ 281474976710656
          · go_wp2_with fail
            go_roundg (4 - (2 + 1))
            case measure => omega
            case rel =>
              have hst : T 3 = z := by (rw [HS.out, topStep]; exact if_pos ⟨q1, q2⟩)
              exact ⟨3, by omega, by omega, by go_num, by rw [hst], x3⟩
          · have q3 : (z ≤ 281474976710656) = False := eq_false q2
            go_wp2_with fail
            go_roundg (4 - (2 + 1))
            case measure => omega
            case rel =>
              have hst : T 3 = T 2 := by (rw [HS.out, topStep]; exact if_neg (fun e => by omega))
              exact ⟨3, by omega, by omega, by go_num, by rw [hst], x3⟩
        · have q3 : (T 2 < z) = False := eq_false q1
          go_wp2_with fail
          go_roundg (4 - (2 + 1))
          case measure => omega
          case rel =>
            have hst : T 3 = T 2 := by (rw [HS.out, topStep]; exact if_neg (fun e => by omega))
            exact ⟨3, by omega, by omega, by go_num, by rw [hst], x3⟩
      · have hI := idx4_3
        have HR := rd_new hm A3 B3 8 (c - 244) HL3.out (by decide) (by decide) (y3.ext hm)
        have hstep := HT3.out
        generalize hz : i64of (getN (B3.take 8)) = z at hstep
        have HS := Lib.hid hstep
        have HZ := Lib.hid hz
        clear hstep hz
        go_wp2_with fail
        refine HR.mono ?_
        rintro e w2 ⟨k, rfl, r2, x2⟩
        go_wp2_with fail
        refine (rd_take B3 8 (by decide) (by rw [HL3.out]; decide) (hm.trans x2) r2).mono ?_
        rw [HZ.out]
        rintro e w3 ⟨rfl, x3⟩
        clear hI HR s0 s1 s2 s3 y0 y1 y2 y3
        by_cases q1 : T 3 < z
        · by_cases q2 : z ≤ 281474976710656
          · go_wp2_with fail
            go_roundg (4 - (3 + 1))
            case measure => omega
            case rel =>
              have hst : T 4 = z := by (rw [HS.out, topStep]; exact if_pos ⟨q1, q2⟩)
              exact ⟨4, by omega, by omega, by go_num, by rw [hst], x3⟩
          · have q3 : (z ≤ 281474976710656) = False := eq_false q2
            go_wp2_with fail
            go_roundg (4 - (3 + 1))
            case measure => omega
            case rel =>
              have hst : T 4 = T 3 := by (rw [HS.out, topStep]; exact if_neg (fun e => by omega))
              exact ⟨4, by omega, by omega, by go_num, by rw [hst], x3⟩
        · have q3 : (T 3 < z) = False := eq_false q1
          go_wp2_with fail
          go_roundg (4 - (3 + 1))
          case measure => omega
          case rel =>
            have hst : T 4 = T 3 := by (rw [HS.out, topStep]; exact if_neg (fun e => by omega))
            exact ⟨4, by omega, by omega, by go_num, by rw [hst], x3⟩
  · rw [top_short l (by rw [hn]; exact h256)]
    have hb : ((n : Int) == 256) = false := by simp; omega
    clear h256 hn hc hx
    go_enter Try.func29, Try.ntmps29
    go_wp2_with fail
    go_ret
    exact ⟨rfl, Ext.refl w⟩
end Go.Proofs.Ytanmjmeabcloiaa
