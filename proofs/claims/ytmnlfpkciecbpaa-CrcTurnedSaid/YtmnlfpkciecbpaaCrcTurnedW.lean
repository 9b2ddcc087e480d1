/- A sealed text of which up to 32 bits beside each other were turned: the law's walk. -/
import Derived.Test.YtmnlfpkciecbpaaAppo
import Derived.Test.YtmnlfpkciecbpaaLaw02a
import Derived.RegionTactic
namespace Go.Proofs.Ytmnlfpkciecbpaa
open Go.RowKit
open Go.Proofs

/-- 'turned', kept shut. -/
def tuB (l : List UInt8) (k v i : Nat) : List UInt8 := Mb.turned l k v i
theorem length_tuB (l : List UInt8) (k v i : Nat) : (tuB l k v i).length = l.length := Mb.length_turned l k v i

theorem bit_test (v j : Nat) (hv : v < 4294967296) : (bits .and .u32 ((v : Int) / 2 ^ j) 1 == 1) = v.testBit j := by
  have e : (v : Int) / 2 ^ j = ((v / 2 ^ j : Nat) : Int) := by simp
  have h := u32_and_nat (v / 2 ^ j) 1 (Nat.lt_of_le_of_lt (Nat.div_le_self _ _) hv) (by omega)
  rw [show ((1 : Nat) : Int) = 1 from rfl] at h
  rw [e, h, Nat.and_one_is_mod, Nat.testBit_eq_decide_div_mod_eq]
  rw [Bool.eq_iff_iff, beq_iff_eq, decide_eq_true_iff]
  omega
theorem tuB_yes (l : List UInt8) (k v j : Nat) (h : v.testBit j = true) : tuB l k v (j + 1) = (tuB l k v j).set ((k + j) / 8) ((tuB l k v j).getD ((k + j) / 8) 0 ^^^ UInt8.ofNat (2 ^ ((k + j) % 8))) := by
  unfold tuB
  rw [Mb.turned, if_pos h]; rfl
theorem tuB_no (l : List UInt8) (k v j : Nat) (h : v.testBit j = false) : tuB l k v (j + 1) = tuB l k v j := by
  unfold tuB
  rw [Mb.turned, if_neg (by simp [h])]

set_option maxRecDepth 100000 in
set_option maxHeartbeats 600000 in
theorem f7_walk (A : Option Addr) (l : List UInt8) (n c : Nat) (at_ : Int) (v : Nat) (w : World) (hn : l.length = n) (hm : n ≤ 9223372036854775807) (hc : n ≤ c) (hv : v < 4294967296) (hx : Octs w A l) :
    Calls Try.prog 7 #[.slice A n c, .int .i64 at_, .int .u32 (v : Int)] w fun e w' => e = .returned (.bool true) ∧ Ext w w' := by
  have HN := Lib.hid hn
  by_cases hbig : 300 < n ∨ v = 0
  · clear hn
    by_cases h3 : 300 < n
    · clear hbig
      go_enter Try.func7, Try.ntmps7
      go_wp2_with fail
      refine (f40_any _).mono ?_
      rintro e w1 ⟨rfl, hext1⟩
      go_wp2_with fail
      refine (f40_any _).mono ?_
      rintro e w2 ⟨rfl, hext2⟩
      go_wp2
      go_ret
      exact ⟨rfl, hext1.trans hext2⟩
    · obtain rfl : v = 0 := by omega
      clear hbig hv
      go_enter Try.func7, Try.ntmps7
      go_wp2_with fail
      refine (f40_any _).mono ?_
      rintro e w1 ⟨rfl, hext1⟩
      go_wp2_with fail
      refine (f40_any _).mono ?_
      rintro e w2 ⟨rfl, hext2⟩
      go_wp2
      go_ret
      exact ⟨rfl, hext1.trans hext2⟩
  · obtain ⟨h300, hv0⟩ : n ≤ 300 ∧ v ≠ 0 := by omega
    obtain ⟨N, hN⟩ : ∃ N : Nat, 8 * ((n : Int) + 4) - 31 = (N : Int) := ⟨8 * n + 1, by omega⟩
    obtain ⟨t, k, ht, t1, t2, k1, k2, hk⟩ := round_mod at_ N (by omega)
    have hN2 : N ≤ 2401 := by omega
    have hN1 : 0 < N := by omega
    have hk32 : k + 32 ≤ 8 * (n + 4) := by omega
    have hv0b : ((v : Int) == 0) = false := by rw [beq_eq_false_iff_ne]; omega
    have hsame : ((n : Int) + 4 != (n : Int) + 4) = false := by simp
    clear hn hbig
    go_enter Try.func7, Try.ntmps7
    go_wp2_with fail
    refine (f40_any _).mono ?_
    rintro e w1 ⟨rfl, hext1⟩
    go_wp2_with fail
    refine (f45_n A l n c w1 HN.out (by omega) hc (hx.ext hext1)).mono ?_
    rintro e w2 ⟨v2, rfl, hown2, hext2⟩
    obtain ⟨A2, c2, rfl, hc2, hx2⟩ := hown2.octs_form
    have hs4 : (Mb.seal_ l).length = n + 4 := by rw [Mb.seal_length, HN.out]
    have HS4 := Lib.hid hs4
    rw [hs4] at hc2 ⊢
    clear hs4 hown2
    go_wp2_with (at_builtin; refine wpList_copyo (w0 := w2) rfl (.tmp 45) (.tmp 46) rfl rfl rfl A2 (n + 4) c2 (Mb.seal_ l) rfl HS4.out hx2 (by rw [HS4.out]; omega) ?_)
    intro v3 w3 hown3 hext3
    obtain ⟨g, c3, rfl, hc3, hg3, _, _, _⟩ := hown3.head (by rw [HS4.out]; omega)
    have hT0 : Own w3 w2.heap.size 5 (.slice (some ⟨g, 0, none⟩) (n + 4) c3) (octs (tuB (Mb.seal_ l) k v 0)) := by rw [← HS4.out]; exact hown3
    rw [HS4.out] at hc3 ⊢
    have hw3 : Ext w w3 := (hext1.trans hext2).trans hext3
    have hgw : w.heap.size ≤ g := Nat.le_trans (hext1.trans hext2).size hg3
    clear hown3 hext3 hx2
    go_wp2_with fail
    go_loopw [11] (fun i wr => ∃ j : Nat, j ≤ 32 ∧ i = .int .i64 j ∧ Own wr w2.heap.size 5 (.slice (some ⟨g, 0, none⟩) (n + 4) c3) (octs (tuB (Mb.seal_ l) k v j)) ∧ Ext w wr) (fun i _ => 32 - (intOf i).toNat)
    case atStart => exact ⟨0, by omega, rfl, hT0, hw3⟩
    case round =>
      obtain ⟨j, hj, rfl, hown, hext⟩ := hrel
      by_cases hlt : j < 32
      · have hbt := bit_test v j hv
        cases hb1 : v.testBit j with
        | true =>
          have HT := Lib.hid (tuB_yes (Mb.seal_ l) k v j hb1)
          rw [hb1] at hbt
          obtain ⟨q, hq⟩ : ∃ q, (k + j) / 8 = q := ⟨_, rfl⟩
          obtain ⟨r, hr⟩ : ∃ r, (k + j) % 8 = r := ⟨_, rfl⟩
          have hqn : q < n + 4 := by omega
          have hq1 : ((k : Int) + (j : Int)) / 8 = (q : Int) := by omega
          have hr1 : ((k : Int) + (j : Int)) % 8 = (r : Int) := by omega
          have hr8 : r < 8 := by omega
          obtain ⟨_, _, hcell, hfz, _, _⟩ := hown.at_
          have c1 := hcell q (by rw [length_tuB, HS4.out]; exact hqn)
          have f1 := hfz q
          rw [hq, hr] at HT
          clear hq hr hcell hfz hb1
          generalize (tuB (Mb.seal_ l) k v j).getD q 0 = x at c1 HT
          go_wp2_with fail
          have hX : Hid (bits .xor .u8 ((x.toNat : Nat) : Int) (2 ^ r % 256) = (((x ^^^ UInt8.ofNat (2 ^ r)).toNat : Nat) : Int)) := by
            unfold Hid
            have h := u8_xor_nat x.toNat (2 ^ r % 256) x.toNat_lt (Nat.mod_lt _ (by omega))
            rw [UInt8.toNat_xor, UInt8.toNat_ofNat', ← h]
            simp
          have hown1 := hown.set q (x ^^^ UInt8.ofNat (2 ^ r))
          rw [← HT.out] at hown1
          have hext1' := hext.setCell (p := ⟨g, q, none⟩) hgw (.int .u8 (((x ^^^ UInt8.ofNat (2 ^ r)).toNat : Nat) : Int))
          go_region
          rw [hX.out]
          go_wp2
          go_roundw
          case rel => exact ⟨j + 1, by omega, by go_num, hown1, hext1'.drew⟩
          case measure => simp [intOf]; omega
        | false => 
          have HT := Lib.hid (tuB_no (Mb.seal_ l) k v j hb1)
          rw [hb1] at hbt
          clear hb1
          go_wp2_with fail
          go_roundw
          case rel => exact ⟨j + 1, by omega, by go_num, by rw [HT.out]; exact hown, hext⟩
          case measure => simp [intOf]; omega
      · obtain rfl : j = 32 := by omega
        have hfin : Mb.isSealed (tuB (Mb.seal_ l) k v 32) = false := Mb.isSealed_turned _ (Mb.isSealed_seal l) k v (by rw [HS4.out]; exact hk32) hv hv0
        obtain ⟨hm4, hc4, _, _, _, hx4⟩ := hown.at_
        have c46 := f46_n _ (tuB (Mb.seal_ l) k v 32) (n + 4) c3 wr hm4.symm (by omega) hc4 hx4
        rw [hfin] at c46
        clear hm4 hc4 hx4
        go_wp2_with fail
        refine c46.mono ?_
        rintro e w5 ⟨v5, rfl, _, hext5⟩
        go_wp2
        go_ret
        exact ⟨rfl, hext.trans hext5⟩
end Go.Proofs.Ytmnlfpkciecbpaa
