/- The sum of three texts of one length xored: the law's walk. -/
import Derived.Test.YtmnlfpkciecbpaaAppo
import Derived.Test.YtmnlfpkciecbpaaLaw02a
import Derived.RegionTactic
namespace Go.Proofs.Ytmnlfpkciecbpaa
open Go.RowKit
open Go.Proofs

theorem xor3_length : ∀ (a b c : List UInt8), b.length = a.length → c.length = a.length → (Mb.xor3 a b c).length = a.length
  | [], [], [], _, _ => rfl
  | _ :: p, _ :: q, _ :: z, hb, hc => by simp [Mb.xor3, xor3_length p q z (by simpa using hb) (by simpa using hc)]
  | [], _ :: _, _, hb, _ => by simp at hb
  | [], [], _ :: _, _, hc => by simp at hc
  | _ :: _, [], _, hb, _ => by simp at hb
  | _ :: _, _ :: _, [], _, hc => by simp at hc
theorem xor3_get : ∀ (a b c : List UInt8) (j : Nat) (ha : j < a.length) (hb : j < b.length) (hc : j < c.length), (Mb.xor3 a b c)[j]? = some (a[j] ^^^ b[j] ^^^ c[j])
  | _ :: _, _ :: _, _ :: _, 0, _, _, _ => rfl
  | _ :: p, _ :: q, _ :: z, j + 1, ha, hb, hc => by
    simp only [Mb.xor3, List.getElem?_cons_succ, List.getElem_cons_succ]
    exact xor3_get p q z j (by simpa using ha) (by simpa using hb) (by simpa using hc)
  | [], _, _, _, ha, _, _ => by simp at ha
  | _ :: _, [], _, _, _, hb, _ => by simp at hb
  | _ :: _, _ :: _, [], _, _, _, hc => by simp at hc

/-- The first j octets of x, noughts behind them. -/
def upTo (x : List UInt8) (j : Nat) : List UInt8 := x.take j ++ List.replicate (x.length - j) 0
theorem length_upTo (x : List UInt8) (j : Nat) (h : j ≤ x.length) : (upTo x j).length = x.length := by simp [upTo]; omega
theorem upTo_zero (x : List UInt8) : upTo x 0 = List.replicate x.length 0 := by simp [upTo]
theorem upTo_all (x : List UInt8) : upTo x x.length = x := by simp [upTo]
theorem upTo_get (x : List UInt8) (j i : Nat) (h : j ≤ x.length) : (upTo x j)[i]? = if i < j then x[i]? else if i < x.length then some 0 else none := by
  unfold upTo
  rw [List.getElem?_append, List.length_take, Nat.min_eq_left h]
  by_cases e : i < j
  · rw [if_pos e, if_pos e, List.getElem?_take, if_pos e]
  · rw [if_neg e, if_neg e, List.getElem?_replicate]
    by_cases e2 : i < x.length
    · rw [if_pos e2, if_pos (by omega)]
    · rw [if_neg e2, if_neg (by omega)]
theorem upTo_set (x : List UInt8) (j : Nat) (h : j < x.length) (c : UInt8) (hc : x[j]? = some c) : (upTo x j).set j c = upTo x (j + 1) := by
  apply List.ext_getElem?
  intro i
  rw [List.getElem?_set, upTo_get x j i (by omega), upTo_get x (j + 1) i (by omega), length_upTo x j (by omega)]
  by_cases e : j = i
  · subst e
    rw [if_pos rfl, if_pos h, if_pos (by omega), hc]
  · rw [if_neg e]
    by_cases e2 : i < j
    · rw [if_pos e2, if_pos (by omega)]
    · rw [if_neg e2, if_neg (by omega : ¬ i < j + 1)]

set_option maxRecDepth 100000 in
set_option maxHeartbeats 600000 in
theorem f4_walk (A B C : Option Addr) (l m r : List UInt8) (n n2 n3 c c2 c3 : Nat) (w : World) (hl : l.length = n) (hm : m.length = n2) (hr : r.length = n3) (h63 : n ≤ 9223372036854775807) (h632 : n2 ≤ 9223372036854775807) (h633 : n3 ≤ 9223372036854775807) (hc : n ≤ c) (hc2 : n2 ≤ c2) (hc3 : n3 ≤ c3) (hx : Octs w A l) (hy : Octs w B m) (hz : Octs w C r) :
    Calls Try.prog 4 #[.slice A n c, .slice B n2 c2, .slice C n3 c3] w fun e w' => e = .returned (.bool true) ∧ Ext w w' := by
  have HL := Lib.hid hl
  have HM := Lib.hid hm
  have HR := Lib.hid hr
  clear hl hm hr
  by_cases h300 : 300 < n
  · go_enter Try.func4, Try.ntmps4
    go_wp2_with fail
    refine (f40_any _).mono ?_
    rintro e w1 ⟨rfl, hext1⟩
    go_wp2_with fail
    refine (f40_any _).mono ?_
    rintro e w2 ⟨rfl, hext2⟩
    go_wp2
    go_ret
    exact ⟨rfl, hext1.trans hext2⟩
  by_cases h2 : n2 = n
  · subst h2
    by_cases h3 : n3 = n2
    · subst h3
      have hmk := make_octs n3 (by omega)
      have hXl : (Mb.xor3 l m r).length = n3 := (xor3_length l m r (by rw [HL.out, HM.out]) (by rw [HL.out, HR.out])).trans HL.out
      have hX := Lib.hid (Mb.crcSum_xor3 l m r (by rw [HL.out, HM.out]) (by rw [HL.out, HR.out]))
      have hXg : Hid (∀ j, j < n3 → ∀ (h1 : j < l.length) (h2 : j < m.length) (h3 : j < r.length), (Mb.xor3 l m r)[j]? = some (l[j] ^^^ m[j] ^^^ r[j])) := fun j _ h1 h2 h3 => xor3_get l m r j h1 h2 h3
      have HX := Lib.hid hXl
      clear hXl
      generalize Mb.xor3 l m r = X at hX hXg HX
      go_enter Try.func4, Try.ntmps4
      go_wp2_with fail
      refine (f40_any _).mono ?_
      rintro e w1 ⟨rfl, hext1⟩
      have hO0 : Own (w1.alloc (.cells (zeros n3) 5)) w1.heap.size 5 (.slice (some ⟨w1.heap.size, 0, none⟩) n3 n3) (octs (upTo X 0)) := by
        rw [upTo_zero, HX.out]; exact own_zeros n3 (by omega) w1
      have hw1 := hext1.size
      go_wp2_with fail
      go_loopw [8] (fun i wr => ∃ j : Nat, j ≤ n3 ∧ i = .int .i64 j ∧ Own wr w1.heap.size 5 (.slice (some ⟨w1.heap.size, 0, none⟩) n3 n3) (octs (upTo X j)) ∧ Ext w wr) (fun i _ => n3 - (intOf i).toNat)
      case atStart => exact ⟨0, by omega, rfl, hO0, hext1.alloc _⟩
      case round =>
        obtain ⟨j, hj, rfl, hown, hext⟩ := hrel
        by_cases hlt : j < n3
        · have hl1 : j < l.length := by rw [HL.out]; exact hlt
          have hm1 : j < m.length := by rw [HM.out]; exact hlt
          have hr1 : j < r.length := by rw [HR.out]; exact hlt
          obtain ⟨b1, o1, rfl, d1⟩ := (hx.ext hext).at_ hl1
          obtain ⟨b2, o2, rfl, d2⟩ := (hy.ext hext).at_ hm1
          obtain ⟨b3, o3, rfl, d3⟩ := (hz.ext hext).at_ hr1
          have hcell := hown.at_.2.2.1
          have hfz := hown.at_.2.2.2.1
          have e1 := hcell j (by rw [length_upTo _ _ (by rw [HX.out]; omega), HX.out]; exact hlt)
          have f1 := hfz j
          have hset := Lib.hid (upTo_set X j (by rw [HX.out]; exact hlt) _ (hXg j hlt hl1 hm1 hr1))
          have hown1 := hown.set j (l[j] ^^^ m[j] ^^^ r[j])
          rw [hset.out] at hown1
          have hext' := hext.setCell (p := ⟨w1.heap.size, j, none⟩) hw1 (.int .u8 (((l[j] ^^^ m[j] ^^^ r[j]).toNat : Nat) : Int))
          have hv : Hid (bits .xor .u8 (bits .xor .u8 ((l[j].toNat : Nat) : Int) ((m[j].toNat : Nat) : Int)) ((r[j].toNat : Nat) : Int) = (((l[j] ^^^ m[j] ^^^ r[j]).toNat : Nat) : Int)) := by
            unfold Hid
            rw [u8_xor_nat _ _ l[j].toNat_lt m[j].toNat_lt, u8_xor_nat _ _ (Nat.xor_lt_two_pow (n := 8) l[j].toNat_lt m[j].toNat_lt) r[j].toNat_lt, UInt8.toNat_xor, UInt8.toNat_xor]
          clear hcell hfz
          go_wp2_with fail
          go_region
          rw [hv.out]
          go_wp2
          go_roundw
          case rel => exact ⟨j + 1, by omega, by go_num, hown1, hext'.drew⟩
          case measure => simp [intOf]; omega
        · obtain rfl : j = n3 := by omega
          have hown2 : Own wr w1.heap.size 5 (.slice (some ⟨w1.heap.size, 0, none⟩) j j) (octs X) := by
            have := hown
            rw [← HX.out] at this ⊢
            rw [upTo_all] at this
            exact this
          have hxX := hown2.at_.2.2.2.2.2
          have hsl := Mb.crcSum_lt l
          have hsm := Mb.crcSum_lt m
          have hsr := Mb.crcSum_lt r
          have hfin : Hid (((Mb.crcSum X : Nat) : Int) = bits .xor .u32 (bits .xor .u32 ((Mb.crcSum l : Nat) : Int) ((Mb.crcSum m : Nat) : Int)) ((Mb.crcSum r : Nat) : Int)) := by
            unfold Hid
            rw [u32_xor_nat _ _ hsl hsm, u32_xor_nat _ _ (Nat.xor_lt_two_pow (n := 32) hsl hsm) hsr, ← hX.out]
          clear hown hown2
          go_wp2_with fail
          refine (f41_one _ X j j wr HX.out (by omega) (Nat.le_refl _) hxX _).mono ?_
          rintro e w4 ⟨rfl, x4⟩
          have y4 := hext.trans x4
          go_wp2_with fail
          refine (f41_one A l j c w4 HL.out (by omega) hc (hx.ext y4) _).mono ?_
          rintro e w5 ⟨rfl, x5⟩
          have y5 := y4.trans x5
          go_wp2_with fail
          refine (f41_one B m j c2 w5 HM.out (by omega) hc2 (hy.ext y5) _).mono ?_
          rintro e w6 ⟨rfl, x6⟩
          have y6 := y5.trans x6
          go_wp2_with fail
          refine (f41_one C r j c3 w6 HR.out (by omega) hc3 (hz.ext y6) _).mono ?_
          rintro e w7 ⟨rfl, x7⟩
          have y7 := y6.trans x7
          go_wp2
          go_ret
          refine ⟨ret_bool ?_, y7⟩
          rw [beq_iff_eq]
          exact hfin.out
    · have hne : ((n3 : Int) != (n2 : Int)) = true := by rw [bne_iff_ne]; omega
      clear h3
      go_enter Try.func4, Try.ntmps4
      go_wp2_with fail
      refine (f40_any _).mono ?_
      rintro e w1 ⟨rfl, hext1⟩
      go_wp2_with fail
      refine (f40_any _).mono ?_
      rintro e w2 ⟨rfl, hext2⟩
      go_wp2
      go_ret
      exact ⟨rfl, hext1.trans hext2⟩
  · have hne : ((n2 : Int) != (n : Int)) = true := by rw [bne_iff_ne]; omega
    clear h2
    go_enter Try.func4, Try.ntmps4
    go_wp2_with fail
    refine (f40_any _).mono ?_
    rintro e w1 ⟨rfl, hext1⟩
    go_wp2_with fail
    refine (f40_any _).mono ?_
    rintro e w2 ⟨rfl, hext2⟩
    go_wp2
    go_ret
    exact ⟨rfl, hext1.trans hext2⟩
end Go.Proofs.Ytmnlfpkciecbpaa
