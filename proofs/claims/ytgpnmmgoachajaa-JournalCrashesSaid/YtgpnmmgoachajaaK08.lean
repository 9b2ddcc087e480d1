/- Joined texts: Bi2, RefCrc, Sq, Hd, Hm, Ru, Rg, Sn. -/
import Derived.Test.YtgpnmmgoachajaaK06
import Derived.Test.YtgpnmmgoachajaaK07
import Derived.Test.YtgpnmmgoachajaaK02
import Derived.Test.YtgpnmmgoachajaaK04
import Derived.Test.YtgpnmmgoachajaaK01
import Derived.Deep.RegionHeld
import Derived.OrdersHeld
/- The document's integers, bit by bit (layer 1): the walks. -/
namespace Go.Proofs.Ytgpnmmgoachajaa
open Go.RowKit
open Go.Proofs

/-- The bits as a list. -/
def bitsL (g : Nat → Nat) (n : Nat) : List Int := (List.range n).map fun i => ((g i : Nat) : Int)
theorem length_bitsL (g : Nat → Nat) (n : Nat) : (bitsL g n).length = n := by simp [bitsL]
theorem bitsL_succ (g : Nat → Nat) (n : Nat) : bitsL g (n + 1) = bitsL g n ++ [((g n : Nat) : Int)] := by simp [bitsL, List.range_succ]
theorem bitsL_get (g : Nat → Nat) (n j : Nat) (h : j < n) : (ints (bitsL g n))[j]? = some (.int .i64 ((g j : Nat) : Int)) := by
  rw [ints_get _ j (by rw [length_bitsL]; exact h)]
  simp [bitsL]

theorem bitS_next (N k i : Nat) (h : k ≤ i) : bitS N k i = if i = 0 then 0 else bitS N k (i - 1) := by
  unfold bitS
  rw [if_neg (by omega)]
  by_cases h0 : i = 0
  · rw [if_pos h0, if_pos (by omega)]
  · rw [if_neg h0]
    by_cases h1 : i - 1 < k
    · rw [if_pos h1, if_neg (by omega), show i - 1 = k - 1 by omega]
    · rw [if_neg h1]

theorem octet_of (N i : Nat) : octs [UInt8.ofNat (N / 256 ^ i)] = [.int .u8 ((sufF (bitv N) (8 * i) 8 : Nat) : Int)] := by
  rw [sufF_bits, Nat.pow_mul]
  simp only [octs, List.map_cons, List.map_nil, oct, UInt8.toNat_ofNat']

end Go.Proofs.Ytgpnmmgoachajaa
/- The document's sum and seal (layer 2), and the document's example. -/
namespace Go.Proofs.Ytgpnmmgoachajaa
open Go.RowKit
open Go.Proofs

theorem u32_par (x y : Nat) : bits .xor .u32 ((x : Int) % 2) ((y : Int) % 2) = (((x ^^^ y) % 2 : Nat) : Int) := by
  have h := u32_xor_nat (x % 2) (y % 2) (by omega) (by omega)
  have e := @Nat.xor_mod_two_pow x y 1
  rw [Nat.pow_one] at e
  rw [e]
  simpa using h
theorem ref_yes (x y : Nat) (hx : x < 4294967296) (h : (bits .xor .u32 ((x : Int) % 2) ((y : Int) % 2) == 1) = true) :
    bits .xor .u32 ((x : Int) / 2) 3988292384 = ((Mb.refBit x y : Nat) : Int) := by
  rw [u32_par, beq_iff_eq] at h
  unfold Mb.refBit
  rw [if_pos (by omega)]
  have e : (x : Int) / 2 = ((x / 2 : Nat) : Int) := by omega
  rw [e]
  exact u32_xor_nat (x / 2) 3988292384 (by omega) (by decide)
theorem ref_no (x y : Nat) (h : (bits .xor .u32 ((x : Int) % 2) ((y : Int) % 2) == 1) = false) :
    (x : Int) / 2 = ((Mb.refBit x y : Nat) : Int) := by
  rw [u32_par, beq_eq_false_iff_ne] at h
  unfold Mb.refBit
  rw [if_neg (by omega), Nat.xor_zero]
  omega
theorem refBit_lt (x y : Nat) (hx : x < 4294967296) : Mb.refBit x y < 4294967296 := by
  unfold Mb.refBit
  refine Nat.xor_lt_two_pow (n := 32) (by omega) ?_
  split <;> omega
theorem ref_snd (y : Nat) : (y : Int) / 2 = ((y / 2 : Nat) : Int) := by omega
theorem ref_next {j u c x y : Nat} (h : Mb.refSteps j (u, c) = (x, y)) : Mb.refSteps (j + 1) (u, c) = (Mb.refBit x y, y / 2) := by
  show Mb.refStep (Mb.refSteps j (u, c)) = _
  rw [h]; rfl

set_option maxRecDepth 100000 in
theorem f130_any (u : Nat) (c : UInt8) (w : World) (hu : u < 4294967296) :
    Calls Try.prog 55 #[.int .u32 (u : Int), .int .u8 ((c.toNat : Nat) : Int)] w fun e w' => e = .returned (.int .u32 ((Mb.take u c : Nat) : Int)) ∧ w = w' := by
  have HT := Lib.hid (Mb.refSteps_take u c)
  have hc := c.toNat_lt
  generalize Mb.take u c = t at HT ⊢
  generalize c.toNat = d at HT hc ⊢
  go_enter Try.func55, Try.ntmps55
  go_wp2
  go_loop [0, 1, 5] (fun a b i => ∃ j x y : Nat, j ≤ 8 ∧ i = .int .i64 j ∧ a = .int .u32 (x : Int) ∧ b = .int .u8 (y : Int) ∧ x < 4294967296 ∧ y < 256 ∧ Hid (Mb.refSteps j (u, d) = (x, y))) (fun _ _ i => 8 - (intOf i).toNat)
  case atStart => exact ⟨0, u, d, by omega, rfl, rfl, rfl, hu, hc, Lib.hid rfl⟩
  case round =>
    obtain ⟨j, x, y, hj, rfl, rfl, rfl, hx, hy, hr⟩ := hrel
    by_cases hlt : j < 8
    · go_wp2_with fail
      · go_round
        case rel =>
          exact ⟨j + 1, Mb.refBit x y, y / 2, by omega, by go_num, val_int (ref_yes x y hx (by assumption)), val_int (ref_snd y), refBit_lt x y hx, by omega, Lib.hid (ref_next hr.out)⟩
        case measure => simp [intOf]; omega
      · go_round
        case rel => exact ⟨j + 1, Mb.refBit x y, y / 2, by omega, by go_num, val_int (ref_no x y (by assumption)), val_int (ref_snd y), refBit_lt x y hx, by omega, Lib.hid (ref_next hr.out)⟩
        case measure => simp [intOf]; omega
    · go_wp2
      go_ret
      obtain rfl : j = 8 := by omega
      have h := HT.out
      rw [hr.out] at h
      exact ⟨ret_int (by rw [← h]), rfl⟩

theorem compl32 (u : Nat) (h : u < 4294967296) : 4294967295 - (u : Int) = ((4294967295 ^^^ u : Nat) : Int) := by
  have e : 4294967295 ^^^ u = 4294967295 - u := by
    have h2 : (4294967295 - u) ^^^ u = 4294967295 := by
      apply Nat.eq_of_testBit_eq
      intro i
      rw [Nat.testBit_xor]
      have e1 : (4294967295 : Nat) = 2 ^ 32 - 1 := by decide
      rw [show 4294967295 - u = 2 ^ 32 - (u + 1) by omega, Nat.testBit_two_pow_sub_succ h, e1, Nat.testBit_two_pow_sub_one]
      by_cases hi : i < 32
      · simp [hi]
      · have : u.testBit i = false := Nat.testBit_lt_two_pow (Nat.lt_of_lt_of_le (show u < 2 ^ 32 from h) (Nat.pow_le_pow_right (by decide) (show 32 ≤ i by omega)))
        simp [hi, this]
    have h3 := congrArg (· ^^^ u) h2
    simpa [Nat.xor_assoc, Nat.xor_self] using h3.symm
  rw [e]; omega

set_option maxRecDepth 100000 in
theorem f43_n (A : Option Addr) (l : List UInt8) (n c : Nat) (w : World) (hn : l.length = n) (hl : n ≤ 4294967296) (hx : Octs w A l) :
    Calls Try.prog 33 #[.slice A n c] w fun e w' => e = .returned (.int .u32 ((Mb.crcSum l : Nat) : Int)) ∧ w = w' := by
  have HN := Lib.hid hn
  clear hn
  go_enter Try.func33, Try.ntmps33
  go_wp2
  go_loop [3, 4] (fun u' i => ∃ j r : Nat, j ≤ n ∧ i = .int .i64 j ∧ u' = .int .u32 (r : Int) ∧ r < 4294967296 ∧ Hid (Mb.reg Mb.mask32 (l.take j) = r)) (fun _ i => n - (intOf i).toNat)
  case atStart => exact ⟨0, Mb.mask32, by omega, rfl, rfl, by decide, Lib.hid rfl⟩
  case round =>
    obtain ⟨j, r, hj, rfl, rfl, hr, HR⟩ := hrel
    by_cases hlt : j < n
    · have hl1 : j < l.length := by rw [HN.out]; exact hlt
      obtain ⟨b, o, rfl, hcell⟩ := hx.at_ hl1
      have HS : Hid (Mb.reg Mb.mask32 (l.take (j + 1)) = Mb.take r l[j]) := by
        unfold Hid
        rw [List.take_succ_eq_append_getElem hl1, Mb.reg_append, HR.out]; rfl
      have hlt2 := Mb.take_lt hr l[j]
      go_wp2_with (go_at_call 55; refine (f130_any _ _ _ hr).mono ?_; rintro e w2 ⟨rfl, rfl⟩)
      go_round
      case rel => exact ⟨j + 1, _, by omega, by go_num, rfl, hlt2, HS⟩
      case measure => simp [intOf]; omega
    · obtain rfl : j = n := by omega
      have h1 := HR.out
      rw [List.take_of_length_le (by rw [HN.out]; exact Nat.le_refl _)] at h1
      have H1 := Lib.hid h1
      clear h1
      go_wp2
      go_ret
      refine ⟨ret_int ?_, rfl⟩
      unfold Mb.crcSum
      rw [H1.out]; exact compl32 r hr

theorem le4_cells (w : World) (v : Nat) (h : v < 4294967296) :
    Octs (w.alloc (.cells #[.int .u8 ((v : Int) % 256), .int .u8 ((v : Int) / 256 % 256), .int .u8 ((v : Int) / 65536 % 256), .int .u8 ((v : Int) / 16777216)] 5)) (some ⟨w.heap.size, 0, none⟩) (Mb.le4 v) := by
  have := Cells.new w #[.int .u8 ((v : Int) % 256), .int .u8 ((v : Int) / 256 % 256), .int .u8 ((v : Int) / 65536 % 256), .int .u8 ((v : Int) / 16777216)] 5
  have e : octs (Mb.le4 v) = [.int .u8 ((v : Int) % 256), .int .u8 ((v : Int) / 256 % 256), .int .u8 ((v : Int) / 65536 % 256), .int .u8 ((v : Int) / 16777216)] := by
    simp only [octs, Mb.le4, oct, List.map_cons, List.map_nil, UInt8.toNat_ofNat']
    have e1 : ((v / 16777216 % 2 ^ 8 : Nat) : Int) = (v : Int) / 16777216 := by omega
    have e2 : ((v / 65536 % 2 ^ 8 : Nat) : Int) = (v : Int) / 65536 % 256 := by omega
    have e3 : ((v / 256 % 2 ^ 8 : Nat) : Int) = (v : Int) / 256 % 256 := by omega
    have e4 : ((v % 2 ^ 8 : Nat) : Int) = (v : Int) % 256 := by omega
    rw [e1, e2, e3, e4]
  unfold Octs
  rw [e]
  exact this

end Go.Proofs.Ytgpnmmgoachajaa
/- Superblocks (layer 5): the document's Put. -/
namespace Go.Proofs.Ytgpnmmgoachajaa
open Go.RowKit
open Go.Proofs

section
variable {w : World} {ops : Array Oper} {o : Oper} {a : Act} {K : Act → World → Prop} {Q : Exit → Act → World → Prop} {E : Prop}
/-- 'string(b)', as one step of a region that draws its order. -/
theorem step_str (hgd : o.guard = none) (x : Operand) (ho : o.op = .convert 22 9 x) (A : Option Addr) (l : List UInt8) (n c : Nat) (hx : a.eval x = .slice A n c) (hn : l.length = n) (hO : Octs w A l)
    (h : K (a.put o.dst (strOf l)) w) : if Region.wanted o (yielded ops a.tmps) = true then Oper.wp Try.prog o a w K Q else E := by
  have hw : Region.wanted o (yielded ops a.tmps) = true := by simp [Region.wanted, hgd]
  have hr := conv_str A l n c w hn hO
  rw [if_pos hw]
  unfold Oper.wp
  simp [execOp, ho, hx, hr, Result.andThen]
  exact h
/-- 'make([]byte, n)', as one step of a region that draws its order. -/
theorem step_make (hgd : o.guard = none) (x y : Operand) (ho : o.op = .makeSlice 22 x y) (n : Nat) (hn : n ≤ 4294967296) (hx : a.eval x = .int .i64 (n : Int)) (hy : a.eval y = .int .i64 (n : Int))
    (h : K (a.put o.dst (.slice (some ⟨w.heap.size, 0, none⟩) n n)) (w.alloc (.cells (zeros n) 5))) : if Region.wanted o (yielded ops a.tmps) = true then Oper.wp Try.prog o a w K Q else E := by
  have hw : Region.wanted o (yielded ops a.tmps) = true := by simp [Region.wanted, hgd]
  have hr := make_octs n hn w
  rw [if_pos hw]
  unfold Oper.wp execOp
  simp only [ho, hx, hy, hr, Sem.run_bind, Sem.run_pure, Result.andThen_ok]
  exact h
/-- '[]byte(s)', as one step of a region that draws its order. -/
theorem step_bytes (hgd : o.guard = none) (x : Operand) (ho : o.op = .convert 9 22 x) (s : ByteArray) (l : List UInt8) (hx : a.eval x = .string s) (hs : s = ⟨l.toArray⟩)
    (h : ∀ A c w', l.length ≤ c → Octs w' A l → Ext w w' → K (a.put o.dst (.slice A l.length c)) w') : if Region.wanted o (yielded ops a.tmps) = true then Oper.wp Try.prog o a w K Q else E := by
  subst hs
  have hw : Region.wanted o (yielded ops a.tmps) = true := by simp [Region.wanted, hgd]
  obtain ⟨c, w', hr, h1, h2, h3⟩ := conv_octs l w
  rw [if_pos hw]
  unfold Oper.wp
  simp [execOp, ho, hx, hr, Result.andThen]
  exact h _ c w' h1 h2 h3
end
theorem zoct (W : World) : Octs (W.alloc (.cells (zeros 76) 5)) (some ⟨W.heap.size, 0, none⟩) (List.replicate 76 0) := by
  obtain ⟨_, _, e, _, y⟩ := (own_zeros 76 (by decide) W).octs_form
  injection e with e1
  rw [← e1] at y
  exact y
/-- The text after j numbers. -/
def txt (s : Sup) (j : Nat) : List UInt8 := [77, 79, 84, 72] ++ leN 8 (u64of s.gen) ++ midTo s j
theorem txt_len (s : Sup) (j : Nat) : (txt s j).length ≤ 40 := by
  have := midTo_len s j
  simp only [txt, List.length_append, length_leN, List.length_cons, List.length_nil]
  omega
theorem txt_all (s : Sup) : (txt s 7).length = 40 := by
  rw [txt, midTo_all]
  simp only [List.length_append, length_leN, length_supMid, List.length_cons, List.length_nil]
theorem nums_len (s : Sup) : (supNums s).length = 7 := rfl

end Go.Proofs.Ytgpnmmgoachajaa
/- A drawn region's condition made stronger on the way. -/
namespace Go.Proofs.Ytgpnmmgoachajaa
open Go.RowKit
open Go.Proofs

theorem held_more {P : Program} {md : Region.Mode} {ops : Array Oper} {Q : Exit → Act → World → Prop} {S S' : World → Prop} (hSS : ∀ w, S' w → S w) :
    ∀ (fuel : Nat) (listed : Array Bool) (a : Act) (w : World), wpAnyH P md ops Q S' fuel listed a w → wpAnyH P md ops Q S fuel listed a w
  | 0, _, _, _, h => h
  | fuel + 1, _, _, _, h => ⟨h.1, fun i hi => wpOp_mono (fun a' w' h' => ⟨hSS _ h'.1, held_more hSS fuel _ a' w' h'.2⟩) (h.2 i hi)⟩
end Go.Proofs.Ytgpnmmgoachajaa
/- A drawn region's held condition may be made stronger on the way: what a call made is then there for the readings behind it. -/
namespace Go.Proofs.Ytgpnmmgoachajaa
open Go.RowKit
open Go.Proofs

end Go.Proofs.Ytgpnmmgoachajaa
/- The parts of layer 6: the document's Put. -/
namespace Go.Proofs.Ytgpnmmgoachajaa
open Go.RowKit
open Go.Proofs

end Go.Proofs.Ytgpnmmgoachajaa
/- Parts of strings, and the document's numbers in them. -/
namespace Go.Proofs.Ytgpnmmgoachajaa
open Go.RowKit
open Go.Proofs

theorem extract_mid (l : List UInt8) (i n j : Nat) (hij : i + n = j) : (⟨l.toArray⟩ : ByteArray).extract i j = ⟨((l.drop i).take n).toArray⟩ := by
  subst hij
  apply ByteArray.ext
  apply Array.ext'
  rw [ByteArray.data_extract]
  simp only [List.extract_toArray, List.extract_eq_take_drop, List.toList_toArray]
  rw [show i + n - i = n by omega]
/-- 's[i:j]'. -/
theorem str_mid (l : List UInt8) (i n j : Nat) (hij : i + n = j) (hj : j ≤ l.length) (w : World) :
    (Instr.slice 9 (strOf l) (some (.int .i64 (i : Int))) (some (.int .i64 (j : Int))) none).run Try.prog w = .ok (strOf ((l.drop i).take n)) w := by
  have h := run_slice_string (P := Try.prog) w 9 ⟨l.toArray⟩ .i64 .i64 (i : Int) (j : Int) Try.underlying9 (by omega) (by omega) (by show (j : Int) ≤ (l.toArray.size : Int); rw [List.size_toArray]; omega)
  rw [h, show ((i : Int).toNat) = i by omega, show ((j : Int).toNat) = j by omega, extract_mid l i n j hij]
end Go.Proofs.Ytgpnmmgoachajaa
/- Superblocks (layer 5): the law's plain, and Newest. -/
namespace Go.Proofs.Ytgpnmmgoachajaa
open Go.RowKit
open Go.Proofs

def plainS (g : Int) : Sup := ⟨g, 4, 1, 0, 0, 0, 1, 0⟩
def nwStep (b o : Option Sup) (i : Int) : Option Sup := match o with
  | some s => if s.gen % 2 = i ∧ (b.getD sup0).gen < s.gen then some s else b
  | none => b
def nwTo (l : List UInt8) : Nat → Option Sup
  | 0 => none
  | j + 1 => nwStep (nwTo l j) (supGet ((l.drop (128 * j)).take 128)) (j : Int)
theorem nwTo_two (l : List UInt8) (h : l.length = 256) : nwTo l 2 = supNewest l := by
  have e0 : (l.drop (128 * 0)).take 128 = l.take 128 := rfl
  have e1 : (l.drop (128 * 1)).take 128 = l.drop 128 := List.take_of_length_le (by rw [List.length_drop]; omega)
  rw [supNewest, if_pos h, nwTo, nwTo, nwTo, e0, e1]
  have h1 : nwStep none (supGet (l.take 128)) ((0 : Nat) : Int) = supPick (supGet (l.take 128)) 0 := by
    cases hx : supGet (l.take 128) with
    | none => rfl
    | some s =>
      have := (get_some hx).1.1
      show (if s.gen % 2 = 0 ∧ 0 < s.gen then some s else none) = if s.gen % 2 = 0 then some s else none
      by_cases hp : s.gen % 2 = 0
      · rw [if_pos hp, if_pos ⟨hp, by omega⟩]
      · rw [if_neg hp, if_neg (fun e => hp e.1)]
  rw [h1]
  cases hy : supGet (l.drop 128) with
  | none => cases supPick (supGet (l.take 128)) 0 <;> rfl
  | some t =>
    have h2 := (get_some hy).1.1
    cases hx : supPick (supGet (l.take 128)) 0 with
    | none =>
      show (if t.gen % 2 = 1 ∧ 0 < t.gen then some t else none) = if t.gen % 2 = 1 then some t else none
      by_cases hp : t.gen % 2 = 1
      · rw [if_pos hp, if_pos ⟨hp, by omega⟩]
      · rw [if_neg hp, if_neg (fun e => hp e.1)]
    | some s =>
      show (if t.gen % 2 = 1 ∧ s.gen < t.gen then some t else some s) = supNewer (some s) (if t.gen % 2 = 1 then some t else none)
      by_cases hp : t.gen % 2 = 1
      · rw [if_pos hp]
        by_cases hq : s.gen < t.gen
        · rw [if_pos ⟨hp, hq⟩]
          show some t = if s.gen < t.gen then some t else some s
          rw [if_pos hq]
        · rw [if_neg (fun e => hq e.2)]
          show some s = if s.gen < t.gen then some t else some s
          rw [if_neg hq]
      · rw [if_neg hp, if_neg (fun e => hp e.1)]
        rfl
theorem and_one_nat (a : Nat) (h : a < 9223372036854775808) : bits .and .i64 (a : Int) (1 : Int) = ((a % 2 : Nat) : Int) := by
  show IntKind.i64.wrap ((BitVec.ofInt 64 (a : Int) &&& BitVec.ofInt 64 1).toNat : Int) = _
  rw [BitVec.toNat_and, ofInt_u64 a (by omega), show (BitVec.ofInt 64 1).toNat = 1 by decide, Nat.and_one_is_mod]
  simp [IntKind.wrap, IntKind.bits, IntKind.signed]
  omega
theorem and_gen {l : List UInt8} (s : Sup) (h : supGet l = some s) : bits .and .i64 s.gen 1 = s.gen % 2 := by
  have h1 := (get_some h).1
  obtain ⟨a, ha⟩ : ∃ a : Nat, s.gen = (a : Int) := ⟨s.gen.toNat, by have := h1.1; omega⟩
  have := h1.2.1
  rw [ha, and_one_nat a (by omega)]
  omega
theorem newest_short (l : List UInt8) (h : l.length ≠ 256) : supNewest l = none := by rw [supNewest, if_neg h]

end Go.Proofs.Ytgpnmmgoachajaa
