/- The document's sum and seal (layer 2), and the document's example. -/
import Derived.Test.YtgpnmmgoachajaaSlices
import Derived.Test.YtgpnmmgoachajaaStr
namespace Go.Proofs.Ytgpnmmgoachajaa
open Go.RowKit
open Go.Proofs

theorem u32_par (x y : Nat) : bits .xor .u32 ((x : Int) % 2) ((y : Int) % 2) = (((x ^^^ y) % 2 : Nat) : Int) := by
  have h := u32_xor_nat (x % 2) (y % 2) (by omega) (by omega)
  have e := @Nat.xor_mod_two_pow x y 1
  rw [Nat.pow_one] at e
  rw [e]
  simpa using h
theorem ref_yes (x y : Nat) (hx : x < 4294967296) (h : (bits .xor .u32 ((x : Int) % 2) ((y : Int) % 2) == 1) = true) :
    bits .xor .u32 ((x : Int) / 2) 3988292384 = ((Mb.refBit x y : Nat) : Int) := by
  rw [u32_par, beq_iff_eq] at h
  unfold Mb.refBit
  rw [if_pos (by omega)]
  have e : (x : Int) / 2 = ((x / 2 : Nat) : Int) := by omega
  rw [e]
  exact u32_xor_nat (x / 2) 3988292384 (by omega) (by decide)
theorem ref_no (x y : Nat) (h : (bits .xor .u32 ((x : Int) % 2) ((y : Int) % 2) == 1) = false) :
    (x : Int) / 2 = ((Mb.refBit x y : Nat) : Int) := by
  rw [u32_par, beq_eq_false_iff_ne] at h
  unfold Mb.refBit
  rw [if_neg (by omega), Nat.xor_zero]
  omega
theorem refBit_lt (x y : Nat) (hx : x < 4294967296) : Mb.refBit x y < 4294967296 := by
  unfold Mb.refBit
  refine Nat.xor_lt_two_pow (n := 32) (by omega) ?_
  split <;> omega
theorem ref_snd (y : Nat) : (y : Int) / 2 = ((y / 2 : Nat) : Int) := by omega
theorem ref_next {j u c x y : Nat} (h : Mb.refSteps j (u, c) = (x, y)) : Mb.refSteps (j + 1) (u, c) = (Mb.refBit x y, y / 2) := by
  show Mb.refStep (Mb.refSteps j (u, c)) = _
  rw [h]; rfl

set_option maxRecDepth 100000 in
theorem f130_any (u : Nat) (c : UInt8) (w : World) (hu : u < 4294967296) :
    Calls Try.prog 55 #[.int .u32 (u : Int), .int .u8 ((c.toNat : Nat) : Int)] w fun e w' => e = .returned (.int .u32 ((Mb.take u c : Nat) : Int)) ∧ w = w' := by
  have HT := Lib.hid (Mb.refSteps_take u c)
  have hc := c.toNat_lt
  generalize Mb.take u c = t at HT ⊢
  generalize c.toNat = d at HT hc ⊢
  go_enter Try.func55, Try.ntmps55
  go_wp2
  go_loop [0, 1, 5] (fun a b i => ∃ j x y : Nat, j ≤ 8 ∧ i = .int .i64 j ∧ a = .int .u32 (x : Int) ∧ b = .int .u8 (y : Int) ∧ x < 4294967296 ∧ y < 256 ∧ Hid (Mb.refSteps j (u, d) = (x, y))) (fun _ _ i => 8 - (intOf i).toNat)
  case atStart => exact ⟨0, u, d, by omega, rfl, rfl, rfl, hu, hc, Lib.hid rfl⟩
  case round =>
    obtain ⟨j, x, y, hj, rfl, rfl, rfl, hx, hy, hr⟩ := hrel
    by_cases hlt : j < 8
    · go_wp2_with fail
      · go_round
        case rel =>
          exact ⟨j + 1, Mb.refBit x y, y / 2, by omega, by go_num, val_int (ref_yes x y hx (by assumption)), val_int (ref_snd y), refBit_lt x y hx, by omega, Lib.hid (ref_next hr.out)⟩
        case measure => simp [intOf]; omega
      · go_round
        case rel => exact ⟨j + 1, Mb.refBit x y, y / 2, by omega, by go_num, val_int (ref_no x y (by assumption)), val_int (ref_snd y), refBit_lt x y hx, by omega, Lib.hid (ref_next hr.out)⟩
        case measure => simp [intOf]; omega
    · go_wp2
      go_ret
      obtain rfl : j = 8 := by omega
      have h := HT.out
      rw [hr.out] at h
      exact ⟨ret_int (by rw [← h]), rfl⟩

theorem compl32 (u : Nat) (h : u < 4294967296) : 4294967295 - (u : Int) = ((4294967295 ^^^ u : Nat) : Int) := by
  have e : 4294967295 ^^^ u = 4294967295 - u := by
    have h2 : (4294967295 - u) ^^^ u = 4294967295 := by
      apply Nat.eq_of_testBit_eq
      intro i
      rw [Nat.testBit_xor]
      have e1 : (4294967295 : Nat) = 2 ^ 32 - 1 := by decide
      rw [show 4294967295 - u = 2 ^ 32 - (u + 1) by omega, Nat.testBit_two_pow_sub_succ h, e1, Nat.testBit_two_pow_sub_one]
      by_cases hi : i < 32
      · simp [hi]
      · have : u.testBit i = false := Nat.testBit_lt_two_pow (Nat.lt_of_lt_of_le (show u < 2 ^ 32 from h) (Nat.pow_le_pow_right (by decide) (show 32 ≤ i by omega)))
        simp [hi, this]
    have h3 := congrArg (· ^^^ u) h2
    simpa [Nat.xor_assoc, Nat.xor_self] using h3.symm
  rw [e]; omega

set_option maxRecDepth 100000 in
theorem f43_n (A : Option Addr) (l : List UInt8) (n c : Nat) (w : World) (hn : l.length = n) (hl : n ≤ 4294967296) (hx : Octs w A l) :
    Calls Try.prog 33 #[.slice A n c] w fun e w' => e = .returned (.int .u32 ((Mb.crcSum l : Nat) : Int)) ∧ w = w' := by
  have HN := Lib.hid hn
  clear hn
  go_enter Try.func33, Try.ntmps33
  go_wp2
  go_loop [3, 4] (fun u' i => ∃ j r : Nat, j ≤ n ∧ i = .int .i64 j ∧ u' = .int .u32 (r : Int) ∧ r < 4294967296 ∧ Hid (Mb.reg Mb.mask32 (l.take j) = r)) (fun _ i => n - (intOf i).toNat)
  case atStart => exact ⟨0, Mb.mask32, by omega, rfl, rfl, by decide, Lib.hid rfl⟩
  case round =>
    obtain ⟨j, r, hj, rfl, rfl, hr, HR⟩ := hrel
    by_cases hlt : j < n
    · have hl1 : j < l.length := by rw [HN.out]; exact hlt
      obtain ⟨b, o, rfl, hcell⟩ := hx.at_ hl1
      have HS : Hid (Mb.reg Mb.mask32 (l.take (j + 1)) = Mb.take r l[j]) := by
        unfold Hid
        rw [List.take_succ_eq_append_getElem hl1, Mb.reg_append, HR.out]; rfl
      have hlt2 := Mb.take_lt hr l[j]
      go_wp2_with (go_at_call 55; refine (f130_any _ _ _ hr).mono ?_; rintro e w2 ⟨rfl, rfl⟩)
      go_round
      case rel => exact ⟨j + 1, _, by omega, by go_num, rfl, hlt2, HS⟩
      case measure => simp [intOf]; omega
    · obtain rfl : j = n := by omega
      have h1 := HR.out
      rw [List.take_of_length_le (by rw [HN.out]; exact Nat.le_refl _)] at h1
      have H1 := Lib.hid h1
      clear h1
      go_wp2
      go_ret
      refine ⟨ret_int ?_, rfl⟩
      unfold Mb.crcSum
      rw [H1.out]; exact compl32 r hr

theorem le4_cells (w : World) (v : Nat) (h : v < 4294967296) :
    Octs (w.alloc (.cells #[.int .u8 ((v : Int) % 256), .int .u8 ((v : Int) / 256 % 256), .int .u8 ((v : Int) / 65536 % 256), .int .u8 ((v : Int) / 16777216)] 5)) (some ⟨w.heap.size, 0, none⟩) (Mb.le4 v) := by
  have := Cells.new w #[.int .u8 ((v : Int) % 256), .int .u8 ((v : Int) / 256 % 256), .int .u8 ((v : Int) / 65536 % 256), .int .u8 ((v : Int) / 16777216)] 5
  have e : octs (Mb.le4 v) = [.int .u8 ((v : Int) % 256), .int .u8 ((v : Int) / 256 % 256), .int .u8 ((v : Int) / 65536 % 256), .int .u8 ((v : Int) / 16777216)] := by
    simp only [octs, Mb.le4, oct, List.map_cons, List.map_nil, UInt8.toNat_ofNat']
    have e1 : ((v / 16777216 % 2 ^ 8 : Nat) : Int) = (v : Int) / 16777216 := by omega
    have e2 : ((v / 65536 % 2 ^ 8 : Nat) : Int) = (v : Int) / 65536 % 256 := by omega
    have e3 : ((v / 256 % 2 ^ 8 : Nat) : Int) = (v : Int) / 256 % 256 := by omega
    have e4 : ((v % 2 ^ 8 : Nat) : Int) = (v : Int) % 256 := by omega
    rw [e1, e2, e3, e4]
  unfold Octs
  rw [e]
  exact this

end Go.Proofs.Ytgpnmmgoachajaa
