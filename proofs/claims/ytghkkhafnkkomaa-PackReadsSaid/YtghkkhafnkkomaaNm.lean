/- Layer 4's reading: Num, Signed, Text. -/
import Derived.Test.YtghkkhafnkkomaaRd
import Derived.Test.YtghkkhafnkkomaaBi
namespace Go.Proofs.Ytghkkhafnkkomaa
open Go.RowKit
open Go.Proofs

set_option maxRecDepth 100000 in
theorem f81_any (n : Int) (w : World) : Calls Try.prog 81 #[.int .i64 n] w fun e w' => e = .returned (.int .i64 ((wid n : Nat) : Int)) ∧ w = w' := by
  rw [← wid_eq]
  by_cases a : n < 0
  · go_enter Try.func81, Try.ntmps81
    go_wp2
    go_ret
    exact ⟨ret_int (by omega), rfl⟩
  · by_cases b : 8 < n
    all_goals
      go_enter Try.func81, Try.ntmps81
      go_wp2
      go_ret
      exact ⟨ret_int (by omega), rfl⟩

set_option maxRecDepth 100000 in
theorem f88_any (n : Int) (k : Nat) (hk : k ≤ 64) (w : World) : Calls Try.prog 88 #[.int .i64 n, .int .i64 k] w fun e w' => e = .returned (.int .i64 (sgnN (u64of n) k)) ∧ w = w' := by
  have HC := fun W => f180_in (k : Int) 64 W (by omega) (by omega)
  have hsub : (64 : Int) - (k : Int) = ((64 - k : Nat) : Int) := by omega
  rw [← sgn_prog _ _ hk]
  have hm : 64 - k ≤ 64 := by omega
  generalize 64 - k = m at *
  go_enter Try.func88, Try.ntmps88
  go_wp2_with (go_at_call 99; refine (HC _).mono ?_; rintro e w' ⟨rfl, rfl⟩)
  go_ret
  exact ⟨ret_int (by
    show wrap64 (n * 2 ^ m) / 2 ^ m = _
    congr 1
    rw [IntKind.wrap_i64]
    unfold wrap64
    rfl), rfl⟩

/-- A number that is taken off. -/
def rNum (n : Int) (B : List UInt8) (f : Bool) : Int := i64of (getN (rTake (wid n) B f).1)
def rSgn (n : Int) (B : List UInt8) (f : Bool) : Int := sgnN (u64of (rNum n B f)) (8 * wid n)
theorem rTake_le (n : Nat) (B : List UInt8) (f : Bool) : (rTake n B f).1.length ≤ n := by
  unfold rTake
  split
  · exact Nat.zero_le _
  · simp; omega
theorem rTake_two (n : Nat) (B : List UInt8) (f : Bool) : (rTake n B f).1.length = 0 ∨ (rTake n B f).1.length = n := by
  unfold rTake
  split
  · exact .inl rfl
  · rename_i h; simp only [not_or] at h; right; simp; omega

set_option maxRecDepth 100000 in
theorem f35_any (k : Nat) (F : Nat → Prop) (B : List UInt8) (f : Bool) (n : Int) (w : World) (h : RdAt w k F B f) :
    Calls Try.prog 35 #[.pointer (some ⟨k, 0, none⟩), .int .i64 n] w fun e w' => e = .returned (.int .i64 (rNum n B f)) ∧ RdAt w' k F (rTake (wid n) B f).2.1 (rTake (wid n) B f).2.2 ∧ Upd (fun b => b = k) w w' := by
  have HT := f73_any k F B f (wid n) w (by omega) h
  have hle := rTake_le (wid n) B f
  have hw := wid_le n
  unfold rNum
  obtain ⟨⟨T, B1, f1⟩, hr⟩ : ∃ r, r = rTake (wid n) B f := ⟨_, rfl⟩
  rw [← hr] at HT hle ⊢
  simp only at HT hle ⊢
  clear hr
  have h8 : T.take 8 = T := List.take_of_length_le (by omega)
  have HG := fun A c W hc hx => f133_any A T c W (by omega) hc hx
  rw [h8] at HG
  clear h h8
  go_enter Try.func35, Try.ntmps35
  go_wp2_with (first
    | (go_at_call 81; refine (f81_any n _).mono ?_; rintro e w' ⟨rfl, rfl⟩)
    | (go_at_call 73; refine HT.mono ?_; clear HT; rintro e w1 ⟨A, c, rfl, hc, hx, hb, t1, u1⟩)
    | (go_at_call 80; refine (HG A c w1 hc hx).mono ?_; rintro e w2 ⟨rfl, rfl⟩))
  go_ret
  exact ⟨rfl, t1, u1⟩

set_option maxRecDepth 100000 in
theorem f41_any (k : Nat) (F : Nat → Prop) (B : List UInt8) (f : Bool) (n : Int) (w : World) (h : RdAt w k F B f) :
    Calls Try.prog 41 #[.pointer (some ⟨k, 0, none⟩), .int .i64 n] w fun e w' => e = .returned (.int .i64 (rSgn n B f)) ∧ RdAt w' k F (rTake (wid n) B f).2.1 (rTake (wid n) B f).2.2 ∧ Upd (fun b => b = k) w w' := by
  have HT := f35_any k F B f n w h
  have hw := wid_le n
  have hm : IntKind.i64.wrap (8 * ((wid n : Nat) : Int)) = ((8 * wid n : Nat) : Int) := by
    rw [IntWalk.i64_in _ (by omega)]; omega
  have HS := fun W => f88_any (rNum n B f) (8 * wid n) (by omega) W
  clear hm
  have h88 : 8 * ((wid n : Nat) : Int) = ((8 * wid n : Nat) : Int) := by omega
  rw [← h88] at HS
  unfold rSgn
  generalize sgnN (u64of (rNum n B f)) (8 * wid n) = R at *
  generalize rNum n B f = N at *
  generalize rTake (wid n) B f = Z at *
  clear h h88
  have HWI := fun W => f81_any n W
  generalize wid n = q at *
  go_enter Try.func41, Try.ntmps41
  go_wp2_with (first
    | (go_at_call 35; refine HT.mono ?_; clear HT; rintro e w1 ⟨rfl, t1, u1⟩)
    | (go_at_call 81; refine (HWI _).mono ?_; rintro e w' ⟨rfl, rfl⟩)
    | (go_at_call 88; refine (HS _).mono ?_; rintro e w2 ⟨rfl, rfl⟩))
  go_ret
  exact ⟨rfl, t1, u1⟩

/-- A text that is taken off. -/
def rText (B : List UInt8) (f : Bool) : List UInt8 × List UInt8 × Bool := rTake (rNum 2 B f) (rTake 2 B f).2.1 (rTake 2 B f).2.2
theorem rNum_two (B : List UInt8) (f : Bool) : 0 ≤ rNum 2 B f ∧ rNum 2 B f ≤ 65535 := by
  have h1 := rTake_le (wid 2) B f
  have h2 := getN_lt (rTake (wid 2) B f).1
  have h3 : (256 : Nat) ^ (rTake (wid 2) B f).1.length ≤ 256 ^ 2 := Nat.pow_le_pow_right (by decide) h1
  have h4 : (256 : Nat) ^ 2 = 65536 := by decide
  unfold rNum
  rw [i64of_lo _ (by omega)]
  omega

set_option maxRecDepth 100000 in
theorem f37_any (k : Nat) (F : Nat → Prop) (B : List UInt8) (f : Bool) (w : World) (h : RdAt w k F B f) :
    Calls Try.prog 37 #[.pointer (some ⟨k, 0, none⟩)] w fun e w' => e = .returned (strOf (rText B f).1) ∧ RdAt w' k F (rText B f).2.1 (rText B f).2.2 ∧ Upd (fun b => b = k) w w' := by
  have HT := f35_any k F B f 2 w h
  have hn := rNum_two B f
  rw [show wid 2 = 2 by decide] at HT
  unfold rText
  simp only [Int.cast_ofNat_Int] at HT
  generalize rNum 2 B f = N at *
  obtain ⟨⟨T, B1, f1⟩, hr⟩ : ∃ r, r = rTake 2 B f := ⟨_, rfl⟩
  rw [← hr] at HT ⊢
  simp only at HT ⊢
  clear hr
  have HU := fun W H => f73_any k F B1 f1 N W hn.1 H
  obtain ⟨⟨T2, B2, f2⟩, hr⟩ : ∃ r, r = rTake N B1 f1 := ⟨_, rfl⟩
  rw [← hr] at ⊢
  simp only [← hr] at HU
  simp only
  clear hr
  clear h
  go_enter Try.func37, Try.ntmps37
  go_wp2_with (first
    | (go_at_call 35; refine HT.mono ?_; clear HT; rintro e w1 ⟨rfl, t1, u1⟩)
    | (go_at_call 73; refine (HU _ t1).mono ?_; rintro e w2 ⟨A, c, rfl, hc, hx, hb, t2, u2⟩; have k1 := conv_str A T2 T2.length c w2 rfl hx))
  go_ret
  exact ⟨rfl, t2, u1.trans u2⟩
end Go.Proofs.Ytghkkhafnkkomaa
