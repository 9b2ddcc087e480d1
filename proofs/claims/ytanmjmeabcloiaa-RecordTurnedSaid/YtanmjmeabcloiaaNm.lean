/- Layer 4's reading: Num, Signed, Text. -/
import Derived.Test.YtanmjmeabcloiaaRd
import Derived.Test.YtanmjmeabcloiaaBi
namespace Go.Proofs.Ytanmjmeabcloiaa
open Go.RowKit
open Go.Proofs

set_option maxRecDepth 100000 in
theorem f81_any (n : Int) (w : World) : Calls Try.prog 58 #[.int .i64 n] w fun e w' => e = .returned (.int .i64 ((wid n : Nat) : Int)) ∧ w = w' := by
  rw [← wid_eq]
  by_cases a : n < 0
  · go_enter Try.func58, Try.ntmps58
    go_wp2
    go_ret
    exact ⟨ret_int (by omega), rfl⟩
  · by_cases b : 8 < n
    all_goals
      go_enter Try.func58, Try.ntmps58
      go_wp2
      go_ret
      exact ⟨ret_int (by omega), rfl⟩

/-- A number that is taken off. -/
def rNum (n : Int) (B : List UInt8) (f : Bool) : Int := i64of (getN (rTake (wid n) B f).1)
def rSgn (n : Int) (B : List UInt8) (f : Bool) : Int := sgnN (u64of (rNum n B f)) (8 * wid n)
theorem rTake_le (n : Nat) (B : List UInt8) (f : Bool) : (rTake n B f).1.length ≤ n := by
  unfold rTake
  split
  · exact Nat.zero_le _
  · simp; omega
theorem rTake_two (n : Nat) (B : List UInt8) (f : Bool) : (rTake n B f).1.length = 0 ∨ (rTake n B f).1.length = n := by
  unfold rTake
  split
  · exact .inl rfl
  · rename_i h; simp only [not_or] at h; right; simp; omega

set_option maxRecDepth 100000 in
theorem f35_any (k : Nat) (F : Nat → Prop) (B : List UInt8) (f : Bool) (n : Int) (w : World) (h : RdAt w k F B f) :
    Calls Try.prog 43 #[.pointer (some ⟨k, 0, none⟩), .int .i64 n] w fun e w' => e = .returned (.int .i64 (rNum n B f)) ∧ RdAt w' k F (rTake (wid n) B f).2.1 (rTake (wid n) B f).2.2 ∧ Upd (fun b => b = k) w w' := by
  have HT := f73_any k F B f (wid n) w (by omega) h
  have hle := rTake_le (wid n) B f
  have hw := wid_le n
  unfold rNum
  obtain ⟨⟨T, B1, f1⟩, hr⟩ : ∃ r, r = rTake (wid n) B f := ⟨_, rfl⟩
  rw [← hr] at HT hle ⊢
  simp only at HT hle ⊢
  clear hr
  have h8 : T.take 8 = T := List.take_of_length_le (by omega)
  have HG := fun A c W hc hx => f133_any A T c W (by omega) hc hx
  rw [h8] at HG
  clear h h8
  go_enter Try.func43, Try.ntmps43
  go_wp2_with (first
    | (go_at_call 58; refine (f81_any n _).mono ?_; rintro e w' ⟨rfl, rfl⟩)
    | (go_at_call 57; refine HT.mono ?_; clear HT; rintro e w1 ⟨A, c, rfl, hc, hx, hb, t1, u1⟩)
    | (go_at_call 56; refine (HG A c w1 hc hx).mono ?_; rintro e w2 ⟨rfl, rfl⟩))
  go_ret
  exact ⟨rfl, t1, u1⟩

/-- A text that is taken off. -/
def rText (B : List UInt8) (f : Bool) : List UInt8 × List UInt8 × Bool := rTake (rNum 2 B f) (rTake 2 B f).2.1 (rTake 2 B f).2.2
theorem rNum_two (B : List UInt8) (f : Bool) : 0 ≤ rNum 2 B f ∧ rNum 2 B f ≤ 65535 := by
  have h1 := rTake_le (wid 2) B f
  have h2 := getN_lt (rTake (wid 2) B f).1
  have h3 : (256 : Nat) ^ (rTake (wid 2) B f).1.length ≤ 256 ^ 2 := Nat.pow_le_pow_right (by decide) h1
  have h4 : (256 : Nat) ^ 2 = 65536 := by decide
  unfold rNum
  rw [i64of_lo _ (by omega)]
  omega

end Go.Proofs.Ytanmjmeabcloiaa
