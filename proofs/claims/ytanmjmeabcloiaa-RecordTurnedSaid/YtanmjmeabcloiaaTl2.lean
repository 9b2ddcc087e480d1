/- The two lists: Add, Touch, Remove, Active, Inactive and Victim. -/
import Derived.Test.YtanmjmeabcloiaaTl
namespace Go.Proofs.Ytanmjmeabcloiaa
open Go.RowKit
open Go.Proofs

def tAdd (n x : Int) (A I : List Int) : List Int × List Int := if 0 ≤ x ∧ x < n then even (A.erase x) (I.erase x ++ [x]) else (A, I)
def tTouch (n x : Int) (A I : List Int) : List Int × List Int := if (0 ≤ x ∧ x < n) ∧ (x ∈ A ∨ x ∈ I) then even (A.erase x ++ [x]) (I.erase x) else (A, I)
def tRemove (x : Int) (A I : List Int) : List Int × List Int := even (A.erase x) (I.erase x)

theorem erase_le (l : List Int) (x : Int) : (l.erase x).length ≤ l.length := List.length_erase_le

/-- Is it held by nobody? -/
def free (held : List Int) (y : Int) : Bool := !decide (y ∈ held)
def victim (held A I : List Int) : Int := ((I ++ A).find? (free held)).getD (-1)

theorem idx_none (p : Int → Bool) : ∀ (l : List Int) (i : Nat) (d : Int), l.find? p = none → Lib.idxByFrom (fun _ y => p y) d l i = -1
  | [], _, _, _ => rfl
  | y :: r, i, d, h => by
    rw [List.find?_cons] at h
    cases hp : p y with
    | true => rw [hp] at h; cases h
    | false => rw [hp] at h; simp only [Lib.idxByFrom, hp]; exact idx_none p r (i + 1) d h
theorem idx_some (p : Int → Bool) : ∀ (l : List Int) (i : Nat) (d x : Int), l.find? p = some x → ∃ k, k < l.length ∧ l[k]? = some x ∧ Lib.idxByFrom (fun _ y => p y) d l i = ((i + k : Nat) : Int)
  | [], _, _, _, h => by cases h
  | y :: r, i, d, x, h => by
    rw [List.find?_cons] at h
    cases hp : p y with
    | true => rw [hp] at h; cases h; exact ⟨0, by simp, rfl, by simp [Lib.idxByFrom, hp]⟩
    | false =>
      rw [hp] at h
      obtain ⟨k, h1, h2, h3⟩ := idx_some p r (i + 1) d x h
      exact ⟨k + 1, by simp; omega, by simpa using h2, by simp only [Lib.idxByFrom, hp]; rw [if_neg (by simp), h3]; omega⟩
end Go.Proofs.Ytanmjmeabcloiaa
