/- Strings of octets: 'string(b)'. -/
import Derived.Test.YtgpnmmgoachajaaCuts
namespace Go.Proofs.Ytgpnmmgoachajaa
open Go.RowKit
open Go.Proofs

/-- A string of octets. -/
abbrev strOf (l : List UInt8) : Value := .string ⟨l.toArray⟩

theorem strOfNums_octs (l : List UInt8) : strOfNums (l.map fun c => ((c.toNat : Nat) : Int)) = ⟨l.toArray⟩ := by
  unfold strOfNums
  congr 2
  rw [List.map_map]
  conv => rhs; rw [← List.map_id l]
  exact List.map_congr_left fun c _ => by simp

/-- 'string(b)'. -/
theorem conv_str (A : Option Addr) (l : List UInt8) (n c : Nat) (w : World) (hn : l.length = n) (hx : Octs w A l) :
    (convert 22 9 (.slice A n c)).run Try.prog w = .ok (strOf l) w := by
  rcases Nat.eq_zero_or_pos n with rfl | h0
  · have hl : l = [] := List.eq_nil_of_length_eq_zero hn
    subst hl
    rcases A with _ | ⟨b, o, s⟩
    · exact run_convert_bytes_nil w 22 5 Try.underlying22 Try.underlying5 0 c 9 Try.underlying9
    · have := run_convert_bytes_string (P := Try.prog) w 22 9 5 (some ⟨b, o, s⟩) 0 c Try.underlying22 Try.underlying5 Try.underlying9
      rw [this]
      simp [Conv.bytesToString, loadCells, loadCellsFrom]
      rfl
  · obtain ⟨b, o, rfl, hc⟩ := hx (by rw [length_octs]; omega)
    have := run_convert_bytes_arg w 22 5 Try.underlying22 Try.underlying5 b o n c (l.map fun c => ((c.toNat : Nat) : Int)) (by simpa using hn) (fun i hi => by
      have h1 := hc i _ (octs_get l i (by omega))
      rw [h1]
      congr 2
      simp [List.getD_eq_getElem?_getD, List.getElem?_map, List.getElem?_eq_getElem (show i < l.length by omega)]) 9 Try.underlying9
    rw [this, strOfNums_octs]
end Go.Proofs.Ytgpnmmgoachajaa
