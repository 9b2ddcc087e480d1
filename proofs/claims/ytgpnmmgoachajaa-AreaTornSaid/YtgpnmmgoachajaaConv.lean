/- '[]byte(s)' of a string that is no constant. -/
import Derived.Test.YtgpnmmgoachajaaAppo
import Derived.Test.YtgpnmmgoachajaaStr
import Derived.Lib.ConvBytes
namespace Go.Proofs.Ytgpnmmgoachajaa
open Go.RowKit
open Go.Proofs

theorem conv_octs (l : List UInt8) (w : World) : ∃ c w', (convert 9 22 (.string ⟨l.toArray⟩)).run Try.prog w = .ok (.slice (some ⟨w.heap.size, 0, none⟩) l.length c) w' ∧
    l.length ≤ c ∧ Octs w' (some ⟨w.heap.size, 0, none⟩) l ∧ Ext w w' := by
  have h := Lib.run_convert_string_bytes (P := Try.prog) w 9 22 5 ⟨l.toArray⟩ Try.underlying9 Try.underlying22 Try.underlying5
  refine ⟨_, _, h, ?_, ?_, ?_⟩
  · exact grownCap_ge w _ 0 5
  · intro h0
    refine ⟨_, _, rfl, fun i v hv => ?_⟩
    have hi : i < l.length := by
      have := (List.getElem?_eq_some_iff.1 hv).1
      simpa using this
    rw [octs_get l i hi] at hv
    rw [Nat.zero_add, Lib.bytesWorld_cell w 5 ⟨l.toArray⟩ i hi, ← hv]
    simp [List.getD_eq_getElem?_getD, List.getElem?_eq_getElem hi]
  · refine ⟨rfl, rfl, rfl, ?_, ?_⟩
    · rw [Lib.bytesWorld_size]; omega
    · intro b hb
      exact Lib.bytesWorld_at_old w _ _ b hb
end Go.Proofs.Ytgpnmmgoachajaa
