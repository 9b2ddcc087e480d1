/- From the reading of an argument as data to the walks' words: slices of ints. -/
import Derived.Test.YtgpnmmgoachajaaHead
import Derived.Test.YtgpnmmgoachajaaSl
import Derived.ProofKit
import Derived.OpenShut
import Derived.ChangeOld
import Derived.Deep.Matrix
namespace Go.Proofs.Ytgpnmmgoachajaa
open Go.ChangeShapes Go.WideShapes Go.ChangeAt Go.RowKit Go.Deep
open Go.Proofs

theorem cells22 : Try.prog.cellsOf 33 = 1 := by kernel_rfl
theorem cells3 : Try.prog.cellsOf 3 = 1 := by kernel_rfl

section
variable {H : Type} {enc : TypeId × Value → H} {w : World} {base : Nat} {held : Bool}
theorem cells_of_ints {x : Addr} {zs : List Int} {len : Nat} (hz : len ≤ zs.length) (hcell : ∀ i, i < zs.length → w.cell? (x.add i) = some (.int .i64 (zs.getD i 0))) : Cells w (some x) (ints (zs.take len)) := by
  intro h0
  have h1 : 0 < zs.length := by simp [ints] at h0; omega
  obtain ⟨b, o, s⟩ := x
  have hs : s = none := by
    have := World.cell?_spot (hcell 0 h1)
    simpa [Addr.add] using this
  subst hs
  refine ⟨b, o, rfl, fun j u hu => ?_⟩
  obtain ⟨hj, hv⟩ := List.getElem?_eq_some_iff.1 hu
  have hj2 : j < len := by simp at hj; omega
  have hj3 : j < zs.length := by omega
  have h2 := hcell j hj3
  rw [show ((⟨b, o, none⟩ : Addr).add j) = ⟨b, o + j, none⟩ by rw [Addr.add_lit]] at h2
  rw [h2, ← hv]
  simp [ints, List.getD_eq_getElem?_getD, List.getElem?_eq_getElem hj3]

/-- '[]int'. -/
theorem open_intl {a : Option Addr} {len cap : Nat} {d : DataW H} {p : List MemPlace} (h : DataW.Trod enc Try.prog w base (fun _ => true) held 33 (.slice a len cap) d p) :
    ∃ l : List Int, l.length = len ∧ len ≤ cap ∧ cap ≤ maxLen ∧ Cells w a (ints l) := by
  obtain ⟨fuel, hf⟩ := h
  rcases open_ints Try.underlying33 Try.underlying3 cells3 hf with ⟨hcs, _⟩ | ⟨x, l, c, zs, hcs, _, hl, hm, hz, _, hcell, hwz⟩
  · simp [Value.cells] at hcs
    obtain ⟨rfl, rfl, rfl⟩ := hcs
    exact ⟨[], rfl, Nat.le_refl _, Nat.zero_le _, Cells.nil _ _⟩
  · simp [Value.cells] at hcs
    obtain ⟨rfl, rfl, rfl⟩ := hcs
    simp at hz
    exact ⟨zs.take len, by simp; omega, hl, hm, cells_of_ints (by omega) hcell⟩
end
end Go.Proofs.Ytgpnmmgoachajaa
