/- From the reading of an argument as data to the walks' words: a slice of uint16. -/
import Derived.Test.YtgpnmmgoachajaaK10
import Derived.Test.YtgpnmmgoachajaaJf
namespace Go.Proofs.Ytgpnmmgoachajaa
open Go.ChangeShapes Go.WideShapes Go.ChangeAt Go.RowKit Go.Deep
open Go.Proofs

theorem cells66 : Try.prog.cellsOf 66 = 1 := by kernel_rfl
section
variable {H : Type} {enc : TypeId × Value → H} {w : World} {base : Nat} {held : Bool}
/-- '[]uint16'. -/
theorem open_u16s {a : Option Addr} {len cap : Nat} {d : DataW H} {p : List MemPlace} (h : DataW.Trod enc Try.prog w base (fun _ => true) held 62 (.slice a len cap) d p) :
    ∃ l : List Nat, l.length = len ∧ len ≤ cap ∧ cap ≤ maxLen ∧ Cells w a (u16s l) ∧ ∀ x ∈ l, x < 65536 := by
  obtain ⟨fuel, hf⟩ := h
  rcases open_ints Try.underlying62 Try.underlying66 cells66 hf with ⟨hcs, _⟩ | ⟨x, l, c, zs, hcs, _, hl, hm, hz, _, hcell, hwz⟩
  · simp [Value.cells] at hcs
    obtain ⟨rfl, rfl, rfl⟩ := hcs
    exact ⟨[], rfl, Nat.le_refl _, Nat.zero_le _, Cells.nil _ _, fun x h => by cases h⟩
  · simp [Value.cells] at hcs
    obtain ⟨rfl, rfl, rfl⟩ := hcs
    simp at hz
    refine ⟨(zs.take len).map Int.toNat, by simp; omega, hl, hm, ?_, ?_⟩
    · intro h0
      have h1 : 0 < zs.length := by simp [u16s] at h0; omega
      obtain ⟨b, o, s⟩ := x
      have hs : s = none := by
        have := World.cell?_spot (hcell 0 h1)
        simpa [Addr.add] using this
      subst hs
      refine ⟨b, o, rfl, fun j u hu => ?_⟩
      obtain ⟨hj, hv⟩ := List.getElem?_eq_some_iff.1 hu
      have hj2 : j < len := by simp [u16s] at hj; omega
      have hj3 : j < zs.length := by omega
      have h2 := hcell j hj3
      rw [show ((⟨b, o, none⟩ : Addr).add j) = ⟨b, o + j, none⟩ by rw [Addr.add_lit]] at h2
      have hb := bounds_u16 (hwz _ (List.getElem_mem hj3))
      rw [h2, ← hv]
      simp [u16s, List.getD_eq_getElem?_getD, List.getElem?_eq_getElem hj3]
      omega
    · intro x hx
      simp only [List.mem_map] at hx
      obtain ⟨z, hz, rfl⟩ := hx
      have hb := bounds_u16 (hwz _ (List.mem_of_mem_take hz))
      omega
end
end Go.Proofs.Ytgpnmmgoachajaa
