/- From the reading of an argument as data to the walks' words: octets. -/
import Derived.Test.YtgpnmmgoachajaaLiftT
import Derived.Test.YtgpnmmgoachajaaOc
namespace Go.Proofs.Ytgpnmmgoachajaa
open Go.ChangeShapes Go.WideShapes Go.ChangeAt Go.RowKit Go.Deep
open Go.Proofs

theorem cells32 : Try.prog.cellsOf 22 = 1 := by kernel_rfl
theorem cells5 : Try.prog.cellsOf 5 = 1 := by kernel_rfl

theorem octs_of_ints {w : World} {x : Addr} {zs : List Int} {len : Nat} (hz : len ≤ zs.length) (hcell : ∀ i, i < zs.length → w.cell? (x.add i) = some (.int .u8 (zs.getD i 0))) (hwz : ∀ n ∈ zs, (Lit.int .u8 n).wf = true) :
    ∃ l : List UInt8, l.length = len ∧ Octs w (some x) l := by
  refine ⟨(zs.take len).map fun n => UInt8.ofNat n.toNat, by simp; omega, fun h0 => ?_⟩
  have h1 : 0 < zs.length := by simp at h0; omega
  obtain ⟨b, o, s⟩ := x
  have hs : s = none := by
    have := World.cell?_spot (hcell 0 h1)
    simpa [Addr.add] using this
  subst hs
  refine ⟨b, o, rfl, fun j u hu => ?_⟩
  obtain ⟨hj, hv⟩ := List.getElem?_eq_some_iff.1 hu
  have hj2 : j < len := by simp at hj; omega
  have hj3 : j < zs.length := by omega
  have h2 := hcell j hj3
  have h3 : ((⟨b, o, none⟩ : Addr).add j) = ⟨b, o + j, none⟩ := by
    by_cases h : j = 0
    · subst h; simp [Addr.add]
    · simp [Addr.add, h]
  rw [h3] at h2
  rw [h2, ← hv]
  have hb := bounds_u8 (hwz _ (List.getElem_mem hj3))
  have e : ((UInt8.ofNat zs[j].toNat).toNat : Int) = zs[j] := by rw [UInt8.toNat_ofNat']; omega
  simp only [octs, List.getElem_map, List.getElem_take, oct, e]
  simp [List.getD_eq_getElem?_getD, List.getElem?_eq_getElem hj3]

section
variable {H : Type} {enc : TypeId × Value → H} {w : World} {base : Nat} {held : Bool}
/-- '[]byte'. -/
theorem open_octs {a : Option Addr} {len cap : Nat} {d : DataW H} {p : List MemPlace} (h : DataW.Trod enc Try.prog w base (fun _ => true) held 22 (.slice a len cap) d p) :
    ∃ l : List UInt8, l.length = len ∧ len ≤ cap ∧ cap ≤ maxLen ∧ Octs w a l := by
  obtain ⟨fuel, hf⟩ := h
  rcases open_ints Try.underlying22 Try.underlying5 cells5 hf with ⟨hcs, _⟩ | ⟨x, l, c, zs, hcs, _, hl, hm, hz, _, hcell, hwz⟩
  · simp [Value.cells] at hcs
    obtain ⟨rfl, rfl, rfl⟩ := hcs
    exact ⟨[], rfl, Nat.le_refl _, Nat.zero_le _, Octs.nil _ _⟩
  · simp [Value.cells] at hcs
    obtain ⟨rfl, rfl, rfl⟩ := hcs
    simp at hz
    obtain ⟨l, h1, h2⟩ := octs_of_ints (len := len) (by omega) hcell hwz
    exact ⟨l, h1, hl, hm, h2⟩

end
end Go.Proofs.Ytgpnmmgoachajaa
