/- From the reading of an argument as data to the walks' words: slices of octets, slices of such slices. -/
import Derived.Test.YtmnlfpkciecbpaaHead
import Derived.Test.YtmnlfpkciecbpaaLaw02a
import Derived.ProofKit
import Derived.OpenShut
import Derived.ChangeOld
import Derived.Deep.Matrix
namespace Go.Proofs.Ytmnlfpkciecbpaa
open Go.ChangeShapes Go.WideShapes Go.ChangeAt Go.RowKit Go.Deep
open Go.Proofs

theorem cells25 : Try.prog.cellsOf 25 = 1 := by kernel_rfl
theorem cells5 : Try.prog.cellsOf 5 = 1 := by kernel_rfl

theorem octs_of_ints {w : World} {x : Addr} {zs : List Int} {len : Nat} (hz : len ≤ zs.length) (hcell : ∀ i, i < zs.length → w.cell? (x.add i) = some (.int .u8 (zs.getD i 0))) (hwz : ∀ n ∈ zs, (Lit.int .u8 n).wf = true) :
    ∃ l : List UInt8, l.length = len ∧ Octs w (some x) l := by
  refine ⟨(zs.take len).map fun n => UInt8.ofNat n.toNat, by simp; omega, fun h0 => ?_⟩
  have h1 : 0 < zs.length := by simp at h0; omega
  obtain ⟨b, o, s⟩ := x
  have hs : s = none := by
    have := World.cell?_spot (hcell 0 h1)
    simpa [Addr.add] using this
  subst hs
  refine ⟨b, o, rfl, fun j u hu => ?_⟩
  obtain ⟨hj, hv⟩ := List.getElem?_eq_some_iff.1 hu
  have hj2 : j < len := by simp at hj; omega
  have hj3 : j < zs.length := by omega
  have h2 := hcell j hj3
  have h3 : ((⟨b, o, none⟩ : Addr).add j) = ⟨b, o + j, none⟩ := by
    by_cases h : j = 0
    · subst h; simp [Addr.add]
    · simp [Addr.add, h]
  rw [h3] at h2
  rw [h2, ← hv]
  have hb := bounds_u8 (hwz _ (List.getElem_mem hj3))
  have e : ((UInt8.ofNat zs[j].toNat).toNat : Int) = zs[j] := by rw [UInt8.toNat_ofNat']; omega
  simp only [octs, List.getElem_map, List.getElem_take, oct, e]
  simp [List.getD_eq_getElem?_getD, List.getElem?_eq_getElem hj3]

section
variable {H : Type} {enc : TypeId × Value → H} {w : World} {base : Nat} {held : Bool}
/-- '[]byte'. -/
theorem open_octs {a : Option Addr} {len cap : Nat} {d : DataW H} {p : List MemPlace} (h : DataW.Trod enc Try.prog w base (fun _ => true) held 25 (.slice a len cap) d p) :
    ∃ l : List UInt8, l.length = len ∧ len ≤ cap ∧ cap ≤ maxLen ∧ Octs w a l := by
  obtain ⟨fuel, hf⟩ := h
  rcases open_ints Try.underlying25 Try.underlying5 cells5 hf with ⟨hcs, _⟩ | ⟨x, l, c, zs, hcs, _, hl, hm, hz, _, hcell, hwz⟩
  · simp [Value.cells] at hcs
    obtain ⟨rfl, rfl, rfl⟩ := hcs
    exact ⟨[], rfl, Nat.le_refl _, Nat.zero_le _, Octs.nil _ _⟩
  · simp [Value.cells] at hcs
    obtain ⟨rfl, rfl, rfl⟩ := hcs
    simp at hz
    obtain ⟨l, h1, h2⟩ := octs_of_ints (len := len) (by omega) hcell hwz
    exact ⟨l, h1, hl, hm, h2⟩

/-- '[][]byte'. -/
theorem open_lists {a : Option Addr} {len cap : Nat} {d : DataW H} {p : List MemPlace} (h : DataW.Trod enc Try.prog w base (fun _ => true) held 29 (.slice a len cap) d p) :
    ∃ ls : List (List UInt8), ls.length = len ∧ len ≤ cap ∧ cap ≤ maxLen ∧ ListsAny w a ls := by
  obtain ⟨fuel, hf⟩ := h
  rcases open_int_rows Try.underlying29 Try.underlying25 Try.underlying5 cells25 cells5 hf with ⟨hcs, _⟩ | ⟨x, l, c, A, L, C, Z, hcs, _, hl, hm, _, hr⟩
  · simp [Value.cells] at hcs
    obtain ⟨rfl, rfl, rfl⟩ := hcs
    exact ⟨[], rfl, Nat.le_refl _, Nat.zero_le _, [], rfl, Cells.nil _ _, fun i h => by simp at h⟩
  · simp [Value.cells] at hcs
    obtain ⟨rfl, rfl, rfl⟩ := hcs
    have hex : ∀ r : Nat, ∃ l : List UInt8, r < len → l.length = L r ∧ Octs w (A r) l := by
      intro r
      by_cases hlt : r < len
      · obtain ⟨h1, h2, h3, h4, h5, h6, h7⟩ := hr r (by omega)
        cases hA : A r with
        | none => exact ⟨[], fun _ => ⟨by have := h6 hA; simp; omega, Octs.nil _ _⟩⟩
        | some a' =>
          obtain ⟨_, h8⟩ := h7 a' hA
          obtain ⟨l, e1, e2⟩ := octs_of_ints (w := w) (x := a') (zs := Z r) (len := L r) (by omega) (fun i hi => h8 i (by omega)) h5
          exact ⟨l, fun _ => ⟨e1, e2⟩⟩
      · exact ⟨[], fun h => absurd h hlt⟩
    obtain ⟨f, hf⟩ := Classical.axiomOfChoice hex
    refine ⟨(List.range len).map f, by simp, hl, hm, (List.range len).map fun r => .slice (A r) (L r) (C r), by simp, ?_, ?_⟩
    · intro h0
      have h0' : 0 < len := by simpa using h0
      obtain ⟨b, o, s⟩ := x
      have hs : s = none := by
        have := World.cell?_spot (hr 0 (by omega)).1
        simpa [Addr.add] using this
      subst hs
      refine ⟨b, o, rfl, fun j u hu => ?_⟩
      obtain ⟨hj, hv⟩ := List.getElem?_eq_some_iff.1 hu
      have hj2 : j < len := by simpa using hj
      have h2 := (hr j (by omega)).1
      have h3 : ((⟨b, o, none⟩ : Addr).add j) = ⟨b, o + j, none⟩ := by
        by_cases h : j = 0
        · subst h; simp [Addr.add]
        · simp [Addr.add, h]
      rw [h3] at h2
      rw [h2, ← hv]
      simp
    · intro i hi
      have hi2 : i < len := by simpa using hi
      obtain ⟨e1, e2⟩ := hf i hi2
      obtain ⟨h1, h2, h3, _⟩ := hr i (by omega)
      refine ⟨A i, C i, ?_, ?_, h3, ?_⟩
      · simp [hi2, e1]
      · simp [e1]; exact h2
      · simpa using e2
end
end Go.Proofs.Ytmnlfpkciecbpaa
