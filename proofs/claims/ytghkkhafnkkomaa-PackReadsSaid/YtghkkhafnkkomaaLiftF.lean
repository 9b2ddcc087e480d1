/- From the reading of an argument as data to the walks' words: the fields of layer 4. -/
import Derived.Test.YtghkkhafnkkomaaLiftA
import Derived.Test.YtghkkhafnkkomaaPuts
namespace Go.Proofs.Ytghkkhafnkkomaa
open Go.ChangeShapes Go.WideShapes Go.ChangeAt Go.RowKit Go.Deep
open Go.Proofs

section
variable {H : Type} {enc : TypeId × Value → H} {w : World} {base : Nat} {held : Bool}
theorem cells35 : Try.prog.cellsOf 35 = 4 := by kernel_rfl
theorem cells9 : Try.prog.cellsOf 9 = 1 := by kernel_rfl
theorem open_flds {a : Option Addr} {len cap : Nat} {d : DataW H} {p : List MemPlace} (h : DataW.Trod enc Try.prog w base (fun _ => true) held 36 (.slice a len cap) d p) :
    ∃ fs : List Fld, fs.length = len ∧ len ≤ cap ∧ cap ≤ maxLen ∧ FldsAt w a fs := by
  obtain ⟨hl, hm, hr⟩ := open_structs Try.underlying36 Try.underlying35 cells35 (by decide) rfl (by
    intro j f hj
    match j, hj with
    | 0, hj => cases hj; exact ⟨rfl, cells3⟩
    | 1, hj => cases hj; exact ⟨rfl, cells3⟩
    | 2, hj => cases hj; exact ⟨rfl, cells3⟩
    | 3, hj => cases hj; exact ⟨rfl, cells9⟩
    | j + 4, hj => simp at hj) h
  by_cases h0 : len = 0
  · subst h0
    exact ⟨[], rfl, hl, hm, fun h => by simp at h⟩
  obtain ⟨b, o, rfl, hx⟩ := hr (by omega)
  have each : ∀ i, i < len → ∃ q : Fld, w.cell? ⟨b, o + i * 4, none⟩ = some (.int .i64 q.1) ∧ w.cell? ⟨b, o + i * 4 + 1, none⟩ = some (.int .i64 q.2.1) ∧
      w.cell? ⟨b, o + i * 4 + 2, none⟩ = some (.int .i64 q.2.2.1) ∧ w.cell? ⟨b, o + i * 4 + 3, none⟩ = some (strOf q.2.2.2) ∧ (-9223372036854775808 ≤ q.2.1 ∧ q.2.1 ≤ 9223372036854775807) := by
    intro i hi
    obtain ⟨vs, hv1, hv2, hv3⟩ := hx i hi
    match vs, hv1 with
    | [v0, v1, v2, v3], _ =>
      obtain ⟨f0, x0, g0⟩ := hv2 0 _ v0 rfl rfl
      obtain ⟨f1, x1, g1⟩ := hv2 1 _ v1 rfl rfl
      obtain ⟨f2, x2, g2⟩ := hv2 2 _ v2 rfl rfl
      obtain ⟨f3, x3, g3⟩ := hv2 3 _ v3 rfl rfl
      obtain ⟨n0, e0, _, _⟩ := DataW.trod_int Try.underlying3 g0
      obtain ⟨n1, e1, _, wf1⟩ := DataW.trod_int Try.underlying3 g1
      obtain ⟨n2, e2, _, _⟩ := DataW.trod_int Try.underlying3 g2
      obtain ⟨s, e3, _, _⟩ := DataW.trod_string Try.underlying9 g3
      simp only [List.cons.injEq, and_true] at e0 e1 e2 e3
      subst e0 e1 e2 e3
      exact ⟨(n0, n1, n2, s.data.toList), hv3 0 _ rfl, hv3 1 _ rfl, hv3 2 _ rfl, hv3 3 _ rfl, bounds_i64 wf1⟩
  obtain ⟨f, hf⟩ := choose_lt each
  refine ⟨(List.range len).map f, by simp, hl, hm, fun _ => ⟨b, o, rfl, fun i q hq => ?_⟩⟩
  have hi : i < len := by
    have := (List.getElem?_eq_some_iff.1 hq).1
    simpa using this
  have e : f i = q := by
    simpa [hi] using hq
  rw [← e]
  exact hf i hi
end
end Go.Proofs.Ytghkkhafnkkomaa
