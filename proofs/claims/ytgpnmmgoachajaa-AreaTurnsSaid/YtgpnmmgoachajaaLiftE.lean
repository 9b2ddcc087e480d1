/- From the reading of an argument as data to the walks' words: a slice of crashes. -/
import Derived.Test.YtgpnmmgoachajaaLiftA
import Derived.Test.YtgpnmmgoachajaaLiftD
import Derived.Test.YtgpnmmgoachajaaEn
namespace Go.Proofs.Ytgpnmmgoachajaa
open Go.ChangeShapes Go.WideShapes Go.ChangeAt Go.RowKit Go.Deep
open Go.Proofs

section
variable {H : Type} {enc : TypeId × Value → H} {w : World} {base : Nat} {held : Bool}
theorem cells_crash : Try.prog.cellsOf 35 = 3 := by kernel_rfl
theorem cells_keep : Try.prog.cellsOf 33 = 1 := by kernel_rfl
/-- '[]api.Crash'. -/
theorem open_crashes {a : Option Addr} {len cap : Nat} {d : DataW H} {p : List MemPlace} (h : DataW.Trod enc Try.prog w base (fun _ => true) held 23 (.slice a len cap) d p) :
    ∃ xs : List (List Int × Int × Int), xs.length = len ∧ len ≤ cap ∧ cap ≤ maxLen ∧ CrashesAt w a xs := by
  obtain ⟨hl, hm, hr⟩ := open_structs Try.underlying23 Try.underlying35 cells_crash (by decide) rfl (by
    intro j f hj
    match j, hj with
    | 0, hj => cases hj; exact ⟨rfl, cells_keep⟩
    | 1, hj => cases hj; exact ⟨rfl, cells3⟩
    | 2, hj => cases hj; exact ⟨rfl, cells3⟩
    | j + 3, hj => simp at hj) h
  by_cases h0 : len = 0
  · subst h0
    exact ⟨[], rfl, hl, hm, fun h => by simp at h⟩
  obtain ⟨b, o, rfl, hx⟩ := hr (by omega)
  have each : ∀ i, i < len → ∃ q : List Int × Int × Int, ∃ G c, w.rangeAt b (o + i * 3) [.slice G q.1.length c, .int .i64 q.2.1, .int .i64 q.2.2] ∧ Cells w G (ints q.1) ∧ q.1.length ≤ 9223372036854775807 := by
    intro i hi
    obtain ⟨vs, hv1, hv2, hv3⟩ := hx i hi
    match vs, hv1 with
    | [v0, v1, v2], _ =>
      obtain ⟨f0, x0, g0⟩ := hv2 0 _ v0 rfl rfl
      obtain ⟨f1, x1, g1⟩ := hv2 1 _ v1 rfl rfl
      obtain ⟨f2, x2, g2⟩ := hv2 2 _ v2 rfl rfl
      obtain ⟨n1, e1, _, _⟩ := DataW.trod_int Try.underlying3 g1
      obtain ⟨n2, e2, _, _⟩ := DataW.trod_int Try.underlying3 g2
      simp only [List.cons.injEq, and_true] at e1 e2
      subst e1 e2
      rcases open_ints Try.underlying33 Try.underlying3 cells3 g0 with ⟨hcs, _⟩ | ⟨x, l, c, zs, hcs, _, hl2, hm2, hz, _, hcell, hwz⟩
      · simp only [List.cons.injEq, and_true] at hcs
        subst hcs
        exact ⟨([], n1, n2), none, 0, hv3, Cells.nil _ _, by simp⟩
      · simp only [List.cons.injEq, and_true] at hcs
        subst hcs
        simp at hz
        have hlen : (zs.take l).length = l := by simp; omega
        refine ⟨(zs.take l, n1, n2), some x, c, ?_, cells_of_ints (by omega) hcell, ?_⟩
        · show w.rangeAt b (o + i * 3) [.slice (some x) (zs.take l).length c, .int .i64 n1, .int .i64 n2]
          rw [hlen]; exact hv3
        · show (zs.take l).length ≤ _
          rw [hlen]; simp only [maxLen] at hm2; omega
  obtain ⟨f, hf⟩ := choose_lt each
  refine ⟨(List.range len).map f, by simp, hl, hm, fun _ => ⟨b, o, rfl, fun i q hq => ?_⟩⟩
  have hi : i < len := by
    have := (List.getElem?_eq_some_iff.1 hq).1
    simpa using this
  have e : f i = q := by
    simpa [hi] using hq
  rw [← e]
  exact hf i hi
end
end Go.Proofs.Ytgpnmmgoachajaa
