/- RecordCuts: a transaction's sectors are the document's, as many as it says; joined again they are its payload, whatever stands behind; at every two numbers and all octets. -/
import Derived.Test.YtanmjmeabcloiaaLiftS
import Derived.Test.YtanmjmeabcloiaaLiftB
import Derived.OpenShut
import Derived.Test.YtanmjmeabcloiaaCuW
import Derived.Below
import Derived.ShutString
namespace Go.Proofs.Ytanmjmeabcloiaa
open Go.ChangeShapes Go.WideShapes Go.ChangeAt Go.RowKit Go.Deep
open Go.Proofs

section
variable {H : Type} {enc : TypeId × Value → H} {w : World} {base : Nat} {held : Bool}
theorem cells_two : Try.prog.cellsOf 52 = 2 := by kernel_rfl
set_option maxRecDepth 100000 in
theorem okWide_two {b2 : Nat} {v : Value} (h : Value.okWide Try.prog w .any b2 52 v) : ∃ cs, v = .agg cs ∧ cs.size = 2 := by
  simp only [Value.okWide, Try.underlying52, cells_two] at h
  obtain ⟨cs, h1, h2, _⟩ := h
  exact ⟨cs, h1, h2⟩
set_option maxRecDepth 100000 in
theorem open_two {b2 : Nat} {v : Value} {d : DataW H} {p : List MemPlace} (hv : Value.okWide Try.prog w .any b2 52 v) (h : DataW.Trod enc Try.prog w base (fun _ => true) held 52 v d p) :
    ∃ E N : Int, v = .agg #[.int .i64 E, .int .i64 N] ∧ (-9223372036854775808 ≤ E ∧ E ≤ 9223372036854775807) ∧ (-9223372036854775808 ≤ N ∧ N ≤ 9223372036854775807) := by
  obtain ⟨cs, rfl, hsz⟩ := okWide_two hv
  obtain ⟨fuel, hf⟩ := h
  obtain ⟨xs, m, _, _, _, hl, hel⟩ := DataW.trod_array Try.underlying52 hf
  obtain ⟨ls⟩ := cs
  have hsz2 : ls.length = 2 := hsz
  match ls, hsz2 with
  | [v0, v1], _ =>
    have h0 := hel 0 (by omega)
    have h1 := hel 1 (by omega)
    rw [cells_int, List.getElem?_eq_getElem (by omega)] at h0 h1
    obtain ⟨n0, e0, _, wf0⟩ := DataW.trod_int Try.underlying3 h0
    obtain ⟨n1, e1, _, wf1⟩ := DataW.trod_int Try.underlying3 h1
    have e0' : [v0] = [Value.int .i64 n0] := e0
    have e1' : [v1] = [Value.int .i64 n1] := e1
    simp only [List.cons.injEq, and_true] at e0' e1'
    subst e0' e1'
    exact ⟨n0, n1, rfl, bounds_i64 wf0, bounds_i64 wf1⟩
end
end Go.Proofs.Ytanmjmeabcloiaa
namespace Go.Proofs.Ytanmjmeabcloiaa.recordCuts
open Go.ChangeShapes Go.WideShapes Go.ChangeAt Go.RowKit Go.Deep
open Go.Proofs Go.Proofs.Ytanmjmeabcloiaa
set_option linter.unusedVariables false
theorem road : roadFacts Try.prog 9 Rows.recordCutsRow = true := by kernel_rfl
theorem cells : cellFacts Try.prog Try.f9 Rows.recordCutsSpec Rows.recordCutsRow = true := by kernel_rfl
set_option maxRecDepth 100000 in
theorem lifted (os : Os) (started : os.Started) (H : Type) (enc : TypeId × Value → H) :
    ReturnsInHanded {} Try.checked os 9 .any (Rows.recordCutsSpec.pre6 enc Try.prog Try.f9 Rows.recordCutsRow.domain false) (Rows.recordCutsSpec.post enc Try.prog Try.f9 false true false false) := by
  refine returnsInHanded_of_change (C := Try.checked) own started (by kernel_rfl) Try.func9
    (ChangeSpec.witness6 (enc := enc) (C := Try.checked) false ⟨#[], #[.agg #[.int .i64 0, .int .i64 0], .slice none 0 0, .slice none 0 0], []⟩ 8 (by kernel_rfl) (by kernel_rfl) (by kernel_rfl) (by kernel_rfl)) ?_
  intro W base args ds gs before hval0 hW hcnd _
  have hval : ∀ (j : Nat) t v, Try.f9.params[j]? = some t → args[j]? = some v → Value.okWide Try.prog W .any base t v := hval0
  have hW' := hW
  obtain ⟨p, q, hA0, hV, rfl, hfz, hnd⟩ := hW
  have hA : DataW.TrodAll enc Try.prog W 0 (fun _ => true) true Try.f9.params.toList args.toList ds p := hA0
  rw [Try.params9] at hA hval
  obtain ⟨v0, vs0, d0, ds0, p0, q0, hargs, rfl, rfl, h0, r0⟩ := trodAll_cons hA
  obtain ⟨v1, vs1, d1, ds1, p1, q1, rfl, rfl, rfl, h1, r1⟩ := trodAll_cons r0
  obtain ⟨v2, vs2, d2, ds2, p2, q2, rfl, rfl, rfl, h2, r2⟩ := trodAll_cons r1
  obtain ⟨rfl, rfl, rfl⟩ := trodAll_nil r2
  obtain rfl : args = #[v0, v1, v2] := by cases args; simp_all
  obtain ⟨rfl, rfl⟩ := trodVars_none hV
  have k0 := h0
  have lt0 : ∀ x ∈ p0, x.block < W.heap.size := by obtain ⟨m, hm⟩ := k0; exact DataW.trod_lt m _ _ _ hm
  obtain ⟨E0, N0, rfl, ⟨elo0, ehi0⟩, ⟨nlo0, nhi0⟩⟩ := open_two (hval 0 52 v0 rfl rfl) h0
  have k1 := h1
  have lt1 : ∀ x ∈ p1, x.block < W.heap.size := by obtain ⟨m, hm⟩ := k1; exact DataW.trod_lt m _ _ _ hm
  obtain ⟨a1, len1, cap1, rfl⟩ := okWide_slice Try.underlying22 (hval 1 22 v1 rfl rfl)
  obtain ⟨l1, hl1, hc1, hm1, hx1⟩ := open_octs h1
  have k2 := h2
  have lt2 : ∀ x ∈ p2, x.block < W.heap.size := by obtain ⟨m, hm⟩ := k2; exact DataW.trod_lt m _ _ _ hm
  obtain ⟨a2, len2, cap2, rfl⟩ := okWide_slice Try.underlying22 (hval 2 22 v2 rfl rfl)
  obtain ⟨l2, hl2, hc2, hm2, hx2⟩ := open_octs h2
  clear hA0 hval0
  refine (f9_walk a1 a2 l1 l2 len1 cap1 len2 cap2 E0 N0 W hl1 hl2 hc1 hx1 hx2).mono fun e W' ⟨he, bel0⟩ => ?_
  subst he
  have bel : Below W.heap.size W W' := bel0
  exact ⟨_, rfl, _, _, _, [], _, [], hW', trodAll_mk1 (shut_bool Try.underlying4 _), (trodAll_cons_mk (Below.trod laidOut (by kernel_rfl) (of_decide_eq_true (by kernel_rfl)) k0 bel lt0) (trodAll_cons_mk (Below.trod laidOut (by kernel_rfl) (of_decide_eq_true (by kernel_rfl)) k1 bel lt1) (trodAll_cons_mk (Below.trod laidOut (by kernel_rfl) (of_decide_eq_true (by kernel_rfl)) k2 bel lt2) trodAll_mk0))), rfl, bel.frame _, fun h => by cases h⟩

theorem over : Rows.recordCutsRow.holds Try.pinned (OpenSpec.ofChange Rows.recordCutsSpec) :=
  OpenClaim.holds_of_wide 9 Try.f9 rfl rfl rfl rfl rfl rfl rfl ⟨rfl, rfl, rfl, rfl, rfl⟩ rfl rfl rfl rfl rfl (by kernel_rfl) Try.func9 (closed_of road cells)
    (of_decide_eq_true (by kernel_rfl)) (by unfold Func.isWrapper; rw [if_neg (by decide +kernel)]; exact ⟨rfl, rfl⟩)
    (fun os started H enc _ => lifted os started H enc)

/-- The statement. -/
theorem proved : Rows.RecordCutsSaid := over
#print axioms proved
end Go.Proofs.Ytanmjmeabcloiaa.recordCuts
