/- AreaTorn: of an area that was torn on the way either all is read, or ErrCorrupt is answered, where the sums differ, for every two texts and every crash, and the input reads as it did -/
import Derived.Test.YtgpnmmgoachajaaLiftY
import Derived.Test.YtgpnmmgoachajaaYall
import Derived.Below
import Derived.ShutString
namespace Go.Proofs.Ytgpnmmgoachajaa.areaTorn
open Go.ChangeShapes Go.WideShapes Go.ChangeAt Go.RowKit Go.Deep
open Go.Proofs Go.Proofs.Ytgpnmmgoachajaa
set_option linter.unusedVariables false
theorem road : roadFacts Try.prog 9 Rows.areaTornRow = true := by kernel_rfl
theorem cells : cellFacts Try.prog Try.f9 Rows.areaTornSpec Rows.areaTornRow = true := by kernel_rfl
set_option maxRecDepth 100000 in
theorem lifted (os : Os) (started : os.Started) (H : Type) (enc : TypeId × Value → H) :
    ReturnsInHanded {} Try.checked os 9 .any (Rows.areaTornSpec.pre6 enc Try.prog Try.f9 Rows.areaTornRow.domain false) (Rows.areaTornSpec.post enc Try.prog Try.f9 false true false false) := by
  refine returnsInHanded_of_change (C := Try.checked) own started (by kernel_rfl) Try.func9
    (ChangeSpec.witness6 (enc := enc) (C := Try.checked) false ⟨#[], #[.agg #[.slice none 0 0, .slice none 0 0], .agg #[.slice none 0 0, .int .i64 0, .int .i64 0]], []⟩ 8 (by kernel_rfl) (by kernel_rfl) (by kernel_rfl) (by kernel_rfl)) ?_
  intro W base args ds gs before hval0 hW hcnd _
  have hval : ∀ (j : Nat) t v, Try.f9.params[j]? = some t → args[j]? = some v → Value.okWide Try.prog W .any base t v := hval0
  have hW' := hW
  obtain ⟨p, q, hA0, hV, rfl, hfz, hnd⟩ := hW
  have hA : DataW.TrodAll enc Try.prog W 0 (fun _ => true) true Try.f9.params.toList args.toList ds p := hA0
  rw [Try.params9] at hA hval
  obtain ⟨v0, vs0, d0, ds0, p0, q0, hargs, rfl, rfl, h0, r0⟩ := trodAll_cons hA
  obtain ⟨v1, vs1, d1, ds1, p1, q1, rfl, rfl, rfl, h1, r1⟩ := trodAll_cons r0
  obtain ⟨rfl, rfl, rfl⟩ := trodAll_nil r1
  obtain rfl : args = #[v0, v1] := by cases args; simp_all
  obtain ⟨rfl, rfl⟩ := trodVars_none hV
  have k0 := h0
  have lt0 : ∀ x ∈ p0, x.block < W.heap.size := by obtain ⟨m, hm⟩ := k0; exact DataW.trod_lt m _ _ _ hm
  obtain ⟨A0, B0, n0, c0, m0, e0, l0, k'0, rfl, ⟨hl0, hc0, hm0, hx0⟩, ⟨jl0, jc0, jm0, jx0⟩⟩ := open_texts (hval 0 58 v0 rfl rfl) h0
  have k1 := h1
  have lt1 : ∀ x ∈ p1, x.block < W.heap.size := by obtain ⟨m, hm⟩ := k1; exact DataW.trod_lt m _ _ _ hm
  obtain ⟨G1, keep1, m1, c1, torn1, cut1, rfl, hl1, hc1, hm1, hx1⟩ := open_crash (hval 1 35 v1 rfl rfl) h1
  clear hA0 hval0
  refine (f9_any A0 B0 G1 l0 k'0 keep1 n0 c0 m0 e0 m1 c1 torn1 cut1 W hl0 hc0 hx0 (by have := hm0; simp only [maxLen] at this; omega) jl0 jc0 jx0 (by have := jm0; simp only [maxLen] at this; omega) hl1 hx1 (by have := hm1; simp only [maxLen] at this; omega)).mono fun e W' ⟨he, bel0⟩ => ?_
  subst he
  have bel : Below W.heap.size W W' := bel0
  exact ⟨_, rfl, _, _, _, [], _, [], hW', trodAll_mk1 (shut_bool Try.underlying4 _), (trodAll_cons_mk (Below.trod laidOut (by kernel_rfl) (of_decide_eq_true (by kernel_rfl)) k0 bel lt0) (trodAll_cons_mk (Below.trod laidOut (by kernel_rfl) (of_decide_eq_true (by kernel_rfl)) k1 bel lt1) trodAll_mk0)), rfl, bel.frame _, fun h => by cases h⟩

theorem over : Rows.areaTornRow.holds Try.pinned (OpenSpec.ofChange Rows.areaTornSpec) :=
  OpenClaim.holds_of_wide 9 Try.f9 rfl rfl rfl rfl rfl rfl rfl ⟨rfl, rfl, rfl, rfl, rfl⟩ rfl rfl rfl rfl rfl (by kernel_rfl) Try.func9 (closed_of road cells)
    (of_decide_eq_true (by kernel_rfl)) (by unfold Func.isWrapper; rw [if_neg (by decide +kernel)]; exact ⟨rfl, rfl⟩)
    (fun os started H enc _ => lifted os started H enc)

/-- The statement. -/
theorem proved : Rows.AreaTornSaid := over
#print axioms proved
end Go.Proofs.Ytgpnmmgoachajaa.areaTorn
