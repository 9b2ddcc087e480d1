/- From the reading of an argument as data to the walks' words: a slice of acts of layer 7. -/
import Derived.Test.YtgpnmmgoachajaaK10
import Derived.Test.YtgpnmmgoachajaaKc
import Derived.DataReads
import Derived.ChangeArms
import Derived.Deep.Slices
import Derived.Deep.Strs
namespace Go.Proofs.Ytgpnmmgoachajaa
open Go.ChangeShapes Go.WideShapes Go.ChangeAt Go.RowKit Go.Deep
open Go.Proofs

theorem cells79 : Try.prog.cellsOf 79 = 6 := by kernel_rfl
theorem cells35 : Try.prog.cellsOf 35 = 3 := by kernel_rfl
theorem cells33 : Try.prog.cellsOf 33 = 1 := by kernel_rfl
theorem cells22k : Try.prog.cellsOf 22 = 1 := by kernel_rfl
theorem cells3k : Try.prog.cellsOf 3 = 1 := by kernel_rfl
section
variable {H : Type} {enc : TypeId × Value → H} {w : World} {base : Nat} {held : Bool}
theorem trod_struct4 {P : Program} {spare : Nat → Bool} {t : TypeId} {f0 f1 f2 f3 : Field} {fuel : Nat} {cs : List Value} {x : DataW H × List MemPlace} (ht : P.underlying t = some (.struct #[f0, f1, f2, f3])) (h : DataW.trod enc P w base spare held fuel t cs = some x) :
    ∃ y0 y1 y2 y3 n, DataW.trod enc P w base spare held n f0.type ((cs.drop f0.offset).take (P.cellsOf f0.type)) = some y0 ∧ DataW.trod enc P w base spare held n f1.type ((cs.drop f1.offset).take (P.cellsOf f1.type)) = some y1 ∧
      DataW.trod enc P w base spare held n f2.type ((cs.drop f2.offset).take (P.cellsOf f2.type)) = some y2 ∧ DataW.trod enc P w base spare held n f3.type ((cs.drop f3.offset).take (P.cellsOf f3.type)) = some y3 := by
  obtain ⟨xs, n, _, rfl, hl, hlen, hf⟩ := DataW.trod_struct ht h
  match xs, hlen with
  | [y0, y1, y2, y3], _ => exact ⟨y0, y1, y2, y3, n, by simpa using hf 0 f0 rfl, by simpa using hf 1 f1 rfl, by simpa using hf 2 f2 rfl, by simpa using hf 3 f3 rfl⟩
theorem open_oct1 {fuel : Nat} {v : Value} {x : DataW H × List MemPlace} (h : DataW.trod enc Try.prog w base (fun _ => true) held fuel 22 [v] = some x) :
    ∃ (A : Option Addr) (c : Nat) (l : List UInt8), v = .slice A l.length c ∧ l.length ≤ c ∧ c ≤ maxLen ∧ Octs w A l := by
  rcases open_ints Try.underlying22 Try.underlying5 cells5 h with ⟨hcs, _⟩ | ⟨x', l, c, zs, hcs, _⟩
  · simp only [List.cons.injEq, and_true] at hcs
    subst hcs
    exact ⟨none, 0, [], rfl, Nat.le_refl _, Nat.zero_le _, Octs.nil _ _⟩
  · simp only [List.cons.injEq, and_true] at hcs
    subst hcs
    obtain ⟨xd, xp⟩ := x
    obtain ⟨L, h1, h2, h3, h4⟩ := open_octs (d := xd) (p := xp) ⟨fuel, h⟩
    exact ⟨some x', c, L, by rw [h1], by omega, h3, h4⟩
theorem open_int1 {fuel : Nat} {v : Value} {x : DataW H × List MemPlace} (h : DataW.trod enc Try.prog w base (fun _ => true) held fuel 33 [v] = some x) :
    ∃ (A : Option Addr) (c : Nat) (l : List Int), v = .slice A l.length c ∧ l.length ≤ maxLen ∧ Cells w A (ints l) := by
  rcases open_ints Try.underlying33 Try.underlying3 cells3k h with ⟨hcs, _⟩ | ⟨x', l, c, zs, hcs, _, hl2, hm2, hz, _, hcell, _⟩
  · simp only [List.cons.injEq, and_true] at hcs
    subst hcs
    exact ⟨none, 0, [], rfl, Nat.zero_le _, Cells.nil _ _⟩
  · simp only [List.cons.injEq, and_true] at hcs
    subst hcs
    simp at hz
    have hlen : (zs.take l).length = l := by simp; omega
    exact ⟨some x', c, zs.take l, by rw [hlen], by rw [hlen]; omega, cells_of_ints (by omega) hcell⟩
set_option maxRecDepth 100000 in
/-- '[]Act'. -/
theorem open_jacts {a : Option Addr} {len cap : Nat} {d : DataW H} {p : List MemPlace} (h : DataW.Trod enc Try.prog w base (fun _ => true) held 77 (.slice a len cap) d p) :
    ∃ xs : List JAct, xs.length = len ∧ len ≤ cap ∧ cap ≤ maxLen ∧ JActsAt w a xs := by
  obtain ⟨fuel, hf⟩ := h
  rcases open_slice Try.underlying77 hf with ⟨hcs, _⟩ | ⟨x, l, c, m, k, D, Pl, hcs, hb, hl, hm, hmm, _, hx⟩
  · simp [Value.cells] at hcs
    obtain ⟨rfl, rfl, rfl⟩ := hcs
    exact ⟨[], rfl, Nat.le_refl _, Nat.zero_le _, fun h => (by simp at h)⟩
  · simp [Value.cells] at hcs
    obtain ⟨rfl, rfl, rfl⟩ := hcs
    simp only [if_true] at hmm
    subst hmm
    by_cases h0 : len = 0
    · subst h0
      exact ⟨[], rfl, Nat.zero_le _, hm, fun h => (by simp at h)⟩
    have each : ∀ i, i < len → ∃ (q : JAct) (A G : Option Addr) (c d : Nat), (∀ (j : Nat) v, (actV q A G c d)[j]? = some v → w.cell? ((x.add (i * 6)).add j) = some v) ∧ q.B.length ≤ c ∧ c ≤ maxLen ∧ Octs w A q.B ∧ Cells w G (ints q.keep) ∧ q.keep.length ≤ 9223372036854775807 ∧ q.n ≤ 9223372036854775807 := by
      intro i hi
      obtain ⟨cs', h1, h2⟩ := hx i (by omega)
      rw [cells79] at h1
      obtain ⟨_, hlen, hcell⟩ := World.cells?_some h1
      obtain ⟨y0, y1, y2, y3, n4, g0, g1, g2, g3⟩ := trod_struct4 Try.underlying79 h2
      match cs', hlen with
      | [v0, v1, v2, v3, v4, v5], _ =>
        have g0 : DataW.trod enc Try.prog w base (fun _ => true) held n4 3 [v0] = some y0 := by simpa [cells3k] using g0
        have g1 : DataW.trod enc Try.prog w base (fun _ => true) held n4 3 [v1] = some y1 := by simpa [cells3k] using g1
        have g2 : DataW.trod enc Try.prog w base (fun _ => true) held n4 22 [v2] = some y2 := by simpa [cells22k] using g2
        have g3 : DataW.trod enc Try.prog w base (fun _ => true) held n4 35 [v3, v4, v5] = some y3 := by simpa [cells35] using g3
        obtain ⟨z0, z1, z2, n3, _, _, r0, r1, r2⟩ := trod_struct3 Try.underlying35 g3
        have r0 : DataW.trod enc Try.prog w base (fun _ => true) held n3 33 [v3] = some z0 := by simpa [cells33] using r0
        have r1 : DataW.trod enc Try.prog w base (fun _ => true) held n3 3 [v4] = some z1 := by simpa [cells3k] using r1
        have r2 : DataW.trod enc Try.prog w base (fun _ => true) held n3 3 [v5] = some z2 := by simpa [cells3k] using r2
        obtain ⟨i0, e0, _, _⟩ := DataW.trod_int Try.underlying3 g0
        obtain ⟨i1, e1, _, wf1⟩ := DataW.trod_int Try.underlying3 g1
        obtain ⟨i4, e4, _, _⟩ := DataW.trod_int Try.underlying3 r1
        obtain ⟨i5, e5, _, _⟩ := DataW.trod_int Try.underlying3 r2
        obtain ⟨A, c, B, e2, b1, b2, b3⟩ := open_oct1 g2
        obtain ⟨G, d, K, e3, k1, k2⟩ := open_int1 r0
        simp only [List.cons.injEq, and_true] at e0 e1 e4 e5
        subst e0 e1 e2 e3 e4 e5
        refine ⟨⟨i0, i1, B, K, i4, i5⟩, A, G, c, d, fun j v hv => ?_, b1, b2, b3, k2, by simp only [maxLen] at k1; show K.length ≤ _; omega, (bounds_i64 wf1).2⟩
        have hj : j < 6 := (List.getElem?_eq_some_iff.1 hv).1
        rw [hcell j hj]
        exact hv
    obtain ⟨b, o, s⟩ := x
    have hs : s = none := by
      obtain ⟨q, A, G, c, d, hv, _⟩ := each 0 (by omega)
      have h3 := hv 0 _ rfl
      have := World.cell?_spot h3
      simpa [Addr.add] using this
    subst hs
    have hex : ∀ i, ∃ q : JAct, i < len → ∃ (A G : Option Addr) (c d : Nat), (∀ (j : Nat) v, (actV q A G c d)[j]? = some v → w.cell? (((⟨b, o, none⟩ : Addr).add (i * 6)).add j) = some v) ∧ q.B.length ≤ c ∧ c ≤ maxLen ∧ Octs w A q.B ∧ Cells w G (ints q.keep) ∧ q.keep.length ≤ 9223372036854775807 ∧ q.n ≤ 9223372036854775807 := fun i => by
      by_cases hi : i < len
      · obtain ⟨q, r⟩ := each i hi
        exact ⟨q, fun _ => r⟩
      · exact ⟨⟨0, 0, [], [], 0, 0⟩, fun h => absurd h hi⟩
    obtain ⟨f, hf2⟩ := Classical.axiomOfChoice hex
    refine ⟨(List.range len).map f, by simp, hl, hm, fun _ => ⟨b, o, rfl, fun i q hq => ?_⟩⟩
    have hi : i < len := by
      have := (List.getElem?_eq_some_iff.1 hq).1
      simpa using this
    have e : f i = q := by simpa [hi] using hq
    obtain ⟨A, G, c, d, r1, r2⟩ := hf2 i hi
    rw [e] at r1 r2
    refine ⟨A, G, c, d, fun j v hv => ?_, r2⟩
    have := r1 j v hv
    rwa [Addr.add_lit, Addr.add_lit] at this
end
end Go.Proofs.Ytgpnmmgoachajaa
