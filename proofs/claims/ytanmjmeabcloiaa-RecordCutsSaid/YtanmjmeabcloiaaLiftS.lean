/- From the reading of an argument as data to the walks' words: a superblock. -/
import Derived.Test.YtanmjmeabcloiaaLiftT
import Derived.Test.YtanmjmeabcloiaaSr
import Derived.DataReads
import Derived.ChangeArms
import Derived.Deep.Slices
namespace Go.Proofs.Ytanmjmeabcloiaa
open Go.ChangeShapes Go.WideShapes Go.ChangeAt Go.RowKit Go.Deep
open Go.Proofs

section
variable {H : Type} {enc : TypeId × Value → H} {w : World} {base : Nat} {held : Bool}
theorem cells_sup : Try.prog.cellsOf 38 = 8 := by kernel_rfl
theorem cells_int : Try.prog.cellsOf 3 = 1 := by kernel_rfl
theorem cells_u32 : Try.prog.cellsOf 36 = 1 := by kernel_rfl
theorem open_fields {P : Program} {t : TypeId} {fs : Array Field} {n fuel : Nat} {cs : Array Value} {x : DataW H × List MemPlace} (ht : P.underlying t = some (.struct fs))
    (hfs : fs.size = n) (ho : ∀ (j : Nat) f, fs[j]? = some f → f.offset = j ∧ P.cellsOf f.type = 1) (h : DataW.trod enc P w base (fun _ => true) held fuel t (Value.agg cs).cells.toList = some x) (hl : cs.size = n) :
    ∀ (j : Nat) f v, fs[j]? = some f → cs[j]? = some v → ∃ fuel x, DataW.trod enc P w base (fun _ => true) held fuel f.type [v] = some x := by
  obtain ⟨xs, k', _, _, _, hxl, hfd⟩ := DataW.trod_struct ht h
  intro j f v hj hv
  have hjn : j < cs.toList.length := by rw [Array.length_toList]; exact (Array.getElem?_eq_some_iff.1 hv).1
  have := hfd j f hj
  obtain ⟨o1, o2⟩ := ho j f hj
  have e : (Value.agg cs).cells.toList = cs.toList := rfl
  rw [o1, o2, e, List.drop_eq_getElem_cons hjn, List.take_succ_cons, List.take_zero] at this
  have hv2 : cs.toList[j] = v := by
    have := (Array.getElem?_eq_some_iff.1 hv).2
    simpa using this
  rw [hv2] at this
  have hxj : j < xs.length := by rw [hxl, hfs, ← hl]; simpa using hjn
  rw [List.getElem?_eq_getElem hxj] at this
  exact ⟨k', _, this⟩
set_option maxRecDepth 100000 in
theorem open_sup {b2 : Nat} {v : Value} {d : DataW H} {p : List MemPlace} (hv : Value.okWide Try.prog w .any b2 38 v) (h : DataW.Trod enc Try.prog w base (fun _ => true) held 38 v d p) :
    ∃ s : Sup, v = supV s ∧ s.sum < 4294967296 ∧ -9223372036854775808 ≤ s.gen ∧ s.gen ≤ 9223372036854775807 := by
  obtain ⟨cs, rfl, hsz⟩ := okWide_struct Try.underlying38 hv
  obtain ⟨fuel, hf⟩ := h
  rw [cells_sup] at hsz
  have hfd := open_fields Try.underlying38 (n := 8) rfl (by
    intro j f hj
    match j, hj with
    | 0, hj => cases hj; exact ⟨rfl, cells_int⟩
    | 1, hj => cases hj; exact ⟨rfl, cells_int⟩
    | 2, hj => cases hj; exact ⟨rfl, cells_int⟩
    | 3, hj => cases hj; exact ⟨rfl, cells_int⟩
    | 4, hj => cases hj; exact ⟨rfl, cells_int⟩
    | 5, hj => cases hj; exact ⟨rfl, cells_u32⟩
    | 6, hj => cases hj; exact ⟨rfl, cells_int⟩
    | 7, hj => cases hj; exact ⟨rfl, cells_int⟩
    | j + 8, hj => simp at hj) hf hsz
  obtain ⟨ls⟩ := cs
  have hsz2 : ls.length = 8 := hsz
  match ls, hsz2 with
  | [v0, v1, v2, v3, v4, v5, v6, v7], _ =>
      obtain ⟨_, _, g0⟩ := hfd 0 _ v0 rfl rfl
      obtain ⟨_, _, g1⟩ := hfd 1 _ v1 rfl rfl
      obtain ⟨_, _, g2⟩ := hfd 2 _ v2 rfl rfl
      obtain ⟨_, _, g3⟩ := hfd 3 _ v3 rfl rfl
      obtain ⟨_, _, g4⟩ := hfd 4 _ v4 rfl rfl
      obtain ⟨_, _, g5⟩ := hfd 5 _ v5 rfl rfl
      obtain ⟨_, _, g6⟩ := hfd 6 _ v6 rfl rfl
      obtain ⟨_, _, g7⟩ := hfd 7 _ v7 rfl rfl
      obtain ⟨n0, e0, _, wf0⟩ := DataW.trod_int Try.underlying3 g0
      obtain ⟨n1, e1, _, _⟩ := DataW.trod_int Try.underlying3 g1
      obtain ⟨n2, e2, _, _⟩ := DataW.trod_int Try.underlying3 g2
      obtain ⟨n3, e3, _, _⟩ := DataW.trod_int Try.underlying3 g3
      obtain ⟨n4, e4, _, _⟩ := DataW.trod_int Try.underlying3 g4
      obtain ⟨n5, e5, _, wf5⟩ := DataW.trod_int Try.underlying36 g5
      obtain ⟨n6, e6, _, _⟩ := DataW.trod_int Try.underlying3 g6
      obtain ⟨n7, e7, _, _⟩ := DataW.trod_int Try.underlying3 g7
      simp only [List.cons.injEq, and_true] at e0 e1 e2 e3 e4 e5 e6 e7
      subst e0 e1 e2 e3 e4 e5 e6 e7
      obtain ⟨lo5, hi5⟩ := bounds_u32 wf5
      obtain ⟨m5, rfl⟩ := Int.eq_ofNat_of_zero_le lo5
      exact ⟨⟨n0, n1, n2, n3, n4, m5, n6, n7⟩, rfl, by simp only; omega, bounds_i64 wf0⟩
end
end Go.Proofs.Ytanmjmeabcloiaa
