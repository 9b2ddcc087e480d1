/- From the reading of an argument as data to the walks' words: a part of layer 6. -/
import Derived.Test.YtanmjmeabcloiaaLiftS
import Derived.Test.YtanmjmeabcloiaaLiftB
import Derived.Test.YtanmjmeabcloiaaRp
namespace Go.Proofs.Ytanmjmeabcloiaa
open Go.ChangeShapes Go.WideShapes Go.ChangeAt Go.RowKit Go.Deep
open Go.Proofs

section
variable {H : Type} {enc : TypeId × Value → H} {w : World} {base : Nat} {held : Bool}
theorem cells_prt : Try.prog.cellsOf 24 = 5 := by kernel_rfl
theorem cells_bool : Try.prog.cellsOf 4 = 1 := by kernel_rfl
theorem cells_oct : Try.prog.cellsOf 22 = 1 := by kernel_rfl
set_option maxRecDepth 100000 in
theorem open_prt {b2 : Nat} {v : Value} {d : DataW H} {p : List MemPlace} (hv : Value.okWide Try.prog w .any b2 24 v) (h : DataW.Trod enc Try.prog w base (fun _ => true) held 24 v d p) :
    ∃ (P : Prt) (A : Option Addr) (n c : Nat), v = prtV P A n c ∧ P.data.length = n ∧ n ≤ c ∧ c ≤ maxLen ∧ Octs w A P.data := by
  obtain ⟨cs, rfl, hsz⟩ := okWide_struct Try.underlying24 hv
  obtain ⟨fuel, hf⟩ := h
  rw [cells_prt] at hsz
  have hfd := open_fields Try.underlying24 (n := 5) rfl (by
    intro j f hj
    match j, hj with
    | 0, hj => cases hj; exact ⟨rfl, cells_bool⟩
    | 1, hj => cases hj; exact ⟨rfl, cells_int⟩
    | 2, hj => cases hj; exact ⟨rfl, cells_int⟩
    | 3, hj => cases hj; exact ⟨rfl, cells_int⟩
    | 4, hj => cases hj; exact ⟨rfl, cells_oct⟩
    | j + 5, hj => simp at hj) hf hsz
  obtain ⟨ls⟩ := cs
  have hsz2 : ls.length = 5 := hsz
  match ls, hsz2 with
  | [v0, v1, v2, v3, v4], _ =>
      obtain ⟨_, _, g0⟩ := hfd 0 _ v0 rfl rfl
      obtain ⟨_, _, g1⟩ := hfd 1 _ v1 rfl rfl
      obtain ⟨_, _, g2⟩ := hfd 2 _ v2 rfl rfl
      obtain ⟨_, _, g3⟩ := hfd 3 _ v3 rfl rfl
      obtain ⟨f4, x4, g4⟩ := hfd 4 _ v4 rfl rfl
      obtain ⟨b0, e0, _⟩ := DataW.trod_bool Try.underlying4 g0
      obtain ⟨n1, e1, _, _⟩ := DataW.trod_int Try.underlying3 g1
      obtain ⟨n2, e2, _, _⟩ := DataW.trod_int Try.underlying3 g2
      obtain ⟨n3, e3, _, _⟩ := DataW.trod_int Try.underlying3 g3
      simp only [List.cons.injEq, and_true] at e0 e1 e2 e3
      subst e0 e1 e2 e3
      rcases open_ints Try.underlying22 Try.underlying5 cells5 g4 with ⟨hcs, _⟩ | ⟨x, l, c, zs, hcs, _⟩
      · simp only [List.cons.injEq, and_true] at hcs
        subst hcs
        exact ⟨⟨b0, n1, n2, n3, []⟩, none, 0, 0, rfl, rfl, Nat.le_refl _, Nat.zero_le _, Octs.nil _ _⟩
      · simp only [List.cons.injEq, and_true] at hcs
        subst hcs
        obtain ⟨xd, xp⟩ := x4
        obtain ⟨L, h1, h2, h3, h4⟩ := open_octs (d := xd) (p := xp) ⟨f4, g4⟩
        exact ⟨⟨b0, n1, n2, n3, L⟩, some x, l, c, rfl, h1, h2, h3, h4⟩
end
end Go.Proofs.Ytanmjmeabcloiaa
