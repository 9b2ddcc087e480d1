/- From the reading of an argument as data to the walks' words: two slices of octets in an array, one crash. -/
import Derived.Test.YtgpnmmgoachajaaLiftE
import Derived.Deep.Strs
namespace Go.Proofs.Ytgpnmmgoachajaa
open Go.ChangeShapes Go.WideShapes Go.ChangeAt Go.RowKit Go.Deep
open Go.Proofs

section
variable {H : Type} {enc : TypeId × Value → H} {w : World} {base : Nat} {held : Bool}
theorem cells_texts : Try.prog.cellsOf 58 = 2 := by kernel_rfl
theorem cells_oct22 : Try.prog.cellsOf 22 = 1 := by kernel_rfl
theorem open_oct_cell {fuel : Nat} {v : Value} {x : DataW H × List MemPlace} (h : DataW.trod enc Try.prog w base (fun _ => true) held fuel 22 [v] = some x) :
    ∃ (A : Option Addr) (n c : Nat) (l : List UInt8), v = .slice A n c ∧ l.length = n ∧ n ≤ c ∧ c ≤ maxLen ∧ Octs w A l := by
  rcases open_ints Try.underlying22 Try.underlying5 cells5 h with ⟨hcs, _⟩ | ⟨x', l, c, zs, hcs, _⟩
  · simp only [List.cons.injEq, and_true] at hcs
    subst hcs
    exact ⟨none, 0, 0, [], rfl, rfl, Nat.le_refl _, Nat.zero_le _, Octs.nil _ _⟩
  · simp only [List.cons.injEq, and_true] at hcs
    subst hcs
    obtain ⟨xd, xp⟩ := x
    obtain ⟨L, h1, h2, h3, h4⟩ := open_octs (d := xd) (p := xp) ⟨fuel, h⟩
    exact ⟨some x', l, c, L, rfl, h1, h2, h3, h4⟩
set_option maxRecDepth 100000 in
theorem open_texts {b2 : Nat} {v : Value} {d : DataW H} {p : List MemPlace} (hv : Value.okWide Try.prog w .any b2 58 v) (h : DataW.Trod enc Try.prog w base (fun _ => true) held 58 v d p) :
    ∃ (A B : Option Addr) (n c m e : Nat) (l k : List UInt8), v = .agg #[.slice A n c, .slice B m e] ∧ (l.length = n ∧ n ≤ c ∧ c ≤ maxLen ∧ Octs w A l) ∧ (k.length = m ∧ m ≤ e ∧ e ≤ maxLen ∧ Octs w B k) := by
  simp only [Value.okWide, Try.underlying58, cells_texts] at hv
  obtain ⟨cs, rfl, hsz, _⟩ := hv
  obtain ⟨fuel, hf⟩ := h
  obtain ⟨xs, m, _, _, _, hl, hel⟩ := DataW.trod_array Try.underlying58 hf
  obtain ⟨ls⟩ := cs
  have hsz2 : ls.length = 2 := hsz
  match ls, hsz2 with
  | [v0, v1], _ =>
    have h0 := hel 0 (by omega)
    have h1 := hel 1 (by omega)
    rw [cells_oct22, List.getElem?_eq_getElem (by omega)] at h0 h1
    obtain ⟨A, n, c, l, rfl, q0⟩ := open_oct_cell h0
    obtain ⟨B, n1, c1, k, rfl, q1⟩ := open_oct_cell h1
    exact ⟨A, B, n, c, n1, c1, l, k, rfl, q0, q1⟩
set_option maxRecDepth 100000 in
theorem open_crash {b2 : Nat} {v : Value} {d : DataW H} {p : List MemPlace} (hv : Value.okWide Try.prog w .any b2 35 v) (h : DataW.Trod enc Try.prog w base (fun _ => true) held 35 v d p) :
    ∃ (G : Option Addr) (keep : List Int) (m c : Nat) (torn cut : Int), v = .agg #[.slice G m c, .int .i64 torn, .int .i64 cut] ∧ keep.length = m ∧ m ≤ c ∧ c ≤ maxLen ∧ Cells w G (ints keep) := by
  simp only [Value.okWide, Try.underlying35, cells_crash] at hv
  obtain ⟨cs, rfl, hsz, _⟩ := hv
  obtain ⟨fuel, hf⟩ := h
  obtain ⟨y0, y1, y2, n, _, _, g0, g1, g2⟩ := trod_struct3 Try.underlying35 hf
  obtain ⟨ls⟩ := cs
  have hsz2 : ls.length = 3 := hsz
  match ls, hsz2 with
  | [v0, v1, v2], _ =>
    have h0 : DataW.trod enc Try.prog w base (fun _ => true) held n 33 [v0] = some y0 := by
      have e : Try.prog.cellsOf 33 = 1 := cells_keep
      simpa [e, Value.cells] using g0
    have h1 : DataW.trod enc Try.prog w base (fun _ => true) held n 3 [v1] = some y1 := by
      have e : Try.prog.cellsOf 3 = 1 := cells3
      simpa [e, Value.cells] using g1
    have h2 : DataW.trod enc Try.prog w base (fun _ => true) held n 3 [v2] = some y2 := by
      have e : Try.prog.cellsOf 3 = 1 := cells3
      simpa [e, Value.cells] using g2
    obtain ⟨n1, e1, _, _⟩ := DataW.trod_int Try.underlying3 h1
    obtain ⟨n2, e2, _, _⟩ := DataW.trod_int Try.underlying3 h2
    simp only [List.cons.injEq, and_true] at e1 e2
    subst e1 e2
    rcases open_ints Try.underlying33 Try.underlying3 cells3 h0 with ⟨hcs, _⟩ | ⟨x, l, c, zs, hcs, _, hl2, hm2, hz, _, hcell, _⟩
    · simp only [List.cons.injEq, and_true] at hcs
      subst hcs
      exact ⟨none, [], 0, 0, n1, n2, rfl, rfl, Nat.le_refl _, Nat.zero_le _, Cells.nil _ _⟩
    · simp only [List.cons.injEq, and_true] at hcs
      subst hcs
      simp at hz
      exact ⟨some x, zs.take l, l, c, n1, n2, rfl, by simp; omega, hl2, hm2, cells_of_ints (by omega) hcell⟩
end
end Go.Proofs.Ytgpnmmgoachajaa
