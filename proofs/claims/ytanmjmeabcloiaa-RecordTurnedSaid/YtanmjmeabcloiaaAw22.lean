/- The document's comparison of two lists of ints, and the example of layer 22. -/
import Derived.Test.YtanmjmeabcloiaaTl3
namespace Go.Proofs.Ytanmjmeabcloiaa
open Go.RowKit
open Go.Proofs

/-- 0, 1, .. -/
def iota (j : Nat) : List Int := (List.range j).map (fun (i : Nat) => (i : Int))
theorem iota_succ (j : Nat) : iota (j + 1) = iota j ++ [(j : Int)] := by simp [iota, List.range_succ]
theorem iota_length (j : Nat) : (iota j).length = j := by simp [iota]
theorem iota_mem (j : Nat) (x : Int) : x ∈ iota j ↔ 0 ≤ x ∧ x < j := by
  simp only [iota, List.mem_map, List.mem_range]
  constructor
  · rintro ⟨i, h, rfl⟩; omega
  · rintro ⟨h0, h1⟩; exact ⟨x.toNat, by omega, by omega⟩
theorem even_nil (I : List Int) : even [] I = ([], I) := rfl
theorem tAdd_iota (n : Int) (j : Nat) (h : (j : Int) < n) : tAdd n (j : Int) [] (iota j) = ([], iota (j + 1)) := by
  have h1 : (j : Int) ∉ iota j := by rw [iota_mem]; omega
  rw [tAdd, if_pos ⟨by omega, h⟩, List.erase_of_not_mem h1, iota_succ]
  rfl

theorem Own.ints_form {w : World} {base : Nat} {v : Value} {l : List Int} (h : Own w base 3 v (ints l)) : ∃ A c, v = .slice A l.length c ∧ l.length ≤ c ∧ Cells w A (ints l) := by
  obtain ⟨A, c, hv, hc, _, hx, _⟩ := h.form
  rw [length_ints] at hv hc
  exact ⟨A, c, hv, hc, hx⟩
theorem upd_ext {F : Nat → Prop} {w0 w1 w2 : World} {k : Nat} (u : Upd F w1 w2) (h : Ext w0 w1) (hk : w0.heap.size = k) (hF : F = fun b => b = k) : Ext w0 w2 :=
  u.to_ext h (fun b e => by rw [hF] at e; exact Nat.le_of_eq (hk.trans e.symm))

end Go.Proofs.Ytanmjmeabcloiaa
