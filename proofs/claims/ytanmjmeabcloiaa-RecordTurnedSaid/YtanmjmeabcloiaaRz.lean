/- Layer 4's reading: a zigzag is taken off. -/
import Derived.Test.YtanmjmeabcloiaaRd
import Derived.Test.YtanmjmeabcloiaaZg
namespace Go.Proofs.Ytanmjmeabcloiaa
open Go.RowKit
open Go.Proofs
open Go.Shelf

theorem octs_at (l : List UInt8) (k : Nat) (h : k < l.length) : (octs l)[k]? = some (oct l[k]!) := by simp [octs, h]
theorem octs_cell {w : World} {b o : Nat} {l : List UInt8} (h : ∀ (j : Nat) u, (octs l)[j]? = some u → w.cell? ⟨b, o + j, none⟩ = some u) : ∀ j, j < l.length → w.cell? ⟨b, o + j, none⟩ = some (oct l[j]!) :=
  fun j hj => h j _ (octs_at l j hj)
def isLow (c : UInt8) : Bool := decide (c.toNat < 128)

theorem idxBy_first : ∀ (l : List UInt8) (i : Nat) (d : UInt8), Lib.idxByFrom (fun _ y => isLow y) d l i = match firstLow l with | some k => ((i + k : Nat) : Int) | none => -1
  | [], i, d => rfl
  | c :: l, i, d => by
    have ih := idxBy_first l (i + 1) d
    unfold firstLow at ih ⊢
    rw [Lib.idxByFrom, List.findIdx?_cons]
    unfold isLow at ih ⊢
    by_cases h : c.toNat < 128
    · rw [decide_eq_true h]; rfl
    · rw [decide_eq_false h]
      simp only [Bool.false_eq_true, if_false]
      rw [ih]
      cases List.findIdx? (fun c => decide (c.toNat < 128)) l with
      | none => rfl
      | some k => simp only [Option.map_some]; congr 1; omega

theorem octs_inj {l m : List UInt8} (h : octs l = octs m) : l = m := by
  unfold octs at h
  refine List.map_inj_right (fun x y e => ?_) |>.1 h
  unfold oct at e
  injection e with _ e
  exact UInt8.toNat_inj.1 (by omega)
theorem allEq_octs : ∀ (l m : List UInt8), Lib.allEq (fun x y : UInt8 => x == y) l m = decide (l = m)
  | [], [] => by simp [Lib.allEq]
  | [], y :: m => by simp [Lib.allEq]
  | x :: l, [] => by simp [Lib.allEq]
  | x :: l, y :: m => by
    have := allEq_octs l m
    simp only [Lib.allEq, List.cons.injEq]
    by_cases h : x = y
    · subst h; simp [this]
    · simp [h]
theorem neq_oct : NeqAt Try.prog 5 oct (fun x y => x == y) := by
  refine ⟨fun x y w => ?_, fun op a b x y w => ?_⟩
  · have := (NeqAt.int Try.prog 5 .u8).1 (x.toNat : Int) (y.toNat : Int) w
    rw [oct, oct, this]
    congr 2
    by_cases h : x = y
    · subst h; simp
    · have h2 : ¬ (x.toNat : Int) = (y.toNat : Int) := fun e => h (UInt8.toNat_inj.1 (by omega))
      show (!((x.toNat : Int) == (y.toNat : Int))) = !(x == y)
      rw [beq_eq_false_iff_ne.2 h2, beq_eq_false_iff_ne.2 h]
  · exact (NeqAt.int Try.prog 5 .u8).2 op a b _ _ w
theorem equal_octs (A B : Option Addr) (l m : List UInt8) (c d : Nat) (w : World) (hl : 0 < l.length) (hm : 0 < m.length) (hbl : l.length ≤ 9223372036854775807) (hbm : m.length ≤ 9223372036854775807) (hx : Octs w A l) (hy : Octs w B m) :
    Calls Try.prog 44 #[.slice A l.length c, .slice B m.length d] w fun e w' => e = .returned (.bool (decide (l = m))) ∧ ∃ q, w' = w.drewN q := by
  obtain ⟨b, o, rfl, hc⟩ := hx (by simpa using hl)
  obtain ⟨b2, o2, rfl, hc2⟩ := hy (by simpa using hm)
  have h := AnyE.slices_Equal lays44 oct (fun x y => x == y) neq_oct b o l.length c b2 o2 m.length d l m w (Nat.le_refl _) (Nat.le_refl _) hbl hbm (octs_cell hc) (octs_cell hc2)
  rw [List.take_length, List.take_length, allEq_octs] at h
  exact h
end Go.Proofs.Ytanmjmeabcloiaa
