/- The two lists in memory, and what each of their methods does to them. -/
import Derived.Test.YtgpnmmgoachajaaSl
import Derived.RegionTactic
import Derived.BigQuiet
import Derived.Deep.RegionLaw
namespace Go.Proofs.Ytgpnmmgoachajaa
open Go.RowKit
open Go.Proofs

theorem place_in {l : List Int} {x : Int} (h : x ∈ l) : ∃ k : Nat, place l x = (k : Int) ∧ k < l.length ∧ l.eraseIdx k = l.erase x :=
  ⟨l.idxOf x, by rw [place, if_pos h], List.idxOf_lt_length_iff.2 h, (List.erase_eq_eraseIdx_of_idxOf rfl).symm⟩
theorem place_out {l : List Int} {x : Int} (h : x ∉ l) : place l x = -1 := by rw [place, if_neg h]

/-- The lists' struct and the two slices, each in blocks of F. -/
structure TLv (w : World) (t : TypeId) (k : Nat) (F : Nat → Prop) (n : Int) (va vi : Value) (A I : List Int) : Prop where
  head : w.heap[k]? = some (.cells #[.int .i64 n, va, vi] t (0, 0))
  mem : F k
  act : Mine w 3 va (ints A)
  ina : Mine w 3 vi (ints I)
  ba : ∀ g, blk va = some g → F g ∧ g ≠ k ∧ blk vi ≠ some g
  bi : ∀ g, blk vi = some g → F g ∧ g ≠ k
def TL (w : World) (t : TypeId) (k : Nat) (F : Nat → Prop) (n : Int) (A I : List Int) : Prop := ∃ va vi, TLv w t k F n va vi A I
/-- F and what is new. -/
def Since (F : Nat → Prop) (w w' : World) (b : Nat) : Prop := F b ∨ (w.heap.size ≤ b ∧ b < w'.heap.size)

theorem Mine.slice {w : World} {e : TypeId} {v : Value} {xs : List Value} (h : Mine w e v xs) : ∃ A n c, v = .slice A n c := by
  obtain ⟨A, c, hv, _⟩ := h.form
  exact ⟨A, _, c, hv⟩

section
variable {w w' w'' : World} {t : TypeId} {k : Nat} {F G : Nat → Prop} {n : Int} {va vi v : Value} {A I A' I' : List Int}
theorem TLv.upd (h : TLv w t k F n va vi A I) (u : Upd G w w') (hg : ∀ b, F b → ¬ G b) : TLv w' t k F n va vi A I :=
  ⟨u.heap h.head (hg _ h.mem), h.mem, h.act.upd u (fun g e => hg g (h.ba g e).1), h.ina.upd u (fun g e => hg g (h.bi g e).1), h.ba, h.bi⟩
theorem TL.upd (h : TL w t k F n A I) (u : Upd G w w') (hg : ∀ b, F b → ¬ G b) : TL w' t k F n A I := by
  obtain ⟨va, vi, h⟩ := h
  exact ⟨va, vi, h.upd u hg⟩
theorem TLv.mono (h : TLv w t k F n va vi A I) (hg : ∀ b, F b → G b) : TLv w t k G n va vi A I :=
  ⟨h.head, hg _ h.mem, h.act, h.ina, fun g e => ⟨hg g (h.ba g e).1, (h.ba g e).2⟩, fun g e => ⟨hg g (h.bi g e).1, (h.bi g e).2⟩⟩
theorem TL.mono (h : TL w t k F n A I) (hg : ∀ b, F b → G b) : TL w t k G n A I := by
  obtain ⟨va, vi, h⟩ := h
  exact ⟨va, vi, h.mono hg⟩
theorem TLv.ext (h : TLv w t k F n va vi A I) (u : Ext w w') : TLv w' t k F n va vi A I := h.upd (Upd.of_ext (fun _ => False) u) (fun _ _ x => x)
theorem TL.ext (h : TL w t k F n A I) (u : Ext w w') : TL w' t k F n A I := h.upd (Upd.of_ext (fun _ => False) u) (fun _ _ x => x)
theorem TL.since (h : TL w' t k F n A I) (w : World) : TL w' t k (Since F w w') n A I := h.mono (fun _ x => .inl x)
theorem Since.trans {b : Nat} (h : Since (Since F w w') w' w'' b) (h1 : w.heap.size ≤ w'.heap.size) (h2 : w'.heap.size ≤ w''.heap.size) : Since F w w'' b := by
  rcases h with (h | h) | h
  · exact .inl h
  · exact .inr ⟨h.1, Nat.lt_of_lt_of_le h.2 h2⟩
  · exact .inr ⟨Nat.le_trans h1 h.1, h.2⟩
theorem Since.mono {b : Nat} (h : Since F w w' b) (h2 : w'.heap.size ≤ w''.heap.size) : Since F w w'' b := by
  rcases h with h | h
  · exact .inl h
  · exact .inr ⟨h.1, Nat.lt_of_lt_of_le h.2 h2⟩
/-- A second step of the same owner. -/
theorem Upd.then (h : Upd F w w') (k : Upd (Since F w w') w' w'') : Upd F w w'' := h.trans' k (fun b x => by rcases x with x | x; exact .inl x; exact .inr x.1)
theorem TL.then (h : TL w'' t k (Since (Since F w w') w' w'') n A I) (h1 : Upd F w w') (h2 : Upd (Since F w w') w' w'') : TL w'' t k (Since F w w'') n A I := h.mono (fun _ x => x.trans h1.size h2.size)
theorem TL.new (w : World) (t : TypeId) (n : Int) : TL (w.alloc (.cells #[.int .i64 n, .slice none 0 0, .slice none 0 0] t)) t w.heap.size (fun b => b = w.heap.size) n [] [] :=
  ⟨_, _, heap_alloc_new w _, rfl, Mine.nil _ _, Mine.nil _ _, (fun g e => by cases e), fun g e => by cases e⟩
theorem TLv.cells (h : TLv w t k F n va vi A I) : w.cell? ⟨k, 0, none⟩ = some (.int .i64 n) ∧ w.cell? ⟨k, 1, none⟩ = some va ∧ w.cell? ⟨k, 2, none⟩ = some vi ∧ (∀ j, w.frozen? ⟨k, j, none⟩ = false) :=
  ⟨by rw [cell_of_row w k 0 _ t (0, 0) h.head]; rfl, by rw [cell_of_row w k 1 _ t (0, 0) h.head]; rfl, by rw [cell_of_row w k 2 _ t (0, 0) h.head]; rfl, fun j => frozen_of_row w k j _ t h.head⟩
theorem TLv.lt (h : TLv w t k F n va vi A I) : k < w.heap.size := by
  rcases Nat.lt_or_ge k w.heap.size with x | x
  · exact x
  · have := h.head; rw [Array.getElem?_eq_none x] at this; cases this
/-- The active ones are written anew. -/
theorem TLv.setA (h : TLv w t k F n va vi A I) (u : Upd (fun b => blk va = some b) w w') (hm : Mine w' 3 v (ints A')) (hb : blk v = blk va ∨ blk v = some w.heap.size) :
    TLv (w'.setCell ⟨k, 1, none⟩ v) t k (Since F w w') n v vi A' I ∧ Upd F w (w'.setCell ⟨k, 1, none⟩ v) := by
  have hk := u.heap h.head (fun e => (h.ba k e).2.1 rfl)
  have hks := h.lt
  have hi := h.ina.upd u (fun g e e2 => (h.ba g e2).2.2 e)
  have uk : Upd (fun b => b = k) w' (w'.setCell ⟨k, 1, none⟩ v) := (Upd.refl (fun b => b = k) w').setCell (p := ⟨k, 1, none⟩) (.inl rfl) v
  have hvb : ∀ g, blk v = some g → g ≠ k ∧ blk vi ≠ some g ∧ Since F w w' g := by
    intro g e
    rcases hb with hb | hb
    · rw [hb] at e
      exact ⟨(h.ba g e).2.1, (h.ba g e).2.2, .inl (h.ba g e).1⟩
    · have hg := hm.lt e
      rw [hb] at e
      cases e
      exact ⟨by omega, fun e => by have := h.ina.lt e; omega, .inr ⟨Nat.le_refl _, hg⟩⟩
  refine ⟨⟨heap_setCell_same w' k 1 _ t v hk, .inl h.mem, hm.upd uk (fun g e => (hvb g e).1), hi.upd uk (fun g e => (h.bi g e).2), fun g e => ⟨(hvb g e).2.2, (hvb g e).1, (hvb g e).2.1⟩, fun g e => ⟨.inl (h.bi g e).1, (h.bi g e).2⟩⟩,
    (u.mono (G := F) (fun b _ e => (h.ba b e).1)).trans (uk.mono (fun b _ e => by subst e; exact h.mem))⟩
theorem TLv.setI (h : TLv w t k F n va vi A I) (u : Upd (fun b => blk vi = some b) w w') (hm : Mine w' 3 v (ints I')) (hb : blk v = blk vi ∨ blk v = some w.heap.size) :
    TLv (w'.setCell ⟨k, 2, none⟩ v) t k (Since F w w') n va v A I' ∧ Upd F w (w'.setCell ⟨k, 2, none⟩ v) := by
  have hk := u.heap h.head (fun e => (h.bi k e).2 rfl)
  have hks := h.lt
  have ha := h.act.upd u (fun g e e2 => (h.ba g e).2.2 e2)
  have uk : Upd (fun b => b = k) w' (w'.setCell ⟨k, 2, none⟩ v) := (Upd.refl (fun b => b = k) w').setCell (p := ⟨k, 2, none⟩) (.inl rfl) v
  have hvb : ∀ g, blk v = some g → g ≠ k ∧ blk va ≠ some g ∧ Since F w w' g := by
    intro g e
    rcases hb with hb | hb
    · rw [hb] at e
      exact ⟨(h.bi g e).2, fun e2 => (h.ba g e2).2.2 e, .inl (h.bi g e).1⟩
    · have hg := hm.lt e
      rw [hb] at e
      cases e
      exact ⟨by omega, fun e => by have := h.act.lt e; omega, .inr ⟨Nat.le_refl _, hg⟩⟩
  refine ⟨⟨heap_setCell_same w' k 2 _ t v hk, .inl h.mem, ha.upd uk (fun g e => (h.ba g e).2.1), hm.upd uk (fun g e => (hvb g e).1), fun g e => ⟨.inl (h.ba g e).1, (h.ba g e).2.1, fun e2 => (hvb g e2).2.1 e⟩, fun g e => ⟨(hvb g e).2.2, (hvb g e).1⟩⟩,
    (u.mono (G := F) (fun b _ e => (h.bi b e).1)).trans (uk.mono (fun b _ e => by subst e; exact h.mem))⟩
theorem size_setCell (w : World) (p : Addr) (v : Value) : (w.setCell p v).heap.size = w.heap.size := by simp
theorem since_one {w1 w2 : World} {b : Nat} (h : Since F w w1 b) (e : w1.heap.size ≤ w2.heap.size) : Since F w w2 b := h.mono e
theorem since_two {w1 w2 w3 w4 : World} {b : Nat} (h : Since (Since F w w1) w2 w3 b) (s1 : w.heap.size ≤ w1.heap.size) (e1 : w1.heap.size ≤ w2.heap.size) (s2 : w2.heap.size ≤ w3.heap.size) (e2 : w3.heap.size ≤ w4.heap.size) : Since F w w4 b := by
  rcases h with (h | h) | h
  · exact .inl h
  · exact .inr ⟨h.1, by omega⟩
  · exact .inr ⟨by omega, by omega⟩
theorem Upd.then' {w1 w2 w3 : World} (h : Upd F w w2) (k : Upd (Since F w w1) w2 w3) : Upd F w w3 := h.trans' k (fun b x => by rcases x with x | x; exact .inl x; exact .inr x.1)
theorem since_three {w1 w2 w3 w4 w5 w6 : World} {b : Nat} (h : Since (Since (Since F w w1) w2 w3) w4 w5 b) (s1 : w.heap.size ≤ w1.heap.size) (s2 : w1.heap.size ≤ w2.heap.size) (s3 : w2.heap.size ≤ w3.heap.size)
    (s4 : w3.heap.size ≤ w4.heap.size) (s5 : w4.heap.size ≤ w5.heap.size) (s6 : w5.heap.size ≤ w6.heap.size) : Since F w w6 b := by
  rcases h with ((h | h) | h) | h
  · exact .inl h
  · exact .inr ⟨h.1, by omega⟩
  · exact .inr ⟨by omega, by omega⟩
  · exact .inr ⟨by omega, by omega⟩
theorem Upd.then3 {w1 w2 w3 w4 w5 : World} (h : Upd F w w4) (k : Upd (Since (Since F w w1) w2 w3) w4 w5) (s : w.heap.size ≤ w2.heap.size) : Upd F w w5 :=
  h.trans' k (fun b x => by
    rcases x with (x | x) | x
    · exact .inl x
    · exact .inr x.1
    · exact .inr (Nat.le_trans s x.1))
/-- What a store into a field asks, behind a step that left the struct alone. -/
theorem TLv.kept (h : TLv w t k F n va vi A I) (u : Upd G w w') (hg : ¬ G k) : w'.cell? ⟨k, 0, none⟩ = some (.int .i64 n) ∧ w'.cell? ⟨k, 1, none⟩ = some va ∧ w'.cell? ⟨k, 2, none⟩ = some vi ∧ (∀ j, w'.frozen? ⟨k, j, none⟩ = false) := by
  have hk := u.heap h.head hg
  exact ⟨by rw [cell_of_row w' k 0 _ t (0, 0) hk]; rfl, by rw [cell_of_row w' k 1 _ t (0, 0) hk]; rfl, by rw [cell_of_row w' k 2 _ t (0, 0) hk]; rfl, fun j => frozen_of_row w' k j _ t hk⟩
end

/-- At most half may be active. -/
def even : List Int → List Int → List Int × List Int
  | [], I => ([], I)
  | a :: A, I => if (A.length + 1) + I.length + 1 < 2 * (A.length + 1) then even A (I ++ [a]) else (a :: A, I)

end Go.Proofs.Ytgpnmmgoachajaa
