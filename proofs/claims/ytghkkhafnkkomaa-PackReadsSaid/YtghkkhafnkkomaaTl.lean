/- The two lists in memory, and what each of their methods does to them. -/
import Derived.Test.YtghkkhafnkkomaaSl
import Derived.RegionTactic
import Derived.BigQuiet
import Derived.Deep.RegionLaw
namespace Go.Proofs.Ytghkkhafnkkomaa
open Go.RowKit
open Go.Proofs

theorem place_in {l : List Int} {x : Int} (h : x ∈ l) : ∃ k : Nat, place l x = (k : Int) ∧ k < l.length ∧ l.eraseIdx k = l.erase x :=
  ⟨l.idxOf x, by rw [place, if_pos h], List.idxOf_lt_length_iff.2 h, (List.erase_eq_eraseIdx_of_idxOf rfl).symm⟩
theorem place_out {l : List Int} {x : Int} (h : x ∉ l) : place l x = -1 := by rw [place, if_neg h]

/-- The lists' struct and the two slices, each in blocks of F. -/
structure TLv (w : World) (t : TypeId) (k : Nat) (F : Nat → Prop) (n : Int) (va vi : Value) (A I : List Int) : Prop where
  head : w.heap[k]? = some (.cells #[.int .i64 n, va, vi] t (0, 0))
  mem : F k
  act : Mine w 3 va (ints A)
  ina : Mine w 3 vi (ints I)
  ba : ∀ g, blk va = some g → F g ∧ g ≠ k ∧ blk vi ≠ some g
  bi : ∀ g, blk vi = some g → F g ∧ g ≠ k
def TL (w : World) (t : TypeId) (k : Nat) (F : Nat → Prop) (n : Int) (A I : List Int) : Prop := ∃ va vi, TLv w t k F n va vi A I
/-- F and what is new. -/
def Since (F : Nat → Prop) (w w' : World) (b : Nat) : Prop := F b ∨ (w.heap.size ≤ b ∧ b < w'.heap.size)

theorem Mine.slice {w : World} {e : TypeId} {v : Value} {xs : List Value} (h : Mine w e v xs) : ∃ A n c, v = .slice A n c := by
  obtain ⟨A, c, hv, _⟩ := h.form
  exact ⟨A, _, c, hv⟩

section
variable {w w' w'' : World} {t : TypeId} {k : Nat} {F G : Nat → Prop} {n : Int} {va vi v : Value} {A I A' I' : List Int}
theorem TLv.upd (h : TLv w t k F n va vi A I) (u : Upd G w w') (hg : ∀ b, F b → ¬ G b) : TLv w' t k F n va vi A I :=
  ⟨u.heap h.head (hg _ h.mem), h.mem, h.act.upd u (fun g e => hg g (h.ba g e).1), h.ina.upd u (fun g e => hg g (h.bi g e).1), h.ba, h.bi⟩
theorem TL.upd (h : TL w t k F n A I) (u : Upd G w w') (hg : ∀ b, F b → ¬ G b) : TL w' t k F n A I := by
  obtain ⟨va, vi, h⟩ := h
  exact ⟨va, vi, h.upd u hg⟩
theorem TLv.mono (h : TLv w t k F n va vi A I) (hg : ∀ b, F b → G b) : TLv w t k G n va vi A I :=
  ⟨h.head, hg _ h.mem, h.act, h.ina, fun g e => ⟨hg g (h.ba g e).1, (h.ba g e).2⟩, fun g e => ⟨hg g (h.bi g e).1, (h.bi g e).2⟩⟩
theorem TL.mono (h : TL w t k F n A I) (hg : ∀ b, F b → G b) : TL w t k G n A I := by
  obtain ⟨va, vi, h⟩ := h
  exact ⟨va, vi, h.mono hg⟩
theorem TLv.ext (h : TLv w t k F n va vi A I) (u : Ext w w') : TLv w' t k F n va vi A I := h.upd (Upd.of_ext (fun _ => False) u) (fun _ _ x => x)
theorem TL.ext (h : TL w t k F n A I) (u : Ext w w') : TL w' t k F n A I := h.upd (Upd.of_ext (fun _ => False) u) (fun _ _ x => x)
theorem TL.since (h : TL w' t k F n A I) (w : World) : TL w' t k (Since F w w') n A I := h.mono (fun _ x => .inl x)
theorem Since.trans {b : Nat} (h : Since (Since F w w') w' w'' b) (h1 : w.heap.size ≤ w'.heap.size) (h2 : w'.heap.size ≤ w''.heap.size) : Since F w w'' b := by
  rcases h with (h | h) | h
  · exact .inl h
  · exact .inr ⟨h.1, Nat.lt_of_lt_of_le h.2 h2⟩
  · exact .inr ⟨Nat.le_trans h1 h.1, h.2⟩
theorem Since.mono {b : Nat} (h : Since F w w' b) (h2 : w'.heap.size ≤ w''.heap.size) : Since F w w'' b := by
  rcases h with h | h
  · exact .inl h
  · exact .inr ⟨h.1, Nat.lt_of_lt_of_le h.2 h2⟩
/-- A second step of the same owner. -/
theorem Upd.then (h : Upd F w w') (k : Upd (Since F w w') w' w'') : Upd F w w'' := h.trans' k (fun b x => by rcases x with x | x; exact .inl x; exact .inr x.1)
theorem TL.then (h : TL w'' t k (Since (Since F w w') w' w'') n A I) (h1 : Upd F w w') (h2 : Upd (Since F w w') w' w'') : TL w'' t k (Since F w w'') n A I := h.mono (fun _ x => x.trans h1.size h2.size)
theorem TL.new (w : World) (t : TypeId) (n : Int) : TL (w.alloc (.cells #[.int .i64 n, .slice none 0 0, .slice none 0 0] t)) t w.heap.size (fun b => b = w.heap.size) n [] [] :=
  ⟨_, _, heap_alloc_new w _, rfl, Mine.nil _ _, Mine.nil _ _, (fun g e => by cases e), fun g e => by cases e⟩
theorem TLv.cells (h : TLv w t k F n va vi A I) : w.cell? ⟨k, 0, none⟩ = some (.int .i64 n) ∧ w.cell? ⟨k, 1, none⟩ = some va ∧ w.cell? ⟨k, 2, none⟩ = some vi ∧ (∀ j, w.frozen? ⟨k, j, none⟩ = false) :=
  ⟨by rw [cell_of_row w k 0 _ t (0, 0) h.head]; rfl, by rw [cell_of_row w k 1 _ t (0, 0) h.head]; rfl, by rw [cell_of_row w k 2 _ t (0, 0) h.head]; rfl, fun j => frozen_of_row w k j _ t h.head⟩
theorem TLv.lt (h : TLv w t k F n va vi A I) : k < w.heap.size := by
  rcases Nat.lt_or_ge k w.heap.size with x | x
  · exact x
  · have := h.head; rw [Array.getElem?_eq_none x] at this; cases this
/-- The active ones are written anew. -/
theorem TLv.setA (h : TLv w t k F n va vi A I) (u : Upd (fun b => blk va = some b) w w') (hm : Mine w' 3 v (ints A')) (hb : blk v = blk va ∨ blk v = some w.heap.size) :
    TLv (w'.setCell ⟨k, 1, none⟩ v) t k (Since F w w') n v vi A' I ∧ Upd F w (w'.setCell ⟨k, 1, none⟩ v) := by
  have hk := u.heap h.head (fun e => (h.ba k e).2.1 rfl)
  have hks := h.lt
  have hi := h.ina.upd u (fun g e e2 => (h.ba g e2).2.2 e)
  have uk : Upd (fun b => b = k) w' (w'.setCell ⟨k, 1, none⟩ v) := (Upd.refl (fun b => b = k) w').setCell (p := ⟨k, 1, none⟩) (.inl rfl) v
  have hvb : ∀ g, blk v = some g → g ≠ k ∧ blk vi ≠ some g ∧ Since F w w' g := by
    intro g e
    rcases hb with hb | hb
    · rw [hb] at e
      exact ⟨(h.ba g e).2.1, (h.ba g e).2.2, .inl (h.ba g e).1⟩
    · have hg := hm.lt e
      rw [hb] at e
      cases e
      exact ⟨by omega, fun e => by have := h.ina.lt e; omega, .inr ⟨Nat.le_refl _, hg⟩⟩
  refine ⟨⟨heap_setCell_same w' k 1 _ t v hk, .inl h.mem, hm.upd uk (fun g e => (hvb g e).1), hi.upd uk (fun g e => (h.bi g e).2), fun g e => ⟨(hvb g e).2.2, (hvb g e).1, (hvb g e).2.1⟩, fun g e => ⟨.inl (h.bi g e).1, (h.bi g e).2⟩⟩,
    (u.mono (G := F) (fun b _ e => (h.ba b e).1)).trans (uk.mono (fun b _ e => by subst e; exact h.mem))⟩
theorem TLv.setI (h : TLv w t k F n va vi A I) (u : Upd (fun b => blk vi = some b) w w') (hm : Mine w' 3 v (ints I')) (hb : blk v = blk vi ∨ blk v = some w.heap.size) :
    TLv (w'.setCell ⟨k, 2, none⟩ v) t k (Since F w w') n va v A I' ∧ Upd F w (w'.setCell ⟨k, 2, none⟩ v) := by
  have hk := u.heap h.head (fun e => (h.bi k e).2 rfl)
  have hks := h.lt
  have ha := h.act.upd u (fun g e e2 => (h.ba g e).2.2 e2)
  have uk : Upd (fun b => b = k) w' (w'.setCell ⟨k, 2, none⟩ v) := (Upd.refl (fun b => b = k) w').setCell (p := ⟨k, 2, none⟩) (.inl rfl) v
  have hvb : ∀ g, blk v = some g → g ≠ k ∧ blk va ≠ some g ∧ Since F w w' g := by
    intro g e
    rcases hb with hb | hb
    · rw [hb] at e
      exact ⟨(h.bi g e).2, fun e2 => (h.ba g e2).2.2 e, .inl (h.bi g e).1⟩
    · have hg := hm.lt e
      rw [hb] at e
      cases e
      exact ⟨by omega, fun e => by have := h.act.lt e; omega, .inr ⟨Nat.le_refl _, hg⟩⟩
  refine ⟨⟨heap_setCell_same w' k 2 _ t v hk, .inl h.mem, ha.upd uk (fun g e => (h.ba g e).2.1), hm.upd uk (fun g e => (hvb g e).1), fun g e => ⟨.inl (h.ba g e).1, (h.ba g e).2.1, fun e2 => (hvb g e2).2.1 e⟩, fun g e => ⟨(hvb g e).2.2, (hvb g e).1⟩⟩,
    (u.mono (G := F) (fun b _ e => (h.bi b e).1)).trans (uk.mono (fun b _ e => by subst e; exact h.mem))⟩
theorem size_setCell (w : World) (p : Addr) (v : Value) : (w.setCell p v).heap.size = w.heap.size := by simp
theorem since_one {w1 w2 : World} {b : Nat} (h : Since F w w1 b) (e : w1.heap.size ≤ w2.heap.size) : Since F w w2 b := h.mono e
theorem since_two {w1 w2 w3 w4 : World} {b : Nat} (h : Since (Since F w w1) w2 w3 b) (s1 : w.heap.size ≤ w1.heap.size) (e1 : w1.heap.size ≤ w2.heap.size) (s2 : w2.heap.size ≤ w3.heap.size) (e2 : w3.heap.size ≤ w4.heap.size) : Since F w w4 b := by
  rcases h with (h | h) | h
  · exact .inl h
  · exact .inr ⟨h.1, by omega⟩
  · exact .inr ⟨by omega, by omega⟩
theorem Upd.then' {w1 w2 w3 : World} (h : Upd F w w2) (k : Upd (Since F w w1) w2 w3) : Upd F w w3 := h.trans' k (fun b x => by rcases x with x | x; exact .inl x; exact .inr x.1)
theorem since_three {w1 w2 w3 w4 w5 w6 : World} {b : Nat} (h : Since (Since (Since F w w1) w2 w3) w4 w5 b) (s1 : w.heap.size ≤ w1.heap.size) (s2 : w1.heap.size ≤ w2.heap.size) (s3 : w2.heap.size ≤ w3.heap.size)
    (s4 : w3.heap.size ≤ w4.heap.size) (s5 : w4.heap.size ≤ w5.heap.size) (s6 : w5.heap.size ≤ w6.heap.size) : Since F w w6 b := by
  rcases h with ((h | h) | h) | h
  · exact .inl h
  · exact .inr ⟨h.1, by omega⟩
  · exact .inr ⟨by omega, by omega⟩
  · exact .inr ⟨by omega, by omega⟩
theorem Upd.then3 {w1 w2 w3 w4 w5 : World} (h : Upd F w w4) (k : Upd (Since (Since F w w1) w2 w3) w4 w5) (s : w.heap.size ≤ w2.heap.size) : Upd F w w5 :=
  h.trans' k (fun b x => by
    rcases x with (x | x) | x
    · exact .inl x
    · exact .inr x.1
    · exact .inr (Nat.le_trans s x.1))
/-- What a store into a field asks, behind a step that left the struct alone. -/
theorem TLv.kept (h : TLv w t k F n va vi A I) (u : Upd G w w') (hg : ¬ G k) : w'.cell? ⟨k, 0, none⟩ = some (.int .i64 n) ∧ w'.cell? ⟨k, 1, none⟩ = some va ∧ w'.cell? ⟨k, 2, none⟩ = some vi ∧ (∀ j, w'.frozen? ⟨k, j, none⟩ = false) := by
  have hk := u.heap h.head hg
  exact ⟨by rw [cell_of_row w' k 0 _ t (0, 0) hk]; rfl, by rw [cell_of_row w' k 1 _ t (0, 0) hk]; rfl, by rw [cell_of_row w' k 2 _ t (0, 0) hk]; rfl, fun j => frozen_of_row w' k j _ t hk⟩
end

set_option maxRecDepth 100000 in
theorem f95_any (v : Value) (l : List Int) (x : Int) (w : World) (hlen : l.length ≤ 4294967296) (hm : Mine w 3 v (ints l)) :
    Calls Try.prog 95 #[v, .int .i64 x] w fun e w' => ∃ v', e = .returned (.tuple #[v', .bool (decide (x ∈ l))]) ∧ Mine w' 3 v' (ints (l.erase x)) ∧ blk v' = blk v ∧ Upd (fun b => blk v = some b) w w' := by
  obtain ⟨A, c, hv, hc, hcm, hx, hb, hn⟩ := hm.form
  rw [length_ints] at hv hc
  subst hv
  have HI := index_ints A l c x w (by omega) hx
  by_cases hin : x ∈ l
  · obtain ⟨k, hk, hlt, he⟩ := place_in hin
    rw [hk] at HI
    have HD := delete_ints A l c k w hlt hm
    rw [he] at HD
    have hd : decide (x ∈ l) = true := by simpa using hin
    rw [hd]
    have hwrap : IntKind.i64.wrap ((k : Int) + 1) = (k : Int) + 1 := IntWalk.i64_in _ (by omega)
    have hneg : ((k : Int) < 0) = False := by simp
    have hblk : ∀ n, blk (.slice A n c) = blk (.slice A l.length c) := fun n => by cases A <;> rfl
    clear hx hb hn he hk hm
    go_enter Try.func95, Try.ntmps95
    go_wp2_with (first | (go_at_call 96; refine HI.mono ?_; rintro e w' ⟨rfl, rfl⟩) | (go_at_call 101; refine HD.mono ?_; rintro e w' ⟨rfl, h1, h2⟩))
    go_ret2
    exact ⟨_, rfl, h1, hblk _, h2⟩
  · rw [place_out hin] at HI
    have hd : decide (x ∈ l) = false := by simpa using hin
    rw [hd, List.erase_of_not_mem hin]
    clear hx hb hn
    go_enter Try.func95, Try.ntmps95
    go_wp2_with (go_at_call 96; refine HI.mono ?_; rintro e w' ⟨rfl, rfl⟩)
    go_ret2
    exact ⟨_, rfl, hm, rfl, Upd.refl _ _⟩

set_option maxRecDepth 100000 in
theorem f16_bad (n : Int) (w : World) (h : n < 1 ∨ 65536 < n) : Calls Try.prog 16 #[.int .i64 n] w fun e w' => e = .returned (.tuple #[.pointer none, .int .i64 2]) ∧ w' = w := by
  by_cases h1 : n < 1
  · go_enter Try.func16, Try.ntmps16
    go_wp2
    go_ret2
    exact ⟨rfl, rfl⟩
  · have h2 : 65536 < n := by omega
    go_enter Try.func16, Try.ntmps16
    go_wp2
    go_ret2
    exact ⟨rfl, rfl⟩
set_option maxRecDepth 100000 in
theorem f16_good (n : Int) (w : World) (h1 : 1 ≤ n) (h2 : n ≤ 65536) : Calls Try.prog 16 #[.int .i64 n] w fun e w' => e = .returned (.tuple #[.pointer (some ⟨w.heap.size, 0, none⟩), .int .i64 0]) ∧
    TL w' 85 w.heap.size (fun b => b = w.heap.size) n [] [] ∧ Ext w w' ∧ w'.heap.size = w.heap.size + 1 := by
  go_enter Try.func16, Try.ntmps16
  go_wp2
  go_ret2
  exact ⟨rfl, TL.new w _ n, (Ext.refl w).alloc _, by simp⟩

set_option maxRecDepth 100000 in
theorem f57_any (k : Nat) (F : Nat → Prop) (n x : Int) (A I : List Int) (w : World) (h : TL w 85 k F n A I) :
    Calls Try.prog 57 #[.pointer (some ⟨k, 0, none⟩), .int .i64 x] w fun e w' => e = .returned (.bool (decide (0 ≤ x) && decide (x < n))) ∧ w' = w := by
  obtain ⟨va, vi, h⟩ := h
  obtain ⟨c0, c1, c2, hf⟩ := h.cells
  clear h c1 c2
  by_cases h0 : 0 ≤ x
  · by_cases hn : x < n
    · rw [decide_eq_true h0, decide_eq_true hn]
      go_enter Try.func57, Try.ntmps57
      go_wp2
      go_ret
      exact ⟨rfl, rfl⟩
    · rw [decide_eq_true h0, decide_eq_false hn]
      go_enter Try.func57, Try.ntmps57
      go_wp2
      go_ret
      exact ⟨rfl, rfl⟩
  · rw [decide_eq_false h0]
    go_enter Try.func57, Try.ntmps57
    go_wp2
    go_ret
    exact ⟨rfl, rfl⟩

set_option maxRecDepth 100000 in
theorem f58_any (k : Nat) (F : Nat → Prop) (n x : Int) (A I : List Int) (w : World) (hA : A.length ≤ 4294967296) (hI : I.length ≤ 4294967296) (h : TL w 85 k F n A I) :
    Calls Try.prog 58 #[.pointer (some ⟨k, 0, none⟩), .int .i64 x] w fun e w' => e = .returned (.bool (decide (x ∈ A) || decide (x ∈ I))) ∧ TL w' 85 k (Since F w w') n (A.erase x) (I.erase x) ∧ Upd F w w' := by
  obtain ⟨va, vi, h⟩ := h
  obtain ⟨c0, c1, c2, hf⟩ := h.cells
  have HA := f95_any va A x w hA h.act
  go_enter Try.func58, Try.ntmps58
  go_wp2_with (first
    | (go_at_call 95; refine HA.mono ?_; clear HA; rintro e w1 ⟨v1, rfl, m1, b1, u1⟩; obtain ⟨q0, q1, q2, qf⟩ := h.kept u1 (fun e => (h.ba k e).2.1 rfl); obtain ⟨A1, n1, d1, rfl⟩ := m1.slice; obtain ⟨t1, s1⟩ := h.setA u1 m1 (.inl b1); have HI := f95_any vi I x _ hI t1.ina)
    | (go_at_call 95; refine HI.mono ?_; clear HI; rintro e w2 ⟨v2, rfl, m2, b2, u2⟩; obtain ⟨p0, p1, p2, pf⟩ := t1.kept u2 (fun e => (t1.bi k e).2 rfl); obtain ⟨A2, n2, d2, rfl⟩ := m2.slice; obtain ⟨t2, s2⟩ := t1.setI u2 m2 (.inl b2)))
  · have hd : decide (x ∈ A) = true := by simpa using ‹x ∈ A›
    go_ret
    refine ⟨ret_bool (by rw [hd]; rfl), ⟨_, _, t2.mono (fun b hb => since_two hb u1.size (Nat.le_of_eq (size_setCell _ _ _).symm) u2.size (Nat.le_of_eq (size_setCell _ _ _).symm))⟩, s1.then' s2⟩
  · have hd : decide (x ∈ A) = false := by simpa using ‹¬ x ∈ A›
    go_ret
    refine ⟨ret_bool (by rw [hd]; rfl), ⟨_, _, t2.mono (fun b hb => since_two hb u1.size (Nat.le_of_eq (size_setCell _ _ _).symm) u2.size (Nat.le_of_eq (size_setCell _ _ _).symm))⟩, s1.then' s2⟩
/-- At most half may be active. -/
def even : List Int → List Int → List Int × List Int
  | [], I => ([], I)
  | a :: A, I => if (A.length + 1) + I.length + 1 < 2 * (A.length + 1) then even A (I ++ [a]) else (a :: A, I)

set_option maxRecDepth 100000 in
theorem f59_any (k : Nat) (F : Nat → Prop) (n : Int) (A I : List Int) (w : World) (hL : A.length + I.length ≤ 4294967295) (h : TL w 85 k F n A I) :
    Calls Try.prog 59 #[.pointer (some ⟨k, 0, none⟩)] w fun e w' => e = .returned (.tuple #[]) ∧ TL w' 85 k (Since F w w') n (even A I).1 (even A I).2 ∧ Upd F w w' := by
  obtain ⟨va, vi, h⟩ := h
  obtain ⟨N, hN⟩ : ∃ N, N = A.length + I.length := ⟨_, rfl⟩
  rw [← hN] at hL
  go_enter Try.func59, Try.ntmps59
  go_wp2_with fail
  go_loopg [] A.length (fun g wr => ∃ (A' I' : List Int) (va vi : Value), A'.length ≤ g ∧ TLv wr 85 k (Since F w wr) n va vi A' I' ∧ Upd F w wr ∧ even A' I' = even A I ∧ A'.length + I'.length = N)
  case atStart => exact ⟨A, I, va, vi, Nat.le_refl _, h.mono (fun _ x => .inl x), Upd.refl _ _, rfl, hN.symm⟩
  case round =>
    obtain ⟨A', I', va, vi, hg, ht, hu, he, hl⟩ := hrel
    obtain ⟨c0, c1, c2, hf⟩ := ht.cells
    obtain ⟨Aa, ca, rfl, hca, _, hxa, _, _⟩ := ht.act.form
    obtain ⟨Ai, ci, rfl, hci, _, hxi, _, _⟩ := ht.ina.form
    simp only [length_ints] at *
    obtain ⟨i0, hi0, hz, hs0, hb0⟩ := info_three info3
    obtain ⟨q, hq⟩ : ∃ q, q = (N + 1) / 2 := ⟨_, rfl⟩
    have hs1 : (A'.length : Int) + (I'.length : Int) = (N : Int) := by omega
    have hw1 : IntKind.i64.wrap (N : Int) = (N : Int) := IntWalk.i64_in _ (by omega)
    have hw2 : IntKind.i64.wrap ((N : Int) + 1) = (N : Int) + 1 := IntWalk.i64_in _ (by omega)
    have hq1 : Int.tdiv ((N : Int) + 1) 2 = (q : Int) := by rw [Int.tdiv_eq_ediv_of_nonneg (by omega)]; omega
    have hw3 : IntKind.i64.wrap (q : Int) = (q : Int) := IntWalk.i64_in _ (by omega)
    by_cases hb : q < A'.length
    · have hgt : ((q : Int) < (A'.length : Int)) = True := by simp; omega
      obtain ⟨x, A2, rfl⟩ : ∃ x A2, A' = x :: A2 := by
        cases A' with
        | nil => simp at hb
        | cons x A2 => exact ⟨x, A2, rfl⟩
      have hev : even (x :: A2) I' = even A2 (I' ++ [x]) := by
        rw [even, if_pos]
        simp only [List.length_cons] at hb hl
        omega
      have hlen : I'.length ≤ 4294967295 := by omega
      obtain ⟨a, ha⟩ : ∃ a, a = (x :: A2).length := ⟨_, rfl⟩
      have hA2 : A2.length < gk := hg
      rw [← ha] at hg hca hgt hs1
      simp only [← ha] at c1 ht hxa
      have ha1 : 1 ≤ a := by rw [ha]; simp
      have ha2 : 0 < a := by omega
      have HA := Lib.hid ha
      have HE := Lib.hid he
      have HL := Lib.hid hl
      clear hq hL hN hl ha he
      go_wp2_with fail
      go_quiet (fail)
      have htq := (ht.ext ((Ext.refl wr).drewN nq)).mono (G := Since F w (wr.drewN nq)) (fun _ x => x)
      have huq := hu.drewN nq
      generalize wr.drewN nq = wq at *
      clear c0 c1 c2 hf hxa hxi ht hu
      obtain ⟨c0, c1, c2, hf⟩ := htq.cells
      obtain ⟨A0, ca0, hv0, _, _, hx0, _, _⟩ := htq.act.form
      injection hv0 with e1 e2 e3
      subst e1
      clear e2 e3
      obtain ⟨ga, oa, rfl, hcell⟩ := hx0.at_ (k := 0) (u := .int .i64 x) (by simp [ints])
      rw [Nat.add_zero] at hcell
      clear hx0
      have htX := htq.ext (((Ext.refl wq).alloc (.cells #[.int .i64 x] 3)).drew)
      have huX := (huq.alloc (.cells #[.int .i64 x] 3)).drew
      obtain ⟨_, _, x2, _⟩ := (htq.ext ((Ext.refl wq).alloc (.cells #[.int .i64 x] 3))).cells
      go_wp2_with fail
      go_region_law (refine step_append_int rfl (.tmp 25) (.tmp 32) rfl (.slice Ai I'.length ci) I' (by simp [Act.eval]) htX.ina (some ⟨wq.heap.size, 0, none⟩) 1 x (by simp [Act.eval]) (Cells.new1 wq (.int .i64 x) 3).drew (by omega) ?_; intro v2 w2 m2 u2 b2; obtain ⟨B2, n2, d2, rfl⟩ := m2.slice; obtain ⟨p0, p1, p2, pf⟩ := htX.kept u2 (fun e => (htX.bi k e).2 rfl); obtain ⟨t2, s2⟩ := htX.setI u2 m2 b2; obtain ⟨A1, r1, r2, m3, b3⟩ := tail_ints (some ⟨ga, oa, none⟩) a ca (x :: A2) _ HA.out.symm ha1 t2.act)
      all_goals
        generalize (some ⟨ga, oa, none⟩ : Option Addr) = A0 at *
        go_wp2_with fail
        go_roundg A2.length
        case measure => exact hA2
        case rel =>
          obtain ⟨t3, s3⟩ := t2.setA (Upd.refl _ _) m3 (.inl b3)
          refine ⟨A2, I' ++ [x], _, _, Nat.le_refl _, t3.mono (fun b hb => since_three hb huq.size (by simp) u2.size (by simp) (by simp) (by simp)), (huX.then' s2).then3 s3 huX.size, by rw [← hev]; exact HE.out, ?_⟩
          have := HL.out
          simp only [List.length_cons, List.length_append, List.length_nil] at this ⊢
          omega
    · have hgt : ((q : Int) < (A'.length : Int)) = False := by simp; omega
      have hev : even A' I' = (A', I') := by
        cases A' with
        | nil => rfl
        | cons x A2 =>
          rw [even, if_neg]
          simp only [List.length_cons] at hb hl
          omega
      clear hq hL hN hl
      go_wp2_with fail
      go_quiet (fail)
      go_wp2_with fail
      go_end0
      rw [← he, hev]
      exact ⟨rfl, ⟨_, _, (ht.ext ((Ext.refl wr).drewN nq)).mono (fun _ x => x)⟩, hu.drewN nq⟩
end Go.Proofs.Ytghkkhafnkkomaa
