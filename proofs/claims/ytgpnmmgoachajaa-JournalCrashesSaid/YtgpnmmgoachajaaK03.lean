/- Joined texts: Reg, Sl, Tl, Wr, Wr2, Up, Dr, Df. -/
import Derived.Test.YtgpnmmgoachajaaK01
import Derived.Deep.RegionHeld
import Derived.Test.YtgpnmmgoachajaaK02
import Derived.RegionTactic
import Derived.BigQuiet
import Derived.Deep.RegionLaw
/- One step through a region that draws its order: the operation's value is laid into the frame at once, so that the frame stays a row of values. -/
namespace Go.Proofs.Ytgpnmmgoachajaa
open Go.RowKit
open Go.Proofs

section
variable {P : Program} {md : Region.Mode} {ops : Array Oper} {Q : Exit → Act → World → Prop} {S : World → Prop}
theorem takeH {i d : Nat} {oi : Oper} {v : Value} {fuel : Nat} {listed : Array Bool} {tmps : Array Value} {ds : List Deferred} {w : World} (hi : ops[i]? = some oi) (hd : oi.dst = some d)
    (hs : Region.noSelect ops = true) (hf : Region.free md ops listed i = true) (hr : (Region.ready md ops listed).contains i = true)
    (hQ : ∀ c a w, Q (.panic c) (a.put oi.dst v) w → Q (.panic c) a w) (hy : YieldsIf P ops S oi v ⟨tmps, ds⟩) (hS : S w)
    (h : wpAnyH P md ops Q S fuel (listed.setIfInBounds i true) ⟨tmps.setIfInBounds d v, ds⟩ w) : wpAnyH P md ops Q S (fuel + 1) listed ⟨tmps, ds⟩ w :=
  wpAnyH_take hi hs hf hr hQ hy hS (by rw [hd]; exact h)
end
end Go.Proofs.Ytgpnmmgoachajaa
/- The library's Index, Contains, IndexFunc, Delete and Clone at slices of ints: the shelf's contracts in the walks' own words. -/
namespace Go.Proofs.Ytgpnmmgoachajaa
open Go.RowKit
open Go.Proofs
open Go.Shelf

/-- An int as a cell holds it. -/
def ints (l : List Int) : List Value := l.map (Value.int .i64)
@[simp] theorem length_ints (l : List Int) : (ints l).length = l.length := by simp [ints]
theorem ints_append (l m : List Int) : ints (l ++ m) = ints l ++ ints m := by simp [ints]
theorem ints_get (l : List Int) (k : Nat) (h : k < l.length) : (ints l)[k]? = some (.int .i64 l[k]) := by simp [ints, h]
theorem ints_at (l : List Int) (k : Nat) (h : k < l.length) : (ints l)[k]? = some (.int .i64 l[k]!) := by simp [ints, h]
theorem ints_one (l : List Int) : ∀ u ∈ ints l, u.oneCell' = true := by
  intro u hu
  simp only [ints, List.mem_map] at hu
  obtain ⟨c, _, rfl⟩ := hu
  rfl
theorem ints_cell {w : World} {b o : Nat} {l : List Int} (h : ∀ (j : Nat) u, (ints l)[j]? = some u → w.cell? ⟨b, o + j, none⟩ = some u) : ∀ j, j < l.length → w.cell? ⟨b, o + j, none⟩ = some (.int .i64 l[j]!) :=
  fun j hj => h j _ (ints_at l j hj)

theorem info3 : (Try.prog.info? 3).map (fun i => (i.zero, i.size, i.bytes)) = some (some (.int .i64 0), 1, 8) := by kernel_rfl
theorem info_three {P : Program} {t : TypeId} {z : Option Value} {s b : Nat} (h : (P.info? t).map (fun i => (i.zero, i.size, i.bytes)) = some (z, s, b)) : ∃ i, P.info? t = some i ∧ i.zero = z ∧ i.size = s ∧ i.bytes = b := by
  cases hi : P.info? t with
  | none => rw [hi] at h; cases h
  | some i => rw [hi] at h; injection h with h; injection h with h1 h; injection h with h2 h3; exact ⟨i, rfl, h1, h2, h3⟩

/-- Where it first stands. -/
def place (l : List Int) (x : Int) : Int := if x ∈ l then ((l.idxOf x : Nat) : Int) else -1
theorem idxBy_place (x : Int) : ∀ (l : List Int) (i : Nat), Lib.idxByFrom (fun x y : Int => x == y) x l i = if x ∈ l then ((i + l.idxOf x : Nat) : Int) else -1
  | [], i => by simp [Lib.idxByFrom]
  | y :: r, i => by
    rw [Lib.idxByFrom]
    by_cases h : x = y
    · subst h; simp
    · have h2 : (x == y) = false := by simp [h]
      have h3 : (y == x) = false := by simp [Ne.symm h]
      rw [h2, if_neg (by simp), idxBy_place x r (i + 1)]
      simp only [List.mem_cons, h, false_or, List.idxOf_cons, h3, cond_false]
      split <;> simp <;> omega

theorem index_ints (A : Option Addr) (l : List Int) (c : Nat) (x : Int) (w : World) (hbig : l.length ≤ 9223372036854775807) (hx : Cells w A (ints l)) :
    Calls Try.prog 64 #[.slice A l.length c, .int .i64 x] w fun e w' => e = .returned (.int .i64 (place l x)) ∧ w' = w := by
  rcases Nat.eq_zero_or_pos l.length with h0 | h0
  · have : l = [] := List.eq_nil_of_length_eq_zero h0
    subst this
    exact AnyE.slices_Index_empty lays64 A c (.int .i64 x) w
  · obtain ⟨b, o, rfl, hc⟩ := hx (by simpa using h0)
    have h := AnyE.slices_Index lays64 (Value.int .i64) _ (EqlAt.int _ _ .i64) b o l.length c l x w (Nat.le_refl _) hbig (ints_cell hc)
    rw [List.take_length, Lib.idxBy, idxBy_place, Nat.zero_add] at h
    exact h

theorem contains_ints (A : Option Addr) (l : List Int) (c : Nat) (x : Int) (w : World) (hbig : l.length ≤ 9223372036854775807) (hx : Cells w A (ints l)) :
    Calls Try.prog 50 #[.slice A l.length c, .int .i64 x] w fun e w' => e = .returned (.bool (decide (x ∈ l))) ∧ w' = w := by
  rcases Nat.eq_zero_or_pos l.length with h0 | h0
  · have : l = [] := List.eq_nil_of_length_eq_zero h0
    subst this
    exact AnyE.slices_Contains_empty lays50 A c (.int .i64 x) w
  · obtain ⟨b, o, rfl, hc⟩ := hx (by simpa using h0)
    have h := AnyE.slices_Contains lays50 (Value.int .i64) _ (EqlAt.int _ _ .i64) b o l.length c l x w (Nat.le_refl _) hbig (ints_cell hc)
    have e : (l.take l.length).any (fun y => x == y) = decide (x ∈ l) := by
      rw [List.take_length, Bool.eq_iff_iff]
      simp
    rw [e] at h
    exact h

theorem putCells_out (enc : Int → Value) (off : Nat) (d : Array Int) (c : Array Value) (k : Nat) (h : k < off ∨ off + d.size ≤ k) : (Sort.putCells enc off d c)[k]? = c[k]? := by
  unfold Sort.putCells
  rw [Array.getElem?_mapIdx]
  cases c[k]? with
  | none => rfl
  | some u => rw [Option.map_some, if_neg (by omega)]
theorem putCells_in (enc : Int → Value) (off : Nat) (d : Array Int) (c : Array Value) (j : Nat) (h : j < d.size) (hs : off + d.size ≤ c.size) : (Sort.putCells enc off d c)[off + j]? = some (enc d[j]!) := by
  unfold Sort.putCells
  rw [Array.getElem?_mapIdx, Array.getElem?_eq_getElem (by omega), Option.map_some, if_pos (by omega), show off + j - off = j by omega]

theorem erase_at (L R : List Int) (j : Nat) (h : j < L.length) : ((L ++ R).toArray)[j]! = L[j]! := by
  rw [Array.getElem!_eq_getD, Array.getD_eq_getD_getElem?, List.getElem?_toArray, List.getElem!_eq_getElem?_getD, List.getElem?_append_left h]

theorem elem22 : Try.prog.elem 33 = 3 := by kernel_rfl
/-- 'l[1:]' of ints. -/
theorem tail_ints (A : Option Addr) (n c : Nat) (l : List Int) (w : World) (hl : l.length = n) (h1 : 1 ≤ n) (hm : Mine w 3 (.slice A n c) (ints l)) :
    ∃ A1, (∀ w, (Instr.slice 33 (.slice A n c) (some (.int .i64 1)) none none).run Try.prog w = .ok (.slice A1 (n - 1) (c - 1)) w) ∧
      (∀ w, (Instr.sliceAt 33 (.slice A n c) (some (.int .i64 1)) none none).run Try.prog w = .ok (.slice A1 (n - 1) (c - 1)) w) ∧
      Mine w 3 (.slice A1 (n - 1) (c - 1)) (ints (l.drop 1)) ∧ blk (.slice A1 (n - 1) (c - 1)) = blk (.slice A n c) := by
  have hs : ∀ w, (sizeOf (Try.prog.elem 33)).run Try.prog w = .ok 1 w := fun w => by rw [elem22]; exact Try.sizeOf3 w
  have hnc : n ≤ c := by
    obtain ⟨A', c', e, h, _⟩ := hm.form
    injection e with _ e2 e3
    rw [e2, e3]; exact h
  have h : ∀ w, (Instr.slice 33 (.slice A n c) (some (.int .i64 1)) none none).run Try.prog w = .ok (.slice (if c = 1 then A else A.map (·.add (1 * 1))) (n - 1) (c - 1)) w := by
    intro w
    rw [run_slice_l w 33 A n c (by rw [elem22]; exact Try.underlying33) .i64 1 (by omega) (by omega), hs]
    simp [Result.andThen, sliced]
  refine ⟨_, h, fun w => by rw [run_sliceAt_slice _ _ _ _ _ _ (by rw [elem22]; exact Try.underlying33)]; exact h w, ?_, ?_⟩
  · have := hm.drop (lo := 1) (by rw [length_ints]; omega)
    rw [show ints (l.drop 1) = (ints l).drop 1 by simp [ints]]
    exact this
  · split
    · cases A <;> rfl
    · cases A with
      | none => rfl
      | some a => simp only [Option.map_some, blk]; rw [show (a.add (1 * 1)).block = a.block by unfold Addr.add; split <;> rfl]
/-- append of one int. -/
theorem step_append_int {w : World} {ops : Array Oper} {o : Oper} {a : Act} {K : Act → World → Prop} {Q : Exit → Act → World → Prop} {E : Prop} (hgd : o.guard = none) (s x : Operand)
    (ho : o.op = .call { callee := .builtin .append, args := #[s, x], argTypes := #[33, 33] })
    (v : Value) (l : List Int) (hs : a.eval s = v) (hm : Mine w 3 v (ints l)) (A : Option Addr) (c : Nat) (y : Int) (hxv : a.eval x = .slice A 1 c) (hx : Cells w A [.int .i64 y])
    (hlen : l.length ≤ 4294967295)
    (h : ∀ v' w', Mine w' 3 v' (ints (l ++ [y])) → Upd (fun b => blk v = some b) w w' → (blk v' = blk v ∨ blk v' = some w.heap.size) → K (a.put o.dst v') w') :
    if Region.wanted o (yielded ops a.tmps) = true then Oper.wp Try.prog o a w K Q else E := by
  obtain ⟨i0, hi0, hz, hs0, hb0⟩ := info_three info3
  refine step_append_mine hgd s x _ ho 3 i0 (.int .i64 0) 8 Try.underlying33 hi0 hz hs0 hb0 rfl v (ints l) hs hm A 1 c [.int .i64 y] hxv rfl hx (by simp [Value.oneCell']) (by simp; omega) (by omega) ?_
  intro v' w' h1 h2 h3
  exact h v' w' (by rw [ints_append]; exact h1) h2 h3
theorem wpList_append_int {w : World} {ops : Array Oper} {rest : List Oper} {o : Oper} {a : Act} {Q : Exit → Act → World → Prop} (hgd : o.guard = none) (s x : Operand)
    (ho : o.op = .call { callee := .builtin .append, args := #[s, x], argTypes := #[33, 33] })
    (v : Value) (l : List Int) (hs : a.eval s = v) (hm : Mine w 3 v (ints l)) (A : Option Addr) (c : Nat) (y : Int) (hxv : a.eval x = .slice A 1 c) (hx : Cells w A [.int .i64 y])
    (hlen : l.length ≤ 4294967295)
    (h : ∀ v' w', Mine w' 3 v' (ints (l ++ [y])) → Upd (fun b => blk v = some b) w w' → (blk v' = blk v ∨ blk v' = some w.heap.size) → wpList Try.prog ops Q rest (a.put o.dst v') w') : wpList Try.prog ops Q (o :: rest) a w := by
  obtain ⟨i0, hi0, hz, hs0, hb0⟩ := info_three info3
  refine wpList_append_mine hgd s x _ ho 3 i0 (.int .i64 0) 8 Try.underlying33 hi0 hz hs0 hb0 rfl v (ints l) hs hm A 1 c [.int .i64 y] hxv rfl hx (by simp [Value.oneCell']) (by simp; omega) (by omega) ?_
  intro v' w' h1 h2 h3
  exact h v' w' (by rw [ints_append]; exact h1) h2 h3
end Go.Proofs.Ytgpnmmgoachajaa
/- The two lists in memory, and what each of their methods does to them. -/
namespace Go.Proofs.Ytgpnmmgoachajaa
open Go.RowKit
open Go.Proofs

theorem place_in {l : List Int} {x : Int} (h : x ∈ l) : ∃ k : Nat, place l x = (k : Int) ∧ k < l.length ∧ l.eraseIdx k = l.erase x :=
  ⟨l.idxOf x, by rw [place, if_pos h], List.idxOf_lt_length_iff.2 h, (List.erase_eq_eraseIdx_of_idxOf rfl).symm⟩
theorem place_out {l : List Int} {x : Int} (h : x ∉ l) : place l x = -1 := by rw [place, if_neg h]

/-- The lists' struct and the two slices, each in blocks of F. -/
structure TLv (w : World) (t : TypeId) (k : Nat) (F : Nat → Prop) (n : Int) (va vi : Value) (A I : List Int) : Prop where
  head : w.heap[k]? = some (.cells #[.int .i64 n, va, vi] t (0, 0))
  mem : F k
  act : Mine w 3 va (ints A)
  ina : Mine w 3 vi (ints I)
  ba : ∀ g, blk va = some g → F g ∧ g ≠ k ∧ blk vi ≠ some g
  bi : ∀ g, blk vi = some g → F g ∧ g ≠ k
def TL (w : World) (t : TypeId) (k : Nat) (F : Nat → Prop) (n : Int) (A I : List Int) : Prop := ∃ va vi, TLv w t k F n va vi A I
/-- F and what is new. -/
def Since (F : Nat → Prop) (w w' : World) (b : Nat) : Prop := F b ∨ (w.heap.size ≤ b ∧ b < w'.heap.size)

theorem Mine.slice {w : World} {e : TypeId} {v : Value} {xs : List Value} (h : Mine w e v xs) : ∃ A n c, v = .slice A n c := by
  obtain ⟨A, c, hv, _⟩ := h.form
  exact ⟨A, _, c, hv⟩

section
variable {w w' w'' : World} {t : TypeId} {k : Nat} {F G : Nat → Prop} {n : Int} {va vi v : Value} {A I A' I' : List Int}
theorem TLv.upd (h : TLv w t k F n va vi A I) (u : Upd G w w') (hg : ∀ b, F b → ¬ G b) : TLv w' t k F n va vi A I :=
  ⟨u.heap h.head (hg _ h.mem), h.mem, h.act.upd u (fun g e => hg g (h.ba g e).1), h.ina.upd u (fun g e => hg g (h.bi g e).1), h.ba, h.bi⟩
theorem TL.upd (h : TL w t k F n A I) (u : Upd G w w') (hg : ∀ b, F b → ¬ G b) : TL w' t k F n A I := by
  obtain ⟨va, vi, h⟩ := h
  exact ⟨va, vi, h.upd u hg⟩
theorem TLv.mono (h : TLv w t k F n va vi A I) (hg : ∀ b, F b → G b) : TLv w t k G n va vi A I :=
  ⟨h.head, hg _ h.mem, h.act, h.ina, fun g e => ⟨hg g (h.ba g e).1, (h.ba g e).2⟩, fun g e => ⟨hg g (h.bi g e).1, (h.bi g e).2⟩⟩
theorem TL.mono (h : TL w t k F n A I) (hg : ∀ b, F b → G b) : TL w t k G n A I := by
  obtain ⟨va, vi, h⟩ := h
  exact ⟨va, vi, h.mono hg⟩
theorem TLv.ext (h : TLv w t k F n va vi A I) (u : Ext w w') : TLv w' t k F n va vi A I := h.upd (Upd.of_ext (fun _ => False) u) (fun _ _ x => x)
theorem TL.ext (h : TL w t k F n A I) (u : Ext w w') : TL w' t k F n A I := h.upd (Upd.of_ext (fun _ => False) u) (fun _ _ x => x)
theorem TL.since (h : TL w' t k F n A I) (w : World) : TL w' t k (Since F w w') n A I := h.mono (fun _ x => .inl x)
theorem Since.trans {b : Nat} (h : Since (Since F w w') w' w'' b) (h1 : w.heap.size ≤ w'.heap.size) (h2 : w'.heap.size ≤ w''.heap.size) : Since F w w'' b := by
  rcases h with (h | h) | h
  · exact .inl h
  · exact .inr ⟨h.1, Nat.lt_of_lt_of_le h.2 h2⟩
  · exact .inr ⟨Nat.le_trans h1 h.1, h.2⟩
theorem Since.mono {b : Nat} (h : Since F w w' b) (h2 : w'.heap.size ≤ w''.heap.size) : Since F w w'' b := by
  rcases h with h | h
  · exact .inl h
  · exact .inr ⟨h.1, Nat.lt_of_lt_of_le h.2 h2⟩
/-- A second step of the same owner. -/
theorem Upd.then (h : Upd F w w') (k : Upd (Since F w w') w' w'') : Upd F w w'' := h.trans' k (fun b x => by rcases x with x | x; exact .inl x; exact .inr x.1)
theorem TL.then (h : TL w'' t k (Since (Since F w w') w' w'') n A I) (h1 : Upd F w w') (h2 : Upd (Since F w w') w' w'') : TL w'' t k (Since F w w'') n A I := h.mono (fun _ x => x.trans h1.size h2.size)
theorem TL.new (w : World) (t : TypeId) (n : Int) : TL (w.alloc (.cells #[.int .i64 n, .slice none 0 0, .slice none 0 0] t)) t w.heap.size (fun b => b = w.heap.size) n [] [] :=
  ⟨_, _, heap_alloc_new w _, rfl, Mine.nil _ _, Mine.nil _ _, (fun g e => by cases e), fun g e => by cases e⟩
theorem TLv.cells (h : TLv w t k F n va vi A I) : w.cell? ⟨k, 0, none⟩ = some (.int .i64 n) ∧ w.cell? ⟨k, 1, none⟩ = some va ∧ w.cell? ⟨k, 2, none⟩ = some vi ∧ (∀ j, w.frozen? ⟨k, j, none⟩ = false) :=
  ⟨by rw [cell_of_row w k 0 _ t (0, 0) h.head]; rfl, by rw [cell_of_row w k 1 _ t (0, 0) h.head]; rfl, by rw [cell_of_row w k 2 _ t (0, 0) h.head]; rfl, fun j => frozen_of_row w k j _ t h.head⟩
theorem TLv.lt (h : TLv w t k F n va vi A I) : k < w.heap.size := by
  rcases Nat.lt_or_ge k w.heap.size with x | x
  · exact x
  · have := h.head; rw [Array.getElem?_eq_none x] at this; cases this
/-- The active ones are written anew. -/
theorem TLv.setA (h : TLv w t k F n va vi A I) (u : Upd (fun b => blk va = some b) w w') (hm : Mine w' 3 v (ints A')) (hb : blk v = blk va ∨ blk v = some w.heap.size) :
    TLv (w'.setCell ⟨k, 1, none⟩ v) t k (Since F w w') n v vi A' I ∧ Upd F w (w'.setCell ⟨k, 1, none⟩ v) := by
  have hk := u.heap h.head (fun e => (h.ba k e).2.1 rfl)
  have hks := h.lt
  have hi := h.ina.upd u (fun g e e2 => (h.ba g e2).2.2 e)
  have uk : Upd (fun b => b = k) w' (w'.setCell ⟨k, 1, none⟩ v) := (Upd.refl (fun b => b = k) w').setCell (p := ⟨k, 1, none⟩) (.inl rfl) v
  have hvb : ∀ g, blk v = some g → g ≠ k ∧ blk vi ≠ some g ∧ Since F w w' g := by
    intro g e
    rcases hb with hb | hb
    · rw [hb] at e
      exact ⟨(h.ba g e).2.1, (h.ba g e).2.2, .inl (h.ba g e).1⟩
    · have hg := hm.lt e
      rw [hb] at e
      cases e
      exact ⟨by omega, fun e => by have := h.ina.lt e; omega, .inr ⟨Nat.le_refl _, hg⟩⟩
  refine ⟨⟨heap_setCell_same w' k 1 _ t v hk, .inl h.mem, hm.upd uk (fun g e => (hvb g e).1), hi.upd uk (fun g e => (h.bi g e).2), fun g e => ⟨(hvb g e).2.2, (hvb g e).1, (hvb g e).2.1⟩, fun g e => ⟨.inl (h.bi g e).1, (h.bi g e).2⟩⟩,
    (u.mono (G := F) (fun b _ e => (h.ba b e).1)).trans (uk.mono (fun b _ e => by subst e; exact h.mem))⟩
theorem TLv.setI (h : TLv w t k F n va vi A I) (u : Upd (fun b => blk vi = some b) w w') (hm : Mine w' 3 v (ints I')) (hb : blk v = blk vi ∨ blk v = some w.heap.size) :
    TLv (w'.setCell ⟨k, 2, none⟩ v) t k (Since F w w') n va v A I' ∧ Upd F w (w'.setCell ⟨k, 2, none⟩ v) := by
  have hk := u.heap h.head (fun e => (h.bi k e).2 rfl)
  have hks := h.lt
  have ha := h.act.upd u (fun g e e2 => (h.ba g e).2.2 e2)
  have uk : Upd (fun b => b = k) w' (w'.setCell ⟨k, 2, none⟩ v) := (Upd.refl (fun b => b = k) w').setCell (p := ⟨k, 2, none⟩) (.inl rfl) v
  have hvb : ∀ g, blk v = some g → g ≠ k ∧ blk va ≠ some g ∧ Since F w w' g := by
    intro g e
    rcases hb with hb | hb
    · rw [hb] at e
      exact ⟨(h.bi g e).2, fun e2 => (h.ba g e2).2.2 e, .inl (h.bi g e).1⟩
    · have hg := hm.lt e
      rw [hb] at e
      cases e
      exact ⟨by omega, fun e => by have := h.act.lt e; omega, .inr ⟨Nat.le_refl _, hg⟩⟩
  refine ⟨⟨heap_setCell_same w' k 2 _ t v hk, .inl h.mem, ha.upd uk (fun g e => (h.ba g e).2.1), hm.upd uk (fun g e => (hvb g e).1), fun g e => ⟨.inl (h.ba g e).1, (h.ba g e).2.1, fun e2 => (hvb g e2).2.1 e⟩, fun g e => ⟨(hvb g e).2.2, (hvb g e).1⟩⟩,
    (u.mono (G := F) (fun b _ e => (h.bi b e).1)).trans (uk.mono (fun b _ e => by subst e; exact h.mem))⟩
theorem size_setCell (w : World) (p : Addr) (v : Value) : (w.setCell p v).heap.size = w.heap.size := by simp
theorem since_one {w1 w2 : World} {b : Nat} (h : Since F w w1 b) (e : w1.heap.size ≤ w2.heap.size) : Since F w w2 b := h.mono e
theorem since_two {w1 w2 w3 w4 : World} {b : Nat} (h : Since (Since F w w1) w2 w3 b) (s1 : w.heap.size ≤ w1.heap.size) (e1 : w1.heap.size ≤ w2.heap.size) (s2 : w2.heap.size ≤ w3.heap.size) (e2 : w3.heap.size ≤ w4.heap.size) : Since F w w4 b := by
  rcases h with (h | h) | h
  · exact .inl h
  · exact .inr ⟨h.1, by omega⟩
  · exact .inr ⟨by omega, by omega⟩
theorem Upd.then' {w1 w2 w3 : World} (h : Upd F w w2) (k : Upd (Since F w w1) w2 w3) : Upd F w w3 := h.trans' k (fun b x => by rcases x with x | x; exact .inl x; exact .inr x.1)
theorem since_three {w1 w2 w3 w4 w5 w6 : World} {b : Nat} (h : Since (Since (Since F w w1) w2 w3) w4 w5 b) (s1 : w.heap.size ≤ w1.heap.size) (s2 : w1.heap.size ≤ w2.heap.size) (s3 : w2.heap.size ≤ w3.heap.size)
    (s4 : w3.heap.size ≤ w4.heap.size) (s5 : w4.heap.size ≤ w5.heap.size) (s6 : w5.heap.size ≤ w6.heap.size) : Since F w w6 b := by
  rcases h with ((h | h) | h) | h
  · exact .inl h
  · exact .inr ⟨h.1, by omega⟩
  · exact .inr ⟨by omega, by omega⟩
  · exact .inr ⟨by omega, by omega⟩
theorem Upd.then3 {w1 w2 w3 w4 w5 : World} (h : Upd F w w4) (k : Upd (Since (Since F w w1) w2 w3) w4 w5) (s : w.heap.size ≤ w2.heap.size) : Upd F w w5 :=
  h.trans' k (fun b x => by
    rcases x with (x | x) | x
    · exact .inl x
    · exact .inr x.1
    · exact .inr (Nat.le_trans s x.1))
/-- What a store into a field asks, behind a step that left the struct alone. -/
theorem TLv.kept (h : TLv w t k F n va vi A I) (u : Upd G w w') (hg : ¬ G k) : w'.cell? ⟨k, 0, none⟩ = some (.int .i64 n) ∧ w'.cell? ⟨k, 1, none⟩ = some va ∧ w'.cell? ⟨k, 2, none⟩ = some vi ∧ (∀ j, w'.frozen? ⟨k, j, none⟩ = false) := by
  have hk := u.heap h.head hg
  exact ⟨by rw [cell_of_row w' k 0 _ t (0, 0) hk]; rfl, by rw [cell_of_row w' k 1 _ t (0, 0) hk]; rfl, by rw [cell_of_row w' k 2 _ t (0, 0) hk]; rfl, fun j => frozen_of_row w' k j _ t hk⟩
end

/-- At most half may be active. -/
def even : List Int → List Int → List Int × List Int
  | [], I => ([], I)
  | a :: A, I => if (A.length + 1) + I.length + 1 < 2 * (A.length + 1) then even A (I ++ [a]) else (a :: A, I)

end Go.Proofs.Ytgpnmmgoachajaa
/- Layer 4's writing: the fields' octets are put behind. -/
namespace Go.Proofs.Ytgpnmmgoachajaa
open Go.RowKit
open Go.Proofs

/-- How many octets a size means. -/
def wid (size : Int) : Nat := (min (max size 0) 8).toNat
theorem wid_eq (size : Int) : min (max size 0) 8 = ((wid size : Nat) : Int) := by unfold wid; omega
theorem wid_le (size : Int) : wid size ≤ 8 := by unfold wid; omega

set_option maxRecDepth 100000 in
theorem f97_sz (n size : Int) (w : World) :
    Calls Try.prog 68 #[.int .i64 n, .int .i64 size] w fun e w' => ∃ v, e = .returned v ∧ Own w' w.heap.size 5 v (octs (leN (wid size) (u64of n))) ∧ Ext w w' := by
  obtain ⟨i0, hi, hz, hs, hb⟩ := info_parts info5
  have hk := wid_le size
  have hr := wid_eq size
  generalize wid size = k at hk hr
  have Hr := Lib.hid hr
  clear hr
  go_enter Try.func68, Try.ntmps68
  go_wp2_with (go_at_call 80; refine (f180_any _ _ _).mono ?_; rintro e w' ⟨rfl, rfl⟩; rw [Hr.out])
  go_loopw [5, 9] (fun v i wr => ∃ j : Nat, j ≤ k ∧ i = .int .i64 j ∧ Own wr w.heap.size 5 v (octs (leN j (u64of n))) ∧ Ext w wr) (fun _ i _ => k - (intOf i).toNat)
  case atStart => exact ⟨0, by omega, rfl, Own.nil _ _ _, Ext.refl _⟩
  case round =>
    obtain ⟨j, hj, rfl, hown, hext⟩ := hrel
    by_cases hlt : j < k
    · have hsz := hext.size
      go_wp2_with (at_builtin; refine wpList_app rfl (.tmp 12) (.tmp 19) _ rfl w.heap.size 5 i0 (.int .u8 0) 1 Try.underlying22 hi hz hs hb rfl u5 (octs (leN j (u64of n))) rfl (hown.alloc _) (some ⟨wr.heap.size, 0, none⟩) 1 1 [.int .u8 (IntKind.u64.wrap n / 2 ^ (8 * j) % 256)] rfl rfl (Cells.new1 _ _ _) (by simp [Value.oneCell']) ?_ (by omega) ?_ ?_)
      · simp [length_leN]; omega
      · simp; omega
      intro v' w1 hown1 hg1 _
      have hext1 : Ext w w1 := (hext.alloc _).grown hg1 (fun b hb => (hown.block b hb).1)
      clear hg1
      go_wp2
      go_roundw
      case rel => exact ⟨j + 1, by omega, by go_num, by rw [leN_succ, octs_append, lay_octet]; exact hown1, hext1⟩
      case measure => simp [intOf]; omega
    · go_wp2
      go_ret
      obtain rfl : j = k := by omega
      exact ⟨_, rfl, hown, hext⟩

/-- A writing's struct and its octets, in blocks of F. -/
structure WrV (w : World) (k : Nat) (F : Nat → Prop) (v : Value) (l : List UInt8) : Prop where
  head : w.heap[k]? = some (.cells #[v] 140 (0, 0))
  mem : F k
  own : Mine w 5 v (octs l)
  bl : ∀ g, blk v = some g → F g ∧ g ≠ k
def WrAt (w : World) (k : Nat) (F : Nat → Prop) (l : List UInt8) : Prop := ∃ v, WrV w k F v l
section
variable {w w' : World} {k : Nat} {F G : Nat → Prop} {v v' : Value} {l l' : List UInt8}
theorem WrV.upd (h : WrV w k F v l) (u : Upd G w w') (hg : ∀ b, F b → ¬ G b) : WrV w' k F v l :=
  ⟨u.heap h.head (hg _ h.mem), h.mem, h.own.upd u (fun g e => hg g (h.bl g e).1), h.bl⟩
theorem WrV.ext (h : WrV w k F v l) (u : Ext w w') : WrV w' k F v l := h.upd (Upd.of_ext (fun _ => False) u) (fun _ _ x => x)
theorem WrV.mono (h : WrV w k F v l) (hg : ∀ b, F b → G b) : WrV w k G v l := ⟨h.head, hg _ h.mem, h.own, fun g e => ⟨hg g (h.bl g e).1, (h.bl g e).2⟩⟩
theorem WrAt.upd (h : WrAt w k F l) (u : Upd G w w') (hg : ∀ b, F b → ¬ G b) : WrAt w' k F l := by
  obtain ⟨v, h⟩ := h
  exact ⟨v, h.upd u hg⟩
theorem WrAt.ext (h : WrAt w k F l) (u : Ext w w') : WrAt w' k F l := by
  obtain ⟨v, h⟩ := h
  exact ⟨v, h.ext u⟩
theorem WrAt.mono (h : WrAt w k F l) (hg : ∀ b, F b → G b) : WrAt w k G l := by
  obtain ⟨v, h⟩ := h
  exact ⟨v, h.mono hg⟩
theorem WrV.lt (h : WrV w k F v l) : k < w.heap.size := by
  rcases Nat.lt_or_ge k w.heap.size with x | x
  · exact x
  · have := h.head; rw [Array.getElem?_eq_none x] at this; cases this
theorem WrV.cells (h : WrV w k F v l) : w.cell? ⟨k, 0, none⟩ = some v ∧ w.frozen? ⟨k, 0, none⟩ = false :=
  ⟨by rw [cell_of_row w k 0 _ _ (0, 0) h.head]; rfl, frozen_of_row w k 0 _ _ h.head⟩
/-- The octets are written anew. -/
theorem WrV.set (h : WrV w k F v l) (u : Upd (fun b => blk v = some b) w w') (hm : Mine w' 5 v' (octs l')) (hb : blk v' = blk v ∨ blk v' = some w.heap.size) :
    w'.cell? ⟨k, 0, none⟩ = some v ∧ w'.frozen? ⟨k, 0, none⟩ = false ∧ WrV (w'.setCell ⟨k, 0, none⟩ v') k (Since F w w') v' l' ∧ Upd F w (w'.setCell ⟨k, 0, none⟩ v') := by
  have hk := u.heap h.head (fun e => (h.bl k e).2 rfl)
  have hks := h.lt
  have uk : Upd (fun b => b = k) w' (w'.setCell ⟨k, 0, none⟩ v') := (Upd.refl (fun b => b = k) w').setCell (p := ⟨k, 0, none⟩) (.inl rfl) v'
  have hvb : ∀ g, blk v' = some g → Since F w w' g ∧ g ≠ k := by
    intro g e
    rcases hb with hb | hb
    · rw [hb] at e
      exact ⟨.inl (h.bl g e).1, (h.bl g e).2⟩
    · have hg := hm.lt e
      rw [hb] at e
      cases e
      exact ⟨.inr ⟨Nat.le_refl _, hg⟩, by omega⟩
  exact ⟨by rw [cell_of_row w' k 0 _ _ (0, 0) hk]; rfl, frozen_of_row w' k 0 _ _ hk,
    ⟨heap_setCell_same w' k 0 _ _ v' hk, .inl h.mem, hm.upd uk (fun g e => (hvb g e).2), hvb⟩,
    (u.mono (G := F) (fun b _ e => (h.bl b e).1)).trans (uk.mono (fun b _ e => by subst e; exact h.mem))⟩
end

set_option maxRecDepth 100000 in
theorem f64_any (w : World) : Calls Try.prog 75 #[] w fun e w' => e = .returned (.pointer (some ⟨w.heap.size, 0, none⟩)) ∧ WrAt w' w.heap.size (fun b => b = w.heap.size) [] ∧ Ext w w' ∧ w'.heap.size = w.heap.size + 1 := by
  go_enter Try.func75, Try.ntmps75
  go_wp2
  go_ret
  exact ⟨rfl, ⟨_, heap_alloc_new w _, rfl, Mine.nil _ _, fun g e => by cases e⟩, (Ext.refl w).alloc _, by simp⟩

set_option maxRecDepth 100000 in
theorem f68_any (k : Nat) (F : Nat → Prop) (l : List UInt8) (w : World) (hl : l.length ≤ 4294967290) (h : WrAt w k F l) :
    Calls Try.prog 78 #[.pointer (some ⟨k, 0, none⟩)] w fun e w' => ∃ v, e = .returned v ∧ Own w' w.heap.size 5 v (octs l) ∧ Ext w w' := by
  obtain ⟨v, h⟩ := h
  obtain ⟨c0, hf⟩ := h.cells
  obtain ⟨A, c, rfl, hc, _, hx⟩ := h.own.octs_form
  have HC := clone_mine A l c w (by omega) h.own
  clear h hx
  go_enter Try.func78, Try.ntmps78
  go_wp2_with (go_at_call 84; refine HC.mono ?_; rintro e w1 ⟨v, rfl, h1, h2⟩)
  go_ret
  exact ⟨_, rfl, h1, h2⟩
end Go.Proofs.Ytgpnmmgoachajaa
/- Layer 4's writing: Num, Zig and Text. -/
namespace Go.Proofs.Ytgpnmmgoachajaa
open Go.RowKit
open Go.Proofs

set_option maxRecDepth 100000 in
theorem f65_any (k : Nat) (F : Nat → Prop) (n size : Int) (l : List UInt8) (w : World) (hl : l.length ≤ 4294960000) (h : WrAt w k F l) :
    Calls Try.prog 76 #[.pointer (some ⟨k, 0, none⟩), .int .i64 n, .int .i64 size] w fun e w' => e = .returned (.pointer (some ⟨k, 0, none⟩)) ∧ WrAt w' k (Since F w w') (l ++ leN (wid size) (u64of n)) ∧ Upd F w w' := by
  obtain ⟨v, h⟩ := h
  obtain ⟨c0, hf⟩ := h.cells
  obtain ⟨A, c, rfl, hc, _, hx⟩ := h.own.octs_form
  have hlen : (leN (wid size) (u64of n)).length ≤ 8 := by rw [length_leN]; exact wid_le size
  obtain ⟨m, hm⟩ : ∃ m, m = leN (wid size) (u64of n) := ⟨_, rfl⟩
  rw [← hm] at hlen ⊢
  have HM := Lib.hid hm
  clear hm hx
  go_enter Try.func76, Try.ntmps76
  go_wp2_with fail
  have hT : Hid (Ext w w.drew) := (Ext.refl w).drew
  refine wp_region_held_drew (S := fun _ => True) (by kernel_rfl) (trivial) (fun hS => ?_)
  refine takeH (i := 0) (v := ?_) rfl rfl (by kernel_rfl) (by kernel_rfl) (by kernel_rfl) (fun _ _ _ h => h) (Or.inl ⟨by kernel_rfl, ?_⟩) hS ?_
  rotate_left 1
  · (intro w' hS'; go_simp; try (with_reducible rfl))
  simp only [List.setIfInBounds_toArray, List.set_cons_succ, List.set_cons_zero]
  refine takeH (i := 1) (v := ?_) rfl rfl (by kernel_rfl) (by kernel_rfl) (by kernel_rfl) (fun _ _ _ h => h) (Or.inl ⟨by kernel_rfl, ?_⟩) hS ?_
  rotate_left 1
  · (intro w' hS'; go_simp; try (with_reducible rfl))
  simp only [List.setIfInBounds_toArray, List.set_cons_succ, List.set_cons_zero]
  refine takeH (i := 2) (v := ?_) rfl rfl (by kernel_rfl) (by kernel_rfl) (by kernel_rfl) (fun _ _ _ h => h) (Or.inl ⟨by kernel_rfl, ?_⟩) hS ?_
  rotate_left 1
  · (intro w' hS'; go_simp; try (with_reducible rfl))
  simp only [List.setIfInBounds_toArray, List.set_cons_succ, List.set_cons_zero]
  refine takeH (i := 3) (v := ?_) rfl rfl (by kernel_rfl) (by kernel_rfl) (by kernel_rfl) (fun _ _ _ h => h) (Or.inl ⟨by kernel_rfl, ?_⟩) hS ?_
  rotate_left 1
  · (intro w' hS'; go_simp; try (with_reducible rfl))
  simp only [List.setIfInBounds_toArray, List.set_cons_succ, List.set_cons_zero]
  refine takeH (i := 5) (v := ?_) rfl rfl (by kernel_rfl) (by kernel_rfl) (by kernel_rfl) (fun _ _ _ h => h) (Or.inl ⟨by kernel_rfl, ?_⟩) hS ?_
  rotate_left 1
  · (intro w' hS'; go_simp; try (with_reducible rfl))
  simp only [List.setIfInBounds_toArray, List.set_cons_succ, List.set_cons_zero]
  refine takeH (i := 6) (v := ?_) rfl rfl (by kernel_rfl) (by kernel_rfl) (by kernel_rfl) (fun _ _ _ h => h) (Or.inl ⟨by kernel_rfl, ?_⟩) hS ?_
  rotate_left 1
  · (intro w' hS'; go_simp; try (with_reducible rfl))
  simp only [List.setIfInBounds_toArray, List.set_cons_succ, List.set_cons_zero]
  refine wpAnyH_ready (rs := [4, 7]) (by kernel_rfl) (by simp) ?_
  refine AllReadyH.cons rfl (fun K hK => ?_) ?_
  · skip
    go_simp
    refine hK.out _ _ (trivial) (fun hS => ?_)
    clear hK K
    refine wpAnyH_ready (rs := [7]) (by kernel_rfl) (by simp) ?_
    refine AllReadyH.cons rfl (fun K hK => ?_) ?_
    rotate_left 1
    · exact AllReadyH.nil
    go_simp
    refine (f97_sz n size _).mono ?_; rintro e wa ⟨va, rfl, oa, xa⟩; rw [← HM.out] at oa; have x1 := hT.out.trans xa; have hT := Lib.hid x1; have c1 := x1.cell c0; have h1 := h.ext x1
    refine hK.out _ _ (trivial) (fun hS => ?_)
    clear hK K
    refine wpAnyH_ready (rs := [8]) (by kernel_rfl) (by simp) ?_
    refine AllReadyH.cons rfl (fun K hK => ?_) ?_
    rotate_left 1
    · exact AllReadyH.nil
    obtain ⟨A2, c2, rfl, hc2, hx2⟩ := oa.octs_form; refine step_append_octs rfl (.tmp 11) (.tmp 14) rfl (.slice A l.length c) l (by simp [Act.eval]) h1.own A2 m.length c2 m (by simp [Act.eval]) rfl hx2 (by omega) ?_; intro v3 w3 m3 u3 b3; obtain ⟨B3, n3, d3, rfl⟩ := m3.slice; obtain ⟨q0, qf, t3, s3⟩ := h1.set u3 m3 b3
    try go_simp
    refine hK.out _ _ (trivial) (fun hS => ?_)
    clear hK K
    refine takeH (i := 9) (v := ?_) rfl rfl (by kernel_rfl) (by kernel_rfl) (by kernel_rfl) (fun _ _ _ h => h) (Or.inl ⟨by kernel_rfl, ?_⟩) hS ?_
    rotate_left 1
    · (intro w' hS'; go_simp; try (with_reducible rfl))
    simp only [List.setIfInBounds_toArray, List.set_cons_succ, List.set_cons_zero]
    refine takeH (i := 10) (v := ?_) rfl rfl (by kernel_rfl) (by kernel_rfl) (by kernel_rfl) (fun _ _ _ h => h) (Or.inl ⟨by kernel_rfl, ?_⟩) hS ?_
    rotate_left 1
    · (intro w' hS'; go_simp; try (with_reducible rfl))
    simp only [List.setIfInBounds_toArray, List.set_cons_succ, List.set_cons_zero]
    refine wpAnyH_ready (rs := [11]) (by kernel_rfl) (by simp) ?_
    refine AllReadyH.cons rfl (fun K hK => ?_) ?_
    rotate_left 1
    · exact AllReadyH.nil
    go_simp
    refine hK.out _ _ (trivial) (fun hS => ?_)
    clear hK K
    refine wpAnyH_done (by kernel_rfl) ?_ _
    go_wp2_with fail
    go_ret
    exact ⟨rfl, ⟨_, t3.mono (fun b hb => by
      rcases hb with hb | hb
      · exact .inl hb
      · exact .inr ⟨Nat.le_trans x1.size hb.1, by simpa using hb.2⟩)⟩, (Upd.of_ext F x1).trans s3⟩
  refine AllReadyH.cons rfl (fun K hK => ?_) ?_
  · skip
    go_simp
    refine (f97_sz n size _).mono ?_; rintro e wa ⟨va, rfl, oa, xa⟩; rw [← HM.out] at oa; have x1 := hT.out.trans xa; have hT := Lib.hid x1; have c1 := x1.cell c0; have h1 := h.ext x1
    refine hK.out _ _ (trivial) (fun hS => ?_)
    clear hK K
    refine wpAnyH_ready (rs := [4]) (by kernel_rfl) (by simp) ?_
    refine AllReadyH.cons rfl (fun K hK => ?_) ?_
    rotate_left 1
    · exact AllReadyH.nil
    go_simp
    refine hK.out _ _ (trivial) (fun hS => ?_)
    clear hK K
    refine wpAnyH_ready (rs := [8]) (by kernel_rfl) (by simp) ?_
    refine AllReadyH.cons rfl (fun K hK => ?_) ?_
    rotate_left 1
    · exact AllReadyH.nil
    obtain ⟨A2, c2, rfl, hc2, hx2⟩ := oa.octs_form; refine step_append_octs rfl (.tmp 11) (.tmp 14) rfl (.slice A l.length c) l (by simp [Act.eval]) h1.own A2 m.length c2 m (by simp [Act.eval]) rfl hx2 (by omega) ?_; intro v3 w3 m3 u3 b3; obtain ⟨B3, n3, d3, rfl⟩ := m3.slice; obtain ⟨q0, qf, t3, s3⟩ := h1.set u3 m3 b3
    try go_simp
    refine hK.out _ _ (trivial) (fun hS => ?_)
    clear hK K
    refine takeH (i := 9) (v := ?_) rfl rfl (by kernel_rfl) (by kernel_rfl) (by kernel_rfl) (fun _ _ _ h => h) (Or.inl ⟨by kernel_rfl, ?_⟩) hS ?_
    rotate_left 1
    · (intro w' hS'; go_simp; try (with_reducible rfl))
    simp only [List.setIfInBounds_toArray, List.set_cons_succ, List.set_cons_zero]
    refine takeH (i := 10) (v := ?_) rfl rfl (by kernel_rfl) (by kernel_rfl) (by kernel_rfl) (fun _ _ _ h => h) (Or.inl ⟨by kernel_rfl, ?_⟩) hS ?_
    rotate_left 1
    · (intro w' hS'; go_simp; try (with_reducible rfl))
    simp only [List.setIfInBounds_toArray, List.set_cons_succ, List.set_cons_zero]
    refine wpAnyH_ready (rs := [11]) (by kernel_rfl) (by simp) ?_
    refine AllReadyH.cons rfl (fun K hK => ?_) ?_
    rotate_left 1
    · exact AllReadyH.nil
    go_simp
    refine hK.out _ _ (trivial) (fun hS => ?_)
    clear hK K
    refine wpAnyH_done (by kernel_rfl) ?_ _
    go_wp2_with fail
    go_ret
    exact ⟨rfl, ⟨_, t3.mono (fun b hb => by
      rcases hb with hb | hb
      · exact .inl hb
      · exact .inr ⟨Nat.le_trans x1.size hb.1, by simpa using hb.2⟩)⟩, (Upd.of_ext F x1).trans s3⟩
  exact AllReadyH.nil

end Go.Proofs.Ytgpnmmgoachajaa
/- Slices and writers that were made since a world: everything in the words of that world's extension. -/
namespace Go.Proofs.Ytgpnmmgoachajaa
open Go.RowKit
open Go.Proofs

/-- A slice of octets in a block that was made since W0. -/
def Up (W0 w : World) (v : Value) (l : List UInt8) : Prop := Mine w 5 v (octs l) ∧ ∀ g, blk v = some g → W0.heap.size ≤ g
section
variable {W0 w w' : World} {v : Value} {l : List UInt8}
theorem Up.ext (h : Up W0 w v l) (k : Ext w w') : Up W0 w' v l := ⟨h.1.ext k, h.2⟩
theorem Up.form (h : Up W0 w v l) : ∃ A c, v = .slice A l.length c ∧ l.length ≤ c ∧ c ≤ maxLen ∧ Octs w A l := h.1.octs_form
theorem Up.of_own {base : Nat} (h : Own w base 5 v (octs l)) (h0 : W0.heap.size ≤ base) : Up W0 w v l := ⟨Mine.of_own h, fun g e => by
  refine Nat.le_trans h0 (h.block g ?_).1
  cases v with
  | slice A n c => cases A with
    | none => cases e
    | some a => exact e
  | _ => cases e⟩
theorem Up.new (hx : Ext W0 w) (cur : Array Value) (n c : Nat) (l : List UInt8) (hn : l.length = n) (hc : n ≤ c) (hs : c ≤ cur.size) (hm : c ≤ maxLen) (he : ∀ (j : Nat) u, (octs l)[j]? = some u → cur[j]? = some u) :
    Up W0 (w.alloc (.cells cur 5)) (.slice (some ⟨w.heap.size, 0, none⟩) n c) l :=
  ⟨Mine.new w 5 cur n c (octs l) (by rw [length_octs]; exact hn) hc hs hm he, fun g e => by cases e; exact hx.size⟩
theorem Up.next {v' : Value} {l' : List UInt8} (h : Up W0 w v l) (hx : Ext W0 w) (h2 : Mine w' 5 v' (octs l')) (h3 : Upd (fun b => blk v = some b) w w') (h4 : blk v' = blk v ∨ blk v' = some w.heap.size) : Up W0 w' v' l' ∧ Ext W0 w' :=
  ⟨⟨h2, fun g e => by rcases h4 with x | x <;> rw [x] at e; exact h.2 g e; cases e; exact hx.size⟩, h3.to_ext hx h.2⟩
end

section
variable {W0 w : World} {ops : Array Oper} {rest : List Oper} {o : Oper} {a : Act} {Q : Exit → Act → World → Prop}
theorem wpList_up (hgd : o.guard = none) (s x : Operand)
    (ho : o.op = .call { callee := .builtin .append, args := #[s, x], argTypes := #[22, 22] })
    (v : Value) (l : List UInt8) (hs : a.eval s = v) (hm : Up W0 w v l) (hX : Ext W0 w) (A : Option Addr) (m c : Nat) (l2 : List UInt8) (hxv : a.eval x = .slice A m c) (hm' : l2.length = m) (hx : Octs w A l2) (hlen : l.length + l2.length ≤ 4294967296)
    (h : ∀ v' w', Up W0 w' v' (l ++ l2) → Ext W0 w' → wpList Try.prog ops Q rest (a.put o.dst v') w') : wpList Try.prog ops Q (o :: rest) a w :=
  wpList_append_octs hgd s x ho v l hs hm.1 A m c l2 hxv hm' hx hlen fun v' w' h2 h3 h4 => have := hm.next hX h2 h3 h4; h v' w' this.1 this.2
theorem step_up {K : Act → World → Prop} {E : Prop} (hgd : o.guard = none) (s x : Operand)
    (ho : o.op = .call { callee := .builtin .append, args := #[s, x], argTypes := #[22, 22] })
    (v : Value) (l : List UInt8) (hs : a.eval s = v) (hm : Up W0 w v l) (hX : Ext W0 w) (A : Option Addr) (m c : Nat) (l2 : List UInt8) (hxv : a.eval x = .slice A m c) (hm' : l2.length = m) (hx : Octs w A l2) (hlen : l.length + l2.length ≤ 4294967296)
    (h : ∀ v' w', Up W0 w' v' (l ++ l2) → Ext W0 w' → K (a.put o.dst v') w') :
    if Region.wanted o (yielded ops a.tmps) = true then Oper.wp Try.prog o a w K Q else E :=
  step_append_octs hgd s x ho v l hs hm.1 A m c l2 hxv hm' hx hlen fun v' w' h2 h3 h4 => have := hm.next hX h2 h3 h4; h v' w' this.1 this.2
end

/-- A writer that was made since W0. -/
def WrX (W0 w : World) (k : Nat) (l : List UInt8) : Prop := ∃ F : Nat → Prop, (∀ b, F b → W0.heap.size ≤ b) ∧ WrAt w k F l
section
variable {W0 w w' : World} {k : Nat} {l : List UInt8}
theorem WrX.ext (h : WrX W0 w k l) (u : Ext w w') : WrX W0 w' k l := by
  obtain ⟨F, h1, h2⟩ := h
  exact ⟨F, h1, h2.ext u⟩
theorem wr_new (hX : Ext W0 w) : Calls Try.prog 75 #[] w fun e w' => ∃ k, e = .returned (.pointer (some ⟨k, 0, none⟩)) ∧ WrX W0 w' k [] ∧ Ext w w' := by
  refine (f64_any w).mono ?_
  rintro e w1 ⟨rfl, h1, h2, _⟩
  exact ⟨_, rfl, ⟨_, fun b hb => by rw [hb]; exact hX.size, h1⟩, h2⟩
theorem wr_num (n size : Int) (hX : Ext W0 w) (h : WrX W0 w k l) (hl : l.length ≤ 4294960000) :
    Calls Try.prog 76 #[.pointer (some ⟨k, 0, none⟩), .int .i64 n, .int .i64 size] w fun e w' => e = .returned (.pointer (some ⟨k, 0, none⟩)) ∧ WrX W0 w' k (l ++ leN (wid size) (u64of n)) ∧ Ext W0 w' := by
  obtain ⟨F, h1, h2⟩ := h
  refine (f65_any k F n size l w hl h2).mono ?_
  rintro e w1 ⟨rfl, h3, h4⟩
  refine ⟨rfl, ⟨Since F w w1, fun b hb => ?_, h3⟩, h4.to_ext hX h1⟩
  rcases hb with x | x
  · exact h1 b x
  · exact Nat.le_trans hX.size x.1
theorem wr_bytes (h : WrX W0 w k l) (hl : l.length ≤ 4294967290) :
    Calls Try.prog 78 #[.pointer (some ⟨k, 0, none⟩)] w fun e w' => ∃ v, e = .returned v ∧ Own w' w.heap.size 5 v (octs l) ∧ Ext w w' := by
  obtain ⟨F, _, h2⟩ := h
  exact f68_any k F l w hl h2
end
end Go.Proofs.Ytgpnmmgoachajaa
/- The disk's Read and Image. -/
namespace Go.Proofs.Ytgpnmmgoachajaa
open Go.RowKit
open Go.Proofs

theorem sec_octs {w : World} {b : Nat} {l : List UInt8} {t : TypeId} (h : w.heap[b]? = some (.cells (octs l).toArray t (0, 0))) : Octs w (some ⟨b, 0, none⟩) l := Cells.of_block h
theorem dk_secs {s : Dk} (c : Int) (at_ k : Nat) : dkSecs { s with calls := c } at_ k = dkSecs s at_ k := rfl

theorem make_room (c : Nat) (hc : c ≤ 4294967296) (w : World) :
    (Instr.makeSlice 22 (.int .i64 0) (.int .i64 (c : Int))).run Try.prog w = .ok (.slice (some ⟨w.heap.size, 0, none⟩) 0 c) (w.alloc (.cells (zeros c) 5)) := by
  obtain ⟨i0, hi, hz, hs1, hb⟩ := info_parts info5
  have h := run_make (P := Try.prog) w 22 5 i0 _ Try.underlying22 hi hz .i64 .i64 0 c (by omega) (by omega) (by rw [hb]; omega) (by omega)
  rw [h, hs1]
  simp [zeros, Value.cells]
theorem own_room (c : Nat) (hc : c ≤ 4294967296) (w : World) : Own (w.alloc (.cells (zeros c) 5)) w.heap.size 5 (.slice (some ⟨w.heap.size, 0, none⟩) 0 c) (octs []) := by
  refine ⟨rfl, .inr ⟨_, c, zeros c, rfl, Nat.le_refl _, heap_alloc_new w _, Nat.zero_le _, by simp only [maxLen]; omega, ?_, rfl⟩⟩
  have := congrArg List.length (zeros_list c)
  simpa using this

set_option maxRecDepth 100000 in
set_option maxHeartbeats 2000000 in
theorem dk22_on {K : Nat → Prop} {w : World} {p : Nat} {s : Dk} (h : Disk K w p s) (h0 : s.calls ≠ 0) (at_ n : Nat) (hn : at_ + n ≤ s.safe.length) :
    Calls Try.prog 22 #[.pointer (some ⟨p, 0, none⟩), .int .i64 (at_ : Int), .int .i64 (n : Int)] w fun e w' => ∃ v, e = .returned (.tuple #[v, .int .i64 0]) ∧ Up w w' v (dkSecs s at_ n) ∧ Disk (fun b => K b ∨ blk v = some b) w' p (dkRead s) ∧ Upd (fun b => ¬ K b) w w' := by
  have hbig : s.safe.length ≤ 65536 := h.choose_spec.choose_spec.choose_spec.1.big
  have hok : DkOk s := h.choose_spec.choose_spec.choose_spec.1.ok
  have hth : thereOf s.safe.length (at_ : Int) (n : Int) = 0 := by unfold thereOf; rw [if_pos (by omega)]
  have hf46 : ∀ W, Disk K W p s → Calls Try.prog 46 #[.pointer (some ⟨p, 0, none⟩), .int .i64 (at_ : Int), .int .i64 (n : Int)] W fun e w' => e = .returned (.int .i64 0) ∧ W = w' := fun W hW => by
    obtain ⟨S, M, qv, g, _⟩ := hW
    have := dk46_any g (at_ : Int) (n : Int)
    rw [hth] at this
    exact this
  have hmk : ∀ W, (Instr.makeSlice 22 (.int .i64 0) (.int .i64 ((n : Int) * 128))).run Try.prog W = .ok (.slice (some ⟨W.heap.size, 0, none⟩) 0 (n * 128)) (W.alloc (.cells (zeros (n * 128)) 5)) := fun W => by
    have := make_room (n * 128) (by omega) W
    rw [show ((n * 128 : Nat) : Int) = (n : Int) * 128 by omega] at this
    exact this
  go_enter Try.func22, Try.ntmps22
  go_wp2_with first
    | (go_at_call 46; refine (hf46 _ h).mono ?_; rintro e w0 ⟨rfl, rfl⟩)
    | (go_at_call 47; refine (dk47_on h h0).mono ?_; rintro e w1 ⟨rfl, h1, u1⟩)
  have hX : Ext w1 (w1.alloc (.cells (zeros (n * 128)) 5)) := (Ext.refl w1).alloc _
  have hup : Up w1 (w1.alloc (.cells (zeros (n * 128)) 5)) (.slice (some ⟨w1.heap.size, 0, none⟩) 0 (n * 128)) [] := Up.of_own (own_room _ (by omega) w1) (Nat.le_refl _)
  generalize w1.alloc (.cells (zeros (n * 128)) 5) = w2 at *
  go_loopw [9, 27] (fun v i wr => ∃ k : Nat, k ≤ n ∧ i = .int .i64 k ∧ Up w1 wr v (dkSecs s at_ k) ∧ Ext w1 wr) (fun _ i _ => n - (intOf i).toNat)
  case atStart => exact ⟨0, Nat.zero_le _, rfl, hup, hX⟩
  case round =>
    obtain ⟨k, hk, rfl, hu, hx⟩ := hrel
    by_cases hlt : k < n
    · have hsee := dk51_any (h1.ext hx) (at_ + k) (by show at_ + k < s.safe.length; omega)
      rw [show ((at_ + k : Nat) : Int) = (at_ : Int) + (k : Int) by omega] at hsee
      obtain ⟨l, hl⟩ : ∃ l, l = seeAt s (at_ + k) := ⟨_, rfl⟩
      have hsl : seeAt { s with calls := callTo s.calls } (at_ + k) = l := hl.symm
      have hl128 : l.length = 128 := by rw [hl]; exact length_seeAt hok _ (by omega)
      have hzl : Try.zeroCells91.size = (octs l).length := by rw [zero_size, length_octs, hl128]
      rw [hsl] at hsee
      have HL := Lib.hid hl
      have hx1 := hx
      clear hmk hf46 hsl hl
      go_wp2_with first
        | (go_at_call 51; refine hsee.mono ?_; clear hsee; rintro e w3 ⟨rfl, x3⟩)
        | (refine wpList_store_sec rfl (.tmp 11) (.tmp 34) rfl w3.heap.size 0 rfl l rfl hl128 Try.zeroCells91 91 (heap_alloc_new _ _) (by rw [zero_size]; decide) ?_; intro w4 b4 u4; rw [putAt_all _ _ hzl] at b4; have x4 : Ext wr w4 := u4.to_ext (x3.alloc _) (fun g e => by rw [e]; exact x3.size); have hx4 := hx1.trans x4; have hu4 := hu.ext x4; have y4 := sec_octs b4)
        | (at_builtin; refine wpList_up rfl (.tmp 35) (.tmp 36) rfl _ (dkSecs s at_ k) rfl hu4 hx4 (some ⟨w3.heap.size, 0, none⟩) 128 128 l rfl hl128 y4 (by rw [length_dkSecs hok at_ k (by omega), hl128]; omega) ?_; intro v5 w5 u5 x5)
      go_roundw
      case rel => exact ⟨k + 1, by omega, val_int (by omega), by rw [dkSecs_succ, ← HL.out]; exact u5, x5⟩
      case measure => simp [intOf]; omega
    · obtain rfl : k = n := by omega
      go_wp2
      refine bodyPost_ret (results_tmp2 rfl _ _ _) rfl ?_
      refine ⟨_, rfl, ⟨hu.1, fun g e => Nat.le_trans u1.size (hu.2 g e)⟩, (h1.more hx).less (fun b hb => ?_), u1.trans (Upd.of_ext _ hx)⟩
      rcases hb with hb | hb
      · exact .inl hb
      · exact .inr (hu.2 b hb)

set_option maxRecDepth 100000 in
theorem dk22_off {K : Nat → Prop} {w : World} {p : Nat} {s : Dk} (h : Disk K w p s) (at_ n : Int) (hc : thereOf s.safe.length at_ n = 2 ∨ s.calls = 0) :
    Calls Try.prog 22 #[.pointer (some ⟨p, 0, none⟩), .int .i64 at_, .int .i64 n] w fun e w' => e = .returned (.tuple #[.slice none 0 0, .int .i64 (if thereOf s.safe.length at_ n = 2 then 2 else 10)]) ∧ w' = w := by
  have hf46 : ∀ W, Disk K W p s → Calls Try.prog 46 #[.pointer (some ⟨p, 0, none⟩), .int .i64 at_, .int .i64 n] W fun e w' => e = .returned (.int .i64 (thereOf s.safe.length at_ n)) ∧ W = w' := fun W hW => by
    obtain ⟨S, M, qv, g, _⟩ := hW
    exact dk46_any g at_ n
  by_cases ht : thereOf s.safe.length at_ n = 2
  · rw [if_pos ht]
    rw [ht] at hf46
    go_enter Try.func22, Try.ntmps22
    go_wp2_with (go_at_call 46; refine (hf46 _ h).mono ?_; rintro e w0 ⟨rfl, rfl⟩)
    refine bodyPost_ret (results_tmp2 rfl _ _ _) rfl ?_
    exact ⟨rfl, rfl⟩
  · have h0 : s.calls = 0 := hc.resolve_left ht
    have ht0 : thereOf s.safe.length at_ n = 0 := by
      unfold thereOf at ht ⊢
      split
      · rfl
      · rename_i g; rw [if_neg g] at ht; exact absurd rfl ht
    rw [if_neg ht]
    rw [ht0] at hf46
    go_enter Try.func22, Try.ntmps22
    go_wp2_with first
      | (go_at_call 46; refine (hf46 _ h).mono ?_; rintro e w0 ⟨rfl, rfl⟩)
      | (go_at_call 47; refine (dk47_off h h0).mono ?_; rintro e w0 ⟨rfl, rfl⟩)
    refine bodyPost_ret (results_tmp2 rfl _ _ _) rfl ?_
    exact ⟨rfl, rfl⟩

set_option maxRecDepth 100000 in
set_option maxHeartbeats 2000000 in
theorem dk25_any {K : Nat → Prop} {w : World} {p : Nat} {s : Dk} (h : Disk K w p s) :
    Calls Try.prog 25 #[.pointer (some ⟨p, 0, none⟩)] w fun e w' => ∃ v, e = .returned v ∧ Up w w' v (dkImage s) ∧ Ext w w' := by
  have hbig : s.safe.length ≤ 65536 := h.choose_spec.choose_spec.choose_spec.1.big
  have hok : DkOk s := h.choose_spec.choose_spec.choose_spec.1.ok
  rw [dkImage_secs]
  have hc0 := h.choose_spec.choose_spec.choose_spec.1.cells.1
  generalize h.choose = S at hc0
  obtain ⟨n, hn⟩ : ∃ n, n = s.safe.length := ⟨_, rfl⟩
  rw [← hn] at hc0 ⊢
  have HN := Lib.hid hn
  go_enter Try.func25, Try.ntmps25
  clear hn
  go_wp2
  go_loopw [3, 11] (fun v i wr => ∃ k : Nat, k ≤ n ∧ i = .int .i64 k ∧ Up w wr v (dkSecs s 0 k) ∧ Ext w wr) (fun _ i _ => n - (intOf i).toNat)
  case atStart => exact ⟨0, Nat.zero_le _, rfl, ⟨Mine.nil _ _, fun g e => by cases e⟩, Ext.refl w⟩
  case round =>
    obtain ⟨k, hk, rfl, hu, hx⟩ := hrel
    by_cases hlt : k < n
    · have hsee := dk51_any (h.ext hx) k (by have := HN.out; omega)
      have hle := length_dkSecs hok 0 k (by have := HN.out; omega)
      obtain ⟨l, hl⟩ : ∃ l, l = seeAt s k := ⟨_, rfl⟩
      have hl128 : l.length = 128 := by rw [hl]; exact length_seeAt hok _ (by have := HN.out; omega)
      have hzl : Try.zeroCells91.size = (octs l).length := by rw [zero_size, length_octs, hl128]
      rw [← hl] at hsee
      have HL := Lib.hid hl
      have hx1 := hx
      have hk6 : k ≤ 65536 := by have := HN.out; omega
      clear hl
      go_wp2_with first
        | (go_at_call 51; refine hsee.mono ?_; clear hsee; rintro e w3 ⟨rfl, x3⟩)
        | (refine wpList_store_sec rfl (.tmp 5) (.tmp 16) rfl w3.heap.size 0 rfl l rfl hl128 Try.zeroCells91 91 (heap_alloc_new _ _) (by rw [zero_size]; decide) ?_; intro w4 b4 u4; rw [putAt_all _ _ hzl] at b4; have x4 : Ext wr w4 := u4.to_ext (x3.alloc _) (fun g e => by rw [e]; exact x3.size); have hx4 := hx1.trans x4; have hu4 := hu.ext x4; have y4 := sec_octs b4)
        | (at_builtin; refine wpList_up rfl (.tmp 17) (.tmp 18) rfl _ (dkSecs s 0 k) rfl hu4 hx4 (some ⟨w3.heap.size, 0, none⟩) 128 128 l rfl hl128 y4 (by rw [hle, hl128]; omega) ?_; intro v5 w5 u5 x5)
      go_roundw
      case rel => exact ⟨k + 1, by omega, val_int (by omega), by rw [dkSecs_succ, Nat.zero_add, ← HL.out]; exact u5, x5⟩
      case measure => simp [intOf]; omega
    · obtain rfl : k = n := by omega
      go_wp2
      go_ret
      exact ⟨_, rfl, hu, hx⟩
end Go.Proofs.Ytgpnmmgoachajaa
/- The disk's Flush. -/
namespace Go.Proofs.Ytgpnmmgoachajaa
open Go.RowKit
open Go.Proofs

theorem size_w : (Try.prog.info? 93).map (·.size) = some 129 := by kernel_rfl
theorem zero_wsize : Try.zeroCells93.size = 129 := by kernel_rfl
theorem all_wCells (q : Nat × List UInt8) : (wCells q).toArray.all (·.oneCell') = true := all_oneCell_toArray (fun v hv => by
  rcases List.mem_cons.1 hv with h | h
  · rw [h]; rfl
  · exact octs_one _ v h)
section
variable {w : World} {ops : Array Oper} {rest : List Oper} {o : Oper} {a : Act} {Q : Exit → Act → World → Prop}
/-- A write that waits is read. -/
theorem wpList_load_w (hgd : o.guard = none) (x : Operand) (ho : o.op = .load 93 x) (b k : Nat) (hx : a.eval x = .pointer (some ⟨b, k, none⟩)) (q : Nat × List UInt8) (hl : q.2.length = 128) (hr : w.rangeAt b k (wCells q))
    (h : wpList Try.prog ops Q rest (a.put o.dst (.agg (wCells q).toArray)) w) : wpList Try.prog ops Q (o :: rest) a w :=
  wpList_load_mid hgd _ x ho b k hx (wCells q) _ hr Try.underlying93 rfl (by rw [size_w, length_wCells q hl]) h
theorem wpList_store_w (hgd : o.guard = none) (x y : Operand) (ho : o.op = .store 93 x y) (b k : Nat) (hx : a.eval x = .pointer (some ⟨b, k, none⟩)) (q : Nat × List UInt8) (hy : a.eval y = .agg (wCells q).toArray) (hl : q.2.length = 128)
    (cur : Array Value) (t : TypeId) (hb : w.heap[b]? = some (.cells cur t (0, 0))) (hk : k + 129 ≤ cur.size)
    (h : ∀ w', w'.heap[b]? = some (.cells (putAt cur k (wCells q)) t (0, 0)) → Upd (fun g => g = b) w w' → wpList Try.prog ops Q rest (a.put o.dst undef) w') : wpList Try.prog ops Q (o :: rest) a w := by
  have hsz : (wCells q).toArray.size = 129 := by rw [List.size_toArray, length_wCells q hl]
  refine wpList_store_mid hgd _ x y ho b k (wCells q).toArray hx hy (there_row hb k _ (by omega)) (by rw [size_w, hsz]) (all_wCells q) ?_
  exact h _ (heap_setCells b t (wCells q) k w cur hb) (upd_setCells (F := fun g => g = b) b rfl (wCells q) k w)
/-- A sector is stored, in a region that draws its order. -/
theorem step_store_sec {K : Act → World → Prop} {E : Prop} (hgd : o.guard = none) (x y : Operand) (ho : o.op = .store 91 x y) (b k : Nat) (hx : a.eval x = .pointer (some ⟨b, k, none⟩)) (l : List UInt8) (hy : a.eval y = secV l) (hl : l.length = 128)
    (cur : Array Value) (t : TypeId) (hb : w.heap[b]? = some (.cells cur t (0, 0))) (hk : k + 128 ≤ cur.size)
    (h : ∀ w', w'.heap[b]? = some (.cells (putAt cur k (octs l)) t (0, 0)) → Upd (fun g => g = b) w w' → K (a.put o.dst undef) w') : if Region.wanted o (yielded ops a.tmps) = true then Oper.wp Try.prog o a w K Q else E := by
  have hw : Region.wanted o (yielded ops a.tmps) = true := by simp [Region.wanted, hgd]
  rw [if_pos hw]
  have hsz : (octs l).toArray.size = 128 := by rw [List.size_toArray, length_octs, hl]
  refine wp_store_mid _ x y ho b k (octs l).toArray hx hy (there_row hb k _ (by omega)) (by rw [size_sec, hsz]) (all_octs l) ?_
  exact h _ (heap_setCells b t (octs l) k w cur hb) (upd_setCells (F := fun g => g = b) b rfl (octs l) k w)
end
section
variable {w w' : World} {p S M : Nat} {qv : Value} {s : Dk}
/-- A sector has been made safe. -/
theorem DiskV.setSafe (h : DiskV w p S M qv s) (a : Nat) (l : List UInt8) (ha : a < s.safe.length) (hl : l.length = 128) (hb : w'.heap[S]? = some (.cells (putAt (octs s.safe.flatten).toArray (a * 128) (octs l)) 91 (0, 0))) (hu : Upd (fun b => b = S) w w') :
    DiskV w' p S M qv { s with safe := s.safe.set a l } := by
  rw [Nat.mul_comm, octs_set _ _ _ h.ok.safe ha hl] at hb
  refine ⟨⟨safe_set h.ok.safe a l hl, fun q hq => ?_⟩, h.calls, ?_, ?_, hb, h.seen.upd hu (fun e => h.sM e.symm), row_keep h.queue (fun g hg => hu.block g (h.lt.2.2.2 g hg) (h.row hg).2.1)⟩
  · show q.1 < (s.safe.set a l).length ∧ _
    rw [List.length_set]; exact h.ok.queue q hq
  · show (s.safe.set a l).length ≤ 65536
    rw [List.length_set]; exact h.big
  · show w'.heap[p]? = some (.cells #[.slice (some ⟨S, 0, none⟩) (s.safe.set a l).length (s.safe.set a l).length, .map (some M), qv, .int .i64 s.calls, .int .i64 s.writes] 85 (0, 0))
    rw [List.length_set]
    exact hu.heap h.me h.pS
/-- The write at a place of the row. -/
theorem DiskV.qat (h : DiskV w p S M qv s) (k : Nat) (q : Nat × List UInt8) (hq : s.queue[k]? = some q) : ∃ g c, qv = .slice (some ⟨g, 0, none⟩) s.queue.length c ∧ w.rangeAt g (k * 129) (wCells q) ∧ s.queue.length ≤ 9223372036854775807 := by
  have hk := (List.getElem?_eq_some_iff.1 hq).1
  rcases h.queue.2 with ⟨e, h0⟩ | ⟨g, cap, cur, e, _, hb, hc, hm, hsz, ht⟩
  · omega
  · refine ⟨g, cap, e, range_row hb _ _ ?_, by simp only [maxLen] at hm; omega⟩
    have hl : (wCells q).length = 129 := length_wCells q (h.ok.queue q (List.mem_of_getElem? hq)).2
    have hf : ((qCells s.queue).drop (129 * k)).take 129 = wCells q := flat_at 129 _ k _ (fun x hx => by
      obtain ⟨y, hy, rfl⟩ := List.mem_map.1 hx
      exact length_wCells y (h.ok.queue y hy).2) (by rw [List.getElem?_map, hq]; rfl)
    rw [← ht] at hf
    rw [List.drop_take, List.take_take, Nat.min_eq_left (by omega)] at hf
    rw [hl, Nat.mul_comm]
    exact hf
end

set_option maxRecDepth 100000 in
theorem dk18_off {K : Nat → Prop} {w : World} {p : Nat} {s : Dk} (h : Disk K w p s) (h0 : s.calls = 0) :
    Calls Try.prog 18 #[.pointer (some ⟨p, 0, none⟩)] w fun e w' => e = .returned (.int .i64 10) ∧ w' = w := by
  go_enter Try.func18, Try.ntmps18
  go_wp2_with (go_at_call 47; refine (dk47_off h h0).mono ?_; rintro e w1 ⟨rfl, rfl⟩)
  go_ret
  exact ⟨rfl, rfl⟩
set_option maxRecDepth 100000 in
set_option maxHeartbeats 4000000 in
theorem dk18_on {K : Nat → Prop} {w : World} {p : Nat} {s : Dk} (h : Disk K w p s) (h0 : s.calls ≠ 0) :
    Calls Try.prog 18 #[.pointer (some ⟨p, 0, none⟩)] w fun e w' => e = .returned (.int .i64 0) ∧ Disk K w' p (dkFlush s) ∧ Upd (fun b => ¬ K b) w w' := by
  go_enter Try.func18, Try.ntmps18
  go_wp2_with (go_at_call 47; refine (dk47_on h h0).mono ?_; rintro e w1 ⟨rfl, ⟨S, M, qv, hd, hk⟩, u1⟩; obtain ⟨qA, qc, rfl⟩ := hd.qform; obtain ⟨c0, c1, c2, c3, c4, cf⟩ := hd.cells)
  have hok := hd.ok
  go_loopw [16] (fun i wr => ∃ k : Nat, k ≤ s.queue.length ∧ i = .int .i64 k ∧ DiskV wr p S M (.slice qA s.queue.length qc) ⟨putAll s.safe (s.queue.take k), s.queue, callTo s.calls, s.writes⟩ ∧ Upd (fun b => ¬ K b) w1 wr) (fun i _ => s.queue.length - (intOf i).toNat)
  case atStart => exact ⟨0, Nat.zero_le _, rfl, hd, Upd.refl _ _⟩
  case round =>
    obtain ⟨k, hkn, rfl, hr, ur⟩ := hrel
    clear c0 c1 c2 c3 c4 cf
    by_cases hlt : k < s.queue.length
    · obtain ⟨⟨a, l⟩, hq⟩ : ∃ q, s.queue[k]? = some q := ⟨_, List.getElem?_eq_getElem hlt⟩
      obtain ⟨g, c, e, hrange, hgc⟩ := hr.qat k (a, l) hq
      injection e with e1 e2 e3
      subst e1; subst e3
      obtain ⟨ha, hl128⟩ : a < s.safe.length ∧ l.length = 128 := hok.queue (a, l) (List.mem_of_getElem? hq)
      have hzw : Try.zeroCells93.size = (wCells (a, l)).length := by rw [zero_wsize, length_wCells _ hl128]
      obtain ⟨sf, hsf⟩ : ∃ sf, sf = putAll s.safe (s.queue.take k) := ⟨_, rfl⟩
      have hsl : sf.length = s.safe.length := by rw [hsf, length_putAll]
      have hnx : putAll s.safe (s.queue.take (k + 1)) = sf.set a l := by rw [List.take_add_one, hq, Option.toList_some, putAll_snoc, ← hsf]
      rw [← hsf] at hr
      have HS := Lib.hid hnx
      clear hsf hnx
      have hb := hr.big
      obtain ⟨n, hn⟩ : ∃ n, n = s.queue.length := ⟨_, rfl⟩
      go_wp2_with first
        | (refine wpList_load_w rfl (.tmp 18) rfl g (k * 129) rfl (a, l) hl128 hrange ?_)
        | (refine wpList_store_w rfl (.tmp 5) (.tmp 19) rfl wr.heap.size 0 rfl (a, l) rfl hl128 Try.zeroCells93 93 (heap_alloc_new _ _) (by rw [zero_wsize]; decide) ?_; intro w4 b4 u4; rw [putAt_all _ _ hzw] at b4)
      have x4 : Ext wr w4 := u4.to_ext ((Ext.refl wr).alloc _) (fun g e => by rw [e]; exact Nat.le_refl _)
      have hd4 := hr.ext x4
      have hb4S : ¬ (⟨wr.heap.size, 0, none⟩ : Addr).block = S := fun e => by
        have := hr.lt.2.1
        simp only at e
        omega
      have hc0 := hd4.cells.1
      have hk0 : w4.cell? ⟨wr.heap.size, 0, none⟩ = some (.int .i64 (a : Int)) := by rw [cell_of_row w4 _ _ _ _ _ b4]; rfl
      have hr7 : ∀ w', Upd (fun b => b = S) w4 w' → w'.rangeAt wr.heap.size 1 (octs l) := fun w' u => range_row (u.heap b4 hb4S) 1 (octs l) (by show (octs l).take (octs l).length = octs l; exact List.take_length)
      have hs9 := hd4.safe
      have hs128 : a * 128 + 128 ≤ (octs sf.flatten).toArray.size := by
        rw [List.size_toArray, length_octs, flat_len 128 sf hr.ok.safe, hsl]
        omega
      refine wp_region_held_drew (S := fun w' => Upd (fun b => b = S) w4 w') (by kernel_rfl) ((Upd.refl (fun b => b = S) w4).drew) (fun hS => ?_)
      refine takeH (i := 0) (v := ?_) rfl rfl (by kernel_rfl) (by kernel_rfl) (by kernel_rfl) (fun _ _ _ h => h) (Or.inl ⟨by kernel_rfl, ?_⟩) hS ?_
      rotate_left 1
      · (intro w' hS'; go_simp; try (with_reducible rfl))
      simp only [List.setIfInBounds_toArray, List.set_cons_succ, List.set_cons_zero]
      refine takeH (i := 1) (v := ?_) rfl rfl (by kernel_rfl) (by kernel_rfl) (by kernel_rfl) (fun _ _ _ h => h) (Or.inl ⟨by kernel_rfl, ?_⟩) hS ?_
      rotate_left 1
      · (intro w' hS'; go_simp; try (with_reducible rfl))
      simp only [List.setIfInBounds_toArray, List.set_cons_succ, List.set_cons_zero]
      refine takeH (i := 2) (v := ?_) rfl rfl (by kernel_rfl) (by kernel_rfl) (by kernel_rfl) (fun _ _ _ h => h) (Or.inl ⟨by kernel_rfl, ?_⟩) hS ?_
      rotate_left 1
      · (intro w' hS'; go_simp; try (with_reducible rfl))
      simp only [List.setIfInBounds_toArray, List.set_cons_succ, List.set_cons_zero]
      refine takeH (i := 3) (v := ?_) rfl rfl (by kernel_rfl) (by kernel_rfl) (by kernel_rfl) (fun _ _ _ h => h) (Or.inl ⟨by kernel_rfl, ?_⟩) hS ?_
      rotate_left 1
      · (intro w' hS'; have c0 := hS'.cell hc0 hd4.pS; go_simp; try (with_reducible rfl))
      simp only [List.setIfInBounds_toArray, List.set_cons_succ, List.set_cons_zero]
      refine takeH (i := 4) (v := ?_) rfl rfl (by kernel_rfl) (by kernel_rfl) (by kernel_rfl) (fun _ _ _ h => h) (Or.inl ⟨by kernel_rfl, ?_⟩) hS ?_
      rotate_left 1
      · (intro w' hS'; go_simp; try (with_reducible rfl))
      simp only [List.setIfInBounds_toArray, List.set_cons_succ, List.set_cons_zero]
      refine takeH (i := 5) (v := ?_) rfl rfl (by kernel_rfl) (by kernel_rfl) (by kernel_rfl) (fun _ _ _ h => h) (Or.inl ⟨by kernel_rfl, ?_⟩) hS ?_
      rotate_left 1
      · (intro w' hS'; have k5 := hS'.cell hk0 hb4S; go_simp; try (with_reducible rfl))
      simp only [List.setIfInBounds_toArray, List.set_cons_succ, List.set_cons_zero]
      refine takeH (i := 6) (v := ?_) rfl rfl (by kernel_rfl) (by kernel_rfl) (by kernel_rfl) (fun _ _ _ h => h) (Or.inl ⟨by kernel_rfl, ?_⟩) hS ?_
      rotate_left 1
      · (intro w' hS'; go_simp; try (with_reducible rfl))
      simp only [List.setIfInBounds_toArray, List.set_cons_succ, List.set_cons_zero]
      refine takeH (i := 7) (v := secV l) rfl rfl (by kernel_rfl) (by kernel_rfl) (by kernel_rfl) (fun _ _ _ h => h) (yieldsIf_load_mid (by kernel_rfl) 91 (.tmp 26) rfl wr.heap.size 1 rfl (octs l) _ hr7 und_sec rfl (by rw [size_sec, length_octs, hl128])) hS ?_
      simp only [List.setIfInBounds_toArray, List.set_cons_succ, List.set_cons_zero]
      refine takeH (i := 8) (v := ?_) rfl rfl (by kernel_rfl) (by kernel_rfl) (by kernel_rfl) (fun _ _ _ h => h) (Or.inl ⟨by kernel_rfl, ?_⟩) hS ?_
      rotate_left 1
      · (intro w' hS'; go_simp; try (with_reducible rfl))
      simp only [List.setIfInBounds_toArray, List.set_cons_succ, List.set_cons_zero]
      refine wpAnyH_ready (rs := [9]) (by kernel_rfl) (by simp) ?_
      refine AllReadyH.cons rfl (fun K hK => ?_) ?_
      rotate_left 1
      · exact AllReadyH.nil
      refine step_store_sec rfl (.tmp 28) (.tmp 27) rfl S (a * 128) rfl l rfl hl128 _ _ hs9 hs128 ?_; intro w9 b9 u9
      try go_simp
      refine hK.out _ _ (by first | exact hS.trans u9 | exact hS) (fun hS => ?_)
      clear hK K
      refine wpAnyH_done (by kernel_rfl) ?_ _
      have hd9 := hd4.setSafe a l (by show a < sf.length; omega) hl128 b9 hS
      have u49 : Upd (fun b => ¬ K b) wr w9 := (Upd.of_ext _ x4).trans (hS.mono (fun b _ e => by subst e; exact hk b (.inr (.inl rfl))))
      go_wp2
      go_roundw
      case rel => exact ⟨k + 1, by omega, val_int (by omega), by rw [HS.out]; exact hd9, ur.trans u49⟩
      case measure => simp [intOf]; omega
    · obtain rfl : k = s.queue.length := by omega
      rw [List.take_length] at hr
      go_wp2_with (go_at_call 49; refine (dk49_any ⟨S, M, _, hr, hk⟩).mono ?_; rintro e w2 ⟨rfl, h2, u2⟩)
      go_ret
      exact ⟨rfl, h2, (u1.trans ur).trans u2⟩
end Go.Proofs.Ytgpnmmgoachajaa
