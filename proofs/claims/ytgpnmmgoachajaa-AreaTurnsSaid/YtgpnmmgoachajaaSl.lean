/- The library's Index, Contains, IndexFunc, Delete and Clone at slices of ints: the shelf's contracts in the walks' own words. -/
import Derived.Test.YtgpnmmgoachajaaShelf
import Derived.Test.YtgpnmmgoachajaaMine
namespace Go.Proofs.Ytgpnmmgoachajaa
open Go.RowKit
open Go.Proofs
open Go.Shelf

/-- An int as a cell holds it. -/
def ints (l : List Int) : List Value := l.map (Value.int .i64)
@[simp] theorem length_ints (l : List Int) : (ints l).length = l.length := by simp [ints]
theorem ints_append (l m : List Int) : ints (l ++ m) = ints l ++ ints m := by simp [ints]
theorem ints_get (l : List Int) (k : Nat) (h : k < l.length) : (ints l)[k]? = some (.int .i64 l[k]) := by simp [ints, h]
theorem ints_at (l : List Int) (k : Nat) (h : k < l.length) : (ints l)[k]? = some (.int .i64 l[k]!) := by simp [ints, h]
theorem ints_one (l : List Int) : ∀ u ∈ ints l, u.oneCell' = true := by
  intro u hu
  simp only [ints, List.mem_map] at hu
  obtain ⟨c, _, rfl⟩ := hu
  rfl
theorem ints_cell {w : World} {b o : Nat} {l : List Int} (h : ∀ (j : Nat) u, (ints l)[j]? = some u → w.cell? ⟨b, o + j, none⟩ = some u) : ∀ j, j < l.length → w.cell? ⟨b, o + j, none⟩ = some (.int .i64 l[j]!) :=
  fun j hj => h j _ (ints_at l j hj)

theorem info3 : (Try.prog.info? 3).map (fun i => (i.zero, i.size, i.bytes)) = some (some (.int .i64 0), 1, 8) := by kernel_rfl
theorem info_three {P : Program} {t : TypeId} {z : Option Value} {s b : Nat} (h : (P.info? t).map (fun i => (i.zero, i.size, i.bytes)) = some (z, s, b)) : ∃ i, P.info? t = some i ∧ i.zero = z ∧ i.size = s ∧ i.bytes = b := by
  cases hi : P.info? t with
  | none => rw [hi] at h; cases h
  | some i => rw [hi] at h; injection h with h; injection h with h1 h; injection h with h2 h3; exact ⟨i, rfl, h1, h2, h3⟩

/-- Where it first stands. -/
def place (l : List Int) (x : Int) : Int := if x ∈ l then ((l.idxOf x : Nat) : Int) else -1
theorem idxBy_place (x : Int) : ∀ (l : List Int) (i : Nat), Lib.idxByFrom (fun x y : Int => x == y) x l i = if x ∈ l then ((i + l.idxOf x : Nat) : Int) else -1
  | [], i => by simp [Lib.idxByFrom]
  | y :: r, i => by
    rw [Lib.idxByFrom]
    by_cases h : x = y
    · subst h; simp
    · have h2 : (x == y) = false := by simp [h]
      have h3 : (y == x) = false := by simp [Ne.symm h]
      rw [h2, if_neg (by simp), idxBy_place x r (i + 1)]
      simp only [List.mem_cons, h, false_or, List.idxOf_cons, h3, cond_false]
      split <;> simp <;> omega

theorem index_ints (A : Option Addr) (l : List Int) (c : Nat) (x : Int) (w : World) (hbig : l.length ≤ 9223372036854775807) (hx : Cells w A (ints l)) :
    Calls Try.prog 64 #[.slice A l.length c, .int .i64 x] w fun e w' => e = .returned (.int .i64 (place l x)) ∧ w' = w := by
  rcases Nat.eq_zero_or_pos l.length with h0 | h0
  · have : l = [] := List.eq_nil_of_length_eq_zero h0
    subst this
    exact AnyE.slices_Index_empty lays64 A c (.int .i64 x) w
  · obtain ⟨b, o, rfl, hc⟩ := hx (by simpa using h0)
    have h := AnyE.slices_Index lays64 (Value.int .i64) _ (EqlAt.int _ _ .i64) b o l.length c l x w (Nat.le_refl _) hbig (ints_cell hc)
    rw [List.take_length, Lib.idxBy, idxBy_place, Nat.zero_add] at h
    exact h

theorem contains_ints (A : Option Addr) (l : List Int) (c : Nat) (x : Int) (w : World) (hbig : l.length ≤ 9223372036854775807) (hx : Cells w A (ints l)) :
    Calls Try.prog 50 #[.slice A l.length c, .int .i64 x] w fun e w' => e = .returned (.bool (decide (x ∈ l))) ∧ w' = w := by
  rcases Nat.eq_zero_or_pos l.length with h0 | h0
  · have : l = [] := List.eq_nil_of_length_eq_zero h0
    subst this
    exact AnyE.slices_Contains_empty lays50 A c (.int .i64 x) w
  · obtain ⟨b, o, rfl, hc⟩ := hx (by simpa using h0)
    have h := AnyE.slices_Contains lays50 (Value.int .i64) _ (EqlAt.int _ _ .i64) b o l.length c l x w (Nat.le_refl _) hbig (ints_cell hc)
    have e : (l.take l.length).any (fun y => x == y) = decide (x ∈ l) := by
      rw [List.take_length, Bool.eq_iff_iff]
      simp
    rw [e] at h
    exact h

theorem putCells_out (enc : Int → Value) (off : Nat) (d : Array Int) (c : Array Value) (k : Nat) (h : k < off ∨ off + d.size ≤ k) : (Sort.putCells enc off d c)[k]? = c[k]? := by
  unfold Sort.putCells
  rw [Array.getElem?_mapIdx]
  cases c[k]? with
  | none => rfl
  | some u => rw [Option.map_some, if_neg (by omega)]
theorem putCells_in (enc : Int → Value) (off : Nat) (d : Array Int) (c : Array Value) (j : Nat) (h : j < d.size) (hs : off + d.size ≤ c.size) : (Sort.putCells enc off d c)[off + j]? = some (enc d[j]!) := by
  unfold Sort.putCells
  rw [Array.getElem?_mapIdx, Array.getElem?_eq_getElem (by omega), Option.map_some, if_pos (by omega), show off + j - off = j by omega]

theorem erase_at (L R : List Int) (j : Nat) (h : j < L.length) : ((L ++ R).toArray)[j]! = L[j]! := by
  rw [Array.getElem!_eq_getD, Array.getD_eq_getD_getElem?, List.getElem?_toArray, List.getElem!_eq_getElem?_getD, List.getElem?_append_left h]

theorem elem22 : Try.prog.elem 33 = 3 := by kernel_rfl
/-- 'l[1:]' of ints. -/
theorem tail_ints (A : Option Addr) (n c : Nat) (l : List Int) (w : World) (hl : l.length = n) (h1 : 1 ≤ n) (hm : Mine w 3 (.slice A n c) (ints l)) :
    ∃ A1, (∀ w, (Instr.slice 33 (.slice A n c) (some (.int .i64 1)) none none).run Try.prog w = .ok (.slice A1 (n - 1) (c - 1)) w) ∧
      (∀ w, (Instr.sliceAt 33 (.slice A n c) (some (.int .i64 1)) none none).run Try.prog w = .ok (.slice A1 (n - 1) (c - 1)) w) ∧
      Mine w 3 (.slice A1 (n - 1) (c - 1)) (ints (l.drop 1)) ∧ blk (.slice A1 (n - 1) (c - 1)) = blk (.slice A n c) := by
  have hs : ∀ w, (sizeOf (Try.prog.elem 33)).run Try.prog w = .ok 1 w := fun w => by rw [elem22]; exact Try.sizeOf3 w
  have hnc : n ≤ c := by
    obtain ⟨A', c', e, h, _⟩ := hm.form
    injection e with _ e2 e3
    rw [e2, e3]; exact h
  have h : ∀ w, (Instr.slice 33 (.slice A n c) (some (.int .i64 1)) none none).run Try.prog w = .ok (.slice (if c = 1 then A else A.map (·.add (1 * 1))) (n - 1) (c - 1)) w := by
    intro w
    rw [run_slice_l w 33 A n c (by rw [elem22]; exact Try.underlying33) .i64 1 (by omega) (by omega), hs]
    simp [Result.andThen, sliced]
  refine ⟨_, h, fun w => by rw [run_sliceAt_slice _ _ _ _ _ _ (by rw [elem22]; exact Try.underlying33)]; exact h w, ?_, ?_⟩
  · have := hm.drop (lo := 1) (by rw [length_ints]; omega)
    rw [show ints (l.drop 1) = (ints l).drop 1 by simp [ints]]
    exact this
  · split
    · cases A <;> rfl
    · cases A with
      | none => rfl
      | some a => simp only [Option.map_some, blk]; rw [show (a.add (1 * 1)).block = a.block by unfold Addr.add; split <;> rfl]
/-- append of one int. -/
theorem step_append_int {w : World} {ops : Array Oper} {o : Oper} {a : Act} {K : Act → World → Prop} {Q : Exit → Act → World → Prop} {E : Prop} (hgd : o.guard = none) (s x : Operand)
    (ho : o.op = .call { callee := .builtin .append, args := #[s, x], argTypes := #[33, 33] })
    (v : Value) (l : List Int) (hs : a.eval s = v) (hm : Mine w 3 v (ints l)) (A : Option Addr) (c : Nat) (y : Int) (hxv : a.eval x = .slice A 1 c) (hx : Cells w A [.int .i64 y])
    (hlen : l.length ≤ 4294967295)
    (h : ∀ v' w', Mine w' 3 v' (ints (l ++ [y])) → Upd (fun b => blk v = some b) w w' → (blk v' = blk v ∨ blk v' = some w.heap.size) → K (a.put o.dst v') w') :
    if Region.wanted o (yielded ops a.tmps) = true then Oper.wp Try.prog o a w K Q else E := by
  obtain ⟨i0, hi0, hz, hs0, hb0⟩ := info_three info3
  refine step_append_mine hgd s x _ ho 3 i0 (.int .i64 0) 8 Try.underlying33 hi0 hz hs0 hb0 rfl v (ints l) hs hm A 1 c [.int .i64 y] hxv rfl hx (by simp [Value.oneCell']) (by simp; omega) (by omega) ?_
  intro v' w' h1 h2 h3
  exact h v' w' (by rw [ints_append]; exact h1) h2 h3
theorem wpList_append_int {w : World} {ops : Array Oper} {rest : List Oper} {o : Oper} {a : Act} {Q : Exit → Act → World → Prop} (hgd : o.guard = none) (s x : Operand)
    (ho : o.op = .call { callee := .builtin .append, args := #[s, x], argTypes := #[33, 33] })
    (v : Value) (l : List Int) (hs : a.eval s = v) (hm : Mine w 3 v (ints l)) (A : Option Addr) (c : Nat) (y : Int) (hxv : a.eval x = .slice A 1 c) (hx : Cells w A [.int .i64 y])
    (hlen : l.length ≤ 4294967295)
    (h : ∀ v' w', Mine w' 3 v' (ints (l ++ [y])) → Upd (fun b => blk v = some b) w w' → (blk v' = blk v ∨ blk v' = some w.heap.size) → wpList Try.prog ops Q rest (a.put o.dst v') w') : wpList Try.prog ops Q (o :: rest) a w := by
  obtain ⟨i0, hi0, hz, hs0, hb0⟩ := info_three info3
  refine wpList_append_mine hgd s x _ ho 3 i0 (.int .i64 0) 8 Try.underlying33 hi0 hz hs0 hb0 rfl v (ints l) hs hm A 1 c [.int .i64 y] hxv rfl hx (by simp [Value.oneCell']) (by simp; omega) (by omega) ?_
  intro v' w' h1 h2 h3
  exact h v' w' (by rw [ints_append]; exact h1) h2 h3
end Go.Proofs.Ytgpnmmgoachajaa
