/- The library's Index, Contains, IndexFunc, Delete and Clone at slices of ints: the shelf's contracts in the walks' own words. -/
import Derived.Test.YtghkkhafnkkomaaShelf
import Derived.Test.YtghkkhafnkkomaaMine
namespace Go.Proofs.Ytghkkhafnkkomaa
open Go.RowKit
open Go.Proofs
open Go.Shelf

/-- An int as a cell holds it. -/
def ints (l : List Int) : List Value := l.map (Value.int .i64)
@[simp] theorem length_ints (l : List Int) : (ints l).length = l.length := by simp [ints]
theorem ints_append (l m : List Int) : ints (l ++ m) = ints l ++ ints m := by simp [ints]
theorem ints_get (l : List Int) (k : Nat) (h : k < l.length) : (ints l)[k]? = some (.int .i64 l[k]) := by simp [ints, h]
theorem ints_at (l : List Int) (k : Nat) (h : k < l.length) : (ints l)[k]? = some (.int .i64 l[k]!) := by simp [ints, h]
theorem ints_one (l : List Int) : ∀ u ∈ ints l, u.oneCell' = true := by
  intro u hu
  simp only [ints, List.mem_map] at hu
  obtain ⟨c, _, rfl⟩ := hu
  rfl
theorem ints_cell {w : World} {b o : Nat} {l : List Int} (h : ∀ (j : Nat) u, (ints l)[j]? = some u → w.cell? ⟨b, o + j, none⟩ = some u) : ∀ j, j < l.length → w.cell? ⟨b, o + j, none⟩ = some (.int .i64 l[j]!) :=
  fun j hj => h j _ (ints_at l j hj)

theorem info3 : (Try.prog.info? 3).map (fun i => (i.zero, i.size, i.bytes)) = some (some (.int .i64 0), 1, 8) := by kernel_rfl
theorem info_three {P : Program} {t : TypeId} {z : Option Value} {s b : Nat} (h : (P.info? t).map (fun i => (i.zero, i.size, i.bytes)) = some (z, s, b)) : ∃ i, P.info? t = some i ∧ i.zero = z ∧ i.size = s ∧ i.bytes = b := by
  cases hi : P.info? t with
  | none => rw [hi] at h; cases h
  | some i => rw [hi] at h; injection h with h; injection h with h1 h; injection h with h2 h3; exact ⟨i, rfl, h1, h2, h3⟩

/-- Where it first stands. -/
def place (l : List Int) (x : Int) : Int := if x ∈ l then ((l.idxOf x : Nat) : Int) else -1
theorem idxBy_place (x : Int) : ∀ (l : List Int) (i : Nat), Lib.idxByFrom (fun x y : Int => x == y) x l i = if x ∈ l then ((i + l.idxOf x : Nat) : Int) else -1
  | [], i => by simp [Lib.idxByFrom]
  | y :: r, i => by
    rw [Lib.idxByFrom]
    by_cases h : x = y
    · subst h; simp
    · have h2 : (x == y) = false := by simp [h]
      have h3 : (y == x) = false := by simp [Ne.symm h]
      rw [h2, if_neg (by simp), idxBy_place x r (i + 1)]
      simp only [List.mem_cons, h, false_or, List.idxOf_cons, h3, cond_false]
      split <;> simp <;> omega

theorem index_ints (A : Option Addr) (l : List Int) (c : Nat) (x : Int) (w : World) (hbig : l.length ≤ 9223372036854775807) (hx : Cells w A (ints l)) :
    Calls Try.prog 96 #[.slice A l.length c, .int .i64 x] w fun e w' => e = .returned (.int .i64 (place l x)) ∧ w' = w := by
  rcases Nat.eq_zero_or_pos l.length with h0 | h0
  · have : l = [] := List.eq_nil_of_length_eq_zero h0
    subst this
    exact AnyE.slices_Index_empty lays96 A c (.int .i64 x) w
  · obtain ⟨b, o, rfl, hc⟩ := hx (by simpa using h0)
    have h := AnyE.slices_Index lays96 (Value.int .i64) _ (EqlAt.int _ _ .i64) b o l.length c l x w (Nat.le_refl _) hbig (ints_cell hc)
    rw [List.take_length, Lib.idxBy, idxBy_place, Nat.zero_add] at h
    exact h

theorem contains_ints (A : Option Addr) (l : List Int) (c : Nat) (x : Int) (w : World) (hbig : l.length ≤ 9223372036854775807) (hx : Cells w A (ints l)) :
    Calls Try.prog 61 #[.slice A l.length c, .int .i64 x] w fun e w' => e = .returned (.bool (decide (x ∈ l))) ∧ w' = w := by
  rcases Nat.eq_zero_or_pos l.length with h0 | h0
  · have : l = [] := List.eq_nil_of_length_eq_zero h0
    subst this
    exact AnyE.slices_Contains_empty lays61 A c (.int .i64 x) w
  · obtain ⟨b, o, rfl, hc⟩ := hx (by simpa using h0)
    have h := AnyE.slices_Contains lays61 (Value.int .i64) _ (EqlAt.int _ _ .i64) b o l.length c l x w (Nat.le_refl _) hbig (ints_cell hc)
    have e : (l.take l.length).any (fun y => x == y) = decide (x ∈ l) := by
      rw [List.take_length, Bool.eq_iff_iff]
      simp
    rw [e] at h
    exact h

theorem indexFunc_ints (g : Nat) (lb : Array Value) (p : Int → Bool) (eg : ∀ args w, (callFunc g args).run Try.prog w = .ok (.enter g args) w)
    (A : Option Addr) (l : List Int) (c : Nat) (w : World) (hp : PredAt Try.prog g lb (Value.int .i64) p w) (hbig : l.length ≤ 9223372036854775807) (hx : Cells w A (ints l)) :
    Calls Try.prog 62 #[.slice A l.length c, .func (.func g) #[] lb] w fun e w' => e = .returned (.int .i64 (Lib.idxBy (fun _ y => p y) l default)) ∧ ∃ q, w' = w.drewN q := by
  rcases Nat.eq_zero_or_pos l.length with h0 | h0
  · have : l = [] := List.eq_nil_of_length_eq_zero h0
    subst this
    refine (AnyE.slices_IndexFunc_empty lays62 A c (.func (.func g) #[] lb) w).mono ?_
    rintro e w' ⟨rfl, rfl⟩
    exact ⟨rfl, 0, rfl⟩
  · obtain ⟨b, o, rfl, hc⟩ := hx (by simpa using h0)
    have h := AnyE.slices_IndexFunc lays62 (Value.int .i64) p g lb eg b o l.length c l w hp (Nat.le_refl _) hbig (ints_cell hc)
    rw [List.take_length] at h
    exact h

theorem putCells_out (enc : Int → Value) (off : Nat) (d : Array Int) (c : Array Value) (k : Nat) (h : k < off ∨ off + d.size ≤ k) : (Sort.putCells enc off d c)[k]? = c[k]? := by
  unfold Sort.putCells
  rw [Array.getElem?_mapIdx]
  cases c[k]? with
  | none => rfl
  | some u => rw [Option.map_some, if_neg (by omega)]
theorem putCells_in (enc : Int → Value) (off : Nat) (d : Array Int) (c : Array Value) (j : Nat) (h : j < d.size) (hs : off + d.size ≤ c.size) : (Sort.putCells enc off d c)[off + j]? = some (enc d[j]!) := by
  unfold Sort.putCells
  rw [Array.getElem?_mapIdx, Array.getElem?_eq_getElem (by omega), Option.map_some, if_pos (by omega), show off + j - off = j by omega]

theorem erase_at (L R : List Int) (j : Nat) (h : j < L.length) : ((L ++ R).toArray)[j]! = L[j]! := by
  rw [Array.getElem!_eq_getD, Array.getD_eq_getD_getElem?, List.getElem?_toArray, List.getElem!_eq_getElem?_getD, List.getElem?_append_left h]

theorem delete_ints (A : Option Addr) (l : List Int) (c i : Nat) (w : World) (hi : i < l.length) (hm : Mine w 3 (.slice A l.length c) (ints l)) :
    Calls Try.prog 101 #[.slice A l.length c, .int .i64 i, .int .i64 ((i : Int) + 1)] w fun e w' => e = .returned (.slice A (l.length - 1) c) ∧
      Mine w' 3 (.slice A (l.length - 1) c) (ints (l.eraseIdx i)) ∧ Upd (fun b => blk (.slice A l.length c) = some b) w w' := by
  rcases hm with ⟨hv, hx⟩ | ⟨g, o, c', cur, hv, hh, h1, h2, h3, h4⟩
  · have : l = [] := by simpa [ints] using hx
    subst this
    simp at hi
  · injection hv with e1 e2 e3
    subst e1; subst e3
    rw [length_ints] at h2
    obtain ⟨i0, hi0, hz, hs, hb⟩ := info_three info3
    have hH : Sort.Holds (Value.int .i64) w g o l.toArray := fun j hj => by
      simp only [List.size_toArray] at hj
      refine ⟨?_, frozen_of_row w g _ cur _ hh⟩
      rw [cell_of_row w g _ cur _ (0, 0) hh]
      have := h4 j _ (ints_at l j hj)
      simpa using this
    have h := AnyE.slices_Delete lays101 (Value.int .i64) (fun _ => rfl) 0 Try.zeroValue3 i0 hi0 hs g o c i (i + 1) l.toArray w hH (by simpa using h2) (by simp only [maxLen] at h3; omega) (by omega) (by simp only [List.size_toArray]; omega)
    have e1 : i + 1 - i = 1 := by omega
    simp only [List.size_toArray, e1] at h
    have el : (l.take i ++ l.drop (i + 1)).length = l.length - 1 := by simp; omega
    refine h.mono ?_
    rintro e w' ⟨rfl, q, rfl⟩
    have hsz : (l.take i ++ l.drop (i + 1) ++ List.replicate 1 0).toArray.size = l.length := by simp; omega
    generalize hd : (l.take i ++ l.drop (i + 1) ++ List.replicate 1 0).toArray = d at hsz ⊢
    refine ⟨rfl, .inr ⟨g, o, c, Sort.putCells (Value.int .i64) o d cur, by rw [length_ints, List.length_eraseIdx, if_pos hi], ?_, ?_, ?_, h3, ?_⟩, ?_⟩
    · show (Sort.mapBlock _ _ _).heap[g]? = _
      simp only [Sort.mapBlock, Sort.heap_ahead, Array.getElem?_modify, if_true, hh, Option.map_some]
      rfl
    · simp [Sort.putCells]; omega
    · rw [length_ints, List.length_eraseIdx, if_pos hi]; omega
    · intro j u hu
      have hj := (List.getElem?_eq_some_iff.1 hu).1
      rw [length_ints, List.length_eraseIdx, if_pos hi] at hj
      rw [putCells_in _ _ _ _ _ (by omega) (by omega)]
      rw [← hu, ← hd, List.eraseIdx_eq_take_drop_succ]
      have : (ints (l.take i ++ l.drop (i + 1)))[j]? = some (Value.int .i64 (l.take i ++ l.drop (i + 1))[j]!) := ints_at _ _ (by rw [el]; omega)
      rw [this]
      rw [erase_at _ _ _ (by rw [el]; omega)]
    · refine ⟨rfl, rfl, rfl, by simp, fun b hb hf => ?_⟩
      show (Sort.mapBlock _ _ _).heap[b]? = _
      have : g ≠ b := fun e => hf (by rw [← e]; rfl)
      simp only [Sort.mapBlock, Sort.heap_ahead, Array.getElem?_modify, if_neg this]

theorem clone_ints (A : Option Addr) (l : List Int) (c : Nat) (w : World) (hlen : l.length ≤ 4294967296) (hm : Mine w 3 (.slice A l.length c) (ints l)) :
    Calls Try.prog 63 #[.slice A l.length c] w fun e w' => ∃ v, e = .returned v ∧ Own w' w.heap.size 3 v (ints l) ∧ Ext w w' := by
  obtain ⟨i0, hi0, hz, hs, hb⟩ := info_three info3
  rcases hm with ⟨hv, hx⟩ | ⟨g, o, c', cur, hv, hh, h1, h2, h3, h4⟩
  · injection hv with e1 e2 e3
    subst e1
    have : l = [] := by simpa [ints] using hx
    subst this
    refine (AnyE.slices_Clone_nil lays63 _ c w).mono ?_
    rintro e w' ⟨rfl, rfl⟩
    exact ⟨_, rfl, Own.nil _ _ _, Ext.refl _⟩
  · injection hv with e1 e2 e3
    subst e1
    refine (AnyE.slices_Clone lays63 i0 (.int .i64 0) 1 8 hi0 hz hs hb rfl (by decide) Try.sizeOf3 g o l.length c (ints l) w (by simp) (by simp only [maxLen]; omega) (by omega) (fun j u hu => ?_) (ints_one l)).mono ?_
    · rw [cell_of_row w g (o + j) cur _ (0, 0) hh]
      exact h4 j u hu
    · rintro e w' ⟨v, rfl, h1, _, h2⟩
      exact ⟨v, rfl, by unfold Own; rw [length_ints]; exact h1, h2⟩
theorem elem22 : Try.prog.elem 22 = 3 := by kernel_rfl
/-- 'l[1:]' of ints. -/
theorem tail_ints (A : Option Addr) (n c : Nat) (l : List Int) (w : World) (hl : l.length = n) (h1 : 1 ≤ n) (hm : Mine w 3 (.slice A n c) (ints l)) :
    ∃ A1, (∀ w, (Instr.slice 22 (.slice A n c) (some (.int .i64 1)) none none).run Try.prog w = .ok (.slice A1 (n - 1) (c - 1)) w) ∧
      (∀ w, (Instr.sliceAt 22 (.slice A n c) (some (.int .i64 1)) none none).run Try.prog w = .ok (.slice A1 (n - 1) (c - 1)) w) ∧
      Mine w 3 (.slice A1 (n - 1) (c - 1)) (ints (l.drop 1)) ∧ blk (.slice A1 (n - 1) (c - 1)) = blk (.slice A n c) := by
  have hs : ∀ w, (sizeOf (Try.prog.elem 22)).run Try.prog w = .ok 1 w := fun w => by rw [elem22]; exact Try.sizeOf3 w
  have hnc : n ≤ c := by
    obtain ⟨A', c', e, h, _⟩ := hm.form
    injection e with _ e2 e3
    rw [e2, e3]; exact h
  have h : ∀ w, (Instr.slice 22 (.slice A n c) (some (.int .i64 1)) none none).run Try.prog w = .ok (.slice (if c = 1 then A else A.map (·.add (1 * 1))) (n - 1) (c - 1)) w := by
    intro w
    rw [run_slice_l w 22 A n c (by rw [elem22]; exact Try.underlying22) .i64 1 (by omega) (by omega), hs]
    simp [Result.andThen, sliced]
  refine ⟨_, h, fun w => by rw [run_sliceAt_slice _ _ _ _ _ _ (by rw [elem22]; exact Try.underlying22)]; exact h w, ?_, ?_⟩
  · have := hm.drop (lo := 1) (by rw [length_ints]; omega)
    rw [show ints (l.drop 1) = (ints l).drop 1 by simp [ints]]
    exact this
  · split
    · cases A <;> rfl
    · cases A with
      | none => rfl
      | some a => simp only [Option.map_some, blk]; rw [show (a.add (1 * 1)).block = a.block by unfold Addr.add; split <;> rfl]
/-- append of one int. -/
theorem step_append_int {w : World} {ops : Array Oper} {o : Oper} {a : Act} {K : Act → World → Prop} {Q : Exit → Act → World → Prop} {E : Prop} (hgd : o.guard = none) (s x : Operand)
    (ho : o.op = .call { callee := .builtin .append, args := #[s, x], argTypes := #[22, 22] })
    (v : Value) (l : List Int) (hs : a.eval s = v) (hm : Mine w 3 v (ints l)) (A : Option Addr) (c : Nat) (y : Int) (hxv : a.eval x = .slice A 1 c) (hx : Cells w A [.int .i64 y])
    (hlen : l.length ≤ 4294967295)
    (h : ∀ v' w', Mine w' 3 v' (ints (l ++ [y])) → Upd (fun b => blk v = some b) w w' → (blk v' = blk v ∨ blk v' = some w.heap.size) → K (a.put o.dst v') w') :
    if Region.wanted o (yielded ops a.tmps) = true then Oper.wp Try.prog o a w K Q else E := by
  obtain ⟨i0, hi0, hz, hs0, hb0⟩ := info_three info3
  refine step_append_mine hgd s x _ ho 3 i0 (.int .i64 0) 8 Try.underlying22 hi0 hz hs0 hb0 rfl v (ints l) hs hm A 1 c [.int .i64 y] hxv rfl hx (by simp [Value.oneCell']) (by simp; omega) (by omega) ?_
  intro v' w' h1 h2 h3
  exact h v' w' (by rw [ints_append]; exact h1) h2 h3
theorem wpList_append_int {w : World} {ops : Array Oper} {rest : List Oper} {o : Oper} {a : Act} {Q : Exit → Act → World → Prop} (hgd : o.guard = none) (s x : Operand)
    (ho : o.op = .call { callee := .builtin .append, args := #[s, x], argTypes := #[22, 22] })
    (v : Value) (l : List Int) (hs : a.eval s = v) (hm : Mine w 3 v (ints l)) (A : Option Addr) (c : Nat) (y : Int) (hxv : a.eval x = .slice A 1 c) (hx : Cells w A [.int .i64 y])
    (hlen : l.length ≤ 4294967295)
    (h : ∀ v' w', Mine w' 3 v' (ints (l ++ [y])) → Upd (fun b => blk v = some b) w w' → (blk v' = blk v ∨ blk v' = some w.heap.size) → wpList Try.prog ops Q rest (a.put o.dst v') w') : wpList Try.prog ops Q (o :: rest) a w := by
  obtain ⟨i0, hi0, hz, hs0, hb0⟩ := info_three info3
  refine wpList_append_mine hgd s x _ ho 3 i0 (.int .i64 0) 8 Try.underlying22 hi0 hz hs0 hb0 rfl v (ints l) hs hm A 1 c [.int .i64 y] hxv rfl hx (by simp [Value.oneCell']) (by simp; omega) (by omega) ?_
  intro v' w' h1 h2 h3
  exact h v' w' (by rw [ints_append]; exact h1) h2 h3
end Go.Proofs.Ytghkkhafnkkomaa
