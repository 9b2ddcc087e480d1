/- Layer 4's example; and that a zigzag that is written longer is none. -/
import Derived.Test.YtghkkhafnkkomaaPuts
import Derived.Test.YtghkkhafnkkomaaRz3
import Derived.Test.YtghkkhafnkkomaaZr
namespace Go.Proofs.Ytghkkhafnkkomaa
open Go.RowKit
open Go.Proofs

theorem marked_all : ∀ (l : List UInt8) (r : List UInt8), (∀ c ∈ l, 128 ≤ c.toNat) → firstLow (l ++ 0 :: r) = some l.length
  | [], r, _ => rfl
  | c :: l, r, h => by
    have ih := marked_all l r (fun d hd => h d (List.mem_cons_of_mem _ hd))
    have hc := h c (List.mem_cons_self ..)
    unfold firstLow at ih ⊢
    rw [List.cons_append, List.findIdx?_cons, decide_eq_false (by omega), ih]
    simp
theorem long_none (l : List UInt8) (h : ∀ c ∈ l, 128 ≤ c.toNat) (hl : 1 ≤ l.length) : rZig (l ++ [0]) = none := by
  have ht : (l ++ [0]).take (l.length + 1) = l ++ [0] := List.take_of_length_le (by simp)
  rw [rZig, marked_all l [] h]
  simp only [ht]
  split
  · rfl
  · split
    · rename_i e
      exfalso
      have := zb_last (zv (l ++ [0]) % 18446744073709551616)
      rw [e] at this
      exact this (by simp; omega) (by simp)
    · rfl
/-- All groups but the last have a mark; with the last one's all have. -/
theorem mark_last : ∀ (l : List UInt8) (x : UInt8), Marked l → 128 ≤ x.toNat → ∀ c ∈ l.set (l.length - 1) x, 128 ≤ c.toNat
  | [], x, h, _, c, hc => h.elim
  | [a], x, _, hx, c, hc => by
    simp at hc
    subst hc; exact hx
  | a :: b :: l, x, h, hx, c, hc => by
    have e : (a :: b :: l).set ((a :: b :: l).length - 1) x = a :: (b :: l).set ((b :: l).length - 1) x := rfl
    rw [e, List.mem_cons] at hc
    rcases hc with rfl | hc
    · exact h.1
    · exact mark_last (b :: l) x h.2 hx c hc
theorem flds_one (n : Int) : flds [(1, n, 0, [])] = zb (zz n) := by simp [flds, fld]
theorem flds_awake : flds [(0, 258, 2, []), (2, 0, 0, [97, 98]), (1, -3, 0, [])] = [2, 1, 2, 0, 97, 98, 5] := by
  have e1 : fld (0, 258, 2, []) = [2, 1] := by decide
  have e2 : fld (2, 0, 0, [97, 98]) = [2, 0, 97, 98] := by decide
  have e3 : fld (1, -3, 0, []) = [5] := by
    rw [fld, if_neg (by decide), if_pos rfl, show zz (-3) = 5 by decide, zb_lo (by decide)]
    rfl
  simp only [flds, List.map_cons, List.map_nil, e1, e2, e3]
  rfl
theorem flds_at_one (w : World) (n : Int) (h1 : -9223372036854775808 ≤ n) (h2 : n ≤ 9223372036854775807) :
    FldsAt (w.alloc (.cells #[.int .i64 1, .int .i64 n, .int .i64 0, strOf []] 35)) (some ⟨w.heap.size, 0, none⟩) [(1, n, 0, [])] := fun _ => by
  have hh := heap_alloc_new w (.cells #[.int .i64 1, .int .i64 n, .int .i64 0, strOf []] 35)
  refine ⟨_, _, rfl, fun i q hq => ?_⟩
  match i, hq with
  | 0, hq =>
    cases hq
    exact ⟨by rw [cell_of_row _ _ _ _ _ _ hh]; rfl, by rw [cell_of_row _ _ _ _ _ _ hh]; rfl, by rw [cell_of_row _ _ _ _ _ _ hh]; rfl, by rw [cell_of_row _ _ _ _ _ _ hh]; rfl, h1, h2⟩
  | i + 1, hq => simp at hq
theorem flds_at_awake (w : World) :
    FldsAt (w.alloc (.cells #[.int .i64 0, .int .i64 258, .int .i64 2, strOf [], .int .i64 2, .int .i64 0, .int .i64 0, strOf [97, 98], .int .i64 1, .int .i64 (-3), .int .i64 0, strOf []] 35)) (some ⟨w.heap.size, 0, none⟩)
      [(0, 258, 2, []), (2, 0, 0, [97, 98]), (1, -3, 0, [])] := fun _ => by
  have hh := heap_alloc_new w (.cells #[.int .i64 0, .int .i64 258, .int .i64 2, strOf [], .int .i64 2, .int .i64 0, .int .i64 0, strOf [97, 98], .int .i64 1, .int .i64 (-3), .int .i64 0, strOf []] 35)
  refine ⟨_, _, rfl, fun i q hq => ?_⟩
  match i, hq with
  | 0, hq =>
    cases hq
    exact ⟨by rw [cell_of_row _ _ _ _ _ _ hh]; rfl, by rw [cell_of_row _ _ _ _ _ _ hh]; rfl, by rw [cell_of_row _ _ _ _ _ _ hh]; rfl, by rw [cell_of_row _ _ _ _ _ _ hh]; rfl, by decide, by decide⟩
  | 1, hq =>
    cases hq
    exact ⟨by rw [cell_of_row _ _ _ _ _ _ hh]; rfl, by rw [cell_of_row _ _ _ _ _ _ hh]; rfl, by rw [cell_of_row _ _ _ _ _ _ hh]; rfl, by rw [cell_of_row _ _ _ _ _ _ hh]; rfl, by decide, by decide⟩
  | 2, hq =>
    cases hq
    exact ⟨by rw [cell_of_row _ _ _ _ _ _ hh]; rfl, by rw [cell_of_row _ _ _ _ _ _ hh]; rfl, by rw [cell_of_row _ _ _ _ _ _ hh]; rfl, by rw [cell_of_row _ _ _ _ _ _ hh]; rfl, by decide, by decide⟩
  | i + 3, hq => simp at hq

set_option maxRecDepth 100000 in
theorem f22_any (w : World) : Calls Try.prog 22 #[] w fun e w' => e = .returned (.bool true) ∧ Ext w w' := by
  go_enter Try.func22, Try.ntmps22
  go_wp2_with fail
  refine (f64_any w).mono ?_
  rintro e w1 ⟨rfl, _, x1, _⟩
  go_wp2_with fail
  refine (f25_any none [] 0 0 w1 rfl (by decide) (fun _ => rfl) (fun a e => by cases e) (Cells.nil _ _)).mono ?_
  rintro e w2 ⟨k2, rfl, _, x2⟩
  go_wp2_with fail
  refine (f23_any (some ⟨w2.heap.size, 0, none⟩) [(0, 258, 2, []), (2, 0, 0, [97, 98]), (1, -3, 0, [])] 3 3 _ rfl (by decide) (fun i q hq => by
    have := List.mem_of_getElem? hq
    simp only [List.mem_cons, List.not_mem_nil, or_false] at this
    rcases this with rfl | rfl | rfl <;> decide) (flds_at_awake w2)).mono ?_
  rintro e w3 ⟨v3, rfl, o3, x3⟩
  rw [flds_awake] at o3
  obtain ⟨A3, c3, rfl, _, hx3⟩ := o3.octs_form
  have k1 := conv_str A3 [2, 1, 2, 0, 97, 98, 5] 7 c3 w3 rfl hx3
  have hext : Ext w w3 := (x1.trans x2).trans (((Ext.refl w2).alloc _).trans x3)
  clear o3 hx3 x3 x1 x2
  go_wp2_with fail
  go_ret
  exact ⟨rfl, hext⟩

/-- The law's first part: what is written of one number. -/
theorem puts_one (n : Int) (w : World) (h1 : -9223372036854775808 ≤ n) (h2 : n ≤ 9223372036854775807) :
    Calls Try.prog 23 #[.slice (some ⟨w.heap.size, 0, none⟩) 1 1] (w.alloc (.cells #[.int .i64 1, .int .i64 n, .int .i64 0, strOf []] 35)) fun e w' => ∃ v, e = .returned v ∧ Own w' w.heap.size 5 v (octs (zb (zz n))) ∧ Ext w w' := by
  refine (f23_any (some ⟨w.heap.size, 0, none⟩) [(1, n, 0, [])] 1 1 _ rfl (by decide) (fun i q hq => by
    have := List.mem_of_getElem? hq
    simp only [List.mem_cons, List.not_mem_nil, or_false] at this
    subst this
    exact Nat.zero_le _) (flds_at_one w n h1 h2)).mono ?_
  rintro e w' ⟨v, rfl, o, x⟩
  rw [flds_one] at o
  exact ⟨v, rfl, o.mono (by simp), ((Ext.refl w).alloc _).trans x⟩
end Go.Proofs.Ytghkkhafnkkomaa
