/- append and copies at slices of octets, as the laws' walks use them. -/
import Derived.Test.YtgpnmmgoachajaaCuts
namespace Go.Proofs.Ytgpnmmgoachajaa
open Go.RowKit
open Go.Proofs

theorem and_then {a b : Prop} (h : a) (k : a → b) : a ∧ b := ⟨h, k h⟩

theorem own_empty (w : World) : Own (w.alloc (.cells #[] 5)) w.heap.size 5 (.slice (some ⟨w.heap.size, 0, none⟩) 0 0) (octs []) :=
  ⟨rfl, .inr ⟨_, 0, #[], rfl, Nat.le_refl _, heap_alloc_new w _, Nat.le_refl _, Nat.zero_le _, rfl, rfl⟩⟩

section
variable {w : World} {ops : Array Oper} {rest : List Oper} {o : Oper} {a : Act} {Q : Exit → Act → World → Prop}
theorem wpList_appo (hgd : o.guard = none) (s x : Operand)
    (ho : o.op = .call { callee := .builtin .append, args := #[s, x], argTypes := #[22, 22] })
    (base : Nat) (v : Value) (l : List UInt8) (hs : a.eval s = v) (hown : Own w base 5 v (octs l)) (A : Option Addr) (m c : Nat) (l2 : List UInt8) (hxv : a.eval x = .slice A m c) (hm : l2.length = m) (hx : Octs w A l2)
    (hlen : l.length + l2.length ≤ 4294967296) (hbase : base ≤ w.heap.size)
    (h : ∀ v' w', Own w' base 5 v' (octs (l ++ l2)) → w.grownBy w' v.ownBlock → (v'.ownBlock = v.ownBlock ∨ v'.ownBlock = some w.heap.size) → wpList Try.prog ops Q rest (a.put o.dst v') w') : wpList Try.prog ops Q (o :: rest) a w := by
  obtain ⟨i0, hi, hz, hs1, hb⟩ := info_parts info5
  refine wpList_app hgd s x _ ho base 5 i0 (.int .u8 0) 1 Try.underlying22 hi hz hs1 hb rfl v (octs l) hs hown A m c (octs l2) hxv (by rw [length_octs]; exact hm) hx (octs_one _) (by rw [length_octs, length_octs]; exact hlen) (by omega) hbase ?_
  intro v' w' h1 h2 h3
  rw [← octs_append] at h1
  exact h v' w' h1 h2 h3
/-- 'append([]byte{}, b...)': the append behind the empty literal. -/
theorem wpList_copyo {w0 : World} (hgd : o.guard = none) (s x : Operand)
    (ho : o.op = .call { callee := .builtin .append, args := #[s, x], argTypes := #[22, 22] }) (hw : w = w0.alloc (.cells #[] 5))
    (hs : a.eval s = .slice (some ⟨w0.heap.size, 0, none⟩) 0 0) (A : Option Addr) (m c : Nat) (l2 : List UInt8) (hxv : a.eval x = .slice A m c) (hm : l2.length = m) (hx : Octs w0 A l2)
    (hlen : l2.length ≤ 4294967296)
    (h : ∀ v' w', Own w' w0.heap.size 5 v' (octs l2) → Ext w0 w' → wpList Try.prog ops Q rest (a.put o.dst v') w') : wpList Try.prog ops Q (o :: rest) a w := by
  subst hw
  refine wpList_appo hgd s x ho w0.heap.size _ [] hs (own_empty w0) A m c l2 hxv hm (hx.alloc _) (by simpa using hlen) (by simp) ?_
  intro v' w' h1 h2 _
  exact h v' w' (by simpa using h1) (((Ext.refl w0).alloc _).grown h2 (fun b hb => by simp [Value.ownBlock] at hb; omega))
end

theorem Own.octs_form {w : World} {base : Nat} {v : Value} {l : List UInt8} (h : Own w base 5 v (octs l)) :
    ∃ A c, v = .slice A l.length c ∧ l.length ≤ c ∧ Octs w A l := by
  obtain ⟨A, c, hv, hc, _, hx, _⟩ := h.form
  rw [length_octs] at hv hc
  exact ⟨A, c, hv, hc, hx⟩
theorem Own.head {w : World} {base : Nat} {v : Value} {l : List UInt8} (h : Own w base 5 v (octs l)) (h0 : 0 < l.length) :
    ∃ g c, v = .slice (some ⟨g, 0, none⟩) l.length c ∧ l.length ≤ c ∧ base ≤ g ∧ g < w.heap.size ∧ (∀ j, j < l.length → w.cell? ⟨g, j, none⟩ = some (.int .u8 (((l.getD j 0).toNat : Nat) : Int))) ∧ ∀ j, w.frozen? ⟨g, j, none⟩ = false := by
  obtain ⟨hl, h1 | ⟨g, cap, cur, hv, hg, hh, hn, hm, hs, ht⟩⟩ := h
  · obtain ⟨_, h2⟩ := h1
    rw [length_octs] at h2; omega
  · rw [length_octs] at hv hn ht
    refine ⟨g, cap, hv, hn, hg, (by rcases Nat.lt_or_ge g w.heap.size with x | x; exact x; rw [Array.getElem?_eq_none x] at hh; cases hh), fun j hj => ?_, fun j => frozen_of_row w _ _ _ _ hh⟩
    rw [cell_of_row w g j cur _ _ hh]
    have : (octs l)[j]? = (cur.toList.take (l.length * 1))[j]? := by rw [ht]
    rw [List.getElem?_take, if_pos (by omega), octs_get l j hj] at this
    have h3 : l.getD j 0 = l[j] := by simp [List.getD_eq_getElem?_getD, List.getElem?_eq_getElem hj]
    rw [h3, this]
    simp
theorem Own.set {w : World} {base g c : Nat} {l : List UInt8} {n : Nat} (h : Own w base 5 (.slice (some ⟨g, 0, none⟩) n c) (octs l)) (j : Nat) (x : UInt8) :
    Own (w.setCell ⟨g, j, none⟩ (.int .u8 ((x.toNat : Nat) : Int))) base 5 (.slice (some ⟨g, 0, none⟩) n c) (octs (l.set j x)) := by
  obtain ⟨hl, h1 | ⟨g', cap, cur, hv, hg, hh, hn, hm, hs, ht⟩⟩ := h
  · obtain ⟨h2, _⟩ := h1
    cases h2
  · injection hv with e1 e2 e3
    injection e1 with e1
    injection e1 with e1
    subst e1
    rw [length_octs] at hn ht e2 hl
    refine ⟨by simp, .inr ⟨g, cap, _, by rw [length_octs, List.length_set, e2, e3], hg, heap_setCell_same w g j cur _ _ hh, by simpa using hn, hm, by simpa using hs, ?_⟩⟩
    rw [length_octs, List.length_set, Array.toList_setIfInBounds, List.take_set, ht]
    simp [octs, List.map_set, oct]

theorem Own.at_ {w : World} {base g m c : Nat} {l : List UInt8} (h : Own w base 5 (.slice (some ⟨g, 0, none⟩) m c) (octs l)) :
    m = l.length ∧ m ≤ c ∧ (∀ j, j < l.length → w.cell? ⟨g, j, none⟩ = some (.int .u8 (((l.getD j 0).toNat : Nat) : Int))) ∧ (∀ j, w.frozen? ⟨g, j, none⟩ = false) ∧ base ≤ g ∧ Octs w (some ⟨g, 0, none⟩) l := by
  obtain ⟨A, c', e, hc, hx⟩ := h.octs_form
  injection e with e1 e2 e3
  subst e1
  subst e2
  subst e3
  rcases Nat.eq_zero_or_pos l.length with h0 | h0
  · obtain ⟨hl, h1 | ⟨g', cap, cur, hv, hg, hh, hn, hm, hs, ht⟩⟩ := h
    · obtain ⟨h2, _⟩ := h1
      cases h2
    · injection hv with e1 _ _
      injection e1 with e1
      injection e1 with e1
      subst e1
      exact ⟨rfl, hc, fun j hj => by omega, fun j => frozen_of_row w _ _ _ _ hh, hg, hx⟩
  · obtain ⟨g', c', e, _, hg, _, h1, h2⟩ := h.head h0
    injection e with e1 e2 e3
    injection e1 with e1
    injection e1 with e1
    subst e1
    exact ⟨rfl, hc, h1, h2, hg, hx⟩

/-- The cells that 'make([]byte, n)' lays. -/
def zeros (n : Nat) : Array Value := madeCells #[.int .u8 0] n
theorem zeros_list (n : Nat) : (zeros n).toList = octs (List.replicate n 0) := by
  unfold zeros
  rw [toList_madeCells_one]
  simp [octs, oct]
theorem make_octs (n : Nat) (hn : n ≤ 4294967296) (w : World) :
    (Instr.makeSlice 22 (.int .i64 (n : Int)) (.int .i64 (n : Int))).run Try.prog w = .ok (.slice (some ⟨w.heap.size, 0, none⟩) n n) (w.alloc (.cells (zeros n) 5)) := by
  obtain ⟨i0, hi, hz, hs1, hb⟩ := info_parts info5
  have h := run_make (P := Try.prog) w 22 5 i0 _ Try.underlying22 hi hz .i64 .i64 n n (by omega) (by omega) (by rw [hb]; omega) (by omega)
  rw [h, hs1]
  simp [zeros, Value.cells]
theorem own_zeros (n : Nat) (hn : n ≤ 4294967296) (w : World) : Own (w.alloc (.cells (zeros n) 5)) w.heap.size 5 (.slice (some ⟨w.heap.size, 0, none⟩) n n) (octs (List.replicate n 0)) := by
  have e : (octs (List.replicate n 0)).length = n := by simp
  refine ⟨by simp, .inr ⟨_, n, zeros n, by rw [e], Nat.le_refl _, heap_alloc_new w _, by rw [e]; exact Nat.le_refl _, by simp only [maxLen]; omega, ?_, ?_⟩⟩
  · have := congrArg List.length (zeros_list n)
    simpa using this
  · rw [zeros_list, e, Nat.mul_one, List.take_of_length_le (by rw [e]; exact Nat.le_refl _)]

/-- '((x % n) + n) % n'. -/
theorem round_mod (x : Int) (N : Nat) (h : 0 < N) : ∃ (t : Int) (k : Nat), x.tmod (N : Int) = t ∧ -(N : Int) < t ∧ t < (N : Int) ∧ (t + (N : Int)) % (N : Int) = (k : Int) ∧ (t + (N : Int)).tmod (N : Int) = (k : Int) ∧ k < N := by
  have h1 : x.tmod (N : Int) < (N : Int) := Int.tmod_lt_of_pos x (by omega)
  have h2 : -(N : Int) < x.tmod (N : Int) := by
    have := Int.tmod_lt_of_pos (-x) (b := (N : Int)) (by omega)
    rw [Int.neg_tmod] at this
    omega
  have h3 : 0 ≤ x.tmod (N : Int) + (N : Int) := by omega
  have h4 := Int.emod_nonneg (x.tmod (N : Int) + (N : Int)) (b := (N : Int)) (by omega)
  have h5 := Int.emod_lt_of_pos (x.tmod (N : Int) + (N : Int)) (b := (N : Int)) (by omega)
  refine ⟨_, ((x.tmod (N : Int) + (N : Int)) % (N : Int)).toNat, rfl, h2, h1, by omega, ?_, by omega⟩
  rw [Int.tmod_eq_emod_of_nonneg h3]; omega
end Go.Proofs.Ytgpnmmgoachajaa
