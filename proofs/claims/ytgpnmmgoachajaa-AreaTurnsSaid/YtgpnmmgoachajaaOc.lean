/- Octets in blocks that are written in place: append of octets and of a string, cuts, clone. -/
import Derived.Test.YtgpnmmgoachajaaMine
import Derived.Test.YtgpnmmgoachajaaShelf
import Derived.Test.YtgpnmmgoachajaaAppo
import Derived.Test.YtgpnmmgoachajaaStr
import Derived.Deep.AppendSrc
namespace Go.Proofs.Ytgpnmmgoachajaa
open Go.RowKit
open Go.Proofs
open Go.Shelf

section
variable {P : Program} {w : World}
/-- append of a string's octets. -/
theorem run_append_mine_str (t u ty e : TypeId) (i : TypeInfo) (z : Value) (ht : P.underlying t = some (.slice e)) (hu : P.underlying u = some .string) (hi : P.info? e = some i) (hz : i.zero = some z)
    (hsize : i.size = 1) (hby : i.bytes = 1) (hzs : z.cells.size = 1)
    (v : Value) (xs : List Value) (hm : Mine w e v xs) (s : List UInt8) (hlen : xs.length + s.length ≤ 4294967296) :
    ∃ v' w', (Builtin.append_ #[t, u] ty #[v, strOf s]).run P w = .ok v' w' ∧ Mine w' e v' (xs ++ octs s) ∧ Upd (fun b => blk v = some b) w w' ∧ (blk v' = blk v ∨ blk v' = some w.heap.size) := by
  have hS : Src P i.size u (strOf s) s.length (octs s) w := by
    have := Src.ofString (P := P) w (tx := u) hu ⟨s.toArray⟩
    rw [hsize]
    have e1 : byteCells ⟨s.toArray⟩ = octs s := by
      unfold byteCells octs oct
      simp
    have e2 : (⟨s.toArray⟩ : ByteArray).size = s.length := by
      show s.toArray.size = _
      simp
    rw [e1, e2] at this
    exact this
  have hlo : (octs s).length = s.length := length_octs s
  rcases hm with ⟨rfl, rfl⟩ | ⟨g, o, c', cur, rfl, hh, hs, hnc, hcm, hcur⟩
  · by_cases h0 : s.length = 0
    · have : s = [] := List.eq_nil_of_length_eq_zero h0
      subst this
      refine ⟨.slice none 0 0, w, ?_, Mine.nil _ _, Upd.refl _ _, .inl rfl⟩
      show (Builtin.append_ #[t, u] ty #[.slice none 0 0, .string ByteArray.empty]).run P w = _
      simp [Builtin.append_, run_underlying ht, run_underlying hu, sizeOf, typeInfo, hi, Builtin.lenOf, Builtin.firstCells]
    · have hr := run_append_grow_src (P := P) w t u ty e i z ht hi hz none 0 0 [] (run_firstCells_none w.drew i.size 0 0 0) (strOf s) s.length (octs s) hS (by omega) (by simp; omega)
        (growslice_fits (by omega) (by rw [hby]; simp at hlen; omega))
      simp only [Nat.zero_add, List.nil_append] at hr
      have hge := grownCap_ge w s.length 0 e
      have hle := grownCap_le_maxLen w s.length 0 e (by simp only [maxLen]; simp at hlen; omega)
      refine ⟨_, _, hr, Mine.new w.drew e _ _ _ _ (by simp) hge ?_ hle ?_, (Upd.refl _ w).drew.alloc _, .inr rfl⟩
      · simp only [Array.size_append, List.size_toArray, size_zeroCells, hzs, hlo]; omega
      · intro j u' hu'
        rw [List.nil_append] at hu'
        rw [Array.getElem?_append_left (by simpa using (List.getElem?_eq_some_iff.1 hu').1)]
        simpa using hu'
  · by_cases hroom : xs.length + s.length ≤ c'
    · have hr := run_append_room_src (P := P) w t u ty e i ht hi g o xs.length c' (strOf s) s.length (octs s) hS hroom
        (fun j hj => by rw [hsize, Nat.mul_one, cell_of_row w g _ cur e (0, 0) hh, Array.getElem?_eq_getElem (by omega)]; rfl)
        (fun j _ => frozen_of_row w g _ cur e hh)
      rw [hsize, Nat.mul_one] at hr
      refine ⟨_, _, hr, .inr ⟨g, o, c', putAt cur (o + xs.length) (octs s), by rw [List.length_append, hlo], heap_setCells g e (octs s) _ w cur hh, by rw [putAt_size]; exact hs, by rw [List.length_append, hlo]; exact hroom, hcm, fun j u hu => ?_⟩,
        upd_setCells (F := fun b => blk (Value.slice (some ⟨g, o, none⟩) xs.length c') = some b) g rfl (octs s) _ w, .inl rfl⟩
      by_cases hj : j < xs.length
      · rw [List.getElem?_append_left hj] at hu
        rw [putAt_lo _ _ _ _ (by omega)]
        exact hcur j u hu
      · rw [List.getElem?_append_right (by omega)] at hu
        have := putAt_in (octs s) cur (o + xs.length) (j - xs.length) u (by omega) hu
        rwa [show o + xs.length + (j - xs.length) = o + j by omega] at this
    · have hold : ∀ j u, xs[j]? = some u → w.cell? ((⟨g, o, none⟩ : Addr).add j) = some u := fun j u hu => by
        rw [Addr.add_lit, cell_of_row w g (o + j) cur e (0, 0) hh]
        exact hcur j u hu
      have hfo := run_firstCells_some (P := P) w.drew i.size xs.length ⟨g, o, none⟩ xs.length c' xs (by rw [hsize, Nat.mul_one]) (by simpa using hold)
      have hr := run_append_grow_src (P := P) w t u ty e i z ht hi hz (some ⟨g, o, none⟩) xs.length c' xs hfo (strOf s) s.length (octs s) hS (by omega) (by omega)
        (growslice_fits (by omega) (by rw [hby]; omega))
      have hge := grownCap_ge w (xs.length + s.length) c' e
      have hle := grownCap_le_maxLen w (xs.length + s.length) c' e (by simp only [maxLen]; omega)
      refine ⟨_, _, hr, Mine.new w.drew e _ _ _ _ (by rw [List.length_append, hlo]) hge ?_ hle ?_, (Upd.refl _ w).drew.alloc _, .inr rfl⟩
      · simp only [Array.size_append, List.size_toArray, size_zeroCells, hzs, hlo, List.length_append]; omega
      · intro j u' hu'
        rw [Array.getElem?_append_left (by simpa using (List.getElem?_eq_some_iff.1 hu').1)]
        simpa using hu'
end

section
variable {w : World} {ops : Array Oper} {rest : List Oper} {o : Oper} {a : Act} {Q : Exit → Act → World → Prop}
theorem wpList_append_str (hgd : o.guard = none) (s x : Operand)
    (ho : o.op = .call { callee := .builtin .append, args := #[s, x], argTypes := #[22, 9] })
    (v : Value) (l : List UInt8) (hs : a.eval s = v) (hm : Mine w 5 v (octs l)) (l2 : List UInt8) (hxv : a.eval x = strOf l2) (hlen : l.length + l2.length ≤ 4294967296)
    (h : ∀ v' w', Mine w' 5 v' (octs (l ++ l2)) → Upd (fun b => blk v = some b) w w' → (blk v' = blk v ∨ blk v' = some w.heap.size) → wpList Try.prog ops Q rest (a.put o.dst v') w') : wpList Try.prog ops Q (o :: rest) a w := by
  obtain ⟨i0, hi, hz, hs1, hb⟩ := info_parts info5
  obtain ⟨v', w', hr, h2, h3, h4⟩ := run_append_mine_str (P := Try.prog) 22 9 o.type 5 i0 (.int .u8 0) Try.underlying22 Try.underlying9 hi hz hs1 hb rfl v (octs l) hm l2 (by rw [length_octs]; exact hlen)
  rw [← octs_append] at h2
  exact wpList_append_run hgd s x _ _ ho v _ v' w' hs hxv hr (h v' w' h2 h3 h4)
theorem wpList_append_octs (hgd : o.guard = none) (s x : Operand)
    (ho : o.op = .call { callee := .builtin .append, args := #[s, x], argTypes := #[22, 22] })
    (v : Value) (l : List UInt8) (hs : a.eval s = v) (hm : Mine w 5 v (octs l)) (A : Option Addr) (m c : Nat) (l2 : List UInt8) (hxv : a.eval x = .slice A m c) (hm' : l2.length = m) (hx : Octs w A l2) (hlen : l.length + l2.length ≤ 4294967296)
    (h : ∀ v' w', Mine w' 5 v' (octs (l ++ l2)) → Upd (fun b => blk v = some b) w w' → (blk v' = blk v ∨ blk v' = some w.heap.size) → wpList Try.prog ops Q rest (a.put o.dst v') w') : wpList Try.prog ops Q (o :: rest) a w := by
  obtain ⟨i0, hi, hz, hs1, hb⟩ := info_parts info5
  refine wpList_append_mine hgd s x _ ho 5 i0 (.int .u8 0) 1 Try.underlying22 hi hz hs1 hb rfl v (octs l) hs hm A m c (octs l2) hxv (by rw [length_octs]; exact hm') hx (octs_one _) (by rw [length_octs, length_octs]; exact hlen) (by omega) ?_
  intro v' w' h1 h2 h3
  rw [← octs_append] at h1
  exact h v' w' h1 h2 h3
theorem step_append_octs {K : Act → World → Prop} {E : Prop} (hgd : o.guard = none) (s x : Operand)
    (ho : o.op = .call { callee := .builtin .append, args := #[s, x], argTypes := #[22, 22] })
    (v : Value) (l : List UInt8) (hs : a.eval s = v) (hm : Mine w 5 v (octs l)) (A : Option Addr) (m c : Nat) (l2 : List UInt8) (hxv : a.eval x = .slice A m c) (hm' : l2.length = m) (hx : Octs w A l2) (hlen : l.length + l2.length ≤ 4294967296)
    (h : ∀ v' w', Mine w' 5 v' (octs (l ++ l2)) → Upd (fun b => blk v = some b) w w' → (blk v' = blk v ∨ blk v' = some w.heap.size) → K (a.put o.dst v') w') :
    if Region.wanted o (yielded ops a.tmps) = true then Oper.wp Try.prog o a w K Q else E := by
  obtain ⟨i0, hi, hz, hs1, hb⟩ := info_parts info5
  refine step_append_mine hgd s x _ ho 5 i0 (.int .u8 0) 1 Try.underlying22 hi hz hs1 hb rfl v (octs l) hs hm A m c (octs l2) hxv (by rw [length_octs]; exact hm') hx (octs_one _) (by rw [length_octs, length_octs]; exact hlen) (by omega) ?_
  intro v' w' h1 h2 h3
  rw [← octs_append] at h1
  exact h v' w' h1 h2 h3
end

theorem Mine.octs_form {w : World} {v : Value} {l : List UInt8} (h : Mine w 5 v (octs l)) : ∃ A c, v = .slice A l.length c ∧ l.length ≤ c ∧ c ≤ maxLen ∧ Octs w A l := by
  obtain ⟨A, c, hv, hc, hm, hx, _, _⟩ := h.form
  rw [length_octs] at hv hc
  exact ⟨A, c, hv, hc, hm, hx⟩

/-- slices.Clone of octets. -/
theorem clone_octs (A : Option Addr) (l : List UInt8) (c : Nat) (w : World) (hlen : l.length ≤ 4294967296) (hn : A = none → l = []) (hs : ∀ a, A = some a → ∃ b o, a = ⟨b, o, none⟩) (hx : Octs w A l) :
    Calls Try.prog 84 #[.slice A l.length c] w fun e w' => ∃ v, e = .returned v ∧ Own w' w.heap.size 5 v (octs l) ∧ Ext w w' := by
  obtain ⟨i0, hi0, hz, hs0, hb⟩ := info_parts info5
  cases A with
  | none =>
    have := hn rfl
    subst this
    refine (AnyE.slices_Clone_nil lays84 _ c w).mono ?_
    rintro e w' ⟨rfl, rfl⟩
    exact ⟨_, rfl, Own.nil _ _ _, Ext.refl _⟩
  | some a =>
    obtain ⟨g, o, rfl⟩ := hs a rfl
    refine (AnyE.slices_Clone lays84 i0 (.int .u8 0) 1 1 hi0 hz hs0 hb rfl (by decide) Try.sizeOf5 g o l.length c (octs l) w (by simp) (by simp only [maxLen]; omega) (by omega) (fun j u hu => ?_) (octs_one l)).mono ?_
    · have h0 : 0 < (octs l).length := Nat.lt_of_le_of_lt (Nat.zero_le _) (List.getElem?_eq_some_iff.1 hu).1
      obtain ⟨b', o', e, hc⟩ := hx h0
      cases e
      exact hc j u hu
    · rintro e w' ⟨v, rfl, h1, _, h2⟩
      exact ⟨v, rfl, by unfold Own; rw [length_octs]; exact h1, h2⟩
theorem clone_mine (A : Option Addr) (l : List UInt8) (c : Nat) (w : World) (hlen : l.length ≤ 4294967296) (hm : Mine w 5 (.slice A l.length c) (octs l)) :
    Calls Try.prog 84 #[.slice A l.length c] w fun e w' => ∃ v, e = .returned v ∧ Own w' w.heap.size 5 v (octs l) ∧ Ext w w' := by
  obtain ⟨A', c', e, _, _, hx, _, hn⟩ := hm.form
  injection e with e1 _ _
  subst e1
  refine clone_octs A l c w hlen (fun h => by have := hn h; simpa [octs] using this) (fun a ha => ?_) hx
  rcases hm with ⟨hv, _⟩ | ⟨g, o, c', cur, hv, _⟩
  · injection hv with e1 _ _; rw [ha] at e1; cases e1
  · injection hv with e1 _ _; rw [ha] at e1; cases e1; exact ⟨g, o, rfl⟩
end Go.Proofs.Ytgpnmmgoachajaa
