/- 'append(b, make([]byte, k)..)' onto a slice that lies anywhere in a block. -/
import Derived.Test.YtanmjmeabcloiaaOc
import Derived.Lib.AppendZerosOnto
namespace Go.Proofs.Ytanmjmeabcloiaa
open Go.RowKit
open Go.Proofs

theorem zeroCells_one (z : Value) (k : Nat) : Builtin.zeroCells #[z] k = (List.replicate k z).toArray := by
  apply Array.ext
  · simp [Builtin.zeroCells]
  · intro i h1 h2
    have : i % 1 = 0 := Nat.mod_one i
    simp [Builtin.zeroCells, this]
theorem octs_zeros (k : Nat) : octs (List.replicate k 0) = List.replicate k (.int .u8 0) := by
  simp only [octs, List.map_replicate]
  rfl

section
variable {P : Program} {w : World}
theorem run_append_mine_zeros (t u ty e : TypeId) (i : TypeInfo) (z z0 : Value) (ht : P.underlying t = some (.slice e)) (hu : P.underlying u = some (.int .i64)) (hi : P.info? e = some i) (hz : i.zero = some z)
    (hsize : i.size = 1) (hby : i.bytes = 1) (hzs : z.cells = #[z0]) (hz1 : z0.oneCell' = true)
    (v : Value) (xs : List Value) (hm : Mine w e v xs) (k : Nat) (hlen : xs.length + k ≤ 4294967296) :
    ∃ v' w', (Builtin.append_ #[t, u] ty #[v, .int .i64 k]).run P w = .ok v' w' ∧ Mine w' e v' (xs ++ List.replicate k z0) ∧ Upd (fun b => blk v = some b) w w' ∧ (blk v' = blk v ∨ blk v' = some w.heap.size) := by
  rcases Nat.eq_zero_or_pos k with rfl | h0
  · refine ⟨v, w, ?_, by simpa using hm, Upd.refl _ _, .inl rfl⟩
    obtain ⟨A, c, rfl, hc, _⟩ := hm.form
    have hw : IntKind.i64.wrap 0 = 0 := by decide
    cases A with
    | none => simp [Builtin.append_, run_underlying ht, run_underlying hu, sizeOf, typeInfo, zeroValue, hi, asInt, asIntOf, hw, hc]
    | some a => simp [Builtin.append_, run_underlying ht, run_underlying hu, sizeOf, typeInfo, zeroValue, hi, asInt, asIntOf, hw, hc, storeCells]
  rcases hm with ⟨rfl, rfl⟩ | ⟨g, o, c', cur, rfl, hh, hs, hnc, hcm, hcur⟩
  · have hr := Lib.run_append_grow_zeros (P := P) w t u ty e i z .i64 .i64 ht hu hi hz none 0 0 [] (run_firstCells_none w.drew i.size 0 0 0) k h0 (by omega) (by omega) (by omega) (by rw [hby]; omega)
        (growslice_fits (by omega) (by rw [hby]; omega))
    simp only [Nat.zero_add] at hr
    have hge := grownCap_ge w k 0 e
    have hle := grownCap_le_maxLen w k 0 e (by simp only [maxLen]; omega)
    refine ⟨_, _, hr, Mine.new w.drew e _ _ _ _ (by simp) hge ?_ hle ?_, (Upd.refl _ w).drew.alloc _, .inr rfl⟩
    · simp only [Array.size_append, List.size_toArray, size_zeroCells, hzs, List.length_nil]
      simp; omega
    · intro j u' hu'
      rw [List.nil_append] at hu'
      have hj := (List.getElem?_eq_some_iff.1 hu').1
      rw [hzs, zeroCells_one, Array.getElem?_append_left (by simpa using hj), List.append_toArray, List.nil_append, List.getElem?_toArray]
      exact hu'
  · by_cases hroom : xs.length + k ≤ c'
    · have hst := run_storeCells_cells (P := P) g (o + xs.length) (List.replicate k z0) 0 w
        (fun j hj => by
          simp only [List.length_replicate] at hj
          rw [Nat.add_zero, cell_of_row w g _ cur e (0, 0) hh, Array.getElem?_eq_getElem (by omega)]; rfl)
        (fun j _ => frozen_of_row w g _ cur e hh) (fun u hu => by rw [List.eq_of_mem_replicate hu]; exact hz1)
      simp only [Nat.add_zero] at hst
      have hk : k ≠ 0 := by omega
      have hw : IntKind.i64.wrap (k : Int) = k := by rw [IntKind.wrap_i64]; omega
      have h48i : ¬ (281474976710656 < (k : Int) * (i.bytes : Int)) := by rw [hby]; omega
      have hneg : ¬ ((k : Int) < 0) := by omega
      have hr : (Builtin.append_ #[t, u] ty #[.slice (some ⟨g, o, none⟩) xs.length c', .int .i64 k]).run P w = .ok (.slice (some ⟨g, o, none⟩) (xs.length + k) c') (w.setCells g (o + xs.length) (List.replicate k z0)) := by
        have hzc : (Builtin.zeroCells z.cells k).toList = List.replicate k z0 := by rw [hzs, zeroCells_one]
        simp [Builtin.append_, run_underlying ht, run_underlying hu, sizeOf, typeInfo, zeroValue, hi, hz, asInt, asIntOf, hw, hneg, hk, h48i, hroom, hzc, Addr.add_lit, hsize, hst]
      refine ⟨_, _, hr, .inr ⟨g, o, c', putAt cur (o + xs.length) (List.replicate k z0), by simp, heap_setCells g e (List.replicate k z0) _ w cur hh, by rw [putAt_size]; exact hs, by simpa using hroom, hcm, fun j u hu => ?_⟩,
        upd_setCells (F := fun b => blk (Value.slice (some ⟨g, o, none⟩) xs.length c') = some b) g rfl (List.replicate k z0) _ w, .inl rfl⟩
      by_cases hj : j < xs.length
      · rw [List.getElem?_append_left hj] at hu
        rw [putAt_lo _ _ _ _ (by omega)]
        exact hcur j u hu
      · rw [List.getElem?_append_right (by omega)] at hu
        have := putAt_in (List.replicate k z0) cur (o + xs.length) (j - xs.length) u (by simp; omega) hu
        rwa [show o + xs.length + (j - xs.length) = o + j by omega] at this
    · have hold : ∀ j u, xs[j]? = some u → w.cell? ((⟨g, o, none⟩ : Addr).add j) = some u := fun j u hu => by
        rw [Addr.add_lit, cell_of_row w g (o + j) cur e (0, 0) hh]
        exact hcur j u hu
      have hfo := run_firstCells_some (P := P) w.drew i.size xs.length ⟨g, o, none⟩ xs.length c' xs (by rw [hsize, Nat.mul_one]) (by simpa using hold)
      have hr := Lib.run_append_grow_zeros (P := P) w t u ty e i z .i64 .i64 ht hu hi hz (some ⟨g, o, none⟩) xs.length c' xs hfo k h0 (by omega) (by omega) (by omega) (by rw [hby]; omega)
        (growslice_fits (by omega) (by rw [hby]; omega))
      have hge := grownCap_ge w (xs.length + k) c' e
      have hle := grownCap_le_maxLen w (xs.length + k) c' e (by simp only [maxLen]; omega)
      refine ⟨_, _, hr, Mine.new w.drew e _ _ _ _ (by simp) hge ?_ hle ?_, (Upd.refl _ w).drew.alloc _, .inr rfl⟩
      · simp only [Array.size_append, List.size_toArray, size_zeroCells, hzs]
        simp; omega
      · intro j u' hu'
        have hj := (List.getElem?_eq_some_iff.1 hu').1
        rw [hzs, zeroCells_one, Array.getElem?_append_left (by simpa using hj), List.append_toArray, List.getElem?_toArray]
        exact hu'
end

section
variable {w : World} {ops : Array Oper} {rest : List Oper} {o : Oper} {a : Act} {Q : Exit → Act → World → Prop}
theorem wpList_append_zeros (hgd : o.guard = none) (s x : Operand)
    (ho : o.op = .call { callee := .builtin .append, args := #[s, x], argTypes := #[22, 3] })
    (v : Value) (l : List UInt8) (hs : a.eval s = v) (hm : Mine w 5 v (octs l)) (k : Nat) (hxv : a.eval x = .int .i64 k) (hlen : l.length + k ≤ 4294967296)
    (h : ∀ v' w', Mine w' 5 v' (octs (l ++ List.replicate k 0)) → Upd (fun b => blk v = some b) w w' → (blk v' = blk v ∨ blk v' = some w.heap.size) → wpList Try.prog ops Q rest (a.put o.dst v') w') : wpList Try.prog ops Q (o :: rest) a w := by
  obtain ⟨i0, hi, hz, hs1, hb⟩ := info_parts info5
  obtain ⟨v', w', hr, h2, h3, h4⟩ := run_append_mine_zeros (P := Try.prog) 22 3 o.type 5 i0 (.int .u8 0) (.int .u8 0) Try.underlying22 Try.underlying3 hi hz hs1 hb rfl rfl v (octs l) hm k (by rw [length_octs]; exact hlen)
  rw [← octs_zeros, ← octs_append] at h2
  exact wpList_append_run hgd s x _ _ ho v _ v' w' hs hxv hr (h v' w' h2 h3 h4)
end
end Go.Proofs.Ytanmjmeabcloiaa
