/- Payloads in memory: a slice of slices of octets that grows; strings beside it. -/
import Derived.Test.YtgpnmmgoachajaaJh
namespace Go.Proofs.Ytgpnmmgoachajaa
open Go.RowKit Go.Shelf
open Go.Proofs

theorem info22 : (Try.prog.info? 22).map (fun i => (i.zero, i.size, i.bytes)) = some (some (.slice none 0 0), 1, 24) := by kernel_rfl
theorem info9 : (Try.prog.info? 9).map (fun i => (i.zero, i.size, i.bytes)) = some (some (strOf []), 1, 16) := by kernel_rfl
/-- Payloads, each in a row of its own, the slices of them in a row too. -/
def Pays (W : World) (base : Nat) (v : Value) (Ps : List (List UInt8)) : Prop :=
  ∃ vs : List Value, vs.length = Ps.length ∧ Own W base 22 v vs ∧ ∀ i (h : i < Ps.length), ∃ u, vs[i]? = some u ∧ Own W base 5 u (octs Ps[i])
theorem own_ne {W : World} {b1 b2 : Nat} {t1 t2 : TypeId} {v1 v2 : Value} {xs ys : List Value} (ht : t1 ≠ t2) (h1 : Own W b1 t1 v1 xs) (h2 : Own W b2 t2 v2 ys) : v1.ownBlock = none ∨ v1.ownBlock ≠ v2.ownBlock := by
  rcases h1.2 with ⟨rfl, _⟩ | ⟨g, cap, cur, rfl, _, hh, _⟩
  · exact .inl rfl
  · right
    intro e
    rcases h2.2 with ⟨rfl, _⟩ | ⟨g2, cap2, cur2, rfl, _, hh2, _⟩
    · cases e
    · have e : some g = some g2 := e
      injection e with e
      subst e
      rw [hh] at hh2
      injection hh2 with hh2
      injection hh2 with _ h3
      exact ht h3
section
variable {W W' : World} {base : Nat} {v : Value} {Ps : List (List UInt8)}
theorem Pays.nil (W : World) (base : Nat) : Pays W base (.slice none 0 0) [] := ⟨[], rfl, Own.nil _ _ _, fun i h => by cases h⟩
theorem Pays.ext (h : Pays W base v Ps) (x : Ext W W') : Pays W' base v Ps := by
  obtain ⟨vs, h1, h2, h3⟩ := h
  exact ⟨vs, h1, h2.ext x, fun i hi => by
    obtain ⟨u, h4, h5⟩ := h3 i hi
    exact ⟨u, h4, h5.ext x⟩⟩
theorem own_upd {F : Nat → Prop} {e : TypeId} {xs : List Value} (h : Own W base e v xs) (u : Upd F W W') (hF : ∀ b, F b → b < base) : Own W' base e v xs :=
  h.keep fun b hb => u.block b (h.block b hb).2 (fun x => by have := (h.block b hb).1; have := hF b x; omega)
theorem Pays.upd {F : Nat → Prop} (h : Pays W base v Ps) (u : Upd F W W') (hF : ∀ b, F b → b < base) : Pays W' base v Ps := by
  obtain ⟨vs, h1, h2, h3⟩ := h
  exact ⟨vs, h1, own_upd h2 u hF, fun i hi => by
    obtain ⟨u', h4, h5⟩ := h3 i hi
    exact ⟨u', h4, own_upd h5 u hF⟩⟩
theorem Pays.form (h : Pays W base v Ps) : ∃ A c, v = .slice A Ps.length c ∧ Ps.length ≤ c ∧ ∀ i (hi : i < Ps.length), ∃ b o B d, A = some ⟨b, o, none⟩ ∧ W.cell? ⟨b, o + i, none⟩ = some (.slice B Ps[i].length d) ∧ Ps[i].length ≤ d ∧ Octs W B Ps[i] := by
  obtain ⟨vs, h1, h2, h3⟩ := h
  obtain ⟨A, c, rfl, hc, _, hx, _⟩ := h2.form
  rw [h1] at hc ⊢
  refine ⟨A, c, rfl, hc, fun i hi => ?_⟩
  obtain ⟨u, h4, h5⟩ := h3 i hi
  obtain ⟨b, o, rfl, hcell⟩ := hx (by omega)
  obtain ⟨B, d, rfl, hd, hB⟩ := h5.octs_form
  exact ⟨b, o, B, d, rfl, hcell i _ h4, hd, hB⟩
end
theorem upd_grown {W W' : World} {base : Nat} {e : TypeId} {v : Value} {xs : List Value} (h : Own W base e v xs) (g : W.grownBy W' v.ownBlock) : Upd (fun b => base ≤ b) W W' :=
  ⟨g.os, g.tape, g.output, g.size, fun k hk hf => g.block k hk (fun e => hf (by
    exact (h.block k e.symm).1))⟩
section
variable {w : World} {ops : Array Oper} {rest : List Oper} {o : Oper} {a : Act} {Q : Exit → Act → World → Prop}
/-- A payload is put onto payloads. -/
theorem wpList_pay (hgd : o.guard = none) (s x : Operand) (ho : o.op = .call { callee := .builtin .append, args := #[s, x], argTypes := #[71, 71] })
    (base : Nat) (v : Value) (Ps : List (List UInt8)) (hs : a.eval s = v) (hp : Pays w base v Ps) (g0 : Nat) (u : Value) (hxv : a.eval x = .slice (some ⟨g0, 0, none⟩) 1 1) (hg : w.heap[g0]? = some (.cells #[u] 22 (0, 0))) (P : List UInt8) (hu : Own w base 5 u (octs P))
    (hlen : Ps.length < 4294967296) (hbase : base ≤ w.heap.size)
    (h : ∀ v' w', Pays w' base v' (Ps ++ [P]) → Upd (fun b => base ≤ b) w w' → wpList Try.prog ops Q rest (a.put o.dst v') w') : wpList Try.prog ops Q (o :: rest) a w := by
  obtain ⟨vs, h1, h2, h3⟩ := hp
  obtain ⟨i0, hi, hz, hs1, hb⟩ := info_parts info22
  have hu1 : u.oneCell' = true := by
    obtain ⟨A, c, rfl, _⟩ := hu.octs_form
    rfl
  refine wpList_app hgd s x 71 ho base 22 i0 _ 24 Try.underlying71 hi hz hs1 hb rfl v vs hs h2 (some ⟨g0, 0, none⟩) 1 1 [u] hxv rfl (Cells.of_block hg) (fun z hz => by
    rw [List.mem_singleton] at hz; rw [hz]; exact hu1) (by rw [h1]; show Ps.length + 1 ≤ _; omega) (by decide) hbase ?_
  intro v' w' o' g' _
  refine h v' w' ⟨vs ++ [u], by rw [List.length_append, List.length_append, h1]; rfl, o', fun i hi => ?_⟩ (upd_grown h2 g')
  by_cases hlt : i < Ps.length
  · obtain ⟨u', h4, h5⟩ := h3 i hlt
    refine ⟨u', by rw [List.getElem?_append_left (by omega)]; exact h4, ?_⟩
    have : (Ps ++ [P])[i] = Ps[i] := List.getElem_append_left hlt
    rw [this]
    exact World.ownsRow.kept h5 g' (own_ne (by decide) h5 h2)
  · rw [List.length_append] at hi
    have hi : i = Ps.length := by
      have : i < Ps.length + 1 := hi
      omega
    refine ⟨u, by rw [List.getElem?_append_right (by omega), h1, hi, Nat.sub_self]; rfl, ?_⟩
    have : (Ps ++ [P])[i] = P := by
      rw [List.getElem_append_right (by omega)]
      simp
    rw [this]
    exact World.ownsRow.kept hu g' (own_ne (by decide) hu h2)
/-- A string is put onto strings. -/
theorem wpList_strs (hgd : o.guard = none) (s x : Operand) (ho : o.op = .call { callee := .builtin .append, args := #[s, x], argTypes := #[75, 75] })
    (base : Nat) (v : Value) (ss : List (List UInt8)) (hs : a.eval s = v) (hp : Own w base 9 v (ss.map strOf)) (g0 : Nat) (P : List UInt8) (hxv : a.eval x = .slice (some ⟨g0, 0, none⟩) 1 1) (hg : w.heap[g0]? = some (.cells #[strOf P] 9 (0, 0)))
    (hlen : ss.length < 4294967296) (hbase : base ≤ w.heap.size)
    (h : ∀ v' w', Own w' base 9 v' ((ss ++ [P]).map strOf) → Upd (fun b => base ≤ b) w w' → wpList Try.prog ops Q rest (a.put o.dst v') w') : wpList Try.prog ops Q (o :: rest) a w := by
  obtain ⟨i0, hi, hz, hs1, hb⟩ := info_parts info9
  refine wpList_app hgd s x 75 ho base 9 i0 _ 16 Try.underlying75 hi hz hs1 hb rfl v (ss.map strOf) hs hp (some ⟨g0, 0, none⟩) 1 1 [strOf P] hxv rfl (Cells.of_block hg) (fun z hz => by
    rw [List.mem_singleton] at hz; rw [hz]; rfl) (by rw [List.length_map]; show ss.length + 1 ≤ _; omega) (by decide) hbase ?_
  intro v' w' o' g' _
  refine h v' w' ?_ (upd_grown hp g')
  rw [List.map_append]
  exact o'
end
end Go.Proofs.Ytgpnmmgoachajaa
