/- Slices and writers that were made since a world: everything in the words of that world's extension. -/
import Derived.Test.YtgpnmmgoachajaaWr2
namespace Go.Proofs.Ytgpnmmgoachajaa
open Go.RowKit
open Go.Proofs

/-- A slice of octets in a block that was made since W0. -/
def Up (W0 w : World) (v : Value) (l : List UInt8) : Prop := Mine w 5 v (octs l) ∧ ∀ g, blk v = some g → W0.heap.size ≤ g
section
variable {W0 w w' : World} {v : Value} {l : List UInt8}
theorem Up.ext (h : Up W0 w v l) (k : Ext w w') : Up W0 w' v l := ⟨h.1.ext k, h.2⟩
theorem Up.form (h : Up W0 w v l) : ∃ A c, v = .slice A l.length c ∧ l.length ≤ c ∧ c ≤ maxLen ∧ Octs w A l := h.1.octs_form
theorem Up.of_own {base : Nat} (h : Own w base 5 v (octs l)) (h0 : W0.heap.size ≤ base) : Up W0 w v l := ⟨Mine.of_own h, fun g e => by
  refine Nat.le_trans h0 (h.block g ?_).1
  cases v with
  | slice A n c => cases A with
    | none => cases e
    | some a => exact e
  | _ => cases e⟩
theorem Up.new (hx : Ext W0 w) (cur : Array Value) (n c : Nat) (l : List UInt8) (hn : l.length = n) (hc : n ≤ c) (hs : c ≤ cur.size) (hm : c ≤ maxLen) (he : ∀ (j : Nat) u, (octs l)[j]? = some u → cur[j]? = some u) :
    Up W0 (w.alloc (.cells cur 5)) (.slice (some ⟨w.heap.size, 0, none⟩) n c) l :=
  ⟨Mine.new w 5 cur n c (octs l) (by rw [length_octs]; exact hn) hc hs hm he, fun g e => by cases e; exact hx.size⟩
theorem Up.next {v' : Value} {l' : List UInt8} (h : Up W0 w v l) (hx : Ext W0 w) (h2 : Mine w' 5 v' (octs l')) (h3 : Upd (fun b => blk v = some b) w w') (h4 : blk v' = blk v ∨ blk v' = some w.heap.size) : Up W0 w' v' l' ∧ Ext W0 w' :=
  ⟨⟨h2, fun g e => by rcases h4 with x | x <;> rw [x] at e; exact h.2 g e; cases e; exact hx.size⟩, h3.to_ext hx h.2⟩
end

section
variable {W0 w : World} {ops : Array Oper} {rest : List Oper} {o : Oper} {a : Act} {Q : Exit → Act → World → Prop}
theorem wpList_up (hgd : o.guard = none) (s x : Operand)
    (ho : o.op = .call { callee := .builtin .append, args := #[s, x], argTypes := #[22, 22] })
    (v : Value) (l : List UInt8) (hs : a.eval s = v) (hm : Up W0 w v l) (hX : Ext W0 w) (A : Option Addr) (m c : Nat) (l2 : List UInt8) (hxv : a.eval x = .slice A m c) (hm' : l2.length = m) (hx : Octs w A l2) (hlen : l.length + l2.length ≤ 4294967296)
    (h : ∀ v' w', Up W0 w' v' (l ++ l2) → Ext W0 w' → wpList Try.prog ops Q rest (a.put o.dst v') w') : wpList Try.prog ops Q (o :: rest) a w :=
  wpList_append_octs hgd s x ho v l hs hm.1 A m c l2 hxv hm' hx hlen fun v' w' h2 h3 h4 => have := hm.next hX h2 h3 h4; h v' w' this.1 this.2
theorem step_up {K : Act → World → Prop} {E : Prop} (hgd : o.guard = none) (s x : Operand)
    (ho : o.op = .call { callee := .builtin .append, args := #[s, x], argTypes := #[22, 22] })
    (v : Value) (l : List UInt8) (hs : a.eval s = v) (hm : Up W0 w v l) (hX : Ext W0 w) (A : Option Addr) (m c : Nat) (l2 : List UInt8) (hxv : a.eval x = .slice A m c) (hm' : l2.length = m) (hx : Octs w A l2) (hlen : l.length + l2.length ≤ 4294967296)
    (h : ∀ v' w', Up W0 w' v' (l ++ l2) → Ext W0 w' → K (a.put o.dst v') w') :
    if Region.wanted o (yielded ops a.tmps) = true then Oper.wp Try.prog o a w K Q else E :=
  step_append_octs hgd s x ho v l hs hm.1 A m c l2 hxv hm' hx hlen fun v' w' h2 h3 h4 => have := hm.next hX h2 h3 h4; h v' w' this.1 this.2
end

/-- A writer that was made since W0. -/
def WrX (W0 w : World) (k : Nat) (l : List UInt8) : Prop := ∃ F : Nat → Prop, (∀ b, F b → W0.heap.size ≤ b) ∧ WrAt w k F l
section
variable {W0 w w' : World} {k : Nat} {l : List UInt8}
theorem WrX.ext (h : WrX W0 w k l) (u : Ext w w') : WrX W0 w' k l := by
  obtain ⟨F, h1, h2⟩ := h
  exact ⟨F, h1, h2.ext u⟩
theorem wr_new (hX : Ext W0 w) : Calls Try.prog 75 #[] w fun e w' => ∃ k, e = .returned (.pointer (some ⟨k, 0, none⟩)) ∧ WrX W0 w' k [] ∧ Ext w w' := by
  refine (f64_any w).mono ?_
  rintro e w1 ⟨rfl, h1, h2, _⟩
  exact ⟨_, rfl, ⟨_, fun b hb => by rw [hb]; exact hX.size, h1⟩, h2⟩
theorem wr_num (n size : Int) (hX : Ext W0 w) (h : WrX W0 w k l) (hl : l.length ≤ 4294960000) :
    Calls Try.prog 76 #[.pointer (some ⟨k, 0, none⟩), .int .i64 n, .int .i64 size] w fun e w' => e = .returned (.pointer (some ⟨k, 0, none⟩)) ∧ WrX W0 w' k (l ++ leN (wid size) (u64of n)) ∧ Ext W0 w' := by
  obtain ⟨F, h1, h2⟩ := h
  refine (f65_any k F n size l w hl h2).mono ?_
  rintro e w1 ⟨rfl, h3, h4⟩
  refine ⟨rfl, ⟨Since F w w1, fun b hb => ?_, h3⟩, h4.to_ext hX h1⟩
  rcases hb with x | x
  · exact h1 b x
  · exact Nat.le_trans hX.size x.1
theorem wr_bytes (h : WrX W0 w k l) (hl : l.length ≤ 4294967290) :
    Calls Try.prog 78 #[.pointer (some ⟨k, 0, none⟩)] w fun e w' => ∃ v, e = .returned v ∧ Own w' w.heap.size 5 v (octs l) ∧ Ext w w' := by
  obtain ⟨F, _, h2⟩ := h
  exact f68_any k F l w hl h2
end
end Go.Proofs.Ytgpnmmgoachajaa
