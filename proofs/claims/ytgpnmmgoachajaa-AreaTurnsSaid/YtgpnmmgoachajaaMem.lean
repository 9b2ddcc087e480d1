/- Words for memory that the walks share: a row of cells that reads as a list, new blocks only, a slice that the call owns; and how a cut of a slice reads. -/
import Derived.Test.YtgpnmmgoachajaaProg
import Derived.WalkKit
import Derived.WalkSpells
import Derived.WalkLawsBesides
import Derived.Lib.Hide
import Derived.Maps.AppendAt
import Derived.Deep.AppendLies
namespace Go.Proofs.Ytgpnmmgoachajaa
open Go.RowKit
open Go.Proofs

theorem ret_int {k : IntKind} {a b : Int} (h : a = b) : Ending.returned (.int k a) = .returned (.int k b) := by rw [h]
theorem ret_bool {a b : Bool} (h : a = b) : Ending.returned (.bool a) = .returned (.bool b) := by rw [h]
theorem ret_val {a b : Value} (h : a = b) : Ending.returned a = .returned b := by rw [h]
theorem val_int {k : IntKind} {a b : Int} (h : a = b) : Value.int k a = .int k b := by rw [h]
theorem val_bool {a b : Bool} (h : a = b) : Value.bool a = .bool b := by rw [h]

/-- An octet as a cell holds it. -/
def oct (c : UInt8) : Value := .int .u8 ((c.toNat : Nat) : Int)
theorem oct_eq (c : UInt8) : oct c = .int .u8 ((c.toNat : Nat) : Int) := rfl
def octs (l : List UInt8) : List Value := l.map oct
@[simp] theorem length_octs (l : List UInt8) : (octs l).length = l.length := by simp [octs]
theorem octs_append (l m : List UInt8) : octs (l ++ m) = octs l ++ octs m := by simp [octs]
theorem octs_get (l : List UInt8) (k : Nat) (h : k < l.length) : (octs l)[k]? = some (.int .u8 ((l[k].toNat : Nat) : Int)) := by simp [octs, oct, h]
theorem octs_one (l : List UInt8) : ∀ u ∈ octs l, u.oneCell' = true := by
  intro u hu
  simp only [octs, List.mem_map] at hu
  obtain ⟨c, _, rfl⟩ := hu
  rfl

/-- All that was there is as it was. -/
def Ext (w w' : World) : Prop := Below w.heap.size w w'

theorem Ext.refl (w : World) : Ext w w := Below.refl _ _
theorem Ext.trans {a b c : World} (h : Ext a b) (k : Ext b c) : Ext a c := Below.trans h (Below.mono k (Below.size h))
theorem Ext.size {a b : World} (h : Ext a b) : a.heap.size ≤ b.heap.size := Below.size h
theorem Ext.alloc {a w : World} (h : Ext a w) (o : Obj) : Ext a (w.alloc o) := Below.alloc h (Below.size h) o
theorem Ext.drew {a w : World} (h : Ext a w) : Ext a w.drew := Below.drew h
theorem Ext.drewN {a w : World} (h : Ext a w) (n : Nat) : Ext a (w.drewN n) := ⟨h.os, h.tape, h.output, h.size, h.block⟩
theorem Ext.setCell {a w : World} (h : Ext a w) {p : Addr} (hp : a.heap.size ≤ p.block) (u : Value) : Ext a (w.setCell p u) := Below.setCell h hp u
theorem Ext.grown {a w w' : World} {row : Option Nat} (h : Ext a w) (hg : w.grownBy w' row) (hr : ∀ k, row = some k → a.heap.size ≤ k) : Ext a w' := Below.grown h hg (Below.size h) hr
theorem Ext.cell {w w' : World} (h : Ext w w') {p : Addr} {v : Value} (hp : w.cell? p = some v) : w'.cell? p = some v := (Below.cell h (block_lt_of_cell hp)).trans hp
theorem Ext.heap {w w' : World} (h : Ext w w') {g : Nat} {o : Obj} (hp : w.heap[g]? = some o) : w'.heap[g]? = some o :=
  (Below.block h g (by rcases Nat.lt_or_ge g w.heap.size with x | x; exact x; rw [Array.getElem?_eq_none x] at hp; cases hp)).trans hp
theorem Ext.frozen {w w' : World} (h : Ext w w') {p : Addr} (hp : p.block < w.heap.size) : w'.frozen? p = w.frozen? p := Below.frozen h hp
theorem Ext.below {w w' : World} (h : Ext w w') : Below w.heap.size w w' := h

/-- The row of cells behind an address reads as a list. -/
def Cells (w : World) (A : Option Addr) (xs : List Value) : Prop :=
  0 < xs.length → ∃ b o, A = some ⟨b, o, none⟩ ∧ ∀ (j : Nat) u, xs[j]? = some u → w.cell? ⟨b, o + j, none⟩ = some u

section
variable {w w' : World} {A : Option Addr} {xs : List Value}
theorem Cells.nil (w : World) (A : Option Addr) : Cells w A [] := fun h => by simp at h
theorem Cells.ext (h : Cells w A xs) (k : Ext w w') : Cells w' A xs := fun hn => by
  obtain ⟨b, o, e, hc⟩ := h hn
  exact ⟨b, o, e, fun j u hu => k.cell (hc j u hu)⟩
theorem Cells.keep (h : Cells w A xs) (k : ∀ b o, A = some ⟨b, o, none⟩ → w'.heap[b]? = w.heap[b]?) : Cells w' A xs := fun hn => by
  obtain ⟨b, o, e, hc⟩ := h hn
  exact ⟨b, o, e, fun j u hu => (World.cell?_of_block (w := w) (a := ⟨b, o + j, none⟩) (k b o e)).trans (hc j u hu)⟩
theorem Cells.drew (h : Cells w A xs) : Cells w.drew A xs := h
theorem Cells.drewN (h : Cells w A xs) (n : Nat) : Cells (w.drewN n) A xs := h
theorem Cells.alloc (h : Cells w A xs) (o : Obj) : Cells (w.alloc o) A xs := h.ext ((Ext.refl w).alloc o)
theorem Cells.at_ (h : Cells w A xs) {k : Nat} {u : Value} (hk : xs[k]? = some u) : ∃ b o, A = some ⟨b, o, none⟩ ∧ w.cell? ⟨b, o + k, none⟩ = some u := by
  obtain ⟨b, o, e, hc⟩ := h (by
    have := (List.getElem?_eq_some_iff.1 hk).1; omega)
  exact ⟨b, o, e, hc k u hk⟩
theorem Cells.take (h : Cells w A xs) (n : Nat) : Cells w A (xs.take n) := fun hn => by
  obtain ⟨b, o, e, hc⟩ := h (by rw [List.length_take] at hn; omega)
  refine ⟨b, o, e, fun j u hu => hc j u ?_⟩
  rw [List.getElem?_take] at hu
  split at hu
  · exact hu
  · cases hu
/-- A cut of it: where nothing is left its address is nobody's concern. -/
theorem Cells.cut (h : Cells w A xs) (lo cap : Nat) (hc : xs.length ≤ cap) (hlo : lo ≤ xs.length) : Cells w (if cap = lo then A else A.map (·.add (lo * 1))) (xs.drop lo) := fun hn => by
  rw [List.length_drop] at hn
  obtain ⟨b, o, rfl, hx⟩ := h (by omega)
  rw [if_neg (by omega)]
  by_cases h0 : lo = 0
  · subst h0
    exact ⟨b, o, by simp [Addr.add], fun j u hu => hx j u (by simpa using hu)⟩
  · refine ⟨b, o + lo, by simp [Addr.add, h0], fun j u hu => ?_⟩
    rw [Nat.add_assoc]
    exact hx _ u (by rw [← hu, List.getElem?_drop])
theorem Cells.of_block {g : Nat} {cur : Array Value} {t : TypeId} {fr : Nat × Nat} (h : w.heap[g]? = some (.cells cur t fr)) : Cells w (some ⟨g, 0, none⟩) cur.toList := fun _ =>
  ⟨g, 0, rfl, fun j u hu => by rw [cell_of_row w g (0 + j) cur t fr h, Nat.zero_add]; simpa using hu⟩
theorem Cells.news (h : Cells w A xs) {b o : Nat} (e : A = some ⟨b, o, none⟩) (h0 : 0 < xs.length) : ∀ (j : Nat) u, xs[j]? = some u → w.cell? ((⟨b, o, none⟩ : Addr).add j) = some u := by
  intro j u hu
  obtain ⟨b', o', e', hc⟩ := h h0
  rw [e] at e'
  injection e' with e'
  injection e' with e1 e2
  subst e1; subst e2
  have := hc j u hu
  by_cases hj : j = 0
  · subst hj; simpa [Addr.add] using this
  · simpa [Addr.add, hj] using this
theorem Cells.new (w : World) (cur : Array Value) (t : TypeId) : Cells (w.alloc (.cells cur t)) (some ⟨w.heap.size, 0, none⟩) cur.toList := Cells.of_block (heap_alloc_new w _)
theorem Cells.new1 (w : World) (x : Value) (t : TypeId) : Cells (w.alloc (.cells #[x] t)) (some ⟨w.heap.size, 0, none⟩) [x] := Cells.new w #[x] t
theorem Cells.new2 (w : World) (x y : Value) (t : TypeId) : Cells (w.alloc (.cells #[x, y] t)) (some ⟨w.heap.size, 0, none⟩) [x, y] := Cells.new w #[x, y] t
end

/-- A slice that reads as a list of octets, as the walk meets it. -/
def Octs (w : World) (A : Option Addr) (l : List UInt8) : Prop := Cells w A (octs l)
section
variable {w w' : World} {A : Option Addr} {l : List UInt8}
theorem Octs.nil (w : World) (A : Option Addr) : Octs w A [] := Cells.nil w A
theorem Octs.ext (h : Octs w A l) (k : Ext w w') : Octs w' A l := Cells.ext h k
theorem Octs.drew (h : Octs w A l) : Octs w.drew A l := h
theorem Octs.drewN (h : Octs w A l) (n : Nat) : Octs (w.drewN n) A l := h
theorem Octs.alloc (h : Octs w A l) (o : Obj) : Octs (w.alloc o) A l := Cells.alloc h o
theorem Octs.at_ (h : Octs w A l) {k : Nat} (hk : k < l.length) : ∃ b o, A = some ⟨b, o, none⟩ ∧ w.cell? ⟨b, o + k, none⟩ = some (.int .u8 ((l[k].toNat : Nat) : Int)) := Cells.at_ h (octs_get l k hk)
theorem Octs.take (h : Octs w A l) (n : Nat) : Octs w A (l.take n) := by
  have := Cells.take h n
  unfold Octs octs
  rw [List.map_take]
  exact this
theorem Octs.cut (h : Octs w A l) (lo cap : Nat) (hc : l.length ≤ cap) (hlo : lo ≤ l.length) : Octs w (if cap = lo then A else A.map (·.add (lo * 1))) (l.drop lo) := by
  have := Cells.cut h lo cap (by simpa using hc) (by simpa using hlo)
  unfold Octs octs
  rw [List.map_drop]
  exact this
end

/-- A slice of the call's own: nil, or the head of a block from 'base' on. -/
def Own (w : World) (base : Nat) (e : TypeId) (v : Value) (xs : List Value) : Prop := w.ownsRow base e 1 v xs.length xs

section
variable {w w' : World} {base : Nat} {e : TypeId} {v : Value} {xs : List Value}
theorem Own.nil (w : World) (base : Nat) (e : TypeId) : Own w base e (.slice none 0 0) [] := World.ownsRow_nil w base e 1
theorem Own.form (h : Own w base e v xs) : ∃ A c, v = .slice A xs.length c ∧ xs.length ≤ c ∧ c ≤ maxLen ∧ Cells w A xs ∧ (∀ a, A = some a → base ≤ a.block ∧ a.block < w.heap.size) := by
  obtain ⟨hl, h | ⟨g, cap, cur, hv, hg, hh, hn, hm, hs, ht⟩⟩ := h
  · obtain ⟨rfl, h0⟩ := h
    have : xs = [] := List.eq_nil_of_length_eq_zero h0
    subst this
    exact ⟨none, 0, rfl, Nat.le_refl _, Nat.zero_le _, Cells.nil _ _, fun a h => by cases h⟩
  · refine ⟨some ⟨g, 0, none⟩, cap, hv, hn, hm, ?_, fun a h => by cases h; exact ⟨hg, by rcases Nat.lt_or_ge g w.heap.size with x | x; exact x; rw [Array.getElem?_eq_none x] at hh; cases hh⟩⟩
    have := (Cells.of_block hh).take (xs.length * 1)
    rw [ht] at this
    exact this
theorem Own.ext (h : Own w base e v xs) (k : Ext w w') : Own w' base e v xs := by
  obtain ⟨hl, h | ⟨g, cap, cur, hv, hg, hh, r⟩⟩ := h
  · exact ⟨hl, .inl h⟩
  · exact ⟨hl, .inr ⟨g, cap, cur, hv, hg, k.heap hh, r⟩⟩
theorem Own.keep (h : Own w base e v xs) (k : ∀ b, v.ownBlock = some b → w'.heap[b]? = w.heap[b]?) : Own w' base e v xs := by
  obtain ⟨hl, h | ⟨g, cap, cur, hv, hg, hh, r⟩⟩ := h
  · exact ⟨hl, .inl h⟩
  · exact ⟨hl, .inr ⟨g, cap, cur, hv, hg, (k g (by rw [hv]; rfl)).trans hh, r⟩⟩
theorem Own.mono {base' : Nat} (h : Own w base e v xs) (k : base' ≤ base) : Own w base' e v xs := by
  obtain ⟨hl, h | ⟨g, cap, cur, hv, hg, r⟩⟩ := h
  · exact ⟨hl, .inl h⟩
  · exact ⟨hl, .inr ⟨g, cap, cur, hv, Nat.le_trans k hg, r⟩⟩
theorem Own.block (h : Own w base e v xs) : ∀ k, v.ownBlock = some k → base ≤ k ∧ k < w.heap.size := World.ownsRow.lt h
theorem Own.alloc (h : Own w base e v xs) (o : Obj) : Own (w.alloc o) base e v xs := h.ext ((Ext.refl w).alloc o)
theorem Own.drew (h : Own w base e v xs) : Own w.drew base e v xs := h
end

/-- A result that reads as octets, in a block that is new since 'base' (or nowhere). -/
def New (w : World) (base : Nat) (v : Value) (l : List UInt8) : Prop :=
  ∃ A c, v = .slice A l.length c ∧ l.length ≤ c ∧ Octs w A l ∧ ∀ a, 0 < l.length → A = some a → base ≤ a.block ∧ a.block < w.heap.size
theorem New.of_own {w : World} {base : Nat} {e : TypeId} {v : Value} {l : List UInt8} (h : Own w base e v (octs l)) : New w base v l := by
  obtain ⟨A, c, hv, hc, _, hx, hb⟩ := h.form
  rw [length_octs] at hv hc
  exact ⟨A, c, hv, hc, hx, fun a _ e => hb a e⟩
theorem New.ext {w w' : World} {base : Nat} {v : Value} {l : List UInt8} (h : New w base v l) (k : Ext w w') : New w' base v l := by
  obtain ⟨A, c, hv, hc, hx, hb⟩ := h
  exact ⟨A, c, hv, hc, hx.ext k, fun a h0 e => ⟨(hb a h0 e).1, Nat.lt_of_lt_of_le (hb a h0 e).2 k.size⟩⟩
theorem New.mono {w : World} {base base' : Nat} {v : Value} {l : List UInt8} (h : New w base v l) (k : base' ≤ base) : New w base' v l := by
  obtain ⟨A, c, hv, hc, hx, hb⟩ := h
  exact ⟨A, c, hv, hc, hx, fun a h0 e => ⟨Nat.le_trans k (hb a h0 e).1, (hb a h0 e).2⟩⟩

section
variable {P : Program} {w : World} {ops : Array Oper} {rest : List Oper} {o : Oper} {a : Act} {Q : Exit → Act → World → Prop}
/-- append onto a slice of the call's own, whatever the source. -/
theorem run_append (base : Nat) (t ty e : TypeId) (i : TypeInfo) (z : Value) (bytes : Nat) (ht : P.underlying t = some (.slice e)) (hi : P.info? e = some i) (hz : i.zero = some z)
    (hsize : i.size = 1) (hby : i.bytes = bytes) (hzs : z.cells.size = 1)
    (v : Value) (xs : List Value) (hown : Own w base e v xs) (A : Option Addr) (c : Nat) (news : List Value) (hx : Cells w A news) (h1 : ∀ u ∈ news, u.oneCell' = true)
    (hlen : xs.length + news.length ≤ 4294967296) (hb8 : bytes ≤ 32768) (hbase : base ≤ w.heap.size) :
    ∃ v' w', (Builtin.append_ #[t, t] ty #[v, .slice A news.length c]).run P w = .ok v' w' ∧ Own w' base e v' (xs ++ news) ∧ w.grownBy w' v.ownBlock ∧
      (v'.ownBlock = v.ownBlock ∨ v'.ownBlock = some w.heap.size) := by
  have hbytes : (xs.length + news.length) * bytes ≤ 140737488355328 := Nat.le_trans (Nat.mul_le_mul hlen hb8) (by decide)
  by_cases h0 : news.length = 0
  · have hn : news = [] := List.eq_nil_of_length_eq_zero h0
    subst hn
    refine ⟨v, w, ?_, by simpa using hown, ⟨rfl, rfl, rfl, Nat.le_refl _, fun _ _ _ => rfl⟩, .inl rfl⟩
    rcases hown.2 with ⟨rfl, _⟩ | ⟨g, cap, cur, rfl, _, _, hnc, _⟩
    · cases A <;> simp [Builtin.append_, run_underlying ht, sizeOf, typeInfo, hi, Builtin.lenOf, Builtin.firstCells, loadCells, loadCellsFrom]
    · cases A <;> simp [Builtin.append_, run_underlying ht, sizeOf, typeInfo, hi, Builtin.lenOf, Builtin.firstCells, hnc, storeCells, loadCells, loadCellsFrom]
  · obtain ⟨b, off, rfl, _⟩ := hx (by omega)
    obtain ⟨v', w', hrun, h2, h3, _, h5⟩ := run_append_own_at (P := P) w base t ty e i z 1 bytes ht hi hz hsize hby hzs (by omega) v xs.length xs hown ⟨b, off, none⟩ news.length c news (by omega) (hx.news rfl (by omega)) h1 (by simp only [maxLen]; omega) hbytes hbase
    exact ⟨v', w', hrun, by unfold Own; rw [List.length_append]; exact h2, h3, h5⟩

/-- append by whatever law: its run's equation is given. -/
theorem wpList_append_run (hgd : o.guard = none) (s x : Operand) (t u : TypeId)
    (ho : o.op = .call { callee := .builtin .append, args := #[s, x], argTypes := #[t, u] })
    (v vx v' : Value) (w' : World) (hs : a.eval s = v) (hxv : a.eval x = vx) (hr : (Builtin.append_ #[t, u] o.type #[v, vx]).run P w = .ok v' w')
    (h : wpList P ops Q rest (a.put o.dst v') w') : wpList P ops Q (o :: rest) a w :=
  wpList_plain hgd fun K hK => by
    unfold Oper.wp execOp
    simp only [ho, resolve, invoke, builtin, Sem.run_bind, Sem.run_pure, Result.andThen_ok, List.map_toArray, List.map_cons, List.map_nil, hs, hxv, hr]
    exact hK _ _ h

theorem wpList_app (hgd : o.guard = none) (s x : Operand) (t : TypeId)
    (ho : o.op = .call { callee := .builtin .append, args := #[s, x], argTypes := #[t, t] })
    (base : Nat) (e : TypeId) (i : TypeInfo) (z : Value) (bytes : Nat) (ht : P.underlying t = some (.slice e)) (hi : P.info? e = some i) (hz : i.zero = some z)
    (hsize : i.size = 1) (hby : i.bytes = bytes) (hzs : z.cells.size = 1)
    (v : Value) (xs : List Value) (hs : a.eval s = v) (hown : Own w base e v xs) (A : Option Addr) (m c : Nat) (news : List Value) (hxv : a.eval x = .slice A m c) (hm : news.length = m) (hx : Cells w A news) (h1 : ∀ u ∈ news, u.oneCell' = true)
    (hlen : xs.length + news.length ≤ 4294967296) (hb8 : bytes ≤ 32768) (hbase : base ≤ w.heap.size)
    (h : ∀ v' w', Own w' base e v' (xs ++ news) → w.grownBy w' v.ownBlock → (v'.ownBlock = v.ownBlock ∨ v'.ownBlock = some w.heap.size) → wpList P ops Q rest (a.put o.dst v') w') : wpList P ops Q (o :: rest) a w :=
  wpList_plain hgd fun K hK => by
    subst hm
    obtain ⟨v', w', hr, h2, h3, h4⟩ := run_append (P := P) base t o.type e i z bytes ht hi hz hsize hby hzs v xs hown A c news hx h1 hlen hb8 hbase
    unfold Oper.wp execOp
    simp only [ho, resolve, invoke, builtin, Sem.run_bind, Sem.run_pure, Result.andThen_ok, List.map_toArray, List.map_cons, List.map_nil, hs, hxv, hr]
    exact hK _ _ (h v' w' h2 h3 h4)
end
end Go.Proofs.Ytgpnmmgoachajaa
