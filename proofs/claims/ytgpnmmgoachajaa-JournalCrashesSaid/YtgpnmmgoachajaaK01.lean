/- Joined texts: Mem, Dk, Mine, Dm, Dn, Do, Ints, Cuts. -/
import Derived.Test.YtgpnmmgoachajaaProg
import Derived.WalkKit
import Derived.WalkSpells
import Derived.WalkLawsBesides
import Derived.Lib.Hide
import Derived.Maps.AppendAt
import Derived.Deep.AppendLies
import Derived.ArgAppend
import Derived.Sort.Row
import Derived.Deep.RegionLaw
import Derived.Deep.MidRow
import Derived.Maps.OwnSet
import Derived.Maps.OwnIn
import Derived.Maps.OwnOps
import Derived.Lib.SliceRun
/- Words for memory that the walks share: a row of cells that reads as a list, new blocks only, a slice that the call owns; and how a cut of a slice reads. -/
namespace Go.Proofs.Ytgpnmmgoachajaa
open Go.RowKit
open Go.Proofs

theorem ret_int {k : IntKind} {a b : Int} (h : a = b) : Ending.returned (.int k a) = .returned (.int k b) := by rw [h]
theorem ret_bool {a b : Bool} (h : a = b) : Ending.returned (.bool a) = .returned (.bool b) := by rw [h]
theorem ret_val {a b : Value} (h : a = b) : Ending.returned a = .returned b := by rw [h]
theorem val_int {k : IntKind} {a b : Int} (h : a = b) : Value.int k a = .int k b := by rw [h]
theorem val_bool {a b : Bool} (h : a = b) : Value.bool a = .bool b := by rw [h]

/-- An octet as a cell holds it. -/
def oct (c : UInt8) : Value := .int .u8 ((c.toNat : Nat) : Int)
theorem oct_eq (c : UInt8) : oct c = .int .u8 ((c.toNat : Nat) : Int) := rfl
def octs (l : List UInt8) : List Value := l.map oct
@[simp] theorem length_octs (l : List UInt8) : (octs l).length = l.length := by simp [octs]
theorem octs_append (l m : List UInt8) : octs (l ++ m) = octs l ++ octs m := by simp [octs]
theorem octs_get (l : List UInt8) (k : Nat) (h : k < l.length) : (octs l)[k]? = some (.int .u8 ((l[k].toNat : Nat) : Int)) := by simp [octs, oct, h]
theorem octs_one (l : List UInt8) : ∀ u ∈ octs l, u.oneCell' = true := by
  intro u hu
  simp only [octs, List.mem_map] at hu
  obtain ⟨c, _, rfl⟩ := hu
  rfl

/-- All that was there is as it was. -/
def Ext (w w' : World) : Prop := Below w.heap.size w w'

theorem Ext.refl (w : World) : Ext w w := Below.refl _ _
theorem Ext.trans {a b c : World} (h : Ext a b) (k : Ext b c) : Ext a c := Below.trans h (Below.mono k (Below.size h))
theorem Ext.size {a b : World} (h : Ext a b) : a.heap.size ≤ b.heap.size := Below.size h
theorem Ext.alloc {a w : World} (h : Ext a w) (o : Obj) : Ext a (w.alloc o) := Below.alloc h (Below.size h) o
theorem Ext.drew {a w : World} (h : Ext a w) : Ext a w.drew := Below.drew h
theorem Ext.drewN {a w : World} (h : Ext a w) (n : Nat) : Ext a (w.drewN n) := ⟨h.os, h.tape, h.output, h.size, h.block⟩
theorem Ext.setCell {a w : World} (h : Ext a w) {p : Addr} (hp : a.heap.size ≤ p.block) (u : Value) : Ext a (w.setCell p u) := Below.setCell h hp u
theorem Ext.grown {a w w' : World} {row : Option Nat} (h : Ext a w) (hg : w.grownBy w' row) (hr : ∀ k, row = some k → a.heap.size ≤ k) : Ext a w' := Below.grown h hg (Below.size h) hr
theorem Ext.cell {w w' : World} (h : Ext w w') {p : Addr} {v : Value} (hp : w.cell? p = some v) : w'.cell? p = some v := (Below.cell h (block_lt_of_cell hp)).trans hp
theorem Ext.heap {w w' : World} (h : Ext w w') {g : Nat} {o : Obj} (hp : w.heap[g]? = some o) : w'.heap[g]? = some o :=
  (Below.block h g (by rcases Nat.lt_or_ge g w.heap.size with x | x; exact x; rw [Array.getElem?_eq_none x] at hp; cases hp)).trans hp
theorem Ext.frozen {w w' : World} (h : Ext w w') {p : Addr} (hp : p.block < w.heap.size) : w'.frozen? p = w.frozen? p := Below.frozen h hp
theorem Ext.below {w w' : World} (h : Ext w w') : Below w.heap.size w w' := h

/-- The row of cells behind an address reads as a list. -/
def Cells (w : World) (A : Option Addr) (xs : List Value) : Prop :=
  0 < xs.length → ∃ b o, A = some ⟨b, o, none⟩ ∧ ∀ (j : Nat) u, xs[j]? = some u → w.cell? ⟨b, o + j, none⟩ = some u

section
variable {w w' : World} {A : Option Addr} {xs : List Value}
theorem Cells.nil (w : World) (A : Option Addr) : Cells w A [] := fun h => by simp at h
theorem Cells.ext (h : Cells w A xs) (k : Ext w w') : Cells w' A xs := fun hn => by
  obtain ⟨b, o, e, hc⟩ := h hn
  exact ⟨b, o, e, fun j u hu => k.cell (hc j u hu)⟩
theorem Cells.keep (h : Cells w A xs) (k : ∀ b o, A = some ⟨b, o, none⟩ → w'.heap[b]? = w.heap[b]?) : Cells w' A xs := fun hn => by
  obtain ⟨b, o, e, hc⟩ := h hn
  exact ⟨b, o, e, fun j u hu => (World.cell?_of_block (w := w) (a := ⟨b, o + j, none⟩) (k b o e)).trans (hc j u hu)⟩
theorem Cells.drew (h : Cells w A xs) : Cells w.drew A xs := h
theorem Cells.drewN (h : Cells w A xs) (n : Nat) : Cells (w.drewN n) A xs := h
theorem Cells.alloc (h : Cells w A xs) (o : Obj) : Cells (w.alloc o) A xs := h.ext ((Ext.refl w).alloc o)
theorem Cells.at_ (h : Cells w A xs) {k : Nat} {u : Value} (hk : xs[k]? = some u) : ∃ b o, A = some ⟨b, o, none⟩ ∧ w.cell? ⟨b, o + k, none⟩ = some u := by
  obtain ⟨b, o, e, hc⟩ := h (by
    have := (List.getElem?_eq_some_iff.1 hk).1; omega)
  exact ⟨b, o, e, hc k u hk⟩
theorem Cells.take (h : Cells w A xs) (n : Nat) : Cells w A (xs.take n) := fun hn => by
  obtain ⟨b, o, e, hc⟩ := h (by rw [List.length_take] at hn; omega)
  refine ⟨b, o, e, fun j u hu => hc j u ?_⟩
  rw [List.getElem?_take] at hu
  split at hu
  · exact hu
  · cases hu
/-- A cut of it: where nothing is left its address is nobody's concern. -/
theorem Cells.cut (h : Cells w A xs) (lo cap : Nat) (hc : xs.length ≤ cap) (hlo : lo ≤ xs.length) : Cells w (if cap = lo then A else A.map (·.add (lo * 1))) (xs.drop lo) := fun hn => by
  rw [List.length_drop] at hn
  obtain ⟨b, o, rfl, hx⟩ := h (by omega)
  rw [if_neg (by omega)]
  by_cases h0 : lo = 0
  · subst h0
    exact ⟨b, o, by simp [Addr.add], fun j u hu => hx j u (by simpa using hu)⟩
  · refine ⟨b, o + lo, by simp [Addr.add, h0], fun j u hu => ?_⟩
    rw [Nat.add_assoc]
    exact hx _ u (by rw [← hu, List.getElem?_drop])
theorem Cells.of_block {g : Nat} {cur : Array Value} {t : TypeId} {fr : Nat × Nat} (h : w.heap[g]? = some (.cells cur t fr)) : Cells w (some ⟨g, 0, none⟩) cur.toList := fun _ =>
  ⟨g, 0, rfl, fun j u hu => by rw [cell_of_row w g (0 + j) cur t fr h, Nat.zero_add]; simpa using hu⟩
theorem Cells.news (h : Cells w A xs) {b o : Nat} (e : A = some ⟨b, o, none⟩) (h0 : 0 < xs.length) : ∀ (j : Nat) u, xs[j]? = some u → w.cell? ((⟨b, o, none⟩ : Addr).add j) = some u := by
  intro j u hu
  obtain ⟨b', o', e', hc⟩ := h h0
  rw [e] at e'
  injection e' with e'
  injection e' with e1 e2
  subst e1; subst e2
  have := hc j u hu
  by_cases hj : j = 0
  · subst hj; simpa [Addr.add] using this
  · simpa [Addr.add, hj] using this
theorem Cells.new (w : World) (cur : Array Value) (t : TypeId) : Cells (w.alloc (.cells cur t)) (some ⟨w.heap.size, 0, none⟩) cur.toList := Cells.of_block (heap_alloc_new w _)
theorem Cells.new1 (w : World) (x : Value) (t : TypeId) : Cells (w.alloc (.cells #[x] t)) (some ⟨w.heap.size, 0, none⟩) [x] := Cells.new w #[x] t
theorem Cells.new2 (w : World) (x y : Value) (t : TypeId) : Cells (w.alloc (.cells #[x, y] t)) (some ⟨w.heap.size, 0, none⟩) [x, y] := Cells.new w #[x, y] t
end

/-- A slice that reads as a list of octets, as the walk meets it. -/
def Octs (w : World) (A : Option Addr) (l : List UInt8) : Prop := Cells w A (octs l)
section
variable {w w' : World} {A : Option Addr} {l : List UInt8}
theorem Octs.nil (w : World) (A : Option Addr) : Octs w A [] := Cells.nil w A
theorem Octs.ext (h : Octs w A l) (k : Ext w w') : Octs w' A l := Cells.ext h k
theorem Octs.drew (h : Octs w A l) : Octs w.drew A l := h
theorem Octs.drewN (h : Octs w A l) (n : Nat) : Octs (w.drewN n) A l := h
theorem Octs.alloc (h : Octs w A l) (o : Obj) : Octs (w.alloc o) A l := Cells.alloc h o
theorem Octs.at_ (h : Octs w A l) {k : Nat} (hk : k < l.length) : ∃ b o, A = some ⟨b, o, none⟩ ∧ w.cell? ⟨b, o + k, none⟩ = some (.int .u8 ((l[k].toNat : Nat) : Int)) := Cells.at_ h (octs_get l k hk)
theorem Octs.take (h : Octs w A l) (n : Nat) : Octs w A (l.take n) := by
  have := Cells.take h n
  unfold Octs octs
  rw [List.map_take]
  exact this
theorem Octs.cut (h : Octs w A l) (lo cap : Nat) (hc : l.length ≤ cap) (hlo : lo ≤ l.length) : Octs w (if cap = lo then A else A.map (·.add (lo * 1))) (l.drop lo) := by
  have := Cells.cut h lo cap (by simpa using hc) (by simpa using hlo)
  unfold Octs octs
  rw [List.map_drop]
  exact this
end

/-- A slice of the call's own: nil, or the head of a block from 'base' on. -/
def Own (w : World) (base : Nat) (e : TypeId) (v : Value) (xs : List Value) : Prop := w.ownsRow base e 1 v xs.length xs

section
variable {w w' : World} {base : Nat} {e : TypeId} {v : Value} {xs : List Value}
theorem Own.nil (w : World) (base : Nat) (e : TypeId) : Own w base e (.slice none 0 0) [] := World.ownsRow_nil w base e 1
theorem Own.form (h : Own w base e v xs) : ∃ A c, v = .slice A xs.length c ∧ xs.length ≤ c ∧ c ≤ maxLen ∧ Cells w A xs ∧ (∀ a, A = some a → base ≤ a.block ∧ a.block < w.heap.size) := by
  obtain ⟨hl, h | ⟨g, cap, cur, hv, hg, hh, hn, hm, hs, ht⟩⟩ := h
  · obtain ⟨rfl, h0⟩ := h
    have : xs = [] := List.eq_nil_of_length_eq_zero h0
    subst this
    exact ⟨none, 0, rfl, Nat.le_refl _, Nat.zero_le _, Cells.nil _ _, fun a h => by cases h⟩
  · refine ⟨some ⟨g, 0, none⟩, cap, hv, hn, hm, ?_, fun a h => by cases h; exact ⟨hg, by rcases Nat.lt_or_ge g w.heap.size with x | x; exact x; rw [Array.getElem?_eq_none x] at hh; cases hh⟩⟩
    have := (Cells.of_block hh).take (xs.length * 1)
    rw [ht] at this
    exact this
theorem Own.ext (h : Own w base e v xs) (k : Ext w w') : Own w' base e v xs := by
  obtain ⟨hl, h | ⟨g, cap, cur, hv, hg, hh, r⟩⟩ := h
  · exact ⟨hl, .inl h⟩
  · exact ⟨hl, .inr ⟨g, cap, cur, hv, hg, k.heap hh, r⟩⟩
theorem Own.keep (h : Own w base e v xs) (k : ∀ b, v.ownBlock = some b → w'.heap[b]? = w.heap[b]?) : Own w' base e v xs := by
  obtain ⟨hl, h | ⟨g, cap, cur, hv, hg, hh, r⟩⟩ := h
  · exact ⟨hl, .inl h⟩
  · exact ⟨hl, .inr ⟨g, cap, cur, hv, hg, (k g (by rw [hv]; rfl)).trans hh, r⟩⟩
theorem Own.mono {base' : Nat} (h : Own w base e v xs) (k : base' ≤ base) : Own w base' e v xs := by
  obtain ⟨hl, h | ⟨g, cap, cur, hv, hg, r⟩⟩ := h
  · exact ⟨hl, .inl h⟩
  · exact ⟨hl, .inr ⟨g, cap, cur, hv, Nat.le_trans k hg, r⟩⟩
theorem Own.block (h : Own w base e v xs) : ∀ k, v.ownBlock = some k → base ≤ k ∧ k < w.heap.size := World.ownsRow.lt h
theorem Own.alloc (h : Own w base e v xs) (o : Obj) : Own (w.alloc o) base e v xs := h.ext ((Ext.refl w).alloc o)
theorem Own.drew (h : Own w base e v xs) : Own w.drew base e v xs := h
end

/-- A result that reads as octets, in a block that is new since 'base' (or nowhere). -/
def New (w : World) (base : Nat) (v : Value) (l : List UInt8) : Prop :=
  ∃ A c, v = .slice A l.length c ∧ l.length ≤ c ∧ Octs w A l ∧ ∀ a, 0 < l.length → A = some a → base ≤ a.block ∧ a.block < w.heap.size
theorem New.of_own {w : World} {base : Nat} {e : TypeId} {v : Value} {l : List UInt8} (h : Own w base e v (octs l)) : New w base v l := by
  obtain ⟨A, c, hv, hc, _, hx, hb⟩ := h.form
  rw [length_octs] at hv hc
  exact ⟨A, c, hv, hc, hx, fun a _ e => hb a e⟩
theorem New.ext {w w' : World} {base : Nat} {v : Value} {l : List UInt8} (h : New w base v l) (k : Ext w w') : New w' base v l := by
  obtain ⟨A, c, hv, hc, hx, hb⟩ := h
  exact ⟨A, c, hv, hc, hx.ext k, fun a h0 e => ⟨(hb a h0 e).1, Nat.lt_of_lt_of_le (hb a h0 e).2 k.size⟩⟩
theorem New.mono {w : World} {base base' : Nat} {v : Value} {l : List UInt8} (h : New w base v l) (k : base' ≤ base) : New w base' v l := by
  obtain ⟨A, c, hv, hc, hx, hb⟩ := h
  exact ⟨A, c, hv, hc, hx, fun a h0 e => ⟨Nat.le_trans k (hb a h0 e).1, (hb a h0 e).2⟩⟩

section
variable {P : Program} {w : World} {ops : Array Oper} {rest : List Oper} {o : Oper} {a : Act} {Q : Exit → Act → World → Prop}
/-- append onto a slice of the call's own, whatever the source. -/
theorem run_append (base : Nat) (t ty e : TypeId) (i : TypeInfo) (z : Value) (bytes : Nat) (ht : P.underlying t = some (.slice e)) (hi : P.info? e = some i) (hz : i.zero = some z)
    (hsize : i.size = 1) (hby : i.bytes = bytes) (hzs : z.cells.size = 1)
    (v : Value) (xs : List Value) (hown : Own w base e v xs) (A : Option Addr) (c : Nat) (news : List Value) (hx : Cells w A news) (h1 : ∀ u ∈ news, u.oneCell' = true)
    (hlen : xs.length + news.length ≤ 4294967296) (hb8 : bytes ≤ 32768) (hbase : base ≤ w.heap.size) :
    ∃ v' w', (Builtin.append_ #[t, t] ty #[v, .slice A news.length c]).run P w = .ok v' w' ∧ Own w' base e v' (xs ++ news) ∧ w.grownBy w' v.ownBlock ∧
      (v'.ownBlock = v.ownBlock ∨ v'.ownBlock = some w.heap.size) := by
  have hbytes : (xs.length + news.length) * bytes ≤ 140737488355328 := Nat.le_trans (Nat.mul_le_mul hlen hb8) (by decide)
  by_cases h0 : news.length = 0
  · have hn : news = [] := List.eq_nil_of_length_eq_zero h0
    subst hn
    refine ⟨v, w, ?_, by simpa using hown, ⟨rfl, rfl, rfl, Nat.le_refl _, fun _ _ _ => rfl⟩, .inl rfl⟩
    rcases hown.2 with ⟨rfl, _⟩ | ⟨g, cap, cur, rfl, _, _, hnc, _⟩
    · cases A <;> simp [Builtin.append_, run_underlying ht, sizeOf, typeInfo, hi, Builtin.lenOf, Builtin.firstCells, loadCells, loadCellsFrom]
    · cases A <;> simp [Builtin.append_, run_underlying ht, sizeOf, typeInfo, hi, Builtin.lenOf, Builtin.firstCells, hnc, storeCells, loadCells, loadCellsFrom]
  · obtain ⟨b, off, rfl, _⟩ := hx (by omega)
    obtain ⟨v', w', hrun, h2, h3, _, h5⟩ := run_append_own_at (P := P) w base t ty e i z 1 bytes ht hi hz hsize hby hzs (by omega) v xs.length xs hown ⟨b, off, none⟩ news.length c news (by omega) (hx.news rfl (by omega)) h1 (by simp only [maxLen]; omega) hbytes hbase
    exact ⟨v', w', hrun, by unfold Own; rw [List.length_append]; exact h2, h3, h5⟩

/-- append by whatever law: its run's equation is given. -/
theorem wpList_append_run (hgd : o.guard = none) (s x : Operand) (t u : TypeId)
    (ho : o.op = .call { callee := .builtin .append, args := #[s, x], argTypes := #[t, u] })
    (v vx v' : Value) (w' : World) (hs : a.eval s = v) (hxv : a.eval x = vx) (hr : (Builtin.append_ #[t, u] o.type #[v, vx]).run P w = .ok v' w')
    (h : wpList P ops Q rest (a.put o.dst v') w') : wpList P ops Q (o :: rest) a w :=
  wpList_plain hgd fun K hK => by
    unfold Oper.wp execOp
    simp only [ho, resolve, invoke, builtin, Sem.run_bind, Sem.run_pure, Result.andThen_ok, List.map_toArray, List.map_cons, List.map_nil, hs, hxv, hr]
    exact hK _ _ h

theorem wpList_app (hgd : o.guard = none) (s x : Operand) (t : TypeId)
    (ho : o.op = .call { callee := .builtin .append, args := #[s, x], argTypes := #[t, t] })
    (base : Nat) (e : TypeId) (i : TypeInfo) (z : Value) (bytes : Nat) (ht : P.underlying t = some (.slice e)) (hi : P.info? e = some i) (hz : i.zero = some z)
    (hsize : i.size = 1) (hby : i.bytes = bytes) (hzs : z.cells.size = 1)
    (v : Value) (xs : List Value) (hs : a.eval s = v) (hown : Own w base e v xs) (A : Option Addr) (m c : Nat) (news : List Value) (hxv : a.eval x = .slice A m c) (hm : news.length = m) (hx : Cells w A news) (h1 : ∀ u ∈ news, u.oneCell' = true)
    (hlen : xs.length + news.length ≤ 4294967296) (hb8 : bytes ≤ 32768) (hbase : base ≤ w.heap.size)
    (h : ∀ v' w', Own w' base e v' (xs ++ news) → w.grownBy w' v.ownBlock → (v'.ownBlock = v.ownBlock ∨ v'.ownBlock = some w.heap.size) → wpList P ops Q rest (a.put o.dst v') w') : wpList P ops Q (o :: rest) a w :=
  wpList_plain hgd fun K hK => by
    subst hm
    obtain ⟨v', w', hr, h2, h3, h4⟩ := run_append (P := P) base t o.type e i z bytes ht hi hz hsize hby hzs v xs hown A c news hx h1 hlen hb8 hbase
    unfold Oper.wp execOp
    simp only [ho, resolve, invoke, builtin, Sem.run_bind, Sem.run_pure, Result.andThen_ok, List.map_toArray, List.map_cons, List.map_nil, hs, hxv, hr]
    exact hK _ _ (h v' w' h2 h3 h4)
end
end Go.Proofs.Ytgpnmmgoachajaa
/- Layer 3 in plain Lean: a disk: what is safe, which writes wait, the calls till the power is off, how many were written; what is done with it. -/
namespace Go.Proofs.Ytgpnmmgoachajaa
open Go.RowKit
open Go.Proofs

structure Dk where
  safe : List (List UInt8)
  queue : List (Nat × List UInt8)
  calls : Int
  writes : Int
/-- The latest write that waits for a sector. -/
def lastAt (q : List (Nat × List UInt8)) (a : Nat) : Option (List UInt8) := q.foldl (fun r p => if p.1 = a then some p.2 else r) none
theorem lastAt_nil (a : Nat) : lastAt [] a = none := rfl
theorem lastAt_snoc (q : List (Nat × List UInt8)) (p : Nat × List UInt8) (a : Nat) : lastAt (q ++ [p]) a = if p.1 = a then some p.2 else lastAt q a := by
  simp [lastAt, List.foldl_append]
theorem lastAt_none (a : Nat) : ∀ (q : List (Nat × List UInt8)), (∀ p ∈ q, p.1 ≠ a) → lastAt q a = none := by
  intro q
  have : ∀ (q : List (Nat × List UInt8)) (r : Option (List UInt8)), (∀ p ∈ q, p.1 ≠ a) → q.foldl (fun r p => if p.1 = a then some p.2 else r) r = r := by
    intro q
    induction q with
    | nil => intro r _; rfl
    | cons p q ih =>
      intro r h
      rw [List.foldl_cons, if_neg (h p (by simp))]
      exact ih r (fun x hx => h x (by simp [hx]))
  exact this q none
def seeAt (s : Dk) (a : Nat) : List UInt8 := (lastAt s.queue a).getD (s.safe.getD a [])
/-- All that waits is made safe. -/
def putAll (sf : List (List UInt8)) (q : List (Nat × List UInt8)) : List (List UInt8) := q.foldl (fun f p => f.set p.1 p.2) sf
theorem putAll_nil (sf : List (List UInt8)) : putAll sf [] = sf := rfl
theorem putAll_cons (sf : List (List UInt8)) (p : Nat × List UInt8) (q : List (Nat × List UInt8)) : putAll sf (p :: q) = putAll (sf.set p.1 p.2) q := rfl
theorem putAll_snoc (sf : List (List UInt8)) (p : Nat × List UInt8) (q : List (Nat × List UInt8)) : putAll sf (q ++ [p]) = (putAll sf q).set p.1 p.2 := by simp [putAll, List.foldl_append]
theorem length_putAll (sf : List (List UInt8)) (q : List (Nat × List UInt8)) : (putAll sf q).length = sf.length := by
  induction q generalizing sf with
  | nil => rfl
  | cons p q ih => rw [putAll_cons, ih, List.length_set]
structure DkOk (s : Dk) : Prop where
  safe : ∀ x ∈ s.safe, x.length = 128
  queue : ∀ p ∈ s.queue, p.1 < s.safe.length ∧ p.2.length = 128
theorem safe_set {sf : List (List UInt8)} (h : ∀ x ∈ sf, x.length = 128) (a : Nat) (y : List UInt8) (hy : y.length = 128) : ∀ x ∈ sf.set a y, x.length = 128 := fun x hx => by
  rcases List.mem_or_eq_of_mem_set hx with h1 | h1
  · exact h x h1
  · rw [h1]; exact hy
theorem safe_putAll (q : List (Nat × List UInt8)) : ∀ (sf : List (List UInt8)), (∀ x ∈ sf, x.length = 128) → (∀ p ∈ q, p.2.length = 128) → ∀ x ∈ putAll sf q, x.length = 128 := by
  induction q with
  | nil => intro sf h _; exact h
  | cons p q ih => intro sf h hq; exact ih _ (safe_set h _ _ (hq p (by simp))) (fun x hx => hq x (by simp [hx]))
theorem lastAt_len (q : List (Nat × List UInt8)) (h : ∀ p ∈ q, p.2.length = 128) (a : Nat) (y : List UInt8) (hy : lastAt q a = some y) : y.length = 128 := by
  have : ∀ (q : List (Nat × List UInt8)) (r : Option (List UInt8)), (∀ p ∈ q, p.2.length = 128) → (∀ y, r = some y → y.length = 128) → ∀ y, q.foldl (fun r p => if p.1 = a then some p.2 else r) r = some y → y.length = 128 := by
    intro q
    induction q with
    | nil => intro r _ hr y hy; exact hr y hy
    | cons p q ih =>
      intro r hq hr y hy
      rw [List.foldl_cons] at hy
      refine ih _ (fun x hx => hq x (by simp [hx])) ?_ y hy
      intro z hz
      split at hz
      · injection hz with hz; rw [← hz]; exact hq p (by simp)
      · exact hr z hz
  exact this q none h (fun _ e => by cases e) y hy
theorem length_seeAt {s : Dk} (h : DkOk s) (a : Nat) (ha : a < s.safe.length) : (seeAt s a).length = 128 := by
  unfold seeAt
  cases hl : lastAt s.queue a with
  | some y => exact lastAt_len _ (fun p hp => (h.queue p hp).2) a y hl
  | none =>
    rw [Option.getD_none, List.getD_eq_getElem?_getD, List.getElem?_eq_getElem ha]
    exact h.safe _ (List.getElem_mem ha)

/-- A call that counts. -/
def callTo (c : Int) : Int := if c - 1 < -1 then -1 else c - 1
/-- The writes of octets from a sector on. -/
def cutSec (at_ : Nat) (l : List UInt8) (k : Nat) : List (Nat × List UInt8) := (List.range k).map fun i => (at_ + i, (l.drop (128 * i)).take 128)
theorem cutSec_succ (at_ : Nat) (l : List UInt8) (k : Nat) : cutSec at_ l (k + 1) = cutSec at_ l k ++ [(at_ + k, (l.drop (128 * k)).take 128)] := by simp [cutSec, List.range_succ]
theorem length_cutSec (at_ : Nat) (l : List UInt8) (k : Nat) : (cutSec at_ l k).length = k := by simp [cutSec]
def dkWrite (s : Dk) (at_ : Nat) (l : List UInt8) : Dk := { s with queue := s.queue ++ cutSec at_ l (l.length / 128), calls := callTo s.calls, writes := s.writes + ((l.length / 128 : Nat) : Int) }
def dkFlush (s : Dk) : Dk := { s with safe := putAll s.safe s.queue, queue := [], calls := callTo s.calls }
def dkRead (s : Dk) : Dk := { s with calls := callTo s.calls }
/-- What a crash leaves, and how many writes it keeps. -/
def crashTo (keep : List Int) (torn cut : Int) : Nat → List (List UInt8) → List (Nat × List UInt8) → List (List UInt8) × Nat
  | _, sf, [] => (sf, 0)
  | i, sf, p :: q =>
    if (i : Int) ∈ keep then ((crashTo keep torn cut (i + 1) (sf.set p.1 p.2) q).1, (crashTo keep torn cut (i + 1) (sf.set p.1 p.2) q).2 + 1)
    else if (i : Int) = torn ∧ 0 < cut ∧ cut < 128 then crashTo keep torn cut (i + 1) (sf.set p.1 (p.2.take cut.toNat ++ (sf.getD p.1 []).drop cut.toNat)) q
    else crashTo keep torn cut (i + 1) sf q
def dkCrash (s : Dk) (keep : List Int) (torn cut : Int) : Dk := { s with safe := (crashTo keep torn cut 0 s.safe s.queue).1, queue := [], calls := -1 }
theorem length_crashTo (keep : List Int) (torn cut : Int) (q : List (Nat × List UInt8)) : ∀ (i : Nat) (sf : List (List UInt8)), (crashTo keep torn cut i sf q).1.length = sf.length := by
  induction q with
  | nil => intro i sf; rfl
  | cons p q ih =>
    intro i sf
    rw [crashTo]
    split
    · show (crashTo keep torn cut (i + 1) (sf.set p.1 p.2) q).1.length = _
      rw [ih, List.length_set]
    · split
      · rw [ih, List.length_set]
      · exact ih _ _
theorem dkOk_write {s : Dk} (h : DkOk s) (at_ : Nat) (l : List UInt8) (hl : l.length % 128 = 0) (ha : at_ + l.length / 128 ≤ s.safe.length) : DkOk (dkWrite s at_ l) := by
  refine ⟨h.safe, fun p hp => ?_⟩
  rcases List.mem_append.1 hp with h1 | h1
  · exact h.queue p h1
  · simp only [cutSec, List.mem_map, List.mem_range] at h1
    obtain ⟨i, hi, rfl⟩ := h1
    refine ⟨?_, ?_⟩
    · show at_ + i < s.safe.length; omega
    · show ((l.drop (128 * i)).take 128).length = 128
      rw [List.length_take, List.length_drop]; omega
theorem dkOk_flush {s : Dk} (h : DkOk s) : DkOk (dkFlush s) := ⟨safe_putAll _ _ h.safe (fun p hp => (h.queue p hp).2), fun p hp => by cases hp⟩
theorem dkOk_read {s : Dk} (h : DkOk s) : DkOk (dkRead s) := ⟨h.safe, h.queue⟩
theorem safe_crashTo (keep : List Int) (torn cut : Int) (q : List (Nat × List UInt8)) : ∀ (i : Nat) (sf : List (List UInt8)), (∀ x ∈ sf, x.length = 128) → (∀ p ∈ q, p.1 < sf.length ∧ p.2.length = 128) → ∀ x ∈ (crashTo keep torn cut i sf q).1, x.length = 128 := by
  induction q with
  | nil => intro i sf h _; exact h
  | cons p q ih =>
    intro i sf h hq
    have hp := hq p (by simp)
    have hq2 : ∀ x ∈ q, x.1 < sf.length ∧ x.2.length = 128 := fun x hx => hq x (by simp [hx])
    rw [crashTo]
    split
    · exact ih (i + 1) _ (safe_set h _ _ hp.2) (fun x hx => by rw [List.length_set]; exact hq2 x hx)
    · split
      · rename_i hc
        refine ih (i + 1) _ (safe_set h _ _ ?_) (fun x hx => by rw [List.length_set]; exact hq2 x hx)
        have : (sf.getD p.1 []).length = 128 := by
          rw [List.getD_eq_getElem?_getD, List.getElem?_eq_getElem hp.1]
          exact h _ (List.getElem_mem hp.1)
        rw [List.length_append, List.length_take, List.length_drop, this, hp.2]
        omega
      · exact ih (i + 1) sf h hq2
theorem dkOk_crash {s : Dk} (h : DkOk s) (keep : List Int) (torn cut : Int) : DkOk (dkCrash s keep torn cut) :=
  ⟨safe_crashTo keep torn cut s.queue 0 s.safe h.safe h.queue, fun p hp => by cases hp⟩
def dkImage (s : Dk) : List UInt8 := (List.range s.safe.length).flatMap (seeAt s)
def dkSecs (s : Dk) (at_ k : Nat) : List UInt8 := (List.range k).flatMap fun i => seeAt s (at_ + i)
theorem dkSecs_succ (s : Dk) (at_ k : Nat) : dkSecs s at_ (k + 1) = dkSecs s at_ k ++ seeAt s (at_ + k) := by simp [dkSecs, List.range_succ]
theorem dkImage_secs (s : Dk) : dkImage s = dkSecs s 0 s.safe.length := by simp [dkImage, dkSecs]
theorem length_dkSecs {s : Dk} (h : DkOk s) (at_ : Nat) : ∀ k, at_ + k ≤ s.safe.length → (dkSecs s at_ k).length = 128 * k
  | 0, _ => rfl
  | k + 1, hk => by
    rw [dkSecs_succ, List.length_append, length_dkSecs h at_ k (by omega), length_seeAt h _ (by omega)]
    omega
def dkNew (n : Nat) : Dk := ⟨List.replicate n (List.replicate 128 0), [], -1, 0⟩
theorem dkOk_new (n : Nat) : DkOk (dkNew n) := ⟨fun x hx => by rw [List.eq_of_mem_replicate hx, List.length_replicate], fun p hp => by cases hp⟩
end Go.Proofs.Ytgpnmmgoachajaa
/- Slices that live anywhere in a block and are written in place: what they hold, how append, a cut and a delete change them, and which blocks a step may change. -/
namespace Go.Proofs.Ytgpnmmgoachajaa
open Go.RowKit
open Go.Proofs

/-- Only blocks of F are changed; new ones may come. -/
structure Upd (F : Nat → Prop) (w w' : World) : Prop where
  os : w'.os = w.os
  tape : w'.tape = w.tape
  output : w'.output = w.output
  size : w.heap.size ≤ w'.heap.size
  block : ∀ k, k < w.heap.size → ¬ F k → w'.heap[k]? = w.heap[k]?

section
variable {F G : Nat → Prop} {w w' w'' : World}
theorem Upd.refl (F : Nat → Prop) (w : World) : Upd F w w := ⟨rfl, rfl, rfl, Nat.le_refl _, fun _ _ _ => rfl⟩
theorem Upd.trans (h : Upd F w w') (k : Upd F w' w'') : Upd F w w'' :=
  ⟨k.os.trans h.os, k.tape.trans h.tape, k.output.trans h.output, Nat.le_trans h.size k.size,
    fun b hb hf => (k.block b (Nat.lt_of_lt_of_le hb h.size) hf).trans (h.block b hb hf)⟩
theorem Upd.mono (h : Upd F w w') (k : ∀ b, b < w.heap.size → F b → G b) : Upd G w w' := ⟨h.os, h.tape, h.output, h.size, fun b hb hf => h.block b hb (fun x => hf (k b hb x))⟩
/-- A step behind it that may change new blocks too. -/
theorem Upd.trans' (h : Upd F w w') (k : Upd G w' w'') (hg : ∀ b, G b → F b ∨ w.heap.size ≤ b) : Upd F w w'' :=
  ⟨k.os.trans h.os, k.tape.trans h.tape, k.output.trans h.output, Nat.le_trans h.size k.size,
    fun b hb hf => (k.block b (Nat.lt_of_lt_of_le hb h.size) (fun x => by rcases hg b x with y | y; exact hf y; omega)).trans (h.block b hb hf)⟩
theorem Upd.of_ext (F : Nat → Prop) (h : Ext w w') : Upd F w w' := ⟨h.os, h.tape, h.output, h.size, fun b hb _ => Below.block h b hb⟩
theorem Upd.to_ext {w0 : World} (h0 : Ext w0 w) (h : Upd F w w') (hf : ∀ b, F b → w0.heap.size ≤ b) : Ext w0 w' :=
  ⟨h.os.trans h0.os, h.tape.trans h0.tape, h.output.trans h0.output, Nat.le_trans (Ext.size h0) h.size,
    fun b hb => (h.block b (Nat.lt_of_lt_of_le hb (Ext.size h0)) (fun x => by have := hf b x; omega)).trans (Below.block h0 b hb)⟩
theorem Upd.ext_of (h : Upd (fun _ => False) w w') : Ext w w' := ⟨h.os, h.tape, h.output, h.size, fun b hb => h.block b hb (fun x => x)⟩
theorem Upd.alloc (h : Upd F w w') (o : Obj) : Upd F w (w'.alloc o) := h.trans' (Upd.of_ext (fun _ => False) ((Ext.refl w').alloc o)) (fun _ x => x.elim)
theorem Upd.drew (h : Upd F w w') : Upd F w w'.drew := ⟨h.os, h.tape, h.output, h.size, h.block⟩
theorem Upd.drewN (h : Upd F w w') (n : Nat) : Upd F w (w'.drewN n) := ⟨h.os, h.tape, h.output, h.size, h.block⟩
theorem Upd.setCell (h : Upd F w w') {p : Addr} (hp : F p.block ∨ w.heap.size ≤ p.block) (u : Value) : Upd F w (w'.setCell p u) := by
  refine ⟨h.os, h.tape, h.output, by simpa using h.size, fun b hb hf => ?_⟩
  rw [heap_setCell_other w' p b u (by rintro rfl; rcases hp with x | x; exact hf x; omega)]
  exact h.block b hb hf
theorem Upd.grown {row : Option Nat} (h : w.grownBy w' row) (hr : ∀ k, row = some k → F k) : Upd F w w' :=
  ⟨h.os, h.tape, h.output, h.size, fun b hb hf => h.block b hb (fun e => hf (hr b e.symm))⟩
theorem Upd.heap (h : Upd F w w') {g : Nat} {o : Obj} (hg : w.heap[g]? = some o) (hf : ¬ F g) : w'.heap[g]? = some o :=
  (h.block g (by rcases Nat.lt_or_ge g w.heap.size with x | x; exact x; rw [Array.getElem?_eq_none x] at hg; cases hg) hf).trans hg
theorem Upd.cell (h : Upd F w w') {p : Addr} {v : Value} (hp : w.cell? p = some v) (hf : ¬ F p.block) : w'.cell? p = some v :=
  (World.cell?_of_block (h.block p.block (block_lt_of_cell hp) hf)).trans hp
end

/-- The block that a slice lies in. -/
def blk : Value → Option Nat
  | .slice (some a) _ _ => some a.block
  | _ => none

/-- A slice that holds these values, with its room, in a block of cells of its own type. -/
def Mine (w : World) (e : TypeId) (v : Value) (xs : List Value) : Prop :=
  (v = .slice none 0 0 ∧ xs = []) ∨
  ∃ g o c cur, v = .slice (some ⟨g, o, none⟩) xs.length c ∧ w.heap[g]? = some (.cells cur e (0, 0)) ∧ o + c ≤ cur.size ∧ xs.length ≤ c ∧ c ≤ maxLen ∧
    ∀ (j : Nat) u, xs[j]? = some u → cur[o + j]? = some u

section
variable {F : Nat → Prop} {w w' : World} {e : TypeId} {v : Value} {xs : List Value}
theorem Mine.nil (w : World) (e : TypeId) : Mine w e (.slice none 0 0) [] := .inl ⟨rfl, rfl⟩
theorem Mine.lt (h : Mine w e v xs) {g : Nat} (hg : blk v = some g) : g < w.heap.size := by
  rcases h with ⟨rfl, _⟩ | ⟨g', o, c, cur, rfl, hh, _⟩
  · cases hg
  · cases hg
    rcases Nat.lt_or_ge g' w.heap.size with x | x
    · exact x
    · rw [Array.getElem?_eq_none x] at hh; cases hh
theorem Mine.upd (h : Mine w e v xs) (k : Upd F w w') (hf : ∀ g, blk v = some g → ¬ F g) : Mine w' e v xs := by
  rcases h with h | ⟨g, o, c, cur, rfl, hh, r⟩
  · exact .inl h
  · exact .inr ⟨g, o, c, cur, rfl, k.heap hh (hf g rfl), r⟩
theorem Mine.ext (h : Mine w e v xs) (k : Ext w w') : Mine w' e v xs := h.upd (Upd.of_ext (fun _ => False) k) (fun _ _ x => x)
theorem Mine.form (h : Mine w e v xs) : ∃ A c, v = .slice A xs.length c ∧ xs.length ≤ c ∧ c ≤ maxLen ∧ Cells w A xs ∧ (∀ a, A = some a → blk v = some a.block) ∧ (A = none → xs = []) := by
  rcases h with ⟨rfl, rfl⟩ | ⟨g, o, c, cur, rfl, hh, h1, h2, h3, h4⟩
  · exact ⟨none, 0, rfl, Nat.le_refl _, Nat.zero_le _, Cells.nil _ _, (fun _ h => by cases h), fun _ => rfl⟩
  · refine ⟨_, c, rfl, h2, h3, fun _ => ⟨g, o, rfl, fun j u hu => ?_⟩, fun _ h => by cases h; rfl, fun h => by cases h⟩
    rw [cell_of_row w g (o + j) cur e (0, 0) hh]
    exact h4 j u hu
theorem Mine.of_own {base : Nat} (h : Own w base e v xs) : Mine w e v xs := by
  obtain ⟨hl, h | ⟨g, cap, cur, hv, hg, hh, hn, hm, hs, ht⟩⟩ := h
  · obtain ⟨rfl, h0⟩ := h
    exact .inl ⟨rfl, List.eq_nil_of_length_eq_zero h0⟩
  · refine .inr ⟨g, 0, cap, cur, hv, hh, by omega, hn, hm, fun j u hu => ?_⟩
    have hj := (List.getElem?_eq_some_iff.1 hu).1
    rw [← ht, List.getElem?_take, if_pos (by omega)] at hu
    simpa using hu
/-- A new block. -/
theorem Mine.new (w : World) (e : TypeId) (cur : Array Value) (n c : Nat) (xs : List Value) (hn : xs.length = n) (hc : n ≤ c) (hs : c ≤ cur.size) (hm : c ≤ maxLen) (hx : ∀ (j : Nat) u, xs[j]? = some u → cur[j]? = some u) :
    Mine (w.alloc (.cells cur e)) e (.slice (some ⟨w.heap.size, 0, none⟩) n c) xs := by
  subst hn
  exact .inr ⟨_, 0, c, cur, rfl, heap_alloc_new w _, by omega, hc, hm, fun j u hu => by rw [Nat.zero_add]; exact hx j u hu⟩
/-- What is left of it behind a cut of its front. -/
theorem Mine.drop {A : Option Addr} {n c lo : Nat} (h : Mine w e (.slice A n c) xs) (hlo : lo ≤ xs.length) :
    Mine w e (.slice (if c = lo then A else A.map (·.add (lo * 1))) (n - lo) (c - lo)) (xs.drop lo) := by
  rcases h with ⟨hv, rfl⟩ | ⟨g, o, c', cur, hv, hh, h1, h2, h3, h4⟩
  · injection hv with e1 e2 e3
    subst e1; subst e2; subst e3
    simp only [List.length_nil, Nat.le_zero] at hlo
    subst hlo
    exact .inl ⟨rfl, rfl⟩
  · injection hv with e1 e2 e3
    subst e1; subst e2; subst e3
    by_cases hc : c = lo
    · subst hc
      rw [if_pos rfl]
      refine .inr ⟨g, o, c - c, cur, by rw [List.length_drop], hh, by omega, by rw [List.length_drop]; omega, by omega, fun j u hu => ?_⟩
      have := (List.getElem?_eq_some_iff.1 hu).1
      rw [List.length_drop] at this
      omega
    · rw [if_neg hc]
      refine .inr ⟨g, o + lo, c - lo, cur, ?_, hh, by omega, by rw [List.length_drop]; omega, by omega, fun j u hu => ?_⟩
      · rw [List.length_drop]
        simp [Addr.add_lit]
      · rw [List.getElem?_drop] at hu
        rw [Nat.add_assoc]
        exact h4 _ u hu
end

/-- Cells written in a row. -/
def putAt (cur : Array Value) : Nat → List Value → Array Value
  | _, [] => cur
  | o, v :: r => putAt (cur.setIfInBounds o v) (o + 1) r
theorem putAt_size : ∀ (vs : List Value) (cur : Array Value) (o : Nat), (putAt cur o vs).size = cur.size
  | [], _, _ => rfl
  | v :: r, cur, o => by rw [putAt, putAt_size r]; simp
theorem putAt_lo : ∀ (vs : List Value) (cur : Array Value) (o k : Nat), k < o → (putAt cur o vs)[k]? = cur[k]?
  | [], _, _, _, _ => rfl
  | v :: r, cur, o, k, h => by rw [putAt, putAt_lo r _ _ k (by omega), Array.getElem?_setIfInBounds, if_neg (by omega)]
theorem putAt_in : ∀ (vs : List Value) (cur : Array Value) (o j : Nat) (u : Value), o + vs.length ≤ cur.size → vs[j]? = some u → (putAt cur o vs)[o + j]? = some u
  | [], _, _, _, _, _, h => by simp at h
  | v :: r, cur, o, 0, u, hs, h => by
    simp only [List.length_cons] at hs
    rw [putAt, putAt_lo r _ _ _ (by omega), Array.getElem?_setIfInBounds, if_pos (by omega), if_pos (by omega)]
    simpa using h
  | v :: r, cur, o, j + 1, u, hs, h => by
    simp only [List.length_cons] at hs
    rw [putAt, show o + (j + 1) = o + 1 + j by omega]
    exact putAt_in r _ _ j u (by simp; omega) (by simpa using h)
theorem heap_setCells (b : Nat) (e : TypeId) : ∀ (vs : List Value) (o : Nat) (w : World) (cur : Array Value), w.heap[b]? = some (.cells cur e (0, 0)) → (w.setCells b o vs).heap[b]? = some (.cells (putAt cur o vs) e (0, 0))
  | [], _, _, _, h => h
  | v :: r, o, w, cur, h => heap_setCells b e r (o + 1) _ _ (heap_setCell_same w b o cur e v h)
theorem upd_setCells {F : Nat → Prop} (b : Nat) (hb : F b) : ∀ (vs : List Value) (o : Nat) (w : World), Upd F w (w.setCells b o vs)
  | [], _, w => Upd.refl F w
  | v :: r, o, w => ((Upd.refl F w).setCell (p := ⟨b, o, none⟩) (.inl hb) v).trans (upd_setCells b hb r (o + 1) _)

section
variable {P : Program} {w : World}
theorem run_append_mine (t ty e : TypeId) (i : TypeInfo) (z : Value) (bytes : Nat) (ht : P.underlying t = some (.slice e)) (hi : P.info? e = some i) (hz : i.zero = some z)
    (hsize : i.size = 1) (hby : i.bytes = bytes) (hzs : z.cells.size = 1)
    (v : Value) (xs : List Value) (hm : Mine w e v xs) (A : Option Addr) (c : Nat) (news : List Value) (hx : Cells w A news) (h1 : ∀ u ∈ news, u.oneCell' = true)
    (hlen : xs.length + news.length ≤ 4294967296) (hb8 : bytes ≤ 32768) :
    ∃ v' w', (Builtin.append_ #[t, t] ty #[v, .slice A news.length c]).run P w = .ok v' w' ∧ Mine w' e v' (xs ++ news) ∧ Upd (fun b => blk v = some b) w w' ∧
      (blk v' = blk v ∨ blk v' = some w.heap.size) := by
  have hbytes : (xs.length + news.length) * bytes ≤ 140737488355328 := Nat.le_trans (Nat.mul_le_mul hlen hb8) (by decide)
  by_cases h0 : news.length = 0
  · have hn : news = [] := List.eq_nil_of_length_eq_zero h0
    subst hn
    refine ⟨v, w, ?_, by simpa using hm, Upd.refl _ _, .inl rfl⟩
    rcases hm with ⟨rfl, _⟩ | ⟨g, o, c', cur, rfl, _, _, hnc, _⟩
    · cases A <;> simp [Builtin.append_, run_underlying ht, sizeOf, typeInfo, hi, Builtin.lenOf, Builtin.firstCells, loadCells, loadCellsFrom]
    · cases A <;> simp [Builtin.append_, run_underlying ht, sizeOf, typeInfo, hi, Builtin.lenOf, Builtin.firstCells, hnc, storeCells, loadCells, loadCellsFrom]
  · obtain ⟨b, off, rfl, _⟩ := hx (by omega)
    have hnew := hx.news rfl (by omega)
    rcases hm with ⟨rfl, rfl⟩ | ⟨g, o, c', cur, rfl, hh, hs, hnc, hcm, hcur⟩
    · have hr := run_append_nil (P := P) w t ty e i z ht hi hz ⟨b, off, none⟩ news.length c news (by rw [hsize, Nat.mul_one]) hnew (by omega) (by omega) (by rw [hby]; simp at hbytes; omega)
      have hge := grownCap_ge w news.length 0 e
      have hle := grownCap_le_maxLen w news.length 0 e (by simp only [maxLen]; omega)
      refine ⟨_, _, hr, Mine.new w.drew e _ _ _ _ (by simp) hge ?_ hle ?_, (Upd.refl _ w).drew.alloc _, .inr rfl⟩
      · simp only [Array.size_append, List.size_toArray, size_zeroCells, hzs]; omega
      · intro j u hu
        rw [List.nil_append] at hu
        rw [Array.getElem?_append_left (by simpa using (List.getElem?_eq_some_iff.1 hu).1)]
        simpa using hu
    · by_cases hroom : xs.length + news.length ≤ c'
      · have hr := run_append_room_cells (P := P) w t ty e i ht hi g o xs.length c' ⟨b, off, none⟩ news.length c news (by rw [hsize, Nat.mul_one]) hnew h1 hroom
          (fun j hj => by rw [hsize, Nat.mul_one, cell_of_row w g _ cur e (0, 0) hh, Array.getElem?_eq_getElem (by omega)]; rfl)
          (fun j _ => frozen_of_row w g _ cur e hh)
        rw [hsize, Nat.mul_one] at hr
        refine ⟨_, _, hr, .inr ⟨g, o, c', putAt cur (o + xs.length) news, by rw [List.length_append], heap_setCells g e news _ w cur hh, by rw [putAt_size]; exact hs, by rw [List.length_append]; exact hroom, hcm, fun j u hu => ?_⟩,
          upd_setCells (F := fun b => blk (Value.slice (some ⟨g, o, none⟩) xs.length c') = some b) g rfl news _ w, .inl rfl⟩
        by_cases hj : j < xs.length
        · rw [List.getElem?_append_left hj] at hu
          rw [putAt_lo _ _ _ _ (by omega)]
          exact hcur j u hu
        · rw [List.getElem?_append_right (by omega)] at hu
          have := putAt_in news cur (o + xs.length) (j - xs.length) u (by omega) hu
          rwa [show o + xs.length + (j - xs.length) = o + j by omega] at this
      · have hold : ∀ j u, xs[j]? = some u → w.cell? ((⟨g, o, none⟩ : Addr).add j) = some u := fun j u hu => by
          rw [Addr.add_lit, cell_of_row w g (o + j) cur e (0, 0) hh]
          exact hcur j u hu
        have hr := run_append_grow (P := P) w t ty e i z ht hi hz ⟨g, o, none⟩ xs.length c' xs (by rw [hsize, Nat.mul_one]) hold ⟨b, off, none⟩ news.length c news (by rw [hsize, Nat.mul_one]) hnew (by omega) (by omega)
          (growslice_fits (by omega) (by rw [hby]; exact hbytes))
        have hge := grownCap_ge w (xs.length + news.length) c' e
        have hle := grownCap_le_maxLen w (xs.length + news.length) c' e (by simp only [maxLen]; omega)
        refine ⟨_, _, hr, Mine.new w.drew e _ _ _ _ (by simp) hge ?_ hle ?_, (Upd.refl _ w).drew.alloc _, .inr rfl⟩
        · simp only [Array.size_append, List.size_toArray, size_zeroCells, hzs]; omega
        · intro j u hu
          rw [Array.getElem?_append_left (by simpa using (List.getElem?_eq_some_iff.1 hu).1)]
          simpa using hu

theorem wpList_append_mine {ops : Array Oper} {rest : List Oper} {o : Oper} {a : Act} {Q : Exit → Act → World → Prop} (hgd : o.guard = none) (s x : Operand) (t : TypeId)
    (ho : o.op = .call { callee := .builtin .append, args := #[s, x], argTypes := #[t, t] })
    (e : TypeId) (i : TypeInfo) (z : Value) (bytes : Nat) (ht : P.underlying t = some (.slice e)) (hi : P.info? e = some i) (hz : i.zero = some z)
    (hsize : i.size = 1) (hby : i.bytes = bytes) (hzs : z.cells.size = 1)
    (v : Value) (xs : List Value) (hs : a.eval s = v) (hm : Mine w e v xs) (A : Option Addr) (m c : Nat) (news : List Value) (hxv : a.eval x = .slice A m c) (hm' : news.length = m) (hx : Cells w A news) (h1 : ∀ u ∈ news, u.oneCell' = true)
    (hlen : xs.length + news.length ≤ 4294967296) (hb8 : bytes ≤ 32768)
    (h : ∀ v' w', Mine w' e v' (xs ++ news) → Upd (fun b => blk v = some b) w w' → (blk v' = blk v ∨ blk v' = some w.heap.size) → wpList P ops Q rest (a.put o.dst v') w') : wpList P ops Q (o :: rest) a w := by
  subst hm'
  obtain ⟨v', w', hr, h2, h3, h4⟩ := run_append_mine (P := P) t o.type e i z bytes ht hi hz hsize hby hzs v xs hm A c news hx h1 hlen hb8
  exact wpList_append_run hgd s x t t ho v _ v' w' hs hxv hr (h v' w' h2 h3 h4)
/-- The same as one step of a region that draws its order. -/
theorem step_append_mine {ops : Array Oper} {o : Oper} {a : Act} {K : Act → World → Prop} {Q : Exit → Act → World → Prop} {E : Prop} (hgd : o.guard = none) (s x : Operand) (t : TypeId)
    (ho : o.op = .call { callee := .builtin .append, args := #[s, x], argTypes := #[t, t] })
    (e : TypeId) (i : TypeInfo) (z : Value) (bytes : Nat) (ht : P.underlying t = some (.slice e)) (hi : P.info? e = some i) (hz : i.zero = some z)
    (hsize : i.size = 1) (hby : i.bytes = bytes) (hzs : z.cells.size = 1)
    (v : Value) (xs : List Value) (hs : a.eval s = v) (hm : Mine w e v xs) (A : Option Addr) (m c : Nat) (news : List Value) (hxv : a.eval x = .slice A m c) (hm' : news.length = m) (hx : Cells w A news) (h1 : ∀ u ∈ news, u.oneCell' = true)
    (hlen : xs.length + news.length ≤ 4294967296) (hb8 : bytes ≤ 32768)
    (h : ∀ v' w', Mine w' e v' (xs ++ news) → Upd (fun b => blk v = some b) w w' → (blk v' = blk v ∨ blk v' = some w.heap.size) → K (a.put o.dst v') w') :
    if Region.wanted o (yielded ops a.tmps) = true then Oper.wp P o a w K Q else E := by
  subst hm'
  have hw : Region.wanted o (yielded ops a.tmps) = true := by simp [Region.wanted, hgd]
  rw [if_pos hw]
  obtain ⟨v', w', hr, h2, h3, h4⟩ := run_append_mine (P := P) t o.type e i z bytes ht hi hz hsize hby hzs v xs hm A c news hx h1 hlen hb8
  unfold Oper.wp
  simp [execOp, ho, resolve, invoke, builtin, hs, hxv, hr, Result.andThen]
  exact h v' w' h2 h3 h4
end
end Go.Proofs.Ytgpnmmgoachajaa
/- The disk in memory: a sector as a value; the map of what was seen; the rows of sectors and of writes that wait. -/
namespace Go.Proofs.Ytgpnmmgoachajaa
open Go.RowKit
open Go.Proofs

theorem oct_inj {a b : UInt8} (h : oct a = oct b) : a = b := by
  injection h with _ h
  exact UInt8.toNat_inj.1 (by omega)
theorem octs_injD : ∀ {l m : List UInt8}, octs l = octs m → l = m
  | [], [], _ => rfl
  | [], _ :: _, h => by cases h
  | _ :: _, [], h => by cases h
  | a :: l, b :: m, h => by
    have h' : oct a :: octs l = oct b :: octs m := h
    injection h' with h1 h2
    rw [oct_inj h1, octs_injD h2]
/-- A sector's octets as a value. -/
abbrev secV (l : List UInt8) : Value := .agg (octs l).toArray
theorem secV_inj {l m : List UInt8} (h : secV l = secV m) : l = m := by
  injection h with h
  have := congrArg Array.toList h
  exact octs_injD (by simpa using this)
open Classical in
/-- How such a value reads. -/
noncomputable def secR (v : Value) : Option (DataW Unit × List MemPlace) := if h : ∃ l : List UInt8, v = secV l then some (.lit (.string h.choose), []) else none
theorem secR_mk (l : List UInt8) : secR (secV l) = some (.lit (.string l), []) := by
  have h : ∃ m : List UInt8, secV l = secV m := ⟨l, rfl⟩
  unfold secR
  rw [dif_pos h, ← secV_inj h.choose_spec]
theorem secR_inv {v : Value} {d : DataW Unit} {ps : List MemPlace} (h : secR v = some (d, ps)) : ∃ l, v = secV l ∧ d = .lit (.string l) := by
  unfold secR at h
  split at h
  · rename_i g
    injection h with h
    injection h with h1 h2
    exact ⟨g.choose, g.choose_spec, h1.symm⟩
  · cases h

set_option maxRecDepth 100000 in
theorem zero_sec (w : World) : (zeroValue 91).run Try.prog w = .ok (secV (List.replicate 128 0)) w := by kernel_rfl
theorem zero_ex : ∃ Z : List UInt8, Z = List.replicate 128 0 ∧ ∀ w, (zeroValue 91).run Try.prog w = .ok (secV Z) w := ⟨_, rfl, zero_sec⟩
theorem key_int (a : Nat) (h : a < 9223372036854775808) : keyOf Try.prog 3 (.int .i64 (a : Int)) = some (.int .i64 (a : Int)) :=
  Maps.keyOf_int_mk Try.underlying3 (by simp [Lit.wf, IntKind.min, IntKind.max, IntKind.signed, IntKind.bits]; omega)
theorem keyed3 : Maps.Keyed Try.prog 3 := Maps.int_keyed Try.underlying3

/-- The map holds the latest write that waits, sector by sector. -/
def Seen (w : World) (M : Nat) (q : List (Nat × List UInt8)) : Prop :=
  ∃ D, w.ownsMap Try.prog 3 secR M q.length D ∧ ∀ a : Nat, a < 9223372036854775808 → Maps.has D (.int .i64 (a : Int)) = (lastAt q a).isSome ∧ ∀ z, D.atKey (.int .i64 (a : Int)) z = (lastAt q a).elim z (fun l => .lit (.string l))
section
variable {w w' : World} {M : Nat} {q : List (Nat × List UInt8)}
theorem Seen.lt (h : Seen w M q) : M < w.heap.size := h.choose_spec.1.lt
theorem Seen.kept (h : Seen w M q) (k : w'.heap[M]? = w.heap[M]?) : Seen w' M q := by
  obtain ⟨D, ⟨es, clock, hb, r⟩, h2⟩ := h
  exact ⟨D, ⟨es, clock, k.trans hb, r⟩, h2⟩
theorem Seen.ext (h : Seen w M q) (x : Ext w w') : Seen w' M q := h.kept (Below.block x M h.lt)
theorem Seen.upd {F : Nat → Prop} (h : Seen w M q) (x : Upd F w w') (hf : ¬ F M) : Seen w' M q := h.kept (x.block M h.lt hf)
theorem Seen.new (w : World) : Seen (w.alloc (.map #[] 0)) w.heap.size [] :=
  ⟨.map [], World.ownsMap_made w Try.prog 3 secR, fun _ _ => ⟨rfl, fun _ => rfl⟩⟩
set_option maxRecDepth 100000 in
theorem Seen.look (h : Seen w M q) (a : Nat) (ha : a < 9223372036854775808) :
    ∃ l, (Instr.lookup 82 (.map (some M)) (.int .i64 (a : Int)) true).run Try.prog w = .ok (.tuple #[secV l, .bool (lastAt q a).isSome]) w ∧ l = (lastAt q a).getD (List.replicate 128 0) := by
  obtain ⟨D, ho, hd⟩ := h
  obtain ⟨h1, h2⟩ := hd a ha
  obtain ⟨Z, hZ, hz⟩ := zero_ex
  obtain ⟨v, ps, hr, hv⟩ := ho.look_ok keyed3 Try.underlying82 (hz w) (secR_mk Z) (key_int a ha)
  obtain ⟨l, rfl, hl⟩ := secR_inv hv
  rw [h1] at hr
  refine ⟨l, hr, ?_⟩
  have := (h2 (.lit (.string Z))).symm.trans hl
  rw [← hZ]
  cases hq : lastAt q a with
  | some m =>
    rw [hq] at this
    injection this with this
    injection this with this
    exact this.symm
  | none =>
    rw [hq] at this
    injection this with this
    injection this with this
    exact this.symm
set_option maxRecDepth 100000 in
theorem Seen.put (h : Seen w M q) (a : Nat) (l : List UInt8) (ha : a < 9223372036854775808) (hq : q.length < maxLen) :
    ∃ w', (Instr.mapUpdate 82 (.map (some M)) (.int .i64 (a : Int)) (secV l)).run Try.prog w = .ok () w' ∧ Seen w' M (q ++ [(a, l)]) ∧ Upd (fun b => b = M) w w' := by
  obtain ⟨D, ho, hd⟩ := h
  obtain ⟨w', hr, ho', ht⟩ := ho.store keyed3 Try.underlying82 hq (key_int a ha) (secR_mk l)
  refine ⟨w', hr, ⟨D.put (.int .i64 (a : Int)) (.lit (.string l)), by rw [List.length_append]; exact ho', fun b hb => ?_⟩, ?_⟩
  · rw [lastAt_snoc]
    by_cases hab : a = b
    · subst hab
      rw [if_pos rfl]
      refine ⟨Maps.has_put_same ho.isMap (keyed3.key (key_int a ha)) _, fun z => ?_⟩
      exact Maps.atKey_put_same ho.isMap (keyed3.key (key_int a ha)) _ _
    · have hne : (Lit.int .i64 (b : Int)) ≠ .int .i64 (a : Int) := fun e => by
        injection e with _ e
        omega
      rw [if_neg hab, Maps.has_put_other hne]
      refine ⟨(hd b hb).1, fun z => ?_⟩
      rw [Maps.atKey_put_other hne]
      exact (hd b hb).2 z
  · have := ht.grown
    exact Upd.grown this (fun k e => by injection e with e; exact e.symm)
theorem Seen.clear (h : Seen w M q) (ty : TypeId) : ∃ w', (Builtin.clear_ #[82] ty #[.map (some M)]).run Try.prog w = .ok (.tuple #[]) w' ∧ Seen w' M [] ∧ Upd (fun b => b = M) w w' := by
  obtain ⟨D, ⟨es, clock, hb, F, hs, hD⟩, _⟩ := h
  refine ⟨ChangeMaps.setBlock w M (.map #[] clock), ?_, ⟨.map [], ⟨#[], clock, ChangeMaps.heap_setBlock_same hb _, ⟨by simp, MapKept.stamped_empty _, by simp⟩, Nat.le_refl _, rfl⟩, fun _ _ => ⟨rfl, fun _ => rfl⟩⟩, ?_⟩
  · simp [Builtin.clear_, run_underlying Try.underlying82, MapKept.run_getObj_map hb, MapKept.run_setObj_map _ hb, Result.andThen, ChangeMaps.setBlock]
  · exact Upd.grown (row := some M) ⟨rfl, rfl, rfl, by simp [ChangeMaps.setBlock], fun i _ hi => ChangeMaps.heap_setBlock_other hb _ (fun e => hi (by rw [e]))⟩ (fun k e => by injection e with e; exact e.symm)
end
end Go.Proofs.Ytgpnmmgoachajaa
/- The disk in memory: rows of equal length, one behind the other; the disk's blocks; what leaves them as they are. -/
namespace Go.Proofs.Ytgpnmmgoachajaa
open Go.RowKit
open Go.Proofs

section
variable {α : Type}
theorem flat_len (n : Nat) : ∀ (ls : List (List α)), (∀ x ∈ ls, x.length = n) → ls.flatten.length = n * ls.length
  | [], _ => by simp
  | x :: ls, h => by
    rw [List.flatten_cons, List.length_append, h x (by simp), flat_len n ls (fun y hy => h y (by simp [hy])), List.length_cons, Nat.mul_succ, Nat.add_comm]
theorem flat_at (n : Nat) : ∀ (ls : List (List α)) (i : Nat) (x : List α), (∀ x ∈ ls, x.length = n) → ls[i]? = some x → (ls.flatten.drop (n * i)).take n = x
  | [], i, x, _, h => by cases h
  | y :: ls, 0, x, hl, h => by
    have h' : y = x := by simpa using h
    subst h'
    have := hl y (by simp)
    rw [Nat.mul_zero, List.drop_zero, List.flatten_cons, List.take_append_of_le_length (by omega), List.take_of_length_le (by omega)]
  | y :: ls, i + 1, x, hl, h => by
    have h1 := hl y (by simp)
    rw [List.flatten_cons, show n * (i + 1) = y.length + n * i by rw [h1, Nat.mul_succ, Nat.add_comm], ← List.drop_drop, List.drop_left]
    exact flat_at n ls i x (fun z hz => hl z (by simp [hz])) (by simpa using h)
theorem flat_set (n : Nat) : ∀ (ls : List (List α)) (i : Nat) (y : List α), (∀ x ∈ ls, x.length = n) → i < ls.length → (ls.set i y).flatten = ls.flatten.take (n * i) ++ y ++ ls.flatten.drop (n * i + n)
  | [], i, y, _, h => by simp at h
  | x :: ls, 0, y, hl, _ => by
    have := hl x (by simp)
    simp [this]
  | x :: ls, i + 1, y, hl, h => by
    have h1 := hl x (by simp)
    have e : n * (i + 1) = x.length + n * i := by rw [h1, Nat.mul_succ, Nat.add_comm]
    rw [List.set_cons_succ, List.flatten_cons, flat_set n ls i y (fun z hz => hl z (by simp [hz])) (by simpa using h), List.flatten_cons, e, List.take_length_add_append, Nat.add_assoc, List.drop_length_add_append]
    simp
end
/-- Cells put into a row. -/
theorem putAt_list : ∀ (vs : List Value) (cur : Array Value) (o : Nat), o + vs.length ≤ cur.size → (putAt cur o vs).toList = cur.toList.take o ++ vs ++ cur.toList.drop (o + vs.length)
  | vs, cur, o, h => by
    apply List.ext_getElem?
    intro i
    rw [Array.getElem?_toList]
    have hsz : cur.toList.length = cur.size := Array.length_toList
    by_cases h1 : i < o
    · rw [putAt_lo vs cur o i h1, List.append_assoc, List.getElem?_append_left (by rw [List.length_take]; omega), List.getElem?_take, if_pos h1, Array.getElem?_toList]
    · by_cases h2 : i < o + vs.length
      · have := putAt_in vs cur o (i - o) vs[i - o] h (List.getElem?_eq_getElem (by omega))
        rw [show o + (i - o) = i by omega] at this
        rw [this, List.append_assoc, List.getElem?_append_right (by rw [List.length_take]; omega), List.length_take, Nat.min_eq_left (by omega), List.getElem?_append_left (by omega), List.getElem?_eq_getElem (by omega)]
      · have hhi : ∀ (vs : List Value) (cur : Array Value) (o k : Nat), o + vs.length ≤ k → (putAt cur o vs)[k]? = cur[k]? := by
          intro vs
          induction vs with
          | nil => intro cur o k _; rfl
          | cons v vs ih =>
            intro cur o k hk
            rw [List.length_cons] at hk
            rw [putAt, ih _ _ _ (by omega), Array.getElem?_setIfInBounds_ne (by omega)]
        rw [hhi vs cur o i (by omega), List.append_assoc, List.getElem?_append_right (by rw [List.length_take]; omega), List.length_take, Nat.min_eq_left (by omega), List.getElem?_append_right (by omega), List.getElem?_drop, Array.getElem?_toList]
        congr 1
        omega
theorem octs_flat (ls : List (List UInt8)) : octs ls.flatten = (ls.map octs).flatten := by simp only [octs, List.map_flatten]; rfl
theorem octs_set (ls : List (List UInt8)) (i : Nat) (y : List UInt8) (h : ∀ x ∈ ls, x.length = 128) (hi : i < ls.length) (hy : y.length = 128) :
    putAt (octs ls.flatten).toArray (128 * i) (octs y) = (octs (ls.set i y).flatten).toArray := by
  have hl := flat_len 128 ls h
  apply Array.toList_inj.1
  rw [putAt_list _ _ _ (by rw [List.size_toArray, length_octs, length_octs, hl, hy]; omega)]
  have e := flat_set 128 ls i y h hi
  rw [e]
  simp [octs, hy, List.map_take, List.map_drop]

/-- A write that waits, as cells. -/
def wCells (p : Nat × List UInt8) : List Value := .int .i64 (p.1 : Int) :: octs p.2
theorem length_wCells (p : Nat × List UInt8) (h : p.2.length = 128) : (wCells p).length = 129 := by rw [wCells, List.length_cons, length_octs, h]
def qCells (q : List (Nat × List UInt8)) : List Value := (q.map wCells).flatten
theorem qCells_snoc (q : List (Nat × List UInt8)) (p : Nat × List UInt8) : qCells (q ++ [p]) = qCells q ++ wCells p := by simp [qCells]

/-- A disk: its block, that of its sectors, of the map, and the row of the writes that wait. -/
structure DiskV (w : World) (p S M : Nat) (qv : Value) (s : Dk) : Prop where
  ok : DkOk s
  calls : -1 ≤ s.calls ∧ s.calls ≤ 9223372036854775807
  big : s.safe.length ≤ 65536
  me : w.heap[p]? = some (.cells #[.slice (some ⟨S, 0, none⟩) s.safe.length s.safe.length, .map (some M), qv, .int .i64 s.calls, .int .i64 s.writes] 85 (0, 0))
  safe : w.heap[S]? = some (.cells (octs s.safe.flatten).toArray 91 (0, 0))
  seen : Seen w M s.queue
  queue : w.ownsRow 0 93 129 qv s.queue.length (qCells s.queue)
section
variable {w w' : World} {p S M : Nat} {qv : Value} {s : Dk}
theorem DiskV.pS (h : DiskV w p S M qv s) : p ≠ S := fun e => by
  have := h.me.symm.trans ((congrArg (fun b => w.heap[b]?) e).trans h.safe)
  injection this with this
  injection this with _ h2
  exact absurd h2 (by decide)
theorem DiskV.pM (h : DiskV w p S M qv s) : p ≠ M := fun e => by
  obtain ⟨D, ⟨es, clock, hb, _⟩, _⟩ := h.seen
  have := h.me.symm.trans ((congrArg (fun b => w.heap[b]?) e).trans hb)
  injection this with this
  cases this
theorem DiskV.sM (h : DiskV w p S M qv s) : S ≠ M := fun e => by
  obtain ⟨D, ⟨es, clock, hb, _⟩, _⟩ := h.seen
  have := h.safe.symm.trans ((congrArg (fun b => w.heap[b]?) e).trans hb)
  injection this with this
  cases this
theorem DiskV.row (h : DiskV w p S M qv s) {g : Nat} (hg : qv.ownBlock = some g) : g ≠ p ∧ g ≠ S ∧ g ≠ M := by
  rcases h.queue.2 with ⟨e, _⟩ | ⟨g', cap, cur, e, _, hb, _⟩
  · rw [e] at hg; cases hg
  · rw [e] at hg
    injection hg with hg
    have hg : g' = g := hg
    subst hg
    refine ⟨fun x => ?_, fun x => ?_, fun x => ?_⟩
    · subst x
      have := h.me.symm.trans hb
      injection this with this
      injection this with _ h2
      exact absurd h2 (by decide)
    · subst x
      have := h.safe.symm.trans hb
      injection this with this
      injection this with _ h2
      exact absurd h2 (by decide)
    · subst x
      obtain ⟨D, ⟨es, clock, hb2, _⟩, _⟩ := h.seen
      have := hb2.symm.trans hb
      injection this with this
      cases this
theorem row_keep {base size n : Nat} {t : TypeId} {v : Value} {xs : List Value} (h : w.ownsRow base t size v n xs) (k : ∀ g, v.ownBlock = some g → w'.heap[g]? = w.heap[g]?) : w'.ownsRow base t size v n xs := by
  obtain ⟨hl, h | ⟨g, cap, cur, hv, hg, hh, r⟩⟩ := h
  · exact ⟨hl, .inl h⟩
  · exact ⟨hl, .inr ⟨g, cap, cur, hv, hg, (k g (by rw [hv]; rfl)).trans hh, r⟩⟩
theorem DiskV.keep (h : DiskV w p S M qv s) (h1 : w'.heap[p]? = w.heap[p]?) (h2 : w'.heap[S]? = w.heap[S]?) (h3 : w'.heap[M]? = w.heap[M]?) (h4 : ∀ g, qv.ownBlock = some g → w'.heap[g]? = w.heap[g]?) : DiskV w' p S M qv s :=
  ⟨h.ok, h.calls, h.big, h1.trans h.me, h2.trans h.safe, h.seen.kept h3, row_keep h.queue h4⟩
/-- The cells of its block. -/
theorem DiskV.cells (h : DiskV w p S M qv s) : w.cell? ⟨p, 0, none⟩ = some (.slice (some ⟨S, 0, none⟩) s.safe.length s.safe.length) ∧ w.cell? ⟨p, 1, none⟩ = some (.map (some M)) ∧ w.cell? ⟨p, 2, none⟩ = some qv ∧ w.cell? ⟨p, 3, none⟩ = some (.int .i64 s.calls) ∧ w.cell? ⟨p, 4, none⟩ = some (.int .i64 s.writes) ∧ ∀ j, w.frozen? ⟨p, j, none⟩ = false := by
  refine ⟨?_, ?_, ?_, ?_, ?_, fun j => frozen_of_row w p j _ _ h.me⟩ <;> (rw [cell_of_row w p _ _ _ _ h.me]; rfl)
theorem DiskV.lt (h : DiskV w p S M qv s) : p < w.heap.size ∧ S < w.heap.size ∧ M < w.heap.size ∧ ∀ g, qv.ownBlock = some g → g < w.heap.size :=
  ⟨(Array.getElem?_eq_some_iff.1 h.me).1, (Array.getElem?_eq_some_iff.1 h.safe).1, h.seen.lt, fun _ e => (World.ownsRow.lt h.queue _ e).2⟩
theorem DiskV.ext (h : DiskV w p S M qv s) (x : Ext w w') : DiskV w' p S M qv s :=
  h.keep (Below.block x _ h.lt.1) (Below.block x _ h.lt.2.1) (Below.block x _ h.lt.2.2.1) (fun g e => Below.block x _ (h.lt.2.2.2 g e))
/-- The blocks of it. -/
def dkB (p S M : Nat) (qv : Value) (b : Nat) : Prop := b = p ∨ b = S ∨ b = M ∨ qv.ownBlock = some b
/-- A disk of which no block is among the kept ones. -/
def Disk (K : Nat → Prop) (w : World) (p : Nat) (s : Dk) : Prop := ∃ S M qv, DiskV w p S M qv s ∧ ∀ b, dkB p S M qv b → ¬ K b
theorem Disk.ext {K : Nat → Prop} (h : Disk K w p s) (x : Ext w w') : Disk K w' p s := by
  obtain ⟨S, M, qv, h, k⟩ := h
  exact ⟨S, M, qv, h.ext x, k⟩
theorem Disk.drew {K : Nat → Prop} (h : Disk K w p s) : Disk K w.drew p s := h.ext ((Ext.refl w).drew)
/-- More is kept: what was made since. -/
theorem Disk.more {K : Nat → Prop} (h : Disk K w p s) (x : Ext w w') : Disk (fun b => K b ∨ w.heap.size ≤ b) w' p s := by
  obtain ⟨S, M, qv, h, k⟩ := h
  obtain ⟨l1, l2, l3, l4⟩ := h.lt
  refine ⟨S, M, qv, h.ext x, fun b hb => ?_⟩
  rintro (h1 | h1)
  · exact k b hb h1
  · rcases hb with rfl | rfl | rfl | hb
    · omega
    · omega
    · omega
    · have := l4 b hb; omega
theorem Disk.less {K K' : Nat → Prop} (h : Disk K w p s) (k : ∀ b, K' b → K b) : Disk K' w p s := by
  obtain ⟨S, M, qv, h, g⟩ := h
  exact ⟨S, M, qv, h, fun b hb x => g b hb (k b x)⟩
end
end Go.Proofs.Ytgpnmmgoachajaa
/- The disk's small functions: there, call, Size, Waiting, Writes, Limit, done. -/
namespace Go.Proofs.Ytgpnmmgoachajaa
open Go.RowKit
open Go.Proofs

def thereOf (len : Nat) (at_ n : Int) : Int := if 0 ≤ n ∧ 0 ≤ at_ ∧ n ≤ (len : Int) ∧ at_ ≤ (len : Int) - n then 0 else 2
set_option maxRecDepth 100000 in
theorem dk46_any {w : World} {p S M : Nat} {qv : Value} {s : Dk} (h : DiskV w p S M qv s) (at_ n : Int) : Calls Try.prog 46 #[.pointer (some ⟨p, 0, none⟩), .int .i64 at_, .int .i64 n] w fun e w' => e = .returned (.int .i64 (thereOf s.safe.length at_ n)) ∧ w = w' := by
  obtain ⟨c0, c1, c2, c3, c4, cf⟩ := h.cells
  have hb := h.big
  obtain ⟨L, hL⟩ : ∃ L, L = s.safe.length := ⟨_, rfl⟩
  rw [← hL] at c0 hb ⊢
  unfold thereOf
  clear hL h c1 c2 c3 c4 cf
  by_cases a1 : n < 0
  · rw [if_neg (by omega)]
    have g1 : (n < 0) = True := eq_true a1
    go_enter Try.func46, Try.ntmps46
    go_wp2
    go_ret
    exact ⟨rfl, rfl⟩
  · have g1 : (n < 0) = False := eq_false a1
    by_cases a2 : at_ < 0
    · rw [if_neg (by omega)]
      have g2 : (at_ < 0) = True := eq_true a2
      clear a1 a2
      go_enter Try.func46, Try.ntmps46
      go_wp2
      go_ret
      exact ⟨rfl, rfl⟩
    · have g2 : (at_ < 0) = False := eq_false a2
      by_cases a3 : (L : Int) < n
      · rw [if_neg (by omega)]
        have g3 : ((L : Int) < n) = True := eq_true a3
        clear a1 a2 a3
        go_enter Try.func46, Try.ntmps46
        go_wp2
        go_ret
        exact ⟨rfl, rfl⟩
      · have g3 : ((L : Int) < n) = False := eq_false a3
        have g5 : IntKind.i64.wrap ((L : Int) - n) = (L : Int) - n := IntWalk.i64_in _ (by omega)
        by_cases a4 : (L : Int) - n < at_
        · rw [if_neg (by omega)]
          have g4 : ((L : Int) - n < at_) = True := eq_true a4
          clear a1 a2 a3 a4
          go_enter Try.func46, Try.ntmps46
          go_wp2
          go_ret
          exact ⟨rfl, rfl⟩
        · rw [if_pos (by omega)]
          have g4 : ((L : Int) - n < at_) = False := eq_false a4
          clear a1 a2 a3 a4
          go_enter Try.func46, Try.ntmps46
          go_wp2
          go_ret
          exact ⟨rfl, rfl⟩

/-- The disk with other calls left. -/
theorem DiskV.setCalls {w : World} {p S M : Nat} {qv : Value} {s : Dk} (h : DiskV w p S M qv s) (c : Int) (hc : -1 ≤ c ∧ c ≤ 9223372036854775807) : DiskV (w.setCell ⟨p, 3, none⟩ (.int .i64 c)) p S M qv { s with calls := c } := by
  have hu : Upd (fun b => b = p) w (w.setCell ⟨p, 3, none⟩ (.int .i64 c)) := (Upd.refl (fun b => b = p) w).setCell (.inl rfl) _
  refine ⟨⟨h.ok.safe, h.ok.queue⟩, hc, h.big, ?_, hu.heap h.safe (fun e => h.pS e.symm), h.seen.upd hu (fun e => h.pM e.symm), row_keep h.queue (fun g hg => hu.block g (h.lt.2.2.2 g hg) (h.row hg).1)⟩
  have := heap_setCell_same w p 3 _ _ (.int .i64 c) h.me
  simp only [List.setIfInBounds_toArray, List.set_cons_succ, List.set_cons_zero] at this
  exact this
theorem DiskV.setWrites {w : World} {p S M : Nat} {qv : Value} {s : Dk} (h : DiskV w p S M qv s) (c : Int) : DiskV (w.setCell ⟨p, 4, none⟩ (.int .i64 c)) p S M qv { s with writes := c } := by
  have hu : Upd (fun b => b = p) w (w.setCell ⟨p, 4, none⟩ (.int .i64 c)) := (Upd.refl (fun b => b = p) w).setCell (.inl rfl) _
  refine ⟨⟨h.ok.safe, h.ok.queue⟩, h.calls, h.big, ?_, hu.heap h.safe (fun e => h.pS e.symm), h.seen.upd hu (fun e => h.pM e.symm), row_keep h.queue (fun g hg => hu.block g (h.lt.2.2.2 g hg) (h.row hg).1)⟩
  have := heap_setCell_same w p 4 _ _ (.int .i64 c) h.me
  simp only [List.setIfInBounds_toArray, List.set_cons_succ, List.set_cons_zero] at this
  exact this
theorem callTo_range (c : Int) (h : -1 ≤ c ∧ c ≤ 9223372036854775807) : -1 ≤ callTo c ∧ callTo c ≤ 9223372036854775807 := by unfold callTo; split <;> omega

set_option maxRecDepth 100000 in
theorem dk47_off {K : Nat → Prop} {w : World} {p : Nat} {s : Dk} (h : Disk K w p s) (h0 : s.calls = 0) : Calls Try.prog 47 #[.pointer (some ⟨p, 0, none⟩)] w fun e w' => e = .returned (.int .i64 10) ∧ w = w' := by
  obtain ⟨S, M, qv, h, k⟩ := h
  obtain ⟨c0, c1, c2, c3, c4, cf⟩ := h.cells
  rw [h0] at c3
  go_enter Try.func47, Try.ntmps47
  go_wp2
  go_ret
  exact ⟨rfl, rfl⟩
set_option maxRecDepth 100000 in
theorem dk47_on {K : Nat → Prop} {w : World} {p : Nat} {s : Dk} (h : Disk K w p s) (h0 : s.calls ≠ 0) :
    Calls Try.prog 47 #[.pointer (some ⟨p, 0, none⟩)] w fun e w' => e = .returned (.int .i64 0) ∧ Disk K w' p { s with calls := callTo s.calls } ∧ Upd (fun b => ¬ K b) w w' := by
  obtain ⟨S, M, qv, h, k⟩ := h
  obtain ⟨c0, c1, c2, c3, c4, cf⟩ := h.cells
  have hc := h.calls
  have f3 := cf 3
  have hx := h.setCalls (callTo s.calls) (callTo_range _ hc)
  have hpk : ¬ K p := k p (.inl rfl)
  have hu : Upd (fun b => ¬ K b) w (w.setCell ⟨p, 3, none⟩ (.int .i64 (callTo s.calls))) := (Upd.refl _ w).setCell (.inl hpk) _
  have g1 : (if s.calls - 1 < -1 then (-1 : Int) else s.calls - 1) = callTo s.calls := rfl
  have g2 : (if -1 < s.calls - 1 then s.calls - 1 else (-1 : Int)) = callTo s.calls := by unfold callTo; split <;> split <;> omega
  have g3 : max (s.calls - 1) (-1) = callTo s.calls := by unfold callTo; omega
  have g4 : IntKind.i64.wrap (s.calls - 1) = s.calls - 1 := IntWalk.i64_in _ (by omega)
  clear c0 c1 c2 c4 cf
  go_enter Try.func47, Try.ntmps47
  go_wp2
  go_ret
  exact ⟨rfl, ⟨S, M, qv, hx, k⟩, hu⟩
set_option maxRecDepth 100000 in
theorem dk27_any {K : Nat → Prop} {w : World} {p : Nat} {s : Dk} (h : Disk K w p s) : Calls Try.prog 27 #[.pointer (some ⟨p, 0, none⟩)] w fun e w' => e = .returned (.int .i64 (s.safe.length : Int)) ∧ w = w' := by
  obtain ⟨S, M, qv, h, k⟩ := h
  obtain ⟨c0, c1, c2, c3, c4, cf⟩ := h.cells
  go_enter Try.func27, Try.ntmps27
  go_wp2
  go_ret
  exact ⟨rfl, rfl⟩
theorem DiskV.qform {w : World} {p S M : Nat} {qv : Value} {s : Dk} (h : DiskV w p S M qv s) : ∃ A c, qv = .slice A s.queue.length c := by
  rcases h.queue.2 with ⟨e, h0⟩ | ⟨g, cap, cur, e, _⟩
  · exact ⟨none, 0, by rw [e, h0]⟩
  · exact ⟨_, _, e⟩
set_option maxRecDepth 100000 in
theorem dk23_any {K : Nat → Prop} {w : World} {p : Nat} {s : Dk} (h : Disk K w p s) : Calls Try.prog 23 #[.pointer (some ⟨p, 0, none⟩)] w fun e w' => e = .returned (.int .i64 (s.queue.length : Int)) ∧ w = w' := by
  obtain ⟨S, M, qv, h, k⟩ := h
  obtain ⟨A, c, rfl⟩ := h.qform
  obtain ⟨c0, c1, c2, c3, c4, cf⟩ := h.cells
  go_enter Try.func23, Try.ntmps23
  go_wp2
  go_ret
  exact ⟨rfl, rfl⟩
set_option maxRecDepth 100000 in
theorem dk24_any {K : Nat → Prop} {w : World} {p : Nat} {s : Dk} (h : Disk K w p s) : Calls Try.prog 24 #[.pointer (some ⟨p, 0, none⟩)] w fun e w' => e = .returned (.int .i64 s.writes) ∧ w = w' := by
  obtain ⟨S, M, qv, h, k⟩ := h
  obtain ⟨c0, c1, c2, c3, c4, cf⟩ := h.cells
  go_enter Try.func24, Try.ntmps24
  go_wp2
  go_ret
  exact ⟨rfl, rfl⟩
def limitTo (n : Int) : Int := if n < -1 then -1 else n
set_option maxRecDepth 100000 in
theorem dk21_any {K : Nat → Prop} {w : World} {p : Nat} {s : Dk} (h : Disk K w p s) (n : Int) (hn : n ≤ 9223372036854775807) :
    Calls Try.prog 21 #[.pointer (some ⟨p, 0, none⟩), .int .i64 n] w fun e w' => e = .returned (.tuple #[]) ∧ Disk K w' p { s with calls := limitTo n } ∧ Upd (fun b => ¬ K b) w w' := by
  obtain ⟨S, M, qv, h, k⟩ := h
  obtain ⟨c0, c1, c2, c3, c4, cf⟩ := h.cells
  have f3 := cf 3
  have hx := h.setCalls (limitTo n) (by unfold limitTo; split <;> omega)
  have hpk : ¬ K p := k p (.inl rfl)
  have hu : Upd (fun b => ¬ K b) w (w.setCell ⟨p, 3, none⟩ (.int .i64 (limitTo n))) := (Upd.refl _ w).setCell (.inl hpk) _
  have g1 : (if n < -1 then (-1 : Int) else n) = limitTo n := rfl
  have g3 : max n (-1) = limitTo n := by unfold limitTo; omega
  clear c0 c1 c2 c4 cf
  go_enter Try.func21, Try.ntmps21
  go_wp2
  refine bodyPost_end (results_none rfl _ _ _) rfl ?_
  exact ⟨rfl, ⟨S, M, qv, hx, k⟩, hu⟩

theorem DiskV.setQueue {w : World} {p S M : Nat} {qv : Value} {s : Dk} (h : DiskV w p S M qv s) : (w.setCell ⟨p, 2, none⟩ (.slice none 0 0)).heap[p]? = some (.cells #[.slice (some ⟨S, 0, none⟩) s.safe.length s.safe.length, .map (some M), .slice none 0 0, .int .i64 s.calls, .int .i64 s.writes] 85 (0, 0)) := by
  have := heap_setCell_same w p 2 _ _ (.slice none 0 0) h.me
  simp only [List.setIfInBounds_toArray, List.set_cons_succ, List.set_cons_zero] at this
  exact this
set_option maxRecDepth 100000 in
theorem dk49_any {K : Nat → Prop} {w : World} {p : Nat} {s : Dk} (h : Disk K w p s) :
    Calls Try.prog 49 #[.pointer (some ⟨p, 0, none⟩)] w fun e w' => e = .returned (.tuple #[]) ∧ Disk K w' p { s with queue := [] } ∧ Upd (fun b => ¬ K b) w w' := by
  obtain ⟨S, M, qv, h, k⟩ := h
  obtain ⟨c0, c1, c2, c3, c4, cf⟩ := h.cells
  have hq := h.setQueue
  have hu : Upd (fun b => b = p) w (w.setCell ⟨p, 2, none⟩ (.slice none 0 0)) := (Upd.refl (fun b => b = p) w).setCell (.inl rfl) _
  have hs := hu.heap h.safe (fun e => h.pS e.symm)
  have hm := h.seen.upd hu (fun e => h.pM e.symm)
  obtain ⟨w2, hr, hm2, hu2⟩ := hm.clear 0
  have d1 : (w.setCell ⟨p, 2, none⟩ (.slice none 0 0)).cell? ⟨p, 1, none⟩ = some (.map (some M)) := by rw [cell_of_row _ p _ _ _ _ hq]; rfl
  have f2 := cf 2
  have hx : DiskV w2 p S M (.slice none 0 0) { s with queue := [] } :=
    ⟨⟨h.ok.safe, fun x hx => by cases hx⟩, h.calls, h.big, hu2.heap hq h.pM, hu2.heap hs h.sM, hm2, World.ownsRow_nil _ _ _ _⟩
  have hK : Upd (fun b => ¬ K b) w w2 := (hu.mono (fun b _ e => by subst e; exact k b (.inl rfl))).trans (hu2.mono (fun b _ e => by subst e; exact k b (.inr (.inr (.inl rfl)))))
  have hk2 : ∀ b, dkB p S M (.slice none 0 0) b → ¬ K b := fun b hb => by
    rcases hb with hb | hb | hb | hb
    · exact k b (.inl hb)
    · exact k b (.inr (.inl hb))
    · exact k b (.inr (.inr (.inl hb)))
    · cases hb
  clear c0 c3 c4 cf hq hs hm hm2 hu hu2 h
  go_enter Try.func49, Try.ntmps49
  go_wp2
  refine bodyPost_end (results_none rfl _ _ _) rfl ?_

  exact ⟨rfl, ⟨S, M, _, hx, hk2⟩, hK⟩
end Go.Proofs.Ytgpnmmgoachajaa
/- The integers' octets (layer 1): what 'ints.count', 'ints.Lay' and 'ints.Get' compute. -/
namespace Go.Proofs.Ytgpnmmgoachajaa
open Go.RowKit
open Go.Proofs

theorem f180_any (n lim : Int) (w : World) : Calls Try.prog 80 #[.int .i64 n, .int .i64 lim] w fun e w' => e = .returned (.int .i64 (min (max n 0) lim)) ∧ w = w' := by
  by_cases a : n < 0
  · by_cases b : lim < 0
    all_goals
      go_enter Try.func80, Try.ntmps80
      go_wp2
      go_ret
      exact ⟨ret_int (by omega), rfl⟩
  · by_cases b : lim < n
    all_goals
      go_enter Try.func80, Try.ntmps80
      go_wp2
      go_ret
      exact ⟨ret_int (by omega), rfl⟩

theorem f180_in (n lim : Int) (w : World) (h0 : 0 ≤ n) (h1 : n ≤ lim) : Calls Try.prog 80 #[.int .i64 n, .int .i64 lim] w fun e w' => e = .returned (.int .i64 n) ∧ w = w' :=
  (f180_any n lim w).mono fun e w' ⟨he, hw⟩ => ⟨he.trans (ret_int (by omega)), hw⟩

/-- A number as 64 bits without a sign. -/
def u64of (n : Int) : Nat := (n % 18446744073709551616).toNat

def leN : Nat → Nat → List UInt8
  | 0, _ => []
  | k + 1, u => UInt8.ofNat u :: leN k (u / 256)
theorem length_leN : ∀ k u, (leN k u).length = k
  | 0, _ => rfl
  | k + 1, u => by simp [leN, length_leN k]
theorem leN_succ : ∀ k u, leN (k + 1) u = leN k u ++ [UInt8.ofNat (u / 256 ^ k)]
  | 0, u => by simp [leN]
  | k + 1, u => by
    rw [leN, leN_succ k (u / 256), leN, Nat.div_div_eq_div_mul, Nat.pow_succ, Nat.mul_comm 256]
    rfl

theorem lay_octet (n : Int) (j : Nat) : octs [UInt8.ofNat (u64of n / 256 ^ j)] = [.int .u8 (IntKind.u64.wrap n / 2 ^ (8 * j) % 256)] := by
  have h : (2 : Int) ^ (8 * j) = ((256 ^ j : Nat) : Int) := by rw [Int.pow_mul]; simp
  have h2 : IntKind.u64.wrap n = ((u64of n : Nat) : Int) := by
    unfold u64of
    rw [IntKind.wrap_u64]
    omega
  simp only [octs, List.map_cons, List.map_nil, oct, UInt8.toNat_ofNat', h, h2]
  congr 2

theorem info5 : (Try.prog.info? 5).map (fun i => (i.zero, i.size, i.bytes)) = some (some (.int .u8 0), 1, 1) := by kernel_rfl

set_option maxRecDepth 100000 in
theorem f132_any (n : Int) (k : Nat) (hk : k ≤ 8) (w : World) :
    Calls Try.prog 68 #[.int .i64 n, .int .i64 k] w fun e w' => ∃ v, e = .returned v ∧ Own w' w.heap.size 5 v (octs (leN k (u64of n))) ∧ Ext w w' := by
  obtain ⟨i0, hi, hz, hs, hb⟩ := info_parts info5
  go_enter Try.func68, Try.ntmps68
  go_wp2_with (go_at_call 80; refine (f180_in _ _ _ (by omega) (by omega)).mono ?_; rintro e w' ⟨rfl, rfl⟩)
  go_loopw [5, 9] (fun v i wr => ∃ j : Nat, j ≤ k ∧ i = .int .i64 j ∧ Own wr w.heap.size 5 v (octs (leN j (u64of n))) ∧ Ext w wr) (fun _ i _ => k - (intOf i).toNat)
  case atStart => exact ⟨0, by omega, rfl, Own.nil _ _ _, Ext.refl _⟩
  case round =>
    obtain ⟨j, hj, rfl, hown, hext⟩ := hrel
    by_cases hlt : j < k
    · have hsz := hext.size
      go_wp2_with (at_builtin; refine wpList_app rfl (.tmp 12) (.tmp 19) _ rfl w.heap.size 5 i0 (.int .u8 0) 1 Try.underlying22 hi hz hs hb rfl u5 (octs (leN j (u64of n))) rfl (hown.alloc _) (some ⟨wr.heap.size, 0, none⟩) 1 1 [.int .u8 (IntKind.u64.wrap n / 2 ^ (8 * j) % 256)] rfl rfl (Cells.new1 _ _ _) (by simp [Value.oneCell']) ?_ (by omega) ?_ ?_)
      · simp [length_leN]; omega
      · simp; omega
      intro v' w1 hown1 hg1 _
      have hext1 : Ext w w1 := (hext.alloc _).grown hg1 (fun b hb => (hown.block b hb).1)
      clear hg1
      go_wp2
      go_roundw
      case rel => exact ⟨j + 1, by omega, by go_num, by rw [leN_succ, octs_append, lay_octet]; exact hown1, hext1⟩
      case measure => simp [intOf]; omega
    · go_wp2
      go_ret
      obtain rfl : j = k := by omega
      exact ⟨_, rfl, hown, hext⟩
def getN : List UInt8 → Nat
  | [] => 0
  | c :: l => c.toNat + 256 * getN l
theorem getN_lt : ∀ l, getN l < 256 ^ l.length
  | [] => by simp [getN]
  | c :: l => by
    have := getN_lt l
    have := c.toNat_lt
    simp only [getN, List.length_cons, Nat.pow_succ]
    omega
theorem getN_snoc : ∀ l (c : UInt8), getN (l ++ [c]) = getN l + c.toNat * 256 ^ l.length
  | [], c => by simp [getN]
  | d :: l, c => by
    rw [List.cons_append, getN, getN_snoc l c, getN, List.length_cons, Nat.pow_succ, Nat.mul_add, ← Nat.add_assoc, Nat.mul_left_comm, Nat.mul_comm 256 (256 ^ _)]
theorem getN_take_succ (l : List UInt8) (j : Nat) (h : j < l.length) : getN (l.take (j + 1)) = getN (l.take j) + l[j].toNat * 256 ^ j := by
  rw [List.take_succ_eq_append_getElem h, getN_snoc, List.length_take, Nat.min_eq_left (by omega)]

/-- A number of 64 bits, with its sign. -/
def i64of (n : Nat) : Int := wrap64 (n : Int)

theorem get_octet (l : List UInt8) (j : Nat) (h : j < l.length) (h8 : j < 8) :
    bits .or .u64 ((getN (l.take j) : Nat) : Int) (IntKind.u64.wrap (IntKind.u64.wrap ((l[j].toNat : Nat) : Int) * 2 ^ (8 * j))) = ((getN (l.take (j + 1)) : Nat) : Int) := by
  have h0 := getN_lt (l.take j)
  rw [List.length_take, Nat.min_eq_left (by omega)] at h0
  have hp : (256 : Nat) ^ j = 2 ^ (8 * j) := by rw [Nat.pow_mul]
  have hc := (l[j]).toNat_lt
  have hle : (2 : Nat) ^ (8 * j) * 256 ≤ 2 ^ 64 := by
    have : (2 : Nat) ^ (8 * j) * 256 = 2 ^ (8 * j + 8) := by rw [Nat.pow_add]
    rw [this]; exact Nat.pow_le_pow_right (by omega) (by omega)
  have hx : l[j].toNat * 2 ^ (8 * j) < 18446744073709551616 := by
    have h1 : l[j].toNat * 2 ^ (8 * j) < 256 * 2 ^ (8 * j) := Nat.mul_lt_mul_of_pos_right hc (Nat.two_pow_pos _)
    have h2 : (2 : Nat) ^ 64 = 18446744073709551616 := by decide
    omega
  have h1 : IntKind.u64.wrap (IntKind.u64.wrap ((l[j].toNat : Nat) : Int) * 2 ^ (8 * j)) = ((l[j].toNat * 2 ^ (8 * j) : Nat) : Int) := by
    rw [IntKind.wrap_u64, IntKind.wrap_u64]
    have e1 : ((l[j].toNat : Nat) : Int) % 18446744073709551616 = ((l[j].toNat : Nat) : Int) := by omega
    have e2 : (2 : Int) ^ (8 * j) = ((2 ^ (8 * j) : Nat) : Int) := by simp
    rw [e1, e2, ← Int.natCast_mul]
    omega
  have h2 : getN (l.take j) < 18446744073709551616 := by
    have : (2 : Nat) ^ 64 = 18446744073709551616 := by decide
    have := Nat.two_pow_pos (8 * j)
    omega
  rw [h1, bits_or_u64_nat _ _ h2 hx, getN_take_succ l j h, hp]
  have h3 := Nat.two_pow_add_eq_or_of_lt (i := 8 * j) (b := getN (l.take j)) (by omega) l[j].toNat
  rw [Nat.or_comm, Nat.mul_comm, ← h3]
  congr 1
  rw [Nat.mul_comm]; omega

set_option maxRecDepth 100000 in
theorem f133_any (A : Option Addr) (l : List UInt8) (c : Nat) (w : World) (hl : l.length ≤ 4294967296) (hc : l.length ≤ c) (hx : Octs w A l) :
    Calls Try.prog 73 #[.slice A l.length c] w fun e w' => e = .returned (.int .i64 (i64of (getN (l.take 8)))) ∧ w = w' := by
  obtain ⟨m, hm⟩ : ∃ m, m = min l.length 8 := ⟨_, rfl⟩
  have hm1 : m ≤ l.length := by omega
  have hm2 : m ≤ 8 := by omega
  have hm3 : (m = 8 ∨ m = l.length) := by omega
  have ht : l.take 8 = l.take m := by
    rcases hm3 with rfl | rfl
    · rfl
    · rw [List.take_of_length_le (by omega), List.take_of_length_le (Nat.le_refl _)]
  rw [ht]
  have hr : min (max (l.length : Int) 0) 8 = (m : Int) := by omega
  have Hr := Lib.hid hr
  clear hr ht hm hm3
  go_enter Try.func73, Try.ntmps73
  go_wp2_with (go_at_call 80; refine (f180_any _ _ _).mono ?_; rintro e w' ⟨rfl, rfl⟩; rw [Hr.out])
  go_loop [3, 12] (fun u i => ∃ j : Nat, j ≤ m ∧ i = .int .i64 j ∧ u = .int .u64 ((getN (l.take j) : Nat) : Int)) (fun _ i => m - (intOf i).toNat)
  case atStart => exact ⟨0, by omega, rfl, rfl⟩
  case round =>
    obtain ⟨j, hj, rfl, rfl⟩ := hrel
    by_cases hlt : j < m
    · obtain ⟨b, o, rfl, hcell⟩ := hx.at_ (k := j) (by omega)
      go_wp2
      go_round
      case rel => exact ⟨j + 1, by omega, by go_num, by rw [get_octet l j (by omega) (by omega)]⟩
      case measure => simp [intOf]; omega
    · go_wp2
      go_ret
      obtain rfl : j = m := by omega
      exact ⟨rfl, rfl⟩
end Go.Proofs.Ytgpnmmgoachajaa
/- Cuts of a slice: the run of a slice expression, its address behind one name, and what it reads as. -/
namespace Go.Proofs.Ytgpnmmgoachajaa
open Go.RowKit
open Go.Proofs

section
variable {P : Program} (t e : TypeId) (i : TypeInfo) (ht : P.underlying t = some (.slice e)) (he : P.elem t = e) (hi : P.info? e = some i) (hs : i.size = 1)
include ht he hi hs
omit ht in
theorem run_size1 (w : World) : (sizeOf (P.elem t)).run P w = .ok 1 w := by
  rw [he]; simp [sizeOf, typeInfo, hi, hs]

theorem cut_lo_gen (A : Option Addr) (n c lo : Nat) (hlo : lo ≤ n) (hn : n ≤ c) :
    ∃ A1, (∀ w, (Instr.slice t (.slice A n c) (some (.int .i64 (lo : Int))) none none).run P w = .ok (.slice A1 (n - lo) (c - lo)) w) ∧
      (∀ w, (Instr.sliceAt t (.slice A n c) (some (.int .i64 (lo : Int))) none none).run P w = .ok (.slice A1 (n - lo) (c - lo)) w) ∧
      (∀ w xs, xs.length = n → Cells w A xs → Cells w A1 (xs.drop lo)) ∧ (∀ a, A1 = some a → ∃ b, A = some b ∧ b.block = a.block) := by
  have h : ∀ w, (Instr.slice t (.slice A n c) (some (.int .i64 (lo : Int))) none none).run P w = .ok (.slice (if c = lo then A else A.map (·.add (lo * 1))) (n - lo) (c - lo)) w := by
    intro w
    rw [run_slice_l w t A n c (by rw [he]; exact ht) .i64 lo (by omega) (by omega), run_size1 t e i he hi hs]
    simp [Result.andThen, sliced]
  refine ⟨_, h, fun w => by rw [run_sliceAt_slice _ _ _ _ _ _ (by rw [he]; exact ht)]; exact h w, fun w xs hx hc => hc.cut lo c (by omega) (by omega), fun a ha => ?_⟩
  split at ha
  · exact ⟨a, ha, rfl⟩
  · cases A with
    | none => cases ha
    | some b => cases ha; exact ⟨b, rfl, (by unfold Addr.add; split <;> rfl)⟩

theorem cut_hi_gen (A : Option Addr) (n c hi' : Nat) (hh : hi' ≤ c) :
    ∃ A1, (∀ w, (Instr.slice t (.slice A n c) none (some (.int .i64 (hi' : Int))) none).run P w = .ok (.slice A1 hi' c) w) ∧
      (∀ w, (Instr.sliceAt t (.slice A n c) none (some (.int .i64 (hi' : Int))) none).run P w = .ok (.slice A1 hi' c) w) ∧
      (∀ w xs, hi' ≤ xs.length → Cells w A xs → Cells w A1 (xs.take hi')) ∧ (∀ a, A1 = some a → ∃ b, A = some b ∧ b.block = a.block) := by
  have h : ∀ w, (Instr.slice t (.slice A n c) none (some (.int .i64 (hi' : Int))) none).run P w = .ok (.slice (if c = 0 then A else A.map (·.add (0 * 1))) hi' c) w := by
    intro w
    rw [run_slice_h w t A n c (by rw [he]; exact ht) .i64 hi' (by omega) (by omega), run_size1 t e i he hi hs]
    simp [Result.andThen, sliced]
  have e0 : (if c = 0 then A else A.map (·.add (0 * 1))) = A := by
    split
    · rfl
    · cases A <;> simp [Addr.add]
  rw [e0] at h
  exact ⟨A, h, fun w => by rw [run_sliceAt_slice _ _ _ _ _ _ (by rw [he]; exact ht)]; exact h w, fun w xs _ hc => hc.take hi', fun a ha => ⟨a, ha, rfl⟩⟩

theorem cut_mid_gen (A : Option Addr) (n c lo hi' : Nat) (hlo : lo ≤ hi') (hh : hi' ≤ n) (hn : n ≤ c) :
    ∃ A1, (∀ w, (Instr.slice t (.slice A n c) (some (.int .i64 (lo : Int))) (some (.int .i64 (hi' : Int))) none).run P w = .ok (.slice A1 (hi' - lo) (c - lo)) w) ∧
      (∀ w, (Instr.sliceAt t (.slice A n c) (some (.int .i64 (lo : Int))) (some (.int .i64 (hi' : Int))) none).run P w = .ok (.slice A1 (hi' - lo) (c - lo)) w) ∧
      (∀ w xs, xs.length = n → Cells w A xs → Cells w A1 ((xs.drop lo).take (hi' - lo))) ∧ (∀ a, A1 = some a → ∃ b, A = some b ∧ b.block = a.block) := by
  have h : ∀ w, (Instr.slice t (.slice A n c) (some (.int .i64 (lo : Int))) (some (.int .i64 (hi' : Int))) none).run P w = .ok (.slice (if c = lo then A else A.map (·.add (lo * 1))) (hi' - lo) (c - lo)) w := by
    intro w
    rw [run_slice_lh w t A n c (by rw [he]; exact ht) .i64 .i64 lo hi' (by omega) (by omega) (by omega), run_size1 t e i he hi hs]
    simp [Result.andThen, sliced]
  refine ⟨_, h, fun w => by rw [run_sliceAt_slice _ _ _ _ _ _ (by rw [he]; exact ht)]; exact h w, fun w xs hx hc => (hc.cut lo c (by omega) (by omega)).take _, fun a ha => ?_⟩
  split at ha
  · exact ⟨a, ha, rfl⟩
  · cases A with
    | none => cases ha
    | some b => cases ha; exact ⟨b, rfl, (by unfold Addr.add; split <;> rfl)⟩
end

theorem elem25 : Try.prog.elem 22 = 5 := by kernel_rfl
theorem octs_drop (l : List UInt8) (n : Nat) : (octs l).drop n = octs (l.drop n) := by simp [octs]
theorem octs_take (l : List UInt8) (n : Nat) : (octs l).take n = octs (l.take n) := by simp [octs]

/-- 'b[lo:]' of octets. -/
theorem cut_lo (A : Option Addr) (l : List UInt8) (c lo : Nat) (hlo : lo ≤ l.length) (hn : l.length ≤ c) :
    ∃ A1, (∀ w, (Instr.slice 22 (.slice A l.length c) (some (.int .i64 (lo : Int))) none none).run Try.prog w = .ok (.slice A1 (l.length - lo) (c - lo)) w) ∧
      (∀ w, (Instr.sliceAt 22 (.slice A l.length c) (some (.int .i64 (lo : Int))) none none).run Try.prog w = .ok (.slice A1 (l.length - lo) (c - lo)) w) ∧
      (∀ w, Octs w A l → Octs w A1 (l.drop lo)) ∧ (∀ a, A1 = some a → ∃ b, A = some b ∧ b.block = a.block) := by
  obtain ⟨i0, hi, _, hs, _⟩ := info_parts info5
  obtain ⟨A1, h1, h2, h3, h4⟩ := cut_lo_gen 22 5 i0 Try.underlying22 elem25 hi hs A l.length c lo hlo hn
  exact ⟨A1, h1, h2, fun w h => by have := h3 w _ (length_octs l) h; rw [octs_drop] at this; exact this, h4⟩
/-- 'b[:hi]' of octets. -/
theorem cut_hi (A : Option Addr) (l : List UInt8) (c hi' : Nat) (hh : hi' ≤ l.length) (hn : l.length ≤ c) :
    ∃ A1, (∀ w, (Instr.slice 22 (.slice A l.length c) none (some (.int .i64 (hi' : Int))) none).run Try.prog w = .ok (.slice A1 hi' c) w) ∧
      (∀ w, (Instr.sliceAt 22 (.slice A l.length c) none (some (.int .i64 (hi' : Int))) none).run Try.prog w = .ok (.slice A1 hi' c) w) ∧
      (∀ w, Octs w A l → Octs w A1 (l.take hi')) ∧ (∀ a, A1 = some a → ∃ b, A = some b ∧ b.block = a.block) := by
  obtain ⟨i0, hi, _, hs, _⟩ := info_parts info5
  obtain ⟨A1, h1, h2, h3, h4⟩ := cut_hi_gen 22 5 i0 Try.underlying22 elem25 hi hs A l.length c hi' (by omega)
  exact ⟨A1, h1, h2, fun w h => by have := h3 w _ (by rw [length_octs]; exact hh) h; rw [octs_take] at this; exact this, h4⟩
/-- 'b[lo:hi]' of octets. -/
theorem cut_mid (A : Option Addr) (l : List UInt8) (c lo hi' : Nat) (hlo : lo ≤ hi') (hh : hi' ≤ l.length) (hn : l.length ≤ c) :
    ∃ A1, (∀ w, (Instr.slice 22 (.slice A l.length c) (some (.int .i64 (lo : Int))) (some (.int .i64 (hi' : Int))) none).run Try.prog w = .ok (.slice A1 (hi' - lo) (c - lo)) w) ∧
      (∀ w, (Instr.sliceAt 22 (.slice A l.length c) (some (.int .i64 (lo : Int))) (some (.int .i64 (hi' : Int))) none).run Try.prog w = .ok (.slice A1 (hi' - lo) (c - lo)) w) ∧
      (∀ w, Octs w A l → Octs w A1 ((l.drop lo).take (hi' - lo))) ∧ (∀ a, A1 = some a → ∃ b, A = some b ∧ b.block = a.block) := by
  obtain ⟨i0, hi, _, hs, _⟩ := info_parts info5
  obtain ⟨A1, h1, h2, h3, h4⟩ := cut_mid_gen 22 5 i0 Try.underlying22 elem25 hi hs A l.length c lo hi' hlo hh hn
  exact ⟨A1, h1, h2, fun w h => by have := h3 w _ (length_octs l) h; rw [octs_drop, octs_take] at this; exact this, h4⟩
end Go.Proofs.Ytgpnmmgoachajaa
