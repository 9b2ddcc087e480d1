/- What JournalCrashes' loop has in memory: a disk, a journal that turns to another one, strings; its acts. -/
import Derived.Test.YtgpnmmgoachajaaKb
import Derived.Test.YtgpnmmgoachajaaJu
namespace Go.Proofs.Ytgpnmmgoachajaa
open Go.RowKit Go.Shelf
open Go.Proofs

structure RC (w : World) (K : Nat → Prop) (W : World) (p y : Nat) (s : Dk) (j : Jn) (sv : Value) (ss : List (List UInt8)) : Prop where
  disk : Disk K W p s
  jn : JnAt W y p j
  ky : K y
  lo : ∀ b, b < w.heap.size → K b
  kb : ∀ b, K b → b < W.heap.size
  ext : Ext w W
  own : Own W w.heap.size 9 sv (ss.map strOf)
  ks : ∀ b, sv.ownBlock = some b → K b
  wy : w.heap.size ≤ y
section
variable {w W W' : World} {K K' : Nat → Prop} {p y y' : Nat} {s s' : Dk} {j j' : Jn} {sv : Value} {ss : List (List UInt8)}
theorem RC.ne (h : RC w K W p y s j sv ss) : ∀ b, sv.ownBlock = some b → b ≠ y := fun b e z => by
  rcases h.own.2 with ⟨h1, _⟩ | ⟨g, cap, cur, h1, _, hh, _⟩
  · rw [h1] at e; cases e
  · rw [h1] at e
    injection e with e
    have e : g = b := e
    subst e
    have hj := h.jn
    rw [← z] at hj
    have := hh.symm.trans hj
    injection this with this
    injection this with _ h3
    exact absurd h3 (by decide)
theorem RC.grow (h : RC w K W p y s j sv ss) (x : Ext W W') : RC w (fun b => K b ∨ (W.heap.size ≤ b ∧ b < W'.heap.size)) W' p y s j sv ss :=
  ⟨h.disk.grow x, Ext.heap x h.jn, .inl h.ky, fun b hb => .inl (h.lo b hb), fun b hb => hb.elim (fun hb => Nat.lt_of_lt_of_le (h.kb b hb) x.size) (·.2), h.ext.trans x, h.own.ext x, fun b hb => .inl (h.ks b hb), h.wy⟩
theorem RC.more (h : RC w K W p y s j sv ss) (x : Ext W W') : RC w K W' p y s j sv ss :=
  ⟨h.disk.ext x, Ext.heap x h.jn, h.ky, h.lo, fun b hb => Nat.lt_of_lt_of_le (h.kb b hb) x.size, h.ext.trans x, h.own.ext x, h.ks, h.wy⟩
theorem RC.low (h : RC w K W p y s j sv ss) : ∀ b, ¬ K b ∨ b = y → w.heap.size ≤ b := fun b e => by
  rcases e with e | e
  · exact Nat.le_of_not_lt fun z => e (h.lo b z)
  · rw [e]; exact h.wy
theorem RC.step (h : RC w K W p y s j sv ss) (d : Disk K W' p s') (jn : JnAt W' y p j') (u : Upd (fun b => ¬ K b ∨ b = y) W W') : RC w K W' p y s' j' sv ss :=
  ⟨d, jn, h.ky, h.lo, fun b hb => Nat.lt_of_lt_of_le (h.kb b hb) u.size, u.to_ext h.ext h.low, h.own.keep (fun b hb => u.block b (h.own.block b hb).2 (fun z => by
    rcases z with z | z
    · exact z (h.ks b hb)
    · exact h.ne b hb z)), h.ks, h.wy⟩
/-- Another journal. -/
theorem RC.turn (h : RC w K W p y s j sv ss) (d : Disk K' W' p s') (hK : ∀ b, K b → K' b) (jn : JnAt W' y' p j') (ky : K' y') (kb : ∀ b, K' b → b < W'.heap.size) (hy : W.heap.size ≤ y') (u : Upd (fun b => ¬ K b) W W') : RC w K' W' p y' s' j' sv ss :=
  ⟨d, jn, ky, fun b hb => hK b (h.lo b hb), kb, u.to_ext h.ext (fun b e => h.low b (.inl e)), h.own.keep (fun b hb => u.block b (h.own.block b hb).2 (fun z => z (h.ks b hb))), fun b hb => hK b (h.ks b hb), Nat.le_trans h.ext.size hy⟩
/-- The strings' row is changed. -/
theorem RC.push (h : RC w K W p y s j sv ss) {sv' : Value} {ss' : List (List UInt8)} (o : Own W' w.heap.size 9 sv' (ss'.map strOf)) (u : Upd (fun b => sv.ownBlock = some b) W W') (hb : sv'.ownBlock = sv.ownBlock ∨ sv'.ownBlock = some W.heap.size) :
    RC w (fun b => K b ∨ (W.heap.size ≤ b ∧ b < W'.heap.size)) W' p y s j sv' ss' := by
  have d : Disk (fun b => K b ∨ (W.heap.size ≤ b ∧ b < W'.heap.size)) W' p s := by
    obtain ⟨S, M, qv, g1, g2⟩ := h.disk
    obtain ⟨l1, l2, l3, l4⟩ := g1.lt
    have n (b : Nat) (hb : dkB p S M qv b) : ¬ sv.ownBlock = some b := fun e => g2 b hb (h.ks b e)
    refine ⟨S, M, qv, g1.keep (u.block _ l1 (n _ (.inl rfl))) (u.block _ l2 (n _ (.inr (.inl rfl)))) (u.block _ l3 (n _ (.inr (.inr (.inl rfl))))) (fun g e => u.block g (l4 g e) (n _ (.inr (.inr (.inr e))))), fun b hb x => ?_⟩
    have hlt : b < W.heap.size := by
      rcases hb with rfl | rfl | rfl | hb
      · exact l1
      · exact l2
      · exact l3
      · exact l4 b hb
    rcases x with x | x
    · exact g2 b hb x
    · omega
  refine ⟨d, u.heap h.jn (fun e => h.ne y e rfl), .inl h.ky, fun b hb => .inl (h.lo b hb), fun b hb => hb.elim (fun hb => Nat.lt_of_lt_of_le (h.kb b hb) u.size) (·.2), u.to_ext h.ext (fun b e => (h.own.block b e).1), o, fun b e => ?_, h.wy⟩
  rcases hb with z | z
  · exact .inl (h.ks b (by rw [← z]; exact e))
  · rw [z] at e
    injection e with e
    have := (o.block W.heap.size z).2
    exact .inr ⟨by omega, by omega⟩
theorem RC.clear (h : RC w K W p y s j sv ss) : RC w K W p y s j (.slice none 0 0) [] :=
  ⟨h.disk, h.jn, h.ky, h.lo, h.kb, h.ext, Own.nil _ _ _, fun b e => (by cases e), h.wy⟩
end
/-- One act: its kind, its number, its octets, its crash. -/
structure JAct where
  kind : Int
  n : Int
  B : List UInt8
  keep : List Int
  torn : Int
  cut : Int
abbrev actV (q : JAct) (A G : Option Addr) (c d : Nat) : List Value := [.int .i64 q.kind, .int .i64 q.n, .slice A q.B.length c, .slice G q.keep.length d, .int .i64 q.torn, .int .i64 q.cut]
/-- Acts in memory. -/
def JActsAt (w : World) (A : Option Addr) (xs : List JAct) : Prop :=
  0 < xs.length → ∃ b o, A = some ⟨b, o, none⟩ ∧ ∀ (i : Nat) q, xs[i]? = some q → ∃ A G c d, w.rangeAt b (o + i * 6) (actV q A G c d) ∧ q.B.length ≤ c ∧ c ≤ maxLen ∧ Octs w A q.B ∧ Cells w G (ints q.keep) ∧ q.keep.length ≤ 9223372036854775807 ∧ q.n ≤ 9223372036854775807
/-- What the loop has of one act. -/
structure ActAt (w W : World) (g : Nat) (q : JAct) (A G : Option Addr) (c d : Nat) : Prop where
  row : W.heap[g]? = some (.cells (actV q A G c d).toArray 79 (0, 0))
  cap : q.B.length ≤ c
  octs : Octs w A q.B
  keeps : Cells w G (ints q.keep)
  klen : q.keep.length ≤ 9223372036854775807
  nmax : q.n ≤ 9223372036854775807
theorem act_cells {w W : World} {g : Nat} {q : JAct} {A G : Option Addr} {c d : Nat} (h : ActAt w W g q A G c d) : W.cell? ⟨g, 0, none⟩ = some (.int .i64 q.kind) ∧ W.cell? ⟨g, 1, none⟩ = some (.int .i64 q.n) ∧ W.cell? ⟨g, 2, none⟩ = some (.slice A q.B.length c) ∧ W.cell? ⟨g, 3, none⟩ = some (.slice G q.keep.length d) ∧ W.cell? ⟨g, 4, none⟩ = some (.int .i64 q.torn) ∧ W.cell? ⟨g, 5, none⟩ = some (.int .i64 q.cut) := by
  refine ⟨?_, ?_, ?_, ?_, ?_, ?_⟩ <;> (rw [cell_of_row W g _ _ _ _ h.row]; rfl)
end Go.Proofs.Ytgpnmmgoachajaa
