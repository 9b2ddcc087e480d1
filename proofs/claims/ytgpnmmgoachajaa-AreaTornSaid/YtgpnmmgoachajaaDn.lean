/- The disk in memory: rows of equal length, one behind the other; the disk's blocks; what leaves them as they are. -/
import Derived.Test.YtgpnmmgoachajaaDm
namespace Go.Proofs.Ytgpnmmgoachajaa
open Go.RowKit
open Go.Proofs

section
variable {α : Type}
theorem flat_len (n : Nat) : ∀ (ls : List (List α)), (∀ x ∈ ls, x.length = n) → ls.flatten.length = n * ls.length
  | [], _ => by simp
  | x :: ls, h => by
    rw [List.flatten_cons, List.length_append, h x (by simp), flat_len n ls (fun y hy => h y (by simp [hy])), List.length_cons, Nat.mul_succ, Nat.add_comm]
theorem flat_at (n : Nat) : ∀ (ls : List (List α)) (i : Nat) (x : List α), (∀ x ∈ ls, x.length = n) → ls[i]? = some x → (ls.flatten.drop (n * i)).take n = x
  | [], i, x, _, h => by cases h
  | y :: ls, 0, x, hl, h => by
    have h' : y = x := by simpa using h
    subst h'
    have := hl y (by simp)
    rw [Nat.mul_zero, List.drop_zero, List.flatten_cons, List.take_append_of_le_length (by omega), List.take_of_length_le (by omega)]
  | y :: ls, i + 1, x, hl, h => by
    have h1 := hl y (by simp)
    rw [List.flatten_cons, show n * (i + 1) = y.length + n * i by rw [h1, Nat.mul_succ, Nat.add_comm], ← List.drop_drop, List.drop_left]
    exact flat_at n ls i x (fun z hz => hl z (by simp [hz])) (by simpa using h)
theorem flat_set (n : Nat) : ∀ (ls : List (List α)) (i : Nat) (y : List α), (∀ x ∈ ls, x.length = n) → i < ls.length → (ls.set i y).flatten = ls.flatten.take (n * i) ++ y ++ ls.flatten.drop (n * i + n)
  | [], i, y, _, h => by simp at h
  | x :: ls, 0, y, hl, _ => by
    have := hl x (by simp)
    simp [this]
  | x :: ls, i + 1, y, hl, h => by
    have h1 := hl x (by simp)
    have e : n * (i + 1) = x.length + n * i := by rw [h1, Nat.mul_succ, Nat.add_comm]
    rw [List.set_cons_succ, List.flatten_cons, flat_set n ls i y (fun z hz => hl z (by simp [hz])) (by simpa using h), List.flatten_cons, e, List.take_length_add_append, Nat.add_assoc, List.drop_length_add_append]
    simp
end
/-- Cells put into a row. -/
theorem putAt_list : ∀ (vs : List Value) (cur : Array Value) (o : Nat), o + vs.length ≤ cur.size → (putAt cur o vs).toList = cur.toList.take o ++ vs ++ cur.toList.drop (o + vs.length)
  | vs, cur, o, h => by
    apply List.ext_getElem?
    intro i
    rw [Array.getElem?_toList]
    have hsz : cur.toList.length = cur.size := Array.length_toList
    by_cases h1 : i < o
    · rw [putAt_lo vs cur o i h1, List.append_assoc, List.getElem?_append_left (by rw [List.length_take]; omega), List.getElem?_take, if_pos h1, Array.getElem?_toList]
    · by_cases h2 : i < o + vs.length
      · have := putAt_in vs cur o (i - o) vs[i - o] h (List.getElem?_eq_getElem (by omega))
        rw [show o + (i - o) = i by omega] at this
        rw [this, List.append_assoc, List.getElem?_append_right (by rw [List.length_take]; omega), List.length_take, Nat.min_eq_left (by omega), List.getElem?_append_left (by omega), List.getElem?_eq_getElem (by omega)]
      · have hhi : ∀ (vs : List Value) (cur : Array Value) (o k : Nat), o + vs.length ≤ k → (putAt cur o vs)[k]? = cur[k]? := by
          intro vs
          induction vs with
          | nil => intro cur o k _; rfl
          | cons v vs ih =>
            intro cur o k hk
            rw [List.length_cons] at hk
            rw [putAt, ih _ _ _ (by omega), Array.getElem?_setIfInBounds_ne (by omega)]
        rw [hhi vs cur o i (by omega), List.append_assoc, List.getElem?_append_right (by rw [List.length_take]; omega), List.length_take, Nat.min_eq_left (by omega), List.getElem?_append_right (by omega), List.getElem?_drop, Array.getElem?_toList]
        congr 1
        omega
theorem octs_flat (ls : List (List UInt8)) : octs ls.flatten = (ls.map octs).flatten := by simp only [octs, List.map_flatten]; rfl
theorem octs_set (ls : List (List UInt8)) (i : Nat) (y : List UInt8) (h : ∀ x ∈ ls, x.length = 128) (hi : i < ls.length) (hy : y.length = 128) :
    putAt (octs ls.flatten).toArray (128 * i) (octs y) = (octs (ls.set i y).flatten).toArray := by
  have hl := flat_len 128 ls h
  apply Array.toList_inj.1
  rw [putAt_list _ _ _ (by rw [List.size_toArray, length_octs, length_octs, hl, hy]; omega)]
  have e := flat_set 128 ls i y h hi
  rw [e]
  simp [octs, hy, List.map_take, List.map_drop]

/-- A write that waits, as cells. -/
def wCells (p : Nat × List UInt8) : List Value := .int .i64 (p.1 : Int) :: octs p.2
theorem length_wCells (p : Nat × List UInt8) (h : p.2.length = 128) : (wCells p).length = 129 := by rw [wCells, List.length_cons, length_octs, h]
def qCells (q : List (Nat × List UInt8)) : List Value := (q.map wCells).flatten
theorem qCells_snoc (q : List (Nat × List UInt8)) (p : Nat × List UInt8) : qCells (q ++ [p]) = qCells q ++ wCells p := by simp [qCells]

/-- A disk: its block, that of its sectors, of the map, and the row of the writes that wait. -/
structure DiskV (w : World) (p S M : Nat) (qv : Value) (s : Dk) : Prop where
  ok : DkOk s
  calls : -1 ≤ s.calls ∧ s.calls ≤ 9223372036854775807
  big : s.safe.length ≤ 65536
  me : w.heap[p]? = some (.cells #[.slice (some ⟨S, 0, none⟩) s.safe.length s.safe.length, .map (some M), qv, .int .i64 s.calls, .int .i64 s.writes] 85 (0, 0))
  safe : w.heap[S]? = some (.cells (octs s.safe.flatten).toArray 91 (0, 0))
  seen : Seen w M s.queue
  queue : w.ownsRow 0 93 129 qv s.queue.length (qCells s.queue)
section
variable {w w' : World} {p S M : Nat} {qv : Value} {s : Dk}
theorem DiskV.pS (h : DiskV w p S M qv s) : p ≠ S := fun e => by
  have := h.me.symm.trans ((congrArg (fun b => w.heap[b]?) e).trans h.safe)
  injection this with this
  injection this with _ h2
  exact absurd h2 (by decide)
theorem DiskV.pM (h : DiskV w p S M qv s) : p ≠ M := fun e => by
  obtain ⟨D, ⟨es, clock, hb, _⟩, _⟩ := h.seen
  have := h.me.symm.trans ((congrArg (fun b => w.heap[b]?) e).trans hb)
  injection this with this
  cases this
theorem DiskV.sM (h : DiskV w p S M qv s) : S ≠ M := fun e => by
  obtain ⟨D, ⟨es, clock, hb, _⟩, _⟩ := h.seen
  have := h.safe.symm.trans ((congrArg (fun b => w.heap[b]?) e).trans hb)
  injection this with this
  cases this
theorem DiskV.row (h : DiskV w p S M qv s) {g : Nat} (hg : qv.ownBlock = some g) : g ≠ p ∧ g ≠ S ∧ g ≠ M := by
  rcases h.queue.2 with ⟨e, _⟩ | ⟨g', cap, cur, e, _, hb, _⟩
  · rw [e] at hg; cases hg
  · rw [e] at hg
    injection hg with hg
    have hg : g' = g := hg
    subst hg
    refine ⟨fun x => ?_, fun x => ?_, fun x => ?_⟩
    · subst x
      have := h.me.symm.trans hb
      injection this with this
      injection this with _ h2
      exact absurd h2 (by decide)
    · subst x
      have := h.safe.symm.trans hb
      injection this with this
      injection this with _ h2
      exact absurd h2 (by decide)
    · subst x
      obtain ⟨D, ⟨es, clock, hb2, _⟩, _⟩ := h.seen
      have := hb2.symm.trans hb
      injection this with this
      cases this
theorem row_keep {base size n : Nat} {t : TypeId} {v : Value} {xs : List Value} (h : w.ownsRow base t size v n xs) (k : ∀ g, v.ownBlock = some g → w'.heap[g]? = w.heap[g]?) : w'.ownsRow base t size v n xs := by
  obtain ⟨hl, h | ⟨g, cap, cur, hv, hg, hh, r⟩⟩ := h
  · exact ⟨hl, .inl h⟩
  · exact ⟨hl, .inr ⟨g, cap, cur, hv, hg, (k g (by rw [hv]; rfl)).trans hh, r⟩⟩
theorem DiskV.keep (h : DiskV w p S M qv s) (h1 : w'.heap[p]? = w.heap[p]?) (h2 : w'.heap[S]? = w.heap[S]?) (h3 : w'.heap[M]? = w.heap[M]?) (h4 : ∀ g, qv.ownBlock = some g → w'.heap[g]? = w.heap[g]?) : DiskV w' p S M qv s :=
  ⟨h.ok, h.calls, h.big, h1.trans h.me, h2.trans h.safe, h.seen.kept h3, row_keep h.queue h4⟩
/-- The cells of its block. -/
theorem DiskV.cells (h : DiskV w p S M qv s) : w.cell? ⟨p, 0, none⟩ = some (.slice (some ⟨S, 0, none⟩) s.safe.length s.safe.length) ∧ w.cell? ⟨p, 1, none⟩ = some (.map (some M)) ∧ w.cell? ⟨p, 2, none⟩ = some qv ∧ w.cell? ⟨p, 3, none⟩ = some (.int .i64 s.calls) ∧ w.cell? ⟨p, 4, none⟩ = some (.int .i64 s.writes) ∧ ∀ j, w.frozen? ⟨p, j, none⟩ = false := by
  refine ⟨?_, ?_, ?_, ?_, ?_, fun j => frozen_of_row w p j _ _ h.me⟩ <;> (rw [cell_of_row w p _ _ _ _ h.me]; rfl)
theorem DiskV.lt (h : DiskV w p S M qv s) : p < w.heap.size ∧ S < w.heap.size ∧ M < w.heap.size ∧ ∀ g, qv.ownBlock = some g → g < w.heap.size :=
  ⟨(Array.getElem?_eq_some_iff.1 h.me).1, (Array.getElem?_eq_some_iff.1 h.safe).1, h.seen.lt, fun _ e => (World.ownsRow.lt h.queue _ e).2⟩
theorem DiskV.ext (h : DiskV w p S M qv s) (x : Ext w w') : DiskV w' p S M qv s :=
  h.keep (Below.block x _ h.lt.1) (Below.block x _ h.lt.2.1) (Below.block x _ h.lt.2.2.1) (fun g e => Below.block x _ (h.lt.2.2.2 g e))
/-- The blocks of it. -/
def dkB (p S M : Nat) (qv : Value) (b : Nat) : Prop := b = p ∨ b = S ∨ b = M ∨ qv.ownBlock = some b
/-- A disk of which no block is among the kept ones. -/
def Disk (K : Nat → Prop) (w : World) (p : Nat) (s : Dk) : Prop := ∃ S M qv, DiskV w p S M qv s ∧ ∀ b, dkB p S M qv b → ¬ K b
theorem Disk.ext {K : Nat → Prop} (h : Disk K w p s) (x : Ext w w') : Disk K w' p s := by
  obtain ⟨S, M, qv, h, k⟩ := h
  exact ⟨S, M, qv, h.ext x, k⟩
theorem Disk.drew {K : Nat → Prop} (h : Disk K w p s) : Disk K w.drew p s := h.ext ((Ext.refl w).drew)
/-- More is kept: what was made since. -/
theorem Disk.more {K : Nat → Prop} (h : Disk K w p s) (x : Ext w w') : Disk (fun b => K b ∨ w.heap.size ≤ b) w' p s := by
  obtain ⟨S, M, qv, h, k⟩ := h
  obtain ⟨l1, l2, l3, l4⟩ := h.lt
  refine ⟨S, M, qv, h.ext x, fun b hb => ?_⟩
  rintro (h1 | h1)
  · exact k b hb h1
  · rcases hb with rfl | rfl | rfl | hb
    · omega
    · omega
    · omega
    · have := l4 b hb; omega
theorem Disk.less {K K' : Nat → Prop} (h : Disk K w p s) (k : ∀ b, K' b → K b) : Disk K' w p s := by
  obtain ⟨S, M, qv, h, g⟩ := h
  exact ⟨S, M, qv, h, fun b hb x => g b hb (k b x)⟩
end
end Go.Proofs.Ytgpnmmgoachajaa
