/- One step with a write that waits, in a region that draws its order; what stays between two rounds. -/
import Derived.Test.YtgpnmmgoachajaaDq
import Derived.Test.YtgpnmmgoachajaaDa
import Derived.Test.YtgpnmmgoachajaaCh
namespace Go.Proofs.Ytgpnmmgoachajaa
open Go.RowKit Go.Shelf
open Go.Proofs

section
variable {w : World} {ops : Array Oper} {o : Oper} {a : Act} {Q : Exit → Act → World → Prop}
theorem yields_build_w {S : World → Prop} (hw : Region.wanted o (yielded ops a.tmps) = true) (x y : Operand) (ho : o.op = .build 93 #[(0, x), (1, y)]) (n : Int) (l : List UInt8) (hx : a.eval x = .int .i64 n) (hy : a.eval y = secV l) (hl : l.length = 128) :
    YieldsIf Try.prog ops S o (.agg (Value.int .i64 n :: octs l).toArray) a := .inl ⟨hw, fun w _ => by
  unfold execOp
  simp only [ho, List.map_toArray, List.map_cons, List.map_nil, hx, hy, build_w n l hl, Sem.run_bind, Result.andThen_ok, Sem.run_pure]⟩
variable {K : Act → World → Prop} {E : Prop}
theorem step_store_w (hgd : o.guard = none) (x y : Operand) (ho : o.op = .store 93 x y) (b k : Nat) (hx : a.eval x = .pointer (some ⟨b, k, none⟩)) (q : Nat × List UInt8) (hy : a.eval y = .agg (wCells q).toArray) (hl : q.2.length = 128)
    (cur : Array Value) (t : TypeId) (hb : w.heap[b]? = some (.cells cur t (0, 0))) (hk : k + 129 ≤ cur.size)
    (h : ∀ w', w'.heap[b]? = some (.cells (putAt cur k (wCells q)) t (0, 0)) → Upd (fun g => g = b) w w' → K (a.put o.dst undef) w') : if Region.wanted o (yielded ops a.tmps) = true then Oper.wp Try.prog o a w K Q else E := by
  have hw : Region.wanted o (yielded ops a.tmps) = true := by simp [Region.wanted, hgd]
  rw [if_pos hw]
  have hsz : (wCells q).toArray.size = 129 := by rw [List.size_toArray, length_wCells q hl]
  refine wp_store_mid _ x y ho b k (wCells q).toArray hx hy (there_row hb k _ (by omega)) (by rw [size_w, hsz]) (all_wCells q) ?_
  exact h _ (heap_setCells b t (wCells q) k w cur hb) (upd_setCells (F := fun g => g = b) b rfl (wCells q) k w)
theorem step_bslice_w (hgd : o.guard = none) (x : Operand) (ho : o.op = .buildSlice 83 1 #[(0, x)]) (q : Nat × List UInt8) (hx : a.eval x = .agg (wCells q).toArray) (hl : q.2.length = 128)
    (h : K (a.put o.dst (.slice (some ⟨w.heap.size, 0, none⟩) 1 1)) (w.alloc (.cells (wCells q).toArray 93))) : if Region.wanted o (yielded ops a.tmps) = true then Oper.wp Try.prog o a w K Q else E := by
  have hw : Region.wanted o (yielded ops a.tmps) = true := by simp [Region.wanted, hgd]
  rw [if_pos hw]
  unfold Oper.wp execOp
  simp only [ho, List.map_toArray, List.map_cons, List.map_nil, hx, buildSlice_w q hl, Sem.run_bind, Result.andThen_ok, Sem.run_pure]
  exact h
theorem step_app_w (hgd : o.guard = none) (s x : Operand) (ho : o.op = .call { callee := .builtin .append, args := #[s, x], argTypes := #[83, 83] }) (v : Value) (n : Nat) (xs : List Value) (hs : a.eval s = v) (hown : w.ownsRow 0 93 129 v n xs)
    (b : Nat) (hx : a.eval x = .slice (some ⟨b, 0, none⟩) 1 1) (q : Nat × List UInt8) (hl : q.2.length = 128) (hb : w.heap[b]? = some (.cells (wCells q).toArray 93 (0, 0))) (hn : n + 1 ≤ 4294967296)
    (h : ∀ v' w', w'.ownsRow 0 93 129 v' (n + 1) (xs ++ wCells q) → w.grownBy w' v.ownBlock → (v'.ownBlock = v.ownBlock ∨ v'.ownBlock = some w.heap.size) → K (a.put o.dst v') w') :
    if Region.wanted o (yielded ops a.tmps) = true then Oper.wp Try.prog o a w K Q else E := by
  have hw : Region.wanted o (yielded ops a.tmps) = true := by simp [Region.wanted, hgd]
  rw [if_pos hw]
  obtain ⟨i, z, hi, hz, hsz, hby, hzs⟩ := info_w
  have hr : w.rangeAt b 0 (wCells q) := range_row hb 0 (wCells q) (by rw [List.drop_zero]; exact List.take_of_length_le (Nat.le_refl _))
  obtain ⟨v', w', hrun, h1, h2, _, h4⟩ := run_append_own_at (P := Try.prog) w 0 83 o.type 93 i z 129 136 Try.underlying83 hi hz hsz hby hzs (by decide) v n xs hown ⟨b, 0, none⟩ 1 1 (wCells q) (by rw [length_wCells q hl])
    (fun j u hu => by rw [Addr.add_mid]; exact hr j u hu) (fun u hu => (Array.all_eq_true_iff_forall_mem.1 (all_wCells q)) u (by simpa using hu)) (by simp only [maxLen]; omega) (by omega) (Nat.zero_le _)
  unfold Oper.wp
  simp [execOp, ho, resolve, invoke, builtin, hs, hx, hrun, Result.andThen]
  exact h v' w' h1 h2 h4
theorem step_put_sec (hgd : o.guard = none) (m x v : Operand) (ho : o.op = .mapUpdate 82 m x v) (M k : Nat) (q : List (Nat × List UInt8)) (l : List UInt8) (hm : a.eval m = .map (some M)) (hx : a.eval x = .int .i64 (k : Int)) (hv : a.eval v = secV l)
    (hs : Seen w M q) (hk : k < 9223372036854775808) (hq : q.length < maxLen) (h : ∀ w', Seen w' M (q ++ [(k, l)]) → Upd (fun b => b = M) w w' → K (a.put o.dst undef) w') :
    if Region.wanted o (yielded ops a.tmps) = true then Oper.wp Try.prog o a w K Q else E := by
  have hw : Region.wanted o (yielded ops a.tmps) = true := by simp [Region.wanted, hgd]
  rw [if_pos hw]
  obtain ⟨w', hrun, h1, h2⟩ := hs.put k l hk hq
  unfold Oper.wp
  simp [execOp, ho, hm, hx, hv, hrun, Result.andThen]
  exact h w' h1 h2
end
/-- The writes that the chunks that came make. -/
def qOf (at_ : Nat) (l : List UInt8) : Nat → List Nat → List (Nat × List UInt8)
  | _, [] => []
  | i, x :: xs => (at_ + i, (l.drop (128 * x)).take 128) :: qOf at_ l (i + 1) xs
theorem qOf_snoc (at_ : Nat) (l : List UInt8) (x : Nat) : ∀ (pre : List Nat) (i : Nat), qOf at_ l i (pre ++ [x]) = qOf at_ l i pre ++ [(at_ + (i + pre.length), (l.drop (128 * x)).take 128)]
  | [], i => by simp [qOf]
  | y :: ys, i => by
    rw [List.cons_append, qOf, qOf_snoc at_ l x ys (i + 1), qOf, List.length_cons, show i + 1 + ys.length = i + (ys.length + 1) by omega]
    rfl
theorem qOf_range (at_ : Nat) (l : List UInt8) : ∀ k, qOf at_ l 0 (List.range k) = cutSec at_ l k
  | 0 => rfl
  | k + 1 => by
    rw [List.range_succ, qOf_snoc, qOf_range at_ l k, List.length_range, Nat.zero_add, cutSec_succ]
theorem length_qOf (at_ : Nat) (l : List UInt8) : ∀ (pre : List Nat) (i : Nat), (qOf at_ l i pre).length = pre.length
  | [], _ => rfl
  | _ :: xs, i => by rw [qOf, List.length_cons, length_qOf at_ l xs (i + 1), List.length_cons]

/-- Between two rounds: the disk so far; what is kept; where the next write goes. -/
def WrI (K : Nat → Prop) (w3 : World) (p S M b4 at_ : Nat) (l : List UInt8) (s : Dk) (pre : List Nat) (W : World) : Prop :=
  ∃ qv, DiskV W p S M qv ⟨s.safe, s.queue ++ qOf at_ l 0 pre, s.calls, s.writes + ((pre.length : Nat) : Int)⟩ ∧ (∀ b, dkB p S M qv b → ¬ K b ∧ b ≠ b4) ∧ Upd (fun b => ¬ K b) w3 W ∧ Boxed W b4 3 (.int .i64 ((at_ + pre.length : Nat) : Int))
theorem heap_cells_ne {W : World} {row : Option Nat} {b : Nat} {cs : Array Value} {t : TypeId} {fr : Nat × Nat} (hb : W.heap[b]? = some (.cells cs t fr)) (hr : ∀ r, row = some r → ∃ o : Obj, W.heap[r]? = some o ∧ o.isCells = false) : some b ≠ row := fun e => by
  obtain ⟨o, ho, hc⟩ := hr b e.symm
  rw [hb] at ho
  cases ho
  cases hc
theorem wrI_own {K : Nat → Prop} {w3 : World} {p S M b4 at_ : Nat} {l : List UInt8} {s : Dk} {B : Nat} (hB : w3.heap.size ≤ B) (hM : M < B) : OwnFrom B (WrI K w3 p S M b4 at_ l s) := by
  rintro pre W W' row ⟨qv, hd, hk, hu, hb⟩ hg hr
  have hr1 : ∀ r, row = some r → ∃ o : Obj, W.heap[r]? = some o ∧ o.isCells = false := fun r e => (hr r e).2
  have hlt := hd.lt
  refine ⟨qv, hd.keep (hg.block p hlt.1 (heap_cells_ne hd.me hr1)) (hg.block S hlt.2.1 (heap_cells_ne hd.safe hr1)) (hg.block M hlt.2.2.1 (fun e => by have := (hr M e.symm).1; omega)) (fun g hgq => ?_), hk,
    hu.trans' (Upd.grown (F := fun b => row = some b) hg (fun k e => e)) (fun b e => .inr (by have := (hr b e).1; omega)), (hg.block b4 hb.lt (heap_cells_ne hb hr1)).trans hb⟩
  refine hg.block g (hlt.2.2.2 g hgq) ?_
  rcases hd.queue.2 with ⟨e, _⟩ | ⟨g', cap, cur, e, _, hh, _⟩
  · rw [e] at hgq; cases hgq
  · rw [e] at hgq
    injection hgq with hgq
    have hgq : g' = g := hgq
    subst hgq
    exact heap_cells_ne hh hr1
section
variable {w w6 w7 : World} {p S M n : Nat} {qA : Option Addr} {qc : Nat} {s : Dk} {V : Value}
/-- A write has been appended to the row of those that wait, and the row's header stored. -/
theorem DiskV.push (h : DiskV w p S M (.slice qA n qc) s) (hn : s.queue.length = n) (hx : Ext w w6) (q : Nat × List UInt8) (r7 : w7.ownsRow 0 93 129 V (n + 1) (qCells s.queue ++ wCells q)) (g7 : w6.grownBy w7 (Value.slice qA n qc).ownBlock)
    (k7 : V.ownBlock = (Value.slice qA n qc).ownBlock ∨ V.ownBlock = some w6.heap.size) :
    w7.heap[p]? = w.heap[p]? ∧ (w7.setCell ⟨p, 2, none⟩ V).heap[p]? = some (.cells #[.slice (some ⟨S, 0, none⟩) s.safe.length s.safe.length, .map (some M), V, .int .i64 s.calls, .int .i64 s.writes] 85 (0, 0)) ∧
    Upd (fun b => b = p ∨ (Value.slice qA n qc).ownBlock = some b) w (w7.setCell ⟨p, 2, none⟩ V) ∧ (w7.setCell ⟨p, 2, none⟩ V).ownsRow 0 93 129 V (s.queue ++ [q]).length (qCells (s.queue ++ [q])) ∧
    ∀ g, V.ownBlock = some g → (Value.slice qA n qc).ownBlock = some g ∨ w.heap.size ≤ g := by
  have hlt := h.lt
  have hp7 : w7.heap[p]? = w.heap[p]? := (g7.block p (Nat.lt_of_lt_of_le hlt.1 hx.size) (fun e => (h.row e.symm).1 rfl)).trans (Below.block hx p hlt.1)
  have hg : ∀ g, V.ownBlock = some g → (Value.slice qA n qc).ownBlock = some g ∨ w.heap.size ≤ g := fun g e => by
    rcases k7 with k | k
    · exact .inl (k.symm.trans e)
    · rw [k] at e
      injection e with e
      exact .inr (by rw [← e]; exact hx.size)
  have hpV : ∀ g, V.ownBlock = some g → g ≠ p := fun g e => by
    rcases hg g e with k | k
    · exact (h.row k).1
    · have := hlt.1; omega
  have hu7 : Upd (fun b => b = p ∨ (Value.slice qA n qc).ownBlock = some b) w w7 := (Upd.of_ext _ hx).trans (Upd.grown g7 (fun k e => .inr e))
  refine ⟨hp7, ?_, hu7.setCell (p := ⟨p, 2, none⟩) (.inl (.inl rfl)) V, ?_, hg⟩
  · have := heap_setCell_same w7 p 2 _ _ V (hp7.trans h.me)
    simp only [List.setIfInBounds_toArray, List.set_cons_succ, List.set_cons_zero] at this
    exact this
  · rw [qCells_snoc, List.length_append, List.length_singleton, hn]
    exact row_keep r7 (fun g e => by
      have hne := hpV g e
      have hu : Upd (fun b => b = p) w7 (w7.setCell ⟨p, 2, none⟩ V) := (Upd.refl (fun b => b = p) w7).setCell (.inl rfl) _
      exact hu.block g (World.ownsRow.lt r7 g e).2 hne)
/-- .. and the map knows of it. -/
theorem DiskV.pushed {w8 w9 : World} (h : DiskV w p S M (.slice qA n qc) s) (q : Nat × List UInt8) (hq : q.1 < s.safe.length ∧ q.2.length = 128)
    (me : w8.heap[p]? = some (.cells #[.slice (some ⟨S, 0, none⟩) s.safe.length s.safe.length, .map (some M), V, .int .i64 s.calls, .int .i64 s.writes] 85 (0, 0)))
    (u8 : Upd (fun b => b = p ∨ (Value.slice qA n qc).ownBlock = some b) w w8) (r8 : w8.ownsRow 0 93 129 V (s.queue ++ [q]).length (qCells (s.queue ++ [q])))
    (g8 : ∀ g, V.ownBlock = some g → (Value.slice qA n qc).ownBlock = some g ∨ w.heap.size ≤ g) (m9 : Seen w9 M (s.queue ++ [q])) (u9 : Upd (fun b => b = M) w8 w9) : DiskV w9 p S M V { s with queue := s.queue ++ [q] } := by
  have hlt := h.lt
  refine ⟨⟨h.ok.safe, fun x hx => ?_⟩, h.calls, h.big, u9.heap me h.pM, u9.heap (u8.heap h.safe (fun x => ?_)) h.sM, m9, row_keep r8 (fun g e => u9.block g (World.ownsRow.lt r8 g e).2 ?_)⟩
  · rcases List.mem_append.1 hx with x1 | x1
    · exact h.ok.queue x x1
    · have : x = q := by simpa using x1
      rw [this]; exact hq
  · rcases x with x | x
    · exact h.pS x.symm
    · exact (h.row x).2.1 rfl
  · rcases g8 g e with k | k
    · exact (h.row k).2.2
    · have := hlt.2.2.1; omega
end
theorem wr_keeps {W wf : World} {p S M b4 B0 : Nat} {qv : Value} {s : Dk} {t : TypeId} {v : Value} (h : DiskV W p S M qv s) (hb : Boxed W b4 t v) (hM : M < B0) (u : Upd (fun b => dkB p S M qv b ∨ b = b4) W wf) : KeepsFrom B0 W wf := by
  refine ⟨u.size, fun k o hk ho hc => ?_⟩
  have hlt := (Array.getElem?_eq_some_iff.1 ho).1
  refine (u.block k hlt ?_).trans ho
  rintro ((x | x | x | x) | x)
  · subst x
    have := h.me.symm.trans ho
    injection this with this
    rw [← this] at hc
    cases hc
  · subst x
    have := h.safe.symm.trans ho
    injection this with this
    rw [← this] at hc
    cases hc
  · omega
  · rcases h.queue.2 with ⟨e, _⟩ | ⟨g', cap, cur, e, _, hh, _⟩
    · rw [e] at x; cases x
    · rw [e] at x
      injection x with x
      have x : g' = k := x
      subst x
      have := hh.symm.trans ho
      injection this with this
      rw [← this] at hc
      cases hc
  · subst x
    have hb' : W.heap[k]? = some (.cells #[v] t (0, 0)) := hb
    have := hb'.symm.trans ho
    injection this with this
    rw [← this] at hc
    cases hc
end Go.Proofs.Ytgpnmmgoachajaa
