/- Slices that live anywhere in a block and are written in place: what they hold, how append, a cut and a delete change them, and which blocks a step may change. -/
import Derived.Test.YtgpnmmgoachajaaMem
import Derived.ArgAppend
import Derived.Sort.Row
import Derived.Deep.RegionLaw
namespace Go.Proofs.Ytgpnmmgoachajaa
open Go.RowKit
open Go.Proofs

/-- Only blocks of F are changed; new ones may come. -/
structure Upd (F : Nat → Prop) (w w' : World) : Prop where
  os : w'.os = w.os
  tape : w'.tape = w.tape
  output : w'.output = w.output
  size : w.heap.size ≤ w'.heap.size
  block : ∀ k, k < w.heap.size → ¬ F k → w'.heap[k]? = w.heap[k]?

section
variable {F G : Nat → Prop} {w w' w'' : World}
theorem Upd.refl (F : Nat → Prop) (w : World) : Upd F w w := ⟨rfl, rfl, rfl, Nat.le_refl _, fun _ _ _ => rfl⟩
theorem Upd.trans (h : Upd F w w') (k : Upd F w' w'') : Upd F w w'' :=
  ⟨k.os.trans h.os, k.tape.trans h.tape, k.output.trans h.output, Nat.le_trans h.size k.size,
    fun b hb hf => (k.block b (Nat.lt_of_lt_of_le hb h.size) hf).trans (h.block b hb hf)⟩
theorem Upd.mono (h : Upd F w w') (k : ∀ b, b < w.heap.size → F b → G b) : Upd G w w' := ⟨h.os, h.tape, h.output, h.size, fun b hb hf => h.block b hb (fun x => hf (k b hb x))⟩
/-- A step behind it that may change new blocks too. -/
theorem Upd.trans' (h : Upd F w w') (k : Upd G w' w'') (hg : ∀ b, G b → F b ∨ w.heap.size ≤ b) : Upd F w w'' :=
  ⟨k.os.trans h.os, k.tape.trans h.tape, k.output.trans h.output, Nat.le_trans h.size k.size,
    fun b hb hf => (k.block b (Nat.lt_of_lt_of_le hb h.size) (fun x => by rcases hg b x with y | y; exact hf y; omega)).trans (h.block b hb hf)⟩
theorem Upd.of_ext (F : Nat → Prop) (h : Ext w w') : Upd F w w' := ⟨h.os, h.tape, h.output, h.size, fun b hb _ => Below.block h b hb⟩
theorem Upd.to_ext {w0 : World} (h0 : Ext w0 w) (h : Upd F w w') (hf : ∀ b, F b → w0.heap.size ≤ b) : Ext w0 w' :=
  ⟨h.os.trans h0.os, h.tape.trans h0.tape, h.output.trans h0.output, Nat.le_trans (Ext.size h0) h.size,
    fun b hb => (h.block b (Nat.lt_of_lt_of_le hb (Ext.size h0)) (fun x => by have := hf b x; omega)).trans (Below.block h0 b hb)⟩
theorem Upd.ext_of (h : Upd (fun _ => False) w w') : Ext w w' := ⟨h.os, h.tape, h.output, h.size, fun b hb => h.block b hb (fun x => x)⟩
theorem Upd.alloc (h : Upd F w w') (o : Obj) : Upd F w (w'.alloc o) := h.trans' (Upd.of_ext (fun _ => False) ((Ext.refl w').alloc o)) (fun _ x => x.elim)
theorem Upd.drew (h : Upd F w w') : Upd F w w'.drew := ⟨h.os, h.tape, h.output, h.size, h.block⟩
theorem Upd.drewN (h : Upd F w w') (n : Nat) : Upd F w (w'.drewN n) := ⟨h.os, h.tape, h.output, h.size, h.block⟩
theorem Upd.setCell (h : Upd F w w') {p : Addr} (hp : F p.block ∨ w.heap.size ≤ p.block) (u : Value) : Upd F w (w'.setCell p u) := by
  refine ⟨h.os, h.tape, h.output, by simpa using h.size, fun b hb hf => ?_⟩
  rw [heap_setCell_other w' p b u (by rintro rfl; rcases hp with x | x; exact hf x; omega)]
  exact h.block b hb hf
theorem Upd.grown {row : Option Nat} (h : w.grownBy w' row) (hr : ∀ k, row = some k → F k) : Upd F w w' :=
  ⟨h.os, h.tape, h.output, h.size, fun b hb hf => h.block b hb (fun e => hf (hr b e.symm))⟩
theorem Upd.heap (h : Upd F w w') {g : Nat} {o : Obj} (hg : w.heap[g]? = some o) (hf : ¬ F g) : w'.heap[g]? = some o :=
  (h.block g (by rcases Nat.lt_or_ge g w.heap.size with x | x; exact x; rw [Array.getElem?_eq_none x] at hg; cases hg) hf).trans hg
theorem Upd.cell (h : Upd F w w') {p : Addr} {v : Value} (hp : w.cell? p = some v) (hf : ¬ F p.block) : w'.cell? p = some v :=
  (World.cell?_of_block (h.block p.block (block_lt_of_cell hp) hf)).trans hp
end

/-- The block that a slice lies in. -/
def blk : Value → Option Nat
  | .slice (some a) _ _ => some a.block
  | _ => none

/-- A slice that holds these values, with its room, in a block of cells of its own type. -/
def Mine (w : World) (e : TypeId) (v : Value) (xs : List Value) : Prop :=
  (v = .slice none 0 0 ∧ xs = []) ∨
  ∃ g o c cur, v = .slice (some ⟨g, o, none⟩) xs.length c ∧ w.heap[g]? = some (.cells cur e (0, 0)) ∧ o + c ≤ cur.size ∧ xs.length ≤ c ∧ c ≤ maxLen ∧
    ∀ (j : Nat) u, xs[j]? = some u → cur[o + j]? = some u

section
variable {F : Nat → Prop} {w w' : World} {e : TypeId} {v : Value} {xs : List Value}
theorem Mine.nil (w : World) (e : TypeId) : Mine w e (.slice none 0 0) [] := .inl ⟨rfl, rfl⟩
theorem Mine.lt (h : Mine w e v xs) {g : Nat} (hg : blk v = some g) : g < w.heap.size := by
  rcases h with ⟨rfl, _⟩ | ⟨g', o, c, cur, rfl, hh, _⟩
  · cases hg
  · cases hg
    rcases Nat.lt_or_ge g' w.heap.size with x | x
    · exact x
    · rw [Array.getElem?_eq_none x] at hh; cases hh
theorem Mine.upd (h : Mine w e v xs) (k : Upd F w w') (hf : ∀ g, blk v = some g → ¬ F g) : Mine w' e v xs := by
  rcases h with h | ⟨g, o, c, cur, rfl, hh, r⟩
  · exact .inl h
  · exact .inr ⟨g, o, c, cur, rfl, k.heap hh (hf g rfl), r⟩
theorem Mine.ext (h : Mine w e v xs) (k : Ext w w') : Mine w' e v xs := h.upd (Upd.of_ext (fun _ => False) k) (fun _ _ x => x)
theorem Mine.form (h : Mine w e v xs) : ∃ A c, v = .slice A xs.length c ∧ xs.length ≤ c ∧ c ≤ maxLen ∧ Cells w A xs ∧ (∀ a, A = some a → blk v = some a.block) ∧ (A = none → xs = []) := by
  rcases h with ⟨rfl, rfl⟩ | ⟨g, o, c, cur, rfl, hh, h1, h2, h3, h4⟩
  · exact ⟨none, 0, rfl, Nat.le_refl _, Nat.zero_le _, Cells.nil _ _, (fun _ h => by cases h), fun _ => rfl⟩
  · refine ⟨_, c, rfl, h2, h3, fun _ => ⟨g, o, rfl, fun j u hu => ?_⟩, fun _ h => by cases h; rfl, fun h => by cases h⟩
    rw [cell_of_row w g (o + j) cur e (0, 0) hh]
    exact h4 j u hu
theorem Mine.of_own {base : Nat} (h : Own w base e v xs) : Mine w e v xs := by
  obtain ⟨hl, h | ⟨g, cap, cur, hv, hg, hh, hn, hm, hs, ht⟩⟩ := h
  · obtain ⟨rfl, h0⟩ := h
    exact .inl ⟨rfl, List.eq_nil_of_length_eq_zero h0⟩
  · refine .inr ⟨g, 0, cap, cur, hv, hh, by omega, hn, hm, fun j u hu => ?_⟩
    have hj := (List.getElem?_eq_some_iff.1 hu).1
    rw [← ht, List.getElem?_take, if_pos (by omega)] at hu
    simpa using hu
/-- A new block. -/
theorem Mine.new (w : World) (e : TypeId) (cur : Array Value) (n c : Nat) (xs : List Value) (hn : xs.length = n) (hc : n ≤ c) (hs : c ≤ cur.size) (hm : c ≤ maxLen) (hx : ∀ (j : Nat) u, xs[j]? = some u → cur[j]? = some u) :
    Mine (w.alloc (.cells cur e)) e (.slice (some ⟨w.heap.size, 0, none⟩) n c) xs := by
  subst hn
  exact .inr ⟨_, 0, c, cur, rfl, heap_alloc_new w _, by omega, hc, hm, fun j u hu => by rw [Nat.zero_add]; exact hx j u hu⟩
/-- What is left of it behind a cut of its front. -/
theorem Mine.drop {A : Option Addr} {n c lo : Nat} (h : Mine w e (.slice A n c) xs) (hlo : lo ≤ xs.length) :
    Mine w e (.slice (if c = lo then A else A.map (·.add (lo * 1))) (n - lo) (c - lo)) (xs.drop lo) := by
  rcases h with ⟨hv, rfl⟩ | ⟨g, o, c', cur, hv, hh, h1, h2, h3, h4⟩
  · injection hv with e1 e2 e3
    subst e1; subst e2; subst e3
    simp only [List.length_nil, Nat.le_zero] at hlo
    subst hlo
    exact .inl ⟨rfl, rfl⟩
  · injection hv with e1 e2 e3
    subst e1; subst e2; subst e3
    by_cases hc : c = lo
    · subst hc
      rw [if_pos rfl]
      refine .inr ⟨g, o, c - c, cur, by rw [List.length_drop], hh, by omega, by rw [List.length_drop]; omega, by omega, fun j u hu => ?_⟩
      have := (List.getElem?_eq_some_iff.1 hu).1
      rw [List.length_drop] at this
      omega
    · rw [if_neg hc]
      refine .inr ⟨g, o + lo, c - lo, cur, ?_, hh, by omega, by rw [List.length_drop]; omega, by omega, fun j u hu => ?_⟩
      · rw [List.length_drop]
        simp [Addr.add_lit]
      · rw [List.getElem?_drop] at hu
        rw [Nat.add_assoc]
        exact h4 _ u hu
end

/-- Cells written in a row. -/
def putAt (cur : Array Value) : Nat → List Value → Array Value
  | _, [] => cur
  | o, v :: r => putAt (cur.setIfInBounds o v) (o + 1) r
theorem putAt_size : ∀ (vs : List Value) (cur : Array Value) (o : Nat), (putAt cur o vs).size = cur.size
  | [], _, _ => rfl
  | v :: r, cur, o => by rw [putAt, putAt_size r]; simp
theorem putAt_lo : ∀ (vs : List Value) (cur : Array Value) (o k : Nat), k < o → (putAt cur o vs)[k]? = cur[k]?
  | [], _, _, _, _ => rfl
  | v :: r, cur, o, k, h => by rw [putAt, putAt_lo r _ _ k (by omega), Array.getElem?_setIfInBounds, if_neg (by omega)]
theorem putAt_in : ∀ (vs : List Value) (cur : Array Value) (o j : Nat) (u : Value), o + vs.length ≤ cur.size → vs[j]? = some u → (putAt cur o vs)[o + j]? = some u
  | [], _, _, _, _, _, h => by simp at h
  | v :: r, cur, o, 0, u, hs, h => by
    simp only [List.length_cons] at hs
    rw [putAt, putAt_lo r _ _ _ (by omega), Array.getElem?_setIfInBounds, if_pos (by omega), if_pos (by omega)]
    simpa using h
  | v :: r, cur, o, j + 1, u, hs, h => by
    simp only [List.length_cons] at hs
    rw [putAt, show o + (j + 1) = o + 1 + j by omega]
    exact putAt_in r _ _ j u (by simp; omega) (by simpa using h)
theorem heap_setCells (b : Nat) (e : TypeId) : ∀ (vs : List Value) (o : Nat) (w : World) (cur : Array Value), w.heap[b]? = some (.cells cur e (0, 0)) → (w.setCells b o vs).heap[b]? = some (.cells (putAt cur o vs) e (0, 0))
  | [], _, _, _, h => h
  | v :: r, o, w, cur, h => heap_setCells b e r (o + 1) _ _ (heap_setCell_same w b o cur e v h)
theorem upd_setCells {F : Nat → Prop} (b : Nat) (hb : F b) : ∀ (vs : List Value) (o : Nat) (w : World), Upd F w (w.setCells b o vs)
  | [], _, w => Upd.refl F w
  | v :: r, o, w => ((Upd.refl F w).setCell (p := ⟨b, o, none⟩) (.inl hb) v).trans (upd_setCells b hb r (o + 1) _)

section
variable {P : Program} {w : World}
theorem run_append_mine (t ty e : TypeId) (i : TypeInfo) (z : Value) (bytes : Nat) (ht : P.underlying t = some (.slice e)) (hi : P.info? e = some i) (hz : i.zero = some z)
    (hsize : i.size = 1) (hby : i.bytes = bytes) (hzs : z.cells.size = 1)
    (v : Value) (xs : List Value) (hm : Mine w e v xs) (A : Option Addr) (c : Nat) (news : List Value) (hx : Cells w A news) (h1 : ∀ u ∈ news, u.oneCell' = true)
    (hlen : xs.length + news.length ≤ 4294967296) (hb8 : bytes ≤ 32768) :
    ∃ v' w', (Builtin.append_ #[t, t] ty #[v, .slice A news.length c]).run P w = .ok v' w' ∧ Mine w' e v' (xs ++ news) ∧ Upd (fun b => blk v = some b) w w' ∧
      (blk v' = blk v ∨ blk v' = some w.heap.size) := by
  have hbytes : (xs.length + news.length) * bytes ≤ 140737488355328 := Nat.le_trans (Nat.mul_le_mul hlen hb8) (by decide)
  by_cases h0 : news.length = 0
  · have hn : news = [] := List.eq_nil_of_length_eq_zero h0
    subst hn
    refine ⟨v, w, ?_, by simpa using hm, Upd.refl _ _, .inl rfl⟩
    rcases hm with ⟨rfl, _⟩ | ⟨g, o, c', cur, rfl, _, _, hnc, _⟩
    · cases A <;> simp [Builtin.append_, run_underlying ht, sizeOf, typeInfo, hi, Builtin.lenOf, Builtin.firstCells, loadCells, loadCellsFrom]
    · cases A <;> simp [Builtin.append_, run_underlying ht, sizeOf, typeInfo, hi, Builtin.lenOf, Builtin.firstCells, hnc, storeCells, loadCells, loadCellsFrom]
  · obtain ⟨b, off, rfl, _⟩ := hx (by omega)
    have hnew := hx.news rfl (by omega)
    rcases hm with ⟨rfl, rfl⟩ | ⟨g, o, c', cur, rfl, hh, hs, hnc, hcm, hcur⟩
    · have hr := run_append_nil (P := P) w t ty e i z ht hi hz ⟨b, off, none⟩ news.length c news (by rw [hsize, Nat.mul_one]) hnew (by omega) (by omega) (by rw [hby]; simp at hbytes; omega)
      have hge := grownCap_ge w news.length 0 e
      have hle := grownCap_le_maxLen w news.length 0 e (by simp only [maxLen]; omega)
      refine ⟨_, _, hr, Mine.new w.drew e _ _ _ _ (by simp) hge ?_ hle ?_, (Upd.refl _ w).drew.alloc _, .inr rfl⟩
      · simp only [Array.size_append, List.size_toArray, size_zeroCells, hzs]; omega
      · intro j u hu
        rw [List.nil_append] at hu
        rw [Array.getElem?_append_left (by simpa using (List.getElem?_eq_some_iff.1 hu).1)]
        simpa using hu
    · by_cases hroom : xs.length + news.length ≤ c'
      · have hr := run_append_room_cells (P := P) w t ty e i ht hi g o xs.length c' ⟨b, off, none⟩ news.length c news (by rw [hsize, Nat.mul_one]) hnew h1 hroom
          (fun j hj => by rw [hsize, Nat.mul_one, cell_of_row w g _ cur e (0, 0) hh, Array.getElem?_eq_getElem (by omega)]; rfl)
          (fun j _ => frozen_of_row w g _ cur e hh)
        rw [hsize, Nat.mul_one] at hr
        refine ⟨_, _, hr, .inr ⟨g, o, c', putAt cur (o + xs.length) news, by rw [List.length_append], heap_setCells g e news _ w cur hh, by rw [putAt_size]; exact hs, by rw [List.length_append]; exact hroom, hcm, fun j u hu => ?_⟩,
          upd_setCells (F := fun b => blk (Value.slice (some ⟨g, o, none⟩) xs.length c') = some b) g rfl news _ w, .inl rfl⟩
        by_cases hj : j < xs.length
        · rw [List.getElem?_append_left hj] at hu
          rw [putAt_lo _ _ _ _ (by omega)]
          exact hcur j u hu
        · rw [List.getElem?_append_right (by omega)] at hu
          have := putAt_in news cur (o + xs.length) (j - xs.length) u (by omega) hu
          rwa [show o + xs.length + (j - xs.length) = o + j by omega] at this
      · have hold : ∀ j u, xs[j]? = some u → w.cell? ((⟨g, o, none⟩ : Addr).add j) = some u := fun j u hu => by
          rw [Addr.add_lit, cell_of_row w g (o + j) cur e (0, 0) hh]
          exact hcur j u hu
        have hr := run_append_grow (P := P) w t ty e i z ht hi hz ⟨g, o, none⟩ xs.length c' xs (by rw [hsize, Nat.mul_one]) hold ⟨b, off, none⟩ news.length c news (by rw [hsize, Nat.mul_one]) hnew (by omega) (by omega)
          (growslice_fits (by omega) (by rw [hby]; exact hbytes))
        have hge := grownCap_ge w (xs.length + news.length) c' e
        have hle := grownCap_le_maxLen w (xs.length + news.length) c' e (by simp only [maxLen]; omega)
        refine ⟨_, _, hr, Mine.new w.drew e _ _ _ _ (by simp) hge ?_ hle ?_, (Upd.refl _ w).drew.alloc _, .inr rfl⟩
        · simp only [Array.size_append, List.size_toArray, size_zeroCells, hzs]; omega
        · intro j u hu
          rw [Array.getElem?_append_left (by simpa using (List.getElem?_eq_some_iff.1 hu).1)]
          simpa using hu

theorem wpList_append_mine {ops : Array Oper} {rest : List Oper} {o : Oper} {a : Act} {Q : Exit → Act → World → Prop} (hgd : o.guard = none) (s x : Operand) (t : TypeId)
    (ho : o.op = .call { callee := .builtin .append, args := #[s, x], argTypes := #[t, t] })
    (e : TypeId) (i : TypeInfo) (z : Value) (bytes : Nat) (ht : P.underlying t = some (.slice e)) (hi : P.info? e = some i) (hz : i.zero = some z)
    (hsize : i.size = 1) (hby : i.bytes = bytes) (hzs : z.cells.size = 1)
    (v : Value) (xs : List Value) (hs : a.eval s = v) (hm : Mine w e v xs) (A : Option Addr) (m c : Nat) (news : List Value) (hxv : a.eval x = .slice A m c) (hm' : news.length = m) (hx : Cells w A news) (h1 : ∀ u ∈ news, u.oneCell' = true)
    (hlen : xs.length + news.length ≤ 4294967296) (hb8 : bytes ≤ 32768)
    (h : ∀ v' w', Mine w' e v' (xs ++ news) → Upd (fun b => blk v = some b) w w' → (blk v' = blk v ∨ blk v' = some w.heap.size) → wpList P ops Q rest (a.put o.dst v') w') : wpList P ops Q (o :: rest) a w := by
  subst hm'
  obtain ⟨v', w', hr, h2, h3, h4⟩ := run_append_mine (P := P) t o.type e i z bytes ht hi hz hsize hby hzs v xs hm A c news hx h1 hlen hb8
  exact wpList_append_run hgd s x t t ho v _ v' w' hs hxv hr (h v' w' h2 h3 h4)
/-- The same as one step of a region that draws its order. -/
theorem step_append_mine {ops : Array Oper} {o : Oper} {a : Act} {K : Act → World → Prop} {Q : Exit → Act → World → Prop} {E : Prop} (hgd : o.guard = none) (s x : Operand) (t : TypeId)
    (ho : o.op = .call { callee := .builtin .append, args := #[s, x], argTypes := #[t, t] })
    (e : TypeId) (i : TypeInfo) (z : Value) (bytes : Nat) (ht : P.underlying t = some (.slice e)) (hi : P.info? e = some i) (hz : i.zero = some z)
    (hsize : i.size = 1) (hby : i.bytes = bytes) (hzs : z.cells.size = 1)
    (v : Value) (xs : List Value) (hs : a.eval s = v) (hm : Mine w e v xs) (A : Option Addr) (m c : Nat) (news : List Value) (hxv : a.eval x = .slice A m c) (hm' : news.length = m) (hx : Cells w A news) (h1 : ∀ u ∈ news, u.oneCell' = true)
    (hlen : xs.length + news.length ≤ 4294967296) (hb8 : bytes ≤ 32768)
    (h : ∀ v' w', Mine w' e v' (xs ++ news) → Upd (fun b => blk v = some b) w w' → (blk v' = blk v ∨ blk v' = some w.heap.size) → K (a.put o.dst v') w') :
    if Region.wanted o (yielded ops a.tmps) = true then Oper.wp P o a w K Q else E := by
  subst hm'
  have hw : Region.wanted o (yielded ops a.tmps) = true := by simp [Region.wanted, hgd]
  rw [if_pos hw]
  obtain ⟨v', w', hr, h2, h3, h4⟩ := run_append_mine (P := P) t o.type e i z bytes ht hi hz hsize hby hzs v xs hm A c news hx h1 hlen hb8
  unfold Oper.wp
  simp [execOp, ho, resolve, invoke, builtin, hs, hxv, hr, Result.andThen]
  exact h v' w' h2 h3 h4
end
end Go.Proofs.Ytgpnmmgoachajaa
