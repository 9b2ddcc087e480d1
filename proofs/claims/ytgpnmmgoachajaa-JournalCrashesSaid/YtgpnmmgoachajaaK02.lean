/- Joined texts: Appo, De, Shelf, Str, Oc, Zz, Zw, Zg. -/
import Derived.Test.YtgpnmmgoachajaaK01
import Derived.Shelf.SlicesE.Index
import Derived.Shelf.SlicesE.IndexFunc
import Derived.Shelf.SlicesE.Delete
import Derived.Shelf.SlicesE.Clone
import Derived.Shelf.SlicesE.Equal
import Derived.Ground.SlgnProg
import Derived.Ground.SlgfProg
import Derived.Test.YtgpnmmgoachajaaProg
import Derived.Deep.AppendSrc
import Derived.Laws.BitsAllLaws
import Derived.Deep.LoopGhost
import Derived.BigQuiet
/- append and copies at slices of octets, as the laws' walks use them. -/
namespace Go.Proofs.Ytgpnmmgoachajaa
open Go.RowKit
open Go.Proofs

theorem and_then {a b : Prop} (h : a) (k : a → b) : a ∧ b := ⟨h, k h⟩

theorem own_empty (w : World) : Own (w.alloc (.cells #[] 5)) w.heap.size 5 (.slice (some ⟨w.heap.size, 0, none⟩) 0 0) (octs []) :=
  ⟨rfl, .inr ⟨_, 0, #[], rfl, Nat.le_refl _, heap_alloc_new w _, Nat.le_refl _, Nat.zero_le _, rfl, rfl⟩⟩

section
variable {w : World} {ops : Array Oper} {rest : List Oper} {o : Oper} {a : Act} {Q : Exit → Act → World → Prop}
theorem wpList_appo (hgd : o.guard = none) (s x : Operand)
    (ho : o.op = .call { callee := .builtin .append, args := #[s, x], argTypes := #[22, 22] })
    (base : Nat) (v : Value) (l : List UInt8) (hs : a.eval s = v) (hown : Own w base 5 v (octs l)) (A : Option Addr) (m c : Nat) (l2 : List UInt8) (hxv : a.eval x = .slice A m c) (hm : l2.length = m) (hx : Octs w A l2)
    (hlen : l.length + l2.length ≤ 4294967296) (hbase : base ≤ w.heap.size)
    (h : ∀ v' w', Own w' base 5 v' (octs (l ++ l2)) → w.grownBy w' v.ownBlock → (v'.ownBlock = v.ownBlock ∨ v'.ownBlock = some w.heap.size) → wpList Try.prog ops Q rest (a.put o.dst v') w') : wpList Try.prog ops Q (o :: rest) a w := by
  obtain ⟨i0, hi, hz, hs1, hb⟩ := info_parts info5
  refine wpList_app hgd s x _ ho base 5 i0 (.int .u8 0) 1 Try.underlying22 hi hz hs1 hb rfl v (octs l) hs hown A m c (octs l2) hxv (by rw [length_octs]; exact hm) hx (octs_one _) (by rw [length_octs, length_octs]; exact hlen) (by omega) hbase ?_
  intro v' w' h1 h2 h3
  rw [← octs_append] at h1
  exact h v' w' h1 h2 h3
/-- 'append([]byte{}, b...)': the append behind the empty literal. -/
theorem wpList_copyo {w0 : World} (hgd : o.guard = none) (s x : Operand)
    (ho : o.op = .call { callee := .builtin .append, args := #[s, x], argTypes := #[22, 22] }) (hw : w = w0.alloc (.cells #[] 5))
    (hs : a.eval s = .slice (some ⟨w0.heap.size, 0, none⟩) 0 0) (A : Option Addr) (m c : Nat) (l2 : List UInt8) (hxv : a.eval x = .slice A m c) (hm : l2.length = m) (hx : Octs w0 A l2)
    (hlen : l2.length ≤ 4294967296)
    (h : ∀ v' w', Own w' w0.heap.size 5 v' (octs l2) → Ext w0 w' → wpList Try.prog ops Q rest (a.put o.dst v') w') : wpList Try.prog ops Q (o :: rest) a w := by
  subst hw
  refine wpList_appo hgd s x ho w0.heap.size _ [] hs (own_empty w0) A m c l2 hxv hm (hx.alloc _) (by simpa using hlen) (by simp) ?_
  intro v' w' h1 h2 _
  exact h v' w' (by simpa using h1) (((Ext.refl w0).alloc _).grown h2 (fun b hb => by simp [Value.ownBlock] at hb; omega))
end

theorem Own.octs_form {w : World} {base : Nat} {v : Value} {l : List UInt8} (h : Own w base 5 v (octs l)) :
    ∃ A c, v = .slice A l.length c ∧ l.length ≤ c ∧ Octs w A l := by
  obtain ⟨A, c, hv, hc, _, hx, _⟩ := h.form
  rw [length_octs] at hv hc
  exact ⟨A, c, hv, hc, hx⟩
theorem Own.head {w : World} {base : Nat} {v : Value} {l : List UInt8} (h : Own w base 5 v (octs l)) (h0 : 0 < l.length) :
    ∃ g c, v = .slice (some ⟨g, 0, none⟩) l.length c ∧ l.length ≤ c ∧ base ≤ g ∧ g < w.heap.size ∧ (∀ j, j < l.length → w.cell? ⟨g, j, none⟩ = some (.int .u8 (((l.getD j 0).toNat : Nat) : Int))) ∧ ∀ j, w.frozen? ⟨g, j, none⟩ = false := by
  obtain ⟨hl, h1 | ⟨g, cap, cur, hv, hg, hh, hn, hm, hs, ht⟩⟩ := h
  · obtain ⟨_, h2⟩ := h1
    rw [length_octs] at h2; omega
  · rw [length_octs] at hv hn ht
    refine ⟨g, cap, hv, hn, hg, (by rcases Nat.lt_or_ge g w.heap.size with x | x; exact x; rw [Array.getElem?_eq_none x] at hh; cases hh), fun j hj => ?_, fun j => frozen_of_row w _ _ _ _ hh⟩
    rw [cell_of_row w g j cur _ _ hh]
    have : (octs l)[j]? = (cur.toList.take (l.length * 1))[j]? := by rw [ht]
    rw [List.getElem?_take, if_pos (by omega), octs_get l j hj] at this
    have h3 : l.getD j 0 = l[j] := by simp [List.getD_eq_getElem?_getD, List.getElem?_eq_getElem hj]
    rw [h3, this]
    simp
theorem Own.set {w : World} {base g c : Nat} {l : List UInt8} {n : Nat} (h : Own w base 5 (.slice (some ⟨g, 0, none⟩) n c) (octs l)) (j : Nat) (x : UInt8) :
    Own (w.setCell ⟨g, j, none⟩ (.int .u8 ((x.toNat : Nat) : Int))) base 5 (.slice (some ⟨g, 0, none⟩) n c) (octs (l.set j x)) := by
  obtain ⟨hl, h1 | ⟨g', cap, cur, hv, hg, hh, hn, hm, hs, ht⟩⟩ := h
  · obtain ⟨h2, _⟩ := h1
    cases h2
  · injection hv with e1 e2 e3
    injection e1 with e1
    injection e1 with e1
    subst e1
    rw [length_octs] at hn ht e2 hl
    refine ⟨by simp, .inr ⟨g, cap, _, by rw [length_octs, List.length_set, e2, e3], hg, heap_setCell_same w g j cur _ _ hh, by simpa using hn, hm, by simpa using hs, ?_⟩⟩
    rw [length_octs, List.length_set, Array.toList_setIfInBounds, List.take_set, ht]
    simp [octs, List.map_set, oct]

theorem Own.at_ {w : World} {base g m c : Nat} {l : List UInt8} (h : Own w base 5 (.slice (some ⟨g, 0, none⟩) m c) (octs l)) :
    m = l.length ∧ m ≤ c ∧ (∀ j, j < l.length → w.cell? ⟨g, j, none⟩ = some (.int .u8 (((l.getD j 0).toNat : Nat) : Int))) ∧ (∀ j, w.frozen? ⟨g, j, none⟩ = false) ∧ base ≤ g ∧ Octs w (some ⟨g, 0, none⟩) l := by
  obtain ⟨A, c', e, hc, hx⟩ := h.octs_form
  injection e with e1 e2 e3
  subst e1
  subst e2
  subst e3
  rcases Nat.eq_zero_or_pos l.length with h0 | h0
  · obtain ⟨hl, h1 | ⟨g', cap, cur, hv, hg, hh, hn, hm, hs, ht⟩⟩ := h
    · obtain ⟨h2, _⟩ := h1
      cases h2
    · injection hv with e1 _ _
      injection e1 with e1
      injection e1 with e1
      subst e1
      exact ⟨rfl, hc, fun j hj => by omega, fun j => frozen_of_row w _ _ _ _ hh, hg, hx⟩
  · obtain ⟨g', c', e, _, hg, _, h1, h2⟩ := h.head h0
    injection e with e1 e2 e3
    injection e1 with e1
    injection e1 with e1
    subst e1
    exact ⟨rfl, hc, h1, h2, hg, hx⟩

/-- The cells that 'make([]byte, n)' lays. -/
def zeros (n : Nat) : Array Value := madeCells #[.int .u8 0] n
theorem zeros_list (n : Nat) : (zeros n).toList = octs (List.replicate n 0) := by
  unfold zeros
  rw [toList_madeCells_one]
  simp [octs, oct]
theorem make_octs (n : Nat) (hn : n ≤ 4294967296) (w : World) :
    (Instr.makeSlice 22 (.int .i64 (n : Int)) (.int .i64 (n : Int))).run Try.prog w = .ok (.slice (some ⟨w.heap.size, 0, none⟩) n n) (w.alloc (.cells (zeros n) 5)) := by
  obtain ⟨i0, hi, hz, hs1, hb⟩ := info_parts info5
  have h := run_make (P := Try.prog) w 22 5 i0 _ Try.underlying22 hi hz .i64 .i64 n n (by omega) (by omega) (by rw [hb]; omega) (by omega)
  rw [h, hs1]
  simp [zeros, Value.cells]
theorem own_zeros (n : Nat) (hn : n ≤ 4294967296) (w : World) : Own (w.alloc (.cells (zeros n) 5)) w.heap.size 5 (.slice (some ⟨w.heap.size, 0, none⟩) n n) (octs (List.replicate n 0)) := by
  have e : (octs (List.replicate n 0)).length = n := by simp
  refine ⟨by simp, .inr ⟨_, n, zeros n, by rw [e], Nat.le_refl _, heap_alloc_new w _, by rw [e]; exact Nat.le_refl _, by simp only [maxLen]; omega, ?_, ?_⟩⟩
  · have := congrArg List.length (zeros_list n)
    simpa using this
  · rw [zeros_list, e, Nat.mul_one, List.take_of_length_le (by rw [e]; exact Nat.le_refl _)]

/-- '((x % n) + n) % n'. -/
theorem round_mod (x : Int) (N : Nat) (h : 0 < N) : ∃ (t : Int) (k : Nat), x.tmod (N : Int) = t ∧ -(N : Int) < t ∧ t < (N : Int) ∧ (t + (N : Int)) % (N : Int) = (k : Int) ∧ (t + (N : Int)).tmod (N : Int) = (k : Int) ∧ k < N := by
  have h1 : x.tmod (N : Int) < (N : Int) := Int.tmod_lt_of_pos x (by omega)
  have h2 : -(N : Int) < x.tmod (N : Int) := by
    have := Int.tmod_lt_of_pos (-x) (b := (N : Int)) (by omega)
    rw [Int.neg_tmod] at this
    omega
  have h3 : 0 ≤ x.tmod (N : Int) + (N : Int) := by omega
  have h4 := Int.emod_nonneg (x.tmod (N : Int) + (N : Int)) (b := (N : Int)) (by omega)
  have h5 := Int.emod_lt_of_pos (x.tmod (N : Int) + (N : Int)) (b := (N : Int)) (by omega)
  refine ⟨_, ((x.tmod (N : Int) + (N : Int)) % (N : Int)).toNat, rfl, h2, h1, by omega, ?_, by omega⟩
  rw [Int.tmod_eq_emod_of_nonneg h3]; omega
end Go.Proofs.Ytgpnmmgoachajaa
/- The disk's see: what a sector has by the latest writes. -/
namespace Go.Proofs.Ytgpnmmgoachajaa
open Go.RowKit
open Go.Proofs

theorem size_sec : (Try.prog.info? 91).map (·.size) = some 128 := by kernel_rfl
theorem und_sec : Try.prog.underlying 91 = some (.array 128 5) := Try.underlying91
theorem all_octs (l : List UInt8) : (octs l).toArray.all (·.oneCell') = true := all_oneCell_toArray (octs_one l)
theorem there_row {w : World} {b : Nat} {cur : Array Value} {t : TypeId} (hb : w.heap[b]? = some (.cells cur t (0, 0))) (o n : Nat) (h : o + n ≤ cur.size) : w.there b o n := fun j hj => by
  refine ⟨?_, frozen_of_row w b _ _ _ hb⟩
  rw [cell_of_row w b _ _ _ _ hb, Array.getElem?_eq_getElem (by omega)]
  rfl
theorem range_row {w : World} {b : Nat} {cur : Array Value} {t : TypeId} (hb : w.heap[b]? = some (.cells cur t (0, 0))) (o : Nat) (cs : List Value) (h : (cur.toList.drop o).take cs.length = cs) : w.rangeAt b o cs := fun j v hv => by
  rw [cell_of_row w b _ _ _ _ hb, ← Array.getElem?_toList]
  have hj := (List.getElem?_eq_some_iff.1 hv).1
  rw [← h, List.getElem?_take, if_pos hj, List.getElem?_drop] at hv
  exact hv
section
variable {w : World} {ops : Array Oper} {rest : List Oper} {o : Oper} {a : Act} {Q : Exit → Act → World → Prop}
/-- A sector's variable is read. -/
theorem wpList_load_sec (hgd : o.guard = none) (x : Operand) (ho : o.op = .load 91 x) (b k : Nat) (hx : a.eval x = .pointer (some ⟨b, k, none⟩)) (l : List UInt8) (hl : l.length = 128) (hr : w.rangeAt b k (octs l))
    (h : wpList Try.prog ops Q rest (a.put o.dst (secV l)) w) : wpList Try.prog ops Q (o :: rest) a w :=
  wpList_load_mid hgd _ x ho b k hx (octs l) _ hr und_sec rfl (by rw [size_sec, length_octs, hl]) h
/-- A sector is stored into a row, from a place on. -/
theorem wpList_store_sec (hgd : o.guard = none) (x y : Operand) (ho : o.op = .store 91 x y) (b k : Nat) (hx : a.eval x = .pointer (some ⟨b, k, none⟩)) (l : List UInt8) (hy : a.eval y = secV l) (hl : l.length = 128)
    (cur : Array Value) (t : TypeId) (hb : w.heap[b]? = some (.cells cur t (0, 0))) (hk : k + 128 ≤ cur.size)
    (h : ∀ w', w'.heap[b]? = some (.cells (putAt cur k (octs l)) t (0, 0)) → Upd (fun g => g = b) w w' → wpList Try.prog ops Q rest (a.put o.dst undef) w') : wpList Try.prog ops Q (o :: rest) a w := by
  have hsz : (octs l).toArray.size = 128 := by rw [List.size_toArray, length_octs, hl]
  refine wpList_store_mid hgd _ x y ho b k (octs l).toArray hx hy (there_row hb k _ (by omega)) (by rw [size_sec, hsz]) (all_octs l) ?_
  exact h _ (heap_setCells b t (octs l) k w cur hb) (upd_setCells (F := fun g => g = b) b rfl (octs l) k w)
theorem putAt_all (cur : Array Value) (vs : List Value) (h : cur.size = vs.length) : putAt cur 0 vs = vs.toArray := by
  apply Array.toList_inj.1
  rw [putAt_list _ _ _ (by omega)]
  have : cur.toList.length = vs.length := by rw [Array.length_toList]; exact h
  simp [List.drop_of_length_le (show cur.toList.length ≤ vs.length by omega)]
end
theorem zero_size : Try.zeroCells91.size = 128 := by kernel_rfl

set_option maxRecDepth 100000 in
theorem dk51_any {K : Nat → Prop} {w : World} {p : Nat} {s : Dk} (h : Disk K w p s) (a : Nat) (ha : a < s.safe.length) : Calls Try.prog 51 #[.pointer (some ⟨p, 0, none⟩), .int .i64 (a : Int)] w fun e w' => e = .returned (secV (seeAt s a)) ∧ Ext w w' := by
  obtain ⟨S, M, qv, h, k⟩ := h
  have hb := h.big
  cases hl : lastAt s.queue a with
  | some l =>
    have hr : ∀ o, (Instr.lookup 82 (.map (some M)) (.int .i64 (a : Int)) true).run Try.prog (w.alloc o) = .ok (.tuple #[secV l, .bool true]) (w.alloc o) := fun o => by
      obtain ⟨m, h1, h2⟩ := (h.seen.ext ((Ext.refl w).alloc o)).look a (by omega)
      rw [h1, h2, hl]
      rfl
    have hl128 := lastAt_len s.queue (fun q hq => (h.ok.queue q hq).2) a l hl
    have size_w1 : (w.alloc (.cells Try.zeroCells91 91)).heap.size = w.heap.size + 1 := World.size_alloc ..
    have zl : Try.zeroCells91.size = (octs l).length := by rw [zero_size, length_octs, hl128]
    have z1 : ((w.alloc (.cells Try.zeroCells91 91)).alloc (.cells Try.zeroCells91 91)).heap[w.heap.size]? = some (.cells Try.zeroCells91 91 (0, 0)) := ((Ext.refl (w.alloc (.cells Try.zeroCells91 91))).alloc _).heap (heap_alloc_new w _)
    have d1 : ∀ o, (w.alloc o).cell? ⟨p, 1, none⟩ = some (.map (some M)) := fun o => (h.ext ((Ext.refl w).alloc o)).cells.2.1
    go_enter Try.func51, Try.ntmps51
    go_wp2_with first
      | (refine wpList_store_sec rfl (.tmp 5) (.tmp 14) rfl (w.heap.size + 1) 0 rfl l rfl hl128 Try.zeroCells91 91 (by rw [← size_w1]; exact heap_alloc_new _ _) (by rw [zero_size]; decide) ?_; intro w3 b3 u3; rw [putAt_all _ _ zl] at b3)
      | (refine wpList_load_sec rfl (.tmp 5) rfl (w.heap.size + 1) 0 rfl l hl128 (range_row b3 0 (octs l) (by rw [List.drop_zero]; exact List.take_of_length_le (Nat.le_refl _))) ?_)
      | (refine wpList_store_sec rfl (.tmp 4) (.tmp 17) rfl w.heap.size 0 rfl l rfl hl128 Try.zeroCells91 91 (u3.heap z1 (by omega)) (by rw [zero_size]; decide) ?_; intro w4 b4 u4; rw [putAt_all _ _ zl] at b4)
    refine bodyPost_ret (results_cell_row rfl _ _ w.heap.size 91 _ _ _ rfl b4 und_sec rfl (by rw [size_sec]; simp [hl128])) rfl ?_
    refine ⟨by rw [seeAt, hl]; rfl, ?_⟩
    exact (u4.to_ext (u3.to_ext (((Ext.refl w).alloc _).alloc _) (fun g e => by rw [e]; omega)) (fun g e => by rw [e]; exact Nat.le_refl _))
  | none =>
    obtain ⟨l, hsl⟩ : ∃ l, s.safe[a]? = some l := ⟨_, List.getElem?_eq_getElem ha⟩
    have hl128 : l.length = 128 := h.ok.safe l (List.mem_of_getElem? hsl)
    obtain ⟨m, hm⟩ : ∃ m, m = List.replicate 128 (0 : UInt8) := ⟨_, rfl⟩
    have hm128 : m.length = 128 := by rw [hm, List.length_replicate]
    have hr : ∀ o, (Instr.lookup 82 (.map (some M)) (.int .i64 (a : Int)) true).run Try.prog (w.alloc o) = .ok (.tuple #[secV m, .bool false]) (w.alloc o) := fun o => by
      obtain ⟨m', h1, h2⟩ := (h.seen.ext ((Ext.refl w).alloc o)).look a (by omega)
      rw [h1, h2, hl, hm]
      rfl
    clear hm
    have size_w1 : (w.alloc (.cells Try.zeroCells91 91)).heap.size = w.heap.size + 1 := World.size_alloc ..
    have zl : Try.zeroCells91.size = (octs l).length := by rw [zero_size, length_octs, hl128]
    have z1 : ((w.alloc (.cells Try.zeroCells91 91)).alloc (.cells Try.zeroCells91 91)).heap[w.heap.size]? = some (.cells Try.zeroCells91 91 (0, 0)) := ((Ext.refl (w.alloc (.cells Try.zeroCells91 91))).alloc _).heap (heap_alloc_new w _)
    have d1 : ∀ o, (w.alloc o).cell? ⟨p, 1, none⟩ = some (.map (some M)) := fun o => (h.ext ((Ext.refl w).alloc o)).cells.2.1
    have hX : Ext w ((w.alloc (.cells Try.zeroCells91 91)).alloc (.cells Try.zeroCells91 91)) := ((Ext.refl w).alloc _).alloc _
    have hrange : ((octs s.safe.flatten).drop (128 * a)).take 128 = octs l := by
      rw [octs_flat]
      exact flat_at 128 _ a (octs l) (fun x hx => by
        obtain ⟨y, hy, rfl⟩ := List.mem_map.1 hx
        rw [length_octs]; exact h.ok.safe y hy) (by rw [List.getElem?_map, hsl]; rfl)
    go_enter Try.func51, Try.ntmps51
    go_wp2_with first
      | (refine wpList_store_sec rfl (.tmp 5) (.tmp 14) rfl (w.heap.size + 1) 0 rfl m rfl hm128 Try.zeroCells91 91 (by rw [← size_w1]; exact heap_alloc_new _ _) (by rw [zero_size]; decide) ?_; intro w3 b3 u3; have X3 := u3.to_ext hX (fun g e => by rw [e]; omega); have h3 := h.ext X3; have c0 := h3.cells.1)
      | (refine wpList_load_sec rfl (.tmp 23) rfl S (a * 128) rfl l hl128 (range_row h3.safe _ _ (by rw [length_octs, hl128, Nat.mul_comm]; exact hrange)) ?_)
      | (refine wpList_store_sec rfl (.tmp 4) (.tmp 24) rfl w.heap.size 0 rfl l rfl hl128 Try.zeroCells91 91 (u3.heap z1 (by omega)) (by rw [zero_size]; decide) ?_; intro w4 b4 u4; rw [putAt_all _ _ zl] at b4)
    refine bodyPost_ret (results_cell_row rfl _ _ w.heap.size 91 _ _ _ rfl b4 und_sec rfl (by rw [size_sec]; simp [hl128])) rfl ?_
    refine ⟨by rw [seeAt, hl, List.getD_eq_getElem?_getD, hsl]; rfl, ?_⟩
    exact u4.to_ext X3 (fun g e => by rw [e]; exact Nat.le_refl _)
end Go.Proofs.Ytgpnmmgoachajaa
/- The contracts of the library's slices functions, laid at this dump: each the shelf's structure filled with the dump's own facts. -/
namespace Go.Proofs.Ytgpnmmgoachajaa
open Go.Proofs
open Go.Shelf
def lays64_ren : Go.Shelf.Ren := ⟨fun | 29 => 64 | n => n, fun | 22 => 33 | 23 => 3 | 3 => 3 | 0 => 0 | 4 => 4 | n => n, fun | n => n⟩
theorem lays64 : SlLaysE.n29 Try.prog lays64_ren := {
  mixed := by kernel_rfl
  f29 := ⟨Try.f64.name, by decide, Try.func64.trans (congrArg some (by kernel_rfl))⟩
  t0 := Try.underlying0
  a0 := Try.isAgg0
  z0 := Try.sizeOf0
  v0 := Try.zeroValue0
  t3 := Try.underlying3
  a3 := Try.isAgg3
  z3 := Try.sizeOf3
  v3 := Try.zeroValue3
  t4 := Try.underlying4
  a4 := Try.isAgg4
  z4 := Try.sizeOf4
  v4 := Try.zeroValue4
  t22 := Try.underlying33
  a22 := Try.isAgg33
  z22 := Try.sizeOf33
  v22 := Try.zeroValue33
  a23 := Try.isAgg3
  z23 := Try.sizeOf3 }
def lays50_ren : Go.Shelf.Ren := ⟨fun | 31 => 50 | 29 => 64 | n => n, fun | 22 => 33 | 23 => 3 | 4 => 4 | 3 => 3 | 0 => 0 | n => n, fun | n => n⟩
theorem lays50 : SlLaysE.n31 Try.prog lays50_ren := {
  mixed := by kernel_rfl
  f29 := ⟨Try.f64.name, by decide, Try.func64.trans (congrArg some (by kernel_rfl))⟩
  f31 := ⟨Try.f50.name, by decide, Try.func50.trans (congrArg some (by kernel_rfl))⟩
  t0 := Try.underlying0
  a0 := Try.isAgg0
  z0 := Try.sizeOf0
  v0 := Try.zeroValue0
  t3 := Try.underlying3
  a3 := Try.isAgg3
  z3 := Try.sizeOf3
  v3 := Try.zeroValue3
  t4 := Try.underlying4
  a4 := Try.isAgg4
  z4 := Try.sizeOf4
  v4 := Try.zeroValue4
  t22 := Try.underlying33
  a22 := Try.isAgg33
  z22 := Try.sizeOf33
  v22 := Try.zeroValue33
  a23 := Try.isAgg3
  z23 := Try.sizeOf3 }
def lays84_ren : Go.Shelf.Ren := ⟨fun | 41 => 84 | n => n, fun | 22 => 22 | 23 => 5 | 4 => 4 | n => n, fun | n => n⟩
theorem lays84 : SlLaysE0.n41 Try.prog lays84_ren := {
  mixed := by kernel_rfl
  f41 := ⟨Try.f84.name, by decide, Try.func84.trans (congrArg some (by kernel_rfl))⟩
  t4 := Try.underlying4
  a4 := Try.isAgg4
  z4 := Try.sizeOf4
  v4 := Try.zeroValue4
  t22 := Try.underlying22
  a22 := Try.isAgg22
  z22 := Try.sizeOf22
  v22 := Try.zeroValue22 }
def lays72_ren : Go.Shelf.Ren := ⟨fun | 33 => 72 | n => n, fun | 22 => 22 | 23 => 5 | 4 => 4 | 3 => 3 | 0 => 0 | n => n, fun | n => n⟩
theorem lays72 : SlLaysE.n33 Try.prog lays72_ren := {
  mixed := by kernel_rfl
  f33 := ⟨Try.f72.name, by decide, Try.func72.trans (congrArg some (by kernel_rfl))⟩
  t0 := Try.underlying0
  a0 := Try.isAgg0
  z0 := Try.sizeOf0
  v0 := Try.zeroValue0
  t3 := Try.underlying3
  a3 := Try.isAgg3
  z3 := Try.sizeOf3
  v3 := Try.zeroValue3
  t4 := Try.underlying4
  a4 := Try.isAgg4
  z4 := Try.sizeOf4
  v4 := Try.zeroValue4
  t22 := Try.underlying22
  a22 := Try.isAgg22
  z22 := Try.sizeOf22
  v22 := Try.zeroValue22
  a23 := Try.isAgg5
  z23 := Try.sizeOf5 }
end Go.Proofs.Ytgpnmmgoachajaa
/- Strings of octets: 'string(b)'. -/
namespace Go.Proofs.Ytgpnmmgoachajaa
open Go.RowKit
open Go.Proofs

/-- A string of octets. -/
abbrev strOf (l : List UInt8) : Value := .string ⟨l.toArray⟩

theorem strOfNums_octs (l : List UInt8) : strOfNums (l.map fun c => ((c.toNat : Nat) : Int)) = ⟨l.toArray⟩ := by
  unfold strOfNums
  congr 2
  rw [List.map_map]
  conv => rhs; rw [← List.map_id l]
  exact List.map_congr_left fun c _ => by simp

/-- 'string(b)'. -/
theorem conv_str (A : Option Addr) (l : List UInt8) (n c : Nat) (w : World) (hn : l.length = n) (hx : Octs w A l) :
    (convert 22 9 (.slice A n c)).run Try.prog w = .ok (strOf l) w := by
  rcases Nat.eq_zero_or_pos n with rfl | h0
  · have hl : l = [] := List.eq_nil_of_length_eq_zero hn
    subst hl
    rcases A with _ | ⟨b, o, s⟩
    · exact run_convert_bytes_nil w 22 5 Try.underlying22 Try.underlying5 0 c 9 Try.underlying9
    · have := run_convert_bytes_string (P := Try.prog) w 22 9 5 (some ⟨b, o, s⟩) 0 c Try.underlying22 Try.underlying5 Try.underlying9
      rw [this]
      simp [Conv.bytesToString, loadCells, loadCellsFrom]
      rfl
  · obtain ⟨b, o, rfl, hc⟩ := hx (by rw [length_octs]; omega)
    have := run_convert_bytes_arg w 22 5 Try.underlying22 Try.underlying5 b o n c (l.map fun c => ((c.toNat : Nat) : Int)) (by simpa using hn) (fun i hi => by
      have h1 := hc i _ (octs_get l i (by omega))
      rw [h1]
      congr 2
      simp [List.getD_eq_getElem?_getD, List.getElem?_map, List.getElem?_eq_getElem (show i < l.length by omega)]) 9 Try.underlying9
    rw [this, strOfNums_octs]
end Go.Proofs.Ytgpnmmgoachajaa
/- Octets in blocks that are written in place: append of octets and of a string, cuts, clone. -/
namespace Go.Proofs.Ytgpnmmgoachajaa
open Go.RowKit
open Go.Proofs
open Go.Shelf

section
variable {P : Program} {w : World}
/-- append of a string's octets. -/
theorem run_append_mine_str (t u ty e : TypeId) (i : TypeInfo) (z : Value) (ht : P.underlying t = some (.slice e)) (hu : P.underlying u = some .string) (hi : P.info? e = some i) (hz : i.zero = some z)
    (hsize : i.size = 1) (hby : i.bytes = 1) (hzs : z.cells.size = 1)
    (v : Value) (xs : List Value) (hm : Mine w e v xs) (s : List UInt8) (hlen : xs.length + s.length ≤ 4294967296) :
    ∃ v' w', (Builtin.append_ #[t, u] ty #[v, strOf s]).run P w = .ok v' w' ∧ Mine w' e v' (xs ++ octs s) ∧ Upd (fun b => blk v = some b) w w' ∧ (blk v' = blk v ∨ blk v' = some w.heap.size) := by
  have hS : Src P i.size u (strOf s) s.length (octs s) w := by
    have := Src.ofString (P := P) w (tx := u) hu ⟨s.toArray⟩
    rw [hsize]
    have e1 : byteCells ⟨s.toArray⟩ = octs s := by
      unfold byteCells octs oct
      simp
    have e2 : (⟨s.toArray⟩ : ByteArray).size = s.length := by
      show s.toArray.size = _
      simp
    rw [e1, e2] at this
    exact this
  have hlo : (octs s).length = s.length := length_octs s
  rcases hm with ⟨rfl, rfl⟩ | ⟨g, o, c', cur, rfl, hh, hs, hnc, hcm, hcur⟩
  · by_cases h0 : s.length = 0
    · have : s = [] := List.eq_nil_of_length_eq_zero h0
      subst this
      refine ⟨.slice none 0 0, w, ?_, Mine.nil _ _, Upd.refl _ _, .inl rfl⟩
      show (Builtin.append_ #[t, u] ty #[.slice none 0 0, .string ByteArray.empty]).run P w = _
      simp [Builtin.append_, run_underlying ht, run_underlying hu, sizeOf, typeInfo, hi, Builtin.lenOf, Builtin.firstCells]
    · have hr := run_append_grow_src (P := P) w t u ty e i z ht hi hz none 0 0 [] (run_firstCells_none w.drew i.size 0 0 0) (strOf s) s.length (octs s) hS (by omega) (by simp; omega)
        (growslice_fits (by omega) (by rw [hby]; simp at hlen; omega))
      simp only [Nat.zero_add, List.nil_append] at hr
      have hge := grownCap_ge w s.length 0 e
      have hle := grownCap_le_maxLen w s.length 0 e (by simp only [maxLen]; simp at hlen; omega)
      refine ⟨_, _, hr, Mine.new w.drew e _ _ _ _ (by simp) hge ?_ hle ?_, (Upd.refl _ w).drew.alloc _, .inr rfl⟩
      · simp only [Array.size_append, List.size_toArray, size_zeroCells, hzs, hlo]; omega
      · intro j u' hu'
        rw [List.nil_append] at hu'
        rw [Array.getElem?_append_left (by simpa using (List.getElem?_eq_some_iff.1 hu').1)]
        simpa using hu'
  · by_cases hroom : xs.length + s.length ≤ c'
    · have hr := run_append_room_src (P := P) w t u ty e i ht hi g o xs.length c' (strOf s) s.length (octs s) hS hroom
        (fun j hj => by rw [hsize, Nat.mul_one, cell_of_row w g _ cur e (0, 0) hh, Array.getElem?_eq_getElem (by omega)]; rfl)
        (fun j _ => frozen_of_row w g _ cur e hh)
      rw [hsize, Nat.mul_one] at hr
      refine ⟨_, _, hr, .inr ⟨g, o, c', putAt cur (o + xs.length) (octs s), by rw [List.length_append, hlo], heap_setCells g e (octs s) _ w cur hh, by rw [putAt_size]; exact hs, by rw [List.length_append, hlo]; exact hroom, hcm, fun j u hu => ?_⟩,
        upd_setCells (F := fun b => blk (Value.slice (some ⟨g, o, none⟩) xs.length c') = some b) g rfl (octs s) _ w, .inl rfl⟩
      by_cases hj : j < xs.length
      · rw [List.getElem?_append_left hj] at hu
        rw [putAt_lo _ _ _ _ (by omega)]
        exact hcur j u hu
      · rw [List.getElem?_append_right (by omega)] at hu
        have := putAt_in (octs s) cur (o + xs.length) (j - xs.length) u (by omega) hu
        rwa [show o + xs.length + (j - xs.length) = o + j by omega] at this
    · have hold : ∀ j u, xs[j]? = some u → w.cell? ((⟨g, o, none⟩ : Addr).add j) = some u := fun j u hu => by
        rw [Addr.add_lit, cell_of_row w g (o + j) cur e (0, 0) hh]
        exact hcur j u hu
      have hfo := run_firstCells_some (P := P) w.drew i.size xs.length ⟨g, o, none⟩ xs.length c' xs (by rw [hsize, Nat.mul_one]) (by simpa using hold)
      have hr := run_append_grow_src (P := P) w t u ty e i z ht hi hz (some ⟨g, o, none⟩) xs.length c' xs hfo (strOf s) s.length (octs s) hS (by omega) (by omega)
        (growslice_fits (by omega) (by rw [hby]; omega))
      have hge := grownCap_ge w (xs.length + s.length) c' e
      have hle := grownCap_le_maxLen w (xs.length + s.length) c' e (by simp only [maxLen]; omega)
      refine ⟨_, _, hr, Mine.new w.drew e _ _ _ _ (by rw [List.length_append, hlo]) hge ?_ hle ?_, (Upd.refl _ w).drew.alloc _, .inr rfl⟩
      · simp only [Array.size_append, List.size_toArray, size_zeroCells, hzs, hlo, List.length_append]; omega
      · intro j u' hu'
        rw [Array.getElem?_append_left (by simpa using (List.getElem?_eq_some_iff.1 hu').1)]
        simpa using hu'
end

section
variable {w : World} {ops : Array Oper} {rest : List Oper} {o : Oper} {a : Act} {Q : Exit → Act → World → Prop}
theorem wpList_append_str (hgd : o.guard = none) (s x : Operand)
    (ho : o.op = .call { callee := .builtin .append, args := #[s, x], argTypes := #[22, 9] })
    (v : Value) (l : List UInt8) (hs : a.eval s = v) (hm : Mine w 5 v (octs l)) (l2 : List UInt8) (hxv : a.eval x = strOf l2) (hlen : l.length + l2.length ≤ 4294967296)
    (h : ∀ v' w', Mine w' 5 v' (octs (l ++ l2)) → Upd (fun b => blk v = some b) w w' → (blk v' = blk v ∨ blk v' = some w.heap.size) → wpList Try.prog ops Q rest (a.put o.dst v') w') : wpList Try.prog ops Q (o :: rest) a w := by
  obtain ⟨i0, hi, hz, hs1, hb⟩ := info_parts info5
  obtain ⟨v', w', hr, h2, h3, h4⟩ := run_append_mine_str (P := Try.prog) 22 9 o.type 5 i0 (.int .u8 0) Try.underlying22 Try.underlying9 hi hz hs1 hb rfl v (octs l) hm l2 (by rw [length_octs]; exact hlen)
  rw [← octs_append] at h2
  exact wpList_append_run hgd s x _ _ ho v _ v' w' hs hxv hr (h v' w' h2 h3 h4)
theorem wpList_append_octs (hgd : o.guard = none) (s x : Operand)
    (ho : o.op = .call { callee := .builtin .append, args := #[s, x], argTypes := #[22, 22] })
    (v : Value) (l : List UInt8) (hs : a.eval s = v) (hm : Mine w 5 v (octs l)) (A : Option Addr) (m c : Nat) (l2 : List UInt8) (hxv : a.eval x = .slice A m c) (hm' : l2.length = m) (hx : Octs w A l2) (hlen : l.length + l2.length ≤ 4294967296)
    (h : ∀ v' w', Mine w' 5 v' (octs (l ++ l2)) → Upd (fun b => blk v = some b) w w' → (blk v' = blk v ∨ blk v' = some w.heap.size) → wpList Try.prog ops Q rest (a.put o.dst v') w') : wpList Try.prog ops Q (o :: rest) a w := by
  obtain ⟨i0, hi, hz, hs1, hb⟩ := info_parts info5
  refine wpList_append_mine hgd s x _ ho 5 i0 (.int .u8 0) 1 Try.underlying22 hi hz hs1 hb rfl v (octs l) hs hm A m c (octs l2) hxv (by rw [length_octs]; exact hm') hx (octs_one _) (by rw [length_octs, length_octs]; exact hlen) (by omega) ?_
  intro v' w' h1 h2 h3
  rw [← octs_append] at h1
  exact h v' w' h1 h2 h3
theorem step_append_octs {K : Act → World → Prop} {E : Prop} (hgd : o.guard = none) (s x : Operand)
    (ho : o.op = .call { callee := .builtin .append, args := #[s, x], argTypes := #[22, 22] })
    (v : Value) (l : List UInt8) (hs : a.eval s = v) (hm : Mine w 5 v (octs l)) (A : Option Addr) (m c : Nat) (l2 : List UInt8) (hxv : a.eval x = .slice A m c) (hm' : l2.length = m) (hx : Octs w A l2) (hlen : l.length + l2.length ≤ 4294967296)
    (h : ∀ v' w', Mine w' 5 v' (octs (l ++ l2)) → Upd (fun b => blk v = some b) w w' → (blk v' = blk v ∨ blk v' = some w.heap.size) → K (a.put o.dst v') w') :
    if Region.wanted o (yielded ops a.tmps) = true then Oper.wp Try.prog o a w K Q else E := by
  obtain ⟨i0, hi, hz, hs1, hb⟩ := info_parts info5
  refine step_append_mine hgd s x _ ho 5 i0 (.int .u8 0) 1 Try.underlying22 hi hz hs1 hb rfl v (octs l) hs hm A m c (octs l2) hxv (by rw [length_octs]; exact hm') hx (octs_one _) (by rw [length_octs, length_octs]; exact hlen) (by omega) ?_
  intro v' w' h1 h2 h3
  rw [← octs_append] at h1
  exact h v' w' h1 h2 h3
end

theorem Mine.octs_form {w : World} {v : Value} {l : List UInt8} (h : Mine w 5 v (octs l)) : ∃ A c, v = .slice A l.length c ∧ l.length ≤ c ∧ c ≤ maxLen ∧ Octs w A l := by
  obtain ⟨A, c, hv, hc, hm, hx, _, _⟩ := h.form
  rw [length_octs] at hv hc
  exact ⟨A, c, hv, hc, hm, hx⟩

/-- slices.Clone of octets. -/
theorem clone_octs (A : Option Addr) (l : List UInt8) (c : Nat) (w : World) (hlen : l.length ≤ 4294967296) (hn : A = none → l = []) (hs : ∀ a, A = some a → ∃ b o, a = ⟨b, o, none⟩) (hx : Octs w A l) :
    Calls Try.prog 84 #[.slice A l.length c] w fun e w' => ∃ v, e = .returned v ∧ Own w' w.heap.size 5 v (octs l) ∧ Ext w w' := by
  obtain ⟨i0, hi0, hz, hs0, hb⟩ := info_parts info5
  cases A with
  | none =>
    have := hn rfl
    subst this
    refine (AnyE.slices_Clone_nil lays84 _ c w).mono ?_
    rintro e w' ⟨rfl, rfl⟩
    exact ⟨_, rfl, Own.nil _ _ _, Ext.refl _⟩
  | some a =>
    obtain ⟨g, o, rfl⟩ := hs a rfl
    refine (AnyE.slices_Clone lays84 i0 (.int .u8 0) 1 1 hi0 hz hs0 hb rfl (by decide) Try.sizeOf5 g o l.length c (octs l) w (by simp) (by simp only [maxLen]; omega) (by omega) (fun j u hu => ?_) (octs_one l)).mono ?_
    · have h0 : 0 < (octs l).length := Nat.lt_of_le_of_lt (Nat.zero_le _) (List.getElem?_eq_some_iff.1 hu).1
      obtain ⟨b', o', e, hc⟩ := hx h0
      cases e
      exact hc j u hu
    · rintro e w' ⟨v, rfl, h1, _, h2⟩
      exact ⟨v, rfl, by unfold Own; rw [length_octs]; exact h1, h2⟩
theorem clone_mine (A : Option Addr) (l : List UInt8) (c : Nat) (w : World) (hlen : l.length ≤ 4294967296) (hm : Mine w 5 (.slice A l.length c) (octs l)) :
    Calls Try.prog 84 #[.slice A l.length c] w fun e w' => ∃ v, e = .returned v ∧ Own w' w.heap.size 5 v (octs l) ∧ Ext w w' := by
  obtain ⟨A', c', e, _, _, hx, _, hn⟩ := hm.form
  injection e with e1 _ _
  subst e1
  refine clone_octs A l c w hlen (fun h => by have := hn h; simpa [octs] using this) (fun a ha => ?_) hx
  rcases hm with ⟨hv, _⟩ | ⟨g, o, c', cur, hv, _⟩
  · injection hv with e1 _ _; rw [ha] at e1; cases e1
  · injection hv with e1 _ _; rw [ha] at e1; cases e1; exact ⟨g, o, rfl⟩
end Go.Proofs.Ytgpnmmgoachajaa
/- Zigzags in plain Lean: a number without its sign, its groups of seven bits, and what is read of them. No program is named here. -/
namespace Go.Proofs.Ytgpnmmgoachajaa
open Go.RowKit
open Go.Proofs

/-- A number's zigzag. -/
def zz (n : Int) : Nat := if 0 ≤ n then (2 * n).toNat else (-2 * n - 1).toNat
/-- The number of a zigzag. -/
def zag (u : Nat) : Int := if u % 2 = 0 then ((u / 2 : Nat) : Int) else -((u / 2 : Nat) : Int) - 1
theorem zag_zz (n : Int) : zag (zz n) = n := by
  unfold zag zz
  split <;> split <;> omega
theorem zz_zag (u : Nat) : zz (zag u) = u := by
  unfold zag zz
  split <;> split <;> omega
theorem zz_lt (n : Int) (h1 : -9223372036854775808 ≤ n) (h2 : n ≤ 9223372036854775807) : zz n < 18446744073709551616 := by
  unfold zz
  split <;> omega
theorem zag_range (u : Nat) (h : u < 18446744073709551616) : -9223372036854775808 ≤ zag u ∧ zag u ≤ 9223372036854775807 := by
  unfold zag
  split <;> omega
/-- A zigzag's groups. -/
def zb (u : Nat) : List UInt8 := if u < 128 then [UInt8.ofNat u] else UInt8.ofNat (u % 128 + 128) :: zb (u / 128)
termination_by u
decreasing_by omega
theorem zb_lo {u : Nat} (h : u < 128) : zb u = [UInt8.ofNat u] := by rw [zb, if_pos h]
theorem zb_hi {u : Nat} (h : ¬ u < 128) : zb u = UInt8.ofNat (u % 128 + 128) :: zb (u / 128) := by rw [zb, if_neg h]
theorem zb_pos (u : Nat) : 1 ≤ (zb u).length := by
  rw [zb]
  split <;> simp
theorem zb_len : ∀ (k u : Nat), u < 128 ^ (k + 1) → (zb u).length ≤ k + 1
  | 0, u, h => by rw [zb_lo (by simpa using h)]; simp
  | k + 1, u, h => by
    by_cases h2 : u < 128
    · rw [zb_lo h2]; simp
    · rw [zb_hi h2, List.length_cons]
      have : u / 128 < 128 ^ (k + 1) := by
        rw [Nat.div_lt_iff_lt_mul (by decide)]
        rwa [Nat.pow_succ] at h
      have := zb_len k (u / 128) this
      omega
theorem zb_len64 (u : Nat) (h : u < 18446744073709551616) : (zb u).length ≤ 10 := zb_len 9 u (Nat.lt_of_lt_of_le h (by decide))
theorem zb_mono : ∀ (k u v : Nat), u ≤ k → u ≤ v → (zb u).length ≤ (zb v).length
  | 0, u, v, hk, _ => by
    rw [zb_lo (by omega)]
    exact zb_pos v
  | k + 1, u, v, hk, h => by
    by_cases h2 : u < 128
    · rw [zb_lo h2]
      exact zb_pos v
    · rw [zb_hi h2, zb_hi (u := v) (by omega)]
      simp only [List.length_cons]
      have := zb_mono k (u / 128) (v / 128) (by omega) (Nat.div_le_div_right h)
      omega
/-- What is read of groups. -/
def zv : List UInt8 → Nat
  | [] => 0
  | c :: l => c.toNat % 128 + 128 * zv l
theorem zv_zb (u : Nat) : zv (zb u) = u := by
  induction u using Nat.strongRecOn with
  | _ u ih =>
    by_cases h : u < 128
    · rw [zb_lo h, zv, zv, UInt8.toNat_ofNat']
      omega
    · rw [zb_hi h, zv, ih (u / 128) (by omega), UInt8.toNat_ofNat']
      omega
theorem zv_snoc : ∀ (l : List UInt8) (c : UInt8), zv (l ++ [c]) = zv l + c.toNat % 128 * 128 ^ l.length
  | [], c => by simp [zv]
  | d :: l, c => by
    rw [List.cons_append, zv, zv_snoc l c, zv, List.length_cons, Nat.pow_succ, Nat.mul_add, ← Nat.add_assoc, Nat.mul_left_comm, Nat.mul_comm 128 (128 ^ _)]
/-- Groups but the last have a mark; the last has none, and is not nothing where it isn't the only one. -/
def Marked : List UInt8 → Prop
  | [] => False
  | [c] => c.toNat < 128
  | c :: d :: l => 128 ≤ c.toNat ∧ Marked (d :: l)
theorem zb_marked (u : Nat) : Marked (zb u) := by
  induction u using Nat.strongRecOn with
  | _ u ih =>
    by_cases h : u < 128
    · rw [zb_lo h, Marked, UInt8.toNat_ofNat']
      omega
    · rw [zb_hi h]
      have := ih (u / 128) (by omega)
      cases hz : zb (u / 128) with
      | nil => rw [hz] at this; exact this.elim
      | cons d l =>
        rw [hz] at this
        refine ⟨?_, this⟩
        rw [UInt8.toNat_ofNat']
        omega
theorem zb_last (u : Nat) : 2 ≤ (zb u).length → (zb u).getLast? ≠ some 0 := by
  induction u using Nat.strongRecOn with
  | _ u ih =>
    intro hl
    by_cases h : u < 128
    · rw [zb_lo h] at hl; simp at hl
    · rw [zb_hi h] at hl ⊢
      cases hz : zb (u / 128) with
      | nil => have := zb_pos (u / 128); rw [hz] at this; simp at this
      | cons d l =>
        rw [List.getLast?_cons_cons]
        by_cases h2 : 2 ≤ (zb (u / 128)).length
        · have := ih (u / 128) (by omega) h2
          rw [hz] at this
          exact this
        · rw [hz] at h2
          have hl0 : l = [] := by
            cases l with
            | nil => rfl
            | cons x y => simp at h2
          subst hl0
          by_cases h3 : u / 128 < 128
          · rw [zb_lo h3] at hz
            injection hz with hz _
            rw [List.getLast?_singleton, ← hz]
            intro e
            have := congrArg UInt8.toNat (Option.some.inj e)
            rw [UInt8.toNat_ofNat'] at this
            simp at this
            omega
          · rw [zb_hi h3] at hz
            have hp := zb_pos (u / 128 / 128)
            injection hz with _ hz
            rw [hz] at hp
            simp at hp
/-- Where the first group without a mark stands. -/
def firstLow (B : List UInt8) : Option Nat := B.findIdx? (fun c => decide (c.toNat < 128))
theorem firstLow_marked : ∀ (l r : List UInt8), Marked l → firstLow (l ++ r) = some (l.length - 1)
  | [], _, h => h.elim
  | [c], r, h => by
    unfold firstLow
    rw [List.singleton_append, List.findIdx?_cons, decide_eq_true (show c.toNat < 128 from h)]
    rfl
  | c :: d :: l, r, h => by
    have ih := firstLow_marked (d :: l) r h.2
    unfold firstLow at ih ⊢
    rw [List.cons_append, List.findIdx?_cons, decide_eq_false (by have := h.1; omega), ih]
    simp
/-- What a zigzag that is read off octets is, and what is left; none: it fails. -/
def rZig (B : List UInt8) : Option (Int × List UInt8) :=
  match firstLow B with
  | none => none
  | some k => if 10 ≤ k then none else if zb (zv (B.take (k + 1)) % 18446744073709551616) = B.take (k + 1) then some (zag (zv (B.take (k + 1)) % 18446744073709551616), B.drop (k + 1)) else none
theorem rZig_zb (u : Nat) (h : u < 18446744073709551616) (r : List UInt8) : rZig (zb u ++ r) = some (zag u, r) := by
  have hp := zb_pos u
  have hl := zb_len64 u h
  have e : (zb u).length - 1 + 1 = (zb u).length := by omega
  have ht : (zb u ++ r).take ((zb u).length - 1 + 1) = zb u := by rw [e, List.take_left]
  have hd : (zb u ++ r).drop ((zb u).length - 1 + 1) = r := by rw [e, List.drop_left]
  rw [rZig, firstLow_marked _ _ (zb_marked u)]
  simp only [ht, hd, zv_zb, Nat.mod_eq_of_lt h]
  rw [if_neg (by omega), if_pos trivial]
end Go.Proofs.Ytgpnmmgoachajaa
/- The integers' zigzag, to and fro, and the document's. -/
namespace Go.Proofs.Ytgpnmmgoachajaa
open Go.RowKit
open Go.Proofs

theorem xor_ones (a : Nat) (h : a < 18446744073709551616) : bits .xor .u64 (a : Int) (18446744073709551615 : Int) = ((18446744073709551615 - a : Nat) : Int) := by
  rw [show (18446744073709551615 : Int) = ((18446744073709551615 : Nat) : Int) by rfl, u64_xor_nat a _ h (by decide)]
  have h2 : a ^^^ 18446744073709551615 = 18446744073709551615 - a := by
    have := congrArg BitVec.toNat (BitVec.xor_allOnes (x := BitVec.ofNat 64 a))
    rw [BitVec.toNat_xor, BitVec.toNat_not, BitVec.toNat_allOnes, BitVec.toNat_ofNat, Nat.mod_eq_of_lt (by omega)] at this
    simpa using this
  rw [h2]
theorem xor_zero (a : Nat) (h : a < 18446744073709551616) : bits .xor .u64 (a : Int) (0 : Int) = (a : Int) := by
  rw [show (0 : Int) = ((0 : Nat) : Int) by rfl, u64_xor_nat a 0 h (by decide), Nat.xor_zero]
theorem and_one (a : Nat) (h : a < 18446744073709551616) : bits .and .u64 (a : Int) (1 : Int) = ((a % 2 : Nat) : Int) := by
  rw [show (1 : Int) = ((1 : Nat) : Int) by rfl, u64_and_nat a 1 h (by decide), Nat.and_one_is_mod]
theorem xor_i64_zero (a : Nat) (ha : a < 9223372036854775808) : bits .xor .i64 (a : Int) 0 = (a : Int) := by
  show IntKind.i64.wrap ((BitVec.ofInt 64 (a : Int) ^^^ BitVec.ofInt 64 0).toNat : Int) = _
  have h1 : BitVec.ofInt 64 0 = 0#64 := by decide
  rw [h1, BitVec.xor_zero, ofInt_u64 a (by omega)]
  simp [IntKind.wrap, IntKind.bits, IntKind.signed]
  omega
theorem xor_i64_ones (a : Nat) (ha : a < 9223372036854775808) : bits .xor .i64 (a : Int) (-1) = -1 - (a : Int) := by
  show IntKind.i64.wrap ((BitVec.ofInt 64 (a : Int) ^^^ BitVec.ofInt 64 (-1)).toNat : Int) = _
  have h1 : BitVec.ofInt 64 (-1) = BitVec.allOnes 64 := by decide
  rw [h1, BitVec.xor_allOnes, BitVec.toNat_not, ofInt_u64 a (by omega)]
  simp [IntKind.wrap, IntKind.bits, IntKind.signed]
  omega

theorem zig_xor (n : Int) (h1 : -9223372036854775808 ≤ n) (h2 : n ≤ 9223372036854775807) : bits .xor .u64 (IntKind.u64.wrap (IntKind.u64.wrap n * 2)) (IntKind.u64.wrap (n / 9223372036854775808)) = ((zz n : Nat) : Int) := by
  simp only [IntKind.wrap_u64]
  by_cases h0 : 0 ≤ n
  · have e1 : n % 18446744073709551616 * 2 % 18446744073709551616 = ((2 * n.toNat : Nat) : Int) := by omega
    have e2 : n / 9223372036854775808 % 18446744073709551616 = 0 := by omega
    rw [e1, e2, xor_zero _ (by omega), zz, if_pos h0]
    omega
  · have e1 : n % 18446744073709551616 * 2 % 18446744073709551616 = (((18446744073709551616 + 2 * n).toNat : Nat) : Int) := by omega
    have e2 : n / 9223372036854775808 % 18446744073709551616 = 18446744073709551615 := by omega
    rw [e1, e2, xor_ones _ (by omega), zz, if_neg h0]
    omega
theorem zag_xor (u : Nat) (h : u < 18446744073709551616) : bits .xor .i64 ((u : Int) / 2) (wrap64 (-wrap64 (bits .and .u64 (u : Int) 1))) = zag u := by
  rw [and_one u h, show (u : Int) / 2 = ((u / 2 : Nat) : Int) by omega, zag]
  have h2 := Nat.mod_two_eq_zero_or_one u
  rcases h2 with h2 | h2
  · rw [h2, if_pos rfl, show wrap64 (-wrap64 ((0 : Nat) : Int)) = 0 by unfold wrap64; omega, xor_i64_zero _ (by omega)]
  · rw [h2, if_neg (by decide), show wrap64 (-wrap64 ((1 : Nat) : Int)) = -1 by unfold wrap64; omega, xor_i64_ones _ (by omega)]
    omega

end Go.Proofs.Ytgpnmmgoachajaa
/- A zigzag's octets: the code's and the document's. -/
namespace Go.Proofs.Ytgpnmmgoachajaa
open Go.RowKit
open Go.Proofs

set_option maxRecDepth 100000 in
theorem or_128 : ∀ x, x < 256 → x ||| 128 = x % 128 + 128 := by decide
theorem oct_lo (u : Nat) (h : u < 128) : octs [UInt8.ofNat u] = [.int .u8 (u : Int)] := by
  simp only [octs, List.map_cons, List.map_nil, oct, UInt8.toNat_ofNat']
  congr 2
  omega
theorem oct_hi (u : Nat) : octs [UInt8.ofNat (u % 128 + 128)] = [.int .u8 (bits .or .u8 ((u : Int) % 256) 128)] := by
  have h := u8_or_nat (u % 256) 128 (by omega) (by decide)
  rw [or_128 _ (by omega)] at h
  simp only [octs, List.map_cons, List.map_nil, oct, UInt8.toNat_ofNat']
  rw [show (u : Int) % 256 = ((u % 256 : Nat) : Int) by omega, show (128 : Int) = ((128 : Nat) : Int) by rfl, h]
  congr 2
  omega

end Go.Proofs.Ytgpnmmgoachajaa
