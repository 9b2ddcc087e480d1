/- The disk's see: what a sector has by the latest writes. -/
import Derived.Test.YtgpnmmgoachajaaDo
import Derived.Test.YtgpnmmgoachajaaAppo
namespace Go.Proofs.Ytgpnmmgoachajaa
open Go.RowKit
open Go.Proofs

theorem size_sec : (Try.prog.info? 91).map (·.size) = some 128 := by kernel_rfl
theorem und_sec : Try.prog.underlying 91 = some (.array 128 5) := Try.underlying91
theorem all_octs (l : List UInt8) : (octs l).toArray.all (·.oneCell') = true := all_oneCell_toArray (octs_one l)
theorem there_row {w : World} {b : Nat} {cur : Array Value} {t : TypeId} (hb : w.heap[b]? = some (.cells cur t (0, 0))) (o n : Nat) (h : o + n ≤ cur.size) : w.there b o n := fun j hj => by
  refine ⟨?_, frozen_of_row w b _ _ _ hb⟩
  rw [cell_of_row w b _ _ _ _ hb, Array.getElem?_eq_getElem (by omega)]
  rfl
theorem range_row {w : World} {b : Nat} {cur : Array Value} {t : TypeId} (hb : w.heap[b]? = some (.cells cur t (0, 0))) (o : Nat) (cs : List Value) (h : (cur.toList.drop o).take cs.length = cs) : w.rangeAt b o cs := fun j v hv => by
  rw [cell_of_row w b _ _ _ _ hb, ← Array.getElem?_toList]
  have hj := (List.getElem?_eq_some_iff.1 hv).1
  rw [← h, List.getElem?_take, if_pos hj, List.getElem?_drop] at hv
  exact hv
section
variable {w : World} {ops : Array Oper} {rest : List Oper} {o : Oper} {a : Act} {Q : Exit → Act → World → Prop}
/-- A sector's variable is read. -/
theorem wpList_load_sec (hgd : o.guard = none) (x : Operand) (ho : o.op = .load 91 x) (b k : Nat) (hx : a.eval x = .pointer (some ⟨b, k, none⟩)) (l : List UInt8) (hl : l.length = 128) (hr : w.rangeAt b k (octs l))
    (h : wpList Try.prog ops Q rest (a.put o.dst (secV l)) w) : wpList Try.prog ops Q (o :: rest) a w :=
  wpList_load_mid hgd _ x ho b k hx (octs l) _ hr und_sec rfl (by rw [size_sec, length_octs, hl]) h
/-- A sector is stored into a row, from a place on. -/
theorem wpList_store_sec (hgd : o.guard = none) (x y : Operand) (ho : o.op = .store 91 x y) (b k : Nat) (hx : a.eval x = .pointer (some ⟨b, k, none⟩)) (l : List UInt8) (hy : a.eval y = secV l) (hl : l.length = 128)
    (cur : Array Value) (t : TypeId) (hb : w.heap[b]? = some (.cells cur t (0, 0))) (hk : k + 128 ≤ cur.size)
    (h : ∀ w', w'.heap[b]? = some (.cells (putAt cur k (octs l)) t (0, 0)) → Upd (fun g => g = b) w w' → wpList Try.prog ops Q rest (a.put o.dst undef) w') : wpList Try.prog ops Q (o :: rest) a w := by
  have hsz : (octs l).toArray.size = 128 := by rw [List.size_toArray, length_octs, hl]
  refine wpList_store_mid hgd _ x y ho b k (octs l).toArray hx hy (there_row hb k _ (by omega)) (by rw [size_sec, hsz]) (all_octs l) ?_
  exact h _ (heap_setCells b t (octs l) k w cur hb) (upd_setCells (F := fun g => g = b) b rfl (octs l) k w)
theorem putAt_all (cur : Array Value) (vs : List Value) (h : cur.size = vs.length) : putAt cur 0 vs = vs.toArray := by
  apply Array.toList_inj.1
  rw [putAt_list _ _ _ (by omega)]
  have : cur.toList.length = vs.length := by rw [Array.length_toList]; exact h
  simp [List.drop_of_length_le (show cur.toList.length ≤ vs.length by omega)]
end
theorem zero_size : Try.zeroCells91.size = 128 := by kernel_rfl

set_option maxRecDepth 100000 in
theorem dk51_any {K : Nat → Prop} {w : World} {p : Nat} {s : Dk} (h : Disk K w p s) (a : Nat) (ha : a < s.safe.length) : Calls Try.prog 51 #[.pointer (some ⟨p, 0, none⟩), .int .i64 (a : Int)] w fun e w' => e = .returned (secV (seeAt s a)) ∧ Ext w w' := by
  obtain ⟨S, M, qv, h, k⟩ := h
  have hb := h.big
  cases hl : lastAt s.queue a with
  | some l =>
    have hr : ∀ o, (Instr.lookup 82 (.map (some M)) (.int .i64 (a : Int)) true).run Try.prog (w.alloc o) = .ok (.tuple #[secV l, .bool true]) (w.alloc o) := fun o => by
      obtain ⟨m, h1, h2⟩ := (h.seen.ext ((Ext.refl w).alloc o)).look a (by omega)
      rw [h1, h2, hl]
      rfl
    have hl128 := lastAt_len s.queue (fun q hq => (h.ok.queue q hq).2) a l hl
    have size_w1 : (w.alloc (.cells Try.zeroCells91 91)).heap.size = w.heap.size + 1 := World.size_alloc ..
    have zl : Try.zeroCells91.size = (octs l).length := by rw [zero_size, length_octs, hl128]
    have z1 : ((w.alloc (.cells Try.zeroCells91 91)).alloc (.cells Try.zeroCells91 91)).heap[w.heap.size]? = some (.cells Try.zeroCells91 91 (0, 0)) := ((Ext.refl (w.alloc (.cells Try.zeroCells91 91))).alloc _).heap (heap_alloc_new w _)
    have d1 : ∀ o, (w.alloc o).cell? ⟨p, 1, none⟩ = some (.map (some M)) := fun o => (h.ext ((Ext.refl w).alloc o)).cells.2.1
    go_enter Try.func51, Try.ntmps51
    go_wp2_with first
      | (refine wpList_store_sec rfl (.tmp 5) (.tmp 14) rfl (w.heap.size + 1) 0 rfl l rfl hl128 Try.zeroCells91 91 (by rw [← size_w1]; exact heap_alloc_new _ _) (by rw [zero_size]; decide) ?_; intro w3 b3 u3; rw [putAt_all _ _ zl] at b3)
      | (refine wpList_load_sec rfl (.tmp 5) rfl (w.heap.size + 1) 0 rfl l hl128 (range_row b3 0 (octs l) (by rw [List.drop_zero]; exact List.take_of_length_le (Nat.le_refl _))) ?_)
      | (refine wpList_store_sec rfl (.tmp 4) (.tmp 17) rfl w.heap.size 0 rfl l rfl hl128 Try.zeroCells91 91 (u3.heap z1 (by omega)) (by rw [zero_size]; decide) ?_; intro w4 b4 u4; rw [putAt_all _ _ zl] at b4)
    refine bodyPost_ret (results_cell_row rfl _ _ w.heap.size 91 _ _ _ rfl b4 und_sec rfl (by rw [size_sec]; simp [hl128])) rfl ?_
    refine ⟨by rw [seeAt, hl]; rfl, ?_⟩
    exact (u4.to_ext (u3.to_ext (((Ext.refl w).alloc _).alloc _) (fun g e => by rw [e]; omega)) (fun g e => by rw [e]; exact Nat.le_refl _))
  | none =>
    obtain ⟨l, hsl⟩ : ∃ l, s.safe[a]? = some l := ⟨_, List.getElem?_eq_getElem ha⟩
    have hl128 : l.length = 128 := h.ok.safe l (List.mem_of_getElem? hsl)
    obtain ⟨m, hm⟩ : ∃ m, m = List.replicate 128 (0 : UInt8) := ⟨_, rfl⟩
    have hm128 : m.length = 128 := by rw [hm, List.length_replicate]
    have hr : ∀ o, (Instr.lookup 82 (.map (some M)) (.int .i64 (a : Int)) true).run Try.prog (w.alloc o) = .ok (.tuple #[secV m, .bool false]) (w.alloc o) := fun o => by
      obtain ⟨m', h1, h2⟩ := (h.seen.ext ((Ext.refl w).alloc o)).look a (by omega)
      rw [h1, h2, hl, hm]
      rfl
    clear hm
    have size_w1 : (w.alloc (.cells Try.zeroCells91 91)).heap.size = w.heap.size + 1 := World.size_alloc ..
    have zl : Try.zeroCells91.size = (octs l).length := by rw [zero_size, length_octs, hl128]
    have z1 : ((w.alloc (.cells Try.zeroCells91 91)).alloc (.cells Try.zeroCells91 91)).heap[w.heap.size]? = some (.cells Try.zeroCells91 91 (0, 0)) := ((Ext.refl (w.alloc (.cells Try.zeroCells91 91))).alloc _).heap (heap_alloc_new w _)
    have d1 : ∀ o, (w.alloc o).cell? ⟨p, 1, none⟩ = some (.map (some M)) := fun o => (h.ext ((Ext.refl w).alloc o)).cells.2.1
    have hX : Ext w ((w.alloc (.cells Try.zeroCells91 91)).alloc (.cells Try.zeroCells91 91)) := ((Ext.refl w).alloc _).alloc _
    have hrange : ((octs s.safe.flatten).drop (128 * a)).take 128 = octs l := by
      rw [octs_flat]
      exact flat_at 128 _ a (octs l) (fun x hx => by
        obtain ⟨y, hy, rfl⟩ := List.mem_map.1 hx
        rw [length_octs]; exact h.ok.safe y hy) (by rw [List.getElem?_map, hsl]; rfl)
    go_enter Try.func51, Try.ntmps51
    go_wp2_with first
      | (refine wpList_store_sec rfl (.tmp 5) (.tmp 14) rfl (w.heap.size + 1) 0 rfl m rfl hm128 Try.zeroCells91 91 (by rw [← size_w1]; exact heap_alloc_new _ _) (by rw [zero_size]; decide) ?_; intro w3 b3 u3; have X3 := u3.to_ext hX (fun g e => by rw [e]; omega); have h3 := h.ext X3; have c0 := h3.cells.1)
      | (refine wpList_load_sec rfl (.tmp 23) rfl S (a * 128) rfl l hl128 (range_row h3.safe _ _ (by rw [length_octs, hl128, Nat.mul_comm]; exact hrange)) ?_)
      | (refine wpList_store_sec rfl (.tmp 4) (.tmp 24) rfl w.heap.size 0 rfl l rfl hl128 Try.zeroCells91 91 (u3.heap z1 (by omega)) (by rw [zero_size]; decide) ?_; intro w4 b4 u4; rw [putAt_all _ _ zl] at b4)
    refine bodyPost_ret (results_cell_row rfl _ _ w.heap.size 91 _ _ _ rfl b4 und_sec rfl (by rw [size_sec]; simp [hl128])) rfl ?_
    refine ⟨by rw [seeAt, hl, List.getD_eq_getElem?_getD, hsl]; rfl, ?_⟩
    exact u4.to_ext X3 (fun g e => by rw [e]; exact Nat.le_refl _)
end Go.Proofs.Ytgpnmmgoachajaa
