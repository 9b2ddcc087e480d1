/- The disk's Flush. -/
import Derived.Test.YtgpnmmgoachajaaDr
namespace Go.Proofs.Ytgpnmmgoachajaa
open Go.RowKit
open Go.Proofs

theorem size_w : (Try.prog.info? 93).map (·.size) = some 129 := by kernel_rfl
theorem zero_wsize : Try.zeroCells93.size = 129 := by kernel_rfl
theorem all_wCells (q : Nat × List UInt8) : (wCells q).toArray.all (·.oneCell') = true := all_oneCell_toArray (fun v hv => by
  rcases List.mem_cons.1 hv with h | h
  · rw [h]; rfl
  · exact octs_one _ v h)
section
variable {w : World} {ops : Array Oper} {rest : List Oper} {o : Oper} {a : Act} {Q : Exit → Act → World → Prop}
/-- A write that waits is read. -/
theorem wpList_load_w (hgd : o.guard = none) (x : Operand) (ho : o.op = .load 93 x) (b k : Nat) (hx : a.eval x = .pointer (some ⟨b, k, none⟩)) (q : Nat × List UInt8) (hl : q.2.length = 128) (hr : w.rangeAt b k (wCells q))
    (h : wpList Try.prog ops Q rest (a.put o.dst (.agg (wCells q).toArray)) w) : wpList Try.prog ops Q (o :: rest) a w :=
  wpList_load_mid hgd _ x ho b k hx (wCells q) _ hr Try.underlying93 rfl (by rw [size_w, length_wCells q hl]) h
theorem wpList_store_w (hgd : o.guard = none) (x y : Operand) (ho : o.op = .store 93 x y) (b k : Nat) (hx : a.eval x = .pointer (some ⟨b, k, none⟩)) (q : Nat × List UInt8) (hy : a.eval y = .agg (wCells q).toArray) (hl : q.2.length = 128)
    (cur : Array Value) (t : TypeId) (hb : w.heap[b]? = some (.cells cur t (0, 0))) (hk : k + 129 ≤ cur.size)
    (h : ∀ w', w'.heap[b]? = some (.cells (putAt cur k (wCells q)) t (0, 0)) → Upd (fun g => g = b) w w' → wpList Try.prog ops Q rest (a.put o.dst undef) w') : wpList Try.prog ops Q (o :: rest) a w := by
  have hsz : (wCells q).toArray.size = 129 := by rw [List.size_toArray, length_wCells q hl]
  refine wpList_store_mid hgd _ x y ho b k (wCells q).toArray hx hy (there_row hb k _ (by omega)) (by rw [size_w, hsz]) (all_wCells q) ?_
  exact h _ (heap_setCells b t (wCells q) k w cur hb) (upd_setCells (F := fun g => g = b) b rfl (wCells q) k w)
/-- A sector is stored, in a region that draws its order. -/
theorem step_store_sec {K : Act → World → Prop} {E : Prop} (hgd : o.guard = none) (x y : Operand) (ho : o.op = .store 91 x y) (b k : Nat) (hx : a.eval x = .pointer (some ⟨b, k, none⟩)) (l : List UInt8) (hy : a.eval y = secV l) (hl : l.length = 128)
    (cur : Array Value) (t : TypeId) (hb : w.heap[b]? = some (.cells cur t (0, 0))) (hk : k + 128 ≤ cur.size)
    (h : ∀ w', w'.heap[b]? = some (.cells (putAt cur k (octs l)) t (0, 0)) → Upd (fun g => g = b) w w' → K (a.put o.dst undef) w') : if Region.wanted o (yielded ops a.tmps) = true then Oper.wp Try.prog o a w K Q else E := by
  have hw : Region.wanted o (yielded ops a.tmps) = true := by simp [Region.wanted, hgd]
  rw [if_pos hw]
  have hsz : (octs l).toArray.size = 128 := by rw [List.size_toArray, length_octs, hl]
  refine wp_store_mid _ x y ho b k (octs l).toArray hx hy (there_row hb k _ (by omega)) (by rw [size_sec, hsz]) (all_octs l) ?_
  exact h _ (heap_setCells b t (octs l) k w cur hb) (upd_setCells (F := fun g => g = b) b rfl (octs l) k w)
end
section
variable {w w' : World} {p S M : Nat} {qv : Value} {s : Dk}
/-- A sector has been made safe. -/
theorem DiskV.setSafe (h : DiskV w p S M qv s) (a : Nat) (l : List UInt8) (ha : a < s.safe.length) (hl : l.length = 128) (hb : w'.heap[S]? = some (.cells (putAt (octs s.safe.flatten).toArray (a * 128) (octs l)) 91 (0, 0))) (hu : Upd (fun b => b = S) w w') :
    DiskV w' p S M qv { s with safe := s.safe.set a l } := by
  rw [Nat.mul_comm, octs_set _ _ _ h.ok.safe ha hl] at hb
  refine ⟨⟨safe_set h.ok.safe a l hl, fun q hq => ?_⟩, h.calls, ?_, ?_, hb, h.seen.upd hu (fun e => h.sM e.symm), row_keep h.queue (fun g hg => hu.block g (h.lt.2.2.2 g hg) (h.row hg).2.1)⟩
  · show q.1 < (s.safe.set a l).length ∧ _
    rw [List.length_set]; exact h.ok.queue q hq
  · show (s.safe.set a l).length ≤ 65536
    rw [List.length_set]; exact h.big
  · show w'.heap[p]? = some (.cells #[.slice (some ⟨S, 0, none⟩) (s.safe.set a l).length (s.safe.set a l).length, .map (some M), qv, .int .i64 s.calls, .int .i64 s.writes] 85 (0, 0))
    rw [List.length_set]
    exact hu.heap h.me h.pS
/-- The write at a place of the row. -/
theorem DiskV.qat (h : DiskV w p S M qv s) (k : Nat) (q : Nat × List UInt8) (hq : s.queue[k]? = some q) : ∃ g c, qv = .slice (some ⟨g, 0, none⟩) s.queue.length c ∧ w.rangeAt g (k * 129) (wCells q) ∧ s.queue.length ≤ 9223372036854775807 := by
  have hk := (List.getElem?_eq_some_iff.1 hq).1
  rcases h.queue.2 with ⟨e, h0⟩ | ⟨g, cap, cur, e, _, hb, hc, hm, hsz, ht⟩
  · omega
  · refine ⟨g, cap, e, range_row hb _ _ ?_, by simp only [maxLen] at hm; omega⟩
    have hl : (wCells q).length = 129 := length_wCells q (h.ok.queue q (List.mem_of_getElem? hq)).2
    have hf : ((qCells s.queue).drop (129 * k)).take 129 = wCells q := flat_at 129 _ k _ (fun x hx => by
      obtain ⟨y, hy, rfl⟩ := List.mem_map.1 hx
      exact length_wCells y (h.ok.queue y hy).2) (by rw [List.getElem?_map, hq]; rfl)
    rw [← ht] at hf
    rw [List.drop_take, List.take_take, Nat.min_eq_left (by omega)] at hf
    rw [hl, Nat.mul_comm]
    exact hf
end

set_option maxRecDepth 100000 in
theorem dk18_off {K : Nat → Prop} {w : World} {p : Nat} {s : Dk} (h : Disk K w p s) (h0 : s.calls = 0) :
    Calls Try.prog 18 #[.pointer (some ⟨p, 0, none⟩)] w fun e w' => e = .returned (.int .i64 10) ∧ w' = w := by
  go_enter Try.func18, Try.ntmps18
  go_wp2_with (go_at_call 47; refine (dk47_off h h0).mono ?_; rintro e w1 ⟨rfl, rfl⟩)
  go_ret
  exact ⟨rfl, rfl⟩
set_option maxRecDepth 100000 in
set_option maxHeartbeats 4000000 in
theorem dk18_on {K : Nat → Prop} {w : World} {p : Nat} {s : Dk} (h : Disk K w p s) (h0 : s.calls ≠ 0) :
    Calls Try.prog 18 #[.pointer (some ⟨p, 0, none⟩)] w fun e w' => e = .returned (.int .i64 0) ∧ Disk K w' p (dkFlush s) ∧ Upd (fun b => ¬ K b) w w' := by
  go_enter Try.func18, Try.ntmps18
  go_wp2_with (go_at_call 47; refine (dk47_on h h0).mono ?_; rintro e w1 ⟨rfl, ⟨S, M, qv, hd, hk⟩, u1⟩; obtain ⟨qA, qc, rfl⟩ := hd.qform; obtain ⟨c0, c1, c2, c3, c4, cf⟩ := hd.cells)
  have hok := hd.ok
  go_loopw [16] (fun i wr => ∃ k : Nat, k ≤ s.queue.length ∧ i = .int .i64 k ∧ DiskV wr p S M (.slice qA s.queue.length qc) ⟨putAll s.safe (s.queue.take k), s.queue, callTo s.calls, s.writes⟩ ∧ Upd (fun b => ¬ K b) w1 wr) (fun i _ => s.queue.length - (intOf i).toNat)
  case atStart => exact ⟨0, Nat.zero_le _, rfl, hd, Upd.refl _ _⟩
  case round =>
    obtain ⟨k, hkn, rfl, hr, ur⟩ := hrel
    clear c0 c1 c2 c3 c4 cf
    by_cases hlt : k < s.queue.length
    · obtain ⟨⟨a, l⟩, hq⟩ : ∃ q, s.queue[k]? = some q := ⟨_, List.getElem?_eq_getElem hlt⟩
      obtain ⟨g, c, e, hrange, hgc⟩ := hr.qat k (a, l) hq
      injection e with e1 e2 e3
      subst e1; subst e3
      obtain ⟨ha, hl128⟩ : a < s.safe.length ∧ l.length = 128 := hok.queue (a, l) (List.mem_of_getElem? hq)
      have hzw : Try.zeroCells93.size = (wCells (a, l)).length := by rw [zero_wsize, length_wCells _ hl128]
      obtain ⟨sf, hsf⟩ : ∃ sf, sf = putAll s.safe (s.queue.take k) := ⟨_, rfl⟩
      have hsl : sf.length = s.safe.length := by rw [hsf, length_putAll]
      have hnx : putAll s.safe (s.queue.take (k + 1)) = sf.set a l := by rw [List.take_add_one, hq, Option.toList_some, putAll_snoc, ← hsf]
      rw [← hsf] at hr
      have HS := Lib.hid hnx
      clear hsf hnx
      have hb := hr.big
      obtain ⟨n, hn⟩ : ∃ n, n = s.queue.length := ⟨_, rfl⟩
      go_wp2_with first
        | (refine wpList_load_w rfl (.tmp 18) rfl g (k * 129) rfl (a, l) hl128 hrange ?_)
        | (refine wpList_store_w rfl (.tmp 5) (.tmp 19) rfl wr.heap.size 0 rfl (a, l) rfl hl128 Try.zeroCells93 93 (heap_alloc_new _ _) (by rw [zero_wsize]; decide) ?_; intro w4 b4 u4; rw [putAt_all _ _ hzw] at b4)
      have x4 : Ext wr w4 := u4.to_ext ((Ext.refl wr).alloc _) (fun g e => by rw [e]; exact Nat.le_refl _)
      have hd4 := hr.ext x4
      have hb4S : ¬ (⟨wr.heap.size, 0, none⟩ : Addr).block = S := fun e => by
        have := hr.lt.2.1
        simp only at e
        omega
      have hc0 := hd4.cells.1
      have hk0 : w4.cell? ⟨wr.heap.size, 0, none⟩ = some (.int .i64 (a : Int)) := by rw [cell_of_row w4 _ _ _ _ _ b4]; rfl
      have hr7 : ∀ w', Upd (fun b => b = S) w4 w' → w'.rangeAt wr.heap.size 1 (octs l) := fun w' u => range_row (u.heap b4 hb4S) 1 (octs l) (by show (octs l).take (octs l).length = octs l; exact List.take_length)
      have hs9 := hd4.safe
      have hs128 : a * 128 + 128 ≤ (octs sf.flatten).toArray.size := by
        rw [List.size_toArray, length_octs, flat_len 128 sf hr.ok.safe, hsl]
        omega
      refine wp_region_held_drew (S := fun w' => Upd (fun b => b = S) w4 w') (by kernel_rfl) ((Upd.refl (fun b => b = S) w4).drew) (fun hS => ?_)
      refine takeH (i := 0) (v := ?_) rfl rfl (by kernel_rfl) (by kernel_rfl) (by kernel_rfl) (fun _ _ _ h => h) (Or.inl ⟨by kernel_rfl, ?_⟩) hS ?_
      rotate_left 1
      · (intro w' hS'; go_simp; try (with_reducible rfl))
      simp only [List.setIfInBounds_toArray, List.set_cons_succ, List.set_cons_zero]
      refine takeH (i := 1) (v := ?_) rfl rfl (by kernel_rfl) (by kernel_rfl) (by kernel_rfl) (fun _ _ _ h => h) (Or.inl ⟨by kernel_rfl, ?_⟩) hS ?_
      rotate_left 1
      · (intro w' hS'; go_simp; try (with_reducible rfl))
      simp only [List.setIfInBounds_toArray, List.set_cons_succ, List.set_cons_zero]
      refine takeH (i := 2) (v := ?_) rfl rfl (by kernel_rfl) (by kernel_rfl) (by kernel_rfl) (fun _ _ _ h => h) (Or.inl ⟨by kernel_rfl, ?_⟩) hS ?_
      rotate_left 1
      · (intro w' hS'; go_simp; try (with_reducible rfl))
      simp only [List.setIfInBounds_toArray, List.set_cons_succ, List.set_cons_zero]
      refine takeH (i := 3) (v := ?_) rfl rfl (by kernel_rfl) (by kernel_rfl) (by kernel_rfl) (fun _ _ _ h => h) (Or.inl ⟨by kernel_rfl, ?_⟩) hS ?_
      rotate_left 1
      · (intro w' hS'; have c0 := hS'.cell hc0 hd4.pS; go_simp; try (with_reducible rfl))
      simp only [List.setIfInBounds_toArray, List.set_cons_succ, List.set_cons_zero]
      refine takeH (i := 4) (v := ?_) rfl rfl (by kernel_rfl) (by kernel_rfl) (by kernel_rfl) (fun _ _ _ h => h) (Or.inl ⟨by kernel_rfl, ?_⟩) hS ?_
      rotate_left 1
      · (intro w' hS'; go_simp; try (with_reducible rfl))
      simp only [List.setIfInBounds_toArray, List.set_cons_succ, List.set_cons_zero]
      refine takeH (i := 5) (v := ?_) rfl rfl (by kernel_rfl) (by kernel_rfl) (by kernel_rfl) (fun _ _ _ h => h) (Or.inl ⟨by kernel_rfl, ?_⟩) hS ?_
      rotate_left 1
      · (intro w' hS'; have k5 := hS'.cell hk0 hb4S; go_simp; try (with_reducible rfl))
      simp only [List.setIfInBounds_toArray, List.set_cons_succ, List.set_cons_zero]
      refine takeH (i := 6) (v := ?_) rfl rfl (by kernel_rfl) (by kernel_rfl) (by kernel_rfl) (fun _ _ _ h => h) (Or.inl ⟨by kernel_rfl, ?_⟩) hS ?_
      rotate_left 1
      · (intro w' hS'; go_simp; try (with_reducible rfl))
      simp only [List.setIfInBounds_toArray, List.set_cons_succ, List.set_cons_zero]
      refine takeH (i := 7) (v := secV l) rfl rfl (by kernel_rfl) (by kernel_rfl) (by kernel_rfl) (fun _ _ _ h => h) (yieldsIf_load_mid (by kernel_rfl) 91 (.tmp 26) rfl wr.heap.size 1 rfl (octs l) _ hr7 und_sec rfl (by rw [size_sec, length_octs, hl128])) hS ?_
      simp only [List.setIfInBounds_toArray, List.set_cons_succ, List.set_cons_zero]
      refine takeH (i := 8) (v := ?_) rfl rfl (by kernel_rfl) (by kernel_rfl) (by kernel_rfl) (fun _ _ _ h => h) (Or.inl ⟨by kernel_rfl, ?_⟩) hS ?_
      rotate_left 1
      · (intro w' hS'; go_simp; try (with_reducible rfl))
      simp only [List.setIfInBounds_toArray, List.set_cons_succ, List.set_cons_zero]
      refine wpAnyH_ready (rs := [9]) (by kernel_rfl) (by simp) ?_
      refine AllReadyH.cons rfl (fun K hK => ?_) ?_
      rotate_left 1
      · exact AllReadyH.nil
      refine step_store_sec rfl (.tmp 28) (.tmp 27) rfl S (a * 128) rfl l rfl hl128 _ _ hs9 hs128 ?_; intro w9 b9 u9
      try go_simp
      refine hK.out _ _ (by first | exact hS.trans u9 | exact hS) (fun hS => ?_)
      clear hK K
      refine wpAnyH_done (by kernel_rfl) ?_ _
      have hd9 := hd4.setSafe a l (by show a < sf.length; omega) hl128 b9 hS
      have u49 : Upd (fun b => ¬ K b) wr w9 := (Upd.of_ext _ x4).trans (hS.mono (fun b _ e => by subst e; exact hk b (.inr (.inl rfl))))
      go_wp2
      go_roundw
      case rel => exact ⟨k + 1, by omega, val_int (by omega), by rw [HS.out]; exact hd9, ur.trans u49⟩
      case measure => simp [intOf]; omega
    · obtain rfl : k = s.queue.length := by omega
      rw [List.take_length] at hr
      go_wp2_with (go_at_call 49; refine (dk49_any ⟨S, M, _, hr, hk⟩).mono ?_; rintro e w2 ⟨rfl, h2, u2⟩)
      go_ret
      exact ⟨rfl, h2, (u1.trans ur).trans u2⟩
end Go.Proofs.Ytgpnmmgoachajaa
