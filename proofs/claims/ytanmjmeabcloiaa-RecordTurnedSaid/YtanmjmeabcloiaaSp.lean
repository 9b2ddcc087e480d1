/- Superblocks (layer 5): Put. -/
import Derived.Test.YtanmjmeabcloiaaSr
import Derived.Test.YtanmjmeabcloiaaUp
import Derived.Test.YtanmjmeabcloiaaZo
import Derived.Test.YtanmjmeabcloiaaSeal
import Derived.Lib.SlBytesConst
namespace Go.Proofs.Ytanmjmeabcloiaa
open Go.RowKit
open Go.Proofs

section
variable {W0 w : World} {ops : Array Oper} {rest : List Oper} {o : Oper} {a : Act} {Q : Exit → Act → World → Prop}
theorem wpList_up_zeros (hgd : o.guard = none) (s x : Operand)
    (ho : o.op = .call { callee := .builtin .append, args := #[s, x], argTypes := #[22, 3] })
    (v : Value) (l : List UInt8) (hs : a.eval s = v) (hm : Up W0 w v l) (hX : Ext W0 w) (k : Nat) (hxv : a.eval x = .int .i64 k) (hlen : l.length + k ≤ 4294967296)
    (h : ∀ v' w', Up W0 w' v' (l ++ List.replicate k 0) → Ext W0 w' → wpList Try.prog ops Q rest (a.put o.dst v') w') : wpList Try.prog ops Q (o :: rest) a w :=
  wpList_append_zeros hgd s x ho v l hs hm.1 k hxv hlen fun v' w' h2 h3 h4 => have := hm.next hX h2 h3 h4; h v' w' this.1 this.2
end

/-- Appending onto a row that has no room. -/
theorem wpList_up_full {W0 w : World} {ops : Array Oper} {rest : List Oper} {o : Oper} {a : Act} {Q : Exit → Act → World → Prop} (hgd : o.guard = none) (s x : Operand)
    (ho : o.op = .call { callee := .builtin .append, args := #[s, x], argTypes := #[22, 22] })
    (g n : Nat) (l : List UInt8) (hs : a.eval s = .slice (some ⟨g, 0, none⟩) n n) (hn : l.length = n) (hm : ∀ (j : Nat) u, (octs l)[j]? = some u → w.cell? ⟨g, j, none⟩ = some u) (hX : Ext W0 w)
    (A : Option Addr) (m c : Nat) (l2 : List UInt8) (hxv : a.eval x = .slice A m c) (hm' : l2.length = m) (h0 : 0 < m) (hx : Octs w A l2) (hlen : l.length + l2.length ≤ 4294967296)
    (h : ∀ v' w', Up W0 w' v' (l ++ l2) → Ext W0 w' → wpList Try.prog ops Q rest (a.put o.dst v') w') : wpList Try.prog ops Q (o :: rest) a w := by
  subst hn
  subst hm'
  obtain ⟨i0, hi, hz, hs1, hb⟩ := info_parts info5
  obtain ⟨b, off, rfl, _⟩ := hx (by rw [length_octs]; exact h0)
  have hnew := Cells.news hx rfl (by rw [length_octs]; exact h0)
  have hr := run_append_grow (P := Try.prog) w 22 o.type 5 i0 (.int .u8 0) Try.underlying22 hi hz ⟨g, 0, none⟩ l.length l.length (octs l) (by rw [hs1, Nat.mul_one, length_octs]) (fun j u hu => by rw [Addr.add_lit, Nat.zero_add]; exact hm j u hu) ⟨b, off, none⟩ l2.length c (octs l2) (by rw [hs1, Nat.mul_one, length_octs]) hnew (by omega) (by omega)
      (growslice_fits (by omega) (by rw [hb]; omega))
  have hge := grownCap_ge w (l.length + l2.length) l.length 5
  have hle := grownCap_le_maxLen w (l.length + l2.length) l.length 5 (by simp only [maxLen]; omega)
  refine wpList_append_run hgd s x _ _ ho _ _ _ _ hs hxv hr (h _ _ ⟨Mine.new w.drew 5 _ _ _ _ (by rw [length_octs, List.length_append]) hge ?_ hle ?_, fun k e => ?_⟩ (hX.drew.alloc _))
  · simp only [Array.size_append, List.size_toArray, length_octs, size_zeroCells]
    simp only [Value.cells, List.size_toArray, List.length_cons, List.length_nil]
    omega
  · intro j u hu
    rw [octs_append] at hu
    rw [Array.getElem?_append_left (by simpa using (List.getElem?_eq_some_iff.1 hu).1)]
    simpa using hu
  · cases e
    exact hX.size

/-- The first j of the seven numbers. -/
def midTo (s : Sup) (j : Nat) : List UInt8 := (((supNums s).take j).map fun n => leN 4 (u64of n)).flatten
theorem midTo_succ (s : Sup) (j : Nat) (n : Int) (h : (supNums s)[j]? = some n) : midTo s (j + 1) = midTo s j ++ leN 4 (u64of n) := by
  obtain ⟨h1, h2⟩ := List.getElem?_eq_some_iff.1 h
  rw [midTo, midTo, List.take_succ_eq_append_getElem h1, List.map_append, List.flatten_append, h2]
  simp
theorem midTo_len (s : Sup) (j : Nat) : (midTo s j).length ≤ 28 := by
  have : ∀ l : List Int, ((l.map fun n => leN 4 (u64of n)).flatten).length = 4 * l.length := by
    intro l
    induction l with
    | nil => rfl
    | cons a l ih => simp only [List.map_cons, List.flatten_cons, List.length_append, length_leN, ih, List.length_cons]; omega
  rw [midTo, this, List.length_take]
  simp only [supNums, List.length_cons, List.length_nil]
  omega
theorem wid4 : wid 4 = 4 := by decide
theorem wid8 : wid 8 = 8 := by decide
theorem midTo_all (s : Sup) : midTo s 7 = supMid s := rfl
theorem moth40 (s : Sup) : ([77, 79, 84, 72] ++ ([] ++ leN 8 (u64of s.gen) ++ midTo s 7) : List UInt8).length = 40 := by
  rw [midTo_all]
  simp only [List.length_append, length_leN, length_supMid, List.length_nil, List.length_cons]
theorem moth0 (s : Sup) : 0 < ([] ++ leN 8 (u64of s.gen) ++ midTo s 7 : List UInt8).length := by
  simp only [List.length_append, length_leN]
  omega
theorem moth4 (s : Sup) : ([77, 79, 84, 72] : List UInt8).length + ([] ++ leN 8 (u64of s.gen) ++ midTo s 7 : List UInt8).length ≤ 4294967296 := by
  rw [midTo_all]
  simp only [List.length_append, length_leN, length_supMid, List.length_nil, List.length_cons]
  omega
theorem moth124 (s : Sup) (L : List UInt8) (h : L.length = 116) : (L ++ ([] ++ leN (wid 8) (u64of s.gen))).length = 124 := by
  rw [wid8]
  simp only [List.length_append, length_leN, List.length_nil]
  omega
theorem supPut_of (s : Sup) : Mb.seal_ ([77, 79, 84, 72] ++ ([] ++ leN 8 (u64of s.gen) ++ midTo s 7) ++ List.replicate 76 0 ++ ([] ++ leN 8 (u64of s.gen))) = supPut s := by
  rw [supPut, supBody, midTo_all, zer]
  simp only [List.nil_append, List.append_assoc]

theorem idx7_0 (a0 a1 a2 a3 a4 a5 a6 : Value) (w : World) : (Instr.index 76 (.agg #[a0, a1, a2, a3, a4, a5, a6]) (.int .i64 0)).run Try.prog w = .ok a0 w := by kernel_rfl
theorem idx7_1 (a0 a1 a2 a3 a4 a5 a6 : Value) (w : World) : (Instr.index 76 (.agg #[a0, a1, a2, a3, a4, a5, a6]) (.int .i64 1)).run Try.prog w = .ok a1 w := by kernel_rfl
theorem idx7_2 (a0 a1 a2 a3 a4 a5 a6 : Value) (w : World) : (Instr.index 76 (.agg #[a0, a1, a2, a3, a4, a5, a6]) (.int .i64 2)).run Try.prog w = .ok a2 w := by kernel_rfl
theorem idx7_3 (a0 a1 a2 a3 a4 a5 a6 : Value) (w : World) : (Instr.index 76 (.agg #[a0, a1, a2, a3, a4, a5, a6]) (.int .i64 3)).run Try.prog w = .ok a3 w := by kernel_rfl
theorem idx7_4 (a0 a1 a2 a3 a4 a5 a6 : Value) (w : World) : (Instr.index 76 (.agg #[a0, a1, a2, a3, a4, a5, a6]) (.int .i64 4)).run Try.prog w = .ok a4 w := by kernel_rfl
theorem idx7_5 (a0 a1 a2 a3 a4 a5 a6 : Value) (w : World) : (Instr.index 76 (.agg #[a0, a1, a2, a3, a4, a5, a6]) (.int .i64 5)).run Try.prog w = .ok a5 w := by kernel_rfl
theorem idx7_6 (a0 a1 a2 a3 a4 a5 a6 : Value) (w : World) : (Instr.index 76 (.agg #[a0, a1, a2, a3, a4, a5, a6]) (.int .i64 6)).run Try.prog w = .ok a6 w := by kernel_rfl
set_option maxRecDepth 100000 in
set_option maxHeartbeats 1000000 in
theorem f20_right (s : Sup) (w : World) (hs : s.sum < 4294967296) (hr : supRight s) : Calls Try.prog 20 #[supV s] w fun e w' =>
    ∃ v, e = .returned (.tuple #[v, .int .i64 0]) ∧ Own w' w.heap.size 5 v (octs (supPut s)) ∧ Ext w w' := by
  have N0 := midTo_succ s 0 s.journal rfl
  have N1 := midTo_succ s 1 s.area rfl
  have N2 := midTo_succ s 2 s.which rfl
  have N3 := midTo_succ s 3 s.len rfl
  have N4 := midTo_succ s 4 (s.sum : Int) rfl
  have N5 := midTo_succ s 5 s.epoch rfl
  have N6 := midTo_succ s 6 s.start rfl
  have HN := Lib.hid (And.intro N0 (And.intro N1 (And.intro N2 (And.intro N3 (And.intro N4 (And.intro N5 N6))))))
  clear N0 N1 N2 N3 N4 N5 N6
  have hR : ∀ w, Calls Try.prog 21 #[supV s] w fun e w' => e = .returned (.bool true) ∧ Ext w w' := fun w => by
    refine (f21_any _ w).mono ?_
    rintro e w' ⟨rfl, h⟩
    exact ⟨by rw [decide_eq_true hr], h⟩
  simp only [supV, supCells] at hR
  have hw : IntKind.i64.wrap (s.sum : Int) = (s.sum : Int) := IntWalk.i64_in _ (by omega)
  clear hr hs
  go_enter Try.func20, Try.ntmps20
  go_wp2_with fail
  refine (hR _).mono ?_
  rintro e w1 ⟨rfl, hx1⟩
  go_wp2_with fail
  have hX1 : Ext w w1 := ((Ext.refl w).alloc _).trans hx1
  have hb : w1.heap[w.heap.size]? = some (.cells (supCells s) 38 (0, 0)) := hx1.heap (heap_alloc_new w _)
  obtain ⟨p, hp⟩ : ∃ p, w.heap.size = p := ⟨_, rfl⟩
  rw [hp] at hb ⊢
  have HP := Lib.hid hp
  clear hp hx1
  have c0 : w1.cell? ⟨p, 0, none⟩ = some (.int .i64 s.gen) := by rw [cell_of_row w1 p 0 _ _ _ hb]; rfl
  have c1 : w1.cell? ⟨p, 1, none⟩ = some (.int .i64 s.journal) := by rw [cell_of_row w1 p 1 _ _ _ hb]; rfl
  have c2 : w1.cell? ⟨p, 2, none⟩ = some (.int .i64 s.area) := by rw [cell_of_row w1 p 2 _ _ _ hb]; rfl
  have c3 : w1.cell? ⟨p, 3, none⟩ = some (.int .i64 s.which) := by rw [cell_of_row w1 p 3 _ _ _ hb]; rfl
  have c4 : w1.cell? ⟨p, 4, none⟩ = some (.int .i64 s.len) := by rw [cell_of_row w1 p 4 _ _ _ hb]; rfl
  have c5 : w1.cell? ⟨p, 5, none⟩ = some (.int .u32 (s.sum : Int)) := by rw [cell_of_row w1 p 5 _ _ _ hb]; rfl
  have c6 : w1.cell? ⟨p, 6, none⟩ = some (.int .i64 s.epoch) := by rw [cell_of_row w1 p 6 _ _ _ hb]; rfl
  have c7 : w1.cell? ⟨p, 7, none⟩ = some (.int .i64 s.start) := by rw [cell_of_row w1 p 7 _ _ _ hb]; rfl
  clear hb hR
  refine wp_region_held_drew (S := fun w' => Ext w1 w') (by kernel_rfl) ((Ext.refl _).drew) (fun hS => ?_)
  refine takeH (i := 1) (v := ?_) rfl rfl (by kernel_rfl) (by kernel_rfl) (by kernel_rfl) (fun _ _ _ h => h) (Or.inl ⟨by kernel_rfl, ?_⟩) hS ?_
  rotate_left 1
  · (intro w' hS'; go_simp; try (with_reducible rfl))
  simp only [List.setIfInBounds_toArray, List.set_cons_succ, List.set_cons_zero]
  refine takeH (i := 2) (v := ?_) rfl rfl (by kernel_rfl) (by kernel_rfl) (by kernel_rfl) (fun _ _ _ h => h) (Or.inl ⟨by kernel_rfl, ?_⟩) hS ?_
  rotate_left 1
  · (intro w' hS'; have d0 := hS'.cell c0; go_simp; try (with_reducible rfl))
  simp only [List.setIfInBounds_toArray, List.set_cons_succ, List.set_cons_zero]
  refine wpAnyH_ready (rs := [0]) (by kernel_rfl) (by simp) ?_
  refine AllReadyH.cons rfl (fun K hK => ?_) ?_
  rotate_left 1
  · exact AllReadyH.nil
  go_simp
  refine (wr_new hS).mono ?_; rintro e wa ⟨k, rfl, t1, x1⟩
  refine hK.out _ _ (hS.trans x1) (fun hS => ?_)
  clear hK K
  refine wpAnyH_ready (rs := [3]) (by kernel_rfl) (by simp) ?_
  refine AllReadyH.cons rfl (fun K hK => ?_) ?_
  rotate_left 1
  · exact AllReadyH.nil
  go_simp
  refine (wr_num s.gen 8 hS t1 (by simp)).mono ?_; rintro e wb ⟨rfl, t2, x2⟩
  refine hK.out _ _ (x2) (fun hS => ?_)
  clear hK K
  refine takeH (i := 4) (v := ?_) rfl rfl (by kernel_rfl) (by kernel_rfl) (by kernel_rfl) (fun _ _ _ h => h) (Or.inl ⟨by kernel_rfl, ?_⟩) hS ?_
  rotate_left 1
  · (intro w' hS'; go_simp; try (with_reducible rfl))
  simp only [List.setIfInBounds_toArray, List.set_cons_succ, List.set_cons_zero]
  refine wpAnyH_done (by kernel_rfl) ?_ _
  rw [wid8] at t2
  have d1 := x2.cell c1
  have d2 := x2.cell c2
  have d3 := x2.cell c3
  have d4 := x2.cell c4
  have d5 := x2.cell c5
  have d6 := x2.cell c6
  have d7 := x2.cell c7
  clear hS
  go_wp2_with fail
  clear d1 d2 d3 d4 d5 d6 d7 c1 c2 c3 c4 c5 c6 c7
  go_loopg [31] 7 (fun g i wr => ∃ j : Nat, j ≤ 7 ∧ 7 - j ≤ g ∧ i = .int .i64 j ∧ WrX w1 wr k ([] ++ leN 8 (u64of s.gen) ++ midTo s j) ∧ Ext w1 wr)
  case atStart => exact ⟨0, by omega, by omega, rfl, by simpa [midTo] using t2, x2⟩
  case round =>
    obtain ⟨j, hj, hg, rfl, ht, hxr⟩ := hrel
    clear t2 x2 hw
    have hlen : ([] ++ leN 8 (u64of s.gen) ++ midTo s j).length ≤ 4294960000 := by
      have := midTo_len s j
      simp only [List.length_append, length_leN, List.length_nil]
      omega
    by_cases h7 : j = 7
    · subst h7
      clear hj hg
      have hcv := fun (w : World) (C : Array Value) (n c : Nat) => Lib.run_convert_bytes_const (P := Try.prog) w 22 5 C n c Try.underlying22 Try.underlying5
      go_wp2_with fail
      clear hcv
      refine (wr_bytes (ht.ext ((Ext.refl wr).alloc _)) (by omega)).mono ?_
      rintro e w3 ⟨v3, rfl, o3, x3⟩
      obtain ⟨A3, c3, rfl, h3, hy3⟩ := o3.octs_form
      have m1 : ∀ (j : Nat) u, (octs [77, 79, 84, 72])[j]? = some u → w3.cell? ⟨wr.heap.size, j, none⟩ = some u := fun j u h => x3.cell (by
        rw [cell_of_row _ wr.heap.size j _ _ _ (heap_alloc_new wr _), show (#[.int .u8 77, .int .u8 79, .int .u8 84, .int .u8 72] : Array Value) = (octs [77, 79, 84, 72]).toArray from rfl]
        simpa using h)
      have y3 : Ext w1 w3 := (hxr.alloc _).trans x3
      clear x3 hxr ht o3
      go_wp2_with (first | (at_builtin; refine wpList_up_full rfl (.tmp 39) (.tmp 41) rfl _ 4 [77, 79, 84, 72] rfl rfl m1 y3 A3 _ c3 _ rfl rfl (moth0 s) hy3 (moth4 s) ?_; intro v4 w4 m4 y4; obtain ⟨L4, hL4⟩ : ∃ L, L = [77, 79, 84, 72] ++ ([] ++ leN 8 (u64of s.gen) ++ midTo s 7) := ⟨_, rfl⟩; rw [← hL4] at m4; have e4 : L4.length = 40 := (congrArg List.length hL4).trans (moth40 s); obtain ⟨A4, c4, rfl, h4, _, hy4⟩ := m4.form; rw [e4] at m4 ⊢; have E4 := Lib.hid e4; have HL4 := Lib.hid hL4; clear e4 hL4 hy3 h3 m1 y3 hlen h4 hy4) | (at_builtin; refine wpList_up_zeros rfl (.tmp 43) (.tmp 46) rfl _ _ rfl m4 y4 76 rfl (by rw [E4.out]; decide) ?_; intro v5 w5 m5 y5))
      clear m4 y4
      have z5 : Ext w5 w5.drew := (Ext.refl _).drew
      obtain ⟨L5, hL5⟩ : ∃ L, L = L4 ++ List.replicate 76 0 := ⟨_, rfl⟩
      rw [← hL5] at m5
      have E5 : Hid (L5.length = 116) := Lib.hid (by rw [hL5, List.length_append, E4.out, List.length_replicate])
      have HL5 := Lib.hid hL5
      clear hL5
      refine wp_region_held_drew (S := fun w' => Ext w1 w') (by kernel_rfl) (y5.drew) (fun hS => ?_)
      refine takeH (i := 0) (v := ?_) rfl rfl (by kernel_rfl) (by kernel_rfl) (by kernel_rfl) (fun _ _ _ h => h) (Or.inl ⟨by kernel_rfl, ?_⟩) hS ?_
      rotate_left 1
      · (intro w' hS'; go_simp; try (with_reducible rfl))
      simp only [List.setIfInBounds_toArray, List.set_cons_succ, List.set_cons_zero]
      refine takeH (i := 2) (v := ?_) rfl rfl (by kernel_rfl) (by kernel_rfl) (by kernel_rfl) (fun _ _ _ h => h) (Or.inl ⟨by kernel_rfl, ?_⟩) hS ?_
      rotate_left 1
      · (intro w' hS'; go_simp; try (with_reducible rfl))
      simp only [List.setIfInBounds_toArray, List.set_cons_succ, List.set_cons_zero]
      refine takeH (i := 3) (v := ?_) rfl rfl (by kernel_rfl) (by kernel_rfl) (by kernel_rfl) (fun _ _ _ h => h) (Or.inl ⟨by kernel_rfl, ?_⟩) hS ?_
      rotate_left 1
      · (intro w' hS'; have d0 := hS'.cell c0; go_simp; try (with_reducible rfl))
      simp only [List.setIfInBounds_toArray, List.set_cons_succ, List.set_cons_zero]
      refine wpAnyH_ready (rs := [1]) (by kernel_rfl) (by simp) ?_
      refine AllReadyH.cons rfl (fun K hK => ?_) ?_
      rotate_left 1
      · exact AllReadyH.nil
      go_simp
      refine (wr_new z5).mono ?_; rintro e w6 ⟨k2, rfl, t6, x6⟩
      refine hK.out _ _ (hS.trans x6) (fun hS => ?_)
      clear hK K
      refine wpAnyH_ready (rs := [4]) (by kernel_rfl) (by simp) ?_
      refine AllReadyH.cons rfl (fun K hK => ?_) ?_
      rotate_left 1
      · exact AllReadyH.nil
      go_simp
      refine (wr_num s.gen 8 (z5.trans x6) t6 (by simp)).mono ?_; rintro e w7 ⟨rfl, t7, y7⟩
      refine hK.out _ _ (y5.trans y7) (fun hS => ?_)
      clear hK K
      refine wpAnyH_ready (rs := [5]) (by kernel_rfl) (by simp) ?_
      refine AllReadyH.cons rfl (fun K hK => ?_) ?_
      rotate_left 1
      · exact AllReadyH.nil
      go_simp
      refine (wr_bytes t7 (by simp [length_leN, wid8])).mono ?_; rintro e w8 ⟨v8, rfl, o8, x8⟩; obtain ⟨A8, c8, rfl, h8, hy8⟩ := o8.octs_form
      refine hK.out _ _ (hS.trans x8) (fun hS => ?_)
      clear hK K
      refine wpAnyH_ready (rs := [6]) (by kernel_rfl) (by simp) ?_
      refine AllReadyH.cons rfl (fun K hK => ?_) ?_
      rotate_left 1
      · exact AllReadyH.nil
      refine step_up rfl (.tmp 48) (.tmp 53) rfl v5 L5 rfl (m5.ext (y7.trans x8)) hS A8 _ c8 _ rfl rfl hy8 (by simp [E5.out, length_leN, wid8]) ?_; intro v9 w9 m9 x9; obtain ⟨L9, hL9⟩ : ∃ L, L = L5 ++ ([] ++ leN (wid 8) (u64of s.gen)) := ⟨_, rfl⟩; rw [← hL9] at m9; have e9 : L9.length = 124 := (congrArg List.length hL9).trans (moth124 s L5 E5.out); obtain ⟨A9, c9, rfl, h9, _, hy9⟩ := m9.form; rw [e9] at h9 ⊢; have E9 := Lib.hid e9; have HL9 := Lib.hid hL9; clear e9 hL9
      try go_simp
      refine hK.out _ _ (x9) (fun hS => ?_)
      clear hK K
      refine wpAnyH_ready (rs := [7]) (by kernel_rfl) (by simp) ?_
      refine AllReadyH.cons rfl (fun K hK => ?_) ?_
      rotate_left 1
      · exact AllReadyH.nil
      go_simp
      refine (f45_n A9 L9 124 c9 _ E9.out (by decide) h9 hy9).mono ?_; rintro e w10 ⟨v10, rfl, o10, x10⟩
      refine hK.out _ _ (hS.trans x10) (fun hS => ?_)
      clear hK K
      refine takeH (i := 8) (v := ?_) rfl rfl (by kernel_rfl) (by kernel_rfl) (by kernel_rfl) (fun _ _ _ h => h) (Or.inl ⟨by kernel_rfl, ?_⟩) hS ?_
      rotate_left 1
      · (intro w' hS'; go_simp; try (with_reducible rfl))
      simp only [List.setIfInBounds_toArray, List.set_cons_succ, List.set_cons_zero]
      refine takeH (i := 9) (v := ?_) rfl rfl (by kernel_rfl) (by kernel_rfl) (by kernel_rfl) (fun _ _ _ h => h) (Or.inl ⟨by kernel_rfl, ?_⟩) hS ?_
      rotate_left 1
      · (intro w' hS'; go_simp; try (with_reducible rfl))
      simp only [List.setIfInBounds_toArray, List.set_cons_succ, List.set_cons_zero]
      refine wpAnyH_done (by kernel_rfl) ?_ _
      have e10 : L9 = supBody s := by
        rw [HL9.out, HL5.out, HL4.out, wid8, midTo_all, supBody, zer]
        simp only [List.nil_append, List.append_assoc]
      rw [e10] at o10
      go_wp2_with fail
      go_ret2
      exact ⟨_, rfl, o10.mono (by first | exact hS.size | exact Nat.le_trans hX1.size x9.size), hX1.trans (x9.trans x10)⟩
    obtain rfl | rfl | rfl | rfl | rfl | rfl | rfl : j = 0 ∨ j = 1 ∨ j = 2 ∨ j = 3 ∨ j = 4 ∨ j = 5 ∨ j = 6 := by omega
    · have I1 := idx7_0 (.int .i64 s.journal) (.int .i64 s.area) (.int .i64 s.which) (.int .i64 s.len) (.int .i64 (s.sum : Int)) (.int .i64 s.epoch) (.int .i64 s.start)
      have H1 := wr_num s.journal 4 hxr ht hlen
      go_wp2_with (go_at_call 37; refine H1.mono ?_; clear H1; rintro e w3 ⟨rfl, t3, x3⟩)
      go_roundg (7 - (0 + 1))
      case measure => omega
      case rel => exact ⟨1, by omega, by omega, by go_num, by rw [HN.out.1]; rw [wid4] at t3; simpa only [List.append_assoc] using t3, x3⟩
    · have I1 := idx7_1 (.int .i64 s.journal) (.int .i64 s.area) (.int .i64 s.which) (.int .i64 s.len) (.int .i64 (s.sum : Int)) (.int .i64 s.epoch) (.int .i64 s.start)
      have H1 := wr_num s.area 4 hxr ht hlen
      go_wp2_with (go_at_call 37; refine H1.mono ?_; clear H1; rintro e w3 ⟨rfl, t3, x3⟩)
      go_roundg (7 - (1 + 1))
      case measure => omega
      case rel => exact ⟨2, by omega, by omega, by go_num, by rw [HN.out.2.1]; rw [wid4] at t3; simpa only [List.append_assoc] using t3, x3⟩
    · have I1 := idx7_2 (.int .i64 s.journal) (.int .i64 s.area) (.int .i64 s.which) (.int .i64 s.len) (.int .i64 (s.sum : Int)) (.int .i64 s.epoch) (.int .i64 s.start)
      have H1 := wr_num s.which 4 hxr ht hlen
      go_wp2_with (go_at_call 37; refine H1.mono ?_; clear H1; rintro e w3 ⟨rfl, t3, x3⟩)
      go_roundg (7 - (2 + 1))
      case measure => omega
      case rel => exact ⟨3, by omega, by omega, by go_num, by rw [HN.out.2.2.1]; rw [wid4] at t3; simpa only [List.append_assoc] using t3, x3⟩
    · have I1 := idx7_3 (.int .i64 s.journal) (.int .i64 s.area) (.int .i64 s.which) (.int .i64 s.len) (.int .i64 (s.sum : Int)) (.int .i64 s.epoch) (.int .i64 s.start)
      have H1 := wr_num s.len 4 hxr ht hlen
      go_wp2_with (go_at_call 37; refine H1.mono ?_; clear H1; rintro e w3 ⟨rfl, t3, x3⟩)
      go_roundg (7 - (3 + 1))
      case measure => omega
      case rel => exact ⟨4, by omega, by omega, by go_num, by rw [HN.out.2.2.2.1]; rw [wid4] at t3; simpa only [List.append_assoc] using t3, x3⟩
    · have I1 := idx7_4 (.int .i64 s.journal) (.int .i64 s.area) (.int .i64 s.which) (.int .i64 s.len) (.int .i64 (s.sum : Int)) (.int .i64 s.epoch) (.int .i64 s.start)
      have H1 := wr_num (s.sum : Int) 4 hxr ht hlen
      go_wp2_with (go_at_call 37; refine H1.mono ?_; clear H1; rintro e w3 ⟨rfl, t3, x3⟩)
      go_roundg (7 - (4 + 1))
      case measure => omega
      case rel => exact ⟨5, by omega, by omega, by go_num, by rw [HN.out.2.2.2.2.1]; rw [wid4] at t3; simpa only [List.append_assoc] using t3, x3⟩
    · have I1 := idx7_5 (.int .i64 s.journal) (.int .i64 s.area) (.int .i64 s.which) (.int .i64 s.len) (.int .i64 (s.sum : Int)) (.int .i64 s.epoch) (.int .i64 s.start)
      have H1 := wr_num s.epoch 4 hxr ht hlen
      go_wp2_with (go_at_call 37; refine H1.mono ?_; clear H1; rintro e w3 ⟨rfl, t3, x3⟩)
      go_roundg (7 - (5 + 1))
      case measure => omega
      case rel => exact ⟨6, by omega, by omega, by go_num, by rw [HN.out.2.2.2.2.2.1]; rw [wid4] at t3; simpa only [List.append_assoc] using t3, x3⟩
    · have I1 := idx7_6 (.int .i64 s.journal) (.int .i64 s.area) (.int .i64 s.which) (.int .i64 s.len) (.int .i64 (s.sum : Int)) (.int .i64 s.epoch) (.int .i64 s.start)
      have H1 := wr_num s.start 4 hxr ht hlen
      go_wp2_with (go_at_call 37; refine H1.mono ?_; clear H1; rintro e w3 ⟨rfl, t3, x3⟩)
      go_roundg (7 - (6 + 1))
      case measure => omega
      case rel => exact ⟨7, by omega, by omega, by go_num, by rw [HN.out.2.2.2.2.2.2]; rw [wid4] at t3; simpa only [List.append_assoc] using t3, x3⟩
set_option maxRecDepth 100000 in
theorem f20_wrong (s : Sup) (w : World) (hr : ¬ supRight s) : Calls Try.prog 20 #[supV s] w fun e w' => e = .returned (.tuple #[.slice none 0 0, .int .i64 2]) ∧ Ext w w' := by
  have hR : ∀ w, Calls Try.prog 21 #[supV s] w fun e w' => e = .returned (.bool false) ∧ Ext w w' := fun w => by
    refine (f21_any _ w).mono ?_
    rintro e w' ⟨rfl, h⟩
    exact ⟨by rw [decide_eq_false hr], h⟩
  simp only [supV, supCells] at hR
  clear hr
  go_enter Try.func20, Try.ntmps20
  go_wp2_with fail
  refine (hR _).mono ?_
  rintro e w1 ⟨rfl, hx1⟩
  go_wp2_with fail
  go_ret2
  exact ⟨rfl, ((Ext.refl w).alloc _).trans hx1⟩
end Go.Proofs.Ytanmjmeabcloiaa
