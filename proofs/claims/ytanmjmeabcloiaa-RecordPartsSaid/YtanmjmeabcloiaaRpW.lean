/- RecordParts: the walk. -/
import Derived.Test.YtanmjmeabcloiaaRv
import Derived.Test.YtanmjmeabcloiaaSa
namespace Go.Proofs.Ytanmjmeabcloiaa
open Go.RowKit
open Go.Proofs

theorem dec_prt (p : Prt) (h : prtRight p) : prtDec (prtPut p) = p := by
  obtain ⟨foot, epoch, number, index, data⟩ := p
  have hl := put_len _ h
  obtain ⟨a1, a2, a3, a4, a5, a6, a7⟩ := h
  simp only at a1 a2 a3 a4 a5 a6 a7 hl
  have e : prtPut ⟨foot, epoch, number, index, data⟩ = [] ++ (leN 1 (u64of (sgnOf foot)) ++ (leN 4 (u64of epoch) ++ (leN 4 (u64of number) ++ (leN 2 (u64of index) ++ (leN 1 (u64of (data.length : Int)) ++ (data ++ (zer (112 - data.length) ++ Mb.le4 (Mb.crcSum (prtBody ⟨foot, epoch, number, index, data⟩))))))))) := by
    simp [prtPut, Mb.seal_, prtBody, prtHead]
  generalize zer (112 - data.length) ++ Mb.le4 (Mb.crcSum (prtBody ⟨foot, epoch, number, index, data⟩)) = T at e
  have g (p q r x : List UInt8) : p ++ (q ++ (r ++ x)) = (p ++ q) ++ (r ++ x) := by simp
  have e1 := e
  have e2 := e1; rw [g] at e2
  have e3 := e2; rw [g] at e3
  have e4 := e3; rw [g] at e4
  have e5 := e4; rw [g] at e5
  have e6 := e5; rw [g] at e6
  unfold prtDec
  rw [hl, if_pos (by omega)]
  congr 1
  · rw [e1, num_num _ _ _ _ _ (show ([] : List UInt8).length = 0 from rfl) (by cases foot <;> decide) (by cases foot <;> decide) (by cases foot <;> decide)]
    cases foot <;> rfl
  · rw [e2, num_num _ _ _ _ _ (by simp [length_leN]) (by omega) (by simp only [Nat.reducePow]; omega) (by omega)]
  · rw [e3, num_num _ _ _ _ _ (by simp [length_leN]) (by omega) (by simp only [Nat.reducePow]; omega) (by omega)]
  · rw [e4, num_num _ _ _ _ _ (by simp [length_leN]) (by omega) (by simp only [Nat.reducePow]; omega) (by omega)]
  · rw [e6, num_mid _ _ _ 12 _ (by simp [length_leN]) (by simp)]
theorem get_prt (p : Prt) (h : prtRight p) : prtGet (prtPut p) = some p := by
  unfold prtGet
  rw [dec_prt p h, if_pos ⟨length_prtPut p h, h, rfl⟩]

set_option maxRecDepth 100000 in
set_option maxHeartbeats 4000000 in
theorem f3_right (p : Prt) (A B : Option Addr) (l : List UInt8) (n c nb cb : Nat) (w : World) (hn : p.data.length = n) (hl : l.length = nb) (hcb : nb ≤ cb) (h300 : n ≤ 300) (h301 : nb ≤ 300) (hx : Octs w A p.data) (hz : Octs w B l) (hr : prtRight p) :
    Calls Try.prog 3 #[prtV p A n c, .slice B nb cb] w fun e w' => e = .returned (.bool true) ∧ Ext w w' := by
  have G14 := fun A3 c3 W => f14_any A3 l nb c3 W hl (by omega)
  have G15 := fun W => f15_any l W
  generalize (prtGet l).getD prt0 = D at G14 G15
  generalize (prtGet l).isSome = f at G14 G15
  have HN := Lib.hid hn
  have HL := Lib.hid hl
  have HCB := Lib.hid hcb
  have H300 := Lib.hid h301
  have g1 : ((300 : Int) < (n : Int)) = False := eq_false (by omega)
  have g2 : ((300 : Int) < (nb : Int)) = False := eq_false (by omega)
  clear hn hl hcb h300 h301
  go_enter Try.func3, Try.ntmps3
  go_wp2_with fail
  refine (awake06_any _).mono ?_
  rintro e w0 ⟨rfl, rfl⟩
  have hb := heap_alloc_new w (.cells (prtCells p A n c) 24)
  have X1 : Ext w (w.alloc (.cells (prtCells p A n c) 24)) := (Ext.refl w).alloc _
  have y1 := hx.alloc (.cells (prtCells p A n c) 24)
  have z1 := hz.alloc (.cells (prtCells p A n c) 24)
  obtain ⟨q, hq⟩ : ∃ q, w.heap.size = q := ⟨_, rfl⟩
  rw [hq] at hb ⊢
  have HQ := Lib.hid hq
  clear hq hx hz
  generalize w.alloc (.cells (prtCells p A n c) 24) = w1 at *
  obtain ⟨c0, c1, c2, c3, c4, cf⟩ := prt_cells hb
  go_wp2_with fail
  refine (f13_right p A n c _ HN.out hr y1).mono ?_
  rintro e w2 ⟨v2, rfl, o2, x2⟩
  obtain ⟨A2, c2', rfl, k2, yp⟩ := o2.octs_form
  rw [length_prtPut p hr] at k2 ⊢
  have hb2 := x2.heap hb
  have X2 := X1.trans x2
  have y2 := y1.ext x2
  have z2 := z1.ext x2
  clear c0 c1 c2 c3 c4 cf hb X1 y1 z1
  go_wp2_with (first
    | (at_builtin; refine wpList_up0 rfl (.tmp 33) (.tmp 34) rfl rfl _ rfl rfl B nb cb l rfl HL.out z2 (by rw [HL.out]; have := H300.out; omega) ?_; intro v3 w3 u3 x3; obtain ⟨A3, c3, rfl, k3, _, z3⟩ := u3.form; rw [HL.out] at k3 ⊢)
    | (at_builtin; fail)
    | fail)
  refine (G14 A3 c3 _ k3 z3).mono ?_
  rintro e w4 ⟨A4, m4, c4, rfl, l4, k4, y4, x4⟩
  have e4 : Ext w2 (w4.alloc (.cells (prtCells D A4 m4 c4) 24)) := (x3.trans x4).alloc _
  have hd := heap_alloc_new w4 (.cells (prtCells D A4 m4 c4) 24)
  have kk := conv_str B l nb cb (w4.alloc (.cells (prtCells D A4 m4 c4) 24)) HL.out (z2.ext e4)
  simp only [prtCells] at kk
  go_wp2_with fail
  refine (G15 _).mono ?_
  rintro e w5 ⟨A5, m5, c5, rfl, l5, k5, y5, x5⟩
  have hq4 := x5.heap hd
  have e5 : Ext w2 (w5.alloc (.cells (prtCells D A5 m5 c5) 24)) := e4.trans (x5.alloc _)
  have e45 : Ext (w4.alloc (.cells (prtCells D A4 m4 c4) 24)) (w5.alloc (.cells (prtCells D A5 m5 c5) 24)) := x5.alloc _
  have hd4 := e45.heap hd
  have hd5 := heap_alloc_new w5 (.cells (prtCells D A5 m5 c5) 24)
  have hb5 := e5.heap hb2
  have y44 := (y4.ext ((Ext.refl w4).alloc (.cells (prtCells D A4 m4 c4) 24))).ext e45
  have y55 := y5.ext ((Ext.refl w5).alloc (.cells (prtCells D A5 m5 c5) 24))
  have y25 := y2.ext e5
  have X5 := X2.trans e5
  have lt4 := block_lt_of_cell (prt_cells hd4).1
  simp only at lt4
  obtain ⟨i0, i1, i2, i3, i4, jf⟩ := prt_cells hd4
  clear kk hq4 z2 x3 x4 x5 y4 y5 e4
  have H16 := f16_any D D A4 A5 m4 m5 c4 c5 (w5.alloc (.cells (prtCells D A5 m5 c5) 24)) l4 l5 y44 y55
  rw [decide_eq_true rfl] at H16
  simp only [prtCells] at i0 i1 i2 i3 i4 jf
  go_wp2_with fail
  refine H16.mono ?_
  rintro e w6 ⟨rfl, x6⟩
  have hb6 := x6.heap hb5
  have y26 := y25.ext x6
  have yp6 := yp.ext (e5.trans x6)
  have X6 := X5.trans x6
  clear H16 i0 i1 i2 i3 i4 jf hd4 hd5 y44 y55 lt4 e45
  obtain ⟨c0, c1, c2, cc3, cc4, cf⟩ := prt_cells hb6
  go_wp2_with fail
  have H17 := f17_prt p A n c w6 HN.out
  rw [decide_eq_true hr] at H17
  refine H17.mono ?_
  rintro e w7 ⟨rfl, x7⟩
  have yp7 := yp6.ext x7
  have lpp := length_prtPut p hr
  go_wp2_with fail
  have HG := f14_any A2 (prtPut p) 128 c2' w7 lpp (by decide) k2 yp7
  rw [get_prt p hr] at HG
  refine HG.mono ?_
  rintro e w8 ⟨A8, m8, c8, rfl, l8, k8, y8, x8⟩
  have e8 : Ext w6 (w8.alloc (.cells (prtCells p A8 m8 c8) 24)) := x7.trans (x8.alloc _)
  have h8 := heap_alloc_new w8 (.cells (prtCells p A8 m8 c8) 24)
  have b8 := e8.heap hb6
  have y28 := y26.ext e8
  have yp8 := yp6.ext e8
  have y88 := y8.alloc (.cells (prtCells p A8 m8 c8) 24)
  have X8 := X6.trans e8
  clear HG c0 c1 c2 cc3 cc4 cf x7 x8 yp7 yp6 y26 y8
  go_wp2_with fail
  obtain ⟨q8, hq8⟩ : ∃ z, w8.heap.size = z := ⟨_, rfl⟩
  rw [hq8] at h8 ⊢
  clear hq8
  change Octs (w8.alloc (.cells #[.bool p.foot, .int .i64 p.epoch, .int .i64 p.number, .int .i64 p.index, .slice A8 m8 c8] 24)) _ _ at y88
  simp only [prtCells] at e8 h8 b8 y28 yp8 X8
  generalize w8.alloc (.cells #[.bool p.foot, .int .i64 p.epoch, .int .i64 p.number, .int .i64 p.index, .slice A8 m8 c8] 24) = w9 at *
  refine wp_region_held_drew (S := fun w' => Ext w9 w') (by kernel_rfl) ((Ext.refl _).drew) (fun hS => ?_)
  refine takeH (i := 0) (v := ?_) rfl rfl (by kernel_rfl) (by kernel_rfl) (by kernel_rfl) (fun _ _ _ h => h) (Or.inl ⟨by kernel_rfl, ?_⟩) hS ?_
  rotate_left 1
  · (intro w' hS'; go_simp; try (with_reducible rfl))
  simp only [List.setIfInBounds_toArray, List.set_cons_succ, List.set_cons_zero]
  refine takeH (i := 1) (v := ?_) rfl rfl (by kernel_rfl) (by kernel_rfl) (by kernel_rfl) (fun _ _ _ h => h) (Or.inl ⟨by kernel_rfl, ?_⟩) hS ?_
  rotate_left 1
  · (intro w' hS'; go_simp; try (with_reducible rfl))
  simp only [List.setIfInBounds_toArray, List.set_cons_succ, List.set_cons_zero]
  refine takeH (i := 2) (v := ?_) rfl rfl (by kernel_rfl) (by kernel_rfl) (by kernel_rfl) (fun _ _ _ h => h) (Or.inl ⟨by kernel_rfl, ?_⟩) hS ?_
  rotate_left 1
  · (intro w' hS'; go_simp; try (with_reducible rfl))
  simp only [List.setIfInBounds_toArray, List.set_cons_succ, List.set_cons_zero]
  refine takeH (i := 3) (v := ?_) rfl rfl (by kernel_rfl) (by kernel_rfl) (by kernel_rfl) (fun _ _ _ h => h) (Or.inl ⟨by kernel_rfl, ?_⟩) hS ?_
  rotate_left 1
  · (intro w' hS'; go_simp; try (with_reducible rfl))
  simp only [List.setIfInBounds_toArray, List.set_cons_succ, List.set_cons_zero]
  refine takeH (i := 4) (v := ?_) rfl rfl (by kernel_rfl) (by kernel_rfl) (by kernel_rfl) (fun _ _ _ h => h) (Or.inl ⟨by kernel_rfl, ?_⟩) hS ?_
  rotate_left 1
  · (intro w' hS'; have k4 := conv_str A2 (prtPut p) 128 c2' w' lpp (yp8.ext hS'); go_simp; try (with_reducible rfl))
  simp only [List.setIfInBounds_toArray, List.set_cons_succ, List.set_cons_zero]
  refine takeH (i := 5) (v := ?_) rfl rfl (by kernel_rfl) (by kernel_rfl) (by kernel_rfl) (fun _ _ _ h => h) (Or.inl ⟨by kernel_rfl, ?_⟩) hS ?_
  rotate_left 1
  · (intro w' hS'; obtain ⟨c0, c1, c2, cc3, cc4, cf⟩ := prt_cells (p := p) (A := A) (n := n) (c := c) (hS'.heap b8); go_simp; try (with_reducible rfl))
  simp only [List.setIfInBounds_toArray, List.set_cons_succ, List.set_cons_zero]
  refine wpAnyH_ready (rs := [6]) (by kernel_rfl) (by simp) ?_
  refine AllReadyH.cons rfl (fun K hK => ?_) ?_
  rotate_left 1
  · exact AllReadyH.nil
  go_simp
  refine (f18_right p A n c _ HN.out hr (y28.ext hS)).mono ?_; rintro e w10 ⟨rfl, x10⟩
  refine hK.out _ _ (hS.trans x10) (fun hS => ?_)
  clear hK K
  refine takeH (i := 7) (v := ?_) rfl rfl (by kernel_rfl) (by kernel_rfl) (by kernel_rfl) (fun _ _ _ h => h) (Or.inl ⟨by kernel_rfl, ?_⟩) hS ?_
  rotate_left 1
  · (intro w' hS'; go_simp; try (with_reducible rfl))
  simp only [List.setIfInBounds_toArray, List.set_cons_succ, List.set_cons_zero]
  refine takeH (i := 8) (v := ?_) rfl rfl (by kernel_rfl) (by kernel_rfl) (by kernel_rfl) (fun _ _ _ h => h) (Or.inl ⟨by kernel_rfl, ?_⟩) hS ?_
  rotate_left 1
  · (intro w' hS'; go_simp; try (with_reducible rfl))
  simp only [List.setIfInBounds_toArray, List.set_cons_succ, List.set_cons_zero]
  refine takeH (i := 9) (v := ?_) rfl rfl (by kernel_rfl) (by kernel_rfl) (by kernel_rfl) (fun _ _ _ h => h) (Or.inl ⟨by kernel_rfl, ?_⟩) hS ?_
  rotate_left 1
  · (intro w' hS'; go_simp; try (with_reducible rfl))
  simp only [List.setIfInBounds_toArray, List.set_cons_succ, List.set_cons_zero]
  refine takeH (i := 10) (v := ?_) rfl rfl (by kernel_rfl) (by kernel_rfl) (by kernel_rfl) (fun _ _ _ h => h) (Or.inl ⟨by kernel_rfl, ?_⟩) hS ?_
  rotate_left 1
  · (intro w' hS'; go_simp; try (with_reducible rfl))
  simp only [List.setIfInBounds_toArray, List.set_cons_succ, List.set_cons_zero]
  refine takeH (i := 11) (v := ?_) rfl rfl (by kernel_rfl) (by kernel_rfl) (by kernel_rfl) (fun _ _ _ h => h) (Or.inl ⟨by kernel_rfl, ?_⟩) hS ?_
  rotate_left 1
  · (intro w' hS'; go_simp; try (with_reducible rfl))
  simp only [List.setIfInBounds_toArray, List.set_cons_succ, List.set_cons_zero]
  refine takeH (i := 12) (v := ?_) rfl rfl (by kernel_rfl) (by kernel_rfl) (by kernel_rfl) (fun _ _ _ h => h) (Or.inl ⟨by kernel_rfl, ?_⟩) hS ?_
  rotate_left 1
  · (intro w' hS'; go_simp; try (with_reducible rfl))
  simp only [List.setIfInBounds_toArray, List.set_cons_succ, List.set_cons_zero]
  refine takeH (i := 13) (v := ?_) rfl rfl (by kernel_rfl) (by kernel_rfl) (by kernel_rfl) (fun _ _ _ h => h) (Or.inl ⟨by kernel_rfl, ?_⟩) hS ?_
  rotate_left 1
  · (intro w' hS'; obtain ⟨c0, c1, c2, cc3, cc4, cf⟩ := prt_cells (p := p) (A := A8) (n := m8) (c := c8) (hS'.heap h8); go_simp; try (with_reducible rfl))
  simp only [List.setIfInBounds_toArray, List.set_cons_succ, List.set_cons_zero]
  refine takeH (i := 14) (v := ?_) rfl rfl (by kernel_rfl) (by kernel_rfl) (by kernel_rfl) (fun _ _ _ h => h) (Or.inl ⟨by kernel_rfl, ?_⟩) hS ?_
  rotate_left 1
  · (intro w' hS'; obtain ⟨c0, c1, c2, cc3, cc4, cf⟩ := prt_cells (p := p) (A := A) (n := n) (c := c) (hS'.heap b8); go_simp; try (with_reducible rfl))
  simp only [List.setIfInBounds_toArray, List.set_cons_succ, List.set_cons_zero]
  refine wpAnyH_ready (rs := [15]) (by kernel_rfl) (by simp) ?_
  refine AllReadyH.cons rfl (fun K hK => ?_) ?_
  rotate_left 1
  · exact AllReadyH.nil
  go_simp
  have HS := f16_any p p A8 A m8 n c8 c _ l8 HN.out (y88.ext hS) (y28.ext hS); rw [decide_eq_true rfl] at HS; refine HS.mono ?_; rintro e w11 ⟨rfl, x11⟩
  refine hK.out _ _ (hS.trans x11) (fun hS => ?_)
  clear hK K
  refine takeH (i := 16) (v := ?_) rfl rfl (by kernel_rfl) (by kernel_rfl) (by kernel_rfl) (fun _ _ _ h => h) (Or.inl ⟨by kernel_rfl, ?_⟩) hS ?_
  rotate_left 1
  · (intro w' hS'; go_simp; try (with_reducible rfl))
  simp only [List.setIfInBounds_toArray, List.set_cons_succ, List.set_cons_zero]
  refine takeH (i := 17) (v := ?_) rfl rfl (by kernel_rfl) (by kernel_rfl) (by kernel_rfl) (fun _ _ _ h => h) (Or.inl ⟨by kernel_rfl, ?_⟩) hS ?_
  rotate_left 1
  · (intro w' hS'; go_simp; try (with_reducible rfl))
  simp only [List.setIfInBounds_toArray, List.set_cons_succ, List.set_cons_zero]
  refine wpAnyH_done (by kernel_rfl) ?_ _
  go_wp2_with fail
  go_ret
  exact ⟨rfl, X8.trans hS⟩

set_option maxRecDepth 100000 in
set_option maxHeartbeats 4000000 in
theorem f3_wrong (p : Prt) (A B : Option Addr) (l : List UInt8) (n c nb cb : Nat) (w : World) (hn : p.data.length = n) (hl : l.length = nb) (hcb : nb ≤ cb) (h300 : n ≤ 300) (h301 : nb ≤ 300) (hx : Octs w A p.data) (hz : Octs w B l) (hr : ¬ prtRight p) :
    Calls Try.prog 3 #[prtV p A n c, .slice B nb cb] w fun e w' => e = .returned (.bool true) ∧ Ext w w' := by
  have G14 := fun A3 c3 W => f14_any A3 l nb c3 W hl (by omega)
  have G15 := fun W => f15_any l W
  generalize (prtGet l).getD prt0 = D at G14 G15
  generalize (prtGet l).isSome = f at G14 G15
  have HN := Lib.hid hn
  have HL := Lib.hid hl
  have HCB := Lib.hid hcb
  have H300 := Lib.hid h301
  have g1 : ((300 : Int) < (n : Int)) = False := eq_false (by omega)
  have g2 : ((300 : Int) < (nb : Int)) = False := eq_false (by omega)
  clear hn hl hcb h300 h301
  go_enter Try.func3, Try.ntmps3
  go_wp2_with fail
  refine (awake06_any _).mono ?_
  rintro e w0 ⟨rfl, rfl⟩
  have hb := heap_alloc_new w (.cells (prtCells p A n c) 24)
  have X1 : Ext w (w.alloc (.cells (prtCells p A n c) 24)) := (Ext.refl w).alloc _
  have y1 := hx.alloc (.cells (prtCells p A n c) 24)
  have z1 := hz.alloc (.cells (prtCells p A n c) 24)
  obtain ⟨q, hq⟩ : ∃ q, w.heap.size = q := ⟨_, rfl⟩
  rw [hq] at hb ⊢
  have HQ := Lib.hid hq
  clear hq hx hz
  generalize w.alloc (.cells (prtCells p A n c) 24) = w1 at *
  obtain ⟨c0, c1, c2, c3, c4, cf⟩ := prt_cells hb
  go_wp2_with fail
  refine (f13_wrong p A n c _ HN.out hr).mono ?_
  rintro e w2 ⟨rfl, x2⟩
  have hb2 := x2.heap hb
  have X2 := X1.trans x2
  have y2 := y1.ext x2
  have z2 := z1.ext x2
  clear c0 c1 c2 c3 c4 cf hb X1 y1 z1
  go_wp2_with (first
    | (at_builtin; refine wpList_up0 rfl (.tmp 33) (.tmp 34) rfl rfl _ rfl rfl B nb cb l rfl HL.out z2 (by rw [HL.out]; have := H300.out; omega) ?_; intro v3 w3 u3 x3; obtain ⟨A3, c3, rfl, k3, _, z3⟩ := u3.form; rw [HL.out] at k3 ⊢)
    | (at_builtin; fail)
    | fail)
  refine (G14 A3 c3 _ k3 z3).mono ?_
  rintro e w4 ⟨A4, m4, c4, rfl, l4, k4, y4, x4⟩
  have e4 : Ext w2 (w4.alloc (.cells (prtCells D A4 m4 c4) 24)) := (x3.trans x4).alloc _
  have hd := heap_alloc_new w4 (.cells (prtCells D A4 m4 c4) 24)
  have kk := conv_str B l nb cb (w4.alloc (.cells (prtCells D A4 m4 c4) 24)) HL.out (z2.ext e4)
  simp only [prtCells] at kk
  go_wp2_with fail
  refine (G15 _).mono ?_
  rintro e w5 ⟨A5, m5, c5, rfl, l5, k5, y5, x5⟩
  have hq4 := x5.heap hd
  have e5 : Ext w2 (w5.alloc (.cells (prtCells D A5 m5 c5) 24)) := e4.trans (x5.alloc _)
  have e45 : Ext (w4.alloc (.cells (prtCells D A4 m4 c4) 24)) (w5.alloc (.cells (prtCells D A5 m5 c5) 24)) := x5.alloc _
  have hd4 := e45.heap hd
  have hd5 := heap_alloc_new w5 (.cells (prtCells D A5 m5 c5) 24)
  have hb5 := e5.heap hb2
  have y44 := (y4.ext ((Ext.refl w4).alloc (.cells (prtCells D A4 m4 c4) 24))).ext e45
  have y55 := y5.ext ((Ext.refl w5).alloc (.cells (prtCells D A5 m5 c5) 24))
  have y25 := y2.ext e5
  have X5 := X2.trans e5
  have lt4 := block_lt_of_cell (prt_cells hd4).1
  simp only at lt4
  obtain ⟨i0, i1, i2, i3, i4, jf⟩ := prt_cells hd4
  clear kk hq4 z2 x3 x4 x5 y4 y5 e4
  have H16 := f16_any D D A4 A5 m4 m5 c4 c5 (w5.alloc (.cells (prtCells D A5 m5 c5) 24)) l4 l5 y44 y55
  rw [decide_eq_true rfl] at H16
  simp only [prtCells] at i0 i1 i2 i3 i4 jf
  go_wp2_with fail
  refine H16.mono ?_
  rintro e w6 ⟨rfl, x6⟩
  have hb6 := x6.heap hb5
  have y26 := y25.ext x6
  have X6 := X5.trans x6
  clear H16 i0 i1 i2 i3 i4 jf hd4 hd5 y44 y55 lt4 e45
  obtain ⟨c0, c1, c2, cc3, cc4, cf⟩ := prt_cells hb6
  go_wp2_with fail
  have H17 := f17_prt p A n c w6 HN.out
  rw [decide_eq_false hr] at H17
  refine H17.mono ?_
  rintro e w7 ⟨rfl, x7⟩
  go_wp2_with fail
  go_ret
  exact ⟨rfl, X6.trans x7⟩

set_option maxRecDepth 100000 in
theorem f3_early (p : Prt) (A B : Option Addr) (n c nb cb : Nat) (w : World) (h : 300 < n ∨ 300 < nb) :
    Calls Try.prog 3 #[prtV p A n c, .slice B nb cb] w fun e w' => e = .returned (.bool true) ∧ Ext w w' := by
  by_cases h1 : 300 < n
  · have g1 : ((300 : Int) < (n : Int)) = True := eq_true (by omega)
    clear h h1
    go_enter Try.func3, Try.ntmps3
    go_wp2_with fail
    refine (awake06_any _).mono ?_
    rintro e w0 ⟨rfl, rfl⟩
    go_wp2_with fail
    refine (awake06_any _).mono ?_
    rintro e w1 ⟨rfl, rfl⟩
    go_wp2_with fail
    go_ret
    exact ⟨rfl, (Ext.refl w).alloc _⟩
  · have g1 : ((300 : Int) < (n : Int)) = False := eq_false (by omega)
    have g2 : ((300 : Int) < (nb : Int)) = True := eq_true (by omega)
    clear h h1
    go_enter Try.func3, Try.ntmps3
    go_wp2_with fail
    refine (awake06_any _).mono ?_
    rintro e w0 ⟨rfl, rfl⟩
    go_wp2_with fail
    refine (awake06_any _).mono ?_
    rintro e w1 ⟨rfl, rfl⟩
    go_wp2_with fail
    go_ret
    exact ⟨rfl, (Ext.refl w).alloc _⟩

theorem f3_walk (p : Prt) (A B : Option Addr) (l : List UInt8) (n c nb cb : Nat) (w : World) (hn : p.data.length = n) (hl : l.length = nb) (hcb : nb ≤ cb) (hx : Octs w A p.data) (hz : Octs w B l) :
    Calls Try.prog 3 #[prtV p A n c, .slice B nb cb] w fun e w' => e = .returned (.bool true) ∧ Ext w w' := by
  by_cases h : 300 < n ∨ 300 < nb
  · exact f3_early p A B n c nb cb w h
  · by_cases hr : prtRight p
    · exact f3_right p A B l n c nb cb w hn hl hcb (by omega) (by omega) hx hz hr
    · exact f3_wrong p A B l n c nb cb w hn hl hcb (by omega) (by omega) hx hz hr
end Go.Proofs.Ytanmjmeabcloiaa
