/- The parts of layer 6: the document's Get. -/
import Derived.Test.YtanmjmeabcloiaaRu
import Derived.Test.YtanmjmeabcloiaaRg
namespace Go.Proofs.Ytanmjmeabcloiaa
open Go.RowKit
open Go.Proofs

theorem put_len (p : Prt) (h : prtRight p) : numAt (prtPut p) 11 1 = (p.data.length : Int) := by
  have h7 := h.2.2.2.2.2.2
  have e : prtPut p = ([] ++ leN 1 (u64of (sgnOf p.foot)) ++ leN 4 (u64of p.epoch) ++ leN 4 (u64of p.number) ++ leN 2 (u64of p.index)) ++ (leN 1 (u64of (p.data.length : Int)) ++ (p.data ++ zer (112 - p.data.length) ++ Mb.le4 (Mb.crcSum (prtBody p)))) := by
    simp [prtPut, Mb.seal_, prtBody, prtHead]
  rw [e]
  exact num_num _ _ _ 11 1 (by simp only [List.length_append, length_leN, List.length_nil]) (by omega) (by simp only [Nat.reducePow]; omega) (by omega)
theorem get_long (l : List UInt8) (V : Nat) (hV : numAt l 11 1 = (V : Int)) (h : ¬ V ≤ 112) : prtGet l = none := by
  unfold prtGet
  rw [if_neg]
  rintro ⟨_, h2, h3⟩
  have h4 := put_len _ h2
  rw [h3, hV, data_hi l V hV h] at h4
  simp at h4
  omega
theorem numAt_one (l : List UInt8) (i : Nat) (h : i < l.length) : numAt l i 1 = ((l[i].toNat : Nat) : Int) := by
  have e : (l.drop i).take 1 = [l[i]] := by rw [List.drop_eq_getElem_cons h]; rfl
  have := l[i].toNat_lt
  rw [numAt, e, i64of_small _ (by simp [getN]; omega)]
  simp [getN]
theorem setQ1 {w : World} {q : Nat} {P : Prt} {A : Option Addr} {n c : Nat} (hb : w.heap[q]? = some (.cells (prtCells P A n c) 24 (0, 0))) (v : Int) : (w.setCell ⟨q, 1, none⟩ (.int .i64 v)).heap[q]? = some (.cells (prtCells { P with epoch := v } A n c) 24 (0, 0)) := by
  have h := heap_setCell_same w q 1 _ _ (.int .i64 v) hb
  simp only [prtCells, List.setIfInBounds_toArray, List.set_cons_succ, List.set_cons_zero] at h
  exact h
theorem setQ2 {w : World} {q : Nat} {P : Prt} {A : Option Addr} {n c : Nat} (hb : w.heap[q]? = some (.cells (prtCells P A n c) 24 (0, 0))) (v : Int) : (w.setCell ⟨q, 2, none⟩ (.int .i64 v)).heap[q]? = some (.cells (prtCells { P with number := v } A n c) 24 (0, 0)) := by
  have h := heap_setCell_same w q 2 _ _ (.int .i64 v) hb
  simp only [prtCells, List.setIfInBounds_toArray, List.set_cons_succ, List.set_cons_zero] at h
  exact h
theorem setQ3 {w : World} {q : Nat} {P : Prt} {A : Option Addr} {n c : Nat} (hb : w.heap[q]? = some (.cells (prtCells P A n c) 24 (0, 0))) (v : Int) : (w.setCell ⟨q, 3, none⟩ (.int .i64 v)).heap[q]? = some (.cells (prtCells { P with index := v } A n c) 24 (0, 0)) := by
  have h := heap_setCell_same w q 3 _ _ (.int .i64 v) hb
  simp only [prtCells, List.setIfInBounds_toArray, List.set_cons_succ, List.set_cons_zero] at h
  exact h
theorem str_at (l : List UInt8) (i : Nat) (h : i < l.length) (w : World) : (Instr.index 9 (strOf l) (.int .i64 (i : Int))).run Try.prog w = .ok (.int .u8 ((l[i].toNat : Nat) : Int)) w := by
  have e := run_index_string (P := Try.prog) w 9 ⟨l.toArray⟩ .i64 (i : Int) Try.underlying9
  rw [e, dif_pos ⟨by omega, by show (i : Int) < (l.toArray.size : Int); rw [List.size_toArray]; omega⟩]
  rfl

set_option maxRecDepth 100000 in
set_option maxHeartbeats 4000000 in
theorem f15_any (l : List UInt8) (w : World) :
    Calls Try.prog 15 #[strOf l] w fun e w' => ∃ A' m c', e = .returned (.tuple #[prtV ((prtGet l).getD prt0) A' m c', .bool (prtGet l).isSome]) ∧ ((prtGet l).getD prt0).data.length = m ∧ m ≤ c' ∧ Octs w' A' ((prtGet l).getD prt0).data ∧ Ext w w' := by
  by_cases h128 : l.length = 128
  · obtain ⟨V, hV⟩ : ∃ V : Nat, V = (l[11]'(by omega)).toNat := ⟨_, rfl⟩
    have hV1 : numAt l 11 1 = (V : Int) := by rw [numAt_one l 11 (by omega), hV]
    have hV2 : V < 256 := by rw [hV]; exact UInt8.toNat_lt _
    have i11 : ∀ w, (Instr.index 9 (strOf l) (.int .i64 11)).run Try.prog w = .ok (.int .u8 (V : Int)) w := fun w => by rw [hV]; exact str_at l 11 (by omega) w
    by_cases h112 : V ≤ 112
    · obtain ⟨R, hR⟩ : ∃ R, R = prtGet l := ⟨_, rfl⟩
      rw [← hR]
      have HG := Lib.hid hR
      have i0 : ∀ w, (Instr.index 9 (strOf l) (.int .i64 0)).run Try.prog w = .ok (.int .u8 (numAt l 0 1)) w := fun w => by rw [numAt_one l 0 (by omega)]; exact str_at l 0 (by omega) w
      obtain ⟨C1, F1, v1, g1⟩ := rget l 1 4 (by decide) (by omega)
      obtain ⟨C2, F2, v2, g2⟩ := rget l 5 4 (by decide) (by omega)
      obtain ⟨C3, F3, v3, g3⟩ := rget l 9 2 (by decide) (by omega)
      have s1 : ∀ w, (Instr.slice 9 (strOf l) (some (.int .i64 1)) (some (.int .i64 5)) none).run Try.prog w = .ok (strOf ((l.drop 1).take 4)) w := fun w => str_mid l 1 4 5 rfl (by omega) w
      have s2 : ∀ w, (Instr.slice 9 (strOf l) (some (.int .i64 5)) (some (.int .i64 9)) none).run Try.prog w = .ok (strOf ((l.drop 5).take 4)) w := fun w => str_mid l 5 4 9 rfl (by omega) w
      have s3 : ∀ w, (Instr.slice 9 (strOf l) (some (.int .i64 9)) (some (.int .i64 11)) none).run Try.prog w = .ok (strOf ((l.drop 9).take 2)) w := fun w => str_mid l 9 2 11 rfl (by omega) w
      generalize (l.drop 1).take 4 = B1 at v1 s1
      generalize (l.drop 5).take 4 = B2 at v2 s2
      generalize (l.drop 9).take 2 = B3 at v3 s3
      obtain ⟨M, hM⟩ : ∃ M, M = 12 + V := ⟨_, rfl⟩
      have s4 : ∀ w, (Instr.slice 9 (strOf l) (some (.int .i64 12)) (some (.int .i64 (M : Int))) none).run Try.prog w = .ok (strOf ((l.drop 12).take V)) w := fun w => str_mid l 12 V M (by omega) (by omega) w
      have hD : (l.drop 12).take V = (prtDec l).data := (data_lo l V hV1 h112).symm
      rw [hD] at s4
      have hDl : (prtDec l).data.length = V := by rw [← hD, List.length_take, List.length_drop]; omega
      have hc4 : ∀ W, ∃ C w', (convert 9 22 (strOf (prtDec l).data)).run Try.prog W = .ok (.slice (some ⟨W.heap.size, 0, none⟩) V C) w' ∧ V ≤ C ∧ Octs w' (some ⟨W.heap.size, 0, none⟩) (prtDec l).data ∧ Ext W w' := fun W => by
        obtain ⟨C, w', h1, h2, h3, h4⟩ := conv_octs (prtDec l).data W
        rw [hDl] at h1 h2
        exact ⟨C, w', h1, h2, h3, h4⟩
      obtain ⟨C4, F4, v4, g4⟩ : ∃ (C : World → Nat) (F : World → World), (∀ W, (convert 9 22 (strOf (prtDec l).data)).run Try.prog W = .ok (.slice (some ⟨W.heap.size, 0, none⟩) V (C W)) (F W)) ∧ ∀ W, V ≤ C W ∧ Octs (F W) (some ⟨W.heap.size, 0, none⟩) (prtDec l).data ∧ Ext W (F W) :=
        ⟨fun W => (hc4 W).choose, fun W => (hc4 W).choose_spec.choose, fun W => (hc4 W).choose_spec.choose_spec.1, fun W => (hc4 W).choose_spec.choose_spec.2⟩
      have hM1 : (12 : Int) + (V : Int) = (M : Int) := by omega
      have hM2 : IntKind.i64.wrap (M : Int) = (M : Int) := IntWalk.i64_in _ (by omega)
      have hV4 : IntKind.i64.wrap (V : Int) = (V : Int) := IntWalk.i64_in _ (by omega)
      have hV5 : ((112 : Int) < (V : Int)) = False := eq_false (by omega)
      have HD := Lib.hid hDl
      have HV := Lib.hid hV1
      have H128 := Lib.hid h128
      have hp0 := heap_alloc_new w (.cells (prtCells prt0 none 0 0) 24)
      have X0 := (Ext.refl w).alloc (.cells (prtCells prt0 none 0 0) 24)
      clear hc4 hD hDl hV hV1 hV2 hM hR h112
      go_enter Try.func15, Try.ntmps15
      go_wp2_with fail
      refine (g1 _ _ (by simp)).mono ?_
      rintro e w1 ⟨rfl, x1⟩
      have hq1 := x1.heap (heap_alloc2_new w (.cells (prtCells prt0 none 0 0) 24) (.cells (prtCells ({ prt0 with foot := numAt l 0 1 == 70 } : Prt) none 0 0) 24))
      have hp1 := x1.heap (heap_alloc2_old w (.cells (prtCells prt0 none 0 0) 24) (.cells (prtCells ({ prt0 with foot := numAt l 0 1 == 70 } : Prt) none 0 0) 24))
      have X1 := (((Ext.refl w).alloc (.cells (prtCells prt0 none 0 0) 24)).alloc (.cells (prtCells ({ prt0 with foot := numAt l 0 1 == 70 } : Prt) none 0 0) 24)).trans x1
      obtain ⟨q, hq⟩ : ∃ q, w.heap.size + 1 = q := ⟨_, rfl⟩
      have hpq : ¬ w.heap.size = q := by omega
      have hwq : w.heap.size ≤ q := by omega
      rw [hq] at hq1 ⊢
      have HQ := Lib.hid hq
      clear hq x1 hp0 X0
      obtain ⟨c0, c1, c2, c3, c4, cf⟩ := prt_cells hq1
      have hn1 := setQ1 hq1 (numAt l 1 4)
      have hm1 := ((Upd.refl (fun b => b = q) w1).setCell (p := ⟨q, 1, none⟩) (.inl rfl) (.int .i64 (numAt l 1 4))).heap hp1 hpq
      have Y1 := X1.setCell (p := ⟨q, 1, none⟩) hwq (.int .i64 (numAt l 1 4))
      go_wp2_with fail
      refine (g2 _ _ (by simp)).mono ?_
      rintro e w2 ⟨rfl, x2⟩
      have hq2 := x2.heap hn1
      have hp2 := x2.heap hm1
      have X2 := Y1.trans x2
      clear c0 c1 c2 c3 c4 cf hn1 hm1 Y1 x2 hq1 hp1 X1
      obtain ⟨c0, c1, c2, c3, c4, cf⟩ := prt_cells hq2
      have hn2 := setQ2 hq2 (numAt l 5 4)
      have hm2 := ((Upd.refl (fun b => b = q) w2).setCell (p := ⟨q, 2, none⟩) (.inl rfl) (.int .i64 (numAt l 5 4))).heap hp2 hpq
      have Y2 := X2.setCell (p := ⟨q, 2, none⟩) hwq (.int .i64 (numAt l 5 4))
      go_wp2_with fail
      refine (g3 _ _ (by simp)).mono ?_
      rintro e w3 ⟨rfl, x3⟩
      have hq3 := x3.heap hn2
      have hp3 := x3.heap hm2
      have X3 := Y2.trans x3
      clear c0 c1 c2 c3 c4 cf hn2 hm2 Y2 x3 hq2 hp2 X2
      obtain ⟨c0, c1, c2, c3, c4, cf⟩ := prt_cells hq3
      have hn3 := setQ3 hq3 (numAt l 9 2)
      have hm3 := ((Upd.refl (fun b => b = q) w3).setCell (p := ⟨q, 3, none⟩) (.inl rfl) (.int .i64 (numAt l 9 2))).heap hp3 hpq
      have Y3 := X3.setCell (p := ⟨q, 3, none⟩) hwq (.int .i64 (numAt l 9 2))
      obtain ⟨hC4, hO4, hE4⟩ := g4 (w3.setCell ⟨q, 3, none⟩ (.int .i64 (numAt l 9 2)))
      have hq4 := hE4.heap hn3
      have hp4 := hE4.heap hm3
      have X4 := Y3.trans hE4
      obtain ⟨d0, d1, d2, d3, d4, df⟩ := prt_cells hq4
      have szq : q < w3.heap.size := (Array.getElem?_eq_some_iff.1 hq3).1
      clear hn3 hm3 hq3 hp3 X3
      go_wp2_with fail
      have hO5 : Octs (F4 (w3.setCell ⟨q, 3, none⟩ (.int .i64 (numAt l 9 2)))) (some ⟨w3.heap.size, 0, none⟩) (prtDec l).data := by simpa using hO4
      generalize F4 (w3.setCell ⟨q, 3, none⟩ (.int .i64 (numAt l 9 2))) = wf at *
      generalize C4 (w3.setCell ⟨q, 3, none⟩ (.int .i64 (numAt l 9 2))) = cc at *
      have hq5 : (wf.setCell ⟨q, 4, none⟩ (.slice (some ⟨w3.heap.size, 0, none⟩) V cc)).heap[q]? = some (.cells (prtCells (prtDec l) (some ⟨w3.heap.size, 0, none⟩) V cc) 24 (0, 0)) := setPrt_data hq4 (some ⟨w3.heap.size, 0, none⟩) V cc (prtDec l).data
      have uq := (Upd.refl (fun b => b = q) wf).setCell (p := ⟨q, 4, none⟩) (.inl rfl) (.slice (some ⟨w3.heap.size, 0, none⟩) V cc)
      have hO6 := hO5.upd uq (fun a e => by cases e; show ¬ w3.heap.size = q; omega)
      have hp5 := uq.heap hp4 hpq
      have X5 := X4.setCell (p := ⟨q, 4, none⟩) hwq (.slice (some ⟨w3.heap.size, 0, none⟩) V cc)
      have NA : ¬ w3.heap.size = w.heap.size := by have := HQ.out; omega
      obtain ⟨za, hza⟩ : ∃ z, w3.heap.size = z := ⟨_, rfl⟩
      rw [hza] at hq5 hO6 hp5 X5 NA ⊢
      clear hO4 hO5 hE4 hq4 hp4 X4 uq d0 d1 d2 d3 d4 df hza c0 c1 c2 c3 c4 cf Y3 szq
      generalize wf.setCell ⟨q, 4, none⟩ (.slice (some ⟨za, 0, none⟩) V cc) = w5 at *
      refine (f17_prt (prtDec l) (some ⟨za, 0, none⟩) V cc _ HD.out).mono ?_
      rintro e w6 ⟨rfl, x6⟩
      have hq6 := x6.heap hq5
      have hp6 := x6.heap hp5
      have hO7 := hO6.ext x6
      have X6 := X5.trans x6
      clear hq5 hp5 hO6 X5 x6 v1 v2 v3 v4 s1 s2 s3 s4 g1 g2 g3 g4 i0 i11
      by_cases hr : prtRight (prtDec l)
      · rw [decide_eq_true hr]
        have HP := fun W (x : Ext w6 W) => f18_right (prtDec l) (some ⟨za, 0, none⟩) V cc W HD.out hr (hO7.ext x)
        obtain ⟨d0, d1, d2, d3, d4, df⟩ := prt_cells hq6
        by_cases he : prtPut (prtDec l) = l
        · have hg : R = some (prtDec l) := by
            rw [HG.out]
            unfold prtGet
            rw [if_pos ⟨H128.out, hr, he⟩]
          subst hg
          rw [he] at HP
          clear hr he
          go_wp2_with fail
          refine (HP _ (Ext.refl _)).mono ?_
          rintro e w7 ⟨rfl, x7⟩
          have hq7 := x7.heap hq6
          have hp7 := x7.heap hp6
          clear d0 d1 d2 d3 d4 df
          obtain ⟨d0, d1, d2, d3, d4, df⟩ := prt_cells hq7
          obtain ⟨j0, j1, j2, j3, j4, jf⟩ := prt_cells hp7
          go_wp2_with fail
          refine bodyPost_ret (ret_prt rfl _ _ w.heap.size (prtDec l) (some ⟨za, 0, none⟩) V cc true rfl (setPrt_heap hp7 (prtDec l) (some ⟨za, 0, none⟩) V cc) rfl) rfl ?_
          exact ⟨some ⟨za, 0, none⟩, V, cc, rfl, HD.out, hC4, (hO7.ext x7).upd (setPrt_upd _ _ _ _ _ _) (fun a e => by cases e; exact NA), setPrt_ext (X6.trans x7) (Nat.le_refl _) _ _ _ _⟩
        · have hg : R = none := by
            rw [HG.out]
            unfold prtGet
            rw [if_neg (fun e => he e.2.2)]
          subst hg
          have hne : (prtPut (prtDec l) == l) = false := beq_eq_false_iff_ne.2 he
          clear hr he
          generalize prtPut (prtDec l) = T at HP hne
          go_wp2_with fail
          refine (HP _ (Ext.refl _)).mono ?_
          rintro e w7 ⟨rfl, x7⟩
          have hp7 := x7.heap hp6
          obtain ⟨j0, j1, j2, j3, j4, jf⟩ := prt_cells hp7
          go_wp2_with fail
          refine bodyPost_ret (ret_prt rfl _ _ w.heap.size prt0 none 0 0 false rfl (setPrt_heap hp7 prt0 none 0 0) rfl) rfl ?_
          exact ⟨none, 0, 0, rfl, rfl, Nat.le_refl _, Octs.nil _ _, setPrt_ext (X6.trans x7) (Nat.le_refl _) prt0 none 0 0⟩
      · have hg : R = none := by
          rw [HG.out]
          unfold prtGet
          rw [if_neg (fun e => hr e.2.1)]
        subst hg
        rw [decide_eq_false hr]
        clear hr
        obtain ⟨j0, j1, j2, j3, j4, jf⟩ := prt_cells hp6
        go_wp2_with fail
        refine bodyPost_ret (ret_prt rfl _ _ w.heap.size prt0 none 0 0 false rfl (setPrt_heap hp6 prt0 none 0 0) rfl) rfl ?_
        exact ⟨none, 0, 0, rfl, rfl, Nat.le_refl _, Octs.nil _ _, setPrt_ext X6 (Nat.le_refl _) prt0 none 0 0⟩
    · rw [get_long l V hV1 h112]
      have hgt : ((112 : Int) < (V : Int)) = True := eq_true (by omega)
      have hsz : ((l.length : Int) == 128) = true := by simp; omega
      clear hV hV1 hV2 h112
      go_enter Try.func15, Try.ntmps15
      go_wp2_with fail
      refine bodyPost_ret (ret_prt rfl _ _ w.heap.size prt0 none 0 0 false rfl (heap_alloc_new w _) rfl) rfl ?_
      exact ⟨none, 0, 0, rfl, rfl, Nat.le_refl _, Octs.nil _ _, (Ext.refl w).alloc _⟩
  · rw [prt_short l h128]
    have hb : ((l.length : Int) == 128) = false := by simp; omega
    have hb2 : ((l.length : Int) = 128) = False := eq_false (by omega)
    clear h128
    go_enter Try.func15, Try.ntmps15
    go_wp2_with fail
    refine bodyPost_ret (ret_prt rfl _ _ w.heap.size prt0 none 0 0 false rfl (heap_alloc_new w _) rfl) rfl ?_
    exact ⟨none, 0, 0, rfl, rfl, Nat.le_refl _, Octs.nil _ _, (Ext.refl w).alloc _⟩
end Go.Proofs.Ytanmjmeabcloiaa
