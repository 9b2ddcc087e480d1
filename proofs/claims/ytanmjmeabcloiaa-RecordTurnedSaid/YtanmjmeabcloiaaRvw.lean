/- The document's Get of a part, and RecordParts' walk. -/
import Derived.Test.YtanmjmeabcloiaaRu
import Derived.Test.YtanmjmeabcloiaaRg
import Derived.Test.YtanmjmeabcloiaaSa
namespace Go.Proofs.Ytanmjmeabcloiaa
open Go.RowKit
open Go.Proofs

theorem put_len (p : Prt) (h : prtRight p) : numAt (prtPut p) 11 1 = (p.data.length : Int) := by
  have h7 := h.2.2.2.2.2.2
  have e : prtPut p = ([] ++ leN 1 (u64of (sgnOf p.foot)) ++ leN 4 (u64of p.epoch) ++ leN 4 (u64of p.number) ++ leN 2 (u64of p.index)) ++ (leN 1 (u64of (p.data.length : Int)) ++ (p.data ++ zer (112 - p.data.length) ++ Mb.le4 (Mb.crcSum (prtBody p)))) := by
    simp [prtPut, Mb.seal_, prtBody, prtHead]
  rw [e]
  exact num_num _ _ _ 11 1 (by simp only [List.length_append, length_leN, List.length_nil]) (by omega) (by simp only [Nat.reducePow]; omega) (by omega)
theorem get_long (l : List UInt8) (V : Nat) (hV : numAt l 11 1 = (V : Int)) (h : ¬ V ≤ 112) : prtGet l = none := by
  unfold prtGet
  rw [if_neg]
  rintro ⟨_, h2, h3⟩
  have h4 := put_len _ h2
  rw [h3, hV, data_hi l V hV h] at h4
  simp at h4
  omega
theorem numAt_one (l : List UInt8) (i : Nat) (h : i < l.length) : numAt l i 1 = ((l[i].toNat : Nat) : Int) := by
  have e : (l.drop i).take 1 = [l[i]] := by rw [List.drop_eq_getElem_cons h]; rfl
  have := l[i].toNat_lt
  rw [numAt, e, i64of_small _ (by simp [getN]; omega)]
  simp [getN]
theorem setQ1 {w : World} {q : Nat} {P : Prt} {A : Option Addr} {n c : Nat} (hb : w.heap[q]? = some (.cells (prtCells P A n c) 24 (0, 0))) (v : Int) : (w.setCell ⟨q, 1, none⟩ (.int .i64 v)).heap[q]? = some (.cells (prtCells { P with epoch := v } A n c) 24 (0, 0)) := by
  have h := heap_setCell_same w q 1 _ _ (.int .i64 v) hb
  simp only [prtCells, List.setIfInBounds_toArray, List.set_cons_succ, List.set_cons_zero] at h
  exact h
theorem setQ2 {w : World} {q : Nat} {P : Prt} {A : Option Addr} {n c : Nat} (hb : w.heap[q]? = some (.cells (prtCells P A n c) 24 (0, 0))) (v : Int) : (w.setCell ⟨q, 2, none⟩ (.int .i64 v)).heap[q]? = some (.cells (prtCells { P with number := v } A n c) 24 (0, 0)) := by
  have h := heap_setCell_same w q 2 _ _ (.int .i64 v) hb
  simp only [prtCells, List.setIfInBounds_toArray, List.set_cons_succ, List.set_cons_zero] at h
  exact h
theorem setQ3 {w : World} {q : Nat} {P : Prt} {A : Option Addr} {n c : Nat} (hb : w.heap[q]? = some (.cells (prtCells P A n c) 24 (0, 0))) (v : Int) : (w.setCell ⟨q, 3, none⟩ (.int .i64 v)).heap[q]? = some (.cells (prtCells { P with index := v } A n c) 24 (0, 0)) := by
  have h := heap_setCell_same w q 3 _ _ (.int .i64 v) hb
  simp only [prtCells, List.setIfInBounds_toArray, List.set_cons_succ, List.set_cons_zero] at h
  exact h
theorem str_at (l : List UInt8) (i : Nat) (h : i < l.length) (w : World) : (Instr.index 9 (strOf l) (.int .i64 (i : Int))).run Try.prog w = .ok (.int .u8 ((l[i].toNat : Nat) : Int)) w := by
  have e := run_index_string (P := Try.prog) w 9 ⟨l.toArray⟩ .i64 (i : Int) Try.underlying9
  rw [e, dif_pos ⟨by omega, by show (i : Int) < (l.toArray.size : Int); rw [List.size_toArray]; omega⟩]
  rfl

set_option maxRecDepth 100000 in
set_option maxHeartbeats 4000000 in
theorem f15_any (l : List UInt8) (w : World) :
    Calls Try.prog 15 #[strOf l] w fun e w' => ∃ A' m c', e = .returned (.tuple #[prtV ((prtGet l).getD prt0) A' m c', .bool (prtGet l).isSome]) ∧ ((prtGet l).getD prt0).data.length = m ∧ m ≤ c' ∧ Octs w' A' ((prtGet l).getD prt0).data ∧ Ext w w' := by
  by_cases h128 : l.length = 128
  · obtain ⟨V, hV⟩ : ∃ V : Nat, V = (l[11]'(by omega)).toNat := ⟨_, rfl⟩
    have hV1 : numAt l 11 1 = (V : Int) := by rw [numAt_one l 11 (by omega), hV]
    have hV2 : V < 256 := by rw [hV]; exact UInt8.toNat_lt _
    have i11 : ∀ w, (Instr.index 9 (strOf l) (.int .i64 11)).run Try.prog w = .ok (.int .u8 (V : Int)) w := fun w => by rw [hV]; exact str_at l 11 (by omega) w
    by_cases h112 : V ≤ 112
    · obtain ⟨R, hR⟩ : ∃ R, R = prtGet l := ⟨_, rfl⟩
      rw [← hR]
      have HG := Lib.hid hR
      have i0 : ∀ w, (Instr.index 9 (strOf l) (.int .i64 0)).run Try.prog w = .ok (.int .u8 (numAt l 0 1)) w := fun w => by rw [numAt_one l 0 (by omega)]; exact str_at l 0 (by omega) w
      obtain ⟨C1, F1, v1, g1⟩ := rget l 1 4 (by decide) (by omega)
      obtain ⟨C2, F2, v2, g2⟩ := rget l 5 4 (by decide) (by omega)
      obtain ⟨C3, F3, v3, g3⟩ := rget l 9 2 (by decide) (by omega)
      have s1 : ∀ w, (Instr.slice 9 (strOf l) (some (.int .i64 1)) (some (.int .i64 5)) none).run Try.prog w = .ok (strOf ((l.drop 1).take 4)) w := fun w => str_mid l 1 4 5 rfl (by omega) w
      have s2 : ∀ w, (Instr.slice 9 (strOf l) (some (.int .i64 5)) (some (.int .i64 9)) none).run Try.prog w = .ok (strOf ((l.drop 5).take 4)) w := fun w => str_mid l 5 4 9 rfl (by omega) w
      have s3 : ∀ w, (Instr.slice 9 (strOf l) (some (.int .i64 9)) (some (.int .i64 11)) none).run Try.prog w = .ok (strOf ((l.drop 9).take 2)) w := fun w => str_mid l 9 2 11 rfl (by omega) w
      generalize (l.drop 1).take 4 = B1 at v1 s1
      generalize (l.drop 5).take 4 = B2 at v2 s2
      generalize (l.drop 9).take 2 = B3 at v3 s3
      obtain ⟨M, hM⟩ : ∃ M, M = 12 + V := ⟨_, rfl⟩
      have s4 : ∀ w, (Instr.slice 9 (strOf l) (some (.int .i64 12)) (some (.int .i64 (M : Int))) none).run Try.prog w = .ok (strOf ((l.drop 12).take V)) w := fun w => str_mid l 12 V M (by omega) (by omega) w
      have hD : (l.drop 12).take V = (prtDec l).data := (data_lo l V hV1 h112).symm
      rw [hD] at s4
      have hDl : (prtDec l).data.length = V := by rw [← hD, List.length_take, List.length_drop]; omega
      have hc4 : ∀ W, ∃ C w', (convert 9 22 (strOf (prtDec l).data)).run Try.prog W = .ok (.slice (some ⟨W.heap.size, 0, none⟩) V C) w' ∧ V ≤ C ∧ Octs w' (some ⟨W.heap.size, 0, none⟩) (prtDec l).data ∧ Ext W w' := fun W => by
        obtain ⟨C, w', h1, h2, h3, h4⟩ := conv_octs (prtDec l).data W
        rw [hDl] at h1 h2
        exact ⟨C, w', h1, h2, h3, h4⟩
      obtain ⟨C4, F4, v4, g4⟩ : ∃ (C : World → Nat) (F : World → World), (∀ W, (convert 9 22 (strOf (prtDec l).data)).run Try.prog W = .ok (.slice (some ⟨W.heap.size, 0, none⟩) V (C W)) (F W)) ∧ ∀ W, V ≤ C W ∧ Octs (F W) (some ⟨W.heap.size, 0, none⟩) (prtDec l).data ∧ Ext W (F W) :=
        ⟨fun W => (hc4 W).choose, fun W => (hc4 W).choose_spec.choose, fun W => (hc4 W).choose_spec.choose_spec.1, fun W => (hc4 W).choose_spec.choose_spec.2⟩
      have hM1 : (12 : Int) + (V : Int) = (M : Int) := by omega
      have hM2 : IntKind.i64.wrap (M : Int) = (M : Int) := IntWalk.i64_in _ (by omega)
      have hV4 : IntKind.i64.wrap (V : Int) = (V : Int) := IntWalk.i64_in _ (by omega)
      have hV5 : ((112 : Int) < (V : Int)) = False := eq_false (by omega)
      have HD := Lib.hid hDl
      have HV := Lib.hid hV1
      have H128 := Lib.hid h128
      have hp0 := heap_alloc_new w (.cells (prtCells prt0 none 0 0) 24)
      have X0 := (Ext.refl w).alloc (.cells (prtCells prt0 none 0 0) 24)
      clear hc4 hD hDl hV hV1 hV2 hM hR h112
      go_enter Try.func15, Try.ntmps15
      go_wp2_with fail
      refine (g1 _ _ (by simp)).mono ?_
      rintro e w1 ⟨rfl, x1⟩
      have hq1 := x1.heap (heap_alloc2_new w (.cells (prtCells prt0 none 0 0) 24) (.cells (prtCells ({ prt0 with foot := numAt l 0 1 == 70 } : Prt) none 0 0) 24))
      have hp1 := x1.heap (heap_alloc2_old w (.cells (prtCells prt0 none 0 0) 24) (.cells (prtCells ({ prt0 with foot := numAt l 0 1 == 70 } : Prt) none 0 0) 24))
      have X1 := (((Ext.refl w).alloc (.cells (prtCells prt0 none 0 0) 24)).alloc (.cells (prtCells ({ prt0 with foot := numAt l 0 1 == 70 } : Prt) none 0 0) 24)).trans x1
      obtain ⟨q, hq⟩ : ∃ q, w.heap.size + 1 = q := ⟨_, rfl⟩
      have hpq : ¬ w.heap.size = q := by omega
      have hwq : w.heap.size ≤ q := by omega
      rw [hq] at hq1 ⊢
      have HQ := Lib.hid hq
      clear hq x1 hp0 X0
      obtain ⟨c0, c1, c2, c3, c4, cf⟩ := prt_cells hq1
      have hn1 := setQ1 hq1 (numAt l 1 4)
      have hm1 := ((Upd.refl (fun b => b = q) w1).setCell (p := ⟨q, 1, none⟩) (.inl rfl) (.int .i64 (numAt l 1 4))).heap hp1 hpq
      have Y1 := X1.setCell (p := ⟨q, 1, none⟩) hwq (.int .i64 (numAt l 1 4))
      go_wp2_with fail
      refine (g2 _ _ (by simp)).mono ?_
      rintro e w2 ⟨rfl, x2⟩
      have hq2 := x2.heap hn1
      have hp2 := x2.heap hm1
      have X2 := Y1.trans x2
      clear c0 c1 c2 c3 c4 cf hn1 hm1 Y1 x2 hq1 hp1 X1
      obtain ⟨c0, c1, c2, c3, c4, cf⟩ := prt_cells hq2
      have hn2 := setQ2 hq2 (numAt l 5 4)
      have hm2 := ((Upd.refl (fun b => b = q) w2).setCell (p := ⟨q, 2, none⟩) (.inl rfl) (.int .i64 (numAt l 5 4))).heap hp2 hpq
      have Y2 := X2.setCell (p := ⟨q, 2, none⟩) hwq (.int .i64 (numAt l 5 4))
      go_wp2_with fail
      refine (g3 _ _ (by simp)).mono ?_
      rintro e w3 ⟨rfl, x3⟩
      have hq3 := x3.heap hn2
      have hp3 := x3.heap hm2
      have X3 := Y2.trans x3
      clear c0 c1 c2 c3 c4 cf hn2 hm2 Y2 x3 hq2 hp2 X2
      obtain ⟨c0, c1, c2, c3, c4, cf⟩ := prt_cells hq3
      have hn3 := setQ3 hq3 (numAt l 9 2)
      have hm3 := ((Upd.refl (fun b => b = q) w3).setCell (p := ⟨q, 3, none⟩) (.inl rfl) (.int .i64 (numAt l 9 2))).heap hp3 hpq
      have Y3 := X3.setCell (p := ⟨q, 3, none⟩) hwq (.int .i64 (numAt l 9 2))
      obtain ⟨hC4, hO4, hE4⟩ := g4 (w3.setCell ⟨q, 3, none⟩ (.int .i64 (numAt l 9 2)))
      have hq4 := hE4.heap hn3
      have hp4 := hE4.heap hm3
      have X4 := Y3.trans hE4
      obtain ⟨d0, d1, d2, d3, d4, df⟩ := prt_cells hq4
      have szq : q < w3.heap.size := (Array.getElem?_eq_some_iff.1 hq3).1
      clear hn3 hm3 hq3 hp3 X3
      go_wp2_with fail
      have hO5 : Octs (F4 (w3.setCell ⟨q, 3, none⟩ (.int .i64 (numAt l 9 2)))) (some ⟨w3.heap.size, 0, none⟩) (prtDec l).data := by simpa using hO4
      generalize F4 (w3.setCell ⟨q, 3, none⟩ (.int .i64 (numAt l 9 2))) = wf at *
      generalize C4 (w3.setCell ⟨q, 3, none⟩ (.int .i64 (numAt l 9 2))) = cc at *
      have hq5 : (wf.setCell ⟨q, 4, none⟩ (.slice (some ⟨w3.heap.size, 0, none⟩) V cc)).heap[q]? = some (.cells (prtCells (prtDec l) (some ⟨w3.heap.size, 0, none⟩) V cc) 24 (0, 0)) := setPrt_data hq4 (some ⟨w3.heap.size, 0, none⟩) V cc (prtDec l).data
      have uq := (Upd.refl (fun b => b = q) wf).setCell (p := ⟨q, 4, none⟩) (.inl rfl) (.slice (some ⟨w3.heap.size, 0, none⟩) V cc)
      have hO6 := hO5.upd uq (fun a e => by cases e; show ¬ w3.heap.size = q; omega)
      have hp5 := uq.heap hp4 hpq
      have X5 := X4.setCell (p := ⟨q, 4, none⟩) hwq (.slice (some ⟨w3.heap.size, 0, none⟩) V cc)
      have NA : ¬ w3.heap.size = w.heap.size := by have := HQ.out; omega
      obtain ⟨za, hza⟩ : ∃ z, w3.heap.size = z := ⟨_, rfl⟩
      rw [hza] at hq5 hO6 hp5 X5 NA ⊢
      clear hO4 hO5 hE4 hq4 hp4 X4 uq d0 d1 d2 d3 d4 df hza c0 c1 c2 c3 c4 cf Y3 szq
      generalize wf.setCell ⟨q, 4, none⟩ (.slice (some ⟨za, 0, none⟩) V cc) = w5 at *
      refine (f17_prt (prtDec l) (some ⟨za, 0, none⟩) V cc _ HD.out).mono ?_
      rintro e w6 ⟨rfl, x6⟩
      have hq6 := x6.heap hq5
      have hp6 := x6.heap hp5
      have hO7 := hO6.ext x6
      have X6 := X5.trans x6
      clear hq5 hp5 hO6 X5 x6 v1 v2 v3 v4 s1 s2 s3 s4 g1 g2 g3 g4 i0 i11
      by_cases hr : prtRight (prtDec l)
      · rw [decide_eq_true hr]
        have HP := fun W (x : Ext w6 W) => f18_right (prtDec l) (some ⟨za, 0, none⟩) V cc W HD.out hr (hO7.ext x)
        obtain ⟨d0, d1, d2, d3, d4, df⟩ := prt_cells hq6
        by_cases he : prtPut (prtDec l) = l
        · have hg : R = some (prtDec l) := by
            rw [HG.out]
            unfold prtGet
            rw [if_pos ⟨H128.out, hr, he⟩]
          subst hg
          rw [he] at HP
          clear hr he
          go_wp2_with fail
          refine (HP _ (Ext.refl _)).mono ?_
          rintro e w7 ⟨rfl, x7⟩
          have hq7 := x7.heap hq6
          have hp7 := x7.heap hp6
          clear d0 d1 d2 d3 d4 df
          obtain ⟨d0, d1, d2, d3, d4, df⟩ := prt_cells hq7
          obtain ⟨j0, j1, j2, j3, j4, jf⟩ := prt_cells hp7
          go_wp2_with fail
          refine bodyPost_ret (ret_prt rfl _ _ w.heap.size (prtDec l) (some ⟨za, 0, none⟩) V cc true rfl (setPrt_heap hp7 (prtDec l) (some ⟨za, 0, none⟩) V cc) rfl) rfl ?_
          exact ⟨some ⟨za, 0, none⟩, V, cc, rfl, HD.out, hC4, (hO7.ext x7).upd (setPrt_upd _ _ _ _ _ _) (fun a e => by cases e; exact NA), setPrt_ext (X6.trans x7) (Nat.le_refl _) _ _ _ _⟩
        · have hg : R = none := by
            rw [HG.out]
            unfold prtGet
            rw [if_neg (fun e => he e.2.2)]
          subst hg
          have hne : (prtPut (prtDec l) == l) = false := beq_eq_false_iff_ne.2 he
          clear hr he
          generalize prtPut (prtDec l) = T at HP hne
          go_wp2_with fail
          refine (HP _ (Ext.refl _)).mono ?_
          rintro e w7 ⟨rfl, x7⟩
          have hp7 := x7.heap hp6
          obtain ⟨j0, j1, j2, j3, j4, jf⟩ := prt_cells hp7
          go_wp2_with fail
          refine bodyPost_ret (ret_prt rfl _ _ w.heap.size prt0 none 0 0 false rfl (setPrt_heap hp7 prt0 none 0 0) rfl) rfl ?_
          exact ⟨none, 0, 0, rfl, rfl, Nat.le_refl _, Octs.nil _ _, setPrt_ext (X6.trans x7) (Nat.le_refl _) prt0 none 0 0⟩
      · have hg : R = none := by
          rw [HG.out]
          unfold prtGet
          rw [if_neg (fun e => hr e.2.1)]
        subst hg
        rw [decide_eq_false hr]
        clear hr
        obtain ⟨j0, j1, j2, j3, j4, jf⟩ := prt_cells hp6
        go_wp2_with fail
        refine bodyPost_ret (ret_prt rfl _ _ w.heap.size prt0 none 0 0 false rfl (setPrt_heap hp6 prt0 none 0 0) rfl) rfl ?_
        exact ⟨none, 0, 0, rfl, rfl, Nat.le_refl _, Octs.nil _ _, setPrt_ext X6 (Nat.le_refl _) prt0 none 0 0⟩
    · rw [get_long l V hV1 h112]
      have hgt : ((112 : Int) < (V : Int)) = True := eq_true (by omega)
      have hsz : ((l.length : Int) == 128) = true := by simp; omega
      clear hV hV1 hV2 h112
      go_enter Try.func15, Try.ntmps15
      go_wp2_with fail
      refine bodyPost_ret (ret_prt rfl _ _ w.heap.size prt0 none 0 0 false rfl (heap_alloc_new w _) rfl) rfl ?_
      exact ⟨none, 0, 0, rfl, rfl, Nat.le_refl _, Octs.nil _ _, (Ext.refl w).alloc _⟩
  · rw [prt_short l h128]
    have hb : ((l.length : Int) == 128) = false := by simp; omega
    have hb2 : ((l.length : Int) = 128) = False := eq_false (by omega)
    clear h128
    go_enter Try.func15, Try.ntmps15
    go_wp2_with fail
    refine bodyPost_ret (ret_prt rfl _ _ w.heap.size prt0 none 0 0 false rfl (heap_alloc_new w _) rfl) rfl ?_
    exact ⟨none, 0, 0, rfl, rfl, Nat.le_refl _, Octs.nil _ _, (Ext.refl w).alloc _⟩
end Go.Proofs.Ytanmjmeabcloiaa
namespace Go.Proofs.Ytanmjmeabcloiaa
open Go.RowKit
open Go.Proofs

theorem dec_prt (p : Prt) (h : prtRight p) : prtDec (prtPut p) = p := by
  obtain ⟨foot, epoch, number, index, data⟩ := p
  have hl := put_len _ h
  obtain ⟨a1, a2, a3, a4, a5, a6, a7⟩ := h
  simp only at a1 a2 a3 a4 a5 a6 a7 hl
  have e : prtPut ⟨foot, epoch, number, index, data⟩ = [] ++ (leN 1 (u64of (sgnOf foot)) ++ (leN 4 (u64of epoch) ++ (leN 4 (u64of number) ++ (leN 2 (u64of index) ++ (leN 1 (u64of (data.length : Int)) ++ (data ++ (zer (112 - data.length) ++ Mb.le4 (Mb.crcSum (prtBody ⟨foot, epoch, number, index, data⟩))))))))) := by
    simp [prtPut, Mb.seal_, prtBody, prtHead]
  generalize zer (112 - data.length) ++ Mb.le4 (Mb.crcSum (prtBody ⟨foot, epoch, number, index, data⟩)) = T at e
  have g (p q r x : List UInt8) : p ++ (q ++ (r ++ x)) = (p ++ q) ++ (r ++ x) := by simp
  have e1 := e
  have e2 := e1; rw [g] at e2
  have e3 := e2; rw [g] at e3
  have e4 := e3; rw [g] at e4
  have e5 := e4; rw [g] at e5
  have e6 := e5; rw [g] at e6
  unfold prtDec
  rw [hl, if_pos (by omega)]
  congr 1
  · rw [e1, num_num _ _ _ _ _ (show ([] : List UInt8).length = 0 from rfl) (by cases foot <;> decide) (by cases foot <;> decide) (by cases foot <;> decide)]
    cases foot <;> rfl
  · rw [e2, num_num _ _ _ _ _ (by simp [length_leN]) (by omega) (by simp only [Nat.reducePow]; omega) (by omega)]
  · rw [e3, num_num _ _ _ _ _ (by simp [length_leN]) (by omega) (by simp only [Nat.reducePow]; omega) (by omega)]
  · rw [e4, num_num _ _ _ _ _ (by simp [length_leN]) (by omega) (by simp only [Nat.reducePow]; omega) (by omega)]
  · rw [e6, num_mid _ _ _ 12 _ (by simp [length_leN]) (by simp)]
theorem get_prt (p : Prt) (h : prtRight p) : prtGet (prtPut p) = some p := by
  unfold prtGet
  rw [dec_prt p h, if_pos ⟨length_prtPut p h, h, rfl⟩]

set_option maxRecDepth 100000 in
set_option maxHeartbeats 4000000 in
theorem f3_right (p : Prt) (A B : Option Addr) (l : List UInt8) (n c nb cb : Nat) (w : World) (hn : p.data.length = n) (hl : l.length = nb) (hcb : nb ≤ cb) (h300 : n ≤ 300) (h301 : nb ≤ 300) (hx : Octs w A p.data) (hz : Octs w B l) (hr : prtRight p) :
    Calls Try.prog 3 #[prtV p A n c, .slice B nb cb] w fun e w' => e = .returned (.bool true) ∧ Ext w w' := by
  have G14 := fun A3 c3 W => f14_any A3 l nb c3 W hl (by omega)
  have G15 := fun W => f15_any l W
  generalize (prtGet l).getD prt0 = D at G14 G15
  generalize (prtGet l).isSome = f at G14 G15
  have HN := Lib.hid hn
  have HL := Lib.hid hl
  have HCB := Lib.hid hcb
  have H300 := Lib.hid h301
  have g1 : ((300 : Int) < (n : Int)) = False := eq_false (by omega)
  have g2 : ((300 : Int) < (nb : Int)) = False := eq_false (by omega)
  clear hn hl hcb h300 h301
  go_enter Try.func3, Try.ntmps3
  go_wp2_with fail
  refine (awake06_any _).mono ?_
  rintro e w0 ⟨rfl, rfl⟩
  have hb := heap_alloc_new w (.cells (prtCells p A n c) 24)
  have X1 : Ext w (w.alloc (.cells (prtCells p A n c) 24)) := (Ext.refl w).alloc _
  have y1 := hx.alloc (.cells (prtCells p A n c) 24)
  have z1 := hz.alloc (.cells (prtCells p A n c) 24)
  obtain ⟨q, hq⟩ : ∃ q, w.heap.size = q := ⟨_, rfl⟩
  rw [hq] at hb ⊢
  have HQ := Lib.hid hq
  clear hq hx hz
  generalize w.alloc (.cells (prtCells p A n c) 24) = w1 at *
  obtain ⟨c0, c1, c2, c3, c4, cf⟩ := prt_cells hb
  go_wp2_with fail
  refine (f13_right p A n c _ HN.out hr y1).mono ?_
  rintro e w2 ⟨v2, rfl, o2, x2⟩
  obtain ⟨A2, c2', rfl, k2, yp⟩ := o2.octs_form
  rw [length_prtPut p hr] at k2 ⊢
  have hb2 := x2.heap hb
  have X2 := X1.trans x2
  have y2 := y1.ext x2
  have z2 := z1.ext x2
  clear c0 c1 c2 c3 c4 cf hb X1 y1 z1
  go_wp2_with (first
    | (at_builtin; refine wpList_up0 rfl (.tmp 33) (.tmp 34) rfl rfl _ rfl rfl B nb cb l rfl HL.out z2 (by rw [HL.out]; have := H300.out; omega) ?_; intro v3 w3 u3 x3; obtain ⟨A3, c3, rfl, k3, _, z3⟩ := u3.form; rw [HL.out] at k3 ⊢)
    | (at_builtin; fail)
    | fail)
  refine (G14 A3 c3 _ k3 z3).mono ?_
  rintro e w4 ⟨A4, m4, c4, rfl, l4, k4, y4, x4⟩
  have e4 : Ext w2 (w4.alloc (.cells (prtCells D A4 m4 c4) 24)) := (x3.trans x4).alloc _
  have hd := heap_alloc_new w4 (.cells (prtCells D A4 m4 c4) 24)
  have kk := conv_str B l nb cb (w4.alloc (.cells (prtCells D A4 m4 c4) 24)) HL.out (z2.ext e4)
  simp only [prtCells] at kk
  go_wp2_with fail
  refine (G15 _).mono ?_
  rintro e w5 ⟨A5, m5, c5, rfl, l5, k5, y5, x5⟩
  have hq4 := x5.heap hd
  have e5 : Ext w2 (w5.alloc (.cells (prtCells D A5 m5 c5) 24)) := e4.trans (x5.alloc _)
  have e45 : Ext (w4.alloc (.cells (prtCells D A4 m4 c4) 24)) (w5.alloc (.cells (prtCells D A5 m5 c5) 24)) := x5.alloc _
  have hd4 := e45.heap hd
  have hd5 := heap_alloc_new w5 (.cells (prtCells D A5 m5 c5) 24)
  have hb5 := e5.heap hb2
  have y44 := (y4.ext ((Ext.refl w4).alloc (.cells (prtCells D A4 m4 c4) 24))).ext e45
  have y55 := y5.ext ((Ext.refl w5).alloc (.cells (prtCells D A5 m5 c5) 24))
  have y25 := y2.ext e5
  have X5 := X2.trans e5
  have lt4 := block_lt_of_cell (prt_cells hd4).1
  simp only at lt4
  obtain ⟨i0, i1, i2, i3, i4, jf⟩ := prt_cells hd4
  clear kk hq4 z2 x3 x4 x5 y4 y5 e4
  have H16 := f16_any D D A4 A5 m4 m5 c4 c5 (w5.alloc (.cells (prtCells D A5 m5 c5) 24)) l4 l5 y44 y55
  rw [decide_eq_true rfl] at H16
  simp only [prtCells] at i0 i1 i2 i3 i4 jf
  go_wp2_with fail
  refine H16.mono ?_
  rintro e w6 ⟨rfl, x6⟩
  have hb6 := x6.heap hb5
  have y26 := y25.ext x6
  have yp6 := yp.ext (e5.trans x6)
  have X6 := X5.trans x6
  clear H16 i0 i1 i2 i3 i4 jf hd4 hd5 y44 y55 lt4 e45
  obtain ⟨c0, c1, c2, cc3, cc4, cf⟩ := prt_cells hb6
  go_wp2_with fail
  have H17 := f17_prt p A n c w6 HN.out
  rw [decide_eq_true hr] at H17
  refine H17.mono ?_
  rintro e w7 ⟨rfl, x7⟩
  have yp7 := yp6.ext x7
  have lpp := length_prtPut p hr
  go_wp2_with fail
  have HG := f14_any A2 (prtPut p) 128 c2' w7 lpp (by decide) k2 yp7
  rw [get_prt p hr] at HG
  refine HG.mono ?_
  rintro e w8 ⟨A8, m8, c8, rfl, l8, k8, y8, x8⟩
  have e8 : Ext w6 (w8.alloc (.cells (prtCells p A8 m8 c8) 24)) := x7.trans (x8.alloc _)
  have h8 := heap_alloc_new w8 (.cells (prtCells p A8 m8 c8) 24)
  have b8 := e8.heap hb6
  have y28 := y26.ext e8
  have yp8 := yp6.ext e8
  have y88 := y8.alloc (.cells (prtCells p A8 m8 c8) 24)
  have X8 := X6.trans e8
  clear HG c0 c1 c2 cc3 cc4 cf x7 x8 yp7 yp6 y26 y8
  go_wp2_with fail
  obtain ⟨q8, hq8⟩ : ∃ z, w8.heap.size = z := ⟨_, rfl⟩
  rw [hq8] at h8 ⊢
  clear hq8
  change Octs (w8.alloc (.cells #[.bool p.foot, .int .i64 p.epoch, .int .i64 p.number, .int .i64 p.index, .slice A8 m8 c8] 24)) _ _ at y88
  simp only [prtCells] at e8 h8 b8 y28 yp8 X8
  generalize w8.alloc (.cells #[.bool p.foot, .int .i64 p.epoch, .int .i64 p.number, .int .i64 p.index, .slice A8 m8 c8] 24) = w9 at *
  refine wp_region_held_drew (S := fun w' => Ext w9 w') (by kernel_rfl) ((Ext.refl _).drew) (fun hS => ?_)
  refine takeH (i := 0) (v := ?_) rfl rfl (by kernel_rfl) (by kernel_rfl) (by kernel_rfl) (fun _ _ _ h => h) (Or.inl ⟨by kernel_rfl, ?_⟩) hS ?_
  rotate_left 1
  · (intro w' hS'; go_simp; try (with_reducible rfl))
  simp only [List.setIfInBounds_toArray, List.set_cons_succ, List.set_cons_zero]
  refine takeH (i := 1) (v := ?_) rfl rfl (by kernel_rfl) (by kernel_rfl) (by kernel_rfl) (fun _ _ _ h => h) (Or.inl ⟨by kernel_rfl, ?_⟩) hS ?_
  rotate_left 1
  · (intro w' hS'; go_simp; try (with_reducible rfl))
  simp only [List.setIfInBounds_toArray, List.set_cons_succ, List.set_cons_zero]
  refine takeH (i := 2) (v := ?_) rfl rfl (by kernel_rfl) (by kernel_rfl) (by kernel_rfl) (fun _ _ _ h => h) (Or.inl ⟨by kernel_rfl, ?_⟩) hS ?_
  rotate_left 1
  · (intro w' hS'; go_simp; try (with_reducible rfl))
  simp only [List.setIfInBounds_toArray, List.set_cons_succ, List.set_cons_zero]
  refine takeH (i := 3) (v := ?_) rfl rfl (by kernel_rfl) (by kernel_rfl) (by kernel_rfl) (fun _ _ _ h => h) (Or.inl ⟨by kernel_rfl, ?_⟩) hS ?_
  rotate_left 1
  · (intro w' hS'; go_simp; try (with_reducible rfl))
  simp only [List.setIfInBounds_toArray, List.set_cons_succ, List.set_cons_zero]
  refine takeH (i := 4) (v := ?_) rfl rfl (by kernel_rfl) (by kernel_rfl) (by kernel_rfl) (fun _ _ _ h => h) (Or.inl ⟨by kernel_rfl, ?_⟩) hS ?_
  rotate_left 1
  · (intro w' hS'; have k4 := conv_str A2 (prtPut p) 128 c2' w' lpp (yp8.ext hS'); go_simp; try (with_reducible rfl))
  simp only [List.setIfInBounds_toArray, List.set_cons_succ, List.set_cons_zero]
  refine takeH (i := 5) (v := ?_) rfl rfl (by kernel_rfl) (by kernel_rfl) (by kernel_rfl) (fun _ _ _ h => h) (Or.inl ⟨by kernel_rfl, ?_⟩) hS ?_
  rotate_left 1
  · (intro w' hS'; obtain ⟨c0, c1, c2, cc3, cc4, cf⟩ := prt_cells (p := p) (A := A) (n := n) (c := c) (hS'.heap b8); go_simp; try (with_reducible rfl))
  simp only [List.setIfInBounds_toArray, List.set_cons_succ, List.set_cons_zero]
  refine wpAnyH_ready (rs := [6]) (by kernel_rfl) (by simp) ?_
  refine AllReadyH.cons rfl (fun K hK => ?_) ?_
  rotate_left 1
  · exact AllReadyH.nil
  go_simp
  refine (f18_right p A n c _ HN.out hr (y28.ext hS)).mono ?_; rintro e w10 ⟨rfl, x10⟩
  refine hK.out _ _ (hS.trans x10) (fun hS => ?_)
  clear hK K
  refine takeH (i := 7) (v := ?_) rfl rfl (by kernel_rfl) (by kernel_rfl) (by kernel_rfl) (fun _ _ _ h => h) (Or.inl ⟨by kernel_rfl, ?_⟩) hS ?_
  rotate_left 1
  · (intro w' hS'; go_simp; try (with_reducible rfl))
  simp only [List.setIfInBounds_toArray, List.set_cons_succ, List.set_cons_zero]
  refine takeH (i := 8) (v := ?_) rfl rfl (by kernel_rfl) (by kernel_rfl) (by kernel_rfl) (fun _ _ _ h => h) (Or.inl ⟨by kernel_rfl, ?_⟩) hS ?_
  rotate_left 1
  · (intro w' hS'; go_simp; try (with_reducible rfl))
  simp only [List.setIfInBounds_toArray, List.set_cons_succ, List.set_cons_zero]
  refine takeH (i := 9) (v := ?_) rfl rfl (by kernel_rfl) (by kernel_rfl) (by kernel_rfl) (fun _ _ _ h => h) (Or.inl ⟨by kernel_rfl, ?_⟩) hS ?_
  rotate_left 1
  · (intro w' hS'; go_simp; try (with_reducible rfl))
  simp only [List.setIfInBounds_toArray, List.set_cons_succ, List.set_cons_zero]
  refine takeH (i := 10) (v := ?_) rfl rfl (by kernel_rfl) (by kernel_rfl) (by kernel_rfl) (fun _ _ _ h => h) (Or.inl ⟨by kernel_rfl, ?_⟩) hS ?_
  rotate_left 1
  · (intro w' hS'; go_simp; try (with_reducible rfl))
  simp only [List.setIfInBounds_toArray, List.set_cons_succ, List.set_cons_zero]
  refine takeH (i := 11) (v := ?_) rfl rfl (by kernel_rfl) (by kernel_rfl) (by kernel_rfl) (fun _ _ _ h => h) (Or.inl ⟨by kernel_rfl, ?_⟩) hS ?_
  rotate_left 1
  · (intro w' hS'; go_simp; try (with_reducible rfl))
  simp only [List.setIfInBounds_toArray, List.set_cons_succ, List.set_cons_zero]
  refine takeH (i := 12) (v := ?_) rfl rfl (by kernel_rfl) (by kernel_rfl) (by kernel_rfl) (fun _ _ _ h => h) (Or.inl ⟨by kernel_rfl, ?_⟩) hS ?_
  rotate_left 1
  · (intro w' hS'; go_simp; try (with_reducible rfl))
  simp only [List.setIfInBounds_toArray, List.set_cons_succ, List.set_cons_zero]
  refine takeH (i := 13) (v := ?_) rfl rfl (by kernel_rfl) (by kernel_rfl) (by kernel_rfl) (fun _ _ _ h => h) (Or.inl ⟨by kernel_rfl, ?_⟩) hS ?_
  rotate_left 1
  · (intro w' hS'; obtain ⟨c0, c1, c2, cc3, cc4, cf⟩ := prt_cells (p := p) (A := A8) (n := m8) (c := c8) (hS'.heap h8); go_simp; try (with_reducible rfl))
  simp only [List.setIfInBounds_toArray, List.set_cons_succ, List.set_cons_zero]
  refine takeH (i := 14) (v := ?_) rfl rfl (by kernel_rfl) (by kernel_rfl) (by kernel_rfl) (fun _ _ _ h => h) (Or.inl ⟨by kernel_rfl, ?_⟩) hS ?_
  rotate_left 1
  · (intro w' hS'; obtain ⟨c0, c1, c2, cc3, cc4, cf⟩ := prt_cells (p := p) (A := A) (n := n) (c := c) (hS'.heap b8); go_simp; try (with_reducible rfl))
  simp only [List.setIfInBounds_toArray, List.set_cons_succ, List.set_cons_zero]
  refine wpAnyH_ready (rs := [15]) (by kernel_rfl) (by simp) ?_
  refine AllReadyH.cons rfl (fun K hK => ?_) ?_
  rotate_left 1
  · exact AllReadyH.nil
  go_simp
  have HS := f16_any p p A8 A m8 n c8 c _ l8 HN.out (y88.ext hS) (y28.ext hS); rw [decide_eq_true rfl] at HS; refine HS.mono ?_; rintro e w11 ⟨rfl, x11⟩
  refine hK.out _ _ (hS.trans x11) (fun hS => ?_)
  clear hK K
  refine takeH (i := 16) (v := ?_) rfl rfl (by kernel_rfl) (by kernel_rfl) (by kernel_rfl) (fun _ _ _ h => h) (Or.inl ⟨by kernel_rfl, ?_⟩) hS ?_
  rotate_left 1
  · (intro w' hS'; go_simp; try (with_reducible rfl))
  simp only [List.setIfInBounds_toArray, List.set_cons_succ, List.set_cons_zero]
  refine takeH (i := 17) (v := ?_) rfl rfl (by kernel_rfl) (by kernel_rfl) (by kernel_rfl) (fun _ _ _ h => h) (Or.inl ⟨by kernel_rfl, ?_⟩) hS ?_
  rotate_left 1
  · (intro w' hS'; go_simp; try (with_reducible rfl))
  simp only [List.setIfInBounds_toArray, List.set_cons_succ, List.set_cons_zero]
  refine wpAnyH_done (by kernel_rfl) ?_ _
  go_wp2_with fail
  go_ret
  exact ⟨rfl, X8.trans hS⟩

set_option maxRecDepth 100000 in
set_option maxHeartbeats 4000000 in
theorem f3_wrong (p : Prt) (A B : Option Addr) (l : List UInt8) (n c nb cb : Nat) (w : World) (hn : p.data.length = n) (hl : l.length = nb) (hcb : nb ≤ cb) (h300 : n ≤ 300) (h301 : nb ≤ 300) (hx : Octs w A p.data) (hz : Octs w B l) (hr : ¬ prtRight p) :
    Calls Try.prog 3 #[prtV p A n c, .slice B nb cb] w fun e w' => e = .returned (.bool true) ∧ Ext w w' := by
  have G14 := fun A3 c3 W => f14_any A3 l nb c3 W hl (by omega)
  have G15 := fun W => f15_any l W
  generalize (prtGet l).getD prt0 = D at G14 G15
  generalize (prtGet l).isSome = f at G14 G15
  have HN := Lib.hid hn
  have HL := Lib.hid hl
  have HCB := Lib.hid hcb
  have H300 := Lib.hid h301
  have g1 : ((300 : Int) < (n : Int)) = False := eq_false (by omega)
  have g2 : ((300 : Int) < (nb : Int)) = False := eq_false (by omega)
  clear hn hl hcb h300 h301
  go_enter Try.func3, Try.ntmps3
  go_wp2_with fail
  refine (awake06_any _).mono ?_
  rintro e w0 ⟨rfl, rfl⟩
  have hb := heap_alloc_new w (.cells (prtCells p A n c) 24)
  have X1 : Ext w (w.alloc (.cells (prtCells p A n c) 24)) := (Ext.refl w).alloc _
  have y1 := hx.alloc (.cells (prtCells p A n c) 24)
  have z1 := hz.alloc (.cells (prtCells p A n c) 24)
  obtain ⟨q, hq⟩ : ∃ q, w.heap.size = q := ⟨_, rfl⟩
  rw [hq] at hb ⊢
  have HQ := Lib.hid hq
  clear hq hx hz
  generalize w.alloc (.cells (prtCells p A n c) 24) = w1 at *
  obtain ⟨c0, c1, c2, c3, c4, cf⟩ := prt_cells hb
  go_wp2_with fail
  refine (f13_wrong p A n c _ HN.out hr).mono ?_
  rintro e w2 ⟨rfl, x2⟩
  have hb2 := x2.heap hb
  have X2 := X1.trans x2
  have y2 := y1.ext x2
  have z2 := z1.ext x2
  clear c0 c1 c2 c3 c4 cf hb X1 y1 z1
  go_wp2_with (first
    | (at_builtin; refine wpList_up0 rfl (.tmp 33) (.tmp 34) rfl rfl _ rfl rfl B nb cb l rfl HL.out z2 (by rw [HL.out]; have := H300.out; omega) ?_; intro v3 w3 u3 x3; obtain ⟨A3, c3, rfl, k3, _, z3⟩ := u3.form; rw [HL.out] at k3 ⊢)
    | (at_builtin; fail)
    | fail)
  refine (G14 A3 c3 _ k3 z3).mono ?_
  rintro e w4 ⟨A4, m4, c4, rfl, l4, k4, y4, x4⟩
  have e4 : Ext w2 (w4.alloc (.cells (prtCells D A4 m4 c4) 24)) := (x3.trans x4).alloc _
  have hd := heap_alloc_new w4 (.cells (prtCells D A4 m4 c4) 24)
  have kk := conv_str B l nb cb (w4.alloc (.cells (prtCells D A4 m4 c4) 24)) HL.out (z2.ext e4)
  simp only [prtCells] at kk
  go_wp2_with fail
  refine (G15 _).mono ?_
  rintro e w5 ⟨A5, m5, c5, rfl, l5, k5, y5, x5⟩
  have hq4 := x5.heap hd
  have e5 : Ext w2 (w5.alloc (.cells (prtCells D A5 m5 c5) 24)) := e4.trans (x5.alloc _)
  have e45 : Ext (w4.alloc (.cells (prtCells D A4 m4 c4) 24)) (w5.alloc (.cells (prtCells D A5 m5 c5) 24)) := x5.alloc _
  have hd4 := e45.heap hd
  have hd5 := heap_alloc_new w5 (.cells (prtCells D A5 m5 c5) 24)
  have hb5 := e5.heap hb2
  have y44 := (y4.ext ((Ext.refl w4).alloc (.cells (prtCells D A4 m4 c4) 24))).ext e45
  have y55 := y5.ext ((Ext.refl w5).alloc (.cells (prtCells D A5 m5 c5) 24))
  have y25 := y2.ext e5
  have X5 := X2.trans e5
  have lt4 := block_lt_of_cell (prt_cells hd4).1
  simp only at lt4
  obtain ⟨i0, i1, i2, i3, i4, jf⟩ := prt_cells hd4
  clear kk hq4 z2 x3 x4 x5 y4 y5 e4
  have H16 := f16_any D D A4 A5 m4 m5 c4 c5 (w5.alloc (.cells (prtCells D A5 m5 c5) 24)) l4 l5 y44 y55
  rw [decide_eq_true rfl] at H16
  simp only [prtCells] at i0 i1 i2 i3 i4 jf
  go_wp2_with fail
  refine H16.mono ?_
  rintro e w6 ⟨rfl, x6⟩
  have hb6 := x6.heap hb5
  have y26 := y25.ext x6
  have X6 := X5.trans x6
  clear H16 i0 i1 i2 i3 i4 jf hd4 hd5 y44 y55 lt4 e45
  obtain ⟨c0, c1, c2, cc3, cc4, cf⟩ := prt_cells hb6
  go_wp2_with fail
  have H17 := f17_prt p A n c w6 HN.out
  rw [decide_eq_false hr] at H17
  refine H17.mono ?_
  rintro e w7 ⟨rfl, x7⟩
  go_wp2_with fail
  go_ret
  exact ⟨rfl, X6.trans x7⟩

set_option maxRecDepth 100000 in
theorem f3_early (p : Prt) (A B : Option Addr) (n c nb cb : Nat) (w : World) (h : 300 < n ∨ 300 < nb) :
    Calls Try.prog 3 #[prtV p A n c, .slice B nb cb] w fun e w' => e = .returned (.bool true) ∧ Ext w w' := by
  by_cases h1 : 300 < n
  · have g1 : ((300 : Int) < (n : Int)) = True := eq_true (by omega)
    clear h h1
    go_enter Try.func3, Try.ntmps3
    go_wp2_with fail
    refine (awake06_any _).mono ?_
    rintro e w0 ⟨rfl, rfl⟩
    go_wp2_with fail
    refine (awake06_any _).mono ?_
    rintro e w1 ⟨rfl, rfl⟩
    go_wp2_with fail
    go_ret
    exact ⟨rfl, (Ext.refl w).alloc _⟩
  · have g1 : ((300 : Int) < (n : Int)) = False := eq_false (by omega)
    have g2 : ((300 : Int) < (nb : Int)) = True := eq_true (by omega)
    clear h h1
    go_enter Try.func3, Try.ntmps3
    go_wp2_with fail
    refine (awake06_any _).mono ?_
    rintro e w0 ⟨rfl, rfl⟩
    go_wp2_with fail
    refine (awake06_any _).mono ?_
    rintro e w1 ⟨rfl, rfl⟩
    go_wp2_with fail
    go_ret
    exact ⟨rfl, (Ext.refl w).alloc _⟩

theorem f3_walk (p : Prt) (A B : Option Addr) (l : List UInt8) (n c nb cb : Nat) (w : World) (hn : p.data.length = n) (hl : l.length = nb) (hcb : nb ≤ cb) (hx : Octs w A p.data) (hz : Octs w B l) :
    Calls Try.prog 3 #[prtV p A n c, .slice B nb cb] w fun e w' => e = .returned (.bool true) ∧ Ext w w' := by
  by_cases h : 300 < n ∨ 300 < nb
  · exact f3_early p A B n c nb cb w h
  · by_cases hr : prtRight p
    · exact f3_right p A B l n c nb cb w hn hl hcb (by omega) (by omega) hx hz hr
    · exact f3_wrong p A B l n c nb cb w hn hl hcb (by omega) (by omega) hx hz hr
end Go.Proofs.Ytanmjmeabcloiaa
