/- The parts of layer 6: of which part any octets are the sector; record.Get. -/
import Derived.Test.YtanmjmeabcloiaaRp
namespace Go.Proofs.Ytanmjmeabcloiaa
open Go.RowKit
open Go.Proofs

def prtDec (b : List UInt8) : Prt := ⟨numAt b 0 1 == 70, numAt b 1 4, numAt b 5 4, numAt b 9 2, if numAt b 11 1 ≤ 112 then (b.drop 12).take (numAt b 11 1).toNat else []⟩
def prtGet (b : List UInt8) : Option Prt := if b.length = 128 ∧ prtRight (prtDec b) ∧ prtPut (prtDec b) = b then some (prtDec b) else none
def prt0 : Prt := ⟨false, 0, 0, 0, []⟩
theorem prt_unsealed (l : List UInt8) (h : Mb.isSealed l = false) : prtGet l = none := by
  unfold prtGet
  rw [if_neg]
  rintro ⟨_, _, h3⟩
  rw [← h3, prtPut, Mb.isSealed_seal] at h
  cases h
theorem prt_short (l : List UInt8) (h : l.length ≠ 128) : prtGet l = none := by
  unfold prtGet
  rw [if_neg (fun e => h e.1)]
theorem RdX.lt {W0 w : World} {k : Nat} {B : List UInt8} (h : RdX W0 w k B) : W0.heap.size ≤ k ∧ k < w.heap.size := by
  obtain ⟨F, h1, _, _, h2⟩ := h
  exact ⟨h1 k h2.mem, (Array.getElem?_eq_some_iff.1 h2.head).1⟩
theorem RdX.ext {W0 w w' : World} {k : Nat} {B : List UInt8} (h : RdX W0 w k B) (x : Ext w w') : RdX W0 w' k B := by
  obtain ⟨F, h1, h2⟩ := h
  exact ⟨F, h1, h2.ext x⟩
/-- A number is taken off; what turns is the reading alone. -/
theorem rd_num_upd {W0 w : World} {k : Nat} (l : List UInt8) (i n : Nat) (hn : n ≤ 8) (hl : l.length = 128) (h124 : i + n ≤ 124) (h : RdX W0 w k ((l.take 124).drop i)) :
    Calls Try.prog 43 #[.pointer (some ⟨k, 0, none⟩), .int .i64 (n : Int)] w fun e w' => e = .returned (.int .i64 (numAt l i n)) ∧ Upd (fun b => b = k) w w' := by
  obtain ⟨F, h1, h2⟩ := h
  have hw : wid (n : Int) = n := by unfold wid; omega
  have hlen : n ≤ ((l.take 124).drop i).length := by rw [List.length_drop, List.length_take]; omega
  have h5 := f35_any k F ((l.take 124).drop i) false n w h2
  rw [hw, rTake_in n _ hlen] at h5
  refine h5.mono ?_
  rintro e w1 ⟨rfl, h6, h7⟩
  refine ⟨ret_int ?_, h7⟩
  rw [rNum, hw, rTake_in n _ hlen, numAt]
  congr 2
  show ((l.take 124).drop i).take n = (l.drop i).take n
  rw [List.drop_take, List.take_take, Nat.min_eq_left (by omega)]
theorem dec_lo (l : List UInt8) (V : Nat) (hV : numAt l 11 1 = (V : Int)) (h : V ≤ 112) : ({ prtDec l with data := (l.drop 12).take V } : Prt) = prtDec l := by
  unfold prtDec
  rw [hV, if_pos (by omega)]
  rfl
theorem dec_hi (l : List UInt8) (V : Nat) (hV : numAt l 11 1 = (V : Int)) (h : ¬ V ≤ 112) : ({ prtDec l with data := [] } : Prt) = prtDec l := by
  unfold prtDec
  rw [hV, if_neg (by omega)]
theorem data_lo (l : List UInt8) (V : Nat) (hV : numAt l 11 1 = (V : Int)) (h : V ≤ 112) : (prtDec l).data = (l.drop 12).take V := by
  unfold prtDec
  simp only
  rw [hV, if_pos (by omega)]
  rfl
theorem data_hi (l : List UInt8) (V : Nat) (hV : numAt l 11 1 = (V : Int)) (h : ¬ V ≤ 112) : (prtDec l).data = [] := by
  unfold prtDec
  simp only
  rw [hV, if_neg (by omega)]
def setPrt (w : World) (q : Nat) (p : Prt) (A : Option Addr) (n c : Nat) : World :=
  ((((w.setCell ⟨q, 0, none⟩ (.bool p.foot)).setCell ⟨q, 1, none⟩ (.int .i64 p.epoch)).setCell ⟨q, 2, none⟩ (.int .i64 p.number)).setCell ⟨q, 3, none⟩ (.int .i64 p.index)).setCell ⟨q, 4, none⟩ (.slice A n c)
theorem setPrt_heap {w : World} {q : Nat} {p0 : Prt} {A0 : Option Addr} {n0 c0 : Nat} (hb : w.heap[q]? = some (.cells (prtCells p0 A0 n0 c0) 24 (0, 0))) (p : Prt) (A : Option Addr) (n c : Nat) : (setPrt w q p A n c).heap[q]? = some (.cells (prtCells p A n c) 24 (0, 0)) := by
  have h0 := heap_setCell_same w q 0 _ _ (.bool p.foot) hb
  have h1 := heap_setCell_same _ q 1 _ _ (.int .i64 p.epoch) h0
  have h2 := heap_setCell_same _ q 2 _ _ (.int .i64 p.number) h1
  have h3 := heap_setCell_same _ q 3 _ _ (.int .i64 p.index) h2
  have h4 := heap_setCell_same _ q 4 _ _ (.slice A n c) h3
  simp only [prtCells, List.setIfInBounds_toArray, List.set_cons_succ, List.set_cons_zero] at h4
  exact h4
theorem setPrt_data {w : World} {q : Nat} {p : Prt} {A0 : Option Addr} {n0 c0 : Nat} (hb : w.heap[q]? = some (.cells (prtCells p A0 n0 c0) 24 (0, 0))) (A : Option Addr) (n c : Nat) (d : List UInt8) : (w.setCell ⟨q, 4, none⟩ (.slice A n c)).heap[q]? = some (.cells (prtCells { p with data := d } A n c) 24 (0, 0)) := by
  have h4 := heap_setCell_same _ q 4 _ _ (.slice A n c) hb
  simp only [prtCells, List.setIfInBounds_toArray, List.set_cons_succ, List.set_cons_zero] at h4
  exact h4
theorem setPrt_upd (w : World) (q : Nat) (p : Prt) (A : Option Addr) (n c : Nat) : Upd (fun b => b = q) w (setPrt w q p A n c) :=
  ((((((Upd.refl (fun b => b = q) w).setCell (p := ⟨q, 0, none⟩) (.inl rfl) _).setCell (p := ⟨q, 1, none⟩) (.inl rfl) _).setCell (p := ⟨q, 2, none⟩) (.inl rfl) _).setCell (p := ⟨q, 3, none⟩) (.inl rfl) _).setCell (p := ⟨q, 4, none⟩) (.inl rfl) _)
theorem setPrt_ext {w w1 : World} (h : Ext w w1) {q : Nat} (hq : w.heap.size ≤ q) (p : Prt) (A : Option Addr) (n c : Nat) : Ext w (setPrt w1 q p A n c) := (setPrt_upd w1 q p A n c).to_ext h (fun b hb => by rw [hb]; exact hq)
theorem size24 : (Try.prog.info? 24).map (·.size) = some 5 := by kernel_rfl
theorem ret_prt {fn : Func} {t u : Tmp} (h : fn.results = #[.cell t 24, .tmp u]) (tmps : Array Value) (w : World) (g : Nat) (p : Prt) (A : Option Addr) (n c : Nat) (b : Bool) (hp : tmps.getD t undef = .pointer (some ⟨g, 0, none⟩))
    (hg : w.heap[g]? = some (.cells (prtCells p A n c) 24 (0, 0))) (hu : tmps.getD u undef = .bool b) : (results fn tmps).run Try.prog w = .ok (.tuple #[prtV p A n c, .bool b]) w := by
  rw [results_cell_tmp h, hp, hu]
  simp only [asAddr, Sem.run_pure, Result.andThen_ok]
  rw [run_loadVar_row w g 24 24 _ _ _ hg Try.underlying24 rfl size24]
  rfl

set_option maxRecDepth 100000 in
set_option maxHeartbeats 8000000 in
theorem f14_main (A : Option Addr) (l : List UInt8) (c : Nat) (w : World) (hn : l.length = 128) (hc : 128 ≤ c) (hx : Octs w A l) (hse : Mb.isSealed l = true)
    (HO : ∀ W, Ext w W → Calls Try.prog 41 #[.slice A 128 c] W fun e w' => ∃ v, e = .returned (.tuple #[v, .bool (Mb.isSealed l)]) ∧ Own w' W.heap.size 5 v (octs (opened l)) ∧ Ext W w') :
    Calls Try.prog 14 #[.slice A 128 c] w fun e w' => ∃ A' m c', e = .returned (.tuple #[prtV ((prtGet l).getD prt0) A' m c', .bool (prtGet l).isSome]) ∧ ((prtGet l).getD prt0).data.length = m ∧ m ≤ c' ∧ Octs w' A' ((prtGet l).getD prt0).data ∧ Ext w w' := by
  have ho := opened_124 l hse
  have ho2 := opened_some l hse
  rw [hn] at ho ho2
  simp only [Nat.reduceSub] at ho ho2
  rw [hse, ho2] at HO
  rw [ho2] at ho
  obtain ⟨R, hR⟩ : ∃ R, R = prtGet l := ⟨_, rfl⟩
  rw [← hR]
  have HG := Lib.hid hR
  obtain ⟨V, hV, hV2⟩ : ∃ V : Nat, numAt l 11 1 = (V : Int) ∧ V < 256 := by
    have h1 := getN_lt ((l.drop 11).take 1)
    have h2 : ((l.drop 11).take 1).length = 1 := by rw [List.length_take, List.length_drop]; omega
    rw [h2] at h1
    exact ⟨getN ((l.drop 11).take 1), by rw [numAt, i64of_small _ (by omega)], by simpa using h1⟩
  have HN := Lib.hid hn
  have HO1 := Lib.hid ho
  have HC := Lib.hid hc
  have HV := Lib.hid hV
  have HV2 := Lib.hid hV2
  clear hn ho ho2 hse hc hR hV hV2
  go_enter Try.func14, Try.ntmps14
  go_wp2_with fail
  refine (HO _ ((Ext.refl w).alloc _)).mono ?_
  rintro e w1 ⟨v1, rfl, o1, x1⟩
  have hb : w1.heap[w.heap.size]? = some (.cells (prtCells prt0 none 0 0) 24 (0, 0)) := x1.heap (heap_alloc_new w _)
  have hX : Ext w w1 := ((Ext.refl w).alloc _).trans x1
  have hp : w.heap.size < w1.heap.size := Nat.lt_of_lt_of_le (by simp) x1.size
  obtain ⟨A1, d1, rfl, e1, y1⟩ := o1.octs_form
  rw [HO1.out] at e1 ⊢
  have NA1 : ∀ a, A1 = some a → ¬ a.block = w.heap.size := fun a e => by
    have := (o1.block a.block (by rw [e]; rfl)).1
    simp at this
    omega
  have NA1b : ∀ a, A1 = some a → a.block < w1.heap.size := fun a e => (o1.block a.block (by rw [e]; rfl)).2
  clear x1 HO o1
  go_wp2_with fail
  refine (rd_new (Ext.refl w1) A1 (l.take 124) 124 _ HO1.out (by decide) (by decide) y1).mono ?_
  rintro e w2 ⟨k, rfl, r2, x2⟩
  go_wp2_with fail
  refine (rd_num l 0 1 1 rfl (by decide) HN.out (by decide) x2 r2).mono ?_
  rintro e w3 ⟨rfl, r3, x3⟩
  clear r2 x2
  go_wp2_with fail
  refine (rd_num l 1 4 5 rfl (by decide) HN.out (by decide) x3 r3).mono ?_
  rintro e w4 ⟨rfl, r4, x4⟩
  clear r3 x3
  go_wp2_with fail
  refine (rd_num l 5 4 9 rfl (by decide) HN.out (by decide) x4 r4).mono ?_
  rintro e w5 ⟨rfl, r5, x5⟩
  clear r4 x4
  go_wp2_with fail
  refine (rd_num l 9 2 11 rfl (by decide) HN.out (by decide) x5 r5).mono ?_
  rintro e w6 ⟨rfl, r6, x6⟩
  clear r5 x5
  go_wp2_with fail
  have hb6 := x6.heap hb
  have e7 := (Ext.refl w6).alloc (.cells (prtCells { prtDec l with data := [] } none 0 0) 24)
  have hq6 := heap_alloc_new w6 (.cells (prtCells { prtDec l with data := [] } none 0 0) 24)
  have hkk := r6.lt
  have h16 := x6.size
  refine (rd_num_upd l 11 1 (by decide) HN.out (by decide) (r6.ext e7)).mono ?_
  rw [HV.out]
  rintro e w7 ⟨rfl, u7⟩
  have x7 : Ext w1 w7 := u7.to_ext (x6.trans e7) (fun b hb => by rw [hb]; exact hkk.1)
  have hp7 := x7.heap hb
  have hq7 := u7.heap hq6 (show ¬ w6.heap.size = k by omega)
  have X7 := hX.trans x7
  have y7 := y1.ext x7
  have hwq : w.heap.size < w6.heap.size := by omega
  have hq1 : w1.heap.size ≤ w6.heap.size := h16
  obtain ⟨q, hqe⟩ : ∃ q, w6.heap.size = q := ⟨_, rfl⟩
  rw [hqe] at hq7 hwq hq1 ⊢
  have HQE := Lib.hid hqe
  clear hqe hb6 e7 hq6 hkk h16 u7 x7 x6 r6 y1 hb hX
  obtain ⟨c0, c1, c2, c3, c4, cf⟩ := prt_cells hq7
  have hv2 := HV2.out
  by_cases h112 : V ≤ 112
  · obtain ⟨A2, s1, _, s3, s4⟩ := cut_mid A1 (l.take 124) d1 12 (12 + V) (by omega) (by rw [HO1.out]; omega) (by rw [HO1.out]; exact e1)
    rw [HO1.out] at s1
    have y7b := s3 _ y7
    rw [show 12 + V - 12 = V by omega] at s1 y7b
    have hdat : ((l.take 124).drop 12).take V = (prtDec l).data := by
      rw [data_lo l V HV.out h112, List.drop_take, List.take_take, Nat.min_eq_left (by omega)]
    rw [hdat] at y7b
    have hlen : (prtDec l).data.length = V := by rw [data_lo l V HV.out h112, List.length_take, List.length_drop, HN.out]; omega
    have hq8 := setPrt_data hq7 A2 V (d1 - 12) ((l.drop 12).take V)
    rw [show ({ ({ prtDec l with data := [] } : Prt) with data := (l.drop 12).take V } : Prt) = prtDec l from dec_lo l V HV.out h112] at hq8
    have uq := (Upd.refl (fun b => b = q) w7).setCell (p := ⟨q, 4, none⟩) (.inl rfl) (.slice A2 V (d1 - 12))
    have NA2 : ∀ a, A2 = some a → ¬ a.block = w.heap.size := fun a e => by
      obtain ⟨b, h1, h2⟩ := s4 a e
      rw [← h2]
      exact NA1 b h1
    have y8 := y7b.upd uq (fun a e => by
      obtain ⟨b, h1, h2⟩ := s4 a e
      have := NA1b b h1
      omega)
    have hp8 := uq.heap hp7 (show ¬ w.heap.size = q by omega)
    have X8 := X7.setCell (p := ⟨q, 4, none⟩) (show w.heap.size ≤ q by omega) (.slice A2 V (d1 - 12))
    have hcap : V ≤ d1 - 12 := by omega
    obtain ⟨M, hM⟩ : ∃ M, M = 12 + V := ⟨_, rfl⟩
    rw [← hM] at s1
    have hM1 : (12 : Int) + (V : Int) = (M : Int) := by omega
    have hM2 : IntKind.i64.wrap (M : Int) = (M : Int) := IntWalk.i64_in _ (by omega)
    have hV3 : ((V : Int) ≤ 112) = True := eq_true (by omega)
    have s9 : ∀ w, (Instr.slice 22 (.slice A1 124 d1) (some (.int .i64 12)) (some (.int .i64 (M : Int))) none).run Try.prog w = .ok (.slice A2 V (d1 - 12)) w := s1
    have HL := Lib.hid hlen
    clear s1 s3 s4 hdat uq hp7 X7 y7 y7b hM hq7 h112 hlen
    go_wp2_with fail
    have hq9 : _ = some (Obj.cells (prtCells (prtDec l) A2 V (d1 - 12)) 24 (0, 0)) := hq8
    by_cases hr : prtRight (prtDec l)
    · refine (f13_right (prtDec l) A2 V (d1 - 12) _ HL.out hr y8).mono ?_
      rintro e w11 ⟨v, rfl, o11, x11⟩
      obtain ⟨B, d, rfl, hd, hy⟩ := o11.octs_form
      rw [length_prtPut _ hr] at hd ⊢
      have hp11 := x11.heap hp8
      have hq11 := x11.heap hq9
      have X11 := X8.trans x11
      have hyd : Octs w11 A2 (prtDec l).data := Octs.ext y8 x11
      have HE := equal_octs B A (prtPut (prtDec l)) l d c w11 (by rw [length_prtPut _ hr]; decide) (by rw [HN.out]; decide) (by rw [length_prtPut _ hr]; decide) (by rw [HN.out]; decide) hy (hx.ext X11)
      rw [length_prtPut _ hr, HN.out] at HE
      clear hp8 hq8 hq9 X8 x11 hy o11 hd
      by_cases he : prtPut (prtDec l) = l
      · have hg : R = some (prtDec l) := by
          rw [HG.out]
          unfold prtGet
          rw [if_pos ⟨HN.out, hr, he⟩]
        subst hg
        rw [decide_eq_true he] at HE
        clear he hr
        go_wp2_with (go_at_call 44; refine HE.mono ?_; clear HE; rintro e w12 ⟨rfl, ⟨qq, rfl⟩⟩; have hX3 := X11.drewN qq; have hb3 : (w11.drewN qq).heap[w.heap.size]? = _ := hp11; have hq3 : (w11.drewN qq).heap[q]? = _ := hq11; have hy3 : Octs (w11.drewN qq) A2 (prtDec l).data := hyd; clear X11 hp11 hq11 hyd; generalize w11.drewN qq = w12 at hX3 hb3 hq3 hy3 ⊢; obtain ⟨c0, c1, c2, c3, c4, cf⟩ := prt_cells hb3; obtain ⟨i0, i1, i2, i3, i4, jf⟩ := prt_cells hq3)
        refine bodyPost_ret (ret_prt rfl _ _ w.heap.size (prtDec l) A2 V (d1 - 12) true rfl (setPrt_heap hb3 (prtDec l) A2 V (d1 - 12)) rfl) rfl ?_
        exact ⟨A2, V, (d1 - 12), rfl, HL.out, hcap, hy3.upd (setPrt_upd _ _ _ _ _ _) NA2, setPrt_ext hX3 (Nat.le_refl _) (prtDec l) A2 V (d1 - 12)⟩
      · have hg : R = none := by
          rw [HG.out]
          unfold prtGet
          rw [if_neg (fun e => he e.2.2)]
        subst hg
        rw [decide_eq_false he] at HE
        clear he hr
        go_wp2_with (go_at_call 44; refine HE.mono ?_; clear HE; rintro e w12 ⟨rfl, ⟨qq, rfl⟩⟩; have hX3 := X11.drewN qq; have hb3 : (w11.drewN qq).heap[w.heap.size]? = _ := hp11; clear X11 hp11 hq11 hyd; generalize w11.drewN qq = w12 at hX3 hb3 ⊢; obtain ⟨c0, c1, c2, c3, c4, cf⟩ := prt_cells hb3)
        refine bodyPost_ret (ret_prt rfl _ _ w.heap.size prt0 none 0 0 false rfl (setPrt_heap hb3 prt0 none 0 0) rfl) rfl ?_
        exact ⟨none, 0, 0, rfl, rfl, Nat.le_refl _, Octs.nil _ _, setPrt_ext hX3 (Nat.le_refl _) prt0 none 0 0⟩
    · have hg : R = none := by
        rw [HG.out]
        unfold prtGet
        rw [if_neg (fun e => hr e.2.1)]
      subst hg
      refine (f13_wrong (prtDec l) A2 V (d1 - 12) _ HL.out hr).mono ?_
      rintro e w11 ⟨rfl, x11⟩
      have hp11 := x11.heap hp8
      have X11 := X8.trans x11
      obtain ⟨c0, c1, c2, c3, c4, cf⟩ := prt_cells hp11
      clear hp8 hq8 hq9 X8 x11 hr
      go_wp2_with fail
      refine bodyPost_ret (ret_prt rfl _ _ w.heap.size prt0 none 0 0 false rfl (setPrt_heap hp11 prt0 none 0 0) rfl) rfl ?_
      exact ⟨none, 0, 0, rfl, rfl, Nat.le_refl _, Octs.nil _ _, setPrt_ext X11 (Nat.le_refl _) prt0 none 0 0⟩
  · have hV3 : ((V : Int) ≤ 112) = False := eq_false (by omega)
    have hq8 := hq7
    rw [dec_hi l V HV.out h112] at hq8
    have hlen : (prtDec l).data.length = 0 := by rw [data_hi l V HV.out h112]; rfl
    have y8 : Octs w7 none (prtDec l).data := by rw [data_hi l V HV.out h112]; exact Octs.nil _ _
    have hp8 := hp7
    have X8 := X7
    have HL := Lib.hid hlen
    clear hq7 hp7 X7 y7 h112 hlen
    go_wp2_with fail
    have hq9 : _ = some (Obj.cells (prtCells (prtDec l) none 0 0) 24 (0, 0)) := hq8
    by_cases hr : prtRight (prtDec l)
    · refine (f13_right (prtDec l) none 0 0 _ HL.out hr y8).mono ?_
      rintro e w11 ⟨v, rfl, o11, x11⟩
      obtain ⟨B, d, rfl, hd, hy⟩ := o11.octs_form
      rw [length_prtPut _ hr] at hd ⊢
      have hp11 := x11.heap hp8
      have hq11 := x11.heap hq9
      have X11 := X8.trans x11
      have hyd : Octs w11 none (prtDec l).data := Octs.ext y8 x11
      have HE := equal_octs B A (prtPut (prtDec l)) l d c w11 (by rw [length_prtPut _ hr]; decide) (by rw [HN.out]; decide) (by rw [length_prtPut _ hr]; decide) (by rw [HN.out]; decide) hy (hx.ext X11)
      rw [length_prtPut _ hr, HN.out] at HE
      clear hp8 hq8 hq9 X8 x11 hy o11 hd
      by_cases he : prtPut (prtDec l) = l
      · have hg : R = some (prtDec l) := by
          rw [HG.out]
          unfold prtGet
          rw [if_pos ⟨HN.out, hr, he⟩]
        subst hg
        rw [decide_eq_true he] at HE
        clear he hr
        go_wp2_with (go_at_call 44; refine HE.mono ?_; clear HE; rintro e w12 ⟨rfl, ⟨qq, rfl⟩⟩; have hX3 := X11.drewN qq; have hb3 : (w11.drewN qq).heap[w.heap.size]? = _ := hp11; have hq3 : (w11.drewN qq).heap[q]? = _ := hq11; have hy3 : Octs (w11.drewN qq) none (prtDec l).data := hyd; clear X11 hp11 hq11 hyd; generalize w11.drewN qq = w12 at hX3 hb3 hq3 hy3 ⊢; obtain ⟨c0, c1, c2, c3, c4, cf⟩ := prt_cells hb3; obtain ⟨i0, i1, i2, i3, i4, jf⟩ := prt_cells hq3)
        refine bodyPost_ret (ret_prt rfl _ _ w.heap.size (prtDec l) none 0 0 true rfl (setPrt_heap hb3 (prtDec l) none 0 0) rfl) rfl ?_
        exact ⟨none, 0, 0, rfl, HL.out, (Nat.le_refl _), hy3.upd (setPrt_upd _ _ _ _ _ _) (fun a e => by cases e), setPrt_ext hX3 (Nat.le_refl _) (prtDec l) none 0 0⟩
      · have hg : R = none := by
          rw [HG.out]
          unfold prtGet
          rw [if_neg (fun e => he e.2.2)]
        subst hg
        rw [decide_eq_false he] at HE
        clear he hr
        go_wp2_with (go_at_call 44; refine HE.mono ?_; clear HE; rintro e w12 ⟨rfl, ⟨qq, rfl⟩⟩; have hX3 := X11.drewN qq; have hb3 : (w11.drewN qq).heap[w.heap.size]? = _ := hp11; clear X11 hp11 hq11 hyd; generalize w11.drewN qq = w12 at hX3 hb3 ⊢; obtain ⟨c0, c1, c2, c3, c4, cf⟩ := prt_cells hb3)
        refine bodyPost_ret (ret_prt rfl _ _ w.heap.size prt0 none 0 0 false rfl (setPrt_heap hb3 prt0 none 0 0) rfl) rfl ?_
        exact ⟨none, 0, 0, rfl, rfl, Nat.le_refl _, Octs.nil _ _, setPrt_ext hX3 (Nat.le_refl _) prt0 none 0 0⟩
    · have hg : R = none := by
        rw [HG.out]
        unfold prtGet
        rw [if_neg (fun e => hr e.2.1)]
      subst hg
      refine (f13_wrong (prtDec l) none 0 0 _ HL.out hr).mono ?_
      rintro e w11 ⟨rfl, x11⟩
      have hp11 := x11.heap hp8
      have X11 := X8.trans x11
      obtain ⟨c0, c1, c2, c3, c4, cf⟩ := prt_cells hp11
      clear hp8 hq8 hq9 X8 x11 hr
      go_wp2_with fail
      refine bodyPost_ret (ret_prt rfl _ _ w.heap.size prt0 none 0 0 false rfl (setPrt_heap hp11 prt0 none 0 0) rfl) rfl ?_
      exact ⟨none, 0, 0, rfl, rfl, Nat.le_refl _, Octs.nil _ _, setPrt_ext X11 (Nat.le_refl _) prt0 none 0 0⟩

set_option maxRecDepth 100000 in
set_option maxHeartbeats 4000000 in
theorem f14_any (A : Option Addr) (l : List UInt8) (n c : Nat) (w : World) (hn : l.length = n) (hl : n ≤ 4294900000) (hc : n ≤ c) (hx : Octs w A l) :
    Calls Try.prog 14 #[.slice A n c] w fun e w' => ∃ A' m c', e = .returned (.tuple #[prtV ((prtGet l).getD prt0) A' m c', .bool (prtGet l).isSome]) ∧ ((prtGet l).getD prt0).data.length = m ∧ m ≤ c' ∧ Octs w' A' ((prtGet l).getD prt0).data ∧ Ext w w' := by
  have HO := fun W (h : Ext w W) => f46_n A l n c W hn hl hc (hx.ext h)
  cases hse : Mb.isSealed l with
  | false =>
    rw [prt_unsealed l hse]
    rw [hse] at HO
    have ho : opened l = [] := by rw [opened, hse]; rfl
    rw [ho] at HO
    clear hse ho hx
    go_enter Try.func14, Try.ntmps14
    go_wp2_with fail
    refine (HO _ ((Ext.refl w).alloc _)).mono ?_
    rintro e w1 ⟨v1, rfl, o1, x1⟩
    have hb : w1.heap[w.heap.size]? = some (.cells (prtCells prt0 none 0 0) 24 (0, 0)) := x1.heap (heap_alloc_new w _)
    obtain ⟨c0, c1, c2, c3, c4, cf⟩ := prt_cells hb
    go_wp2_with fail
    refine bodyPost_ret (ret_prt rfl _ _ w.heap.size prt0 none 0 0 false rfl (setPrt_heap hb prt0 none 0 0) rfl) rfl ?_
    exact ⟨none, 0, 0, rfl, rfl, Nat.le_refl _, Octs.nil _ _, setPrt_ext (((Ext.refl w).alloc _).trans x1) (Nat.le_refl _) prt0 none 0 0⟩
  | true =>
    have h4 := sealed_four l hse
    have ho := opened_124 l hse
    by_cases h128 : n = 128
    · subst h128
      exact f14_main A l c w hn hc hx hse HO
    · rw [prt_short l (by rw [hn]; exact h128)]
      rw [hn] at ho h4
      obtain ⟨m, hm⟩ : ∃ m, m = n - 4 := ⟨_, rfl⟩
      rw [← hm] at ho
      have hm2 : ((m : Int) == 124) = false := by simp; omega
      have HM := Lib.hid ho
      rw [hse] at HO
      clear hm ho hse h4 h128 hn hc hl hx
      go_enter Try.func14, Try.ntmps14
      go_wp2_with fail
      refine (HO _ ((Ext.refl w).alloc _)).mono ?_
      rintro e w1 ⟨v1, rfl, o1, x1⟩
      have hb : w1.heap[w.heap.size]? = some (.cells (prtCells prt0 none 0 0) 24 (0, 0)) := x1.heap (heap_alloc_new w _)
      obtain ⟨c0, c1, c2, c3, c4, cf⟩ := prt_cells hb
      obtain ⟨A1, d1, rfl, e1, y1⟩ := o1.octs_form
      rw [HM.out] at e1 ⊢
      clear y1 o1 e1
      go_wp2_with fail
      refine bodyPost_ret (ret_prt rfl _ _ w.heap.size prt0 none 0 0 false rfl (setPrt_heap hb prt0 none 0 0) rfl) rfl ?_
      exact ⟨none, 0, 0, rfl, rfl, Nat.le_refl _, Octs.nil _ _, setPrt_ext (((Ext.refl w).alloc _).trans x1) (Nat.le_refl _) prt0 none 0 0⟩
end Go.Proofs.Ytanmjmeabcloiaa
