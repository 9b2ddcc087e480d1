/- Superblocks (layer 5): Get. -/
import Derived.Test.YtanmjmeabcloiaaSp
import Derived.Test.YtanmjmeabcloiaaRz
import Derived.Test.YtanmjmeabcloiaaNm
import Derived.Laws.ResultCell
namespace Go.Proofs.Ytanmjmeabcloiaa
open Go.RowKit
open Go.Proofs

/-- A reading that was made since W0, that did not fail. -/
def RdX (W0 w : World) (k : Nat) (B : List UInt8) : Prop := ∃ F : Nat → Prop, (∀ b, F b → W0.heap.size ≤ b) ∧ RdAt w k F B false
theorem rd_new {W0 w : World} (hX : Ext W0 w) (A : Option Addr) (l : List UInt8) (n c : Nat) (hn : l.length = n) (h0 : 0 < n) (hl : n ≤ 4294967296) (hx : Octs w A l) :
    Calls Try.prog 42 #[.slice A n c] w fun e w' => ∃ k, e = .returned (.pointer (some ⟨k, 0, none⟩)) ∧ RdX W0 w' k l ∧ Ext w w' := by
  obtain ⟨b, o, rfl, _⟩ := hx (by rw [length_octs, hn]; exact h0)
  refine (f25_any _ l n c w hn hl (fun h => by cases h) (fun a h => by cases h; exact ⟨_, _, rfl⟩) hx).mono ?_
  rintro e w1 ⟨k, rfl, h1, h2⟩
  exact ⟨k, rfl, ⟨_, fun b hb => Nat.le_trans hX.size hb.1, h1⟩, h2⟩
theorem rTake_in (n : Nat) (B : List UInt8) (h : n ≤ B.length) : rTake (n : Int) B false = (B.take n, B.drop n, false) := by
  unfold rTake
  rw [if_neg (by simp; omega)]
  rfl
/-- A number is taken off, where one stands. -/
theorem rd_num {W0 w : World} {k : Nat} (l : List UInt8) (i n j : Nat) (hj : i + n = j) (hn : n ≤ 8) (hl : l.length = 128) (h124 : j ≤ 124) (hX : Ext W0 w) (h : RdX W0 w k ((l.take 124).drop i)) :
    Calls Try.prog 43 #[.pointer (some ⟨k, 0, none⟩), .int .i64 (n : Int)] w fun e w' => e = .returned (.int .i64 (numAt l i n)) ∧ RdX W0 w' k ((l.take 124).drop j) ∧ Ext W0 w' := by
  subst hj
  obtain ⟨F, h1, h2⟩ := h
  have hw : wid (n : Int) = n := by unfold wid; omega
  have hlen : n ≤ ((l.take 124).drop i).length := by rw [List.length_drop, List.length_take]; omega
  have h5 := f35_any k F ((l.take 124).drop i) false n w h2
  rw [hw, rTake_in n _ hlen] at h5
  refine h5.mono ?_
  rintro e w1 ⟨rfl, h6, h7⟩
  refine ⟨ret_int ?_, ⟨F, h1, by rw [← List.drop_drop]; exact h6⟩, h7.to_ext hX fun b hb => ?_⟩
  · rw [rNum, hw, rTake_in n _ hlen, numAt]
    congr 2
    show ((l.take 124).drop i).take n = (l.drop i).take n
    rw [List.drop_take, List.take_take, Nat.min_eq_left (by omega)]
  · rw [hb]
    obtain ⟨_, _, h8⟩ := h2
    exact h1 k h8.mem

def sup0 : Sup := ⟨0, 0, 0, 0, 0, 0, 0, 0⟩
theorem get_unsealed (l : List UInt8) (h : Mb.isSealed l = false) : supGet l = none := by
  cases hg : supGet l with
  | none => rfl
  | some s =>
    obtain ⟨_, h2, _⟩ := get_some hg
    rw [← h2, supPut, Mb.isSealed_seal] at h
    cases h
theorem get_short (l : List UInt8) (h : l.length ≠ 128) : supGet l = none := by
  unfold supGet
  rw [if_neg (fun e => h e.1)]
theorem opened_some (l : List UInt8) (h : Mb.isSealed l = true) : opened l = l.take (l.length - 4) := by
  rw [opened, if_pos h]
theorem sealed_four (l : List UInt8) (h : Mb.isSealed l = true) : 4 ≤ l.length := ((Mb.isSealed_iff l).1 h).1
theorem opened_124 (l : List UInt8) (h : Mb.isSealed l = true) : (opened l).length = l.length - 4 := by
  rw [opened_some l h, List.length_take]; omega

theorem sup_cells {w : World} {p : Nat} {s : Sup} (hb : w.heap[p]? = some (.cells (supCells s) 38 (0, 0))) :
    w.cell? ⟨p, 0, none⟩ = some (.int .i64 s.gen) ∧ w.cell? ⟨p, 1, none⟩ = some (.int .i64 s.journal) ∧ w.cell? ⟨p, 2, none⟩ = some (.int .i64 s.area) ∧ w.cell? ⟨p, 3, none⟩ = some (.int .i64 s.which) ∧
    w.cell? ⟨p, 4, none⟩ = some (.int .i64 s.len) ∧ w.cell? ⟨p, 5, none⟩ = some (.int .u32 (s.sum : Int)) ∧ w.cell? ⟨p, 6, none⟩ = some (.int .i64 s.epoch) ∧ w.cell? ⟨p, 7, none⟩ = some (.int .i64 s.start) ∧ ∀ j, w.frozen? ⟨p, j, none⟩ = false := by
  refine ⟨?_, ?_, ?_, ?_, ?_, ?_, ?_, ?_, fun j => frozen_of_row w p j _ _ hb⟩ <;> (rw [cell_of_row w p _ _ _ _ hb]; rfl)

/-- A superblock is laid into a variable. -/
def setSup (w : World) (p : Nat) (s : Sup) : World :=
  (((((((w.setCell ⟨p, 0, none⟩ (.int .i64 s.gen)).setCell ⟨p, 1, none⟩ (.int .i64 s.journal)).setCell ⟨p, 2, none⟩ (.int .i64 s.area)).setCell ⟨p, 3, none⟩ (.int .i64 s.which)).setCell ⟨p, 4, none⟩ (.int .i64 s.len)).setCell ⟨p, 5, none⟩ (.int .u32 (s.sum : Int))).setCell ⟨p, 6, none⟩ (.int .i64 s.epoch)).setCell ⟨p, 7, none⟩ (.int .i64 s.start)
theorem setSup_heap {w : World} {p : Nat} {s0 : Sup} (hb : w.heap[p]? = some (.cells (supCells s0) 38 (0, 0))) (s : Sup) : (setSup w p s).heap[p]? = some (.cells (supCells s) 38 (0, 0)) := by
  have h0 := heap_setCell_same w p 0 _ _ (.int .i64 s.gen) hb
  have h1 := heap_setCell_same _ p 1 _ _ (.int .i64 s.journal) h0
  have h2 := heap_setCell_same _ p 2 _ _ (.int .i64 s.area) h1
  have h3 := heap_setCell_same _ p 3 _ _ (.int .i64 s.which) h2
  have h4 := heap_setCell_same _ p 4 _ _ (.int .i64 s.len) h3
  have h5 := heap_setCell_same _ p 5 _ _ (.int .u32 (s.sum : Int)) h4
  have h6 := heap_setCell_same _ p 6 _ _ (.int .i64 s.epoch) h5
  have h7 := heap_setCell_same _ p 7 _ _ (.int .i64 s.start) h6
  simp only [supCells, List.setIfInBounds_toArray, List.set_cons_succ, List.set_cons_zero] at h7
  exact h7
theorem setSup_ext {w w1 : World} (h : Ext w w1) {p : Nat} (hp : w.heap.size ≤ p) (s : Sup) : Ext w (setSup w1 p s) :=
  (((((((h.setCell (p := ⟨p, 0, none⟩) hp _).setCell (p := ⟨p, 1, none⟩) hp _).setCell (p := ⟨p, 2, none⟩) hp _).setCell (p := ⟨p, 3, none⟩) hp _).setCell (p := ⟨p, 4, none⟩) hp _).setCell (p := ⟨p, 5, none⟩) hp _).setCell (p := ⟨p, 6, none⟩) hp _).setCell (p := ⟨p, 7, none⟩) hp _
theorem setSup_keep {w : World} {p g : Nat} (h : g ≠ p) (s : Sup) : (setSup w p s).heap[g]? = w.heap[g]? := by
  have u : Upd (fun b => b = p) w (setSup w p s) := (((((((((Upd.refl (fun b => b = p) w).setCell (p := ⟨p, 0, none⟩) (.inl rfl) _).setCell (p := ⟨p, 1, none⟩) (.inl rfl) _).setCell (p := ⟨p, 2, none⟩) (.inl rfl) _).setCell (p := ⟨p, 3, none⟩) (.inl rfl) _).setCell (p := ⟨p, 4, none⟩) (.inl rfl) _).setCell (p := ⟨p, 5, none⟩) (.inl rfl) _).setCell (p := ⟨p, 6, none⟩) (.inl rfl) _).setCell (p := ⟨p, 7, none⟩) (.inl rfl) _)
  rcases Nat.lt_or_ge g w.heap.size with hg | hg
  · exact u.block g hg h
  · rw [Array.getElem?_eq_none hg, Array.getElem?_eq_none (by simpa [setSup] using hg)]
theorem size38 : (Try.prog.info? 38).map (·.size) = some 8 := by kernel_rfl
theorem ret_sup {fn : Func} {p u : Tmp} (h : fn.results = #[.cell p 38, .tmp u]) (tmps : Array Value) (w : World) (g : Nat) (s : Sup) (b : Bool) (hp : tmps.getD p undef = .pointer (some ⟨g, 0, none⟩))
    (hg : w.heap[g]? = some (.cells (supCells s) 38 (0, 0))) (hu : tmps.getD u undef = .bool b) : (results fn tmps).run Try.prog w = .ok (.tuple #[supV s, .bool b]) w := by
  rw [results_cell_tmp h, hp, hu]
  simp only [asAddr, Sem.run_pure, Result.andThen_ok]
  rw [run_loadVar_row w g 38 38 _ _ _ hg Try.underlying38 rfl size38]
  rfl

set_option maxRecDepth 100000 in
set_option maxHeartbeats 1000000 in
theorem f23_any (A : Option Addr) (l : List UInt8) (n c : Nat) (w : World) (hn : l.length = n) (hl : n ≤ 4294900000) (hc : n ≤ c) (hx : Octs w A l) :
    Calls Try.prog 23 #[.slice A n c] w fun e w' => e = .returned (.tuple #[supV ((supGet l).getD sup0), .bool (supGet l).isSome]) ∧ Ext w w' := by
  have HO := fun W (h : Ext w W) => f46_n A l n c W hn hl hc (hx.ext h)
  cases hse : Mb.isSealed l with
  | false =>
    rw [get_unsealed l hse]
    rw [hse] at HO
    have ho : opened l = [] := by rw [opened, hse]; rfl
    rw [ho] at HO
    clear hse ho hx
    go_enter Try.func23, Try.ntmps23
    go_wp2_with fail
    refine (HO _ ((Ext.refl w).alloc _)).mono ?_
    rintro e w1 ⟨v1, rfl, o1, x1⟩
    have hb : w1.heap[w.heap.size]? = some (.cells (supCells sup0) 38 (0, 0)) := x1.heap (heap_alloc_new w _)
    obtain ⟨c0, c1, c2, c3, c4, c5, c6, c7, cf⟩ := sup_cells hb
    go_wp2_with fail
    refine bodyPost_ret (ret_sup rfl _ _ w.heap.size sup0 false rfl (setSup_heap hb sup0) rfl) rfl ?_
    exact ⟨rfl, setSup_ext (((Ext.refl w).alloc _).trans x1) (Nat.le_refl _) sup0⟩
  | true =>
    have h4 := sealed_four l hse
    have ho := opened_124 l hse
    by_cases h128 : n = 128
    · subst h128
      have ho2 := opened_some l hse
      rw [hn] at ho ho2
      simp only [Nat.reduceSub] at ho ho2
      rw [hse, ho2] at HO
      rw [ho2] at ho
      have hu : IntKind.u32.wrap (numAt l 28 4) = ((getN ((l.drop 28).take 4) : Nat) : Int) := by
        have h1 := getN_lt ((l.drop 28).take 4)
        have h2 : ((l.drop 28).take 4).length = 4 := by rw [List.length_take, List.length_drop]; omega
        rw [h2] at h1
        simp only [Nat.reducePow] at h1
        rw [numAt, i64of_small _ (by omega)]
        exact IntWalk.u32_in _ (by omega)
      have hs : (supDec l).sum < 4294967296 := by
        have h1 := getN_lt ((l.drop 28).take 4)
        have h2 : ((l.drop 28).take 4).length = 4 := by rw [List.length_take, List.length_drop]; omega
        rw [h2] at h1
        exact h1
      have HW := fun W => f20_wrong (supDec l) W
      have HR := fun W => f20_right (supDec l) W hs
      have ea : supV (supDec l) = .agg #[.int .i64 (numAt l 4 8), .int .i64 (numAt l 12 4), .int .i64 (numAt l 16 4), .int .i64 (numAt l 20 4), .int .i64 (numAt l 24 4), .int .u32 ((getN ((l.drop 28).take 4) : Nat) : Int), .int .i64 (numAt l 32 4), .int .i64 (numAt l 36 4)] := rfl
      rw [ea] at HW HR
      clear ea
      obtain ⟨R, hR⟩ : ∃ R, R = supGet l := ⟨_, rfl⟩
      rw [← hR]
      have HG := Lib.hid hR
      clear hs hR
      have HN := Lib.hid hn
      have HO1 := Lib.hid ho
      have HC := Lib.hid hc
      clear hn ho ho2 hse h4 hl hc
      go_enter Try.func23, Try.ntmps23
      go_wp2_with fail
      refine (HO _ ((Ext.refl w).alloc _)).mono ?_
      rintro e w1 ⟨v1, rfl, o1, x1⟩
      have hb : w1.heap[w.heap.size]? = some (.cells (supCells sup0) 38 (0, 0)) := x1.heap (heap_alloc_new w _)
      have hX : Ext w w1 := ((Ext.refl w).alloc _).trans x1
      have hp : w.heap.size < w1.heap.size := Nat.lt_of_lt_of_le (by simp) x1.size
      obtain ⟨A1, d1, rfl, e1, y1⟩ := o1.octs_form
      rw [HO1.out] at e1 ⊢
      obtain ⟨A2, s1, _, s3, _⟩ := cut_lo A1 (l.take 124) d1 4 (by rw [HO1.out]; decide) (by rw [HO1.out]; exact e1)
      rw [HO1.out] at s1
      simp only [Nat.reduceSub] at s1
      have y2 := s3 _ y1
      clear s3 x1 HO o1 y1
      have s4 : ∀ w, (Instr.slice 22 (.slice A1 124 d1) (some (.int .i64 4)) none none).run Try.prog w = .ok (.slice A2 120 (d1 - 4)) w := s1
      clear s1
      go_wp2_with fail
      refine (rd_new (Ext.refl w1) A2 ((l.take 124).drop 4) 120 _ (by rw [List.length_drop, HO1.out]) (by decide) (by decide) y2).mono ?_
      rintro e w2 ⟨k, rfl, r2, x2⟩
      clear s4 y2
      go_wp2_with fail
      refine (rd_num l 4 8 12 rfl (by decide) HN.out (by decide) x2 r2).mono ?_
      rintro e w3 ⟨rfl, r3, x3⟩
      clear r2 x2
      go_wp2_with fail
      refine (rd_num l 12 4 16 rfl (by decide) HN.out (by decide) x3 r3).mono ?_
      rintro e w4 ⟨rfl, r4, x4⟩
      clear r3 x3
      go_wp2_with fail
      refine (rd_num l 16 4 20 rfl (by decide) HN.out (by decide) x4 r4).mono ?_
      rintro e w5 ⟨rfl, r5, x5⟩
      clear r4 x4
      go_wp2_with fail
      refine (rd_num l 20 4 24 rfl (by decide) HN.out (by decide) x5 r5).mono ?_
      rintro e w6 ⟨rfl, r6, x6⟩
      clear r5 x5
      go_wp2_with fail
      refine (rd_num l 24 4 28 rfl (by decide) HN.out (by decide) x6 r6).mono ?_
      rintro e w7 ⟨rfl, r7, x7⟩
      clear r6 x6
      go_wp2_with fail
      refine (rd_num l 28 4 32 rfl (by decide) HN.out (by decide) x7 r7).mono ?_
      rintro e w8 ⟨rfl, r8, x8⟩
      clear r7 x7
      go_wp2_with fail
      refine (rd_num l 32 4 36 rfl (by decide) HN.out (by decide) x8 r8).mono ?_
      rintro e w9 ⟨rfl, r9, x9⟩
      clear r8 x8
      go_wp2_with fail
      refine (rd_num l 36 4 40 rfl (by decide) HN.out (by decide) x9 r9).mono ?_
      rintro e w10 ⟨rfl, r10, x10⟩
      clear r9 x9
      go_wp2_with fail
      have hc : 128 ≤ c := HC.out
      have hqs : w1.heap.size ≤ w10.heap.size := x10.size
      have X := (x10.alloc (.cells (supCells (supDec l)) 38))
      have hq := heap_alloc_new w10 (.cells (supCells (supDec l)) 38)
      have hpq : w.heap.size ≠ w10.heap.size := by omega
      clear hc
      by_cases hr : supRight (supDec l)
      · refine (HR _ hr).mono ?_
        rintro e w11 ⟨v, rfl, o11, x11⟩
        obtain ⟨B, d, rfl, hd, hy⟩ := o11.octs_form
        have hX2 := X.trans x11
        have hb2 := hX2.heap hb
        have hq2 := x11.heap hq
        have HE := equal_octs B A (supPut (supDec l)) l d c w11 (by rw [length_supPut]; decide) (by rw [HN.out]; decide) (by rw [length_supPut]; decide) (by rw [HN.out]; decide) hy (hx.ext (hX.trans hX2))
        rw [length_supPut, HN.out] at HE
        rw [length_supPut]
        obtain ⟨q, hqw⟩ : ∃ q, q = w10.heap.size := ⟨_, rfl⟩
        rw [← hqw] at hq2 hpq ⊢
        clear hqw hq X x11 x10 r10 hb hd hy o11 hqs
        by_cases he : supPut (supDec l) = l
        · have hg : R = some (supDec l) := by
            rw [HG.out]
            unfold supGet
            rw [if_pos ⟨HN.out, hr, he⟩]
          subst hg
          rw [decide_eq_true he] at HE
          clear he hr
          go_wp2_with (go_at_call 44; refine HE.mono ?_; clear HE; rintro e w12 ⟨rfl, ⟨qq, rfl⟩⟩; have hX3 := hX2.drewN qq; have hb3 : (w11.drewN qq).heap[w.heap.size]? = _ := hb2; have hq3 : (w11.drewN qq).heap[q]? = _ := hq2; clear hX2 hb2 hq2; generalize w11.drewN qq = w12 at hX3 hb3 hq3 ⊢; obtain ⟨c0, c1, c2, c3, c4, c5, c6, c7, cf⟩ := sup_cells hb3; obtain ⟨d0, d1, d2, d3, d4, d5, d6, d7, df⟩ := sup_cells hq3)
          refine bodyPost_ret (ret_sup rfl _ _ w.heap.size (supDec l) true rfl (setSup_heap hb3 (supDec l)) rfl) rfl ?_
          exact ⟨rfl, setSup_ext (hX.trans hX3) (Nat.le_refl _) (supDec l)⟩
        · have hg : R = none := by
            rw [HG.out]
            unfold supGet
            rw [if_neg (fun e => he e.2.2)]
          subst hg
          rw [decide_eq_false he] at HE
          clear he hr
          go_wp2_with (go_at_call 44; refine HE.mono ?_; clear HE; rintro e w12 ⟨rfl, ⟨qq, rfl⟩⟩; have hX3 := hX2.drewN qq; have hb3 : (w11.drewN qq).heap[w.heap.size]? = _ := hb2; clear hX2 hb2 hq2; generalize w11.drewN qq = w12 at hX3 hb3 ⊢; obtain ⟨c0, c1, c2, c3, c4, c5, c6, c7, cf⟩ := sup_cells hb3)
          refine bodyPost_ret (ret_sup rfl _ _ w.heap.size sup0 false rfl (setSup_heap hb3 sup0) rfl) rfl ?_
          exact ⟨rfl, setSup_ext (hX.trans hX3) (Nat.le_refl _) sup0⟩
      · have hg : R = none := by
          rw [HG.out]
          unfold supGet
          rw [if_neg (fun e => hr e.2.1)]
        subst hg
        refine (HW _ hr).mono ?_
        rintro e w11 ⟨rfl, x11⟩
        have hX2 := X.trans x11
        have hb2 := hX2.heap hb
        obtain ⟨c0, c1, c2, c3, c4, c5, c6, c7, cf⟩ := sup_cells hb2
        clear hq X x11 x10 r10 hb hqs hr HR HW
        go_wp2_with fail
        refine bodyPost_ret (ret_sup rfl _ _ w.heap.size sup0 false rfl (setSup_heap hb2 sup0) rfl) rfl ?_
        exact ⟨rfl, setSup_ext (hX.trans hX2) (Nat.le_refl _) sup0⟩
    · rw [get_short l (by rw [hn]; exact h128)]
      rw [hn] at ho h4
      obtain ⟨m, hm⟩ : ∃ m, m = n - 4 := ⟨_, rfl⟩
      rw [← hm] at ho
      have hm2 : ((m : Int) == 124) = false := by simp; omega
      have HM := Lib.hid ho
      rw [hse] at HO
      clear hm ho hse h4 h128 hn hc hl hx
      go_enter Try.func23, Try.ntmps23
      go_wp2_with fail
      refine (HO _ ((Ext.refl w).alloc _)).mono ?_
      rintro e w1 ⟨v1, rfl, o1, x1⟩
      have hb : w1.heap[w.heap.size]? = some (.cells (supCells sup0) 38 (0, 0)) := x1.heap (heap_alloc_new w _)
      obtain ⟨c0, c1, c2, c3, c4, c5, c6, c7, cf⟩ := sup_cells hb
      obtain ⟨A1, d1, rfl, e1, y1⟩ := o1.octs_form
      rw [HM.out] at e1 ⊢
      clear y1 o1 e1
      go_wp2_with fail
      refine bodyPost_ret (ret_sup rfl _ _ w.heap.size sup0 false rfl (setSup_heap hb sup0) rfl) rfl ?_
      exact ⟨rfl, setSup_ext (((Ext.refl w).alloc _).trans x1) (Nat.le_refl _) sup0⟩
end Go.Proofs.Ytanmjmeabcloiaa
