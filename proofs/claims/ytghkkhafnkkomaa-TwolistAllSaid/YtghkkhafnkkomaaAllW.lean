/- Victims, each removed, are all that are not held: the law's walk. -/
import Derived.Test.YtghkkhafnkkomaaTp2
import Derived.Test.YtghkkhafnkkomaaTurns
namespace Go.Proofs.Ytghkkhafnkkomaa
open Go.RowKit
open Go.Proofs



set_option maxRecDepth 100000 in
set_option maxHeartbeats 1000000 in
theorem f6_walk (n : Int) (T H : Option Addr) (tl hl : List Int) (m1 m2 c1 c2 : Nat) (w : World) (h1 : tl.length = m1) (h2 : hl.length = m2) (hm1 : m1 ≤ 9223372036854775807) (hm2 : m2 ≤ 9223372036854775807)
    (hx : Cells w T (ints tl)) (hy : Cells w H (ints hl)) :
    Calls Try.prog 6 #[.int .i64 n, .slice T m1 c1, .slice H m2 c2] w fun e w' => e = .returned (.bool true) ∧ Ext w w' := by
  have H1 := Lib.hid h1
  have H2 := Lib.hid h2
  clear h1 h2
  by_cases g1 : 60 < m1
  · go_enter Try.func6, Try.ntmps6
    go_wp2_with fail
    refine (f15_any w).mono ?_
    rintro e w1 ⟨rfl, hx1⟩
    go_wp2_with fail
    refine (f15_any w1).mono ?_
    rintro e w2 ⟨rfl, hx2⟩
    go_wp2_with fail
    go_ret
    exact ⟨rfl, hx1.trans hx2⟩
  by_cases g2 : 60 < m2
  · go_enter Try.func6, Try.ntmps6
    go_wp2_with fail
    refine (f15_any w).mono ?_
    rintro e w1 ⟨rfl, hx1⟩
    go_wp2_with fail
    refine (f15_any w1).mono ?_
    rintro e w2 ⟨rfl, hx2⟩
    go_wp2_with fail
    go_ret
    exact ⟨rfl, hx1.trans hx2⟩
  have g3 : m1 ≤ 60 := by omega
  have g4 : m2 ≤ 60 := by omega
  clear g1 g2 hm1 hm2
  obtain ⟨a0, a1, ha0, ha1, ha2, ha3, ha4⟩ := round_two n 30 (by decide)
  replace ha0 : n.tmod 30 = a0 := ha0
  replace ha3 : (a0 + 30).tmod 30 = (a1 : Int) := ha3
  obtain ⟨K, hK⟩ : ∃ K, K = 1 + a1 := ⟨_, rfl⟩
  have hw1 : IntKind.i64.wrap (a0 + 30) = a0 + 30 := IntWalk.i64_in _ (by omega)
  have hw2 : (1 : Int) + (a1 : Int) = (K : Int) := by omega
  have hw3 : IntKind.i64.wrap (K : Int) = (K : Int) := IntWalk.i64_in _ (by omega)
  have hK1 : 1 ≤ K ∧ K ≤ 30 := by omega
  obtain ⟨hK2, hK3⟩ := hK1
  clear hK ha1 ha2 ha4
  go_enter Try.func6, Try.ntmps6
  go_wp2_with fail
  refine (f15_any w).mono ?_
  rintro e w1 ⟨rfl, hx1⟩
  go_wp2_with fail
  refine (f16_good (K : Int) w1 (by omega) (by omega)).mono ?_
  rintro e w2 ⟨rfl, ht2, hx2, hs2⟩
  have hk : w1.heap.size < w2.heap.size := by omega
  have hkb := hx1.size
  generalize w1.heap.size = k at *
  obtain ⟨F, hF⟩ : ∃ F : Nat → Prop, F = (fun b => b = k) := ⟨_, rfl⟩
  have hWi : Within F w.heap.size w2 := fun b x => by rw [hF] at x; exact ⟨by rw [x]; exact hkb, by rw [x]; exact hk⟩
  rw [← hF] at ht2
  have hxr := hx1.trans hx2
  clear hs2 hF hk hkb
  go_wp2_with fail
  go_loopg [10] K (fun g i wr => ∃ (j : Nat) (G : Nat → Prop), j ≤ K ∧ K - j ≤ g ∧ i = .int .i64 j ∧ TL wr 85 k G K [] (iota j) ∧ Within G w.heap.size wr ∧ Ext w wr)
  case atStart => exact ⟨0, F, by omega, by omega, rfl, ht2, hWi, hxr⟩
  case round =>
    obtain ⟨j, G, hj, hg, rfl, ht, hWi, hxr⟩ := hrel
    by_cases hlt : j < K
    · have HA := f17_any k G (K : Int) (j : Int) [] (iota j) wr (by rw [iota_length]; simp; omega) ht
      rw [tAdd_iota (K : Int) j (by omega)] at HA
      have hji : (j : Int) < (K : Int) := by omega
      go_wp2_with (go_at_call 17; refine HA.mono ?_; clear HA; rintro e w3 ⟨rfl, t3, u3⟩)
      go_roundg (K - (j + 1))
      case measure => omega
      case rel => exact ⟨j + 1, Since G wr w3, by omega, by omega, by go_num, t3, hWi.since u3 hxr.size, hxr.trans' u3 (fun b e => (hWi b e).1)⟩
    · obtain rfl : j = K := by omega
      clear hg hlt hj
      go_wp2_with fail
      go_loopg [11] m1 (fun g i wr => ∃ (m : Nat) (G : Nat → Prop) (A I : List Int), m ≤ m1 ∧ m1 - m ≤ g ∧ i = .int .i64 m ∧ TL wr 85 k G j A I ∧ Within G w.heap.size wr ∧ Ext w wr ∧ Good j A I)
      case atStart => exact ⟨0, G, [], iota j, by omega, by omega, rfl, ht, hWi, hxr, good_iota j⟩
      case round =>
        clear ht hWi hxr
        obtain ⟨m, G, A, I, hj, hg, rfl, ht, hWi, hxr, hgd⟩ := hrel
        have hAI := hgd.length
        by_cases hlt : m < m1
        · obtain ⟨x, hxg⟩ : ∃ x, tl[m]? = some x := ⟨_, List.getElem?_eq_getElem (by rw [H1.out]; exact hlt)⟩
          obtain ⟨b, o, rfl, hcell⟩ := (hx.ext hxr).at_ (k := m) (u := .int .i64 x) (by simp [ints, hxg])
          have HT := f18_any k G (j : Int) x A I wr (by omega) ht
          have hmj : (m : Int) < (m1 : Int) := by omega
          clear hxg hAI
          go_wp2_with (go_at_call 18; refine HT.mono ?_; clear HT; rintro e w3 ⟨rfl, t3, u3⟩)
          go_roundg (m1 - (m + 1))
          case measure => omega
          case rel => exact ⟨m + 1, Since G wr w3, _, _, by omega, by omega, by go_num, t3, hWi.since u3 hxr.size, hxr.trans' u3 (fun b e => (hWi b e).1), hgd.touch x⟩
        · obtain rfl : m = m1 := by omega
          have HG := Lib.hid hgd
          have H20 := f20_any k G (j : Int) A I wr (by omega) ht
          obtain ⟨a, ha⟩ : ∃ a, a = A.length := ⟨_, rfl⟩
          obtain ⟨c, hc⟩ : ∃ c, c = I.length := ⟨_, rfl⟩
          obtain ⟨q, hq⟩ : ∃ q, q = (j + 1) / 2 := ⟨_, rfl⟩
          have hqa : ((q : Int) < (a : Int)) = False := by
            have := hgd.2
            simp; omega
          have hac : (a : Int) + (c : Int) = (j : Int) := by omega
          have hq1 : Int.tdiv ((j : Int) + 1) 2 = (q : Int) := by rw [Int.tdiv_eq_ediv_of_nonneg (by omega)]; omega
          have hq2 : IntKind.i64.wrap (q : Int) = (q : Int) := IntWalk.i64_in _ (by omega)
          have hq3 : IntKind.i64.wrap ((j : Int) + 1) = (j : Int) + 1 := IntWalk.i64_in _ (by omega)
          have Ha := Lib.hid ha
          have Hc := Lib.hid hc
          have hAI2 := Lib.hid hAI
          clear hgd hg hlt hj hq ha hc hAI
          go_wp2_with (go_at_call 20; refine H20.mono ?_; clear H20; rintro e w4 ⟨v4, rfl, o4, x4⟩; obtain ⟨A4, d4, rfl, _, _⟩ := o4.ints_form; rw [← Ha.out])
          refine (f20_any k G (j : Int) A I w4 (by have := hAI2.out; have := Ha.out; omega) (ht.ext x4)).mono ?_
          rintro e w5 ⟨v5, rfl, o5, x5⟩
          obtain ⟨A5, d5, rfl, _, _⟩ := o5.ints_form
          rw [← Ha.out]
          have t5 := ht.ext (x4.trans x5)
          have H21 := f21_any k G (j : Int) A I w5 (by have := hAI2.out; have := Hc.out; omega) t5
          go_wp2_with (go_at_call 21; refine H21.mono ?_; clear H21; rintro e w6 ⟨v6, rfl, o6, x6⟩; obtain ⟨A6, d6, rfl, _, _⟩ := o6.ints_form; rw [← Hc.out])
          have y6 := hxr.trans ((x4.trans x5).trans x6)
          have t6 := t5.ext x6
          have W6 := hWi.le ((x4.trans x5).trans x6).size
          have hB0 : Bools (w6.alloc (.cells #[.bool false, .bool false, .bool false, .bool false, .bool false, .bool false, .bool false, .bool false, .bool false, .bool false, .bool false, .bool false, .bool false, .bool false, .bool false, .bool false, .bool false, .bool false, .bool false, .bool false, .bool false, .bool false, .bool false, .bool false, .bool false, .bool false, .bool false, .bool false, .bool false, .bool false] 52)) 52 w6.heap.size 30 (fun _ => false) := by
            refine ⟨_, heap_alloc_new w6 _, rfl, fun i hi => ?_⟩
            show (Array.replicate 30 (Value.bool false))[i]? = _
            simp [hi]
          have eB : Ext w6 (w6.alloc (.cells #[.bool false, .bool false, .bool false, .bool false, .bool false, .bool false, .bool false, .bool false, .bool false, .bool false, .bool false, .bool false, .bool false, .bool false, .bool false, .bool false, .bool false, .bool false, .bool false, .bool false, .bool false, .bool false, .bool false, .bool false, .bool false, .bool false, .bool false, .bool false, .bool false, .bool false] 52)) := (Ext.refl _).alloc _
          have tB := t6.ext eB
          have yB := y6.trans eB
          have WB := W6.le eB.size
          have nG : ¬ G w6.heap.size := fun e => by have := (W6 _ e).2; omega
          have nB := y6.size
          generalize w6.alloc (.cells #[.bool false, .bool false, .bool false, .bool false, .bool false, .bool false, .bool false, .bool false, .bool false, .bool false, .bool false, .bool false, .bool false, .bool false, .bool false, .bool false, .bool false, .bool false, .bool false, .bool false, .bool false, .bool false, .bool false, .bool false, .bool false, .bool false, .bool false, .bool false, .bool false, .bool false] 52) = wb at *
          generalize w6.heap.size = B at *
          clear x4 x5 x6 t5 t6 ht hxr hWi W6 y6 eB o4 o5 o6
          go_loopg [13, 14] j (fun g l i wr => ∃ (q : Nat) (gs : Nat → Bool), q ≤ j ∧ j - q ≤ g ∧ i = .int .i64 q ∧ l = .int .i64 (cnt gs j) ∧ Bools wr 52 B 30 gs ∧ TL wr 85 k G j A I ∧ Within G w.heap.size wr ∧ Ext w wr ∧ Hid (∀ i, gs i = (decide (i < q) && decide ((i : Int) ∈ hl))))
          case atStart => exact ⟨0, fun _ => false, by omega, by omega, rfl, by rw [cnt_none], hB0, tB, WB, yB, fun i => by simp⟩
          case round =>
            clear hB0 tB WB yB
            obtain ⟨q, gs, hj, hg, rfl, rfl, hB, ht, hWi, hxr, hgs⟩ := hrel
            by_cases hlt : q < j
            · have hqj : (q : Int) < (j : Int) := by omega
              have hyq := hy.ext hxr
              go_wp2_with fail
              go_loopg [15, 16] m2 (fun g z i wr' => ∃ (r : Nat) (z' : Bool), r ≤ m2 ∧ m2 - r ≤ g ∧ i = .int .i64 r ∧ z = .bool z' ∧ Hid (z' = decide ((q : Int) ∈ hl.take r)) ∧ wr' = wr)
              case atStart => exact ⟨0, false, by omega, by omega, rfl, rfl, by unfold Hid; simp, rfl⟩
              case round =>
                obtain ⟨r, z, hr, hg2, rfl, rfl, hz, rfl⟩ := hrel
                by_cases hlr : r < m2
                · have hrm : (r : Int) < (m2 : Int) := by omega
                  obtain ⟨h, hhg⟩ : ∃ h, hl[r]? = some h := ⟨_, List.getElem?_eq_getElem (by rw [H2.out]; exact hlr)⟩
                  have hts : Hid (∀ z, z ∈ hl.take (r + 1) ↔ (z ∈ hl.take r ∨ z = h)) := fun z => by
                    have hl' : r < hl.length := by rw [H2.out]; exact hlr
                    rw [List.take_succ_eq_append_getElem hl', List.mem_append, List.mem_singleton]
                    rw [List.getElem?_eq_getElem hl'] at hhg
                    rw [Option.some.inj hhg]
                  cases z with
                  | true =>
                    clear hhg
                    go_wp2_with fail
                    go_roundg (m2 - (r + 1))
                    case measure => omega
                    case rel =>
                      refine ⟨r + 1, true, by omega, by omega, by go_num, rfl, ?_, rfl⟩
                      unfold Hid
                      rw [eq_comm, decide_eq_true_iff, hts.out]
                      exact .inl (of_decide_eq_true hz.out.symm)
                  | false =>
                    obtain ⟨b6, o6, rfl, hcell6⟩ := hyq.at_ (k := r) (u := .int .i64 h) (by simp [ints, hhg])
                    clear hhg hyq
                    go_wp2_with fail
                    go_roundg (m2 - (r + 1))
                    case measure => omega
                    case rel =>
                      refine ⟨r + 1, decide (h = (q : Int)), by omega, by omega, by go_num, val_bool (by simp [Bool.beq_eq_decide_eq]), ?_, rfl⟩
                      unfold Hid
                      have hn := of_decide_eq_false hz.out.symm
                      have := hts.out (q : Int)
                      by_cases e : h = (q : Int)
                      · subst e
                        rw [decide_eq_true rfl, eq_comm, decide_eq_true_iff, this]
                        exact .inr rfl
                      · rw [decide_eq_false e, eq_comm, decide_eq_false_iff_not, this]
                        rintro (h2 | h2)
                        · exact hn h2
                        · exact e h2.symm
                · obtain rfl : r = m2 := by omega
                  rw [← H2.out, List.take_length] at hz
                  have hgq : gs q = false := by rw [hgs.out]; simp
                  cases z with
                  | true =>
                    have hq30 : (q : Int) < 30 := by omega
                    have hq31 : q < 30 := by omega
                    obtain ⟨cB, fB⟩ := hB.cell hq31
                    rw [hgq] at cB
                    have hcs := cnt_set gs q hgq j hlt
                    have hcw : IntKind.i64.wrap ((cnt gs j : Int) - 1) = ((cnt (updB gs q) j : Nat) : Int) := by
                      have := cnt_le gs j
                      rw [IntWalk.i64_in _ (by omega)]; omega
                    have HCW := Lib.hid hcs
                    have hBs := hB.set hq31
                    clear hcs hgq hB
                    go_wp2_with fail
                    go_roundg (j - (q + 1))
                    case measure => omega
                    case rel =>
                      have uB : Upd (fun b => b = B) wr (wr.setCell ⟨B, q, none⟩ (.bool true)) := (Upd.refl (fun b => b = B) wr).setCell (p := ⟨B, q, none⟩) (.inl rfl) _
                      refine ⟨q + 1, updB gs q, by omega, by omega, by go_num, by first | rfl | (go_num), hBs, ht.upd uB (fun b x e => nG (by rw [← e]; exact x)), hWi.le (by simp), hxr.trans' uB (fun b e => by rw [e]; exact nB), (show Hid _ from fun i => ?_)⟩
                      unfold updB
                      have hqm := of_decide_eq_true hz.out.symm
                      by_cases e : i = q
                      · subst e
                        rw [if_pos rfl, decide_eq_true hqm, decide_eq_true (by omega)]
                        rfl
                      · rw [if_neg e, hgs.out i]
                        congr 1
                        rw [decide_eq_decide]
                        omega
                  | false =>
                    clear hgq
                    go_wp2_with fail
                    go_roundg (j - (q + 1))
                    case measure => omega
                    case rel =>
                      refine ⟨q + 1, gs, by omega, by omega, by go_num, rfl, hB, ht, hWi, hxr, (show Hid _ from fun i => ?_)⟩
                      have hqm := of_decide_eq_false hz.out.symm
                      by_cases e : i = q
                      · subst e
                        rw [hgs.out i, decide_eq_false hqm, Bool.and_false, Bool.and_false]
                      · rw [hgs.out i]
                        congr 1
                        rw [decide_eq_decide]
                        omega
            · obtain rfl : q = j := by omega
              have hgo : Going q hl gs A I := HG.out.going (fun i hi => by rw [hgs.out i, decide_eq_true hi, Bool.true_and])
              have hleft := cnt_le gs q
              clear hg hlt hj hgs
              go_wp2_with fail
              go_loopg [13] (cnt gs q) (fun g l wr => ∃ (gs : Nat → Bool) (A I : List Int) (G : Nat → Prop), cnt gs q ≤ g ∧ l = .int .i64 (cnt gs q) ∧ Bools wr 52 B 30 gs ∧ TL wr 85 k G q A I ∧ Within G w.heap.size wr ∧ ¬ G B ∧ Ext w wr ∧ Going q hl gs A I ∧ A.length + I.length ≤ q)
              case atStart => exact ⟨gs, A, I, G, Nat.le_refl _, rfl, hB, ht, hWi, nG, hxr, hgo, by have := hAI2.out; have := Ha.out; have := Hc.out; omega⟩
              case round =>
                clear hB ht hWi nG hxr hgo hleft HG hAI2 Ha Hc
                obtain ⟨gs, A, I, G, hg, rfl, hB, ht, hWi, nG, hxr, hgo, hAI⟩ := hrel
                have HV := f19_any k G (q : Int) A I H hl c2 wr (by omega) (by rw [H2.out]; omega) ht (hy.ext hxr)
                rw [H2.out] at HV
                have hcl := cnt_le gs q
                by_cases hpos : 0 < cnt gs q
                · obtain ⟨i, hi, hv, hgi⟩ := hgo.victim hpos
                  rw [hv] at HV
                  have hgo2 := hgo.remove hi hgi
                  have hcs := cnt_set gs i hgi q hi
                  have hcw : IntKind.i64.wrap ((cnt gs q : Int) - 1) = ((cnt (updB gs i) q : Nat) : Int) := by
                    rw [IntWalk.i64_in _ (by omega)]; omega
                  have HCW := Lib.hid hcs
                  have hpz : (0 : Int) < (cnt gs q : Int) := by omega
                  have hi30 : (i : Int) < 30 := by omega
                  have hi31 : i < 30 := by omega
                  have hiq : (i : Int) < (q : Int) := by omega
                  have hiz : ((i : Int) < 0) = False := by simp
                  have HGO := Lib.hid hgo2
                  have hlen2 : (tRemove (i : Int) A I).1.length + (tRemove (i : Int) A I).2.length ≤ q := by
                    have h1 := (even_perm (A.erase (i : Int)) (I.erase (i : Int))).length_eq
                    have h2 := erase_le A (i : Int)
                    have h3 := erase_le I (i : Int)
                    unfold tRemove
                    simp only [List.length_append] at h1
                    omega
                  clear hcs hgo hv hpos hgo2
                  go_wp2_with (first
                    | (go_at_call 19; refine HV.mono ?_; clear HV; rintro e w3 ⟨rfl, x3⟩; have B3 := hB.ext x3; obtain ⟨cB, fB⟩ := B3.cell hi31; rw [hgi] at cB; have uB : Upd (fun b => b = B) w3 (w3.setCell ⟨B, i, none⟩ (.bool true)) := (Upd.refl (fun b => b = B) w3).setCell (p := ⟨B, i, none⟩) (.inl rfl) _; have tB := (ht.ext x3).upd uB (fun b x e => nG (by rw [← e]; exact x)); have WB := (hWi.le x3.size).le uB.size; have yB : Ext w (w3.setCell ⟨B, i, none⟩ (.bool true)) := (hxr.trans x3).trans' uB (fun b e => by rw [e]; exact nB); have HR := f30_any k G (q : Int) (i : Int) A I (w3.setCell ⟨B, i, none⟩ (.bool true)) (by omega) tB)
                    | (go_at_call 30; refine HR.mono ?_; clear HR; rintro e w4 ⟨rfl, t4, u4⟩))
                  go_roundg (cnt (updB gs i) q)
                  case measure => have := HCW.out; omega
                  case rel =>
                    have hBs := B3.set hi31
                    refine ⟨updB gs i, _, _, Since G (w3.setCell ⟨B, i, none⟩ (.bool true)) w4, Nat.le_refl _, by first | rfl | go_num, hBs.upd u4 nG, t4, WB.since u4 yB.size, fun x => ?_, yB.trans' u4 (fun b e => (WB b e).1), HGO.out, hlen2⟩
                    rcases x with x | x
                    · exact nG x
                    · have := B3.lt
                      simp at x
                      omega
                · have hz : cnt gs q = 0 := by omega
                  rw [hgo.none hz] at HV
                  have hpz : ((0 : Int) < (cnt gs q : Int)) = False := by simp; omega
                  clear hpos hgo
                  go_wp2_with (go_at_call 19; refine HV.mono ?_; clear HV; rintro e w3 ⟨rfl, x3⟩)
                  go_ret
                  exact ⟨rfl, hxr.trans x3⟩
end Go.Proofs.Ytghkkhafnkkomaa
