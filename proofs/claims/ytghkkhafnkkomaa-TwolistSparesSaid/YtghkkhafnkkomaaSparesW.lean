/- No active place is let go while an inactive one is not held: the law's walk. -/
import Derived.Test.YtghkkhafnkkomaaTp
import Derived.Test.YtghkkhafnkkomaaTurns
namespace Go.Proofs.Ytghkkhafnkkomaa
open Go.RowKit
open Go.Proofs



set_option maxRecDepth 100000 in
set_option maxHeartbeats 1000000 in
theorem f3_walk (n : Int) (T H : Option Addr) (tl hl : List Int) (m1 m2 c1 c2 : Nat) (w : World) (h1 : tl.length = m1) (h2 : hl.length = m2) (hm1 : m1 ≤ 9223372036854775807) (hm2 : m2 ≤ 9223372036854775807)
    (hx : Cells w T (ints tl)) (hy : Cells w H (ints hl)) :
    Calls Try.prog 3 #[.int .i64 n, .slice T m1 c1, .slice H m2 c2] w fun e w' => e = .returned (.bool true) ∧ Ext w w' := by
  have H1 := Lib.hid h1
  have H2 := Lib.hid h2
  clear h1 h2
  by_cases g1 : 60 < m1
  · go_enter Try.func3, Try.ntmps3
    go_wp2_with fail
    refine (f15_any w).mono ?_
    rintro e w1 ⟨rfl, hx1⟩
    go_wp2_with fail
    refine (f15_any w1).mono ?_
    rintro e w2 ⟨rfl, hx2⟩
    go_wp2_with fail
    go_ret
    exact ⟨rfl, hx1.trans hx2⟩
  by_cases g2 : 60 < m2
  · go_enter Try.func3, Try.ntmps3
    go_wp2_with fail
    refine (f15_any w).mono ?_
    rintro e w1 ⟨rfl, hx1⟩
    go_wp2_with fail
    refine (f15_any w1).mono ?_
    rintro e w2 ⟨rfl, hx2⟩
    go_wp2_with fail
    go_ret
    exact ⟨rfl, hx1.trans hx2⟩
  have g3 : m1 ≤ 60 := by omega
  have g4 : m2 ≤ 60 := by omega
  clear g1 g2 hm1 hm2
  obtain ⟨a0, a1, ha0, ha1, ha2, ha3, ha4⟩ := round_two n 30 (by decide)
  replace ha0 : n.tmod 30 = a0 := ha0
  replace ha3 : (a0 + 30).tmod 30 = (a1 : Int) := ha3
  obtain ⟨K, hK⟩ : ∃ K, K = 1 + a1 := ⟨_, rfl⟩
  have hw1 : IntKind.i64.wrap (a0 + 30) = a0 + 30 := IntWalk.i64_in _ (by omega)
  have hw2 : (1 : Int) + (a1 : Int) = (K : Int) := by omega
  have hw3 : IntKind.i64.wrap (K : Int) = (K : Int) := IntWalk.i64_in _ (by omega)
  have hK1 : 1 ≤ K ∧ K ≤ 30 := by omega
  obtain ⟨hK2, hK3⟩ := hK1
  clear hK ha1 ha2 ha4
  go_enter Try.func3, Try.ntmps3
  go_wp2_with fail
  refine (f15_any w).mono ?_
  rintro e w1 ⟨rfl, hx1⟩
  go_wp2_with fail
  refine (f16_good (K : Int) w1 (by omega) (by omega)).mono ?_
  rintro e w2 ⟨rfl, ht2, hx2, hs2⟩
  have hk : w1.heap.size < w2.heap.size := by omega
  have hkb := hx1.size
  generalize w1.heap.size = k at *
  obtain ⟨F, hF⟩ : ∃ F : Nat → Prop, F = (fun b => b = k) := ⟨_, rfl⟩
  have hWi : Within F w.heap.size w2 := fun b x => by rw [hF] at x; exact ⟨by rw [x]; exact hkb, by rw [x]; exact hk⟩
  rw [← hF] at ht2
  have hxr := hx1.trans hx2
  clear hs2 hF hk hkb
  go_wp2_with fail
  go_loopg [10] K (fun g i wr => ∃ (j : Nat) (G : Nat → Prop), j ≤ K ∧ K - j ≤ g ∧ i = .int .i64 j ∧ TL wr 85 k G K [] (iota j) ∧ Within G w.heap.size wr ∧ Ext w wr)
  case atStart => exact ⟨0, F, by omega, by omega, rfl, ht2, hWi, hxr⟩
  case round =>
    obtain ⟨j, G, hj, hg, rfl, ht, hWi, hxr⟩ := hrel
    by_cases hlt : j < K
    · have HA := f17_any k G (K : Int) (j : Int) [] (iota j) wr (by rw [iota_length]; simp; omega) ht
      rw [tAdd_iota (K : Int) j (by omega)] at HA
      have hji : (j : Int) < (K : Int) := by omega
      go_wp2_with (go_at_call 17; refine HA.mono ?_; clear HA; rintro e w3 ⟨rfl, t3, u3⟩)
      go_roundg (K - (j + 1))
      case measure => omega
      case rel => exact ⟨j + 1, Since G wr w3, by omega, by omega, by go_num, t3, hWi.since u3 hxr.size, hxr.trans' u3 (fun b e => (hWi b e).1)⟩
    · obtain rfl : j = K := by omega
      clear hg hlt hj
      go_wp2_with fail
      go_loopg [11] m1 (fun g i wr => ∃ (m : Nat) (G : Nat → Prop) (A I : List Int), m ≤ m1 ∧ m1 - m ≤ g ∧ i = .int .i64 m ∧ TL wr 85 k G j A I ∧ Within G w.heap.size wr ∧ Ext w wr ∧ Good j A I)
      case atStart => exact ⟨0, G, [], iota j, by omega, by omega, rfl, ht, hWi, hxr, good_iota j⟩
      case round =>
        clear ht hWi hxr
        obtain ⟨m, G, A, I, hj, hg, rfl, ht, hWi, hxr, hgd⟩ := hrel
        have hAI := hgd.length
        by_cases hlt : m < m1
        · obtain ⟨x, hxg⟩ : ∃ x, tl[m]? = some x := ⟨_, List.getElem?_eq_getElem (by rw [H1.out]; exact hlt)⟩
          obtain ⟨b, o, rfl, hcell⟩ := (hx.ext hxr).at_ (k := m) (u := .int .i64 x) (by simp [ints, hxg])
          have HT := f18_any k G (j : Int) x A I wr (by omega) ht
          have hmj : (m : Int) < (m1 : Int) := by omega
          clear hxg hAI
          go_wp2_with (go_at_call 18; refine HT.mono ?_; clear HT; rintro e w3 ⟨rfl, t3, u3⟩)
          go_roundg (m1 - (m + 1))
          case measure => omega
          case rel => exact ⟨m + 1, Since G wr w3, _, _, by omega, by omega, by go_num, t3, hWi.since u3 hxr.size, hxr.trans' u3 (fun b e => (hWi b e).1), hgd.touch x⟩
        · obtain rfl : m = m1 := by omega
          have HV := f19_any k G (j : Int) A I H hl c2 wr (by omega) (by rw [H2.out]; omega) ht (hy.ext hxr)
          rw [H2.out] at HV
          have hspare := victim_spares (held := hl) hgd
          generalize victim hl A I = v at HV hspare
          have HS := Lib.hid hspare
          have HG := Lib.hid hgd
          clear hspare hgd hg hlt hj
          go_wp2_with (go_at_call 19; refine HV.mono ?_; clear HV; rintro e w3 ⟨rfl, x3⟩)
          refine (f20_any k G (j : Int) A I w3 (by omega) (ht.ext x3)).mono ?_
          rintro e w4 ⟨v4, rfl, o4, x4⟩
          obtain ⟨A4, d4, rfl, hd4, hx4⟩ := o4.ints_form
          have y4 := hxr.trans (x3.trans x4)
          have t4 := ht.ext (x3.trans x4)
          clear ht hWi hxr x3 x4 o4
          obtain ⟨a, ha⟩ : ∃ a, a = A.length := ⟨_, rfl⟩
          rw [← ha] at hd4 hAI ⊢
          have Ha := Lib.hid ha
          clear ha
          go_wp2_with fail
          go_loopg [13, 15] a (fun g q i wr => ∃ (m : Nat) (b : Bool), m ≤ a ∧ a - m ≤ g ∧ i = .int .i64 m ∧ q = .bool b ∧ Hid (b = decide (v ∈ A.take m)) ∧ wr = w4)
          case atStart => exact ⟨0, false, by omega, by omega, rfl, rfl, by unfold Hid; simp, rfl⟩
          case round =>
            obtain ⟨m, b, hj, hg, rfl, rfl, hb, rfl⟩ := hrel
            by_cases hlt : m < a
            · have hma : (m : Int) < (a : Int) := by omega
              obtain ⟨y, hyg⟩ : ∃ y, A[m]? = some y := ⟨_, List.getElem?_eq_getElem (by rw [← Ha.out]; exact hlt)⟩
              have hts : Hid (∀ z, z ∈ A.take (m + 1) ↔ (z ∈ A.take m ∨ z = y)) := fun z => by
                have hl : m < A.length := by rw [← Ha.out]; exact hlt
                rw [List.take_succ_eq_append_getElem hl, List.mem_append, List.mem_singleton]
                rw [List.getElem?_eq_getElem hl] at hyg
                rw [Option.some.inj hyg]
              cases b with
              | true =>
                clear hyg
                go_wp2_with fail
                go_roundg (a - (m + 1))
                case measure => omega
                case rel =>
                  refine ⟨m + 1, true, by omega, by omega, by go_num, rfl, ?_, rfl⟩
                  unfold Hid
                  rw [eq_comm, decide_eq_true_iff, hts.out]
                  exact .inl (of_decide_eq_true hb.out.symm)
              | false =>
                obtain ⟨b4, o4, rfl, hcell⟩ := hx4.at_ (k := m) (u := .int .i64 y) (by simp [ints, hyg])
                clear hyg hx4
                by_cases hyv : y = v
                · subst hyv
                  go_wp2_with fail
                  go_roundg (a - (m + 1))
                  case measure => omega
                  case rel =>
                    refine ⟨m + 1, true, by omega, by omega, by go_num, rfl, ?_, rfl⟩
                    unfold Hid
                    rw [eq_comm, decide_eq_true_iff, hts.out]
                    exact .inr rfl
                · go_wp2_with fail
                  go_roundg (a - (m + 1))
                  case measure => omega
                  case rel =>
                    refine ⟨m + 1, false, by omega, by omega, by go_num, val_bool (by simpa using hyv), ?_, rfl⟩
                    unfold Hid
                    rw [eq_comm, decide_eq_false_iff_not, hts.out]
                    rintro (h | h)
                    · exact of_decide_eq_false hb.out.symm h
                    · exact hyv h.symm
            · obtain rfl : m = a := by omega
              rw [Ha.out, List.take_length] at hb
              have H21 := f21_any k G (j : Int) A I wr (by omega) t4
              clear hg hlt hj hx4
              go_wp2_with (go_at_call 21; refine H21.mono ?_; clear H21; rintro e w5 ⟨v5, rfl, o5, x5⟩)
              obtain ⟨A5, d5, rfl, hd5, hx5⟩ := o5.ints_form
              have y5 := y4.trans x5
              obtain ⟨c, hc⟩ : ∃ c, c = I.length := ⟨_, rfl⟩
              rw [← hc] at hd5 hAI ⊢
              have Hc := Lib.hid hc
              have hc60 : c ≤ 60 := by omega
              clear hc t4 o5 x5 hAI hd4 hd5 y4
              have hy5 := hy.ext y5
              go_wp2_with fail
              go_loopg [17] c (fun g i wr => ∃ (q : Nat), q ≤ c ∧ c - q ≤ g ∧ i = .int .i64 q ∧ Ext w5 wr)
              case atStart => exact ⟨0, by omega, by omega, rfl, Ext.refl _⟩
              case round =>
                obtain ⟨q, hj, hg, rfl, hxq⟩ := hrel
                have y6 := y5.trans hxq
                by_cases hlt : q < c
                · have hqc : (q : Int) < (c : Int) := by omega
                  cases b with
                  | false =>
                    go_wp2_with fail
                    go_ret
                    exact ⟨rfl, y6⟩
                  | true =>
                    obtain ⟨y, hyg⟩ : ∃ y, I[q]? = some y := ⟨_, List.getElem?_eq_getElem (by rw [← Hc.out]; exact hlt)⟩
                    have hmem : Hid (y ∈ hl) := HS.out (of_decide_eq_true hb.out.symm) y (List.mem_of_getElem? hyg)
                    obtain ⟨b5, o5, rfl, hcell5⟩ := hx5.at_ (k := q) (u := .int .i64 y) (by simp [ints, hyg])
                    have hcellq := hxq.cell hcell5
                    have hyq := hy5.ext hxq
                    clear hyg hx5 hcell5 hy5
                    go_wp2_with fail
                    go_loopg [18, 19] m2 (fun g z i wr' => ∃ (r : Nat) (z' : Bool), r ≤ m2 ∧ m2 - r ≤ g ∧ i = .int .i64 r ∧ z = .bool z' ∧ Hid (z' = decide (y ∈ hl.take r)) ∧ ∃ t, wr' = wr.drewN t)
                    case atStart => exact ⟨0, false, by omega, by omega, rfl, rfl, by unfold Hid; simp, 0, rfl⟩
                    case round =>
                      obtain ⟨r, z, hr, hg2, rfl, rfl, hz, t, rfl⟩ := hrel
                      by_cases hlr : r < m2
                      · have hrm : (r : Int) < (m2 : Int) := by omega
                        obtain ⟨h, hhg⟩ : ∃ h, hl[r]? = some h := ⟨_, List.getElem?_eq_getElem (by rw [H2.out]; exact hlr)⟩
                        have hts : Hid (∀ z, z ∈ hl.take (r + 1) ↔ (z ∈ hl.take r ∨ z = h)) := fun z => by
                          have hl' : r < hl.length := by rw [H2.out]; exact hlr
                          rw [List.take_succ_eq_append_getElem hl', List.mem_append, List.mem_singleton]
                          rw [List.getElem?_eq_getElem hl'] at hhg
                          rw [Option.some.inj hhg]
                        cases z with
                        | true =>
                          clear hhg
                          go_wp2_with fail
                          go_quiet (fail)
                          go_wp2_with fail
                          go_roundg (m2 - (r + 1))
                          case measure => omega
                          case rel =>
                            refine ⟨r + 1, true, by omega, by omega, by go_num, rfl, ?_, t + nq, by simp [World.drewN]⟩
                            unfold Hid
                            rw [eq_comm, decide_eq_true_iff, hts.out]
                            exact .inl (of_decide_eq_true hz.out.symm)
                        | false =>
                          obtain ⟨b6, o6, rfl, hcell6⟩ := hyq.at_ (k := r) (u := .int .i64 h) (by simp [ints, hhg])
                          clear hhg hyq
                          go_wp2_with fail
                          go_quiet (fail)
                          go_wp2_with fail
                          go_roundg (m2 - (r + 1))
                          case measure => omega
                          case rel =>
                            refine ⟨r + 1, decide (h = y), by omega, by omega, by go_num, val_bool (by simp [Bool.beq_eq_decide_eq]), ?_, t + nq, by simp [World.drewN]⟩
                            unfold Hid
                            have hn := of_decide_eq_false hz.out.symm
                            have := hts.out y
                            by_cases e : h = y
                            · subst e
                              rw [decide_eq_true rfl, eq_comm, decide_eq_true_iff, this]
                              exact .inr rfl
                            · rw [decide_eq_false e, eq_comm, decide_eq_false_iff_not, this]
                              rintro (h2 | h2)
                              · exact hn h2
                              · exact e h2.symm
                      · obtain rfl : r = m2 := by omega
                        have hzt : z = true := by
                          have := hz.out
                          rw [← H2.out, List.take_length] at this
                          rw [this, decide_eq_true_iff]
                          exact hmem.out
                        subst hzt
                        go_wp2_with fail
                        go_roundg (c - (q + 1))
                        case measure => omega
                        case rel => exact ⟨q + 1, by omega, by omega, by go_num, hxq.drewN t⟩
                · obtain rfl : q = c := by omega
                  go_wp2_with fail
                  go_ret
                  exact ⟨rfl, y6⟩
end Go.Proofs.Ytghkkhafnkkomaa
