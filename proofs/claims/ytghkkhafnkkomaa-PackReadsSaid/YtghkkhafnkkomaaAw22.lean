/- The document's comparison of two lists of ints, and the example of layer 22. -/
import Derived.Test.YtghkkhafnkkomaaTl3
namespace Go.Proofs.Ytghkkhafnkkomaa
open Go.RowKit
open Go.Proofs

set_option maxRecDepth 100000 in
theorem f32_any (A B : Option Addr) (l m : List Int) (c d : Nat) (w : World) (hl : l.length ≤ 9223372036854775807) (hm : m.length ≤ 9223372036854775807) (hx : Cells w A (ints l)) (hy : Cells w B (ints m)) :
    Calls Try.prog 32 #[.slice A l.length c, .slice B m.length d] w fun e w' => e = .returned (.bool (decide (l = m))) ∧ ∃ q, w' = w.drewN q := by
  by_cases hlen : l.length = m.length
  · have hne : ((l.length : Int) = (m.length : Int)) = True := by simp [hlen]
    obtain ⟨N, hN⟩ : ∃ N, N = l.length := ⟨_, rfl⟩
    have hN2 : m.length = N := by omega
    rw [hN2, ← hN]
    rw [← hN] at hl
    have H1 := Lib.hid hN
    have H2 := Lib.hid hN2
    clear hlen hne hN hN2 hm
    go_enter Try.func32, Try.ntmps32
    go_wp2_with fail
    go_loopg [5] N (fun g i wr => ∃ j : Nat, j ≤ N ∧ N - j ≤ g ∧ i = .int .i64 j ∧ (∃ q, wr = w.drewN q) ∧ Aside (∀ i, i < j → l[i]? = m[i]?))
    case atStart => exact ⟨0, by omega, by omega, rfl, ⟨0, rfl⟩, fun i h => absurd h (by omega)⟩
    case round =>
      obtain ⟨j, hj, hg, rfl, ⟨q, rfl⟩, hall⟩ := hrel
      by_cases hlt : j < N
      · have hl1 : j < l.length := by rw [← H1.out]; exact hlt
        have hm1 : j < m.length := by rw [H2.out]; exact hlt
        obtain ⟨b, o, rfl, h1⟩ := hx.at_ (k := j) (u := .int .i64 l[j]) (ints_get l j hl1)
        obtain ⟨b2, o2, rfl, h2⟩ := hy.at_ (k := j) (u := .int .i64 m[j]) (ints_get m j hm1)
        have e1 : Hid (l[j]? = some l[j]) := List.getElem?_eq_getElem hl1
        have e2 : Hid (m[j]? = some m[j]) := List.getElem?_eq_getElem hm1
        generalize l[j] = x at h1 e1
        generalize m[j] = y at h2 e2
        clear hl1 hm1 hx hy
        have hji : (j : Int) < (N : Int) := by omega
        by_cases hxy : x = y
        · subst hxy
          go_wp2_with fail
          go_quiet (fail)
          go_wp2_with fail
          go_roundg (N - (j + 1))
          case measure => omega
          case rel =>
            refine ⟨j + 1, by omega, by omega, by go_num, ⟨q + nq, by simp [World.drewN]⟩, (show Aside _ from fun i h => ?_)⟩
            by_cases e : i = j
            · subst e
              rw [e1.out, e2.out]
            · exact hall.out i (by omega)
        · go_wp2_with fail
          go_quiet (fail)
          go_wp2_with fail
          go_ret
          refine ⟨ret_bool ?_, q + nq, by simp [World.drewN, Nat.add_assoc]⟩
          rw [eq_comm, decide_eq_false_iff_not]
          rintro rfl
          have := e1.out.symm.trans e2.out
          exact hxy (Option.some.inj this)
      · obtain rfl : j = N := by omega
        go_wp2_with fail
        go_ret
        refine ⟨ret_bool ?_, q, rfl⟩
        rw [eq_comm, decide_eq_true_iff]
        apply List.ext_getElem?
        intro i
        by_cases hi : i < j
        · exact hall.out i hi
        · rw [List.getElem?_eq_none (by rw [← H1.out]; omega), List.getElem?_eq_none (by rw [H2.out]; omega)]
  · have hd : decide (l = m) = false := by
      rw [decide_eq_false_iff_not]
      rintro rfl
      exact hlen rfl
    rw [hd]
    have hne : ((l.length : Int) = (m.length : Int)) = False := by simp; omega
    clear hx hy hd
    go_enter Try.func32, Try.ntmps32
    go_wp2_with fail
    go_ret
    exact ⟨rfl, 0, rfl⟩
/-- 0, 1, .. -/
def iota (j : Nat) : List Int := (List.range j).map (fun (i : Nat) => (i : Int))
theorem iota_succ (j : Nat) : iota (j + 1) = iota j ++ [(j : Int)] := by simp [iota, List.range_succ]
theorem iota_length (j : Nat) : (iota j).length = j := by simp [iota]
theorem iota_mem (j : Nat) (x : Int) : x ∈ iota j ↔ 0 ≤ x ∧ x < j := by
  simp only [iota, List.mem_map, List.mem_range]
  constructor
  · rintro ⟨i, h, rfl⟩; omega
  · rintro ⟨h0, h1⟩; exact ⟨x.toNat, by omega, by omega⟩
theorem even_nil (I : List Int) : even [] I = ([], I) := rfl
theorem tAdd_iota (n : Int) (j : Nat) (h : (j : Int) < n) : tAdd n (j : Int) [] (iota j) = ([], iota (j + 1)) := by
  have h1 : (j : Int) ∉ iota j := by rw [iota_mem]; omega
  rw [tAdd, if_pos ⟨by omega, h⟩, List.erase_of_not_mem h1, iota_succ]
  rfl

theorem Own.ints_form {w : World} {base : Nat} {v : Value} {l : List Int} (h : Own w base 3 v (ints l)) : ∃ A c, v = .slice A l.length c ∧ l.length ≤ c ∧ Cells w A (ints l) := by
  obtain ⟨A, c, hv, hc, _, hx, _⟩ := h.form
  rw [length_ints] at hv hc
  exact ⟨A, c, hv, hc, hx⟩
theorem upd_ext {F : Nat → Prop} {w0 w1 w2 : World} {k : Nat} (u : Upd F w1 w2) (h : Ext w0 w1) (hk : w0.heap.size = k) (hF : F = fun b => b = k) : Ext w0 w2 :=
  u.to_ext h (fun b e => by rw [hF] at e; exact Nat.le_of_eq (hk.trans e.symm))

set_option maxRecDepth 100000 in
theorem f15_any (w : World) : Calls Try.prog 15 #[] w fun e w' => e = .returned (.bool true) ∧ Ext w w' := by
  go_enter Try.func15, Try.ntmps15
  go_wp2_with fail
  refine (f16_good 3 w (by decide) (by decide)).mono ?_
  rintro e w1 ⟨rfl, ht1, hx1, hs1⟩
  generalize hk : w.heap.size = k at *
  have HK := Lib.hid hk
  clear hk
  obtain ⟨F, hF⟩ : ∃ F : Nat → Prop, F = (fun b => b = k) := ⟨_, rfl⟩
  rw [← hF] at ht1
  go_wp2_with fail
  go_loopg [3] 3 (fun g i wr => ∃ j : Nat, j ≤ 3 ∧ 3 - j ≤ g ∧ i = .int .i64 j ∧ TL wr 85 k (Since F w1 wr) 3 [] (iota j) ∧ Upd F w1 wr)
  case atStart => exact ⟨0, by omega, by omega, rfl, ht1.since _, Upd.refl _ _⟩
  case round =>
    obtain ⟨j, hj, hg, rfl, ht, hu⟩ := hrel
    by_cases hlt : j < 3
    · have HA := f17_any k _ 3 (j : Int) [] (iota j) wr (by rw [iota_length]; simp; omega) ht
      rw [tAdd_iota 3 j (by omega)] at HA
      have hj3 : (j : Int) < 3 := by omega
      go_wp2_with (go_at_call 17; refine HA.mono ?_; rintro e w2 ⟨rfl, t2, u2⟩)
      go_roundg (3 - (j + 1))
      case measure => omega
      case rel => exact ⟨j + 1, by omega, by omega, by go_num, t2.then hu u2, hu.then u2⟩
    · obtain rfl : j = 3 := by omega
      have HT := f18_any k _ 3 0 [] (iota 3) wr (by decide) ht
      rw [show tTouch 3 0 [] (iota 3) = ([0], [1, 2]) by decide] at HT
      go_wp2_with (go_at_call 18; refine HT.mono ?_; rintro e w2 ⟨rfl, t2, u2⟩)
      have hx2 := upd_ext (hu.then u2) hx1 HK.out hF
      have H20 := f20_any k _ 3 [0] [1, 2] w2 (by decide) t2
      clear HT ht hu u2
      go_wp2_with (go_at_call 20; refine H20.mono ?_; rintro e w3 ⟨v3, rfl, o3, x3⟩)
      obtain ⟨A3, c3, rfl, hc3, hx3⟩ := o3.ints_form
      refine (f32_any A3 (some ⟨w3.heap.size, 0, none⟩) [0] [0] c3 1 (w3.alloc (.cells #[.int .i64 0] 3)) (by decide) (by decide) (hx3.alloc _) (Cells.new1 w3 (.int .i64 0) 3)).mono ?_
      rintro e w4 ⟨rfl, q4, rfl⟩
      rw [show decide (([0] : List Int) = [0]) = true by decide]
      have x4 : Ext w2 ((w3.alloc (.cells #[.int .i64 0] 3)).drewN q4) := (x3.alloc _).drewN q4
      have t4 := t2.ext x4
      have hx4 := hx2.trans x4
      generalize (w3.alloc (.cells #[.int .i64 0] 3)).drewN q4 = w4 at *
      have H21 := f21_any k _ 3 [0] [1, 2] w4 (by decide) t4
      clear x4 x3 o3 hx3 t2
      go_wp2_with (go_at_call 21; refine H21.mono ?_; rintro e w5 ⟨v5, rfl, o5, x5⟩)
      obtain ⟨A5, c5, rfl, hc5, hx5⟩ := o5.ints_form
      refine (f32_any A5 (some ⟨w5.heap.size, 0, none⟩) [1, 2] [1, 2] c5 2 (w5.alloc (.cells #[.int .i64 1, .int .i64 2] 3)) (by decide) (by decide) (hx5.alloc _) (Cells.new2 w5 (.int .i64 1) (.int .i64 2) 3)).mono ?_
      rintro e w6 ⟨rfl, q6, rfl⟩
      rw [show decide (([1, 2] : List Int) = [1, 2]) = true by decide]
      have x6 : Ext w4 ((w5.alloc (.cells #[.int .i64 1, .int .i64 2] 3)).drewN q6) := (x5.alloc _).drewN q6
      have t6 := t4.ext x6
      have hx6 := hx4.trans x6
      generalize (w5.alloc (.cells #[.int .i64 1, .int .i64 2] 3)).drewN q6 = w6 at *
      have H19 := f19_any k _ 3 [0] [1, 2] none [] 0 w6 (by decide) (by decide) t6 (Cells.nil _ _)
      rw [show victim [] [0] [1, 2] = 1 by decide] at H19
      clear x6 x5 o5 hx5 t4
      go_wp2_with (go_at_call 19; refine H19.mono ?_; rintro e w7 ⟨rfl, x7⟩)
      go_ret
      exact ⟨rfl, hx6.trans x7⟩
end Go.Proofs.Ytghkkhafnkkomaa
