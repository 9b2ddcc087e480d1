/- Superblocks (layer 5): the law's plain, and Newest. -/
import Derived.Test.YtanmjmeabcloiaaSg
namespace Go.Proofs.Ytanmjmeabcloiaa
open Go.RowKit
open Go.Proofs

def plainS (g : Int) : Sup := ⟨g, 4, 1, 0, 0, 0, 1, 0⟩
theorem ret_sup1 {fn : Func} {p : Tmp} (h : fn.results = #[.cell p 38]) (tmps : Array Value) (w : World) (g : Nat) (s : Sup) (hp : tmps.getD p undef = .pointer (some ⟨g, 0, none⟩))
    (hg : w.heap[g]? = some (.cells (supCells s) 38 (0, 0))) : (results fn tmps).run Try.prog w = .ok (supV s) w :=
  results_cell_row h tmps w g 38 _ _ _ hp hg Try.underlying38 rfl size38

set_option maxRecDepth 100000 in
theorem f25_plain (g : Int) (w : World) : Calls Try.prog 25 #[.int .i64 g] w fun e w' => e = .returned (supV (plainS g)) ∧ Ext w w' := by
  go_enter Try.func25, Try.ntmps25
  go_wp2
  refine bodyPost_ret (ret_sup1 rfl _ _ w.heap.size (plainS g) rfl (heap_alloc_new w _)) rfl ?_
  exact ⟨rfl, (Ext.refl w).alloc _⟩

def nwStep (b o : Option Sup) (i : Int) : Option Sup := match o with
  | some s => if s.gen % 2 = i ∧ (b.getD sup0).gen < s.gen then some s else b
  | none => b
def nwTo (l : List UInt8) : Nat → Option Sup
  | 0 => none
  | j + 1 => nwStep (nwTo l j) (supGet ((l.drop (128 * j)).take 128)) (j : Int)
theorem nwTo_two (l : List UInt8) (h : l.length = 256) : nwTo l 2 = supNewest l := by
  have e0 : (l.drop (128 * 0)).take 128 = l.take 128 := rfl
  have e1 : (l.drop (128 * 1)).take 128 = l.drop 128 := List.take_of_length_le (by rw [List.length_drop]; omega)
  rw [supNewest, if_pos h, nwTo, nwTo, nwTo, e0, e1]
  have h1 : nwStep none (supGet (l.take 128)) ((0 : Nat) : Int) = supPick (supGet (l.take 128)) 0 := by
    cases hx : supGet (l.take 128) with
    | none => rfl
    | some s =>
      have := (get_some hx).1.1
      show (if s.gen % 2 = 0 ∧ 0 < s.gen then some s else none) = if s.gen % 2 = 0 then some s else none
      by_cases hp : s.gen % 2 = 0
      · rw [if_pos hp, if_pos ⟨hp, by omega⟩]
      · rw [if_neg hp, if_neg (fun e => hp e.1)]
  rw [h1]
  cases hy : supGet (l.drop 128) with
  | none => cases supPick (supGet (l.take 128)) 0 <;> rfl
  | some t =>
    have h2 := (get_some hy).1.1
    cases hx : supPick (supGet (l.take 128)) 0 with
    | none =>
      show (if t.gen % 2 = 1 ∧ 0 < t.gen then some t else none) = if t.gen % 2 = 1 then some t else none
      by_cases hp : t.gen % 2 = 1
      · rw [if_pos hp, if_pos ⟨hp, by omega⟩]
      · rw [if_neg hp, if_neg (fun e => hp e.1)]
    | some s =>
      show (if t.gen % 2 = 1 ∧ s.gen < t.gen then some t else some s) = supNewer (some s) (if t.gen % 2 = 1 then some t else none)
      by_cases hp : t.gen % 2 = 1
      · rw [if_pos hp]
        by_cases hq : s.gen < t.gen
        · rw [if_pos ⟨hp, hq⟩]
          show some t = if s.gen < t.gen then some t else some s
          rw [if_pos hq]
        · rw [if_neg (fun e => hq e.2)]
          show some s = if s.gen < t.gen then some t else some s
          rw [if_neg hq]
      · rw [if_neg hp, if_neg (fun e => hp e.1)]
        rfl
theorem and_one_nat (a : Nat) (h : a < 9223372036854775808) : bits .and .i64 (a : Int) (1 : Int) = ((a % 2 : Nat) : Int) := by
  show IntKind.i64.wrap ((BitVec.ofInt 64 (a : Int) &&& BitVec.ofInt 64 1).toNat : Int) = _
  rw [BitVec.toNat_and, ofInt_u64 a (by omega), show (BitVec.ofInt 64 1).toNat = 1 by decide, Nat.and_one_is_mod]
  simp [IntKind.wrap, IntKind.bits, IntKind.signed]
  omega
theorem and_gen {l : List UInt8} (s : Sup) (h : supGet l = some s) : bits .and .i64 s.gen 1 = s.gen % 2 := by
  have h1 := (get_some h).1
  obtain ⟨a, ha⟩ : ∃ a : Nat, s.gen = (a : Int) := ⟨s.gen.toNat, by have := h1.1; omega⟩
  have := h1.2.1
  rw [ha, and_one_nat a (by omega)]
  omega
theorem newest_short (l : List UInt8) (h : l.length ≠ 256) : supNewest l = none := by rw [supNewest, if_neg h]

/-- What lies in the loop's two blocks. -/
structure NwAt (w wr : World) (pr pb : Nat) (b : Option Sup) : Prop where
  res : wr.heap[pr]? = some (.cells (supCells sup0) 38 (0, 0))
  best : wr.heap[pb]? = some (.cells (supCells (b.getD sup0)) 38 (0, 0))
  ext : Ext w wr
theorem NwAt.more {w wr w2 : World} {pr pb : Nat} {b : Option Sup} (h : NwAt w wr pr pb b) (x : Ext wr w2) : NwAt w w2 pr pb b := ⟨x.heap h.res, x.heap h.best, h.ext.trans x⟩
theorem NwAt.lay {w wr : World} {pr pb : Nat} {b : Option Sup} (h : NwAt w wr pr pb b) (hn : pr ≠ pb) (hp : w.heap.size ≤ pb) (s : Sup) : NwAt w (setSup wr pb s) pr pb (some s) :=
  ⟨(setSup_keep hn s).trans h.res, setSup_heap h.best s, setSup_ext h.ext hp s⟩

set_option maxRecDepth 100000 in
set_option maxHeartbeats 2000000 in
theorem f26_any (A : Option Addr) (l : List UInt8) (n c : Nat) (w : World) (hn : l.length = n) (hl : n ≤ 4294900000) (hc : n ≤ c) (hx : Octs w A l) :
    Calls Try.prog 26 #[.slice A n c] w fun e w' => e = .returned (.tuple #[supV ((supNewest l).getD sup0), .bool (supNewest l).isSome]) ∧ Ext w w' := by
  by_cases h256 : n = 256
  · subst h256
    rw [← nwTo_two l hn]
    obtain ⟨A0, a1, _, a3, _⟩ := cut_mid A l c 0 128 (by decide) (by omega) (by omega)
    obtain ⟨A1, b1, _, b3, _⟩ := cut_mid A l c 128 256 (by decide) (by omega) (by omega)
    rw [hn] at a1 b1
    have a4 : ∀ w, (Instr.slice 22 (.slice A 256 c) (some (.int .i64 0)) (some (.int .i64 128)) none).run Try.prog w = .ok (.slice A0 128 (c - 0)) w := a1
    have b4 : ∀ w, (Instr.slice 22 (.slice A 256 c) (some (.int .i64 128)) (some (.int .i64 256)) none).run Try.prog w = .ok (.slice A1 128 (c - 128)) w := b1
    have hy0 := a3 w hx
    have hy1 := b3 w hx
    simp only [Nat.reduceSub] at hy0 hy1
    have G0 : ∀ W, Ext w W → Calls Try.prog 23 #[.slice A0 128 (c - 0)] W fun e w' => e = .returned (.tuple #[supV ((supGet ((l.drop (128 * 0)).take 128)).getD sup0), .bool (supGet ((l.drop (128 * 0)).take 128)).isSome]) ∧ Ext W w' := fun W X =>
      f23_any A0 _ 128 _ W (by rw [List.length_take, List.length_drop]; omega) (by decide) (by omega) (hy0.ext X)
    have G1 : ∀ W, Ext w W → Calls Try.prog 23 #[.slice A1 128 (c - 128)] W fun e w' => e = .returned (.tuple #[supV ((supGet ((l.drop (128 * 1)).take 128)).getD sup0), .bool (supGet ((l.drop (128 * 1)).take 128)).isSome]) ∧ Ext W w' := fun W X =>
      f23_any A1 _ 128 _ W (by rw [List.length_take, List.length_drop]; omega) (by decide) (by omega) (hy1.ext X)
    have T0 : nwTo l 1 = nwStep (nwTo l 0) (supGet ((l.drop (128 * 0)).take 128)) 0 := rfl
    have T1 : nwTo l 2 = nwStep (nwTo l 1) (supGet ((l.drop (128 * 1)).take 128)) 1 := rfl
    have P0 := and_gen (l := (l.drop (128 * 0)).take 128)
    have P1 := and_gen (l := (l.drop (128 * 1)).take 128)
    generalize supGet ((l.drop (128 * 0)).take 128) = o0 at G0 T0 P0
    generalize supGet ((l.drop (128 * 1)).take 128) = o1 at G1 T1 P1
    obtain ⟨R, hR⟩ : ∃ R, R = nwTo l := ⟨_, rfl⟩
    have R0 : R 0 = none := by rw [hR]; rfl
    rw [← hR] at T0 T1 ⊢
    have H0 := Lib.hid R0
    have HT0 := Lib.hid T0
    have HT1 := Lib.hid T1
    clear hy0 hy1 a1 b1 a3 b3 hx hn hl hc R0 T0 T1 hR
    go_enter Try.func26, Try.ntmps26
    go_wp2_with fail
    have hnw : NwAt w ((w.alloc (.cells (supCells sup0) 38)).alloc (.cells (supCells sup0) 38)) w.heap.size (w.heap.size + 1) (R 0) := ⟨heap_alloc2_old w _ _, by rw [H0.out]; exact heap_alloc2_new w _ _, ((Ext.refl w).alloc _).alloc _⟩
    obtain ⟨pr, hpr⟩ : ∃ p, w.heap.size = p := ⟨_, rfl⟩
    obtain ⟨pb, hpb⟩ : ∃ p, pr + 1 = p := ⟨_, rfl⟩
    have hne : pr ≠ pb := by omega
    have hpw : w.heap.size ≤ pb := by omega
    rw [hpr, hpb] at hnw ⊢
    have HPR := Lib.hid hpr
    have HNE := Lib.hid hne
    have HPW := Lib.hid hpw
    clear hpr hpb hne hpw
    have hf0 : Value.bool false = Value.bool (R 0).isSome := by rw [H0.out]; rfl
    go_loopg [5, 13] 2 (fun g f i wr => ∃ j : Nat, j ≤ 2 ∧ 2 - j ≤ g ∧ i = .int .i64 j ∧ f = .bool (R j).isSome ∧ NwAt w wr pr pb (R j))
    case atStart => exact ⟨0, by omega, by omega, rfl, hf0, hnw⟩
    case round =>
      obtain ⟨j, hj, hg, rfl, rfl, hm⟩ := hrel
      clear hnw hf0
      by_cases h2 : j = 2
      · subst h2
        clear G0 G1 a4 b4 hj hg
        obtain ⟨c0, c1, c2, c3, c4, c5, c6, c7, cf⟩ := sup_cells hm.res
        obtain ⟨d0, d1, d2, d3, d4, d5, d6, d7, df⟩ := sup_cells hm.best
        go_wp2_with fail
        refine bodyPost_ret (ret_sup rfl _ _ pr ((R 2).getD sup0) (R 2).isSome rfl (setSup_heap hm.res ((R 2).getD sup0)) rfl) rfl ?_
        exact ⟨rfl, setSup_ext hm.ext (by rw [HPR.out]; exact Nat.le_refl _) _⟩
      obtain rfl | rfl : j = 0 ∨ j = 1 := by omega
      · have H1 := G0 _ hm.ext
        cases o0 with
        | none =>
          have hstep : R 1 = R 0 := HT0.out
          go_wp2_with (go_at_call 23; refine H1.mono ?_; clear H1; rintro e w2 ⟨rfl, x2⟩; have m2 := hm.more x2)
          go_roundg (2 - (0 + 1))
          case measure => omega
          case rel => exact ⟨1, by omega, by omega, by go_num, by rw [hstep], by rw [hstep]; exact m2.more ((Ext.refl w2).alloc _)⟩
        | some s =>
          have hstep : R 1 = if s.gen % 2 = 0 ∧ ((R 0).getD sup0).gen < s.gen then some s else R 0 := HT0.out
          have HS := Lib.hid hstep
          have hP := P0 s rfl
          clear hstep G0 G1 P0 P1
          go_wp2_with (go_at_call 23; refine H1.mono ?_; clear H1; rintro e w2 ⟨rfl, x2⟩; have m2 := hm.more x2; obtain ⟨d0, d1, d2, d3, d4, d5, d6, d7, df⟩ := sup_cells m2.best; have hlt : pb < w2.heap.size := block_lt_of_cell d0)
          all_goals
            go_roundg (2 - (0 + 1))
            case measure => omega
            case rel =>
              rw [hP] at *
              first
                | (have hst : R 1 = some s := by (rw [HS.out]; exact if_pos ⟨by omega, by omega⟩)
                   exact ⟨1, by omega, by omega, by go_num, by rw [hst]; rfl, by rw [hst]; exact (m2.lay HNE.out HPW.out s).more ((Ext.refl _).alloc _)⟩)
                | (have hst : R 1 = R 0 := by (rw [HS.out]; exact if_neg (fun e => by omega))
                   exact ⟨1, by omega, by omega, by go_num, by rw [hst], by rw [hst]; exact m2.more ((Ext.refl w2).alloc _)⟩)
      · have H1 := G1 _ hm.ext
        cases o1 with
        | none =>
          have hstep : R 2 = R 1 := HT1.out
          go_wp2_with (go_at_call 23; refine H1.mono ?_; clear H1; rintro e w2 ⟨rfl, x2⟩; have m2 := hm.more x2)
          go_roundg (2 - (1 + 1))
          case measure => omega
          case rel => exact ⟨2, by omega, by omega, by go_num, by rw [hstep], by rw [hstep]; exact m2.more ((Ext.refl w2).alloc _)⟩
        | some s =>
          have hstep : R 2 = if s.gen % 2 = 1 ∧ ((R 1).getD sup0).gen < s.gen then some s else R 1 := HT1.out
          have HS := Lib.hid hstep
          have hP := P1 s rfl
          clear hstep G0 G1 P0 P1
          go_wp2_with (go_at_call 23; refine H1.mono ?_; clear H1; rintro e w2 ⟨rfl, x2⟩; have m2 := hm.more x2; obtain ⟨d0, d1, d2, d3, d4, d5, d6, d7, df⟩ := sup_cells m2.best; have hlt : pb < w2.heap.size := block_lt_of_cell d0)
          all_goals
            go_roundg (2 - (1 + 1))
            case measure => omega
            case rel =>
              rw [hP] at *
              first
                | (have hst : R 2 = some s := by (rw [HS.out]; exact if_pos ⟨by omega, by omega⟩)
                   exact ⟨2, by omega, by omega, by go_num, by rw [hst]; rfl, by rw [hst]; exact (m2.lay HNE.out HPW.out s).more ((Ext.refl _).alloc _)⟩)
                | (have hst : R 2 = R 1 := by (rw [HS.out]; exact if_neg (fun e => by omega))
                   exact ⟨2, by omega, by omega, by go_num, by rw [hst], by rw [hst]; exact m2.more ((Ext.refl w2).alloc _)⟩)
  · rw [newest_short l (by rw [hn]; exact h256)]
    have hb : ((n : Int) == 256) = false := by simp; omega
    clear h256 hn hl hc hx
    go_enter Try.func26, Try.ntmps26
    go_wp2_with fail
    refine bodyPost_ret (ret_sup rfl _ _ w.heap.size sup0 false rfl (heap_alloc2_old w _ _) rfl) rfl ?_
    exact ⟨rfl, ((Ext.refl w).alloc _).alloc _⟩
end Go.Proofs.Ytanmjmeabcloiaa
