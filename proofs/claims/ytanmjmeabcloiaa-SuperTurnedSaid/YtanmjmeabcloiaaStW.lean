/- SuperTurned: the walk. -/
import Derived.Test.YtanmjmeabcloiaaSa
namespace Go.Proofs.Ytanmjmeabcloiaa
open Go.RowKit
open Go.Proofs

set_option maxRecDepth 100000 in
set_option maxHeartbeats 1000000 in
theorem f6_walk (s : Sup) (at_ : Int) (n : Nat) (w : World) (hs : s.sum < 4294967296) (hn : n < 256) :
    Calls Try.prog 6 #[supV s, .int .i64 at_, .int .u8 n] w fun e w' => e = .returned (.bool true) ∧ Ext w w' := by
  by_cases hr : supRight s
  · have HP := fun W => f20_right s W hs hr
    have HR : ∀ W, Calls Try.prog 22 #[supV s] W fun e w' => e = .returned (.bool true) ∧ Ext W w' := fun W => by
      have := f22_any s W
      rw [decide_eq_true hr] at this
      exact this
    obtain ⟨c, rfl⟩ : ∃ c : UInt8, c.toNat = n := ⟨UInt8.ofNat n, by rw [UInt8.toNat_ofNat']; omega⟩
    obtain ⟨a0, k, ha0, ha1, ha2, ha3, ha4⟩ := round_two at_ 128 (by decide)
    replace ha0 : at_.tmod 128 = a0 := ha0
    replace ha3 : (a0 + 128).tmod 128 = (k : Int) := ha3
    replace ha1 : -128 < a0 := ha1
    replace ha2 : a0 < 128 := ha2
    have hw1 : IntKind.i64.wrap (a0 + 128) = a0 + 128 := IntWalk.i64_in _ (by omega)
    have hki : (k : Int) < 128 := by omega
    have hlen := length_supPut s
    have HS := Lib.hid hs
    have HRI := Lib.hid hr
    have HL := Lib.hid hlen
    simp only [supV, supCells] at HP HR
    clear hs hr hn hlen ha1 ha2
    go_enter Try.func6, Try.ntmps6
    go_wp2_with fail
    refine (f19_any _).mono ?_
    rintro e w1 ⟨rfl, x1⟩
    have hb := x1.heap (heap_alloc_new w _)
    obtain ⟨c0, c1, c2, c3, c4, c5, c6, c7, cf⟩ := sup_cells hb
    go_wp2_with fail
    refine (HR _).mono ?_
    rintro e w2 ⟨rfl, x2⟩
    have hb2 := x2.heap hb
    clear c0 c1 c2 c3 c4 c5 c6 c7 cf hb
    obtain ⟨c0, c1, c2, c3, c4, c5, c6, c7, cf⟩ := sup_cells hb2
    go_wp2_with fail
    refine (HP _).mono ?_
    rintro e w3 ⟨v, rfl, o3, x3⟩
    clear c0 c1 c2 c3 c4 c5 c6 c7 cf
    obtain ⟨g, cp, rfl, hcp, hg, hgl, hcell, hfr⟩ := o3.head (by rw [HL.out]; decide)
    have hck := hcell k (by rw [HL.out]; exact ha4)
    have hgd : (supPut s).getD k 0 = (supPut s)[k]'(by rw [HL.out]; exact ha4) := by
      rw [List.getD_eq_getElem?_getD, List.getElem?_eq_getElem (by rw [HL.out]; exact ha4)]
      rfl
    have HT := get_turned s k ha4 c
    have HK : (supPut s).set k ((supPut s)[k]'(by rw [HL.out]; exact ha4)) = supPut s := List.set_getElem_self (by rw [HL.out]; exact ha4)
    have HG := get_put s HRI.out HS.out
    have X3 : Ext w w3 := (((Ext.refl w).alloc _).trans x1).trans (x2.trans x3)
    have hgw : w.heap.size ≤ g := Nat.le_trans ((((Ext.refl w).alloc _).trans x1).trans x2).size hg
    rw [← hgd] at HT HK
    rw [HL.out] at hcp o3 ⊢
    have O4 := Own.set o3 k c
    have hL4 : ((supPut s).set k c).length = 128 := by rw [List.length_set, HL.out]
    generalize supPut s = L at hck HT HK HG O4 hL4
    generalize L.getD k 0 = b at hck HT HK
    by_cases hbc : b = c
    · subst hbc
      rw [HK] at O4 hL4
      have HC := fun W (x : Ext (w3.setCell ⟨g, k, none⟩ (.int .u8 ((b.toNat : Nat) : Int))) W) => f23_any (some ⟨g, 0, none⟩) L 128 cp W hL4 (by decide) hcp (by
        obtain ⟨_, _, e1, _, y⟩ := O4.octs_form
        injection e1 with e1
        rw [← e1] at y
        exact y.ext x)
      rw [HG] at HC
      clear HT HK O4 hL4 hcell
      go_wp2_with fail
      refine (HC _ (Ext.refl _)).mono ?_
      rintro e w4 ⟨rfl, x4⟩
      go_wp2_with fail
      go_ret
      exact ⟨rfl, ((X3.setCell (p := ⟨g, k, none⟩) hgw _).trans x4).alloc _⟩
    · have HC := fun W (x : Ext (w3.setCell ⟨g, k, none⟩ (.int .u8 ((c.toNat : Nat) : Int))) W) => f23_any (some ⟨g, 0, none⟩) (L.set k c) 128 cp W hL4 (by decide) hcp (by
        obtain ⟨_, _, e1, _, y⟩ := O4.octs_form
        injection e1 with e1
        rw [← e1] at y
        exact y.ext x)
      rw [HT hbc] at HC
      have hz : supV ((none : Option Sup).getD sup0) = .agg #[.int .i64 0, .int .i64 0, .int .i64 0, .int .i64 0, .int .i64 0, .int .u32 0, .int .i64 0, .int .i64 0] := rfl
      rw [hz] at HC
      have hne : (((b.toNat : Nat) : Int) == ((c.toNat : Nat) : Int)) = false := beq_eq_false_iff_ne.2 (fun e => hbc (UInt8.toNat_inj.1 (by omega)))
      clear HT HK O4 hL4 hcell hbc hz
      go_wp2_with fail
      refine (HC _ (Ext.refl _)).mono ?_
      rintro e w4 ⟨rfl, x4⟩
      go_wp2_with fail
      go_ret
      exact ⟨rfl, ((X3.setCell (p := ⟨g, k, none⟩) hgw _).trans x4).alloc _⟩
  · have HR : ∀ W, Calls Try.prog 22 #[supV s] W fun e w' => e = .returned (.bool false) ∧ Ext W w' := fun W => by
      have := f22_any s W
      rw [decide_eq_false hr] at this
      exact this
    simp only [supV, supCells] at HR
    clear hs hr hn
    go_enter Try.func6, Try.ntmps6
    go_wp2_with fail
    refine (f19_any _).mono ?_
    rintro e w1 ⟨rfl, x1⟩
    have hb := x1.heap (heap_alloc_new w _)
    obtain ⟨c0, c1, c2, c3, c4, c5, c6, c7, cf⟩ := sup_cells hb
    go_wp2_with fail
    refine (HR _).mono ?_
    rintro e w2 ⟨rfl, x2⟩
    go_wp2_with fail
    refine (f19_any _).mono ?_
    rintro e w3 ⟨rfl, x3⟩
    go_wp2_with fail
    go_ret
    exact ⟨rfl, ((((Ext.refl w).alloc _).trans x1).trans x2).trans x3⟩
end Go.Proofs.Ytanmjmeabcloiaa
