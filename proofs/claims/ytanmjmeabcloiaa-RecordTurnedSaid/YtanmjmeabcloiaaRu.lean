/- The parts of layer 6: the document's Put. -/
import Derived.Test.YtanmjmeabcloiaaHm
namespace Go.Proofs.Ytanmjmeabcloiaa
open Go.RowKit
open Go.Proofs

set_option maxRecDepth 100000 in
set_option maxHeartbeats 4000000 in
theorem f18_foot (p : Prt) (A : Option Addr) (n c : Nat) (w : World) (hf : p.foot = true) (hn : p.data.length = n) (hr : prtRight p) (hx : Octs w A p.data) :
    Calls Try.prog 18 #[prtV p A n c] w fun e w' => e = .returned (strOf (prtPut p)) ∧ Ext w w' := by
  have hn112 : n ≤ 112 := by have := hr.2.2.2.2.2.2; omega
  obtain ⟨G1, e1⟩ : ∃ G, G = leN 4 (u64of p.epoch) := ⟨_, rfl⟩
  obtain ⟨G2, e2⟩ : ∃ G, G = leN 4 (u64of p.number) := ⟨_, rfl⟩
  obtain ⟨G3, e3⟩ : ∃ G, G = leN 2 (u64of p.index) := ⟨_, rfl⟩
  obtain ⟨G4, e4⟩ : ∃ G, G = leN 1 (u64of (n : Int)) := ⟨_, rfl⟩
  have L1 := lay_gen p.epoch 4 4 wid4 G1 e1
  have L2 := lay_gen p.number 4 4 wid4 G2 e2
  have L3 := lay_gen p.index 2 2 wid2 G3 e3
  have L4 := lay_gen (n : Int) 1 1 wid1 G4 e4
  obtain ⟨m, hm⟩ : ∃ m, m = 12 + n := ⟨_, rfl⟩
  obtain ⟨k, hk⟩ : ∃ k, k = 112 - n := ⟨_, rfl⟩
  obtain ⟨X, hX⟩ : ∃ X, X = prtHead p ++ p.data := ⟨_, rfl⟩
  have lX : X.length = m := by rw [hX, List.length_append, length_prtHead, hn, hm]
  have eX : Value.string (⟨#[70]⟩ ++ ⟨G1.toArray⟩ ++ ⟨G2.toArray⟩ ++ ⟨G3.toArray⟩ ++ ⟨G4.toArray⟩ ++ ⟨p.data.toArray⟩) = strOf X := by
    rw [hX, prtHead, hf, hn, ← e1, ← e2, ← e3, ← e4]
    rw [ByteArray.mk_append_mk, ByteArray.mk_append_mk, ByteArray.mk_append_mk, ByteArray.mk_append_mk, ByteArray.mk_append_mk]
    have : leN 1 (u64of (sgnOf true)) = [70] := by decide
    rw [this]
    simp [strOf]
  have l1 : G1.length = 4 := by rw [e1, length_leN]
  have l2 : G2.length = 4 := by rw [e2, length_leN]
  have l3 : G3.length = 2 := by rw [e3, length_leN]
  have l4 : G4.length = 1 := by rw [e4, length_leN]
  obtain ⟨Z, hZ⟩ : ∃ Z : List UInt8, Z = List.replicate k 0 := ⟨_, rfl⟩
  have lZ : Z.length = k := by rw [hZ, List.length_replicate]
  have lXZ : (X ++ Z).length = 124 := by rw [List.length_append, lX, lZ]; omega
  have eS : Mb.seal_ (X ++ Z) = prtPut p := by rw [prtPut, prtBody, hX, hZ, hn, hk, zer]
  have kz : ∀ W : World, (convert 22 9 (.slice (some ⟨W.heap.size, 0, none⟩) k k)).run Try.prog (W.alloc (.cells (zeros k) 5)) = .ok (strOf Z) (W.alloc (.cells (zeros k) 5)) := fun W => by
    obtain ⟨_, _, e, _, y⟩ := (own_zeros k (by omega) W).octs_form
    injection e with e1'
    rw [← e1', ← hZ] at y
    exact conv_str _ Z k k _ lZ y
  have hmk := make_octs k (by omega)
  have hc : ∀ W, ∃ C w', (convert 9 22 (.string (⟨X.toArray⟩ ++ ⟨Z.toArray⟩))).run Try.prog W = .ok (.slice (some ⟨W.heap.size, 0, none⟩) 124 C) w' ∧ Octs w' (some ⟨W.heap.size, 0, none⟩) (X ++ Z) ∧ Ext W w' := fun W => by
    obtain ⟨C, w', h1, _, h3, h4⟩ := conv_octs (X ++ Z) W
    rw [lXZ] at h1
    rw [ByteArray.mk_append_mk]
    exact ⟨C, w', h1, h3, h4⟩
  obtain ⟨C, F, v1, g1⟩ : ∃ (C : World → Nat) (F : World → World), (∀ W, (convert 9 22 (.string (⟨X.toArray⟩ ++ ⟨Z.toArray⟩))).run Try.prog W = .ok (.slice (some ⟨W.heap.size, 0, none⟩) 124 (C W)) (F W)) ∧
      (∀ W b, b = W.heap.size → Calls Try.prog 47 #[.slice (some ⟨b, 0, none⟩) 124 (C W)] (F W) fun e w' => e = .returned (strOf (prtPut p)) ∧ Ext W w') := by
    refine ⟨fun W => (hc W).choose, fun W => (hc W).choose_spec.choose, fun W => (hc W).choose_spec.choose_spec.1, fun W b hb => ?_⟩
    subst hb
    obtain ⟨_, h3, h4⟩ := (hc W).choose_spec.choose_spec
    have := f47_n _ (X ++ Z) 124 (hc W).choose _ lXZ (by decide) h3
    rw [eS] at this
    refine this.mono ?_
    rintro e w1 ⟨rfl, x1⟩
    exact ⟨rfl, h4.trans x1⟩
  have hsub : (124 : Int) - (m : Int) = (k : Int) := by omega
  have hwk : IntKind.i64.wrap (k : Int) = (k : Int) := IntWalk.i64_in _ (by omega)
  have hk9 : k ≤ 112 := by omega
  have hm9 : m ≤ 124 := by omega
  have HX := Lib.hid eX
  have HN := Lib.hid hn
  have hbig : (9223372036854775807 < 12 + p.data.length) = False := eq_false (by omega)
  clear hc eS lXZ hZ hX hm hk e1 e2 e3 e4 eX hr hn
  go_enter Try.func18, Try.ntmps18
  go_wp2_with fail
  have hX1 : Ext w (w.alloc (.cells (prtCells p A n c) 24)) := (Ext.refl w).alloc _
  have hb := heap_alloc_new w (.cells (prtCells p A n c) 24)
  have hx1 := hx.alloc (.cells (prtCells p A n c) 24)
  obtain ⟨q, hq⟩ : ∃ q, w.heap.size = q := ⟨_, rfl⟩
  rw [hq] at hb ⊢
  have HQ := Lib.hid hq
  clear hq hx
  generalize w.alloc (.cells (prtCells p A n c) 24) = w1 at *
  have hT : Ext w w1 := hX1
  refine wp_region_held_drew (S := fun w' => Ext w1 w') (by kernel_rfl) ((Ext.refl _).drew) (fun hS => ?_)
  refine takeH (i := 0) (v := ?_) rfl rfl (by kernel_rfl) (by kernel_rfl) (by kernel_rfl) (fun _ _ _ h => h) (Or.inl ⟨by kernel_rfl, ?_⟩) hS ?_
  rotate_left 1
  · (intro w' hS'; go_simp; try (with_reducible rfl))
  simp only [List.setIfInBounds_toArray, List.set_cons_succ, List.set_cons_zero]
  refine takeH (i := 1) (v := ?_) rfl rfl (by kernel_rfl) (by kernel_rfl) (by kernel_rfl) (fun _ _ _ h => h) (Or.inl ⟨by kernel_rfl, ?_⟩) hS ?_
  rotate_left 1
  · (intro w' hS'; go_simp; try (with_reducible rfl))
  simp only [List.setIfInBounds_toArray, List.set_cons_succ, List.set_cons_zero]
  refine takeH (i := 2) (v := ?_) rfl rfl (by kernel_rfl) (by kernel_rfl) (by kernel_rfl) (fun _ _ _ h => h) (Or.inl ⟨by kernel_rfl, ?_⟩) hS ?_
  rotate_left 1
  · (intro w' hS'; obtain ⟨c0, c1, c2, c3, c4, cf⟩ := prt_cells (hS'.heap hb); go_simp; try (with_reducible rfl))
  simp only [List.setIfInBounds_toArray, List.set_cons_succ, List.set_cons_zero]
  refine takeH (i := 6) (v := ?_) rfl rfl (by kernel_rfl) (by kernel_rfl) (by kernel_rfl) (fun _ _ _ h => h) (Or.inl ⟨by kernel_rfl, ?_⟩) hS ?_
  rotate_left 1
  · (intro w' hS'; go_simp; try (with_reducible rfl))
  simp only [List.setIfInBounds_toArray, List.set_cons_succ, List.set_cons_zero]
  refine takeH (i := 7) (v := ?_) rfl rfl (by kernel_rfl) (by kernel_rfl) (by kernel_rfl) (fun _ _ _ h => h) (Or.inl ⟨by kernel_rfl, ?_⟩) hS ?_
  rotate_left 1
  · (intro w' hS'; obtain ⟨c0, c1, c2, c3, c4, cf⟩ := prt_cells (hS'.heap hb); go_simp; try (with_reducible rfl))
  simp only [List.setIfInBounds_toArray, List.set_cons_succ, List.set_cons_zero]
  refine takeH (i := 11) (v := ?_) rfl rfl (by kernel_rfl) (by kernel_rfl) (by kernel_rfl) (fun _ _ _ h => h) (Or.inl ⟨by kernel_rfl, ?_⟩) hS ?_
  rotate_left 1
  · (intro w' hS'; go_simp; try (with_reducible rfl))
  simp only [List.setIfInBounds_toArray, List.set_cons_succ, List.set_cons_zero]
  refine takeH (i := 12) (v := ?_) rfl rfl (by kernel_rfl) (by kernel_rfl) (by kernel_rfl) (fun _ _ _ h => h) (Or.inl ⟨by kernel_rfl, ?_⟩) hS ?_
  rotate_left 1
  · (intro w' hS'; obtain ⟨c0, c1, c2, c3, c4, cf⟩ := prt_cells (hS'.heap hb); go_simp; try (with_reducible rfl))
  simp only [List.setIfInBounds_toArray, List.set_cons_succ, List.set_cons_zero]
  refine takeH (i := 16) (v := ?_) rfl rfl (by kernel_rfl) (by kernel_rfl) (by kernel_rfl) (fun _ _ _ h => h) (Or.inl ⟨by kernel_rfl, ?_⟩) hS ?_
  rotate_left 1
  · (intro w' hS'; go_simp; try (with_reducible rfl))
  simp only [List.setIfInBounds_toArray, List.set_cons_succ, List.set_cons_zero]
  refine takeH (i := 17) (v := ?_) rfl rfl (by kernel_rfl) (by kernel_rfl) (by kernel_rfl) (fun _ _ _ h => h) (Or.inl ⟨by kernel_rfl, ?_⟩) hS ?_
  rotate_left 1
  · (intro w' hS'; obtain ⟨c0, c1, c2, c3, c4, cf⟩ := prt_cells (hS'.heap hb); go_simp; try (with_reducible rfl))
  simp only [List.setIfInBounds_toArray, List.set_cons_succ, List.set_cons_zero]
  refine takeH (i := 18) (v := ?_) rfl rfl (by kernel_rfl) (by kernel_rfl) (by kernel_rfl) (fun _ _ _ h => h) (Or.inl ⟨by kernel_rfl, ?_⟩) hS ?_
  rotate_left 1
  · (intro w' hS'; go_simp; try (with_reducible rfl))
  simp only [List.setIfInBounds_toArray, List.set_cons_succ, List.set_cons_zero]
  refine takeH (i := 22) (v := ?_) rfl rfl (by kernel_rfl) (by kernel_rfl) (by kernel_rfl) (fun _ _ _ h => h) (Or.inl ⟨by kernel_rfl, ?_⟩) hS ?_
  rotate_left 1
  · (intro w' hS'; go_simp; try (with_reducible rfl))
  simp only [List.setIfInBounds_toArray, List.set_cons_succ, List.set_cons_zero]
  refine takeH (i := 23) (v := ?_) rfl rfl (by kernel_rfl) (by kernel_rfl) (by kernel_rfl) (fun _ _ _ h => h) (Or.inl ⟨by kernel_rfl, ?_⟩) hS ?_
  rotate_left 1
  · (intro w' hS'; obtain ⟨c0, c1, c2, c3, c4, cf⟩ := prt_cells (hS'.heap hb); go_simp; try (with_reducible rfl))
  simp only [List.setIfInBounds_toArray, List.set_cons_succ, List.set_cons_zero]
  refine takeH (i := 24) (v := ?_) rfl rfl (by kernel_rfl) (by kernel_rfl) (by kernel_rfl) (fun _ _ _ h => h) (Or.inl ⟨by kernel_rfl, ?_⟩) hS ?_
  rotate_left 1
  · (intro w' hS'; have kk := conv_str A p.data n c w' HN.out (hx1.ext hS'); go_simp; try (with_reducible rfl))
  simp only [List.setIfInBounds_toArray, List.set_cons_succ, List.set_cons_zero]
  refine wpAnyH_ready (rs := [3]) (by kernel_rfl) (by simp) ?_
  refine AllReadyH.cons rfl (fun K hK => ?_) ?_
  rotate_left 1
  · exact AllReadyH.nil
  go_simp
  refine (L1 _).mono ?_; rintro e wa1 ⟨B1, d1, rfl, y1, x1⟩
  refine hK.out _ _ (hS.trans x1) (fun hS => ?_)
  clear hK K
  refine held_more (S' := fun w' => Ext wa1 w') (fun w' h => hS.trans h) _ _ _ _ ?_; have hT1 := hT.trans hS; replace hS : Ext wa1 wa1 := Ext.refl wa1
  refine takeH (i := 4) (v := ?_) rfl rfl (by kernel_rfl) (by kernel_rfl) (by kernel_rfl) (fun _ _ _ h => h) (Or.inl ⟨by kernel_rfl, ?_⟩) hS ?_
  rotate_left 1
  · (intro w' hS'; have kk := conv_str B1 G1 4 d1 w' l1 (y1.ext hS'); go_simp; try (with_reducible rfl))
  simp only [List.setIfInBounds_toArray, List.set_cons_succ, List.set_cons_zero]
  refine takeH (i := 5) (v := ?_) rfl rfl (by kernel_rfl) (by kernel_rfl) (by kernel_rfl) (fun _ _ _ h => h) (Or.inl ⟨by kernel_rfl, ?_⟩) hS ?_
  rotate_left 1
  · (intro w' hS'; go_simp; try (with_reducible rfl))
  simp only [List.setIfInBounds_toArray, List.set_cons_succ, List.set_cons_zero]
  refine wpAnyH_ready (rs := [8]) (by kernel_rfl) (by simp) ?_
  refine AllReadyH.cons rfl (fun K hK => ?_) ?_
  rotate_left 1
  · exact AllReadyH.nil
  go_simp
  refine (L2 _).mono ?_; rintro e wa2 ⟨B2, d2, rfl, y2, x2⟩
  refine hK.out _ _ (hS.trans x2) (fun hS => ?_)
  clear hK K
  refine held_more (S' := fun w' => Ext wa2 w') (fun w' h => hS.trans h) _ _ _ _ ?_; have hT2 := hT1.trans hS; replace hS : Ext wa2 wa2 := Ext.refl wa2
  refine takeH (i := 9) (v := ?_) rfl rfl (by kernel_rfl) (by kernel_rfl) (by kernel_rfl) (fun _ _ _ h => h) (Or.inl ⟨by kernel_rfl, ?_⟩) hS ?_
  rotate_left 1
  · (intro w' hS'; have kk := conv_str B2 G2 4 d2 w' l2 (y2.ext hS'); go_simp; try (with_reducible rfl))
  simp only [List.setIfInBounds_toArray, List.set_cons_succ, List.set_cons_zero]
  refine takeH (i := 10) (v := ?_) rfl rfl (by kernel_rfl) (by kernel_rfl) (by kernel_rfl) (fun _ _ _ h => h) (Or.inl ⟨by kernel_rfl, ?_⟩) hS ?_
  rotate_left 1
  · (intro w' hS'; go_simp; try (with_reducible rfl))
  simp only [List.setIfInBounds_toArray, List.set_cons_succ, List.set_cons_zero]
  refine wpAnyH_ready (rs := [13]) (by kernel_rfl) (by simp) ?_
  refine AllReadyH.cons rfl (fun K hK => ?_) ?_
  rotate_left 1
  · exact AllReadyH.nil
  go_simp
  refine (L3 _).mono ?_; rintro e wa3 ⟨B3, d3, rfl, y3, x3⟩
  refine hK.out _ _ (hS.trans x3) (fun hS => ?_)
  clear hK K
  refine held_more (S' := fun w' => Ext wa3 w') (fun w' h => hS.trans h) _ _ _ _ ?_; have hT3 := hT2.trans hS; replace hS : Ext wa3 wa3 := Ext.refl wa3
  refine takeH (i := 14) (v := ?_) rfl rfl (by kernel_rfl) (by kernel_rfl) (by kernel_rfl) (fun _ _ _ h => h) (Or.inl ⟨by kernel_rfl, ?_⟩) hS ?_
  rotate_left 1
  · (intro w' hS'; have kk := conv_str B3 G3 2 d3 w' l3 (y3.ext hS'); go_simp; try (with_reducible rfl))
  simp only [List.setIfInBounds_toArray, List.set_cons_succ, List.set_cons_zero]
  refine takeH (i := 15) (v := ?_) rfl rfl (by kernel_rfl) (by kernel_rfl) (by kernel_rfl) (fun _ _ _ h => h) (Or.inl ⟨by kernel_rfl, ?_⟩) hS ?_
  rotate_left 1
  · (intro w' hS'; go_simp; try (with_reducible rfl))
  simp only [List.setIfInBounds_toArray, List.set_cons_succ, List.set_cons_zero]
  refine wpAnyH_ready (rs := [19]) (by kernel_rfl) (by simp) ?_
  refine AllReadyH.cons rfl (fun K hK => ?_) ?_
  rotate_left 1
  · exact AllReadyH.nil
  go_simp
  refine (L4 _).mono ?_; rintro e wa4 ⟨B4, d4, rfl, y4, x4⟩
  refine hK.out _ _ (hS.trans x4) (fun hS => ?_)
  clear hK K
  refine held_more (S' := fun w' => Ext wa4 w') (fun w' h => hS.trans h) _ _ _ _ ?_; have hT4 := hT3.trans hS; replace hS : Ext wa4 wa4 := Ext.refl wa4
  refine takeH (i := 20) (v := ?_) rfl rfl (by kernel_rfl) (by kernel_rfl) (by kernel_rfl) (fun _ _ _ h => h) (Or.inl ⟨by kernel_rfl, ?_⟩) hS ?_
  rotate_left 1
  · (intro w' hS'; have kk := conv_str B4 G4 1 d4 w' l4 (y4.ext hS'); go_simp; try (with_reducible rfl))
  simp only [List.setIfInBounds_toArray, List.set_cons_succ, List.set_cons_zero]
  refine takeH (i := 21) (v := ?_) rfl rfl (by kernel_rfl) (by kernel_rfl) (by kernel_rfl) (fun _ _ _ h => h) (Or.inl ⟨by kernel_rfl, ?_⟩) hS ?_
  rotate_left 1
  · (intro w' hS'; go_simp; try (with_reducible rfl))
  simp only [List.setIfInBounds_toArray, List.set_cons_succ, List.set_cons_zero]
  refine takeH (i := 25) (v := ?_) rfl rfl (by kernel_rfl) (by kernel_rfl) (by kernel_rfl) (fun _ _ _ h => h) (Or.inl ⟨by kernel_rfl, ?_⟩) hS ?_
  rotate_left 1
  · (intro w' hS'; go_simp; try (with_reducible rfl))
  simp only [List.setIfInBounds_toArray, List.set_cons_succ, List.set_cons_zero]
  refine takeH (i := 26) (v := ?_) rfl rfl (by kernel_rfl) (by kernel_rfl) (by kernel_rfl) (fun _ _ _ h => h) (Or.inl ⟨by kernel_rfl, ?_⟩) hS ?_
  rotate_left 1
  · (intro w' hS'; go_simp; try (with_reducible rfl))
  simp only [List.setIfInBounds_toArray, List.set_cons_succ, List.set_cons_zero]
  refine wpAnyH_done (by kernel_rfl) ?_ _
  have hT5 := hT4.trans hS
  rw [HX.out]
  go_wp2_with fail
  refine (g1 _ _ (by simp)).mono ?_
  rintro e w9 ⟨rfl, x9⟩
  go_wp2_with fail
  go_ret
  exact ⟨rfl, (hT5.alloc _).trans x9⟩
set_option maxRecDepth 100000 in
set_option maxHeartbeats 4000000 in
theorem f18_part (p : Prt) (A : Option Addr) (n c : Nat) (w : World) (hf : p.foot = false) (hn : p.data.length = n) (hr : prtRight p) (hx : Octs w A p.data) :
    Calls Try.prog 18 #[prtV p A n c] w fun e w' => e = .returned (strOf (prtPut p)) ∧ Ext w w' := by
  have hn112 : n ≤ 112 := by have := hr.2.2.2.2.2.2; omega
  obtain ⟨G1, e1⟩ : ∃ G, G = leN 4 (u64of p.epoch) := ⟨_, rfl⟩
  obtain ⟨G2, e2⟩ : ∃ G, G = leN 4 (u64of p.number) := ⟨_, rfl⟩
  obtain ⟨G3, e3⟩ : ∃ G, G = leN 2 (u64of p.index) := ⟨_, rfl⟩
  obtain ⟨G4, e4⟩ : ∃ G, G = leN 1 (u64of (n : Int)) := ⟨_, rfl⟩
  have L1 := lay_gen p.epoch 4 4 wid4 G1 e1
  have L2 := lay_gen p.number 4 4 wid4 G2 e2
  have L3 := lay_gen p.index 2 2 wid2 G3 e3
  have L4 := lay_gen (n : Int) 1 1 wid1 G4 e4
  obtain ⟨m, hm⟩ : ∃ m, m = 12 + n := ⟨_, rfl⟩
  obtain ⟨k, hk⟩ : ∃ k, k = 112 - n := ⟨_, rfl⟩
  obtain ⟨X, hX⟩ : ∃ X, X = prtHead p ++ p.data := ⟨_, rfl⟩
  have lX : X.length = m := by rw [hX, List.length_append, length_prtHead, hn, hm]
  have eX : Value.string (⟨#[80]⟩ ++ ⟨G1.toArray⟩ ++ ⟨G2.toArray⟩ ++ ⟨G3.toArray⟩ ++ ⟨G4.toArray⟩ ++ ⟨p.data.toArray⟩) = strOf X := by
    rw [hX, prtHead, hf, hn, ← e1, ← e2, ← e3, ← e4]
    rw [ByteArray.mk_append_mk, ByteArray.mk_append_mk, ByteArray.mk_append_mk, ByteArray.mk_append_mk, ByteArray.mk_append_mk]
    have : leN 1 (u64of (sgnOf false)) = [80] := by decide
    rw [this]
    simp [strOf]
  have l1 : G1.length = 4 := by rw [e1, length_leN]
  have l2 : G2.length = 4 := by rw [e2, length_leN]
  have l3 : G3.length = 2 := by rw [e3, length_leN]
  have l4 : G4.length = 1 := by rw [e4, length_leN]
  obtain ⟨Z, hZ⟩ : ∃ Z : List UInt8, Z = List.replicate k 0 := ⟨_, rfl⟩
  have lZ : Z.length = k := by rw [hZ, List.length_replicate]
  have lXZ : (X ++ Z).length = 124 := by rw [List.length_append, lX, lZ]; omega
  have eS : Mb.seal_ (X ++ Z) = prtPut p := by rw [prtPut, prtBody, hX, hZ, hn, hk, zer]
  have kz : ∀ W : World, (convert 22 9 (.slice (some ⟨W.heap.size, 0, none⟩) k k)).run Try.prog (W.alloc (.cells (zeros k) 5)) = .ok (strOf Z) (W.alloc (.cells (zeros k) 5)) := fun W => by
    obtain ⟨_, _, e, _, y⟩ := (own_zeros k (by omega) W).octs_form
    injection e with e1'
    rw [← e1', ← hZ] at y
    exact conv_str _ Z k k _ lZ y
  have hmk := make_octs k (by omega)
  have hc : ∀ W, ∃ C w', (convert 9 22 (.string (⟨X.toArray⟩ ++ ⟨Z.toArray⟩))).run Try.prog W = .ok (.slice (some ⟨W.heap.size, 0, none⟩) 124 C) w' ∧ Octs w' (some ⟨W.heap.size, 0, none⟩) (X ++ Z) ∧ Ext W w' := fun W => by
    obtain ⟨C, w', h1, _, h3, h4⟩ := conv_octs (X ++ Z) W
    rw [lXZ] at h1
    rw [ByteArray.mk_append_mk]
    exact ⟨C, w', h1, h3, h4⟩
  obtain ⟨C, F, v1, g1⟩ : ∃ (C : World → Nat) (F : World → World), (∀ W, (convert 9 22 (.string (⟨X.toArray⟩ ++ ⟨Z.toArray⟩))).run Try.prog W = .ok (.slice (some ⟨W.heap.size, 0, none⟩) 124 (C W)) (F W)) ∧
      (∀ W b, b = W.heap.size → Calls Try.prog 47 #[.slice (some ⟨b, 0, none⟩) 124 (C W)] (F W) fun e w' => e = .returned (strOf (prtPut p)) ∧ Ext W w') := by
    refine ⟨fun W => (hc W).choose, fun W => (hc W).choose_spec.choose, fun W => (hc W).choose_spec.choose_spec.1, fun W b hb => ?_⟩
    subst hb
    obtain ⟨_, h3, h4⟩ := (hc W).choose_spec.choose_spec
    have := f47_n _ (X ++ Z) 124 (hc W).choose _ lXZ (by decide) h3
    rw [eS] at this
    refine this.mono ?_
    rintro e w1 ⟨rfl, x1⟩
    exact ⟨rfl, h4.trans x1⟩
  have hsub : (124 : Int) - (m : Int) = (k : Int) := by omega
  have hwk : IntKind.i64.wrap (k : Int) = (k : Int) := IntWalk.i64_in _ (by omega)
  have hk9 : k ≤ 112 := by omega
  have hm9 : m ≤ 124 := by omega
  have HX := Lib.hid eX
  have HN := Lib.hid hn
  have hbig : (9223372036854775807 < 12 + p.data.length) = False := eq_false (by omega)
  clear hc eS lXZ hZ hX hm hk e1 e2 e3 e4 eX hr hn
  go_enter Try.func18, Try.ntmps18
  go_wp2_with fail
  have hX1 : Ext w (w.alloc (.cells (prtCells p A n c) 24)) := (Ext.refl w).alloc _
  have hb := heap_alloc_new w (.cells (prtCells p A n c) 24)
  have hx1 := hx.alloc (.cells (prtCells p A n c) 24)
  obtain ⟨q, hq⟩ : ∃ q, w.heap.size = q := ⟨_, rfl⟩
  rw [hq] at hb ⊢
  have HQ := Lib.hid hq
  clear hq hx
  generalize w.alloc (.cells (prtCells p A n c) 24) = w1 at *
  have hT : Ext w w1 := hX1
  refine wp_region_held_drew (S := fun w' => Ext w1 w') (by kernel_rfl) ((Ext.refl _).drew) (fun hS => ?_)
  refine takeH (i := 0) (v := ?_) rfl rfl (by kernel_rfl) (by kernel_rfl) (by kernel_rfl) (fun _ _ _ h => h) (Or.inl ⟨by kernel_rfl, ?_⟩) hS ?_
  rotate_left 1
  · (intro w' hS'; go_simp; try (with_reducible rfl))
  simp only [List.setIfInBounds_toArray, List.set_cons_succ, List.set_cons_zero]
  refine takeH (i := 1) (v := ?_) rfl rfl (by kernel_rfl) (by kernel_rfl) (by kernel_rfl) (fun _ _ _ h => h) (Or.inl ⟨by kernel_rfl, ?_⟩) hS ?_
  rotate_left 1
  · (intro w' hS'; go_simp; try (with_reducible rfl))
  simp only [List.setIfInBounds_toArray, List.set_cons_succ, List.set_cons_zero]
  refine takeH (i := 2) (v := ?_) rfl rfl (by kernel_rfl) (by kernel_rfl) (by kernel_rfl) (fun _ _ _ h => h) (Or.inl ⟨by kernel_rfl, ?_⟩) hS ?_
  rotate_left 1
  · (intro w' hS'; obtain ⟨c0, c1, c2, c3, c4, cf⟩ := prt_cells (hS'.heap hb); go_simp; try (with_reducible rfl))
  simp only [List.setIfInBounds_toArray, List.set_cons_succ, List.set_cons_zero]
  refine takeH (i := 6) (v := ?_) rfl rfl (by kernel_rfl) (by kernel_rfl) (by kernel_rfl) (fun _ _ _ h => h) (Or.inl ⟨by kernel_rfl, ?_⟩) hS ?_
  rotate_left 1
  · (intro w' hS'; go_simp; try (with_reducible rfl))
  simp only [List.setIfInBounds_toArray, List.set_cons_succ, List.set_cons_zero]
  refine takeH (i := 7) (v := ?_) rfl rfl (by kernel_rfl) (by kernel_rfl) (by kernel_rfl) (fun _ _ _ h => h) (Or.inl ⟨by kernel_rfl, ?_⟩) hS ?_
  rotate_left 1
  · (intro w' hS'; obtain ⟨c0, c1, c2, c3, c4, cf⟩ := prt_cells (hS'.heap hb); go_simp; try (with_reducible rfl))
  simp only [List.setIfInBounds_toArray, List.set_cons_succ, List.set_cons_zero]
  refine takeH (i := 11) (v := ?_) rfl rfl (by kernel_rfl) (by kernel_rfl) (by kernel_rfl) (fun _ _ _ h => h) (Or.inl ⟨by kernel_rfl, ?_⟩) hS ?_
  rotate_left 1
  · (intro w' hS'; go_simp; try (with_reducible rfl))
  simp only [List.setIfInBounds_toArray, List.set_cons_succ, List.set_cons_zero]
  refine takeH (i := 12) (v := ?_) rfl rfl (by kernel_rfl) (by kernel_rfl) (by kernel_rfl) (fun _ _ _ h => h) (Or.inl ⟨by kernel_rfl, ?_⟩) hS ?_
  rotate_left 1
  · (intro w' hS'; obtain ⟨c0, c1, c2, c3, c4, cf⟩ := prt_cells (hS'.heap hb); go_simp; try (with_reducible rfl))
  simp only [List.setIfInBounds_toArray, List.set_cons_succ, List.set_cons_zero]
  refine takeH (i := 16) (v := ?_) rfl rfl (by kernel_rfl) (by kernel_rfl) (by kernel_rfl) (fun _ _ _ h => h) (Or.inl ⟨by kernel_rfl, ?_⟩) hS ?_
  rotate_left 1
  · (intro w' hS'; go_simp; try (with_reducible rfl))
  simp only [List.setIfInBounds_toArray, List.set_cons_succ, List.set_cons_zero]
  refine takeH (i := 17) (v := ?_) rfl rfl (by kernel_rfl) (by kernel_rfl) (by kernel_rfl) (fun _ _ _ h => h) (Or.inl ⟨by kernel_rfl, ?_⟩) hS ?_
  rotate_left 1
  · (intro w' hS'; obtain ⟨c0, c1, c2, c3, c4, cf⟩ := prt_cells (hS'.heap hb); go_simp; try (with_reducible rfl))
  simp only [List.setIfInBounds_toArray, List.set_cons_succ, List.set_cons_zero]
  refine takeH (i := 18) (v := ?_) rfl rfl (by kernel_rfl) (by kernel_rfl) (by kernel_rfl) (fun _ _ _ h => h) (Or.inl ⟨by kernel_rfl, ?_⟩) hS ?_
  rotate_left 1
  · (intro w' hS'; go_simp; try (with_reducible rfl))
  simp only [List.setIfInBounds_toArray, List.set_cons_succ, List.set_cons_zero]
  refine takeH (i := 22) (v := ?_) rfl rfl (by kernel_rfl) (by kernel_rfl) (by kernel_rfl) (fun _ _ _ h => h) (Or.inl ⟨by kernel_rfl, ?_⟩) hS ?_
  rotate_left 1
  · (intro w' hS'; go_simp; try (with_reducible rfl))
  simp only [List.setIfInBounds_toArray, List.set_cons_succ, List.set_cons_zero]
  refine takeH (i := 23) (v := ?_) rfl rfl (by kernel_rfl) (by kernel_rfl) (by kernel_rfl) (fun _ _ _ h => h) (Or.inl ⟨by kernel_rfl, ?_⟩) hS ?_
  rotate_left 1
  · (intro w' hS'; obtain ⟨c0, c1, c2, c3, c4, cf⟩ := prt_cells (hS'.heap hb); go_simp; try (with_reducible rfl))
  simp only [List.setIfInBounds_toArray, List.set_cons_succ, List.set_cons_zero]
  refine takeH (i := 24) (v := ?_) rfl rfl (by kernel_rfl) (by kernel_rfl) (by kernel_rfl) (fun _ _ _ h => h) (Or.inl ⟨by kernel_rfl, ?_⟩) hS ?_
  rotate_left 1
  · (intro w' hS'; have kk := conv_str A p.data n c w' HN.out (hx1.ext hS'); go_simp; try (with_reducible rfl))
  simp only [List.setIfInBounds_toArray, List.set_cons_succ, List.set_cons_zero]
  refine wpAnyH_ready (rs := [3]) (by kernel_rfl) (by simp) ?_
  refine AllReadyH.cons rfl (fun K hK => ?_) ?_
  rotate_left 1
  · exact AllReadyH.nil
  go_simp
  refine (L1 _).mono ?_; rintro e wa1 ⟨B1, d1, rfl, y1, x1⟩
  refine hK.out _ _ (hS.trans x1) (fun hS => ?_)
  clear hK K
  refine held_more (S' := fun w' => Ext wa1 w') (fun w' h => hS.trans h) _ _ _ _ ?_; have hT1 := hT.trans hS; replace hS : Ext wa1 wa1 := Ext.refl wa1
  refine takeH (i := 4) (v := ?_) rfl rfl (by kernel_rfl) (by kernel_rfl) (by kernel_rfl) (fun _ _ _ h => h) (Or.inl ⟨by kernel_rfl, ?_⟩) hS ?_
  rotate_left 1
  · (intro w' hS'; have kk := conv_str B1 G1 4 d1 w' l1 (y1.ext hS'); go_simp; try (with_reducible rfl))
  simp only [List.setIfInBounds_toArray, List.set_cons_succ, List.set_cons_zero]
  refine takeH (i := 5) (v := ?_) rfl rfl (by kernel_rfl) (by kernel_rfl) (by kernel_rfl) (fun _ _ _ h => h) (Or.inl ⟨by kernel_rfl, ?_⟩) hS ?_
  rotate_left 1
  · (intro w' hS'; go_simp; try (with_reducible rfl))
  simp only [List.setIfInBounds_toArray, List.set_cons_succ, List.set_cons_zero]
  refine wpAnyH_ready (rs := [8]) (by kernel_rfl) (by simp) ?_
  refine AllReadyH.cons rfl (fun K hK => ?_) ?_
  rotate_left 1
  · exact AllReadyH.nil
  go_simp
  refine (L2 _).mono ?_; rintro e wa2 ⟨B2, d2, rfl, y2, x2⟩
  refine hK.out _ _ (hS.trans x2) (fun hS => ?_)
  clear hK K
  refine held_more (S' := fun w' => Ext wa2 w') (fun w' h => hS.trans h) _ _ _ _ ?_; have hT2 := hT1.trans hS; replace hS : Ext wa2 wa2 := Ext.refl wa2
  refine takeH (i := 9) (v := ?_) rfl rfl (by kernel_rfl) (by kernel_rfl) (by kernel_rfl) (fun _ _ _ h => h) (Or.inl ⟨by kernel_rfl, ?_⟩) hS ?_
  rotate_left 1
  · (intro w' hS'; have kk := conv_str B2 G2 4 d2 w' l2 (y2.ext hS'); go_simp; try (with_reducible rfl))
  simp only [List.setIfInBounds_toArray, List.set_cons_succ, List.set_cons_zero]
  refine takeH (i := 10) (v := ?_) rfl rfl (by kernel_rfl) (by kernel_rfl) (by kernel_rfl) (fun _ _ _ h => h) (Or.inl ⟨by kernel_rfl, ?_⟩) hS ?_
  rotate_left 1
  · (intro w' hS'; go_simp; try (with_reducible rfl))
  simp only [List.setIfInBounds_toArray, List.set_cons_succ, List.set_cons_zero]
  refine wpAnyH_ready (rs := [13]) (by kernel_rfl) (by simp) ?_
  refine AllReadyH.cons rfl (fun K hK => ?_) ?_
  rotate_left 1
  · exact AllReadyH.nil
  go_simp
  refine (L3 _).mono ?_; rintro e wa3 ⟨B3, d3, rfl, y3, x3⟩
  refine hK.out _ _ (hS.trans x3) (fun hS => ?_)
  clear hK K
  refine held_more (S' := fun w' => Ext wa3 w') (fun w' h => hS.trans h) _ _ _ _ ?_; have hT3 := hT2.trans hS; replace hS : Ext wa3 wa3 := Ext.refl wa3
  refine takeH (i := 14) (v := ?_) rfl rfl (by kernel_rfl) (by kernel_rfl) (by kernel_rfl) (fun _ _ _ h => h) (Or.inl ⟨by kernel_rfl, ?_⟩) hS ?_
  rotate_left 1
  · (intro w' hS'; have kk := conv_str B3 G3 2 d3 w' l3 (y3.ext hS'); go_simp; try (with_reducible rfl))
  simp only [List.setIfInBounds_toArray, List.set_cons_succ, List.set_cons_zero]
  refine takeH (i := 15) (v := ?_) rfl rfl (by kernel_rfl) (by kernel_rfl) (by kernel_rfl) (fun _ _ _ h => h) (Or.inl ⟨by kernel_rfl, ?_⟩) hS ?_
  rotate_left 1
  · (intro w' hS'; go_simp; try (with_reducible rfl))
  simp only [List.setIfInBounds_toArray, List.set_cons_succ, List.set_cons_zero]
  refine wpAnyH_ready (rs := [19]) (by kernel_rfl) (by simp) ?_
  refine AllReadyH.cons rfl (fun K hK => ?_) ?_
  rotate_left 1
  · exact AllReadyH.nil
  go_simp
  refine (L4 _).mono ?_; rintro e wa4 ⟨B4, d4, rfl, y4, x4⟩
  refine hK.out _ _ (hS.trans x4) (fun hS => ?_)
  clear hK K
  refine held_more (S' := fun w' => Ext wa4 w') (fun w' h => hS.trans h) _ _ _ _ ?_; have hT4 := hT3.trans hS; replace hS : Ext wa4 wa4 := Ext.refl wa4
  refine takeH (i := 20) (v := ?_) rfl rfl (by kernel_rfl) (by kernel_rfl) (by kernel_rfl) (fun _ _ _ h => h) (Or.inl ⟨by kernel_rfl, ?_⟩) hS ?_
  rotate_left 1
  · (intro w' hS'; have kk := conv_str B4 G4 1 d4 w' l4 (y4.ext hS'); go_simp; try (with_reducible rfl))
  simp only [List.setIfInBounds_toArray, List.set_cons_succ, List.set_cons_zero]
  refine takeH (i := 21) (v := ?_) rfl rfl (by kernel_rfl) (by kernel_rfl) (by kernel_rfl) (fun _ _ _ h => h) (Or.inl ⟨by kernel_rfl, ?_⟩) hS ?_
  rotate_left 1
  · (intro w' hS'; go_simp; try (with_reducible rfl))
  simp only [List.setIfInBounds_toArray, List.set_cons_succ, List.set_cons_zero]
  refine takeH (i := 25) (v := ?_) rfl rfl (by kernel_rfl) (by kernel_rfl) (by kernel_rfl) (fun _ _ _ h => h) (Or.inl ⟨by kernel_rfl, ?_⟩) hS ?_
  rotate_left 1
  · (intro w' hS'; go_simp; try (with_reducible rfl))
  simp only [List.setIfInBounds_toArray, List.set_cons_succ, List.set_cons_zero]
  refine takeH (i := 26) (v := ?_) rfl rfl (by kernel_rfl) (by kernel_rfl) (by kernel_rfl) (fun _ _ _ h => h) (Or.inl ⟨by kernel_rfl, ?_⟩) hS ?_
  rotate_left 1
  · (intro w' hS'; go_simp; try (with_reducible rfl))
  simp only [List.setIfInBounds_toArray, List.set_cons_succ, List.set_cons_zero]
  refine wpAnyH_done (by kernel_rfl) ?_ _
  have hT5 := hT4.trans hS
  rw [HX.out]
  go_wp2_with fail
  refine (g1 _ _ (by simp)).mono ?_
  rintro e w9 ⟨rfl, x9⟩
  go_wp2_with fail
  go_ret
  exact ⟨rfl, (hT5.alloc _).trans x9⟩
theorem f18_right (p : Prt) (A : Option Addr) (n c : Nat) (w : World) (hn : p.data.length = n) (hr : prtRight p) (hx : Octs w A p.data) :
    Calls Try.prog 18 #[prtV p A n c] w fun e w' => e = .returned (strOf (prtPut p)) ∧ Ext w w' := by
  cases hf : p.foot with
  | true => exact f18_foot p A n c w hf hn hr hx
  | false => exact f18_part p A n c w hf hn hr hx
end Go.Proofs.Ytanmjmeabcloiaa
