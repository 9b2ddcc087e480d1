/- Superblocks (layer 5): the document's Put. -/
import Derived.Test.YtanmjmeabcloiaaSg
import Derived.Test.YtanmjmeabcloiaaBi2
import Derived.Test.YtanmjmeabcloiaaConv
import Derived.Test.YtanmjmeabcloiaaRefCrc
namespace Go.Proofs.Ytanmjmeabcloiaa
open Go.RowKit
open Go.Proofs

section
variable {w : World} {ops : Array Oper} {o : Oper} {a : Act} {K : Act → World → Prop} {Q : Exit → Act → World → Prop} {E : Prop}
/-- 'string(b)', as one step of a region that draws its order. -/
theorem step_str (hgd : o.guard = none) (x : Operand) (ho : o.op = .convert 22 9 x) (A : Option Addr) (l : List UInt8) (n c : Nat) (hx : a.eval x = .slice A n c) (hn : l.length = n) (hO : Octs w A l)
    (h : K (a.put o.dst (strOf l)) w) : if Region.wanted o (yielded ops a.tmps) = true then Oper.wp Try.prog o a w K Q else E := by
  have hw : Region.wanted o (yielded ops a.tmps) = true := by simp [Region.wanted, hgd]
  have hr := conv_str A l n c w hn hO
  rw [if_pos hw]
  unfold Oper.wp
  simp [execOp, ho, hx, hr, Result.andThen]
  exact h
/-- 'make([]byte, n)', as one step of a region that draws its order. -/
theorem step_make (hgd : o.guard = none) (x y : Operand) (ho : o.op = .makeSlice 22 x y) (n : Nat) (hn : n ≤ 4294967296) (hx : a.eval x = .int .i64 (n : Int)) (hy : a.eval y = .int .i64 (n : Int))
    (h : K (a.put o.dst (.slice (some ⟨w.heap.size, 0, none⟩) n n)) (w.alloc (.cells (zeros n) 5))) : if Region.wanted o (yielded ops a.tmps) = true then Oper.wp Try.prog o a w K Q else E := by
  have hw : Region.wanted o (yielded ops a.tmps) = true := by simp [Region.wanted, hgd]
  have hr := make_octs n hn w
  rw [if_pos hw]
  unfold Oper.wp execOp
  simp only [ho, hx, hy, hr, Sem.run_bind, Sem.run_pure, Result.andThen_ok]
  exact h
/-- '[]byte(s)', as one step of a region that draws its order. -/
theorem step_bytes (hgd : o.guard = none) (x : Operand) (ho : o.op = .convert 9 22 x) (s : ByteArray) (l : List UInt8) (hx : a.eval x = .string s) (hs : s = ⟨l.toArray⟩)
    (h : ∀ A c w', l.length ≤ c → Octs w' A l → Ext w w' → K (a.put o.dst (.slice A l.length c)) w') : if Region.wanted o (yielded ops a.tmps) = true then Oper.wp Try.prog o a w K Q else E := by
  subst hs
  have hw : Region.wanted o (yielded ops a.tmps) = true := by simp [Region.wanted, hgd]
  obtain ⟨c, w', hr, h1, h2, h3⟩ := conv_octs l w
  rw [if_pos hw]
  unfold Oper.wp
  simp [execOp, ho, hx, hr, Result.andThen]
  exact h _ c w' h1 h2 h3
end
theorem zoct (W : World) : Octs (W.alloc (.cells (zeros 76) 5)) (some ⟨W.heap.size, 0, none⟩) (List.replicate 76 0) := by
  obtain ⟨_, _, e, _, y⟩ := (own_zeros 76 (by decide) W).octs_form
  injection e with e1
  rw [← e1] at y
  exact y
theorem lay8 (n : Int) (G : List UInt8) (hG : G = leN 8 (u64of n)) (W : World) : Calls Try.prog 46 #[.int .i64 n, .int .i64 8] W fun e w' => ∃ A c, e = .returned (.slice A 8 c) ∧ Octs w' A G ∧ Ext W w' := by
  refine (f79_any n 8 W).mono ?_
  rintro e w1 ⟨v, rfl, o1, x1⟩
  rw [wid8, ← hG] at o1
  obtain ⟨A, c, rfl, _, y⟩ := o1.octs_form
  exact ⟨A, c, by rw [hG, length_leN], y, x1⟩
theorem lay4 (n : Int) (G : List UInt8) (hG : G = leN 4 (u64of n)) (W : World) : Calls Try.prog 46 #[.int .i64 n, .int .i64 4] W fun e w' => ∃ A c, e = .returned (.slice A 4 c) ∧ Octs w' A G ∧ Ext W w' := by
  refine (f79_any n 4 W).mono ?_
  rintro e w1 ⟨v, rfl, o1, x1⟩
  rw [wid4, ← hG] at o1
  obtain ⟨A, c, rfl, _, y⟩ := o1.octs_form
  exact ⟨A, c, by rw [hG, length_leN], y, x1⟩
/-- The text after j numbers. -/
def txt (s : Sup) (j : Nat) : List UInt8 := [77, 79, 84, 72] ++ leN 8 (u64of s.gen) ++ midTo s j
theorem txt_len (s : Sup) (j : Nat) : (txt s j).length ≤ 40 := by
  have := midTo_len s j
  simp only [txt, List.length_append, length_leN, List.length_cons, List.length_nil]
  omega
theorem txt_all (s : Sup) : (txt s 7).length = 40 := by
  rw [txt, midTo_all]
  simp only [List.length_append, length_leN, length_supMid, List.length_cons, List.length_nil]
theorem nums_len (s : Sup) : (supNums s).length = 7 := rfl

set_option maxRecDepth 100000 in
set_option maxHeartbeats 2000000 in
theorem f24_right (s : Sup) (w : World) (hs : s.sum < 4294967296) : Calls Try.prog 24 #[supV s] w fun e w' => e = .returned (strOf (supPut s)) ∧ Ext w w' := by
  obtain ⟨G, hG⟩ : ∃ G, G = leN 8 (u64of s.gen) := ⟨_, rfl⟩
  obtain ⟨LL, hLL⟩ : ∃ LL, LL = txt s := ⟨_, rfl⟩
  have L0 : strOf (LL 0) = .string (⟨#[77, 79, 84, 72]⟩ ++ ⟨G.toArray⟩) := by
    rw [ByteArray.mk_append_mk, hLL, hG]
    simp [strOf, txt, midTo]
  have LS : ∀ j n, (supNums s)[j]? = some n → LL (j + 1) = LL j ++ leN 4 (u64of n) := fun j n h => by
    rw [hLL, txt, txt, midTo_succ s j n h, List.append_assoc, List.append_assoc, List.append_assoc]
  have LB : ∀ j, (LL j).length ≤ 40 := fun j => by rw [hLL]; exact txt_len s j
  have L7 : (LL 7).length = 40 := by rw [hLL]; exact txt_all s
  have LE : Mb.seal_ (LL 7 ++ List.replicate 76 0 ++ G) = supPut s := by
    rw [hLL, hG, supPut, supBody, txt, midTo_all, zer]
    simp only [List.append_assoc]
  have hGl : G.length = 8 := by rw [hG, length_leN]
  have HLS := Lib.hid LS
  have HLB := Lib.hid LB
  have HL7 := Lib.hid L7
  have HLE := Lib.hid LE
  have HL0 := Lib.hid L0
  have HGL := Lib.hid hGl
  have HLay := fun W => lay8 s.gen G hG W
  have hGb : G.length ≤ 8 := by omega
  clear LS LB L7 LE L0 hLL hG hGl
  have hw : IntKind.i64.wrap (s.sum : Int) = (s.sum : Int) := IntWalk.i64_in _ (by omega)
  clear hs
  go_enter Try.func24, Try.ntmps24
  go_wp2_with fail
  refine (HLay _).mono ?_
  rintro e w1 ⟨A1, c1, rfl, y1, x1⟩
  have k1 := conv_str A1 G 8 c1 w1 HGL.out y1
  have hb := x1.heap (heap_alloc_new w _)
  obtain ⟨d0, d1, d2, d3, d4, d5, d6, d7, df⟩ := sup_cells hb
  have hlt := block_lt_of_cell d0
  simp only at hlt
  go_wp2_with fail
  obtain ⟨wx, hwx⟩ : ∃ wx, wx = w1.alloc (.cells (ints (supNums s)).toArray 3) := ⟨_, rfl⟩
  have hq : wx.heap[w1.heap.size]? = some (.cells (ints (supNums s)).toArray 3 (0, 0)) := by rw [hwx]; exact heap_alloc_new w1 _
  have hnum : Hid (∀ (j : Nat) (n : Int), (supNums s)[j]? = some n → wx.cell? ⟨w1.heap.size, j, none⟩ = some (.int .i64 n)) := by
    intro j n h
    rw [cell_of_row wx _ j _ _ _ hq]
    simp [ints, h]
  have hX0 : Ext w1 wx := by rw [hwx]; exact (Ext.refl w1).alloc _
  have hX1 : Ext w wx := (((Ext.refl w).alloc _).trans x1).trans hX0
  have D0 := hX0.cell d0
  have HWX := Lib.hid hwx
  have hS0 : Value.string (⟨#[77, 79, 84, 72]⟩ ++ ⟨G.toArray⟩) = strOf (LL 0) := HL0.out.symm
  have hX00 : Ext wx (w1.alloc (.cells #[.int .i64 s.journal, .int .i64 s.area, .int .i64 s.which, .int .i64 s.len, .int .i64 (s.sum : Int), .int .i64 s.epoch, .int .i64 s.start] 3)) := by rw [hwx]; exact Ext.refl _
  obtain ⟨p, hp⟩ : ∃ p, w.heap.size = p := ⟨_, rfl⟩
  obtain ⟨q, hq1⟩ : ∃ q, w1.heap.size = q := ⟨_, rfl⟩
  rw [hp] at D0 ⊢
  rw [hq1] at hnum ⊢
  have HPP := Lib.hid hp
  clear d0 d1 d2 d3 d4 d5 d6 d7 df k1 y1 hb hq hwx hX0 hlt hp hq1 hw
  go_loopg [3, 5] 7 (fun g v i wr => ∃ j : Nat, j ≤ 7 ∧ 7 - j ≤ g ∧ i = .int .i64 j ∧ v = strOf (LL j) ∧ Ext wx wr)
  case atStart => exact ⟨0, by omega, by omega, rfl, hS0, hX00⟩
  case round =>
    obtain ⟨j, hj, hg, rfl, rfl, hxr⟩ := hrel
    clear hX00 hS0
    have hlj := HLB.out j
    by_cases h7 : j = 7
    · subst h7
      have D7 := hxr.cell D0
      have h40 := HL7.out
      clear hj hg hnum
      have HLE2 := HLE.out
      clear HLE HL7 HLS HLB HL0
      generalize LL 7 = X at *
      obtain ⟨Z, hZ⟩ : ∃ Z : List UInt8, Z = List.replicate 76 0 := ⟨_, rfl⟩
      have hz := zoct
      rw [← hZ] at hz HLE2
      have hZl : Z.length = 76 := by rw [hZ, List.length_replicate]
      have hZb : Z.length ≤ 76 := by omega
      have HZL := Lib.hid hZl
      have HLE := Lib.hid HLE2
      clear hZ hZl HLE2
      have hX := hX1.trans hxr
      have hz76 := HZL.out
      have hg8 := HGL.out
      clear hZb hGb hlj
      go_wp2_with fail
      refine wp_region_held_drew (S := fun w' => Ext wr w') (by kernel_rfl) ((Ext.refl _).drew) (fun hS => ?_)
      refine takeH (i := 0) (v := ?_) rfl rfl (by kernel_rfl) (by kernel_rfl) (by kernel_rfl) (fun _ _ _ h => h) (Or.inl ⟨by kernel_rfl, ?_⟩) hS ?_
      rotate_left 1
      · (intro w' hS'; go_simp; try (with_reducible rfl))
      simp only [List.setIfInBounds_toArray, List.set_cons_succ, List.set_cons_zero]
      refine takeH (i := 1) (v := ?_) rfl rfl (by kernel_rfl) (by kernel_rfl) (by kernel_rfl) (fun _ _ _ h => h) (Or.inl ⟨by kernel_rfl, ?_⟩) hS ?_
      rotate_left 1
      · (intro w' hS'; go_simp; try (with_reducible rfl))
      simp only [List.setIfInBounds_toArray, List.set_cons_succ, List.set_cons_zero]
      refine takeH (i := 2) (v := ?_) rfl rfl (by kernel_rfl) (by kernel_rfl) (by kernel_rfl) (fun _ _ _ h => h) (Or.inl ⟨by kernel_rfl, ?_⟩) hS ?_
      rotate_left 1
      · (intro w' hS'; go_simp; try (with_reducible rfl))
      simp only [List.setIfInBounds_toArray, List.set_cons_succ, List.set_cons_zero]
      refine takeH (i := 3) (v := ?_) rfl rfl (by kernel_rfl) (by kernel_rfl) (by kernel_rfl) (fun _ _ _ h => h) (Or.inl ⟨by kernel_rfl, ?_⟩) hS ?_
      rotate_left 1
      · (intro w' hS'; go_simp; try (with_reducible rfl))
      simp only [List.setIfInBounds_toArray, List.set_cons_succ, List.set_cons_zero]
      refine takeH (i := 7) (v := ?_) rfl rfl (by kernel_rfl) (by kernel_rfl) (by kernel_rfl) (fun _ _ _ h => h) (Or.inl ⟨by kernel_rfl, ?_⟩) hS ?_
      rotate_left 1
      · (intro w' hS'; go_simp; try (with_reducible rfl))
      simp only [List.setIfInBounds_toArray, List.set_cons_succ, List.set_cons_zero]
      refine takeH (i := 8) (v := ?_) rfl rfl (by kernel_rfl) (by kernel_rfl) (by kernel_rfl) (fun _ _ _ h => h) (Or.inl ⟨by kernel_rfl, ?_⟩) hS ?_
      rotate_left 1
      · (intro w' hS'; have e0 := hS'.cell D7; go_simp; try (with_reducible rfl))
      simp only [List.setIfInBounds_toArray, List.set_cons_succ, List.set_cons_zero]
      refine wpAnyH_ready (rs := [4, 9]) (by kernel_rfl) (by simp) ?_
      refine AllReadyH.cons rfl (fun K hK => ?_) ?_
      · skip
        refine step_make rfl (.tmp 44) (.tmp 44) rfl 76 (by decide) rfl rfl ?_
        try go_simp
        refine hK.out _ _ (by first | exact hS | exact hS.alloc _ | exact hS.trans x12 | exact hS.trans x9) (fun hS => ?_)
        clear hK K
        refine wpAnyH_ready (rs := [5, 9]) (by kernel_rfl) (by simp) ?_
        refine AllReadyH.cons rfl (fun K hK => ?_) ?_
        · skip
          refine step_str rfl (.tmp 45) rfl _ Z 76 76 rfl HZL.out (by first | exact hz _ | exact (hz _).drew | exact (hz _).ext x9 | exact (hz _).drew.ext x9) ?_
          try go_simp
          refine hK.out _ _ (by first | exact hS | exact hS.alloc _ | exact hS.trans x12 | exact hS.trans x9) (fun hS => ?_)
          clear hK K
          refine takeH (i := 6) (v := ?_) rfl rfl (by kernel_rfl) (by kernel_rfl) (by kernel_rfl) (fun _ _ _ h => h) (Or.inl ⟨by kernel_rfl, ?_⟩) hS ?_
          rotate_left 1
          · (intro w' hS'; go_simp; try (with_reducible rfl))
          simp only [List.setIfInBounds_toArray, List.set_cons_succ, List.set_cons_zero]
          refine wpAnyH_ready (rs := [9]) (by kernel_rfl) (by simp) ?_
          refine AllReadyH.cons rfl (fun K hK => ?_) ?_
          rotate_left 1
          · exact AllReadyH.nil
          go_simp
          refine (HLay _).mono ?_; rintro e w9 ⟨A9, c9, rfl, y9, x9⟩
          refine hK.out _ _ (hS.trans x9) (fun hS => ?_)
          clear hK K
          refine wpAnyH_ready (rs := [10]) (by kernel_rfl) (by simp) ?_
          refine AllReadyH.cons rfl (fun K hK => ?_) ?_
          rotate_left 1
          · exact AllReadyH.nil
          refine step_str rfl (.tmp 50) rfl A9 G 8 c9 rfl HGL.out (by first | exact y9 | exact y9.alloc _ | exact y9.drew | exact (y9.alloc _).drew) ?_
          try go_simp
          refine hK.out _ _ (by first | exact hS | exact hS.alloc _ | exact hS.trans x12 | exact hS.trans x9) (fun hS => ?_)
          clear hK K
          refine takeH (i := 11) (v := ?_) rfl rfl (by kernel_rfl) (by kernel_rfl) (by kernel_rfl) (fun _ _ _ h => h) (Or.inl ⟨by kernel_rfl, ?_⟩) hS ?_
          rotate_left 1
          · (intro w' hS'; go_simp; try (with_reducible rfl))
          simp only [List.setIfInBounds_toArray, List.set_cons_succ, List.set_cons_zero]
          refine wpAnyH_ready (rs := [12]) (by kernel_rfl) (by simp) ?_
          refine AllReadyH.cons rfl (fun K hK => ?_) ?_
          rotate_left 1
          · exact AllReadyH.nil
          refine step_bytes rfl (.tmp 52) rfl _ (X ++ Z ++ G) rfl (by rw [ByteArray.mk_append_mk, ByteArray.mk_append_mk]) ?_; intro A12 c12 w12 h12 y12 x12; rw [show (X ++ Z ++ G).length = 124 by (rw [List.length_append, List.length_append, h40, HZL.out, HGL.out])] at h12 ⊢
          try go_simp
          refine hK.out _ _ (by first | exact hS | exact hS.alloc _ | exact hS.trans x12 | exact hS.trans x9) (fun hS => ?_)
          clear hK K
          refine wpAnyH_ready (rs := [13]) (by kernel_rfl) (by simp) ?_
          refine AllReadyH.cons rfl (fun K hK => ?_) ?_
          rotate_left 1
          · exact AllReadyH.nil
          go_simp
          refine (f47_n A12 (X ++ Z ++ G) 124 c12 _ (by rw [List.length_append, List.length_append, h40, HZL.out, HGL.out]) (by decide) y12).mono ?_; rw [HLE.out]; rintro e w13 ⟨rfl, x13⟩
          refine hK.out _ _ (hS.trans x13) (fun hS => ?_)
          clear hK K
          refine takeH (i := 14) (v := ?_) rfl rfl (by kernel_rfl) (by kernel_rfl) (by kernel_rfl) (fun _ _ _ h => h) (Or.inl ⟨by kernel_rfl, ?_⟩) hS ?_
          rotate_left 1
          · (intro w' hS'; go_simp; try (with_reducible rfl))
          simp only [List.setIfInBounds_toArray, List.set_cons_succ, List.set_cons_zero]
          refine wpAnyH_done (by kernel_rfl) ?_ _
          go_wp2_with fail
          go_ret
          exact ⟨rfl, hX.trans hS⟩
        refine AllReadyH.cons rfl (fun K hK => ?_) ?_
        · skip
          go_simp
          refine (HLay _).mono ?_; rintro e w9 ⟨A9, c9, rfl, y9, x9⟩
          refine hK.out _ _ (hS.trans x9) (fun hS => ?_)
          clear hK K
          refine wpAnyH_ready (rs := [5, 10]) (by kernel_rfl) (by simp) ?_
          refine AllReadyH.cons rfl (fun K hK => ?_) ?_
          · skip
            refine step_str rfl (.tmp 45) rfl _ Z 76 76 rfl HZL.out (by first | exact hz _ | exact (hz _).drew | exact (hz _).ext x9 | exact (hz _).drew.ext x9) ?_
            try go_simp
            refine hK.out _ _ (by first | exact hS | exact hS.alloc _ | exact hS.trans x12 | exact hS.trans x9) (fun hS => ?_)
            clear hK K
            refine takeH (i := 6) (v := ?_) rfl rfl (by kernel_rfl) (by kernel_rfl) (by kernel_rfl) (fun _ _ _ h => h) (Or.inl ⟨by kernel_rfl, ?_⟩) hS ?_
            rotate_left 1
            · (intro w' hS'; go_simp; try (with_reducible rfl))
            simp only [List.setIfInBounds_toArray, List.set_cons_succ, List.set_cons_zero]
            refine wpAnyH_ready (rs := [10]) (by kernel_rfl) (by simp) ?_
            refine AllReadyH.cons rfl (fun K hK => ?_) ?_
            rotate_left 1
            · exact AllReadyH.nil
            refine step_str rfl (.tmp 50) rfl A9 G 8 c9 rfl HGL.out (by first | exact y9 | exact y9.alloc _ | exact y9.drew | exact (y9.alloc _).drew) ?_
            try go_simp
            refine hK.out _ _ (by first | exact hS | exact hS.alloc _ | exact hS.trans x12 | exact hS.trans x9) (fun hS => ?_)
            clear hK K
            refine takeH (i := 11) (v := ?_) rfl rfl (by kernel_rfl) (by kernel_rfl) (by kernel_rfl) (fun _ _ _ h => h) (Or.inl ⟨by kernel_rfl, ?_⟩) hS ?_
            rotate_left 1
            · (intro w' hS'; go_simp; try (with_reducible rfl))
            simp only [List.setIfInBounds_toArray, List.set_cons_succ, List.set_cons_zero]
            refine wpAnyH_ready (rs := [12]) (by kernel_rfl) (by simp) ?_
            refine AllReadyH.cons rfl (fun K hK => ?_) ?_
            rotate_left 1
            · exact AllReadyH.nil
            refine step_bytes rfl (.tmp 52) rfl _ (X ++ Z ++ G) rfl (by rw [ByteArray.mk_append_mk, ByteArray.mk_append_mk]) ?_; intro A12 c12 w12 h12 y12 x12; rw [show (X ++ Z ++ G).length = 124 by (rw [List.length_append, List.length_append, h40, HZL.out, HGL.out])] at h12 ⊢
            try go_simp
            refine hK.out _ _ (by first | exact hS | exact hS.alloc _ | exact hS.trans x12 | exact hS.trans x9) (fun hS => ?_)
            clear hK K
            refine wpAnyH_ready (rs := [13]) (by kernel_rfl) (by simp) ?_
            refine AllReadyH.cons rfl (fun K hK => ?_) ?_
            rotate_left 1
            · exact AllReadyH.nil
            go_simp
            refine (f47_n A12 (X ++ Z ++ G) 124 c12 _ (by rw [List.length_append, List.length_append, h40, HZL.out, HGL.out]) (by decide) y12).mono ?_; rw [HLE.out]; rintro e w13 ⟨rfl, x13⟩
            refine hK.out _ _ (hS.trans x13) (fun hS => ?_)
            clear hK K
            refine takeH (i := 14) (v := ?_) rfl rfl (by kernel_rfl) (by kernel_rfl) (by kernel_rfl) (fun _ _ _ h => h) (Or.inl ⟨by kernel_rfl, ?_⟩) hS ?_
            rotate_left 1
            · (intro w' hS'; go_simp; try (with_reducible rfl))
            simp only [List.setIfInBounds_toArray, List.set_cons_succ, List.set_cons_zero]
            refine wpAnyH_done (by kernel_rfl) ?_ _
            go_wp2_with fail
            go_ret
            exact ⟨rfl, hX.trans hS⟩
          refine AllReadyH.cons rfl (fun K hK => ?_) ?_
          · skip
            refine step_str rfl (.tmp 50) rfl A9 G 8 c9 rfl HGL.out (by first | exact y9 | exact y9.alloc _ | exact y9.drew | exact (y9.alloc _).drew) ?_
            try go_simp
            refine hK.out _ _ (by first | exact hS | exact hS.alloc _ | exact hS.trans x12 | exact hS.trans x9) (fun hS => ?_)
            clear hK K
            refine wpAnyH_ready (rs := [5]) (by kernel_rfl) (by simp) ?_
            refine AllReadyH.cons rfl (fun K hK => ?_) ?_
            rotate_left 1
            · exact AllReadyH.nil
            refine step_str rfl (.tmp 45) rfl _ Z 76 76 rfl HZL.out (by first | exact hz _ | exact (hz _).drew | exact (hz _).ext x9 | exact (hz _).drew.ext x9) ?_
            try go_simp
            refine hK.out _ _ (by first | exact hS | exact hS.alloc _ | exact hS.trans x12 | exact hS.trans x9) (fun hS => ?_)
            clear hK K
            refine takeH (i := 6) (v := ?_) rfl rfl (by kernel_rfl) (by kernel_rfl) (by kernel_rfl) (fun _ _ _ h => h) (Or.inl ⟨by kernel_rfl, ?_⟩) hS ?_
            rotate_left 1
            · (intro w' hS'; go_simp; try (with_reducible rfl))
            simp only [List.setIfInBounds_toArray, List.set_cons_succ, List.set_cons_zero]
            refine takeH (i := 11) (v := ?_) rfl rfl (by kernel_rfl) (by kernel_rfl) (by kernel_rfl) (fun _ _ _ h => h) (Or.inl ⟨by kernel_rfl, ?_⟩) hS ?_
            rotate_left 1
            · (intro w' hS'; go_simp; try (with_reducible rfl))
            simp only [List.setIfInBounds_toArray, List.set_cons_succ, List.set_cons_zero]
            refine wpAnyH_ready (rs := [12]) (by kernel_rfl) (by simp) ?_
            refine AllReadyH.cons rfl (fun K hK => ?_) ?_
            rotate_left 1
            · exact AllReadyH.nil
            refine step_bytes rfl (.tmp 52) rfl _ (X ++ Z ++ G) rfl (by rw [ByteArray.mk_append_mk, ByteArray.mk_append_mk]) ?_; intro A12 c12 w12 h12 y12 x12; rw [show (X ++ Z ++ G).length = 124 by (rw [List.length_append, List.length_append, h40, HZL.out, HGL.out])] at h12 ⊢
            try go_simp
            refine hK.out _ _ (by first | exact hS | exact hS.alloc _ | exact hS.trans x12 | exact hS.trans x9) (fun hS => ?_)
            clear hK K
            refine wpAnyH_ready (rs := [13]) (by kernel_rfl) (by simp) ?_
            refine AllReadyH.cons rfl (fun K hK => ?_) ?_
            rotate_left 1
            · exact AllReadyH.nil
            go_simp
            refine (f47_n A12 (X ++ Z ++ G) 124 c12 _ (by rw [List.length_append, List.length_append, h40, HZL.out, HGL.out]) (by decide) y12).mono ?_; rw [HLE.out]; rintro e w13 ⟨rfl, x13⟩
            refine hK.out _ _ (hS.trans x13) (fun hS => ?_)
            clear hK K
            refine takeH (i := 14) (v := ?_) rfl rfl (by kernel_rfl) (by kernel_rfl) (by kernel_rfl) (fun _ _ _ h => h) (Or.inl ⟨by kernel_rfl, ?_⟩) hS ?_
            rotate_left 1
            · (intro w' hS'; go_simp; try (with_reducible rfl))
            simp only [List.setIfInBounds_toArray, List.set_cons_succ, List.set_cons_zero]
            refine wpAnyH_done (by kernel_rfl) ?_ _
            go_wp2_with fail
            go_ret
            exact ⟨rfl, hX.trans hS⟩
          exact AllReadyH.nil
        exact AllReadyH.nil
      refine AllReadyH.cons rfl (fun K hK => ?_) ?_
      · skip
        go_simp
        refine (HLay _).mono ?_; rintro e w9 ⟨A9, c9, rfl, y9, x9⟩
        refine hK.out _ _ (hS.trans x9) (fun hS => ?_)
        clear hK K
        refine wpAnyH_ready (rs := [4, 10]) (by kernel_rfl) (by simp) ?_
        refine AllReadyH.cons rfl (fun K hK => ?_) ?_
        · skip
          refine step_make rfl (.tmp 44) (.tmp 44) rfl 76 (by decide) rfl rfl ?_
          try go_simp
          refine hK.out _ _ (by first | exact hS | exact hS.alloc _ | exact hS.trans x12 | exact hS.trans x9) (fun hS => ?_)
          clear hK K
          refine wpAnyH_ready (rs := [5, 10]) (by kernel_rfl) (by simp) ?_
          refine AllReadyH.cons rfl (fun K hK => ?_) ?_
          · skip
            refine step_str rfl (.tmp 45) rfl _ Z 76 76 rfl HZL.out (by first | exact hz _ | exact (hz _).drew | exact (hz _).ext x9 | exact (hz _).drew.ext x9) ?_
            try go_simp
            refine hK.out _ _ (by first | exact hS | exact hS.alloc _ | exact hS.trans x12 | exact hS.trans x9) (fun hS => ?_)
            clear hK K
            refine takeH (i := 6) (v := ?_) rfl rfl (by kernel_rfl) (by kernel_rfl) (by kernel_rfl) (fun _ _ _ h => h) (Or.inl ⟨by kernel_rfl, ?_⟩) hS ?_
            rotate_left 1
            · (intro w' hS'; go_simp; try (with_reducible rfl))
            simp only [List.setIfInBounds_toArray, List.set_cons_succ, List.set_cons_zero]
            refine wpAnyH_ready (rs := [10]) (by kernel_rfl) (by simp) ?_
            refine AllReadyH.cons rfl (fun K hK => ?_) ?_
            rotate_left 1
            · exact AllReadyH.nil
            refine step_str rfl (.tmp 50) rfl A9 G 8 c9 rfl HGL.out (by first | exact y9 | exact y9.alloc _ | exact y9.drew | exact (y9.alloc _).drew) ?_
            try go_simp
            refine hK.out _ _ (by first | exact hS | exact hS.alloc _ | exact hS.trans x12 | exact hS.trans x9) (fun hS => ?_)
            clear hK K
            refine takeH (i := 11) (v := ?_) rfl rfl (by kernel_rfl) (by kernel_rfl) (by kernel_rfl) (fun _ _ _ h => h) (Or.inl ⟨by kernel_rfl, ?_⟩) hS ?_
            rotate_left 1
            · (intro w' hS'; go_simp; try (with_reducible rfl))
            simp only [List.setIfInBounds_toArray, List.set_cons_succ, List.set_cons_zero]
            refine wpAnyH_ready (rs := [12]) (by kernel_rfl) (by simp) ?_
            refine AllReadyH.cons rfl (fun K hK => ?_) ?_
            rotate_left 1
            · exact AllReadyH.nil
            refine step_bytes rfl (.tmp 52) rfl _ (X ++ Z ++ G) rfl (by rw [ByteArray.mk_append_mk, ByteArray.mk_append_mk]) ?_; intro A12 c12 w12 h12 y12 x12; rw [show (X ++ Z ++ G).length = 124 by (rw [List.length_append, List.length_append, h40, HZL.out, HGL.out])] at h12 ⊢
            try go_simp
            refine hK.out _ _ (by first | exact hS | exact hS.alloc _ | exact hS.trans x12 | exact hS.trans x9) (fun hS => ?_)
            clear hK K
            refine wpAnyH_ready (rs := [13]) (by kernel_rfl) (by simp) ?_
            refine AllReadyH.cons rfl (fun K hK => ?_) ?_
            rotate_left 1
            · exact AllReadyH.nil
            go_simp
            refine (f47_n A12 (X ++ Z ++ G) 124 c12 _ (by rw [List.length_append, List.length_append, h40, HZL.out, HGL.out]) (by decide) y12).mono ?_; rw [HLE.out]; rintro e w13 ⟨rfl, x13⟩
            refine hK.out _ _ (hS.trans x13) (fun hS => ?_)
            clear hK K
            refine takeH (i := 14) (v := ?_) rfl rfl (by kernel_rfl) (by kernel_rfl) (by kernel_rfl) (fun _ _ _ h => h) (Or.inl ⟨by kernel_rfl, ?_⟩) hS ?_
            rotate_left 1
            · (intro w' hS'; go_simp; try (with_reducible rfl))
            simp only [List.setIfInBounds_toArray, List.set_cons_succ, List.set_cons_zero]
            refine wpAnyH_done (by kernel_rfl) ?_ _
            go_wp2_with fail
            go_ret
            exact ⟨rfl, hX.trans hS⟩
          refine AllReadyH.cons rfl (fun K hK => ?_) ?_
          · skip
            refine step_str rfl (.tmp 50) rfl A9 G 8 c9 rfl HGL.out (by first | exact y9 | exact y9.alloc _ | exact y9.drew | exact (y9.alloc _).drew) ?_
            try go_simp
            refine hK.out _ _ (by first | exact hS | exact hS.alloc _ | exact hS.trans x12 | exact hS.trans x9) (fun hS => ?_)
            clear hK K
            refine wpAnyH_ready (rs := [5]) (by kernel_rfl) (by simp) ?_
            refine AllReadyH.cons rfl (fun K hK => ?_) ?_
            rotate_left 1
            · exact AllReadyH.nil
            refine step_str rfl (.tmp 45) rfl _ Z 76 76 rfl HZL.out (by first | exact hz _ | exact (hz _).drew | exact (hz _).ext x9 | exact (hz _).drew.ext x9) ?_
            try go_simp
            refine hK.out _ _ (by first | exact hS | exact hS.alloc _ | exact hS.trans x12 | exact hS.trans x9) (fun hS => ?_)
            clear hK K
            refine takeH (i := 6) (v := ?_) rfl rfl (by kernel_rfl) (by kernel_rfl) (by kernel_rfl) (fun _ _ _ h => h) (Or.inl ⟨by kernel_rfl, ?_⟩) hS ?_
            rotate_left 1
            · (intro w' hS'; go_simp; try (with_reducible rfl))
            simp only [List.setIfInBounds_toArray, List.set_cons_succ, List.set_cons_zero]
            refine takeH (i := 11) (v := ?_) rfl rfl (by kernel_rfl) (by kernel_rfl) (by kernel_rfl) (fun _ _ _ h => h) (Or.inl ⟨by kernel_rfl, ?_⟩) hS ?_
            rotate_left 1
            · (intro w' hS'; go_simp; try (with_reducible rfl))
            simp only [List.setIfInBounds_toArray, List.set_cons_succ, List.set_cons_zero]
            refine wpAnyH_ready (rs := [12]) (by kernel_rfl) (by simp) ?_
            refine AllReadyH.cons rfl (fun K hK => ?_) ?_
            rotate_left 1
            · exact AllReadyH.nil
            refine step_bytes rfl (.tmp 52) rfl _ (X ++ Z ++ G) rfl (by rw [ByteArray.mk_append_mk, ByteArray.mk_append_mk]) ?_; intro A12 c12 w12 h12 y12 x12; rw [show (X ++ Z ++ G).length = 124 by (rw [List.length_append, List.length_append, h40, HZL.out, HGL.out])] at h12 ⊢
            try go_simp
            refine hK.out _ _ (by first | exact hS | exact hS.alloc _ | exact hS.trans x12 | exact hS.trans x9) (fun hS => ?_)
            clear hK K
            refine wpAnyH_ready (rs := [13]) (by kernel_rfl) (by simp) ?_
            refine AllReadyH.cons rfl (fun K hK => ?_) ?_
            rotate_left 1
            · exact AllReadyH.nil
            go_simp
            refine (f47_n A12 (X ++ Z ++ G) 124 c12 _ (by rw [List.length_append, List.length_append, h40, HZL.out, HGL.out]) (by decide) y12).mono ?_; rw [HLE.out]; rintro e w13 ⟨rfl, x13⟩
            refine hK.out _ _ (hS.trans x13) (fun hS => ?_)
            clear hK K
            refine takeH (i := 14) (v := ?_) rfl rfl (by kernel_rfl) (by kernel_rfl) (by kernel_rfl) (fun _ _ _ h => h) (Or.inl ⟨by kernel_rfl, ?_⟩) hS ?_
            rotate_left 1
            · (intro w' hS'; go_simp; try (with_reducible rfl))
            simp only [List.setIfInBounds_toArray, List.set_cons_succ, List.set_cons_zero]
            refine wpAnyH_done (by kernel_rfl) ?_ _
            go_wp2_with fail
            go_ret
            exact ⟨rfl, hX.trans hS⟩
          exact AllReadyH.nil
        refine AllReadyH.cons rfl (fun K hK => ?_) ?_
        · skip
          refine step_str rfl (.tmp 50) rfl A9 G 8 c9 rfl HGL.out (by first | exact y9 | exact y9.alloc _ | exact y9.drew | exact (y9.alloc _).drew) ?_
          try go_simp
          refine hK.out _ _ (by first | exact hS | exact hS.alloc _ | exact hS.trans x12 | exact hS.trans x9) (fun hS => ?_)
          clear hK K
          refine wpAnyH_ready (rs := [4]) (by kernel_rfl) (by simp) ?_
          refine AllReadyH.cons rfl (fun K hK => ?_) ?_
          rotate_left 1
          · exact AllReadyH.nil
          refine step_make rfl (.tmp 44) (.tmp 44) rfl 76 (by decide) rfl rfl ?_
          try go_simp
          refine hK.out _ _ (by first | exact hS | exact hS.alloc _ | exact hS.trans x12 | exact hS.trans x9) (fun hS => ?_)
          clear hK K
          refine wpAnyH_ready (rs := [5]) (by kernel_rfl) (by simp) ?_
          refine AllReadyH.cons rfl (fun K hK => ?_) ?_
          rotate_left 1
          · exact AllReadyH.nil
          refine step_str rfl (.tmp 45) rfl _ Z 76 76 rfl HZL.out (by first | exact hz _ | exact (hz _).drew | exact (hz _).ext x9 | exact (hz _).drew.ext x9) ?_
          try go_simp
          refine hK.out _ _ (by first | exact hS | exact hS.alloc _ | exact hS.trans x12 | exact hS.trans x9) (fun hS => ?_)
          clear hK K
          refine takeH (i := 6) (v := ?_) rfl rfl (by kernel_rfl) (by kernel_rfl) (by kernel_rfl) (fun _ _ _ h => h) (Or.inl ⟨by kernel_rfl, ?_⟩) hS ?_
          rotate_left 1
          · (intro w' hS'; go_simp; try (with_reducible rfl))
          simp only [List.setIfInBounds_toArray, List.set_cons_succ, List.set_cons_zero]
          refine takeH (i := 11) (v := ?_) rfl rfl (by kernel_rfl) (by kernel_rfl) (by kernel_rfl) (fun _ _ _ h => h) (Or.inl ⟨by kernel_rfl, ?_⟩) hS ?_
          rotate_left 1
          · (intro w' hS'; go_simp; try (with_reducible rfl))
          simp only [List.setIfInBounds_toArray, List.set_cons_succ, List.set_cons_zero]
          refine wpAnyH_ready (rs := [12]) (by kernel_rfl) (by simp) ?_
          refine AllReadyH.cons rfl (fun K hK => ?_) ?_
          rotate_left 1
          · exact AllReadyH.nil
          refine step_bytes rfl (.tmp 52) rfl _ (X ++ Z ++ G) rfl (by rw [ByteArray.mk_append_mk, ByteArray.mk_append_mk]) ?_; intro A12 c12 w12 h12 y12 x12; rw [show (X ++ Z ++ G).length = 124 by (rw [List.length_append, List.length_append, h40, HZL.out, HGL.out])] at h12 ⊢
          try go_simp
          refine hK.out _ _ (by first | exact hS | exact hS.alloc _ | exact hS.trans x12 | exact hS.trans x9) (fun hS => ?_)
          clear hK K
          refine wpAnyH_ready (rs := [13]) (by kernel_rfl) (by simp) ?_
          refine AllReadyH.cons rfl (fun K hK => ?_) ?_
          rotate_left 1
          · exact AllReadyH.nil
          go_simp
          refine (f47_n A12 (X ++ Z ++ G) 124 c12 _ (by rw [List.length_append, List.length_append, h40, HZL.out, HGL.out]) (by decide) y12).mono ?_; rw [HLE.out]; rintro e w13 ⟨rfl, x13⟩
          refine hK.out _ _ (hS.trans x13) (fun hS => ?_)
          clear hK K
          refine takeH (i := 14) (v := ?_) rfl rfl (by kernel_rfl) (by kernel_rfl) (by kernel_rfl) (fun _ _ _ h => h) (Or.inl ⟨by kernel_rfl, ?_⟩) hS ?_
          rotate_left 1
          · (intro w' hS'; go_simp; try (with_reducible rfl))
          simp only [List.setIfInBounds_toArray, List.set_cons_succ, List.set_cons_zero]
          refine wpAnyH_done (by kernel_rfl) ?_ _
          go_wp2_with fail
          go_ret
          exact ⟨rfl, hX.trans hS⟩
        exact AllReadyH.nil
      exact AllReadyH.nil
    · obtain ⟨n, hn⟩ : ∃ n, (supNums s)[j]? = some n := ⟨_, List.getElem?_eq_getElem (by rw [nums_len]; omega)⟩
      have hc := hxr.cell (hnum.out j n hn)
      obtain ⟨B, hB⟩ : ∃ B, B = leN 4 (u64of n) := ⟨_, rfl⟩
      have hBl : B.length = 4 := by rw [hB, length_leN]
      have HS := Lib.hid (HLS.out j n hn)
      rw [← hB] at HS
      have H4 := lay4 n B hB wr
      have HBL := Lib.hid hBl
      have hb4 : B.length ≤ 4 := by omega
      have hj7 : j < 7 := by omega
      have hji : (j : Int) < 7 := by omega
      clear hB hn hBl h7
      go_wp2_with (go_at_call 46; refine H4.mono ?_; clear H4; rintro e w3 ⟨A3, c3, rfl, y3, x3⟩; have k3 := conv_str A3 B 4 c3 w3 HBL.out y3)
      go_roundg (7 - (j + 1))
      case measure => omega
      case rel => exact ⟨j + 1, by omega, by omega, by go_num, by rw [HS.out, strOf, ByteArray.mk_append_mk], hxr.trans x3⟩
end Go.Proofs.Ytanmjmeabcloiaa
