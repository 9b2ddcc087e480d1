/- A zigzag is as short as may be, and one that is written longer is not read: the law's walk. -/
import Derived.Test.YtghkkhafnkkomaaPz
namespace Go.Proofs.Ytghkkhafnkkomaa
open Go.RowKit
open Go.Proofs

set_option maxRecDepth 100000 in
set_option maxHeartbeats 1000000 in
theorem f4_walk (n m : Int) (w : World) (n1 : -9223372036854775808 ≤ n) (n2 : n ≤ 9223372036854775807) (m1 : -9223372036854775808 ≤ m) (m2 : m ≤ 9223372036854775807) :
    Calls Try.prog 4 #[.int .i64 n, .int .i64 m] w fun e w' => e = .returned (.bool true) ∧ Ext w w' := by
  go_enter Try.func4, Try.ntmps4
  go_wp2_with fail
  refine (f22_any w).mono ?_
  rintro e w1 ⟨rfl, x1⟩
  go_wp2_with fail
  refine (puts_one n w1 n1 n2).mono ?_
  rintro e w2 ⟨v2, rfl, o2, x2⟩
  go_wp2_with fail
  refine (puts_one m w2 m1 m2).mono ?_
  rintro e w3 ⟨v3, rfl, o3, x3⟩
  have hz64 := zb_len64 _ (zz_lt n n1 n2)
  have hzp := zb_pos (zz n)
  have hmono : 0 ≤ n → n ≤ m → (zb (zz n)).length ≤ (zb (zz m)).length := fun h0 h1 => zb_mono (zz n) _ _ (Nat.le_refl _) (by unfold zz; rw [if_pos h0, if_pos (by omega)]; omega)
  have hmk := zb_marked (zz n)
  have hzm := zb_len64 _ (zz_lt m m1 m2)
  have hR := fun W => f24_any n W n1 n2
  generalize zb (zz n) = a at *
  generalize zb (zz m) = b at *
  obtain ⟨A, c, rfl, hc, hxa⟩ := o2.octs_form
  obtain ⟨B, d, rfl, hd, _⟩ := o3.octs_form
  obtain ⟨p, hp⟩ : ∃ p, p = a.length := ⟨_, rfl⟩
  obtain ⟨r, hr⟩ : ∃ r, r = b.length := ⟨_, rfl⟩
  rw [← hp] at hc hz64 hzp hmono ⊢
  rw [← hr] at hd hzm hmono ⊢
  have HP := Lib.hid hp
  have hxa3 := hxa.ext x3
  have x13 := (x1.trans x2).trans x3
  have hp1 : ((p : Int) < 1) = False := by simp; omega
  have hp2 : ((10 : Int) < (p : Int)) = False := by simp; omega
  have HM := Lib.hid hmono
  clear hp hr o2 o3 hxa x1 x2 x3 hmono
  go_wp2_with fail
  refine wp_region_held_drew (S := fun w' => Ext w3 w') (by kernel_rfl) ((Ext.refl _).drew) (fun hS => ?_)
  refine takeH (i := 0) (v := ?_) rfl rfl (by kernel_rfl) (by kernel_rfl) (by kernel_rfl) (fun _ _ _ h => h) (Or.inl ⟨by kernel_rfl, ?_⟩) hS ?_
  rotate_left 1
  · (intro w' hS'; go_simp; try (with_reducible rfl))
  simp only [List.setIfInBounds_toArray, List.set_cons_succ, List.set_cons_zero]
  refine takeH (i := 1) (v := ?_) rfl rfl (by kernel_rfl) (by kernel_rfl) (by kernel_rfl) (fun _ _ _ h => h) (Or.inl ⟨by kernel_rfl, ?_⟩) hS ?_
  rotate_left 1
  · (intro w' hS'; have g1 := conv_str A a p c w' HP.out.symm (hxa3.ext hS'); go_simp; try (with_reducible rfl))
  simp only [List.setIfInBounds_toArray, List.set_cons_succ, List.set_cons_zero]
  refine takeH (i := 2) (v := ?_) rfl rfl (by kernel_rfl) (by kernel_rfl) (by kernel_rfl) (fun _ _ _ h => h) (Or.inl ⟨by kernel_rfl, ?_⟩) hS ?_
  rotate_left 1
  · (intro w' hS'; go_simp; try (with_reducible rfl))
  simp only [List.setIfInBounds_toArray, List.set_cons_succ, List.set_cons_zero]
  refine wpAnyH_ready (rs := [3]) (by kernel_rfl) (by simp) ?_
  refine AllReadyH.cons rfl (fun K hK => ?_) ?_
  rotate_left 1
  · exact AllReadyH.nil
  go_simp
  refine (hR _).mono ?_; rintro e wr ⟨rfl, xr⟩
  refine hK.out _ _ (hS.trans xr) (fun hS => ?_)
  clear hK K
  refine takeH (i := 4) (v := ?_) rfl rfl (by kernel_rfl) (by kernel_rfl) (by kernel_rfl) (fun _ _ _ h => h) (Or.inl ⟨by kernel_rfl, ?_⟩) hS ?_
  rotate_left 1
  · (intro w' hS'; go_simp; try (with_reducible rfl))
  simp only [List.setIfInBounds_toArray, List.set_cons_succ, List.set_cons_zero]
  refine takeH (i := 5) (v := ?_) rfl rfl (by kernel_rfl) (by kernel_rfl) (by kernel_rfl) (fun _ _ _ h => h) (Or.inl ⟨by kernel_rfl, ?_⟩) hS ?_
  rotate_left 1
  · (intro w' hS'; go_simp; try (with_reducible rfl))
  simp only [List.setIfInBounds_toArray, List.set_cons_succ, List.set_cons_zero]
  refine takeH (i := 6) (v := ?_) rfl rfl (by kernel_rfl) (by kernel_rfl) (by kernel_rfl) (fun _ _ _ h => h) (Or.inl ⟨by kernel_rfl, ?_⟩) hS ?_
  rotate_left 1
  · (intro w' hS'; go_simp; try (with_reducible rfl))
  simp only [List.setIfInBounds_toArray, List.set_cons_succ, List.set_cons_zero]
  refine takeH (i := 7) (v := ?_) rfl rfl (by kernel_rfl) (by kernel_rfl) (by kernel_rfl) (fun _ _ _ h => h) (Or.inl ⟨by kernel_rfl, ?_⟩) hS ?_
  rotate_left 1
  · (intro w' hS'; go_simp; try (with_reducible rfl))
  simp only [List.setIfInBounds_toArray, List.set_cons_succ, List.set_cons_zero]
  refine takeH (i := 8) (v := ?_) rfl rfl (by kernel_rfl) (by kernel_rfl) (by kernel_rfl) (fun _ _ _ h => h) (Or.inl ⟨by kernel_rfl, ?_⟩) hS ?_
  rotate_left 1
  · (intro w' hS'; go_simp; try (with_reducible rfl))
  simp only [List.setIfInBounds_toArray, List.set_cons_succ, List.set_cons_zero]
  refine takeH (i := 9) (v := ?_) rfl rfl (by kernel_rfl) (by kernel_rfl) (by kernel_rfl) (fun _ _ _ h => h) (Or.inl ⟨by kernel_rfl, ?_⟩) hS ?_
  rotate_left 1
  · (intro w' hS'; go_simp; try (with_reducible rfl))
  simp only [List.setIfInBounds_toArray, List.set_cons_succ, List.set_cons_zero]
  refine takeH (i := 10) (v := ?_) rfl rfl (by kernel_rfl) (by kernel_rfl) (by kernel_rfl) (fun _ _ _ h => h) (Or.inl ⟨by kernel_rfl, ?_⟩) hS ?_
  rotate_left 1
  · (intro w' hS'; go_simp; try (with_reducible rfl))
  simp only [List.setIfInBounds_toArray, List.set_cons_succ, List.set_cons_zero]
  refine takeH (i := 11) (v := ?_) rfl rfl (by kernel_rfl) (by kernel_rfl) (by kernel_rfl) (fun _ _ _ h => h) (Or.inl ⟨by kernel_rfl, ?_⟩) hS ?_
  rotate_left 1
  · (intro w' hS'; go_simp; try (with_reducible rfl))
  simp only [List.setIfInBounds_toArray, List.set_cons_succ, List.set_cons_zero]
  refine takeH (i := 12) (v := ?_) rfl rfl (by kernel_rfl) (by kernel_rfl) (by kernel_rfl) (fun _ _ _ h => h) (Or.inl ⟨by kernel_rfl, ?_⟩) hS ?_
  rotate_left 1
  · (intro w' hS'; go_simp; try (with_reducible rfl))
  simp only [List.setIfInBounds_toArray, List.set_cons_succ, List.set_cons_zero]
  refine takeH (i := 13) (v := ?_) rfl rfl (by kernel_rfl) (by kernel_rfl) (by kernel_rfl) (fun _ _ _ h => h) (Or.inl ⟨by kernel_rfl, ?_⟩) hS ?_
  rotate_left 1
  · (intro w' hS'; go_simp; try (with_reducible rfl))
  simp only [List.setIfInBounds_toArray, List.set_cons_succ, List.set_cons_zero]
  refine takeH (i := 14) (v := ?_) rfl rfl (by kernel_rfl) (by kernel_rfl) (by kernel_rfl) (fun _ _ _ h => h) (Or.inl ⟨by kernel_rfl, ?_⟩) hS ?_
  rotate_left 1
  · (intro w' hS'; go_simp; try (with_reducible rfl))
  simp only [List.setIfInBounds_toArray, List.set_cons_succ, List.set_cons_zero]
  refine wpAnyH_done (by kernel_rfl) ?_ _
  have hxa4 := hxa3.ext hS
  have x4 := x13.trans hS
  clear hxa3 x13
  by_cases h0 : 0 ≤ n
  · by_cases h1 : n ≤ m
    · have hlen := HM.out h0 h1
      have hrp : ((r : Int) < (p : Int)) = False := by simp; omega
      go_wp2_with (at_builtin; refine wpList_copyo rfl (.tmp 48) (.tmp 49) rfl rfl rfl A p c a rfl HP.out.symm hxa4 (by rw [← HP.out]; omega) ?_)
      intro v5 w5 o5 x5
      obtain ⟨g, cg, rfl, hcg, hgb, hgs, hcells, hfz⟩ := o5.head (by rw [← HP.out]; omega)
      obtain ⟨q, hq⟩ : ∃ q, q = p - 1 := ⟨_, rfl⟩
      have hpq : (p : Int) - 1 = (q : Int) := by omega
      have hqw : IntKind.i64.wrap (q : Int) = (q : Int) := IntWalk.i64_in _ (by omega)
      have hqa : q < a.length := by rw [← HP.out]; omega
      have hqp : (q : Int) < (p : Int) := by omega
      have hcq := hcells q hqa
      have hfq := hfz q
      generalize a.getD q 0 = x at hcq
      obtain ⟨y, hy⟩ : ∃ y, y = UInt8.ofNat (x.toNat ||| 128) := ⟨_, rfl⟩
      have hxx := or_128 x.toNat x.toNat_lt
      have hyn : y.toNat = x.toNat ||| 128 := by rw [hy, UInt8.toNat_ofNat', hxx]; omega
      have hor : bits .or .u8 ((x.toNat : Nat) : Int) 128 = ((y.toNat : Nat) : Int) := by
        rw [hyn]
        exact u8_or_nat x.toNat 128 x.toNat_lt (by decide)
      have hy128 : 128 ≤ y.toNat := by rw [hyn, hxx]; omega
      have hall := mark_last a y hmk hy128
      rw [← HP.out, ← hq] at hall
      have o6 := o5.set q y
      have hcg' := HP.out
      rw [← hcg'] at o6 hcg ⊢
      have x6 : Ext wr (w5.setCell ⟨g, q, none⟩ (.int .u8 ((y.toNat : Nat) : Int))) := x5.setCell hgb _
      have hl6 : (a.set q y).length = p := by rw [List.length_set]; exact HP.out.symm
      have HL6 := Lib.hid hl6
      have HQ := Lib.hid hq
      have HALL := Lib.hid hall
      clear hq hy hyn hxx hy128 hall hcells hfz o5 hcg' hl6 hqa
      generalize a.set q y = L at o6 HL6 HALL
      go_wp2_with (at_builtin; refine wpList_appo rfl (.tmp 59) (.tmp 60) rfl wr.heap.size (.slice (some ⟨g, 0, none⟩) p cg) L rfl (o6.alloc _) (some ⟨w5.heap.size, 0, none⟩) 1 1 [0] rfl rfl (by have := Cells.new1 (w5.setCell ⟨g, q, none⟩ (.int .u8 ((y.toNat : Nat) : Int))) (.int .u8 0) 5; rw [size_setCell] at this; exact this) (by rw [HL6.out]; simp; omega) (by have := x6.size; simp at this ⊢; omega) ?_; intro v7 w7 o7 g7 b7; have x7 : Ext wr w7 := (x6.alloc _).grown g7 (fun b e => (o6.block b e).1); obtain ⟨g8, c8, rfl, hc8, hgb8, hgs8, _, _⟩ := o7.head (by simp); have hx7 := o7.at_.2.2.2.2.2; have hn : (L ++ [0]).length = p + 1 := by rw [List.length_append, HL6.out]; rfl)
      rw [hn] at hc8
      have HN := Lib.hid hn
      have hno := long_none L HALL.out (by rw [HL6.out]; omega)
      have hzo : zigOut (L ++ [0]) = (0, [], true) := by rw [zigOut, hno]
      clear hno hn o7 o6 g7 b7
      generalize L ++ [0] = M at *
      refine (f25_any (some ⟨g8, 0, none⟩) M (p + 1) c8 w7 HN.out (by omega) (fun e => by cases e) (fun a e => by cases e; exact ⟨_, _, rfl⟩) hx7).mono ?_
      rintro e w8 ⟨k8, rfl, t8, x8⟩
      have hk8 : w7.heap.size ≤ k8 := by obtain ⟨_, _, hv⟩ := t8; exact hv.mem.1
      have HZ := f26_any k8 _ M false w8 (by rw [HN.out]; omega) t8
      rw [hzo] at HZ
      have x78 := x7.trans x8
      clear hzo
      go_wp2_with (first
        | (go_at_call 26; refine HZ.mono ?_; clear HZ; rintro e w9 ⟨rfl, t9, u9⟩; have HD := f27_any k8 _ [] true w9 t9; have HLf := f28_any k8 _ [] true w9 t9)
        | (go_at_call 27; refine HD.mono ?_; clear HD; rintro e w10 ⟨rfl, rfl⟩)
        | (go_at_call 28; refine HLf.mono ?_; clear HLf; rintro e w11 ⟨rfl, rfl⟩))
      go_ret
      exact ⟨rfl, x4.trans (x78.trans' u9 (fun b e => by rw [e]; exact Nat.le_trans x7.size hk8))⟩
    · have h1' : (n ≤ m) = False := eq_false h1
      clear h1
      go_wp2_with (at_builtin; refine wpList_copyo rfl (.tmp 48) (.tmp 49) rfl rfl rfl A p c a rfl HP.out.symm hxa4 (by rw [← HP.out]; omega) ?_)
      intro v5 w5 o5 x5
      obtain ⟨g, cg, rfl, hcg, hgb, hgs, hcells, hfz⟩ := o5.head (by rw [← HP.out]; omega)
      obtain ⟨q, hq⟩ : ∃ q, q = p - 1 := ⟨_, rfl⟩
      have hpq : (p : Int) - 1 = (q : Int) := by omega
      have hqw : IntKind.i64.wrap (q : Int) = (q : Int) := IntWalk.i64_in _ (by omega)
      have hqa : q < a.length := by rw [← HP.out]; omega
      have hqp : (q : Int) < (p : Int) := by omega
      have hcq := hcells q hqa
      have hfq := hfz q
      generalize a.getD q 0 = x at hcq
      obtain ⟨y, hy⟩ : ∃ y, y = UInt8.ofNat (x.toNat ||| 128) := ⟨_, rfl⟩
      have hxx := or_128 x.toNat x.toNat_lt
      have hyn : y.toNat = x.toNat ||| 128 := by rw [hy, UInt8.toNat_ofNat', hxx]; omega
      have hor : bits .or .u8 ((x.toNat : Nat) : Int) 128 = ((y.toNat : Nat) : Int) := by
        rw [hyn]
        exact u8_or_nat x.toNat 128 x.toNat_lt (by decide)
      have hy128 : 128 ≤ y.toNat := by rw [hyn, hxx]; omega
      have hall := mark_last a y hmk hy128
      rw [← HP.out, ← hq] at hall
      have o6 := o5.set q y
      have hcg' := HP.out
      rw [← hcg'] at o6 hcg ⊢
      have x6 : Ext wr (w5.setCell ⟨g, q, none⟩ (.int .u8 ((y.toNat : Nat) : Int))) := x5.setCell hgb _
      have hl6 : (a.set q y).length = p := by rw [List.length_set]; exact HP.out.symm
      have HL6 := Lib.hid hl6
      have HQ := Lib.hid hq
      have HALL := Lib.hid hall
      clear hq hy hyn hxx hy128 hall hcells hfz o5 hcg' hl6 hqa
      generalize a.set q y = L at o6 HL6 HALL
      go_wp2_with (at_builtin; refine wpList_appo rfl (.tmp 59) (.tmp 60) rfl wr.heap.size (.slice (some ⟨g, 0, none⟩) p cg) L rfl (o6.alloc _) (some ⟨w5.heap.size, 0, none⟩) 1 1 [0] rfl rfl (by have := Cells.new1 (w5.setCell ⟨g, q, none⟩ (.int .u8 ((y.toNat : Nat) : Int))) (.int .u8 0) 5; rw [size_setCell] at this; exact this) (by rw [HL6.out]; simp; omega) (by have := x6.size; simp at this ⊢; omega) ?_; intro v7 w7 o7 g7 b7; have x7 : Ext wr w7 := (x6.alloc _).grown g7 (fun b e => (o6.block b e).1); obtain ⟨g8, c8, rfl, hc8, hgb8, hgs8, _, _⟩ := o7.head (by simp); have hx7 := o7.at_.2.2.2.2.2; have hn : (L ++ [0]).length = p + 1 := by rw [List.length_append, HL6.out]; rfl)
      rw [hn] at hc8
      have HN := Lib.hid hn
      have hno := long_none L HALL.out (by rw [HL6.out]; omega)
      have hzo : zigOut (L ++ [0]) = (0, [], true) := by rw [zigOut, hno]
      clear hno hn o7 o6 g7 b7
      generalize L ++ [0] = M at *
      refine (f25_any (some ⟨g8, 0, none⟩) M (p + 1) c8 w7 HN.out (by omega) (fun e => by cases e) (fun a e => by cases e; exact ⟨_, _, rfl⟩) hx7).mono ?_
      rintro e w8 ⟨k8, rfl, t8, x8⟩
      have hk8 : w7.heap.size ≤ k8 := by obtain ⟨_, _, hv⟩ := t8; exact hv.mem.1
      have HZ := f26_any k8 _ M false w8 (by rw [HN.out]; omega) t8
      rw [hzo] at HZ
      have x78 := x7.trans x8
      clear hzo
      go_wp2_with (first
        | (go_at_call 26; refine HZ.mono ?_; clear HZ; rintro e w9 ⟨rfl, t9, u9⟩; have HD := f27_any k8 _ [] true w9 t9; have HLf := f28_any k8 _ [] true w9 t9)
        | (go_at_call 27; refine HD.mono ?_; clear HD; rintro e w10 ⟨rfl, rfl⟩)
        | (go_at_call 28; refine HLf.mono ?_; clear HLf; rintro e w11 ⟨rfl, rfl⟩))
      go_ret
      exact ⟨rfl, x4.trans (x78.trans' u9 (fun b e => by rw [e]; exact Nat.le_trans x7.size hk8))⟩
  · have h0' : (0 ≤ n) = False := eq_false h0
    clear h0
    go_wp2_with (at_builtin; refine wpList_copyo rfl (.tmp 48) (.tmp 49) rfl rfl rfl A p c a rfl HP.out.symm hxa4 (by rw [← HP.out]; omega) ?_)
    intro v5 w5 o5 x5
    obtain ⟨g, cg, rfl, hcg, hgb, hgs, hcells, hfz⟩ := o5.head (by rw [← HP.out]; omega)
    obtain ⟨q, hq⟩ : ∃ q, q = p - 1 := ⟨_, rfl⟩
    have hpq : (p : Int) - 1 = (q : Int) := by omega
    have hqw : IntKind.i64.wrap (q : Int) = (q : Int) := IntWalk.i64_in _ (by omega)
    have hqa : q < a.length := by rw [← HP.out]; omega
    have hqp : (q : Int) < (p : Int) := by omega
    have hcq := hcells q hqa
    have hfq := hfz q
    generalize a.getD q 0 = x at hcq
    obtain ⟨y, hy⟩ : ∃ y, y = UInt8.ofNat (x.toNat ||| 128) := ⟨_, rfl⟩
    have hxx := or_128 x.toNat x.toNat_lt
    have hyn : y.toNat = x.toNat ||| 128 := by rw [hy, UInt8.toNat_ofNat', hxx]; omega
    have hor : bits .or .u8 ((x.toNat : Nat) : Int) 128 = ((y.toNat : Nat) : Int) := by
      rw [hyn]
      exact u8_or_nat x.toNat 128 x.toNat_lt (by decide)
    have hy128 : 128 ≤ y.toNat := by rw [hyn, hxx]; omega
    have hall := mark_last a y hmk hy128
    rw [← HP.out, ← hq] at hall
    have o6 := o5.set q y
    have hcg' := HP.out
    rw [← hcg'] at o6 hcg ⊢
    have x6 : Ext wr (w5.setCell ⟨g, q, none⟩ (.int .u8 ((y.toNat : Nat) : Int))) := x5.setCell hgb _
    have hl6 : (a.set q y).length = p := by rw [List.length_set]; exact HP.out.symm
    have HL6 := Lib.hid hl6
    have HQ := Lib.hid hq
    have HALL := Lib.hid hall
    clear hq hy hyn hxx hy128 hall hcells hfz o5 hcg' hl6 hqa
    generalize a.set q y = L at o6 HL6 HALL
    go_wp2_with (at_builtin; refine wpList_appo rfl (.tmp 59) (.tmp 60) rfl wr.heap.size (.slice (some ⟨g, 0, none⟩) p cg) L rfl (o6.alloc _) (some ⟨w5.heap.size, 0, none⟩) 1 1 [0] rfl rfl (by have := Cells.new1 (w5.setCell ⟨g, q, none⟩ (.int .u8 ((y.toNat : Nat) : Int))) (.int .u8 0) 5; rw [size_setCell] at this; exact this) (by rw [HL6.out]; simp; omega) (by have := x6.size; simp at this ⊢; omega) ?_; intro v7 w7 o7 g7 b7; have x7 : Ext wr w7 := (x6.alloc _).grown g7 (fun b e => (o6.block b e).1); obtain ⟨g8, c8, rfl, hc8, hgb8, hgs8, _, _⟩ := o7.head (by simp); have hx7 := o7.at_.2.2.2.2.2; have hn : (L ++ [0]).length = p + 1 := by rw [List.length_append, HL6.out]; rfl)
    rw [hn] at hc8
    have HN := Lib.hid hn
    have hno := long_none L HALL.out (by rw [HL6.out]; omega)
    have hzo : zigOut (L ++ [0]) = (0, [], true) := by rw [zigOut, hno]
    clear hno hn o7 o6 g7 b7
    generalize L ++ [0] = M at *
    refine (f25_any (some ⟨g8, 0, none⟩) M (p + 1) c8 w7 HN.out (by omega) (fun e => by cases e) (fun a e => by cases e; exact ⟨_, _, rfl⟩) hx7).mono ?_
    rintro e w8 ⟨k8, rfl, t8, x8⟩
    have hk8 : w7.heap.size ≤ k8 := by obtain ⟨_, _, hv⟩ := t8; exact hv.mem.1
    have HZ := f26_any k8 _ M false w8 (by rw [HN.out]; omega) t8
    rw [hzo] at HZ
    have x78 := x7.trans x8
    clear hzo
    go_wp2_with (first
      | (go_at_call 26; refine HZ.mono ?_; clear HZ; rintro e w9 ⟨rfl, t9, u9⟩; have HD := f27_any k8 _ [] true w9 t9; have HLf := f28_any k8 _ [] true w9 t9)
      | (go_at_call 27; refine HD.mono ?_; clear HD; rintro e w10 ⟨rfl, rfl⟩)
      | (go_at_call 28; refine HLf.mono ?_; clear HLf; rintro e w11 ⟨rfl, rfl⟩))
    go_ret
    exact ⟨rfl, x4.trans (x78.trans' u9 (fun b e => by rw [e]; exact Nat.le_trans x7.size hk8))⟩
end Go.Proofs.Ytghkkhafnkkomaa
