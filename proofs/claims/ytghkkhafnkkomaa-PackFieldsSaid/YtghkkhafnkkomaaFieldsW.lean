/- Fields' octets are the document's; read again, they are what was written: the law's walk. -/
import Derived.Test.YtghkkhafnkkomaaPk
import Derived.Test.YtghkkhafnkkomaaPz
import Derived.Test.YtghkkhafnkkomaaRfW
namespace Go.Proofs.Ytghkkhafnkkomaa
open Go.RowKit
open Go.Proofs

set_option maxRecDepth 100000 in
set_option maxHeartbeats 2000000 in
theorem f8_walk (A : Option Addr) (fs : List Fld) (n c : Nat) (w : World) (hn : fs.length = n) (hx : FldsAt w A fs) :
    Calls Try.prog 8 #[.slice A n c] w fun e w' => e = .returned (.bool true) ∧ Ext w w' := by
  have HN := Lib.hid hn
  have HR := fun W r hr h => f33_any A fs n c W hn h r hr
  have HP := fun W h1 h2 h => f23_any A fs n c W hn h1 h2 h
  have HWr := fun W h1 h => f34_any A fs n c W hn h1 h
  clear hn
  by_cases hsm : Small fs
  · have hn20 : n ≤ 20 := by have := hsm.1; rw [HN.out] at this; exact this
    have hlen : (flds fs).length ≤ 1310740 := by
      by_cases h0 : 0 < fs.length
      · obtain ⟨b, o, _, hr⟩ := hx h0
        exact flds_small fs hsm.1 (fun i q hq => (hr i q hq).2.2.2.2)
      · have : fs = [] := List.eq_nil_of_length_eq_zero (by omega)
        subst this
        rw [show (flds ([] : List Fld)).length = 0 from rfl]
        omega
    have HSM := Lib.hid hsm
    clear hsm
    go_enter Try.func8, Try.ntmps8
    go_wp2_with fail
    refine (f22_any w).mono ?_
    rintro e w1 ⟨rfl, x1⟩
    go_wp2_with fail
    refine (HR w1 true ⟨fun _ => HSM.out, fun _ => rfl⟩ (hx.ext x1)).mono ?_
    rintro e w1' ⟨rfl, rfl⟩
    go_wp2_with fail
    refine (HP _ (by omega) (fun i q hq => by have := HSM.out.2 i q hq; omega) (hx.ext x1)).mono ?_
    rintro e w2 ⟨v2, rfl, o2, x2⟩
    obtain ⟨B, d, rfl, hd, hxB, hnil, hat⟩ := o2.octs_form2
    have x12 := x1.trans x2
    have HW := fun W h => HWr W HSM.out h
    obtain ⟨L, hL⟩ : ∃ L, L = flds fs := ⟨_, rfl⟩
    rw [← hL] at hlen hd hxB HW hnil ⊢
    have HLL := Lib.hid hL
    obtain ⟨p, hp⟩ : ∃ p, p = L.length := ⟨_, rfl⟩
    rw [← hp] at hlen hd ⊢
    have hx2 := hx.ext x12
    have HPP := Lib.hid hp
    clear hL x1 x2 o2 HP HWr HR hp
    go_wp2_with fail
    refine wp_region_held_drew (S := fun w' => Ext w2 w') (by kernel_rfl) ((Ext.refl _).drew) (fun hS => ?_)
    refine takeH (i := 0) (v := ?_) rfl rfl (by kernel_rfl) (by kernel_rfl) (by kernel_rfl) (fun _ _ _ h => h) (Or.inl ⟨by kernel_rfl, ?_⟩) hS ?_
    rotate_left 1
    · (intro w' hS'; go_simp; try (with_reducible rfl))
    simp only [List.setIfInBounds_toArray, List.set_cons_succ, List.set_cons_zero]
    refine takeH (i := 1) (v := ?_) rfl rfl (by kernel_rfl) (by kernel_rfl) (by kernel_rfl) (fun _ _ _ h => h) (Or.inl ⟨by kernel_rfl, ?_⟩) hS ?_
    rotate_left 1
    · (intro w' hS'; have g1 := conv_str B L p d w' HPP.out.symm (hxB.ext hS'); go_simp; try (with_reducible rfl))
    simp only [List.setIfInBounds_toArray, List.set_cons_succ, List.set_cons_zero]
    refine takeH (i := 2) (v := ?_) rfl rfl (by kernel_rfl) (by kernel_rfl) (by kernel_rfl) (fun _ _ _ h => h) (Or.inl ⟨by kernel_rfl, ?_⟩) hS ?_
    rotate_left 1
    · (intro w' hS'; go_simp; try (with_reducible rfl))
    simp only [List.setIfInBounds_toArray, List.set_cons_succ, List.set_cons_zero]
    refine wpAnyH_ready (rs := [3]) (by kernel_rfl) (by simp) ?_
    refine AllReadyH.cons rfl (fun K hK => ?_) ?_
    rotate_left 1
    · exact AllReadyH.nil
    go_simp
    refine (HW _ (hx2.ext hS)).mono ?_; rintro e wr ⟨rfl, xr⟩
    refine hK.out _ _ (hS.trans xr) (fun hS => ?_)
    clear hK K
    refine takeH (i := 4) (v := ?_) rfl rfl (by kernel_rfl) (by kernel_rfl) (by kernel_rfl) (fun _ _ _ h => h) (Or.inl ⟨by kernel_rfl, ?_⟩) hS ?_
    rotate_left 1
    · (intro w' hS'; go_simp; try (with_reducible rfl))
    simp only [List.setIfInBounds_toArray, List.set_cons_succ, List.set_cons_zero]
    refine wpAnyH_done (by kernel_rfl) ?_ _
    have HRd := fun W h => f25_any B L p d W HPP.out.symm (by omega) hnil hat h
    have hxB4 := hxB.ext hS
    have x14 := x12.trans hS
    clear hS hxB hx2 x12 hnil hat HW
    go_wp2_with fail
    refine (HRd _ hxB4).mono ?_
    rintro e w5 ⟨k, rfl, t5, x5⟩
    have hk : w.heap.size ≤ k := by
      obtain ⟨_, _, hv⟩ := t5
      have := hv.mem.1
      have := x14.size
      omega
    generalize (fun b => _ ∧ b < w5.heap.size) = F at t5
    have x15 := x14.trans x5
    clear x14 x5 hxB4 HRd
    go_wp2_with fail
    go_loopg [5] n (fun g i wr => ∃ j : Nat, j ≤ n ∧ n - j ≤ g ∧ i = .int .i64 j ∧ RdAt wr k F (flds (fs.drop j)) false ∧ Ext w wr)
    case atStart => exact ⟨0, by omega, by omega, rfl, by rw [List.drop_zero, ← HLL.out]; exact t5, x15⟩
    case round =>
      obtain ⟨j, hj, hg, rfl, ht, hxr⟩ := hrel
      by_cases hlt : j < n
      · obtain ⟨⟨kd, nn, sz, tx⟩, hqg⟩ : ∃ q, fs[j]? = some q := ⟨_, List.getElem?_eq_getElem (by rw [HN.out]; exact hlt)⟩
        obtain ⟨b, o, rfl, hrow⟩ := hx (by rw [HN.out]; omega)
        obtain ⟨D0, D1, D2, D3, r1, r2⟩ := hrow j _ hqg
        have htx := HSM.out.2 j _ hqg
        simp only at D0 D1 D2 D3 r1 r2 htx
        have d0 := hxr.cell D0
        have d1 := hxr.cell D1
        have d2 := hxr.cell D2
        have d3 := hxr.cell D3
        have hji : (j : Int) < (n : Int) := by omega
        have hdl : (flds (fs.drop j)).length ≤ 1310740 := by
          have := congrArg List.length (flds_split fs j)
          rw [List.length_append, ← HLL.out, ← HPP.out] at this
          omega
        have hkw := ht.lt
        rw [flds_drop fs j _ hqg] at ht hdl
        have HD := Lib.hid (rfl : flds (fs.drop (j + 1)) = flds (fs.drop (j + 1)))
        generalize hRS : flds (fs.drop (j + 1)) = RS at ht hdl HD
        have HRS := Lib.hid hRS
        clear hqg hrow HD hRS
        by_cases k0 : kd = 0
        · subst k0
          have h3 : fld (0, nn, sz, tx) = leN (wid sz) (u64of nn) := by rw [fld, if_pos rfl]
          rw [h3] at ht hdl
          have HNum := fun W h => f35_any k F (leN (wid sz) (u64of nn) ++ RS) false sz W h
          rw [num_back, rTake_app _ _ _ (length_leN _ _)] at HNum
          have hwl := wid_le sz
          have HLow := fun W => f36_any nn (8 * wid sz) (by omega) W
          have hmx : max 0 (min sz 8) = ((wid sz : Nat) : Int) := by unfold wid; omega
          have h88 : 8 * ((wid sz : Nat) : Int) = ((8 * wid sz : Nat) : Int) := by omega
          rw [← h88] at HLow
          generalize i64of (u64of nn % 2 ^ (8 * wid sz)) = V at *
          generalize leN (wid sz) (u64of nn) ++ RS = Z at *
          generalize wid sz = q at *
          have hw8 : IntKind.i64.wrap (8 * (q : Int)) = 8 * (q : Int) := IntWalk.i64_in _ (by omega)
          clear h3 h88
          go_wp2_with fail
          obtain ⟨kd', hkd⟩ : ∃ v : Value, v = .int .i64 0 := ⟨_, rfl⟩
          have hh := heap_alloc_new wr (.cells #[.int .i64 0, .int .i64 nn, .int .i64 sz, strOf tx] 35)
          have c0 : (wr.alloc (.cells #[.int .i64 0, .int .i64 nn, .int .i64 sz, strOf tx] 35)).cell? ⟨wr.heap.size, 1, none⟩ = some (.int .i64 nn) := by rw [cell_of_row _ _ _ _ _ _ hh]; rfl
          have c2 : (wr.alloc (.cells #[.int .i64 0, .int .i64 nn, .int .i64 sz, strOf tx] 35)).cell? ⟨wr.heap.size, 2, none⟩ = some (.int .i64 sz) := by rw [cell_of_row _ _ _ _ _ _ hh]; rfl
          have xA := hxr.alloc (.cells #[.int .i64 0, .int .i64 nn, .int .i64 sz, strOf tx] 35)
          have tA := ht.ext ((Ext.refl wr).alloc (.cells #[.int .i64 0, .int .i64 nn, .int .i64 sz, strOf tx] 35))
          have hfb : ¬ wr.heap.size = k := by omega
          clear hh hkd ht kd'
          generalize wr.alloc (.cells #[.int .i64 0, .int .i64 nn, .int .i64 sz, strOf tx] 35) = wA at *
          generalize wr.heap.size = fb at *
          have hT : Ext wA wA.drew := (Ext.refl _).drew
          refine wp_region_held_drew (S := fun w' => w'.cell? ⟨fb, 1, none⟩ = some (.int .i64 nn) ∧ w'.cell? ⟨fb, 2, none⟩ = some (.int .i64 sz)) (by kernel_rfl) (⟨c0, c2⟩) (fun hS => ?_)
          refine takeH (i := 0) (v := ?_) rfl rfl (by kernel_rfl) (by kernel_rfl) (by kernel_rfl) (fun _ _ _ h => h) (Or.inl ⟨by kernel_rfl, ?_⟩) hS ?_
          rotate_left 1
          · (intro w' hS'; go_simp; try (with_reducible rfl))
          simp only [List.setIfInBounds_toArray, List.set_cons_succ, List.set_cons_zero]
          refine takeH (i := 1) (v := ?_) rfl rfl (by kernel_rfl) (by kernel_rfl) (by kernel_rfl) (fun _ _ _ h => h) (Or.inl ⟨by kernel_rfl, ?_⟩) hS ?_
          rotate_left 1
          · (intro w' hS'; go_simp; try (with_reducible rfl))
          simp only [List.setIfInBounds_toArray, List.set_cons_succ, List.set_cons_zero]
          refine takeH (i := 2) (v := ?_) rfl rfl (by kernel_rfl) (by kernel_rfl) (by kernel_rfl) (fun _ _ _ h => h) (Or.inl ⟨by kernel_rfl, ?_⟩) hS ?_
          rotate_left 1
          · (intro w' hS'; obtain ⟨g1, g2⟩ := hS'; go_simp; try (with_reducible rfl))
          simp only [List.setIfInBounds_toArray, List.set_cons_succ, List.set_cons_zero]
          refine takeH (i := 4) (v := ?_) rfl rfl (by kernel_rfl) (by kernel_rfl) (by kernel_rfl) (fun _ _ _ h => h) (Or.inl ⟨by kernel_rfl, ?_⟩) hS ?_
          rotate_left 1
          · (intro w' hS'; go_simp; try (with_reducible rfl))
          simp only [List.setIfInBounds_toArray, List.set_cons_succ, List.set_cons_zero]
          refine takeH (i := 5) (v := ?_) rfl rfl (by kernel_rfl) (by kernel_rfl) (by kernel_rfl) (fun _ _ _ h => h) (Or.inl ⟨by kernel_rfl, ?_⟩) hS ?_
          rotate_left 1
          · (intro w' hS'; obtain ⟨g1, g2⟩ := hS'; go_simp; try (with_reducible rfl))
          simp only [List.setIfInBounds_toArray, List.set_cons_succ, List.set_cons_zero]
          refine takeH (i := 6) (v := ?_) rfl rfl (by kernel_rfl) (by kernel_rfl) (by kernel_rfl) (fun _ _ _ h => h) (Or.inl ⟨by kernel_rfl, ?_⟩) hS ?_
          rotate_left 1
          · (intro w' hS'; go_simp; try (with_reducible rfl))
          simp only [List.setIfInBounds_toArray, List.set_cons_succ, List.set_cons_zero]
          refine takeH (i := 7) (v := ?_) rfl rfl (by kernel_rfl) (by kernel_rfl) (by kernel_rfl) (fun _ _ _ h => h) (Or.inl ⟨by kernel_rfl, ?_⟩) hS ?_
          rotate_left 1
          · (intro w' hS'; obtain ⟨g1, g2⟩ := hS'; go_simp; try (with_reducible rfl))
          simp only [List.setIfInBounds_toArray, List.set_cons_succ, List.set_cons_zero]
          refine takeH (i := 8) (v := ?_) rfl rfl (by kernel_rfl) (by kernel_rfl) (by kernel_rfl) (fun _ _ _ h => h) (Or.inl ⟨by kernel_rfl, ?_⟩) hS ?_
          rotate_left 1
          · (intro w' hS'; go_simp; try (with_reducible rfl))
          simp only [List.setIfInBounds_toArray, List.set_cons_succ, List.set_cons_zero]
          refine takeH (i := 9) (v := ?_) rfl rfl (by kernel_rfl) (by kernel_rfl) (by kernel_rfl) (fun _ _ _ h => h) (Or.inl ⟨by kernel_rfl, ?_⟩) hS ?_
          rotate_left 1
          · (intro w' hS'; go_simp; try (with_reducible rfl))
          simp only [List.setIfInBounds_toArray, List.set_cons_succ, List.set_cons_zero]
          refine takeH (i := 10) (v := ?_) rfl rfl (by kernel_rfl) (by kernel_rfl) (by kernel_rfl) (fun _ _ _ h => h) (Or.inl ⟨by kernel_rfl, ?_⟩) hS ?_
          rotate_left 1
          · (intro w' hS'; go_simp; try (with_reducible rfl))
          simp only [List.setIfInBounds_toArray, List.set_cons_succ, List.set_cons_zero]
          refine wpAnyH_ready (rs := [3]) (by kernel_rfl) (by simp) ?_
          refine AllReadyH.cons rfl (fun K hK => ?_) ?_
          rotate_left 1
          · exact AllReadyH.nil
          go_simp
          refine (HNum _ (tA.ext hT)).mono ?_; rintro e w6 ⟨rfl, t6, u6⟩; have e1 := u6.cell (hT.cell c0) hfb; have e2 := u6.cell (hT.cell c2) hfb
          refine hK.out _ _ (⟨e1, e2⟩) (fun hS => ?_)
          clear hK K
          refine wpAnyH_ready (rs := [11]) (by kernel_rfl) (by simp) ?_
          refine AllReadyH.cons rfl (fun K hK => ?_) ?_
          rotate_left 1
          · exact AllReadyH.nil
          go_simp
          refine (HLow _).mono ?_; rintro e w7 ⟨rfl, x7⟩
          refine hK.out _ _ (⟨x7.cell e1, x7.cell e2⟩) (fun hS => ?_)
          clear hK K
          refine takeH (i := 12) (v := ?_) rfl rfl (by kernel_rfl) (by kernel_rfl) (by kernel_rfl) (fun _ _ _ h => h) (Or.inl ⟨by kernel_rfl, ?_⟩) hS ?_
          rotate_left 1
          · (intro w' hS'; go_simp; try (with_reducible rfl))
          simp only [List.setIfInBounds_toArray, List.set_cons_succ, List.set_cons_zero]
          refine wpAnyH_done (by kernel_rfl) ?_ _
          clear hS
          have t7 := t6.ext x7
          have xz := ((xA.trans hT).trans' u6 (fun b e => by rw [e]; exact hk)).trans x7
          go_wp2_with fail
          go_roundg (n - (j + 1))
          case measure => omega
          case rel => exact ⟨j + 1, by omega, by omega, by go_num, by rw [HRS.out]; exact t7, xz⟩
        by_cases k1 : kd = 1
        · subst k1
          have h3 : fld (1, nn, sz, tx) = zb (zz nn) := by rw [fld, if_neg (by simp), if_pos rfl]
          rw [h3] at ht hdl
          have HNum := fun W h => f26_any k F (zb (zz nn) ++ RS) false W (by omega) h
          rw [zig_back nn RS r1 r2] at HNum
          generalize zb (zz nn) ++ RS = Z at *
          clear h3
          go_wp2_with fail
          obtain ⟨kd', hkd⟩ : ∃ v : Value, v = .int .i64 1 := ⟨_, rfl⟩
          have hh := heap_alloc_new wr (.cells #[.int .i64 1, .int .i64 nn, .int .i64 sz, strOf tx] 35)
          have c0 : (wr.alloc (.cells #[.int .i64 1, .int .i64 nn, .int .i64 sz, strOf tx] 35)).cell? ⟨wr.heap.size, 1, none⟩ = some (.int .i64 nn) := by rw [cell_of_row _ _ _ _ _ _ hh]; rfl
          have c2 : (wr.alloc (.cells #[.int .i64 1, .int .i64 nn, .int .i64 sz, strOf tx] 35)).cell? ⟨wr.heap.size, 2, none⟩ = some (.int .i64 sz) := by rw [cell_of_row _ _ _ _ _ _ hh]; rfl
          have xA := hxr.alloc (.cells #[.int .i64 1, .int .i64 nn, .int .i64 sz, strOf tx] 35)
          have tA := ht.ext ((Ext.refl wr).alloc (.cells #[.int .i64 1, .int .i64 nn, .int .i64 sz, strOf tx] 35))
          have hfb : ¬ wr.heap.size = k := by omega
          clear hh hkd ht kd'
          generalize wr.alloc (.cells #[.int .i64 1, .int .i64 nn, .int .i64 sz, strOf tx] 35) = wA at *
          generalize wr.heap.size = fb at *
          have hT : Ext wA wA.drew := (Ext.refl _).drew
          refine wp_region_held_drew (S := fun w' => w'.cell? ⟨fb, 1, none⟩ = some (.int .i64 nn) ∧ w'.cell? ⟨fb, 2, none⟩ = some (.int .i64 sz)) (by kernel_rfl) (⟨c0, c2⟩) (fun hS => ?_)
          refine takeH (i := 0) (v := ?_) rfl rfl (by kernel_rfl) (by kernel_rfl) (by kernel_rfl) (fun _ _ _ h => h) (Or.inl ⟨by kernel_rfl, ?_⟩) hS ?_
          rotate_left 1
          · (intro w' hS'; go_simp; try (with_reducible rfl))
          simp only [List.setIfInBounds_toArray, List.set_cons_succ, List.set_cons_zero]
          refine takeH (i := 2) (v := ?_) rfl rfl (by kernel_rfl) (by kernel_rfl) (by kernel_rfl) (fun _ _ _ h => h) (Or.inl ⟨by kernel_rfl, ?_⟩) hS ?_
          rotate_left 1
          · (intro w' hS'; go_simp; try (with_reducible rfl))
          simp only [List.setIfInBounds_toArray, List.set_cons_succ, List.set_cons_zero]
          refine takeH (i := 3) (v := ?_) rfl rfl (by kernel_rfl) (by kernel_rfl) (by kernel_rfl) (fun _ _ _ h => h) (Or.inl ⟨by kernel_rfl, ?_⟩) hS ?_
          rotate_left 1
          · (intro w' hS'; obtain ⟨g1, g2⟩ := hS'; go_simp; try (with_reducible rfl))
          simp only [List.setIfInBounds_toArray, List.set_cons_succ, List.set_cons_zero]
          refine wpAnyH_ready (rs := [1]) (by kernel_rfl) (by simp) ?_
          refine AllReadyH.cons rfl (fun K hK => ?_) ?_
          rotate_left 1
          · exact AllReadyH.nil
          go_simp
          refine (HNum _ (tA.ext hT)).mono ?_; rintro e w6 ⟨rfl, t6, u6⟩; have e1 := u6.cell (hT.cell c0) hfb; have e2 := u6.cell (hT.cell c2) hfb
          refine hK.out _ _ (⟨e1, e2⟩) (fun hS => ?_)
          clear hK K
          refine takeH (i := 4) (v := ?_) rfl rfl (by kernel_rfl) (by kernel_rfl) (by kernel_rfl) (fun _ _ _ h => h) (Or.inl ⟨by kernel_rfl, ?_⟩) hS ?_
          rotate_left 1
          · (intro w' hS'; go_simp; try (with_reducible rfl))
          simp only [List.setIfInBounds_toArray, List.set_cons_succ, List.set_cons_zero]
          refine wpAnyH_done (by kernel_rfl) ?_ _
          clear hS
          have xz := ((xA.trans hT).trans' u6 (fun b e => by rw [e]; exact hk))
          go_wp2_with fail
          go_roundg (n - (j + 1))
          case measure => omega
          case rel => exact ⟨j + 1, by omega, by omega, by go_num, by rw [HRS.out]; exact t6, xz⟩
        · have kk0 : (kd == 0) = false := by simpa using k0
          have kk1 : (kd == 1) = false := by simpa using k1
          have h3 : fld (kd, nn, sz, tx) = leN 2 (u64of ((tx.take 65535).length : Int)) ++ tx.take 65535 := by rw [fld, if_neg k0, if_neg k1]
          rw [h3] at ht hdl
          have HNum := fun W h => f37_any k F (leN 2 (u64of ((tx.take 65535).length : Int)) ++ tx.take 65535 ++ RS) false W h
          rw [text_back tx RS htx] at HNum
          generalize leN 2 (u64of ((tx.take 65535).length : Int)) ++ tx.take 65535 ++ RS = Z at *
          clear h3 k0 k1
          go_wp2_with fail
          obtain ⟨kd', hkd⟩ : ∃ v : Value, v = .int .i64 kd := ⟨_, rfl⟩
          have hh := heap_alloc_new wr (.cells #[.int .i64 kd, .int .i64 nn, .int .i64 sz, strOf tx] 35)
          have c0 : (wr.alloc (.cells #[.int .i64 kd, .int .i64 nn, .int .i64 sz, strOf tx] 35)).cell? ⟨wr.heap.size, 3, none⟩ = some (strOf tx) := by rw [cell_of_row _ _ _ _ _ _ hh]; rfl
          have c2 : (wr.alloc (.cells #[.int .i64 kd, .int .i64 nn, .int .i64 sz, strOf tx] 35)).cell? ⟨wr.heap.size, 2, none⟩ = some (.int .i64 sz) := by rw [cell_of_row _ _ _ _ _ _ hh]; rfl
          have xA := hxr.alloc (.cells #[.int .i64 kd, .int .i64 nn, .int .i64 sz, strOf tx] 35)
          have tA := ht.ext ((Ext.refl wr).alloc (.cells #[.int .i64 kd, .int .i64 nn, .int .i64 sz, strOf tx] 35))
          have hfb : ¬ wr.heap.size = k := by omega
          clear hh hkd ht kd'
          generalize wr.alloc (.cells #[.int .i64 kd, .int .i64 nn, .int .i64 sz, strOf tx] 35) = wA at *
          generalize wr.heap.size = fb at *
          have hT : Ext wA wA.drew := (Ext.refl _).drew
          refine wp_region_held_drew (S := fun w' => w'.cell? ⟨fb, 3, none⟩ = some (strOf tx) ∧ w'.cell? ⟨fb, 2, none⟩ = some (.int .i64 sz)) (by kernel_rfl) (⟨c0, c2⟩) (fun hS => ?_)
          refine takeH (i := 0) (v := ?_) rfl rfl (by kernel_rfl) (by kernel_rfl) (by kernel_rfl) (fun _ _ _ h => h) (Or.inl ⟨by kernel_rfl, ?_⟩) hS ?_
          rotate_left 1
          · (intro w' hS'; go_simp; try (with_reducible rfl))
          simp only [List.setIfInBounds_toArray, List.set_cons_succ, List.set_cons_zero]
          refine takeH (i := 2) (v := ?_) rfl rfl (by kernel_rfl) (by kernel_rfl) (by kernel_rfl) (fun _ _ _ h => h) (Or.inl ⟨by kernel_rfl, ?_⟩) hS ?_
          rotate_left 1
          · (intro w' hS'; go_simp; try (with_reducible rfl))
          simp only [List.setIfInBounds_toArray, List.set_cons_succ, List.set_cons_zero]
          refine takeH (i := 3) (v := ?_) rfl rfl (by kernel_rfl) (by kernel_rfl) (by kernel_rfl) (fun _ _ _ h => h) (Or.inl ⟨by kernel_rfl, ?_⟩) hS ?_
          rotate_left 1
          · (intro w' hS'; obtain ⟨g1, g2⟩ := hS'; go_simp; try (with_reducible rfl))
          simp only [List.setIfInBounds_toArray, List.set_cons_succ, List.set_cons_zero]
          refine wpAnyH_ready (rs := [1]) (by kernel_rfl) (by simp) ?_
          refine AllReadyH.cons rfl (fun K hK => ?_) ?_
          rotate_left 1
          · exact AllReadyH.nil
          go_simp
          refine (HNum _ (tA.ext hT)).mono ?_; rintro e w6 ⟨rfl, t6, u6⟩; have e1 := u6.cell (hT.cell c0) hfb; have e2 := u6.cell (hT.cell c2) hfb
          refine hK.out _ _ (⟨e1, e2⟩) (fun hS => ?_)
          clear hK K
          refine takeH (i := 4) (v := ?_) rfl rfl (by kernel_rfl) (by kernel_rfl) (by kernel_rfl) (fun _ _ _ h => h) (Or.inl ⟨by kernel_rfl, ?_⟩) hS ?_
          rotate_left 1
          · (intro w' hS'; go_simp; try (with_reducible rfl))
          simp only [List.setIfInBounds_toArray, List.set_cons_succ, List.set_cons_zero]
          refine wpAnyH_done (by kernel_rfl) ?_ _
          clear hS
          have xz := ((xA.trans hT).trans' u6 (fun b e => by rw [e]; exact hk))
          go_wp2_with fail
          go_roundg (n - (j + 1))
          case measure => omega
          case rel => exact ⟨j + 1, by omega, by omega, by go_num, by rw [HRS.out]; exact t6, xz⟩
      · obtain rfl : j = n := by omega
        have hd0 : flds (fs.drop j) = [] := by rw [← HN.out, List.drop_length]; rfl
        rw [hd0] at ht
        have HD := f27_any k F [] false wr ht
        have HLf := f28_any k F [] false wr ht
        go_wp2_with (first
          | (go_at_call 27; refine HD.mono ?_; clear HD; rintro e w10 ⟨rfl, rfl⟩)
          | (go_at_call 28; refine HLf.mono ?_; clear HLf; rintro e w11 ⟨rfl, rfl⟩))
        go_ret
        exact ⟨rfl, hxr⟩
  · go_enter Try.func8, Try.ntmps8
    go_wp2_with fail
    refine (f22_any w).mono ?_
    rintro e w1 ⟨rfl, x1⟩
    go_wp2_with fail
    refine (HR w1 false ⟨(fun h => by cases h), fun h => absurd h hsm⟩ (hx.ext x1)).mono ?_
    rintro e w1' ⟨rfl, rfl⟩
    go_wp2_with fail
    refine (f22_any w1').mono ?_
    rintro e w2 ⟨rfl, x2⟩
    go_wp2_with fail
    go_ret
    exact ⟨rfl, x1.trans x2⟩
end Go.Proofs.Ytghkkhafnkkomaa
