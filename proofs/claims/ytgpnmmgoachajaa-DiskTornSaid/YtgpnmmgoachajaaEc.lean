/- The walk of DiskTorn. -/
import Derived.Test.YtgpnmmgoachajaaEb
import Derived.Deep.CutRange
namespace Go.Proofs.Ytgpnmmgoachajaa
open Go.RowKit Go.Shelf
open Go.Proofs

set_option maxRecDepth 100000 in
set_option maxHeartbeats 8000000 in
theorem f5_any (x y : Int) (a b : UInt8) (w : World) : Calls Try.prog 5 #[.int .i64 x, .int .i64 y, .agg (octs [a, b]).toArray] w fun e w' => e = .returned (.bool true) ∧ Ext w w' := by
  obtain ⟨t, n, e1, e2, e3, e4, e5, hn4⟩ := round_mod x 4 (by omega)
  rw [show ((4 : Nat) : Int) = 4 from rfl] at e1 e2 e3 e4 e5
  have hw1 : IntKind.i64.wrap (t + 4) = t + 4 := IntWalk.i64_in _ (by omega)
  have hbox : (w.alloc (.cells (octs [a, b]).toArray 45)).heap[w.heap.size]? = some (.cells (octs [a, b]).toArray 45 (0, 0)) := heap_alloc_new w _
  have hf15 : ∀ W, Calls Try.prog 15 #[.int .i64 4] W fun e w' => ∃ p, e = .returned (.tuple #[.pointer (some ⟨p, 0, none⟩), .int .i64 0]) ∧ Disk (fun b => b < W.heap.size) w' p (dkNew 4) ∧ Ext W w' := fun W => f15_good 4 W (by omega) (by omega)
  have hmk : ∀ W : World, (Instr.makeSlice 22 (.int .i64 128) (.int .i64 128)).run Try.prog W = .ok (.slice (some ⟨W.heap.size, 0, none⟩) 128 128) (W.alloc (.cells (zeros 128) 5)) := fun W => make_octs 128 (by omega) W
  obtain ⟨Z, hZ⟩ : ∃ Z, Z = zeros 128 := ⟨_, rfl⟩
  rw [← hZ] at hmk
  have HZ := Lib.hid hZ
  obtain ⟨C, hC⟩ : ∃ C, C = (octs [a, b]).toArray := ⟨_, rfl⟩
  rw [← hC] at hbox ⊢
  have HC := Lib.hid hC
  clear hZ hC
  go_enter Try.func5, Try.ntmps5
  go_upto_region 7 with first
    | (go_at_call 14; refine (f14_any _).mono ?_; rintro e w1 ⟨rfl, x1⟩; have hbox := x1.heap hbox)
    | (go_at_call 15; refine (hf15 _).mono ?_; clear hf15; rintro e w2 ⟨p, rfl, h2, x2⟩; obtain ⟨K, hK⟩ : ∃ K : Nat → Prop, K = fun b => b < w1.heap.size := ⟨_, rfl⟩; rw [← hK] at h2)
  have hKb : ∀ b, K b → b < w2.heap.size := fun b e => by
    rw [hK] at e
    exact Nat.lt_of_lt_of_le e x2.size
  have hKx : K w.heap.size := by rw [hK]; exact (Array.getElem?_eq_some_iff.1 hbox).1
  have hbox := x2.heap hbox
  have HK : ∀ b, b < w.heap.size → K b := fun b h => by
    rw [hK]
    exact Nat.lt_of_lt_of_le h (((Ext.refl w).alloc _).trans x1).size
  have X2 : Ext w w2 := (((Ext.refl w).alloc _).trans x1).trans x2
  clear hK e1 e2 e3 e4 e5 hw1
  have hN1 : ((w2.alloc (.cells Z 5)).alloc (.cells Z 5)).heap[w2.heap.size]? = some (.cells Z 5 (0, 0)) := ((Ext.refl (w2.alloc (.cells Z 5))).alloc _).heap (heap_alloc_new w2 _)
  have hN2 : ((w2.alloc (.cells Z 5)).alloc (.cells Z 5)).heap[w2.heap.size + 1]? = some (.cells Z 5 (0, 0)) := by
    have := heap_alloc_new (w2.alloc (.cells Z 5)) (.cells Z 5)
    rw [World.size_alloc] at this
    exact this
  have HN1 := Lib.hid hN1
  have HN2 := Lib.hid hN2
  clear hN1 hN2
  go_cut [10, 11] from 30 to 31 (fun v10 v11 wx => ∃ B1 B2, v10 = .slice (some ⟨B1, 0, none⟩) 128 128 ∧ v11 = .slice (some ⟨B2, 0, none⟩) 128 128 ∧ B1 ≠ B2 ∧ w2.heap.size ≤ B1 ∧ w2.heap.size ≤ B2 ∧ wx.heap[B1]? = some (.cells Z 5 (0, 0)) ∧ wx.heap[B2]? = some (.cells Z 5 (0, 0)) ∧ Ext w2 wx)
  case first =>
    refine wp_region_held_drew (S := fun w' => Ext w2 w') (by kernel_rfl) ((Ext.refl _).drew) (fun hS => ?_)
    refine wpAnyH_ready (rs := [0, 1]) (by kernel_rfl) (by simp) ?_
    refine AllReadyH.cons rfl (fun K hK => ?_) ?_
    · skip
      go_simp
      refine hK.out _ _ (by first | exact hS | exact hS.alloc _ | exact hS.trans hext) (fun hS => ?_)
      clear hK K
      refine takeH (i := 2) (v := ?_) rfl rfl (by kernel_rfl) (by kernel_rfl) (by kernel_rfl) (fun _ _ _ h => h) (Or.inl ⟨by kernel_rfl, ?_⟩) hS ?_
      rotate_left 1
      · (intro w' hS'; go_simp; try (with_reducible rfl))
      simp only [List.setIfInBounds_toArray, List.set_cons_succ, List.set_cons_zero]
      refine wpAnyH_ready (rs := [1]) (by kernel_rfl) (by simp) ?_
      refine AllReadyH.cons rfl (fun K hK => ?_) ?_
      rotate_left 1
      · exact AllReadyH.nil
      go_simp
      refine hK.out _ _ (by first | exact hS | exact hS.alloc _ | exact hS.trans hext) (fun hS => ?_)
      clear hK K
      refine takeH (i := 3) (v := ?_) rfl rfl (by kernel_rfl) (by kernel_rfl) (by kernel_rfl) (fun _ _ _ h => h) (Or.inl ⟨by kernel_rfl, ?_⟩) hS ?_
      rotate_left 1
      · (intro w' hS'; go_simp; try (with_reducible rfl))
      simp only [List.setIfInBounds_toArray, List.set_cons_succ, List.set_cons_zero]
      refine wpAnyH_done (by kernel_rfl) ?_ _
      go_wp2_with fail
      go_meet
      first
        | exact ⟨w2.heap.size, w2.heap.size + 1, rfl, rfl, by omega, by omega, by omega, HN1.out, HN2.out, hS⟩
        | exact ⟨w2.heap.size + 1, w2.heap.size, rfl, rfl, by omega, by omega, by omega, HN2.out, HN1.out, hS⟩
    refine AllReadyH.cons rfl (fun K hK => ?_) ?_
    · skip
      go_simp
      refine hK.out _ _ (by first | exact hS | exact hS.alloc _ | exact hS.trans hext) (fun hS => ?_)
      clear hK K
      refine wpAnyH_ready (rs := [0]) (by kernel_rfl) (by simp) ?_
      refine AllReadyH.cons rfl (fun K hK => ?_) ?_
      rotate_left 1
      · exact AllReadyH.nil
      go_simp
      refine hK.out _ _ (by first | exact hS | exact hS.alloc _ | exact hS.trans hext) (fun hS => ?_)
      clear hK K
      refine takeH (i := 2) (v := ?_) rfl rfl (by kernel_rfl) (by kernel_rfl) (by kernel_rfl) (fun _ _ _ h => h) (Or.inl ⟨by kernel_rfl, ?_⟩) hS ?_
      rotate_left 1
      · (intro w' hS'; go_simp; try (with_reducible rfl))
      simp only [List.setIfInBounds_toArray, List.set_cons_succ, List.set_cons_zero]
      refine takeH (i := 3) (v := ?_) rfl rfl (by kernel_rfl) (by kernel_rfl) (by kernel_rfl) (fun _ _ _ h => h) (Or.inl ⟨by kernel_rfl, ?_⟩) hS ?_
      rotate_left 1
      · (intro w' hS'; go_simp; try (with_reducible rfl))
      simp only [List.setIfInBounds_toArray, List.set_cons_succ, List.set_cons_zero]
      refine wpAnyH_done (by kernel_rfl) ?_ _
      go_wp2_with fail
      go_meet
      first
        | exact ⟨w2.heap.size, w2.heap.size + 1, rfl, rfl, by omega, by omega, by omega, HN1.out, HN2.out, hS⟩
        | exact ⟨w2.heap.size + 1, w2.heap.size, rfl, rfl, by omega, by omega, by omega, HN2.out, HN1.out, hS⟩
    exact AllReadyH.nil
  case rest =>
    obtain ⟨B1, B2, rfl, rfl, hne, hB1, hB2, hz1, hz2, x4⟩ := hcut
    have hd := h2.grow x4
    have hbox := x4.heap hbox
    obtain ⟨K2, hK2⟩ : ∃ K2 : Nat → Prop, K2 = fun b => K b ∨ (w2.heap.size ≤ b ∧ b < wc.heap.size) := ⟨_, rfl⟩
    have hK2b : ∀ b, K2 b → b < wc.heap.size := fun b e => by
      rw [hK2] at e
      rcases e with e | e
      · exact Nat.lt_of_lt_of_le (hKb b e) x4.size
      · exact e.2
    have k0 : K2 w.heap.size := by rw [hK2]; exact .inl hKx
    have k1 : K2 B1 := by rw [hK2]; exact .inr ⟨hB1, (Array.getElem?_eq_some_iff.1 hz1).1⟩
    have k2 : K2 B2 := by rw [hK2]; exact .inr ⟨hB2, (Array.getElem?_eq_some_iff.1 hz2).1⟩
    have n01 : w.heap.size ≠ B1 := fun e => by have := hKb _ hKx; omega
    have n02 : w.heap.size ≠ B2 := fun e => by have := hKb _ hKx; omega
    have hKn : ∀ b, ¬ K2 b → w.heap.size ≤ b := fun b e => Nat.le_of_not_lt fun h => e (by
      rw [hK2]
      exact .inl (HK _ h))
    have XC : Ext w wc := X2.trans x4
    have g1 : w.heap.size ≤ B1 := Nat.le_trans X2.size hB1
    have g2 : w.heap.size ≤ B2 := Nat.le_trans X2.size hB2
    rw [← hK2] at hd
    rw [HZ.out, fill_none a] at hz1
    rw [HZ.out, fill_none b] at hz2
    clear hK2 hKb hKx h2 hmk HN1 HN2 HZ x4 x2 x1 hB1 hB2
    rw [HC.out] at hbox
    go_wp2_with fail
    go_loopw [12] (fun i wr => ∃ k : Nat, k ≤ 128 ∧ i = .int .i64 (k : Int) ∧ wr.heap[B1]? = some (.cells (octs (fillOf a k)).toArray 5 (0, 0)) ∧ wr.heap[B2]? = some (.cells (octs (fillOf b k)).toArray 5 (0, 0)) ∧ Upd (fun g => g = B1 ∨ g = B2) wc wr) (fun i _ => 128 - (intOf i).toNat)
    case atStart => exact ⟨0, Nat.zero_le _, rfl, hz1, hz2, Upd.refl _ _⟩
    case round =>
      obtain ⟨k, hk, rfl, hr1, hr2, hu⟩ := hrel
      by_cases hlt : k < 128
      · have hbr := hu.heap hbox (fun e => e.elim n01 n02)
        have cb0 : wr.cell? ⟨w.heap.size, 0, none⟩ = some (.int .u8 ((a.toNat : Nat) : Int)) := (cell_of_row wr _ 0 _ _ _ hbr).trans rfl
        have cb1 : wr.cell? ⟨w.heap.size, 1, none⟩ = some (.int .u8 ((b.toNat : Nat) : Int)) := (cell_of_row wr _ 1 _ _ _ hbr).trans rfl
        have c1 : wr.cell? ⟨B1, k, none⟩ = some (.int .u8 0) := (cell_of_row wr B1 k _ _ _ hr1).trans (fill_at a k hlt)
        have c2 : wr.cell? ⟨B2, k, none⟩ = some (.int .u8 0) := (cell_of_row wr B2 k _ _ _ hr2).trans (fill_at b k hlt)
        have f1 : wr.frozen? ⟨B1, k, none⟩ = false := frozen_of_row wr B1 k _ _ hr1
        have f2 : wr.frozen? ⟨B2, k, none⟩ = false := frozen_of_row wr B2 k _ _ hr2
        have hne2 := hne.symm
        have nb : ¬ ((⟨w.heap.size, 0, none⟩ : Addr).block = B1 ∨ (⟨w.heap.size, 0, none⟩ : Addr).block = B2) := fun e => e.elim n01 n02
        have nb1 : ¬ ((⟨w.heap.size, 1, none⟩ : Addr).block = B1 ∨ (⟨w.heap.size, 1, none⟩ : Addr).block = B2) := fun e => e.elim n01 n02
        go_wp2
        refine wp_region_held_drew (S := fun w' => Upd (fun g => g = B1 ∨ g = B2) wr w') (by kernel_rfl) ((Upd.refl _ _).drew) (fun hS => ?_)
        refine takeH (i := 0) (v := ?_) rfl rfl (by kernel_rfl) (by kernel_rfl) (by kernel_rfl) (fun _ _ _ h => h) (Or.inl ⟨by kernel_rfl, ?_⟩) hS ?_
        rotate_left 1
        · (intro w' hS'; go_simp; try (with_reducible rfl))
        simp only [List.setIfInBounds_toArray, List.set_cons_succ, List.set_cons_zero]
        refine takeH (i := 1) (v := ?_) rfl rfl (by kernel_rfl) (by kernel_rfl) (by kernel_rfl) (fun _ _ _ h => h) (Or.inl ⟨by kernel_rfl, ?_⟩) hS ?_
        rotate_left 1
        · (intro w' hS'; go_simp; try (with_reducible rfl))
        simp only [List.setIfInBounds_toArray, List.set_cons_succ, List.set_cons_zero]
        refine takeH (i := 2) (v := ?_) rfl rfl (by kernel_rfl) (by kernel_rfl) (by kernel_rfl) (fun _ _ _ h => h) (Or.inl ⟨by kernel_rfl, ?_⟩) hS ?_
        rotate_left 1
        · (intro w' hS'; go_simp; try (with_reducible rfl))
        simp only [List.setIfInBounds_toArray, List.set_cons_succ, List.set_cons_zero]
        refine takeH (i := 3) (v := ?_) rfl rfl (by kernel_rfl) (by kernel_rfl) (by kernel_rfl) (fun _ _ _ h => h) (Or.inl ⟨by kernel_rfl, ?_⟩) hS ?_
        rotate_left 1
        · (intro w' hS'; go_simp; try (with_reducible rfl))
        simp only [List.setIfInBounds_toArray, List.set_cons_succ, List.set_cons_zero]
        refine takeH (i := 4) (v := ?_) rfl rfl (by kernel_rfl) (by kernel_rfl) (by kernel_rfl) (fun _ _ _ h => h) (Or.inl ⟨by kernel_rfl, ?_⟩) hS ?_
        rotate_left 1
        · (intro w' hS'; go_simp; try (with_reducible rfl))
        simp only [List.setIfInBounds_toArray, List.set_cons_succ, List.set_cons_zero]
        refine takeH (i := 5) (v := ?_) rfl rfl (by kernel_rfl) (by kernel_rfl) (by kernel_rfl) (fun _ _ _ h => h) (Or.inl ⟨by kernel_rfl, ?_⟩) hS ?_
        rotate_left 1
        · (intro w' hS'; have k5 := hS'.cell cb0 nb; go_simp; try (with_reducible rfl))
        simp only [List.setIfInBounds_toArray, List.set_cons_succ, List.set_cons_zero]
        refine takeH (i := 6) (v := ?_) rfl rfl (by kernel_rfl) (by kernel_rfl) (by kernel_rfl) (fun _ _ _ h => h) (Or.inl ⟨by kernel_rfl, ?_⟩) hS ?_
        rotate_left 1
        · (intro w' hS'; go_simp; try (with_reducible rfl))
        simp only [List.setIfInBounds_toArray, List.set_cons_succ, List.set_cons_zero]
        refine takeH (i := 7) (v := ?_) rfl rfl (by kernel_rfl) (by kernel_rfl) (by kernel_rfl) (fun _ _ _ h => h) (Or.inl ⟨by kernel_rfl, ?_⟩) hS ?_
        rotate_left 1
        · (intro w' hS'; have k7 := hS'.cell cb1 nb1; go_simp; try (with_reducible rfl))
        simp only [List.setIfInBounds_toArray, List.set_cons_succ, List.set_cons_zero]
        refine takeH (i := 8) (v := ?_) rfl rfl (by kernel_rfl) (by kernel_rfl) (by kernel_rfl) (fun _ _ _ h => h) (Or.inl ⟨by kernel_rfl, ?_⟩) hS ?_
        rotate_left 1
        · (intro w' hS'; go_simp; try (with_reducible rfl))
        simp only [List.setIfInBounds_toArray, List.set_cons_succ, List.set_cons_zero]
        refine wpAnyH_ready (rs := [9]) (by kernel_rfl) (by simp) ?_
        refine AllReadyH.cons rfl (fun K hK => ?_) ?_
        rotate_left 1
        · exact AllReadyH.nil
        go_simp
        refine hK.out _ _ (by first | exact hS | exact hS.setCell (p := ⟨B1, k, none⟩) (.inl (.inl rfl)) _ | exact hS.setCell (p := ⟨B2, k, none⟩) (.inl (.inr rfl)) _) (fun hS => ?_)
        clear hK K
        refine takeH (i := 10) (v := ?_) rfl rfl (by kernel_rfl) (by kernel_rfl) (by kernel_rfl) (fun _ _ _ h => h) (Or.inl ⟨by kernel_rfl, ?_⟩) hS ?_
        rotate_left 1
        · (intro w' hS'; go_simp; try (with_reducible rfl))
        simp only [List.setIfInBounds_toArray, List.set_cons_succ, List.set_cons_zero]
        refine wpAnyH_ready (rs := [11]) (by kernel_rfl) (by simp) ?_
        refine AllReadyH.cons rfl (fun K hK => ?_) ?_
        rotate_left 1
        · exact AllReadyH.nil
        go_simp
        refine hK.out _ _ (by first | exact hS | exact hS.setCell (p := ⟨B1, k, none⟩) (.inl (.inl rfl)) _ | exact hS.setCell (p := ⟨B2, k, none⟩) (.inl (.inr rfl)) _) (fun hS => ?_)
        clear hK K
        refine wpAnyH_done (by kernel_rfl) ?_ _
        have m1 : (wr.setCell ⟨B1, k, none⟩ (.int .u8 ((a.toNat : Nat) : Int))).heap[B1]? = some (.cells (octs (fillOf a (k + 1))).toArray 5 (0, 0)) := by
          rw [← fill_set a k hlt]
          exact heap_setCell_same wr B1 k _ _ _ hr1
        have q1 : (wr.setCell ⟨B1, k, none⟩ (.int .u8 ((a.toNat : Nat) : Int))).heap[B2]? = some (.cells (octs (fillOf b k)).toArray 5 (0, 0)) := ((Upd.refl (fun g => g = B1) wr).setCell (p := ⟨B1, k, none⟩) (.inl rfl) _).heap hr2 hne2
        have m2 : ((wr.setCell ⟨B1, k, none⟩ (.int .u8 ((a.toNat : Nat) : Int))).setCell ⟨B2, k, none⟩ (.int .u8 ((b.toNat : Nat) : Int))).heap[B2]? = some (.cells (octs (fillOf b (k + 1))).toArray 5 (0, 0)) := by
          rw [← fill_set b k hlt]
          exact heap_setCell_same _ B2 k _ _ _ q1
        have m3 : ((wr.setCell ⟨B1, k, none⟩ (.int .u8 ((a.toNat : Nat) : Int))).setCell ⟨B2, k, none⟩ (.int .u8 ((b.toNat : Nat) : Int))).heap[B1]? = some (.cells (octs (fillOf a (k + 1))).toArray 5 (0, 0)) := ((Upd.refl (fun g => g = B2) _).setCell (p := ⟨B2, k, none⟩) (.inl rfl) _).heap m1 hne
        clear c1 c2 cb0 cb1 f1 f2
        go_wp2
        go_roundw
        case rel => exact ⟨k + 1, by omega, val_int (by omega), m3, m2, hu.trans hS⟩
        case measure => simp [intOf]; omega
      · obtain rfl : k = 128 := by omega
        rw [fill_all] at hr1 hr2
        have XR : Ext w wr := hu.to_ext XC (fun b e => e.elim (fun e => e ▸ g1) (fun e => e ▸ g2))
        have hd1 := hd.upd hu (fun g e => e.elim (fun e => e ▸ k1) (fun e => e ▸ k2))
        have hbr := hu.heap hbox (fun e => e.elim n01 n02)
        have hKr : ∀ b, K2 b → b < wr.heap.size := fun b e => Nat.lt_of_lt_of_le (hK2b b e) hu.size
        have hlA := length_allOf a
        have hlB := length_allOf b
        obtain ⟨SA, hSA⟩ : ∃ SA, SA = allOf a := ⟨_, rfl⟩
        obtain ⟨SB, hSB⟩ : ∃ SB, SB = allOf b := ⟨_, rfl⟩
        rw [← hSA] at hr1 hlA
        rw [← hSB] at hr2 hlB
        have hwA : ∀ W i, Upd (fun g => ¬ K2 g) wr W → Disk K2 W p (tq a i) → i < 4 → Calls Try.prog 16 #[.pointer (some ⟨p, 0, none⟩), .int .i64 (i : Int), .slice (some ⟨B1, 0, none⟩) 128 128] W fun e w' => e = .returned (.int .i64 0) ∧ Disk K2 w' p (tq a (i + 1)) ∧ Upd (fun g => ¬ K2 g) W w' := fun W i u h hi => by
          have hs : (tq a i).safe.length = 4 := by rw [tq_form]; rfl
          have hc : (tq a i).calls = -1 := by rw [tq_form]
          have hw : (tq a i).writes = (i : Int) := by rw [tq_form]
          have hq : (tq a i).queue.length = i := by rw [tq_form]; simp
          rw [tq, ← hSA]
          exact f16_on h (by rw [hc]; decide) (some ⟨B1, 0, none⟩) SA 128 128 i hlA rfl (by omega) (Nat.le_refl _) (sec_octs (u.heap hr1 (fun x => x k1))) (fun x e => by injection e with e; rw [← e]; exact k1) (by omega) (by omega) (fun b e => Nat.lt_of_lt_of_le (hKr b e) u.size)
        have hwB : ∀ W, Upd (fun g => ¬ K2 g) wr W → Disk K2 W p (dkFlush (tq a 4)) → Calls Try.prog 16 #[.pointer (some ⟨p, 0, none⟩), .int .i64 (n : Int), .slice (some ⟨B2, 0, none⟩) 128 128] W fun e w' => e = .returned (.int .i64 0) ∧ Disk K2 w' p (tornS a b n) ∧ Upd (fun g => ¬ K2 g) W w' := fun W u h => by
          rw [← torn_write, ← hSB]
          have hs : (dkFlush (tq a 4)).safe.length = 4 := by rw [tq_flush]; rfl
          have hc : (dkFlush (tq a 4)).calls = -1 := by rw [tq_flush]
          have hw : (dkFlush (tq a 4)).writes = 4 := by rw [tq_flush]
          have hq : (dkFlush (tq a 4)).queue.length = 0 := by rw [tq_flush]; rfl
          exact f16_on h (by rw [hc]; decide) (some ⟨B2, 0, none⟩) SB 128 128 n hlB rfl (by omega) (Nat.le_refl _) (sec_octs (u.heap hr2 (fun x => x k2))) (fun x e => by injection e with e; rw [← e]; exact k2) (by omega) (by omega) (fun b e => Nat.lt_of_lt_of_le (hKr b e) u.size)
        have hcr : ∀ W, Disk K2 W p (tornS a b n) → Calls Try.prog 19 #[.pointer (some ⟨p, 0, none⟩), .agg #[.slice none 0 0, .int .i64 0, .int .i64 y]] W fun e w' => e = .returned (.int .i64 0) ∧ Disk K2 w' p (dkCrash (tornS a b n) [] 0 y) ∧ Upd (fun g => ¬ K2 g) W w' := fun W h => by
          have := f19_any h none [] 0 0 0 y rfl (Cells.nil _ _) (fun x e => by cases e) (by omega)
          rw [torn_crash a b n hn4 y] at this
          exact this
        have hIl := torn_len a b n hn4 y
        have hIa := torn_at a b n hn4 y
        have him : ∀ W, Disk K2 W p (dkCrash (tornS a b n) [] 0 y) → Calls Try.prog 25 #[.pointer (some ⟨p, 0, none⟩)] W fun e w' => ∃ A c, e = .returned (.slice A 512 c) ∧ Octs w' A (dkImage (dkCrash (tornS a b n) [] 0 y)) ∧ Ext W w' := fun W h => (f25_any h).mono (by
          rintro e w' ⟨v, rfl, o, x⟩
          obtain ⟨A, c, rfl, _, _, hx⟩ := o.form
          rw [hIl]
          exact ⟨A, c, rfl, hx, x⟩)
        obtain ⟨I, hI⟩ : ∃ I, I = dkImage (dkCrash (tornS a b n) [] 0 y) := ⟨_, rfl⟩
        rw [← hI] at hIl hIa him
        have hHI := Lib.hid hIa
        have hHL := Lib.hid hIl
        clear hz1 hz2 hd hSA hSB hI hIa hIl hlA hlB
        go_wp2_with fail
        go_loopw [13] (fun i ww => ∃ k : Nat, k ≤ 4 ∧ i = .int .i64 (k : Int) ∧ Disk K2 ww p (tq a k) ∧ Upd (fun g => ¬ K2 g) wr ww) (fun i _ => 4 - (intOf i).toNat)
        case atStart => exact ⟨0, Nat.zero_le _, rfl, hd1, Upd.refl _ _⟩
        case round =>
          rename_i wq
          obtain ⟨k, hk, rfl, hd2, hu2⟩ := hrel
          by_cases hlt : k < 4
          · go_wp2_with (go_at_call 16; refine (hwA _ k hu2 hd2 hlt).mono ?_; rintro e w5 ⟨rfl, h5, u5⟩)
            go_roundw
            case rel =>
              (repeat apply Exists.intro)
              exact ⟨⟨k + 1, by omega, val_int (by omega), h5, hu2.trans u5⟩, rfl⟩
            case measure => simp [intOf]; omega
          · obtain rfl : k = 4 := by omega
            have hfl := f18_on hd2 (by rw [tq_form]; show (-1 : Int) ≠ 0; decide)
            clear hwA
            go_wp2_with first
              | (go_at_call 18; refine hfl.mono ?_; clear hfl; rintro e w6 ⟨rfl, h6, u6⟩; have u6 := hu2.trans u6)
              | (go_at_call 16; refine (hwB _ u6 h6).mono ?_; clear hwB; rintro e w7 ⟨rfl, h7, u7⟩; have u7 := u6.trans u7)
              | (go_at_call 19; refine (hcr _ h7).mono ?_; clear hcr; rintro e w8 ⟨rfl, h8, u8⟩; have u8 := u7.trans u8)
              | (go_at_call 25; refine (him _ h8).mono ?_; clear him; rintro e w9 ⟨A, c, rfl, hxI, x9⟩)
            have hbz := x9.heap (u8.heap hbr (fun x => x k0))
            have X9 : Ext w w9 := (u8.to_ext XR hKn).trans x9
            clear u8 u7 u6 h8 h7 h6 hr1 hr2 hbr hd2 hd1 hu2
            go_wp2_with fail
            go_loopw [16, 17] (fun i _ wr => ∃ k : Nat, k ≤ 512 ∧ i = .int .i64 (k : Int) ∧ Ext w9 wr) (fun i _ _ => 512 - (intOf i).toNat)
            case atStart => exact ⟨0, Nat.zero_le _, rfl, Ext.refl _⟩
            case round =>
              obtain ⟨k, hk, rfl, xz⟩ := hrel
              by_cases hlt : k < 512
              · have hbk := xz.heap hbz
                have cb0 : wr.cell? ⟨w.heap.size, 0, none⟩ = some (.int .u8 ((a.toNat : Nat) : Int)) := (cell_of_row wr _ 0 _ _ _ hbk).trans rfl
                have cb1 : wr.cell? ⟨w.heap.size, 1, none⟩ = some (.int .u8 ((b.toNat : Nat) : Int)) := (cell_of_row wr _ 1 _ _ _ hbk).trans rfl
                have hIk : k < I.length := by rw [hHL.out]; exact hlt
                obtain ⟨g, o, rfl, hcl⟩ := (hxI.ext xz).at_ hIk
                have hv := hHI.out k hlt
                rw [List.getElem?_eq_getElem hIk] at hv
                injection hv with hv
                rw [hv] at hcl
                clear hv hbk
                obtain ⟨q, hq⟩ : ∃ q, q = k / 128 := ⟨_, rfl⟩
                obtain ⟨r, hr⟩ : ∃ r, r = k % 128 := ⟨_, rfl⟩
                rw [← hq, ← hr] at hcl
                have q1 : (k : Int).tdiv 128 = (q : Int) := by rw [Int.tdiv_eq_ediv_of_nonneg (by omega)]; omega
                have q2 : (k : Int) / 128 = (q : Int) := by omega
                have r1 : (k : Int).tmod 128 = (r : Int) := by rw [Int.tmod_eq_emod_of_nonneg (by omega)]; omega
                have r2 : (k : Int) % 128 = (r : Int) := by omega
                have hq4 : q < 4 := by omega
                have hr4 : r < 128 := by omega
                clear hq hr
                by_cases c1 : q = n
                · have c1' : (q : Int) = (n : Int) := by omega
                  by_cases c2 : 1 ≤ y
                  · by_cases c3 : y ≤ 127
                    · by_cases c4 : ((r : Nat) : Int) < y
                      · rw [if_pos (⟨c1, c2, c3, c4⟩)] at hcl
                        go_wp2
                        go_roundw
                        case rel => exact ⟨k + 1, by omega, val_int (by omega), xz⟩
                        case measure => simp [intOf]; omega
                      · rw [if_neg (fun e => c4 e.2.2.2)] at hcl
                        go_wp2
                        go_roundw
                        case rel => exact ⟨k + 1, by omega, val_int (by omega), xz⟩
                        case measure => simp [intOf]; omega
                    · rw [if_neg (fun e => c3 e.2.2.1)] at hcl
                      go_wp2
                      go_roundw
                      case rel => exact ⟨k + 1, by omega, val_int (by omega), xz⟩
                      case measure => simp [intOf]; omega
                  · rw [if_neg (fun e => c2 e.2.1)] at hcl
                    go_wp2
                    go_roundw
                    case rel => exact ⟨k + 1, by omega, val_int (by omega), xz⟩
                    case measure => simp [intOf]; omega
                · have c1' : ¬ (q : Int) = (n : Int) := by omega
                  rw [if_neg (fun e => c1 e.1)] at hcl
                  go_wp2
                  go_roundw
                  case rel => exact ⟨k + 1, by omega, val_int (by omega), xz⟩
                  case measure => simp [intOf]; omega
              · obtain rfl : k = 512 := by omega
                go_wp2
                go_ret
                exact ⟨rfl, X9.trans xz⟩
end Go.Proofs.Ytgpnmmgoachajaa
