/- Seal and Open (layer 2), the document's sum, and the document's example. -/
import Derived.Test.YtgpnmmgoachajaaCuts
import Derived.Test.YtgpnmmgoachajaaSlices
namespace Go.Proofs.Ytgpnmmgoachajaa
open Go.RowKit
open Go.Proofs

theorem leN4 (v : Nat) : leN 4 v = Mb.le4 v := by simp [leN, Mb.le4, Nat.div_div_eq_div_mul]
theorem u64of_nat (v : Nat) (h : v < 18446744073709551616) : u64of (v : Int) = v := by unfold u64of; omega
theorem getN4 : ∀ l : List UInt8, l.length = 4 → getN l = Mb.get4 l
  | [a, b, c, d], _ => by simp only [getN, Mb.get4]; omega

set_option maxRecDepth 100000 in
theorem f45_any (A : Option Addr) (l : List UInt8) (c : Nat) (w : World) (hl : l.length ≤ 4294900000) (hc : l.length ≤ c) (hx : Octs w A l) :
    Calls Try.prog 79 #[.slice A l.length c] w fun e w' => ∃ v, e = .returned v ∧ Own w' w.heap.size 5 v (octs (Mb.seal_ l)) ∧ Ext w w' := by
  have hlt := Mb.crcSum_lt l
  have hw : IntKind.i64.wrap ((Mb.crcSum l : Nat) : Int) = ((Mb.crcSum l : Nat) : Int) := IntWalk.i64_in _ (by omega)
  have hL := Lists.one 22 hx hc (by omega)
  go_enter Try.func79, Try.ntmps79
  go_wp2_with fail
  refine (f41_any _ [l] _ _ (by simp) hL).mono ?_
  rintro e w1 ⟨rfl, hext1⟩
  simp only [List.flatten_cons, List.flatten_nil, List.append_nil]
  go_wp2_with fail
  refine (f132_any _ 4 (by omega) _).mono ?_
  rintro e w2 ⟨v2, rfl, hown2, hext2⟩
  rw [u64of_nat _ (by omega), leN4] at hown2
  have hx2 : Ext w w2 := (((Ext.refl w).alloc _).trans hext1).trans hext2
  obtain ⟨A2, c2, rfl, hc2, _, hcells, _⟩ := hown2.form
  rw [length_octs, Mb.length_le4] at hc2 ⊢
  have hL2 := Lists.two 22 (hx.ext hx2) hc (by omega) (m := Mb.le4 (Mb.crcSum l)) hcells (by rw [Mb.length_le4]; exact hc2) (by rw [Mb.length_le4]; omega)
  go_wp2_with fail
  refine (f131_any _ [l, Mb.le4 (Mb.crcSum l)] _ _ (by simp) (by simp [Mb.length_le4]; omega) hL2).mono ?_
  rintro e w3 ⟨v3, rfl, hown3, hext3⟩
  have e3 : [l, Mb.le4 (Mb.crcSum l)].flatten = Mb.seal_ l := by simp [Mb.seal_]
  rw [e3] at hown3
  go_wp2
  go_ret
  exact ⟨_, rfl, hown3.mono (by simp; exact Nat.le_succ_of_le hx2.size), (hx2.alloc _).trans hext3⟩

theorem f133_n (A : Option Addr) (l : List UInt8) (n c : Nat) (w : World) (hn : l.length = n) (hl : n ≤ 4294967296) (hc : n ≤ c) (hx : Octs w A l) :
    Calls Try.prog 73 #[.slice A n c] w fun e w' => e = .returned (.int .i64 (i64of (getN (l.take 8)))) ∧ w = w' := by
  subst hn; exact f133_any A l c w hl hc hx
theorem f134_n (A : Option Addr) (l : List UInt8) (n c : Nat) (w : World) (hn : l.length = n) (hl : n ≤ 4294967296) (hc : n ≤ c) (hx : Octs w A l) :
    Calls Try.prog 84 #[.slice A n c] w fun e w' => ∃ v, e = .returned v ∧ Own w' w.heap.size 5 v (octs l) ∧ Ext w w' := by
  subst hn; exact f134_any A l c w hl hc hx
theorem f41_one (A : Option Addr) (l : List UInt8) (n c : Nat) (w : World) (hn : l.length = n) (hl : n ≤ 4294967296) (hc : n ≤ c) (hx : Octs w A l) (t : TypeId) :
    Calls Try.prog 54 #[.slice (some ⟨w.heap.size, 0, none⟩) 1 1] (w.alloc (.cells #[.slice A n c] t)) fun e w' => e = .returned (.int .u32 ((Mb.crcSum l : Nat) : Int)) ∧ Ext w w' := by
  subst hn
  refine (f41_any _ [l] _ _ (by simp) (Lists.one t hx hc hl)).mono ?_
  rintro e w1 ⟨rfl, h⟩
  exact ⟨by simp, ((Ext.refl w).alloc _).trans h⟩
theorem f45_n (A : Option Addr) (l : List UInt8) (n c : Nat) (w : World) (hn : l.length = n) (hl : n ≤ 4294900000) (hc : n ≤ c) (hx : Octs w A l) :
    Calls Try.prog 79 #[.slice A n c] w fun e w' => ∃ v, e = .returned v ∧ Own w' w.heap.size 5 v (octs (Mb.seal_ l)) ∧ Ext w w' := by
  subst hn; exact f45_any A l c w hl hc hx

theorem i64of_small (n : Nat) (h : n ≤ 9223372036854775807) : i64of n = (n : Int) := IntWalk.wrap64_in _ (by omega)

/-- What was sealed; nothing, if nothing was. -/
def opened (l : List UInt8) : List UInt8 := if Mb.isSealed l = true then l.take (l.length - 4) else []

set_option maxRecDepth 100000 in
set_option maxHeartbeats 1000000 in
theorem f46_n (A : Option Addr) (l : List UInt8) (n c : Nat) (w : World) (hn : l.length = n) (hl : n ≤ 4294900000) (hc : n ≤ c) (hx : Octs w A l) :
    Calls Try.prog 81 #[.slice A n c] w fun e w' => ∃ v, e = .returned (.tuple #[v, .bool (Mb.isSealed l)]) ∧ Own w' w.heap.size 5 v (octs (opened l)) ∧ Ext w w' := by
  by_cases h4 : 4 ≤ n
  · obtain ⟨k, hk⟩ : ∃ k, k = n - 4 := ⟨n - 4, rfl⟩
    obtain ⟨A1, s1, s2, s3, _⟩ := cut_lo A l c k (by omega) (by omega)
    obtain ⟨A2, r1, r2, r3, _⟩ := cut_hi A l c k (by omega) (by omega)
    have hget : getN ((l.drop k).take 8) = Mb.get4 (l.drop k) := by
      rw [List.take_of_length_le (by rw [List.length_drop]; omega)]
      exact getN4 _ (by rw [List.length_drop]; omega)
    have hg4 := Mb.get4_lt (l.drop k)
    have hi64 : i64of (getN ((l.drop k).take 8)) = ((Mb.get4 (l.drop k) : Nat) : Int) := by rw [hget, i64of_small _ (by omega)]
    have hsum := Mb.crcSum_lt (l.take k)
    have hconv : IntKind.i64.wrap ((Mb.crcSum (l.take k) : Nat) : Int) = ((Mb.crcSum (l.take k) : Nat) : Int) := IntWalk.i64_in _ (by omega)
    have hSeal : Mb.isSealed l = decide (Mb.get4 (l.drop k) = Mb.crcSum (l.take k)) := by
      unfold Mb.isSealed
      rw [show l.length - 4 = k by omega, decide_eq_true (by omega : 4 ≤ l.length), Bool.true_and]
    have hOp : opened l = if Mb.isSealed l = true then l.take k else [] := by unfold opened; rw [show l.length - 4 = k by omega]
    rw [hn] at s1 s2 r1 r2
    rw [show n - k = 4 by omega] at s1 s2
    have hb : ((n : Int) - 4) = k := by omega
    have hnlt : decide ((k : Int) < 0) = false := by simp
    have hk4 : (l.drop k).length = 4 := by rw [List.length_drop]; omega
    have hlt2 : (l.take k).length = k := by rw [List.length_take]; omega
    have hkc : k ≤ c := by omega
    have hkl : k ≤ 4294900000 := by omega
    have hc4 : 4 ≤ c - k := by omega
    have hx1 := s3 w hx
    have hx2 := r3 w hx
    have hL1 : Lists (w.alloc (.cells #[.slice A2 k c] 22)) (some ⟨w.heap.size, 0, none⟩) [l.take k] := by
      have := Lists.one (c := c) 22 hx2 (by rw [hlt2]; omega) (by rw [hlt2]; omega)
      rw [hlt2] at this
      exact this
    have HK4 := Lib.hid hk4
    have Hlt2 := Lib.hid hlt2
    have Hi := Lib.hid hi64
    have HC4 := Lib.hid hc4
    clear hk4 hlt2 hget hi64 hc4
    by_cases hv : Mb.get4 (l.drop k) = Mb.crcSum (l.take k)
    · rw [hSeal, hOp, hSeal, decide_eq_true hv, if_pos rfl]
      have hvb : (((Mb.get4 (l.drop k) : Nat) : Int) != ((Mb.crcSum (l.take k) : Nat) : Int)) = false := by simp [hv]
      clear hv hSeal hOp hk hn
      go_enter Try.func81, Try.ntmps81
      go_wp2_with fail
      refine wp_region_any (by kernel_rfl) ?_
      change wpAny _ _ _ _ _ _ _ (World.drew _)
      refine wpAny_take (i := 0) (v := ?_) rfl (by kernel_rfl) (by kernel_rfl) (by kernel_rfl) (fun _ _ _ h => h) (Or.inl ⟨by kernel_rfl, ?_⟩) ?_
      rotate_left 1
      · (intro w; go_simp; try (with_reducible rfl))
      refine wpAny_take (i := 1) (v := ?_) rfl (by kernel_rfl) (by kernel_rfl) (by kernel_rfl) (fun _ _ _ h => h) (Or.inl ⟨by kernel_rfl, ?_⟩) ?_
      rotate_left 1
      · (intro w; go_simp; try (with_reducible rfl))
      refine wpAny_take (i := 2) (v := ?_) rfl (by kernel_rfl) (by kernel_rfl) (by kernel_rfl) (fun _ _ _ h => h) (Or.inl ⟨by kernel_rfl, ?_⟩) ?_
      rotate_left 1
      · (intro w; go_simp; try (with_reducible rfl))
      refine wpAny_take (i := 3) (v := ?_) rfl (by kernel_rfl) (by kernel_rfl) (by kernel_rfl) (fun _ _ _ h => h) (Or.inl ⟨by kernel_rfl, ?_⟩) ?_
      rotate_left 1
      · (intro w; go_simp; try (with_reducible rfl))
      refine wpAny_take (i := 4) (v := ?_) rfl (by kernel_rfl) (by kernel_rfl) (by kernel_rfl) (fun _ _ _ h => h) (Or.inl ⟨by kernel_rfl, ?_⟩) ?_
      rotate_left 1
      · (intro w; go_simp; try (with_reducible rfl))
      refine wpAny_take (i := 5) (v := ?_) rfl (by kernel_rfl) (by kernel_rfl) (by kernel_rfl) (fun _ _ _ h => h) (Or.inl ⟨by kernel_rfl, ?_⟩) ?_
      rotate_left 1
      · (intro w; go_simp; try (with_reducible rfl))
      refine wpAny_take (i := 7) (v := ?_) rfl (by kernel_rfl) (by kernel_rfl) (by kernel_rfl) (fun _ _ _ h => h) (Or.inl ⟨by kernel_rfl, ?_⟩) ?_
      rotate_left 1
      · (intro w; go_simp; try (with_reducible rfl))
      refine wpAny_take (i := 8) (v := ?_) rfl (by kernel_rfl) (by kernel_rfl) (by kernel_rfl) (fun _ _ _ h => h) (Or.inl ⟨by kernel_rfl, ?_⟩) ?_
      rotate_left 1
      · (intro w; go_simp; try (with_reducible rfl))
      refine wpAny_take (i := 9) (v := ?_) rfl (by kernel_rfl) (by kernel_rfl) (by kernel_rfl) (fun _ _ _ h => h) (Or.inl ⟨by kernel_rfl, ?_⟩) ?_
      rotate_left 1
      · (intro w; go_simp; try (with_reducible rfl))
      refine wpAny_ready (rs := [6, 10]) (by kernel_rfl) (by simp) ?_
      refine AllReady.cons rfl (fun K hK => ?_) ?_
      · (try rw [if_pos (by kernel_rfl)])
        go_simp
        refine (f133_n _ (l.drop k) _ _ _ HK4.out (by omega) HC4.out ?_).mono ?_; (first | exact hx1 | exact hx1.alloc _); rintro e w' ⟨rfl, rfl⟩; rw [Hi.out]
        refine hK _ _ ?_
        clear hK K
        refine wpAny_ready (rs := [10]) (by kernel_rfl) (by simp) ?_
        refine AllReady.cons rfl (fun K hK => ?_) ?_
        rotate_left 1
        · exact AllReady.nil
        go_simp
        refine hK _ _ ?_
        clear hK K
        refine wpAny_ready (rs := [11]) (by kernel_rfl) (by simp) ?_
        refine AllReady.cons rfl (fun K hK => ?_) ?_
        rotate_left 1
        · exact AllReady.nil
        go_simp
        refine (f41_any _ [l.take k] _ _ (by simp) ?_).mono ?_; exact hL1; rintro e w1 ⟨rfl, hext1⟩; simp only [List.flatten_cons, List.flatten_nil, List.append_nil]
        refine hK _ _ ?_
        clear hK K
        refine wpAny_take (i := 12) (v := ?_) rfl (by kernel_rfl) (by kernel_rfl) (by kernel_rfl) (fun _ _ _ h => h) (Or.inl ⟨by kernel_rfl, ?_⟩) ?_
        rotate_left 1
        · (intro w; go_simp; try (with_reducible rfl))
        refine wpAny_take (i := 13) (v := ?_) rfl (by kernel_rfl) (by kernel_rfl) (by kernel_rfl) (fun _ _ _ h => h) (Or.inl ⟨by kernel_rfl, ?_⟩) ?_
        rotate_left 1
        · (intro w; go_simp; try (with_reducible rfl))
        refine wpAny_take (i := 14) (v := ?_) rfl (by kernel_rfl) (by kernel_rfl) (by kernel_rfl) (fun _ _ _ h => h) (Or.inl ⟨by kernel_rfl, ?_⟩) ?_
        rotate_left 1
        · (intro w; go_simp; try (with_reducible rfl))
        refine wpAny_done (by kernel_rfl) ?_ _
        go_wp2_with (go_at_call 84; refine (f134_n _ (l.take k) _ _ _ Hlt2.out (by omega) (by omega) (hx2.ext (((Ext.refl w).alloc _).drew.trans hext1))).mono ?_; rintro e w2 ⟨v, rfl, hown, hext2⟩); go_ret2; exact ⟨_, rfl, hown.mono (((Ext.refl w).alloc _).drew.trans hext1).size, (((Ext.refl w).alloc _).drew.trans hext1).trans hext2⟩
      refine AllReady.cons rfl (fun K hK => ?_) ?_
      · (try rw [if_pos (by kernel_rfl)])
        go_simp
        refine hK _ _ ?_
        clear hK K
        refine wpAny_ready (rs := [6]) (by kernel_rfl) (by simp) ?_
        refine AllReady.cons rfl (fun K hK => ?_) ?_
        rotate_left 1
        · exact AllReady.nil
        go_simp
        refine (f133_n _ (l.drop k) _ _ _ HK4.out (by omega) HC4.out ?_).mono ?_; (first | exact hx1 | exact hx1.alloc _); rintro e w' ⟨rfl, rfl⟩; rw [Hi.out]
        refine hK _ _ ?_
        clear hK K
        refine wpAny_ready (rs := [11]) (by kernel_rfl) (by simp) ?_
        refine AllReady.cons rfl (fun K hK => ?_) ?_
        rotate_left 1
        · exact AllReady.nil
        go_simp
        refine (f41_any _ [l.take k] _ _ (by simp) ?_).mono ?_; exact hL1; rintro e w1 ⟨rfl, hext1⟩; simp only [List.flatten_cons, List.flatten_nil, List.append_nil]
        refine hK _ _ ?_
        clear hK K
        refine wpAny_take (i := 12) (v := ?_) rfl (by kernel_rfl) (by kernel_rfl) (by kernel_rfl) (fun _ _ _ h => h) (Or.inl ⟨by kernel_rfl, ?_⟩) ?_
        rotate_left 1
        · (intro w; go_simp; try (with_reducible rfl))
        refine wpAny_take (i := 13) (v := ?_) rfl (by kernel_rfl) (by kernel_rfl) (by kernel_rfl) (fun _ _ _ h => h) (Or.inl ⟨by kernel_rfl, ?_⟩) ?_
        rotate_left 1
        · (intro w; go_simp; try (with_reducible rfl))
        refine wpAny_take (i := 14) (v := ?_) rfl (by kernel_rfl) (by kernel_rfl) (by kernel_rfl) (fun _ _ _ h => h) (Or.inl ⟨by kernel_rfl, ?_⟩) ?_
        rotate_left 1
        · (intro w; go_simp; try (with_reducible rfl))
        refine wpAny_done (by kernel_rfl) ?_ _
        go_wp2_with (go_at_call 84; refine (f134_n _ (l.take k) _ _ _ Hlt2.out (by omega) (by omega) (hx2.ext (((Ext.refl w).alloc _).drew.trans hext1))).mono ?_; rintro e w2 ⟨v, rfl, hown, hext2⟩); go_ret2; exact ⟨_, rfl, hown.mono (((Ext.refl w).alloc _).drew.trans hext1).size, (((Ext.refl w).alloc _).drew.trans hext1).trans hext2⟩
      exact AllReady.nil
    · rw [hSeal, hOp, hSeal, decide_eq_false hv, if_neg (by simp)]
      have hvb : (((Mb.get4 (l.drop k) : Nat) : Int) != ((Mb.crcSum (l.take k) : Nat) : Int)) = true := by
        rw [bne_iff_ne]
        omega
      clear hv hSeal hOp hk hn
      go_enter Try.func81, Try.ntmps81
      go_wp2_with fail
      refine wp_region_any (by kernel_rfl) ?_
      change wpAny _ _ _ _ _ _ _ (World.drew _)
      refine wpAny_take (i := 0) (v := ?_) rfl (by kernel_rfl) (by kernel_rfl) (by kernel_rfl) (fun _ _ _ h => h) (Or.inl ⟨by kernel_rfl, ?_⟩) ?_
      rotate_left 1
      · (intro w; go_simp; try (with_reducible rfl))
      refine wpAny_take (i := 1) (v := ?_) rfl (by kernel_rfl) (by kernel_rfl) (by kernel_rfl) (fun _ _ _ h => h) (Or.inl ⟨by kernel_rfl, ?_⟩) ?_
      rotate_left 1
      · (intro w; go_simp; try (with_reducible rfl))
      refine wpAny_take (i := 2) (v := ?_) rfl (by kernel_rfl) (by kernel_rfl) (by kernel_rfl) (fun _ _ _ h => h) (Or.inl ⟨by kernel_rfl, ?_⟩) ?_
      rotate_left 1
      · (intro w; go_simp; try (with_reducible rfl))
      refine wpAny_take (i := 3) (v := ?_) rfl (by kernel_rfl) (by kernel_rfl) (by kernel_rfl) (fun _ _ _ h => h) (Or.inl ⟨by kernel_rfl, ?_⟩) ?_
      rotate_left 1
      · (intro w; go_simp; try (with_reducible rfl))
      refine wpAny_take (i := 4) (v := ?_) rfl (by kernel_rfl) (by kernel_rfl) (by kernel_rfl) (fun _ _ _ h => h) (Or.inl ⟨by kernel_rfl, ?_⟩) ?_
      rotate_left 1
      · (intro w; go_simp; try (with_reducible rfl))
      refine wpAny_take (i := 5) (v := ?_) rfl (by kernel_rfl) (by kernel_rfl) (by kernel_rfl) (fun _ _ _ h => h) (Or.inl ⟨by kernel_rfl, ?_⟩) ?_
      rotate_left 1
      · (intro w; go_simp; try (with_reducible rfl))
      refine wpAny_take (i := 7) (v := ?_) rfl (by kernel_rfl) (by kernel_rfl) (by kernel_rfl) (fun _ _ _ h => h) (Or.inl ⟨by kernel_rfl, ?_⟩) ?_
      rotate_left 1
      · (intro w; go_simp; try (with_reducible rfl))
      refine wpAny_take (i := 8) (v := ?_) rfl (by kernel_rfl) (by kernel_rfl) (by kernel_rfl) (fun _ _ _ h => h) (Or.inl ⟨by kernel_rfl, ?_⟩) ?_
      rotate_left 1
      · (intro w; go_simp; try (with_reducible rfl))
      refine wpAny_take (i := 9) (v := ?_) rfl (by kernel_rfl) (by kernel_rfl) (by kernel_rfl) (fun _ _ _ h => h) (Or.inl ⟨by kernel_rfl, ?_⟩) ?_
      rotate_left 1
      · (intro w; go_simp; try (with_reducible rfl))
      refine wpAny_ready (rs := [6, 10]) (by kernel_rfl) (by simp) ?_
      refine AllReady.cons rfl (fun K hK => ?_) ?_
      · (try rw [if_pos (by kernel_rfl)])
        go_simp
        refine (f133_n _ (l.drop k) _ _ _ HK4.out (by omega) HC4.out ?_).mono ?_; (first | exact hx1 | exact hx1.alloc _); rintro e w' ⟨rfl, rfl⟩; rw [Hi.out]
        refine hK _ _ ?_
        clear hK K
        refine wpAny_ready (rs := [10]) (by kernel_rfl) (by simp) ?_
        refine AllReady.cons rfl (fun K hK => ?_) ?_
        rotate_left 1
        · exact AllReady.nil
        go_simp
        refine hK _ _ ?_
        clear hK K
        refine wpAny_ready (rs := [11]) (by kernel_rfl) (by simp) ?_
        refine AllReady.cons rfl (fun K hK => ?_) ?_
        rotate_left 1
        · exact AllReady.nil
        go_simp
        refine (f41_any _ [l.take k] _ _ (by simp) ?_).mono ?_; exact hL1; rintro e w1 ⟨rfl, hext1⟩; simp only [List.flatten_cons, List.flatten_nil, List.append_nil]
        refine hK _ _ ?_
        clear hK K
        refine wpAny_take (i := 12) (v := ?_) rfl (by kernel_rfl) (by kernel_rfl) (by kernel_rfl) (fun _ _ _ h => h) (Or.inl ⟨by kernel_rfl, ?_⟩) ?_
        rotate_left 1
        · (intro w; go_simp; try (with_reducible rfl))
        refine wpAny_take (i := 13) (v := ?_) rfl (by kernel_rfl) (by kernel_rfl) (by kernel_rfl) (fun _ _ _ h => h) (Or.inl ⟨by kernel_rfl, ?_⟩) ?_
        rotate_left 1
        · (intro w; go_simp; try (with_reducible rfl))
        refine wpAny_take (i := 14) (v := ?_) rfl (by kernel_rfl) (by kernel_rfl) (by kernel_rfl) (fun _ _ _ h => h) (Or.inl ⟨by kernel_rfl, ?_⟩) ?_
        rotate_left 1
        · (intro w; go_simp; try (with_reducible rfl))
        refine wpAny_done (by kernel_rfl) ?_ _
        go_wp2; go_ret2; exact ⟨_, rfl, Own.nil _ _ _, ((Ext.refl w).alloc _).drew.trans hext1⟩
      refine AllReady.cons rfl (fun K hK => ?_) ?_
      · (try rw [if_pos (by kernel_rfl)])
        go_simp
        refine hK _ _ ?_
        clear hK K
        refine wpAny_ready (rs := [6]) (by kernel_rfl) (by simp) ?_
        refine AllReady.cons rfl (fun K hK => ?_) ?_
        rotate_left 1
        · exact AllReady.nil
        go_simp
        refine (f133_n _ (l.drop k) _ _ _ HK4.out (by omega) HC4.out ?_).mono ?_; (first | exact hx1 | exact hx1.alloc _); rintro e w' ⟨rfl, rfl⟩; rw [Hi.out]
        refine hK _ _ ?_
        clear hK K
        refine wpAny_ready (rs := [11]) (by kernel_rfl) (by simp) ?_
        refine AllReady.cons rfl (fun K hK => ?_) ?_
        rotate_left 1
        · exact AllReady.nil
        go_simp
        refine (f41_any _ [l.take k] _ _ (by simp) ?_).mono ?_; exact hL1; rintro e w1 ⟨rfl, hext1⟩; simp only [List.flatten_cons, List.flatten_nil, List.append_nil]
        refine hK _ _ ?_
        clear hK K
        refine wpAny_take (i := 12) (v := ?_) rfl (by kernel_rfl) (by kernel_rfl) (by kernel_rfl) (fun _ _ _ h => h) (Or.inl ⟨by kernel_rfl, ?_⟩) ?_
        rotate_left 1
        · (intro w; go_simp; try (with_reducible rfl))
        refine wpAny_take (i := 13) (v := ?_) rfl (by kernel_rfl) (by kernel_rfl) (by kernel_rfl) (fun _ _ _ h => h) (Or.inl ⟨by kernel_rfl, ?_⟩) ?_
        rotate_left 1
        · (intro w; go_simp; try (with_reducible rfl))
        refine wpAny_take (i := 14) (v := ?_) rfl (by kernel_rfl) (by kernel_rfl) (by kernel_rfl) (fun _ _ _ h => h) (Or.inl ⟨by kernel_rfl, ?_⟩) ?_
        rotate_left 1
        · (intro w; go_simp; try (with_reducible rfl))
        refine wpAny_done (by kernel_rfl) ?_ _
        go_wp2; go_ret2; exact ⟨_, rfl, Own.nil _ _ _, ((Ext.refl w).alloc _).drew.trans hext1⟩
      exact AllReady.nil
  · have hs : Mb.isSealed l = false := by
      unfold Mb.isSealed
      rw [decide_eq_false (by omega : ¬ 4 ≤ l.length), Bool.false_and]
    have ho : opened l = [] := by unfold opened; rw [hs]; rfl
    rw [hs, ho]
    have hlt : (n : Int) < 4 := by omega
    have hd : decide ((n : Int) - 4 < 0) = true := by simp; omega
    have hd2 : (n : Int) - 4 < 0 := by omega
    clear hs ho h4 hn
    go_enter Try.func81, Try.ntmps81
    go_wp2_with fail
    go_quiet (fail)
    go_wp2
    go_ret2
    exact ⟨_, rfl, Own.nil _ _ _, (Ext.refl w).drewN _⟩
end Go.Proofs.Ytgpnmmgoachajaa
