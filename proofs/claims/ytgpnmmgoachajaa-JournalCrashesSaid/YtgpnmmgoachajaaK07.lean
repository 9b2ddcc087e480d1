/- Joined texts: Seal, Sp, Rz, Sg, Rp, Rq, Rs, Rf. -/
import Derived.Test.YtgpnmmgoachajaaK01
import Derived.Test.YtgpnmmgoachajaaK06
import Derived.Test.YtgpnmmgoachajaaK03
import Derived.Lib.SlBytesConst
import Derived.Test.YtgpnmmgoachajaaK05
import Derived.Test.YtgpnmmgoachajaaK02
import Derived.Laws.ResultCell
import Derived.Deep.RegionHeld3
import Derived.BigQuiet
/- Seal and Open (layer 2), the document's sum, and the document's example. -/
namespace Go.Proofs.Ytgpnmmgoachajaa
open Go.RowKit
open Go.Proofs

theorem leN4 (v : Nat) : leN 4 v = Mb.le4 v := by simp [leN, Mb.le4, Nat.div_div_eq_div_mul]
theorem u64of_nat (v : Nat) (h : v < 18446744073709551616) : u64of (v : Int) = v := by unfold u64of; omega
theorem getN4 : ∀ l : List UInt8, l.length = 4 → getN l = Mb.get4 l
  | [a, b, c, d], _ => by simp only [getN, Mb.get4]; omega

set_option maxRecDepth 100000 in
theorem f45_any (A : Option Addr) (l : List UInt8) (c : Nat) (w : World) (hl : l.length ≤ 4294900000) (hc : l.length ≤ c) (hx : Octs w A l) :
    Calls Try.prog 79 #[.slice A l.length c] w fun e w' => ∃ v, e = .returned v ∧ Own w' w.heap.size 5 v (octs (Mb.seal_ l)) ∧ Ext w w' := by
  have hlt := Mb.crcSum_lt l
  have hw : IntKind.i64.wrap ((Mb.crcSum l : Nat) : Int) = ((Mb.crcSum l : Nat) : Int) := IntWalk.i64_in _ (by omega)
  have hL := Lists.one 22 hx hc (by omega)
  go_enter Try.func79, Try.ntmps79
  go_wp2_with fail
  refine (f41_any _ [l] _ _ (by simp) hL).mono ?_
  rintro e w1 ⟨rfl, hext1⟩
  simp only [List.flatten_cons, List.flatten_nil, List.append_nil]
  go_wp2_with fail
  refine (f132_any _ 4 (by omega) _).mono ?_
  rintro e w2 ⟨v2, rfl, hown2, hext2⟩
  rw [u64of_nat _ (by omega), leN4] at hown2
  have hx2 : Ext w w2 := (((Ext.refl w).alloc _).trans hext1).trans hext2
  obtain ⟨A2, c2, rfl, hc2, _, hcells, _⟩ := hown2.form
  rw [length_octs, Mb.length_le4] at hc2 ⊢
  have hL2 := Lists.two 22 (hx.ext hx2) hc (by omega) (m := Mb.le4 (Mb.crcSum l)) hcells (by rw [Mb.length_le4]; exact hc2) (by rw [Mb.length_le4]; omega)
  go_wp2_with fail
  refine (f131_any _ [l, Mb.le4 (Mb.crcSum l)] _ _ (by simp) (by simp [Mb.length_le4]; omega) hL2).mono ?_
  rintro e w3 ⟨v3, rfl, hown3, hext3⟩
  have e3 : [l, Mb.le4 (Mb.crcSum l)].flatten = Mb.seal_ l := by simp [Mb.seal_]
  rw [e3] at hown3
  go_wp2
  go_ret
  exact ⟨_, rfl, hown3.mono (by simp; exact Nat.le_succ_of_le hx2.size), (hx2.alloc _).trans hext3⟩

theorem f133_n (A : Option Addr) (l : List UInt8) (n c : Nat) (w : World) (hn : l.length = n) (hl : n ≤ 4294967296) (hc : n ≤ c) (hx : Octs w A l) :
    Calls Try.prog 73 #[.slice A n c] w fun e w' => e = .returned (.int .i64 (i64of (getN (l.take 8)))) ∧ w = w' := by
  subst hn; exact f133_any A l c w hl hc hx
theorem f134_n (A : Option Addr) (l : List UInt8) (n c : Nat) (w : World) (hn : l.length = n) (hl : n ≤ 4294967296) (hc : n ≤ c) (hx : Octs w A l) :
    Calls Try.prog 84 #[.slice A n c] w fun e w' => ∃ v, e = .returned v ∧ Own w' w.heap.size 5 v (octs l) ∧ Ext w w' := by
  subst hn; exact f134_any A l c w hl hc hx
theorem f41_one (A : Option Addr) (l : List UInt8) (n c : Nat) (w : World) (hn : l.length = n) (hl : n ≤ 4294967296) (hc : n ≤ c) (hx : Octs w A l) (t : TypeId) :
    Calls Try.prog 54 #[.slice (some ⟨w.heap.size, 0, none⟩) 1 1] (w.alloc (.cells #[.slice A n c] t)) fun e w' => e = .returned (.int .u32 ((Mb.crcSum l : Nat) : Int)) ∧ Ext w w' := by
  subst hn
  refine (f41_any _ [l] _ _ (by simp) (Lists.one t hx hc hl)).mono ?_
  rintro e w1 ⟨rfl, h⟩
  exact ⟨by simp, ((Ext.refl w).alloc _).trans h⟩
theorem f45_n (A : Option Addr) (l : List UInt8) (n c : Nat) (w : World) (hn : l.length = n) (hl : n ≤ 4294900000) (hc : n ≤ c) (hx : Octs w A l) :
    Calls Try.prog 79 #[.slice A n c] w fun e w' => ∃ v, e = .returned v ∧ Own w' w.heap.size 5 v (octs (Mb.seal_ l)) ∧ Ext w w' := by
  subst hn; exact f45_any A l c w hl hc hx

theorem i64of_small (n : Nat) (h : n ≤ 9223372036854775807) : i64of n = (n : Int) := IntWalk.wrap64_in _ (by omega)

/-- What was sealed; nothing, if nothing was. -/
def opened (l : List UInt8) : List UInt8 := if Mb.isSealed l = true then l.take (l.length - 4) else []

set_option maxRecDepth 100000 in
set_option maxHeartbeats 1000000 in
theorem f46_n (A : Option Addr) (l : List UInt8) (n c : Nat) (w : World) (hn : l.length = n) (hl : n ≤ 4294900000) (hc : n ≤ c) (hx : Octs w A l) :
    Calls Try.prog 81 #[.slice A n c] w fun e w' => ∃ v, e = .returned (.tuple #[v, .bool (Mb.isSealed l)]) ∧ Own w' w.heap.size 5 v (octs (opened l)) ∧ Ext w w' := by
  by_cases h4 : 4 ≤ n
  · obtain ⟨k, hk⟩ : ∃ k, k = n - 4 := ⟨n - 4, rfl⟩
    obtain ⟨A1, s1, s2, s3, _⟩ := cut_lo A l c k (by omega) (by omega)
    obtain ⟨A2, r1, r2, r3, _⟩ := cut_hi A l c k (by omega) (by omega)
    have hget : getN ((l.drop k).take 8) = Mb.get4 (l.drop k) := by
      rw [List.take_of_length_le (by rw [List.length_drop]; omega)]
      exact getN4 _ (by rw [List.length_drop]; omega)
    have hg4 := Mb.get4_lt (l.drop k)
    have hi64 : i64of (getN ((l.drop k).take 8)) = ((Mb.get4 (l.drop k) : Nat) : Int) := by rw [hget, i64of_small _ (by omega)]
    have hsum := Mb.crcSum_lt (l.take k)
    have hconv : IntKind.i64.wrap ((Mb.crcSum (l.take k) : Nat) : Int) = ((Mb.crcSum (l.take k) : Nat) : Int) := IntWalk.i64_in _ (by omega)
    have hSeal : Mb.isSealed l = decide (Mb.get4 (l.drop k) = Mb.crcSum (l.take k)) := by
      unfold Mb.isSealed
      rw [show l.length - 4 = k by omega, decide_eq_true (by omega : 4 ≤ l.length), Bool.true_and]
    have hOp : opened l = if Mb.isSealed l = true then l.take k else [] := by unfold opened; rw [show l.length - 4 = k by omega]
    rw [hn] at s1 s2 r1 r2
    rw [show n - k = 4 by omega] at s1 s2
    have hb : ((n : Int) - 4) = k := by omega
    have hnlt : decide ((k : Int) < 0) = false := by simp
    have hk4 : (l.drop k).length = 4 := by rw [List.length_drop]; omega
    have hlt2 : (l.take k).length = k := by rw [List.length_take]; omega
    have hkc : k ≤ c := by omega
    have hkl : k ≤ 4294900000 := by omega
    have hc4 : 4 ≤ c - k := by omega
    have hx1 := s3 w hx
    have hx2 := r3 w hx
    have hL1 : Lists (w.alloc (.cells #[.slice A2 k c] 22)) (some ⟨w.heap.size, 0, none⟩) [l.take k] := by
      have := Lists.one (c := c) 22 hx2 (by rw [hlt2]; omega) (by rw [hlt2]; omega)
      rw [hlt2] at this
      exact this
    have HK4 := Lib.hid hk4
    have Hlt2 := Lib.hid hlt2
    have Hi := Lib.hid hi64
    have HC4 := Lib.hid hc4
    clear hk4 hlt2 hget hi64 hc4
    by_cases hv : Mb.get4 (l.drop k) = Mb.crcSum (l.take k)
    · rw [hSeal, hOp, hSeal, decide_eq_true hv, if_pos rfl]
      have hvb : (((Mb.get4 (l.drop k) : Nat) : Int) != ((Mb.crcSum (l.take k) : Nat) : Int)) = false := by simp [hv]
      clear hv hSeal hOp hk hn
      go_enter Try.func81, Try.ntmps81
      go_wp2_with fail
      refine wp_region_any (by kernel_rfl) ?_
      change wpAny _ _ _ _ _ _ _ (World.drew _)
      refine wpAny_take (i := 0) (v := ?_) rfl (by kernel_rfl) (by kernel_rfl) (by kernel_rfl) (fun _ _ _ h => h) (Or.inl ⟨by kernel_rfl, ?_⟩) ?_
      rotate_left 1
      · (intro w; go_simp; try (with_reducible rfl))
      refine wpAny_take (i := 1) (v := ?_) rfl (by kernel_rfl) (by kernel_rfl) (by kernel_rfl) (fun _ _ _ h => h) (Or.inl ⟨by kernel_rfl, ?_⟩) ?_
      rotate_left 1
      · (intro w; go_simp; try (with_reducible rfl))
      refine wpAny_take (i := 2) (v := ?_) rfl (by kernel_rfl) (by kernel_rfl) (by kernel_rfl) (fun _ _ _ h => h) (Or.inl ⟨by kernel_rfl, ?_⟩) ?_
      rotate_left 1
      · (intro w; go_simp; try (with_reducible rfl))
      refine wpAny_take (i := 3) (v := ?_) rfl (by kernel_rfl) (by kernel_rfl) (by kernel_rfl) (fun _ _ _ h => h) (Or.inl ⟨by kernel_rfl, ?_⟩) ?_
      rotate_left 1
      · (intro w; go_simp; try (with_reducible rfl))
      refine wpAny_take (i := 4) (v := ?_) rfl (by kernel_rfl) (by kernel_rfl) (by kernel_rfl) (fun _ _ _ h => h) (Or.inl ⟨by kernel_rfl, ?_⟩) ?_
      rotate_left 1
      · (intro w; go_simp; try (with_reducible rfl))
      refine wpAny_take (i := 5) (v := ?_) rfl (by kernel_rfl) (by kernel_rfl) (by kernel_rfl) (fun _ _ _ h => h) (Or.inl ⟨by kernel_rfl, ?_⟩) ?_
      rotate_left 1
      · (intro w; go_simp; try (with_reducible rfl))
      refine wpAny_take (i := 7) (v := ?_) rfl (by kernel_rfl) (by kernel_rfl) (by kernel_rfl) (fun _ _ _ h => h) (Or.inl ⟨by kernel_rfl, ?_⟩) ?_
      rotate_left 1
      · (intro w; go_simp; try (with_reducible rfl))
      refine wpAny_take (i := 8) (v := ?_) rfl (by kernel_rfl) (by kernel_rfl) (by kernel_rfl) (fun _ _ _ h => h) (Or.inl ⟨by kernel_rfl, ?_⟩) ?_
      rotate_left 1
      · (intro w; go_simp; try (with_reducible rfl))
      refine wpAny_take (i := 9) (v := ?_) rfl (by kernel_rfl) (by kernel_rfl) (by kernel_rfl) (fun _ _ _ h => h) (Or.inl ⟨by kernel_rfl, ?_⟩) ?_
      rotate_left 1
      · (intro w; go_simp; try (with_reducible rfl))
      refine wpAny_ready (rs := [6, 10]) (by kernel_rfl) (by simp) ?_
      refine AllReady.cons rfl (fun K hK => ?_) ?_
      · (try rw [if_pos (by kernel_rfl)])
        go_simp
        refine (f133_n _ (l.drop k) _ _ _ HK4.out (by omega) HC4.out ?_).mono ?_; (first | exact hx1 | exact hx1.alloc _); rintro e w' ⟨rfl, rfl⟩; rw [Hi.out]
        refine hK _ _ ?_
        clear hK K
        refine wpAny_ready (rs := [10]) (by kernel_rfl) (by simp) ?_
        refine AllReady.cons rfl (fun K hK => ?_) ?_
        rotate_left 1
        · exact AllReady.nil
        go_simp
        refine hK _ _ ?_
        clear hK K
        refine wpAny_ready (rs := [11]) (by kernel_rfl) (by simp) ?_
        refine AllReady.cons rfl (fun K hK => ?_) ?_
        rotate_left 1
        · exact AllReady.nil
        go_simp
        refine (f41_any _ [l.take k] _ _ (by simp) ?_).mono ?_; exact hL1; rintro e w1 ⟨rfl, hext1⟩; simp only [List.flatten_cons, List.flatten_nil, List.append_nil]
        refine hK _ _ ?_
        clear hK K
        refine wpAny_take (i := 12) (v := ?_) rfl (by kernel_rfl) (by kernel_rfl) (by kernel_rfl) (fun _ _ _ h => h) (Or.inl ⟨by kernel_rfl, ?_⟩) ?_
        rotate_left 1
        · (intro w; go_simp; try (with_reducible rfl))
        refine wpAny_take (i := 13) (v := ?_) rfl (by kernel_rfl) (by kernel_rfl) (by kernel_rfl) (fun _ _ _ h => h) (Or.inl ⟨by kernel_rfl, ?_⟩) ?_
        rotate_left 1
        · (intro w; go_simp; try (with_reducible rfl))
        refine wpAny_take (i := 14) (v := ?_) rfl (by kernel_rfl) (by kernel_rfl) (by kernel_rfl) (fun _ _ _ h => h) (Or.inl ⟨by kernel_rfl, ?_⟩) ?_
        rotate_left 1
        · (intro w; go_simp; try (with_reducible rfl))
        refine wpAny_done (by kernel_rfl) ?_ _
        go_wp2_with (go_at_call 84; refine (f134_n _ (l.take k) _ _ _ Hlt2.out (by omega) (by omega) (hx2.ext (((Ext.refl w).alloc _).drew.trans hext1))).mono ?_; rintro e w2 ⟨v, rfl, hown, hext2⟩); go_ret2; exact ⟨_, rfl, hown.mono (((Ext.refl w).alloc _).drew.trans hext1).size, (((Ext.refl w).alloc _).drew.trans hext1).trans hext2⟩
      refine AllReady.cons rfl (fun K hK => ?_) ?_
      · (try rw [if_pos (by kernel_rfl)])
        go_simp
        refine hK _ _ ?_
        clear hK K
        refine wpAny_ready (rs := [6]) (by kernel_rfl) (by simp) ?_
        refine AllReady.cons rfl (fun K hK => ?_) ?_
        rotate_left 1
        · exact AllReady.nil
        go_simp
        refine (f133_n _ (l.drop k) _ _ _ HK4.out (by omega) HC4.out ?_).mono ?_; (first | exact hx1 | exact hx1.alloc _); rintro e w' ⟨rfl, rfl⟩; rw [Hi.out]
        refine hK _ _ ?_
        clear hK K
        refine wpAny_ready (rs := [11]) (by kernel_rfl) (by simp) ?_
        refine AllReady.cons rfl (fun K hK => ?_) ?_
        rotate_left 1
        · exact AllReady.nil
        go_simp
        refine (f41_any _ [l.take k] _ _ (by simp) ?_).mono ?_; exact hL1; rintro e w1 ⟨rfl, hext1⟩; simp only [List.flatten_cons, List.flatten_nil, List.append_nil]
        refine hK _ _ ?_
        clear hK K
        refine wpAny_take (i := 12) (v := ?_) rfl (by kernel_rfl) (by kernel_rfl) (by kernel_rfl) (fun _ _ _ h => h) (Or.inl ⟨by kernel_rfl, ?_⟩) ?_
        rotate_left 1
        · (intro w; go_simp; try (with_reducible rfl))
        refine wpAny_take (i := 13) (v := ?_) rfl (by kernel_rfl) (by kernel_rfl) (by kernel_rfl) (fun _ _ _ h => h) (Or.inl ⟨by kernel_rfl, ?_⟩) ?_
        rotate_left 1
        · (intro w; go_simp; try (with_reducible rfl))
        refine wpAny_take (i := 14) (v := ?_) rfl (by kernel_rfl) (by kernel_rfl) (by kernel_rfl) (fun _ _ _ h => h) (Or.inl ⟨by kernel_rfl, ?_⟩) ?_
        rotate_left 1
        · (intro w; go_simp; try (with_reducible rfl))
        refine wpAny_done (by kernel_rfl) ?_ _
        go_wp2_with (go_at_call 84; refine (f134_n _ (l.take k) _ _ _ Hlt2.out (by omega) (by omega) (hx2.ext (((Ext.refl w).alloc _).drew.trans hext1))).mono ?_; rintro e w2 ⟨v, rfl, hown, hext2⟩); go_ret2; exact ⟨_, rfl, hown.mono (((Ext.refl w).alloc _).drew.trans hext1).size, (((Ext.refl w).alloc _).drew.trans hext1).trans hext2⟩
      exact AllReady.nil
    · rw [hSeal, hOp, hSeal, decide_eq_false hv, if_neg (by simp)]
      have hvb : (((Mb.get4 (l.drop k) : Nat) : Int) != ((Mb.crcSum (l.take k) : Nat) : Int)) = true := by
        rw [bne_iff_ne]
        omega
      clear hv hSeal hOp hk hn
      go_enter Try.func81, Try.ntmps81
      go_wp2_with fail
      refine wp_region_any (by kernel_rfl) ?_
      change wpAny _ _ _ _ _ _ _ (World.drew _)
      refine wpAny_take (i := 0) (v := ?_) rfl (by kernel_rfl) (by kernel_rfl) (by kernel_rfl) (fun _ _ _ h => h) (Or.inl ⟨by kernel_rfl, ?_⟩) ?_
      rotate_left 1
      · (intro w; go_simp; try (with_reducible rfl))
      refine wpAny_take (i := 1) (v := ?_) rfl (by kernel_rfl) (by kernel_rfl) (by kernel_rfl) (fun _ _ _ h => h) (Or.inl ⟨by kernel_rfl, ?_⟩) ?_
      rotate_left 1
      · (intro w; go_simp; try (with_reducible rfl))
      refine wpAny_take (i := 2) (v := ?_) rfl (by kernel_rfl) (by kernel_rfl) (by kernel_rfl) (fun _ _ _ h => h) (Or.inl ⟨by kernel_rfl, ?_⟩) ?_
      rotate_left 1
      · (intro w; go_simp; try (with_reducible rfl))
      refine wpAny_take (i := 3) (v := ?_) rfl (by kernel_rfl) (by kernel_rfl) (by kernel_rfl) (fun _ _ _ h => h) (Or.inl ⟨by kernel_rfl, ?_⟩) ?_
      rotate_left 1
      · (intro w; go_simp; try (with_reducible rfl))
      refine wpAny_take (i := 4) (v := ?_) rfl (by kernel_rfl) (by kernel_rfl) (by kernel_rfl) (fun _ _ _ h => h) (Or.inl ⟨by kernel_rfl, ?_⟩) ?_
      rotate_left 1
      · (intro w; go_simp; try (with_reducible rfl))
      refine wpAny_take (i := 5) (v := ?_) rfl (by kernel_rfl) (by kernel_rfl) (by kernel_rfl) (fun _ _ _ h => h) (Or.inl ⟨by kernel_rfl, ?_⟩) ?_
      rotate_left 1
      · (intro w; go_simp; try (with_reducible rfl))
      refine wpAny_take (i := 7) (v := ?_) rfl (by kernel_rfl) (by kernel_rfl) (by kernel_rfl) (fun _ _ _ h => h) (Or.inl ⟨by kernel_rfl, ?_⟩) ?_
      rotate_left 1
      · (intro w; go_simp; try (with_reducible rfl))
      refine wpAny_take (i := 8) (v := ?_) rfl (by kernel_rfl) (by kernel_rfl) (by kernel_rfl) (fun _ _ _ h => h) (Or.inl ⟨by kernel_rfl, ?_⟩) ?_
      rotate_left 1
      · (intro w; go_simp; try (with_reducible rfl))
      refine wpAny_take (i := 9) (v := ?_) rfl (by kernel_rfl) (by kernel_rfl) (by kernel_rfl) (fun _ _ _ h => h) (Or.inl ⟨by kernel_rfl, ?_⟩) ?_
      rotate_left 1
      · (intro w; go_simp; try (with_reducible rfl))
      refine wpAny_ready (rs := [6, 10]) (by kernel_rfl) (by simp) ?_
      refine AllReady.cons rfl (fun K hK => ?_) ?_
      · (try rw [if_pos (by kernel_rfl)])
        go_simp
        refine (f133_n _ (l.drop k) _ _ _ HK4.out (by omega) HC4.out ?_).mono ?_; (first | exact hx1 | exact hx1.alloc _); rintro e w' ⟨rfl, rfl⟩; rw [Hi.out]
        refine hK _ _ ?_
        clear hK K
        refine wpAny_ready (rs := [10]) (by kernel_rfl) (by simp) ?_
        refine AllReady.cons rfl (fun K hK => ?_) ?_
        rotate_left 1
        · exact AllReady.nil
        go_simp
        refine hK _ _ ?_
        clear hK K
        refine wpAny_ready (rs := [11]) (by kernel_rfl) (by simp) ?_
        refine AllReady.cons rfl (fun K hK => ?_) ?_
        rotate_left 1
        · exact AllReady.nil
        go_simp
        refine (f41_any _ [l.take k] _ _ (by simp) ?_).mono ?_; exact hL1; rintro e w1 ⟨rfl, hext1⟩; simp only [List.flatten_cons, List.flatten_nil, List.append_nil]
        refine hK _ _ ?_
        clear hK K
        refine wpAny_take (i := 12) (v := ?_) rfl (by kernel_rfl) (by kernel_rfl) (by kernel_rfl) (fun _ _ _ h => h) (Or.inl ⟨by kernel_rfl, ?_⟩) ?_
        rotate_left 1
        · (intro w; go_simp; try (with_reducible rfl))
        refine wpAny_take (i := 13) (v := ?_) rfl (by kernel_rfl) (by kernel_rfl) (by kernel_rfl) (fun _ _ _ h => h) (Or.inl ⟨by kernel_rfl, ?_⟩) ?_
        rotate_left 1
        · (intro w; go_simp; try (with_reducible rfl))
        refine wpAny_take (i := 14) (v := ?_) rfl (by kernel_rfl) (by kernel_rfl) (by kernel_rfl) (fun _ _ _ h => h) (Or.inl ⟨by kernel_rfl, ?_⟩) ?_
        rotate_left 1
        · (intro w; go_simp; try (with_reducible rfl))
        refine wpAny_done (by kernel_rfl) ?_ _
        go_wp2; go_ret2; exact ⟨_, rfl, Own.nil _ _ _, ((Ext.refl w).alloc _).drew.trans hext1⟩
      refine AllReady.cons rfl (fun K hK => ?_) ?_
      · (try rw [if_pos (by kernel_rfl)])
        go_simp
        refine hK _ _ ?_
        clear hK K
        refine wpAny_ready (rs := [6]) (by kernel_rfl) (by simp) ?_
        refine AllReady.cons rfl (fun K hK => ?_) ?_
        rotate_left 1
        · exact AllReady.nil
        go_simp
        refine (f133_n _ (l.drop k) _ _ _ HK4.out (by omega) HC4.out ?_).mono ?_; (first | exact hx1 | exact hx1.alloc _); rintro e w' ⟨rfl, rfl⟩; rw [Hi.out]
        refine hK _ _ ?_
        clear hK K
        refine wpAny_ready (rs := [11]) (by kernel_rfl) (by simp) ?_
        refine AllReady.cons rfl (fun K hK => ?_) ?_
        rotate_left 1
        · exact AllReady.nil
        go_simp
        refine (f41_any _ [l.take k] _ _ (by simp) ?_).mono ?_; exact hL1; rintro e w1 ⟨rfl, hext1⟩; simp only [List.flatten_cons, List.flatten_nil, List.append_nil]
        refine hK _ _ ?_
        clear hK K
        refine wpAny_take (i := 12) (v := ?_) rfl (by kernel_rfl) (by kernel_rfl) (by kernel_rfl) (fun _ _ _ h => h) (Or.inl ⟨by kernel_rfl, ?_⟩) ?_
        rotate_left 1
        · (intro w; go_simp; try (with_reducible rfl))
        refine wpAny_take (i := 13) (v := ?_) rfl (by kernel_rfl) (by kernel_rfl) (by kernel_rfl) (fun _ _ _ h => h) (Or.inl ⟨by kernel_rfl, ?_⟩) ?_
        rotate_left 1
        · (intro w; go_simp; try (with_reducible rfl))
        refine wpAny_take (i := 14) (v := ?_) rfl (by kernel_rfl) (by kernel_rfl) (by kernel_rfl) (fun _ _ _ h => h) (Or.inl ⟨by kernel_rfl, ?_⟩) ?_
        rotate_left 1
        · (intro w; go_simp; try (with_reducible rfl))
        refine wpAny_done (by kernel_rfl) ?_ _
        go_wp2; go_ret2; exact ⟨_, rfl, Own.nil _ _ _, ((Ext.refl w).alloc _).drew.trans hext1⟩
      exact AllReady.nil
  · have hs : Mb.isSealed l = false := by
      unfold Mb.isSealed
      rw [decide_eq_false (by omega : ¬ 4 ≤ l.length), Bool.false_and]
    have ho : opened l = [] := by unfold opened; rw [hs]; rfl
    rw [hs, ho]
    have hlt : (n : Int) < 4 := by omega
    have hd : decide ((n : Int) - 4 < 0) = true := by simp; omega
    have hd2 : (n : Int) - 4 < 0 := by omega
    clear hs ho h4 hn
    go_enter Try.func81, Try.ntmps81
    go_wp2_with fail
    go_quiet (fail)
    go_wp2
    go_ret2
    exact ⟨_, rfl, Own.nil _ _ _, (Ext.refl w).drewN _⟩
end Go.Proofs.Ytgpnmmgoachajaa
/- Superblocks (layer 5): Put. -/
namespace Go.Proofs.Ytgpnmmgoachajaa
open Go.RowKit
open Go.Proofs

section
variable {W0 w : World} {ops : Array Oper} {rest : List Oper} {o : Oper} {a : Act} {Q : Exit → Act → World → Prop}
theorem wpList_up_zeros (hgd : o.guard = none) (s x : Operand)
    (ho : o.op = .call { callee := .builtin .append, args := #[s, x], argTypes := #[22, 3] })
    (v : Value) (l : List UInt8) (hs : a.eval s = v) (hm : Up W0 w v l) (hX : Ext W0 w) (k : Nat) (hxv : a.eval x = .int .i64 k) (hlen : l.length + k ≤ 4294967296)
    (h : ∀ v' w', Up W0 w' v' (l ++ List.replicate k 0) → Ext W0 w' → wpList Try.prog ops Q rest (a.put o.dst v') w') : wpList Try.prog ops Q (o :: rest) a w :=
  wpList_append_zeros hgd s x ho v l hs hm.1 k hxv hlen fun v' w' h2 h3 h4 => have := hm.next hX h2 h3 h4; h v' w' this.1 this.2
end

/-- Appending onto a row that has no room. -/
theorem wpList_up_full {W0 w : World} {ops : Array Oper} {rest : List Oper} {o : Oper} {a : Act} {Q : Exit → Act → World → Prop} (hgd : o.guard = none) (s x : Operand)
    (ho : o.op = .call { callee := .builtin .append, args := #[s, x], argTypes := #[22, 22] })
    (g n : Nat) (l : List UInt8) (hs : a.eval s = .slice (some ⟨g, 0, none⟩) n n) (hn : l.length = n) (hm : ∀ (j : Nat) u, (octs l)[j]? = some u → w.cell? ⟨g, j, none⟩ = some u) (hX : Ext W0 w)
    (A : Option Addr) (m c : Nat) (l2 : List UInt8) (hxv : a.eval x = .slice A m c) (hm' : l2.length = m) (h0 : 0 < m) (hx : Octs w A l2) (hlen : l.length + l2.length ≤ 4294967296)
    (h : ∀ v' w', Up W0 w' v' (l ++ l2) → Ext W0 w' → wpList Try.prog ops Q rest (a.put o.dst v') w') : wpList Try.prog ops Q (o :: rest) a w := by
  subst hn
  subst hm'
  obtain ⟨i0, hi, hz, hs1, hb⟩ := info_parts info5
  obtain ⟨b, off, rfl, _⟩ := hx (by rw [length_octs]; exact h0)
  have hnew := Cells.news hx rfl (by rw [length_octs]; exact h0)
  have hr := run_append_grow (P := Try.prog) w 22 o.type 5 i0 (.int .u8 0) Try.underlying22 hi hz ⟨g, 0, none⟩ l.length l.length (octs l) (by rw [hs1, Nat.mul_one, length_octs]) (fun j u hu => by rw [Addr.add_lit, Nat.zero_add]; exact hm j u hu) ⟨b, off, none⟩ l2.length c (octs l2) (by rw [hs1, Nat.mul_one, length_octs]) hnew (by omega) (by omega)
      (growslice_fits (by omega) (by rw [hb]; omega))
  have hge := grownCap_ge w (l.length + l2.length) l.length 5
  have hle := grownCap_le_maxLen w (l.length + l2.length) l.length 5 (by simp only [maxLen]; omega)
  refine wpList_append_run hgd s x _ _ ho _ _ _ _ hs hxv hr (h _ _ ⟨Mine.new w.drew 5 _ _ _ _ (by rw [length_octs, List.length_append]) hge ?_ hle ?_, fun k e => ?_⟩ (hX.drew.alloc _))
  · simp only [Array.size_append, List.size_toArray, length_octs, size_zeroCells]
    simp only [Value.cells, List.size_toArray, List.length_cons, List.length_nil]
    omega
  · intro j u hu
    rw [octs_append] at hu
    rw [Array.getElem?_append_left (by simpa using (List.getElem?_eq_some_iff.1 hu).1)]
    simpa using hu
  · cases e
    exact hX.size

/-- The first j of the seven numbers. -/
def midTo (s : Sup) (j : Nat) : List UInt8 := (((supNums s).take j).map fun n => leN 4 (u64of n)).flatten
theorem midTo_succ (s : Sup) (j : Nat) (n : Int) (h : (supNums s)[j]? = some n) : midTo s (j + 1) = midTo s j ++ leN 4 (u64of n) := by
  obtain ⟨h1, h2⟩ := List.getElem?_eq_some_iff.1 h
  rw [midTo, midTo, List.take_succ_eq_append_getElem h1, List.map_append, List.flatten_append, h2]
  simp
theorem midTo_len (s : Sup) (j : Nat) : (midTo s j).length ≤ 28 := by
  have : ∀ l : List Int, ((l.map fun n => leN 4 (u64of n)).flatten).length = 4 * l.length := by
    intro l
    induction l with
    | nil => rfl
    | cons a l ih => simp only [List.map_cons, List.flatten_cons, List.length_append, length_leN, ih, List.length_cons]; omega
  rw [midTo, this, List.length_take]
  simp only [supNums, List.length_cons, List.length_nil]
  omega
theorem wid4 : wid 4 = 4 := by decide
theorem wid8 : wid 8 = 8 := by decide
theorem midTo_all (s : Sup) : midTo s 7 = supMid s := rfl
theorem moth40 (s : Sup) : ([77, 79, 84, 72] ++ ([] ++ leN 8 (u64of s.gen) ++ midTo s 7) : List UInt8).length = 40 := by
  rw [midTo_all]
  simp only [List.length_append, length_leN, length_supMid, List.length_nil, List.length_cons]
theorem moth0 (s : Sup) : 0 < ([] ++ leN 8 (u64of s.gen) ++ midTo s 7 : List UInt8).length := by
  simp only [List.length_append, length_leN]
  omega
theorem moth4 (s : Sup) : ([77, 79, 84, 72] : List UInt8).length + ([] ++ leN 8 (u64of s.gen) ++ midTo s 7 : List UInt8).length ≤ 4294967296 := by
  rw [midTo_all]
  simp only [List.length_append, length_leN, length_supMid, List.length_nil, List.length_cons]
  omega
theorem moth124 (s : Sup) (L : List UInt8) (h : L.length = 116) : (L ++ ([] ++ leN (wid 8) (u64of s.gen))).length = 124 := by
  rw [wid8]
  simp only [List.length_append, length_leN, List.length_nil]
  omega
theorem supPut_of (s : Sup) : Mb.seal_ ([77, 79, 84, 72] ++ ([] ++ leN 8 (u64of s.gen) ++ midTo s 7) ++ List.replicate 76 0 ++ ([] ++ leN 8 (u64of s.gen))) = supPut s := by
  rw [supPut, supBody, midTo_all, zer]
  simp only [List.nil_append, List.append_assoc]

end Go.Proofs.Ytgpnmmgoachajaa
/- Layer 4's reading: a zigzag is taken off. -/
namespace Go.Proofs.Ytgpnmmgoachajaa
open Go.RowKit
open Go.Proofs
open Go.Shelf

theorem octs_at (l : List UInt8) (k : Nat) (h : k < l.length) : (octs l)[k]? = some (oct l[k]!) := by simp [octs, h]
theorem octs_cell {w : World} {b o : Nat} {l : List UInt8} (h : ∀ (j : Nat) u, (octs l)[j]? = some u → w.cell? ⟨b, o + j, none⟩ = some u) : ∀ j, j < l.length → w.cell? ⟨b, o + j, none⟩ = some (oct l[j]!) :=
  fun j hj => h j _ (octs_at l j hj)
def isLow (c : UInt8) : Bool := decide (c.toNat < 128)

theorem idxBy_first : ∀ (l : List UInt8) (i : Nat) (d : UInt8), Lib.idxByFrom (fun _ y => isLow y) d l i = match firstLow l with | some k => ((i + k : Nat) : Int) | none => -1
  | [], i, d => rfl
  | c :: l, i, d => by
    have ih := idxBy_first l (i + 1) d
    unfold firstLow at ih ⊢
    rw [Lib.idxByFrom, List.findIdx?_cons]
    unfold isLow at ih ⊢
    by_cases h : c.toNat < 128
    · rw [decide_eq_true h]; rfl
    · rw [decide_eq_false h]
      simp only [Bool.false_eq_true, if_false]
      rw [ih]
      cases List.findIdx? (fun c => decide (c.toNat < 128)) l with
      | none => rfl
      | some k => simp only [Option.map_some]; congr 1; omega

theorem octs_inj {l m : List UInt8} (h : octs l = octs m) : l = m := by
  unfold octs at h
  refine List.map_inj_right (fun x y e => ?_) |>.1 h
  unfold oct at e
  injection e with _ e
  exact UInt8.toNat_inj.1 (by omega)
theorem allEq_octs : ∀ (l m : List UInt8), Lib.allEq (fun x y : UInt8 => x == y) l m = decide (l = m)
  | [], [] => by simp [Lib.allEq]
  | [], y :: m => by simp [Lib.allEq]
  | x :: l, [] => by simp [Lib.allEq]
  | x :: l, y :: m => by
    have := allEq_octs l m
    simp only [Lib.allEq, List.cons.injEq]
    by_cases h : x = y
    · subst h; simp [this]
    · simp [h]
theorem neq_oct : NeqAt Try.prog 5 oct (fun x y => x == y) := by
  refine ⟨fun x y w => ?_, fun op a b x y w => ?_⟩
  · have := (NeqAt.int Try.prog 5 .u8).1 (x.toNat : Int) (y.toNat : Int) w
    rw [oct, oct, this]
    congr 2
    by_cases h : x = y
    · subst h; simp
    · have h2 : ¬ (x.toNat : Int) = (y.toNat : Int) := fun e => h (UInt8.toNat_inj.1 (by omega))
      show (!((x.toNat : Int) == (y.toNat : Int))) = !(x == y)
      rw [beq_eq_false_iff_ne.2 h2, beq_eq_false_iff_ne.2 h]
  · exact (NeqAt.int Try.prog 5 .u8).2 op a b _ _ w
theorem equal_octs (A B : Option Addr) (l m : List UInt8) (c d : Nat) (w : World) (hl : 0 < l.length) (hm : 0 < m.length) (hbl : l.length ≤ 9223372036854775807) (hbm : m.length ≤ 9223372036854775807) (hx : Octs w A l) (hy : Octs w B m) :
    Calls Try.prog 72 #[.slice A l.length c, .slice B m.length d] w fun e w' => e = .returned (.bool (decide (l = m))) ∧ ∃ q, w' = w.drewN q := by
  obtain ⟨b, o, rfl, hc⟩ := hx (by simpa using hl)
  obtain ⟨b2, o2, rfl, hc2⟩ := hy (by simpa using hm)
  have h := AnyE.slices_Equal lays72 oct (fun x y => x == y) neq_oct b o l.length c b2 o2 m.length d l m w (Nat.le_refl _) (Nat.le_refl _) hbl hbm (octs_cell hc) (octs_cell hc2)
  rw [List.take_length, List.take_length, allEq_octs] at h
  exact h
end Go.Proofs.Ytgpnmmgoachajaa
/- Superblocks (layer 5): Get. -/
namespace Go.Proofs.Ytgpnmmgoachajaa
open Go.RowKit
open Go.Proofs

/-- A reading that was made since W0, that did not fail. -/
def RdX (W0 w : World) (k : Nat) (B : List UInt8) : Prop := ∃ F : Nat → Prop, (∀ b, F b → W0.heap.size ≤ b) ∧ RdAt w k F B false
theorem rd_new {W0 w : World} (hX : Ext W0 w) (A : Option Addr) (l : List UInt8) (n c : Nat) (hn : l.length = n) (h0 : 0 < n) (hl : n ≤ 4294967296) (hx : Octs w A l) :
    Calls Try.prog 82 #[.slice A n c] w fun e w' => ∃ k, e = .returned (.pointer (some ⟨k, 0, none⟩)) ∧ RdX W0 w' k l ∧ Ext w w' := by
  obtain ⟨b, o, rfl, _⟩ := hx (by rw [length_octs, hn]; exact h0)
  refine (f25_any _ l n c w hn hl (fun h => by cases h) (fun a h => by cases h; exact ⟨_, _, rfl⟩) hx).mono ?_
  rintro e w1 ⟨k, rfl, h1, h2⟩
  exact ⟨k, rfl, ⟨_, fun b hb => Nat.le_trans hX.size hb.1, h1⟩, h2⟩
theorem rTake_in (n : Nat) (B : List UInt8) (h : n ≤ B.length) : rTake (n : Int) B false = (B.take n, B.drop n, false) := by
  unfold rTake
  rw [if_neg (by simp; omega)]
  rfl
/-- A number is taken off, where one stands. -/
theorem rd_num {W0 w : World} {k : Nat} (l : List UInt8) (i n j : Nat) (hj : i + n = j) (hn : n ≤ 8) (hl : l.length = 128) (h124 : j ≤ 124) (hX : Ext W0 w) (h : RdX W0 w k ((l.take 124).drop i)) :
    Calls Try.prog 83 #[.pointer (some ⟨k, 0, none⟩), .int .i64 (n : Int)] w fun e w' => e = .returned (.int .i64 (numAt l i n)) ∧ RdX W0 w' k ((l.take 124).drop j) ∧ Ext W0 w' := by
  subst hj
  obtain ⟨F, h1, h2⟩ := h
  have hw : wid (n : Int) = n := by unfold wid; omega
  have hlen : n ≤ ((l.take 124).drop i).length := by rw [List.length_drop, List.length_take]; omega
  have h5 := f35_any k F ((l.take 124).drop i) false n w h2
  rw [hw, rTake_in n _ hlen] at h5
  refine h5.mono ?_
  rintro e w1 ⟨rfl, h6, h7⟩
  refine ⟨ret_int ?_, ⟨F, h1, by rw [← List.drop_drop]; exact h6⟩, h7.to_ext hX fun b hb => ?_⟩
  · rw [rNum, hw, rTake_in n _ hlen, numAt]
    congr 2
    show ((l.take 124).drop i).take n = (l.drop i).take n
    rw [List.drop_take, List.take_take, Nat.min_eq_left (by omega)]
  · rw [hb]
    obtain ⟨_, _, h8⟩ := h2
    exact h1 k h8.mem

def sup0 : Sup := ⟨0, 0, 0, 0, 0, 0, 0, 0⟩
theorem get_unsealed (l : List UInt8) (h : Mb.isSealed l = false) : supGet l = none := by
  cases hg : supGet l with
  | none => rfl
  | some s =>
    obtain ⟨_, h2, _⟩ := get_some hg
    rw [← h2, supPut, Mb.isSealed_seal] at h
    cases h
theorem get_short (l : List UInt8) (h : l.length ≠ 128) : supGet l = none := by
  unfold supGet
  rw [if_neg (fun e => h e.1)]
theorem opened_some (l : List UInt8) (h : Mb.isSealed l = true) : opened l = l.take (l.length - 4) := by
  rw [opened, if_pos h]
theorem sealed_four (l : List UInt8) (h : Mb.isSealed l = true) : 4 ≤ l.length := ((Mb.isSealed_iff l).1 h).1
theorem opened_124 (l : List UInt8) (h : Mb.isSealed l = true) : (opened l).length = l.length - 4 := by
  rw [opened_some l h, List.length_take]; omega

/-- A superblock is laid into a variable. -/
def setSup (w : World) (p : Nat) (s : Sup) : World :=
  (((((((w.setCell ⟨p, 0, none⟩ (.int .i64 s.gen)).setCell ⟨p, 1, none⟩ (.int .i64 s.journal)).setCell ⟨p, 2, none⟩ (.int .i64 s.area)).setCell ⟨p, 3, none⟩ (.int .i64 s.which)).setCell ⟨p, 4, none⟩ (.int .i64 s.len)).setCell ⟨p, 5, none⟩ (.int .u32 (s.sum : Int))).setCell ⟨p, 6, none⟩ (.int .i64 s.epoch)).setCell ⟨p, 7, none⟩ (.int .i64 s.start)
theorem setSup_ext {w w1 : World} (h : Ext w w1) {p : Nat} (hp : w.heap.size ≤ p) (s : Sup) : Ext w (setSup w1 p s) :=
  (((((((h.setCell (p := ⟨p, 0, none⟩) hp _).setCell (p := ⟨p, 1, none⟩) hp _).setCell (p := ⟨p, 2, none⟩) hp _).setCell (p := ⟨p, 3, none⟩) hp _).setCell (p := ⟨p, 4, none⟩) hp _).setCell (p := ⟨p, 5, none⟩) hp _).setCell (p := ⟨p, 6, none⟩) hp _).setCell (p := ⟨p, 7, none⟩) hp _
theorem setSup_keep {w : World} {p g : Nat} (h : g ≠ p) (s : Sup) : (setSup w p s).heap[g]? = w.heap[g]? := by
  have u : Upd (fun b => b = p) w (setSup w p s) := (((((((((Upd.refl (fun b => b = p) w).setCell (p := ⟨p, 0, none⟩) (.inl rfl) _).setCell (p := ⟨p, 1, none⟩) (.inl rfl) _).setCell (p := ⟨p, 2, none⟩) (.inl rfl) _).setCell (p := ⟨p, 3, none⟩) (.inl rfl) _).setCell (p := ⟨p, 4, none⟩) (.inl rfl) _).setCell (p := ⟨p, 5, none⟩) (.inl rfl) _).setCell (p := ⟨p, 6, none⟩) (.inl rfl) _).setCell (p := ⟨p, 7, none⟩) (.inl rfl) _)
  rcases Nat.lt_or_ge g w.heap.size with hg | hg
  · exact u.block g hg h
  · rw [Array.getElem?_eq_none hg, Array.getElem?_eq_none (by simpa [setSup] using hg)]
end Go.Proofs.Ytgpnmmgoachajaa
/- The parts of layer 6: their octets; which are right; record.Put. -/
namespace Go.Proofs.Ytgpnmmgoachajaa
open Go.RowKit
open Go.Proofs

structure Prt where
  foot : Bool
  epoch : Int
  number : Int
  index : Int
  data : List UInt8
deriving DecidableEq
def prtRight (p : Prt) : Prop := 1 ≤ p.epoch ∧ p.epoch ≤ 2147483648 ∧ 0 ≤ p.number ∧ p.number ≤ 2147483648 ∧ 0 ≤ p.index ∧ p.index ≤ 65535 ∧ p.data.length ≤ 112
instance (p : Prt) : Decidable (prtRight p) := by unfold prtRight; infer_instance
def sgnOf (foot : Bool) : Int := if foot then 70 else 80
/-- The twelve octets ahead of the data. -/
def prtHead (p : Prt) : List UInt8 := [] ++ leN 1 (u64of (sgnOf p.foot)) ++ leN 4 (u64of p.epoch) ++ leN 4 (u64of p.number) ++ leN 2 (u64of p.index) ++ leN 1 (u64of (p.data.length : Int))
theorem length_prtHead (p : Prt) : (prtHead p).length = 12 := by simp only [prtHead, List.length_append, length_leN, List.length_nil]
def prtBody (p : Prt) : List UInt8 := prtHead p ++ p.data ++ zer (112 - p.data.length)
theorem length_prtBody (p : Prt) (h : prtRight p) : (prtBody p).length = 124 := by
  have := h.2.2.2.2.2.2
  rw [prtBody, List.length_append, List.length_append, length_prtHead, length_zer]
  omega
def prtPut (p : Prt) : List UInt8 := Mb.seal_ (prtBody p)
theorem length_prtPut (p : Prt) (h : prtRight p) : (prtPut p).length = 128 := by rw [prtPut, Mb.seal_length, length_prtBody p h]
/-- A part as a value, its data at an address. -/
abbrev prtCells (p : Prt) (A : Option Addr) (n c : Nat) : Array Value := #[.bool p.foot, .int .i64 p.epoch, .int .i64 p.number, .int .i64 p.index, .slice A n c]
abbrev prtV (p : Prt) (A : Option Addr) (n c : Nat) : Value := .agg (prtCells p A n c)
theorem prt_cells {w : World} {q : Nat} {p : Prt} {A : Option Addr} {n c : Nat} (hb : w.heap[q]? = some (.cells (prtCells p A n c) 117 (0, 0))) :
    w.cell? ⟨q, 0, none⟩ = some (.bool p.foot) ∧ w.cell? ⟨q, 1, none⟩ = some (.int .i64 p.epoch) ∧ w.cell? ⟨q, 2, none⟩ = some (.int .i64 p.number) ∧ w.cell? ⟨q, 3, none⟩ = some (.int .i64 p.index) ∧ w.cell? ⟨q, 4, none⟩ = some (.slice A n c) ∧
    ∀ j, w.frozen? ⟨q, j, none⟩ = false := by
  refine ⟨?_, ?_, ?_, ?_, ?_, fun j => frozen_of_row w q j _ _ hb⟩ <;> (rw [cell_of_row w q _ _ _ _ hb]; rfl)

set_option maxRecDepth 100000 in
theorem f38_sgn (b : Bool) (w : World) : Calls Try.prog 77 #[.bool b] w fun e w' => e = .returned (.int .i64 (sgnOf b)) ∧ w = w' := by
  cases b
  all_goals
    go_enter Try.func77, Try.ntmps77
    go_wp2
    go_ret
    exact ⟨rfl, rfl⟩

theorem wid1 : wid 1 = 1 := by decide
theorem wid2 : wid 2 = 2 := by decide

set_option maxRecDepth 100000 in
set_option maxHeartbeats 2000000 in
theorem f13_right (p : Prt) (A : Option Addr) (n c : Nat) (w : World) (hn : p.data.length = n) (hr : prtRight p) (hx : Octs w A p.data) :
    Calls Try.prog 67 #[prtV p A n c] w fun e w' => ∃ v, e = .returned (.tuple #[v, .int .i64 0]) ∧ Own w' w.heap.size 5 v (octs (prtPut p)) ∧ Ext w w' := by
  have hn112 : n ≤ 112 := by have := hr.2.2.2.2.2.2; omega
  have hle := length_prtBody p hr
  have HN := Lib.hid hn
  have HLE := Lib.hid hle
  have H112 := Lib.hid hn112
  obtain ⟨r1, r2, r3, r4, r5, r6, r7⟩ := hr
  have g1 : (p.epoch < 1) = False := eq_false (by omega)
  have g2 : (2147483648 < p.epoch) = False := eq_false (by omega)
  have g3 : (p.number < 0) = False := eq_false (by omega)
  have g4 : (2147483648 < p.number) = False := eq_false (by omega)
  have g5 : (p.index < 0) = False := eq_false (by omega)
  have g6 : (65535 < p.index) = False := eq_false (by omega)
  have g7 : ((112 : Int) < (n : Int)) = False := eq_false (by omega)
  clear r1 r2 r3 r4 r5 r6 r7 hn hn112 hle
  go_enter Try.func67, Try.ntmps67
  go_wp2_with fail
  have hX1 : Ext w (w.alloc (.cells (prtCells p A n c) 117)) := (Ext.refl w).alloc _
  have hb := heap_alloc_new w (.cells (prtCells p A n c) 117)
  have hx1 := hx.alloc (.cells (prtCells p A n c) 117)
  clear g1 g2 g3 g4 g5 g6 g7 hx
  obtain ⟨q, hq⟩ : ∃ q, w.heap.size = q := ⟨_, rfl⟩
  rw [hq] at hb ⊢
  have HQ := Lib.hid hq
  clear hq
  generalize w.alloc (.cells (prtCells p A n c) 117) = w1 at *
  refine wp_region_held_drew (S := fun w' => Ext w1 w') (by kernel_rfl) ((Ext.refl _).drew) (fun hS => ?_)
  refine takeH (i := 1) (v := ?_) rfl rfl (by kernel_rfl) (by kernel_rfl) (by kernel_rfl) (fun _ _ _ h => h) (Or.inl ⟨by kernel_rfl, ?_⟩) hS ?_
  rotate_left 1
  · (intro w' hS'; go_simp; try (with_reducible rfl))
  simp only [List.setIfInBounds_toArray, List.set_cons_succ, List.set_cons_zero]
  refine takeH (i := 2) (v := ?_) rfl rfl (by kernel_rfl) (by kernel_rfl) (by kernel_rfl) (fun _ _ _ h => h) (Or.inl ⟨by kernel_rfl, ?_⟩) hS ?_
  rotate_left 1
  · (intro w' hS'; obtain ⟨c0, c1, c2, c3, c4, cf⟩ := prt_cells (hS'.heap hb); go_simp; try (with_reducible rfl))
  simp only [List.setIfInBounds_toArray, List.set_cons_succ, List.set_cons_zero]
  refine takeH (i := 5) (v := ?_) rfl rfl (by kernel_rfl) (by kernel_rfl) (by kernel_rfl) (fun _ _ _ h => h) (Or.inl ⟨by kernel_rfl, ?_⟩) hS ?_
  rotate_left 1
  · (intro w' hS'; go_simp; try (with_reducible rfl))
  simp only [List.setIfInBounds_toArray, List.set_cons_succ, List.set_cons_zero]
  refine takeH (i := 6) (v := ?_) rfl rfl (by kernel_rfl) (by kernel_rfl) (by kernel_rfl) (fun _ _ _ h => h) (Or.inl ⟨by kernel_rfl, ?_⟩) hS ?_
  rotate_left 1
  · (intro w' hS'; obtain ⟨c0, c1, c2, c3, c4, cf⟩ := prt_cells (hS'.heap hb); go_simp; try (with_reducible rfl))
  simp only [List.setIfInBounds_toArray, List.set_cons_succ, List.set_cons_zero]
  refine takeH (i := 8) (v := ?_) rfl rfl (by kernel_rfl) (by kernel_rfl) (by kernel_rfl) (fun _ _ _ h => h) (Or.inl ⟨by kernel_rfl, ?_⟩) hS ?_
  rotate_left 1
  · (intro w' hS'; go_simp; try (with_reducible rfl))
  simp only [List.setIfInBounds_toArray, List.set_cons_succ, List.set_cons_zero]
  refine takeH (i := 9) (v := ?_) rfl rfl (by kernel_rfl) (by kernel_rfl) (by kernel_rfl) (fun _ _ _ h => h) (Or.inl ⟨by kernel_rfl, ?_⟩) hS ?_
  rotate_left 1
  · (intro w' hS'; obtain ⟨c0, c1, c2, c3, c4, cf⟩ := prt_cells (hS'.heap hb); go_simp; try (with_reducible rfl))
  simp only [List.setIfInBounds_toArray, List.set_cons_succ, List.set_cons_zero]
  refine takeH (i := 11) (v := ?_) rfl rfl (by kernel_rfl) (by kernel_rfl) (by kernel_rfl) (fun _ _ _ h => h) (Or.inl ⟨by kernel_rfl, ?_⟩) hS ?_
  rotate_left 1
  · (intro w' hS'; go_simp; try (with_reducible rfl))
  simp only [List.setIfInBounds_toArray, List.set_cons_succ, List.set_cons_zero]
  refine takeH (i := 12) (v := ?_) rfl rfl (by kernel_rfl) (by kernel_rfl) (by kernel_rfl) (fun _ _ _ h => h) (Or.inl ⟨by kernel_rfl, ?_⟩) hS ?_
  rotate_left 1
  · (intro w' hS'; obtain ⟨c0, c1, c2, c3, c4, cf⟩ := prt_cells (hS'.heap hb); go_simp; try (with_reducible rfl))
  simp only [List.setIfInBounds_toArray, List.set_cons_succ, List.set_cons_zero]
  refine takeH (i := 14) (v := ?_) rfl rfl (by kernel_rfl) (by kernel_rfl) (by kernel_rfl) (fun _ _ _ h => h) (Or.inl ⟨by kernel_rfl, ?_⟩) hS ?_
  rotate_left 1
  · (intro w' hS'; go_simp; try (with_reducible rfl))
  simp only [List.setIfInBounds_toArray, List.set_cons_succ, List.set_cons_zero]
  refine takeH (i := 15) (v := ?_) rfl rfl (by kernel_rfl) (by kernel_rfl) (by kernel_rfl) (fun _ _ _ h => h) (Or.inl ⟨by kernel_rfl, ?_⟩) hS ?_
  rotate_left 1
  · (intro w' hS'; obtain ⟨c0, c1, c2, c3, c4, cf⟩ := prt_cells (hS'.heap hb); go_simp; try (with_reducible rfl))
  simp only [List.setIfInBounds_toArray, List.set_cons_succ, List.set_cons_zero]
  refine takeH (i := 16) (v := ?_) rfl rfl (by kernel_rfl) (by kernel_rfl) (by kernel_rfl) (fun _ _ _ h => h) (Or.inl ⟨by kernel_rfl, ?_⟩) hS ?_
  rotate_left 1
  · (intro w' hS'; go_simp; try (with_reducible rfl))
  simp only [List.setIfInBounds_toArray, List.set_cons_succ, List.set_cons_zero]
  refine wpAnyH_ready (rs := [0]) (by kernel_rfl) (by simp) ?_
  refine AllReadyH.cons rfl (fun K hK => ?_) ?_
  rotate_left 1
  · exact AllReadyH.nil
  go_simp
  refine (wr_new hS).mono ?_; rintro e wa ⟨kk, rfl, t0, x0⟩
  refine hK.out _ _ (hS.trans x0) (fun hS => ?_)
  clear hK K
  refine wpAnyH_ready (rs := [3]) (by kernel_rfl) (by simp) ?_
  refine AllReadyH.cons rfl (fun K hK => ?_) ?_
  rotate_left 1
  · exact AllReadyH.nil
  go_simp
  refine (f38_sgn _ _).mono ?_; rintro e w' ⟨rfl, rfl⟩
  refine hK.out _ _ (hS) (fun hS => ?_)
  clear hK K
  refine wpAnyH_ready (rs := [4]) (by kernel_rfl) (by simp) ?_
  refine AllReadyH.cons rfl (fun K hK => ?_) ?_
  rotate_left 1
  · exact AllReadyH.nil
  go_simp
  refine (wr_num (sgnOf p.foot) 1 hS t0 (by simp)).mono ?_; rintro e wb1 ⟨rfl, t1, x1⟩; rw [wid1] at t1
  refine hK.out _ _ (x1) (fun hS => ?_)
  clear hK K
  refine wpAnyH_ready (rs := [7]) (by kernel_rfl) (by simp) ?_
  refine AllReadyH.cons rfl (fun K hK => ?_) ?_
  rotate_left 1
  · exact AllReadyH.nil
  go_simp
  refine (wr_num p.epoch 4 hS t1 (by simp only [List.length_append, length_leN, List.length_nil]; omega)).mono ?_; rintro e wb2 ⟨rfl, t2, x2⟩; rw [wid4] at t2
  refine hK.out _ _ (x2) (fun hS => ?_)
  clear hK K
  refine wpAnyH_ready (rs := [10]) (by kernel_rfl) (by simp) ?_
  refine AllReadyH.cons rfl (fun K hK => ?_) ?_
  rotate_left 1
  · exact AllReadyH.nil
  go_simp
  refine (wr_num p.number 4 hS t2 (by simp only [List.length_append, length_leN, List.length_nil]; omega)).mono ?_; rintro e wb3 ⟨rfl, t3, x3⟩; rw [wid4] at t3
  refine hK.out _ _ (x3) (fun hS => ?_)
  clear hK K
  refine wpAnyH_ready (rs := [13]) (by kernel_rfl) (by simp) ?_
  refine AllReadyH.cons rfl (fun K hK => ?_) ?_
  rotate_left 1
  · exact AllReadyH.nil
  go_simp
  refine (wr_num p.index 2 hS t3 (by simp only [List.length_append, length_leN, List.length_nil]; omega)).mono ?_; rintro e wb4 ⟨rfl, t4, x4⟩; rw [wid2] at t4
  refine hK.out _ _ (x4) (fun hS => ?_)
  clear hK K
  refine wpAnyH_ready (rs := [17]) (by kernel_rfl) (by simp) ?_
  refine AllReadyH.cons rfl (fun K hK => ?_) ?_
  rotate_left 1
  · exact AllReadyH.nil
  go_simp
  refine (wr_num (n : Int) 1 hS t4 (by simp only [List.length_append, length_leN, List.length_nil]; omega)).mono ?_; rintro e wb5 ⟨rfl, t5, x5⟩; rw [wid1, ← HN.out] at t5
  refine hK.out _ _ (x5) (fun hS => ?_)
  clear hK K
  refine wpAnyH_ready (rs := [18]) (by kernel_rfl) (by simp) ?_
  refine AllReadyH.cons rfl (fun K hK => ?_) ?_
  rotate_left 1
  · exact AllReadyH.nil
  go_simp
  refine (wr_bytes t5 (by rw [← prtHead, length_prtHead]; decide)).mono ?_; rintro e wb6 ⟨v6, rfl, o6, x6⟩; have ub : Up w1 wb6 v6 (prtHead p) := Up.of_own o6 hS.size; obtain ⟨A6, d6, rfl, k6, _, z6⟩ := ub.form; rw [length_prtHead] at ub ⊢
  refine hK.out _ _ (hS.trans x6) (fun hS => ?_)
  clear hK K
  refine takeH (i := 19) (v := ?_) rfl rfl (by kernel_rfl) (by kernel_rfl) (by kernel_rfl) (fun _ _ _ h => h) (Or.inl ⟨by kernel_rfl, ?_⟩) hS ?_
  rotate_left 1
  · (intro w' hS'; go_simp; try (with_reducible rfl))
  simp only [List.setIfInBounds_toArray, List.set_cons_succ, List.set_cons_zero]
  refine wpAnyH_done (by kernel_rfl) ?_ _
  have y2 := hx1.ext hS
  obtain ⟨c0, c1, c2, c3, c4, cf⟩ := prt_cells (hS.heap hb)
  obtain ⟨m, hm⟩ : ∃ m, m = 12 + n := ⟨_, rfl⟩
  obtain ⟨k, hk⟩ : ∃ k, k = 112 - n := ⟨_, rfl⟩
  have l2 : (prtHead p ++ p.data).length = m := by rw [List.length_append, length_prtHead, HN.out, hm]
  have l3 : (prtHead p ++ p.data ++ List.replicate k 0).length = 124 := by
    have := HLE.out
    rw [prtBody, HN.out, ← hk] at this
    exact this
  have e3 : Mb.seal_ (prtHead p ++ p.data ++ List.replicate k 0) = prtPut p := by rw [prtPut, prtBody, HN.out, ← hk, zer]
  have hn112 := H112.out
  have hsub : (124 : Int) - (m : Int) = (k : Int) := by omega
  have hwk : IntKind.i64.wrap (k : Int) = (k : Int) := IntWalk.i64_in _ (by omega)
  have hk9 : k ≤ 112 := by omega
  have hm9 : m ≤ 124 := by omega
  have L2 := Lib.hid l2
  have L3 := Lib.hid l3
  have E3 := Lib.hid e3
  clear l2 l3 e3 hm hk hx1 hn112
  go_wp2_with (first
    | (at_builtin; refine wpList_up rfl (.tmp 58) (.tmp 60) rfl _ _ rfl ub hS A n c p.data rfl HN.out y2 (by rw [HN.out, length_prtHead]; have := H112.out; omega) ?_; intro v2 w2 u2 x2; obtain ⟨A2, d2, rfl, k2, _, z2⟩ := u2.form; rw [L2.out] at u2 ⊢)
    | (at_builtin; refine wpList_up_zeros rfl (.tmp 62) (.tmp 65) rfl _ _ rfl u2 x2 k rfl (by rw [L2.out]; omega) ?_; intro v3 w3 u3 x3; obtain ⟨A3, d3, rfl, k3, _, z3⟩ := u3.form; rw [L3.out] at k3 ⊢)
    | (at_builtin; fail)
    | fail)
  refine (f45_n A3 _ 124 d3 _ L3.out (by decide) k3 z3).mono ?_
  rw [E3.out]
  rintro e w4 ⟨v4, rfl, o4, x4⟩
  go_wp2_with fail
  go_ret2
  exact ⟨_, rfl, o4.mono (Nat.le_trans hX1.size x3.size), hX1.trans (x3.trans x4)⟩

set_option maxRecDepth 100000 in
set_option maxHeartbeats 2000000 in
theorem f13_wrong (p : Prt) (A : Option Addr) (n c : Nat) (w : World) (hn : p.data.length = n) (hr : ¬ prtRight p) :
    Calls Try.prog 67 #[prtV p A n c] w fun e w' => e = .returned (.tuple #[.slice none 0 0, .int .i64 2]) ∧ Ext w w' := by
  have hr2 : ¬ (1 ≤ p.epoch ∧ p.epoch ≤ 2147483648 ∧ 0 ≤ p.number ∧ p.number ≤ 2147483648 ∧ 0 ≤ p.index ∧ p.index ≤ 65535 ∧ n ≤ 112) := fun e => hr (by unfold prtRight; rw [hn]; exact e)
  have HR := Lib.hid hr2
  have hX1 : Ext w (w.alloc (.cells (prtCells p A n c) 117)) := (Ext.refl w).alloc _
  clear hr2 hr hn
  by_cases h1 : p.epoch < 1 ∨ 2147483648 < p.epoch
  · rcases h1 with h1 | h1
    · have g1 : (p.epoch < 1) = True := eq_true h1
      clear h1
      go_enter Try.func67, Try.ntmps67
      go_wp2_with fail
      go_ret2
      exact ⟨rfl, hX1⟩
    · have g1 : (p.epoch < 1) = False := eq_false (by omega)
      have g2 : (2147483648 < p.epoch) = True := eq_true h1
      clear h1
      go_enter Try.func67, Try.ntmps67
      go_wp2_with fail
      go_ret2
      exact ⟨rfl, hX1⟩
  have g1 : (p.epoch < 1) = False := eq_false (by omega)
  have g2 : (2147483648 < p.epoch) = False := eq_false (by omega)
  by_cases h2 : p.number < 0 ∨ 2147483648 < p.number
  · rcases h2 with h2 | h2
    · have g3 : (p.number < 0) = True := eq_true h2
      clear h1 h2
      go_enter Try.func67, Try.ntmps67
      go_wp2_with fail
      go_ret2
      exact ⟨rfl, hX1⟩
    · have g3 : (p.number < 0) = False := eq_false (by omega)
      have g4 : (2147483648 < p.number) = True := eq_true h2
      clear h1 h2
      go_enter Try.func67, Try.ntmps67
      go_wp2_with fail
      go_ret2
      exact ⟨rfl, hX1⟩
  have g3 : (p.number < 0) = False := eq_false (by omega)
  have g4 : (2147483648 < p.number) = False := eq_false (by omega)
  by_cases h3 : p.index < 0 ∨ 65535 < p.index
  · rcases h3 with h3 | h3
    · have g5 : (p.index < 0) = True := eq_true h3
      clear h1 h2 h3
      go_enter Try.func67, Try.ntmps67
      go_wp2_with fail
      go_ret2
      exact ⟨rfl, hX1⟩
    · have g5 : (p.index < 0) = False := eq_false (by omega)
      have g6 : (65535 < p.index) = True := eq_true h3
      clear h1 h2 h3
      go_enter Try.func67, Try.ntmps67
      go_wp2_with fail
      go_ret2
      exact ⟨rfl, hX1⟩
  have g5 : (p.index < 0) = False := eq_false (by omega)
  have g6 : (65535 < p.index) = False := eq_false (by omega)
  have g7 : ((112 : Int) < (n : Int)) = True := eq_true (by
    have := HR.out
    omega)
  clear h1 h2 h3
  go_enter Try.func67, Try.ntmps67
  go_wp2_with fail
  go_ret2
  exact ⟨rfl, hX1⟩
end Go.Proofs.Ytgpnmmgoachajaa
/- The parts of layer 6: of which part any octets are the sector; record.Get. -/
namespace Go.Proofs.Ytgpnmmgoachajaa
open Go.RowKit
open Go.Proofs

def prtDec (b : List UInt8) : Prt := ⟨numAt b 0 1 == 70, numAt b 1 4, numAt b 5 4, numAt b 9 2, if numAt b 11 1 ≤ 112 then (b.drop 12).take (numAt b 11 1).toNat else []⟩
def prtGet (b : List UInt8) : Option Prt := if b.length = 128 ∧ prtRight (prtDec b) ∧ prtPut (prtDec b) = b then some (prtDec b) else none
def prt0 : Prt := ⟨false, 0, 0, 0, []⟩
theorem prt_unsealed (l : List UInt8) (h : Mb.isSealed l = false) : prtGet l = none := by
  unfold prtGet
  rw [if_neg]
  rintro ⟨_, _, h3⟩
  rw [← h3, prtPut, Mb.isSealed_seal] at h
  cases h
theorem prt_short (l : List UInt8) (h : l.length ≠ 128) : prtGet l = none := by
  unfold prtGet
  rw [if_neg (fun e => h e.1)]
theorem RdX.lt {W0 w : World} {k : Nat} {B : List UInt8} (h : RdX W0 w k B) : W0.heap.size ≤ k ∧ k < w.heap.size := by
  obtain ⟨F, h1, _, _, h2⟩ := h
  exact ⟨h1 k h2.mem, (Array.getElem?_eq_some_iff.1 h2.head).1⟩
theorem RdX.ext {W0 w w' : World} {k : Nat} {B : List UInt8} (h : RdX W0 w k B) (x : Ext w w') : RdX W0 w' k B := by
  obtain ⟨F, h1, h2⟩ := h
  exact ⟨F, h1, h2.ext x⟩
/-- A number is taken off; what turns is the reading alone. -/
theorem rd_num_upd {W0 w : World} {k : Nat} (l : List UInt8) (i n : Nat) (hn : n ≤ 8) (hl : l.length = 128) (h124 : i + n ≤ 124) (h : RdX W0 w k ((l.take 124).drop i)) :
    Calls Try.prog 83 #[.pointer (some ⟨k, 0, none⟩), .int .i64 (n : Int)] w fun e w' => e = .returned (.int .i64 (numAt l i n)) ∧ Upd (fun b => b = k) w w' := by
  obtain ⟨F, h1, h2⟩ := h
  have hw : wid (n : Int) = n := by unfold wid; omega
  have hlen : n ≤ ((l.take 124).drop i).length := by rw [List.length_drop, List.length_take]; omega
  have h5 := f35_any k F ((l.take 124).drop i) false n w h2
  rw [hw, rTake_in n _ hlen] at h5
  refine h5.mono ?_
  rintro e w1 ⟨rfl, h6, h7⟩
  refine ⟨ret_int ?_, h7⟩
  rw [rNum, hw, rTake_in n _ hlen, numAt]
  congr 2
  show ((l.take 124).drop i).take n = (l.drop i).take n
  rw [List.drop_take, List.take_take, Nat.min_eq_left (by omega)]
theorem dec_lo (l : List UInt8) (V : Nat) (hV : numAt l 11 1 = (V : Int)) (h : V ≤ 112) : ({ prtDec l with data := (l.drop 12).take V } : Prt) = prtDec l := by
  unfold prtDec
  rw [hV, if_pos (by omega)]
  rfl
theorem dec_hi (l : List UInt8) (V : Nat) (hV : numAt l 11 1 = (V : Int)) (h : ¬ V ≤ 112) : ({ prtDec l with data := [] } : Prt) = prtDec l := by
  unfold prtDec
  rw [hV, if_neg (by omega)]
theorem data_lo (l : List UInt8) (V : Nat) (hV : numAt l 11 1 = (V : Int)) (h : V ≤ 112) : (prtDec l).data = (l.drop 12).take V := by
  unfold prtDec
  simp only
  rw [hV, if_pos (by omega)]
  rfl
theorem data_hi (l : List UInt8) (V : Nat) (hV : numAt l 11 1 = (V : Int)) (h : ¬ V ≤ 112) : (prtDec l).data = [] := by
  unfold prtDec
  simp only
  rw [hV, if_neg (by omega)]
def setPrt (w : World) (q : Nat) (p : Prt) (A : Option Addr) (n c : Nat) : World :=
  ((((w.setCell ⟨q, 0, none⟩ (.bool p.foot)).setCell ⟨q, 1, none⟩ (.int .i64 p.epoch)).setCell ⟨q, 2, none⟩ (.int .i64 p.number)).setCell ⟨q, 3, none⟩ (.int .i64 p.index)).setCell ⟨q, 4, none⟩ (.slice A n c)
theorem setPrt_heap {w : World} {q : Nat} {p0 : Prt} {A0 : Option Addr} {n0 c0 : Nat} (hb : w.heap[q]? = some (.cells (prtCells p0 A0 n0 c0) 117 (0, 0))) (p : Prt) (A : Option Addr) (n c : Nat) : (setPrt w q p A n c).heap[q]? = some (.cells (prtCells p A n c) 117 (0, 0)) := by
  have h0 := heap_setCell_same w q 0 _ _ (.bool p.foot) hb
  have h1 := heap_setCell_same _ q 1 _ _ (.int .i64 p.epoch) h0
  have h2 := heap_setCell_same _ q 2 _ _ (.int .i64 p.number) h1
  have h3 := heap_setCell_same _ q 3 _ _ (.int .i64 p.index) h2
  have h4 := heap_setCell_same _ q 4 _ _ (.slice A n c) h3
  simp only [prtCells, List.setIfInBounds_toArray, List.set_cons_succ, List.set_cons_zero] at h4
  exact h4
theorem setPrt_data {w : World} {q : Nat} {p : Prt} {A0 : Option Addr} {n0 c0 : Nat} (hb : w.heap[q]? = some (.cells (prtCells p A0 n0 c0) 117 (0, 0))) (A : Option Addr) (n c : Nat) (d : List UInt8) : (w.setCell ⟨q, 4, none⟩ (.slice A n c)).heap[q]? = some (.cells (prtCells { p with data := d } A n c) 117 (0, 0)) := by
  have h4 := heap_setCell_same _ q 4 _ _ (.slice A n c) hb
  simp only [prtCells, List.setIfInBounds_toArray, List.set_cons_succ, List.set_cons_zero] at h4
  exact h4
theorem setPrt_upd (w : World) (q : Nat) (p : Prt) (A : Option Addr) (n c : Nat) : Upd (fun b => b = q) w (setPrt w q p A n c) :=
  ((((((Upd.refl (fun b => b = q) w).setCell (p := ⟨q, 0, none⟩) (.inl rfl) _).setCell (p := ⟨q, 1, none⟩) (.inl rfl) _).setCell (p := ⟨q, 2, none⟩) (.inl rfl) _).setCell (p := ⟨q, 3, none⟩) (.inl rfl) _).setCell (p := ⟨q, 4, none⟩) (.inl rfl) _)
theorem setPrt_ext {w w1 : World} (h : Ext w w1) {q : Nat} (hq : w.heap.size ≤ q) (p : Prt) (A : Option Addr) (n c : Nat) : Ext w (setPrt w1 q p A n c) := (setPrt_upd w1 q p A n c).to_ext h (fun b hb => by rw [hb]; exact hq)
theorem size24 : (Try.prog.info? 117).map (·.size) = some 5 := by kernel_rfl
theorem ret_prt {fn : Func} {t u : Tmp} (h : fn.results = #[.cell t 117, .tmp u]) (tmps : Array Value) (w : World) (g : Nat) (p : Prt) (A : Option Addr) (n c : Nat) (b : Bool) (hp : tmps.getD t undef = .pointer (some ⟨g, 0, none⟩))
    (hg : w.heap[g]? = some (.cells (prtCells p A n c) 117 (0, 0))) (hu : tmps.getD u undef = .bool b) : (results fn tmps).run Try.prog w = .ok (.tuple #[prtV p A n c, .bool b]) w := by
  rw [results_cell_tmp h, hp, hu]
  simp only [asAddr, Sem.run_pure, Result.andThen_ok]
  rw [run_loadVar_row w g 117 117 _ _ _ hg Try.underlying117 rfl size24]
  rfl

set_option maxRecDepth 100000 in
set_option maxHeartbeats 8000000 in
theorem f14_main (A : Option Addr) (l : List UInt8) (c : Nat) (w : World) (hn : l.length = 128) (hc : 128 ≤ c) (hx : Octs w A l) (hse : Mb.isSealed l = true)
    (HO : ∀ W, Ext w W → Calls Try.prog 81 #[.slice A 128 c] W fun e w' => ∃ v, e = .returned (.tuple #[v, .bool (Mb.isSealed l)]) ∧ Own w' W.heap.size 5 v (octs (opened l)) ∧ Ext W w') :
    Calls Try.prog 71 #[.slice A 128 c] w fun e w' => ∃ A' m c', e = .returned (.tuple #[prtV ((prtGet l).getD prt0) A' m c', .bool (prtGet l).isSome]) ∧ ((prtGet l).getD prt0).data.length = m ∧ m ≤ c' ∧ Octs w' A' ((prtGet l).getD prt0).data ∧ Ext w w' := by
  have ho := opened_124 l hse
  have ho2 := opened_some l hse
  rw [hn] at ho ho2
  simp only [Nat.reduceSub] at ho ho2
  rw [hse, ho2] at HO
  rw [ho2] at ho
  obtain ⟨R, hR⟩ : ∃ R, R = prtGet l := ⟨_, rfl⟩
  rw [← hR]
  have HG := Lib.hid hR
  obtain ⟨V, hV, hV2⟩ : ∃ V : Nat, numAt l 11 1 = (V : Int) ∧ V < 256 := by
    have h1 := getN_lt ((l.drop 11).take 1)
    have h2 : ((l.drop 11).take 1).length = 1 := by rw [List.length_take, List.length_drop]; omega
    rw [h2] at h1
    exact ⟨getN ((l.drop 11).take 1), by rw [numAt, i64of_small _ (by omega)], by simpa using h1⟩
  have HN := Lib.hid hn
  have HO1 := Lib.hid ho
  have HC := Lib.hid hc
  have HV := Lib.hid hV
  have HV2 := Lib.hid hV2
  clear hn ho ho2 hse hc hR hV hV2
  go_enter Try.func71, Try.ntmps71
  go_wp2_with fail
  refine (HO _ ((Ext.refl w).alloc _)).mono ?_
  rintro e w1 ⟨v1, rfl, o1, x1⟩
  have hb : w1.heap[w.heap.size]? = some (.cells (prtCells prt0 none 0 0) 117 (0, 0)) := x1.heap (heap_alloc_new w _)
  have hX : Ext w w1 := ((Ext.refl w).alloc _).trans x1
  have hp : w.heap.size < w1.heap.size := Nat.lt_of_lt_of_le (by simp) x1.size
  obtain ⟨A1, d1, rfl, e1, y1⟩ := o1.octs_form
  rw [HO1.out] at e1 ⊢
  have NA1 : ∀ a, A1 = some a → ¬ a.block = w.heap.size := fun a e => by
    have := (o1.block a.block (by rw [e]; rfl)).1
    simp at this
    omega
  have NA1b : ∀ a, A1 = some a → a.block < w1.heap.size := fun a e => (o1.block a.block (by rw [e]; rfl)).2
  clear x1 HO o1
  go_wp2_with fail
  refine (rd_new (Ext.refl w1) A1 (l.take 124) 124 _ HO1.out (by decide) (by decide) y1).mono ?_
  rintro e w2 ⟨k, rfl, r2, x2⟩
  go_wp2_with fail
  refine (rd_num l 0 1 1 rfl (by decide) HN.out (by decide) x2 r2).mono ?_
  rintro e w3 ⟨rfl, r3, x3⟩
  clear r2 x2
  go_wp2_with fail
  refine (rd_num l 1 4 5 rfl (by decide) HN.out (by decide) x3 r3).mono ?_
  rintro e w4 ⟨rfl, r4, x4⟩
  clear r3 x3
  go_wp2_with fail
  refine (rd_num l 5 4 9 rfl (by decide) HN.out (by decide) x4 r4).mono ?_
  rintro e w5 ⟨rfl, r5, x5⟩
  clear r4 x4
  go_wp2_with fail
  refine (rd_num l 9 2 11 rfl (by decide) HN.out (by decide) x5 r5).mono ?_
  rintro e w6 ⟨rfl, r6, x6⟩
  clear r5 x5
  go_wp2_with fail
  have hb6 := x6.heap hb
  have e7 := (Ext.refl w6).alloc (.cells (prtCells { prtDec l with data := [] } none 0 0) 117)
  have hq6 := heap_alloc_new w6 (.cells (prtCells { prtDec l with data := [] } none 0 0) 117)
  have hkk := r6.lt
  have h16 := x6.size
  refine (rd_num_upd l 11 1 (by decide) HN.out (by decide) (r6.ext e7)).mono ?_
  rw [HV.out]
  rintro e w7 ⟨rfl, u7⟩
  have x7 : Ext w1 w7 := u7.to_ext (x6.trans e7) (fun b hb => by rw [hb]; exact hkk.1)
  have hp7 := x7.heap hb
  have hq7 := u7.heap hq6 (show ¬ w6.heap.size = k by omega)
  have X7 := hX.trans x7
  have y7 := y1.ext x7
  have hwq : w.heap.size < w6.heap.size := by omega
  have hq1 : w1.heap.size ≤ w6.heap.size := h16
  obtain ⟨q, hqe⟩ : ∃ q, w6.heap.size = q := ⟨_, rfl⟩
  rw [hqe] at hq7 hwq hq1 ⊢
  have HQE := Lib.hid hqe
  clear hqe hb6 e7 hq6 hkk h16 u7 x7 x6 r6 y1 hb hX
  obtain ⟨c0, c1, c2, c3, c4, cf⟩ := prt_cells hq7
  have hv2 := HV2.out
  by_cases h112 : V ≤ 112
  · obtain ⟨A2, s1, _, s3, s4⟩ := cut_mid A1 (l.take 124) d1 12 (12 + V) (by omega) (by rw [HO1.out]; omega) (by rw [HO1.out]; exact e1)
    rw [HO1.out] at s1
    have y7b := s3 _ y7
    rw [show 12 + V - 12 = V by omega] at s1 y7b
    have hdat : ((l.take 124).drop 12).take V = (prtDec l).data := by
      rw [data_lo l V HV.out h112, List.drop_take, List.take_take, Nat.min_eq_left (by omega)]
    rw [hdat] at y7b
    have hlen : (prtDec l).data.length = V := by rw [data_lo l V HV.out h112, List.length_take, List.length_drop, HN.out]; omega
    have hq8 := setPrt_data hq7 A2 V (d1 - 12) ((l.drop 12).take V)
    rw [show ({ ({ prtDec l with data := [] } : Prt) with data := (l.drop 12).take V } : Prt) = prtDec l from dec_lo l V HV.out h112] at hq8
    have uq := (Upd.refl (fun b => b = q) w7).setCell (p := ⟨q, 4, none⟩) (.inl rfl) (.slice A2 V (d1 - 12))
    have NA2 : ∀ a, A2 = some a → ¬ a.block = w.heap.size := fun a e => by
      obtain ⟨b, h1, h2⟩ := s4 a e
      rw [← h2]
      exact NA1 b h1
    have y8 := y7b.upd uq (fun a e => by
      obtain ⟨b, h1, h2⟩ := s4 a e
      have := NA1b b h1
      omega)
    have hp8 := uq.heap hp7 (show ¬ w.heap.size = q by omega)
    have X8 := X7.setCell (p := ⟨q, 4, none⟩) (show w.heap.size ≤ q by omega) (.slice A2 V (d1 - 12))
    have hcap : V ≤ d1 - 12 := by omega
    obtain ⟨M, hM⟩ : ∃ M, M = 12 + V := ⟨_, rfl⟩
    rw [← hM] at s1
    have hM1 : (12 : Int) + (V : Int) = (M : Int) := by omega
    have hM2 : IntKind.i64.wrap (M : Int) = (M : Int) := IntWalk.i64_in _ (by omega)
    have hV3 : ((V : Int) ≤ 112) = True := eq_true (by omega)
    have s9 : ∀ w, (Instr.slice 22 (.slice A1 124 d1) (some (.int .i64 12)) (some (.int .i64 (M : Int))) none).run Try.prog w = .ok (.slice A2 V (d1 - 12)) w := s1
    have HL := Lib.hid hlen
    clear s1 s3 s4 hdat uq hp7 X7 y7 y7b hM hq7 h112 hlen
    go_wp2_with fail
    have hq9 : _ = some (Obj.cells (prtCells (prtDec l) A2 V (d1 - 12)) 117 (0, 0)) := hq8
    by_cases hr : prtRight (prtDec l)
    · refine (f13_right (prtDec l) A2 V (d1 - 12) _ HL.out hr y8).mono ?_
      rintro e w11 ⟨v, rfl, o11, x11⟩
      obtain ⟨B, d, rfl, hd, hy⟩ := o11.octs_form
      rw [length_prtPut _ hr] at hd ⊢
      have hp11 := x11.heap hp8
      have hq11 := x11.heap hq9
      have X11 := X8.trans x11
      have hyd : Octs w11 A2 (prtDec l).data := Octs.ext y8 x11
      have HE := equal_octs B A (prtPut (prtDec l)) l d c w11 (by rw [length_prtPut _ hr]; decide) (by rw [HN.out]; decide) (by rw [length_prtPut _ hr]; decide) (by rw [HN.out]; decide) hy (hx.ext X11)
      rw [length_prtPut _ hr, HN.out] at HE
      clear hp8 hq8 hq9 X8 x11 hy o11 hd
      by_cases he : prtPut (prtDec l) = l
      · have hg : R = some (prtDec l) := by
          rw [HG.out]
          unfold prtGet
          rw [if_pos ⟨HN.out, hr, he⟩]
        subst hg
        rw [decide_eq_true he] at HE
        clear he hr
        go_wp2_with (go_at_call 72; refine HE.mono ?_; clear HE; rintro e w12 ⟨rfl, ⟨qq, rfl⟩⟩; have hX3 := X11.drewN qq; have hb3 : (w11.drewN qq).heap[w.heap.size]? = _ := hp11; have hq3 : (w11.drewN qq).heap[q]? = _ := hq11; have hy3 : Octs (w11.drewN qq) A2 (prtDec l).data := hyd; clear X11 hp11 hq11 hyd; generalize w11.drewN qq = w12 at hX3 hb3 hq3 hy3 ⊢; obtain ⟨c0, c1, c2, c3, c4, cf⟩ := prt_cells hb3; obtain ⟨i0, i1, i2, i3, i4, jf⟩ := prt_cells hq3)
        refine bodyPost_ret (ret_prt rfl _ _ w.heap.size (prtDec l) A2 V (d1 - 12) true rfl (setPrt_heap hb3 (prtDec l) A2 V (d1 - 12)) rfl) rfl ?_
        exact ⟨A2, V, (d1 - 12), rfl, HL.out, hcap, hy3.upd (setPrt_upd _ _ _ _ _ _) NA2, setPrt_ext hX3 (Nat.le_refl _) (prtDec l) A2 V (d1 - 12)⟩
      · have hg : R = none := by
          rw [HG.out]
          unfold prtGet
          rw [if_neg (fun e => he e.2.2)]
        subst hg
        rw [decide_eq_false he] at HE
        clear he hr
        go_wp2_with (go_at_call 72; refine HE.mono ?_; clear HE; rintro e w12 ⟨rfl, ⟨qq, rfl⟩⟩; have hX3 := X11.drewN qq; have hb3 : (w11.drewN qq).heap[w.heap.size]? = _ := hp11; clear X11 hp11 hq11 hyd; generalize w11.drewN qq = w12 at hX3 hb3 ⊢; obtain ⟨c0, c1, c2, c3, c4, cf⟩ := prt_cells hb3)
        refine bodyPost_ret (ret_prt rfl _ _ w.heap.size prt0 none 0 0 false rfl (setPrt_heap hb3 prt0 none 0 0) rfl) rfl ?_
        exact ⟨none, 0, 0, rfl, rfl, Nat.le_refl _, Octs.nil _ _, setPrt_ext hX3 (Nat.le_refl _) prt0 none 0 0⟩
    · have hg : R = none := by
        rw [HG.out]
        unfold prtGet
        rw [if_neg (fun e => hr e.2.1)]
      subst hg
      refine (f13_wrong (prtDec l) A2 V (d1 - 12) _ HL.out hr).mono ?_
      rintro e w11 ⟨rfl, x11⟩
      have hp11 := x11.heap hp8
      have X11 := X8.trans x11
      obtain ⟨c0, c1, c2, c3, c4, cf⟩ := prt_cells hp11
      clear hp8 hq8 hq9 X8 x11 hr
      go_wp2_with fail
      refine bodyPost_ret (ret_prt rfl _ _ w.heap.size prt0 none 0 0 false rfl (setPrt_heap hp11 prt0 none 0 0) rfl) rfl ?_
      exact ⟨none, 0, 0, rfl, rfl, Nat.le_refl _, Octs.nil _ _, setPrt_ext X11 (Nat.le_refl _) prt0 none 0 0⟩
  · have hV3 : ((V : Int) ≤ 112) = False := eq_false (by omega)
    have hq8 := hq7
    rw [dec_hi l V HV.out h112] at hq8
    have hlen : (prtDec l).data.length = 0 := by rw [data_hi l V HV.out h112]; rfl
    have y8 : Octs w7 none (prtDec l).data := by rw [data_hi l V HV.out h112]; exact Octs.nil _ _
    have hp8 := hp7
    have X8 := X7
    have HL := Lib.hid hlen
    clear hq7 hp7 X7 y7 h112 hlen
    go_wp2_with fail
    have hq9 : _ = some (Obj.cells (prtCells (prtDec l) none 0 0) 117 (0, 0)) := hq8
    by_cases hr : prtRight (prtDec l)
    · refine (f13_right (prtDec l) none 0 0 _ HL.out hr y8).mono ?_
      rintro e w11 ⟨v, rfl, o11, x11⟩
      obtain ⟨B, d, rfl, hd, hy⟩ := o11.octs_form
      rw [length_prtPut _ hr] at hd ⊢
      have hp11 := x11.heap hp8
      have hq11 := x11.heap hq9
      have X11 := X8.trans x11
      have hyd : Octs w11 none (prtDec l).data := Octs.ext y8 x11
      have HE := equal_octs B A (prtPut (prtDec l)) l d c w11 (by rw [length_prtPut _ hr]; decide) (by rw [HN.out]; decide) (by rw [length_prtPut _ hr]; decide) (by rw [HN.out]; decide) hy (hx.ext X11)
      rw [length_prtPut _ hr, HN.out] at HE
      clear hp8 hq8 hq9 X8 x11 hy o11 hd
      by_cases he : prtPut (prtDec l) = l
      · have hg : R = some (prtDec l) := by
          rw [HG.out]
          unfold prtGet
          rw [if_pos ⟨HN.out, hr, he⟩]
        subst hg
        rw [decide_eq_true he] at HE
        clear he hr
        go_wp2_with (go_at_call 72; refine HE.mono ?_; clear HE; rintro e w12 ⟨rfl, ⟨qq, rfl⟩⟩; have hX3 := X11.drewN qq; have hb3 : (w11.drewN qq).heap[w.heap.size]? = _ := hp11; have hq3 : (w11.drewN qq).heap[q]? = _ := hq11; have hy3 : Octs (w11.drewN qq) none (prtDec l).data := hyd; clear X11 hp11 hq11 hyd; generalize w11.drewN qq = w12 at hX3 hb3 hq3 hy3 ⊢; obtain ⟨c0, c1, c2, c3, c4, cf⟩ := prt_cells hb3; obtain ⟨i0, i1, i2, i3, i4, jf⟩ := prt_cells hq3)
        refine bodyPost_ret (ret_prt rfl _ _ w.heap.size (prtDec l) none 0 0 true rfl (setPrt_heap hb3 (prtDec l) none 0 0) rfl) rfl ?_
        exact ⟨none, 0, 0, rfl, HL.out, (Nat.le_refl _), hy3.upd (setPrt_upd _ _ _ _ _ _) (fun a e => by cases e), setPrt_ext hX3 (Nat.le_refl _) (prtDec l) none 0 0⟩
      · have hg : R = none := by
          rw [HG.out]
          unfold prtGet
          rw [if_neg (fun e => he e.2.2)]
        subst hg
        rw [decide_eq_false he] at HE
        clear he hr
        go_wp2_with (go_at_call 72; refine HE.mono ?_; clear HE; rintro e w12 ⟨rfl, ⟨qq, rfl⟩⟩; have hX3 := X11.drewN qq; have hb3 : (w11.drewN qq).heap[w.heap.size]? = _ := hp11; clear X11 hp11 hq11 hyd; generalize w11.drewN qq = w12 at hX3 hb3 ⊢; obtain ⟨c0, c1, c2, c3, c4, cf⟩ := prt_cells hb3)
        refine bodyPost_ret (ret_prt rfl _ _ w.heap.size prt0 none 0 0 false rfl (setPrt_heap hb3 prt0 none 0 0) rfl) rfl ?_
        exact ⟨none, 0, 0, rfl, rfl, Nat.le_refl _, Octs.nil _ _, setPrt_ext hX3 (Nat.le_refl _) prt0 none 0 0⟩
    · have hg : R = none := by
        rw [HG.out]
        unfold prtGet
        rw [if_neg (fun e => hr e.2.1)]
      subst hg
      refine (f13_wrong (prtDec l) none 0 0 _ HL.out hr).mono ?_
      rintro e w11 ⟨rfl, x11⟩
      have hp11 := x11.heap hp8
      have X11 := X8.trans x11
      obtain ⟨c0, c1, c2, c3, c4, cf⟩ := prt_cells hp11
      clear hp8 hq8 hq9 X8 x11 hr
      go_wp2_with fail
      refine bodyPost_ret (ret_prt rfl _ _ w.heap.size prt0 none 0 0 false rfl (setPrt_heap hp11 prt0 none 0 0) rfl) rfl ?_
      exact ⟨none, 0, 0, rfl, rfl, Nat.le_refl _, Octs.nil _ _, setPrt_ext X11 (Nat.le_refl _) prt0 none 0 0⟩

set_option maxRecDepth 100000 in
set_option maxHeartbeats 4000000 in
theorem f14_any (A : Option Addr) (l : List UInt8) (n c : Nat) (w : World) (hn : l.length = n) (hl : n ≤ 4294900000) (hc : n ≤ c) (hx : Octs w A l) :
    Calls Try.prog 71 #[.slice A n c] w fun e w' => ∃ A' m c', e = .returned (.tuple #[prtV ((prtGet l).getD prt0) A' m c', .bool (prtGet l).isSome]) ∧ ((prtGet l).getD prt0).data.length = m ∧ m ≤ c' ∧ Octs w' A' ((prtGet l).getD prt0).data ∧ Ext w w' := by
  have HO := fun W (h : Ext w W) => f46_n A l n c W hn hl hc (hx.ext h)
  cases hse : Mb.isSealed l with
  | false =>
    rw [prt_unsealed l hse]
    rw [hse] at HO
    have ho : opened l = [] := by rw [opened, hse]; rfl
    rw [ho] at HO
    clear hse ho hx
    go_enter Try.func71, Try.ntmps71
    go_wp2_with fail
    refine (HO _ ((Ext.refl w).alloc _)).mono ?_
    rintro e w1 ⟨v1, rfl, o1, x1⟩
    have hb : w1.heap[w.heap.size]? = some (.cells (prtCells prt0 none 0 0) 117 (0, 0)) := x1.heap (heap_alloc_new w _)
    obtain ⟨c0, c1, c2, c3, c4, cf⟩ := prt_cells hb
    go_wp2_with fail
    refine bodyPost_ret (ret_prt rfl _ _ w.heap.size prt0 none 0 0 false rfl (setPrt_heap hb prt0 none 0 0) rfl) rfl ?_
    exact ⟨none, 0, 0, rfl, rfl, Nat.le_refl _, Octs.nil _ _, setPrt_ext (((Ext.refl w).alloc _).trans x1) (Nat.le_refl _) prt0 none 0 0⟩
  | true =>
    have h4 := sealed_four l hse
    have ho := opened_124 l hse
    by_cases h128 : n = 128
    · subst h128
      exact f14_main A l c w hn hc hx hse HO
    · rw [prt_short l (by rw [hn]; exact h128)]
      rw [hn] at ho h4
      obtain ⟨m, hm⟩ : ∃ m, m = n - 4 := ⟨_, rfl⟩
      rw [← hm] at ho
      have hm2 : ((m : Int) == 124) = false := by simp; omega
      have HM := Lib.hid ho
      rw [hse] at HO
      clear hm ho hse h4 h128 hn hc hl hx
      go_enter Try.func71, Try.ntmps71
      go_wp2_with fail
      refine (HO _ ((Ext.refl w).alloc _)).mono ?_
      rintro e w1 ⟨v1, rfl, o1, x1⟩
      have hb : w1.heap[w.heap.size]? = some (.cells (prtCells prt0 none 0 0) 117 (0, 0)) := x1.heap (heap_alloc_new w _)
      obtain ⟨c0, c1, c2, c3, c4, cf⟩ := prt_cells hb
      obtain ⟨A1, d1, rfl, e1, y1⟩ := o1.octs_form
      rw [HM.out] at e1 ⊢
      clear y1 o1 e1
      go_wp2_with fail
      refine bodyPost_ret (ret_prt rfl _ _ w.heap.size prt0 none 0 0 false rfl (setPrt_heap hb prt0 none 0 0) rfl) rfl ?_
      exact ⟨none, 0, 0, rfl, rfl, Nat.le_refl _, Octs.nil _ _, setPrt_ext (((Ext.refl w).alloc _).trans x1) (Nat.le_refl _) prt0 none 0 0⟩
end Go.Proofs.Ytgpnmmgoachajaa
/- Layer 6: how many sectors a transaction has (as in RecordSectors), the law's example, and which parts are the same. -/
namespace Go.Proofs.Ytgpnmmgoachajaa
open Go.RowKit
open Go.Proofs

def secs (n : Int) : Int := if n < 1 ∨ 65000 < n then 0 else (n + 111) / 112 + 1

theorem secs_range (n : Int) : 0 ≤ secs n ∧ secs n ≤ 582 := by unfold secs; split <;> omega
theorem secs_step (n : Int) (h1 : 1 ≤ n) (h2 : n < 65000) : secs n ≤ secs (n + 1) ∧ secs (n + 1) ≤ secs n + 1 := by
  unfold secs
  rw [if_neg (by omega), if_neg (by omega)]
  omega

set_option maxRecDepth 100000 in
theorem sec_any (n : Int) (w : World) (h1 : -9223372036854775808 ≤ n) (h2 : n ≤ 9223372036854775807) :
    Calls Try.prog 56 #[.int .i64 n] w fun e w' => e = .returned (.int .i64 (secs n)) ∧ w = w' := by
  unfold secs
  by_cases a : n < 1
  · rw [if_pos (.inl a)]
    go_enter Try.func56, Try.ntmps56
    go_wp2
    go_ret
    exact ⟨rfl, rfl⟩
  · by_cases b : 65000 < n
    · rw [if_pos (.inr b)]
      go_enter Try.func56, Try.ntmps56
      go_wp2
      go_ret
      exact ⟨rfl, rfl⟩
    · rw [if_neg (by omega)]
      go_enter Try.func56, Try.ntmps56
      go_wp2
      go_ret
      exact ⟨ret_int (by omega), rfl⟩


set_option maxRecDepth 100000 in
theorem rsec_any (n : Int) (w : World) (h1 : -9223372036854775808 ≤ n) (h2 : n ≤ 9223372036854775807) :
    Calls Try.prog 39 #[.int .i64 n] w fun e w' => e = .returned (.int .i64 (secs n)) ∧ w = w' := by
  unfold secs
  by_cases a : n < 1
  · rw [if_pos (.inl a)]
    go_enter Try.func39, Try.ntmps39
    go_wp2
    go_ret
    exact ⟨rfl, rfl⟩
  · by_cases b : 65000 < n
    · rw [if_pos (.inr b)]
      go_enter Try.func39, Try.ntmps39
      go_wp2
      go_ret
      exact ⟨rfl, rfl⟩
    · rw [if_neg (by omega)]
      go_enter Try.func39, Try.ntmps39
      go_wp2
      go_loop [0, 3] (fun t k => ∃ j : Nat, t = .int .i64 (n - 112 * j) ∧ k = .int .i64 (1 + j) ∧ -112 < n - 112 * j) (fun t _ => (intOf t + 112).toNat)
      case atStart => exact ⟨0, val_int (by omega), val_int (by omega), by omega⟩
      case round =>
        obtain ⟨j, rfl, rfl, hj⟩ := hrel
        by_cases hlt : 0 < n - 112 * (j : Int)
        · go_wp2
          go_round
          case rel => exact ⟨j + 1, val_int (by omega), val_int (by omega), by omega⟩
          case measure => simp [intOf]; omega
        · go_wp2
          go_ret
          exact ⟨ret_int (by omega), rfl⟩

end Go.Proofs.Ytgpnmmgoachajaa
/- The document's two lists: drop, even. -/
namespace Go.Proofs.Ytgpnmmgoachajaa
open Go.RowKit
open Go.Proofs

/-- A list without a number. -/
def without (l : List Int) (x : Int) : List Int := l.filter (fun y => !decide (y = x))

/-- append of a whole list of ints, as a step of a region. -/
theorem step_append_ints {w : World} {ops : Array Oper} {o : Oper} {a : Act} {K : Act → World → Prop} {Q : Exit → Act → World → Prop} {E : Prop} (hgd : o.guard = none) (s x : Operand)
    (ho : o.op = .call { callee := .builtin .append, args := #[s, x], argTypes := #[33, 33] })
    (v : Value) (l : List Int) (hs : a.eval s = v) (hm : Mine w 3 v (ints l)) (A : Option Addr) (m c : Nat) (l2 : List Int) (hxv : a.eval x = .slice A m c) (hm' : l2.length = m) (hx : Cells w A (ints l2))
    (hlen : l.length + l2.length ≤ 4294967295)
    (h : ∀ v' w', Mine w' 3 v' (ints (l ++ l2)) → Upd (fun b => blk v = some b) w w' → (blk v' = blk v ∨ blk v' = some w.heap.size) → K (a.put o.dst v') w') :
    if Region.wanted o (yielded ops a.tmps) = true then Oper.wp Try.prog o a w K Q else E := by
  obtain ⟨i0, hi0, hz, hs0, hb0⟩ := info_three info3
  refine step_append_mine hgd s x _ ho 3 i0 (.int .i64 0) 8 Try.underlying33 hi0 hz hs0 hb0 rfl v (ints l) hs hm A m c (ints l2) hxv (by rw [length_ints]; exact hm') hx (ints_one _) (by simp; omega) (by omega) ?_
  intro v' w' h1 h2 h3
  exact h v' w' (by rw [ints_append]; exact h1) h2 h3
theorem mine_empty (w : World) : Mine (w.alloc (.cells #[] 3)) 3 (.slice (some ⟨w.heap.size, 0, none⟩) 0 0) (ints []) := Mine.new w 3 #[] 0 0 [] rfl (Nat.le_refl _) (by simp) (by simp) (fun j u h => by simp at h)

/-- A slice in blocks from b0 on. -/
def Fresh (b0 : Nat) (v : Value) : Prop := ∀ g, blk v = some g → b0 ≤ g
theorem Fresh.of {b0 : Nat} {v v' : Value} {w : World} (b : blk v' = blk v ∨ blk v' = some w.heap.size) (h : Fresh b0 v) (hs : b0 ≤ w.heap.size) : Fresh b0 v' := fun g e => by
  rcases b with b | b
  · exact h g (by rw [← b]; exact e)
  · rw [b] at e; cases e; exact hs
theorem TLv.putI {w : World} {t : TypeId} {k : Nat} {F : Nat → Prop} {n : Int} {va vi v : Value} {A I I' : List Int} (h : TLv w t k F n va vi A I) (hm : Mine w 3 v (ints I')) (hb : ∀ g, blk v = some g → F g ∧ g ≠ k ∧ blk va ≠ some g) :
    TLv (w.setCell ⟨k, 2, none⟩ v) t k F n va v A I' := by
  have uk : Upd (fun b => b = k) w (w.setCell ⟨k, 2, none⟩ v) := (Upd.refl (fun b => b = k) w).setCell (p := ⟨k, 2, none⟩) (.inl rfl) v
  exact ⟨heap_setCell_same w k 2 _ t v h.head, h.mem, h.act.upd uk (fun g e => (h.ba g e).2.1), hm.upd uk (fun g e => (hb g e).2.1), fun g e => ⟨(h.ba g e).1, (h.ba g e).2.1, fun e2 => (hb g e2).2.2 e⟩, fun g e => ⟨(hb g e).1, (hb g e).2.1⟩⟩
theorem TLv.putA {w : World} {t : TypeId} {k : Nat} {F : Nat → Prop} {n : Int} {va vi v : Value} {A I A' : List Int} (h : TLv w t k F n va vi A I) (hm : Mine w 3 v (ints A')) (hb : ∀ g, blk v = some g → F g ∧ g ≠ k ∧ blk vi ≠ some g) :
    TLv (w.setCell ⟨k, 1, none⟩ v) t k F n v vi A' I := by
  have uk : Upd (fun b => b = k) w (w.setCell ⟨k, 1, none⟩ v) := (Upd.refl (fun b => b = k) w).setCell (p := ⟨k, 1, none⟩) (.inl rfl) v
  exact ⟨heap_setCell_same w k 1 _ t v h.head, h.mem, hm.upd uk (fun g e => (hb g e).2.1), h.ina.upd uk (fun g e => (h.bi g e).2), fun g e => ⟨(hb g e).1, (hb g e).2.1, (hb g e).2.2⟩, fun g e => ⟨(h.bi g e).1, (h.bi g e).2⟩⟩
theorem ref_fin {w wq w3 : World} {t : TypeId} {k : Nat} {F : Nat → Prop} {n : Int} {va vi v : Value} {A I I' : List Int} (h : TLv wq t k (Since F w wq) n va vi A I) (u : Upd F w wq) (e : Ext wq w3) (hm : Mine w3 3 v (ints I')) (hf : Fresh wq.heap.size v) :
    TLv (w3.setCell ⟨k, 2, none⟩ v) t k (Since F w w3) n va v A I' ∧ Upd F w (w3.setCell ⟨k, 2, none⟩ v) := by
  have hk := h.lt
  have h3 : TLv w3 t k (Since F w w3) n va vi A I := (h.ext e).mono (fun b x => x.mono e.size)
  refine ⟨h3.putI hm (fun g x => ⟨.inr ⟨Nat.le_trans u.size (hf g x), hm.lt x⟩, ?_, ?_⟩), ((u.trans' (Upd.of_ext (fun _ => False) e) (fun _ x => x.elim)).trans' ((Upd.refl (fun b => b = k) w3).setCell (p := ⟨k, 2, none⟩) (.inl rfl) v) (fun b x => ?_))⟩
  · have := hf g x; omega
  · intro x2
    have := h.act.lt x2
    have := hf g x; omega
  · cases x
    rcases h.mem with y | y
    · exact .inl y
    · exact .inr y.1

end Go.Proofs.Ytgpnmmgoachajaa
