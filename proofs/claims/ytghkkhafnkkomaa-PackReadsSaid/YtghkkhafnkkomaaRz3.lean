/- Layer 4's reading: Zig: the walk. -/
import Derived.Test.YtghkkhafnkkomaaRz2
namespace Go.Proofs.Ytghkkhafnkkomaa
open Go.RowKit
open Go.Proofs

/-- A zigzag that is taken off: the number, what is left, does it fail? -/
def zigOut (B : List UInt8) : Int × List UInt8 × Bool := match rZig B with | some (x, r) => (x, r, false) | none => (0, [], true)

set_option maxRecDepth 100000 in
set_option maxHeartbeats 1000000 in
theorem f26_any (k : Nat) (F : Nat → Prop) (B : List UInt8) (f : Bool) (w : World) (hB : B.length ≤ 4294967290) (h : RdAt w k F B f) :
    Calls Try.prog 26 #[.pointer (some ⟨k, 0, none⟩)] w fun e w' => e = .returned (.int .i64 (zigOut B).1) ∧ RdAt w' k F (zigOut B).2.1 (zigOut B).2.2 ∧ Upd (fun b => b = k) w w' := by
  obtain ⟨N, hN⟩ : ∃ N, N = B.length := ⟨_, rfl⟩
  have hNw : IntKind.i64.wrap ((N : Int) + 1) = (N : Int) + 1 := IntWalk.i64_in _ (by omega)
  have hbad := fun W H => f73_any k F B f ((N : Int) + 1) W (by omega) H
  have hbt : rTake ((N : Int) + 1) B f = ([], [], true) := by rw [rTake, if_pos (.inr (by omega))]
  rw [hbt] at hbad
  simp only [List.length_nil] at hbad
  obtain ⟨A, c, hv⟩ := h
  obtain ⟨c0, c1, hf⟩ := hv.cells
  have hlow := low_octs A B c w (by omega) hv.rd
  rw [← hN] at c0 hlow
  cases hfl : firstLow B with
  | none =>
    rw [hfl] at hlow
    simp only at hlow
    have hout : zigOut B = (0, [], true) := by rw [zigOut, rZig, hfl]
    rw [hout]
    have HN := Lib.hid hN
    clear hout hfl hN hbt
    go_enter Try.func26, Try.ntmps26
    go_wp2_with (first
      | (go_at_call 71; refine hlow.mono ?_; clear hlow; rintro e w1 ⟨rfl, q1, rfl⟩; have hv1 := hv.ext ((Ext.refl w).drewN q1); have u1 : Upd (fun b => b = k) w (w.drewN q1) := (Upd.refl _ w).drewN q1; have hT := hbad (w.drewN q1) ⟨_, _, hv1⟩)
      | (go_at_call 73; refine hT.mono ?_; clear hT; rintro e w2 ⟨AT, cT, rfl, hcT, hxT, hbT, tR, uR⟩))
    obtain ⟨A2, c2, hv2⟩ := tR
    obtain ⟨e0, e1, ef⟩ := hv2.cells
    have u2 := u1.trans uR
    obtain ⟨t3, u3⟩ := hv2.fails
    have hz0 := f74_any 0 w2 (by decide)
    rw [show zag 0 = 0 by decide] at hz0
    go_wp2_with fail
    go_loopg [4, 32] 0 (fun g u i wr => u = .int .u64 0 ∧ i = .int .i64 0 ∧ wr = w2)
    case atStart => exact ⟨rfl, rfl, rfl⟩
    case round =>
      obtain ⟨rfl, rfl, rfl⟩ := hrel
      go_wp2_with (go_at_call 74; refine hz0.mono ?_; rintro e w4 ⟨rfl, rfl⟩)
      go_ret
      exact ⟨rfl, t3, u2.trans u3⟩
  | some kk =>
    rw [hfl] at hlow
    simp only at hlow
    have hkk := firstLow_lt B kk hfl
    by_cases h10 : 10 ≤ kk
    · have hout : zigOut B = (0, [], true) := by rw [zigOut, rZig, hfl]; simp only; rw [if_pos h10]
      rw [hout]
      have HN := Lib.hid hN
      have hk1 : IntKind.i64.wrap ((kk : Int) + 1) = (kk : Int) + 1 := IntWalk.i64_in _ (by omega)
      have hk2 : (((kk : Int) + 1) == 0) = false := by simp; omega
      have hk3 : (10 : Int) < (kk : Int) + 1 := by omega
      clear hout hfl hN hbt hkk h10
      go_enter Try.func26, Try.ntmps26
      go_wp2_with (first
        | (go_at_call 71; refine hlow.mono ?_; clear hlow; rintro e w1 ⟨rfl, q1, rfl⟩; have hv1 := hv.ext ((Ext.refl w).drewN q1); have u1 : Upd (fun b => b = k) w (w.drewN q1) := (Upd.refl _ w).drewN q1; have hT := hbad (w.drewN q1) ⟨_, _, hv1⟩)
        | (go_at_call 73; refine hT.mono ?_; clear hT; rintro e w2 ⟨AT, cT, rfl, hcT, hxT, hbT, tR, uR⟩))
      obtain ⟨A2, c2, hv2⟩ := tR
      obtain ⟨e0, e1, ef⟩ := hv2.cells
      have u2 := u1.trans uR
      obtain ⟨t3, u3⟩ := hv2.fails
      have hz0 := f74_any 0 w2 (by decide)
      rw [show zag 0 = 0 by decide] at hz0
      go_wp2_with fail
      go_loopg [4, 32] 0 (fun g u i wr => u = .int .u64 0 ∧ i = .int .i64 0 ∧ wr = w2)
      case atStart => exact ⟨rfl, rfl, rfl⟩
      case round =>
        obtain ⟨rfl, rfl, rfl⟩ := hrel
        go_wp2_with (go_at_call 74; refine hz0.mono ?_; rintro e w4 ⟨rfl, rfl⟩)
        go_ret
        exact ⟨rfl, t3, u2.trans u3⟩
    · have hkn : kk < N := by omega
      have hfN : f = false := by
        cases f with
        | false => rfl
        | true => have := hv.nil rfl; rw [this] at hkk; simp at hkk
      subst hfN
      have hgood := fun W H => f73_any k F B false ((kk : Int) + 1) W (by omega) H
      have hgt : rTake ((kk : Int) + 1) B false = (B.take (kk + 1), B.drop (kk + 1), false) := by
        rw [rTake, if_neg (by simp; omega), show ((kk : Int) + 1).toNat = kk + 1 by omega]
      rw [hgt] at hgood
      simp only at hgood
      have hTl : (B.take (kk + 1)).length = kk + 1 := by rw [List.length_take]; omega
      have hzo : zigOut B = if zb (zv (B.take (kk + 1)) % 18446744073709551616) = B.take (kk + 1) then (zag (zv (B.take (kk + 1)) % 18446744073709551616), B.drop (kk + 1), false) else (0, [], true) := by
        rw [zigOut, rZig, hfl]
        simp only
        rw [if_neg h10]
        split <;> rename_i hs <;> split at hs <;> simp_all
      obtain ⟨Zr, hZr⟩ : ∃ Zr, Zr = zigOut B := ⟨_, rfl⟩
      rw [← hZr] at hzo ⊢
      clear hZr
      generalize B.take (kk + 1) = T at *
      generalize B.drop (kk + 1) = R at *
      have HZO := Lib.hid hzo
      have hk1 : IntKind.i64.wrap ((kk : Int) + 1) = (kk : Int) + 1 := IntWalk.i64_in _ (by omega)
      have hk2 : (((kk : Int) + 1) == 0) = false := by simp; omega
      have hk3 : ((10 : Int) < (kk : Int) + 1) = False := by simp; omega
      obtain ⟨m, hm⟩ : ∃ m, m = T.length := ⟨_, rfl⟩
      rw [← hm] at hgood hTl
      have hm0 : 1 ≤ m ∧ m ≤ 10 := by omega
      obtain ⟨hm1, hm2⟩ := hm0
      have HM := Lib.hid hm
      have HN' := Lib.hid hN.symm
      clear hbad hbt hgt hzo hfl hN hkk h10 hkn hm hTl hNw
      go_enter Try.func26, Try.ntmps26
      go_wp2_with (first
        | (go_at_call 71; refine hlow.mono ?_; clear hlow; rintro e w1 ⟨rfl, q1, rfl⟩; have hv1 := hv.ext ((Ext.refl w).drewN q1); have u1 : Upd (fun b => b = k) w (w.drewN q1) := (Upd.refl _ w).drewN q1; obtain ⟨d0, d1, _⟩ := hv1.cells; rw [HN'.out] at d0; have hT := hgood (w.drewN q1) ⟨_, _, hv1⟩)
        | (go_at_call 73; refine hT.mono ?_; clear hT; rintro e w2 ⟨AT, cT, rfl, hcT, hxT, hbT, tR, uR⟩))
      obtain ⟨A2, c2, hv2⟩ := tR
      obtain ⟨e0, e1, ef⟩ := hv2.cells
      have u2 := u1.trans uR
      obtain ⟨t3, u3⟩ := hv2.fails
      go_wp2_with fail
      go_loopg [4, 32] m (fun g u i wr => ∃ j : Nat, j ≤ m ∧ m - j ≤ g ∧ i = .int .i64 j ∧ u = .int .u64 ((zv (T.take j) % 18446744073709551616 : Nat) : Int) ∧ wr = w2)
      case atStart => exact ⟨0, by omega, by omega, rfl, by rfl, rfl⟩
      case round =>
        obtain ⟨j, hj, hg, rfl, rfl, rfl⟩ := hrel
        by_cases hlt : j < m
        · have hjm : (j : Int) < (m : Int) := by omega
          have hjT : j < T.length := by rw [← HM.out]; exact hlt
          obtain ⟨b, o, rfl, hcell⟩ := hxT.at_ (k := j) hjT
          have hgo := group_or T j hjT (by omega)
          obtain ⟨x, hx⟩ : ∃ x, x = T[j] := ⟨_, rfl⟩
          rw [← hx] at hcell hgo
          have HG := Lib.hid hgo
          have hj7 : IntKind.i64.wrap (7 * (j : Int)) = 7 * (j : Int) := IntWalk.i64_in _ (by omega)
          clear hgo hx hjT
          generalize zv (T.take j) % 18446744073709551616 = ua at *
          go_wp2_with fail
          go_roundg (m - (j + 1))
          case measure => omega
          case rel => exact ⟨j + 1, by omega, by omega, by go_num, by rw [HG.out], rfl⟩
        · obtain rfl : j = m := by omega
          have hTT : T.take j = T := by rw [HM.out, List.take_length]
          rw [hTT]
          obtain ⟨u, hu⟩ : ∃ u, u = zv T % 18446744073709551616 := ⟨_, rfl⟩
          have hu64 : u < 18446744073709551616 := by rw [hu]; exact Nat.mod_lt _ (by decide)
          rw [← hu]
          have hzr := zag_range u hu64
          have HU := Lib.hid hu
          have hZ := f74_any u wr hu64
          have hY := f76_any (zag u) wr hzr.1 hzr.2
          rw [zz_zag] at hY
          have hzl := zb_len64 u hu64
          have hzp := zb_pos u
          have hm1' : j = T.length := HM.out
          have hzo := HZO.out
          rw [← hu] at hzo
          by_cases heq : zb u = T
          · rw [if_pos heq] at hzo
            subst hzo
            have HEQ := Lib.hid heq
            have HM1 := Lib.hid hm1'
            clear hTT hu hlt hg hj heq hm1'
            go_wp2_with (first
              | (go_at_call 74; refine hZ.mono ?_; clear hZ; rintro e w4 ⟨rfl, rfl⟩)
              | (go_at_call 76; refine hY.mono ?_; clear hY; rintro e w5 ⟨v5, rfl, o5, x5⟩; obtain ⟨A5, c5, rfl, _, hx5⟩ := o5.octs_form; have hE := equal_octs A5 AT (zb u) T c5 cT w5 (by omega) (by have := HM1.out; omega) (by omega) (by have := HM1.out; omega) hx5 (hxT.ext x5); rw [decide_eq_true HEQ.out, ← HM1.out] at hE)
              | (go_at_call 75; refine hE.mono ?_; clear hE; rintro e w6 ⟨rfl, q6, rfl⟩))
            go_ret
            exact ⟨rfl, ⟨_, _, hv2.ext (x5.drewN q6)⟩, u2.trans' (Upd.of_ext (fun _ => False) (x5.drewN q6)) (fun _ y => y.elim)⟩
          · rw [if_neg heq] at hzo
            subst hzo
            have HEQ := Lib.hid heq
            have HM1 := Lib.hid hm1'
            clear hTT hu hlt hg hj heq hm1'
            go_wp2_with (first
              | (go_at_call 74; refine hZ.mono ?_; clear hZ; rintro e w4 ⟨rfl, rfl⟩)
              | (go_at_call 76; refine hY.mono ?_; clear hY; rintro e w5 ⟨v5, rfl, o5, x5⟩; obtain ⟨A5, c5, rfl, _, hx5⟩ := o5.octs_form; have hE := equal_octs A5 AT (zb u) T c5 cT w5 (by omega) (by have := HM1.out; omega) (by omega) (by have := HM1.out; omega) hx5 (hxT.ext x5); rw [decide_eq_false HEQ.out, ← HM1.out] at hE)
              | (go_at_call 75; refine hE.mono ?_; clear hE; rintro e w6 ⟨rfl, q6, rfl⟩; have hv6 := hv2.ext (x5.drewN q6); obtain ⟨p0, p1, pf⟩ := hv6.cells; obtain ⟨t6, u6⟩ := hv6.fails))
            go_ret
            exact ⟨rfl, t6, (u2.trans' (Upd.of_ext (fun _ => False) (x5.drewN q6)) (fun _ y => y.elim)).trans u6⟩
end Go.Proofs.Ytghkkhafnkkomaa
