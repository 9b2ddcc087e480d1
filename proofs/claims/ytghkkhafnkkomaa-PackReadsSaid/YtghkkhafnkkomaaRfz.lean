/- The document's reading (layer 4): Zig. -/
import Derived.Test.YtghkkhafnkkomaaRfR
import Derived.Test.YtghkkhafnkkomaaRz3
import Derived.Test.YtghkkhafnkkomaaZr
namespace Go.Proofs.Ytghkkhafnkkomaa
open Go.RowKit
open Go.Proofs

theorem firstLow_is (B : List UInt8) (j : Nat) (h : j < B.length) (hb : ∀ i (hi : i < B.length), i < j → 128 ≤ B[i].toNat) (hl : B[j].toNat < 128) : firstLow B = some j := by
  unfold firstLow
  rw [List.findIdx?_eq_some_iff_getElem]
  refine ⟨h, by simpa using hl, fun i hi => ?_⟩
  have := hb i (by omega) hi
  simp
  omega
theorem zig_none (B : List UInt8) (j : Nat) (hb : ∀ i (hi : i < B.length), i < j → 128 ≤ B[i].toNat) (h : 10 ≤ j ∨ B.length ≤ j) : zigOut B = (0, [], true) := by
  have hr : rZig B = none := by
    unfold rZig
    cases hf : firstLow B with
    | none => rfl
    | some k =>
      unfold firstLow at hf
      rw [List.findIdx?_eq_some_iff_getElem] at hf
      obtain ⟨h1, h2, _⟩ := hf
      have : ¬ k < j := fun e => by
        have := hb k h1 e
        simp at h2
        omega
      simp only
      rw [if_pos (by omega)]
  rw [zigOut, hr]
theorem acc_nat (a d p : Nat) : IntKind.u64.wrap (((a % 18446744073709551616 : Nat) : Int) + IntKind.u64.wrap ((d : Int) * ((p % 18446744073709551616 : Nat) : Int))) = (((a + d * p) % 18446744073709551616 : Nat) : Int) := by
  rw [IntKind.wrap_u64, IntKind.wrap_u64]
  have e : (((a % 18446744073709551616 : Nat) : Int) + (d : Int) * ((p % 18446744073709551616 : Nat) : Int) % 18446744073709551616) % 18446744073709551616 = (((a % 18446744073709551616 + d * (p % 18446744073709551616) % 18446744073709551616) % 18446744073709551616 : Nat) : Int) := by
    simp only [Int.natCast_emod, Int.natCast_add, Int.natCast_mul, Int.cast_ofNat_Int]
  rw [e, Nat.mod_add_mod, Nat.add_mod, Nat.mod_mod, ← Nat.add_mod, Nat.add_mod, Nat.mul_mod_mod, ← Nat.add_mod]
theorem pow_nat (p : Nat) : IntKind.u64.wrap (((p % 18446744073709551616 : Nat) : Int) * 128) = ((p * 128 % 18446744073709551616 : Nat) : Int) := by
  rw [IntKind.wrap_u64]
  omega

set_option maxRecDepth 100000 in
set_option maxHeartbeats 1000000 in
theorem f39_any (k : Nat) (B : List UInt8) (f : Bool) (w : World) (hB : B.length ≤ 4294967290) (h : RfAt w k B f) (hf0 : f = true → B = []) :
    Calls Try.prog 39 #[.pointer (some ⟨k, 0, none⟩)] w fun e w' => e = .returned (.int .i64 (zigOut B).1) ∧ RfAt w' k (zigOut B).2.1 (zigOut B).2.2 ∧ Upd (fun b => b = k) w w' := by
  obtain ⟨c0, c1, hz⟩ := h.cells
  obtain ⟨N, hN⟩ : ∃ N, N = B.length := ⟨_, rfl⟩
  have HN := Lib.hid hN
  obtain ⟨R, hR⟩ : ∃ R, zigOut B = R := ⟨_, rfl⟩
  rw [hR]
  have HR := Lib.hid hR
  clear hR
  go_enter Try.func39, Try.ntmps39
  go_wp2_with fail
  go_loopg [3, 4, 5, 6, 7] 10 (fun g u p i _ _ wr => ∃ j a q : Nat, j ≤ 10 ∧ j ≤ N ∧ 10 - j ≤ g ∧ i = .int .i64 ((j : Int) + 1) ∧ u = .int .u64 (a : Int) ∧ p = .int .u64 (q : Int) ∧ Hid (a = zv (B.take j) % 18446744073709551616) ∧ Hid (q = 128 ^ j % 18446744073709551616) ∧ Hid (∀ i (hi : i < B.length), i < j → 128 ≤ B[i].toNat) ∧ wr = w)
  case atStart => exact ⟨0, 0, 1, by omega, by omega, by omega, rfl, rfl, rfl, rfl, rfl, fun i _ h => by omega, rfl⟩
  case round =>
    obtain ⟨j, a, q, hj, hjN, hg, rfl, rfl, rfl, ha, hq, hmk, rfl⟩ := hrel
    by_cases hgo : j < 10 ∧ j < N
    · obtain ⟨h10, hlt⟩ := hgo
      have hltB : j < B.length := by omega
      have hji : (j : Int) + 1 ≤ 10 := by omega
      have hjl : (j : Int) + 1 ≤ (B.length : Int) := by omega
      obtain ⟨a2, ha2⟩ : ∃ a2, a2 = zv (B.take (j + 1)) % 18446744073709551616 := ⟨_, rfl⟩
      obtain ⟨q2, hq2⟩ : ∃ q2, q2 = 128 ^ (j + 1) % 18446744073709551616 := ⟨_, rfl⟩
      obtain ⟨x, hx⟩ : ∃ x, x = B[j] := ⟨_, rfl⟩
      obtain ⟨d, hd⟩ : ∃ d, d = x.toNat % 128 := ⟨_, rfl⟩
      have hbj : ∀ h, ({ data := B.toArray } : ByteArray)[j]'h = x := fun h => by rw [hx]; rfl
      have hxl := x.toNat_lt
      have hxw : IntKind.u64.wrap ((x.toNat : Nat) : Int) = ((x.toNat : Nat) : Int) := by rw [IntKind.wrap_u64]; omega
      have hxt : ((x.toNat : Nat) : Int).tmod 128 = (d : Int) := by rw [hd, Int.tmod_eq_emod_of_nonneg (by omega)]; omega
      have hxm : ((x.toNat : Nat) : Int) % 128 = (d : Int) := by omega
      obtain ⟨dp, hdp⟩ : ∃ dp : Nat, IntKind.u64.wrap ((d : Int) * (q : Int)) = (dp : Int) := ⟨((d : Int) * (q : Int) % 18446744073709551616).toNat, by rw [IntKind.wrap_u64]; omega⟩
      have hadd : IntKind.u64.wrap ((a : Int) + (dp : Int)) = (a2 : Int) := by
        rw [← hdp, ha.out, hq.out, acc_nat, ha2, List.take_succ_eq_append_getElem hltB, zv_snoc, List.length_take, Nat.min_eq_left (by omega), hd, hx]
      have hpow : IntKind.u64.wrap ((q : Int) * 128) = (q2 : Int) := by rw [hq.out, pow_nat, hq2, Nat.pow_succ]
      have ha2l : a2 < 18446744073709551616 := by rw [ha2]; exact Nat.mod_lt _ (by decide)
      have HA2 := Lib.hid ha2
      have HQ2 := Lib.hid hq2
      have HX := Lib.hid hx
      clear ha2 hq2 hx hd
      by_cases hlo : x.toNat < 128
      · have hlo' : (128 ≤ ((x.toNat : Nat) : Int)) = False := by simp; omega
        obtain rfl : f = false := by
          cases f with
          | false => rfl
          | true => rw [hf0 rfl] at hltB; simp at hltB
        have hr2 := zag_range a2 ha2l
        have HZ := fun W => f24_any (zag a2) W hr2.1 hr2.2
        rw [zz_zag] at HZ
        have hfl := firstLow_is B j hltB hmk.out (by rw [← HX.out]; omega)
        have hst := str_take B (j + 1) hltB
        have hsd := str_drop B (j + 1)
        have hout : zigOut B = if zb a2 = B.take (j + 1) then (zag a2, B.drop (j + 1), false) else (0, [], true) := by
          rw [zigOut, rZig, hfl]
          simp only
          rw [if_neg (by omega), ← HA2.out]
          by_cases e : zb a2 = B.take (j + 1)
          · rw [if_pos e, if_pos e]
          · rw [if_neg e, if_neg e]
        have HO := Lib.hid hout
        clear hout hfl hlo
        have hj0 : (0 : Int) ≤ (j : Int) + 1 := by omega
        have hjw : ((j : Int) + 1).toNat = j + 1 := by omega
        rcases Nat.mod_two_eq_zero_or_one a2 with hpar | hpar
        · have hp1 : ((a2 : Int) % 2 == 1) = false := by simp; omega
          have hze : (a2 : Int) / 2 = zag a2 := by
            rw [zag, if_pos hpar]
            omega
          clear hpar
          go_wp2_with fail
          refine wp_region_held_drew (S := fun w' => Ext wr w') (by kernel_rfl) ((Ext.refl _).drew) (fun hS => ?_)
          refine takeH (i := 0) (v := ?_) rfl rfl (by kernel_rfl) (by kernel_rfl) (by kernel_rfl) (fun _ _ _ h => h) (Or.inl ⟨by kernel_rfl, ?_⟩) hS ?_
          rotate_left 1
          · (intro w' hS'; go_simp; try (with_reducible rfl))
          simp only [List.setIfInBounds_toArray, List.set_cons_succ, List.set_cons_zero]
          refine takeH (i := 2) (v := ?_) rfl rfl (by kernel_rfl) (by kernel_rfl) (by kernel_rfl) (fun _ _ _ h => h) (Or.inl ⟨by kernel_rfl, ?_⟩) hS ?_
          rotate_left 1
          · (intro w' hS'; go_simp; try (with_reducible rfl))
          simp only [List.setIfInBounds_toArray, List.set_cons_succ, List.set_cons_zero]
          refine takeH (i := 3) (v := ?_) rfl rfl (by kernel_rfl) (by kernel_rfl) (by kernel_rfl) (fun _ _ _ h => h) (Or.inl ⟨by kernel_rfl, ?_⟩) hS ?_
          rotate_left 1
          · (intro w' hS'; go_simp; try (with_reducible rfl))
          simp only [List.setIfInBounds_toArray, List.set_cons_succ, List.set_cons_zero]
          refine takeH (i := 4) (v := ?_) rfl rfl (by kernel_rfl) (by kernel_rfl) (by kernel_rfl) (fun _ _ _ h => h) (Or.inl ⟨by kernel_rfl, ?_⟩) hS ?_
          rotate_left 1
          · (intro w' hS'; go_simp; try (with_reducible rfl))
          simp only [List.setIfInBounds_toArray, List.set_cons_succ, List.set_cons_zero]
          refine takeH (i := 5) (v := ?_) rfl rfl (by kernel_rfl) (by kernel_rfl) (by kernel_rfl) (fun _ _ _ h => h) (Or.inl ⟨by kernel_rfl, ?_⟩) hS ?_
          rotate_left 1
          · (intro w' hS'; have g0 := hS'.cell c0; go_simp; try (with_reducible rfl))
          simp only [List.setIfInBounds_toArray, List.set_cons_succ, List.set_cons_zero]
          refine takeH (i := 6) (v := ?_) rfl rfl (by kernel_rfl) (by kernel_rfl) (by kernel_rfl) (fun _ _ _ h => h) (Or.inl ⟨by kernel_rfl, ?_⟩) hS ?_
          rotate_left 1
          · (intro w' hS'; go_simp; try (with_reducible rfl))
          simp only [List.setIfInBounds_toArray, List.set_cons_succ, List.set_cons_zero]
          refine takeH (i := 7) (v := ?_) rfl rfl (by kernel_rfl) (by kernel_rfl) (by kernel_rfl) (fun _ _ _ h => h) (Or.inl ⟨by kernel_rfl, ?_⟩) hS ?_
          rotate_left 1
          · (intro w' hS'; go_simp; try (with_reducible rfl))
          simp only [List.setIfInBounds_toArray, List.set_cons_succ, List.set_cons_zero]
          refine wpAnyH_ready (rs := [1]) (by kernel_rfl) (by simp) ?_
          refine AllReadyH.cons rfl (fun K hK => ?_) ?_
          rotate_left 1
          · exact AllReadyH.nil
          go_simp
          refine (HZ _).mono ?_; rintro e wz ⟨rfl, xz⟩
          refine hK.out _ _ (hS.trans xz) (fun hS => ?_)
          clear hK K
          refine takeH (i := 8) (v := ?_) rfl rfl (by kernel_rfl) (by kernel_rfl) (by kernel_rfl) (fun _ _ _ h => h) (Or.inl ⟨by kernel_rfl, ?_⟩) hS ?_
          rotate_left 1
          · (intro w' hS'; go_simp; try (with_reducible rfl))
          simp only [List.setIfInBounds_toArray, List.set_cons_succ, List.set_cons_zero]
          refine wpAnyH_done (by kernel_rfl) ?_ _
          have h5 := h.ext hS
          obtain ⟨d0, d1, dz⟩ := h5.cells
          by_cases e : zb a2 = B.take (j + 1)
          · obtain rfl : R = (zag a2, B.drop (j + 1), false) := HR.out.symm.trans (by rw [HO.out, if_pos e])
            have hne : (zb a2 == B.take (j + 1)) = true := by rw [e]; exact beq_self_eq_true _
            rw [hne, Bool.not_true]
            obtain ⟨t1, u1⟩ := h5.goes (B.drop (j + 1))
            clear e
            go_wp2_with fail
            go_ret
            exact ⟨rfl, t1, (Upd.of_ext _ hS).trans u1⟩
          · obtain rfl : R = (0, [], true) := HR.out.symm.trans (by rw [HO.out, if_neg e])
            have hne : (zb a2 == B.take (j + 1)) = false := beq_eq_false_iff_ne.2 e
            rw [hne, Bool.not_false]
            obtain ⟨t1, u1⟩ := h5.fails
            clear e
            go_wp2_with fail
            go_ret
            exact ⟨rfl, t1, (Upd.of_ext _ hS).trans u1⟩
        · have hp1 : ((a2 : Int) % 2 == 1) = true := by simp; omega
          obtain ⟨z, hzz⟩ : ∃ z, z = a2 / 2 := ⟨_, rfl⟩
          have hze : (a2 : Int) / 2 = (z : Int) := by omega
          have hzl : z < 9223372036854775808 := by omega
          have hzg : -(z : Int) - 1 = zag a2 := by
            rw [zag, if_neg (by omega)]
            omega
          clear hzz
          clear hpar
          go_wp2_with fail
          refine wp_region_held_drew (S := fun w' => Ext wr w') (by kernel_rfl) ((Ext.refl _).drew) (fun hS => ?_)
          refine takeH (i := 0) (v := ?_) rfl rfl (by kernel_rfl) (by kernel_rfl) (by kernel_rfl) (fun _ _ _ h => h) (Or.inl ⟨by kernel_rfl, ?_⟩) hS ?_
          rotate_left 1
          · (intro w' hS'; go_simp; try (with_reducible rfl))
          simp only [List.setIfInBounds_toArray, List.set_cons_succ, List.set_cons_zero]
          refine takeH (i := 2) (v := ?_) rfl rfl (by kernel_rfl) (by kernel_rfl) (by kernel_rfl) (fun _ _ _ h => h) (Or.inl ⟨by kernel_rfl, ?_⟩) hS ?_
          rotate_left 1
          · (intro w' hS'; go_simp; try (with_reducible rfl))
          simp only [List.setIfInBounds_toArray, List.set_cons_succ, List.set_cons_zero]
          refine takeH (i := 3) (v := ?_) rfl rfl (by kernel_rfl) (by kernel_rfl) (by kernel_rfl) (fun _ _ _ h => h) (Or.inl ⟨by kernel_rfl, ?_⟩) hS ?_
          rotate_left 1
          · (intro w' hS'; go_simp; try (with_reducible rfl))
          simp only [List.setIfInBounds_toArray, List.set_cons_succ, List.set_cons_zero]
          refine takeH (i := 4) (v := ?_) rfl rfl (by kernel_rfl) (by kernel_rfl) (by kernel_rfl) (fun _ _ _ h => h) (Or.inl ⟨by kernel_rfl, ?_⟩) hS ?_
          rotate_left 1
          · (intro w' hS'; go_simp; try (with_reducible rfl))
          simp only [List.setIfInBounds_toArray, List.set_cons_succ, List.set_cons_zero]
          refine takeH (i := 5) (v := ?_) rfl rfl (by kernel_rfl) (by kernel_rfl) (by kernel_rfl) (fun _ _ _ h => h) (Or.inl ⟨by kernel_rfl, ?_⟩) hS ?_
          rotate_left 1
          · (intro w' hS'; have g0 := hS'.cell c0; go_simp; try (with_reducible rfl))
          simp only [List.setIfInBounds_toArray, List.set_cons_succ, List.set_cons_zero]
          refine takeH (i := 6) (v := ?_) rfl rfl (by kernel_rfl) (by kernel_rfl) (by kernel_rfl) (fun _ _ _ h => h) (Or.inl ⟨by kernel_rfl, ?_⟩) hS ?_
          rotate_left 1
          · (intro w' hS'; go_simp; try (with_reducible rfl))
          simp only [List.setIfInBounds_toArray, List.set_cons_succ, List.set_cons_zero]
          refine takeH (i := 7) (v := ?_) rfl rfl (by kernel_rfl) (by kernel_rfl) (by kernel_rfl) (fun _ _ _ h => h) (Or.inl ⟨by kernel_rfl, ?_⟩) hS ?_
          rotate_left 1
          · (intro w' hS'; go_simp; try (with_reducible rfl))
          simp only [List.setIfInBounds_toArray, List.set_cons_succ, List.set_cons_zero]
          refine wpAnyH_ready (rs := [1]) (by kernel_rfl) (by simp) ?_
          refine AllReadyH.cons rfl (fun K hK => ?_) ?_
          rotate_left 1
          · exact AllReadyH.nil
          go_simp
          refine (HZ _).mono ?_; rintro e wz ⟨rfl, xz⟩
          refine hK.out _ _ (hS.trans xz) (fun hS => ?_)
          clear hK K
          refine takeH (i := 8) (v := ?_) rfl rfl (by kernel_rfl) (by kernel_rfl) (by kernel_rfl) (fun _ _ _ h => h) (Or.inl ⟨by kernel_rfl, ?_⟩) hS ?_
          rotate_left 1
          · (intro w' hS'; go_simp; try (with_reducible rfl))
          simp only [List.setIfInBounds_toArray, List.set_cons_succ, List.set_cons_zero]
          refine wpAnyH_done (by kernel_rfl) ?_ _
          have h5 := h.ext hS
          obtain ⟨d0, d1, dz⟩ := h5.cells
          by_cases e : zb a2 = B.take (j + 1)
          · obtain rfl : R = (zag a2, B.drop (j + 1), false) := HR.out.symm.trans (by rw [HO.out, if_pos e])
            have hne : (zb a2 == B.take (j + 1)) = true := by rw [e]; exact beq_self_eq_true _
            rw [hne, Bool.not_true]
            obtain ⟨t1, u1⟩ := h5.goes (B.drop (j + 1))
            clear e
            go_wp2_with fail
            go_ret
            exact ⟨rfl, t1, (Upd.of_ext _ hS).trans u1⟩
          · obtain rfl : R = (0, [], true) := HR.out.symm.trans (by rw [HO.out, if_neg e])
            have hne : (zb a2 == B.take (j + 1)) = false := beq_eq_false_iff_ne.2 e
            rw [hne, Bool.not_false]
            obtain ⟨t1, u1⟩ := h5.fails
            clear e
            go_wp2_with fail
            go_ret
            exact ⟨rfl, t1, (Upd.of_ext _ hS).trans u1⟩
      · have hhi : 128 ≤ ((x.toNat : Nat) : Int) := by omega
        have hmk2 : Hid (∀ i (hi : i < B.length), i < j + 1 → 128 ≤ B[i].toNat) := by
          intro i hi hij
          by_cases e : i = j
          · subst e; rw [← HX.out]; omega
          · exact hmk.out i hi (by omega)
        clear hlo
        go_wp2_with fail
        go_roundg (10 - (j + 1))
        case measure => omega
        case rel => exact ⟨j + 1, a2, q2, by omega, by omega, by omega, by go_num, rfl, rfl, HA2, HQ2, hmk2, rfl⟩
    · have hout := zig_none B j hmk.out (by omega)
      obtain rfl : R = (0, [], true) := HR.out.symm.trans hout
      obtain ⟨t1, u1⟩ := h.fails
      by_cases h10 : j < 10
      · have hji : (j : Int) + 1 ≤ 10 := by omega
        have hjl : ((j : Int) + 1 ≤ (B.length : Int)) = False := by simp; omega
        clear hgo hout
        go_wp2_with fail
        go_ret
        exact ⟨rfl, t1, u1⟩
      · have hji : ((j : Int) + 1 ≤ 10) = False := by simp; omega
        clear hgo hout
        go_wp2_with fail
        go_ret
        exact ⟨rfl, t1, u1⟩
end Go.Proofs.Ytghkkhafnkkomaa
