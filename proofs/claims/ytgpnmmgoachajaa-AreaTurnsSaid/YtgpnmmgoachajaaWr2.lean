/- Layer 4's writing: Num, Zig and Text. -/
import Derived.Test.YtgpnmmgoachajaaWr
namespace Go.Proofs.Ytgpnmmgoachajaa
open Go.RowKit
open Go.Proofs

set_option maxRecDepth 100000 in
theorem f65_any (k : Nat) (F : Nat → Prop) (n size : Int) (l : List UInt8) (w : World) (hl : l.length ≤ 4294960000) (h : WrAt w k F l) :
    Calls Try.prog 76 #[.pointer (some ⟨k, 0, none⟩), .int .i64 n, .int .i64 size] w fun e w' => e = .returned (.pointer (some ⟨k, 0, none⟩)) ∧ WrAt w' k (Since F w w') (l ++ leN (wid size) (u64of n)) ∧ Upd F w w' := by
  obtain ⟨v, h⟩ := h
  obtain ⟨c0, hf⟩ := h.cells
  obtain ⟨A, c, rfl, hc, _, hx⟩ := h.own.octs_form
  have hlen : (leN (wid size) (u64of n)).length ≤ 8 := by rw [length_leN]; exact wid_le size
  obtain ⟨m, hm⟩ : ∃ m, m = leN (wid size) (u64of n) := ⟨_, rfl⟩
  rw [← hm] at hlen ⊢
  have HM := Lib.hid hm
  clear hm hx
  go_enter Try.func76, Try.ntmps76
  go_wp2_with fail
  have hT : Hid (Ext w w.drew) := (Ext.refl w).drew
  refine wp_region_held_drew (S := fun _ => True) (by kernel_rfl) (trivial) (fun hS => ?_)
  refine takeH (i := 0) (v := ?_) rfl rfl (by kernel_rfl) (by kernel_rfl) (by kernel_rfl) (fun _ _ _ h => h) (Or.inl ⟨by kernel_rfl, ?_⟩) hS ?_
  rotate_left 1
  · (intro w' hS'; go_simp; try (with_reducible rfl))
  simp only [List.setIfInBounds_toArray, List.set_cons_succ, List.set_cons_zero]
  refine takeH (i := 1) (v := ?_) rfl rfl (by kernel_rfl) (by kernel_rfl) (by kernel_rfl) (fun _ _ _ h => h) (Or.inl ⟨by kernel_rfl, ?_⟩) hS ?_
  rotate_left 1
  · (intro w' hS'; go_simp; try (with_reducible rfl))
  simp only [List.setIfInBounds_toArray, List.set_cons_succ, List.set_cons_zero]
  refine takeH (i := 2) (v := ?_) rfl rfl (by kernel_rfl) (by kernel_rfl) (by kernel_rfl) (fun _ _ _ h => h) (Or.inl ⟨by kernel_rfl, ?_⟩) hS ?_
  rotate_left 1
  · (intro w' hS'; go_simp; try (with_reducible rfl))
  simp only [List.setIfInBounds_toArray, List.set_cons_succ, List.set_cons_zero]
  refine takeH (i := 3) (v := ?_) rfl rfl (by kernel_rfl) (by kernel_rfl) (by kernel_rfl) (fun _ _ _ h => h) (Or.inl ⟨by kernel_rfl, ?_⟩) hS ?_
  rotate_left 1
  · (intro w' hS'; go_simp; try (with_reducible rfl))
  simp only [List.setIfInBounds_toArray, List.set_cons_succ, List.set_cons_zero]
  refine takeH (i := 5) (v := ?_) rfl rfl (by kernel_rfl) (by kernel_rfl) (by kernel_rfl) (fun _ _ _ h => h) (Or.inl ⟨by kernel_rfl, ?_⟩) hS ?_
  rotate_left 1
  · (intro w' hS'; go_simp; try (with_reducible rfl))
  simp only [List.setIfInBounds_toArray, List.set_cons_succ, List.set_cons_zero]
  refine takeH (i := 6) (v := ?_) rfl rfl (by kernel_rfl) (by kernel_rfl) (by kernel_rfl) (fun _ _ _ h => h) (Or.inl ⟨by kernel_rfl, ?_⟩) hS ?_
  rotate_left 1
  · (intro w' hS'; go_simp; try (with_reducible rfl))
  simp only [List.setIfInBounds_toArray, List.set_cons_succ, List.set_cons_zero]
  refine wpAnyH_ready (rs := [4, 7]) (by kernel_rfl) (by simp) ?_
  refine AllReadyH.cons rfl (fun K hK => ?_) ?_
  · skip
    go_simp
    refine hK.out _ _ (trivial) (fun hS => ?_)
    clear hK K
    refine wpAnyH_ready (rs := [7]) (by kernel_rfl) (by simp) ?_
    refine AllReadyH.cons rfl (fun K hK => ?_) ?_
    rotate_left 1
    · exact AllReadyH.nil
    go_simp
    refine (f97_sz n size _).mono ?_; rintro e wa ⟨va, rfl, oa, xa⟩; rw [← HM.out] at oa; have x1 := hT.out.trans xa; have hT := Lib.hid x1; have c1 := x1.cell c0; have h1 := h.ext x1
    refine hK.out _ _ (trivial) (fun hS => ?_)
    clear hK K
    refine wpAnyH_ready (rs := [8]) (by kernel_rfl) (by simp) ?_
    refine AllReadyH.cons rfl (fun K hK => ?_) ?_
    rotate_left 1
    · exact AllReadyH.nil
    obtain ⟨A2, c2, rfl, hc2, hx2⟩ := oa.octs_form; refine step_append_octs rfl (.tmp 11) (.tmp 14) rfl (.slice A l.length c) l (by simp [Act.eval]) h1.own A2 m.length c2 m (by simp [Act.eval]) rfl hx2 (by omega) ?_; intro v3 w3 m3 u3 b3; obtain ⟨B3, n3, d3, rfl⟩ := m3.slice; obtain ⟨q0, qf, t3, s3⟩ := h1.set u3 m3 b3
    try go_simp
    refine hK.out _ _ (trivial) (fun hS => ?_)
    clear hK K
    refine takeH (i := 9) (v := ?_) rfl rfl (by kernel_rfl) (by kernel_rfl) (by kernel_rfl) (fun _ _ _ h => h) (Or.inl ⟨by kernel_rfl, ?_⟩) hS ?_
    rotate_left 1
    · (intro w' hS'; go_simp; try (with_reducible rfl))
    simp only [List.setIfInBounds_toArray, List.set_cons_succ, List.set_cons_zero]
    refine takeH (i := 10) (v := ?_) rfl rfl (by kernel_rfl) (by kernel_rfl) (by kernel_rfl) (fun _ _ _ h => h) (Or.inl ⟨by kernel_rfl, ?_⟩) hS ?_
    rotate_left 1
    · (intro w' hS'; go_simp; try (with_reducible rfl))
    simp only [List.setIfInBounds_toArray, List.set_cons_succ, List.set_cons_zero]
    refine wpAnyH_ready (rs := [11]) (by kernel_rfl) (by simp) ?_
    refine AllReadyH.cons rfl (fun K hK => ?_) ?_
    rotate_left 1
    · exact AllReadyH.nil
    go_simp
    refine hK.out _ _ (trivial) (fun hS => ?_)
    clear hK K
    refine wpAnyH_done (by kernel_rfl) ?_ _
    go_wp2_with fail
    go_ret
    exact ⟨rfl, ⟨_, t3.mono (fun b hb => by
      rcases hb with hb | hb
      · exact .inl hb
      · exact .inr ⟨Nat.le_trans x1.size hb.1, by simpa using hb.2⟩)⟩, (Upd.of_ext F x1).trans s3⟩
  refine AllReadyH.cons rfl (fun K hK => ?_) ?_
  · skip
    go_simp
    refine (f97_sz n size _).mono ?_; rintro e wa ⟨va, rfl, oa, xa⟩; rw [← HM.out] at oa; have x1 := hT.out.trans xa; have hT := Lib.hid x1; have c1 := x1.cell c0; have h1 := h.ext x1
    refine hK.out _ _ (trivial) (fun hS => ?_)
    clear hK K
    refine wpAnyH_ready (rs := [4]) (by kernel_rfl) (by simp) ?_
    refine AllReadyH.cons rfl (fun K hK => ?_) ?_
    rotate_left 1
    · exact AllReadyH.nil
    go_simp
    refine hK.out _ _ (trivial) (fun hS => ?_)
    clear hK K
    refine wpAnyH_ready (rs := [8]) (by kernel_rfl) (by simp) ?_
    refine AllReadyH.cons rfl (fun K hK => ?_) ?_
    rotate_left 1
    · exact AllReadyH.nil
    obtain ⟨A2, c2, rfl, hc2, hx2⟩ := oa.octs_form; refine step_append_octs rfl (.tmp 11) (.tmp 14) rfl (.slice A l.length c) l (by simp [Act.eval]) h1.own A2 m.length c2 m (by simp [Act.eval]) rfl hx2 (by omega) ?_; intro v3 w3 m3 u3 b3; obtain ⟨B3, n3, d3, rfl⟩ := m3.slice; obtain ⟨q0, qf, t3, s3⟩ := h1.set u3 m3 b3
    try go_simp
    refine hK.out _ _ (trivial) (fun hS => ?_)
    clear hK K
    refine takeH (i := 9) (v := ?_) rfl rfl (by kernel_rfl) (by kernel_rfl) (by kernel_rfl) (fun _ _ _ h => h) (Or.inl ⟨by kernel_rfl, ?_⟩) hS ?_
    rotate_left 1
    · (intro w' hS'; go_simp; try (with_reducible rfl))
    simp only [List.setIfInBounds_toArray, List.set_cons_succ, List.set_cons_zero]
    refine takeH (i := 10) (v := ?_) rfl rfl (by kernel_rfl) (by kernel_rfl) (by kernel_rfl) (fun _ _ _ h => h) (Or.inl ⟨by kernel_rfl, ?_⟩) hS ?_
    rotate_left 1
    · (intro w' hS'; go_simp; try (with_reducible rfl))
    simp only [List.setIfInBounds_toArray, List.set_cons_succ, List.set_cons_zero]
    refine wpAnyH_ready (rs := [11]) (by kernel_rfl) (by simp) ?_
    refine AllReadyH.cons rfl (fun K hK => ?_) ?_
    rotate_left 1
    · exact AllReadyH.nil
    go_simp
    refine hK.out _ _ (trivial) (fun hS => ?_)
    clear hK K
    refine wpAnyH_done (by kernel_rfl) ?_ _
    go_wp2_with fail
    go_ret
    exact ⟨rfl, ⟨_, t3.mono (fun b hb => by
      rcases hb with hb | hb
      · exact .inl hb
      · exact .inr ⟨Nat.le_trans x1.size hb.1, by simpa using hb.2⟩)⟩, (Upd.of_ext F x1).trans s3⟩
  exact AllReadyH.nil

end Go.Proofs.Ytgpnmmgoachajaa
