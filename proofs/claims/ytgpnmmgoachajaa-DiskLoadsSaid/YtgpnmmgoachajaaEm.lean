/- The walk of DiskLoads. -/
import Derived.Test.YtgpnmmgoachajaaEl
import Derived.Test.YtgpnmmgoachajaaHd
namespace Go.Proofs.Ytgpnmmgoachajaa
open Go.RowKit Go.Shelf
open Go.Proofs

theorem load_crash (l : List UInt8) (m : Nat) : dkCrash (dkLoad l m m) [] (-1) 0 = dkLoad l m m := rfl

set_option maxRecDepth 100000 in
set_option maxHeartbeats 8000000 in
theorem f6_any (A : Option Addr) (l : List UInt8) (n c : Nat) (w : World) (hl : l.length = n) (hc : n ≤ c) (hn : n ≤ 9223372036854775807) (hx : Octs w A l) : Calls Try.prog 6 #[.slice A n c] w fun e w' => e = .returned (.bool true) ∧ Ext w w' := by
  have X := Ext.refl w
  by_cases hbig : 2000 < n
  · have g1 : ((2000 : Int) < (n : Int)) = True := eq_true (by omega)
    clear hbig
    go_enter Try.func6, Try.ntmps6
    go_wp2_with (go_at_call 14; refine (f14_any _).mono ?_; rintro e wn ⟨rfl, xn⟩; have X := X.trans xn)
    go_ret
    exact ⟨rfl, X⟩
  have g1 : ((2000 : Int) < (n : Int)) = False := eq_false (by omega)
  have hlen : n ≤ 2000 := by omega
  clear hbig
  by_cases h0 : n = 0
  · subst h0
    have hb : ∀ A c W, Calls Try.prog 26 #[.slice A 0 c] W fun e w' => e = .returned (.tuple #[.pointer none, .int .i64 2]) ∧ W = w' := fun A c W => (f26_size A l 0 c hl (by omega) rfl (.inl rfl) W).mono fun e w' h => ⟨h.1, h.2.symm⟩
    go_enter Try.func6, Try.ntmps6
    go_wp2_with first
      | (go_at_call 14; refine (f14_any _).mono ?_; rintro e wn ⟨rfl, xn⟩; have X := X.trans xn)
      | (at_builtin; refine wpList_copyo rfl (.tmp 16) (.tmp 17) rfl rfl rfl A 0 c l rfl hl (hx.ext X) (by omega) ?_; intro v2 w2 o2 x2; obtain ⟨A2, c2, rfl, hc2, hx2⟩ := o2.octs_form; rw [hl])
      | (go_at_call 26; refine (hb A2 c2 _).mono ?_; rintro e w3 ⟨rfl, rfl⟩)
    go_ret
    exact ⟨rfl, X.trans x2⟩
  have g0 : ¬ ((n : Int) = 0) := by omega
  by_cases hm : n % 128 = 0
  case neg =>
    have hb : ∀ A c W, Calls Try.prog 26 #[.slice A n c] W fun e w' => e = .returned (.tuple #[.pointer none, .int .i64 2]) ∧ W = w' := fun A c W => (f26_bad A l n c hl hn hm W).mono fun e w' h => ⟨h.1, h.2.symm⟩
    have e1 : (n : Int).tmod 128 ≠ 0 := by rw [Int.tmod_eq_emod_of_nonneg (by omega)]; omega
    have e2 : (n : Int) % 128 ≠ 0 := by omega
    have e3 : ((n : Int) % 128 != 0) = true := bne_iff_ne.2 e2
    have e4 : ((n : Int).tmod 128 != 0) = true := bne_iff_ne.2 e1
    clear h0 hm e1 e2
    go_enter Try.func6, Try.ntmps6
    go_wp2_with first
      | (go_at_call 14; refine (f14_any _).mono ?_; rintro e wn ⟨rfl, xn⟩; have X := X.trans xn)
      | (at_builtin; refine wpList_copyo rfl (.tmp 16) (.tmp 17) rfl rfl rfl A n c l rfl hl (hx.ext X) (by omega) ?_; intro v2 w2 o2 x2; obtain ⟨A2, c2, rfl, hc2, hx2⟩ := o2.octs_form; rw [hl])
      | (go_at_call 26; refine (hb A2 c2 _).mono ?_; rintro e w3 ⟨rfl, rfl⟩)
    go_ret
    exact ⟨rfl, X.trans x2⟩
  obtain ⟨m, hmn⟩ : ∃ m, n = m * 128 := ⟨n / 128, by omega⟩
  have hm1 : 1 ≤ m := by omega
  have hm2 : m ≤ 15 := by omega
  have e1 : (n : Int).tmod 128 = 0 := by rw [Int.tmod_eq_emod_of_nonneg (by omega)]; omega
  have e2 : (n : Int) % 128 = 0 := by omega
  have d1 : (n : Int).tdiv 128 = (m : Int) := by rw [Int.tdiv_eq_ediv_of_nonneg (by omega)]; omega
  have d2 : (n : Int) / 128 = (m : Int) := by omega
  have hb : ∀ A c W, n ≤ c → Octs W A l → Calls Try.prog 26 #[.slice A n c] W fun e w' => ∃ p, e = .returned (.tuple #[.pointer (some ⟨p, 0, none⟩), .int .i64 0]) ∧ Disk (fun b => b < W.heap.size) w' p (dkLoad l m m) ∧ Ext W w' := fun A c W h1 h2 => f26_good A l m n c W hl hmn hm1 (by omega) h1 h2
  have hwm : IntKind.i64.wrap (m : Int) = (m : Int) := IntWalk.i64_in _ (by omega)
  have hs27 := length_load l m m (Nat.le_refl _)
  have him := load_image l m (hl.trans hmn)
  have him2 : dkSecs (dkLoad l m m) 0 m = l := by
    have := him
    rw [dkImage_secs, hs27] at this
    exact this
  clear hm h0 hmn
  go_enter Try.func6, Try.ntmps6
  go_wp2_with first
    | (go_at_call 14; refine (f14_any _).mono ?_; rintro e wn ⟨rfl, xn⟩; have X := X.trans xn)
    | (at_builtin; refine wpList_copyo rfl (.tmp 16) (.tmp 17) rfl rfl rfl A n c l rfl hl (hx.ext X) (by omega) ?_; intro v2 w2 o2 x2; obtain ⟨A2, c2, rfl, hc2, hx2⟩ := o2.octs_form; rw [hl] at hc2 ⊢)
    | (go_at_call 26; refine (hb A2 c2 w2 hc2 hx2).mono ?_; rintro e w3 ⟨p, rfl, hd, x3⟩)
  obtain ⟨K, hK⟩ : ∃ K : Nat → Prop, K = fun b => b < w2.heap.size := ⟨_, rfl⟩
  rw [← hK] at hd
  have X2 := X.trans x2
  have X3 := X2.trans x3
  have hKn : ∀ b, ¬ K b → w.heap.size ≤ b := fun b e => Nat.le_of_not_lt fun h => e (by rw [hK]; exact Nat.lt_of_lt_of_le h X2.size)
  have hx3 := hx.ext X3
  have h27 : ∀ W, Disk K W p (dkLoad l m m) → Calls Try.prog 27 #[.pointer (some ⟨p, 0, none⟩)] W fun e w' => e = .returned (.int .i64 (m : Int)) ∧ W = w' := fun W h => by
    have := f27_any h
    rw [hs27] at this
    exact this
  have h25 : ∀ W, Disk K W p (dkLoad l m m) → Calls Try.prog 25 #[.pointer (some ⟨p, 0, none⟩)] W fun e w' => ∃ B d, e = .returned (.slice B n d) ∧ Octs w' B l ∧ Ext W w' := fun W h => (f25_any h).mono (by
    rintro e w' ⟨v, rfl, o, x⟩
    obtain ⟨A, c, rfl, _, _, hx⟩ := o.form
    rw [him] at hx ⊢
    rw [hl]
    exact ⟨A, c, rfl, hx, x⟩)
  have h19 : ∀ W, Disk K W p (dkLoad l m m) → Calls Try.prog 19 #[.pointer (some ⟨p, 0, none⟩), .agg #[.slice none 0 0, .int .i64 (-1), .int .i64 0]] W fun e w' => ∃ v, e = .returned v ∧ Disk K w' p (dkLoad l m m) ∧ Upd (fun b => ¬ K b) W w' := fun W h => by
    have := f19_any h none [] 0 0 (-1) 0 rfl (Cells.nil _ _) (fun x e => by cases e) (by omega)
    rw [load_crash] at this
    exact this.mono (fun e w' h => ⟨_, h⟩)
  have h22 : ∀ W, Disk K W p (dkLoad l m m) → Calls Try.prog 22 #[.pointer (some ⟨p, 0, none⟩), .int .i64 0, .int .i64 (m : Int)] W fun e w' => ∃ B d, e = .returned (.tuple #[.slice B n d, .int .i64 0]) ∧ Octs w' B l ∧ Upd (fun b => ¬ K b) W w' := fun W h => (f22_on h (by show (-1 : Int) ≠ 0; decide) 0 m (by rw [hs27]; omega)).mono (by
    rintro e w' ⟨v, rfl, o, _, u⟩
    obtain ⟨A, c, rfl, _, _, hx⟩ := o.form
    rw [him2] at hx ⊢
    rw [hl]
    exact ⟨A, c, rfl, hx, u⟩)
  clear hK hb hx2 hs27 him him2
  refine wp_region_held_drew (S := fun w' => Ext w3 w') (by kernel_rfl) ((Ext.refl _).drew) (fun hS => ?_)
  refine takeH (i := 0) (v := ?_) rfl rfl (by kernel_rfl) (by kernel_rfl) (by kernel_rfl) (fun _ _ _ h => h) (Or.inl ⟨by kernel_rfl, ?_⟩) hS ?_
  rotate_left 1
  · (intro w' hS'; go_simp; try (with_reducible rfl))
  simp only [List.setIfInBounds_toArray, List.set_cons_succ, List.set_cons_zero]
  refine takeH (i := 1) (v := ?_) rfl rfl (by kernel_rfl) (by kernel_rfl) (by kernel_rfl) (fun _ _ _ h => h) (Or.inl ⟨by kernel_rfl, ?_⟩) hS ?_
  rotate_left 1
  · (intro w' hS'; go_simp; try (with_reducible rfl))
  simp only [List.setIfInBounds_toArray, List.set_cons_succ, List.set_cons_zero]
  refine takeH (i := 2) (v := ?_) rfl rfl (by kernel_rfl) (by kernel_rfl) (by kernel_rfl) (fun _ _ _ h => h) (Or.inl ⟨by kernel_rfl, ?_⟩) hS ?_
  rotate_left 1
  · (intro w' hS'; go_simp; try (with_reducible rfl))
  simp only [List.setIfInBounds_toArray, List.set_cons_succ, List.set_cons_zero]
  refine takeH (i := 3) (v := ?_) rfl rfl (by kernel_rfl) (by kernel_rfl) (by kernel_rfl) (fun _ _ _ h => h) (Or.inl ⟨by kernel_rfl, ?_⟩) hS ?_
  rotate_left 1
  · (intro w' hS'; go_simp; try (with_reducible rfl))
  simp only [List.setIfInBounds_toArray, List.set_cons_succ, List.set_cons_zero]
  refine takeH (i := 4) (v := ?_) rfl rfl (by kernel_rfl) (by kernel_rfl) (by kernel_rfl) (fun _ _ _ h => h) (Or.inl ⟨by kernel_rfl, ?_⟩) hS ?_
  rotate_left 1
  · (intro w' hS'; go_simp; try (with_reducible rfl))
  simp only [List.setIfInBounds_toArray, List.set_cons_succ, List.set_cons_zero]
  refine takeH (i := 5) (v := ?_) rfl rfl (by kernel_rfl) (by kernel_rfl) (by kernel_rfl) (fun _ _ _ h => h) (Or.inl ⟨by kernel_rfl, ?_⟩) hS ?_
  rotate_left 1
  · (intro w' hS'; go_simp; try (with_reducible rfl))
  simp only [List.setIfInBounds_toArray, List.set_cons_succ, List.set_cons_zero]
  refine takeH (i := 6) (v := ?_) rfl rfl (by kernel_rfl) (by kernel_rfl) (by kernel_rfl) (fun _ _ _ h => h) (Or.inl ⟨by kernel_rfl, ?_⟩) hS ?_
  rotate_left 1
  · (intro w' hS'; go_simp; try (with_reducible rfl))
  simp only [List.setIfInBounds_toArray, List.set_cons_succ, List.set_cons_zero]
  refine takeH (i := 7) (v := ?_) rfl rfl (by kernel_rfl) (by kernel_rfl) (by kernel_rfl) (fun _ _ _ h => h) (Or.inl ⟨by kernel_rfl, ?_⟩) hS ?_
  rotate_left 1
  · (intro w' hS'; go_simp; try (with_reducible rfl))
  simp only [List.setIfInBounds_toArray, List.set_cons_succ, List.set_cons_zero]
  refine takeH (i := 9) (v := ?_) rfl rfl (by kernel_rfl) (by kernel_rfl) (by kernel_rfl) (fun _ _ _ h => h) (Or.inl ⟨by kernel_rfl, ?_⟩) hS ?_
  rotate_left 1
  · (intro w' hS'; go_simp; try (with_reducible rfl))
  simp only [List.setIfInBounds_toArray, List.set_cons_succ, List.set_cons_zero]
  refine takeH (i := 10) (v := ?_) rfl rfl (by kernel_rfl) (by kernel_rfl) (by kernel_rfl) (fun _ _ _ h => h) (Or.inl ⟨by kernel_rfl, ?_⟩) hS ?_
  rotate_left 1
  · (intro w' hS'; go_simp; try (with_reducible rfl))
  simp only [List.setIfInBounds_toArray, List.set_cons_succ, List.set_cons_zero]
  refine takeH (i := 11) (v := ?_) rfl rfl (by kernel_rfl) (by kernel_rfl) (by kernel_rfl) (fun _ _ _ h => h) (Or.inl ⟨by kernel_rfl, ?_⟩) hS ?_
  rotate_left 1
  · (intro w' hS'; go_simp; try (with_reducible rfl))
  simp only [List.setIfInBounds_toArray, List.set_cons_succ, List.set_cons_zero]
  refine wpAnyH_ready (rs := [8]) (by kernel_rfl) (by simp) ?_
  refine AllReadyH.cons rfl (fun K hK => ?_) ?_
  rotate_left 1
  · exact AllReadyH.nil
  go_simp
  refine (h27 _ (hd.ext hS)).mono ?_; rintro e w4 ⟨rfl, rfl⟩
  refine hK.out _ _ (hS) (fun hS => ?_)
  clear hK K
  refine takeH (i := 12) (v := ?_) rfl rfl (by kernel_rfl) (by kernel_rfl) (by kernel_rfl) (fun _ _ _ h => h) (Or.inl ⟨by kernel_rfl, ?_⟩) hS ?_
  rotate_left 1
  · (intro w' hS'; go_simp; try (with_reducible rfl))
  simp only [List.setIfInBounds_toArray, List.set_cons_succ, List.set_cons_zero]
  refine takeH (i := 13) (v := ?_) rfl rfl (by kernel_rfl) (by kernel_rfl) (by kernel_rfl) (fun _ _ _ h => h) (Or.inl ⟨by kernel_rfl, ?_⟩) hS ?_
  rotate_left 1
  · (intro w' hS'; go_simp; try (with_reducible rfl))
  simp only [List.setIfInBounds_toArray, List.set_cons_succ, List.set_cons_zero]
  refine takeH (i := 14) (v := ?_) rfl rfl (by kernel_rfl) (by kernel_rfl) (by kernel_rfl) (fun _ _ _ h => h) (Or.inl ⟨by kernel_rfl, ?_⟩) hS ?_
  rotate_left 1
  · (intro w' hS'; go_simp; try (with_reducible rfl))
  simp only [List.setIfInBounds_toArray, List.set_cons_succ, List.set_cons_zero]
  refine takeH (i := 15) (v := ?_) rfl rfl (by kernel_rfl) (by kernel_rfl) (by kernel_rfl) (fun _ _ _ h => h) (Or.inl ⟨by kernel_rfl, ?_⟩) hS ?_
  rotate_left 1
  · (intro w' hS'; go_simp; try (with_reducible rfl))
  simp only [List.setIfInBounds_toArray, List.set_cons_succ, List.set_cons_zero]
  refine takeH (i := 18) (v := ?_) rfl rfl (by kernel_rfl) (by kernel_rfl) (by kernel_rfl) (fun _ _ _ h => h) (Or.inl ⟨by kernel_rfl, ?_⟩) hS ?_
  rotate_left 1
  · (intro w' hS'; go_simp; try (with_reducible rfl))
  simp only [List.setIfInBounds_toArray, List.set_cons_succ, List.set_cons_zero]
  refine takeH (i := 19) (v := ?_) rfl rfl (by kernel_rfl) (by kernel_rfl) (by kernel_rfl) (fun _ _ _ h => h) (Or.inl ⟨by kernel_rfl, ?_⟩) hS ?_
  rotate_left 1
  · (intro w' hS'; have kk := conv_str A l n c w' hl ((by first | exact hx3.ext (hT.trans hS') | exact hx3.ext hS')); go_simp; try (with_reducible rfl))
  simp only [List.setIfInBounds_toArray, List.set_cons_succ, List.set_cons_zero]
  refine wpAnyH_ready (rs := [16]) (by kernel_rfl) (by simp) ?_
  refine AllReadyH.cons rfl (fun K hK => ?_) ?_
  rotate_left 1
  · exact AllReadyH.nil
  go_simp
  refine (h25 _ (hd.ext hS)).mono ?_; rintro e w5 ⟨B5, d5, rfl, y5, x5⟩
  refine hK.out _ _ (hS.trans x5) (fun hS => ?_)
  clear hK K
  refine held_more (S' := fun w' => Ext w5 w') (fun w' h => hS.trans h) _ _ _ _ ?_; have hT := hS; replace hS : Ext w5 w5 := Ext.refl w5
  refine takeH (i := 17) (v := ?_) rfl rfl (by kernel_rfl) (by kernel_rfl) (by kernel_rfl) (fun _ _ _ h => h) (Or.inl ⟨by kernel_rfl, ?_⟩) hS ?_
  rotate_left 1
  · (intro w' hS'; have kk := conv_str B5 l n d5 w' hl (y5.ext hS'); go_simp; try (with_reducible rfl))
  simp only [List.setIfInBounds_toArray, List.set_cons_succ, List.set_cons_zero]
  refine takeH (i := 20) (v := ?_) rfl rfl (by kernel_rfl) (by kernel_rfl) (by kernel_rfl) (fun _ _ _ h => h) (Or.inl ⟨by kernel_rfl, ?_⟩) hS ?_
  rotate_left 1
  · (intro w' hS'; go_simp; try (with_reducible rfl))
  simp only [List.setIfInBounds_toArray, List.set_cons_succ, List.set_cons_zero]
  refine takeH (i := 21) (v := ?_) rfl rfl (by kernel_rfl) (by kernel_rfl) (by kernel_rfl) (fun _ _ _ h => h) (Or.inl ⟨by kernel_rfl, ?_⟩) hS ?_
  rotate_left 1
  · (intro w' hS'; go_simp; try (with_reducible rfl))
  simp only [List.setIfInBounds_toArray, List.set_cons_succ, List.set_cons_zero]
  refine wpAnyH_done (by kernel_rfl) ?_ _
  have X6 := X3.trans (hT.trans hS)
  have h6 := hd.ext (hT.trans hS)
  go_wp2_with first
    | (go_at_call 19; refine (h19 _ h6).mono ?_; clear h19; rintro e w7 ⟨v7, rfl, h7, u7⟩; have X7 := u7.to_ext X6 hKn)
    | (go_at_call 27; refine (h27 _ h7).mono ?_; rintro e w8 ⟨rfl, rfl⟩)
    | (go_at_call 22; refine (h22 _ h7).mono ?_; rintro e w9 ⟨B9, d9, rfl, y9, u9⟩; have X9 := u9.to_ext X7 hKn; have k1 := conv_str B9 l n d9 w9 hl y9; have k2 := conv_str A l n c w9 hl (hx.ext X9))
  go_ret
  exact ⟨rfl, X9⟩
end Go.Proofs.Ytgpnmmgoachajaa
