/- The walk of DiskKeeps. -/
import Derived.Test.YtgpnmmgoachajaaEn
namespace Go.Proofs.Ytgpnmmgoachajaa
open Go.RowKit Go.Shelf
open Go.Proofs

set_option maxRecDepth 100000 in
set_option maxHeartbeats 8000000 in
theorem f3_any (A : Option Addr) (l : List UInt8) (n c : Nat) (B : Option Addr) (xs : List (List Int × Int × Int)) (m d : Nat) (w : World) (hl : l.length = n) (hn : n ≤ 9223372036854775807) (hx : Octs w A l) (hm : xs.length = m) (hm7 : m ≤ 9223372036854775807) (hy : CrashesAt w B xs) :
    Calls Try.prog 3 #[.slice A n c, .slice B m d] w fun e w' => e = .returned (.bool true) ∧ Ext w w' := by
  have X := Ext.refl w
  by_cases hbig : 20 < n
  · have g1 : ((20 : Int) < (n : Int)) = True := eq_true (by omega)
    clear hbig
    go_enter Try.func3, Try.ntmps3
    go_wp2_with (go_at_call 14; refine (f14_any _).mono ?_; rintro e wn ⟨rfl, xn⟩; have X := X.trans xn)
    go_ret
    exact ⟨rfl, X⟩
  have g1 : ((20 : Int) < (n : Int)) = False := eq_false (by omega)
  by_cases hbig2 : 5 < m
  · have g2 : ((5 : Int) < (m : Int)) = True := eq_true (by omega)
    clear hbig2
    go_enter Try.func3, Try.ntmps3
    go_wp2_with (go_at_call 14; refine (f14_any _).mono ?_; rintro e wn ⟨rfl, xn⟩; have X := X.trans xn)
    go_ret
    exact ⟨rfl, X⟩
  have g2 : ((5 : Int) < (m : Int)) = False := eq_false (by omega)
  have hn20 : n ≤ 20 := by omega
  have hm5 : m ≤ 5 := by omega
  clear hbig hbig2
  have hf15 : ∀ W, Calls Try.prog 15 #[.int .i64 8] W fun e w' => ∃ p, e = .returned (.tuple #[.pointer (some ⟨p, 0, none⟩), .int .i64 0]) ∧ Disk (fun b => b < W.heap.size) w' p (dkNew 8) ∧ Ext W w' := fun W => f15_good 8 W (by omega) (by omega)
  go_enter Try.func3, Try.ntmps3
  go_wp2_with first
    | (go_at_call 14; refine (f14_any _).mono ?_; rintro e w1 ⟨rfl, x1⟩)
    | (go_at_call 15; refine (hf15 _).mono ?_; clear hf15; rintro e w2 ⟨p, rfl, h2, x2⟩; obtain ⟨K, hK⟩ : ∃ K : Nat → Prop, K = fun b => b < w1.heap.size := ⟨_, rfl⟩; rw [← hK] at h2)
  have hKb : ∀ b, K b → b < w2.heap.size := fun b e => by
    rw [hK] at e
    exact Nat.lt_of_lt_of_le e x2.size
  have HK : ∀ b, b < w.heap.size → K b := fun b h => by
    rw [hK]
    exact Nat.lt_of_lt_of_le h x1.size
  have hKn : ∀ b, ¬ K b → w.heap.size ≤ b := fun b e => Nat.le_of_not_lt fun h => e (HK b h)
  have X2 : Ext w w2 := x1.trans x2
  clear hK g1 g2 X
  go_loopw [7] (fun i wr => ∃ k : Nat, k ≤ 8 ∧ i = .int .i64 (k : Int) ∧ Disk K wr p (kq k) ∧ Upd (fun b => ¬ K b) w2 wr) (fun i _ => 8 - (intOf i).toNat)
  case atStart => exact ⟨0, Nat.zero_le _, rfl, h2, Upd.refl _ _⟩
  case round =>
    obtain ⟨k, hk, rfl, hd, hu⟩ := hrel
    by_cases hlt : k < 8
    · have hw8 : IntKind.u8.wrap (k : Int) = (k : Int) := IntWalk.u8_in _ (by omega)
      have hpr := octs_pair k hlt
      obtain ⟨P, hP⟩ : ∃ P, P = [7, UInt8.ofNat k] := ⟨_, rfl⟩
      have hP2 : P.length = 2 := by rw [hP]; rfl
      rw [← hP] at hpr
      have hsk : sK k = secOf P := by rw [hP]; rfl
      clear hP
      have hcv : (convert 22 9 (.slice (some ⟨wr.heap.size, 0, none⟩) 2 2)).run Try.prog (wr.alloc (.cells #[.int .u8 7, .int .u8 (k : Int)] 5)) = .ok (strOf P) (wr.alloc (.cells #[.int .u8 7, .int .u8 (k : Int)] 5)) :=
        conv_str _ P 2 2 _ hP2 (sec_octs (by rw [hpr]; exact heap_alloc_new _ _))
      obtain ⟨w4, hw4⟩ : ∃ w4, w4 = wr.alloc (.cells #[.int .u8 7, .int .u8 (k : Int)] 5) := ⟨_, rfl⟩
      have hs4 : w4.heap.size = wr.heap.size + 1 := by rw [hw4, World.size_alloc]
      have y4 : Ext wr w4 := by rw [hw4]; exact (Ext.refl _).alloc _
      have hsec : Calls Try.prog 17 #[strOf P] w4 fun e w' => e = .returned (.slice (some ⟨wr.heap.size + 1, 0, none⟩) 128 128) ∧ w'.heap[wr.heap.size + 1]? = some (.cells (octs (sK k)).toArray 5 (0, 0)) ∧ Ext w4 w' := by
        rw [hsk, ← hs4]; exact f17_any P (by omega) w4
      have hwr : ∀ w2, Ext w4 w2 → w2.heap[wr.heap.size + 1]? = some (.cells (octs (sK k)).toArray 5 (0, 0)) → Calls Try.prog 16 #[.pointer (some ⟨p, 0, none⟩), .int .i64 (k : Int), .slice (some ⟨wr.heap.size + 1, 0, none⟩) 128 128] w2 fun e w3 => e = .returned (.int .i64 0) ∧ Disk K w3 p (kq (k + 1)) ∧ Upd (fun b => ¬ K b) wr w3 := fun w2 x hb => by
        have hs : (kq k).safe.length = 8 := by rw [kq_form]; rfl
        have hc : (kq k).calls = -1 := by rw [kq_form]
        have hw : (kq k).writes = (k : Int) := by rw [kq_form]
        have hq : (kq k).queue.length = k := by rw [kq_form]; simp
        rw [← hs4] at hb ⊢
        exact (wr_sec (hd.ext y4) (by rw [hc]; decide) x (sK k) (length_sK k) hb k (by omega) (by omega) (by omega) (fun b e => Nat.lt_of_lt_of_le (hKb b e) (Nat.le_trans hu.size y4.size))).mono (fun e w' h => ⟨h.1, h.2.1, (Upd.of_ext _ y4).trans h.2.2⟩)
      subst hw4
      clear hpr hsk hP2 hs4
      go_wp2_with first
        | (go_at_call 17; refine hsec.mono ?_; clear hsec; rintro e w5 ⟨rfl, b5, x5⟩)
        | (go_at_call 16; refine (hwr _ x5 b5).mono ?_; clear hwr; rintro e w6 ⟨rfl, h6, u6⟩)
      go_roundw
      case rel => exact ⟨k + 1, by omega, val_int (by omega), h6, hu.trans u6⟩
      case measure => simp [intOf]; omega
    · obtain rfl : k = 8 := by omega
      have hfl := f18_on hd (by rw [kq_form]; show (-1 : Int) ≠ 0; decide)
      have hk0 := Kept.start
      have hwr0 : (dkFlush (kq 8)).writes = 8 := by rw [kq_flush]
      have hqu0 : (dkFlush (kq 8)).queue.length = 0 := by rw [kq_flush]; rfl
      obtain ⟨s0, hs0⟩ : ∃ s0, s0 = dkFlush (kq 8) := ⟨_, rfl⟩
      rw [← hs0] at hfl hk0 hwr0 hqu0
      clear hs0
      go_wp2_with (go_at_call 18; refine hfl.mono ?_; clear hfl; rintro e w6 ⟨rfl, h6, u6⟩)
      have XF : Ext w w6 := u6.to_ext (hu.to_ext X2 hKn) hKn
      have hge : w2.heap.size ≤ w6.heap.size := Nat.le_trans hu.size u6.size
      obtain ⟨w7, hw7⟩ : ∃ w7, w7 = w6.alloc (.cells #[.bool false, .bool false, .bool false, .bool false, .bool false, .bool false, .bool false, .bool false] 32) := ⟨_, rfl⟩
      rw [← hw7]
      have hb7 : BoolsAt w7 w6.heap.size (List.replicate 8 false) := by rw [hw7]; exact heap_alloc_new w6 _
      have y7 : Ext w6 w7 := by rw [hw7]; exact (Ext.refl _).alloc _
      have hs7 : w6.heap.size < w7.heap.size := by rw [hw7, World.size_alloc]; omega
      have hd7 := h6.more y7
      have hnK : ¬ K w6.heap.size := fun e => by have := hKb _ e; omega
      have hb67 : ∀ b, K b → b < w7.heap.size := fun b e => by have := hKb b e; omega
      obtain ⟨tb, htb⟩ : ∃ tb, tb = w6.heap.size := ⟨_, rfl⟩
      rw [← htb] at hb7 hs7 hnK hd7 ⊢
      obtain ⟨K1, hK1⟩ : ∃ K1 : Nat → Prop, K1 = fun b => K b ∨ b = tb := ⟨_, rfl⟩
      have hd7 : Disk K1 w7 p s0 := hd7.less (fun b e => by rw [hK1] at e; rcases e with e | e; exact .inl e; exact .inr (by omega))
      have hK1b : ∀ b, K1 b → b < w7.heap.size := fun b e => by
        rw [hK1] at e
        rcases e with e | e
        · exact hb67 b e
        · omega
      have kt : K1 tb := by rw [hK1]; exact .inr rfl
      have k1 : ∀ b, K b → K1 b := fun b e => by rw [hK1]; exact .inl e
      have X7 : Ext w w7 := XF.trans y7
      clear hw7 y7 hs7 hb67 hK1 htb XF hge u6 h6 hu hd hKb h2 x1 x2 X2
      go_wp2_with fail
      go_loopw [9] (fun i wr => ∃ (k : Nat) (s : Dk) (bs : List Bool), k ≤ n ∧ i = .int .i64 (k : Int) ∧ Disk K1 wr p s ∧ Kept s bs ∧ s.writes = 8 + (k : Int) ∧ s.queue.length = k ∧ BoolsAt wr tb bs ∧ Upd (fun b => ¬ K b) w7 wr) (fun i _ => n - (intOf i).toNat)
      case atStart => exact ⟨0, s0, _, Nat.zero_le _, rfl, hd7, hk0, hwr0, hqu0, hb7, Upd.refl _ _⟩
      case round =>
        obtain ⟨k, s, bs, hk, rfl, hd, hkp, hws, hqs, hbs, hu⟩ := hrel
        clear hd7 hk0 hwr0 hqu0 hb7
        by_cases hlt : k < n
        · obtain ⟨g, o, rfl, hc0⟩ := hx.at_ (k := k) (by omega)
          have kg := HK g (block_lt_of_cell hc0)
          have hcl := hu.cell (X7.cell hc0) (fun x => x kg)
          obtain ⟨v, hv⟩ : ∃ v, v = (l[k]'(by omega)).toNat := ⟨_, rfl⟩
          rw [← hv] at hcl
          have hv256 : v < 256 := by rw [hv]; exact UInt8.toNat_lt _
          obtain ⟨a, ha⟩ : ∃ a, a = v % 8 := ⟨_, rfl⟩
          have ha8 : a < 8 := by omega
          have a1 : (v : Int).tmod 8 = (a : Int) := by rw [Int.tmod_eq_emod_of_nonneg (by omega)]; omega
          have a2 : (v : Int) % 8 = (a : Int) := by omega
          have a3 : IntKind.u8.wrap (a : Int) = (a : Int) := IntWalk.u8_in _ (by omega)
          have a4 : IntKind.i64.wrap (a : Int) = (a : Int) := IntWalk.i64_in _ (by omega)
          clear hc0 hv ha
          obtain ⟨x, hx0⟩ : ∃ x, bs[a]? = some x := ⟨_, List.getElem?_eq_getElem (by rw [hkp.size]; exact ha8)⟩
          have ct := hbs.cell a x hx0
          have ft : wr.frozen? ⟨tb, a, none⟩ = false := frozen_of_row wr tb a _ _ hbs
          have ut : Upd (fun b => b = tb) wr (wr.setCell ⟨tb, a, none⟩ (.bool true)) := (Upd.refl (fun b => b = tb) wr).setCell (p := ⟨tb, a, none⟩) (.inl rfl) _
          have hdW := hd.upd ut (fun b e => by rw [e]; exact kt)
          have hbW := hbs.set a true
          have hclW := ut.cell hcl (fun e => hnK (by rw [← e]; exact kg))
          have uW := hu.trans (ut.mono (fun b _ e => by rw [e]; exact hnK))
          go_wp2
          generalize wr.setCell ⟨tb, a, none⟩ (.bool true) = W at *
          clear ct ft hbs ut hu hx0 hd hcl
          obtain ⟨SX, hSX⟩ : ∃ SX, SX = secOf [120] := ⟨_, rfl⟩
          have hSl : SX.length = 128 := by rw [hSX]; rfl
          have hsec : Calls Try.prog 17 #[strOf [120]] W.drew fun e w' => e = .returned (.slice (some ⟨W.heap.size, 0, none⟩) 128 128) ∧ w'.heap[W.heap.size]? = some (.cells (octs SX).toArray 5 (0, 0)) ∧ Ext W.drew w' := by rw [hSX]; exact f17_any [120] (by decide) W.drew
          have hwr : ∀ w2, Ext W.drew w2 → w2.heap[W.heap.size]? = some (.cells (octs SX).toArray 5 (0, 0)) → Calls Try.prog 16 #[.pointer (some ⟨p, 0, none⟩), .int .i64 (a : Int), .slice (some ⟨W.heap.size, 0, none⟩) 128 128] w2 fun e w3 => e = .returned (.int .i64 0) ∧ Disk K1 w3 p (dkWrite s a SX) ∧ Upd (fun b => ¬ K1 b) W w3 := fun w2 x hb =>
            (wr_sec hdW.drew (by rw [hkp.calls]; decide) x SX hSl hb a (by rw [hkp.len]; exact ha8) (by omega) (by omega) (fun b e => Nat.lt_of_lt_of_le (hK1b b e) uW.size)).mono (fun e w' h => ⟨h.1, h.2.1, ((Upd.refl _ W).drew).trans h.2.2⟩)
          clear hSX
          refine wp_region_held_drew (S := fun w' => Upd (fun b => ¬ K1 b) W w') (by kernel_rfl) ((Upd.refl _ _).drew) (fun hS => ?_)
          refine takeH (i := 0) (v := ?_) rfl rfl (by kernel_rfl) (by kernel_rfl) (by kernel_rfl) (fun _ _ _ h => h) (Or.inl ⟨by kernel_rfl, ?_⟩) hS ?_
          rotate_left 1
          · (intro w' hS'; go_simp; try (with_reducible rfl))
          simp only [List.setIfInBounds_toArray, List.set_cons_succ, List.set_cons_zero]
          refine takeH (i := 1) (v := ?_) rfl rfl (by kernel_rfl) (by kernel_rfl) (by kernel_rfl) (fun _ _ _ h => h) (Or.inl ⟨by kernel_rfl, ?_⟩) hS ?_
          rotate_left 1
          · (intro w' hS'; go_simp; try (with_reducible rfl))
          simp only [List.setIfInBounds_toArray, List.set_cons_succ, List.set_cons_zero]
          refine takeH (i := 2) (v := ?_) rfl rfl (by kernel_rfl) (by kernel_rfl) (by kernel_rfl) (fun _ _ _ h => h) (Or.inl ⟨by kernel_rfl, ?_⟩) hS ?_
          rotate_left 1
          · (intro w' hS'; go_simp; try (with_reducible rfl))
          simp only [List.setIfInBounds_toArray, List.set_cons_succ, List.set_cons_zero]
          refine takeH (i := 3) (v := ?_) rfl rfl (by kernel_rfl) (by kernel_rfl) (by kernel_rfl) (fun _ _ _ h => h) (Or.inl ⟨by kernel_rfl, ?_⟩) hS ?_
          rotate_left 1
          · (intro w' hS'; go_simp; try (with_reducible rfl))
          simp only [List.setIfInBounds_toArray, List.set_cons_succ, List.set_cons_zero]
          refine takeH (i := 4) (v := ?_) rfl rfl (by kernel_rfl) (by kernel_rfl) (by kernel_rfl) (fun _ _ _ h => h) (Or.inl ⟨by kernel_rfl, ?_⟩) hS ?_
          rotate_left 1
          · (intro w' hS'; have k4 := hS'.cell hclW (fun x => x (k1 _ kg)); go_simp; try (with_reducible rfl))
          simp only [List.setIfInBounds_toArray, List.set_cons_succ, List.set_cons_zero]
          refine takeH (i := 5) (v := ?_) rfl rfl (by kernel_rfl) (by kernel_rfl) (by kernel_rfl) (fun _ _ _ h => h) (Or.inl ⟨by kernel_rfl, ?_⟩) hS ?_
          rotate_left 1
          · (intro w' hS'; go_simp; try (with_reducible rfl))
          simp only [List.setIfInBounds_toArray, List.set_cons_succ, List.set_cons_zero]
          refine takeH (i := 6) (v := ?_) rfl rfl (by kernel_rfl) (by kernel_rfl) (by kernel_rfl) (fun _ _ _ h => h) (Or.inl ⟨by kernel_rfl, ?_⟩) hS ?_
          rotate_left 1
          · (intro w' hS'; go_simp; try (with_reducible rfl))
          simp only [List.setIfInBounds_toArray, List.set_cons_succ, List.set_cons_zero]
          refine wpAnyH_ready (rs := [7]) (by kernel_rfl) (by simp) ?_
          refine AllReadyH.cons rfl (fun K hK => ?_) ?_
          rotate_left 1
          · exact AllReadyH.nil
          go_simp
          refine hsec.mono ?_; clear hsec; rintro e w6 ⟨rfl, b6, x6⟩
          refine hK.out _ _ (hS.trans (Upd.of_ext _ x6)) (fun hS => ?_)
          clear hK K
          refine wpAnyH_ready (rs := [8]) (by kernel_rfl) (by simp) ?_
          refine AllReadyH.cons rfl (fun K hK => ?_) ?_
          rotate_left 1
          · exact AllReadyH.nil
          go_simp
          refine (hwr _ x6 b6).mono ?_; clear hwr; rintro e w8 ⟨rfl, h8, u8⟩
          refine hK.out _ _ (u8) (fun hS => ?_)
          clear hK K
          refine wpAnyH_done (by kernel_rfl) ?_ _
          go_wp2
          go_roundw
          case rel =>
            refine ⟨k + 1, dkWrite s a SX, bs.set a true, by omega, val_int (by omega), h8, hkp.write a ha8 SX hSl, ?_, ?_, hS.heap hbW (fun x => x kt), uW.trans (hS.mono (fun b _ e x => e (k1 b x)))⟩
            · rw [dkWrite_one _ _ _ hSl]; show s.writes + 1 = _; omega
            · rw [dkWrite_one _ _ _ hSl]; show (s.queue ++ [(a, SX)]).length = _; rw [List.length_append, hqs]; rfl
          case measure => simp [intOf]; omega
        · obtain rfl : k = n := by omega
          clear hlt hk hws hqs
          have HD := hd
          have HU := hu
          have HB := hbs
          have HP := hkp
          go_wp2_with fail
          go_loopw [10] (fun i wr => ∃ (k : Nat) (s : Dk), k ≤ m ∧ i = .int .i64 (k : Int) ∧ Disk K1 wr p s ∧ Kept s bs ∧ BoolsAt wr tb bs ∧ Upd (fun b => ¬ K b) w7 wr) (fun i _ => m - (intOf i).toNat)
          case atStart => exact ⟨0, s, Nat.zero_le _, rfl, HD, HP, HB, HU⟩
          case round =>
            clear HD HU HB HP hd hkp hbs hu
            obtain ⟨k, s, hk, rfl, hd, hkp, hbs, hu⟩ := hrel
            have Xq := hu.to_ext X7 hKn
            by_cases hlt : k < m
            · obtain ⟨g, o, rfl, hcr⟩ := hy (by omega)
              obtain ⟨⟨kp, tn, ct⟩, hq⟩ : ∃ q, xs[k]? = some q := ⟨_, List.getElem?_eq_getElem (by omega)⟩
              obtain ⟨G, gc, hr, hG, hq63⟩ := hcr k _ hq
              simp only at hr hG hq63
              obtain ⟨kn, hkn⟩ : ∃ kn, kn = kp.length := ⟨_, rfl⟩
              rw [← hkn] at hr hq63
              have hrq : wr.rangeAt g (o + k * 3) [.slice G kn gc, .int .i64 tn, .int .i64 ct] := fun j v hv => Xq.cell (hr j v hv)
              have c0 : wr.cell? ⟨g, o + k * 3, none⟩ = some (.slice G kn gc) := hrq 0 _ rfl
              have hGk : 0 < kn → ∀ x, G = some x → K1 x.block := fun h0 x e => by
                obtain ⟨b, o2, e2, hc⟩ := hG (by rw [length_ints]; omega)
                rw [e] at e2
                injection e2 with e2
                rw [e2]
                have h1 := hc 0 _ (List.getElem?_eq_getElem (by rw [length_ints]; omega))
                exact k1 _ (HK _ (block_lt_of_cell h1))
              have hcra := fun (h60 : kn ≤ 60) => f19_wide hd G kp kn gc tn ct hkn.symm (hG.ext Xq) hGk hq63
              clear hr hq hcr hkn hG hGk
              by_cases h60 : 60 < kn
              · have g1 : ((60 : Int) < (kn : Int)) = True := eq_true (by omega)
                clear h60
                go_wp2
                go_ret
                exact ⟨rfl, Xq⟩
              · have g1 : ((60 : Int) < (kn : Int)) = False := eq_false (by omega)
                have hcra := hcra (by omega)
                clear h60
                go_wp2_with first
                  | (refine wpList_load_mid rfl 35 (.tmp 82) rfl g (o + k * 3) rfl _ _ hrq Try.underlying35 rfl size_crash ?_)
                  | (go_at_call 19; refine hcra.mono ?_; clear hcra; rintro e w8 ⟨rfl, h8, u8⟩)
                go_roundw
                case rel => exact ⟨k + 1, _, by omega, val_int (by omega), h8, hkp.crash kp tn ct, u8.heap hbs (fun x => x kt), hu.trans (u8.mono (fun b _ e x => e (k1 b x)))⟩
                case measure => simp [intOf]; omega
            · obtain rfl : k = m := by omega
              clear hlt hk
              have HD := hd
              have HU := hu
              have HB := hbs
              have HP := hkp
              go_wp2_with fail
              go_loopw [11] (fun i wr => ∃ (k : Nat) (s : Dk), k ≤ 8 ∧ i = .int .i64 (k : Int) ∧ Disk K1 wr p s ∧ Kept s bs ∧ BoolsAt wr tb bs ∧ Upd (fun b => ¬ K b) w7 wr) (fun i _ => 8 - (intOf i).toNat)
              case atStart => exact ⟨0, s, Nat.zero_le _, rfl, HD, HP, HB, HU⟩
              case round =>
                clear HD HU HB HP hd hkp hbs hu Xq
                obtain ⟨k, s, hk, rfl, hd, hkp, hbs, hu⟩ := hrel
                by_cases hlt : k < 8
                · obtain ⟨x, hx0⟩ : ∃ x, bs[k]? = some x := ⟨_, List.getElem?_eq_getElem (by rw [hkp.size]; exact hlt)⟩
                  have ct := hbs.cell k x hx0
                  cases x with
                  | true =>
                    go_wp2
                    go_roundw
                    case rel => exact ⟨k + 1, s, by omega, val_int (by omega), hd, hkp, hbs, hu⟩
                    case measure => simp [intOf]; omega
                  | false =>
                    have hsee := hkp.see k hx0
                    have hw8 : IntKind.u8.wrap (k : Int) = (k : Int) := IntWalk.u8_in _ (by omega)
                    have hpr := octs_pair k hlt
                    have htk := sK_take k
                    obtain ⟨P, hP⟩ : ∃ P, P = [7, UInt8.ofNat k] := ⟨_, rfl⟩
                    have hP2 : P.length = 2 := by rw [hP]; rfl
                    rw [← hP] at hpr htk
                    clear hP
                    obtain ⟨w4, hw4⟩ : ∃ w4, w4 = wr.alloc (.cells #[.int .u8 7, .int .u8 (k : Int)] 5) := ⟨_, rfl⟩
                    have y4 : Ext wr w4 := by rw [hw4]; exact (Ext.refl _).alloc _
                    have hcv : (convert 22 9 (.slice (some ⟨wr.heap.size, 0, none⟩) 2 2)).run Try.prog w4 = .ok (strOf P) w4 :=
                      conv_str _ P 2 2 _ hP2 (sec_octs (by rw [hpr, hw4]; exact heap_alloc_new _ _))
                    have hbg : Calls Try.prog 20 #[.pointer (some ⟨p, 0, none⟩), .int .i64 (k : Int), strOf P] w4 fun e w' => e = .returned (.bool true) ∧ Disk K1 w' p (dkRead s) ∧ Upd (fun b => ¬ K1 b) wr w' := by
                      have := f20_any (hd.ext y4) (by rw [hkp.calls]; decide) k (by rw [hkp.len]; exact hlt) P (by omega)
                      rw [hsee, hP2, htk, decide_eq_true rfl] at this
                      exact this.mono (fun e w' h => ⟨h.1, h.2.1, (Upd.of_ext _ y4).trans h.2.2⟩)
                    subst hw4
                    clear hpr htk hP2 hsee hx0
                    go_wp2_with (go_at_call 20; refine hbg.mono ?_; clear hbg; rintro e w8 ⟨rfl, h8, u8⟩)
                    go_roundw
                    case rel => exact ⟨k + 1, _, by omega, val_int (by omega), h8, hkp.read, u8.heap hbs (fun x => x kt), hu.trans (u8.mono (fun b _ e x => e (k1 b x)))⟩
                    case measure => simp [intOf]; omega
                · obtain rfl : k = 8 := by omega
                  go_wp2
                  go_ret
                  exact ⟨rfl, hu.to_ext X7 hKn⟩
end Go.Proofs.Ytgpnmmgoachajaa
