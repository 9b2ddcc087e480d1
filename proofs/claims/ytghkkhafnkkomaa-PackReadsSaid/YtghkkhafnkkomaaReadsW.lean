/- Whatever is taken off any octets is the document's: the law's walk. -/
import Derived.Test.YtghkkhafnkkomaaPk
import Derived.Test.YtghkkhafnkkomaaPz
import Derived.Test.YtghkkhafnkkomaaRfW
import Derived.Test.YtghkkhafnkkomaaRfz
import Derived.Test.YtghkkhafnkkomaaOc
namespace Go.Proofs.Ytghkkhafnkkomaa
open Go.RowKit
open Go.Proofs

def Good (B : List UInt8) (f : Bool) : Prop := B.length ≤ 500 ∧ (f = true → B = [])
theorem Good.take {B : List UInt8} {f : Bool} (h : Good B f) (n : Int) : Good (rTake n B f).2.1 (rTake n B f).2.2 := by
  refine ⟨?_, rTake_nil n B f⟩
  have := h.1
  unfold rTake
  split
  · exact Nat.zero_le _
  · simp; omega
theorem Good.zig {B : List UInt8} {f : Bool} (h : Good B f) : Good (zigOut B).2.1 (zigOut B).2.2 := by
  have := h.1
  unfold zigOut rZig
  split
  · rename_i e
    split at e
    · cases e
    · split at e
      · cases e
      · split at e
        · cases e
          refine ⟨?_, fun x => by cases x⟩
          simp; omega
        · cases e
  · exact ⟨Nat.zero_le _, fun _ => rfl⟩
theorem Good.text {B : List UInt8} {f : Bool} (h : Good B f) : Good (rText B f).2.1 (rText B f).2.2 := (h.take 2).take _
theorem Good.cases {B : List UInt8} {f : Bool} (h : Good B f) : (f = true ∧ B = []) ∨ (f = false ∧ B = []) ∨ (∃ y l, f = false ∧ B = y :: l) := by
  cases f with
  | true => exact .inl ⟨rfl, h.2 rfl⟩
  | false =>
    cases B with
    | nil => exact .inr (.inl ⟨rfl, rfl⟩)
    | cons y l => exact .inr (.inr ⟨y, l, rfl, rfl⟩)

set_option maxRecDepth 100000 in
set_option maxHeartbeats 4000000 in
theorem f9_walk (A1 : Option Addr) (bs : List UInt8) (n1 c1 : Nat) (A : Option Addr) (fs : List Fld) (n c : Nat) (w : World) (hn1 : bs.length = n1) (_ : n1 ≤ c1) (hx1 : Octs w A1 bs) (hn : fs.length = n) (hx : FldsAt w A fs) :
    Calls Try.prog 9 #[.slice A1 n1 c1, .slice A n c] w fun e w' => e = .returned (.bool true) ∧ Ext w w' := by
  have HN := Lib.hid hn
  have HN1 := Lib.hid hn1
  have HR := fun W r hr h => f33_any A fs n c W hn h r hr
  clear hn hn1
  by_cases hsm : Small fs
  · by_cases h500 : 500 < n1
    · have hi : (500 : Int) < (n1 : Int) := by omega
      have HSM := Lib.hid hsm
      clear hsm
      go_enter Try.func9, Try.ntmps9
      go_wp2_with fail
      refine (f22_any w).mono ?_
      rintro e w1 ⟨rfl, x1⟩
      go_wp2_with fail
      refine (HR w1 true ⟨fun _ => HSM.out, fun _ => rfl⟩ (hx.ext x1)).mono ?_
      rintro e w1' ⟨rfl, rfl⟩
      go_wp2_with fail
      refine (f22_any w1').mono ?_
      rintro e w2 ⟨rfl, x2⟩
      go_wp2_with fail
      go_ret
      exact ⟨rfl, x1.trans x2⟩
    · have hi : ((500 : Int) < (n1 : Int)) = False := by simp; omega
      have hn20 : n ≤ 20 := by have := hsm.1; rw [HN.out] at this; exact this
      have HSM := Lib.hid hsm
      clear hsm
      go_enter Try.func9, Try.ntmps9
      go_wp2_with fail
      refine (f22_any w).mono ?_
      rintro e w1 ⟨rfl, x1⟩
      go_wp2_with fail
      refine (HR w1 true ⟨fun _ => HSM.out, fun _ => rfl⟩ (hx.ext x1)).mono ?_
      rintro e w1' ⟨rfl, rfl⟩
      have hx11 := hx1.ext x1
      have hx12 := hx.ext x1
      clear HR
      go_wp2_with (at_builtin; refine wpList_copyo rfl (.tmp 24) (.tmp 25) rfl rfl rfl A1 n1 c1 bs rfl HN1.out hx11 (by rw [HN1.out]; omega) ?_)
      intro v5 w5 o5 x5
      obtain ⟨I, d, rfl, hd, hxI, hnil, hat⟩ := o5.octs_form2
      have hx15 := hx11.ext x5
      have hx5 := hx12.ext x5
      have x15 := x1.trans x5
      rw [HN1.out] at hd ⊢
      clear x1 x5 hx11 hx12 o5 hx1 hx
      go_wp2_with fail
      refine (f25_any I bs n1 d w5 HN1.out (by omega) hnil hat hxI).mono ?_
      rintro e w6 ⟨k, rfl, t6, x6⟩
      have hk : w5.heap.size ≤ k := by obtain ⟨_, _, hv⟩ := t6; exact hv.mem.1
      obtain ⟨F, hF⟩ : ∃ F, F = (fun b => w5.heap.size ≤ b ∧ b < w6.heap.size) := ⟨_, rfl⟩
      rw [← hF] at t6
      have hFm : ∀ b, F b → ¬ b = w6.heap.size := fun b h => by rw [hF] at h; have := h.2; omega
      have hkm : ¬ w6.heap.size = k := by have := t6.lt; omega
      have hm5 := x6.size
      have s6 : RfAt (w6.alloc (.cells #[strOf bs, .bool false] 60)) w6.heap.size bs false := heap_alloc_new w6 _
      have t6' := t6.ext ((Ext.refl w6).alloc (.cells #[strOf bs, .bool false] 60))
      have x6' := x6.alloc (.cells #[strOf bs, .bool false] 60)
      have k1 := conv_str A1 bs n1 c1 w6 HN1.out (hx15.ext x6)
      have hG : Good bs false := ⟨by rw [HN1.out]; omega, fun h => by cases h⟩
      clear hF t6 x6 hnil hat
      go_wp2_with fail
      generalize w6.alloc (.cells #[strOf bs, .bool false] 60) = w7 at *
      generalize w6.heap.size = m at *
      clear k1
      go_loopg [8] n (fun g i wr => ∃ (j : Nat) (B : List UInt8) (f : Bool), j ≤ n ∧ n - j ≤ g ∧ i = .int .i64 j ∧ RdAt wr k F B f ∧ RfAt wr m B f ∧ Good B f ∧ Ext w5 wr)
      case atStart => exact ⟨0, bs, false, by omega, by omega, rfl, t6', s6, hG, x6'⟩
      case round =>
        clear t6' s6 hG x6'
        obtain ⟨j, B, f, hj, hg, rfl, ht, hs, hG, hxr⟩ := hrel
        by_cases hlt : j < n
        · obtain ⟨⟨kd, nn, sz, tx⟩, hqg⟩ : ∃ q, fs[j]? = some q := ⟨_, List.getElem?_eq_getElem (by rw [HN.out]; exact hlt)⟩
          obtain ⟨b, o, rfl, hrow⟩ := hx5 (by rw [HN.out]; omega)
          obtain ⟨D0, D1, D2, D3, _, _⟩ := hrow j _ hqg
          simp only at D0 D1 D2 D3
          have d0 := hxr.cell D0
          have d1 := hxr.cell D1
          have d2 := hxr.cell D2
          have d3 := hxr.cell D3
          have hji : (j : Int) < (n : Int) := by omega
          have hkw := ht.lt
          have hmw : m < wr.heap.size := by
            rcases Nat.lt_or_ge m wr.heap.size with x | x
            · exact x
            · have := hs; unfold RfAt at this; rw [Array.getElem?_eq_none x] at this; cases this
          clear hqg hrow
          have hB := hG.1
          have hB2 := hG.2
          by_cases k0 : kd = 0
          · subst k0
            have HNum := fun W h => f35_any k F B f sz W h
            have HRn := fun W h => f38_any m B f sz W hB2 h
            have hG1 := hG.take (wid sz)
            generalize rNum sz B f = V at *
            generalize (rTake ((wid sz : Nat) : Int) B f).2.1 = B1 at *
            generalize (rTake ((wid sz : Nat) : Int) B f).2.2 = f1 at *
            clear hB2
            go_wp2_with fail
            have hh := heap_alloc_new wr (.cells #[.int .i64 0, .int .i64 nn, .int .i64 sz, strOf tx] 35)
            have c2 : (wr.alloc (.cells #[.int .i64 0, .int .i64 nn, .int .i64 sz, strOf tx] 35)).cell? ⟨wr.heap.size, 2, none⟩ = some (.int .i64 sz) := by rw [cell_of_row _ _ _ _ _ _ hh]; rfl
            have xA := hxr.alloc (.cells #[.int .i64 0, .int .i64 nn, .int .i64 sz, strOf tx] 35)
            have tA := ht.ext ((Ext.refl wr).alloc (.cells #[.int .i64 0, .int .i64 nn, .int .i64 sz, strOf tx] 35))
            have sA := hs.ext ((Ext.refl wr).alloc (.cells #[.int .i64 0, .int .i64 nn, .int .i64 sz, strOf tx] 35))
            have hfk : ¬ wr.heap.size = k := by omega
            have hfm : ¬ wr.heap.size = m := by omega
            clear hh
            generalize wr.alloc (.cells #[.int .i64 0, .int .i64 nn, .int .i64 sz, strOf tx] 35) = wA at *
            generalize wr.heap.size = fb at *
            have hT : Ext wA wA.drew := (Ext.refl _).drew
            refine wp_region_held_drew (S := fun w' => w'.cell? ⟨fb, 2, none⟩ = some (.int .i64 sz)) (by kernel_rfl) (c2) (fun hS => ?_)
            refine takeH (i := 0) (v := ?_) rfl rfl (by kernel_rfl) (by kernel_rfl) (by kernel_rfl) (fun _ _ _ h => h) (Or.inl ⟨by kernel_rfl, ?_⟩) hS ?_
            rotate_left 1
            · (intro w' hS'; go_simp; try (with_reducible rfl))
            simp only [List.setIfInBounds_toArray, List.set_cons_succ, List.set_cons_zero]
            refine takeH (i := 1) (v := ?_) rfl rfl (by kernel_rfl) (by kernel_rfl) (by kernel_rfl) (fun _ _ _ h => h) (Or.inl ⟨by kernel_rfl, ?_⟩) hS ?_
            rotate_left 1
            · (intro w' hS'; go_simp; try (with_reducible rfl))
            simp only [List.setIfInBounds_toArray, List.set_cons_succ, List.set_cons_zero]
            refine takeH (i := 2) (v := ?_) rfl rfl (by kernel_rfl) (by kernel_rfl) (by kernel_rfl) (fun _ _ _ h => h) (Or.inl ⟨by kernel_rfl, ?_⟩) hS ?_
            rotate_left 1
            · (intro w' hS'; have g1 := hS'; go_simp; try (with_reducible rfl))
            simp only [List.setIfInBounds_toArray, List.set_cons_succ, List.set_cons_zero]
            refine takeH (i := 4) (v := ?_) rfl rfl (by kernel_rfl) (by kernel_rfl) (by kernel_rfl) (fun _ _ _ h => h) (Or.inl ⟨by kernel_rfl, ?_⟩) hS ?_
            rotate_left 1
            · (intro w' hS'; go_simp; try (with_reducible rfl))
            simp only [List.setIfInBounds_toArray, List.set_cons_succ, List.set_cons_zero]
            refine takeH (i := 5) (v := ?_) rfl rfl (by kernel_rfl) (by kernel_rfl) (by kernel_rfl) (fun _ _ _ h => h) (Or.inl ⟨by kernel_rfl, ?_⟩) hS ?_
            rotate_left 1
            · (intro w' hS'; go_simp; try (with_reducible rfl))
            simp only [List.setIfInBounds_toArray, List.set_cons_succ, List.set_cons_zero]
            refine takeH (i := 6) (v := ?_) rfl rfl (by kernel_rfl) (by kernel_rfl) (by kernel_rfl) (fun _ _ _ h => h) (Or.inl ⟨by kernel_rfl, ?_⟩) hS ?_
            rotate_left 1
            · (intro w' hS'; have g1 := hS'; go_simp; try (with_reducible rfl))
            simp only [List.setIfInBounds_toArray, List.set_cons_succ, List.set_cons_zero]
            refine wpAnyH_ready (rs := [3]) (by kernel_rfl) (by simp) ?_
            refine AllReadyH.cons rfl (fun K hK => ?_) ?_
            rotate_left 1
            · exact AllReadyH.nil
            go_simp
            refine (HNum _ (tA.ext hT)).mono ?_; rintro e w6 ⟨rfl, t6, u6⟩; have s6 := (sA.ext hT).upd u6 hkm; have e2 := u6.cell (hT.cell c2) hfk
            refine hK.out _ _ (e2) (fun hS => ?_)
            clear hK K
            refine wpAnyH_ready (rs := [7]) (by kernel_rfl) (by simp) ?_
            refine AllReadyH.cons rfl (fun K hK => ?_) ?_
            rotate_left 1
            · exact AllReadyH.nil
            go_simp
            refine (HRn _ s6).mono ?_; rintro e w7 ⟨rfl, s7, u7⟩; have t7 := t6.upd u7 hFm; have e3 := u7.cell e2 hfm
            refine hK.out _ _ (e3) (fun hS => ?_)
            clear hK K
            refine takeH (i := 8) (v := ?_) rfl rfl (by kernel_rfl) (by kernel_rfl) (by kernel_rfl) (fun _ _ _ h => h) (Or.inl ⟨by kernel_rfl, ?_⟩) hS ?_
            rotate_left 1
            · (intro w' hS'; go_simp; try (with_reducible rfl))
            simp only [List.setIfInBounds_toArray, List.set_cons_succ, List.set_cons_zero]
            refine takeH (i := 9) (v := ?_) rfl rfl (by kernel_rfl) (by kernel_rfl) (by kernel_rfl) (fun _ _ _ h => h) (Or.inl ⟨by kernel_rfl, ?_⟩) hS ?_
            rotate_left 1
            · (intro w' hS'; go_simp; try (with_reducible rfl))
            simp only [List.setIfInBounds_toArray, List.set_cons_succ, List.set_cons_zero]
            refine wpAnyH_done (by kernel_rfl) ?_ _
            clear hS
            have x7 := ((xA.trans hT).trans' u6 (fun b e => by rw [e]; exact hk)).trans' u7 (fun b e => by rw [e]; exact hm5)
            clear u6 u7 xA hT t6 s6 ht hs hxr hG
            have H28 := fun W h => f28_any k F B1 f1 W h
            have H27 := fun W h => f27_any k F B1 f1 W h
            obtain ⟨e0, e1, ez⟩ := s7.cells
            go_wp2_with fail
            obtain ⟨rfl, rfl⟩ | ⟨rfl, rfl⟩ | ⟨y, l, rfl, rfl⟩ := hG1.cases
            · refine wp_region_held_drew (S := fun w' => Ext w7 w') (by kernel_rfl) ((Ext.refl _).drew) (fun hS => ?_)
              refine takeH (i := 0) (v := ?_) rfl rfl (by kernel_rfl) (by kernel_rfl) (by kernel_rfl) (fun _ _ _ h => h) (Or.inl ⟨by kernel_rfl, ?_⟩) hS ?_
              rotate_left 1
              · (intro w' hS'; go_simp; try (with_reducible rfl))
              simp only [List.setIfInBounds_toArray, List.set_cons_succ, List.set_cons_zero]
              refine takeH (i := 1) (v := ?_) rfl rfl (by kernel_rfl) (by kernel_rfl) (by kernel_rfl) (fun _ _ _ h => h) (Or.inl ⟨by kernel_rfl, ?_⟩) hS ?_
              rotate_left 1
              · (intro w' hS'; go_simp; try (with_reducible rfl))
              simp only [List.setIfInBounds_toArray, List.set_cons_succ, List.set_cons_zero]
              refine takeH (i := 2) (v := ?_) rfl rfl (by kernel_rfl) (by kernel_rfl) (by kernel_rfl) (fun _ _ _ h => h) (Or.inl ⟨by kernel_rfl, ?_⟩) hS ?_
              rotate_left 1
              · (intro w' hS'; go_simp; try (with_reducible rfl))
              simp only [List.setIfInBounds_toArray, List.set_cons_succ, List.set_cons_zero]
              refine takeH (i := 3) (v := ?_) rfl rfl (by kernel_rfl) (by kernel_rfl) (by kernel_rfl) (fun _ _ _ h => h) (Or.inl ⟨by kernel_rfl, ?_⟩) hS ?_
              rotate_left 1
              · (intro w' hS'; go_simp; try (with_reducible rfl))
              simp only [List.setIfInBounds_toArray, List.set_cons_succ, List.set_cons_zero]
              refine takeH (i := 5) (v := ?_) rfl rfl (by kernel_rfl) (by kernel_rfl) (by kernel_rfl) (fun _ _ _ h => h) (Or.inl ⟨by kernel_rfl, ?_⟩) hS ?_
              rotate_left 1
              · (intro w' hS'; go_simp; try (with_reducible rfl))
              simp only [List.setIfInBounds_toArray, List.set_cons_succ, List.set_cons_zero]
              refine takeH (i := 6) (v := ?_) rfl rfl (by kernel_rfl) (by kernel_rfl) (by kernel_rfl) (fun _ _ _ h => h) (Or.inl ⟨by kernel_rfl, ?_⟩) hS ?_
              rotate_left 1
              · (intro w' hS'; go_simp; try (with_reducible rfl))
              simp only [List.setIfInBounds_toArray, List.set_cons_succ, List.set_cons_zero]
              refine takeH (i := 7) (v := ?_) rfl rfl (by kernel_rfl) (by kernel_rfl) (by kernel_rfl) (fun _ _ _ h => h) (Or.inl ⟨by kernel_rfl, ?_⟩) hS ?_
              rotate_left 1
              · (intro w' hS'; go_simp; try (with_reducible rfl))
              simp only [List.setIfInBounds_toArray, List.set_cons_succ, List.set_cons_zero]
              refine takeH (i := 8) (v := ?_) rfl rfl (by kernel_rfl) (by kernel_rfl) (by kernel_rfl) (fun _ _ _ h => h) (Or.inl ⟨by kernel_rfl, ?_⟩) hS ?_
              rotate_left 1
              · (intro w' hS'; have g1 := hS'.cell e0; go_simp; try (with_reducible rfl))
              simp only [List.setIfInBounds_toArray, List.set_cons_succ, List.set_cons_zero]
              refine takeH (i := 9) (v := ?_) rfl rfl (by kernel_rfl) (by kernel_rfl) (by kernel_rfl) (fun _ _ _ h => h) (Or.inl ⟨by kernel_rfl, ?_⟩) hS ?_
              rotate_left 1
              · (intro w' hS'; go_simp; try (with_reducible rfl))
              simp only [List.setIfInBounds_toArray, List.set_cons_succ, List.set_cons_zero]
              refine wpAnyH_ready (rs := [4]) (by kernel_rfl) (by simp) ?_
              refine AllReadyH.cons rfl (fun K hK => ?_) ?_
              rotate_left 1
              · exact AllReadyH.nil
              go_simp
              refine (H28 _ (t7.ext hS)).mono ?_; rintro e w8 ⟨rfl, rfl⟩
              refine hK.out _ _ (hS) (fun hS => ?_)
              clear hK K
              refine takeH (i := 10) (v := ?_) rfl rfl (by kernel_rfl) (by kernel_rfl) (by kernel_rfl) (fun _ _ _ h => h) (Or.inl ⟨by kernel_rfl, ?_⟩) hS ?_
              rotate_left 1
              · (intro w' hS'; go_simp; try (with_reducible rfl))
              simp only [List.setIfInBounds_toArray, List.set_cons_succ, List.set_cons_zero]
              refine takeH (i := 11) (v := ?_) rfl rfl (by kernel_rfl) (by kernel_rfl) (by kernel_rfl) (fun _ _ _ h => h) (Or.inl ⟨by kernel_rfl, ?_⟩) hS ?_
              rotate_left 1
              · (intro w' hS'; go_simp; try (with_reducible rfl))
              simp only [List.setIfInBounds_toArray, List.set_cons_succ, List.set_cons_zero]
              refine takeH (i := 12) (v := ?_) rfl rfl (by kernel_rfl) (by kernel_rfl) (by kernel_rfl) (fun _ _ _ h => h) (Or.inl ⟨by kernel_rfl, ?_⟩) hS ?_
              rotate_left 1
              · (intro w' hS'; go_simp; try (with_reducible rfl))
              simp only [List.setIfInBounds_toArray, List.set_cons_succ, List.set_cons_zero]
              refine takeH (i := 13) (v := ?_) rfl rfl (by kernel_rfl) (by kernel_rfl) (by kernel_rfl) (fun _ _ _ h => h) (Or.inl ⟨by kernel_rfl, ?_⟩) hS ?_
              rotate_left 1
              · (intro w' hS'; go_simp; try (with_reducible rfl))
              simp only [List.setIfInBounds_toArray, List.set_cons_succ, List.set_cons_zero]
              refine takeH (i := 15) (v := ?_) rfl rfl (by kernel_rfl) (by kernel_rfl) (by kernel_rfl) (fun _ _ _ h => h) (Or.inl ⟨by kernel_rfl, ?_⟩) hS ?_
              rotate_left 1
              · (intro w' hS'; go_simp; try (with_reducible rfl))
              simp only [List.setIfInBounds_toArray, List.set_cons_succ, List.set_cons_zero]
              refine takeH (i := 16) (v := ?_) rfl rfl (by kernel_rfl) (by kernel_rfl) (by kernel_rfl) (fun _ _ _ h => h) (Or.inl ⟨by kernel_rfl, ?_⟩) hS ?_
              rotate_left 1
              · (intro w' hS'; go_simp; try (with_reducible rfl))
              simp only [List.setIfInBounds_toArray, List.set_cons_succ, List.set_cons_zero]
              refine takeH (i := 17) (v := ?_) rfl rfl (by kernel_rfl) (by kernel_rfl) (by kernel_rfl) (fun _ _ _ h => h) (Or.inl ⟨by kernel_rfl, ?_⟩) hS ?_
              rotate_left 1
              · (intro w' hS'; go_simp; try (with_reducible rfl))
              simp only [List.setIfInBounds_toArray, List.set_cons_succ, List.set_cons_zero]
              refine takeH (i := 18) (v := ?_) rfl rfl (by kernel_rfl) (by kernel_rfl) (by kernel_rfl) (fun _ _ _ h => h) (Or.inl ⟨by kernel_rfl, ?_⟩) hS ?_
              rotate_left 1
              · (intro w' hS'; have g1 := hS'.cell e1; go_simp; try (with_reducible rfl))
              simp only [List.setIfInBounds_toArray, List.set_cons_succ, List.set_cons_zero]
              refine takeH (i := 19) (v := ?_) rfl rfl (by kernel_rfl) (by kernel_rfl) (by kernel_rfl) (fun _ _ _ h => h) (Or.inl ⟨by kernel_rfl, ?_⟩) hS ?_
              rotate_left 1
              · (intro w' hS'; go_simp; try (with_reducible rfl))
              simp only [List.setIfInBounds_toArray, List.set_cons_succ, List.set_cons_zero]
              refine wpAnyH_ready (rs := [14]) (by kernel_rfl) (by simp) ?_
              refine AllReadyH.cons rfl (fun K hK => ?_) ?_
              rotate_left 1
              · exact AllReadyH.nil
              go_simp
              refine (H27 _ (t7.ext hS)).mono ?_; rintro e w9 ⟨rfl, rfl⟩
              refine hK.out _ _ (hS) (fun hS => ?_)
              clear hK K
              refine takeH (i := 20) (v := ?_) rfl rfl (by kernel_rfl) (by kernel_rfl) (by kernel_rfl) (fun _ _ _ h => h) (Or.inl ⟨by kernel_rfl, ?_⟩) hS ?_
              rotate_left 1
              · (intro w' hS'; go_simp; try (with_reducible rfl))
              simp only [List.setIfInBounds_toArray, List.set_cons_succ, List.set_cons_zero]
              refine takeH (i := 21) (v := undef) rfl rfl (by kernel_rfl) (by kernel_rfl) (by kernel_rfl) (fun _ _ _ h => h) (Or.inr ⟨by kernel_rfl, rfl⟩) hS ?_
              simp only [List.setIfInBounds_toArray, List.set_cons_succ, List.set_cons_zero]
              refine takeH (i := 22) (v := undef) rfl rfl (by kernel_rfl) (by kernel_rfl) (by kernel_rfl) (fun _ _ _ h => h) (Or.inr ⟨by kernel_rfl, rfl⟩) hS ?_
              simp only [List.setIfInBounds_toArray, List.set_cons_succ, List.set_cons_zero]
              refine takeH (i := 23) (v := undef) rfl rfl (by kernel_rfl) (by kernel_rfl) (by kernel_rfl) (fun _ _ _ h => h) (Or.inr ⟨by kernel_rfl, rfl⟩) hS ?_
              simp only [List.setIfInBounds_toArray, List.set_cons_succ, List.set_cons_zero]
              refine takeH (i := 24) (v := undef) rfl rfl (by kernel_rfl) (by kernel_rfl) (by kernel_rfl) (fun _ _ _ h => h) (Or.inr ⟨by kernel_rfl, rfl⟩) hS ?_
              simp only [List.setIfInBounds_toArray, List.set_cons_succ, List.set_cons_zero]
              refine takeH (i := 25) (v := undef) rfl rfl (by kernel_rfl) (by kernel_rfl) (by kernel_rfl) (fun _ _ _ h => h) (Or.inr ⟨by kernel_rfl, rfl⟩) hS ?_
              simp only [List.setIfInBounds_toArray, List.set_cons_succ, List.set_cons_zero]
              refine takeH (i := 26) (v := ?_) rfl rfl (by kernel_rfl) (by kernel_rfl) (by kernel_rfl) (fun _ _ _ h => h) (Or.inl ⟨by kernel_rfl, ?_⟩) hS ?_
              rotate_left 1
              · (intro w' hS'; go_simp; try (with_reducible rfl))
              simp only [List.setIfInBounds_toArray, List.set_cons_succ, List.set_cons_zero]
              refine takeH (i := 27) (v := ?_) rfl rfl (by kernel_rfl) (by kernel_rfl) (by kernel_rfl) (fun _ _ _ h => h) (Or.inl ⟨by kernel_rfl, ?_⟩) hS ?_
              rotate_left 1
              · (intro w' hS'; go_simp; try (with_reducible rfl))
              simp only [List.setIfInBounds_toArray, List.set_cons_succ, List.set_cons_zero]
              refine takeH (i := 28) (v := ?_) rfl rfl (by kernel_rfl) (by kernel_rfl) (by kernel_rfl) (fun _ _ _ h => h) (Or.inl ⟨by kernel_rfl, ?_⟩) hS ?_
              rotate_left 1
              · (intro w' hS'; go_simp; try (with_reducible rfl))
              simp only [List.setIfInBounds_toArray, List.set_cons_succ, List.set_cons_zero]
              refine wpAnyH_done (by kernel_rfl) ?_ _
              go_wp2_with fail
              go_roundg (n - (j + 1))
              case measure => omega
              case rel => exact ⟨j + 1, _, _, by omega, by omega, by go_num, t7.ext hS, s7.ext hS, hG1, x7.trans hS⟩
            · refine wp_region_held_drew (S := fun w' => Ext w7 w') (by kernel_rfl) ((Ext.refl _).drew) (fun hS => ?_)
              refine takeH (i := 0) (v := ?_) rfl rfl (by kernel_rfl) (by kernel_rfl) (by kernel_rfl) (fun _ _ _ h => h) (Or.inl ⟨by kernel_rfl, ?_⟩) hS ?_
              rotate_left 1
              · (intro w' hS'; go_simp; try (with_reducible rfl))
              simp only [List.setIfInBounds_toArray, List.set_cons_succ, List.set_cons_zero]
              refine takeH (i := 1) (v := ?_) rfl rfl (by kernel_rfl) (by kernel_rfl) (by kernel_rfl) (fun _ _ _ h => h) (Or.inl ⟨by kernel_rfl, ?_⟩) hS ?_
              rotate_left 1
              · (intro w' hS'; go_simp; try (with_reducible rfl))
              simp only [List.setIfInBounds_toArray, List.set_cons_succ, List.set_cons_zero]
              refine takeH (i := 2) (v := ?_) rfl rfl (by kernel_rfl) (by kernel_rfl) (by kernel_rfl) (fun _ _ _ h => h) (Or.inl ⟨by kernel_rfl, ?_⟩) hS ?_
              rotate_left 1
              · (intro w' hS'; go_simp; try (with_reducible rfl))
              simp only [List.setIfInBounds_toArray, List.set_cons_succ, List.set_cons_zero]
              refine takeH (i := 3) (v := ?_) rfl rfl (by kernel_rfl) (by kernel_rfl) (by kernel_rfl) (fun _ _ _ h => h) (Or.inl ⟨by kernel_rfl, ?_⟩) hS ?_
              rotate_left 1
              · (intro w' hS'; go_simp; try (with_reducible rfl))
              simp only [List.setIfInBounds_toArray, List.set_cons_succ, List.set_cons_zero]
              refine takeH (i := 5) (v := ?_) rfl rfl (by kernel_rfl) (by kernel_rfl) (by kernel_rfl) (fun _ _ _ h => h) (Or.inl ⟨by kernel_rfl, ?_⟩) hS ?_
              rotate_left 1
              · (intro w' hS'; go_simp; try (with_reducible rfl))
              simp only [List.setIfInBounds_toArray, List.set_cons_succ, List.set_cons_zero]
              refine takeH (i := 6) (v := ?_) rfl rfl (by kernel_rfl) (by kernel_rfl) (by kernel_rfl) (fun _ _ _ h => h) (Or.inl ⟨by kernel_rfl, ?_⟩) hS ?_
              rotate_left 1
              · (intro w' hS'; go_simp; try (with_reducible rfl))
              simp only [List.setIfInBounds_toArray, List.set_cons_succ, List.set_cons_zero]
              refine takeH (i := 7) (v := ?_) rfl rfl (by kernel_rfl) (by kernel_rfl) (by kernel_rfl) (fun _ _ _ h => h) (Or.inl ⟨by kernel_rfl, ?_⟩) hS ?_
              rotate_left 1
              · (intro w' hS'; go_simp; try (with_reducible rfl))
              simp only [List.setIfInBounds_toArray, List.set_cons_succ, List.set_cons_zero]
              refine takeH (i := 8) (v := ?_) rfl rfl (by kernel_rfl) (by kernel_rfl) (by kernel_rfl) (fun _ _ _ h => h) (Or.inl ⟨by kernel_rfl, ?_⟩) hS ?_
              rotate_left 1
              · (intro w' hS'; have g1 := hS'.cell e0; go_simp; try (with_reducible rfl))
              simp only [List.setIfInBounds_toArray, List.set_cons_succ, List.set_cons_zero]
              refine takeH (i := 9) (v := ?_) rfl rfl (by kernel_rfl) (by kernel_rfl) (by kernel_rfl) (fun _ _ _ h => h) (Or.inl ⟨by kernel_rfl, ?_⟩) hS ?_
              rotate_left 1
              · (intro w' hS'; go_simp; try (with_reducible rfl))
              simp only [List.setIfInBounds_toArray, List.set_cons_succ, List.set_cons_zero]
              refine wpAnyH_ready (rs := [4]) (by kernel_rfl) (by simp) ?_
              refine AllReadyH.cons rfl (fun K hK => ?_) ?_
              rotate_left 1
              · exact AllReadyH.nil
              go_simp
              refine (H28 _ (t7.ext hS)).mono ?_; rintro e w8 ⟨rfl, rfl⟩
              refine hK.out _ _ (hS) (fun hS => ?_)
              clear hK K
              refine takeH (i := 10) (v := ?_) rfl rfl (by kernel_rfl) (by kernel_rfl) (by kernel_rfl) (fun _ _ _ h => h) (Or.inl ⟨by kernel_rfl, ?_⟩) hS ?_
              rotate_left 1
              · (intro w' hS'; go_simp; try (with_reducible rfl))
              simp only [List.setIfInBounds_toArray, List.set_cons_succ, List.set_cons_zero]
              refine takeH (i := 11) (v := ?_) rfl rfl (by kernel_rfl) (by kernel_rfl) (by kernel_rfl) (fun _ _ _ h => h) (Or.inl ⟨by kernel_rfl, ?_⟩) hS ?_
              rotate_left 1
              · (intro w' hS'; go_simp; try (with_reducible rfl))
              simp only [List.setIfInBounds_toArray, List.set_cons_succ, List.set_cons_zero]
              refine takeH (i := 12) (v := ?_) rfl rfl (by kernel_rfl) (by kernel_rfl) (by kernel_rfl) (fun _ _ _ h => h) (Or.inl ⟨by kernel_rfl, ?_⟩) hS ?_
              rotate_left 1
              · (intro w' hS'; go_simp; try (with_reducible rfl))
              simp only [List.setIfInBounds_toArray, List.set_cons_succ, List.set_cons_zero]
              refine takeH (i := 13) (v := ?_) rfl rfl (by kernel_rfl) (by kernel_rfl) (by kernel_rfl) (fun _ _ _ h => h) (Or.inl ⟨by kernel_rfl, ?_⟩) hS ?_
              rotate_left 1
              · (intro w' hS'; go_simp; try (with_reducible rfl))
              simp only [List.setIfInBounds_toArray, List.set_cons_succ, List.set_cons_zero]
              refine takeH (i := 15) (v := ?_) rfl rfl (by kernel_rfl) (by kernel_rfl) (by kernel_rfl) (fun _ _ _ h => h) (Or.inl ⟨by kernel_rfl, ?_⟩) hS ?_
              rotate_left 1
              · (intro w' hS'; go_simp; try (with_reducible rfl))
              simp only [List.setIfInBounds_toArray, List.set_cons_succ, List.set_cons_zero]
              refine takeH (i := 16) (v := ?_) rfl rfl (by kernel_rfl) (by kernel_rfl) (by kernel_rfl) (fun _ _ _ h => h) (Or.inl ⟨by kernel_rfl, ?_⟩) hS ?_
              rotate_left 1
              · (intro w' hS'; go_simp; try (with_reducible rfl))
              simp only [List.setIfInBounds_toArray, List.set_cons_succ, List.set_cons_zero]
              refine takeH (i := 17) (v := ?_) rfl rfl (by kernel_rfl) (by kernel_rfl) (by kernel_rfl) (fun _ _ _ h => h) (Or.inl ⟨by kernel_rfl, ?_⟩) hS ?_
              rotate_left 1
              · (intro w' hS'; go_simp; try (with_reducible rfl))
              simp only [List.setIfInBounds_toArray, List.set_cons_succ, List.set_cons_zero]
              refine takeH (i := 18) (v := ?_) rfl rfl (by kernel_rfl) (by kernel_rfl) (by kernel_rfl) (fun _ _ _ h => h) (Or.inl ⟨by kernel_rfl, ?_⟩) hS ?_
              rotate_left 1
              · (intro w' hS'; have g1 := hS'.cell e1; go_simp; try (with_reducible rfl))
              simp only [List.setIfInBounds_toArray, List.set_cons_succ, List.set_cons_zero]
              refine takeH (i := 19) (v := ?_) rfl rfl (by kernel_rfl) (by kernel_rfl) (by kernel_rfl) (fun _ _ _ h => h) (Or.inl ⟨by kernel_rfl, ?_⟩) hS ?_
              rotate_left 1
              · (intro w' hS'; go_simp; try (with_reducible rfl))
              simp only [List.setIfInBounds_toArray, List.set_cons_succ, List.set_cons_zero]
              refine wpAnyH_ready (rs := [14]) (by kernel_rfl) (by simp) ?_
              refine AllReadyH.cons rfl (fun K hK => ?_) ?_
              rotate_left 1
              · exact AllReadyH.nil
              go_simp
              refine (H27 _ (t7.ext hS)).mono ?_; rintro e w9 ⟨rfl, rfl⟩
              refine hK.out _ _ (hS) (fun hS => ?_)
              clear hK K
              refine takeH (i := 20) (v := ?_) rfl rfl (by kernel_rfl) (by kernel_rfl) (by kernel_rfl) (fun _ _ _ h => h) (Or.inl ⟨by kernel_rfl, ?_⟩) hS ?_
              rotate_left 1
              · (intro w' hS'; go_simp; try (with_reducible rfl))
              simp only [List.setIfInBounds_toArray, List.set_cons_succ, List.set_cons_zero]
              refine takeH (i := 21) (v := ?_) rfl rfl (by kernel_rfl) (by kernel_rfl) (by kernel_rfl) (fun _ _ _ h => h) (Or.inl ⟨by kernel_rfl, ?_⟩) hS ?_
              rotate_left 1
              · (intro w' hS'; go_simp; try (with_reducible rfl))
              simp only [List.setIfInBounds_toArray, List.set_cons_succ, List.set_cons_zero]
              refine takeH (i := 22) (v := ?_) rfl rfl (by kernel_rfl) (by kernel_rfl) (by kernel_rfl) (fun _ _ _ h => h) (Or.inl ⟨by kernel_rfl, ?_⟩) hS ?_
              rotate_left 1
              · (intro w' hS'; go_simp; try (with_reducible rfl))
              simp only [List.setIfInBounds_toArray, List.set_cons_succ, List.set_cons_zero]
              refine takeH (i := 23) (v := ?_) rfl rfl (by kernel_rfl) (by kernel_rfl) (by kernel_rfl) (fun _ _ _ h => h) (Or.inl ⟨by kernel_rfl, ?_⟩) hS ?_
              rotate_left 1
              · (intro w' hS'; go_simp; try (with_reducible rfl))
              simp only [List.setIfInBounds_toArray, List.set_cons_succ, List.set_cons_zero]
              refine takeH (i := 24) (v := ?_) rfl rfl (by kernel_rfl) (by kernel_rfl) (by kernel_rfl) (fun _ _ _ h => h) (Or.inl ⟨by kernel_rfl, ?_⟩) hS ?_
              rotate_left 1
              · (intro w' hS'; have g1 := hS'.cell e0; go_simp; try (with_reducible rfl))
              simp only [List.setIfInBounds_toArray, List.set_cons_succ, List.set_cons_zero]
              refine takeH (i := 25) (v := ?_) rfl rfl (by kernel_rfl) (by kernel_rfl) (by kernel_rfl) (fun _ _ _ h => h) (Or.inl ⟨by kernel_rfl, ?_⟩) hS ?_
              rotate_left 1
              · (intro w' hS'; go_simp; try (with_reducible rfl))
              simp only [List.setIfInBounds_toArray, List.set_cons_succ, List.set_cons_zero]
              refine takeH (i := 26) (v := ?_) rfl rfl (by kernel_rfl) (by kernel_rfl) (by kernel_rfl) (fun _ _ _ h => h) (Or.inl ⟨by kernel_rfl, ?_⟩) hS ?_
              rotate_left 1
              · (intro w' hS'; go_simp; try (with_reducible rfl))
              simp only [List.setIfInBounds_toArray, List.set_cons_succ, List.set_cons_zero]
              refine takeH (i := 27) (v := ?_) rfl rfl (by kernel_rfl) (by kernel_rfl) (by kernel_rfl) (fun _ _ _ h => h) (Or.inl ⟨by kernel_rfl, ?_⟩) hS ?_
              rotate_left 1
              · (intro w' hS'; go_simp; try (with_reducible rfl))
              simp only [List.setIfInBounds_toArray, List.set_cons_succ, List.set_cons_zero]
              refine takeH (i := 28) (v := ?_) rfl rfl (by kernel_rfl) (by kernel_rfl) (by kernel_rfl) (fun _ _ _ h => h) (Or.inl ⟨by kernel_rfl, ?_⟩) hS ?_
              rotate_left 1
              · (intro w' hS'; go_simp; try (with_reducible rfl))
              simp only [List.setIfInBounds_toArray, List.set_cons_succ, List.set_cons_zero]
              refine wpAnyH_done (by kernel_rfl) ?_ _
              go_wp2_with fail
              go_roundg (n - (j + 1))
              case measure => omega
              case rel => exact ⟨j + 1, _, _, by omega, by omega, by go_num, t7.ext hS, s7.ext hS, hG1, x7.trans hS⟩
            · refine wp_region_held_drew (S := fun w' => Ext w7 w') (by kernel_rfl) ((Ext.refl _).drew) (fun hS => ?_)
              refine takeH (i := 0) (v := ?_) rfl rfl (by kernel_rfl) (by kernel_rfl) (by kernel_rfl) (fun _ _ _ h => h) (Or.inl ⟨by kernel_rfl, ?_⟩) hS ?_
              rotate_left 1
              · (intro w' hS'; go_simp; try (with_reducible rfl))
              simp only [List.setIfInBounds_toArray, List.set_cons_succ, List.set_cons_zero]
              refine takeH (i := 1) (v := ?_) rfl rfl (by kernel_rfl) (by kernel_rfl) (by kernel_rfl) (fun _ _ _ h => h) (Or.inl ⟨by kernel_rfl, ?_⟩) hS ?_
              rotate_left 1
              · (intro w' hS'; go_simp; try (with_reducible rfl))
              simp only [List.setIfInBounds_toArray, List.set_cons_succ, List.set_cons_zero]
              refine takeH (i := 2) (v := ?_) rfl rfl (by kernel_rfl) (by kernel_rfl) (by kernel_rfl) (fun _ _ _ h => h) (Or.inl ⟨by kernel_rfl, ?_⟩) hS ?_
              rotate_left 1
              · (intro w' hS'; go_simp; try (with_reducible rfl))
              simp only [List.setIfInBounds_toArray, List.set_cons_succ, List.set_cons_zero]
              refine takeH (i := 3) (v := ?_) rfl rfl (by kernel_rfl) (by kernel_rfl) (by kernel_rfl) (fun _ _ _ h => h) (Or.inl ⟨by kernel_rfl, ?_⟩) hS ?_
              rotate_left 1
              · (intro w' hS'; go_simp; try (with_reducible rfl))
              simp only [List.setIfInBounds_toArray, List.set_cons_succ, List.set_cons_zero]
              refine takeH (i := 5) (v := ?_) rfl rfl (by kernel_rfl) (by kernel_rfl) (by kernel_rfl) (fun _ _ _ h => h) (Or.inl ⟨by kernel_rfl, ?_⟩) hS ?_
              rotate_left 1
              · (intro w' hS'; go_simp; try (with_reducible rfl))
              simp only [List.setIfInBounds_toArray, List.set_cons_succ, List.set_cons_zero]
              refine takeH (i := 6) (v := ?_) rfl rfl (by kernel_rfl) (by kernel_rfl) (by kernel_rfl) (fun _ _ _ h => h) (Or.inl ⟨by kernel_rfl, ?_⟩) hS ?_
              rotate_left 1
              · (intro w' hS'; go_simp; try (with_reducible rfl))
              simp only [List.setIfInBounds_toArray, List.set_cons_succ, List.set_cons_zero]
              refine takeH (i := 7) (v := ?_) rfl rfl (by kernel_rfl) (by kernel_rfl) (by kernel_rfl) (fun _ _ _ h => h) (Or.inl ⟨by kernel_rfl, ?_⟩) hS ?_
              rotate_left 1
              · (intro w' hS'; go_simp; try (with_reducible rfl))
              simp only [List.setIfInBounds_toArray, List.set_cons_succ, List.set_cons_zero]
              refine takeH (i := 8) (v := ?_) rfl rfl (by kernel_rfl) (by kernel_rfl) (by kernel_rfl) (fun _ _ _ h => h) (Or.inl ⟨by kernel_rfl, ?_⟩) hS ?_
              rotate_left 1
              · (intro w' hS'; have g1 := hS'.cell e0; go_simp; try (with_reducible rfl))
              simp only [List.setIfInBounds_toArray, List.set_cons_succ, List.set_cons_zero]
              refine takeH (i := 9) (v := ?_) rfl rfl (by kernel_rfl) (by kernel_rfl) (by kernel_rfl) (fun _ _ _ h => h) (Or.inl ⟨by kernel_rfl, ?_⟩) hS ?_
              rotate_left 1
              · (intro w' hS'; go_simp; try (with_reducible rfl))
              simp only [List.setIfInBounds_toArray, List.set_cons_succ, List.set_cons_zero]
              refine wpAnyH_ready (rs := [4]) (by kernel_rfl) (by simp) ?_
              refine AllReadyH.cons rfl (fun K hK => ?_) ?_
              rotate_left 1
              · exact AllReadyH.nil
              go_simp
              refine (H28 _ (t7.ext hS)).mono ?_; rintro e w8 ⟨rfl, rfl⟩
              refine hK.out _ _ (hS) (fun hS => ?_)
              clear hK K
              refine takeH (i := 10) (v := ?_) rfl rfl (by kernel_rfl) (by kernel_rfl) (by kernel_rfl) (fun _ _ _ h => h) (Or.inl ⟨by kernel_rfl, ?_⟩) hS ?_
              rotate_left 1
              · (intro w' hS'; go_simp; try (with_reducible rfl))
              simp only [List.setIfInBounds_toArray, List.set_cons_succ, List.set_cons_zero]
              refine takeH (i := 11) (v := ?_) rfl rfl (by kernel_rfl) (by kernel_rfl) (by kernel_rfl) (fun _ _ _ h => h) (Or.inl ⟨by kernel_rfl, ?_⟩) hS ?_
              rotate_left 1
              · (intro w' hS'; go_simp; try (with_reducible rfl))
              simp only [List.setIfInBounds_toArray, List.set_cons_succ, List.set_cons_zero]
              refine takeH (i := 12) (v := ?_) rfl rfl (by kernel_rfl) (by kernel_rfl) (by kernel_rfl) (fun _ _ _ h => h) (Or.inl ⟨by kernel_rfl, ?_⟩) hS ?_
              rotate_left 1
              · (intro w' hS'; go_simp; try (with_reducible rfl))
              simp only [List.setIfInBounds_toArray, List.set_cons_succ, List.set_cons_zero]
              refine takeH (i := 13) (v := ?_) rfl rfl (by kernel_rfl) (by kernel_rfl) (by kernel_rfl) (fun _ _ _ h => h) (Or.inl ⟨by kernel_rfl, ?_⟩) hS ?_
              rotate_left 1
              · (intro w' hS'; go_simp; try (with_reducible rfl))
              simp only [List.setIfInBounds_toArray, List.set_cons_succ, List.set_cons_zero]
              refine takeH (i := 15) (v := ?_) rfl rfl (by kernel_rfl) (by kernel_rfl) (by kernel_rfl) (fun _ _ _ h => h) (Or.inl ⟨by kernel_rfl, ?_⟩) hS ?_
              rotate_left 1
              · (intro w' hS'; go_simp; try (with_reducible rfl))
              simp only [List.setIfInBounds_toArray, List.set_cons_succ, List.set_cons_zero]
              refine takeH (i := 16) (v := ?_) rfl rfl (by kernel_rfl) (by kernel_rfl) (by kernel_rfl) (fun _ _ _ h => h) (Or.inl ⟨by kernel_rfl, ?_⟩) hS ?_
              rotate_left 1
              · (intro w' hS'; go_simp; try (with_reducible rfl))
              simp only [List.setIfInBounds_toArray, List.set_cons_succ, List.set_cons_zero]
              refine takeH (i := 17) (v := ?_) rfl rfl (by kernel_rfl) (by kernel_rfl) (by kernel_rfl) (fun _ _ _ h => h) (Or.inl ⟨by kernel_rfl, ?_⟩) hS ?_
              rotate_left 1
              · (intro w' hS'; go_simp; try (with_reducible rfl))
              simp only [List.setIfInBounds_toArray, List.set_cons_succ, List.set_cons_zero]
              refine takeH (i := 18) (v := ?_) rfl rfl (by kernel_rfl) (by kernel_rfl) (by kernel_rfl) (fun _ _ _ h => h) (Or.inl ⟨by kernel_rfl, ?_⟩) hS ?_
              rotate_left 1
              · (intro w' hS'; have g1 := hS'.cell e1; go_simp; try (with_reducible rfl))
              simp only [List.setIfInBounds_toArray, List.set_cons_succ, List.set_cons_zero]
              refine takeH (i := 19) (v := ?_) rfl rfl (by kernel_rfl) (by kernel_rfl) (by kernel_rfl) (fun _ _ _ h => h) (Or.inl ⟨by kernel_rfl, ?_⟩) hS ?_
              rotate_left 1
              · (intro w' hS'; go_simp; try (with_reducible rfl))
              simp only [List.setIfInBounds_toArray, List.set_cons_succ, List.set_cons_zero]
              refine wpAnyH_ready (rs := [14]) (by kernel_rfl) (by simp) ?_
              refine AllReadyH.cons rfl (fun K hK => ?_) ?_
              rotate_left 1
              · exact AllReadyH.nil
              go_simp
              refine (H27 _ (t7.ext hS)).mono ?_; rintro e w9 ⟨rfl, rfl⟩
              refine hK.out _ _ (hS) (fun hS => ?_)
              clear hK K
              refine takeH (i := 20) (v := ?_) rfl rfl (by kernel_rfl) (by kernel_rfl) (by kernel_rfl) (fun _ _ _ h => h) (Or.inl ⟨by kernel_rfl, ?_⟩) hS ?_
              rotate_left 1
              · (intro w' hS'; go_simp; try (with_reducible rfl))
              simp only [List.setIfInBounds_toArray, List.set_cons_succ, List.set_cons_zero]
              refine takeH (i := 21) (v := ?_) rfl rfl (by kernel_rfl) (by kernel_rfl) (by kernel_rfl) (fun _ _ _ h => h) (Or.inl ⟨by kernel_rfl, ?_⟩) hS ?_
              rotate_left 1
              · (intro w' hS'; go_simp; try (with_reducible rfl))
              simp only [List.setIfInBounds_toArray, List.set_cons_succ, List.set_cons_zero]
              refine takeH (i := 22) (v := ?_) rfl rfl (by kernel_rfl) (by kernel_rfl) (by kernel_rfl) (fun _ _ _ h => h) (Or.inl ⟨by kernel_rfl, ?_⟩) hS ?_
              rotate_left 1
              · (intro w' hS'; go_simp; try (with_reducible rfl))
              simp only [List.setIfInBounds_toArray, List.set_cons_succ, List.set_cons_zero]
              refine takeH (i := 23) (v := ?_) rfl rfl (by kernel_rfl) (by kernel_rfl) (by kernel_rfl) (fun _ _ _ h => h) (Or.inl ⟨by kernel_rfl, ?_⟩) hS ?_
              rotate_left 1
              · (intro w' hS'; go_simp; try (with_reducible rfl))
              simp only [List.setIfInBounds_toArray, List.set_cons_succ, List.set_cons_zero]
              refine takeH (i := 24) (v := ?_) rfl rfl (by kernel_rfl) (by kernel_rfl) (by kernel_rfl) (fun _ _ _ h => h) (Or.inl ⟨by kernel_rfl, ?_⟩) hS ?_
              rotate_left 1
              · (intro w' hS'; have g1 := hS'.cell e0; go_simp; try (with_reducible rfl))
              simp only [List.setIfInBounds_toArray, List.set_cons_succ, List.set_cons_zero]
              refine takeH (i := 25) (v := ?_) rfl rfl (by kernel_rfl) (by kernel_rfl) (by kernel_rfl) (fun _ _ _ h => h) (Or.inl ⟨by kernel_rfl, ?_⟩) hS ?_
              rotate_left 1
              · (intro w' hS'; go_simp; try (with_reducible rfl))
              simp only [List.setIfInBounds_toArray, List.set_cons_succ, List.set_cons_zero]
              refine takeH (i := 26) (v := ?_) rfl rfl (by kernel_rfl) (by kernel_rfl) (by kernel_rfl) (fun _ _ _ h => h) (Or.inl ⟨by kernel_rfl, ?_⟩) hS ?_
              rotate_left 1
              · (intro w' hS'; go_simp; try (with_reducible rfl))
              simp only [List.setIfInBounds_toArray, List.set_cons_succ, List.set_cons_zero]
              refine takeH (i := 27) (v := ?_) rfl rfl (by kernel_rfl) (by kernel_rfl) (by kernel_rfl) (fun _ _ _ h => h) (Or.inl ⟨by kernel_rfl, ?_⟩) hS ?_
              rotate_left 1
              · (intro w' hS'; go_simp; try (with_reducible rfl))
              simp only [List.setIfInBounds_toArray, List.set_cons_succ, List.set_cons_zero]
              refine takeH (i := 28) (v := ?_) rfl rfl (by kernel_rfl) (by kernel_rfl) (by kernel_rfl) (fun _ _ _ h => h) (Or.inl ⟨by kernel_rfl, ?_⟩) hS ?_
              rotate_left 1
              · (intro w' hS'; go_simp; try (with_reducible rfl))
              simp only [List.setIfInBounds_toArray, List.set_cons_succ, List.set_cons_zero]
              refine wpAnyH_done (by kernel_rfl) ?_ _
              go_wp2_with fail
              go_roundg (n - (j + 1))
              case measure => omega
              case rel => exact ⟨j + 1, _, _, by omega, by omega, by go_num, t7.ext hS, s7.ext hS, hG1, x7.trans hS⟩
          by_cases k1 : kd = 1
          · subst k1
            have HNum := fun W h => f26_any k F B f W (by omega) h
            have HRn := fun W h => f39_any m B f W (by omega) h hB2
            have hG1 := hG.zig
            generalize (zigOut B).1 = V at *
            generalize (zigOut B).2.1 = B1 at *
            generalize (zigOut B).2.2 = f1 at *
            clear hB2
            go_wp2_with fail
            have hh := heap_alloc_new wr (.cells #[.int .i64 1, .int .i64 nn, .int .i64 sz, strOf tx] 35)
            have c2 : (wr.alloc (.cells #[.int .i64 1, .int .i64 nn, .int .i64 sz, strOf tx] 35)).cell? ⟨wr.heap.size, 2, none⟩ = some (.int .i64 sz) := by rw [cell_of_row _ _ _ _ _ _ hh]; rfl
            have xA := hxr.alloc (.cells #[.int .i64 1, .int .i64 nn, .int .i64 sz, strOf tx] 35)
            have tA := ht.ext ((Ext.refl wr).alloc (.cells #[.int .i64 1, .int .i64 nn, .int .i64 sz, strOf tx] 35))
            have sA := hs.ext ((Ext.refl wr).alloc (.cells #[.int .i64 1, .int .i64 nn, .int .i64 sz, strOf tx] 35))
            have hfk : ¬ wr.heap.size = k := by omega
            have hfm : ¬ wr.heap.size = m := by omega
            clear hh
            generalize wr.alloc (.cells #[.int .i64 1, .int .i64 nn, .int .i64 sz, strOf tx] 35) = wA at *
            generalize wr.heap.size = fb at *
            have hT : Ext wA wA.drew := (Ext.refl _).drew
            refine (HNum _ tA).mono ?_
            rintro e w6 ⟨rfl, t6, u6⟩
            have s6 := sA.upd u6 hkm
            go_wp2_with fail
            refine (HRn _ s6).mono ?_
            rintro e w7 ⟨rfl, s7, u7⟩
            have t7 := t6.upd u7 hFm
            go_wp2_with fail
            have x7 := (xA.trans' u6 (fun b e => by rw [e]; exact hk)).trans' u7 (fun b e => by rw [e]; exact hm5)
            clear u6 u7 xA hT t6 s6 ht hs hxr hG
            have H28 := fun W h => f28_any k F B1 f1 W h
            have H27 := fun W h => f27_any k F B1 f1 W h
            obtain ⟨e0, e1, ez⟩ := s7.cells
            go_wp2_with fail
            obtain ⟨rfl, rfl⟩ | ⟨rfl, rfl⟩ | ⟨y, l, rfl, rfl⟩ := hG1.cases
            · refine wp_region_held_drew (S := fun w' => Ext w7 w') (by kernel_rfl) ((Ext.refl _).drew) (fun hS => ?_)
              refine takeH (i := 0) (v := ?_) rfl rfl (by kernel_rfl) (by kernel_rfl) (by kernel_rfl) (fun _ _ _ h => h) (Or.inl ⟨by kernel_rfl, ?_⟩) hS ?_
              rotate_left 1
              · (intro w' hS'; go_simp; try (with_reducible rfl))
              simp only [List.setIfInBounds_toArray, List.set_cons_succ, List.set_cons_zero]
              refine takeH (i := 1) (v := ?_) rfl rfl (by kernel_rfl) (by kernel_rfl) (by kernel_rfl) (fun _ _ _ h => h) (Or.inl ⟨by kernel_rfl, ?_⟩) hS ?_
              rotate_left 1
              · (intro w' hS'; go_simp; try (with_reducible rfl))
              simp only [List.setIfInBounds_toArray, List.set_cons_succ, List.set_cons_zero]
              refine takeH (i := 2) (v := ?_) rfl rfl (by kernel_rfl) (by kernel_rfl) (by kernel_rfl) (fun _ _ _ h => h) (Or.inl ⟨by kernel_rfl, ?_⟩) hS ?_
              rotate_left 1
              · (intro w' hS'; go_simp; try (with_reducible rfl))
              simp only [List.setIfInBounds_toArray, List.set_cons_succ, List.set_cons_zero]
              refine takeH (i := 3) (v := ?_) rfl rfl (by kernel_rfl) (by kernel_rfl) (by kernel_rfl) (fun _ _ _ h => h) (Or.inl ⟨by kernel_rfl, ?_⟩) hS ?_
              rotate_left 1
              · (intro w' hS'; go_simp; try (with_reducible rfl))
              simp only [List.setIfInBounds_toArray, List.set_cons_succ, List.set_cons_zero]
              refine takeH (i := 5) (v := ?_) rfl rfl (by kernel_rfl) (by kernel_rfl) (by kernel_rfl) (fun _ _ _ h => h) (Or.inl ⟨by kernel_rfl, ?_⟩) hS ?_
              rotate_left 1
              · (intro w' hS'; go_simp; try (with_reducible rfl))
              simp only [List.setIfInBounds_toArray, List.set_cons_succ, List.set_cons_zero]
              refine takeH (i := 6) (v := ?_) rfl rfl (by kernel_rfl) (by kernel_rfl) (by kernel_rfl) (fun _ _ _ h => h) (Or.inl ⟨by kernel_rfl, ?_⟩) hS ?_
              rotate_left 1
              · (intro w' hS'; go_simp; try (with_reducible rfl))
              simp only [List.setIfInBounds_toArray, List.set_cons_succ, List.set_cons_zero]
              refine takeH (i := 7) (v := ?_) rfl rfl (by kernel_rfl) (by kernel_rfl) (by kernel_rfl) (fun _ _ _ h => h) (Or.inl ⟨by kernel_rfl, ?_⟩) hS ?_
              rotate_left 1
              · (intro w' hS'; go_simp; try (with_reducible rfl))
              simp only [List.setIfInBounds_toArray, List.set_cons_succ, List.set_cons_zero]
              refine takeH (i := 8) (v := ?_) rfl rfl (by kernel_rfl) (by kernel_rfl) (by kernel_rfl) (fun _ _ _ h => h) (Or.inl ⟨by kernel_rfl, ?_⟩) hS ?_
              rotate_left 1
              · (intro w' hS'; have g1 := hS'.cell e0; go_simp; try (with_reducible rfl))
              simp only [List.setIfInBounds_toArray, List.set_cons_succ, List.set_cons_zero]
              refine takeH (i := 9) (v := ?_) rfl rfl (by kernel_rfl) (by kernel_rfl) (by kernel_rfl) (fun _ _ _ h => h) (Or.inl ⟨by kernel_rfl, ?_⟩) hS ?_
              rotate_left 1
              · (intro w' hS'; go_simp; try (with_reducible rfl))
              simp only [List.setIfInBounds_toArray, List.set_cons_succ, List.set_cons_zero]
              refine wpAnyH_ready (rs := [4]) (by kernel_rfl) (by simp) ?_
              refine AllReadyH.cons rfl (fun K hK => ?_) ?_
              rotate_left 1
              · exact AllReadyH.nil
              go_simp
              refine (H28 _ (t7.ext hS)).mono ?_; rintro e w8 ⟨rfl, rfl⟩
              refine hK.out _ _ (hS) (fun hS => ?_)
              clear hK K
              refine takeH (i := 10) (v := ?_) rfl rfl (by kernel_rfl) (by kernel_rfl) (by kernel_rfl) (fun _ _ _ h => h) (Or.inl ⟨by kernel_rfl, ?_⟩) hS ?_
              rotate_left 1
              · (intro w' hS'; go_simp; try (with_reducible rfl))
              simp only [List.setIfInBounds_toArray, List.set_cons_succ, List.set_cons_zero]
              refine takeH (i := 11) (v := ?_) rfl rfl (by kernel_rfl) (by kernel_rfl) (by kernel_rfl) (fun _ _ _ h => h) (Or.inl ⟨by kernel_rfl, ?_⟩) hS ?_
              rotate_left 1
              · (intro w' hS'; go_simp; try (with_reducible rfl))
              simp only [List.setIfInBounds_toArray, List.set_cons_succ, List.set_cons_zero]
              refine takeH (i := 12) (v := ?_) rfl rfl (by kernel_rfl) (by kernel_rfl) (by kernel_rfl) (fun _ _ _ h => h) (Or.inl ⟨by kernel_rfl, ?_⟩) hS ?_
              rotate_left 1
              · (intro w' hS'; go_simp; try (with_reducible rfl))
              simp only [List.setIfInBounds_toArray, List.set_cons_succ, List.set_cons_zero]
              refine takeH (i := 13) (v := ?_) rfl rfl (by kernel_rfl) (by kernel_rfl) (by kernel_rfl) (fun _ _ _ h => h) (Or.inl ⟨by kernel_rfl, ?_⟩) hS ?_
              rotate_left 1
              · (intro w' hS'; go_simp; try (with_reducible rfl))
              simp only [List.setIfInBounds_toArray, List.set_cons_succ, List.set_cons_zero]
              refine takeH (i := 15) (v := ?_) rfl rfl (by kernel_rfl) (by kernel_rfl) (by kernel_rfl) (fun _ _ _ h => h) (Or.inl ⟨by kernel_rfl, ?_⟩) hS ?_
              rotate_left 1
              · (intro w' hS'; go_simp; try (with_reducible rfl))
              simp only [List.setIfInBounds_toArray, List.set_cons_succ, List.set_cons_zero]
              refine takeH (i := 16) (v := ?_) rfl rfl (by kernel_rfl) (by kernel_rfl) (by kernel_rfl) (fun _ _ _ h => h) (Or.inl ⟨by kernel_rfl, ?_⟩) hS ?_
              rotate_left 1
              · (intro w' hS'; go_simp; try (with_reducible rfl))
              simp only [List.setIfInBounds_toArray, List.set_cons_succ, List.set_cons_zero]
              refine takeH (i := 17) (v := ?_) rfl rfl (by kernel_rfl) (by kernel_rfl) (by kernel_rfl) (fun _ _ _ h => h) (Or.inl ⟨by kernel_rfl, ?_⟩) hS ?_
              rotate_left 1
              · (intro w' hS'; go_simp; try (with_reducible rfl))
              simp only [List.setIfInBounds_toArray, List.set_cons_succ, List.set_cons_zero]
              refine takeH (i := 18) (v := ?_) rfl rfl (by kernel_rfl) (by kernel_rfl) (by kernel_rfl) (fun _ _ _ h => h) (Or.inl ⟨by kernel_rfl, ?_⟩) hS ?_
              rotate_left 1
              · (intro w' hS'; have g1 := hS'.cell e1; go_simp; try (with_reducible rfl))
              simp only [List.setIfInBounds_toArray, List.set_cons_succ, List.set_cons_zero]
              refine takeH (i := 19) (v := ?_) rfl rfl (by kernel_rfl) (by kernel_rfl) (by kernel_rfl) (fun _ _ _ h => h) (Or.inl ⟨by kernel_rfl, ?_⟩) hS ?_
              rotate_left 1
              · (intro w' hS'; go_simp; try (with_reducible rfl))
              simp only [List.setIfInBounds_toArray, List.set_cons_succ, List.set_cons_zero]
              refine wpAnyH_ready (rs := [14]) (by kernel_rfl) (by simp) ?_
              refine AllReadyH.cons rfl (fun K hK => ?_) ?_
              rotate_left 1
              · exact AllReadyH.nil
              go_simp
              refine (H27 _ (t7.ext hS)).mono ?_; rintro e w9 ⟨rfl, rfl⟩
              refine hK.out _ _ (hS) (fun hS => ?_)
              clear hK K
              refine takeH (i := 20) (v := ?_) rfl rfl (by kernel_rfl) (by kernel_rfl) (by kernel_rfl) (fun _ _ _ h => h) (Or.inl ⟨by kernel_rfl, ?_⟩) hS ?_
              rotate_left 1
              · (intro w' hS'; go_simp; try (with_reducible rfl))
              simp only [List.setIfInBounds_toArray, List.set_cons_succ, List.set_cons_zero]
              refine takeH (i := 21) (v := undef) rfl rfl (by kernel_rfl) (by kernel_rfl) (by kernel_rfl) (fun _ _ _ h => h) (Or.inr ⟨by kernel_rfl, rfl⟩) hS ?_
              simp only [List.setIfInBounds_toArray, List.set_cons_succ, List.set_cons_zero]
              refine takeH (i := 22) (v := undef) rfl rfl (by kernel_rfl) (by kernel_rfl) (by kernel_rfl) (fun _ _ _ h => h) (Or.inr ⟨by kernel_rfl, rfl⟩) hS ?_
              simp only [List.setIfInBounds_toArray, List.set_cons_succ, List.set_cons_zero]
              refine takeH (i := 23) (v := undef) rfl rfl (by kernel_rfl) (by kernel_rfl) (by kernel_rfl) (fun _ _ _ h => h) (Or.inr ⟨by kernel_rfl, rfl⟩) hS ?_
              simp only [List.setIfInBounds_toArray, List.set_cons_succ, List.set_cons_zero]
              refine takeH (i := 24) (v := undef) rfl rfl (by kernel_rfl) (by kernel_rfl) (by kernel_rfl) (fun _ _ _ h => h) (Or.inr ⟨by kernel_rfl, rfl⟩) hS ?_
              simp only [List.setIfInBounds_toArray, List.set_cons_succ, List.set_cons_zero]
              refine takeH (i := 25) (v := undef) rfl rfl (by kernel_rfl) (by kernel_rfl) (by kernel_rfl) (fun _ _ _ h => h) (Or.inr ⟨by kernel_rfl, rfl⟩) hS ?_
              simp only [List.setIfInBounds_toArray, List.set_cons_succ, List.set_cons_zero]
              refine takeH (i := 26) (v := ?_) rfl rfl (by kernel_rfl) (by kernel_rfl) (by kernel_rfl) (fun _ _ _ h => h) (Or.inl ⟨by kernel_rfl, ?_⟩) hS ?_
              rotate_left 1
              · (intro w' hS'; go_simp; try (with_reducible rfl))
              simp only [List.setIfInBounds_toArray, List.set_cons_succ, List.set_cons_zero]
              refine takeH (i := 27) (v := ?_) rfl rfl (by kernel_rfl) (by kernel_rfl) (by kernel_rfl) (fun _ _ _ h => h) (Or.inl ⟨by kernel_rfl, ?_⟩) hS ?_
              rotate_left 1
              · (intro w' hS'; go_simp; try (with_reducible rfl))
              simp only [List.setIfInBounds_toArray, List.set_cons_succ, List.set_cons_zero]
              refine takeH (i := 28) (v := ?_) rfl rfl (by kernel_rfl) (by kernel_rfl) (by kernel_rfl) (fun _ _ _ h => h) (Or.inl ⟨by kernel_rfl, ?_⟩) hS ?_
              rotate_left 1
              · (intro w' hS'; go_simp; try (with_reducible rfl))
              simp only [List.setIfInBounds_toArray, List.set_cons_succ, List.set_cons_zero]
              refine wpAnyH_done (by kernel_rfl) ?_ _
              go_wp2_with fail
              go_roundg (n - (j + 1))
              case measure => omega
              case rel => exact ⟨j + 1, _, _, by omega, by omega, by go_num, t7.ext hS, s7.ext hS, hG1, x7.trans hS⟩
            · refine wp_region_held_drew (S := fun w' => Ext w7 w') (by kernel_rfl) ((Ext.refl _).drew) (fun hS => ?_)
              refine takeH (i := 0) (v := ?_) rfl rfl (by kernel_rfl) (by kernel_rfl) (by kernel_rfl) (fun _ _ _ h => h) (Or.inl ⟨by kernel_rfl, ?_⟩) hS ?_
              rotate_left 1
              · (intro w' hS'; go_simp; try (with_reducible rfl))
              simp only [List.setIfInBounds_toArray, List.set_cons_succ, List.set_cons_zero]
              refine takeH (i := 1) (v := ?_) rfl rfl (by kernel_rfl) (by kernel_rfl) (by kernel_rfl) (fun _ _ _ h => h) (Or.inl ⟨by kernel_rfl, ?_⟩) hS ?_
              rotate_left 1
              · (intro w' hS'; go_simp; try (with_reducible rfl))
              simp only [List.setIfInBounds_toArray, List.set_cons_succ, List.set_cons_zero]
              refine takeH (i := 2) (v := ?_) rfl rfl (by kernel_rfl) (by kernel_rfl) (by kernel_rfl) (fun _ _ _ h => h) (Or.inl ⟨by kernel_rfl, ?_⟩) hS ?_
              rotate_left 1
              · (intro w' hS'; go_simp; try (with_reducible rfl))
              simp only [List.setIfInBounds_toArray, List.set_cons_succ, List.set_cons_zero]
              refine takeH (i := 3) (v := ?_) rfl rfl (by kernel_rfl) (by kernel_rfl) (by kernel_rfl) (fun _ _ _ h => h) (Or.inl ⟨by kernel_rfl, ?_⟩) hS ?_
              rotate_left 1
              · (intro w' hS'; go_simp; try (with_reducible rfl))
              simp only [List.setIfInBounds_toArray, List.set_cons_succ, List.set_cons_zero]
              refine takeH (i := 5) (v := ?_) rfl rfl (by kernel_rfl) (by kernel_rfl) (by kernel_rfl) (fun _ _ _ h => h) (Or.inl ⟨by kernel_rfl, ?_⟩) hS ?_
              rotate_left 1
              · (intro w' hS'; go_simp; try (with_reducible rfl))
              simp only [List.setIfInBounds_toArray, List.set_cons_succ, List.set_cons_zero]
              refine takeH (i := 6) (v := ?_) rfl rfl (by kernel_rfl) (by kernel_rfl) (by kernel_rfl) (fun _ _ _ h => h) (Or.inl ⟨by kernel_rfl, ?_⟩) hS ?_
              rotate_left 1
              · (intro w' hS'; go_simp; try (with_reducible rfl))
              simp only [List.setIfInBounds_toArray, List.set_cons_succ, List.set_cons_zero]
              refine takeH (i := 7) (v := ?_) rfl rfl (by kernel_rfl) (by kernel_rfl) (by kernel_rfl) (fun _ _ _ h => h) (Or.inl ⟨by kernel_rfl, ?_⟩) hS ?_
              rotate_left 1
              · (intro w' hS'; go_simp; try (with_reducible rfl))
              simp only [List.setIfInBounds_toArray, List.set_cons_succ, List.set_cons_zero]
              refine takeH (i := 8) (v := ?_) rfl rfl (by kernel_rfl) (by kernel_rfl) (by kernel_rfl) (fun _ _ _ h => h) (Or.inl ⟨by kernel_rfl, ?_⟩) hS ?_
              rotate_left 1
              · (intro w' hS'; have g1 := hS'.cell e0; go_simp; try (with_reducible rfl))
              simp only [List.setIfInBounds_toArray, List.set_cons_succ, List.set_cons_zero]
              refine takeH (i := 9) (v := ?_) rfl rfl (by kernel_rfl) (by kernel_rfl) (by kernel_rfl) (fun _ _ _ h => h) (Or.inl ⟨by kernel_rfl, ?_⟩) hS ?_
              rotate_left 1
              · (intro w' hS'; go_simp; try (with_reducible rfl))
              simp only [List.setIfInBounds_toArray, List.set_cons_succ, List.set_cons_zero]
              refine wpAnyH_ready (rs := [4]) (by kernel_rfl) (by simp) ?_
              refine AllReadyH.cons rfl (fun K hK => ?_) ?_
              rotate_left 1
              · exact AllReadyH.nil
              go_simp
              refine (H28 _ (t7.ext hS)).mono ?_; rintro e w8 ⟨rfl, rfl⟩
              refine hK.out _ _ (hS) (fun hS => ?_)
              clear hK K
              refine takeH (i := 10) (v := ?_) rfl rfl (by kernel_rfl) (by kernel_rfl) (by kernel_rfl) (fun _ _ _ h => h) (Or.inl ⟨by kernel_rfl, ?_⟩) hS ?_
              rotate_left 1
              · (intro w' hS'; go_simp; try (with_reducible rfl))
              simp only [List.setIfInBounds_toArray, List.set_cons_succ, List.set_cons_zero]
              refine takeH (i := 11) (v := ?_) rfl rfl (by kernel_rfl) (by kernel_rfl) (by kernel_rfl) (fun _ _ _ h => h) (Or.inl ⟨by kernel_rfl, ?_⟩) hS ?_
              rotate_left 1
              · (intro w' hS'; go_simp; try (with_reducible rfl))
              simp only [List.setIfInBounds_toArray, List.set_cons_succ, List.set_cons_zero]
              refine takeH (i := 12) (v := ?_) rfl rfl (by kernel_rfl) (by kernel_rfl) (by kernel_rfl) (fun _ _ _ h => h) (Or.inl ⟨by kernel_rfl, ?_⟩) hS ?_
              rotate_left 1
              · (intro w' hS'; go_simp; try (with_reducible rfl))
              simp only [List.setIfInBounds_toArray, List.set_cons_succ, List.set_cons_zero]
              refine takeH (i := 13) (v := ?_) rfl rfl (by kernel_rfl) (by kernel_rfl) (by kernel_rfl) (fun _ _ _ h => h) (Or.inl ⟨by kernel_rfl, ?_⟩) hS ?_
              rotate_left 1
              · (intro w' hS'; go_simp; try (with_reducible rfl))
              simp only [List.setIfInBounds_toArray, List.set_cons_succ, List.set_cons_zero]
              refine takeH (i := 15) (v := ?_) rfl rfl (by kernel_rfl) (by kernel_rfl) (by kernel_rfl) (fun _ _ _ h => h) (Or.inl ⟨by kernel_rfl, ?_⟩) hS ?_
              rotate_left 1
              · (intro w' hS'; go_simp; try (with_reducible rfl))
              simp only [List.setIfInBounds_toArray, List.set_cons_succ, List.set_cons_zero]
              refine takeH (i := 16) (v := ?_) rfl rfl (by kernel_rfl) (by kernel_rfl) (by kernel_rfl) (fun _ _ _ h => h) (Or.inl ⟨by kernel_rfl, ?_⟩) hS ?_
              rotate_left 1
              · (intro w' hS'; go_simp; try (with_reducible rfl))
              simp only [List.setIfInBounds_toArray, List.set_cons_succ, List.set_cons_zero]
              refine takeH (i := 17) (v := ?_) rfl rfl (by kernel_rfl) (by kernel_rfl) (by kernel_rfl) (fun _ _ _ h => h) (Or.inl ⟨by kernel_rfl, ?_⟩) hS ?_
              rotate_left 1
              · (intro w' hS'; go_simp; try (with_reducible rfl))
              simp only [List.setIfInBounds_toArray, List.set_cons_succ, List.set_cons_zero]
              refine takeH (i := 18) (v := ?_) rfl rfl (by kernel_rfl) (by kernel_rfl) (by kernel_rfl) (fun _ _ _ h => h) (Or.inl ⟨by kernel_rfl, ?_⟩) hS ?_
              rotate_left 1
              · (intro w' hS'; have g1 := hS'.cell e1; go_simp; try (with_reducible rfl))
              simp only [List.setIfInBounds_toArray, List.set_cons_succ, List.set_cons_zero]
              refine takeH (i := 19) (v := ?_) rfl rfl (by kernel_rfl) (by kernel_rfl) (by kernel_rfl) (fun _ _ _ h => h) (Or.inl ⟨by kernel_rfl, ?_⟩) hS ?_
              rotate_left 1
              · (intro w' hS'; go_simp; try (with_reducible rfl))
              simp only [List.setIfInBounds_toArray, List.set_cons_succ, List.set_cons_zero]
              refine wpAnyH_ready (rs := [14]) (by kernel_rfl) (by simp) ?_
              refine AllReadyH.cons rfl (fun K hK => ?_) ?_
              rotate_left 1
              · exact AllReadyH.nil
              go_simp
              refine (H27 _ (t7.ext hS)).mono ?_; rintro e w9 ⟨rfl, rfl⟩
              refine hK.out _ _ (hS) (fun hS => ?_)
              clear hK K
              refine takeH (i := 20) (v := ?_) rfl rfl (by kernel_rfl) (by kernel_rfl) (by kernel_rfl) (fun _ _ _ h => h) (Or.inl ⟨by kernel_rfl, ?_⟩) hS ?_
              rotate_left 1
              · (intro w' hS'; go_simp; try (with_reducible rfl))
              simp only [List.setIfInBounds_toArray, List.set_cons_succ, List.set_cons_zero]
              refine takeH (i := 21) (v := ?_) rfl rfl (by kernel_rfl) (by kernel_rfl) (by kernel_rfl) (fun _ _ _ h => h) (Or.inl ⟨by kernel_rfl, ?_⟩) hS ?_
              rotate_left 1
              · (intro w' hS'; go_simp; try (with_reducible rfl))
              simp only [List.setIfInBounds_toArray, List.set_cons_succ, List.set_cons_zero]
              refine takeH (i := 22) (v := ?_) rfl rfl (by kernel_rfl) (by kernel_rfl) (by kernel_rfl) (fun _ _ _ h => h) (Or.inl ⟨by kernel_rfl, ?_⟩) hS ?_
              rotate_left 1
              · (intro w' hS'; go_simp; try (with_reducible rfl))
              simp only [List.setIfInBounds_toArray, List.set_cons_succ, List.set_cons_zero]
              refine takeH (i := 23) (v := ?_) rfl rfl (by kernel_rfl) (by kernel_rfl) (by kernel_rfl) (fun _ _ _ h => h) (Or.inl ⟨by kernel_rfl, ?_⟩) hS ?_
              rotate_left 1
              · (intro w' hS'; go_simp; try (with_reducible rfl))
              simp only [List.setIfInBounds_toArray, List.set_cons_succ, List.set_cons_zero]
              refine takeH (i := 24) (v := ?_) rfl rfl (by kernel_rfl) (by kernel_rfl) (by kernel_rfl) (fun _ _ _ h => h) (Or.inl ⟨by kernel_rfl, ?_⟩) hS ?_
              rotate_left 1
              · (intro w' hS'; have g1 := hS'.cell e0; go_simp; try (with_reducible rfl))
              simp only [List.setIfInBounds_toArray, List.set_cons_succ, List.set_cons_zero]
              refine takeH (i := 25) (v := ?_) rfl rfl (by kernel_rfl) (by kernel_rfl) (by kernel_rfl) (fun _ _ _ h => h) (Or.inl ⟨by kernel_rfl, ?_⟩) hS ?_
              rotate_left 1
              · (intro w' hS'; go_simp; try (with_reducible rfl))
              simp only [List.setIfInBounds_toArray, List.set_cons_succ, List.set_cons_zero]
              refine takeH (i := 26) (v := ?_) rfl rfl (by kernel_rfl) (by kernel_rfl) (by kernel_rfl) (fun _ _ _ h => h) (Or.inl ⟨by kernel_rfl, ?_⟩) hS ?_
              rotate_left 1
              · (intro w' hS'; go_simp; try (with_reducible rfl))
              simp only [List.setIfInBounds_toArray, List.set_cons_succ, List.set_cons_zero]
              refine takeH (i := 27) (v := ?_) rfl rfl (by kernel_rfl) (by kernel_rfl) (by kernel_rfl) (fun _ _ _ h => h) (Or.inl ⟨by kernel_rfl, ?_⟩) hS ?_
              rotate_left 1
              · (intro w' hS'; go_simp; try (with_reducible rfl))
              simp only [List.setIfInBounds_toArray, List.set_cons_succ, List.set_cons_zero]
              refine takeH (i := 28) (v := ?_) rfl rfl (by kernel_rfl) (by kernel_rfl) (by kernel_rfl) (fun _ _ _ h => h) (Or.inl ⟨by kernel_rfl, ?_⟩) hS ?_
              rotate_left 1
              · (intro w' hS'; go_simp; try (with_reducible rfl))
              simp only [List.setIfInBounds_toArray, List.set_cons_succ, List.set_cons_zero]
              refine wpAnyH_done (by kernel_rfl) ?_ _
              go_wp2_with fail
              go_roundg (n - (j + 1))
              case measure => omega
              case rel => exact ⟨j + 1, _, _, by omega, by omega, by go_num, t7.ext hS, s7.ext hS, hG1, x7.trans hS⟩
            · refine wp_region_held_drew (S := fun w' => Ext w7 w') (by kernel_rfl) ((Ext.refl _).drew) (fun hS => ?_)
              refine takeH (i := 0) (v := ?_) rfl rfl (by kernel_rfl) (by kernel_rfl) (by kernel_rfl) (fun _ _ _ h => h) (Or.inl ⟨by kernel_rfl, ?_⟩) hS ?_
              rotate_left 1
              · (intro w' hS'; go_simp; try (with_reducible rfl))
              simp only [List.setIfInBounds_toArray, List.set_cons_succ, List.set_cons_zero]
              refine takeH (i := 1) (v := ?_) rfl rfl (by kernel_rfl) (by kernel_rfl) (by kernel_rfl) (fun _ _ _ h => h) (Or.inl ⟨by kernel_rfl, ?_⟩) hS ?_
              rotate_left 1
              · (intro w' hS'; go_simp; try (with_reducible rfl))
              simp only [List.setIfInBounds_toArray, List.set_cons_succ, List.set_cons_zero]
              refine takeH (i := 2) (v := ?_) rfl rfl (by kernel_rfl) (by kernel_rfl) (by kernel_rfl) (fun _ _ _ h => h) (Or.inl ⟨by kernel_rfl, ?_⟩) hS ?_
              rotate_left 1
              · (intro w' hS'; go_simp; try (with_reducible rfl))
              simp only [List.setIfInBounds_toArray, List.set_cons_succ, List.set_cons_zero]
              refine takeH (i := 3) (v := ?_) rfl rfl (by kernel_rfl) (by kernel_rfl) (by kernel_rfl) (fun _ _ _ h => h) (Or.inl ⟨by kernel_rfl, ?_⟩) hS ?_
              rotate_left 1
              · (intro w' hS'; go_simp; try (with_reducible rfl))
              simp only [List.setIfInBounds_toArray, List.set_cons_succ, List.set_cons_zero]
              refine takeH (i := 5) (v := ?_) rfl rfl (by kernel_rfl) (by kernel_rfl) (by kernel_rfl) (fun _ _ _ h => h) (Or.inl ⟨by kernel_rfl, ?_⟩) hS ?_
              rotate_left 1
              · (intro w' hS'; go_simp; try (with_reducible rfl))
              simp only [List.setIfInBounds_toArray, List.set_cons_succ, List.set_cons_zero]
              refine takeH (i := 6) (v := ?_) rfl rfl (by kernel_rfl) (by kernel_rfl) (by kernel_rfl) (fun _ _ _ h => h) (Or.inl ⟨by kernel_rfl, ?_⟩) hS ?_
              rotate_left 1
              · (intro w' hS'; go_simp; try (with_reducible rfl))
              simp only [List.setIfInBounds_toArray, List.set_cons_succ, List.set_cons_zero]
              refine takeH (i := 7) (v := ?_) rfl rfl (by kernel_rfl) (by kernel_rfl) (by kernel_rfl) (fun _ _ _ h => h) (Or.inl ⟨by kernel_rfl, ?_⟩) hS ?_
              rotate_left 1
              · (intro w' hS'; go_simp; try (with_reducible rfl))
              simp only [List.setIfInBounds_toArray, List.set_cons_succ, List.set_cons_zero]
              refine takeH (i := 8) (v := ?_) rfl rfl (by kernel_rfl) (by kernel_rfl) (by kernel_rfl) (fun _ _ _ h => h) (Or.inl ⟨by kernel_rfl, ?_⟩) hS ?_
              rotate_left 1
              · (intro w' hS'; have g1 := hS'.cell e0; go_simp; try (with_reducible rfl))
              simp only [List.setIfInBounds_toArray, List.set_cons_succ, List.set_cons_zero]
              refine takeH (i := 9) (v := ?_) rfl rfl (by kernel_rfl) (by kernel_rfl) (by kernel_rfl) (fun _ _ _ h => h) (Or.inl ⟨by kernel_rfl, ?_⟩) hS ?_
              rotate_left 1
              · (intro w' hS'; go_simp; try (with_reducible rfl))
              simp only [List.setIfInBounds_toArray, List.set_cons_succ, List.set_cons_zero]
              refine wpAnyH_ready (rs := [4]) (by kernel_rfl) (by simp) ?_
              refine AllReadyH.cons rfl (fun K hK => ?_) ?_
              rotate_left 1
              · exact AllReadyH.nil
              go_simp
              refine (H28 _ (t7.ext hS)).mono ?_; rintro e w8 ⟨rfl, rfl⟩
              refine hK.out _ _ (hS) (fun hS => ?_)
              clear hK K
              refine takeH (i := 10) (v := ?_) rfl rfl (by kernel_rfl) (by kernel_rfl) (by kernel_rfl) (fun _ _ _ h => h) (Or.inl ⟨by kernel_rfl, ?_⟩) hS ?_
              rotate_left 1
              · (intro w' hS'; go_simp; try (with_reducible rfl))
              simp only [List.setIfInBounds_toArray, List.set_cons_succ, List.set_cons_zero]
              refine takeH (i := 11) (v := ?_) rfl rfl (by kernel_rfl) (by kernel_rfl) (by kernel_rfl) (fun _ _ _ h => h) (Or.inl ⟨by kernel_rfl, ?_⟩) hS ?_
              rotate_left 1
              · (intro w' hS'; go_simp; try (with_reducible rfl))
              simp only [List.setIfInBounds_toArray, List.set_cons_succ, List.set_cons_zero]
              refine takeH (i := 12) (v := ?_) rfl rfl (by kernel_rfl) (by kernel_rfl) (by kernel_rfl) (fun _ _ _ h => h) (Or.inl ⟨by kernel_rfl, ?_⟩) hS ?_
              rotate_left 1
              · (intro w' hS'; go_simp; try (with_reducible rfl))
              simp only [List.setIfInBounds_toArray, List.set_cons_succ, List.set_cons_zero]
              refine takeH (i := 13) (v := ?_) rfl rfl (by kernel_rfl) (by kernel_rfl) (by kernel_rfl) (fun _ _ _ h => h) (Or.inl ⟨by kernel_rfl, ?_⟩) hS ?_
              rotate_left 1
              · (intro w' hS'; go_simp; try (with_reducible rfl))
              simp only [List.setIfInBounds_toArray, List.set_cons_succ, List.set_cons_zero]
              refine takeH (i := 15) (v := ?_) rfl rfl (by kernel_rfl) (by kernel_rfl) (by kernel_rfl) (fun _ _ _ h => h) (Or.inl ⟨by kernel_rfl, ?_⟩) hS ?_
              rotate_left 1
              · (intro w' hS'; go_simp; try (with_reducible rfl))
              simp only [List.setIfInBounds_toArray, List.set_cons_succ, List.set_cons_zero]
              refine takeH (i := 16) (v := ?_) rfl rfl (by kernel_rfl) (by kernel_rfl) (by kernel_rfl) (fun _ _ _ h => h) (Or.inl ⟨by kernel_rfl, ?_⟩) hS ?_
              rotate_left 1
              · (intro w' hS'; go_simp; try (with_reducible rfl))
              simp only [List.setIfInBounds_toArray, List.set_cons_succ, List.set_cons_zero]
              refine takeH (i := 17) (v := ?_) rfl rfl (by kernel_rfl) (by kernel_rfl) (by kernel_rfl) (fun _ _ _ h => h) (Or.inl ⟨by kernel_rfl, ?_⟩) hS ?_
              rotate_left 1
              · (intro w' hS'; go_simp; try (with_reducible rfl))
              simp only [List.setIfInBounds_toArray, List.set_cons_succ, List.set_cons_zero]
              refine takeH (i := 18) (v := ?_) rfl rfl (by kernel_rfl) (by kernel_rfl) (by kernel_rfl) (fun _ _ _ h => h) (Or.inl ⟨by kernel_rfl, ?_⟩) hS ?_
              rotate_left 1
              · (intro w' hS'; have g1 := hS'.cell e1; go_simp; try (with_reducible rfl))
              simp only [List.setIfInBounds_toArray, List.set_cons_succ, List.set_cons_zero]
              refine takeH (i := 19) (v := ?_) rfl rfl (by kernel_rfl) (by kernel_rfl) (by kernel_rfl) (fun _ _ _ h => h) (Or.inl ⟨by kernel_rfl, ?_⟩) hS ?_
              rotate_left 1
              · (intro w' hS'; go_simp; try (with_reducible rfl))
              simp only [List.setIfInBounds_toArray, List.set_cons_succ, List.set_cons_zero]
              refine wpAnyH_ready (rs := [14]) (by kernel_rfl) (by simp) ?_
              refine AllReadyH.cons rfl (fun K hK => ?_) ?_
              rotate_left 1
              · exact AllReadyH.nil
              go_simp
              refine (H27 _ (t7.ext hS)).mono ?_; rintro e w9 ⟨rfl, rfl⟩
              refine hK.out _ _ (hS) (fun hS => ?_)
              clear hK K
              refine takeH (i := 20) (v := ?_) rfl rfl (by kernel_rfl) (by kernel_rfl) (by kernel_rfl) (fun _ _ _ h => h) (Or.inl ⟨by kernel_rfl, ?_⟩) hS ?_
              rotate_left 1
              · (intro w' hS'; go_simp; try (with_reducible rfl))
              simp only [List.setIfInBounds_toArray, List.set_cons_succ, List.set_cons_zero]
              refine takeH (i := 21) (v := ?_) rfl rfl (by kernel_rfl) (by kernel_rfl) (by kernel_rfl) (fun _ _ _ h => h) (Or.inl ⟨by kernel_rfl, ?_⟩) hS ?_
              rotate_left 1
              · (intro w' hS'; go_simp; try (with_reducible rfl))
              simp only [List.setIfInBounds_toArray, List.set_cons_succ, List.set_cons_zero]
              refine takeH (i := 22) (v := ?_) rfl rfl (by kernel_rfl) (by kernel_rfl) (by kernel_rfl) (fun _ _ _ h => h) (Or.inl ⟨by kernel_rfl, ?_⟩) hS ?_
              rotate_left 1
              · (intro w' hS'; go_simp; try (with_reducible rfl))
              simp only [List.setIfInBounds_toArray, List.set_cons_succ, List.set_cons_zero]
              refine takeH (i := 23) (v := ?_) rfl rfl (by kernel_rfl) (by kernel_rfl) (by kernel_rfl) (fun _ _ _ h => h) (Or.inl ⟨by kernel_rfl, ?_⟩) hS ?_
              rotate_left 1
              · (intro w' hS'; go_simp; try (with_reducible rfl))
              simp only [List.setIfInBounds_toArray, List.set_cons_succ, List.set_cons_zero]
              refine takeH (i := 24) (v := ?_) rfl rfl (by kernel_rfl) (by kernel_rfl) (by kernel_rfl) (fun _ _ _ h => h) (Or.inl ⟨by kernel_rfl, ?_⟩) hS ?_
              rotate_left 1
              · (intro w' hS'; have g1 := hS'.cell e0; go_simp; try (with_reducible rfl))
              simp only [List.setIfInBounds_toArray, List.set_cons_succ, List.set_cons_zero]
              refine takeH (i := 25) (v := ?_) rfl rfl (by kernel_rfl) (by kernel_rfl) (by kernel_rfl) (fun _ _ _ h => h) (Or.inl ⟨by kernel_rfl, ?_⟩) hS ?_
              rotate_left 1
              · (intro w' hS'; go_simp; try (with_reducible rfl))
              simp only [List.setIfInBounds_toArray, List.set_cons_succ, List.set_cons_zero]
              refine takeH (i := 26) (v := ?_) rfl rfl (by kernel_rfl) (by kernel_rfl) (by kernel_rfl) (fun _ _ _ h => h) (Or.inl ⟨by kernel_rfl, ?_⟩) hS ?_
              rotate_left 1
              · (intro w' hS'; go_simp; try (with_reducible rfl))
              simp only [List.setIfInBounds_toArray, List.set_cons_succ, List.set_cons_zero]
              refine takeH (i := 27) (v := ?_) rfl rfl (by kernel_rfl) (by kernel_rfl) (by kernel_rfl) (fun _ _ _ h => h) (Or.inl ⟨by kernel_rfl, ?_⟩) hS ?_
              rotate_left 1
              · (intro w' hS'; go_simp; try (with_reducible rfl))
              simp only [List.setIfInBounds_toArray, List.set_cons_succ, List.set_cons_zero]
              refine takeH (i := 28) (v := ?_) rfl rfl (by kernel_rfl) (by kernel_rfl) (by kernel_rfl) (fun _ _ _ h => h) (Or.inl ⟨by kernel_rfl, ?_⟩) hS ?_
              rotate_left 1
              · (intro w' hS'; go_simp; try (with_reducible rfl))
              simp only [List.setIfInBounds_toArray, List.set_cons_succ, List.set_cons_zero]
              refine wpAnyH_done (by kernel_rfl) ?_ _
              go_wp2_with fail
              go_roundg (n - (j + 1))
              case measure => omega
              case rel => exact ⟨j + 1, _, _, by omega, by omega, by go_num, t7.ext hS, s7.ext hS, hG1, x7.trans hS⟩
          by_cases k2 : kd = 2
          · subst k2
            have HNum := fun W h => f37_any k F B f W h
            have HRn := fun W h => f40_any m B f W hB2 h
            have hG1 := hG.text
            generalize (rText B f).1 = V at *
            generalize (rText B f).2.1 = B1 at *
            generalize (rText B f).2.2 = f1 at *
            clear hB2
            go_wp2_with fail
            have hh := heap_alloc_new wr (.cells #[.int .i64 2, .int .i64 nn, .int .i64 sz, strOf tx] 35)
            have c2 : (wr.alloc (.cells #[.int .i64 2, .int .i64 nn, .int .i64 sz, strOf tx] 35)).cell? ⟨wr.heap.size, 2, none⟩ = some (.int .i64 sz) := by rw [cell_of_row _ _ _ _ _ _ hh]; rfl
            have xA := hxr.alloc (.cells #[.int .i64 2, .int .i64 nn, .int .i64 sz, strOf tx] 35)
            have tA := ht.ext ((Ext.refl wr).alloc (.cells #[.int .i64 2, .int .i64 nn, .int .i64 sz, strOf tx] 35))
            have sA := hs.ext ((Ext.refl wr).alloc (.cells #[.int .i64 2, .int .i64 nn, .int .i64 sz, strOf tx] 35))
            have hfk : ¬ wr.heap.size = k := by omega
            have hfm : ¬ wr.heap.size = m := by omega
            clear hh
            generalize wr.alloc (.cells #[.int .i64 2, .int .i64 nn, .int .i64 sz, strOf tx] 35) = wA at *
            generalize wr.heap.size = fb at *
            have hT : Ext wA wA.drew := (Ext.refl _).drew
            refine (HNum _ tA).mono ?_
            rintro e w6 ⟨rfl, t6, u6⟩
            have s6 := sA.upd u6 hkm
            go_wp2_with fail
            refine (HRn _ s6).mono ?_
            rintro e w7 ⟨rfl, s7, u7⟩
            have t7 := t6.upd u7 hFm
            go_wp2_with fail
            have x7 := (xA.trans' u6 (fun b e => by rw [e]; exact hk)).trans' u7 (fun b e => by rw [e]; exact hm5)
            clear u6 u7 xA hT t6 s6 ht hs hxr hG
            have H28 := fun W h => f28_any k F B1 f1 W h
            have H27 := fun W h => f27_any k F B1 f1 W h
            obtain ⟨e0, e1, ez⟩ := s7.cells
            go_wp2_with fail
            obtain ⟨rfl, rfl⟩ | ⟨rfl, rfl⟩ | ⟨y, l, rfl, rfl⟩ := hG1.cases
            · refine wp_region_held_drew (S := fun w' => Ext w7 w') (by kernel_rfl) ((Ext.refl _).drew) (fun hS => ?_)
              refine takeH (i := 0) (v := ?_) rfl rfl (by kernel_rfl) (by kernel_rfl) (by kernel_rfl) (fun _ _ _ h => h) (Or.inl ⟨by kernel_rfl, ?_⟩) hS ?_
              rotate_left 1
              · (intro w' hS'; go_simp; try (with_reducible rfl))
              simp only [List.setIfInBounds_toArray, List.set_cons_succ, List.set_cons_zero]
              refine takeH (i := 1) (v := ?_) rfl rfl (by kernel_rfl) (by kernel_rfl) (by kernel_rfl) (fun _ _ _ h => h) (Or.inl ⟨by kernel_rfl, ?_⟩) hS ?_
              rotate_left 1
              · (intro w' hS'; go_simp; try (with_reducible rfl))
              simp only [List.setIfInBounds_toArray, List.set_cons_succ, List.set_cons_zero]
              refine takeH (i := 2) (v := ?_) rfl rfl (by kernel_rfl) (by kernel_rfl) (by kernel_rfl) (fun _ _ _ h => h) (Or.inl ⟨by kernel_rfl, ?_⟩) hS ?_
              rotate_left 1
              · (intro w' hS'; go_simp; try (with_reducible rfl))
              simp only [List.setIfInBounds_toArray, List.set_cons_succ, List.set_cons_zero]
              refine takeH (i := 3) (v := ?_) rfl rfl (by kernel_rfl) (by kernel_rfl) (by kernel_rfl) (fun _ _ _ h => h) (Or.inl ⟨by kernel_rfl, ?_⟩) hS ?_
              rotate_left 1
              · (intro w' hS'; go_simp; try (with_reducible rfl))
              simp only [List.setIfInBounds_toArray, List.set_cons_succ, List.set_cons_zero]
              refine takeH (i := 5) (v := ?_) rfl rfl (by kernel_rfl) (by kernel_rfl) (by kernel_rfl) (fun _ _ _ h => h) (Or.inl ⟨by kernel_rfl, ?_⟩) hS ?_
              rotate_left 1
              · (intro w' hS'; go_simp; try (with_reducible rfl))
              simp only [List.setIfInBounds_toArray, List.set_cons_succ, List.set_cons_zero]
              refine takeH (i := 6) (v := ?_) rfl rfl (by kernel_rfl) (by kernel_rfl) (by kernel_rfl) (fun _ _ _ h => h) (Or.inl ⟨by kernel_rfl, ?_⟩) hS ?_
              rotate_left 1
              · (intro w' hS'; go_simp; try (with_reducible rfl))
              simp only [List.setIfInBounds_toArray, List.set_cons_succ, List.set_cons_zero]
              refine takeH (i := 7) (v := ?_) rfl rfl (by kernel_rfl) (by kernel_rfl) (by kernel_rfl) (fun _ _ _ h => h) (Or.inl ⟨by kernel_rfl, ?_⟩) hS ?_
              rotate_left 1
              · (intro w' hS'; go_simp; try (with_reducible rfl))
              simp only [List.setIfInBounds_toArray, List.set_cons_succ, List.set_cons_zero]
              refine takeH (i := 8) (v := ?_) rfl rfl (by kernel_rfl) (by kernel_rfl) (by kernel_rfl) (fun _ _ _ h => h) (Or.inl ⟨by kernel_rfl, ?_⟩) hS ?_
              rotate_left 1
              · (intro w' hS'; have g1 := hS'.cell e0; go_simp; try (with_reducible rfl))
              simp only [List.setIfInBounds_toArray, List.set_cons_succ, List.set_cons_zero]
              refine takeH (i := 9) (v := ?_) rfl rfl (by kernel_rfl) (by kernel_rfl) (by kernel_rfl) (fun _ _ _ h => h) (Or.inl ⟨by kernel_rfl, ?_⟩) hS ?_
              rotate_left 1
              · (intro w' hS'; go_simp; try (with_reducible rfl))
              simp only [List.setIfInBounds_toArray, List.set_cons_succ, List.set_cons_zero]
              refine wpAnyH_ready (rs := [4]) (by kernel_rfl) (by simp) ?_
              refine AllReadyH.cons rfl (fun K hK => ?_) ?_
              rotate_left 1
              · exact AllReadyH.nil
              go_simp
              refine (H28 _ (t7.ext hS)).mono ?_; rintro e w8 ⟨rfl, rfl⟩
              refine hK.out _ _ (hS) (fun hS => ?_)
              clear hK K
              refine takeH (i := 10) (v := ?_) rfl rfl (by kernel_rfl) (by kernel_rfl) (by kernel_rfl) (fun _ _ _ h => h) (Or.inl ⟨by kernel_rfl, ?_⟩) hS ?_
              rotate_left 1
              · (intro w' hS'; go_simp; try (with_reducible rfl))
              simp only [List.setIfInBounds_toArray, List.set_cons_succ, List.set_cons_zero]
              refine takeH (i := 11) (v := ?_) rfl rfl (by kernel_rfl) (by kernel_rfl) (by kernel_rfl) (fun _ _ _ h => h) (Or.inl ⟨by kernel_rfl, ?_⟩) hS ?_
              rotate_left 1
              · (intro w' hS'; go_simp; try (with_reducible rfl))
              simp only [List.setIfInBounds_toArray, List.set_cons_succ, List.set_cons_zero]
              refine takeH (i := 12) (v := ?_) rfl rfl (by kernel_rfl) (by kernel_rfl) (by kernel_rfl) (fun _ _ _ h => h) (Or.inl ⟨by kernel_rfl, ?_⟩) hS ?_
              rotate_left 1
              · (intro w' hS'; go_simp; try (with_reducible rfl))
              simp only [List.setIfInBounds_toArray, List.set_cons_succ, List.set_cons_zero]
              refine takeH (i := 13) (v := ?_) rfl rfl (by kernel_rfl) (by kernel_rfl) (by kernel_rfl) (fun _ _ _ h => h) (Or.inl ⟨by kernel_rfl, ?_⟩) hS ?_
              rotate_left 1
              · (intro w' hS'; go_simp; try (with_reducible rfl))
              simp only [List.setIfInBounds_toArray, List.set_cons_succ, List.set_cons_zero]
              refine takeH (i := 15) (v := ?_) rfl rfl (by kernel_rfl) (by kernel_rfl) (by kernel_rfl) (fun _ _ _ h => h) (Or.inl ⟨by kernel_rfl, ?_⟩) hS ?_
              rotate_left 1
              · (intro w' hS'; go_simp; try (with_reducible rfl))
              simp only [List.setIfInBounds_toArray, List.set_cons_succ, List.set_cons_zero]
              refine takeH (i := 16) (v := ?_) rfl rfl (by kernel_rfl) (by kernel_rfl) (by kernel_rfl) (fun _ _ _ h => h) (Or.inl ⟨by kernel_rfl, ?_⟩) hS ?_
              rotate_left 1
              · (intro w' hS'; go_simp; try (with_reducible rfl))
              simp only [List.setIfInBounds_toArray, List.set_cons_succ, List.set_cons_zero]
              refine takeH (i := 17) (v := ?_) rfl rfl (by kernel_rfl) (by kernel_rfl) (by kernel_rfl) (fun _ _ _ h => h) (Or.inl ⟨by kernel_rfl, ?_⟩) hS ?_
              rotate_left 1
              · (intro w' hS'; go_simp; try (with_reducible rfl))
              simp only [List.setIfInBounds_toArray, List.set_cons_succ, List.set_cons_zero]
              refine takeH (i := 18) (v := ?_) rfl rfl (by kernel_rfl) (by kernel_rfl) (by kernel_rfl) (fun _ _ _ h => h) (Or.inl ⟨by kernel_rfl, ?_⟩) hS ?_
              rotate_left 1
              · (intro w' hS'; have g1 := hS'.cell e1; go_simp; try (with_reducible rfl))
              simp only [List.setIfInBounds_toArray, List.set_cons_succ, List.set_cons_zero]
              refine takeH (i := 19) (v := ?_) rfl rfl (by kernel_rfl) (by kernel_rfl) (by kernel_rfl) (fun _ _ _ h => h) (Or.inl ⟨by kernel_rfl, ?_⟩) hS ?_
              rotate_left 1
              · (intro w' hS'; go_simp; try (with_reducible rfl))
              simp only [List.setIfInBounds_toArray, List.set_cons_succ, List.set_cons_zero]
              refine wpAnyH_ready (rs := [14]) (by kernel_rfl) (by simp) ?_
              refine AllReadyH.cons rfl (fun K hK => ?_) ?_
              rotate_left 1
              · exact AllReadyH.nil
              go_simp
              refine (H27 _ (t7.ext hS)).mono ?_; rintro e w9 ⟨rfl, rfl⟩
              refine hK.out _ _ (hS) (fun hS => ?_)
              clear hK K
              refine takeH (i := 20) (v := ?_) rfl rfl (by kernel_rfl) (by kernel_rfl) (by kernel_rfl) (fun _ _ _ h => h) (Or.inl ⟨by kernel_rfl, ?_⟩) hS ?_
              rotate_left 1
              · (intro w' hS'; go_simp; try (with_reducible rfl))
              simp only [List.setIfInBounds_toArray, List.set_cons_succ, List.set_cons_zero]
              refine takeH (i := 21) (v := undef) rfl rfl (by kernel_rfl) (by kernel_rfl) (by kernel_rfl) (fun _ _ _ h => h) (Or.inr ⟨by kernel_rfl, rfl⟩) hS ?_
              simp only [List.setIfInBounds_toArray, List.set_cons_succ, List.set_cons_zero]
              refine takeH (i := 22) (v := undef) rfl rfl (by kernel_rfl) (by kernel_rfl) (by kernel_rfl) (fun _ _ _ h => h) (Or.inr ⟨by kernel_rfl, rfl⟩) hS ?_
              simp only [List.setIfInBounds_toArray, List.set_cons_succ, List.set_cons_zero]
              refine takeH (i := 23) (v := undef) rfl rfl (by kernel_rfl) (by kernel_rfl) (by kernel_rfl) (fun _ _ _ h => h) (Or.inr ⟨by kernel_rfl, rfl⟩) hS ?_
              simp only [List.setIfInBounds_toArray, List.set_cons_succ, List.set_cons_zero]
              refine takeH (i := 24) (v := undef) rfl rfl (by kernel_rfl) (by kernel_rfl) (by kernel_rfl) (fun _ _ _ h => h) (Or.inr ⟨by kernel_rfl, rfl⟩) hS ?_
              simp only [List.setIfInBounds_toArray, List.set_cons_succ, List.set_cons_zero]
              refine takeH (i := 25) (v := undef) rfl rfl (by kernel_rfl) (by kernel_rfl) (by kernel_rfl) (fun _ _ _ h => h) (Or.inr ⟨by kernel_rfl, rfl⟩) hS ?_
              simp only [List.setIfInBounds_toArray, List.set_cons_succ, List.set_cons_zero]
              refine takeH (i := 26) (v := ?_) rfl rfl (by kernel_rfl) (by kernel_rfl) (by kernel_rfl) (fun _ _ _ h => h) (Or.inl ⟨by kernel_rfl, ?_⟩) hS ?_
              rotate_left 1
              · (intro w' hS'; go_simp; try (with_reducible rfl))
              simp only [List.setIfInBounds_toArray, List.set_cons_succ, List.set_cons_zero]
              refine takeH (i := 27) (v := ?_) rfl rfl (by kernel_rfl) (by kernel_rfl) (by kernel_rfl) (fun _ _ _ h => h) (Or.inl ⟨by kernel_rfl, ?_⟩) hS ?_
              rotate_left 1
              · (intro w' hS'; go_simp; try (with_reducible rfl))
              simp only [List.setIfInBounds_toArray, List.set_cons_succ, List.set_cons_zero]
              refine takeH (i := 28) (v := ?_) rfl rfl (by kernel_rfl) (by kernel_rfl) (by kernel_rfl) (fun _ _ _ h => h) (Or.inl ⟨by kernel_rfl, ?_⟩) hS ?_
              rotate_left 1
              · (intro w' hS'; go_simp; try (with_reducible rfl))
              simp only [List.setIfInBounds_toArray, List.set_cons_succ, List.set_cons_zero]
              refine wpAnyH_done (by kernel_rfl) ?_ _
              go_wp2_with fail
              go_roundg (n - (j + 1))
              case measure => omega
              case rel => exact ⟨j + 1, _, _, by omega, by omega, by go_num, t7.ext hS, s7.ext hS, hG1, x7.trans hS⟩
            · refine wp_region_held_drew (S := fun w' => Ext w7 w') (by kernel_rfl) ((Ext.refl _).drew) (fun hS => ?_)
              refine takeH (i := 0) (v := ?_) rfl rfl (by kernel_rfl) (by kernel_rfl) (by kernel_rfl) (fun _ _ _ h => h) (Or.inl ⟨by kernel_rfl, ?_⟩) hS ?_
              rotate_left 1
              · (intro w' hS'; go_simp; try (with_reducible rfl))
              simp only [List.setIfInBounds_toArray, List.set_cons_succ, List.set_cons_zero]
              refine takeH (i := 1) (v := ?_) rfl rfl (by kernel_rfl) (by kernel_rfl) (by kernel_rfl) (fun _ _ _ h => h) (Or.inl ⟨by kernel_rfl, ?_⟩) hS ?_
              rotate_left 1
              · (intro w' hS'; go_simp; try (with_reducible rfl))
              simp only [List.setIfInBounds_toArray, List.set_cons_succ, List.set_cons_zero]
              refine takeH (i := 2) (v := ?_) rfl rfl (by kernel_rfl) (by kernel_rfl) (by kernel_rfl) (fun _ _ _ h => h) (Or.inl ⟨by kernel_rfl, ?_⟩) hS ?_
              rotate_left 1
              · (intro w' hS'; go_simp; try (with_reducible rfl))
              simp only [List.setIfInBounds_toArray, List.set_cons_succ, List.set_cons_zero]
              refine takeH (i := 3) (v := ?_) rfl rfl (by kernel_rfl) (by kernel_rfl) (by kernel_rfl) (fun _ _ _ h => h) (Or.inl ⟨by kernel_rfl, ?_⟩) hS ?_
              rotate_left 1
              · (intro w' hS'; go_simp; try (with_reducible rfl))
              simp only [List.setIfInBounds_toArray, List.set_cons_succ, List.set_cons_zero]
              refine takeH (i := 5) (v := ?_) rfl rfl (by kernel_rfl) (by kernel_rfl) (by kernel_rfl) (fun _ _ _ h => h) (Or.inl ⟨by kernel_rfl, ?_⟩) hS ?_
              rotate_left 1
              · (intro w' hS'; go_simp; try (with_reducible rfl))
              simp only [List.setIfInBounds_toArray, List.set_cons_succ, List.set_cons_zero]
              refine takeH (i := 6) (v := ?_) rfl rfl (by kernel_rfl) (by kernel_rfl) (by kernel_rfl) (fun _ _ _ h => h) (Or.inl ⟨by kernel_rfl, ?_⟩) hS ?_
              rotate_left 1
              · (intro w' hS'; go_simp; try (with_reducible rfl))
              simp only [List.setIfInBounds_toArray, List.set_cons_succ, List.set_cons_zero]
              refine takeH (i := 7) (v := ?_) rfl rfl (by kernel_rfl) (by kernel_rfl) (by kernel_rfl) (fun _ _ _ h => h) (Or.inl ⟨by kernel_rfl, ?_⟩) hS ?_
              rotate_left 1
              · (intro w' hS'; go_simp; try (with_reducible rfl))
              simp only [List.setIfInBounds_toArray, List.set_cons_succ, List.set_cons_zero]
              refine takeH (i := 8) (v := ?_) rfl rfl (by kernel_rfl) (by kernel_rfl) (by kernel_rfl) (fun _ _ _ h => h) (Or.inl ⟨by kernel_rfl, ?_⟩) hS ?_
              rotate_left 1
              · (intro w' hS'; have g1 := hS'.cell e0; go_simp; try (with_reducible rfl))
              simp only [List.setIfInBounds_toArray, List.set_cons_succ, List.set_cons_zero]
              refine takeH (i := 9) (v := ?_) rfl rfl (by kernel_rfl) (by kernel_rfl) (by kernel_rfl) (fun _ _ _ h => h) (Or.inl ⟨by kernel_rfl, ?_⟩) hS ?_
              rotate_left 1
              · (intro w' hS'; go_simp; try (with_reducible rfl))
              simp only [List.setIfInBounds_toArray, List.set_cons_succ, List.set_cons_zero]
              refine wpAnyH_ready (rs := [4]) (by kernel_rfl) (by simp) ?_
              refine AllReadyH.cons rfl (fun K hK => ?_) ?_
              rotate_left 1
              · exact AllReadyH.nil
              go_simp
              refine (H28 _ (t7.ext hS)).mono ?_; rintro e w8 ⟨rfl, rfl⟩
              refine hK.out _ _ (hS) (fun hS => ?_)
              clear hK K
              refine takeH (i := 10) (v := ?_) rfl rfl (by kernel_rfl) (by kernel_rfl) (by kernel_rfl) (fun _ _ _ h => h) (Or.inl ⟨by kernel_rfl, ?_⟩) hS ?_
              rotate_left 1
              · (intro w' hS'; go_simp; try (with_reducible rfl))
              simp only [List.setIfInBounds_toArray, List.set_cons_succ, List.set_cons_zero]
              refine takeH (i := 11) (v := ?_) rfl rfl (by kernel_rfl) (by kernel_rfl) (by kernel_rfl) (fun _ _ _ h => h) (Or.inl ⟨by kernel_rfl, ?_⟩) hS ?_
              rotate_left 1
              · (intro w' hS'; go_simp; try (with_reducible rfl))
              simp only [List.setIfInBounds_toArray, List.set_cons_succ, List.set_cons_zero]
              refine takeH (i := 12) (v := ?_) rfl rfl (by kernel_rfl) (by kernel_rfl) (by kernel_rfl) (fun _ _ _ h => h) (Or.inl ⟨by kernel_rfl, ?_⟩) hS ?_
              rotate_left 1
              · (intro w' hS'; go_simp; try (with_reducible rfl))
              simp only [List.setIfInBounds_toArray, List.set_cons_succ, List.set_cons_zero]
              refine takeH (i := 13) (v := ?_) rfl rfl (by kernel_rfl) (by kernel_rfl) (by kernel_rfl) (fun _ _ _ h => h) (Or.inl ⟨by kernel_rfl, ?_⟩) hS ?_
              rotate_left 1
              · (intro w' hS'; go_simp; try (with_reducible rfl))
              simp only [List.setIfInBounds_toArray, List.set_cons_succ, List.set_cons_zero]
              refine takeH (i := 15) (v := ?_) rfl rfl (by kernel_rfl) (by kernel_rfl) (by kernel_rfl) (fun _ _ _ h => h) (Or.inl ⟨by kernel_rfl, ?_⟩) hS ?_
              rotate_left 1
              · (intro w' hS'; go_simp; try (with_reducible rfl))
              simp only [List.setIfInBounds_toArray, List.set_cons_succ, List.set_cons_zero]
              refine takeH (i := 16) (v := ?_) rfl rfl (by kernel_rfl) (by kernel_rfl) (by kernel_rfl) (fun _ _ _ h => h) (Or.inl ⟨by kernel_rfl, ?_⟩) hS ?_
              rotate_left 1
              · (intro w' hS'; go_simp; try (with_reducible rfl))
              simp only [List.setIfInBounds_toArray, List.set_cons_succ, List.set_cons_zero]
              refine takeH (i := 17) (v := ?_) rfl rfl (by kernel_rfl) (by kernel_rfl) (by kernel_rfl) (fun _ _ _ h => h) (Or.inl ⟨by kernel_rfl, ?_⟩) hS ?_
              rotate_left 1
              · (intro w' hS'; go_simp; try (with_reducible rfl))
              simp only [List.setIfInBounds_toArray, List.set_cons_succ, List.set_cons_zero]
              refine takeH (i := 18) (v := ?_) rfl rfl (by kernel_rfl) (by kernel_rfl) (by kernel_rfl) (fun _ _ _ h => h) (Or.inl ⟨by kernel_rfl, ?_⟩) hS ?_
              rotate_left 1
              · (intro w' hS'; have g1 := hS'.cell e1; go_simp; try (with_reducible rfl))
              simp only [List.setIfInBounds_toArray, List.set_cons_succ, List.set_cons_zero]
              refine takeH (i := 19) (v := ?_) rfl rfl (by kernel_rfl) (by kernel_rfl) (by kernel_rfl) (fun _ _ _ h => h) (Or.inl ⟨by kernel_rfl, ?_⟩) hS ?_
              rotate_left 1
              · (intro w' hS'; go_simp; try (with_reducible rfl))
              simp only [List.setIfInBounds_toArray, List.set_cons_succ, List.set_cons_zero]
              refine wpAnyH_ready (rs := [14]) (by kernel_rfl) (by simp) ?_
              refine AllReadyH.cons rfl (fun K hK => ?_) ?_
              rotate_left 1
              · exact AllReadyH.nil
              go_simp
              refine (H27 _ (t7.ext hS)).mono ?_; rintro e w9 ⟨rfl, rfl⟩
              refine hK.out _ _ (hS) (fun hS => ?_)
              clear hK K
              refine takeH (i := 20) (v := ?_) rfl rfl (by kernel_rfl) (by kernel_rfl) (by kernel_rfl) (fun _ _ _ h => h) (Or.inl ⟨by kernel_rfl, ?_⟩) hS ?_
              rotate_left 1
              · (intro w' hS'; go_simp; try (with_reducible rfl))
              simp only [List.setIfInBounds_toArray, List.set_cons_succ, List.set_cons_zero]
              refine takeH (i := 21) (v := ?_) rfl rfl (by kernel_rfl) (by kernel_rfl) (by kernel_rfl) (fun _ _ _ h => h) (Or.inl ⟨by kernel_rfl, ?_⟩) hS ?_
              rotate_left 1
              · (intro w' hS'; go_simp; try (with_reducible rfl))
              simp only [List.setIfInBounds_toArray, List.set_cons_succ, List.set_cons_zero]
              refine takeH (i := 22) (v := ?_) rfl rfl (by kernel_rfl) (by kernel_rfl) (by kernel_rfl) (fun _ _ _ h => h) (Or.inl ⟨by kernel_rfl, ?_⟩) hS ?_
              rotate_left 1
              · (intro w' hS'; go_simp; try (with_reducible rfl))
              simp only [List.setIfInBounds_toArray, List.set_cons_succ, List.set_cons_zero]
              refine takeH (i := 23) (v := ?_) rfl rfl (by kernel_rfl) (by kernel_rfl) (by kernel_rfl) (fun _ _ _ h => h) (Or.inl ⟨by kernel_rfl, ?_⟩) hS ?_
              rotate_left 1
              · (intro w' hS'; go_simp; try (with_reducible rfl))
              simp only [List.setIfInBounds_toArray, List.set_cons_succ, List.set_cons_zero]
              refine takeH (i := 24) (v := ?_) rfl rfl (by kernel_rfl) (by kernel_rfl) (by kernel_rfl) (fun _ _ _ h => h) (Or.inl ⟨by kernel_rfl, ?_⟩) hS ?_
              rotate_left 1
              · (intro w' hS'; have g1 := hS'.cell e0; go_simp; try (with_reducible rfl))
              simp only [List.setIfInBounds_toArray, List.set_cons_succ, List.set_cons_zero]
              refine takeH (i := 25) (v := ?_) rfl rfl (by kernel_rfl) (by kernel_rfl) (by kernel_rfl) (fun _ _ _ h => h) (Or.inl ⟨by kernel_rfl, ?_⟩) hS ?_
              rotate_left 1
              · (intro w' hS'; go_simp; try (with_reducible rfl))
              simp only [List.setIfInBounds_toArray, List.set_cons_succ, List.set_cons_zero]
              refine takeH (i := 26) (v := ?_) rfl rfl (by kernel_rfl) (by kernel_rfl) (by kernel_rfl) (fun _ _ _ h => h) (Or.inl ⟨by kernel_rfl, ?_⟩) hS ?_
              rotate_left 1
              · (intro w' hS'; go_simp; try (with_reducible rfl))
              simp only [List.setIfInBounds_toArray, List.set_cons_succ, List.set_cons_zero]
              refine takeH (i := 27) (v := ?_) rfl rfl (by kernel_rfl) (by kernel_rfl) (by kernel_rfl) (fun _ _ _ h => h) (Or.inl ⟨by kernel_rfl, ?_⟩) hS ?_
              rotate_left 1
              · (intro w' hS'; go_simp; try (with_reducible rfl))
              simp only [List.setIfInBounds_toArray, List.set_cons_succ, List.set_cons_zero]
              refine takeH (i := 28) (v := ?_) rfl rfl (by kernel_rfl) (by kernel_rfl) (by kernel_rfl) (fun _ _ _ h => h) (Or.inl ⟨by kernel_rfl, ?_⟩) hS ?_
              rotate_left 1
              · (intro w' hS'; go_simp; try (with_reducible rfl))
              simp only [List.setIfInBounds_toArray, List.set_cons_succ, List.set_cons_zero]
              refine wpAnyH_done (by kernel_rfl) ?_ _
              go_wp2_with fail
              go_roundg (n - (j + 1))
              case measure => omega
              case rel => exact ⟨j + 1, _, _, by omega, by omega, by go_num, t7.ext hS, s7.ext hS, hG1, x7.trans hS⟩
            · refine wp_region_held_drew (S := fun w' => Ext w7 w') (by kernel_rfl) ((Ext.refl _).drew) (fun hS => ?_)
              refine takeH (i := 0) (v := ?_) rfl rfl (by kernel_rfl) (by kernel_rfl) (by kernel_rfl) (fun _ _ _ h => h) (Or.inl ⟨by kernel_rfl, ?_⟩) hS ?_
              rotate_left 1
              · (intro w' hS'; go_simp; try (with_reducible rfl))
              simp only [List.setIfInBounds_toArray, List.set_cons_succ, List.set_cons_zero]
              refine takeH (i := 1) (v := ?_) rfl rfl (by kernel_rfl) (by kernel_rfl) (by kernel_rfl) (fun _ _ _ h => h) (Or.inl ⟨by kernel_rfl, ?_⟩) hS ?_
              rotate_left 1
              · (intro w' hS'; go_simp; try (with_reducible rfl))
              simp only [List.setIfInBounds_toArray, List.set_cons_succ, List.set_cons_zero]
              refine takeH (i := 2) (v := ?_) rfl rfl (by kernel_rfl) (by kernel_rfl) (by kernel_rfl) (fun _ _ _ h => h) (Or.inl ⟨by kernel_rfl, ?_⟩) hS ?_
              rotate_left 1
              · (intro w' hS'; go_simp; try (with_reducible rfl))
              simp only [List.setIfInBounds_toArray, List.set_cons_succ, List.set_cons_zero]
              refine takeH (i := 3) (v := ?_) rfl rfl (by kernel_rfl) (by kernel_rfl) (by kernel_rfl) (fun _ _ _ h => h) (Or.inl ⟨by kernel_rfl, ?_⟩) hS ?_
              rotate_left 1
              · (intro w' hS'; go_simp; try (with_reducible rfl))
              simp only [List.setIfInBounds_toArray, List.set_cons_succ, List.set_cons_zero]
              refine takeH (i := 5) (v := ?_) rfl rfl (by kernel_rfl) (by kernel_rfl) (by kernel_rfl) (fun _ _ _ h => h) (Or.inl ⟨by kernel_rfl, ?_⟩) hS ?_
              rotate_left 1
              · (intro w' hS'; go_simp; try (with_reducible rfl))
              simp only [List.setIfInBounds_toArray, List.set_cons_succ, List.set_cons_zero]
              refine takeH (i := 6) (v := ?_) rfl rfl (by kernel_rfl) (by kernel_rfl) (by kernel_rfl) (fun _ _ _ h => h) (Or.inl ⟨by kernel_rfl, ?_⟩) hS ?_
              rotate_left 1
              · (intro w' hS'; go_simp; try (with_reducible rfl))
              simp only [List.setIfInBounds_toArray, List.set_cons_succ, List.set_cons_zero]
              refine takeH (i := 7) (v := ?_) rfl rfl (by kernel_rfl) (by kernel_rfl) (by kernel_rfl) (fun _ _ _ h => h) (Or.inl ⟨by kernel_rfl, ?_⟩) hS ?_
              rotate_left 1
              · (intro w' hS'; go_simp; try (with_reducible rfl))
              simp only [List.setIfInBounds_toArray, List.set_cons_succ, List.set_cons_zero]
              refine takeH (i := 8) (v := ?_) rfl rfl (by kernel_rfl) (by kernel_rfl) (by kernel_rfl) (fun _ _ _ h => h) (Or.inl ⟨by kernel_rfl, ?_⟩) hS ?_
              rotate_left 1
              · (intro w' hS'; have g1 := hS'.cell e0; go_simp; try (with_reducible rfl))
              simp only [List.setIfInBounds_toArray, List.set_cons_succ, List.set_cons_zero]
              refine takeH (i := 9) (v := ?_) rfl rfl (by kernel_rfl) (by kernel_rfl) (by kernel_rfl) (fun _ _ _ h => h) (Or.inl ⟨by kernel_rfl, ?_⟩) hS ?_
              rotate_left 1
              · (intro w' hS'; go_simp; try (with_reducible rfl))
              simp only [List.setIfInBounds_toArray, List.set_cons_succ, List.set_cons_zero]
              refine wpAnyH_ready (rs := [4]) (by kernel_rfl) (by simp) ?_
              refine AllReadyH.cons rfl (fun K hK => ?_) ?_
              rotate_left 1
              · exact AllReadyH.nil
              go_simp
              refine (H28 _ (t7.ext hS)).mono ?_; rintro e w8 ⟨rfl, rfl⟩
              refine hK.out _ _ (hS) (fun hS => ?_)
              clear hK K
              refine takeH (i := 10) (v := ?_) rfl rfl (by kernel_rfl) (by kernel_rfl) (by kernel_rfl) (fun _ _ _ h => h) (Or.inl ⟨by kernel_rfl, ?_⟩) hS ?_
              rotate_left 1
              · (intro w' hS'; go_simp; try (with_reducible rfl))
              simp only [List.setIfInBounds_toArray, List.set_cons_succ, List.set_cons_zero]
              refine takeH (i := 11) (v := ?_) rfl rfl (by kernel_rfl) (by kernel_rfl) (by kernel_rfl) (fun _ _ _ h => h) (Or.inl ⟨by kernel_rfl, ?_⟩) hS ?_
              rotate_left 1
              · (intro w' hS'; go_simp; try (with_reducible rfl))
              simp only [List.setIfInBounds_toArray, List.set_cons_succ, List.set_cons_zero]
              refine takeH (i := 12) (v := ?_) rfl rfl (by kernel_rfl) (by kernel_rfl) (by kernel_rfl) (fun _ _ _ h => h) (Or.inl ⟨by kernel_rfl, ?_⟩) hS ?_
              rotate_left 1
              · (intro w' hS'; go_simp; try (with_reducible rfl))
              simp only [List.setIfInBounds_toArray, List.set_cons_succ, List.set_cons_zero]
              refine takeH (i := 13) (v := ?_) rfl rfl (by kernel_rfl) (by kernel_rfl) (by kernel_rfl) (fun _ _ _ h => h) (Or.inl ⟨by kernel_rfl, ?_⟩) hS ?_
              rotate_left 1
              · (intro w' hS'; go_simp; try (with_reducible rfl))
              simp only [List.setIfInBounds_toArray, List.set_cons_succ, List.set_cons_zero]
              refine takeH (i := 15) (v := ?_) rfl rfl (by kernel_rfl) (by kernel_rfl) (by kernel_rfl) (fun _ _ _ h => h) (Or.inl ⟨by kernel_rfl, ?_⟩) hS ?_
              rotate_left 1
              · (intro w' hS'; go_simp; try (with_reducible rfl))
              simp only [List.setIfInBounds_toArray, List.set_cons_succ, List.set_cons_zero]
              refine takeH (i := 16) (v := ?_) rfl rfl (by kernel_rfl) (by kernel_rfl) (by kernel_rfl) (fun _ _ _ h => h) (Or.inl ⟨by kernel_rfl, ?_⟩) hS ?_
              rotate_left 1
              · (intro w' hS'; go_simp; try (with_reducible rfl))
              simp only [List.setIfInBounds_toArray, List.set_cons_succ, List.set_cons_zero]
              refine takeH (i := 17) (v := ?_) rfl rfl (by kernel_rfl) (by kernel_rfl) (by kernel_rfl) (fun _ _ _ h => h) (Or.inl ⟨by kernel_rfl, ?_⟩) hS ?_
              rotate_left 1
              · (intro w' hS'; go_simp; try (with_reducible rfl))
              simp only [List.setIfInBounds_toArray, List.set_cons_succ, List.set_cons_zero]
              refine takeH (i := 18) (v := ?_) rfl rfl (by kernel_rfl) (by kernel_rfl) (by kernel_rfl) (fun _ _ _ h => h) (Or.inl ⟨by kernel_rfl, ?_⟩) hS ?_
              rotate_left 1
              · (intro w' hS'; have g1 := hS'.cell e1; go_simp; try (with_reducible rfl))
              simp only [List.setIfInBounds_toArray, List.set_cons_succ, List.set_cons_zero]
              refine takeH (i := 19) (v := ?_) rfl rfl (by kernel_rfl) (by kernel_rfl) (by kernel_rfl) (fun _ _ _ h => h) (Or.inl ⟨by kernel_rfl, ?_⟩) hS ?_
              rotate_left 1
              · (intro w' hS'; go_simp; try (with_reducible rfl))
              simp only [List.setIfInBounds_toArray, List.set_cons_succ, List.set_cons_zero]
              refine wpAnyH_ready (rs := [14]) (by kernel_rfl) (by simp) ?_
              refine AllReadyH.cons rfl (fun K hK => ?_) ?_
              rotate_left 1
              · exact AllReadyH.nil
              go_simp
              refine (H27 _ (t7.ext hS)).mono ?_; rintro e w9 ⟨rfl, rfl⟩
              refine hK.out _ _ (hS) (fun hS => ?_)
              clear hK K
              refine takeH (i := 20) (v := ?_) rfl rfl (by kernel_rfl) (by kernel_rfl) (by kernel_rfl) (fun _ _ _ h => h) (Or.inl ⟨by kernel_rfl, ?_⟩) hS ?_
              rotate_left 1
              · (intro w' hS'; go_simp; try (with_reducible rfl))
              simp only [List.setIfInBounds_toArray, List.set_cons_succ, List.set_cons_zero]
              refine takeH (i := 21) (v := ?_) rfl rfl (by kernel_rfl) (by kernel_rfl) (by kernel_rfl) (fun _ _ _ h => h) (Or.inl ⟨by kernel_rfl, ?_⟩) hS ?_
              rotate_left 1
              · (intro w' hS'; go_simp; try (with_reducible rfl))
              simp only [List.setIfInBounds_toArray, List.set_cons_succ, List.set_cons_zero]
              refine takeH (i := 22) (v := ?_) rfl rfl (by kernel_rfl) (by kernel_rfl) (by kernel_rfl) (fun _ _ _ h => h) (Or.inl ⟨by kernel_rfl, ?_⟩) hS ?_
              rotate_left 1
              · (intro w' hS'; go_simp; try (with_reducible rfl))
              simp only [List.setIfInBounds_toArray, List.set_cons_succ, List.set_cons_zero]
              refine takeH (i := 23) (v := ?_) rfl rfl (by kernel_rfl) (by kernel_rfl) (by kernel_rfl) (fun _ _ _ h => h) (Or.inl ⟨by kernel_rfl, ?_⟩) hS ?_
              rotate_left 1
              · (intro w' hS'; go_simp; try (with_reducible rfl))
              simp only [List.setIfInBounds_toArray, List.set_cons_succ, List.set_cons_zero]
              refine takeH (i := 24) (v := ?_) rfl rfl (by kernel_rfl) (by kernel_rfl) (by kernel_rfl) (fun _ _ _ h => h) (Or.inl ⟨by kernel_rfl, ?_⟩) hS ?_
              rotate_left 1
              · (intro w' hS'; have g1 := hS'.cell e0; go_simp; try (with_reducible rfl))
              simp only [List.setIfInBounds_toArray, List.set_cons_succ, List.set_cons_zero]
              refine takeH (i := 25) (v := ?_) rfl rfl (by kernel_rfl) (by kernel_rfl) (by kernel_rfl) (fun _ _ _ h => h) (Or.inl ⟨by kernel_rfl, ?_⟩) hS ?_
              rotate_left 1
              · (intro w' hS'; go_simp; try (with_reducible rfl))
              simp only [List.setIfInBounds_toArray, List.set_cons_succ, List.set_cons_zero]
              refine takeH (i := 26) (v := ?_) rfl rfl (by kernel_rfl) (by kernel_rfl) (by kernel_rfl) (fun _ _ _ h => h) (Or.inl ⟨by kernel_rfl, ?_⟩) hS ?_
              rotate_left 1
              · (intro w' hS'; go_simp; try (with_reducible rfl))
              simp only [List.setIfInBounds_toArray, List.set_cons_succ, List.set_cons_zero]
              refine takeH (i := 27) (v := ?_) rfl rfl (by kernel_rfl) (by kernel_rfl) (by kernel_rfl) (fun _ _ _ h => h) (Or.inl ⟨by kernel_rfl, ?_⟩) hS ?_
              rotate_left 1
              · (intro w' hS'; go_simp; try (with_reducible rfl))
              simp only [List.setIfInBounds_toArray, List.set_cons_succ, List.set_cons_zero]
              refine takeH (i := 28) (v := ?_) rfl rfl (by kernel_rfl) (by kernel_rfl) (by kernel_rfl) (fun _ _ _ h => h) (Or.inl ⟨by kernel_rfl, ?_⟩) hS ?_
              rotate_left 1
              · (intro w' hS'; go_simp; try (with_reducible rfl))
              simp only [List.setIfInBounds_toArray, List.set_cons_succ, List.set_cons_zero]
              refine wpAnyH_done (by kernel_rfl) ?_ _
              go_wp2_with fail
              go_roundg (n - (j + 1))
              case measure => omega
              case rel => exact ⟨j + 1, _, _, by omega, by omega, by go_num, t7.ext hS, s7.ext hS, hG1, x7.trans hS⟩
          · have kk0 : (kd == 0) = false := by simpa using k0
            have kk1 : (kd == 1) = false := by simpa using k1
            have kk2 : (kd == 2) = false := by simpa using k2
            clear k0 k1 k2
            have HNum := fun W h => f41_any k F B f sz W h
            have HRn := fun W h => f42_any m B f sz W hB2 h
            have hG1 := hG.take (wid sz)
            generalize rSgn sz B f = V at *
            generalize (rTake ((wid sz : Nat) : Int) B f).2.1 = B1 at *
            generalize (rTake ((wid sz : Nat) : Int) B f).2.2 = f1 at *
            clear hB2
            go_wp2_with fail
            have hh := heap_alloc_new wr (.cells #[.int .i64 kd, .int .i64 nn, .int .i64 sz, strOf tx] 35)
            have c2 : (wr.alloc (.cells #[.int .i64 kd, .int .i64 nn, .int .i64 sz, strOf tx] 35)).cell? ⟨wr.heap.size, 2, none⟩ = some (.int .i64 sz) := by rw [cell_of_row _ _ _ _ _ _ hh]; rfl
            have xA := hxr.alloc (.cells #[.int .i64 kd, .int .i64 nn, .int .i64 sz, strOf tx] 35)
            have tA := ht.ext ((Ext.refl wr).alloc (.cells #[.int .i64 kd, .int .i64 nn, .int .i64 sz, strOf tx] 35))
            have sA := hs.ext ((Ext.refl wr).alloc (.cells #[.int .i64 kd, .int .i64 nn, .int .i64 sz, strOf tx] 35))
            have hfk : ¬ wr.heap.size = k := by omega
            have hfm : ¬ wr.heap.size = m := by omega
            clear hh
            generalize wr.alloc (.cells #[.int .i64 kd, .int .i64 nn, .int .i64 sz, strOf tx] 35) = wA at *
            generalize wr.heap.size = fb at *
            have hT : Ext wA wA.drew := (Ext.refl _).drew
            refine wp_region_held_drew (S := fun w' => w'.cell? ⟨fb, 2, none⟩ = some (.int .i64 sz)) (by kernel_rfl) (c2) (fun hS => ?_)
            refine takeH (i := 0) (v := ?_) rfl rfl (by kernel_rfl) (by kernel_rfl) (by kernel_rfl) (fun _ _ _ h => h) (Or.inl ⟨by kernel_rfl, ?_⟩) hS ?_
            rotate_left 1
            · (intro w' hS'; go_simp; try (with_reducible rfl))
            simp only [List.setIfInBounds_toArray, List.set_cons_succ, List.set_cons_zero]
            refine takeH (i := 1) (v := ?_) rfl rfl (by kernel_rfl) (by kernel_rfl) (by kernel_rfl) (fun _ _ _ h => h) (Or.inl ⟨by kernel_rfl, ?_⟩) hS ?_
            rotate_left 1
            · (intro w' hS'; go_simp; try (with_reducible rfl))
            simp only [List.setIfInBounds_toArray, List.set_cons_succ, List.set_cons_zero]
            refine takeH (i := 2) (v := ?_) rfl rfl (by kernel_rfl) (by kernel_rfl) (by kernel_rfl) (fun _ _ _ h => h) (Or.inl ⟨by kernel_rfl, ?_⟩) hS ?_
            rotate_left 1
            · (intro w' hS'; have g1 := hS'; go_simp; try (with_reducible rfl))
            simp only [List.setIfInBounds_toArray, List.set_cons_succ, List.set_cons_zero]
            refine takeH (i := 4) (v := ?_) rfl rfl (by kernel_rfl) (by kernel_rfl) (by kernel_rfl) (fun _ _ _ h => h) (Or.inl ⟨by kernel_rfl, ?_⟩) hS ?_
            rotate_left 1
            · (intro w' hS'; go_simp; try (with_reducible rfl))
            simp only [List.setIfInBounds_toArray, List.set_cons_succ, List.set_cons_zero]
            refine takeH (i := 5) (v := ?_) rfl rfl (by kernel_rfl) (by kernel_rfl) (by kernel_rfl) (fun _ _ _ h => h) (Or.inl ⟨by kernel_rfl, ?_⟩) hS ?_
            rotate_left 1
            · (intro w' hS'; go_simp; try (with_reducible rfl))
            simp only [List.setIfInBounds_toArray, List.set_cons_succ, List.set_cons_zero]
            refine takeH (i := 6) (v := ?_) rfl rfl (by kernel_rfl) (by kernel_rfl) (by kernel_rfl) (fun _ _ _ h => h) (Or.inl ⟨by kernel_rfl, ?_⟩) hS ?_
            rotate_left 1
            · (intro w' hS'; have g1 := hS'; go_simp; try (with_reducible rfl))
            simp only [List.setIfInBounds_toArray, List.set_cons_succ, List.set_cons_zero]
            refine wpAnyH_ready (rs := [3]) (by kernel_rfl) (by simp) ?_
            refine AllReadyH.cons rfl (fun K hK => ?_) ?_
            rotate_left 1
            · exact AllReadyH.nil
            go_simp
            refine (HNum _ (tA.ext hT)).mono ?_; rintro e w6 ⟨rfl, t6, u6⟩; have s6 := (sA.ext hT).upd u6 hkm; have e2 := u6.cell (hT.cell c2) hfk
            refine hK.out _ _ (e2) (fun hS => ?_)
            clear hK K
            refine wpAnyH_ready (rs := [7]) (by kernel_rfl) (by simp) ?_
            refine AllReadyH.cons rfl (fun K hK => ?_) ?_
            rotate_left 1
            · exact AllReadyH.nil
            go_simp
            refine (HRn _ s6).mono ?_; rintro e w7 ⟨rfl, s7, u7⟩; have t7 := t6.upd u7 hFm; have e3 := u7.cell e2 hfm
            refine hK.out _ _ (e3) (fun hS => ?_)
            clear hK K
            refine takeH (i := 8) (v := ?_) rfl rfl (by kernel_rfl) (by kernel_rfl) (by kernel_rfl) (fun _ _ _ h => h) (Or.inl ⟨by kernel_rfl, ?_⟩) hS ?_
            rotate_left 1
            · (intro w' hS'; go_simp; try (with_reducible rfl))
            simp only [List.setIfInBounds_toArray, List.set_cons_succ, List.set_cons_zero]
            refine takeH (i := 9) (v := ?_) rfl rfl (by kernel_rfl) (by kernel_rfl) (by kernel_rfl) (fun _ _ _ h => h) (Or.inl ⟨by kernel_rfl, ?_⟩) hS ?_
            rotate_left 1
            · (intro w' hS'; go_simp; try (with_reducible rfl))
            simp only [List.setIfInBounds_toArray, List.set_cons_succ, List.set_cons_zero]
            refine wpAnyH_done (by kernel_rfl) ?_ _
            clear hS
            have x7 := ((xA.trans hT).trans' u6 (fun b e => by rw [e]; exact hk)).trans' u7 (fun b e => by rw [e]; exact hm5)
            clear u6 u7 xA hT t6 s6 ht hs hxr hG
            have H28 := fun W h => f28_any k F B1 f1 W h
            have H27 := fun W h => f27_any k F B1 f1 W h
            obtain ⟨e0, e1, ez⟩ := s7.cells
            go_wp2_with fail
            obtain ⟨rfl, rfl⟩ | ⟨rfl, rfl⟩ | ⟨y, l, rfl, rfl⟩ := hG1.cases
            · refine wp_region_held_drew (S := fun w' => Ext w7 w') (by kernel_rfl) ((Ext.refl _).drew) (fun hS => ?_)
              refine takeH (i := 0) (v := ?_) rfl rfl (by kernel_rfl) (by kernel_rfl) (by kernel_rfl) (fun _ _ _ h => h) (Or.inl ⟨by kernel_rfl, ?_⟩) hS ?_
              rotate_left 1
              · (intro w' hS'; go_simp; try (with_reducible rfl))
              simp only [List.setIfInBounds_toArray, List.set_cons_succ, List.set_cons_zero]
              refine takeH (i := 1) (v := ?_) rfl rfl (by kernel_rfl) (by kernel_rfl) (by kernel_rfl) (fun _ _ _ h => h) (Or.inl ⟨by kernel_rfl, ?_⟩) hS ?_
              rotate_left 1
              · (intro w' hS'; go_simp; try (with_reducible rfl))
              simp only [List.setIfInBounds_toArray, List.set_cons_succ, List.set_cons_zero]
              refine takeH (i := 2) (v := ?_) rfl rfl (by kernel_rfl) (by kernel_rfl) (by kernel_rfl) (fun _ _ _ h => h) (Or.inl ⟨by kernel_rfl, ?_⟩) hS ?_
              rotate_left 1
              · (intro w' hS'; go_simp; try (with_reducible rfl))
              simp only [List.setIfInBounds_toArray, List.set_cons_succ, List.set_cons_zero]
              refine takeH (i := 3) (v := ?_) rfl rfl (by kernel_rfl) (by kernel_rfl) (by kernel_rfl) (fun _ _ _ h => h) (Or.inl ⟨by kernel_rfl, ?_⟩) hS ?_
              rotate_left 1
              · (intro w' hS'; go_simp; try (with_reducible rfl))
              simp only [List.setIfInBounds_toArray, List.set_cons_succ, List.set_cons_zero]
              refine takeH (i := 5) (v := ?_) rfl rfl (by kernel_rfl) (by kernel_rfl) (by kernel_rfl) (fun _ _ _ h => h) (Or.inl ⟨by kernel_rfl, ?_⟩) hS ?_
              rotate_left 1
              · (intro w' hS'; go_simp; try (with_reducible rfl))
              simp only [List.setIfInBounds_toArray, List.set_cons_succ, List.set_cons_zero]
              refine takeH (i := 6) (v := ?_) rfl rfl (by kernel_rfl) (by kernel_rfl) (by kernel_rfl) (fun _ _ _ h => h) (Or.inl ⟨by kernel_rfl, ?_⟩) hS ?_
              rotate_left 1
              · (intro w' hS'; go_simp; try (with_reducible rfl))
              simp only [List.setIfInBounds_toArray, List.set_cons_succ, List.set_cons_zero]
              refine takeH (i := 7) (v := ?_) rfl rfl (by kernel_rfl) (by kernel_rfl) (by kernel_rfl) (fun _ _ _ h => h) (Or.inl ⟨by kernel_rfl, ?_⟩) hS ?_
              rotate_left 1
              · (intro w' hS'; go_simp; try (with_reducible rfl))
              simp only [List.setIfInBounds_toArray, List.set_cons_succ, List.set_cons_zero]
              refine takeH (i := 8) (v := ?_) rfl rfl (by kernel_rfl) (by kernel_rfl) (by kernel_rfl) (fun _ _ _ h => h) (Or.inl ⟨by kernel_rfl, ?_⟩) hS ?_
              rotate_left 1
              · (intro w' hS'; have g1 := hS'.cell e0; go_simp; try (with_reducible rfl))
              simp only [List.setIfInBounds_toArray, List.set_cons_succ, List.set_cons_zero]
              refine takeH (i := 9) (v := ?_) rfl rfl (by kernel_rfl) (by kernel_rfl) (by kernel_rfl) (fun _ _ _ h => h) (Or.inl ⟨by kernel_rfl, ?_⟩) hS ?_
              rotate_left 1
              · (intro w' hS'; go_simp; try (with_reducible rfl))
              simp only [List.setIfInBounds_toArray, List.set_cons_succ, List.set_cons_zero]
              refine wpAnyH_ready (rs := [4]) (by kernel_rfl) (by simp) ?_
              refine AllReadyH.cons rfl (fun K hK => ?_) ?_
              rotate_left 1
              · exact AllReadyH.nil
              go_simp
              refine (H28 _ (t7.ext hS)).mono ?_; rintro e w8 ⟨rfl, rfl⟩
              refine hK.out _ _ (hS) (fun hS => ?_)
              clear hK K
              refine takeH (i := 10) (v := ?_) rfl rfl (by kernel_rfl) (by kernel_rfl) (by kernel_rfl) (fun _ _ _ h => h) (Or.inl ⟨by kernel_rfl, ?_⟩) hS ?_
              rotate_left 1
              · (intro w' hS'; go_simp; try (with_reducible rfl))
              simp only [List.setIfInBounds_toArray, List.set_cons_succ, List.set_cons_zero]
              refine takeH (i := 11) (v := ?_) rfl rfl (by kernel_rfl) (by kernel_rfl) (by kernel_rfl) (fun _ _ _ h => h) (Or.inl ⟨by kernel_rfl, ?_⟩) hS ?_
              rotate_left 1
              · (intro w' hS'; go_simp; try (with_reducible rfl))
              simp only [List.setIfInBounds_toArray, List.set_cons_succ, List.set_cons_zero]
              refine takeH (i := 12) (v := ?_) rfl rfl (by kernel_rfl) (by kernel_rfl) (by kernel_rfl) (fun _ _ _ h => h) (Or.inl ⟨by kernel_rfl, ?_⟩) hS ?_
              rotate_left 1
              · (intro w' hS'; go_simp; try (with_reducible rfl))
              simp only [List.setIfInBounds_toArray, List.set_cons_succ, List.set_cons_zero]
              refine takeH (i := 13) (v := ?_) rfl rfl (by kernel_rfl) (by kernel_rfl) (by kernel_rfl) (fun _ _ _ h => h) (Or.inl ⟨by kernel_rfl, ?_⟩) hS ?_
              rotate_left 1
              · (intro w' hS'; go_simp; try (with_reducible rfl))
              simp only [List.setIfInBounds_toArray, List.set_cons_succ, List.set_cons_zero]
              refine takeH (i := 15) (v := ?_) rfl rfl (by kernel_rfl) (by kernel_rfl) (by kernel_rfl) (fun _ _ _ h => h) (Or.inl ⟨by kernel_rfl, ?_⟩) hS ?_
              rotate_left 1
              · (intro w' hS'; go_simp; try (with_reducible rfl))
              simp only [List.setIfInBounds_toArray, List.set_cons_succ, List.set_cons_zero]
              refine takeH (i := 16) (v := ?_) rfl rfl (by kernel_rfl) (by kernel_rfl) (by kernel_rfl) (fun _ _ _ h => h) (Or.inl ⟨by kernel_rfl, ?_⟩) hS ?_
              rotate_left 1
              · (intro w' hS'; go_simp; try (with_reducible rfl))
              simp only [List.setIfInBounds_toArray, List.set_cons_succ, List.set_cons_zero]
              refine takeH (i := 17) (v := ?_) rfl rfl (by kernel_rfl) (by kernel_rfl) (by kernel_rfl) (fun _ _ _ h => h) (Or.inl ⟨by kernel_rfl, ?_⟩) hS ?_
              rotate_left 1
              · (intro w' hS'; go_simp; try (with_reducible rfl))
              simp only [List.setIfInBounds_toArray, List.set_cons_succ, List.set_cons_zero]
              refine takeH (i := 18) (v := ?_) rfl rfl (by kernel_rfl) (by kernel_rfl) (by kernel_rfl) (fun _ _ _ h => h) (Or.inl ⟨by kernel_rfl, ?_⟩) hS ?_
              rotate_left 1
              · (intro w' hS'; have g1 := hS'.cell e1; go_simp; try (with_reducible rfl))
              simp only [List.setIfInBounds_toArray, List.set_cons_succ, List.set_cons_zero]
              refine takeH (i := 19) (v := ?_) rfl rfl (by kernel_rfl) (by kernel_rfl) (by kernel_rfl) (fun _ _ _ h => h) (Or.inl ⟨by kernel_rfl, ?_⟩) hS ?_
              rotate_left 1
              · (intro w' hS'; go_simp; try (with_reducible rfl))
              simp only [List.setIfInBounds_toArray, List.set_cons_succ, List.set_cons_zero]
              refine wpAnyH_ready (rs := [14]) (by kernel_rfl) (by simp) ?_
              refine AllReadyH.cons rfl (fun K hK => ?_) ?_
              rotate_left 1
              · exact AllReadyH.nil
              go_simp
              refine (H27 _ (t7.ext hS)).mono ?_; rintro e w9 ⟨rfl, rfl⟩
              refine hK.out _ _ (hS) (fun hS => ?_)
              clear hK K
              refine takeH (i := 20) (v := ?_) rfl rfl (by kernel_rfl) (by kernel_rfl) (by kernel_rfl) (fun _ _ _ h => h) (Or.inl ⟨by kernel_rfl, ?_⟩) hS ?_
              rotate_left 1
              · (intro w' hS'; go_simp; try (with_reducible rfl))
              simp only [List.setIfInBounds_toArray, List.set_cons_succ, List.set_cons_zero]
              refine takeH (i := 21) (v := undef) rfl rfl (by kernel_rfl) (by kernel_rfl) (by kernel_rfl) (fun _ _ _ h => h) (Or.inr ⟨by kernel_rfl, rfl⟩) hS ?_
              simp only [List.setIfInBounds_toArray, List.set_cons_succ, List.set_cons_zero]
              refine takeH (i := 22) (v := undef) rfl rfl (by kernel_rfl) (by kernel_rfl) (by kernel_rfl) (fun _ _ _ h => h) (Or.inr ⟨by kernel_rfl, rfl⟩) hS ?_
              simp only [List.setIfInBounds_toArray, List.set_cons_succ, List.set_cons_zero]
              refine takeH (i := 23) (v := undef) rfl rfl (by kernel_rfl) (by kernel_rfl) (by kernel_rfl) (fun _ _ _ h => h) (Or.inr ⟨by kernel_rfl, rfl⟩) hS ?_
              simp only [List.setIfInBounds_toArray, List.set_cons_succ, List.set_cons_zero]
              refine takeH (i := 24) (v := undef) rfl rfl (by kernel_rfl) (by kernel_rfl) (by kernel_rfl) (fun _ _ _ h => h) (Or.inr ⟨by kernel_rfl, rfl⟩) hS ?_
              simp only [List.setIfInBounds_toArray, List.set_cons_succ, List.set_cons_zero]
              refine takeH (i := 25) (v := undef) rfl rfl (by kernel_rfl) (by kernel_rfl) (by kernel_rfl) (fun _ _ _ h => h) (Or.inr ⟨by kernel_rfl, rfl⟩) hS ?_
              simp only [List.setIfInBounds_toArray, List.set_cons_succ, List.set_cons_zero]
              refine takeH (i := 26) (v := ?_) rfl rfl (by kernel_rfl) (by kernel_rfl) (by kernel_rfl) (fun _ _ _ h => h) (Or.inl ⟨by kernel_rfl, ?_⟩) hS ?_
              rotate_left 1
              · (intro w' hS'; go_simp; try (with_reducible rfl))
              simp only [List.setIfInBounds_toArray, List.set_cons_succ, List.set_cons_zero]
              refine takeH (i := 27) (v := ?_) rfl rfl (by kernel_rfl) (by kernel_rfl) (by kernel_rfl) (fun _ _ _ h => h) (Or.inl ⟨by kernel_rfl, ?_⟩) hS ?_
              rotate_left 1
              · (intro w' hS'; go_simp; try (with_reducible rfl))
              simp only [List.setIfInBounds_toArray, List.set_cons_succ, List.set_cons_zero]
              refine takeH (i := 28) (v := ?_) rfl rfl (by kernel_rfl) (by kernel_rfl) (by kernel_rfl) (fun _ _ _ h => h) (Or.inl ⟨by kernel_rfl, ?_⟩) hS ?_
              rotate_left 1
              · (intro w' hS'; go_simp; try (with_reducible rfl))
              simp only [List.setIfInBounds_toArray, List.set_cons_succ, List.set_cons_zero]
              refine wpAnyH_done (by kernel_rfl) ?_ _
              go_wp2_with fail
              go_roundg (n - (j + 1))
              case measure => omega
              case rel => exact ⟨j + 1, _, _, by omega, by omega, by go_num, t7.ext hS, s7.ext hS, hG1, x7.trans hS⟩
            · refine wp_region_held_drew (S := fun w' => Ext w7 w') (by kernel_rfl) ((Ext.refl _).drew) (fun hS => ?_)
              refine takeH (i := 0) (v := ?_) rfl rfl (by kernel_rfl) (by kernel_rfl) (by kernel_rfl) (fun _ _ _ h => h) (Or.inl ⟨by kernel_rfl, ?_⟩) hS ?_
              rotate_left 1
              · (intro w' hS'; go_simp; try (with_reducible rfl))
              simp only [List.setIfInBounds_toArray, List.set_cons_succ, List.set_cons_zero]
              refine takeH (i := 1) (v := ?_) rfl rfl (by kernel_rfl) (by kernel_rfl) (by kernel_rfl) (fun _ _ _ h => h) (Or.inl ⟨by kernel_rfl, ?_⟩) hS ?_
              rotate_left 1
              · (intro w' hS'; go_simp; try (with_reducible rfl))
              simp only [List.setIfInBounds_toArray, List.set_cons_succ, List.set_cons_zero]
              refine takeH (i := 2) (v := ?_) rfl rfl (by kernel_rfl) (by kernel_rfl) (by kernel_rfl) (fun _ _ _ h => h) (Or.inl ⟨by kernel_rfl, ?_⟩) hS ?_
              rotate_left 1
              · (intro w' hS'; go_simp; try (with_reducible rfl))
              simp only [List.setIfInBounds_toArray, List.set_cons_succ, List.set_cons_zero]
              refine takeH (i := 3) (v := ?_) rfl rfl (by kernel_rfl) (by kernel_rfl) (by kernel_rfl) (fun _ _ _ h => h) (Or.inl ⟨by kernel_rfl, ?_⟩) hS ?_
              rotate_left 1
              · (intro w' hS'; go_simp; try (with_reducible rfl))
              simp only [List.setIfInBounds_toArray, List.set_cons_succ, List.set_cons_zero]
              refine takeH (i := 5) (v := ?_) rfl rfl (by kernel_rfl) (by kernel_rfl) (by kernel_rfl) (fun _ _ _ h => h) (Or.inl ⟨by kernel_rfl, ?_⟩) hS ?_
              rotate_left 1
              · (intro w' hS'; go_simp; try (with_reducible rfl))
              simp only [List.setIfInBounds_toArray, List.set_cons_succ, List.set_cons_zero]
              refine takeH (i := 6) (v := ?_) rfl rfl (by kernel_rfl) (by kernel_rfl) (by kernel_rfl) (fun _ _ _ h => h) (Or.inl ⟨by kernel_rfl, ?_⟩) hS ?_
              rotate_left 1
              · (intro w' hS'; go_simp; try (with_reducible rfl))
              simp only [List.setIfInBounds_toArray, List.set_cons_succ, List.set_cons_zero]
              refine takeH (i := 7) (v := ?_) rfl rfl (by kernel_rfl) (by kernel_rfl) (by kernel_rfl) (fun _ _ _ h => h) (Or.inl ⟨by kernel_rfl, ?_⟩) hS ?_
              rotate_left 1
              · (intro w' hS'; go_simp; try (with_reducible rfl))
              simp only [List.setIfInBounds_toArray, List.set_cons_succ, List.set_cons_zero]
              refine takeH (i := 8) (v := ?_) rfl rfl (by kernel_rfl) (by kernel_rfl) (by kernel_rfl) (fun _ _ _ h => h) (Or.inl ⟨by kernel_rfl, ?_⟩) hS ?_
              rotate_left 1
              · (intro w' hS'; have g1 := hS'.cell e0; go_simp; try (with_reducible rfl))
              simp only [List.setIfInBounds_toArray, List.set_cons_succ, List.set_cons_zero]
              refine takeH (i := 9) (v := ?_) rfl rfl (by kernel_rfl) (by kernel_rfl) (by kernel_rfl) (fun _ _ _ h => h) (Or.inl ⟨by kernel_rfl, ?_⟩) hS ?_
              rotate_left 1
              · (intro w' hS'; go_simp; try (with_reducible rfl))
              simp only [List.setIfInBounds_toArray, List.set_cons_succ, List.set_cons_zero]
              refine wpAnyH_ready (rs := [4]) (by kernel_rfl) (by simp) ?_
              refine AllReadyH.cons rfl (fun K hK => ?_) ?_
              rotate_left 1
              · exact AllReadyH.nil
              go_simp
              refine (H28 _ (t7.ext hS)).mono ?_; rintro e w8 ⟨rfl, rfl⟩
              refine hK.out _ _ (hS) (fun hS => ?_)
              clear hK K
              refine takeH (i := 10) (v := ?_) rfl rfl (by kernel_rfl) (by kernel_rfl) (by kernel_rfl) (fun _ _ _ h => h) (Or.inl ⟨by kernel_rfl, ?_⟩) hS ?_
              rotate_left 1
              · (intro w' hS'; go_simp; try (with_reducible rfl))
              simp only [List.setIfInBounds_toArray, List.set_cons_succ, List.set_cons_zero]
              refine takeH (i := 11) (v := ?_) rfl rfl (by kernel_rfl) (by kernel_rfl) (by kernel_rfl) (fun _ _ _ h => h) (Or.inl ⟨by kernel_rfl, ?_⟩) hS ?_
              rotate_left 1
              · (intro w' hS'; go_simp; try (with_reducible rfl))
              simp only [List.setIfInBounds_toArray, List.set_cons_succ, List.set_cons_zero]
              refine takeH (i := 12) (v := ?_) rfl rfl (by kernel_rfl) (by kernel_rfl) (by kernel_rfl) (fun _ _ _ h => h) (Or.inl ⟨by kernel_rfl, ?_⟩) hS ?_
              rotate_left 1
              · (intro w' hS'; go_simp; try (with_reducible rfl))
              simp only [List.setIfInBounds_toArray, List.set_cons_succ, List.set_cons_zero]
              refine takeH (i := 13) (v := ?_) rfl rfl (by kernel_rfl) (by kernel_rfl) (by kernel_rfl) (fun _ _ _ h => h) (Or.inl ⟨by kernel_rfl, ?_⟩) hS ?_
              rotate_left 1
              · (intro w' hS'; go_simp; try (with_reducible rfl))
              simp only [List.setIfInBounds_toArray, List.set_cons_succ, List.set_cons_zero]
              refine takeH (i := 15) (v := ?_) rfl rfl (by kernel_rfl) (by kernel_rfl) (by kernel_rfl) (fun _ _ _ h => h) (Or.inl ⟨by kernel_rfl, ?_⟩) hS ?_
              rotate_left 1
              · (intro w' hS'; go_simp; try (with_reducible rfl))
              simp only [List.setIfInBounds_toArray, List.set_cons_succ, List.set_cons_zero]
              refine takeH (i := 16) (v := ?_) rfl rfl (by kernel_rfl) (by kernel_rfl) (by kernel_rfl) (fun _ _ _ h => h) (Or.inl ⟨by kernel_rfl, ?_⟩) hS ?_
              rotate_left 1
              · (intro w' hS'; go_simp; try (with_reducible rfl))
              simp only [List.setIfInBounds_toArray, List.set_cons_succ, List.set_cons_zero]
              refine takeH (i := 17) (v := ?_) rfl rfl (by kernel_rfl) (by kernel_rfl) (by kernel_rfl) (fun _ _ _ h => h) (Or.inl ⟨by kernel_rfl, ?_⟩) hS ?_
              rotate_left 1
              · (intro w' hS'; go_simp; try (with_reducible rfl))
              simp only [List.setIfInBounds_toArray, List.set_cons_succ, List.set_cons_zero]
              refine takeH (i := 18) (v := ?_) rfl rfl (by kernel_rfl) (by kernel_rfl) (by kernel_rfl) (fun _ _ _ h => h) (Or.inl ⟨by kernel_rfl, ?_⟩) hS ?_
              rotate_left 1
              · (intro w' hS'; have g1 := hS'.cell e1; go_simp; try (with_reducible rfl))
              simp only [List.setIfInBounds_toArray, List.set_cons_succ, List.set_cons_zero]
              refine takeH (i := 19) (v := ?_) rfl rfl (by kernel_rfl) (by kernel_rfl) (by kernel_rfl) (fun _ _ _ h => h) (Or.inl ⟨by kernel_rfl, ?_⟩) hS ?_
              rotate_left 1
              · (intro w' hS'; go_simp; try (with_reducible rfl))
              simp only [List.setIfInBounds_toArray, List.set_cons_succ, List.set_cons_zero]
              refine wpAnyH_ready (rs := [14]) (by kernel_rfl) (by simp) ?_
              refine AllReadyH.cons rfl (fun K hK => ?_) ?_
              rotate_left 1
              · exact AllReadyH.nil
              go_simp
              refine (H27 _ (t7.ext hS)).mono ?_; rintro e w9 ⟨rfl, rfl⟩
              refine hK.out _ _ (hS) (fun hS => ?_)
              clear hK K
              refine takeH (i := 20) (v := ?_) rfl rfl (by kernel_rfl) (by kernel_rfl) (by kernel_rfl) (fun _ _ _ h => h) (Or.inl ⟨by kernel_rfl, ?_⟩) hS ?_
              rotate_left 1
              · (intro w' hS'; go_simp; try (with_reducible rfl))
              simp only [List.setIfInBounds_toArray, List.set_cons_succ, List.set_cons_zero]
              refine takeH (i := 21) (v := ?_) rfl rfl (by kernel_rfl) (by kernel_rfl) (by kernel_rfl) (fun _ _ _ h => h) (Or.inl ⟨by kernel_rfl, ?_⟩) hS ?_
              rotate_left 1
              · (intro w' hS'; go_simp; try (with_reducible rfl))
              simp only [List.setIfInBounds_toArray, List.set_cons_succ, List.set_cons_zero]
              refine takeH (i := 22) (v := ?_) rfl rfl (by kernel_rfl) (by kernel_rfl) (by kernel_rfl) (fun _ _ _ h => h) (Or.inl ⟨by kernel_rfl, ?_⟩) hS ?_
              rotate_left 1
              · (intro w' hS'; go_simp; try (with_reducible rfl))
              simp only [List.setIfInBounds_toArray, List.set_cons_succ, List.set_cons_zero]
              refine takeH (i := 23) (v := ?_) rfl rfl (by kernel_rfl) (by kernel_rfl) (by kernel_rfl) (fun _ _ _ h => h) (Or.inl ⟨by kernel_rfl, ?_⟩) hS ?_
              rotate_left 1
              · (intro w' hS'; go_simp; try (with_reducible rfl))
              simp only [List.setIfInBounds_toArray, List.set_cons_succ, List.set_cons_zero]
              refine takeH (i := 24) (v := ?_) rfl rfl (by kernel_rfl) (by kernel_rfl) (by kernel_rfl) (fun _ _ _ h => h) (Or.inl ⟨by kernel_rfl, ?_⟩) hS ?_
              rotate_left 1
              · (intro w' hS'; have g1 := hS'.cell e0; go_simp; try (with_reducible rfl))
              simp only [List.setIfInBounds_toArray, List.set_cons_succ, List.set_cons_zero]
              refine takeH (i := 25) (v := ?_) rfl rfl (by kernel_rfl) (by kernel_rfl) (by kernel_rfl) (fun _ _ _ h => h) (Or.inl ⟨by kernel_rfl, ?_⟩) hS ?_
              rotate_left 1
              · (intro w' hS'; go_simp; try (with_reducible rfl))
              simp only [List.setIfInBounds_toArray, List.set_cons_succ, List.set_cons_zero]
              refine takeH (i := 26) (v := ?_) rfl rfl (by kernel_rfl) (by kernel_rfl) (by kernel_rfl) (fun _ _ _ h => h) (Or.inl ⟨by kernel_rfl, ?_⟩) hS ?_
              rotate_left 1
              · (intro w' hS'; go_simp; try (with_reducible rfl))
              simp only [List.setIfInBounds_toArray, List.set_cons_succ, List.set_cons_zero]
              refine takeH (i := 27) (v := ?_) rfl rfl (by kernel_rfl) (by kernel_rfl) (by kernel_rfl) (fun _ _ _ h => h) (Or.inl ⟨by kernel_rfl, ?_⟩) hS ?_
              rotate_left 1
              · (intro w' hS'; go_simp; try (with_reducible rfl))
              simp only [List.setIfInBounds_toArray, List.set_cons_succ, List.set_cons_zero]
              refine takeH (i := 28) (v := ?_) rfl rfl (by kernel_rfl) (by kernel_rfl) (by kernel_rfl) (fun _ _ _ h => h) (Or.inl ⟨by kernel_rfl, ?_⟩) hS ?_
              rotate_left 1
              · (intro w' hS'; go_simp; try (with_reducible rfl))
              simp only [List.setIfInBounds_toArray, List.set_cons_succ, List.set_cons_zero]
              refine wpAnyH_done (by kernel_rfl) ?_ _
              go_wp2_with fail
              go_roundg (n - (j + 1))
              case measure => omega
              case rel => exact ⟨j + 1, _, _, by omega, by omega, by go_num, t7.ext hS, s7.ext hS, hG1, x7.trans hS⟩
            · refine wp_region_held_drew (S := fun w' => Ext w7 w') (by kernel_rfl) ((Ext.refl _).drew) (fun hS => ?_)
              refine takeH (i := 0) (v := ?_) rfl rfl (by kernel_rfl) (by kernel_rfl) (by kernel_rfl) (fun _ _ _ h => h) (Or.inl ⟨by kernel_rfl, ?_⟩) hS ?_
              rotate_left 1
              · (intro w' hS'; go_simp; try (with_reducible rfl))
              simp only [List.setIfInBounds_toArray, List.set_cons_succ, List.set_cons_zero]
              refine takeH (i := 1) (v := ?_) rfl rfl (by kernel_rfl) (by kernel_rfl) (by kernel_rfl) (fun _ _ _ h => h) (Or.inl ⟨by kernel_rfl, ?_⟩) hS ?_
              rotate_left 1
              · (intro w' hS'; go_simp; try (with_reducible rfl))
              simp only [List.setIfInBounds_toArray, List.set_cons_succ, List.set_cons_zero]
              refine takeH (i := 2) (v := ?_) rfl rfl (by kernel_rfl) (by kernel_rfl) (by kernel_rfl) (fun _ _ _ h => h) (Or.inl ⟨by kernel_rfl, ?_⟩) hS ?_
              rotate_left 1
              · (intro w' hS'; go_simp; try (with_reducible rfl))
              simp only [List.setIfInBounds_toArray, List.set_cons_succ, List.set_cons_zero]
              refine takeH (i := 3) (v := ?_) rfl rfl (by kernel_rfl) (by kernel_rfl) (by kernel_rfl) (fun _ _ _ h => h) (Or.inl ⟨by kernel_rfl, ?_⟩) hS ?_
              rotate_left 1
              · (intro w' hS'; go_simp; try (with_reducible rfl))
              simp only [List.setIfInBounds_toArray, List.set_cons_succ, List.set_cons_zero]
              refine takeH (i := 5) (v := ?_) rfl rfl (by kernel_rfl) (by kernel_rfl) (by kernel_rfl) (fun _ _ _ h => h) (Or.inl ⟨by kernel_rfl, ?_⟩) hS ?_
              rotate_left 1
              · (intro w' hS'; go_simp; try (with_reducible rfl))
              simp only [List.setIfInBounds_toArray, List.set_cons_succ, List.set_cons_zero]
              refine takeH (i := 6) (v := ?_) rfl rfl (by kernel_rfl) (by kernel_rfl) (by kernel_rfl) (fun _ _ _ h => h) (Or.inl ⟨by kernel_rfl, ?_⟩) hS ?_
              rotate_left 1
              · (intro w' hS'; go_simp; try (with_reducible rfl))
              simp only [List.setIfInBounds_toArray, List.set_cons_succ, List.set_cons_zero]
              refine takeH (i := 7) (v := ?_) rfl rfl (by kernel_rfl) (by kernel_rfl) (by kernel_rfl) (fun _ _ _ h => h) (Or.inl ⟨by kernel_rfl, ?_⟩) hS ?_
              rotate_left 1
              · (intro w' hS'; go_simp; try (with_reducible rfl))
              simp only [List.setIfInBounds_toArray, List.set_cons_succ, List.set_cons_zero]
              refine takeH (i := 8) (v := ?_) rfl rfl (by kernel_rfl) (by kernel_rfl) (by kernel_rfl) (fun _ _ _ h => h) (Or.inl ⟨by kernel_rfl, ?_⟩) hS ?_
              rotate_left 1
              · (intro w' hS'; have g1 := hS'.cell e0; go_simp; try (with_reducible rfl))
              simp only [List.setIfInBounds_toArray, List.set_cons_succ, List.set_cons_zero]
              refine takeH (i := 9) (v := ?_) rfl rfl (by kernel_rfl) (by kernel_rfl) (by kernel_rfl) (fun _ _ _ h => h) (Or.inl ⟨by kernel_rfl, ?_⟩) hS ?_
              rotate_left 1
              · (intro w' hS'; go_simp; try (with_reducible rfl))
              simp only [List.setIfInBounds_toArray, List.set_cons_succ, List.set_cons_zero]
              refine wpAnyH_ready (rs := [4]) (by kernel_rfl) (by simp) ?_
              refine AllReadyH.cons rfl (fun K hK => ?_) ?_
              rotate_left 1
              · exact AllReadyH.nil
              go_simp
              refine (H28 _ (t7.ext hS)).mono ?_; rintro e w8 ⟨rfl, rfl⟩
              refine hK.out _ _ (hS) (fun hS => ?_)
              clear hK K
              refine takeH (i := 10) (v := ?_) rfl rfl (by kernel_rfl) (by kernel_rfl) (by kernel_rfl) (fun _ _ _ h => h) (Or.inl ⟨by kernel_rfl, ?_⟩) hS ?_
              rotate_left 1
              · (intro w' hS'; go_simp; try (with_reducible rfl))
              simp only [List.setIfInBounds_toArray, List.set_cons_succ, List.set_cons_zero]
              refine takeH (i := 11) (v := ?_) rfl rfl (by kernel_rfl) (by kernel_rfl) (by kernel_rfl) (fun _ _ _ h => h) (Or.inl ⟨by kernel_rfl, ?_⟩) hS ?_
              rotate_left 1
              · (intro w' hS'; go_simp; try (with_reducible rfl))
              simp only [List.setIfInBounds_toArray, List.set_cons_succ, List.set_cons_zero]
              refine takeH (i := 12) (v := ?_) rfl rfl (by kernel_rfl) (by kernel_rfl) (by kernel_rfl) (fun _ _ _ h => h) (Or.inl ⟨by kernel_rfl, ?_⟩) hS ?_
              rotate_left 1
              · (intro w' hS'; go_simp; try (with_reducible rfl))
              simp only [List.setIfInBounds_toArray, List.set_cons_succ, List.set_cons_zero]
              refine takeH (i := 13) (v := ?_) rfl rfl (by kernel_rfl) (by kernel_rfl) (by kernel_rfl) (fun _ _ _ h => h) (Or.inl ⟨by kernel_rfl, ?_⟩) hS ?_
              rotate_left 1
              · (intro w' hS'; go_simp; try (with_reducible rfl))
              simp only [List.setIfInBounds_toArray, List.set_cons_succ, List.set_cons_zero]
              refine takeH (i := 15) (v := ?_) rfl rfl (by kernel_rfl) (by kernel_rfl) (by kernel_rfl) (fun _ _ _ h => h) (Or.inl ⟨by kernel_rfl, ?_⟩) hS ?_
              rotate_left 1
              · (intro w' hS'; go_simp; try (with_reducible rfl))
              simp only [List.setIfInBounds_toArray, List.set_cons_succ, List.set_cons_zero]
              refine takeH (i := 16) (v := ?_) rfl rfl (by kernel_rfl) (by kernel_rfl) (by kernel_rfl) (fun _ _ _ h => h) (Or.inl ⟨by kernel_rfl, ?_⟩) hS ?_
              rotate_left 1
              · (intro w' hS'; go_simp; try (with_reducible rfl))
              simp only [List.setIfInBounds_toArray, List.set_cons_succ, List.set_cons_zero]
              refine takeH (i := 17) (v := ?_) rfl rfl (by kernel_rfl) (by kernel_rfl) (by kernel_rfl) (fun _ _ _ h => h) (Or.inl ⟨by kernel_rfl, ?_⟩) hS ?_
              rotate_left 1
              · (intro w' hS'; go_simp; try (with_reducible rfl))
              simp only [List.setIfInBounds_toArray, List.set_cons_succ, List.set_cons_zero]
              refine takeH (i := 18) (v := ?_) rfl rfl (by kernel_rfl) (by kernel_rfl) (by kernel_rfl) (fun _ _ _ h => h) (Or.inl ⟨by kernel_rfl, ?_⟩) hS ?_
              rotate_left 1
              · (intro w' hS'; have g1 := hS'.cell e1; go_simp; try (with_reducible rfl))
              simp only [List.setIfInBounds_toArray, List.set_cons_succ, List.set_cons_zero]
              refine takeH (i := 19) (v := ?_) rfl rfl (by kernel_rfl) (by kernel_rfl) (by kernel_rfl) (fun _ _ _ h => h) (Or.inl ⟨by kernel_rfl, ?_⟩) hS ?_
              rotate_left 1
              · (intro w' hS'; go_simp; try (with_reducible rfl))
              simp only [List.setIfInBounds_toArray, List.set_cons_succ, List.set_cons_zero]
              refine wpAnyH_ready (rs := [14]) (by kernel_rfl) (by simp) ?_
              refine AllReadyH.cons rfl (fun K hK => ?_) ?_
              rotate_left 1
              · exact AllReadyH.nil
              go_simp
              refine (H27 _ (t7.ext hS)).mono ?_; rintro e w9 ⟨rfl, rfl⟩
              refine hK.out _ _ (hS) (fun hS => ?_)
              clear hK K
              refine takeH (i := 20) (v := ?_) rfl rfl (by kernel_rfl) (by kernel_rfl) (by kernel_rfl) (fun _ _ _ h => h) (Or.inl ⟨by kernel_rfl, ?_⟩) hS ?_
              rotate_left 1
              · (intro w' hS'; go_simp; try (with_reducible rfl))
              simp only [List.setIfInBounds_toArray, List.set_cons_succ, List.set_cons_zero]
              refine takeH (i := 21) (v := ?_) rfl rfl (by kernel_rfl) (by kernel_rfl) (by kernel_rfl) (fun _ _ _ h => h) (Or.inl ⟨by kernel_rfl, ?_⟩) hS ?_
              rotate_left 1
              · (intro w' hS'; go_simp; try (with_reducible rfl))
              simp only [List.setIfInBounds_toArray, List.set_cons_succ, List.set_cons_zero]
              refine takeH (i := 22) (v := ?_) rfl rfl (by kernel_rfl) (by kernel_rfl) (by kernel_rfl) (fun _ _ _ h => h) (Or.inl ⟨by kernel_rfl, ?_⟩) hS ?_
              rotate_left 1
              · (intro w' hS'; go_simp; try (with_reducible rfl))
              simp only [List.setIfInBounds_toArray, List.set_cons_succ, List.set_cons_zero]
              refine takeH (i := 23) (v := ?_) rfl rfl (by kernel_rfl) (by kernel_rfl) (by kernel_rfl) (fun _ _ _ h => h) (Or.inl ⟨by kernel_rfl, ?_⟩) hS ?_
              rotate_left 1
              · (intro w' hS'; go_simp; try (with_reducible rfl))
              simp only [List.setIfInBounds_toArray, List.set_cons_succ, List.set_cons_zero]
              refine takeH (i := 24) (v := ?_) rfl rfl (by kernel_rfl) (by kernel_rfl) (by kernel_rfl) (fun _ _ _ h => h) (Or.inl ⟨by kernel_rfl, ?_⟩) hS ?_
              rotate_left 1
              · (intro w' hS'; have g1 := hS'.cell e0; go_simp; try (with_reducible rfl))
              simp only [List.setIfInBounds_toArray, List.set_cons_succ, List.set_cons_zero]
              refine takeH (i := 25) (v := ?_) rfl rfl (by kernel_rfl) (by kernel_rfl) (by kernel_rfl) (fun _ _ _ h => h) (Or.inl ⟨by kernel_rfl, ?_⟩) hS ?_
              rotate_left 1
              · (intro w' hS'; go_simp; try (with_reducible rfl))
              simp only [List.setIfInBounds_toArray, List.set_cons_succ, List.set_cons_zero]
              refine takeH (i := 26) (v := ?_) rfl rfl (by kernel_rfl) (by kernel_rfl) (by kernel_rfl) (fun _ _ _ h => h) (Or.inl ⟨by kernel_rfl, ?_⟩) hS ?_
              rotate_left 1
              · (intro w' hS'; go_simp; try (with_reducible rfl))
              simp only [List.setIfInBounds_toArray, List.set_cons_succ, List.set_cons_zero]
              refine takeH (i := 27) (v := ?_) rfl rfl (by kernel_rfl) (by kernel_rfl) (by kernel_rfl) (fun _ _ _ h => h) (Or.inl ⟨by kernel_rfl, ?_⟩) hS ?_
              rotate_left 1
              · (intro w' hS'; go_simp; try (with_reducible rfl))
              simp only [List.setIfInBounds_toArray, List.set_cons_succ, List.set_cons_zero]
              refine takeH (i := 28) (v := ?_) rfl rfl (by kernel_rfl) (by kernel_rfl) (by kernel_rfl) (fun _ _ _ h => h) (Or.inl ⟨by kernel_rfl, ?_⟩) hS ?_
              rotate_left 1
              · (intro w' hS'; go_simp; try (with_reducible rfl))
              simp only [List.setIfInBounds_toArray, List.set_cons_succ, List.set_cons_zero]
              refine wpAnyH_done (by kernel_rfl) ?_ _
              go_wp2_with fail
              go_roundg (n - (j + 1))
              case measure => omega
              case rel => exact ⟨j + 1, _, _, by omega, by omega, by go_num, t7.ext hS, s7.ext hS, hG1, x7.trans hS⟩
        · obtain rfl : j = n := by omega
          have k1 := conv_str A1 bs n1 c1 wr HN1.out (hx15.ext hxr)
          have k2 := conv_str I bs n1 d wr HN1.out (hxI.ext hxr)
          go_wp2_with fail
          go_ret
          exact ⟨rfl, x15.trans hxr⟩
  · have HSM := Lib.hid hsm
    clear hsm
    go_enter Try.func9, Try.ntmps9
    go_wp2_with fail
    refine (f22_any w).mono ?_
    rintro e w1 ⟨rfl, x1⟩
    go_wp2_with fail
    refine (HR w1 false ⟨(fun h => by cases h), fun h => absurd h HSM.out⟩ (hx.ext x1)).mono ?_
    rintro e w1' ⟨rfl, rfl⟩
    go_wp2_with fail
    refine (f22_any w1').mono ?_
    rintro e w2 ⟨rfl, x2⟩
    go_wp2_with fail
    go_ret
    exact ⟨rfl, x1.trans x2⟩
end Go.Proofs.Ytghkkhafnkkomaa
