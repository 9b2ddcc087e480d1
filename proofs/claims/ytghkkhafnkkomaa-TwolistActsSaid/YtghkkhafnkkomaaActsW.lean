/- Whatever is added, touched, removed and let go, each answer and both lists are the document's: the law's walk. -/
import Derived.Test.YtghkkhafnkkomaaTp3
import Derived.Test.YtghkkhafnkkomaaTl3
import Derived.Test.YtghkkhafnkkomaaRVict
import Derived.Test.YtghkkhafnkkomaaTurns
import Derived.Test.YtghkkhafnkkomaaLiftA
namespace Go.Proofs.Ytghkkhafnkkomaa
open Go.RowKit
open Go.Proofs

/-- Both owners' memory, and that they are apart. -/
structure Both (w0 w : World) (k1 k2 : Nat) (G R : Nat → Prop) (n : Int) (A I : List Int) : Prop where
  l : TL w 85 k1 G n A I
  r : TL w 45 k2 R n A I
  wl : Within G w0.heap.size w
  wr : Within R w0.heap.size w
  apart : ∀ b, G b → ¬ R b
  ext : Ext w0 w
theorem Both.after {w0 w w' : World} {k1 k2 : Nat} {G R : Nat → Prop} {n : Int} {A I : List Int} (h : Both w0 w k1 k2 G R n A I) (e : Ext w w') : Both w0 w' k1 k2 G R n A I :=
  ⟨h.l.ext e, h.r.ext e, h.wl.le e.size, h.wr.le e.size, h.apart, h.ext.trans e⟩
theorem Both.step {w0 w w1 w2 : World} {k1 k2 : Nat} {G R : Nat → Prop} {n : Int} {A I A2 I2 : List Int} (h : Both w0 w k1 k2 G R n A I) (u1 : Upd G w w1) (t1 : TL w1 85 k1 (Since G w w1) n A2 I2) (u2 : Upd R w1 w2) (t2 : TL w2 45 k2 (Since R w1 w2) n A2 I2) :
    Both w0 w2 k1 k2 (Since G w w1) (Since R w1 w2) n A2 I2 := by
  have hs := h.ext.size
  have x1 : Ext w0 w1 := h.ext.trans' u1 (fun b e => (h.wl b e).1)
  have W1 := h.wl.since u1 hs
  have R1 := h.wr.le u1.size
  refine ⟨t1.upd u2 (fun b x y => ?_), t2, W1.le u2.size, R1.since u2 x1.size, fun b x y => ?_, x1.trans' u2 (fun b e => (h.wr b e).1)⟩
  · rcases x with x | x
    · exact h.apart b x y
    · have := (h.wr b y).2; omega
  · rcases y with y | y
    · rcases x with x | x
      · exact h.apart b x y
      · have := (h.wr b y).2; omega
    · have := (W1 b x).2
      omega
theorem Both.mid {w0 w w1 : World} {k1 k2 : Nat} {G R : Nat → Prop} {n : Int} {A I : List Int} (h : Both w0 w k1 k2 G R n A I) (u1 : Upd G w w1) : TL w1 45 k2 R n A I := h.r.upd u1 (fun b x y => h.apart b y x)

theorem f19_n (k : Nat) (F : Nat → Prop) (n : Int) (A I : List Int) (H : Option Addr) (held : List Int) (m c : Nat) (w : World) (hL : A.length + I.length ≤ 4294967290) (h2 : held.length = m) (hm : m ≤ 9223372036854775807)
    (h : TL w 85 k F n A I) (hx : Cells w H (ints held)) :
    Calls Try.prog 19 #[.pointer (some ⟨k, 0, none⟩), .slice H m c] w fun e w' => e = .returned (.int .i64 (victim held A I)) ∧ Ext w w' := by
  subst h2
  exact f19_any k F n A I H held c w hL hm h hx

set_option maxRecDepth 100000 in
set_option maxHeartbeats 4000000 in
theorem f5_walk (n : Int) (T : Option Addr) (tl : List (Int × Int × List Int)) (m1 c1 : Nat) (w : World) (h1 : tl.length = m1) (hm1 : m1 ≤ 9223372036854775807) (hx : ActsAt w T tl) :
    Calls Try.prog 5 #[.int .i64 n, .slice T m1 c1] w fun e w' => e = .returned (.bool true) ∧ Ext w w' := by
  have H1 := Lib.hid h1
  clear h1
  by_cases g1 : 40 < m1
  · go_enter Try.func5, Try.ntmps5
    go_wp2_with fail
    refine (f15_any w).mono ?_
    rintro e w1 ⟨rfl, hx1⟩
    go_wp2_with fail
    refine (f15_any w1).mono ?_
    rintro e w2 ⟨rfl, hx2⟩
    go_wp2_with fail
    go_ret
    exact ⟨rfl, hx1.trans hx2⟩
  have g3 : m1 ≤ 40 := by omega
  clear g1 hm1
  by_cases hbad : n < 1 ∨ 65536 < n
  · by_cases hb1 : n < 1
    · go_enter Try.func5, Try.ntmps5
      go_wp2_with fail
      refine (f15_any w).mono ?_
      rintro e w1 ⟨rfl, hx1⟩
      go_wp2_with fail
      refine (f16_bad n w1 hbad).mono ?_
      rintro e w2 ⟨rfl, rfl⟩
      clear hbad
      go_wp2_with fail
      go_ret
      exact ⟨rfl, hx1⟩
    · have hb2 : 65536 < n := by omega
      go_enter Try.func5, Try.ntmps5
      go_wp2_with fail
      refine (f15_any w).mono ?_
      rintro e w1 ⟨rfl, hx1⟩
      go_wp2_with fail
      refine (f16_bad n w1 hbad).mono ?_
      rintro e w2 ⟨rfl, rfl⟩
      clear hbad
      go_wp2_with fail
      go_ret
      exact ⟨rfl, hx1⟩
  have hn1 : 1 ≤ n := by omega
  have hn2 : n ≤ 65536 := by omega
  have hn3 : (n < 1) = False := by simp; omega
  have hn4 : (65536 < n) = False := by simp; omega
  clear hbad
  go_enter Try.func5, Try.ntmps5
  go_wp2_with fail
  refine (f15_any w).mono ?_
  rintro e w1 ⟨rfl, hx1⟩
  go_wp2_with fail
  refine (f16_good n w1 hn1 hn2).mono ?_
  rintro e w2 ⟨rfl, ht2, hx2, hs2⟩
  clear hn1 hn2
  have hB : Both w (w2.alloc (.cells #[.int .i64 n, .slice none 0 0, .slice none 0 0] 45)) w1.heap.size w2.heap.size (fun b => b = w1.heap.size) (fun b => b = w2.heap.size) n [] [] := by
    have e2 : Ext w2 (w2.alloc (.cells #[.int .i64 n, .slice none 0 0, .slice none 0 0] 45)) := (Ext.refl w2).alloc _
    have s1 := hx1.size
    have s2 := hx2.size
    refine ⟨ht2.ext e2, TL.new w2 45 n, fun b x => ⟨by rw [x]; exact s1, by rw [x]; simp; omega⟩, fun b x => ⟨by rw [x]; omega, by rw [x]; simp⟩, fun b x y => by omega, (hx1.trans hx2).trans e2⟩
  clear ht2 hs2
  go_wp2_with fail
  generalize hW : w2.alloc (.cells #[.int .i64 n, .slice none 0 0, .slice none 0 0] 45) = w3 at *
  clear hW
  generalize w1.heap.size = k1 at *
  generalize w2.heap.size = k2 at *
  clear hx1 hx2
  generalize (fun b => b = k1) = G0 at hB
  generalize (fun b => b = k2) = R0 at hB
  go_loopg [8] m1 (fun g i wr => ∃ (j : Nat) (A I : List Int) (G R : Nat → Prop), j ≤ m1 ∧ m1 - j ≤ g ∧ i = .int .i64 j ∧ Both w wr k1 k2 G R n A I ∧ Inv n A I ∧ A.length + I.length ≤ j)
  case atStart => exact ⟨0, [], [], G0, R0, by omega, by omega, rfl, hB, inv_nil n, by simp⟩
  case round =>
    clear hB
    obtain ⟨j, A, I, G, R, hj, hg, rfl, hB, hI, hL⟩ := hrel
    by_cases hlt : j < m1
    · obtain ⟨⟨kd, pl, hl⟩, hqg⟩ : ∃ q, tl[j]? = some q := ⟨_, List.getElem?_eq_getElem (by rw [H1.out]; exact hlt)⟩
      obtain ⟨b, o, rfl, hrow⟩ := (hx.ext hB.ext) (by rw [H1.out]; omega)
      obtain ⟨Gh, ch, d0, d1, d2, hhl, hlb⟩ := hrow j _ hqg
      simp only at d0 d1 d2 hhl hlb
      have hji : (j : Int) < (m1 : Int) := by omega
      obtain ⟨mh, hmh⟩ : ∃ mh, mh = hl.length := ⟨_, rfl⟩
      rw [← hmh] at d2 hlb
      have Hm := Lib.hid hmh
      clear hqg hrow hmh hx
      by_cases hbig : 60 < mh
      · go_wp2_with fail
        go_ret
        exact ⟨rfl, hB.ext.alloc _⟩
      have hmh : mh ≤ 60 := by omega
      have ex : Ext wr (wr.alloc (.cells #[.int .i64 kd, .int .i64 pl, .slice Gh mh ch] 47)) := (Ext.refl wr).alloc _
      have hBx := hB.after ex
      have nG : ¬ G wr.heap.size := fun e => by have := (hB.wl _ e).2; omega
      have hh : (wr.alloc (.cells #[.int .i64 kd, .int .i64 pl, .slice Gh mh ch] 47)).heap[wr.heap.size]? = some (.cells #[.int .i64 kd, .int .i64 pl, .slice Gh mh ch] 47 (0, 0)) := heap_alloc_new wr _
      have x1 : (wr.alloc (.cells #[.int .i64 kd, .int .i64 pl, .slice Gh mh ch] 47)).cell? ⟨wr.heap.size, 1, none⟩ = some (.int .i64 pl) := by rw [cell_of_row _ _ _ _ _ _ hh]; rfl
      have x2 : (wr.alloc (.cells #[.int .i64 kd, .int .i64 pl, .slice Gh mh ch] 47)).cell? ⟨wr.heap.size, 2, none⟩ = some (.slice Gh mh ch) := by rw [cell_of_row _ _ _ _ _ _ hh]; rfl
      have hhx := hhl.ext ex
      have hj60 : j ≤ 40 := by omega
      clear hbig hB hh hhl ex
      by_cases k0 : kd = 0
      · subst k0
        go_wp2_with fail
        generalize wr.alloc (Obj.cells #[.int .i64 0, .int .i64 pl, .slice Gh mh ch] 47) = wx at *
        obtain ⟨hq1, hI2, hL2⟩ := hI.add pl
        have HA := f17_any k1 G n pl A I wx (by omega) hBx.l
        go_wp2_with (first
          | (go_at_call 17; refine HA.mono ?_; clear HA; rintro e w4 ⟨rfl, t4, u4⟩; have c4 := u4.cell x1 (fun e => nG e); have HP := f29_any k2 R n 0 pl A I w4 (by omega) (hBx.mid u4))
          | (go_at_call 29; refine HP.mono ?_; clear HP; rintro e w5 ⟨rfl, t5, u5⟩; rw [hq1] at t5; have hB2 := hBx.step u4 t4 u5 t5))
        generalize hA2 : (tAdd n pl A I).1 = A2 at *
        generalize hI2' : (tAdd n pl A I).2 = I2 at *
        clear hA2 hI2' t4 t5 u4 u5 hBx hq1 hI c4
        obtain ⟨ra, ri, hr⟩ := hB2.r
        obtain ⟨_, rc1, rc2, _⟩ := hr.cells
        obtain ⟨Ba, ca, rfl, _, _, hra, _, _⟩ := hr.act.form
        obtain ⟨Bi, ci, rfl, _, _, hri, _, _⟩ := hr.ina.form
        rw [length_ints] at rc1 rc2
        clear hr
        go_wp2_with fail
        refine wp_region_held_drew (S := fun w' => Ext w5 w') (by kernel_rfl) ((Ext.refl _).drew) (fun hS => ?_)
        refine takeH (i := 0) (v := ?_) rfl rfl (by kernel_rfl) (by kernel_rfl) (by kernel_rfl) (fun _ _ _ h => h) (Or.inl ⟨by kernel_rfl, ?_⟩) hS ?_
        rotate_left 1
        · (intro w' hS'; go_simp; try (with_reducible rfl))
        simp only [List.setIfInBounds_toArray, List.set_cons_succ, List.set_cons_zero]
        refine takeH (i := 2) (v := ?_) rfl rfl (by kernel_rfl) (by kernel_rfl) (by kernel_rfl) (fun _ _ _ h => h) (Or.inl ⟨by kernel_rfl, ?_⟩) hS ?_
        rotate_left 1
        · (intro w' hS'; go_simp; try (with_reducible rfl))
        simp only [List.setIfInBounds_toArray, List.set_cons_succ, List.set_cons_zero]
        refine takeH (i := 3) (v := ?_) rfl rfl (by kernel_rfl) (by kernel_rfl) (by kernel_rfl) (fun _ _ _ h => h) (Or.inl ⟨by kernel_rfl, ?_⟩) hS ?_
        rotate_left 1
        · (intro w' hS'; go_simp; try (with_reducible rfl))
        simp only [List.setIfInBounds_toArray, List.set_cons_succ, List.set_cons_zero]
        refine takeH (i := 4) (v := ?_) rfl rfl (by kernel_rfl) (by kernel_rfl) (by kernel_rfl) (fun _ _ _ h => h) (Or.inl ⟨by kernel_rfl, ?_⟩) hS ?_
        rotate_left 1
        · (intro w' hS'; go_simp; try (with_reducible rfl))
        simp only [List.setIfInBounds_toArray, List.set_cons_succ, List.set_cons_zero]
        refine takeH (i := 5) (v := ?_) rfl rfl (by kernel_rfl) (by kernel_rfl) (by kernel_rfl) (fun _ _ _ h => h) (Or.inl ⟨by kernel_rfl, ?_⟩) hS ?_
        rotate_left 1
        · (intro w' hS'; have g1 := hS'.cell rc1; go_simp; try (with_reducible rfl))
        simp only [List.setIfInBounds_toArray, List.set_cons_succ, List.set_cons_zero]
        refine wpAnyH_ready (rs := [1]) (by kernel_rfl) (by simp) ?_
        refine AllReadyH.cons rfl (fun K hK => ?_) ?_
        rotate_left 1
        · exact AllReadyH.nil
        go_simp
        refine (f20_any k1 _ n A2 I2 _ (by omega) (hB2.l.ext hS)).mono ?_; rintro e wa ⟨vA, rfl, oA, xA⟩; obtain ⟨AA, cA, rfl, _, hA⟩ := oA.ints_form
        refine hK.out _ _ (hS.trans xA) (fun hS => ?_)
        clear hK K
        refine wpAnyH_ready (rs := [6]) (by kernel_rfl) (by simp) ?_
        refine AllReadyH.cons rfl (fun K hK => ?_) ?_
        rotate_left 1
        · exact AllReadyH.nil
        go_simp
        refine (f32_any AA Ba A2 A2 cA ca _ (by omega) (by omega) hA (hra.ext hS)).mono ?_; rintro e wb ⟨rfl, q1, rfl⟩; rw [decide_eq_true rfl]
        refine hK.out _ _ (hS.drewN q1) (fun hS => ?_)
        clear hK K
        refine takeH (i := 7) (v := ?_) rfl rfl (by kernel_rfl) (by kernel_rfl) (by kernel_rfl) (fun _ _ _ h => h) (Or.inl ⟨by kernel_rfl, ?_⟩) hS ?_
        rotate_left 1
        · (intro w' hS'; go_simp; try (with_reducible rfl))
        simp only [List.setIfInBounds_toArray, List.set_cons_succ, List.set_cons_zero]
        refine takeH (i := 8) (v := ?_) rfl rfl (by kernel_rfl) (by kernel_rfl) (by kernel_rfl) (fun _ _ _ h => h) (Or.inl ⟨by kernel_rfl, ?_⟩) hS ?_
        rotate_left 1
        · (intro w' hS'; go_simp; try (with_reducible rfl))
        simp only [List.setIfInBounds_toArray, List.set_cons_succ, List.set_cons_zero]
        refine takeH (i := 9) (v := ?_) rfl rfl (by kernel_rfl) (by kernel_rfl) (by kernel_rfl) (fun _ _ _ h => h) (Or.inl ⟨by kernel_rfl, ?_⟩) hS ?_
        rotate_left 1
        · (intro w' hS'; go_simp; try (with_reducible rfl))
        simp only [List.setIfInBounds_toArray, List.set_cons_succ, List.set_cons_zero]
        refine takeH (i := 11) (v := ?_) rfl rfl (by kernel_rfl) (by kernel_rfl) (by kernel_rfl) (fun _ _ _ h => h) (Or.inl ⟨by kernel_rfl, ?_⟩) hS ?_
        rotate_left 1
        · (intro w' hS'; go_simp; try (with_reducible rfl))
        simp only [List.setIfInBounds_toArray, List.set_cons_succ, List.set_cons_zero]
        refine takeH (i := 12) (v := ?_) rfl rfl (by kernel_rfl) (by kernel_rfl) (by kernel_rfl) (fun _ _ _ h => h) (Or.inl ⟨by kernel_rfl, ?_⟩) hS ?_
        rotate_left 1
        · (intro w' hS'; go_simp; try (with_reducible rfl))
        simp only [List.setIfInBounds_toArray, List.set_cons_succ, List.set_cons_zero]
        refine takeH (i := 13) (v := ?_) rfl rfl (by kernel_rfl) (by kernel_rfl) (by kernel_rfl) (fun _ _ _ h => h) (Or.inl ⟨by kernel_rfl, ?_⟩) hS ?_
        rotate_left 1
        · (intro w' hS'; go_simp; try (with_reducible rfl))
        simp only [List.setIfInBounds_toArray, List.set_cons_succ, List.set_cons_zero]
        refine takeH (i := 14) (v := ?_) rfl rfl (by kernel_rfl) (by kernel_rfl) (by kernel_rfl) (fun _ _ _ h => h) (Or.inl ⟨by kernel_rfl, ?_⟩) hS ?_
        rotate_left 1
        · (intro w' hS'; have g2 := hS'.cell rc2; go_simp; try (with_reducible rfl))
        simp only [List.setIfInBounds_toArray, List.set_cons_succ, List.set_cons_zero]
        refine wpAnyH_ready (rs := [10]) (by kernel_rfl) (by simp) ?_
        refine AllReadyH.cons rfl (fun K hK => ?_) ?_
        rotate_left 1
        · exact AllReadyH.nil
        go_simp
        refine (f21_any k1 _ n A2 I2 _ (by omega) (hB2.l.ext hS)).mono ?_; rintro e wc ⟨vI, rfl, oI, xI⟩; obtain ⟨AI, cI, rfl, _, hAI⟩ := oI.ints_form
        refine hK.out _ _ (hS.trans xI) (fun hS => ?_)
        clear hK K
        refine wpAnyH_ready (rs := [15]) (by kernel_rfl) (by simp) ?_
        refine AllReadyH.cons rfl (fun K hK => ?_) ?_
        rotate_left 1
        · exact AllReadyH.nil
        go_simp
        refine (f32_any AI Bi I2 I2 cI ci _ (by omega) (by omega) hAI (hri.ext hS)).mono ?_; rintro e wd ⟨rfl, q2, rfl⟩; rw [decide_eq_true rfl]
        refine hK.out _ _ (hS.drewN q2) (fun hS => ?_)
        clear hK K
        refine takeH (i := 16) (v := ?_) rfl rfl (by kernel_rfl) (by kernel_rfl) (by kernel_rfl) (fun _ _ _ h => h) (Or.inl ⟨by kernel_rfl, ?_⟩) hS ?_
        rotate_left 1
        · (intro w' hS'; go_simp; try (with_reducible rfl))
        simp only [List.setIfInBounds_toArray, List.set_cons_succ, List.set_cons_zero]
        refine takeH (i := 17) (v := ?_) rfl rfl (by kernel_rfl) (by kernel_rfl) (by kernel_rfl) (fun _ _ _ h => h) (Or.inl ⟨by kernel_rfl, ?_⟩) hS ?_
        rotate_left 1
        · (intro w' hS'; go_simp; try (with_reducible rfl))
        simp only [List.setIfInBounds_toArray, List.set_cons_succ, List.set_cons_zero]
        refine wpAnyH_done (by kernel_rfl) ?_ _
        go_wp2_with fail
        go_roundg (m1 - (j + 1))
        case measure => omega
        case rel => exact ⟨j + 1, A2, I2, _, _, by omega, by omega, by go_num, hB2.after hS, hI2, by omega⟩
      by_cases k1' : kd = 1
      · subst k1'
        go_wp2_with fail
        generalize wr.alloc (Obj.cells #[.int .i64 1, .int .i64 pl, .slice Gh mh ch] 47) = wx at *
        obtain ⟨hq1, hI2, hL2⟩ := hI.touch pl
        have HA := f18_any k1 G n pl A I wx (by omega) hBx.l
        go_wp2_with (first
          | (go_at_call 18; refine HA.mono ?_; clear HA; rintro e w4 ⟨rfl, t4, u4⟩; have c4 := u4.cell x1 (fun e => nG e); have HP := f29_any k2 R n 1 pl A I w4 (by omega) (hBx.mid u4))
          | (go_at_call 29; refine HP.mono ?_; clear HP; rintro e w5 ⟨rfl, t5, u5⟩; rw [hq1] at t5; have hB2 := hBx.step u4 t4 u5 t5))
        generalize hA2 : (tTouch n pl A I).1 = A2 at *
        generalize hI2' : (tTouch n pl A I).2 = I2 at *
        clear hA2 hI2' t4 t5 u4 u5 hBx hq1 hI c4
        obtain ⟨ra, ri, hr⟩ := hB2.r
        obtain ⟨_, rc1, rc2, _⟩ := hr.cells
        obtain ⟨Ba, ca, rfl, _, _, hra, _, _⟩ := hr.act.form
        obtain ⟨Bi, ci, rfl, _, _, hri, _, _⟩ := hr.ina.form
        rw [length_ints] at rc1 rc2
        clear hr
        go_wp2_with fail
        refine wp_region_held_drew (S := fun w' => Ext w5 w') (by kernel_rfl) ((Ext.refl _).drew) (fun hS => ?_)
        refine takeH (i := 0) (v := ?_) rfl rfl (by kernel_rfl) (by kernel_rfl) (by kernel_rfl) (fun _ _ _ h => h) (Or.inl ⟨by kernel_rfl, ?_⟩) hS ?_
        rotate_left 1
        · (intro w' hS'; go_simp; try (with_reducible rfl))
        simp only [List.setIfInBounds_toArray, List.set_cons_succ, List.set_cons_zero]
        refine takeH (i := 2) (v := ?_) rfl rfl (by kernel_rfl) (by kernel_rfl) (by kernel_rfl) (fun _ _ _ h => h) (Or.inl ⟨by kernel_rfl, ?_⟩) hS ?_
        rotate_left 1
        · (intro w' hS'; go_simp; try (with_reducible rfl))
        simp only [List.setIfInBounds_toArray, List.set_cons_succ, List.set_cons_zero]
        refine takeH (i := 3) (v := ?_) rfl rfl (by kernel_rfl) (by kernel_rfl) (by kernel_rfl) (fun _ _ _ h => h) (Or.inl ⟨by kernel_rfl, ?_⟩) hS ?_
        rotate_left 1
        · (intro w' hS'; go_simp; try (with_reducible rfl))
        simp only [List.setIfInBounds_toArray, List.set_cons_succ, List.set_cons_zero]
        refine takeH (i := 4) (v := ?_) rfl rfl (by kernel_rfl) (by kernel_rfl) (by kernel_rfl) (fun _ _ _ h => h) (Or.inl ⟨by kernel_rfl, ?_⟩) hS ?_
        rotate_left 1
        · (intro w' hS'; go_simp; try (with_reducible rfl))
        simp only [List.setIfInBounds_toArray, List.set_cons_succ, List.set_cons_zero]
        refine takeH (i := 5) (v := ?_) rfl rfl (by kernel_rfl) (by kernel_rfl) (by kernel_rfl) (fun _ _ _ h => h) (Or.inl ⟨by kernel_rfl, ?_⟩) hS ?_
        rotate_left 1
        · (intro w' hS'; have g1 := hS'.cell rc1; go_simp; try (with_reducible rfl))
        simp only [List.setIfInBounds_toArray, List.set_cons_succ, List.set_cons_zero]
        refine wpAnyH_ready (rs := [1]) (by kernel_rfl) (by simp) ?_
        refine AllReadyH.cons rfl (fun K hK => ?_) ?_
        rotate_left 1
        · exact AllReadyH.nil
        go_simp
        refine (f20_any k1 _ n A2 I2 _ (by omega) (hB2.l.ext hS)).mono ?_; rintro e wa ⟨vA, rfl, oA, xA⟩; obtain ⟨AA, cA, rfl, _, hA⟩ := oA.ints_form
        refine hK.out _ _ (hS.trans xA) (fun hS => ?_)
        clear hK K
        refine wpAnyH_ready (rs := [6]) (by kernel_rfl) (by simp) ?_
        refine AllReadyH.cons rfl (fun K hK => ?_) ?_
        rotate_left 1
        · exact AllReadyH.nil
        go_simp
        refine (f32_any AA Ba A2 A2 cA ca _ (by omega) (by omega) hA (hra.ext hS)).mono ?_; rintro e wb ⟨rfl, q1, rfl⟩; rw [decide_eq_true rfl]
        refine hK.out _ _ (hS.drewN q1) (fun hS => ?_)
        clear hK K
        refine takeH (i := 7) (v := ?_) rfl rfl (by kernel_rfl) (by kernel_rfl) (by kernel_rfl) (fun _ _ _ h => h) (Or.inl ⟨by kernel_rfl, ?_⟩) hS ?_
        rotate_left 1
        · (intro w' hS'; go_simp; try (with_reducible rfl))
        simp only [List.setIfInBounds_toArray, List.set_cons_succ, List.set_cons_zero]
        refine takeH (i := 8) (v := ?_) rfl rfl (by kernel_rfl) (by kernel_rfl) (by kernel_rfl) (fun _ _ _ h => h) (Or.inl ⟨by kernel_rfl, ?_⟩) hS ?_
        rotate_left 1
        · (intro w' hS'; go_simp; try (with_reducible rfl))
        simp only [List.setIfInBounds_toArray, List.set_cons_succ, List.set_cons_zero]
        refine takeH (i := 9) (v := ?_) rfl rfl (by kernel_rfl) (by kernel_rfl) (by kernel_rfl) (fun _ _ _ h => h) (Or.inl ⟨by kernel_rfl, ?_⟩) hS ?_
        rotate_left 1
        · (intro w' hS'; go_simp; try (with_reducible rfl))
        simp only [List.setIfInBounds_toArray, List.set_cons_succ, List.set_cons_zero]
        refine takeH (i := 11) (v := ?_) rfl rfl (by kernel_rfl) (by kernel_rfl) (by kernel_rfl) (fun _ _ _ h => h) (Or.inl ⟨by kernel_rfl, ?_⟩) hS ?_
        rotate_left 1
        · (intro w' hS'; go_simp; try (with_reducible rfl))
        simp only [List.setIfInBounds_toArray, List.set_cons_succ, List.set_cons_zero]
        refine takeH (i := 12) (v := ?_) rfl rfl (by kernel_rfl) (by kernel_rfl) (by kernel_rfl) (fun _ _ _ h => h) (Or.inl ⟨by kernel_rfl, ?_⟩) hS ?_
        rotate_left 1
        · (intro w' hS'; go_simp; try (with_reducible rfl))
        simp only [List.setIfInBounds_toArray, List.set_cons_succ, List.set_cons_zero]
        refine takeH (i := 13) (v := ?_) rfl rfl (by kernel_rfl) (by kernel_rfl) (by kernel_rfl) (fun _ _ _ h => h) (Or.inl ⟨by kernel_rfl, ?_⟩) hS ?_
        rotate_left 1
        · (intro w' hS'; go_simp; try (with_reducible rfl))
        simp only [List.setIfInBounds_toArray, List.set_cons_succ, List.set_cons_zero]
        refine takeH (i := 14) (v := ?_) rfl rfl (by kernel_rfl) (by kernel_rfl) (by kernel_rfl) (fun _ _ _ h => h) (Or.inl ⟨by kernel_rfl, ?_⟩) hS ?_
        rotate_left 1
        · (intro w' hS'; have g2 := hS'.cell rc2; go_simp; try (with_reducible rfl))
        simp only [List.setIfInBounds_toArray, List.set_cons_succ, List.set_cons_zero]
        refine wpAnyH_ready (rs := [10]) (by kernel_rfl) (by simp) ?_
        refine AllReadyH.cons rfl (fun K hK => ?_) ?_
        rotate_left 1
        · exact AllReadyH.nil
        go_simp
        refine (f21_any k1 _ n A2 I2 _ (by omega) (hB2.l.ext hS)).mono ?_; rintro e wc ⟨vI, rfl, oI, xI⟩; obtain ⟨AI, cI, rfl, _, hAI⟩ := oI.ints_form
        refine hK.out _ _ (hS.trans xI) (fun hS => ?_)
        clear hK K
        refine wpAnyH_ready (rs := [15]) (by kernel_rfl) (by simp) ?_
        refine AllReadyH.cons rfl (fun K hK => ?_) ?_
        rotate_left 1
        · exact AllReadyH.nil
        go_simp
        refine (f32_any AI Bi I2 I2 cI ci _ (by omega) (by omega) hAI (hri.ext hS)).mono ?_; rintro e wd ⟨rfl, q2, rfl⟩; rw [decide_eq_true rfl]
        refine hK.out _ _ (hS.drewN q2) (fun hS => ?_)
        clear hK K
        refine takeH (i := 16) (v := ?_) rfl rfl (by kernel_rfl) (by kernel_rfl) (by kernel_rfl) (fun _ _ _ h => h) (Or.inl ⟨by kernel_rfl, ?_⟩) hS ?_
        rotate_left 1
        · (intro w' hS'; go_simp; try (with_reducible rfl))
        simp only [List.setIfInBounds_toArray, List.set_cons_succ, List.set_cons_zero]
        refine takeH (i := 17) (v := ?_) rfl rfl (by kernel_rfl) (by kernel_rfl) (by kernel_rfl) (fun _ _ _ h => h) (Or.inl ⟨by kernel_rfl, ?_⟩) hS ?_
        rotate_left 1
        · (intro w' hS'; go_simp; try (with_reducible rfl))
        simp only [List.setIfInBounds_toArray, List.set_cons_succ, List.set_cons_zero]
        refine wpAnyH_done (by kernel_rfl) ?_ _
        go_wp2_with fail
        go_roundg (m1 - (j + 1))
        case measure => omega
        case rel => exact ⟨j + 1, A2, I2, _, _, by omega, by omega, by go_num, hB2.after hS, hI2, by omega⟩
      by_cases k2' : kd = 2
      · subst k2'
        go_wp2_with fail
        generalize wr.alloc (Obj.cells #[.int .i64 2, .int .i64 pl, .slice Gh mh ch] 47) = wx at *
        obtain ⟨hq1, hI2, hL2⟩ := hI.remove pl
        have HA := f30_any k1 G n pl A I wx (by omega) hBx.l
        go_wp2_with (first
          | (go_at_call 30; refine HA.mono ?_; clear HA; rintro e w4 ⟨rfl, t4, u4⟩; have c4 := u4.cell x1 (fun e => nG e); have HP := f29_any k2 R n 2 pl A I w4 (by omega) (hBx.mid u4))
          | (go_at_call 29; refine HP.mono ?_; clear HP; rintro e w5 ⟨rfl, t5, u5⟩; rw [hq1] at t5; have hB2 := hBx.step u4 t4 u5 t5))
        generalize hA2 : (tRemove pl A I).1 = A2 at *
        generalize hI2' : (tRemove pl A I).2 = I2 at *
        clear hA2 hI2' t4 t5 u4 u5 hBx hq1 hI c4
        obtain ⟨ra, ri, hr⟩ := hB2.r
        obtain ⟨_, rc1, rc2, _⟩ := hr.cells
        obtain ⟨Ba, ca, rfl, _, _, hra, _, _⟩ := hr.act.form
        obtain ⟨Bi, ci, rfl, _, _, hri, _, _⟩ := hr.ina.form
        rw [length_ints] at rc1 rc2
        clear hr
        go_wp2_with fail
        refine wp_region_held_drew (S := fun w' => Ext w5 w') (by kernel_rfl) ((Ext.refl _).drew) (fun hS => ?_)
        refine takeH (i := 0) (v := ?_) rfl rfl (by kernel_rfl) (by kernel_rfl) (by kernel_rfl) (fun _ _ _ h => h) (Or.inl ⟨by kernel_rfl, ?_⟩) hS ?_
        rotate_left 1
        · (intro w' hS'; go_simp; try (with_reducible rfl))
        simp only [List.setIfInBounds_toArray, List.set_cons_succ, List.set_cons_zero]
        refine takeH (i := 2) (v := ?_) rfl rfl (by kernel_rfl) (by kernel_rfl) (by kernel_rfl) (fun _ _ _ h => h) (Or.inl ⟨by kernel_rfl, ?_⟩) hS ?_
        rotate_left 1
        · (intro w' hS'; go_simp; try (with_reducible rfl))
        simp only [List.setIfInBounds_toArray, List.set_cons_succ, List.set_cons_zero]
        refine takeH (i := 3) (v := ?_) rfl rfl (by kernel_rfl) (by kernel_rfl) (by kernel_rfl) (fun _ _ _ h => h) (Or.inl ⟨by kernel_rfl, ?_⟩) hS ?_
        rotate_left 1
        · (intro w' hS'; go_simp; try (with_reducible rfl))
        simp only [List.setIfInBounds_toArray, List.set_cons_succ, List.set_cons_zero]
        refine takeH (i := 4) (v := ?_) rfl rfl (by kernel_rfl) (by kernel_rfl) (by kernel_rfl) (fun _ _ _ h => h) (Or.inl ⟨by kernel_rfl, ?_⟩) hS ?_
        rotate_left 1
        · (intro w' hS'; go_simp; try (with_reducible rfl))
        simp only [List.setIfInBounds_toArray, List.set_cons_succ, List.set_cons_zero]
        refine takeH (i := 5) (v := ?_) rfl rfl (by kernel_rfl) (by kernel_rfl) (by kernel_rfl) (fun _ _ _ h => h) (Or.inl ⟨by kernel_rfl, ?_⟩) hS ?_
        rotate_left 1
        · (intro w' hS'; have g1 := hS'.cell rc1; go_simp; try (with_reducible rfl))
        simp only [List.setIfInBounds_toArray, List.set_cons_succ, List.set_cons_zero]
        refine wpAnyH_ready (rs := [1]) (by kernel_rfl) (by simp) ?_
        refine AllReadyH.cons rfl (fun K hK => ?_) ?_
        rotate_left 1
        · exact AllReadyH.nil
        go_simp
        refine (f20_any k1 _ n A2 I2 _ (by omega) (hB2.l.ext hS)).mono ?_; rintro e wa ⟨vA, rfl, oA, xA⟩; obtain ⟨AA, cA, rfl, _, hA⟩ := oA.ints_form
        refine hK.out _ _ (hS.trans xA) (fun hS => ?_)
        clear hK K
        refine wpAnyH_ready (rs := [6]) (by kernel_rfl) (by simp) ?_
        refine AllReadyH.cons rfl (fun K hK => ?_) ?_
        rotate_left 1
        · exact AllReadyH.nil
        go_simp
        refine (f32_any AA Ba A2 A2 cA ca _ (by omega) (by omega) hA (hra.ext hS)).mono ?_; rintro e wb ⟨rfl, q1, rfl⟩; rw [decide_eq_true rfl]
        refine hK.out _ _ (hS.drewN q1) (fun hS => ?_)
        clear hK K
        refine takeH (i := 7) (v := ?_) rfl rfl (by kernel_rfl) (by kernel_rfl) (by kernel_rfl) (fun _ _ _ h => h) (Or.inl ⟨by kernel_rfl, ?_⟩) hS ?_
        rotate_left 1
        · (intro w' hS'; go_simp; try (with_reducible rfl))
        simp only [List.setIfInBounds_toArray, List.set_cons_succ, List.set_cons_zero]
        refine takeH (i := 8) (v := ?_) rfl rfl (by kernel_rfl) (by kernel_rfl) (by kernel_rfl) (fun _ _ _ h => h) (Or.inl ⟨by kernel_rfl, ?_⟩) hS ?_
        rotate_left 1
        · (intro w' hS'; go_simp; try (with_reducible rfl))
        simp only [List.setIfInBounds_toArray, List.set_cons_succ, List.set_cons_zero]
        refine takeH (i := 9) (v := ?_) rfl rfl (by kernel_rfl) (by kernel_rfl) (by kernel_rfl) (fun _ _ _ h => h) (Or.inl ⟨by kernel_rfl, ?_⟩) hS ?_
        rotate_left 1
        · (intro w' hS'; go_simp; try (with_reducible rfl))
        simp only [List.setIfInBounds_toArray, List.set_cons_succ, List.set_cons_zero]
        refine takeH (i := 11) (v := ?_) rfl rfl (by kernel_rfl) (by kernel_rfl) (by kernel_rfl) (fun _ _ _ h => h) (Or.inl ⟨by kernel_rfl, ?_⟩) hS ?_
        rotate_left 1
        · (intro w' hS'; go_simp; try (with_reducible rfl))
        simp only [List.setIfInBounds_toArray, List.set_cons_succ, List.set_cons_zero]
        refine takeH (i := 12) (v := ?_) rfl rfl (by kernel_rfl) (by kernel_rfl) (by kernel_rfl) (fun _ _ _ h => h) (Or.inl ⟨by kernel_rfl, ?_⟩) hS ?_
        rotate_left 1
        · (intro w' hS'; go_simp; try (with_reducible rfl))
        simp only [List.setIfInBounds_toArray, List.set_cons_succ, List.set_cons_zero]
        refine takeH (i := 13) (v := ?_) rfl rfl (by kernel_rfl) (by kernel_rfl) (by kernel_rfl) (fun _ _ _ h => h) (Or.inl ⟨by kernel_rfl, ?_⟩) hS ?_
        rotate_left 1
        · (intro w' hS'; go_simp; try (with_reducible rfl))
        simp only [List.setIfInBounds_toArray, List.set_cons_succ, List.set_cons_zero]
        refine takeH (i := 14) (v := ?_) rfl rfl (by kernel_rfl) (by kernel_rfl) (by kernel_rfl) (fun _ _ _ h => h) (Or.inl ⟨by kernel_rfl, ?_⟩) hS ?_
        rotate_left 1
        · (intro w' hS'; have g2 := hS'.cell rc2; go_simp; try (with_reducible rfl))
        simp only [List.setIfInBounds_toArray, List.set_cons_succ, List.set_cons_zero]
        refine wpAnyH_ready (rs := [10]) (by kernel_rfl) (by simp) ?_
        refine AllReadyH.cons rfl (fun K hK => ?_) ?_
        rotate_left 1
        · exact AllReadyH.nil
        go_simp
        refine (f21_any k1 _ n A2 I2 _ (by omega) (hB2.l.ext hS)).mono ?_; rintro e wc ⟨vI, rfl, oI, xI⟩; obtain ⟨AI, cI, rfl, _, hAI⟩ := oI.ints_form
        refine hK.out _ _ (hS.trans xI) (fun hS => ?_)
        clear hK K
        refine wpAnyH_ready (rs := [15]) (by kernel_rfl) (by simp) ?_
        refine AllReadyH.cons rfl (fun K hK => ?_) ?_
        rotate_left 1
        · exact AllReadyH.nil
        go_simp
        refine (f32_any AI Bi I2 I2 cI ci _ (by omega) (by omega) hAI (hri.ext hS)).mono ?_; rintro e wd ⟨rfl, q2, rfl⟩; rw [decide_eq_true rfl]
        refine hK.out _ _ (hS.drewN q2) (fun hS => ?_)
        clear hK K
        refine takeH (i := 16) (v := ?_) rfl rfl (by kernel_rfl) (by kernel_rfl) (by kernel_rfl) (fun _ _ _ h => h) (Or.inl ⟨by kernel_rfl, ?_⟩) hS ?_
        rotate_left 1
        · (intro w' hS'; go_simp; try (with_reducible rfl))
        simp only [List.setIfInBounds_toArray, List.set_cons_succ, List.set_cons_zero]
        refine takeH (i := 17) (v := ?_) rfl rfl (by kernel_rfl) (by kernel_rfl) (by kernel_rfl) (fun _ _ _ h => h) (Or.inl ⟨by kernel_rfl, ?_⟩) hS ?_
        rotate_left 1
        · (intro w' hS'; go_simp; try (with_reducible rfl))
        simp only [List.setIfInBounds_toArray, List.set_cons_succ, List.set_cons_zero]
        refine wpAnyH_done (by kernel_rfl) ?_ _
        go_wp2_with fail
        go_roundg (m1 - (j + 1))
        case measure => omega
        case rel => exact ⟨j + 1, A2, I2, _, _, by omega, by omega, by go_num, hB2.after hS, hI2, by omega⟩
      · have kk0 : (kd == 0) = false := by simpa using k0
        have kk1 : (kd == 1) = false := by simpa using k1'
        have kk2 : (kd == 2) = false := by simpa using k2'
        clear k0 k1' k2'
        obtain ⟨v, hv⟩ : ∃ v, victim hl A I = v := ⟨_, rfl⟩
        go_wp2_with fail
        generalize wr.alloc (Obj.cells #[.int .i64 kd, .int .i64 pl, .slice Gh mh ch] 47) = wx at *
        refine wp_region_held_drew (S := fun w' => Ext wx w') (by kernel_rfl) ((Ext.refl _).drew) (fun hS => ?_)
        refine takeH (i := 0) (v := ?_) rfl rfl (by kernel_rfl) (by kernel_rfl) (by kernel_rfl) (fun _ _ _ h => h) (Or.inl ⟨by kernel_rfl, ?_⟩) hS ?_
        rotate_left 1
        · (intro w' hS'; go_simp; try (with_reducible rfl))
        simp only [List.setIfInBounds_toArray, List.set_cons_succ, List.set_cons_zero]
        refine takeH (i := 1) (v := ?_) rfl rfl (by kernel_rfl) (by kernel_rfl) (by kernel_rfl) (fun _ _ _ h => h) (Or.inl ⟨by kernel_rfl, ?_⟩) hS ?_
        rotate_left 1
        · (intro w' hS'; go_simp; try (with_reducible rfl))
        simp only [List.setIfInBounds_toArray, List.set_cons_succ, List.set_cons_zero]
        refine takeH (i := 2) (v := ?_) rfl rfl (by kernel_rfl) (by kernel_rfl) (by kernel_rfl) (fun _ _ _ h => h) (Or.inl ⟨by kernel_rfl, ?_⟩) hS ?_
        rotate_left 1
        · (intro w' hS'; have g1 := hS'.cell x2; go_simp; try (with_reducible rfl))
        simp only [List.setIfInBounds_toArray, List.set_cons_succ, List.set_cons_zero]
        refine takeH (i := 4) (v := ?_) rfl rfl (by kernel_rfl) (by kernel_rfl) (by kernel_rfl) (fun _ _ _ h => h) (Or.inl ⟨by kernel_rfl, ?_⟩) hS ?_
        rotate_left 1
        · (intro w' hS'; go_simp; try (with_reducible rfl))
        simp only [List.setIfInBounds_toArray, List.set_cons_succ, List.set_cons_zero]
        refine takeH (i := 5) (v := ?_) rfl rfl (by kernel_rfl) (by kernel_rfl) (by kernel_rfl) (fun _ _ _ h => h) (Or.inl ⟨by kernel_rfl, ?_⟩) hS ?_
        rotate_left 1
        · (intro w' hS'; go_simp; try (with_reducible rfl))
        simp only [List.setIfInBounds_toArray, List.set_cons_succ, List.set_cons_zero]
        refine takeH (i := 6) (v := ?_) rfl rfl (by kernel_rfl) (by kernel_rfl) (by kernel_rfl) (fun _ _ _ h => h) (Or.inl ⟨by kernel_rfl, ?_⟩) hS ?_
        rotate_left 1
        · (intro w' hS'; have g1 := hS'.cell x2; go_simp; try (with_reducible rfl))
        simp only [List.setIfInBounds_toArray, List.set_cons_succ, List.set_cons_zero]
        refine wpAnyH_ready (rs := [3]) (by kernel_rfl) (by simp) ?_
        refine AllReadyH.cons rfl (fun K hK => ?_) ?_
        rotate_left 1
        · exact AllReadyH.nil
        go_simp
        refine (f19_n k1 G n A I Gh hl mh ch _ (by omega) Hm.out.symm (by omega) (hBx.l.ext hS) (hhx.ext hS)).mono ?_; rintro e wa ⟨rfl, xa⟩; rw [hv]
        refine hK.out _ _ (hS.trans xa) (fun hS => ?_)
        clear hK K
        refine wpAnyH_ready (rs := [7]) (by kernel_rfl) (by simp) ?_
        refine AllReadyH.cons rfl (fun K hK => ?_) ?_
        rotate_left 1
        · exact AllReadyH.nil
        go_simp
        refine (f31_any k2 R n A I Gh hl mh ch _ (by omega) Hm.out.symm (by omega) (hBx.r.ext hS) (hhx.ext hS)).mono ?_; rintro e wb ⟨rfl, xb⟩; rw [hv]
        refine hK.out _ _ (hS.trans xb) (fun hS => ?_)
        clear hK K
        refine takeH (i := 8) (v := ?_) rfl rfl (by kernel_rfl) (by kernel_rfl) (by kernel_rfl) (fun _ _ _ h => h) (Or.inl ⟨by kernel_rfl, ?_⟩) hS ?_
        rotate_left 1
        · (intro w' hS'; go_simp; try (with_reducible rfl))
        simp only [List.setIfInBounds_toArray, List.set_cons_succ, List.set_cons_zero]
        refine takeH (i := 9) (v := ?_) rfl rfl (by kernel_rfl) (by kernel_rfl) (by kernel_rfl) (fun _ _ _ h => h) (Or.inl ⟨by kernel_rfl, ?_⟩) hS ?_
        rotate_left 1
        · (intro w' hS'; go_simp; try (with_reducible rfl))
        simp only [List.setIfInBounds_toArray, List.set_cons_succ, List.set_cons_zero]
        refine wpAnyH_done (by kernel_rfl) ?_ _
        have hBy := hBx.after hS
        obtain ⟨hq1, hI2, hL2⟩ := hI.remove v
        have HA := f30_any k1 G n v A I wb (by omega) hBy.l
        clear hv hBx hS
        go_wp2_with (first
          | (go_at_call 30; refine HA.mono ?_; clear HA; rintro e w4 ⟨rfl, t4, u4⟩; have HP := f29_any k2 R n 2 v A I w4 (by omega) (hBy.mid u4))
          | (go_at_call 29; refine HP.mono ?_; clear HP; rintro e w5 ⟨rfl, t5, u5⟩; rw [hq1] at t5; have hB2 := hBy.step u4 t4 u5 t5))
        generalize hA2 : (tRemove v A I).1 = A2 at *
        generalize hI2' : (tRemove v A I).2 = I2 at *
        clear hA2 hI2' t4 t5 u4 u5 hBy hq1 hI
        obtain ⟨ra, ri, hr⟩ := hB2.r
        obtain ⟨_, rc1, rc2, _⟩ := hr.cells
        obtain ⟨Ba, ca, rfl, _, _, hra, _, _⟩ := hr.act.form
        obtain ⟨Bi, ci, rfl, _, _, hri, _, _⟩ := hr.ina.form
        rw [length_ints] at rc1 rc2
        clear hr
        go_wp2_with fail
        refine wp_region_held_drew (S := fun w' => Ext w5 w') (by kernel_rfl) ((Ext.refl _).drew) (fun hS => ?_)
        refine takeH (i := 0) (v := ?_) rfl rfl (by kernel_rfl) (by kernel_rfl) (by kernel_rfl) (fun _ _ _ h => h) (Or.inl ⟨by kernel_rfl, ?_⟩) hS ?_
        rotate_left 1
        · (intro w' hS'; go_simp; try (with_reducible rfl))
        simp only [List.setIfInBounds_toArray, List.set_cons_succ, List.set_cons_zero]
        refine takeH (i := 2) (v := ?_) rfl rfl (by kernel_rfl) (by kernel_rfl) (by kernel_rfl) (fun _ _ _ h => h) (Or.inl ⟨by kernel_rfl, ?_⟩) hS ?_
        rotate_left 1
        · (intro w' hS'; go_simp; try (with_reducible rfl))
        simp only [List.setIfInBounds_toArray, List.set_cons_succ, List.set_cons_zero]
        refine takeH (i := 3) (v := ?_) rfl rfl (by kernel_rfl) (by kernel_rfl) (by kernel_rfl) (fun _ _ _ h => h) (Or.inl ⟨by kernel_rfl, ?_⟩) hS ?_
        rotate_left 1
        · (intro w' hS'; go_simp; try (with_reducible rfl))
        simp only [List.setIfInBounds_toArray, List.set_cons_succ, List.set_cons_zero]
        refine takeH (i := 4) (v := ?_) rfl rfl (by kernel_rfl) (by kernel_rfl) (by kernel_rfl) (fun _ _ _ h => h) (Or.inl ⟨by kernel_rfl, ?_⟩) hS ?_
        rotate_left 1
        · (intro w' hS'; go_simp; try (with_reducible rfl))
        simp only [List.setIfInBounds_toArray, List.set_cons_succ, List.set_cons_zero]
        refine takeH (i := 5) (v := ?_) rfl rfl (by kernel_rfl) (by kernel_rfl) (by kernel_rfl) (fun _ _ _ h => h) (Or.inl ⟨by kernel_rfl, ?_⟩) hS ?_
        rotate_left 1
        · (intro w' hS'; have g1 := hS'.cell rc1; go_simp; try (with_reducible rfl))
        simp only [List.setIfInBounds_toArray, List.set_cons_succ, List.set_cons_zero]
        refine wpAnyH_ready (rs := [1]) (by kernel_rfl) (by simp) ?_
        refine AllReadyH.cons rfl (fun K hK => ?_) ?_
        rotate_left 1
        · exact AllReadyH.nil
        go_simp
        refine (f20_any k1 _ n A2 I2 _ (by omega) (hB2.l.ext hS)).mono ?_; rintro e wa ⟨vA, rfl, oA, xA⟩; obtain ⟨AA, cA, rfl, _, hA⟩ := oA.ints_form
        refine hK.out _ _ (hS.trans xA) (fun hS => ?_)
        clear hK K
        refine wpAnyH_ready (rs := [6]) (by kernel_rfl) (by simp) ?_
        refine AllReadyH.cons rfl (fun K hK => ?_) ?_
        rotate_left 1
        · exact AllReadyH.nil
        go_simp
        refine (f32_any AA Ba A2 A2 cA ca _ (by omega) (by omega) hA (hra.ext hS)).mono ?_; rintro e wb ⟨rfl, q1, rfl⟩; rw [decide_eq_true rfl]
        refine hK.out _ _ (hS.drewN q1) (fun hS => ?_)
        clear hK K
        refine takeH (i := 7) (v := ?_) rfl rfl (by kernel_rfl) (by kernel_rfl) (by kernel_rfl) (fun _ _ _ h => h) (Or.inl ⟨by kernel_rfl, ?_⟩) hS ?_
        rotate_left 1
        · (intro w' hS'; go_simp; try (with_reducible rfl))
        simp only [List.setIfInBounds_toArray, List.set_cons_succ, List.set_cons_zero]
        refine takeH (i := 8) (v := ?_) rfl rfl (by kernel_rfl) (by kernel_rfl) (by kernel_rfl) (fun _ _ _ h => h) (Or.inl ⟨by kernel_rfl, ?_⟩) hS ?_
        rotate_left 1
        · (intro w' hS'; go_simp; try (with_reducible rfl))
        simp only [List.setIfInBounds_toArray, List.set_cons_succ, List.set_cons_zero]
        refine takeH (i := 9) (v := ?_) rfl rfl (by kernel_rfl) (by kernel_rfl) (by kernel_rfl) (fun _ _ _ h => h) (Or.inl ⟨by kernel_rfl, ?_⟩) hS ?_
        rotate_left 1
        · (intro w' hS'; go_simp; try (with_reducible rfl))
        simp only [List.setIfInBounds_toArray, List.set_cons_succ, List.set_cons_zero]
        refine takeH (i := 11) (v := ?_) rfl rfl (by kernel_rfl) (by kernel_rfl) (by kernel_rfl) (fun _ _ _ h => h) (Or.inl ⟨by kernel_rfl, ?_⟩) hS ?_
        rotate_left 1
        · (intro w' hS'; go_simp; try (with_reducible rfl))
        simp only [List.setIfInBounds_toArray, List.set_cons_succ, List.set_cons_zero]
        refine takeH (i := 12) (v := ?_) rfl rfl (by kernel_rfl) (by kernel_rfl) (by kernel_rfl) (fun _ _ _ h => h) (Or.inl ⟨by kernel_rfl, ?_⟩) hS ?_
        rotate_left 1
        · (intro w' hS'; go_simp; try (with_reducible rfl))
        simp only [List.setIfInBounds_toArray, List.set_cons_succ, List.set_cons_zero]
        refine takeH (i := 13) (v := ?_) rfl rfl (by kernel_rfl) (by kernel_rfl) (by kernel_rfl) (fun _ _ _ h => h) (Or.inl ⟨by kernel_rfl, ?_⟩) hS ?_
        rotate_left 1
        · (intro w' hS'; go_simp; try (with_reducible rfl))
        simp only [List.setIfInBounds_toArray, List.set_cons_succ, List.set_cons_zero]
        refine takeH (i := 14) (v := ?_) rfl rfl (by kernel_rfl) (by kernel_rfl) (by kernel_rfl) (fun _ _ _ h => h) (Or.inl ⟨by kernel_rfl, ?_⟩) hS ?_
        rotate_left 1
        · (intro w' hS'; have g2 := hS'.cell rc2; go_simp; try (with_reducible rfl))
        simp only [List.setIfInBounds_toArray, List.set_cons_succ, List.set_cons_zero]
        refine wpAnyH_ready (rs := [10]) (by kernel_rfl) (by simp) ?_
        refine AllReadyH.cons rfl (fun K hK => ?_) ?_
        rotate_left 1
        · exact AllReadyH.nil
        go_simp
        refine (f21_any k1 _ n A2 I2 _ (by omega) (hB2.l.ext hS)).mono ?_; rintro e wc ⟨vI, rfl, oI, xI⟩; obtain ⟨AI, cI, rfl, _, hAI⟩ := oI.ints_form
        refine hK.out _ _ (hS.trans xI) (fun hS => ?_)
        clear hK K
        refine wpAnyH_ready (rs := [15]) (by kernel_rfl) (by simp) ?_
        refine AllReadyH.cons rfl (fun K hK => ?_) ?_
        rotate_left 1
        · exact AllReadyH.nil
        go_simp
        refine (f32_any AI Bi I2 I2 cI ci _ (by omega) (by omega) hAI (hri.ext hS)).mono ?_; rintro e wd ⟨rfl, q2, rfl⟩; rw [decide_eq_true rfl]
        refine hK.out _ _ (hS.drewN q2) (fun hS => ?_)
        clear hK K
        refine takeH (i := 16) (v := ?_) rfl rfl (by kernel_rfl) (by kernel_rfl) (by kernel_rfl) (fun _ _ _ h => h) (Or.inl ⟨by kernel_rfl, ?_⟩) hS ?_
        rotate_left 1
        · (intro w' hS'; go_simp; try (with_reducible rfl))
        simp only [List.setIfInBounds_toArray, List.set_cons_succ, List.set_cons_zero]
        refine takeH (i := 17) (v := ?_) rfl rfl (by kernel_rfl) (by kernel_rfl) (by kernel_rfl) (fun _ _ _ h => h) (Or.inl ⟨by kernel_rfl, ?_⟩) hS ?_
        rotate_left 1
        · (intro w' hS'; go_simp; try (with_reducible rfl))
        simp only [List.setIfInBounds_toArray, List.set_cons_succ, List.set_cons_zero]
        refine wpAnyH_done (by kernel_rfl) ?_ _
        go_wp2_with fail
        go_roundg (m1 - (j + 1))
        case measure => omega
        case rel => exact ⟨j + 1, A2, I2, _, _, by omega, by omega, by go_num, hB2.after hS, hI2, by omega⟩
    · obtain rfl : j = m1 := by omega
      go_wp2_with fail
      go_ret
      exact ⟨rfl, hB.ext⟩
end Go.Proofs.Ytghkkhafnkkomaa
