/- The walk of JournalFits. -/
import Derived.Test.YtgpnmmgoachajaaJf
namespace Go.Proofs.Ytgpnmmgoachajaa
open Go.RowKit Go.Shelf
open Go.Proofs

theorem fits_lt {j : Jn} {m : Int} (h : secs m = 0 ∨ ((j.n - j.used : Nat) : Int) < secs m) : jFits j m = false := by
  unfold jFits
  rcases h with h | h
  · rw [decide_eq_false (p := 0 < secs m) (by omega), Bool.false_and]
  · rw [decide_eq_false (p := secs m ≤ _) (by omega), Bool.and_false]
theorem fits_le {j : Jn} {m : Int} (h : secs m ≠ 0) (h2 : secs m ≤ ((j.n - j.used : Nat) : Int)) : jFits j m = true := by
  have := secs_range m
  unfold jFits
  rw [decide_eq_true (p := 0 < secs m) (by omega), decide_eq_true (p := secs m ≤ _) h2, Bool.and_true]

theorem secs_nsec2 (m : Nat) (h1 : 1 ≤ m) (h2 : m ≤ 65000) : secs (m : Int) = (((m + 111) / 112 + 1 : Nat) : Int) := by
  unfold secs
  rw [if_neg (by omega)]
  omega
set_option maxRecDepth 100000 in
set_option maxHeartbeats 8000000 in
theorem f10_any (x : Int) (A : Option Addr) (ls : List Nat) (n c : Nat) (w : World) (hl : ls.length = n) (hn : n ≤ 9223372036854775807) (hx : Cells w A (u16s ls)) (hls : ∀ x ∈ ls, x < 65536) :
    Calls Try.prog 10 #[.int .i64 x, .slice A n c] w fun e w' => e = .returned (.bool true) ∧ Ext w w' := by
  by_cases gn : 30 < n
  · have G : ((30 : Int) < (n : Int)) = True := eq_true (by omega)
    clear hx hls
    go_enter Try.func10, Try.ntmps10
    go_wp2_with first
      | (go_at_call 34; refine (aw07_any w1).mono ?_; rintro e w2 ⟨rfl, x2⟩)
      | (go_at_call 34; refine (aw07_any _).mono ?_; rintro e w1 ⟨rfl, x1⟩)
    go_ret
    exact ⟨rfl, x1.trans x2⟩
  have G : ((30 : Int) < (n : Int)) = False := eq_false (by omega)
  obtain ⟨t, r, e1, e2, e3, e4, e5, hr⟩ := round_mod x 30 (by omega)
  rw [show ((30 : Nat) : Int) = 30 from rfl] at e1 e2 e3 e4 e5
  have hw1 : IntKind.i64.wrap (t + 30) = t + 30 := IntWalk.i64_in _ (by omega)
  obtain ⟨k, hk⟩ : ∃ k, k = r + 4 := ⟨_, rfl⟩
  have a1 : 4 + (r : Int) = (k : Int) := by omega
  have b1 : IntKind.i64.wrap (k : Int) = (k : Int) := IntWalk.i64_in _ (by omega)
  have hk4 : 4 ≤ k ∧ k ≤ 33 := by omega
  have hf15 : ∀ W, Calls Try.prog 15 #[.int .i64 (k : Int)] W fun e w' => ∃ p, e = .returned (.tuple #[.pointer (some ⟨p, 0, none⟩), .int .i64 0]) ∧ Disk (fun b => b < W.heap.size) w' p (dkNew k) ∧ Ext W w' := fun W => dk15_good k W (by omega) (by omega)
  have hnw : ∀ p (K : Nat → Prop) W, Disk K W p (dkNew k) → Calls Try.prog 35 #[.pointer (some ⟨p, 0, none⟩), .int .i64 0, .int .i64 (k : Int), .int .i64 1, .int .i64 0] W fun e w' => e = .returned (.tuple #[.pointer (some ⟨W.heap.size, 0, none⟩), .int .i64 0]) ∧ JnAt w' W.heap.size p (jNew 0 k 1 0) ∧ Ext W w' := fun p K W h => jnew_good h 0 k 1 0 (by omega) (by omega) (by show 0 + k ≤ (List.replicate k _).length; rw [List.length_replicate]; omega) (by omega) (by omega) (by omega)
  have g0 := jgood_new k 0 k 1 0 (by omega) (by omega)
  have ep0 : (jNew 0 k 1 0).epoch = 1 := rfl
  generalize hj0 : jNew 0 k 1 0 = j0 at *
  generalize hs0 : dkNew k = s0 at *
  clear hk hj0 hs0
  go_enter Try.func10, Try.ntmps10
  go_wp2_with first
    | (go_at_call 34; refine (aw07_any _).mono ?_; rintro e w0 ⟨rfl, x0⟩)
    | (go_at_call 15; refine (hf15 w0).mono ?_; clear hf15; rintro e w1 ⟨p, rfl, h1, x1⟩; have hnw := hnw p _ w1 h1)
    | (go_at_call 35; refine hnw.mono ?_; clear hnw; rintro e w2 ⟨rfl, hy, x2⟩)
  clear e1 e2 e3 e4 e5 hw1
  obtain ⟨K, hK⟩ : ∃ K : Nat → Prop, K = fun b => b < w0.heap.size ∨ (w1.heap.size ≤ b ∧ b < w2.heap.size) := ⟨_, rfl⟩
  have h2 : Disk K w2 p s0 := by rw [hK]; exact h1.grow x2
  have ky : K w1.heap.size := by rw [hK]; exact .inr ⟨Nat.le_refl _, hy.lt⟩
  have z0 := x0.size
  have z1 := x1.size
  have z2 := x2.size
  have hKb : ∀ b, K b → b < w2.heap.size := fun b e => by rw [hK] at e; rcases e with e | e <;> omega
  have hKn : ∀ b, ¬ K b ∨ b = w1.heap.size → w.heap.size ≤ b := fun b e => by rw [hK] at e; omega
  have X2 := (x0.trans x1).trans x2
  have hx2 := hx.ext X2
  have hKx : ∀ W, Upd (fun b => ¬ K b ∨ b = w1.heap.size) w2 W → Cells W A (u16s ls) := fun W u h0 => by
    obtain ⟨b, o, e, hc⟩ := hx h0
    have hb : b < w.heap.size := block_lt_of_cell (hc 0 _ (List.getElem?_eq_getElem h0))
    refine ⟨b, o, e, fun j v hv => u.cell (X2.cell (hc j v hv)) (fun z => ?_)⟩
    have : w.heap.size ≤ b := hKn b z
    omega
  clear hK hx hx2 h1
  generalize w1.heap.size = y at *
  go_loopw [10] (fun i wr => ∃ (t : Nat) (s : Dk) (j : Jn), t ≤ n ∧ i = .int .i64 (t : Int) ∧ Disk K wr p s ∧ JnAt wr y p j ∧ JGood s j k 0 k t ∧ j.epoch = 1 ∧ Upd (fun b => ¬ K b ∨ b = y) w2 wr) (fun i _ => n - (intOf i).toNat)
  case atStart => exact ⟨0, s0, j0, Nat.zero_le _, rfl, h2, hy, g0, ep0, Upd.refl _ _⟩
  case round =>
    clear g0 ep0 h2 hy
    obtain ⟨t, s, j, ht, rfl, hd, hj, gj, ep, hu⟩ := hrel
    by_cases hlt : t < n
    · obtain ⟨b, o, rfl, hcell⟩ := hKx wr hu (by rw [length_u16s]; omega)
      obtain ⟨v, hv⟩ : ∃ v, v = ls[t]'(by omega) := ⟨_, rfl⟩
      have hv16 : v < 65536 := by rw [hv]; exact hls _ (List.getElem_mem _)
      have cv : wr.cell? ⟨b, o + t, none⟩ = some (.int .u16 (v : Int)) := hcell t _ (by simp [u16s, hv, List.getElem?_eq_getElem (show t < ls.length by omega)])
      have wv : IntKind.i64.wrap (v : Int) = (v : Int) := IntWalk.i64_in _ (by omega)
      obtain ⟨m, hm⟩ : ∃ m, m = v % 1000 := ⟨_, rfl⟩
      have tm : (v : Int).tmod 1000 = (m : Int) := by rw [Int.tmod_eq_emod_of_nonneg (by omega)]; omega
      have tm2 : (v : Int) % 1000 = (m : Int) := by omega
      have wm : IntKind.i64.wrap (m : Int) = (m : Int) := IntWalk.i64_in _ (by omega)
      have hm3 : m < 1000 := by omega
      have jn := gj.n
      have ju := gj.used
      obtain ⟨l, hl0⟩ : ∃ l, l = List.replicate m (0 : UInt8) := ⟨_, rfl⟩
      have ll : l.length = m := by rw [hl0, List.length_replicate]
      have mk := fun W => make_zero m (by omega) W
      have mo := fun W => made_zero m W
      simp only [← hl0] at mk mo
      have fit : ∀ W, Ext wr W → Calls Try.prog 36 #[.pointer (some ⟨y, 0, none⟩), .int .i64 (m : Int)] W fun e w' => e = .returned (.bool (jFits j (m : Int))) ∧ Ext W w' := fun W x => jfits_any (x.heap hj) (by omega) (by omega) (m : Int) (by omega) (by omega)
      obtain ⟨F, hF⟩ : ∃ F, F = j.n - j.used := ⟨_, rfl⟩
      have fre : ∀ W, Ext wr W → Calls Try.prog 37 #[.pointer (some ⟨y, 0, none⟩)] W fun e w' => e = .returned (.int .i64 (F : Int)) ∧ Ext W w' := fun W x => by rw [hF]; exact jfree_any (x.heap hj) (by omega) (by omega)
      have hKr : ∀ W, Ext wr W → ∀ b, K b → b < W.heap.size := fun W x b e => Nat.lt_of_lt_of_le (hKb b e) (Nat.le_trans hu.size x.size)
      have app : ∀ W, Ext wr W → ∀ A, Octs W A l → Calls Try.prog 38 #[.pointer (some ⟨y, 0, none⟩), .slice A m m] W fun e w' => e = .returned (.int .i64 (((jAppend s j l).2.2 : Nat) : Int)) ∧ Disk K w' p (jAppend s j l).1 ∧ JnAt w' y p (jAppend s j l).2.1 ∧ Upd (fun b => ¬ K b ∨ b = y) W w' := fun W x A hx =>
        good_append gj (by omega) (by omega) (by omega) (by omega) (hd.ext x) (x.heap hj) ky A l m m ll (by omega) (by omega) hx (hKr W x)
      have rse := fun W => rsec_any (m : Int) W (by omega) (by omega)
      clear hl0 hv hcell
      obtain ⟨U, hU⟩ : ∃ U, U = j.used := ⟨_, rfl⟩
      have sUF : (U : Int) + (F : Int) = (k : Int) := by omega
      have kk : ((k : Int) != (k : Int)) = false := by simp
      obtain ⟨S, hS⟩ : ∃ S, S = secs (m : Int) := ⟨_, rfl⟩
      have Sr := secs_range (m : Int)
      simp only [← hS] at rse
      by_cases m0 : m = 0
      · have M0 : ((m : Int) == 0) = true := by rw [beq_iff_eq]; omega
        have S0 : S = 0 := by rw [hS, m0]; decide
        rw [gj.none l (by rw [ll, ← hS]; exact S0)] at app
        dsimp only at app
        rw [show jFits j (m : Int) = false from fits_lt (.inl (by rw [← hS]; exact S0))] at fit
        have us2 : ∀ W, JnAt W y p j → Calls Try.prog 40 #[.pointer (some ⟨y, 0, none⟩)] W fun e w' => e = .returned (.int .i64 (U : Int)) ∧ W = w' := fun W h => by rw [hU]; exact jused_any h
        have fr2 : ∀ W, JnAt W y p j → Calls Try.prog 37 #[.pointer (some ⟨y, 0, none⟩)] W fun e w' => e = .returned (.int .i64 (F : Int)) ∧ Ext W w' := fun W h => by rw [hF]; exact jfree_any h (by omega) (by omega)
        have GN := gj.more (t' := t + 1) (by omega)
        clear hn hls hKx hKr ju gj hm hF hU hS m0 S0
        go_wp2_with first
        | (go_at_call 37; refine (fr2 w8 (x8.heap j6)).mono ?_; rintro e w9 ⟨rfl, x9⟩)
        | (go_at_call 37; refine (fr2 w6 j6).mono ?_; rintro e w8 ⟨rfl, x8⟩)
        | (go_at_call 36; refine (fit wr (Ext.refl _)).mono ?_; clear fit; rintro e w4 ⟨rfl, x4⟩)
        | (go_at_call 37; refine (fre w4 x4).mono ?_; clear fre; rintro e w5 ⟨rfl, x5⟩; have X5 := x4.trans x5; have app := app _ (X5.alloc _) _ (mo w5))
        | (go_at_call 38; refine app.mono ?_; clear app; rintro e w6 ⟨rfl, h6, j6, u6⟩)
        | (go_at_call 39; refine (rse _).mono ?_; clear rse; rintro e w7 ⟨rfl, rfl⟩)
        | (go_at_call 40; refine (us2 w6 j6).mono ?_; clear us2; rintro e w7 ⟨rfl, rfl⟩)
        go_roundw
        case rel => exact ⟨t + 1, s, j, by omega, val_int (by omega), h6.ext (x8.trans x9), (x8.trans x9).heap j6, GN, ep, hu.trans ((Upd.of_ext _ (X5.alloc _)).trans (u6.trans (Upd.of_ext _ (x8.trans x9))))⟩
        case measure => simp [intOf]; omega
      · have M0 : ((m : Int) == 0) = false := by rw [beq_eq_false_iff_ne]; omega
        have S0 : S ≠ 0 := by
          rw [hS, secs_nsec2 m (by omega) (by omega)]
          omega
        by_cases hbig : (F : Int) < S
        · have FS : ((F : Int) < S) = True := eq_true hbig
          rw [gj.space l (by rw [ll, ← hS]; exact S0) (by rw [ll, ← hS, ← hF]; exact hbig)] at app
          dsimp only at app
          rw [show jFits j (m : Int) = false from fits_lt (.inr (by rw [← hS, ← hF]; exact hbig))] at fit
          have us2 : ∀ W, JnAt W y p j → Calls Try.prog 40 #[.pointer (some ⟨y, 0, none⟩)] W fun e w' => e = .returned (.int .i64 (U : Int)) ∧ W = w' := fun W h => by rw [hU]; exact jused_any h
          have fr2 : ∀ W, JnAt W y p j → Calls Try.prog 37 #[.pointer (some ⟨y, 0, none⟩)] W fun e w' => e = .returned (.int .i64 (F : Int)) ∧ Ext W w' := fun W h => by rw [hF]; exact jfree_any h (by omega) (by omega)
          have GN := gj.more (t' := t + 1) (by omega)
          clear hn hls hKx hKr ju gj hm hF hU hS m0 S0 hbig
          go_wp2_with first
          | (go_at_call 37; refine (fr2 w8 (x8.heap j6)).mono ?_; rintro e w9 ⟨rfl, x9⟩)
          | (go_at_call 37; refine (fr2 w6 j6).mono ?_; rintro e w8 ⟨rfl, x8⟩)
          | (go_at_call 36; refine (fit wr (Ext.refl _)).mono ?_; clear fit; rintro e w4 ⟨rfl, x4⟩)
          | (go_at_call 37; refine (fre w4 x4).mono ?_; clear fre; rintro e w5 ⟨rfl, x5⟩; have X5 := x4.trans x5; have app := app _ (X5.alloc _) _ (mo w5))
          | (go_at_call 38; refine app.mono ?_; clear app; rintro e w6 ⟨rfl, h6, j6, u6⟩)
          | (go_at_call 39; refine (rse _).mono ?_; clear rse; rintro e w7 ⟨rfl, rfl⟩)
          | (go_at_call 40; refine (us2 w6 j6).mono ?_; clear us2; rintro e w7 ⟨rfl, rfl⟩)
          go_roundw
          case rel => exact ⟨t + 1, s, j, by omega, val_int (by omega), h6.ext (x8.trans x9), (x8.trans x9).heap j6, GN, ep, hu.trans ((Upd.of_ext _ (X5.alloc _)).trans (u6.trans (Upd.of_ext _ (x8.trans x9))))⟩
          case measure => simp [intOf]; omega
        · have FS : ((F : Int) < S) = False := eq_false hbig
          have hf : secs (l.length : Int) ≤ ((j.n - j.used : Nat) : Int) := by rw [ll, ← hS, ← hF]; omega
          have GN := gj.next (by omega) (by omega) l (by omega) (by omega) hf
          rw [gj.appends l (by omega) (by omega) hf] at app
          dsimp only at app
          rw [show jFits j (m : Int) = true from fits_le (by rw [← hS]; exact S0) (by rw [← hS, ← hF]; omega)] at fit
          have ep' : (jStep j (nsec l + 1)).epoch = 1 := ep
          generalize jStep j (nsec l + 1) = j' at *
          generalize (jApp s j.fr j.n j.place (cutOf (j.epoch : Int) (j.count : Int) l)).1 = s' at *
          have jn' := GN.n
          have ju' := GN.used
          obtain ⟨F', hF'⟩ : ∃ F', F' = j'.n - j'.used := ⟨_, rfl⟩
          obtain ⟨U', hU'⟩ : ∃ U', U' = j'.used := ⟨_, rfl⟩
          have sUF' : (U' : Int) + (F' : Int) = (k : Int) := by omega
          have us2 : ∀ W, JnAt W y p j' → Calls Try.prog 40 #[.pointer (some ⟨y, 0, none⟩)] W fun e w' => e = .returned (.int .i64 (U' : Int)) ∧ W = w' := fun W h => by rw [hU']; exact jused_any h
          have fr2 : ∀ W, JnAt W y p j' → Calls Try.prog 37 #[.pointer (some ⟨y, 0, none⟩)] W fun e w' => e = .returned (.int .i64 (F' : Int)) ∧ Ext W w' := fun W h => by rw [hF']; exact jfree_any h (by omega) (by omega)
          clear hn hls hKx hKr ju gj hm hF hU hS m0 S0 hbig hF' hU' jn' ju' hf
          go_wp2_with first
          | (go_at_call 37; refine (fr2 w8 (x8.heap j6)).mono ?_; rintro e w9 ⟨rfl, x9⟩)
          | (go_at_call 37; refine (fr2 w6 j6).mono ?_; rintro e w8 ⟨rfl, x8⟩)
          | (go_at_call 36; refine (fit wr (Ext.refl _)).mono ?_; clear fit; rintro e w4 ⟨rfl, x4⟩)
          | (go_at_call 37; refine (fre w4 x4).mono ?_; clear fre; rintro e w5 ⟨rfl, x5⟩; have X5 := x4.trans x5; have app := app _ (X5.alloc _) _ (mo w5))
          | (go_at_call 38; refine app.mono ?_; clear app; rintro e w6 ⟨rfl, h6, j6, u6⟩)
          | (go_at_call 39; refine (rse _).mono ?_; clear rse; rintro e w7 ⟨rfl, rfl⟩)
          | (go_at_call 40; refine (us2 w6 j6).mono ?_; clear us2; rintro e w7 ⟨rfl, rfl⟩)
          go_roundw
          case rel => exact ⟨t + 1, s', j', by omega, val_int (by omega), h6.ext (x8), (x8).heap j6, GN, ep', hu.trans ((Upd.of_ext _ (X5.alloc _)).trans (u6.trans (Upd.of_ext _ (x8))))⟩
          case measure => simp [intOf]; omega
    · obtain rfl : n = t := by omega
      have hlt2 : ¬ ((n : Int) < (n : Int)) := by omega
      go_wp2
      go_ret
      exact ⟨rfl, hu.to_ext X2 hKn⟩
end Go.Proofs.Ytgpnmmgoachajaa
