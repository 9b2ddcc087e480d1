/- Once a reading has failed nothing is taken any more: the law's walk. -/
import Derived.Test.YtghkkhafnkkomaaPz
import Derived.Test.YtghkkhafnkkomaaNm
namespace Go.Proofs.Ytghkkhafnkkomaa
open Go.RowKit
open Go.Proofs

theorem rTake_fail (n : Int) (B : List UInt8) : rTake n B true = ([], [], true) := by rw [rTake, if_pos (.inl rfl)]
theorem rNum_fail (n : Int) (B : List UInt8) : rNum n B true = 0 := by
  rw [rNum, rTake_fail]
  exact i64of_lo _ (by decide)
theorem rSgn_fail (n : Int) (B : List UInt8) : rSgn n B true = 0 := by
  rw [rSgn, rNum_fail]
  unfold sgnN
  have h : ∀ k, u64of 0 % 2 ^ k = 0 := fun k => Nat.zero_mod _
  rw [h]
  by_cases h0 : 8 * wid n = 0
  · rw [if_pos h0]
  · rw [if_neg h0, if_pos (Nat.two_pow_pos _)]; rfl
theorem rText_fail (B : List UInt8) : rText B true = ([], [], true) := by rw [rText, rTake_fail, rTake_fail]

set_option maxRecDepth 100000 in
set_option maxHeartbeats 1000000 in
theorem f10_walk (A : Option Addr) (fs : List Fld) (n c : Nat) (w : World) (hn : fs.length = n) (hx : FldsAt w A fs) :
    Calls Try.prog 10 #[.slice A n c] w fun e w' => e = .returned (.bool true) ∧ Ext w w' := by
  have HN := Lib.hid hn
  clear hn
  by_cases hgt : 20 < n
  · have hgi : (20 : Int) < (n : Int) := by omega
    go_enter Try.func10, Try.ntmps10
    go_wp2_with fail
    refine (f22_any w).mono ?_
    rintro e w1 ⟨rfl, x1⟩
    go_wp2_with fail
    refine (f22_any w1).mono ?_
    rintro e w2 ⟨rfl, x2⟩
    go_wp2_with fail
    go_ret
    exact ⟨rfl, x1.trans x2⟩
  · have hgi : ((20 : Int) < (n : Int)) = False := by simp; omega
    go_enter Try.func10, Try.ntmps10
    go_wp2_with fail
    refine (f22_any w).mono ?_
    rintro e w1 ⟨rfl, x1⟩
    go_wp2_with fail
    refine (f25_any (some ⟨w1.heap.size, 0, none⟩) [1, 2, 3] 3 3 _ rfl (by decide) (fun e => by cases e) (fun a e => by cases e; exact ⟨_, _, rfl⟩) (Cells.new w1 #[.int .u8 1, .int .u8 2, .int .u8 3] 5)).mono ?_
    rintro e w2 ⟨k, rfl, t2, x2⟩
    have hk : w.heap.size ≤ k := by
      obtain ⟨_, _, hv⟩ := t2
      have := hv.mem.1
      have := x1.size
      simp at *
      omega
    have x12 := x1.trans (((Ext.refl w1).alloc _).trans x2)
    generalize (fun b => _ ∧ b < w2.heap.size) = F at t2
    have HF := f35_any k F [1, 2, 3] false 4 w2 t2
    rw [show wid 4 = 4 by decide, rNum, show wid 4 = 4 by decide, show rTake ((4 : Nat) : Int) [1, 2, 3] false = ([], [], true) by rw [rTake, if_pos (.inr (by decide))], show i64of (getN []) = 0 from i64of_lo _ (by decide)] at HF
    clear x1 x2 t2
    go_wp2_with (first
      | (go_at_call 35; refine HF.mono ?_; clear HF; rintro e w3 ⟨rfl, t3, u3⟩; have HD := f27_any k F [] true w3 t3)
      | (go_at_call 27; refine HD.mono ?_; clear HD; rintro e w4 ⟨rfl, rfl⟩))
    have x3 : Ext w w4 := x12.trans' u3 (fun b e => by rw [e]; exact hk)
    clear x12 u3
    go_loopg [4] n (fun g i wr => ∃ j : Nat, j ≤ n ∧ n - j ≤ g ∧ i = .int .i64 j ∧ RdAt wr k F [] true ∧ Ext w wr)
    case atStart => exact ⟨0, by omega, by omega, rfl, t3, x3⟩
    case round =>
      obtain ⟨j, hj, hg, rfl, ht, hxr⟩ := hrel
      by_cases hlt : j < n
      · obtain ⟨⟨kd, nn, sz, tx⟩, hqg⟩ : ∃ q, fs[j]? = some q := ⟨_, List.getElem?_eq_getElem (by rw [HN.out]; exact hlt)⟩
        obtain ⟨b, o, rfl, hrow⟩ := hx (by rw [HN.out]; omega)
        obtain ⟨_, _, D2, _, _⟩ := hrow j _ hqg
        simp only at D2
        have hji : (j : Int) < (n : Int) := by omega
        have d2 := hxr.cell D2
        have H1 := f35_any k F [] true sz wr ht
        rw [rNum_fail, rTake_fail] at H1
        clear hqg hrow
        go_wp2_with (first
          | (go_at_call 35; refine H1.mono ?_; clear H1; rintro e w5 ⟨rfl, t5, u5⟩; have x5 := hxr.trans' u5 (fun b e => by rw [e]; exact hk); have d5 := x5.cell D2; have H2 := f41_any k F [] true sz w5 t5; rw [rSgn_fail, rTake_fail] at H2)
          | (go_at_call 41; refine H2.mono ?_; clear H2; rintro e w6 ⟨rfl, t6, u6⟩; have x6 := x5.trans' u6 (fun b e => by rw [e]; exact hk); have H3 := f26_any k F [] true w6 (by decide) t6; rw [show zigOut [] = (0, [], true) by rfl] at H3)
          | (go_at_call 26; refine H3.mono ?_; clear H3; rintro e w7 ⟨rfl, t7, u7⟩; have x7 := x6.trans' u7 (fun b e => by rw [e]; exact hk); have H4 := f37_any k F [] true w7 t7; rw [rText_fail] at H4)
          | (go_at_call 37; refine H4.mono ?_; clear H4; rintro e w8 ⟨rfl, t8, u8⟩; have x8 := x7.trans' u8 (fun b e => by rw [e]; exact hk); have H5 := f28_any k F [] true w8 t8; have H6 := f27_any k F [] true w8 t8)
          | (go_at_call 28; refine H5.mono ?_; clear H5; rintro e w9 ⟨rfl, rfl⟩)
          | (go_at_call 27; refine H6.mono ?_; clear H6; rintro e w10 ⟨rfl, rfl⟩))
        go_roundg (n - (j + 1))
        case measure => omega
        case rel => exact ⟨j + 1, by omega, by omega, by go_num, t8, x8⟩
      · obtain rfl : j = n := by omega
        go_wp2_with fail
        go_ret
        exact ⟨rfl, hxr⟩
end Go.Proofs.Ytghkkhafnkkomaa
