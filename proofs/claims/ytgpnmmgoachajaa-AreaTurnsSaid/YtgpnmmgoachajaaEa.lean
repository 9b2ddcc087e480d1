/- The walk of DiskOff. -/
import Derived.Test.YtgpnmmgoachajaaDy
namespace Go.Proofs.Ytgpnmmgoachajaa
open Go.RowKit Go.Shelf
open Go.Proofs

theorem dkWrite_one (s : Dk) (at_ : Nat) (S : List UInt8) (hS : S.length = 128) : dkWrite s at_ S = ⟨s.safe, s.queue ++ [(at_, S)], callTo s.calls, s.writes + 1⟩ := by
  unfold dkWrite
  rw [hS, show (128 : Nat) / 128 = 1 from rfl, cutSec_succ]
  simp [cutSec]
  exact List.take_of_length_le (by omega)
/-- The disk of the law, so many calls on. -/
def offS (n : Nat) (S : List UInt8) (j : Nat) : Dk := ⟨(dkNew 2).safe, List.replicate j (1, S), (n : Int) - (j : Int), (j : Int)⟩
theorem offS_next (n : Nat) (S : List UInt8) (j : Nat) (hS : S.length = 128) (hj : j < n) : dkWrite (offS n S j) 1 S = offS n S (j + 1) := by
  rw [dkWrite_one _ _ _ hS]
  unfold offS callTo
  rw [List.replicate_succ']
  congr 1
  show (if (n : Int) - (j : Int) - 1 < -1 then (-1 : Int) else (n : Int) - (j : Int) - 1) = _
  rw [if_neg (by omega)]
  omega
theorem crash_none (q : List (Nat × List UInt8)) : ∀ (i : Nat) (sf : List (List UInt8)), crashTo [] (-1) 0 i sf q = (sf, 0) := by
  induction q with
  | nil => intro i sf; rfl
  | cons p q ih =>
    intro i sf
    rw [crashTo, if_neg (by simp), if_neg (by omega)]
    exact ih _ _
theorem off_crash (n : Nat) (S : List UInt8) (j : Nat) : dkCrash (offS n S j) [] (-1) 0 = ⟨(dkNew 2).safe, [], -1, (j : Int)⟩ := by
  unfold dkCrash
  rw [crash_none]
  rfl
set_option maxRecDepth 100000 in
theorem off_see (j : Int) : (seeAt ⟨(dkNew 2).safe, [], -1, j⟩ 1).take 4 = [0, 0, 0, 0] := by
  show (seeAt ⟨(dkNew 2).safe, [], -1, 0⟩ 1).take 4 = [0, 0, 0, 0]
  decide

set_option maxRecDepth 100000 in
set_option maxHeartbeats 4000000 in
theorem dk4_any (x : Int) (l : List UInt8) (hl : l.length = 4) (w : World) : Calls Try.prog 4 #[.int .i64 x, .agg (octs l).toArray] w fun e w' => e = .returned (.bool true) ∧ Ext w w' := by
  obtain ⟨t, n, e1, e2, e3, e4, e5, hn5⟩ := round_mod x 5 (by omega)
  rw [show ((5 : Nat) : Int) = 5 from rfl] at e1 e2 e3 e4 e5
  have hw1 : IntKind.i64.wrap (t + 5) = t + 5 := IntWalk.i64_in _ (by omega)
  obtain ⟨S, hS⟩ : ∃ S, S = secOf l := ⟨_, rfl⟩
  have hS128 : S.length = 128 := by rw [hS]; exact length_secOf l (by omega)
  have hsec : ∀ W, Calls Try.prog 17 #[strOf l] W fun e w' => e = .returned (.slice (some ⟨W.heap.size, 0, none⟩) 128 128) ∧ w'.heap[W.heap.size]? = some (.cells (octs S).toArray 5 (0, 0)) ∧ Ext W w' := fun W => by rw [hS]; exact dk17_any l (by omega) W
  clear hS
  have hbox : (w.alloc (.cells (octs l).toArray 39)).heap[w.heap.size]? = some (.cells (octs l).toArray 39 (0, 0)) := heap_alloc_new w _
  have hf15 : ∀ W, Calls Try.prog 15 #[.int .i64 2] W fun e w' => ∃ p, e = .returned (.tuple #[.pointer (some ⟨p, 0, none⟩), .int .i64 0]) ∧ Disk (fun b => b < W.heap.size) w' p (dkNew 2) ∧ Ext W w' := fun W => dk15_good 2 W (by omega) (by omega)
  go_enter Try.func4, Try.ntmps4
  go_wp2_with first
    | (go_at_call 14; refine (dk14_any _).mono ?_; rintro e w1 ⟨rfl, x1⟩; have hbox := x1.heap hbox)
    | (go_at_call 15; refine (hf15 _).mono ?_; clear hf15; rintro e w2 ⟨p, rfl, h2, x2⟩; obtain ⟨K, hK⟩ : ∃ K : Nat → Prop, K = fun b => b < w1.heap.size := ⟨_, rfl⟩; rw [← hK] at h2)
    | (go_at_call 21; refine (dk21_any h2 (n : Int) (by omega)).mono ?_; rintro e w3 ⟨rfl, h3, u3⟩)
  have hlim : ({ dkNew 2 with calls := limitTo (n : Int) } : Dk) = offS n S 0 := by
    unfold offS limitTo
    rw [if_neg (by omega)]
    simp [dkNew]
  rw [hlim] at h3
  have hKb : ∀ b, K b → b < w3.heap.size := fun b e => by
    rw [hK] at e
    exact Nat.lt_of_lt_of_le e (Nat.le_trans x2.size u3.size)
  have hKx : K w.heap.size := by rw [hK]; exact (Array.getElem?_eq_some_iff.1 hbox).1
  have b3 := u3.heap (x2.heap hbox) (fun x => x hKx)
  have hKn : ∀ b, ¬ K b → w.heap.size ≤ b := fun b e => Nat.le_of_not_lt fun h => e (by
    rw [hK]
    exact Nat.lt_of_lt_of_le h ((Ext.refl w).alloc _ |>.trans x1).size)
  have X3 : Ext w w3 := u3.to_ext ((((Ext.refl w).alloc _).trans x1).trans x2) hKn
  clear hK h2 hlim e1 e2 e3 e4 e5 hw1 hbox
  have hnn : n ≤ 4 := by omega
  go_loopw [8, 9] (fun dn i wr => ∃ k : Nat, k ≤ 5 ∧ i = .int .i64 (k : Int) ∧ dn = .int .i64 ((min k n : Nat) : Int) ∧ Disk K wr p (offS n S (min k n)) ∧ Upd (fun b => ¬ K b) w3 wr) (fun _ i _ => 5 - (intOf i).toNat)
  case atStart => exact ⟨0, Nat.zero_le _, rfl, by rw [Nat.zero_min]; rfl, by rw [Nat.zero_min]; exact h3, Upd.refl _ _⟩
  case round =>
    obtain ⟨k, hk, rfl, rfl, hd, hu⟩ := hrel
    by_cases hlt : k < 5
    · have br := hu.heap b3 (fun x => x hKx)
      have hcv : (convert 22 9 (.slice (some ⟨w.heap.size, 0, none⟩) 4 4)).run Try.prog wr = .ok (strOf l) wr := conv_str _ l 4 4 wr hl (sec_octs br)
      obtain ⟨j, hj⟩ : ∃ j, j = min k n := ⟨_, rfl⟩
      rw [← hj] at hd ⊢
      by_cases hkn : k < n
      · have hjk : j = k := by omega
        have hwr : ∀ w2, Ext wr w2 → w2.heap[wr.heap.size]? = some (.cells (octs S).toArray 5 (0, 0)) → Calls Try.prog 16 #[.pointer (some ⟨p, 0, none⟩), .int .i64 1, .slice (some ⟨wr.heap.size, 0, none⟩) 128 128] w2 fun e w3 => e = .returned (.int .i64 0) ∧ Disk K w3 p (offS n S (j + 1)) ∧ Upd (fun b => ¬ K b) wr w3 := fun w2 x hb => by
          rw [← offS_next n S j hS128 (by omega)]
          exact wr_sec hd (by show (n : Int) - (j : Int) ≠ 0; omega) x S hS128 hb 1 (by show 1 < 2; omega) (by show 0 ≤ (j : Int) ∧ (j : Int) ≤ 4294967296; omega) (by show (List.replicate j (1, S)).length ≤ _; rw [List.length_replicate]; omega) (fun b e => Nat.lt_of_lt_of_le (hKb b e) hu.size)
        have hm : min (k + 1) n = j + 1 := by omega
        have hj5 : j < 5 := by omega
        have hk5 : k < 5 := hlt
        clear hj hkn hlt
        go_wp2_with first
          | (go_at_call 17; refine (hsec _).mono ?_; rintro e w5 ⟨rfl, b5, x5⟩)
          | (go_at_call 16; refine (hwr _ x5 b5).mono ?_; clear hwr; rintro e w6 ⟨rfl, h6, u6⟩)
        go_roundw
        case rel => exact ⟨k + 1, by omega, val_int (by omega), by rw [hm]; exact val_int (by omega), by rw [hm]; exact h6, hu.trans u6⟩
        case measure => simp [intOf]; omega
      · have hjn : j = n := by omega
        have hwr : ∀ w2 b, Ext wr w2 → Calls Try.prog 16 #[.pointer (some ⟨p, 0, none⟩), .int .i64 1, .slice (some ⟨b, 0, none⟩) 128 128] w2 fun e w3 => e = .returned (.int .i64 10) ∧ Ext w2 w3 := fun w2 b x =>
          dk16_off (hd.ext x) (some ⟨b, 0, none⟩) 128 128 1 (by omega) (.inr (.inr (by show (n : Int) - (j : Int) = 0; omega)))
        have hm : min (k + 1) n = j := by omega
        have hk5 : k < 5 := hlt
        clear hj hkn hlt
        go_wp2_with first
          | (go_at_call 17; refine (hsec _).mono ?_; rintro e w5 ⟨rfl, b5, x5⟩)
          | (go_at_call 16; refine (hwr _ _ x5).mono ?_; clear hwr; rintro e w6 ⟨rfl, x6⟩)
        go_roundw
        case rel => exact ⟨k + 1, by omega, val_int (by omega), by rw [hm, hjn], by rw [hm]; exact hd.ext (x5.trans x6), hu.trans (Upd.of_ext _ (x5.trans x6))⟩
        case measure => simp [intOf]; omega
    · obtain rfl : k = 5 := by omega
      rw [show min 5 n = n by omega] at hd ⊢
      have h0 : (offS n S n).calls = 0 := by show (n : Int) - (n : Int) = 0; omega
      have hf22 : Calls Try.prog 22 #[.pointer (some ⟨p, 0, none⟩), .int .i64 0, .int .i64 1] wr fun e w' => e = .returned (.tuple #[.slice none 0 0, .int .i64 10]) ∧ wr = w' := (dk22_off hd 0 1 (.inr h0)).mono (fun e w' h => ⟨h.1, h.2.symm⟩)
      have hf23 : Calls Try.prog 23 #[.pointer (some ⟨p, 0, none⟩)] wr fun e w' => e = .returned (.int .i64 (n : Int)) ∧ wr = w' := by
        have := dk23_any hd
        rw [show (offS n S n).queue.length = n from List.length_replicate] at this
        exact this
      have hf18 : Calls Try.prog 18 #[.pointer (some ⟨p, 0, none⟩)] wr fun e w' => e = .returned (.int .i64 10) ∧ wr = w' := (dk18_off hd h0).mono (fun e w' h => ⟨h.1, h.2.symm⟩)
      have hsx : Calls Try.prog 17 #[strOf [120]] wr fun e w' => e = .returned (.slice (some ⟨wr.heap.size, 0, none⟩) 128 128) ∧ w'.heap[wr.heap.size]? = some (.cells (octs (secOf [120])).toArray 5 (0, 0)) ∧ Ext wr w' := dk17_any [120] (by decide) wr
      have hf16 : ∀ W, Disk K W p (offS n S n) → Calls Try.prog 16 #[.pointer (some ⟨p, 0, none⟩), .int .i64 2, .slice (some ⟨wr.heap.size, 0, none⟩) 128 128] W fun e w' => e = .returned (.int .i64 2) ∧ Ext W w' := fun W h =>
        dk16_off h (some ⟨wr.heap.size, 0, none⟩) 128 128 2 (by omega) (.inr (.inl (by show thereOf (dkNew 2).safe.length 2 1 = 2; decide)))
      have hcr : ∀ W, Disk K W p (offS n S n) → Calls Try.prog 19 #[.pointer (some ⟨p, 0, none⟩), .agg #[.slice none 0 0, .int .i64 (-1), .int .i64 0]] W fun e w' => ∃ v, e = .returned v ∧ Disk K w' p ⟨(dkNew 2).safe, [], -1, (n : Int)⟩ ∧ Upd (fun b => ¬ K b) W w' := fun W h => by
        have := dk19_any h none [] 0 0 (-1) 0 rfl (Cells.nil _ _) (fun x e => by cases e) (by omega)
        rw [off_crash] at this
        exact this.mono (fun e w' h => ⟨_, h⟩)
      have hbe : ∀ W, Disk K W p ⟨(dkNew 2).safe, [], -1, (n : Int)⟩ → Calls Try.prog 20 #[.pointer (some ⟨p, 0, none⟩), .int .i64 1, strOf [0, 0, 0, 0]] W fun e w' => e = .returned (.bool true) ∧ Disk K w' p (dkRead ⟨(dkNew 2).safe, [], -1, (n : Int)⟩) ∧ Upd (fun b => ¬ K b) W w' := fun W h => by
        have := dk20_any h (by show (-1 : Int) ≠ 0; decide) 1 (by show 1 < (dkNew 2).safe.length; decide) [0, 0, 0, 0] (by decide)
        rw [show ([0, 0, 0, 0] : List UInt8).length = 4 from rfl, off_see, decide_eq_true rfl] at this
        exact this
      have hf24 : ∀ W, Disk K W p (dkRead ⟨(dkNew 2).safe, [], -1, (n : Int)⟩) → Calls Try.prog 24 #[.pointer (some ⟨p, 0, none⟩)] W fun e w' => e = .returned (.int .i64 (n : Int)) ∧ W = w' := fun W h => dk24_any h
      clear h0
      go_wp2_with first
        | (go_at_call 22; refine hf22.mono ?_; clear hf22; rintro e w' ⟨rfl, rfl⟩)
        | (go_at_call 23; refine hf23.mono ?_; clear hf23; rintro e w' ⟨rfl, rfl⟩)
        | (go_at_call 18; refine hf18.mono ?_; clear hf18; rintro e w' ⟨rfl, rfl⟩)
        | (go_at_call 17; refine hsx.mono ?_; clear hsx; rintro e w5 ⟨rfl, b5, x5⟩; have h5 := hd.ext x5)
        | (go_at_call 16; refine (hf16 _ h5).mono ?_; clear hf16; rintro e w6 ⟨rfl, x6⟩; have h6 := h5.ext x6)
        | (go_at_call 19; refine (hcr _ h6).mono ?_; clear hcr; rintro e w7 ⟨v7, rfl, h7, u7⟩)
        | (go_at_call 20; refine (hbe _ h7).mono ?_; clear hbe; rintro e w8 ⟨rfl, h8, u8⟩)
        | (go_at_call 24; refine (hf24 _ h8).mono ?_; clear hf24; rintro e w9 ⟨rfl, rfl⟩)
      go_ret
      exact ⟨rfl, u8.to_ext (u7.to_ext (((hu.to_ext X3 hKn).trans x5).trans x6) hKn) hKn⟩
end Go.Proofs.Ytgpnmmgoachajaa
