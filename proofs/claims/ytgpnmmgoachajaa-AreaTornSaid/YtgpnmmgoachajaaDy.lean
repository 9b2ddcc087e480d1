/- The law's awake. -/
import Derived.Test.YtgpnmmgoachajaaDx
namespace Go.Proofs.Ytgpnmmgoachajaa
open Go.RowKit Go.Shelf
open Go.Proofs

/-- A made sector is written. -/
theorem wr_sec {K : Nat → Prop} {w w2 : World} {p : Nat} {s : Dk} (h : Disk K w p s) (h0 : s.calls ≠ 0) (x : Ext w w2) (S : List UInt8) (hS : S.length = 128) (hb : w2.heap[w.heap.size]? = some (.cells (octs S).toArray 5 (0, 0))) (at_ : Nat) (hat : at_ < s.safe.length)
    (hwr : 0 ≤ s.writes ∧ s.writes ≤ 4294967296) (hq : s.queue.length ≤ 2147483648) (hKb : ∀ b, K b → b < w.heap.size) :
    Calls Try.prog 16 #[.pointer (some ⟨p, 0, none⟩), .int .i64 (at_ : Int), .slice (some ⟨w.heap.size, 0, none⟩) 128 128] w2 fun e w3 => e = .returned (.int .i64 0) ∧ Disk K w3 p (dkWrite s at_ S) ∧ Upd (fun b => ¬ K b) w w3 := by
  have hlt := (Array.getElem?_eq_some_iff.1 hb).1
  refine (dk16_on (h.grow x) h0 (some ⟨w.heap.size, 0, none⟩) S 128 128 at_ hS rfl (by omega) (Nat.le_refl _) (sec_octs hb) (fun a e => by
    injection e with e
    rw [← e]
    exact .inr ⟨Nat.le_refl _, hlt⟩) hwr hq (fun b e => e.elim (fun e => Nat.lt_of_lt_of_le (hKb b e) x.size) (·.2))).mono ?_
  rintro e w3 ⟨rfl, h3, u3⟩
  exact ⟨rfl, h3.less (fun _ e => .inl e), (Upd.of_ext _ x).trans (u3.mono (fun b _ e y => e (.inl y)))⟩

def awA : List UInt8 := secOf [97, 97, 97, 97]
def awB : List UInt8 := secOf [98, 98, 98, 98]
def aw3 : Dk := dkWrite (dkFlush (dkWrite (dkNew 2) 0 awA)) 0 awB
set_option maxRecDepth 100000 in
theorem aw_crash : (crashTo [] 0 2 0 aw3.safe aw3.queue).2 = 0 := by decide
set_option maxRecDepth 100000 in
theorem aw_see : (seeAt (dkCrash aw3 [] 0 2) 0).take 4 = [98, 98, 97, 97] := by decide

set_option maxRecDepth 100000 in
set_option maxHeartbeats 4000000 in
theorem dk14_any (w : World) : Calls Try.prog 14 #[] w fun e w' => e = .returned (.bool true) ∧ Ext w w' := by
  have hf15 : Calls Try.prog 15 #[.int .i64 2] w fun e w' => ∃ p, e = .returned (.tuple #[.pointer (some ⟨p, 0, none⟩), .int .i64 0]) ∧ Disk (fun b => b < w.heap.size) w' p (dkNew 2) ∧ Ext w w' := dk15_good 2 w (by omega) (by omega)
  obtain ⟨K, hK⟩ : ∃ K : Nat → Prop, K = fun b => b < w.heap.size := ⟨_, rfl⟩
  have hKb : ∀ b, K b → b < w.heap.size := fun b e => by rw [hK] at e; exact e
  have hKu : ∀ w', Upd (fun b => ¬ K b) w w' → Ext w w' := fun w' u => u.to_ext (Ext.refl w) (fun b e => by rw [hK] at e; omega)
  rw [← hK] at hf15
  clear hK
  have hcr : ∀ w' p, Disk K w' p aw3 → Calls Try.prog 19 #[.pointer (some ⟨p, 0, none⟩), .agg #[.slice none 0 0, .int .i64 0, .int .i64 2]] w' fun e w'' => e = .returned (.int .i64 0) ∧ Disk K w'' p (dkCrash aw3 [] 0 2) ∧ Upd (fun b => ¬ K b) w' w'' := fun w' p h => by
    have := dk19_any h none [] 0 0 0 2 rfl (Cells.nil _ _) (fun x e => by cases e) (by omega)
    rw [aw_crash] at this
    exact this
  have hbe : ∀ w' p, Disk K w' p (dkCrash aw3 [] 0 2) → Calls Try.prog 20 #[.pointer (some ⟨p, 0, none⟩), .int .i64 0, strOf [98, 98, 97, 97]] w' fun e w'' => e = .returned (.bool true) ∧ Disk K w'' p (dkRead (dkCrash aw3 [] 0 2)) ∧ Upd (fun b => ¬ K b) w' w'' := fun w' p h => by
    have := dk20_any h (by decide) 0 (by decide) [98, 98, 97, 97] (by decide)
    rw [show ([98, 98, 97, 97] : List UInt8).length = 4 from rfl, aw_see, decide_eq_true rfl] at this
    exact this
  have hw1 : ∀ w' w2 p, Disk K w' p (dkNew 2) → Upd (fun b => ¬ K b) w w' → Ext w' w2 → w2.heap[w'.heap.size]? = some (.cells (octs awA).toArray 5 (0, 0)) → Calls Try.prog 16 #[.pointer (some ⟨p, 0, none⟩), .int .i64 0, .slice (some ⟨w'.heap.size, 0, none⟩) 128 128] w2 fun e w3 => e = .returned (.int .i64 0) ∧ Disk K w3 p (dkWrite (dkNew 2) 0 awA) ∧ Upd (fun b => ¬ K b) w' w3 :=
    fun w' w2 p h u x hb => wr_sec h (by decide) x awA (by decide) hb 0 (by decide) (by decide) (by decide) (fun b e => Nat.lt_of_lt_of_le (hKb b e) u.size)
  have hw2 : ∀ w' w2 p, Disk K w' p (dkFlush (dkWrite (dkNew 2) 0 awA)) → Upd (fun b => ¬ K b) w w' → Ext w' w2 → w2.heap[w'.heap.size]? = some (.cells (octs awB).toArray 5 (0, 0)) → Calls Try.prog 16 #[.pointer (some ⟨p, 0, none⟩), .int .i64 0, .slice (some ⟨w'.heap.size, 0, none⟩) 128 128] w2 fun e w3 => e = .returned (.int .i64 0) ∧ Disk K w3 p aw3 ∧ Upd (fun b => ¬ K b) w' w3 :=
    fun w' w2 p h u x hb => wr_sec h (by decide) x awB (by decide) hb 0 (by decide) (by decide) (by decide) (fun b e => Nat.lt_of_lt_of_le (hKb b e) u.size)
  have hfl : ∀ w' p, Disk K w' p (dkWrite (dkNew 2) 0 awA) → Calls Try.prog 18 #[.pointer (some ⟨p, 0, none⟩)] w' fun e w'' => e = .returned (.int .i64 0) ∧ Disk K w'' p (dkFlush (dkWrite (dkNew 2) 0 awA)) ∧ Upd (fun b => ¬ K b) w' w'' := fun w' p h => dk18_on h (by decide)
  have hsA : ∀ w, Calls Try.prog 17 #[strOf [97, 97, 97, 97]] w fun e w' => e = .returned (.slice (some ⟨w.heap.size, 0, none⟩) 128 128) ∧ w'.heap[w.heap.size]? = some (.cells (octs awA).toArray 5 (0, 0)) ∧ Ext w w' := fun w => dk17_any [97, 97, 97, 97] (by decide) w
  have hsB : ∀ w, Calls Try.prog 17 #[strOf [98, 98, 98, 98]] w fun e w' => e = .returned (.slice (some ⟨w.heap.size, 0, none⟩) 128 128) ∧ w'.heap[w.heap.size]? = some (.cells (octs awB).toArray 5 (0, 0)) ∧ Ext w w' := fun w => dk17_any [98, 98, 98, 98] (by decide) w
  go_enter Try.func14, Try.ntmps14
  go_wp2_with first
    | (go_at_call 15; refine hf15.mono ?_; clear hf15; rintro e w1 ⟨p, rfl, h1, x1⟩; have u1 : Upd (fun b => ¬ K b) w w1 := Upd.of_ext _ x1)
    | (go_at_call 17; refine (hsA _).mono ?_; clear hsA; rintro e w2 ⟨rfl, b2, x2⟩)
    | (go_at_call 16; refine (hw1 _ _ _ h1 u1 x2 b2).mono ?_; clear hw1; rintro e w3 ⟨rfl, h3, u3⟩; have u3 := u1.trans u3)
    | (go_at_call 18; refine (hfl _ _ h3).mono ?_; clear hfl; rintro e w4 ⟨rfl, h4, u4⟩; have u4 := u3.trans u4)
    | (go_at_call 17; refine (hsB _).mono ?_; clear hsB; rintro e w5 ⟨rfl, b5, x5⟩)
    | (go_at_call 16; refine (hw2 _ _ _ h4 u4 x5 b5).mono ?_; clear hw2; rintro e w6 ⟨rfl, h6, u6⟩; have u6 := u4.trans u6)
    | (go_at_call 19; refine (hcr _ _ h6).mono ?_; clear hcr; rintro e w7 ⟨rfl, h7, u7⟩; have u7 := u6.trans u7)
    | (go_at_call 20; refine (hbe _ _ h7).mono ?_; clear hbe; rintro e w8 ⟨rfl, h8, u8⟩; have u8 := u7.trans u8)
  go_ret
  exact ⟨rfl, hKu _ u8⟩
end Go.Proofs.Ytgpnmmgoachajaa
