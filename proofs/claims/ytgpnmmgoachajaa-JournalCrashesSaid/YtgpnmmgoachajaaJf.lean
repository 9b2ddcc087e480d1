/- The example of layer 7; numbers of two octets in memory. -/
import Derived.Test.YtgpnmmgoachajaaK10
namespace Go.Proofs.Ytgpnmmgoachajaa
open Go.RowKit Go.Shelf
open Go.Proofs

/-- Numbers of two octets, as cells. -/
def u16s (l : List Nat) : List Value := l.map fun (x : Nat) => Value.int .u16 (x : Int)
theorem length_u16s (l : List Nat) : (u16s l).length = l.length := by simp [u16s]
theorem zero_octs (n : Nat) : zeros n = (octs (List.replicate n 0)).toArray := Array.toList_inj.1 (by rw [zeros_list])
theorem make_zero (n : Nat) (hn : n ≤ 4294967296) (W : World) : (Instr.makeSlice 22 (.int .i64 (n : Int)) (.int .i64 (n : Int))).run Try.prog W = .ok (.slice (some ⟨W.heap.size, 0, none⟩) n n) (W.alloc (.cells (octs (List.replicate n 0)).toArray 5)) := by
  have := make_octs n hn W
  rw [zero_octs] at this
  exact this
theorem made_zero (n : Nat) (W : World) : Octs (W.alloc (.cells (octs (List.replicate n 0)).toArray 5)) (some ⟨W.heap.size, 0, none⟩) (List.replicate n 0) := sec_octs (heap_alloc_new W _)

set_option maxRecDepth 100000 in
set_option maxHeartbeats 4000000 in
theorem aw07_any (w : World) : Calls Try.prog 34 #[] w fun e w' => e = .returned (.bool true) ∧ Ext w w' := by
  have hf15 : Calls Try.prog 15 #[.int .i64 10] w fun e w' => ∃ p, e = .returned (.tuple #[.pointer (some ⟨p, 0, none⟩), .int .i64 0]) ∧ Disk (fun b => b < w.heap.size) w' p (dkNew 10) ∧ Ext w w' := dk15_good 10 w (by omega) (by omega)
  have hnw : ∀ p W, Disk (fun b => b < w.heap.size) W p (dkNew 10) → Calls Try.prog 35 #[.pointer (some ⟨p, 0, none⟩), .int .i64 1, .int .i64 8, .int .i64 1, .int .i64 0] W fun e w' => e = .returned (.tuple #[.pointer (some ⟨W.heap.size, 0, none⟩), .int .i64 0]) ∧ JnAt w' W.heap.size p (jNew 1 8 1 0) ∧ Ext W w' := fun p W h => jnew_good h 1 8 1 0 (by omega) (by omega) (by show 1 + 8 ≤ (List.replicate 10 _).length; rw [List.length_replicate]; omega) (by omega) (by omega) (by omega)
  have g0 := jgood_new 10 1 8 1 0 (by omega) (by omega)
  obtain ⟨l1, hl1⟩ : ∃ l1, l1 = List.replicate 112 (0 : UInt8) := ⟨_, rfl⟩
  obtain ⟨l2, hl2⟩ : ∃ l2, l2 = List.replicate 700 (0 : UInt8) := ⟨_, rfl⟩
  have n1 : l1.length = 112 := by rw [hl1, List.length_replicate]
  have n2 : l2.length = 700 := by rw [hl2, List.length_replicate]
  have m1 : ∀ W : World, (Instr.makeSlice 22 (.int .i64 112) (.int .i64 112)).run Try.prog W = .ok (.slice (some ⟨W.heap.size, 0, none⟩) 112 112) (W.alloc (.cells (octs (List.replicate 112 0)).toArray 5)) := fun W => make_zero 112 (by omega) W
  have m2 : ∀ W : World, (Instr.makeSlice 22 (.int .i64 700) (.int .i64 700)).run Try.prog W = .ok (.slice (some ⟨W.heap.size, 0, none⟩) 700 700) (W.alloc (.cells (octs (List.replicate 700 0)).toArray 5)) := fun W => make_zero 700 (by omega) W
  have o1 := fun W => made_zero 112 W
  have o2 := fun W => made_zero 700 W
  simp only [← hl1] at m1 o1
  simp only [← hl2] at m2 o2
  have q1 : nsec l1 = 1 := by unfold nsec; rw [n1]
  obtain ⟨j0, hj0⟩ : ∃ j0, j0 = jNew 1 8 1 0 := ⟨_, rfl⟩
  obtain ⟨s0, hs0⟩ : ∃ s0, s0 = dkNew 10 := ⟨_, rfl⟩
  have z1 : j0.n = 8 := by rw [hj0]; rfl
  have z2 : j0.used = 0 := by rw [hj0]; rfl
  have z3 : j0.epoch = 1 := by rw [hj0]; rfl
  simp only [← hj0, ← hs0] at g0 hf15 hnw
  have sec1 : secs (l1.length : Int) = 2 := by rw [n1]; decide
  have sec2 : secs (l2.length : Int) = 8 := by rw [n2]; decide
  have f1 : secs (l1.length : Int) ≤ ((j0.n - j0.used : Nat) : Int) := by rw [sec1, z1, z2]; decide
  have a1 := g0.appends l1 (by omega) (by omega) f1
  have g1 := g0.next (by omega) (by omega) l1 (by omega) (by omega) f1
  rw [q1] at a1 g1
  have ap1 : ∀ K p W y, Disk K W p s0 → JnAt W y p j0 → K y → (∀ b, K b → b < W.heap.size) → ∀ A, Octs W A l1 → Calls Try.prog 38 #[.pointer (some ⟨y, 0, none⟩), .slice A 112 112] W fun e w' => e = .returned (.int .i64 (((jAppend s0 j0 l1).2.2 : Nat) : Int)) ∧ Disk K w' p (jAppend s0 j0 l1).1 ∧ JnAt w' y p (jAppend s0 j0 l1).2.1 ∧ Upd (fun b => ¬ K b ∨ b = y) W w' := fun K p W y h hj ky hb A hx =>
    good_append g0 (by omega) (by omega) (by omega) (by omega) h hj ky A l1 112 112 n1 (by omega) (by omega) hx hb
  rw [a1] at ap1
  generalize (jApp s0 j0.fr j0.n j0.place (cutOf (j0.epoch : Int) (j0.count : Int) l1)).1 = s1 at *
  obtain ⟨j1, hj1⟩ : ∃ j1, j1 = jStep j0 (1 + 1) := ⟨_, rfl⟩
  have y1 : j1.n = 8 := by rw [hj1]; exact z1
  have y2 : j1.used = 2 := by rw [hj1]; show j0.used + 2 = 2; rw [z2]
  have y3 : j1.epoch = 1 := by rw [hj1]; exact z3
  rw [← hj1] at g1 a1
  simp only [← hj1] at ap1
  have a2 := g1.space l2 (by rw [sec2]; decide) (by rw [sec2, y1, y2]; decide)
  have ap2 : ∀ K p W y, Disk K W p s1 → JnAt W y p j1 → K y → (∀ b, K b → b < W.heap.size) → ∀ A, Octs W A l2 → Calls Try.prog 38 #[.pointer (some ⟨y, 0, none⟩), .slice A 700 700] W fun e w' => e = .returned (.int .i64 (((jAppend s1 j1 l2).2.2 : Nat) : Int)) ∧ Disk K w' p (jAppend s1 j1 l2).1 ∧ JnAt w' y p (jAppend s1 j1 l2).2.1 ∧ Upd (fun b => ¬ K b ∨ b = y) W w' := fun K p W y h hj ky hb A hx =>
    good_append g1 (by omega) (by omega) (by omega) (by omega) h hj ky A l2 700 700 n2 (by omega) (by omega) hx hb
  rw [a2] at ap2
  have us : ∀ W y p, JnAt W y p j1 → Calls Try.prog 40 #[.pointer (some ⟨y, 0, none⟩)] W fun e w' => e = .returned (.int .i64 2) ∧ W = w' := fun W y p h => by
    have := jused_any h
    rw [y2] at this
    exact this
  have fr : ∀ W y p, JnAt W y p j1 → Calls Try.prog 37 #[.pointer (some ⟨y, 0, none⟩)] W fun e w' => e = .returned (.int .i64 6) ∧ Ext W w' := fun W y p h => by
    have := jfree_any h (by omega) (by omega)
    rw [y1, y2] at this
    exact this
  clear hl1 hl2 n1 n2 q1 z1 z2 z3 sec1 sec2 f1 a1 g0 g1 hj0 hs0 hj1 y1 y2 y3 a2
  dsimp only at ap1 ap2
  go_enter Try.func34, Try.ntmps34
  go_wp2_with first
    | (go_at_call 15; refine hf15.mono ?_; clear hf15; rintro e w1 ⟨p, rfl, h1, x1⟩; have hnw := hnw p w1 h1)
    | (go_at_call 35; refine hnw.mono ?_; clear hnw; rintro e w2 ⟨rfl, hy, x2⟩; obtain ⟨K, hK⟩ : ∃ K : Nat → Prop, K = fun b => b < w.heap.size ∨ (w1.heap.size ≤ b ∧ b < w2.heap.size) := ⟨_, rfl⟩; have h2 : Disk K w2 p s0 := (by rw [hK]; exact h1.grow x2); have ky : K w1.heap.size := (by rw [hK]; exact .inr ⟨Nat.le_refl _, hy.lt⟩); have hKb : ∀ b, K b → b < w2.heap.size := (fun b e => by have := x1.size; have := x2.size; rw [hK] at e; rcases e with e | e <;> omega); have hKn : ∀ b, ¬ K b ∨ b = w1.heap.size → w.heap.size ≤ b := (fun b e => by have := x1.size; rw [hK] at e; omega); clear hK; have X2 := x1.trans x2; have hm1 := o1 w2; have x3 : Ext w2 (w2.alloc (.cells (octs l1).toArray 5)) := (Ext.refl w2).alloc _; have ap1 := ap1 K p _ _ (h2.ext x3) (x3.heap hy) ky (fun b e => Nat.lt_of_lt_of_le (hKb b e) x3.size) _ hm1)
    | (go_at_call 38; refine ap1.mono ?_; clear ap1; rintro e w4 ⟨rfl, h4, j4, u4⟩; have X4 := u4.to_ext (X2.alloc _) hKn; have us := us w4 _ p j4)
    | (go_at_call 40; refine us.mono ?_; clear us; rintro e w5 ⟨rfl, rfl⟩; have hm2 := o2 w4; have x5 : Ext w4 (w4.alloc (.cells (octs l2).toArray 5)) := (Ext.refl w4).alloc _; have ap2 := ap2 K p _ _ (h4.ext x5) (x5.heap j4) ky (fun b e => Nat.lt_of_lt_of_le (hKb b e) (Nat.le_trans (Nat.le_trans x3.size u4.size) x5.size)) _ hm2)
    | (go_at_call 38; refine ap2.mono ?_; clear ap2; rintro e w6 ⟨rfl, h6, j6, u6⟩; have X6 := u6.to_ext (X4.alloc _) hKn)
    | (go_at_call 37; refine (fr w6 _ p j6).mono ?_; clear fr; rintro e w7 ⟨rfl, x7⟩)
  go_ret
  exact ⟨rfl, X6.trans x7⟩
end Go.Proofs.Ytgpnmmgoachajaa
