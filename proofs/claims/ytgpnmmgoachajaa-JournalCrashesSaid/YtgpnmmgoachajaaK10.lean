/- Joined texts: Jc, Jd, Je, Head, LiftT, LiftB. -/
import Derived.Test.YtgpnmmgoachajaaK09
import Derived.Test.YtgpnmmgoachajaaRows
import Derived.JoinedOf
import Derived.KernelRfl
import Derived.Test.YtgpnmmgoachajaaK03
import Derived.ProofKit
import Derived.OpenShut
import Derived.ChangeOld
import Derived.Deep.Matrix
import Derived.Test.YtgpnmmgoachajaaK02
/- The journal's append: all sectors but the last, a flush, the last one, a flush. -/
namespace Go.Proofs.Ytgpnmmgoachajaa
open Go.RowKit Go.Shelf
open Go.Proofs

theorem octs_kept {K : Nat → Prop} {w w' : World} {B : Option Addr} {l : List UInt8} (hx : Octs w B l) (u : Upd (fun b => ¬ K b) w w') (hB : 0 < l.length → ∀ a, B = some a → K a.block) : Octs w' B l := fun hpos => by
  obtain ⟨b, o, e, hc⟩ := hx hpos
  exact ⟨b, o, e, fun j v hv => u.cell (hc j v hv) (fun x => x (hB (by rw [length_octs] at hpos; exact hpos) ⟨b, o, none⟩ e))⟩
theorem dkE_or (s : Dk) : (dkE s = 0 ∧ s.calls ≠ 0) ∨ (dkE s = 10 ∧ s.calls = 0) := by
  unfold dkE
  by_cases h0 : s.calls = 0
  · rw [if_pos h0]; exact .inr ⟨rfl, h0⟩
  · rw [if_neg h0]; exact .inl ⟨rfl, h0⟩
theorem dkWrite_inv (s : Dk) (at_ : Nat) (l : List UInt8) : (dkWrite s at_ l).safe.length = s.safe.length ∧ (dkWrite s at_ l).writes = s.writes + ((l.length / 128 : Nat) : Int) ∧ (dkWrite s at_ l).queue.length = s.queue.length + l.length / 128 := by
  refine ⟨rfl, rfl, ?_⟩
  show (s.queue ++ cutSec at_ l (l.length / 128)).length = _
  rw [List.length_append, length_cutSec]
/-- What the ring's write leaves as it was, and how much it adds at most. -/
theorem rg_inv (s : Dk) (fr n pl : Nat) (l : List UInt8) : (rgWrite s fr n pl l).1.safe.length = s.safe.length ∧ (s.writes ≤ (rgWrite s fr n pl l).1.writes ∧ (rgWrite s fr n pl l).1.writes ≤ s.writes + (l.length : Int)) ∧ (rgWrite s fr n pl l).1.queue.length ≤ s.queue.length + l.length ∧ ((rgWrite s fr n pl l).2 = 0 ∨ (rgWrite s fr n pl l).2 = 10) := by
  unfold rgWrite
  split
  · obtain ⟨a, b, c⟩ := dkWrite_inv s (fr + pl) l
    refine ⟨?_, ?_, ?_, (dkE_or s).imp (·.1) (·.1)⟩ <;> dsimp only <;> split
    · rfl
    · exact a
    · exact ⟨Int.le_refl _, by omega⟩
    · rw [b]; omega
    · omega
    · rw [c]; omega
  · split
    · exact ⟨rfl, ⟨Int.le_refl _, by dsimp only; omega⟩, by dsimp only; omega, .inr rfl⟩
    · obtain ⟨a, b, c⟩ := dkWrite_inv s (fr + pl) (l.take ((n - pl) * 128))
      obtain ⟨a2, b2, c2⟩ := dkWrite_inv (dkWrite s (fr + pl) (l.take ((n - pl) * 128))) fr (l.drop ((n - pl) * 128))
      rw [List.length_take] at b c
      rw [List.length_drop] at b2 c2
      refine ⟨?_, ?_, ?_, (dkE_or _).imp (·.1) (·.1)⟩ <;> dsimp only <;> split
      · exact a
      · exact a2.trans a
      · rw [b]; omega
      · rw [b2, b]; omega
      · rw [c]; omega
      · rw [c2, c]; omega
/-- What an append of sectors does. -/
def jApp (s : Dk) (fr n pl : Nat) (l : List UInt8) : Dk × Nat :=
  if (rgWrite s fr n pl (l.take (l.length - 128))).2 ≠ 0 then rgWrite s fr n pl (l.take (l.length - 128))
  else if (rgWrite s fr n pl (l.take (l.length - 128))).1.calls = 0 then ((rgWrite s fr n pl (l.take (l.length - 128))).1, 10)
  else if (rgWrite (dkFlush (rgWrite s fr n pl (l.take (l.length - 128))).1) fr n ((pl + (l.length - 128) / 128) % n) (l.drop (l.length - 128))).2 ≠ 0 then rgWrite (dkFlush (rgWrite s fr n pl (l.take (l.length - 128))).1) fr n ((pl + (l.length - 128) / 128) % n) (l.drop (l.length - 128))
  else (if (rgWrite (dkFlush (rgWrite s fr n pl (l.take (l.length - 128))).1) fr n ((pl + (l.length - 128) / 128) % n) (l.drop (l.length - 128))).1.calls = 0 then (rgWrite (dkFlush (rgWrite s fr n pl (l.take (l.length - 128))).1) fr n ((pl + (l.length - 128) / 128) % n) (l.drop (l.length - 128))).1 else dkFlush (rgWrite (dkFlush (rgWrite s fr n pl (l.take (l.length - 128))).1) fr n ((pl + (l.length - 128) / 128) % n) (l.drop (l.length - 128))).1,
    dkE (rgWrite (dkFlush (rgWrite s fr n pl (l.take (l.length - 128))).1) fr n ((pl + (l.length - 128) / 128) % n) (l.drop (l.length - 128))).1)

set_option maxRecDepth 100000 in
set_option maxHeartbeats 8000000 in
theorem japp_any {K : Nat → Prop} {w : World} {p y : Nat} {s : Dk} {j : Jn} (h : Disk K w p s) (hj : JnAt w y p j) (ky : K y) (A : Option Addr) (l : List UInt8) (m c : Nat) (hl : l.length = m) (hm : m % 128 = 0) (hm1 : 256 ≤ m) (hmn : m ≤ j.n * 128) (hpl : j.place < j.n) (hn : j.n ≤ 4096) (hfr : j.fr + j.n ≤ s.safe.length) (hc : m ≤ c) (hx : Octs w A l)
    (hA : ∀ a, A = some a → K a.block) (hwr : 0 ≤ s.writes ∧ s.writes ≤ 4293000000) (hq : s.queue.length ≤ 2146000000) (hKb : ∀ b, K b → b < w.heap.size) :
    Calls Try.prog 58 #[.pointer (some ⟨y, 0, none⟩), .slice A m c] w fun e w' => e = .returned (.int .i64 (((jApp s j.fr j.n j.place l).2 : Nat) : Int)) ∧ Disk K w' p (jApp s j.fr j.n j.place l).1 ∧ Upd (fun b => ¬ K b) w w' := by
  obtain ⟨L, hL⟩ : ∃ L, L = m - 128 := ⟨_, rfl⟩
  have d1 : (m : Int) - 128 = (L : Int) := by omega
  have w1 : IntKind.i64.wrap (L : Int) = (L : Int) := IntWalk.i64_in _ (by omega)
  obtain ⟨q, hq1⟩ : ∃ q, q = L / 128 := ⟨_, rfl⟩
  have d2 : (L : Int).tdiv 128 = (q : Int) := by rw [Int.tdiv_eq_ediv_of_nonneg (by omega)]; omega
  have d2' : (L : Int) / 128 = (q : Int) := by omega
  have w2 : IntKind.i64.wrap (q : Int) = (q : Int) := IntWalk.i64_in _ (by omega)
  obtain ⟨g, hg⟩ : ∃ g, g = j.place + q := ⟨_, rfl⟩
  have d3 : (j.place : Int) + (q : Int) = (g : Int) := by omega
  have w3 : IntKind.i64.wrap (g : Int) = (g : Int) := IntWalk.i64_in _ (by omega)
  obtain ⟨t, ht⟩ : ∃ t, t = g % j.n := ⟨_, rfl⟩
  have d4 : (g : Int).tmod (j.n : Int) = (t : Int) := by rw [Int.tmod_eq_emod_of_nonneg (by omega)]; omega
  have w4 : IntKind.i64.wrap (t : Int) = (t : Int) := IntWalk.i64_in _ (by have := Nat.mod_le g j.n; omega)
  have n0 : ¬ ((j.n : Int) = 0) := by omega
  have n0' : ¬ (j.n = 0) := by omega
  have htn : t < j.n := by rw [ht]; exact Nat.mod_lt _ (by omega)
  obtain ⟨A1, k1, _, o1, b1⟩ := cut_hi A l c L (by omega) (by omega)
  obtain ⟨A2, k2, _, o2, b2⟩ := cut_lo A l c L (by omega) (by omega)
  rw [hl] at k1 k2
  rw [show m - L = 128 by omega] at k2
  have o1 := o1 w hx
  have o2 := o2 w hx
  have kA1 : ∀ a, A1 = some a → K a.block := fun a e => by
    obtain ⟨b, e1, e2⟩ := b1 a e
    rw [← e2]
    exact hA b e1
  have kA2 : ∀ a, A2 = some a → K a.block := fun a e => by
    obtain ⟨b, e1, e2⟩ := b2 a e
    rw [← e2]
    exact hA b e1
  have l1 : (l.take L).length = L := by rw [List.length_take]; omega
  have l2 : (l.drop L).length = 128 := by rw [List.length_drop]; omega
  have wr : ∀ W, Disk K W p s → Upd (fun b => ¬ K b) w W → Calls Try.prog 69 #[rgV p j.fr j.n, .int .i64 (j.place : Int), .slice A1 L c] W fun e w' => e = .returned (.int .i64 (((rgWrite s j.fr j.n j.place (l.take L)).2 : Nat) : Int)) ∧ Disk K w' p (rgWrite s j.fr j.n j.place (l.take L)).1 ∧ Upd (fun b => ¬ K b) W w' := fun W d u =>
    rg_any d j.fr j.n j.place A1 (l.take L) L c l1 (by omega) (by omega) hpl hfr (by omega) (octs_kept o1 u (fun _ a e => kA1 a e)) kA1 ⟨hwr.1, by omega⟩ (by omega) (fun b e => Nat.lt_of_lt_of_le (hKb b e) u.size)
  obtain ⟨i1, i2, i3, i4⟩ := rg_inv s j.fr j.n j.place (l.take L)
  rw [l1] at i2 i3
  unfold jApp
  rw [hl, ← hL, ← hq1, ← hg, ← ht]
  generalize rgWrite s j.fr j.n j.place (l.take L) = R1 at *
  obtain ⟨s1, e1⟩ := R1
  dsimp only at *
  have fl : ∀ s1 W, Disk K W p s1 → Calls Try.prog 18 #[.pointer (some ⟨p, 0, none⟩)] W fun e w' => e = .returned (.int .i64 ((dkE s1 : Nat) : Int)) ∧ Disk K w' p (if s1.calls = 0 then s1 else dkFlush s1) ∧ Upd (fun b => ¬ K b) W w' := fun s1 W d => dk18_any d
  have q1 : (dkFlush s1).safe.length = s1.safe.length := length_putAll _ _
  have q2 : (dkFlush s1).writes = s1.writes := rfl
  have q3 : (dkFlush s1).queue.length = 0 := rfl
  have wr2 : ∀ W, Disk K W p (dkFlush s1) → Upd (fun b => ¬ K b) w W → Calls Try.prog 69 #[rgV p j.fr j.n, .int .i64 (t : Int), .slice A2 128 (c - L)] W fun e w' => e = .returned (.int .i64 (((rgWrite (dkFlush s1) j.fr j.n t (l.drop L)).2 : Nat) : Int)) ∧ Disk K w' p (rgWrite (dkFlush s1) j.fr j.n t (l.drop L)).1 ∧ Upd (fun b => ¬ K b) W w' := fun W d u =>
    rg_any d j.fr j.n t A2 (l.drop L) 128 (c - L) l2 (by omega) (by omega) htn (by omega) (by omega) (octs_kept o2 u (fun _ a e => kA2 a e)) kA2 (by omega) (by omega) (fun b e => Nat.lt_of_lt_of_le (hKb b e) u.size)
  obtain ⟨_, _, _, i8⟩ := rg_inv (dkFlush s1) j.fr j.n t (l.drop L)
  generalize rgWrite (dkFlush s1) j.fr j.n t (l.drop L) = R3 at *
  obtain ⟨s3, e3⟩ := R3
  dsimp only at *
  have cells : ∀ W, Upd (fun b => ¬ K b) w W → JnAt W y p j := fun W u => u.heap hj (fun x => x ky)
  have f1 := fl s1
  have f3 := fl s3
  have hE1 := dkE_or s1
  obtain ⟨E3, hE3⟩ : ∃ E3, E3 = dkE s3 := ⟨_, rfl⟩
  rw [← hE3] at f3 ⊢
  obtain ⟨s4, hs4⟩ : ∃ s4, s4 = (if s3.calls = 0 then s3 else dkFlush s3) := ⟨_, rfl⟩
  rw [← hs4] at f3 ⊢
  obtain ⟨c0, c1, c2, c3, c4, c5, c6, c7, c8, hf⟩ := jn_cells hj
  clear fl hL hq1 hg ht hs4 hE3 q1 q2 q3 i1 i2 i3 hwr hq hfr hmn hf
  rcases i4 with rfl | rfl
  · rw [if_neg (by omega)]
    rcases hE1 with ⟨z1, z2⟩ | ⟨z1, z2⟩
    · rw [z1, if_neg z2] at f1
      rw [if_neg z2]
      rcases i8 with rfl | rfl
      · rw [if_neg (by omega)]
        go_enter Try.func58, Try.ntmps58
        go_wp2_with fail
        refine wp_region_held_drew (S := fun w' => Upd (fun b => ¬ K b) w w') (by kernel_rfl) ((Upd.refl _ _).drew) (fun hS => ?_)
        refine takeH (i := 0) (v := ?_) rfl rfl (by kernel_rfl) (by kernel_rfl) (by kernel_rfl) (fun _ _ _ h => h) (Or.inl ⟨by kernel_rfl, ?_⟩) hS ?_
        rotate_left 1
        · (intro w' hS'; go_simp; try (with_reducible rfl))
        simp only [List.setIfInBounds_toArray, List.set_cons_succ, List.set_cons_zero]
        refine takeH (i := 1) (v := ?_) rfl rfl (by kernel_rfl) (by kernel_rfl) (by kernel_rfl) (fun _ _ _ h => h) (Or.inl ⟨by kernel_rfl, ?_⟩) hS ?_
        rotate_left 1
        · (intro w' hS'; go_simp; try (with_reducible rfl))
        simp only [List.setIfInBounds_toArray, List.set_cons_succ, List.set_cons_zero]
        refine takeH (i := 2) (v := ?_) rfl rfl (by kernel_rfl) (by kernel_rfl) (by kernel_rfl) (fun _ _ _ h => h) (Or.inl ⟨by kernel_rfl, ?_⟩) hS ?_
        rotate_left 1
        · (intro w' hS'; go_simp; try (with_reducible rfl))
        simp only [List.setIfInBounds_toArray, List.set_cons_succ, List.set_cons_zero]
        refine takeH (i := 3) (v := ?_) rfl rfl (by kernel_rfl) (by kernel_rfl) (by kernel_rfl) (fun _ _ _ h => h) (Or.inl ⟨by kernel_rfl, ?_⟩) hS ?_
        rotate_left 1
        · (intro w' hS'; have c0 := hS'.cell c0 (fun x => x ky); have c1 := hS'.cell c1 (fun x => x ky); have c2 := hS'.cell c2 (fun x => x ky); go_simp; try (with_reducible rfl))
        simp only [List.setIfInBounds_toArray, List.set_cons_succ, List.set_cons_zero]
        refine takeH (i := 4) (v := ?_) rfl rfl (by kernel_rfl) (by kernel_rfl) (by kernel_rfl) (fun _ _ _ h => h) (Or.inl ⟨by kernel_rfl, ?_⟩) hS ?_
        rotate_left 1
        · (intro w' hS'; go_simp; try (with_reducible rfl))
        simp only [List.setIfInBounds_toArray, List.set_cons_succ, List.set_cons_zero]
        refine takeH (i := 5) (v := ?_) rfl rfl (by kernel_rfl) (by kernel_rfl) (by kernel_rfl) (fun _ _ _ h => h) (Or.inl ⟨by kernel_rfl, ?_⟩) hS ?_
        rotate_left 1
        · (intro w' hS'; go_simp; try (with_reducible rfl))
        simp only [List.setIfInBounds_toArray, List.set_cons_succ, List.set_cons_zero]
        refine takeH (i := 6) (v := ?_) rfl rfl (by kernel_rfl) (by kernel_rfl) (by kernel_rfl) (fun _ _ _ h => h) (Or.inl ⟨by kernel_rfl, ?_⟩) hS ?_
        rotate_left 1
        · (intro w' hS'; go_simp; try (with_reducible rfl))
        simp only [List.setIfInBounds_toArray, List.set_cons_succ, List.set_cons_zero]
        refine takeH (i := 7) (v := ?_) rfl rfl (by kernel_rfl) (by kernel_rfl) (by kernel_rfl) (fun _ _ _ h => h) (Or.inl ⟨by kernel_rfl, ?_⟩) hS ?_
        rotate_left 1
        · (intro w' hS'; have c4 := hS'.cell c4 (fun x => x ky); go_simp; try (with_reducible rfl))
        simp only [List.setIfInBounds_toArray, List.set_cons_succ, List.set_cons_zero]
        refine takeH (i := 8) (v := ?_) rfl rfl (by kernel_rfl) (by kernel_rfl) (by kernel_rfl) (fun _ _ _ h => h) (Or.inl ⟨by kernel_rfl, ?_⟩) hS ?_
        rotate_left 1
        · (intro w' hS'; go_simp; try (with_reducible rfl))
        simp only [List.setIfInBounds_toArray, List.set_cons_succ, List.set_cons_zero]
        refine takeH (i := 9) (v := ?_) rfl rfl (by kernel_rfl) (by kernel_rfl) (by kernel_rfl) (fun _ _ _ h => h) (Or.inl ⟨by kernel_rfl, ?_⟩) hS ?_
        rotate_left 1
        · (intro w' hS'; go_simp; try (with_reducible rfl))
        simp only [List.setIfInBounds_toArray, List.set_cons_succ, List.set_cons_zero]
        refine takeH (i := 10) (v := ?_) rfl rfl (by kernel_rfl) (by kernel_rfl) (by kernel_rfl) (fun _ _ _ h => h) (Or.inl ⟨by kernel_rfl, ?_⟩) hS ?_
        rotate_left 1
        · (intro w' hS'; have k1 := k1 w'; go_simp; try (with_reducible rfl))
        simp only [List.setIfInBounds_toArray, List.set_cons_succ, List.set_cons_zero]
        refine wpAnyH_ready (rs := [11]) (by kernel_rfl) (by simp) ?_
        refine AllReadyH.cons rfl (fun K hK => ?_) ?_
        rotate_left 1
        · exact AllReadyH.nil
        go_simp
        refine (wr _ h.drew ((Upd.refl _ _).drew)).mono ?_; clear wr; rintro e w6 ⟨rfl, h6, u6⟩
        refine hK.out _ _ (hS.trans u6) (fun hS => ?_)
        clear hK K
        refine takeH (i := 12) (v := ?_) rfl rfl (by kernel_rfl) (by kernel_rfl) (by kernel_rfl) (fun _ _ _ h => h) (Or.inl ⟨by kernel_rfl, ?_⟩) hS ?_
        rotate_left 1
        · (intro w' hS'; go_simp; try (with_reducible rfl))
        simp only [List.setIfInBounds_toArray, List.set_cons_succ, List.set_cons_zero]
        refine wpAnyH_done (by kernel_rfl) ?_ _
        obtain ⟨c0, c1, c2, c3, c4, c5, c6, c7, c8, hf⟩ := jn_cells (cells _ hS)
        go_wp2_with (go_at_call 18; refine (f1 _ h6).mono ?_; clear f1; rintro e w7 ⟨rfl, h7, u7⟩; have u07 := hS.trans u7; obtain ⟨c0, c1, c2, c3, c4, c5, c6, c7, c8, hf⟩ := jn_cells (cells _ u07))
        refine wp_region_held_drew (S := fun w' => Upd (fun b => ¬ K b) w7 w') (by kernel_rfl) ((Upd.refl _ _).drew) (fun hS => ?_)
        refine takeH (i := 0) (v := ?_) rfl rfl (by kernel_rfl) (by kernel_rfl) (by kernel_rfl) (fun _ _ _ h => h) (Or.inl ⟨by kernel_rfl, ?_⟩) hS ?_
        rotate_left 1
        · (intro w' hS'; go_simp; try (with_reducible rfl))
        simp only [List.setIfInBounds_toArray, List.set_cons_succ, List.set_cons_zero]
        refine takeH (i := 1) (v := ?_) rfl rfl (by kernel_rfl) (by kernel_rfl) (by kernel_rfl) (fun _ _ _ h => h) (Or.inl ⟨by kernel_rfl, ?_⟩) hS ?_
        rotate_left 1
        · (intro w' hS'; go_simp; try (with_reducible rfl))
        simp only [List.setIfInBounds_toArray, List.set_cons_succ, List.set_cons_zero]
        refine takeH (i := 2) (v := ?_) rfl rfl (by kernel_rfl) (by kernel_rfl) (by kernel_rfl) (fun _ _ _ h => h) (Or.inl ⟨by kernel_rfl, ?_⟩) hS ?_
        rotate_left 1
        · (intro w' hS'; go_simp; try (with_reducible rfl))
        simp only [List.setIfInBounds_toArray, List.set_cons_succ, List.set_cons_zero]
        refine takeH (i := 3) (v := ?_) rfl rfl (by kernel_rfl) (by kernel_rfl) (by kernel_rfl) (fun _ _ _ h => h) (Or.inl ⟨by kernel_rfl, ?_⟩) hS ?_
        rotate_left 1
        · (intro w' hS'; have c0 := hS'.cell c0 (fun x => x ky); have c1 := hS'.cell c1 (fun x => x ky); have c2 := hS'.cell c2 (fun x => x ky); go_simp; try (with_reducible rfl))
        simp only [List.setIfInBounds_toArray, List.set_cons_succ, List.set_cons_zero]
        refine takeH (i := 4) (v := ?_) rfl rfl (by kernel_rfl) (by kernel_rfl) (by kernel_rfl) (fun _ _ _ h => h) (Or.inl ⟨by kernel_rfl, ?_⟩) hS ?_
        rotate_left 1
        · (intro w' hS'; go_simp; try (with_reducible rfl))
        simp only [List.setIfInBounds_toArray, List.set_cons_succ, List.set_cons_zero]
        refine takeH (i := 5) (v := ?_) rfl rfl (by kernel_rfl) (by kernel_rfl) (by kernel_rfl) (fun _ _ _ h => h) (Or.inl ⟨by kernel_rfl, ?_⟩) hS ?_
        rotate_left 1
        · (intro w' hS'; go_simp; try (with_reducible rfl))
        simp only [List.setIfInBounds_toArray, List.set_cons_succ, List.set_cons_zero]
        refine takeH (i := 6) (v := ?_) rfl rfl (by kernel_rfl) (by kernel_rfl) (by kernel_rfl) (fun _ _ _ h => h) (Or.inl ⟨by kernel_rfl, ?_⟩) hS ?_
        rotate_left 1
        · (intro w' hS'; go_simp; try (with_reducible rfl))
        simp only [List.setIfInBounds_toArray, List.set_cons_succ, List.set_cons_zero]
        refine takeH (i := 7) (v := ?_) rfl rfl (by kernel_rfl) (by kernel_rfl) (by kernel_rfl) (fun _ _ _ h => h) (Or.inl ⟨by kernel_rfl, ?_⟩) hS ?_
        rotate_left 1
        · (intro w' hS'; have c4 := hS'.cell c4 (fun x => x ky); go_simp; try (with_reducible rfl))
        simp only [List.setIfInBounds_toArray, List.set_cons_succ, List.set_cons_zero]
        refine takeH (i := 8) (v := ?_) rfl rfl (by kernel_rfl) (by kernel_rfl) (by kernel_rfl) (fun _ _ _ h => h) (Or.inl ⟨by kernel_rfl, ?_⟩) hS ?_
        rotate_left 1
        · (intro w' hS'; go_simp; try (with_reducible rfl))
        simp only [List.setIfInBounds_toArray, List.set_cons_succ, List.set_cons_zero]
        refine takeH (i := 9) (v := ?_) rfl rfl (by kernel_rfl) (by kernel_rfl) (by kernel_rfl) (fun _ _ _ h => h) (Or.inl ⟨by kernel_rfl, ?_⟩) hS ?_
        rotate_left 1
        · (intro w' hS'; go_simp; try (with_reducible rfl))
        simp only [List.setIfInBounds_toArray, List.set_cons_succ, List.set_cons_zero]
        refine takeH (i := 10) (v := ?_) rfl rfl (by kernel_rfl) (by kernel_rfl) (by kernel_rfl) (fun _ _ _ h => h) (Or.inl ⟨by kernel_rfl, ?_⟩) hS ?_
        rotate_left 1
        · (intro w' hS'; go_simp; try (with_reducible rfl))
        simp only [List.setIfInBounds_toArray, List.set_cons_succ, List.set_cons_zero]
        refine takeH (i := 11) (v := ?_) rfl rfl (by kernel_rfl) (by kernel_rfl) (by kernel_rfl) (fun _ _ _ h => h) (Or.inl ⟨by kernel_rfl, ?_⟩) hS ?_
        rotate_left 1
        · (intro w' hS'; go_simp; try (with_reducible rfl))
        simp only [List.setIfInBounds_toArray, List.set_cons_succ, List.set_cons_zero]
        refine takeH (i := 12) (v := ?_) rfl rfl (by kernel_rfl) (by kernel_rfl) (by kernel_rfl) (fun _ _ _ h => h) (Or.inl ⟨by kernel_rfl, ?_⟩) hS ?_
        rotate_left 1
        · (intro w' hS'; go_simp; try (with_reducible rfl))
        simp only [List.setIfInBounds_toArray, List.set_cons_succ, List.set_cons_zero]
        refine takeH (i := 13) (v := ?_) rfl rfl (by kernel_rfl) (by kernel_rfl) (by kernel_rfl) (fun _ _ _ h => h) (Or.inl ⟨by kernel_rfl, ?_⟩) hS ?_
        rotate_left 1
        · (intro w' hS'; go_simp; try (with_reducible rfl))
        simp only [List.setIfInBounds_toArray, List.set_cons_succ, List.set_cons_zero]
        refine takeH (i := 14) (v := ?_) rfl rfl (by kernel_rfl) (by kernel_rfl) (by kernel_rfl) (fun _ _ _ h => h) (Or.inl ⟨by kernel_rfl, ?_⟩) hS ?_
        rotate_left 1
        · (intro w' hS'; go_simp; try (with_reducible rfl))
        simp only [List.setIfInBounds_toArray, List.set_cons_succ, List.set_cons_zero]
        refine takeH (i := 15) (v := ?_) rfl rfl (by kernel_rfl) (by kernel_rfl) (by kernel_rfl) (fun _ _ _ h => h) (Or.inl ⟨by kernel_rfl, ?_⟩) hS ?_
        rotate_left 1
        · (intro w' hS'; have c2 := hS'.cell c2 (fun x => x ky); go_simp; try (with_reducible rfl))
        simp only [List.setIfInBounds_toArray, List.set_cons_succ, List.set_cons_zero]
        refine takeH (i := 16) (v := ?_) rfl rfl (by kernel_rfl) (by kernel_rfl) (by kernel_rfl) (fun _ _ _ h => h) (Or.inl ⟨by kernel_rfl, ?_⟩) hS ?_
        rotate_left 1
        · (intro w' hS'; go_simp; try (with_reducible rfl))
        simp only [List.setIfInBounds_toArray, List.set_cons_succ, List.set_cons_zero]
        refine takeH (i := 17) (v := ?_) rfl rfl (by kernel_rfl) (by kernel_rfl) (by kernel_rfl) (fun _ _ _ h => h) (Or.inl ⟨by kernel_rfl, ?_⟩) hS ?_
        rotate_left 1
        · (intro w' hS'; go_simp; try (with_reducible rfl))
        simp only [List.setIfInBounds_toArray, List.set_cons_succ, List.set_cons_zero]
        refine takeH (i := 18) (v := ?_) rfl rfl (by kernel_rfl) (by kernel_rfl) (by kernel_rfl) (fun _ _ _ h => h) (Or.inl ⟨by kernel_rfl, ?_⟩) hS ?_
        rotate_left 1
        · (intro w' hS'; go_simp; try (with_reducible rfl))
        simp only [List.setIfInBounds_toArray, List.set_cons_succ, List.set_cons_zero]
        refine takeH (i := 19) (v := ?_) rfl rfl (by kernel_rfl) (by kernel_rfl) (by kernel_rfl) (fun _ _ _ h => h) (Or.inl ⟨by kernel_rfl, ?_⟩) hS ?_
        rotate_left 1
        · (intro w' hS'; have k2 := k2 w'; go_simp; try (with_reducible rfl))
        simp only [List.setIfInBounds_toArray, List.set_cons_succ, List.set_cons_zero]
        refine wpAnyH_ready (rs := [20]) (by kernel_rfl) (by simp) ?_
        refine AllReadyH.cons rfl (fun K hK => ?_) ?_
        rotate_left 1
        · exact AllReadyH.nil
        go_simp
        refine (wr2 _ h7.drew u07.drew).mono ?_; clear wr2; rintro e w8 ⟨rfl, h8, u8⟩
        refine hK.out _ _ (hS.trans u8) (fun hS => ?_)
        clear hK K
        refine takeH (i := 21) (v := ?_) rfl rfl (by kernel_rfl) (by kernel_rfl) (by kernel_rfl) (fun _ _ _ h => h) (Or.inl ⟨by kernel_rfl, ?_⟩) hS ?_
        rotate_left 1
        · (intro w' hS'; go_simp; try (with_reducible rfl))
        simp only [List.setIfInBounds_toArray, List.set_cons_succ, List.set_cons_zero]
        refine wpAnyH_done (by kernel_rfl) ?_ _
        have u08 := u07.trans hS
        obtain ⟨c0, c1, c2, c3, c4, c5, c6, c7, c8, hf⟩ := jn_cells (cells _ u08)
        go_wp2_with (go_at_call 18; refine (f3 _ h8).mono ?_; clear f3; rintro e w9 ⟨rfl, h9, u9⟩)
        go_ret
        exact ⟨rfl, h9, u08.trans u9⟩
      · rw [if_pos (by omega)]
        go_enter Try.func58, Try.ntmps58
        go_wp2_with fail
        refine wp_region_held_drew (S := fun w' => Upd (fun b => ¬ K b) w w') (by kernel_rfl) ((Upd.refl _ _).drew) (fun hS => ?_)
        refine takeH (i := 0) (v := ?_) rfl rfl (by kernel_rfl) (by kernel_rfl) (by kernel_rfl) (fun _ _ _ h => h) (Or.inl ⟨by kernel_rfl, ?_⟩) hS ?_
        rotate_left 1
        · (intro w' hS'; go_simp; try (with_reducible rfl))
        simp only [List.setIfInBounds_toArray, List.set_cons_succ, List.set_cons_zero]
        refine takeH (i := 1) (v := ?_) rfl rfl (by kernel_rfl) (by kernel_rfl) (by kernel_rfl) (fun _ _ _ h => h) (Or.inl ⟨by kernel_rfl, ?_⟩) hS ?_
        rotate_left 1
        · (intro w' hS'; go_simp; try (with_reducible rfl))
        simp only [List.setIfInBounds_toArray, List.set_cons_succ, List.set_cons_zero]
        refine takeH (i := 2) (v := ?_) rfl rfl (by kernel_rfl) (by kernel_rfl) (by kernel_rfl) (fun _ _ _ h => h) (Or.inl ⟨by kernel_rfl, ?_⟩) hS ?_
        rotate_left 1
        · (intro w' hS'; go_simp; try (with_reducible rfl))
        simp only [List.setIfInBounds_toArray, List.set_cons_succ, List.set_cons_zero]
        refine takeH (i := 3) (v := ?_) rfl rfl (by kernel_rfl) (by kernel_rfl) (by kernel_rfl) (fun _ _ _ h => h) (Or.inl ⟨by kernel_rfl, ?_⟩) hS ?_
        rotate_left 1
        · (intro w' hS'; have c0 := hS'.cell c0 (fun x => x ky); have c1 := hS'.cell c1 (fun x => x ky); have c2 := hS'.cell c2 (fun x => x ky); go_simp; try (with_reducible rfl))
        simp only [List.setIfInBounds_toArray, List.set_cons_succ, List.set_cons_zero]
        refine takeH (i := 4) (v := ?_) rfl rfl (by kernel_rfl) (by kernel_rfl) (by kernel_rfl) (fun _ _ _ h => h) (Or.inl ⟨by kernel_rfl, ?_⟩) hS ?_
        rotate_left 1
        · (intro w' hS'; go_simp; try (with_reducible rfl))
        simp only [List.setIfInBounds_toArray, List.set_cons_succ, List.set_cons_zero]
        refine takeH (i := 5) (v := ?_) rfl rfl (by kernel_rfl) (by kernel_rfl) (by kernel_rfl) (fun _ _ _ h => h) (Or.inl ⟨by kernel_rfl, ?_⟩) hS ?_
        rotate_left 1
        · (intro w' hS'; go_simp; try (with_reducible rfl))
        simp only [List.setIfInBounds_toArray, List.set_cons_succ, List.set_cons_zero]
        refine takeH (i := 6) (v := ?_) rfl rfl (by kernel_rfl) (by kernel_rfl) (by kernel_rfl) (fun _ _ _ h => h) (Or.inl ⟨by kernel_rfl, ?_⟩) hS ?_
        rotate_left 1
        · (intro w' hS'; go_simp; try (with_reducible rfl))
        simp only [List.setIfInBounds_toArray, List.set_cons_succ, List.set_cons_zero]
        refine takeH (i := 7) (v := ?_) rfl rfl (by kernel_rfl) (by kernel_rfl) (by kernel_rfl) (fun _ _ _ h => h) (Or.inl ⟨by kernel_rfl, ?_⟩) hS ?_
        rotate_left 1
        · (intro w' hS'; have c4 := hS'.cell c4 (fun x => x ky); go_simp; try (with_reducible rfl))
        simp only [List.setIfInBounds_toArray, List.set_cons_succ, List.set_cons_zero]
        refine takeH (i := 8) (v := ?_) rfl rfl (by kernel_rfl) (by kernel_rfl) (by kernel_rfl) (fun _ _ _ h => h) (Or.inl ⟨by kernel_rfl, ?_⟩) hS ?_
        rotate_left 1
        · (intro w' hS'; go_simp; try (with_reducible rfl))
        simp only [List.setIfInBounds_toArray, List.set_cons_succ, List.set_cons_zero]
        refine takeH (i := 9) (v := ?_) rfl rfl (by kernel_rfl) (by kernel_rfl) (by kernel_rfl) (fun _ _ _ h => h) (Or.inl ⟨by kernel_rfl, ?_⟩) hS ?_
        rotate_left 1
        · (intro w' hS'; go_simp; try (with_reducible rfl))
        simp only [List.setIfInBounds_toArray, List.set_cons_succ, List.set_cons_zero]
        refine takeH (i := 10) (v := ?_) rfl rfl (by kernel_rfl) (by kernel_rfl) (by kernel_rfl) (fun _ _ _ h => h) (Or.inl ⟨by kernel_rfl, ?_⟩) hS ?_
        rotate_left 1
        · (intro w' hS'; have k1 := k1 w'; go_simp; try (with_reducible rfl))
        simp only [List.setIfInBounds_toArray, List.set_cons_succ, List.set_cons_zero]
        refine wpAnyH_ready (rs := [11]) (by kernel_rfl) (by simp) ?_
        refine AllReadyH.cons rfl (fun K hK => ?_) ?_
        rotate_left 1
        · exact AllReadyH.nil
        go_simp
        refine (wr _ h.drew ((Upd.refl _ _).drew)).mono ?_; clear wr; rintro e w6 ⟨rfl, h6, u6⟩
        refine hK.out _ _ (hS.trans u6) (fun hS => ?_)
        clear hK K
        refine takeH (i := 12) (v := ?_) rfl rfl (by kernel_rfl) (by kernel_rfl) (by kernel_rfl) (fun _ _ _ h => h) (Or.inl ⟨by kernel_rfl, ?_⟩) hS ?_
        rotate_left 1
        · (intro w' hS'; go_simp; try (with_reducible rfl))
        simp only [List.setIfInBounds_toArray, List.set_cons_succ, List.set_cons_zero]
        refine wpAnyH_done (by kernel_rfl) ?_ _
        obtain ⟨c0, c1, c2, c3, c4, c5, c6, c7, c8, hf⟩ := jn_cells (cells _ hS)
        go_wp2_with (go_at_call 18; refine (f1 _ h6).mono ?_; clear f1; rintro e w7 ⟨rfl, h7, u7⟩; have u07 := hS.trans u7; obtain ⟨c0, c1, c2, c3, c4, c5, c6, c7, c8, hf⟩ := jn_cells (cells _ u07))
        refine wp_region_held_drew (S := fun w' => Upd (fun b => ¬ K b) w7 w') (by kernel_rfl) ((Upd.refl _ _).drew) (fun hS => ?_)
        refine takeH (i := 0) (v := ?_) rfl rfl (by kernel_rfl) (by kernel_rfl) (by kernel_rfl) (fun _ _ _ h => h) (Or.inl ⟨by kernel_rfl, ?_⟩) hS ?_
        rotate_left 1
        · (intro w' hS'; go_simp; try (with_reducible rfl))
        simp only [List.setIfInBounds_toArray, List.set_cons_succ, List.set_cons_zero]
        refine takeH (i := 1) (v := ?_) rfl rfl (by kernel_rfl) (by kernel_rfl) (by kernel_rfl) (fun _ _ _ h => h) (Or.inl ⟨by kernel_rfl, ?_⟩) hS ?_
        rotate_left 1
        · (intro w' hS'; go_simp; try (with_reducible rfl))
        simp only [List.setIfInBounds_toArray, List.set_cons_succ, List.set_cons_zero]
        refine takeH (i := 2) (v := ?_) rfl rfl (by kernel_rfl) (by kernel_rfl) (by kernel_rfl) (fun _ _ _ h => h) (Or.inl ⟨by kernel_rfl, ?_⟩) hS ?_
        rotate_left 1
        · (intro w' hS'; go_simp; try (with_reducible rfl))
        simp only [List.setIfInBounds_toArray, List.set_cons_succ, List.set_cons_zero]
        refine takeH (i := 3) (v := ?_) rfl rfl (by kernel_rfl) (by kernel_rfl) (by kernel_rfl) (fun _ _ _ h => h) (Or.inl ⟨by kernel_rfl, ?_⟩) hS ?_
        rotate_left 1
        · (intro w' hS'; have c0 := hS'.cell c0 (fun x => x ky); have c1 := hS'.cell c1 (fun x => x ky); have c2 := hS'.cell c2 (fun x => x ky); go_simp; try (with_reducible rfl))
        simp only [List.setIfInBounds_toArray, List.set_cons_succ, List.set_cons_zero]
        refine takeH (i := 4) (v := ?_) rfl rfl (by kernel_rfl) (by kernel_rfl) (by kernel_rfl) (fun _ _ _ h => h) (Or.inl ⟨by kernel_rfl, ?_⟩) hS ?_
        rotate_left 1
        · (intro w' hS'; go_simp; try (with_reducible rfl))
        simp only [List.setIfInBounds_toArray, List.set_cons_succ, List.set_cons_zero]
        refine takeH (i := 5) (v := ?_) rfl rfl (by kernel_rfl) (by kernel_rfl) (by kernel_rfl) (fun _ _ _ h => h) (Or.inl ⟨by kernel_rfl, ?_⟩) hS ?_
        rotate_left 1
        · (intro w' hS'; go_simp; try (with_reducible rfl))
        simp only [List.setIfInBounds_toArray, List.set_cons_succ, List.set_cons_zero]
        refine takeH (i := 6) (v := ?_) rfl rfl (by kernel_rfl) (by kernel_rfl) (by kernel_rfl) (fun _ _ _ h => h) (Or.inl ⟨by kernel_rfl, ?_⟩) hS ?_
        rotate_left 1
        · (intro w' hS'; go_simp; try (with_reducible rfl))
        simp only [List.setIfInBounds_toArray, List.set_cons_succ, List.set_cons_zero]
        refine takeH (i := 7) (v := ?_) rfl rfl (by kernel_rfl) (by kernel_rfl) (by kernel_rfl) (fun _ _ _ h => h) (Or.inl ⟨by kernel_rfl, ?_⟩) hS ?_
        rotate_left 1
        · (intro w' hS'; have c4 := hS'.cell c4 (fun x => x ky); go_simp; try (with_reducible rfl))
        simp only [List.setIfInBounds_toArray, List.set_cons_succ, List.set_cons_zero]
        refine takeH (i := 8) (v := ?_) rfl rfl (by kernel_rfl) (by kernel_rfl) (by kernel_rfl) (fun _ _ _ h => h) (Or.inl ⟨by kernel_rfl, ?_⟩) hS ?_
        rotate_left 1
        · (intro w' hS'; go_simp; try (with_reducible rfl))
        simp only [List.setIfInBounds_toArray, List.set_cons_succ, List.set_cons_zero]
        refine takeH (i := 9) (v := ?_) rfl rfl (by kernel_rfl) (by kernel_rfl) (by kernel_rfl) (fun _ _ _ h => h) (Or.inl ⟨by kernel_rfl, ?_⟩) hS ?_
        rotate_left 1
        · (intro w' hS'; go_simp; try (with_reducible rfl))
        simp only [List.setIfInBounds_toArray, List.set_cons_succ, List.set_cons_zero]
        refine takeH (i := 10) (v := ?_) rfl rfl (by kernel_rfl) (by kernel_rfl) (by kernel_rfl) (fun _ _ _ h => h) (Or.inl ⟨by kernel_rfl, ?_⟩) hS ?_
        rotate_left 1
        · (intro w' hS'; go_simp; try (with_reducible rfl))
        simp only [List.setIfInBounds_toArray, List.set_cons_succ, List.set_cons_zero]
        refine takeH (i := 11) (v := ?_) rfl rfl (by kernel_rfl) (by kernel_rfl) (by kernel_rfl) (fun _ _ _ h => h) (Or.inl ⟨by kernel_rfl, ?_⟩) hS ?_
        rotate_left 1
        · (intro w' hS'; go_simp; try (with_reducible rfl))
        simp only [List.setIfInBounds_toArray, List.set_cons_succ, List.set_cons_zero]
        refine takeH (i := 12) (v := ?_) rfl rfl (by kernel_rfl) (by kernel_rfl) (by kernel_rfl) (fun _ _ _ h => h) (Or.inl ⟨by kernel_rfl, ?_⟩) hS ?_
        rotate_left 1
        · (intro w' hS'; go_simp; try (with_reducible rfl))
        simp only [List.setIfInBounds_toArray, List.set_cons_succ, List.set_cons_zero]
        refine takeH (i := 13) (v := ?_) rfl rfl (by kernel_rfl) (by kernel_rfl) (by kernel_rfl) (fun _ _ _ h => h) (Or.inl ⟨by kernel_rfl, ?_⟩) hS ?_
        rotate_left 1
        · (intro w' hS'; go_simp; try (with_reducible rfl))
        simp only [List.setIfInBounds_toArray, List.set_cons_succ, List.set_cons_zero]
        refine takeH (i := 14) (v := ?_) rfl rfl (by kernel_rfl) (by kernel_rfl) (by kernel_rfl) (fun _ _ _ h => h) (Or.inl ⟨by kernel_rfl, ?_⟩) hS ?_
        rotate_left 1
        · (intro w' hS'; go_simp; try (with_reducible rfl))
        simp only [List.setIfInBounds_toArray, List.set_cons_succ, List.set_cons_zero]
        refine takeH (i := 15) (v := ?_) rfl rfl (by kernel_rfl) (by kernel_rfl) (by kernel_rfl) (fun _ _ _ h => h) (Or.inl ⟨by kernel_rfl, ?_⟩) hS ?_
        rotate_left 1
        · (intro w' hS'; have c2 := hS'.cell c2 (fun x => x ky); go_simp; try (with_reducible rfl))
        simp only [List.setIfInBounds_toArray, List.set_cons_succ, List.set_cons_zero]
        refine takeH (i := 16) (v := ?_) rfl rfl (by kernel_rfl) (by kernel_rfl) (by kernel_rfl) (fun _ _ _ h => h) (Or.inl ⟨by kernel_rfl, ?_⟩) hS ?_
        rotate_left 1
        · (intro w' hS'; go_simp; try (with_reducible rfl))
        simp only [List.setIfInBounds_toArray, List.set_cons_succ, List.set_cons_zero]
        refine takeH (i := 17) (v := ?_) rfl rfl (by kernel_rfl) (by kernel_rfl) (by kernel_rfl) (fun _ _ _ h => h) (Or.inl ⟨by kernel_rfl, ?_⟩) hS ?_
        rotate_left 1
        · (intro w' hS'; go_simp; try (with_reducible rfl))
        simp only [List.setIfInBounds_toArray, List.set_cons_succ, List.set_cons_zero]
        refine takeH (i := 18) (v := ?_) rfl rfl (by kernel_rfl) (by kernel_rfl) (by kernel_rfl) (fun _ _ _ h => h) (Or.inl ⟨by kernel_rfl, ?_⟩) hS ?_
        rotate_left 1
        · (intro w' hS'; go_simp; try (with_reducible rfl))
        simp only [List.setIfInBounds_toArray, List.set_cons_succ, List.set_cons_zero]
        refine takeH (i := 19) (v := ?_) rfl rfl (by kernel_rfl) (by kernel_rfl) (by kernel_rfl) (fun _ _ _ h => h) (Or.inl ⟨by kernel_rfl, ?_⟩) hS ?_
        rotate_left 1
        · (intro w' hS'; have k2 := k2 w'; go_simp; try (with_reducible rfl))
        simp only [List.setIfInBounds_toArray, List.set_cons_succ, List.set_cons_zero]
        refine wpAnyH_ready (rs := [20]) (by kernel_rfl) (by simp) ?_
        refine AllReadyH.cons rfl (fun K hK => ?_) ?_
        rotate_left 1
        · exact AllReadyH.nil
        go_simp
        refine (wr2 _ h7.drew u07.drew).mono ?_; clear wr2; rintro e w8 ⟨rfl, h8, u8⟩
        refine hK.out _ _ (hS.trans u8) (fun hS => ?_)
        clear hK K
        refine takeH (i := 21) (v := ?_) rfl rfl (by kernel_rfl) (by kernel_rfl) (by kernel_rfl) (fun _ _ _ h => h) (Or.inl ⟨by kernel_rfl, ?_⟩) hS ?_
        rotate_left 1
        · (intro w' hS'; go_simp; try (with_reducible rfl))
        simp only [List.setIfInBounds_toArray, List.set_cons_succ, List.set_cons_zero]
        refine wpAnyH_done (by kernel_rfl) ?_ _
        go_wp2_with fail
        go_ret
        exact ⟨rfl, h8, u07.trans hS⟩
    · rw [z1, if_pos z2] at f1
      rw [if_pos z2]
      go_enter Try.func58, Try.ntmps58
      go_wp2_with fail
      refine wp_region_held_drew (S := fun w' => Upd (fun b => ¬ K b) w w') (by kernel_rfl) ((Upd.refl _ _).drew) (fun hS => ?_)
      refine takeH (i := 0) (v := ?_) rfl rfl (by kernel_rfl) (by kernel_rfl) (by kernel_rfl) (fun _ _ _ h => h) (Or.inl ⟨by kernel_rfl, ?_⟩) hS ?_
      rotate_left 1
      · (intro w' hS'; go_simp; try (with_reducible rfl))
      simp only [List.setIfInBounds_toArray, List.set_cons_succ, List.set_cons_zero]
      refine takeH (i := 1) (v := ?_) rfl rfl (by kernel_rfl) (by kernel_rfl) (by kernel_rfl) (fun _ _ _ h => h) (Or.inl ⟨by kernel_rfl, ?_⟩) hS ?_
      rotate_left 1
      · (intro w' hS'; go_simp; try (with_reducible rfl))
      simp only [List.setIfInBounds_toArray, List.set_cons_succ, List.set_cons_zero]
      refine takeH (i := 2) (v := ?_) rfl rfl (by kernel_rfl) (by kernel_rfl) (by kernel_rfl) (fun _ _ _ h => h) (Or.inl ⟨by kernel_rfl, ?_⟩) hS ?_
      rotate_left 1
      · (intro w' hS'; go_simp; try (with_reducible rfl))
      simp only [List.setIfInBounds_toArray, List.set_cons_succ, List.set_cons_zero]
      refine takeH (i := 3) (v := ?_) rfl rfl (by kernel_rfl) (by kernel_rfl) (by kernel_rfl) (fun _ _ _ h => h) (Or.inl ⟨by kernel_rfl, ?_⟩) hS ?_
      rotate_left 1
      · (intro w' hS'; have c0 := hS'.cell c0 (fun x => x ky); have c1 := hS'.cell c1 (fun x => x ky); have c2 := hS'.cell c2 (fun x => x ky); go_simp; try (with_reducible rfl))
      simp only [List.setIfInBounds_toArray, List.set_cons_succ, List.set_cons_zero]
      refine takeH (i := 4) (v := ?_) rfl rfl (by kernel_rfl) (by kernel_rfl) (by kernel_rfl) (fun _ _ _ h => h) (Or.inl ⟨by kernel_rfl, ?_⟩) hS ?_
      rotate_left 1
      · (intro w' hS'; go_simp; try (with_reducible rfl))
      simp only [List.setIfInBounds_toArray, List.set_cons_succ, List.set_cons_zero]
      refine takeH (i := 5) (v := ?_) rfl rfl (by kernel_rfl) (by kernel_rfl) (by kernel_rfl) (fun _ _ _ h => h) (Or.inl ⟨by kernel_rfl, ?_⟩) hS ?_
      rotate_left 1
      · (intro w' hS'; go_simp; try (with_reducible rfl))
      simp only [List.setIfInBounds_toArray, List.set_cons_succ, List.set_cons_zero]
      refine takeH (i := 6) (v := ?_) rfl rfl (by kernel_rfl) (by kernel_rfl) (by kernel_rfl) (fun _ _ _ h => h) (Or.inl ⟨by kernel_rfl, ?_⟩) hS ?_
      rotate_left 1
      · (intro w' hS'; go_simp; try (with_reducible rfl))
      simp only [List.setIfInBounds_toArray, List.set_cons_succ, List.set_cons_zero]
      refine takeH (i := 7) (v := ?_) rfl rfl (by kernel_rfl) (by kernel_rfl) (by kernel_rfl) (fun _ _ _ h => h) (Or.inl ⟨by kernel_rfl, ?_⟩) hS ?_
      rotate_left 1
      · (intro w' hS'; have c4 := hS'.cell c4 (fun x => x ky); go_simp; try (with_reducible rfl))
      simp only [List.setIfInBounds_toArray, List.set_cons_succ, List.set_cons_zero]
      refine takeH (i := 8) (v := ?_) rfl rfl (by kernel_rfl) (by kernel_rfl) (by kernel_rfl) (fun _ _ _ h => h) (Or.inl ⟨by kernel_rfl, ?_⟩) hS ?_
      rotate_left 1
      · (intro w' hS'; go_simp; try (with_reducible rfl))
      simp only [List.setIfInBounds_toArray, List.set_cons_succ, List.set_cons_zero]
      refine takeH (i := 9) (v := ?_) rfl rfl (by kernel_rfl) (by kernel_rfl) (by kernel_rfl) (fun _ _ _ h => h) (Or.inl ⟨by kernel_rfl, ?_⟩) hS ?_
      rotate_left 1
      · (intro w' hS'; go_simp; try (with_reducible rfl))
      simp only [List.setIfInBounds_toArray, List.set_cons_succ, List.set_cons_zero]
      refine takeH (i := 10) (v := ?_) rfl rfl (by kernel_rfl) (by kernel_rfl) (by kernel_rfl) (fun _ _ _ h => h) (Or.inl ⟨by kernel_rfl, ?_⟩) hS ?_
      rotate_left 1
      · (intro w' hS'; have k1 := k1 w'; go_simp; try (with_reducible rfl))
      simp only [List.setIfInBounds_toArray, List.set_cons_succ, List.set_cons_zero]
      refine wpAnyH_ready (rs := [11]) (by kernel_rfl) (by simp) ?_
      refine AllReadyH.cons rfl (fun K hK => ?_) ?_
      rotate_left 1
      · exact AllReadyH.nil
      go_simp
      refine (wr _ h.drew ((Upd.refl _ _).drew)).mono ?_; clear wr; rintro e w6 ⟨rfl, h6, u6⟩
      refine hK.out _ _ (hS.trans u6) (fun hS => ?_)
      clear hK K
      refine takeH (i := 12) (v := ?_) rfl rfl (by kernel_rfl) (by kernel_rfl) (by kernel_rfl) (fun _ _ _ h => h) (Or.inl ⟨by kernel_rfl, ?_⟩) hS ?_
      rotate_left 1
      · (intro w' hS'; go_simp; try (with_reducible rfl))
      simp only [List.setIfInBounds_toArray, List.set_cons_succ, List.set_cons_zero]
      refine wpAnyH_done (by kernel_rfl) ?_ _
      obtain ⟨c0, c1, c2, c3, c4, c5, c6, c7, c8, hf⟩ := jn_cells (cells _ hS)
      go_wp2_with (go_at_call 18; refine (f1 _ h6).mono ?_; clear f1; rintro e w7 ⟨rfl, h7, u7⟩)
      go_ret
      exact ⟨rfl, h7, hS.trans u7⟩
  · rw [if_pos (by omega)]
    go_enter Try.func58, Try.ntmps58
    go_wp2_with fail
    refine wp_region_held_drew (S := fun w' => Upd (fun b => ¬ K b) w w') (by kernel_rfl) ((Upd.refl _ _).drew) (fun hS => ?_)
    refine takeH (i := 0) (v := ?_) rfl rfl (by kernel_rfl) (by kernel_rfl) (by kernel_rfl) (fun _ _ _ h => h) (Or.inl ⟨by kernel_rfl, ?_⟩) hS ?_
    rotate_left 1
    · (intro w' hS'; go_simp; try (with_reducible rfl))
    simp only [List.setIfInBounds_toArray, List.set_cons_succ, List.set_cons_zero]
    refine takeH (i := 1) (v := ?_) rfl rfl (by kernel_rfl) (by kernel_rfl) (by kernel_rfl) (fun _ _ _ h => h) (Or.inl ⟨by kernel_rfl, ?_⟩) hS ?_
    rotate_left 1
    · (intro w' hS'; go_simp; try (with_reducible rfl))
    simp only [List.setIfInBounds_toArray, List.set_cons_succ, List.set_cons_zero]
    refine takeH (i := 2) (v := ?_) rfl rfl (by kernel_rfl) (by kernel_rfl) (by kernel_rfl) (fun _ _ _ h => h) (Or.inl ⟨by kernel_rfl, ?_⟩) hS ?_
    rotate_left 1
    · (intro w' hS'; go_simp; try (with_reducible rfl))
    simp only [List.setIfInBounds_toArray, List.set_cons_succ, List.set_cons_zero]
    refine takeH (i := 3) (v := ?_) rfl rfl (by kernel_rfl) (by kernel_rfl) (by kernel_rfl) (fun _ _ _ h => h) (Or.inl ⟨by kernel_rfl, ?_⟩) hS ?_
    rotate_left 1
    · (intro w' hS'; have c0 := hS'.cell c0 (fun x => x ky); have c1 := hS'.cell c1 (fun x => x ky); have c2 := hS'.cell c2 (fun x => x ky); go_simp; try (with_reducible rfl))
    simp only [List.setIfInBounds_toArray, List.set_cons_succ, List.set_cons_zero]
    refine takeH (i := 4) (v := ?_) rfl rfl (by kernel_rfl) (by kernel_rfl) (by kernel_rfl) (fun _ _ _ h => h) (Or.inl ⟨by kernel_rfl, ?_⟩) hS ?_
    rotate_left 1
    · (intro w' hS'; go_simp; try (with_reducible rfl))
    simp only [List.setIfInBounds_toArray, List.set_cons_succ, List.set_cons_zero]
    refine takeH (i := 5) (v := ?_) rfl rfl (by kernel_rfl) (by kernel_rfl) (by kernel_rfl) (fun _ _ _ h => h) (Or.inl ⟨by kernel_rfl, ?_⟩) hS ?_
    rotate_left 1
    · (intro w' hS'; go_simp; try (with_reducible rfl))
    simp only [List.setIfInBounds_toArray, List.set_cons_succ, List.set_cons_zero]
    refine takeH (i := 6) (v := ?_) rfl rfl (by kernel_rfl) (by kernel_rfl) (by kernel_rfl) (fun _ _ _ h => h) (Or.inl ⟨by kernel_rfl, ?_⟩) hS ?_
    rotate_left 1
    · (intro w' hS'; go_simp; try (with_reducible rfl))
    simp only [List.setIfInBounds_toArray, List.set_cons_succ, List.set_cons_zero]
    refine takeH (i := 7) (v := ?_) rfl rfl (by kernel_rfl) (by kernel_rfl) (by kernel_rfl) (fun _ _ _ h => h) (Or.inl ⟨by kernel_rfl, ?_⟩) hS ?_
    rotate_left 1
    · (intro w' hS'; have c4 := hS'.cell c4 (fun x => x ky); go_simp; try (with_reducible rfl))
    simp only [List.setIfInBounds_toArray, List.set_cons_succ, List.set_cons_zero]
    refine takeH (i := 8) (v := ?_) rfl rfl (by kernel_rfl) (by kernel_rfl) (by kernel_rfl) (fun _ _ _ h => h) (Or.inl ⟨by kernel_rfl, ?_⟩) hS ?_
    rotate_left 1
    · (intro w' hS'; go_simp; try (with_reducible rfl))
    simp only [List.setIfInBounds_toArray, List.set_cons_succ, List.set_cons_zero]
    refine takeH (i := 9) (v := ?_) rfl rfl (by kernel_rfl) (by kernel_rfl) (by kernel_rfl) (fun _ _ _ h => h) (Or.inl ⟨by kernel_rfl, ?_⟩) hS ?_
    rotate_left 1
    · (intro w' hS'; go_simp; try (with_reducible rfl))
    simp only [List.setIfInBounds_toArray, List.set_cons_succ, List.set_cons_zero]
    refine takeH (i := 10) (v := ?_) rfl rfl (by kernel_rfl) (by kernel_rfl) (by kernel_rfl) (fun _ _ _ h => h) (Or.inl ⟨by kernel_rfl, ?_⟩) hS ?_
    rotate_left 1
    · (intro w' hS'; have k1 := k1 w'; go_simp; try (with_reducible rfl))
    simp only [List.setIfInBounds_toArray, List.set_cons_succ, List.set_cons_zero]
    refine wpAnyH_ready (rs := [11]) (by kernel_rfl) (by simp) ?_
    refine AllReadyH.cons rfl (fun K hK => ?_) ?_
    rotate_left 1
    · exact AllReadyH.nil
    go_simp
    refine (wr _ h.drew ((Upd.refl _ _).drew)).mono ?_; clear wr; rintro e w6 ⟨rfl, h6, u6⟩
    refine hK.out _ _ (hS.trans u6) (fun hS => ?_)
    clear hK K
    refine takeH (i := 12) (v := ?_) rfl rfl (by kernel_rfl) (by kernel_rfl) (by kernel_rfl) (fun _ _ _ h => h) (Or.inl ⟨by kernel_rfl, ?_⟩) hS ?_
    rotate_left 1
    · (intro w' hS'; go_simp; try (with_reducible rfl))
    simp only [List.setIfInBounds_toArray, List.set_cons_succ, List.set_cons_zero]
    refine wpAnyH_done (by kernel_rfl) ?_ _
    obtain ⟨c0, c1, c2, c3, c4, c5, c6, c7, c8, hf⟩ := jn_cells (cells _ hS)
    go_wp2_with fail
    go_ret
    exact ⟨rfl, h6, hS⟩
end Go.Proofs.Ytgpnmmgoachajaa
/- The journal's Append. -/
namespace Go.Proofs.Ytgpnmmgoachajaa
open Go.RowKit Go.Shelf
open Go.Proofs

theorem disk_upd {K F : Nat → Prop} {w w' : World} {p : Nat} {s : Dk} (h : Disk K w p s) (u : Upd F w w') (k : ∀ b, F b → K b) : Disk K w' p s := by
  obtain ⟨S, M, qv, hd, hk⟩ := h
  obtain ⟨l1, l2, l3, l4⟩ := hd.lt
  have n (b : Nat) (hb : dkB p S M qv b) : ¬ F b := fun e => hk b hb (k b e)
  exact ⟨S, M, qv, hd.keep (u.block _ l1 (n _ (.inl rfl))) (u.block _ l2 (n _ (.inr (.inl rfl)))) (u.block _ l3 (n _ (.inr (.inr (.inl rfl))))) (fun g e => u.block g (l4 g e) (n _ (.inr (.inr (.inr e))))), hk⟩

/-- What Append does. -/
def jAppend (s : Dk) (j : Jn) (l : List UInt8) : Dk × Jn × Nat :=
  if j.dead = true then (s, j, 10) else if j.dirty = true then (s, j, 19) else if secs (l.length : Int) = 0 then (s, j, 2) else if ((j.n - j.used : Nat) : Int) < secs (l.length : Int) then (s, j, 11)
  else if (jApp s j.fr j.n j.place (cutOf (j.epoch : Int) (j.count : Int) l)).2 ≠ 0 then ((jApp s j.fr j.n j.place (cutOf (j.epoch : Int) (j.count : Int) l)).1, { j with dead := true }, (jApp s j.fr j.n j.place (cutOf (j.epoch : Int) (j.count : Int) l)).2)
  else ((jApp s j.fr j.n j.place (cutOf (j.epoch : Int) (j.count : Int) l)).1, jStep j (nsec l + 1), 0)
section
variable {K : Nat → Prop} {w : World} {p y : Nat} {s : Dk} {j : Jn}

set_option maxRecDepth 100000 in
set_option maxHeartbeats 4000000 in
theorem jappend_any (h : Disk K w p s) (hj : JnAt w y p j) (ky : K y) (A : Option Addr) (l : List UInt8) (m c : Nat) (hl : l.length = m) (hm : m ≤ 65000) (hn : 1 ≤ j.n ∧ j.n ≤ 4096) (hu : j.used ≤ j.n) (hpl : j.place < j.n) (hfr : j.fr + j.n ≤ s.safe.length) (hc : m ≤ c) (hx : Octs w A l) (hid : idRight (j.epoch : Int) (j.count : Int))
    (hwr : 0 ≤ s.writes ∧ s.writes ≤ 4293000000) (hq : s.queue.length ≤ 2146000000) (hKb : ∀ b, K b → b < w.heap.size) :
    Calls Try.prog 38 #[.pointer (some ⟨y, 0, none⟩), .slice A m c] w fun e w' => e = .returned (.int .i64 (((jAppend s j l).2.2 : Nat) : Int)) ∧ Disk K w' p (jAppend s j l).1 ∧ JnAt w' y p (jAppend s j l).2.1 ∧ Upd (fun b => ¬ K b ∨ b = y) w w' := by
  have hsec := fun W => sec_any (m : Int) W (by omega) (by omega)
  have hfit := jfits_any hj hu hn.2 (m : Int) (by omega) (by omega)
  have same : ∀ W, Ext w W → Disk K W p s ∧ JnAt W y p j ∧ Upd (fun b => ¬ K b ∨ b = y) w W := fun W x => ⟨h.ext x, x.heap hj, Upd.of_ext _ x⟩
  obtain ⟨c0, c1, c2, c3, c4, c5, c6, c7, c8, hf⟩ := jn_cells hj
  unfold jAppend
  rw [hl]
  by_cases hd : j.dead = true
  · rw [if_pos hd]
    rw [hd] at c7
    clear hid hwr hq hsec hfit
    go_enter Try.func38, Try.ntmps38
    go_wp2_with fail
    go_ret
    exact ⟨rfl, same _ (Ext.refl _)⟩
  rw [if_neg hd]
  have hd : j.dead = false := by cases e : j.dead; rfl; exact absurd e hd
  rw [hd] at c7
  by_cases hdy : j.dirty = true
  · rw [if_pos hdy]
    rw [hdy] at c8
    clear hid hwr hq hsec hfit
    go_enter Try.func38, Try.ntmps38
    go_wp2_with fail
    go_ret
    exact ⟨rfl, same _ (Ext.refl _)⟩
  rw [if_neg hdy]
  have hdy : j.dirty = false := by cases e : j.dirty; rfl; exact absurd e hdy
  rw [hdy] at c8
  by_cases hs0 : secs (m : Int) = 0
  · rw [if_pos hs0]
    rw [hs0] at hsec
    clear hid hwr hq hfit
    go_enter Try.func38, Try.ntmps38
    go_wp2_with (go_at_call 56; refine (hsec _).mono ?_; clear hsec; rintro e w1 ⟨rfl, rfl⟩)
    go_ret
    exact ⟨rfl, same _ (Ext.refl _)⟩
  rw [if_neg hs0]
  have sr := secs_range (m : Int)
  have sp : 0 < secs (m : Int) := by omega
  have m1 : 1 ≤ m := by
    unfold secs at hs0
    by_cases z : (m : Int) < 1
    · rw [if_pos (.inl z)] at hs0; exact absurd rfl hs0
    · omega
  have hsn : secs (m : Int) = ((nsec l + 1 : Nat) : Int) := by rw [← hl]; exact secs_nsec l (by omega) (by omega)
  obtain ⟨S, hS⟩ : ∃ S, S = secs (m : Int) := ⟨_, rfl⟩
  have S0 : (S == 0) = false := by rw [beq_eq_false_iff_ne]; omega
  by_cases hbig : ((j.n - j.used : Nat) : Int) < secs (m : Int)
  · rw [if_pos hbig]
    have hfit : Calls Try.prog 36 #[.pointer (some ⟨y, 0, none⟩), .int .i64 (m : Int)] w fun e w' => e = .returned (.bool false) ∧ Ext w w' := by
      rw [show jFits j (m : Int) = false by unfold jFits; rw [decide_eq_false (p := secs (m : Int) ≤ _) (by omega), Bool.and_false]] at hfit
      exact hfit
    rw [← hS] at hsec
    clear hid hwr hq hS hsn hbig sr sp hs0
    go_enter Try.func38, Try.ntmps38
    go_wp2_with first
      | (go_at_call 56; refine (hsec _).mono ?_; clear hsec; rintro e w1 ⟨rfl, rfl⟩)
      | (go_at_call 36; refine hfit.mono ?_; clear hfit; rintro e w2 ⟨rfl, x2⟩)
    go_ret
    exact ⟨rfl, same _ x2⟩
  rw [if_neg hbig]
  have hfit : Calls Try.prog 36 #[.pointer (some ⟨y, 0, none⟩), .int .i64 (m : Int)] w fun e w' => e = .returned (.bool true) ∧ Ext w w' := by
    rw [show jFits j (m : Int) = true by unfold jFits; rw [decide_eq_true (p := 0 < secs (m : Int)) sp, decide_eq_true (p := secs (m : Int) ≤ _) (by omega), Bool.and_true]] at hfit
    exact hfit
  have hk := nsec_le l (by omega)
  obtain ⟨B, hB⟩ : ∃ B, B = cutOf (j.epoch : Int) (j.count : Int) l := ⟨_, rfl⟩
  have hBl : B.length = 128 * (nsec l + 1) := by rw [hB]; exact length_cutOf hid l (by omega)
  obtain ⟨q, hq2⟩ : ∃ q, q = nsec l + 1 := ⟨_, rfl⟩
  obtain ⟨M, hM⟩ : ∃ M, M = 128 * q := ⟨_, rfl⟩
  rw [← hq2, ← hM] at hBl
  rw [← hq2] at hsn
  have q2 : 2 ≤ q := by
    rw [hq2]; unfold nsec; omega
  have d1 : (M : Int).tdiv 128 = (q : Int) := by rw [Int.tdiv_eq_ediv_of_nonneg (by omega)]; omega
  have d2 : (M : Int) / 128 = (q : Int) := by omega
  have w1 : IntKind.i64.wrap (q : Int) = (q : Int) := IntWalk.i64_in _ (by omega)
  have hcut : ∀ W, Ext w W → Calls Try.prog 57 #[.int .i64 (j.epoch : Int), .int .i64 (j.count : Int), .slice A m c] W fun x w' => ∃ A2 c2, x = .returned (.tuple #[.slice A2 M c2, .int .i64 0]) ∧ M ≤ c2 ∧ Octs w' A2 B ∧ (∀ a, A2 = some a → W.heap.size ≤ a.block ∧ a.block < w'.heap.size) ∧ Ext W w' := fun W x =>
    (f31_right (j.epoch : Int) (j.count : Int) A l m c W hid hl m1 hm hc (hx.ext x)).mono (by
      rintro e w' ⟨v, rfl, o, x2⟩
      rw [← hB] at o
      obtain ⟨A2, c2, rfl, h2, h3⟩ := o.octs_form
      rw [hBl] at h2 ⊢
      exact ⟨A2, c2, rfl, h2, h3, fun a e => o.block a.block (by rw [e]; rfl), x2⟩)
  rw [← hB, ← hq2]
  have japp : ∀ W W', Ext w W → Ext W W' → ∀ A2 c2, M ≤ c2 → Octs W' A2 B → (∀ a, A2 = some a → W.heap.size ≤ a.block ∧ a.block < W'.heap.size) →
      Calls Try.prog 58 #[.pointer (some ⟨y, 0, none⟩), .slice A2 M c2] W' fun e w' => e = .returned (.int .i64 (((jApp s j.fr j.n j.place B).2 : Nat) : Int)) ∧ Disk K w' p (jApp s j.fr j.n j.place B).1 ∧ JnAt w' y p j ∧ Upd (fun b => ¬ K b) w w' := fun W W' x1 x2 A2 c2 hc2 ho hb => by
    have hK2 : ∀ b, K b ∨ (W.heap.size ≤ b ∧ b < W'.heap.size) → b < W'.heap.size := fun b e => by
      rcases e with e | e
      · exact Nat.lt_of_lt_of_le (hKb b e) (x1.trans x2).size
      · exact e.2
    refine (japp_any ((h.ext x1).grow x2) ((x1.trans x2).heap hj) (.inl ky) A2 B M c2 hBl (by omega) (by omega) (by omega) hpl hn.2 hfr hc2 ho (fun a e => .inr (hb a e)) hwr hq hK2).mono ?_
    rintro e w' ⟨rfl, h3, u3⟩
    have hj' : JnAt w' y p j := u3.heap ((x1.trans x2).heap hj) (fun x => x (Or.inl ky))
    exact ⟨rfl, h3.less (fun b => Or.inl), hj', (Upd.of_ext _ (x1.trans x2)).trans (u3.mono (fun b _ e x => e (Or.inl x)))⟩
  have hjs : ∀ W, JnAt W y p j → Calls Try.prog 59 #[.pointer (some ⟨y, 0, none⟩), .int .i64 (q : Int)] W fun e w' => e = .returned (.tuple #[]) ∧ JnAt w' y p (jStep j q) ∧ Upd (fun b => b = y) W w' := fun W hj => jstep_any hj q (by omega) hn (by omega) (by have := hid.2.2.2; omega) (by omega)
  rw [← hS] at hsec
  generalize hR : jApp s j.fr j.n j.place B = R at *
  obtain ⟨s2, e2⟩ := R
  dsimp only at *
  by_cases he : e2 = 0
  · subst he
    rw [if_neg (by omega)]
    clear hid hwr hq hS hsn hbig sr sp hs0 hk hB hq2 hM hBl hR hm hfr hn hu hpl
    go_enter Try.func38, Try.ntmps38
    go_wp2_with first
      | (go_at_call 56; refine (hsec _).mono ?_; clear hsec; rintro e w1 ⟨rfl, rfl⟩)
      | (go_at_call 36; refine hfit.mono ?_; clear hfit; rintro e w2 ⟨rfl, x2⟩; have c3 := x2.cell c3; have c5 := x2.cell c5)
    refine wp_region_held_drew (S := fun w' => Ext w2.drew w') (by kernel_rfl) (Ext.refl _) (fun hS => ?_)
    refine takeH (i := 0) (v := ?_) rfl rfl (by kernel_rfl) (by kernel_rfl) (by kernel_rfl) (fun _ _ _ h => h) (Or.inl ⟨by kernel_rfl, ?_⟩) hS ?_
    rotate_left 1
    · (intro w' hS'; go_simp; try (with_reducible rfl))
    simp only [List.setIfInBounds_toArray, List.set_cons_succ, List.set_cons_zero]
    refine takeH (i := 1) (v := ?_) rfl rfl (by kernel_rfl) (by kernel_rfl) (by kernel_rfl) (fun _ _ _ h => h) (Or.inl ⟨by kernel_rfl, ?_⟩) hS ?_
    rotate_left 1
    · (intro w' hS'; go_simp; try (with_reducible rfl))
    simp only [List.setIfInBounds_toArray, List.set_cons_succ, List.set_cons_zero]
    refine takeH (i := 2) (v := ?_) rfl rfl (by kernel_rfl) (by kernel_rfl) (by kernel_rfl) (fun _ _ _ h => h) (Or.inl ⟨by kernel_rfl, ?_⟩) hS ?_
    rotate_left 1
    · (intro w' hS'; go_simp; try (with_reducible rfl))
    simp only [List.setIfInBounds_toArray, List.set_cons_succ, List.set_cons_zero]
    refine takeH (i := 3) (v := ?_) rfl rfl (by kernel_rfl) (by kernel_rfl) (by kernel_rfl) (fun _ _ _ h => h) (Or.inl ⟨by kernel_rfl, ?_⟩) hS ?_
    rotate_left 1
    · (intro w' hS'; have c3 := hS'.cell c3; go_simp; try (with_reducible rfl))
    simp only [List.setIfInBounds_toArray, List.set_cons_succ, List.set_cons_zero]
    refine takeH (i := 4) (v := ?_) rfl rfl (by kernel_rfl) (by kernel_rfl) (by kernel_rfl) (fun _ _ _ h => h) (Or.inl ⟨by kernel_rfl, ?_⟩) hS ?_
    rotate_left 1
    · (intro w' hS'; go_simp; try (with_reducible rfl))
    simp only [List.setIfInBounds_toArray, List.set_cons_succ, List.set_cons_zero]
    refine takeH (i := 5) (v := ?_) rfl rfl (by kernel_rfl) (by kernel_rfl) (by kernel_rfl) (fun _ _ _ h => h) (Or.inl ⟨by kernel_rfl, ?_⟩) hS ?_
    rotate_left 1
    · (intro w' hS'; go_simp; try (with_reducible rfl))
    simp only [List.setIfInBounds_toArray, List.set_cons_succ, List.set_cons_zero]
    refine takeH (i := 6) (v := ?_) rfl rfl (by kernel_rfl) (by kernel_rfl) (by kernel_rfl) (fun _ _ _ h => h) (Or.inl ⟨by kernel_rfl, ?_⟩) hS ?_
    rotate_left 1
    · (intro w' hS'; go_simp; try (with_reducible rfl))
    simp only [List.setIfInBounds_toArray, List.set_cons_succ, List.set_cons_zero]
    refine takeH (i := 7) (v := ?_) rfl rfl (by kernel_rfl) (by kernel_rfl) (by kernel_rfl) (fun _ _ _ h => h) (Or.inl ⟨by kernel_rfl, ?_⟩) hS ?_
    rotate_left 1
    · (intro w' hS'; have c5 := hS'.cell c5; go_simp; try (with_reducible rfl))
    simp only [List.setIfInBounds_toArray, List.set_cons_succ, List.set_cons_zero]
    refine takeH (i := 8) (v := ?_) rfl rfl (by kernel_rfl) (by kernel_rfl) (by kernel_rfl) (fun _ _ _ h => h) (Or.inl ⟨by kernel_rfl, ?_⟩) hS ?_
    rotate_left 1
    · (intro w' hS'; go_simp; try (with_reducible rfl))
    simp only [List.setIfInBounds_toArray, List.set_cons_succ, List.set_cons_zero]
    refine wpAnyH_ready (rs := [9]) (by kernel_rfl) (by simp) ?_
    refine AllReadyH.cons rfl (fun K hK => ?_) ?_
    rotate_left 1
    · exact AllReadyH.nil
    go_simp
    refine (hcut _ (x2.drew)).mono ?_; clear hcut; rintro e w3 ⟨A2, c2', rfl, hc2, o2, b2, x3⟩
    refine hK.out _ _ (x3) (fun hS => ?_)
    clear hK K
    refine takeH (i := 10) (v := ?_) rfl rfl (by kernel_rfl) (by kernel_rfl) (by kernel_rfl) (fun _ _ _ h => h) (Or.inl ⟨by kernel_rfl, ?_⟩) hS ?_
    rotate_left 1
    · (intro w' hS'; go_simp; try (with_reducible rfl))
    simp only [List.setIfInBounds_toArray, List.set_cons_succ, List.set_cons_zero]
    refine takeH (i := 11) (v := ?_) rfl rfl (by kernel_rfl) (by kernel_rfl) (by kernel_rfl) (fun _ _ _ h => h) (Or.inl ⟨by kernel_rfl, ?_⟩) hS ?_
    rotate_left 1
    · (intro w' hS'; go_simp; try (with_reducible rfl))
    simp only [List.setIfInBounds_toArray, List.set_cons_succ, List.set_cons_zero]
    refine takeH (i := 12) (v := ?_) rfl rfl (by kernel_rfl) (by kernel_rfl) (by kernel_rfl) (fun _ _ _ h => h) (Or.inl ⟨by kernel_rfl, ?_⟩) hS ?_
    rotate_left 1
    · (intro w' hS'; go_simp; try (with_reducible rfl))
    simp only [List.setIfInBounds_toArray, List.set_cons_succ, List.set_cons_zero]
    refine takeH (i := 13) (v := ?_) rfl rfl (by kernel_rfl) (by kernel_rfl) (by kernel_rfl) (fun _ _ _ h => h) (Or.inl ⟨by kernel_rfl, ?_⟩) hS ?_
    rotate_left 1
    · (intro w' hS'; go_simp; try (with_reducible rfl))
    simp only [List.setIfInBounds_toArray, List.set_cons_succ, List.set_cons_zero]
    refine takeH (i := 14) (v := ?_) rfl rfl (by kernel_rfl) (by kernel_rfl) (by kernel_rfl) (fun _ _ _ h => h) (Or.inl ⟨by kernel_rfl, ?_⟩) hS ?_
    rotate_left 1
    · (intro w' hS'; go_simp; try (with_reducible rfl))
    simp only [List.setIfInBounds_toArray, List.set_cons_succ, List.set_cons_zero]
    refine wpAnyH_done (by kernel_rfl) ?_ _
    have japp := japp w2.drew _ x2.drew hS A2 c2' hc2 o2 b2
    go_wp2_with first
      | (go_at_call 58; refine japp.mono ?_; clear japp; rintro e w4 ⟨rfl, h4, j4, u4⟩)
      | (go_at_call 59; refine (hjs _ j4).mono ?_; clear hjs; rintro e w5 ⟨rfl, j5, u5⟩)
    go_ret
    exact ⟨rfl, disk_upd h4 u5 (fun b e => by rw [e]; exact ky), j5, (u4.mono (fun b _ e => Or.inl e)).trans (u5.mono (fun b _ e => Or.inr e))⟩
  · rw [if_pos he]
    have ne : ((e2 : Int) != 0) = true := by rw [bne_iff_ne]; omega
    have ne3 : ((e2 : Int) == 0) = false := by rw [beq_eq_false_iff_ne]; omega
    have ne2 : (e2 = 0) = False := eq_false he
    clear hid hwr hq hS hsn hbig sr sp hs0 hk hB hq2 hM hBl hR hm hfr hn hu hpl
    go_enter Try.func38, Try.ntmps38
    go_wp2_with first
      | (go_at_call 56; refine (hsec _).mono ?_; clear hsec; rintro e w1 ⟨rfl, rfl⟩)
      | (go_at_call 36; refine hfit.mono ?_; clear hfit; rintro e w2 ⟨rfl, x2⟩; have c3 := x2.cell c3; have c5 := x2.cell c5)
    refine wp_region_held_drew (S := fun w' => Ext w2.drew w') (by kernel_rfl) (Ext.refl _) (fun hS => ?_)
    refine takeH (i := 0) (v := ?_) rfl rfl (by kernel_rfl) (by kernel_rfl) (by kernel_rfl) (fun _ _ _ h => h) (Or.inl ⟨by kernel_rfl, ?_⟩) hS ?_
    rotate_left 1
    · (intro w' hS'; go_simp; try (with_reducible rfl))
    simp only [List.setIfInBounds_toArray, List.set_cons_succ, List.set_cons_zero]
    refine takeH (i := 1) (v := ?_) rfl rfl (by kernel_rfl) (by kernel_rfl) (by kernel_rfl) (fun _ _ _ h => h) (Or.inl ⟨by kernel_rfl, ?_⟩) hS ?_
    rotate_left 1
    · (intro w' hS'; go_simp; try (with_reducible rfl))
    simp only [List.setIfInBounds_toArray, List.set_cons_succ, List.set_cons_zero]
    refine takeH (i := 2) (v := ?_) rfl rfl (by kernel_rfl) (by kernel_rfl) (by kernel_rfl) (fun _ _ _ h => h) (Or.inl ⟨by kernel_rfl, ?_⟩) hS ?_
    rotate_left 1
    · (intro w' hS'; go_simp; try (with_reducible rfl))
    simp only [List.setIfInBounds_toArray, List.set_cons_succ, List.set_cons_zero]
    refine takeH (i := 3) (v := ?_) rfl rfl (by kernel_rfl) (by kernel_rfl) (by kernel_rfl) (fun _ _ _ h => h) (Or.inl ⟨by kernel_rfl, ?_⟩) hS ?_
    rotate_left 1
    · (intro w' hS'; have c3 := hS'.cell c3; go_simp; try (with_reducible rfl))
    simp only [List.setIfInBounds_toArray, List.set_cons_succ, List.set_cons_zero]
    refine takeH (i := 4) (v := ?_) rfl rfl (by kernel_rfl) (by kernel_rfl) (by kernel_rfl) (fun _ _ _ h => h) (Or.inl ⟨by kernel_rfl, ?_⟩) hS ?_
    rotate_left 1
    · (intro w' hS'; go_simp; try (with_reducible rfl))
    simp only [List.setIfInBounds_toArray, List.set_cons_succ, List.set_cons_zero]
    refine takeH (i := 5) (v := ?_) rfl rfl (by kernel_rfl) (by kernel_rfl) (by kernel_rfl) (fun _ _ _ h => h) (Or.inl ⟨by kernel_rfl, ?_⟩) hS ?_
    rotate_left 1
    · (intro w' hS'; go_simp; try (with_reducible rfl))
    simp only [List.setIfInBounds_toArray, List.set_cons_succ, List.set_cons_zero]
    refine takeH (i := 6) (v := ?_) rfl rfl (by kernel_rfl) (by kernel_rfl) (by kernel_rfl) (fun _ _ _ h => h) (Or.inl ⟨by kernel_rfl, ?_⟩) hS ?_
    rotate_left 1
    · (intro w' hS'; go_simp; try (with_reducible rfl))
    simp only [List.setIfInBounds_toArray, List.set_cons_succ, List.set_cons_zero]
    refine takeH (i := 7) (v := ?_) rfl rfl (by kernel_rfl) (by kernel_rfl) (by kernel_rfl) (fun _ _ _ h => h) (Or.inl ⟨by kernel_rfl, ?_⟩) hS ?_
    rotate_left 1
    · (intro w' hS'; have c5 := hS'.cell c5; go_simp; try (with_reducible rfl))
    simp only [List.setIfInBounds_toArray, List.set_cons_succ, List.set_cons_zero]
    refine takeH (i := 8) (v := ?_) rfl rfl (by kernel_rfl) (by kernel_rfl) (by kernel_rfl) (fun _ _ _ h => h) (Or.inl ⟨by kernel_rfl, ?_⟩) hS ?_
    rotate_left 1
    · (intro w' hS'; go_simp; try (with_reducible rfl))
    simp only [List.setIfInBounds_toArray, List.set_cons_succ, List.set_cons_zero]
    refine wpAnyH_ready (rs := [9]) (by kernel_rfl) (by simp) ?_
    refine AllReadyH.cons rfl (fun K hK => ?_) ?_
    rotate_left 1
    · exact AllReadyH.nil
    go_simp
    refine (hcut _ (x2.drew)).mono ?_; clear hcut; rintro e w3 ⟨A2, c2', rfl, hc2, o2, b2, x3⟩
    refine hK.out _ _ (x3) (fun hS => ?_)
    clear hK K
    refine takeH (i := 10) (v := ?_) rfl rfl (by kernel_rfl) (by kernel_rfl) (by kernel_rfl) (fun _ _ _ h => h) (Or.inl ⟨by kernel_rfl, ?_⟩) hS ?_
    rotate_left 1
    · (intro w' hS'; go_simp; try (with_reducible rfl))
    simp only [List.setIfInBounds_toArray, List.set_cons_succ, List.set_cons_zero]
    refine takeH (i := 11) (v := ?_) rfl rfl (by kernel_rfl) (by kernel_rfl) (by kernel_rfl) (fun _ _ _ h => h) (Or.inl ⟨by kernel_rfl, ?_⟩) hS ?_
    rotate_left 1
    · (intro w' hS'; go_simp; try (with_reducible rfl))
    simp only [List.setIfInBounds_toArray, List.set_cons_succ, List.set_cons_zero]
    refine takeH (i := 12) (v := ?_) rfl rfl (by kernel_rfl) (by kernel_rfl) (by kernel_rfl) (fun _ _ _ h => h) (Or.inl ⟨by kernel_rfl, ?_⟩) hS ?_
    rotate_left 1
    · (intro w' hS'; go_simp; try (with_reducible rfl))
    simp only [List.setIfInBounds_toArray, List.set_cons_succ, List.set_cons_zero]
    refine takeH (i := 13) (v := ?_) rfl rfl (by kernel_rfl) (by kernel_rfl) (by kernel_rfl) (fun _ _ _ h => h) (Or.inl ⟨by kernel_rfl, ?_⟩) hS ?_
    rotate_left 1
    · (intro w' hS'; go_simp; try (with_reducible rfl))
    simp only [List.setIfInBounds_toArray, List.set_cons_succ, List.set_cons_zero]
    refine takeH (i := 14) (v := ?_) rfl rfl (by kernel_rfl) (by kernel_rfl) (by kernel_rfl) (fun _ _ _ h => h) (Or.inl ⟨by kernel_rfl, ?_⟩) hS ?_
    rotate_left 1
    · (intro w' hS'; go_simp; try (with_reducible rfl))
    simp only [List.setIfInBounds_toArray, List.set_cons_succ, List.set_cons_zero]
    refine wpAnyH_done (by kernel_rfl) ?_ _
    have japp := japp w2.drew _ x2.drew hS A2 c2' hc2 o2 b2
    go_wp2_with (go_at_call 58; refine japp.mono ?_; clear japp; rintro e w4 ⟨rfl, h4, j4, u4⟩; have f7 := (jn_cells j4).2.2.2.2.2.2.2.2.2 7; have c7' := (jn_cells j4).2.2.2.2.2.2.2.1; have j5 := jn_set j4 7 (.bool true) { j with dead := true } rfl)
    go_ret
    have u5 : Upd (fun b => b = y) w4 (w4.setCell ⟨y, 7, none⟩ (.bool true)) := (Upd.refl (fun b => b = y) w4).setCell (p := ⟨y, 7, none⟩) (.inl rfl) _
    exact ⟨rfl, disk_upd h4 u5 (fun b e => by rw [e]; exact ky), j5, (u4.mono (fun b _ e => Or.inl e)).trans (u5.mono (fun b _ e => Or.inr e))⟩
end
end Go.Proofs.Ytgpnmmgoachajaa
/- Appends while the power stays on, in plain Lean; the example of layer 7. -/
namespace Go.Proofs.Ytgpnmmgoachajaa
open Go.RowKit Go.Shelf
open Go.Proofs

theorem callTo_on (c : Int) (h : c = -1) : callTo c = -1 := by rw [h]; rfl
theorem flush_on (s : Dk) (h : s.calls = -1) : (dkFlush s).calls = -1 := callTo_on _ h
theorem rg_on (s : Dk) (h : s.calls = -1) (fr n pl : Nat) (l : List UInt8) : (rgWrite s fr n pl l).2 = 0 ∧ (rgWrite s fr n pl l).1.calls = -1 := by
  have h0 : s.calls ≠ 0 := by rw [h]; decide
  have e0 : ∀ t : Dk, t.calls = -1 → dkE t = 0 := fun t ht => by unfold dkE; rw [if_neg (by rw [ht]; decide)]
  have c1 : ∀ (t : Dk) a l, t.calls = -1 → (dkWrite t a l).calls = -1 := fun t a l ht => callTo_on _ ht
  unfold rgWrite
  split
  · exact ⟨e0 s h, c1 s _ _ h⟩
  · have h1 := c1 s (fr + pl) (l.take ((n - pl) * 128)) h
    rw [if_neg (by rw [h1]; decide)]
    exact ⟨e0 _ h1, c1 _ _ _ h1⟩
/-- With the power on all of it is written. -/
theorem japp_on (s : Dk) (h : s.calls = -1) (fr n pl : Nat) (l : List UInt8) : jApp s fr n pl l = (dkFlush (rgWrite (dkFlush (rgWrite s fr n pl (l.take (l.length - 128))).1) fr n ((pl + (l.length - 128) / 128) % n) (l.drop (l.length - 128))).1, 0) := by
  obtain ⟨a1, a2⟩ := rg_on s h fr n pl (l.take (l.length - 128))
  obtain ⟨b1, b2⟩ := rg_on (dkFlush (rgWrite s fr n pl (l.take (l.length - 128))).1) (flush_on _ a2) fr n ((pl + (l.length - 128) / 128) % n) (l.drop (l.length - 128))
  unfold jApp
  rw [if_neg (by rw [a1]; decide), if_neg (by rw [a2]; decide), if_neg (by rw [b1]; decide), if_neg (by rw [b2]; decide)]
  unfold dkE
  rw [if_neg (by rw [b2]; decide)]
/-- A journal whose power is on. -/
structure JGood (s : Dk) (j : Jn) (size fr k t : Nat) : Prop where
  safe : s.safe.length = size
  calls : s.calls = -1
  queue : s.queue.length = 0
  writes : 0 ≤ s.writes ∧ s.writes ≤ ((t * 200000 : Nat) : Int)
  fr : j.fr = fr
  n : j.n = k
  epoch : 1 ≤ j.epoch
  count : j.count ≤ t
  used : j.used ≤ k
  place : j.place < k
  dead : j.dead = false
  dirty : j.dirty = false
section
variable {s : Dk} {j : Jn} {size fr k t : Nat}
theorem JGood.appends (h : JGood s j size fr k t) (l : List UInt8) (hl : 1 ≤ l.length) (hl2 : l.length ≤ 65000) (hf : secs (l.length : Int) ≤ ((j.n - j.used : Nat) : Int)) :
    jAppend s j l = ((jApp s j.fr j.n j.place (cutOf (j.epoch : Int) (j.count : Int) l)).1, jStep j (nsec l + 1), 0) := by
  have hs := secs_nsec l hl hl2
  unfold jAppend
  rw [h.dead, if_neg (by decide), h.dirty, if_neg (by decide), if_neg (by omega), if_neg (by omega), japp_on s h.calls, if_neg (fun e => e rfl)]
theorem JGood.next (h : JGood s j size fr k t) (ht : t ≤ 1000) (he : j.epoch ≤ 2147483648) (l : List UInt8) (hl : 1 ≤ l.length) (hl2 : l.length ≤ 65000) (hf : secs (l.length : Int) ≤ ((j.n - j.used : Nat) : Int)) :
    JGood (jApp s j.fr j.n j.place (cutOf (j.epoch : Int) (j.count : Int) l)).1 (jStep j (nsec l + 1)) size fr k (t + 1) := by
  have hs := secs_nsec l hl hl2
  have hk := nsec_le l hl2
  have hc := h.count
  have hid : idRight (j.epoch : Int) (j.count : Int) := ⟨by have := h.epoch; omega, by omega, by omega, by omega⟩
  have hL := length_cutOf hid l (by omega)
  obtain ⟨B, hB⟩ : ∃ B, B = cutOf (j.epoch : Int) (j.count : Int) l := ⟨_, rfl⟩
  rw [← hB] at hL ⊢
  rw [japp_on s h.calls]
  obtain ⟨a1, a2⟩ := rg_on s h.calls j.fr j.n j.place (B.take (B.length - 128))
  obtain ⟨i1, i2, i3, i4⟩ := rg_inv s j.fr j.n j.place (B.take (B.length - 128))
  rw [List.length_take] at i2 i3
  generalize rgWrite s j.fr j.n j.place (B.take (B.length - 128)) = R1 at *
  obtain ⟨b1, b2⟩ := rg_on (dkFlush R1.1) (flush_on _ a2) j.fr j.n ((j.place + (B.length - 128) / 128) % j.n) (B.drop (B.length - 128))
  obtain ⟨k1, k2, k3, k4⟩ := rg_inv (dkFlush R1.1) j.fr j.n ((j.place + (B.length - 128) / 128) % j.n) (B.drop (B.length - 128))
  rw [List.length_drop] at k2 k3
  generalize rgWrite (dkFlush R1.1) j.fr j.n ((j.place + (B.length - 128) / 128) % j.n) (B.drop (B.length - 128)) = R2 at *
  have q1 : (dkFlush R1.1).safe.length = R1.1.safe.length := length_putAll _ _
  have q2 : (dkFlush R1.1).writes = R1.1.writes := rfl
  have q3 : (dkFlush R2.1).safe.length = R2.1.safe.length := length_putAll _ _
  have q4 : (dkFlush R2.1).writes = R2.1.writes := rfl
  have hw := h.writes
  have hs1 := h.safe
  have hn := h.n
  have hu := h.used
  have hp := h.place
  have q5 : (dkFlush R2.1).queue.length = 0 := rfl
  have hbb : ∀ x : Nat, x + 1 ≤ t + 1 ↔ x ≤ t := fun x => Nat.add_le_add_iff_right
  have q6 := flush_on _ b2
  show JGood (dkFlush R2.1) _ _ _ _ _
  generalize dkFlush R2.1 = s9 at *
  refine ⟨by omega, q6, q5, ?_, h.fr, hn, h.epoch, (hbb _).2 hc, (by have : (jStep j (nsec l + 1)).used = j.used + (nsec l + 1) := rfl; omega), by show (j.place + (nsec l + 1)) % j.n < k; rw [hn]; exact Nat.mod_lt _ (by omega), h.dead, h.dirty⟩
  have : ((t + 1) * 200000 : Nat) = t * 200000 + 200000 := by omega
  omega
theorem JGood.more (h : JGood s j size fr k t) {t' : Nat} (ht : t ≤ t') : JGood s j size fr k t' := by
  obtain ⟨h1, h2, h3, h4, h5, h6, h7, h8, h9, h10, h11, h12⟩ := h
  refine ⟨h1, h2, h3, ⟨h4.1, ?_⟩, h5, h6, h7, Nat.le_trans h8 ht, h9, h10, h11, h12⟩
  have := Nat.mul_le_mul_right 200000 ht
  omega
theorem jgood_new (size fr k e st : Nat) (he : 1 ≤ e) (hs : st < k) : JGood (dkNew size) (jNew fr k e st) size fr k 0 :=
  ⟨List.length_replicate, rfl, rfl, ⟨Int.le_refl _, Int.le_refl _⟩, rfl, rfl, he, Nat.le_refl _, Nat.zero_le _, hs, rfl, rfl⟩
end
/-- One Append of a good journal, as a call. -/
theorem good_append {K : Nat → Prop} {w : World} {p y : Nat} {s : Dk} {j : Jn} {size fr k t : Nat} (g : JGood s j size fr k t) (ht : t ≤ 1000) (he : j.epoch ≤ 2147483648) (hk : 1 ≤ k ∧ k ≤ 4096) (hsz : fr + k ≤ size) (h : Disk K w p s) (hj : JnAt w y p j) (ky : K y) (A : Option Addr) (l : List UInt8) (m c : Nat) (hl : l.length = m) (hm : m ≤ 65000) (hc : m ≤ c) (hx : Octs w A l) (hKb : ∀ b, K b → b < w.heap.size) :
    Calls Try.prog 38 #[.pointer (some ⟨y, 0, none⟩), .slice A m c] w fun e w' => e = .returned (.int .i64 (((jAppend s j l).2.2 : Nat) : Int)) ∧ Disk K w' p (jAppend s j l).1 ∧ JnAt w' y p (jAppend s j l).2.1 ∧ Upd (fun b => ¬ K b ∨ b = y) w w' := by
  have h1 := g.n
  have h2 := g.fr
  have h3 := g.used
  have h4 := g.place
  have h5 := g.safe
  have h6 := g.writes
  have h7 := g.queue
  have h8 := g.count
  have h9 := g.epoch
  exact jappend_any h hj ky A l m c hl hm (by omega) (by omega) (by omega) (by omega) hc hx ⟨by omega, by omega, by omega, by omega⟩ (by omega) (by omega) hKb
/-- What is too much, and nothing at all. -/
theorem JGood.space {s : Dk} {j : Jn} {size fr k t : Nat} (h : JGood s j size fr k t) (l : List UInt8) (hl : secs (l.length : Int) ≠ 0) (hf : ((j.n - j.used : Nat) : Int) < secs (l.length : Int)) : jAppend s j l = (s, j, 11) := by
  unfold jAppend
  rw [h.dead, if_neg (by decide), h.dirty, if_neg (by decide), if_neg hl, if_pos hf]
theorem JGood.none {s : Dk} {j : Jn} {size fr k t : Nat} (h : JGood s j size fr k t) (l : List UInt8) (hl : secs (l.length : Int) = 0) : jAppend s j l = (s, j, 2) := by
  unfold jAppend
  rw [h.dead, if_neg (by decide), h.dirty, if_neg (by decide), if_pos hl]
end Go.Proofs.Ytgpnmmgoachajaa
/- The program's head is a harness cut at its roots: the three facts on the head that every row of this seat asks, without reading the whole list of roots. -/
namespace Go.Proofs.Ytgpnmmgoachajaa
open Go

theorem wordsSigns_any : ∀ r : List Char, ∃ w ws, wordsSigns r = w :: ws
  | [] => ⟨[], [], rfl⟩
  | c :: r => by
    obtain ⟨w, ws, h⟩ := wordsSigns_any r
    by_cases hc : c = Char.ofNat 32
    · subst hc
      exact ⟨_, _, rfl⟩
    · refine ⟨c :: w, ws, ?_⟩
      rw [wordsSigns, h]
      exact hc

theorem wordsSigns_cons (c : Char) (hc : c ≠ Char.ofNat 32) (r w : List Char) (ws : List (List Char)) (h : wordsSigns r = w :: ws) : wordsSigns (c :: r) = (c :: w) :: ws := by
  rw [wordsSigns, h]
  exact hc

theorem wordsSigns_word (r : List Char) : ∀ w : List Char, (∀ c ∈ w, c ≠ Char.ofNat 32) → wordsSigns (w ++ Char.ofNat 32 :: r) = w :: wordsSigns r
  | [], _ => rfl
  | c :: w, h => wordsSigns_cons c (h c (.head _)) _ _ _ (wordsSigns_word r w fun x hx => h x (.tail _ hx))

def spaceless (w : List Char) : Bool := w.all fun c => c != Char.ofNat 32

theorem spaceless_iff {w : List Char} (h : spaceless w = true) : ∀ c ∈ w, c ≠ Char.ofNat 32 := by
  intro c hc
  unfold spaceless at h
  rw [List.all_eq_true] at h
  simpa using h c hc

/-- Three words at the head, cut out by their places. -/
theorem wordsSigns_three (l : List Char) (a b c : Nat) (h1 : spaceless (l.take a) = true) (h2 : spaceless ((l.drop (a + 1)).take b) = true) (h3 : spaceless ((l.drop (a + 1 + b + 1)).take c) = true)
    (s1 : l[a]? = some (Char.ofNat 32)) (s2 : l[a + 1 + b]? = some (Char.ofNat 32)) (s3 : l[a + 1 + b + 1 + c]? = some (Char.ofNat 32)) :
    wordsSigns l = l.take a :: (l.drop (a + 1)).take b :: (l.drop (a + 1 + b + 1)).take c :: wordsSigns (l.drop (a + 1 + b + 1 + c + 1)) := by
  have cut : ∀ (m : List Char) (k : Nat), m[k]? = some (Char.ofNat 32) → m = m.take k ++ Char.ofNat 32 :: m.drop (k + 1) := by
    intro m k hk
    obtain ⟨hlt, hv⟩ := List.getElem?_eq_some_iff.1 hk
    conv => lhs; rw [← List.take_append_drop k m, List.drop_eq_getElem_cons hlt, hv]
  have e1 := cut l a s1
  have e2 := cut (l.drop (a + 1)) b (by rw [List.getElem?_drop]; exact s2)
  have e3 := cut (l.drop (a + 1 + b + 1)) c (by rw [List.getElem?_drop]; exact s3)
  rw [List.drop_drop] at e2 e3
  conv => lhs; rw [e1]
  rw [wordsSigns_word _ _ (spaceless_iff h1)]
  congr 1
  conv => lhs; rw [e2]
  rw [wordsSigns_word _ _ (spaceless_iff h2)]
  congr 1
  have q : a + 1 + b + 1 = a + 1 + (b + 1) := by omega
  rw [← q]
  conv => lhs; rw [e3]
  rw [wordsSigns_word _ _ (spaceless_iff h3)]
  rfl

section
variable {P : Program} {s : List Char} {rest : List (List Char)} (hw : wordsSigns P.initOrder.toList = "harness".toList :: s :: "cut".toList :: rest) (hs : isSumSigns s = true)
include hw hs
theorem behind_of : behindMainWord (wordsSigns P.initOrder.toList) = "cut".toList :: rest := by
  rw [hw]
  unfold behindMainWord
  simp only [hs]
  rfl
theorem make_of : P.make = some .cut := by
  unfold Program.make
  rw [behind_of hw hs]
  rfl
omit hw hs in
theorem strip_of : stripLifts liftWords ("cut".toList :: rest) = ([], "cut".toList :: rest) := rfl
theorem headLifts_of : P.headLifts = [] := by
  unfold Program.headLifts
  rw [behind_of hw hs]
  rfl
theorem liftsFinal_of : P.liftsFinal = false := by
  unfold Program.liftsFinal
  rw [headLifts_of hw hs, behind_of hw hs]
  rfl
theorem mayEnter_of (h1 : P.laysLater = false) (h2 : P.bearsReflect = false) (h3 : P.doorFits [] = true) : P.mayEnter = true := by
  unfold Program.mayEnter
  rw [behind_of hw hs]
  simp only [strip_of, h1, h2, h3]
  rfl
end

/-- The first words of a list of signs are those of a harness that is cut. -/
def cutHead (l : List Char) : Bool :=
  (l.take 7 == "harness".toList) && spaceless (l.take 7) && spaceless ((l.drop 8).take 64) && isSumSigns ((l.drop 8).take 64) && ((l.drop 73).take 3 == "cut".toList) && spaceless ((l.drop 73).take 3) &&
  (l[7]? == some (Char.ofNat 32)) && (l[72]? == some (Char.ofNat 32)) && (l[76]? == some (Char.ofNat 32))

theorem words_of_cutHead {l : List Char} (h : cutHead l = true) : ∃ s rest, isSumSigns s = true ∧ wordsSigns l = "harness".toList :: s :: "cut".toList :: rest := by
  unfold cutHead at h
  simp only [Bool.and_eq_true, beq_iff_eq] at h
  obtain ⟨⟨⟨⟨⟨⟨⟨⟨a1, a2⟩, a3⟩, a4⟩, a5⟩, a6⟩, a7⟩, a8⟩, a9⟩ := h
  refine ⟨(l.drop 8).take 64, wordsSigns (l.drop 77), a4, ?_⟩
  have := wordsSigns_three l 7 64 3 a2 a3 a6 a7 a8 a9
  rw [this, a1]
  congr 3

theorem toList_of {s : String} {l : List Char} (h : s = String.ofList l) : s.toList = l := by rw [h, String.toList_ofList]

set_option maxRecDepth 100000 in
theorem head_list : ∃ l, Try.prog.initOrder = String.ofList l ∧ cutHead l = true := ⟨_, rfl, by kernel_rfl⟩
theorem head_words : ∃ s rest, isSumSigns s = true ∧ wordsSigns Try.prog.initOrder.toList = "harness".toList :: s :: "cut".toList :: rest := by
  obtain ⟨l, hl, hc⟩ := head_list
  rw [toList_of hl]
  exact words_of_cutHead hc
theorem laysLater_f : Try.prog.laysLater = false := by kernel_rfl
theorem bearsReflect_f : Try.prog.bearsReflect = false := by kernel_rfl
theorem doorFits_t : Try.prog.doorFits [] = true := by kernel_rfl
theorem mayEnter_t : Try.prog.mayEnter = true := by
  obtain ⟨s, rest, hs, hw⟩ := head_words
  exact mayEnter_of hw hs laysLater_f bearsReflect_f doorFits_t
theorem liftsFinal_f : Try.prog.liftsFinal = false := by
  obtain ⟨s, rest, hs, hw⟩ := head_words
  exact liftsFinal_of hw hs
theorem make_cut : Try.prog.make = some .cut := by
  obtain ⟨s, rest, hs, hw⟩ := head_words
  exact make_of hw hs

theorem laidOut : laidOutB Try.prog = true := by kernel_rfl
theorem own : ownKnob Try.prog.godebug = none := by kernel_rfl
theorem mapsRowed_t : mapsRowed Try.prog = true := by kernel_rfl
theorem stops_nil : Try.prog.stops = [] := by kernel_rfl
theorem stopKnobs_nil : Try.prog.stopKnobs = [] := by kernel_rfl
theorem stopsHeard_t : Try.prog.stopsHeard = true := by kernel_rfl

/-- What a row's cells say of the functions on its road. -/
def roadFacts (P : Program) (f : FuncId) (c : OpenClaim) : Bool :=
  (c.inPlace == P.inPlace f) && (c.unfollowed == P.unfollowed f) && (c.recurses == P.recurses f) && (c.named == P.varsNamed f)

/-- What else a row's cells say. -/
def cellFacts (P : Program) (fn : Func) (s : ChangeSpec) (c : OpenClaim) : Bool :=
  c.wf (OpenSpec.ofChange s) && fn.params.all (P.readableRec ·) && namedTie P c.named s.vars && (c.stops == []) && (c.knobs == []) &&
  (c.maps == (fn.params.toList ++ s.plain.varTypes P).any (P.mapsRec ·)) && (c.ifaces == (fn.params.toList ++ s.plain.varTypes P).any (P.ifacesRec ·)) && (c.mapsOut == P.mapsAmong fn.resultTypes.toList) &&
  (c.loops == (fn.params.toList ++ s.plain.varTypes P).any (P.loopsFrom ·)) && (c.wideKeys == (fn.params.toList ++ s.plain.varTypes P ++ fn.resultTypes.toList).any (P.wideKeysFrom ·)) &&
  s.vars.all (P.varReadable ·) && fn.resultTypes.all (fun t => P.readableRec t && decide (t < P.types.size)) && (c.ifacesOut == fn.resultTypes.toList.any (P.ifacesRec ·)) && (c.loopsOut == fn.resultTypes.toList.any (P.loopsFrom ·)) && (c.plainKeys == P.plainKeys) && c.shortTexts.isNone && (c.lifted == false) && (some Make.cut == some c.make) && (c.kinds == []) && (c.pinned == c.pinnedBy) &&
  (c.veiled == (fn.params.toList ++ s.plain.varTypes P ++ fn.resultTypes.toList).any (P.veiledRec ·)) && c.veiledFits P fn.params.toList (fn.params.toList ++ s.plain.varTypes P ++ fn.resultTypes.toList) && c.domain.isEmpty

theorem closed_of {f : FuncId} {fn : Func} {s : ChangeSpec} {c : OpenClaim} (h1 : roadFacts Try.prog f c = true) (h2 : cellFacts Try.prog fn s c = true) : joinedFacts Try.prog f fn s c = true := by
  simp only [roadFacts, Bool.and_eq_true] at h1
  simp only [cellFacts, Bool.and_eq_true] at h2
  obtain ⟨⟨⟨r1, r2⟩, r3⟩, r4⟩ := h1
  obtain ⟨⟨⟨⟨⟨⟨⟨⟨⟨⟨⟨⟨⟨⟨⟨⟨⟨⟨⟨⟨⟨⟨k1, k2⟩, k3⟩, k4⟩, k5⟩, k6⟩, k7⟩, k8⟩, k9⟩, k10⟩, k11⟩, k12⟩, k13⟩, k14⟩, k15⟩, k16⟩, k17⟩, k18⟩, k19⟩, k20⟩, k21⟩, k22⟩, k0⟩ := h2
  unfold joinedFacts
  rw [laidOut, mapsRowed_t, stops_nil, stopKnobs_nil, stopsHeard_t, mayEnter_t, liftsFinal_f, make_cut, r1, r2, r3, r4, k1, k2, k3, k4, k5, k6, k7, k8, k9, k10, k11, k12, k13, k14, k15, k16, k17, k18, if_pos k0, k19, k20, k21, k22]
  rfl
end Go.Proofs.Ytgpnmmgoachajaa
/- From the reading of an argument as data to the walks' words: slices of ints. -/
namespace Go.Proofs.Ytgpnmmgoachajaa
open Go.ChangeShapes Go.WideShapes Go.ChangeAt Go.RowKit Go.Deep
open Go.Proofs

theorem cells22 : Try.prog.cellsOf 33 = 1 := by kernel_rfl
theorem cells3 : Try.prog.cellsOf 3 = 1 := by kernel_rfl

section
variable {H : Type} {enc : TypeId × Value → H} {w : World} {base : Nat} {held : Bool}
theorem cells_of_ints {x : Addr} {zs : List Int} {len : Nat} (hz : len ≤ zs.length) (hcell : ∀ i, i < zs.length → w.cell? (x.add i) = some (.int .i64 (zs.getD i 0))) : Cells w (some x) (ints (zs.take len)) := by
  intro h0
  have h1 : 0 < zs.length := by simp [ints] at h0; omega
  obtain ⟨b, o, s⟩ := x
  have hs : s = none := by
    have := World.cell?_spot (hcell 0 h1)
    simpa [Addr.add] using this
  subst hs
  refine ⟨b, o, rfl, fun j u hu => ?_⟩
  obtain ⟨hj, hv⟩ := List.getElem?_eq_some_iff.1 hu
  have hj2 : j < len := by simp at hj; omega
  have hj3 : j < zs.length := by omega
  have h2 := hcell j hj3
  rw [show ((⟨b, o, none⟩ : Addr).add j) = ⟨b, o + j, none⟩ by rw [Addr.add_lit]] at h2
  rw [h2, ← hv]
  simp [ints, List.getD_eq_getElem?_getD, List.getElem?_eq_getElem hj3]

/-- '[]int'. -/
theorem open_intl {a : Option Addr} {len cap : Nat} {d : DataW H} {p : List MemPlace} (h : DataW.Trod enc Try.prog w base (fun _ => true) held 33 (.slice a len cap) d p) :
    ∃ l : List Int, l.length = len ∧ len ≤ cap ∧ cap ≤ maxLen ∧ Cells w a (ints l) := by
  obtain ⟨fuel, hf⟩ := h
  rcases open_ints Try.underlying33 Try.underlying3 cells3 hf with ⟨hcs, _⟩ | ⟨x, l, c, zs, hcs, _, hl, hm, hz, _, hcell, hwz⟩
  · simp [Value.cells] at hcs
    obtain ⟨rfl, rfl, rfl⟩ := hcs
    exact ⟨[], rfl, Nat.le_refl _, Nat.zero_le _, Cells.nil _ _⟩
  · simp [Value.cells] at hcs
    obtain ⟨rfl, rfl, rfl⟩ := hcs
    simp at hz
    exact ⟨zs.take len, by simp; omega, hl, hm, cells_of_ints (by omega) hcell⟩
end
end Go.Proofs.Ytgpnmmgoachajaa
/- From the reading of an argument as data to the walks' words: octets. -/
namespace Go.Proofs.Ytgpnmmgoachajaa
open Go.ChangeShapes Go.WideShapes Go.ChangeAt Go.RowKit Go.Deep
open Go.Proofs

theorem cells32 : Try.prog.cellsOf 22 = 1 := by kernel_rfl
theorem cells5 : Try.prog.cellsOf 5 = 1 := by kernel_rfl

theorem octs_of_ints {w : World} {x : Addr} {zs : List Int} {len : Nat} (hz : len ≤ zs.length) (hcell : ∀ i, i < zs.length → w.cell? (x.add i) = some (.int .u8 (zs.getD i 0))) (hwz : ∀ n ∈ zs, (Lit.int .u8 n).wf = true) :
    ∃ l : List UInt8, l.length = len ∧ Octs w (some x) l := by
  refine ⟨(zs.take len).map fun n => UInt8.ofNat n.toNat, by simp; omega, fun h0 => ?_⟩
  have h1 : 0 < zs.length := by simp at h0; omega
  obtain ⟨b, o, s⟩ := x
  have hs : s = none := by
    have := World.cell?_spot (hcell 0 h1)
    simpa [Addr.add] using this
  subst hs
  refine ⟨b, o, rfl, fun j u hu => ?_⟩
  obtain ⟨hj, hv⟩ := List.getElem?_eq_some_iff.1 hu
  have hj2 : j < len := by simp at hj; omega
  have hj3 : j < zs.length := by omega
  have h2 := hcell j hj3
  have h3 : ((⟨b, o, none⟩ : Addr).add j) = ⟨b, o + j, none⟩ := by
    by_cases h : j = 0
    · subst h; simp [Addr.add]
    · simp [Addr.add, h]
  rw [h3] at h2
  rw [h2, ← hv]
  have hb := bounds_u8 (hwz _ (List.getElem_mem hj3))
  have e : ((UInt8.ofNat zs[j].toNat).toNat : Int) = zs[j] := by rw [UInt8.toNat_ofNat']; omega
  simp only [octs, List.getElem_map, List.getElem_take, oct, e]
  simp [List.getD_eq_getElem?_getD, List.getElem?_eq_getElem hj3]

section
variable {H : Type} {enc : TypeId × Value → H} {w : World} {base : Nat} {held : Bool}
/-- '[]byte'. -/
theorem open_octs {a : Option Addr} {len cap : Nat} {d : DataW H} {p : List MemPlace} (h : DataW.Trod enc Try.prog w base (fun _ => true) held 22 (.slice a len cap) d p) :
    ∃ l : List UInt8, l.length = len ∧ len ≤ cap ∧ cap ≤ maxLen ∧ Octs w a l := by
  obtain ⟨fuel, hf⟩ := h
  rcases open_ints Try.underlying22 Try.underlying5 cells5 hf with ⟨hcs, _⟩ | ⟨x, l, c, zs, hcs, _, hl, hm, hz, _, hcell, hwz⟩
  · simp [Value.cells] at hcs
    obtain ⟨rfl, rfl, rfl⟩ := hcs
    exact ⟨[], rfl, Nat.le_refl _, Nat.zero_le _, Octs.nil _ _⟩
  · simp [Value.cells] at hcs
    obtain ⟨rfl, rfl, rfl⟩ := hcs
    simp at hz
    obtain ⟨l, h1, h2⟩ := octs_of_ints (len := len) (by omega) hcell hwz
    exact ⟨l, h1, hl, hm, h2⟩

end
end Go.Proofs.Ytgpnmmgoachajaa
