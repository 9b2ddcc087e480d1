/- Cuts of a slice: the run of a slice expression, its address behind one name, and what it reads as. -/
import Derived.Test.YtgpnmmgoachajaaInts
import Derived.Lib.SliceRun
namespace Go.Proofs.Ytgpnmmgoachajaa
open Go.RowKit
open Go.Proofs

section
variable {P : Program} (t e : TypeId) (i : TypeInfo) (ht : P.underlying t = some (.slice e)) (he : P.elem t = e) (hi : P.info? e = some i) (hs : i.size = 1)
include ht he hi hs
omit ht in
theorem run_size1 (w : World) : (sizeOf (P.elem t)).run P w = .ok 1 w := by
  rw [he]; simp [sizeOf, typeInfo, hi, hs]

theorem cut_lo_gen (A : Option Addr) (n c lo : Nat) (hlo : lo ≤ n) (hn : n ≤ c) :
    ∃ A1, (∀ w, (Instr.slice t (.slice A n c) (some (.int .i64 (lo : Int))) none none).run P w = .ok (.slice A1 (n - lo) (c - lo)) w) ∧
      (∀ w, (Instr.sliceAt t (.slice A n c) (some (.int .i64 (lo : Int))) none none).run P w = .ok (.slice A1 (n - lo) (c - lo)) w) ∧
      (∀ w xs, xs.length = n → Cells w A xs → Cells w A1 (xs.drop lo)) ∧ (∀ a, A1 = some a → ∃ b, A = some b ∧ b.block = a.block) := by
  have h : ∀ w, (Instr.slice t (.slice A n c) (some (.int .i64 (lo : Int))) none none).run P w = .ok (.slice (if c = lo then A else A.map (·.add (lo * 1))) (n - lo) (c - lo)) w := by
    intro w
    rw [run_slice_l w t A n c (by rw [he]; exact ht) .i64 lo (by omega) (by omega), run_size1 t e i he hi hs]
    simp [Result.andThen, sliced]
  refine ⟨_, h, fun w => by rw [run_sliceAt_slice _ _ _ _ _ _ (by rw [he]; exact ht)]; exact h w, fun w xs hx hc => hc.cut lo c (by omega) (by omega), fun a ha => ?_⟩
  split at ha
  · exact ⟨a, ha, rfl⟩
  · cases A with
    | none => cases ha
    | some b => cases ha; exact ⟨b, rfl, (by unfold Addr.add; split <;> rfl)⟩

theorem cut_hi_gen (A : Option Addr) (n c hi' : Nat) (hh : hi' ≤ c) :
    ∃ A1, (∀ w, (Instr.slice t (.slice A n c) none (some (.int .i64 (hi' : Int))) none).run P w = .ok (.slice A1 hi' c) w) ∧
      (∀ w, (Instr.sliceAt t (.slice A n c) none (some (.int .i64 (hi' : Int))) none).run P w = .ok (.slice A1 hi' c) w) ∧
      (∀ w xs, hi' ≤ xs.length → Cells w A xs → Cells w A1 (xs.take hi')) ∧ (∀ a, A1 = some a → ∃ b, A = some b ∧ b.block = a.block) := by
  have h : ∀ w, (Instr.slice t (.slice A n c) none (some (.int .i64 (hi' : Int))) none).run P w = .ok (.slice (if c = 0 then A else A.map (·.add (0 * 1))) hi' c) w := by
    intro w
    rw [run_slice_h w t A n c (by rw [he]; exact ht) .i64 hi' (by omega) (by omega), run_size1 t e i he hi hs]
    simp [Result.andThen, sliced]
  have e0 : (if c = 0 then A else A.map (·.add (0 * 1))) = A := by
    split
    · rfl
    · cases A <;> simp [Addr.add]
  rw [e0] at h
  exact ⟨A, h, fun w => by rw [run_sliceAt_slice _ _ _ _ _ _ (by rw [he]; exact ht)]; exact h w, fun w xs _ hc => hc.take hi', fun a ha => ⟨a, ha, rfl⟩⟩

theorem cut_mid_gen (A : Option Addr) (n c lo hi' : Nat) (hlo : lo ≤ hi') (hh : hi' ≤ n) (hn : n ≤ c) :
    ∃ A1, (∀ w, (Instr.slice t (.slice A n c) (some (.int .i64 (lo : Int))) (some (.int .i64 (hi' : Int))) none).run P w = .ok (.slice A1 (hi' - lo) (c - lo)) w) ∧
      (∀ w, (Instr.sliceAt t (.slice A n c) (some (.int .i64 (lo : Int))) (some (.int .i64 (hi' : Int))) none).run P w = .ok (.slice A1 (hi' - lo) (c - lo)) w) ∧
      (∀ w xs, xs.length = n → Cells w A xs → Cells w A1 ((xs.drop lo).take (hi' - lo))) ∧ (∀ a, A1 = some a → ∃ b, A = some b ∧ b.block = a.block) := by
  have h : ∀ w, (Instr.slice t (.slice A n c) (some (.int .i64 (lo : Int))) (some (.int .i64 (hi' : Int))) none).run P w = .ok (.slice (if c = lo then A else A.map (·.add (lo * 1))) (hi' - lo) (c - lo)) w := by
    intro w
    rw [run_slice_lh w t A n c (by rw [he]; exact ht) .i64 .i64 lo hi' (by omega) (by omega) (by omega), run_size1 t e i he hi hs]
    simp [Result.andThen, sliced]
  refine ⟨_, h, fun w => by rw [run_sliceAt_slice _ _ _ _ _ _ (by rw [he]; exact ht)]; exact h w, fun w xs hx hc => (hc.cut lo c (by omega) (by omega)).take _, fun a ha => ?_⟩
  split at ha
  · exact ⟨a, ha, rfl⟩
  · cases A with
    | none => cases ha
    | some b => cases ha; exact ⟨b, rfl, (by unfold Addr.add; split <;> rfl)⟩
end

theorem elem25 : Try.prog.elem 22 = 5 := by kernel_rfl
theorem octs_drop (l : List UInt8) (n : Nat) : (octs l).drop n = octs (l.drop n) := by simp [octs]
theorem octs_take (l : List UInt8) (n : Nat) : (octs l).take n = octs (l.take n) := by simp [octs]

/-- 'b[lo:]' of octets. -/
theorem cut_lo (A : Option Addr) (l : List UInt8) (c lo : Nat) (hlo : lo ≤ l.length) (hn : l.length ≤ c) :
    ∃ A1, (∀ w, (Instr.slice 22 (.slice A l.length c) (some (.int .i64 (lo : Int))) none none).run Try.prog w = .ok (.slice A1 (l.length - lo) (c - lo)) w) ∧
      (∀ w, (Instr.sliceAt 22 (.slice A l.length c) (some (.int .i64 (lo : Int))) none none).run Try.prog w = .ok (.slice A1 (l.length - lo) (c - lo)) w) ∧
      (∀ w, Octs w A l → Octs w A1 (l.drop lo)) ∧ (∀ a, A1 = some a → ∃ b, A = some b ∧ b.block = a.block) := by
  obtain ⟨i0, hi, _, hs, _⟩ := info_parts info5
  obtain ⟨A1, h1, h2, h3, h4⟩ := cut_lo_gen 22 5 i0 Try.underlying22 elem25 hi hs A l.length c lo hlo hn
  exact ⟨A1, h1, h2, fun w h => by have := h3 w _ (length_octs l) h; rw [octs_drop] at this; exact this, h4⟩
/-- 'b[:hi]' of octets. -/
theorem cut_hi (A : Option Addr) (l : List UInt8) (c hi' : Nat) (hh : hi' ≤ l.length) (hn : l.length ≤ c) :
    ∃ A1, (∀ w, (Instr.slice 22 (.slice A l.length c) none (some (.int .i64 (hi' : Int))) none).run Try.prog w = .ok (.slice A1 hi' c) w) ∧
      (∀ w, (Instr.sliceAt 22 (.slice A l.length c) none (some (.int .i64 (hi' : Int))) none).run Try.prog w = .ok (.slice A1 hi' c) w) ∧
      (∀ w, Octs w A l → Octs w A1 (l.take hi')) ∧ (∀ a, A1 = some a → ∃ b, A = some b ∧ b.block = a.block) := by
  obtain ⟨i0, hi, _, hs, _⟩ := info_parts info5
  obtain ⟨A1, h1, h2, h3, h4⟩ := cut_hi_gen 22 5 i0 Try.underlying22 elem25 hi hs A l.length c hi' (by omega)
  exact ⟨A1, h1, h2, fun w h => by have := h3 w _ (by rw [length_octs]; exact hh) h; rw [octs_take] at this; exact this, h4⟩
/-- 'b[lo:hi]' of octets. -/
theorem cut_mid (A : Option Addr) (l : List UInt8) (c lo hi' : Nat) (hlo : lo ≤ hi') (hh : hi' ≤ l.length) (hn : l.length ≤ c) :
    ∃ A1, (∀ w, (Instr.slice 22 (.slice A l.length c) (some (.int .i64 (lo : Int))) (some (.int .i64 (hi' : Int))) none).run Try.prog w = .ok (.slice A1 (hi' - lo) (c - lo)) w) ∧
      (∀ w, (Instr.sliceAt 22 (.slice A l.length c) (some (.int .i64 (lo : Int))) (some (.int .i64 (hi' : Int))) none).run Try.prog w = .ok (.slice A1 (hi' - lo) (c - lo)) w) ∧
      (∀ w, Octs w A l → Octs w A1 ((l.drop lo).take (hi' - lo))) ∧ (∀ a, A1 = some a → ∃ b, A = some b ∧ b.block = a.block) := by
  obtain ⟨i0, hi, _, hs, _⟩ := info_parts info5
  obtain ⟨A1, h1, h2, h3, h4⟩ := cut_mid_gen 22 5 i0 Try.underlying22 elem25 hi hs A l.length c lo hi' hlo hh hn
  exact ⟨A1, h1, h2, fun w h => by have := h3 w _ (length_octs l) h; rw [octs_drop, octs_take] at this; exact this, h4⟩
end Go.Proofs.Ytgpnmmgoachajaa
