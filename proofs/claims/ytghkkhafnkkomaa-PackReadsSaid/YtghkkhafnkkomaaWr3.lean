/- Layer 4's writing: Text. -/
import Derived.Test.YtghkkhafnkkomaaWr2
namespace Go.Proofs.Ytghkkhafnkkomaa
open Go.RowKit
open Go.Proofs

theorem str_take (s : List UInt8) (N : Nat) (_ : N ≤ s.length) : (⟨s.toArray⟩ : ByteArray).extract 0 N = ⟨(s.take N).toArray⟩ := by
  apply ByteArray.ext
  apply Array.ext'
  rw [ByteArray.data_extract]
  simp

set_option maxRecDepth 100000 in
theorem f67_any (k : Nat) (F : Nat → Prop) (s : List UInt8) (l : List UInt8) (w : World) (hs : s.length ≤ 4294960000) (hl : l.length ≤ 4294890000) (h : WrAt w k F l) :
    Calls Try.prog 67 #[.pointer (some ⟨k, 0, none⟩), strOf s] w fun e w' => e = .returned (.pointer (some ⟨k, 0, none⟩)) ∧ WrAt w' k (Since F w w') (l ++ (leN 2 (u64of ((s.take 65535).length : Int)) ++ s.take 65535)) ∧ Upd F w w' := by
  obtain ⟨N, hN⟩ : ∃ N, N = (s.take 65535).length := ⟨_, rfl⟩
  have hN2 : N = min 65535 s.length := by rw [hN, List.length_take]
  have hT : s.take 65535 = s.take N := by
    rw [hN2]
    rcases Nat.le_total 65535 s.length with e | e
    · rw [Nat.min_eq_left e]
    · rw [Nat.min_eq_right e, List.take_of_length_le e, List.take_of_length_le (Nat.le_refl _)]
  have hex := str_take s N (by omega)
  have hmin : min ((s.length : Nat) : Int) 65535 = (N : Int) := by omega
  have hmin2 : min N s.length = N := by omega
  rw [← hN, hT]
  have hTl : (s.take N).length = N := by rw [List.length_take]; omega
  generalize s.take N = T at hex hTl ⊢
  have hNb : N ≤ 65535 := by omega
  have hNs : ((N : Int) ≤ (s.length : Int)) := by omega
  clear hN hN2 hT
  subst hTl
  have H1 := f65_any k F (T.length : Int) 2 l w (by omega) h
  obtain ⟨m, hm⟩ : ∃ m, m = leN (wid 2) (u64of (T.length : Int)) := ⟨_, rfl⟩
  have hml : m.length ≤ 8 := by rw [hm, length_leN]; exact wid_le 2
  rw [show leN 2 (u64of (T.length : Int)) = m from hm.symm]
  rw [← hm] at H1
  clear hm
  go_enter Try.func67, Try.ntmps67
  go_wp2_with (first
    | (go_at_call 65; refine H1.mono ?_; clear H1; rintro e w1 ⟨rfl, t1, u1⟩; obtain ⟨v1, t1⟩ := t1; obtain ⟨c0, hf⟩ := t1.cells)
    | (at_builtin; refine wpList_append_str rfl (.tmp 18) (.tmp 19) rfl v1 (l ++ m) rfl t1.own T rfl (by simp; omega) ?_; intro v3 w3 m3 u3 b3; obtain ⟨B3, n3, d3, rfl⟩ := m3.slice; obtain ⟨q0, qf, t3, s3⟩ := t1.set u3 m3 b3))
  go_ret
  rw [List.append_assoc] at t3
  exact ⟨rfl, ⟨_, t3.mono (fun b hb => since_two hb u1.size (Nat.le_refl _) u3.size (by simp))⟩, u1.then' s3⟩
end Go.Proofs.Ytghkkhafnkkomaa
