/- A drawn region's held condition may be made stronger on the way: what a call made is then there for the readings behind it. -/
import Derived.Test.YtanmjmeabcloiaaRs
import Derived.Test.YtanmjmeabcloiaaSq
namespace Go.Proofs.Ytanmjmeabcloiaa
open Go.RowKit
open Go.Proofs

theorem held_more {P : Program} {md : Region.Mode} {ops : Array Oper} {Q : Exit → Act → World → Prop} {S S' : World → Prop} (hSS : ∀ w, S' w → S w) :
    ∀ (fuel : Nat) (listed : Array Bool) (a : Act) (w : World), wpAnyH P md ops Q S' fuel listed a w → wpAnyH P md ops Q S fuel listed a w
  | 0, _, _, _, h => h
  | fuel + 1, _, _, _, h => ⟨h.1, fun i hi => wpOp_mono (fun a' w' h' => ⟨hSS _ h'.1, held_more hSS fuel _ a' w' h'.2⟩) (h.2 i hi)⟩
theorem lay_gen (n size : Int) (k : Nat) (hk : wid size = k) (G : List UInt8) (hG : G = leN k (u64of n)) (W : World) : Calls Try.prog 46 #[.int .i64 n, .int .i64 size] W fun e w' => ∃ A c, e = .returned (.slice A k c) ∧ Octs w' A G ∧ Ext W w' := by
  refine (f79_any n size W).mono ?_
  rintro e w1 ⟨v, rfl, o1, x1⟩
  rw [hk, ← hG] at o1
  obtain ⟨A, c, rfl, _, y⟩ := o1.octs_form
  exact ⟨A, c, by rw [hG, length_leN], y, x1⟩
end Go.Proofs.Ytanmjmeabcloiaa
