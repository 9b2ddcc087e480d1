/- A region that draws its order, inside a round of a loop over an iterator: what was shown of it anywhere holds there. -/
import Derived.Test.YtgpnmmgoachajaaMem
import Derived.RangeFuncNested
import Derived.RangeFuncBound
import Derived.RangeFuncCalls
import Derived.RangeFuncLeaves
import Derived.RangeFuncBox
import Derived.OwnWalkIn
import Derived.OrdersHeld
import Derived.Deep.RegionHeld
namespace Go.Proofs.Ytgpnmmgoachajaa
open Go.RowKit
open Go.Proofs

def noDefer (ops : Array Oper) : Bool := ops.all fun o => match o.op with | .defer _ => false | _ => true
section
variable {P : Program} {ops : Array Oper} {Q : Exit → Act → World → Prop} {md : Region.Mode}
theorem noDefer_at (h : noDefer ops = true) {i : Nat} {o : Oper} (ho : ops[i]? = some o) : ∀ c, o.op ≠ .defer c := fun c e => by
  have := (Array.all_eq_true_iff_forall_mem.1 h) o (Array.mem_of_getElem? ho)
  rw [e] at this
  cases this
theorem upon_inRound (l n : Nat) (o : Oper) (a : Act) {K K' : Act → World → Prop} (hk : ∀ a w, K a w → K' a w) : ∀ r, o.upon P a K Q r → o.uponIn (Fence.wide.inRound l) n P a K' Q r
  | .ok (.value v) w', h => hk _ _ h
  | .ok .skip w', h => hk _ _ h
  | .ok (.defer d) w', h => hk _ _ h
  | .ok (.enter f args) w', h => ⟨fun x => (by cases x), CallsIn.inRound l (callsIn_wide.2 (Calls.mono h (fun e _ h' => match e, h' with
    | .returned _, h' => hk _ _ h'
    | .panicked _, h' => h'
    | .outgrown, h' => h')))⟩
  | .ok (.row row args) w', h => ⟨fun x => (by cases x), fun c cs _ => let ⟨v, w2, r, s⟩ := h c cs; ⟨v, w2, hk _ _ r, stepsIn_wide.2 s⟩⟩
  | .halt (.panic v) w', h => h
theorem op_inRound (l n : Nat) (hq : ¬ LetsOut Q) (hd : noDefer ops = true) (i : Nat) {K K' : Act → World → Prop} (hk : ∀ a w, K a w → K' a w) (a : Act) (w : World) (h : wpOp P ops Q i K a w) : wpOpIn (Fence.wide.inRound l) n P ops Q i K' a w := by
  unfold wpOp at h
  unfold wpOpIn
  cases ho : ops[i]? with
  | none => rw [ho] at h; exact hk _ _ h
  | some o =>
    rw [ho] at h
    simp only at h ⊢
    split
    · rename_i g
      rw [if_pos g] at h
      rcases h with h | h
      · refine ⟨fun _ _ => trivial, ?_⟩
        rw [Oper.semAt_eq _ _ _ (noDefer_at hd ho)]
        exact upon_inRound l n o a hk _ h
      · exact absurd h.2 hq
    · rename_i g
      rw [if_neg g] at h
      exact ⟨fun _ _ => trivial, hk _ _ h⟩
theorem any_inRound (l n : Nat) (hq : ¬ LetsOut Q) (hd : noDefer ops = true) : ∀ (fuel : Nat) (listed : Array Bool) (a : Act) (w : World), wpAny P md ops Q fuel listed a w → wpAnyIn (Fence.wide.inRound l) n P md ops Q fuel listed a w
  | 0, _, _, _, h => h
  | fuel + 1, _, a, w, h => ⟨h.1, fun i hi => op_inRound l n hq hd i (fun a' w' h' => any_inRound l n hq hd fuel _ a' w' h') a w (h.2 i hi)⟩
theorem region_inRound {id l n : Nat} {a : Act} {w : World} {S : World → Prop} (hm : P.follows .mixedOrders = true) (hq : ¬ LetsOut Q) (hd : noDefer ops = true) (hS : S w.drew)
    (h : S w.drew → wpAnyH P .any ops Q S ops.size (Array.replicate ops.size false) a w.drew) : (Code.region id ops true).wpIn (Fence.wide.inRound l) n P Q a w :=
  wpIn_region_any hm (any_inRound l n hq hd _ _ _ _ (wpAny_of_held _ _ _ _ (h hS)))
end
end Go.Proofs.Ytgpnmmgoachajaa
