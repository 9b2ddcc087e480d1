/- A drawn region's condition made stronger on the way. -/
import Derived.Test.YtgpnmmgoachajaaMem
import Derived.Deep.RegionHeld
import Derived.OrdersHeld
namespace Go.Proofs.Ytgpnmmgoachajaa
open Go.RowKit
open Go.Proofs

theorem held_more {P : Program} {md : Region.Mode} {ops : Array Oper} {Q : Exit → Act → World → Prop} {S S' : World → Prop} (hSS : ∀ w, S' w → S w) :
    ∀ (fuel : Nat) (listed : Array Bool) (a : Act) (w : World), wpAnyH P md ops Q S' fuel listed a w → wpAnyH P md ops Q S fuel listed a w
  | 0, _, _, _, h => h
  | fuel + 1, _, _, _, h => ⟨h.1, fun i hi => wpOp_mono (fun a' w' h' => ⟨hSS _ h'.1, held_more hSS fuel _ a' w' h'.2⟩) (h.2 i hi)⟩
end Go.Proofs.Ytgpnmmgoachajaa
