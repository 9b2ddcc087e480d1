/- A zigzag's octets: the code's and the document's. -/
import Derived.Test.YtgpnmmgoachajaaZw
import Derived.Test.YtgpnmmgoachajaaAppo
import Derived.Test.YtgpnmmgoachajaaStr
import Derived.Deep.LoopGhost
import Derived.BigQuiet
namespace Go.Proofs.Ytgpnmmgoachajaa
open Go.RowKit
open Go.Proofs

set_option maxRecDepth 100000 in
theorem or_128 : ∀ x, x < 256 → x ||| 128 = x % 128 + 128 := by decide
theorem oct_lo (u : Nat) (h : u < 128) : octs [UInt8.ofNat u] = [.int .u8 (u : Int)] := by
  simp only [octs, List.map_cons, List.map_nil, oct, UInt8.toNat_ofNat']
  congr 2
  omega
theorem oct_hi (u : Nat) : octs [UInt8.ofNat (u % 128 + 128)] = [.int .u8 (bits .or .u8 ((u : Int) % 256) 128)] := by
  have h := u8_or_nat (u % 256) 128 (by omega) (by decide)
  rw [or_128 _ (by omega)] at h
  simp only [octs, List.map_cons, List.map_nil, oct, UInt8.toNat_ofNat']
  rw [show (u : Int) % 256 = ((u % 256 : Nat) : Int) by omega, show (128 : Int) = ((128 : Nat) : Int) by rfl, h]
  congr 2
  omega

end Go.Proofs.Ytgpnmmgoachajaa
