/- A zigzag's octets as the document has them. -/
import Derived.Test.YtghkkhafnkkomaaZg
namespace Go.Proofs.Ytghkkhafnkkomaa
open Go.RowKit
open Go.Proofs

set_option maxRecDepth 100000 in
theorem f24_any (n : Int) (w : World) (h1 : -9223372036854775808 ≤ n) (h2 : n ≤ 9223372036854775807) :
    Calls Try.prog 24 #[.int .i64 n] w fun e w' => e = .returned (strOf (zb (zz n))) ∧ Ext w w' := by
  have hz := zz_lt n h1 h2
  have hl := zb_len64 (zz n) hz
  obtain ⟨Z, hZ⟩ : ∃ Z, Z = zb (zz n) := ⟨_, rfl⟩
  rw [← hZ] at hl ⊢
  have HZ := Lib.hid hZ
  clear hZ
  go_enter Try.func24, Try.ntmps24
  go_wp2_with (go_at_call 69; refine (f69_any n _ h1 h2).mono ?_; rintro e w' ⟨rfl, rfl⟩)
  obtain ⟨U, hU⟩ : ∃ U, U = zz n := ⟨_, rfl⟩
  rw [← hU] at hz ⊢
  have HU := Lib.hid hU
  clear hU
  go_loopg [3, 4] U (fun g u s wr => ∃ (x : Nat) (l : List UInt8), x ≤ g ∧ x ≤ U ∧ u = .int .u64 (x : Int) ∧ s = strOf l ∧ Ext w' wr ∧ Hid (l ++ zb x = Z))
  case atStart => exact ⟨U, [], Nat.le_refl _, Nat.le_refl _, rfl, rfl, Ext.refl _, by unfold Hid; rw [HZ.out, HU.out]; rfl⟩
  case round =>
    obtain ⟨x, l, hg, hxU, rfl, rfl, hext, hlz⟩ := hrel
    have hll : l.length ≤ 10 := by
      have := congrArg List.length hlz.out
      rw [List.length_append] at this
      omega
    by_cases hx : x < 128
    · have hxi : ((128 : Int) ≤ (x : Int)) = False := by simp; omega
      have k1 := conv_str (some ⟨wr.heap.size, 0, none⟩) [UInt8.ofNat x] 1 1 (wr.alloc (.cells #[.int .u8 (x : Int)] 5)) rfl (by unfold Octs; rw [oct_lo x hx]; exact Cells.new1 _ _ _)
      go_wp2_with fail
      go_ret
      refine ⟨?_, hext.alloc _⟩
      rw [← hlz.out, zb_lo hx]
      show Ending.returned (.string (⟨l.toArray⟩ ++ ⟨[UInt8.ofNat x].toArray⟩)) = _
      rw [ByteArray.mk_append_mk]
    · have hxi : (128 : Int) ≤ (x : Int) := by omega
      obtain ⟨c, hc⟩ : ∃ c, c = UInt8.ofNat (x % 128 + 128) := ⟨_, rfl⟩
      have hcell : octs [c] = [.int .u8 ((x : Int) % 128 + 128)] := by
        rw [hc]
        simp only [octs, List.map_cons, List.map_nil, oct, UInt8.toNat_ofNat']
        congr 2
        omega
      obtain ⟨q, hq⟩ : ∃ q, q = x / 128 := ⟨_, rfl⟩
      have hdiv : (x : Int) / 128 = (q : Int) := by omega
      have hqx : q < x := by omega
      have k1 := conv_str (some ⟨wr.heap.size, 0, none⟩) [c] 1 1 (wr.alloc (.cells #[.int .u8 ((x : Int) % 128 + 128)] 5)) rfl (by unfold Octs; rw [hcell]; exact Cells.new1 _ _ _)
      have HQ := Lib.hid hq
      have HC := Lib.hid hc
      clear hq hc hcell
      go_wp2_with fail
      go_roundg q
      case measure => omega
      case rel =>
        refine ⟨q, l ++ [c], Nat.le_refl _, by omega, rfl, ?_, hext.alloc _, ?_⟩
        · show Value.string (⟨l.toArray⟩ ++ ⟨[c].toArray⟩) = _
          rw [ByteArray.mk_append_mk]
        · unfold Hid
          rw [← hlz.out, zb_hi (u := x) hx, List.append_assoc, HQ.out, HC.out]
          rfl
end Go.Proofs.Ytghkkhafnkkomaa
