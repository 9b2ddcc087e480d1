/- A zigzag's octets: the code's and the document's. -/
import Derived.Test.YtghkkhafnkkomaaZw
import Derived.Test.YtghkkhafnkkomaaAppo
import Derived.Test.YtghkkhafnkkomaaStr
import Derived.Deep.LoopGhost
import Derived.BigQuiet
namespace Go.Proofs.Ytghkkhafnkkomaa
open Go.RowKit
open Go.Proofs

set_option maxRecDepth 100000 in
theorem or_128 : ∀ x, x < 256 → x ||| 128 = x % 128 + 128 := by decide
theorem oct_lo (u : Nat) (h : u < 128) : octs [UInt8.ofNat u] = [.int .u8 (u : Int)] := by
  simp only [octs, List.map_cons, List.map_nil, oct, UInt8.toNat_ofNat']
  congr 2
  omega
theorem oct_hi (u : Nat) : octs [UInt8.ofNat (u % 128 + 128)] = [.int .u8 (bits .or .u8 ((u : Int) % 256) 128)] := by
  have h := u8_or_nat (u % 256) 128 (by omega) (by decide)
  rw [or_128 _ (by omega)] at h
  simp only [octs, List.map_cons, List.map_nil, oct, UInt8.toNat_ofNat']
  rw [show (u : Int) % 256 = ((u % 256 : Nat) : Int) by omega, show (128 : Int) = ((128 : Nat) : Int) by rfl, h]
  congr 2
  omega

set_option maxRecDepth 100000 in
theorem f76_any (n : Int) (w : World) (h1 : -9223372036854775808 ≤ n) (h2 : n ≤ 9223372036854775807) :
    Calls Try.prog 76 #[.int .i64 n] w fun e w' => ∃ v, e = .returned v ∧ Own w' w.heap.size 5 v (octs (zb (zz n))) ∧ Ext w w' := by
  have hz := zz_lt n h1 h2
  have hl := zb_len64 (zz n) hz
  obtain ⟨Z, hZ⟩ : ∃ Z, Z = zb (zz n) := ⟨_, rfl⟩
  rw [← hZ] at hl ⊢
  have HZ := Lib.hid hZ
  clear hZ
  go_enter Try.func76, Try.ntmps76
  go_wp2_with (go_at_call 98; refine (f98_any n _ h1 h2).mono ?_; rintro e w' ⟨rfl, rfl⟩)
  obtain ⟨U, hU⟩ : ∃ U, U = zz n := ⟨_, rfl⟩
  rw [← hU] at hz ⊢
  have HU := Lib.hid hU
  clear hU
  go_loopg [3, 4] U (fun g v u wr => ∃ (x : Nat) (l : List UInt8), x ≤ g ∧ x ≤ U ∧ u = .int .u64 (x : Int) ∧ Own wr w'.heap.size 5 v (octs l) ∧ Ext w' wr ∧ Hid (l ++ zb x = Z))
  case atStart => exact ⟨U, [], Nat.le_refl _, Nat.le_refl _, rfl, Own.nil _ _ _, Ext.refl _, by unfold Hid; rw [HZ.out, HU.out]; rfl⟩
  case round =>
    obtain ⟨x, l, hg, hxU, rfl, hown, hext, hlz⟩ := hrel
    have hsz := hext.size
    have hll : l.length ≤ 10 := by
      have := congrArg List.length hlz.out
      rw [List.length_append] at this
      omega
    by_cases hx : x < 128
    · have hxi : (x : Int) < 128 := by omega
      have hcell : Cells (wr.alloc (.cells #[.int .u8 (x : Int)] 5)) (some ⟨wr.heap.size, 0, none⟩) (octs [UInt8.ofNat x]) := by
        rw [oct_lo x hx]
        exact Cells.new1 _ _ _
      go_wp2_with (at_builtin; refine wpList_appo rfl (.tmp 11) (.tmp 14) rfl w'.heap.size u3 l rfl (hown.alloc _) (some ⟨wr.heap.size, 0, none⟩) 1 1 [UInt8.ofNat x] rfl rfl hcell (by simp; omega) (by simp; omega) ?_)
      intro v2 w2 hown2 hg2 _
      have hext2 : Ext w' w2 := (hext.alloc _).grown hg2 (fun b hb => (hown.block b hb).1)
      go_wp2_with fail
      go_ret
      refine ⟨_, rfl, ?_, hext2⟩
      rw [← hlz.out, zb_lo hx]
      exact hown2
    · have hxi : ((x : Int) < 128) = False := by simp; omega
      obtain ⟨c, hc⟩ : ∃ c, c = UInt8.ofNat (x % 128 + 128) := ⟨_, rfl⟩
      have hcell : Cells (wr.alloc (.cells #[.int .u8 (bits .or .u8 ((x : Int) % 256) 128)] 5)) (some ⟨wr.heap.size, 0, none⟩) (octs [c]) := by
        rw [hc, oct_hi x]
        exact Cells.new1 _ _ _
      have HC := Lib.hid hc
      clear hc
      obtain ⟨q, hq⟩ : ∃ q, q = x / 128 := ⟨_, rfl⟩
      have hdiv : (x : Int) / 128 = (q : Int) := by omega
      have hqx : q < x := by omega
      have HQ := Lib.hid hq
      clear hq
      go_wp2_with (at_builtin; refine wpList_appo rfl (.tmp 16) (.tmp 20) rfl w'.heap.size u3 l rfl (hown.alloc _) (some ⟨wr.heap.size, 0, none⟩) 1 1 [c] rfl rfl hcell (by simp; omega) (by simp; omega) ?_)
      intro v2 w2 hown2 hg2 _
      have hext2 : Ext w' w2 := (hext.alloc _).grown hg2 (fun b hb => (hown.block b hb).1)
      clear hcell hg2 hown
      go_wp2_with fail
      go_roundg q
      case measure => omega
      case rel =>
        refine ⟨q, _, Nat.le_refl _, by omega, rfl, hown2, hext2, ?_⟩
        unfold Hid
        rw [← hlz.out, zb_hi (u := x) hx, List.append_assoc, HQ.out, HC.out]
        rfl
end Go.Proofs.Ytghkkhafnkkomaa
