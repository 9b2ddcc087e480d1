/- The law's 'small', and the document's Write (layer 4). -/
import Derived.Test.YtghkkhafnkkomaaPuts
import Derived.Test.YtghkkhafnkkomaaBi2
import Derived.Test.YtghkkhafnkkomaaZr
namespace Go.Proofs.Ytghkkhafnkkomaa
open Go.RowKit
open Go.Proofs

def Small (fs : List Fld) : Prop := fs.length ≤ 20 ∧ ∀ (i : Nat) q, fs[i]? = some q → q.2.2.2.length ≤ 500

set_option maxRecDepth 100000 in
theorem f33_any (A : Option Addr) (fs : List Fld) (n c : Nat) (w : World) (hn : fs.length = n) (hx : FldsAt w A fs) (r : Bool) (hr : r = true ↔ Small fs) :
    Calls Try.prog 33 #[.slice A n c] w fun e w' => e = .returned (.bool r) ∧ w' = w := by
  have HR := Lib.hid hr
  clear hr
  have HN := Lib.hid hn
  clear hn
  by_cases hgt : 20 < n
  · have hgi : (20 : Int) < (n : Int) := by omega
    go_enter Try.func33, Try.ntmps33
    go_wp2_with fail
    go_ret
    obtain rfl : r = false := by
      cases r with
      | false => rfl
      | true => have := (HR.out.1 rfl).1; rw [HN.out] at this; omega
    exact ⟨rfl, rfl⟩
  · have hgi : ((20 : Int) < (n : Int)) = False := by simp; omega
    go_enter Try.func33, Try.ntmps33
    go_wp2_with fail
    go_loopg [3] n (fun g i wr => ∃ j : Nat, j ≤ n ∧ n - j ≤ g ∧ i = .int .i64 j ∧ Hid (∀ (i : Nat) q, i < j → fs[i]? = some q → q.2.2.2.length ≤ 500) ∧ wr = w)
    case atStart => exact ⟨0, by omega, by omega, rfl, fun i q h => by omega, rfl⟩
    case round =>
      obtain ⟨j, hj, hg, rfl, hok, rfl⟩ := hrel
      by_cases hlt : j < n
      · obtain ⟨⟨kd, nn, sz, tx⟩, hqg⟩ : ∃ q, fs[j]? = some q := ⟨_, List.getElem?_eq_getElem (by rw [HN.out]; exact hlt)⟩
        obtain ⟨b, o, rfl, hrow⟩ := hx (by rw [HN.out]; omega)
        obtain ⟨_, _, _, d3, _⟩ := hrow j _ hqg
        simp only at d3
        have hji : (j : Int) < (n : Int) := by omega
        have HQ := Lib.hid hqg
        clear hqg hrow
        by_cases hb : 500 < tx.length
        · have hbi : (500 : Int) < (tx.length : Int) := by omega
          go_wp2_with fail
          go_ret
          obtain rfl : r = false := by
            cases r with
            | false => rfl
            | true => have := (HR.out.1 rfl).2 j _ HQ.out; simp only at this; omega
          exact ⟨rfl, rfl⟩
        · have hbi : ((500 : Int) < (tx.length : Int)) = False := by simp; omega
          go_wp2_with fail
          go_roundg (n - (j + 1))
          case measure => omega
          case rel => exact ⟨j + 1, by omega, by omega, by go_num, fun i q hi hq => by
            by_cases e : i = j
            · subst e; rw [HQ.out] at hq; cases hq; simp only; omega
            · exact hok.out i q (by omega) hq, rfl⟩
      · obtain rfl : j = n := by omega
        go_wp2_with fail
        go_ret
        obtain rfl : r = true := HR.out.2 ⟨by rw [HN.out]; omega, fun i q hq => hok.out i q (by
          have := (List.getElem?_eq_some_iff.1 hq).1
          rw [HN.out] at this; exact this) hq⟩
        exact ⟨rfl, rfl⟩

theorem le_two (N : Nat) (h : N ≤ 500) : leN 2 (u64of (N : Int)) = [UInt8.ofNat (N % 256), UInt8.ofNat (N / 256)] := by
  have hu : u64of (N : Int) = N := by unfold u64of; omega
  rw [hu]
  simp only [leN]
  congr 1
  apply UInt8.toNat_inj.1
  simp

set_option maxRecDepth 100000 in
set_option maxHeartbeats 1000000 in
theorem f34_any (A : Option Addr) (fs : List Fld) (n c : Nat) (w : World) (hn : fs.length = n) (hs : Small fs) (hx : FldsAt w A fs) :
    Calls Try.prog 34 #[.slice A n c] w fun e w' => e = .returned (strOf (flds fs)) ∧ Ext w w' := by
  have HN := Lib.hid hn
  have HS := Lib.hid hs
  have hsz : Hid (∀ j, j ≤ n → (flds (fs.take j)).length ≤ 1310740) := by
    intro j hj
    have h20 := hs.1
    by_cases h0 : 0 < fs.length
    · obtain ⟨b, o, _, hr⟩ := hx h0
      have := flds_le fs (fun i q hq => (hr i q hq).2.2.2.2) j (by omega)
      omega
    · have : fs = [] := List.eq_nil_of_length_eq_zero (by omega)
      subst this
      rw [List.take_nil, show (flds ([] : List Fld)).length = 0 from rfl]
      omega
  have hn20 : n ≤ 20 := by have := hs.1; omega
  clear hn hs
  go_enter Try.func34, Try.ntmps34
  go_wp2_with fail
  go_loopg [3, 4] n (fun g s i wr => ∃ (j : Nat), j ≤ n ∧ n - j ≤ g ∧ i = .int .i64 j ∧ s = strOf (flds (fs.take j)) ∧ Ext w wr)
  case atStart => exact ⟨0, by omega, by omega, rfl, rfl, Ext.refl _⟩
  case round =>
    obtain ⟨j, hj, hg, rfl, rfl, hxr⟩ := hrel
    by_cases hlt : j < n
    · obtain ⟨⟨kd, nn, sz, tx⟩, hqg⟩ : ∃ q, fs[j]? = some q := ⟨_, List.getElem?_eq_getElem (by rw [HN.out]; exact hlt)⟩
      obtain ⟨b, o, rfl, hrow⟩ := hx (by rw [HN.out]; omega)
      obtain ⟨D0, D1, D2, D3, r1, r2⟩ := hrow j _ hqg
      have htx := HS.out.2 j _ hqg
      simp only at D0 D1 D2 D3 r1 r2 htx
      have d0 := hxr.cell D0
      have d1 := hxr.cell D1
      have d2 := hxr.cell D2
      have d3 := hxr.cell D3
      have hnext := flds_next fs j _ hqg
      have hji : (j : Int) < (n : Int) := by omega
      have hL := hsz.out j hj
      generalize flds (fs.take j) = L at hnext hL
      have HX := Lib.hid hnext
      clear hqg hrow hnext
      by_cases k0 : kd = 0
      · subst k0
        have h3 : fld (0, nn, sz, tx) = leN (wid sz) (u64of nn) := by rw [fld, if_pos rfl]
        have hml : (leN (wid sz) (u64of nn)).length ≤ 8 := by rw [length_leN]; exact wid_le sz
        have HL := fun W => f79_any nn sz W
        generalize leN (wid sz) (u64of nn) = m at *
        have HH := Lib.hid h3
        clear h3
        go_wp2_with (go_at_call 79; refine (HL _).mono ?_; rintro e w2 ⟨v, rfl, o2, x2⟩; obtain ⟨B2, c2, rfl, _, hx2⟩ := o2.octs_form; have g2 := conv_str B2 _ _ c2 w2 rfl hx2)
        go_roundg (n - (j + 1))
        case measure => omega
        case rel => exact ⟨j + 1, by omega, by omega, by go_num, by rw [HX.out, HH.out]; exact congrArg Value.string (ByteArray.mk_append_mk _ _), hxr.trans (((Ext.refl wr).alloc _).trans x2)⟩
      by_cases k1 : kd = 1
      · subst k1
        have h3 : fld (1, nn, sz, tx) = zb (zz nn) := by rw [fld, if_neg (by simp), if_pos rfl]
        have hml := zb_len64 _ (zz_lt nn r1 r2)
        have HL := fun W => f24_any nn W r1 r2
        generalize zb (zz nn) = m at *
        have HH := Lib.hid h3
        clear h3
        go_wp2_with (go_at_call 24; refine (HL _).mono ?_; rintro e w2 ⟨rfl, x2⟩)
        go_roundg (n - (j + 1))
        case measure => omega
        case rel => exact ⟨j + 1, by omega, by omega, by go_num, by rw [HX.out, HH.out]; exact congrArg Value.string (ByteArray.mk_append_mk _ _), hxr.trans (((Ext.refl wr).alloc _).trans x2)⟩
      · have kk0 : (kd == 0) = false := by simpa using k0
        have kk1 : (kd == 1) = false := by simpa using k1
        have h3 : fld (kd, nn, sz, tx) = [UInt8.ofNat (tx.length % 256), UInt8.ofNat (tx.length / 256)] ++ tx := by
          rw [fld, if_neg k0, if_neg k1]
          simp only
          rw [List.take_of_length_le (by omega), le_two _ htx]
        have hcell : octs [UInt8.ofNat (tx.length % 256), UInt8.ofNat (tx.length / 256)] = [.int .u8 ((tx.length : Int) % 256), .int .u8 ((tx.length : Int) / 256)] := by
          simp only [octs, List.map_cons, List.map_nil, oct, UInt8.toNat_ofNat']
          rw [show ((tx.length % 256 % 2 ^ 8 : Nat) : Int) = (tx.length : Int) % 256 by omega, show ((tx.length / 256 % 2 ^ 8 : Nat) : Int) = (tx.length : Int) / 256 by omega]
        have hdl : [UInt8.ofNat (tx.length % 256), UInt8.ofNat (tx.length / 256)].length = 2 := rfl
        generalize [UInt8.ofNat (tx.length % 256), UInt8.ofNat (tx.length / 256)] = hd at *
        have hs1 : (wr.alloc (.cells #[.int .i64 kd, .int .i64 nn, .int .i64 sz, strOf tx] 35)).heap.size = wr.heap.size + 1 := by simp
        have hn2 := Cells.new2 (wr.alloc (.cells #[.int .i64 kd, .int .i64 nn, .int .i64 sz, strOf tx] 35)) (.int .u8 ((tx.length : Int) % 256)) (.int .u8 ((tx.length : Int) / 256)) 5
        rw [hs1] at hn2
        have g2 := conv_str (some ⟨wr.heap.size + 1, 0, none⟩) hd 2 2 _ hdl (by unfold Octs; rw [hcell]; exact hn2)
        have HH := Lib.hid h3
        clear h3 hcell k0 k1 hn2 hs1
        go_wp2_with fail
        go_roundg (n - (j + 1))
        case measure => omega
        case rel => exact ⟨j + 1, by omega, by omega, by go_num, by
          rw [HX.out, HH.out, ← List.append_assoc]
          show Value.string (⟨L.toArray⟩ ++ ⟨hd.toArray⟩ ++ ⟨tx.toArray⟩) = _
          rw [ByteArray.mk_append_mk, ByteArray.mk_append_mk], hxr.trans (((Ext.refl wr).alloc _).alloc _)⟩
    · obtain rfl : j = n := by omega
      have ht2 : fs.take j = fs := by rw [← HN.out, List.take_length]
      rw [ht2]
      go_wp2_with fail
      go_ret
      exact ⟨rfl, hxr⟩
end Go.Proofs.Ytghkkhafnkkomaa
