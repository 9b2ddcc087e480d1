/- The document's reading (layer 4): width, Take, Num, Signed, Text. -/
import Derived.Test.YtghkkhafnkkomaaBi2
import Derived.Test.YtghkkhafnkkomaaNm
import Derived.Test.YtghkkhafnkkomaaConv
import Derived.Test.YtghkkhafnkkomaaWr3
namespace Go.Proofs.Ytghkkhafnkkomaa
open Go.RowKit
open Go.Proofs

theorem str_drop (s : List UInt8) (N : Nat) : (⟨s.toArray⟩ : ByteArray).extract N s.length = ⟨(s.drop N).toArray⟩ := by
  apply ByteArray.ext
  apply Array.ext'
  rw [ByteArray.data_extract]
  simp only [List.extract_toArray, List.extract_eq_take_drop, List.toList_toArray]
  exact List.take_of_length_le (by simp)

/-- The document's reading: what is left; did it fail? -/
def RfAt (w : World) (k : Nat) (B : List UInt8) (f : Bool) : Prop := w.heap[k]? = some (.cells #[strOf B, .bool f] 60 (0, 0))
section
variable {w w' : World} {k : Nat} {B B1 : List UInt8} {f f1 : Bool} {G : Nat → Prop}
theorem RfAt.upd (h : RfAt w k B f) (u : Upd G w w') (hg : ¬ G k) : RfAt w' k B f := u.heap h hg
theorem RfAt.ext (h : RfAt w k B f) (u : Ext w w') : RfAt w' k B f := u.heap h
theorem RfAt.cells (h : RfAt w k B f) : w.cell? ⟨k, 0, none⟩ = some (strOf B) ∧ w.cell? ⟨k, 1, none⟩ = some (.bool f) ∧ (∀ j, w.frozen? ⟨k, j, none⟩ = false) :=
  ⟨by rw [cell_of_row w k 0 _ _ (0, 0) h]; rfl, by rw [cell_of_row w k 1 _ _ (0, 0) h]; rfl, fun j => frozen_of_row w k j _ _ h⟩
theorem RfAt.fails (h : RfAt w k B f) : RfAt ((w.setCell ⟨k, 1, none⟩ (.bool true)).setCell ⟨k, 0, none⟩ (strOf [])) k [] true ∧ Upd (fun b => b = k) w ((w.setCell ⟨k, 1, none⟩ (.bool true)).setCell ⟨k, 0, none⟩ (strOf [])) := by
  have h1 := heap_setCell_same w k 1 _ _ (.bool true) h
  have h2 := heap_setCell_same _ k 0 _ _ (strOf []) h1
  exact ⟨h2, ((Upd.refl (fun b => b = k) w).setCell (p := ⟨k, 1, none⟩) (.inl rfl) _).setCell (p := ⟨k, 0, none⟩) (.inl rfl) _⟩
theorem RfAt.goes (h : RfAt w k B f) (B1 : List UInt8) : RfAt (w.setCell ⟨k, 0, none⟩ (strOf B1)) k B1 f ∧ Upd (fun b => b = k) w (w.setCell ⟨k, 0, none⟩ (strOf B1)) :=
  ⟨heap_setCell_same w k 0 _ _ (strOf B1) h, (Upd.refl (fun b => b = k) w).setCell (p := ⟨k, 0, none⟩) (.inl rfl) _⟩
end

set_option maxRecDepth 100000 in
theorem f87_any (n : Int) (w : World) : Calls Try.prog 87 #[.int .i64 n] w fun e w' => e = .returned (.int .i64 ((wid n : Nat) : Int)) ∧ w = w' := by
  rw [← wid_eq]
  by_cases a : n < 0
  · go_enter Try.func87, Try.ntmps87
    go_wp2
    go_ret
    exact ⟨ret_int (by omega), rfl⟩
  · by_cases b : 8 < n
    all_goals
      go_enter Try.func87, Try.ntmps87
      go_wp2
      go_ret
      exact ⟨ret_int (by omega), rfl⟩

set_option maxRecDepth 100000 in
theorem f86_any (k : Nat) (B : List UInt8) (f : Bool) (n : Int) (w : World) (hn : 0 ≤ n) (hf : f = true → B = []) (h : RfAt w k B f) :
    Calls Try.prog 86 #[.pointer (some ⟨k, 0, none⟩), .int .i64 n] w fun e w' => e = .returned (strOf (rTake n B f).1) ∧ RfAt w' k (rTake n B f).2.1 (rTake n B f).2.2 ∧ Upd (fun b => b = k) w w' := by
  obtain ⟨c0, c1, hz⟩ := h.cells
  unfold rTake
  cases f with
  | true =>
    rw [if_pos (.inl rfl)]
    obtain ⟨t1, u1⟩ := h.fails
    clear h
    go_enter Try.func86, Try.ntmps86
    go_wp2
    go_ret
    exact ⟨rfl, t1, u1⟩
  | false =>
    by_cases hlt : (B.length : Int) < n
    · rw [if_pos (.inr hlt)]
      obtain ⟨t1, u1⟩ := h.fails
      clear h
      go_enter Try.func86, Try.ntmps86
      go_wp2
      go_ret
      exact ⟨rfl, t1, u1⟩
    · rw [if_neg (by simp [hlt])]
      obtain ⟨m, rfl⟩ := Int.eq_ofNat_of_zero_le hn
      have hm : m ≤ B.length := by omega
      simp only [Int.toNat_natCast]
      have e1 := str_take B m hm
      have e2 := str_drop B m
      obtain ⟨t1, u1⟩ := h.goes (B.drop m)
      clear h
      go_enter Try.func86, Try.ntmps86
      go_wp2
      go_ret
      exact ⟨rfl, t1, u1⟩

set_option maxRecDepth 100000 in
theorem f38_any (k : Nat) (B : List UInt8) (f : Bool) (n : Int) (w : World) (hf : f = true → B = []) (h : RfAt w k B f) :
    Calls Try.prog 38 #[.pointer (some ⟨k, 0, none⟩), .int .i64 n] w fun e w' => e = .returned (.int .i64 (rNum n B f)) ∧ RfAt w' k (rTake (wid n) B f).2.1 (rTake (wid n) B f).2.2 ∧ Upd (fun b => b = k) w w' := by
  have HT := f86_any k B f (wid n) w (by omega) hf h
  have hle := rTake_le (wid n) B f
  have hw := wid_le n
  have HWI := fun W => f87_any n W
  unfold rNum
  obtain ⟨⟨T, B1, f1⟩, hr⟩ : ∃ r, r = rTake (wid n) B f := ⟨_, rfl⟩
  rw [← hr] at HT hle ⊢
  simp only at HT hle ⊢
  clear hr h
  have h8 : T.take 8 = T := List.take_of_length_le (by omega)
  have HG := fun A c W hx => f85_any A T T.length c W rfl (by omega) hx
  rw [h8] at HG
  clear h8
  generalize wid n = q at *
  go_enter Try.func38, Try.ntmps38
  go_wp2_with (first
    | (go_at_call 87; refine (HWI _).mono ?_; rintro e w' ⟨rfl, rfl⟩)
    | (go_at_call 86; refine HT.mono ?_; clear HT; rintro e w1 ⟨rfl, t1, u1⟩; obtain ⟨c2, w2, k2, hc2, hx2, x2⟩ := conv_octs T w1)
    | (go_at_call 85; refine (HG _ c2 w2 hx2).mono ?_; rintro e w3 ⟨rfl, x3⟩))
  go_ret
  exact ⟨rfl, t1.ext (x2.trans x3), u1.trans (Upd.of_ext _ (x2.trans x3))⟩

theorem rTake_nil (n : Int) (B : List UInt8) (f : Bool) : (rTake n B f).2.2 = true → (rTake n B f).2.1 = [] := by
  unfold rTake
  split
  · intro _; rfl
  · intro h; cases h

set_option maxRecDepth 100000 in
theorem f42_any (k : Nat) (B : List UInt8) (f : Bool) (n : Int) (w : World) (hf : f = true → B = []) (h : RfAt w k B f) :
    Calls Try.prog 42 #[.pointer (some ⟨k, 0, none⟩), .int .i64 n] w fun e w' => e = .returned (.int .i64 (rSgn n B f)) ∧ RfAt w' k (rTake (wid n) B f).2.1 (rTake (wid n) B f).2.2 ∧ Upd (fun b => b = k) w w' := by
  have HT := f38_any k B f n w hf h
  have hw := wid_le n
  have HS := fun W => f89_any (rNum n B f) (8 * wid n) (by omega) W
  have h88 : 8 * ((wid n : Nat) : Int) = ((8 * wid n : Nat) : Int) := by omega
  rw [← h88] at HS
  unfold rSgn
  generalize sgnN (u64of (rNum n B f)) (8 * wid n) = R at *
  generalize rNum n B f = N at *
  generalize rTake (wid n) B f = Z at *
  clear h h88
  have HWI := fun W => f87_any n W
  generalize wid n = q at *
  go_enter Try.func42, Try.ntmps42
  go_wp2_with (first
    | (go_at_call 38; refine HT.mono ?_; clear HT; rintro e w1 ⟨rfl, t1, u1⟩)
    | (go_at_call 87; refine (HWI _).mono ?_; rintro e w' ⟨rfl, rfl⟩)
    | (go_at_call 89; refine (HS _).mono ?_; rintro e w2 ⟨rfl, x2⟩))
  go_ret
  exact ⟨rfl, t1.ext x2, u1.trans (Upd.of_ext _ x2)⟩

set_option maxRecDepth 100000 in
theorem f40_any (k : Nat) (B : List UInt8) (f : Bool) (w : World) (hf : f = true → B = []) (h : RfAt w k B f) :
    Calls Try.prog 40 #[.pointer (some ⟨k, 0, none⟩)] w fun e w' => e = .returned (strOf (rText B f).1) ∧ RfAt w' k (rText B f).2.1 (rText B f).2.2 ∧ Upd (fun b => b = k) w w' := by
  have HT := f38_any k B f 2 w hf h
  have hn := rNum_two B f
  rw [show wid 2 = 2 by decide] at HT
  unfold rText
  simp only [Int.cast_ofNat_Int] at HT
  generalize rNum 2 B f = N at *
  have hf1 := rTake_nil 2 B f
  obtain ⟨⟨T, B1, f1⟩, hr⟩ : ∃ r, r = rTake 2 B f := ⟨_, rfl⟩
  rw [← hr] at HT hf1 ⊢
  simp only at HT hf1 ⊢
  clear hr
  have HU := fun W H => f86_any k B1 f1 N W hn.1 hf1 H
  obtain ⟨⟨T2, B2, f2⟩, hr⟩ : ∃ r, r = rTake N B1 f1 := ⟨_, rfl⟩
  rw [← hr] at ⊢
  simp only [← hr] at HU
  simp only
  clear hr h
  go_enter Try.func40, Try.ntmps40
  go_wp2_with (first
    | (go_at_call 38; refine HT.mono ?_; clear HT; rintro e w1 ⟨rfl, t1, u1⟩)
    | (go_at_call 86; refine (HU _ t1).mono ?_; rintro e w2 ⟨rfl, t2, u2⟩))
  go_ret
  exact ⟨rfl, t2, u1.trans u2⟩
end Go.Proofs.Ytghkkhafnkkomaa
