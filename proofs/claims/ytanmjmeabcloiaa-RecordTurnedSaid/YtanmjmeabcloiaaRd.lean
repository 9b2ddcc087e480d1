/- Layer 4's reading: its struct, Read, take, Done and Left. -/
import Derived.Test.YtanmjmeabcloiaaOc
import Derived.Test.YtanmjmeabcloiaaTurns
namespace Go.Proofs.Ytanmjmeabcloiaa
open Go.RowKit
open Go.Proofs

/-- A reading's struct, in blocks of F; what is left; did it fail? -/
structure RdV (w : World) (k : Nat) (F : Nat → Prop) (A : Option Addr) (c : Nat) (B : List UInt8) (f : Bool) : Prop where
  head : w.heap[k]? = some (.cells #[.slice A B.length c, .bool f] 90 (0, 0))
  mem : F k
  le : B.length ≤ c
  rd : Octs w A B
  bl : ∀ a, A = some a → F a.block ∧ a.block ≠ k ∧ a.block < w.heap.size
  nil : f = true → B = []
def RdAt (w : World) (k : Nat) (F : Nat → Prop) (B : List UInt8) (f : Bool) : Prop := ∃ A c, RdV w k F A c B f
theorem Octs.upd {w w' : World} {G : Nat → Prop} {A : Option Addr} {l : List UInt8} (h : Octs w A l) (u : Upd G w w') (hg : ∀ a, A = some a → ¬ G a.block) : Octs w' A l := fun h0 => by
  obtain ⟨b, o, e, hc⟩ := h h0
  exact ⟨b, o, e, fun j v hv => u.cell (hc j v hv) (show ¬ G b from hg _ e)⟩
section
variable {w w' : World} {k : Nat} {F G : Nat → Prop} {A A1 : Option Addr} {c c1 : Nat} {B B1 : List UInt8} {f f1 : Bool}
theorem RdV.upd (h : RdV w k F A c B f) (u : Upd G w w') (hg : ∀ b, F b → ¬ G b) : RdV w' k F A c B f :=
  ⟨u.heap h.head (hg _ h.mem), h.mem, h.le, h.rd.upd u (fun a e => hg _ (h.bl a e).1), fun a e => ⟨(h.bl a e).1, (h.bl a e).2.1, Nat.lt_of_lt_of_le (h.bl a e).2.2 u.size⟩, h.nil⟩
theorem RdV.ext (h : RdV w k F A c B f) (u : Ext w w') : RdV w' k F A c B f := h.upd (Upd.of_ext (fun _ => False) u) (fun _ _ x => x)
theorem RdAt.upd (h : RdAt w k F B f) (u : Upd G w w') (hg : ∀ b, F b → ¬ G b) : RdAt w' k F B f := by
  obtain ⟨A, c, h⟩ := h
  exact ⟨A, c, h.upd u hg⟩
theorem RdAt.ext (h : RdAt w k F B f) (u : Ext w w') : RdAt w' k F B f := by
  obtain ⟨A, c, h⟩ := h
  exact ⟨A, c, h.ext u⟩
theorem RdV.cells (h : RdV w k F A c B f) : w.cell? ⟨k, 0, none⟩ = some (.slice A B.length c) ∧ w.cell? ⟨k, 1, none⟩ = some (.bool f) ∧ (∀ j, w.frozen? ⟨k, j, none⟩ = false) :=
  ⟨by rw [cell_of_row w k 0 _ _ (0, 0) h.head]; rfl, by rw [cell_of_row w k 1 _ _ (0, 0) h.head]; rfl, fun j => frozen_of_row w k j _ _ h.head⟩
theorem RdV.fails (h : RdV w k F A c B f) : RdAt ((w.setCell ⟨k, 0, none⟩ (.slice none 0 0)).setCell ⟨k, 1, none⟩ (.bool true)) k F [] true ∧ Upd (fun b => b = k) w ((w.setCell ⟨k, 0, none⟩ (.slice none 0 0)).setCell ⟨k, 1, none⟩ (.bool true)) := by
  have h1 := heap_setCell_same w k 0 _ _ (.slice none 0 0) h.head
  have h2 := heap_setCell_same _ k 1 _ _ (.bool true) h1
  exact ⟨⟨none, 0, h2, h.mem, Nat.le_refl _, Cells.nil _ _, (fun a e => by cases e), fun _ => rfl⟩,
    ((Upd.refl (fun b => b = k) w).setCell (p := ⟨k, 0, none⟩) (.inl rfl) _).setCell (p := ⟨k, 1, none⟩) (.inl rfl) _⟩
theorem RdV.goes (h : RdV w k F A c B false) (hr : Octs w A1 B1) (hb : ∀ a, A1 = some a → ∃ b, A = some b ∧ b.block = a.block) (hle : B1.length ≤ c1) :
    RdV (w.setCell ⟨k, 0, none⟩ (.slice A1 B1.length c1)) k F A1 c1 B1 false ∧ Upd (fun b => b = k) w (w.setCell ⟨k, 0, none⟩ (.slice A1 B1.length c1)) := by
  have h1 := heap_setCell_same w k 0 _ _ (.slice A1 B1.length c1) h.head
  have uk : Upd (fun b => b = k) w (w.setCell ⟨k, 0, none⟩ (.slice A1 B1.length c1)) := (Upd.refl (fun b => b = k) w).setCell (p := ⟨k, 0, none⟩) (.inl rfl) _
  have hbl : ∀ a, A1 = some a → F a.block ∧ a.block ≠ k ∧ a.block < w.heap.size := fun a e => by
    obtain ⟨b, e1, e2⟩ := hb a e
    rw [← e2]
    exact h.bl b e1
  exact ⟨⟨h1, h.mem, hle, hr.upd uk (fun a e => (hbl a e).2.1), fun a e => ⟨(hbl a e).1, (hbl a e).2.1, by simpa using (hbl a e).2.2⟩, fun e => by cases e⟩, uk⟩
end

set_option maxRecDepth 100000 in
theorem f25_any (A : Option Addr) (l : List UInt8) (n c : Nat) (w : World) (hn : l.length = n) (hl : n ≤ 4294967296) (hnil : A = none → l = []) (hs : ∀ a, A = some a → ∃ b o, a = ⟨b, o, none⟩) (hx : Octs w A l) :
    Calls Try.prog 42 #[.slice A n c] w fun e w' => ∃ k, e = .returned (.pointer (some ⟨k, 0, none⟩)) ∧ RdAt w' k (fun b => w.heap.size ≤ b ∧ b < w'.heap.size) l false ∧ Ext w w' := by
  subst hn
  have HC := clone_octs A l c w hl hnil hs hx
  clear hx
  go_enter Try.func42, Try.ntmps42
  go_wp2_with (go_at_call 54; refine HC.mono ?_; rintro e w1 ⟨v, rfl, o1, x1⟩; obtain ⟨B, d, rfl, hd, hx⟩ := o1.octs_form)
  go_ret
  have hs1 := x1.size
  refine ⟨_, rfl, ⟨B, d, heap_alloc_new w1 _, ⟨hs1, by simp⟩, hd, hx.alloc _, fun a e => ?_, fun e => by cases e⟩, x1.alloc _⟩
  have := o1.block a.block (by rw [e]; rfl)
  simp
  omega

/-- What is taken, what is left, does it fail? -/
def rTake (n : Int) (B : List UInt8) (f : Bool) : List UInt8 × List UInt8 × Bool := if f = true ∨ (B.length : Int) < n then ([], [], true) else (B.take n.toNat, B.drop n.toNat, false)

set_option maxRecDepth 100000 in
theorem f73_any (k : Nat) (F : Nat → Prop) (B : List UInt8) (f : Bool) (n : Int) (w : World) (hn : 0 ≤ n) (h : RdAt w k F B f) :
    Calls Try.prog 57 #[.pointer (some ⟨k, 0, none⟩), .int .i64 n] w fun e w' => ∃ A c, e = .returned (.slice A (rTake n B f).1.length c) ∧ (rTake n B f).1.length ≤ c ∧ Octs w' A (rTake n B f).1 ∧ (∀ a, A = some a → a.block ≠ k ∧ F a.block) ∧
      RdAt w' k F (rTake n B f).2.1 (rTake n B f).2.2 ∧ Upd (fun b => b = k) w w' := by
  obtain ⟨A, c, h⟩ := h
  obtain ⟨c0, c1, hf⟩ := h.cells
  unfold rTake
  cases f with
  | true =>
    rw [if_pos (.inl rfl)]
    obtain ⟨t1, u1⟩ := h.fails
    clear h
    go_enter Try.func57, Try.ntmps57
    go_wp2
    go_ret
    exact ⟨none, 0, rfl, Nat.le_refl _, Cells.nil _ _, (fun a e => by cases e), t1, u1⟩
  | false =>
    by_cases hlt : (B.length : Int) < n
    · rw [if_pos (.inr hlt)]
      obtain ⟨t1, u1⟩ := h.fails
      clear h
      go_enter Try.func57, Try.ntmps57
      go_wp2
      go_ret
      exact ⟨none, 0, rfl, Nat.le_refl _, Cells.nil _ _, (fun a e => by cases e), t1, u1⟩
    · rw [if_neg (by simp [hlt])]
      obtain ⟨m, rfl⟩ := Int.eq_ofNat_of_zero_le hn
      have hm : m ≤ B.length := by omega
      simp only [Int.toNat_natCast]
      obtain ⟨A1, a1, a2, a3, a4⟩ := cut_hi A B c m hm h.le
      obtain ⟨A2, b1, b2, b3, b4⟩ := cut_lo A B c m hm h.le
      have hl1 : (B.take m).length = m := by rw [List.length_take]; omega
      have hl2 : (B.drop m).length = B.length - m := List.length_drop
      have G := h.goes (A1 := A2) (B1 := B.drop m) (c1 := c - m) (b3 w h.rd) b4 (by rw [hl2]; have := h.le; omega)
      rw [hl2] at G
      obtain ⟨g1, g2⟩ := G
      have r1 := (a3 w h.rd).upd g2 (fun a e => by obtain ⟨b, e1, e2⟩ := a4 a e; rw [← e2]; exact (h.bl b e1).2.1)
      have hbl : ∀ a, A1 = some a → a.block ≠ k ∧ F a.block := fun a e => by
        obtain ⟨b, e1, e2⟩ := a4 a e
        rw [← e2]
        exact ⟨(h.bl b e1).2.1, (h.bl b e1).1⟩
      have hle := h.le
      clear h a3 a4 b3 b4
      generalize B.take m = T at *
      subst hl1
      go_enter Try.func57, Try.ntmps57
      go_wp2
      go_ret
      exact ⟨A1, c, rfl, by omega, r1, hbl, ⟨_, _, g1⟩, g2⟩
end Go.Proofs.Ytanmjmeabcloiaa
