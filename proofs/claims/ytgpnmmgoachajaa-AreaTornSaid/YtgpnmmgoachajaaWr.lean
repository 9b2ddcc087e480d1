/- Layer 4's writing: the fields' octets are put behind. -/
import Derived.Test.YtgpnmmgoachajaaOc
import Derived.Test.YtgpnmmgoachajaaZg
import Derived.Test.YtgpnmmgoachajaaReg
import Derived.Test.YtgpnmmgoachajaaTl
namespace Go.Proofs.Ytgpnmmgoachajaa
open Go.RowKit
open Go.Proofs

/-- How many octets a size means. -/
def wid (size : Int) : Nat := (min (max size 0) 8).toNat
theorem wid_eq (size : Int) : min (max size 0) 8 = ((wid size : Nat) : Int) := by unfold wid; omega
theorem wid_le (size : Int) : wid size ≤ 8 := by unfold wid; omega

set_option maxRecDepth 100000 in
theorem f97_sz (n size : Int) (w : World) :
    Calls Try.prog 68 #[.int .i64 n, .int .i64 size] w fun e w' => ∃ v, e = .returned v ∧ Own w' w.heap.size 5 v (octs (leN (wid size) (u64of n))) ∧ Ext w w' := by
  obtain ⟨i0, hi, hz, hs, hb⟩ := info_parts info5
  have hk := wid_le size
  have hr := wid_eq size
  generalize wid size = k at hk hr
  have Hr := Lib.hid hr
  clear hr
  go_enter Try.func68, Try.ntmps68
  go_wp2_with (go_at_call 80; refine (f180_any _ _ _).mono ?_; rintro e w' ⟨rfl, rfl⟩; rw [Hr.out])
  go_loopw [5, 9] (fun v i wr => ∃ j : Nat, j ≤ k ∧ i = .int .i64 j ∧ Own wr w.heap.size 5 v (octs (leN j (u64of n))) ∧ Ext w wr) (fun _ i _ => k - (intOf i).toNat)
  case atStart => exact ⟨0, by omega, rfl, Own.nil _ _ _, Ext.refl _⟩
  case round =>
    obtain ⟨j, hj, rfl, hown, hext⟩ := hrel
    by_cases hlt : j < k
    · have hsz := hext.size
      go_wp2_with (at_builtin; refine wpList_app rfl (.tmp 12) (.tmp 19) _ rfl w.heap.size 5 i0 (.int .u8 0) 1 Try.underlying22 hi hz hs hb rfl u5 (octs (leN j (u64of n))) rfl (hown.alloc _) (some ⟨wr.heap.size, 0, none⟩) 1 1 [.int .u8 (IntKind.u64.wrap n / 2 ^ (8 * j) % 256)] rfl rfl (Cells.new1 _ _ _) (by simp [Value.oneCell']) ?_ (by omega) ?_ ?_)
      · simp [length_leN]; omega
      · simp; omega
      intro v' w1 hown1 hg1 _
      have hext1 : Ext w w1 := (hext.alloc _).grown hg1 (fun b hb => (hown.block b hb).1)
      clear hg1
      go_wp2
      go_roundw
      case rel => exact ⟨j + 1, by omega, by go_num, by rw [leN_succ, octs_append, lay_octet]; exact hown1, hext1⟩
      case measure => simp [intOf]; omega
    · go_wp2
      go_ret
      obtain rfl : j = k := by omega
      exact ⟨_, rfl, hown, hext⟩

/-- A writing's struct and its octets, in blocks of F. -/
structure WrV (w : World) (k : Nat) (F : Nat → Prop) (v : Value) (l : List UInt8) : Prop where
  head : w.heap[k]? = some (.cells #[v] 140 (0, 0))
  mem : F k
  own : Mine w 5 v (octs l)
  bl : ∀ g, blk v = some g → F g ∧ g ≠ k
def WrAt (w : World) (k : Nat) (F : Nat → Prop) (l : List UInt8) : Prop := ∃ v, WrV w k F v l
section
variable {w w' : World} {k : Nat} {F G : Nat → Prop} {v v' : Value} {l l' : List UInt8}
theorem WrV.upd (h : WrV w k F v l) (u : Upd G w w') (hg : ∀ b, F b → ¬ G b) : WrV w' k F v l :=
  ⟨u.heap h.head (hg _ h.mem), h.mem, h.own.upd u (fun g e => hg g (h.bl g e).1), h.bl⟩
theorem WrV.ext (h : WrV w k F v l) (u : Ext w w') : WrV w' k F v l := h.upd (Upd.of_ext (fun _ => False) u) (fun _ _ x => x)
theorem WrV.mono (h : WrV w k F v l) (hg : ∀ b, F b → G b) : WrV w k G v l := ⟨h.head, hg _ h.mem, h.own, fun g e => ⟨hg g (h.bl g e).1, (h.bl g e).2⟩⟩
theorem WrAt.upd (h : WrAt w k F l) (u : Upd G w w') (hg : ∀ b, F b → ¬ G b) : WrAt w' k F l := by
  obtain ⟨v, h⟩ := h
  exact ⟨v, h.upd u hg⟩
theorem WrAt.ext (h : WrAt w k F l) (u : Ext w w') : WrAt w' k F l := by
  obtain ⟨v, h⟩ := h
  exact ⟨v, h.ext u⟩
theorem WrAt.mono (h : WrAt w k F l) (hg : ∀ b, F b → G b) : WrAt w k G l := by
  obtain ⟨v, h⟩ := h
  exact ⟨v, h.mono hg⟩
theorem WrV.lt (h : WrV w k F v l) : k < w.heap.size := by
  rcases Nat.lt_or_ge k w.heap.size with x | x
  · exact x
  · have := h.head; rw [Array.getElem?_eq_none x] at this; cases this
theorem WrV.cells (h : WrV w k F v l) : w.cell? ⟨k, 0, none⟩ = some v ∧ w.frozen? ⟨k, 0, none⟩ = false :=
  ⟨by rw [cell_of_row w k 0 _ _ (0, 0) h.head]; rfl, frozen_of_row w k 0 _ _ h.head⟩
/-- The octets are written anew. -/
theorem WrV.set (h : WrV w k F v l) (u : Upd (fun b => blk v = some b) w w') (hm : Mine w' 5 v' (octs l')) (hb : blk v' = blk v ∨ blk v' = some w.heap.size) :
    w'.cell? ⟨k, 0, none⟩ = some v ∧ w'.frozen? ⟨k, 0, none⟩ = false ∧ WrV (w'.setCell ⟨k, 0, none⟩ v') k (Since F w w') v' l' ∧ Upd F w (w'.setCell ⟨k, 0, none⟩ v') := by
  have hk := u.heap h.head (fun e => (h.bl k e).2 rfl)
  have hks := h.lt
  have uk : Upd (fun b => b = k) w' (w'.setCell ⟨k, 0, none⟩ v') := (Upd.refl (fun b => b = k) w').setCell (p := ⟨k, 0, none⟩) (.inl rfl) v'
  have hvb : ∀ g, blk v' = some g → Since F w w' g ∧ g ≠ k := by
    intro g e
    rcases hb with hb | hb
    · rw [hb] at e
      exact ⟨.inl (h.bl g e).1, (h.bl g e).2⟩
    · have hg := hm.lt e
      rw [hb] at e
      cases e
      exact ⟨.inr ⟨Nat.le_refl _, hg⟩, by omega⟩
  exact ⟨by rw [cell_of_row w' k 0 _ _ (0, 0) hk]; rfl, frozen_of_row w' k 0 _ _ hk,
    ⟨heap_setCell_same w' k 0 _ _ v' hk, .inl h.mem, hm.upd uk (fun g e => (hvb g e).2), hvb⟩,
    (u.mono (G := F) (fun b _ e => (h.bl b e).1)).trans (uk.mono (fun b _ e => by subst e; exact h.mem))⟩
end

set_option maxRecDepth 100000 in
theorem f64_any (w : World) : Calls Try.prog 75 #[] w fun e w' => e = .returned (.pointer (some ⟨w.heap.size, 0, none⟩)) ∧ WrAt w' w.heap.size (fun b => b = w.heap.size) [] ∧ Ext w w' ∧ w'.heap.size = w.heap.size + 1 := by
  go_enter Try.func75, Try.ntmps75
  go_wp2
  go_ret
  exact ⟨rfl, ⟨_, heap_alloc_new w _, rfl, Mine.nil _ _, fun g e => by cases e⟩, (Ext.refl w).alloc _, by simp⟩

set_option maxRecDepth 100000 in
theorem f68_any (k : Nat) (F : Nat → Prop) (l : List UInt8) (w : World) (hl : l.length ≤ 4294967290) (h : WrAt w k F l) :
    Calls Try.prog 78 #[.pointer (some ⟨k, 0, none⟩)] w fun e w' => ∃ v, e = .returned v ∧ Own w' w.heap.size 5 v (octs l) ∧ Ext w w' := by
  obtain ⟨v, h⟩ := h
  obtain ⟨c0, hf⟩ := h.cells
  obtain ⟨A, c, rfl, hc, _, hx⟩ := h.own.octs_form
  have HC := clone_mine A l c w (by omega) h.own
  clear h hx
  go_enter Try.func78, Try.ntmps78
  go_wp2_with (go_at_call 84; refine HC.mono ?_; rintro e w1 ⟨v, rfl, h1, h2⟩)
  go_ret
  exact ⟨_, rfl, h1, h2⟩
end Go.Proofs.Ytgpnmmgoachajaa
