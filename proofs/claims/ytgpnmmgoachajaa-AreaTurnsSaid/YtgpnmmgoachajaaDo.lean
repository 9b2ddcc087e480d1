/- The disk's small functions: there, call, Size, Waiting, Writes, Limit, done. -/
import Derived.Test.YtgpnmmgoachajaaDn
namespace Go.Proofs.Ytgpnmmgoachajaa
open Go.RowKit
open Go.Proofs

def thereOf (len : Nat) (at_ n : Int) : Int := if 0 ≤ n ∧ 0 ≤ at_ ∧ n ≤ (len : Int) ∧ at_ ≤ (len : Int) - n then 0 else 2
set_option maxRecDepth 100000 in
theorem dk46_any {w : World} {p S M : Nat} {qv : Value} {s : Dk} (h : DiskV w p S M qv s) (at_ n : Int) : Calls Try.prog 46 #[.pointer (some ⟨p, 0, none⟩), .int .i64 at_, .int .i64 n] w fun e w' => e = .returned (.int .i64 (thereOf s.safe.length at_ n)) ∧ w = w' := by
  obtain ⟨c0, c1, c2, c3, c4, cf⟩ := h.cells
  have hb := h.big
  obtain ⟨L, hL⟩ : ∃ L, L = s.safe.length := ⟨_, rfl⟩
  rw [← hL] at c0 hb ⊢
  unfold thereOf
  clear hL h c1 c2 c3 c4 cf
  by_cases a1 : n < 0
  · rw [if_neg (by omega)]
    have g1 : (n < 0) = True := eq_true a1
    go_enter Try.func46, Try.ntmps46
    go_wp2
    go_ret
    exact ⟨rfl, rfl⟩
  · have g1 : (n < 0) = False := eq_false a1
    by_cases a2 : at_ < 0
    · rw [if_neg (by omega)]
      have g2 : (at_ < 0) = True := eq_true a2
      clear a1 a2
      go_enter Try.func46, Try.ntmps46
      go_wp2
      go_ret
      exact ⟨rfl, rfl⟩
    · have g2 : (at_ < 0) = False := eq_false a2
      by_cases a3 : (L : Int) < n
      · rw [if_neg (by omega)]
        have g3 : ((L : Int) < n) = True := eq_true a3
        clear a1 a2 a3
        go_enter Try.func46, Try.ntmps46
        go_wp2
        go_ret
        exact ⟨rfl, rfl⟩
      · have g3 : ((L : Int) < n) = False := eq_false a3
        have g5 : IntKind.i64.wrap ((L : Int) - n) = (L : Int) - n := IntWalk.i64_in _ (by omega)
        by_cases a4 : (L : Int) - n < at_
        · rw [if_neg (by omega)]
          have g4 : ((L : Int) - n < at_) = True := eq_true a4
          clear a1 a2 a3 a4
          go_enter Try.func46, Try.ntmps46
          go_wp2
          go_ret
          exact ⟨rfl, rfl⟩
        · rw [if_pos (by omega)]
          have g4 : ((L : Int) - n < at_) = False := eq_false a4
          clear a1 a2 a3 a4
          go_enter Try.func46, Try.ntmps46
          go_wp2
          go_ret
          exact ⟨rfl, rfl⟩

/-- The disk with other calls left. -/
theorem DiskV.setCalls {w : World} {p S M : Nat} {qv : Value} {s : Dk} (h : DiskV w p S M qv s) (c : Int) (hc : -1 ≤ c ∧ c ≤ 9223372036854775807) : DiskV (w.setCell ⟨p, 3, none⟩ (.int .i64 c)) p S M qv { s with calls := c } := by
  have hu : Upd (fun b => b = p) w (w.setCell ⟨p, 3, none⟩ (.int .i64 c)) := (Upd.refl (fun b => b = p) w).setCell (.inl rfl) _
  refine ⟨⟨h.ok.safe, h.ok.queue⟩, hc, h.big, ?_, hu.heap h.safe (fun e => h.pS e.symm), h.seen.upd hu (fun e => h.pM e.symm), row_keep h.queue (fun g hg => hu.block g (h.lt.2.2.2 g hg) (h.row hg).1)⟩
  have := heap_setCell_same w p 3 _ _ (.int .i64 c) h.me
  simp only [List.setIfInBounds_toArray, List.set_cons_succ, List.set_cons_zero] at this
  exact this
theorem DiskV.setWrites {w : World} {p S M : Nat} {qv : Value} {s : Dk} (h : DiskV w p S M qv s) (c : Int) : DiskV (w.setCell ⟨p, 4, none⟩ (.int .i64 c)) p S M qv { s with writes := c } := by
  have hu : Upd (fun b => b = p) w (w.setCell ⟨p, 4, none⟩ (.int .i64 c)) := (Upd.refl (fun b => b = p) w).setCell (.inl rfl) _
  refine ⟨⟨h.ok.safe, h.ok.queue⟩, h.calls, h.big, ?_, hu.heap h.safe (fun e => h.pS e.symm), h.seen.upd hu (fun e => h.pM e.symm), row_keep h.queue (fun g hg => hu.block g (h.lt.2.2.2 g hg) (h.row hg).1)⟩
  have := heap_setCell_same w p 4 _ _ (.int .i64 c) h.me
  simp only [List.setIfInBounds_toArray, List.set_cons_succ, List.set_cons_zero] at this
  exact this
theorem callTo_range (c : Int) (h : -1 ≤ c ∧ c ≤ 9223372036854775807) : -1 ≤ callTo c ∧ callTo c ≤ 9223372036854775807 := by unfold callTo; split <;> omega

set_option maxRecDepth 100000 in
theorem dk47_off {K : Nat → Prop} {w : World} {p : Nat} {s : Dk} (h : Disk K w p s) (h0 : s.calls = 0) : Calls Try.prog 47 #[.pointer (some ⟨p, 0, none⟩)] w fun e w' => e = .returned (.int .i64 10) ∧ w = w' := by
  obtain ⟨S, M, qv, h, k⟩ := h
  obtain ⟨c0, c1, c2, c3, c4, cf⟩ := h.cells
  rw [h0] at c3
  go_enter Try.func47, Try.ntmps47
  go_wp2
  go_ret
  exact ⟨rfl, rfl⟩
set_option maxRecDepth 100000 in
theorem dk47_on {K : Nat → Prop} {w : World} {p : Nat} {s : Dk} (h : Disk K w p s) (h0 : s.calls ≠ 0) :
    Calls Try.prog 47 #[.pointer (some ⟨p, 0, none⟩)] w fun e w' => e = .returned (.int .i64 0) ∧ Disk K w' p { s with calls := callTo s.calls } ∧ Upd (fun b => ¬ K b) w w' := by
  obtain ⟨S, M, qv, h, k⟩ := h
  obtain ⟨c0, c1, c2, c3, c4, cf⟩ := h.cells
  have hc := h.calls
  have f3 := cf 3
  have hx := h.setCalls (callTo s.calls) (callTo_range _ hc)
  have hpk : ¬ K p := k p (.inl rfl)
  have hu : Upd (fun b => ¬ K b) w (w.setCell ⟨p, 3, none⟩ (.int .i64 (callTo s.calls))) := (Upd.refl _ w).setCell (.inl hpk) _
  have g1 : (if s.calls - 1 < -1 then (-1 : Int) else s.calls - 1) = callTo s.calls := rfl
  have g2 : (if -1 < s.calls - 1 then s.calls - 1 else (-1 : Int)) = callTo s.calls := by unfold callTo; split <;> split <;> omega
  have g3 : max (s.calls - 1) (-1) = callTo s.calls := by unfold callTo; omega
  have g4 : IntKind.i64.wrap (s.calls - 1) = s.calls - 1 := IntWalk.i64_in _ (by omega)
  clear c0 c1 c2 c4 cf
  go_enter Try.func47, Try.ntmps47
  go_wp2
  go_ret
  exact ⟨rfl, ⟨S, M, qv, hx, k⟩, hu⟩
set_option maxRecDepth 100000 in
theorem dk27_any {K : Nat → Prop} {w : World} {p : Nat} {s : Dk} (h : Disk K w p s) : Calls Try.prog 27 #[.pointer (some ⟨p, 0, none⟩)] w fun e w' => e = .returned (.int .i64 (s.safe.length : Int)) ∧ w = w' := by
  obtain ⟨S, M, qv, h, k⟩ := h
  obtain ⟨c0, c1, c2, c3, c4, cf⟩ := h.cells
  go_enter Try.func27, Try.ntmps27
  go_wp2
  go_ret
  exact ⟨rfl, rfl⟩
theorem DiskV.qform {w : World} {p S M : Nat} {qv : Value} {s : Dk} (h : DiskV w p S M qv s) : ∃ A c, qv = .slice A s.queue.length c := by
  rcases h.queue.2 with ⟨e, h0⟩ | ⟨g, cap, cur, e, _⟩
  · exact ⟨none, 0, by rw [e, h0]⟩
  · exact ⟨_, _, e⟩
set_option maxRecDepth 100000 in
theorem dk23_any {K : Nat → Prop} {w : World} {p : Nat} {s : Dk} (h : Disk K w p s) : Calls Try.prog 23 #[.pointer (some ⟨p, 0, none⟩)] w fun e w' => e = .returned (.int .i64 (s.queue.length : Int)) ∧ w = w' := by
  obtain ⟨S, M, qv, h, k⟩ := h
  obtain ⟨A, c, rfl⟩ := h.qform
  obtain ⟨c0, c1, c2, c3, c4, cf⟩ := h.cells
  go_enter Try.func23, Try.ntmps23
  go_wp2
  go_ret
  exact ⟨rfl, rfl⟩
set_option maxRecDepth 100000 in
theorem dk24_any {K : Nat → Prop} {w : World} {p : Nat} {s : Dk} (h : Disk K w p s) : Calls Try.prog 24 #[.pointer (some ⟨p, 0, none⟩)] w fun e w' => e = .returned (.int .i64 s.writes) ∧ w = w' := by
  obtain ⟨S, M, qv, h, k⟩ := h
  obtain ⟨c0, c1, c2, c3, c4, cf⟩ := h.cells
  go_enter Try.func24, Try.ntmps24
  go_wp2
  go_ret
  exact ⟨rfl, rfl⟩
def limitTo (n : Int) : Int := if n < -1 then -1 else n
set_option maxRecDepth 100000 in
theorem dk21_any {K : Nat → Prop} {w : World} {p : Nat} {s : Dk} (h : Disk K w p s) (n : Int) (hn : n ≤ 9223372036854775807) :
    Calls Try.prog 21 #[.pointer (some ⟨p, 0, none⟩), .int .i64 n] w fun e w' => e = .returned (.tuple #[]) ∧ Disk K w' p { s with calls := limitTo n } ∧ Upd (fun b => ¬ K b) w w' := by
  obtain ⟨S, M, qv, h, k⟩ := h
  obtain ⟨c0, c1, c2, c3, c4, cf⟩ := h.cells
  have f3 := cf 3
  have hx := h.setCalls (limitTo n) (by unfold limitTo; split <;> omega)
  have hpk : ¬ K p := k p (.inl rfl)
  have hu : Upd (fun b => ¬ K b) w (w.setCell ⟨p, 3, none⟩ (.int .i64 (limitTo n))) := (Upd.refl _ w).setCell (.inl hpk) _
  have g1 : (if n < -1 then (-1 : Int) else n) = limitTo n := rfl
  have g3 : max n (-1) = limitTo n := by unfold limitTo; omega
  clear c0 c1 c2 c4 cf
  go_enter Try.func21, Try.ntmps21
  go_wp2
  refine bodyPost_end (results_none rfl _ _ _) rfl ?_
  exact ⟨rfl, ⟨S, M, qv, hx, k⟩, hu⟩

theorem DiskV.setQueue {w : World} {p S M : Nat} {qv : Value} {s : Dk} (h : DiskV w p S M qv s) : (w.setCell ⟨p, 2, none⟩ (.slice none 0 0)).heap[p]? = some (.cells #[.slice (some ⟨S, 0, none⟩) s.safe.length s.safe.length, .map (some M), .slice none 0 0, .int .i64 s.calls, .int .i64 s.writes] 85 (0, 0)) := by
  have := heap_setCell_same w p 2 _ _ (.slice none 0 0) h.me
  simp only [List.setIfInBounds_toArray, List.set_cons_succ, List.set_cons_zero] at this
  exact this
set_option maxRecDepth 100000 in
theorem dk49_any {K : Nat → Prop} {w : World} {p : Nat} {s : Dk} (h : Disk K w p s) :
    Calls Try.prog 49 #[.pointer (some ⟨p, 0, none⟩)] w fun e w' => e = .returned (.tuple #[]) ∧ Disk K w' p { s with queue := [] } ∧ Upd (fun b => ¬ K b) w w' := by
  obtain ⟨S, M, qv, h, k⟩ := h
  obtain ⟨c0, c1, c2, c3, c4, cf⟩ := h.cells
  have hq := h.setQueue
  have hu : Upd (fun b => b = p) w (w.setCell ⟨p, 2, none⟩ (.slice none 0 0)) := (Upd.refl (fun b => b = p) w).setCell (.inl rfl) _
  have hs := hu.heap h.safe (fun e => h.pS e.symm)
  have hm := h.seen.upd hu (fun e => h.pM e.symm)
  obtain ⟨w2, hr, hm2, hu2⟩ := hm.clear 0
  have d1 : (w.setCell ⟨p, 2, none⟩ (.slice none 0 0)).cell? ⟨p, 1, none⟩ = some (.map (some M)) := by rw [cell_of_row _ p _ _ _ _ hq]; rfl
  have f2 := cf 2
  have hx : DiskV w2 p S M (.slice none 0 0) { s with queue := [] } :=
    ⟨⟨h.ok.safe, fun x hx => by cases hx⟩, h.calls, h.big, hu2.heap hq h.pM, hu2.heap hs h.sM, hm2, World.ownsRow_nil _ _ _ _⟩
  have hK : Upd (fun b => ¬ K b) w w2 := (hu.mono (fun b _ e => by subst e; exact k b (.inl rfl))).trans (hu2.mono (fun b _ e => by subst e; exact k b (.inr (.inr (.inl rfl)))))
  have hk2 : ∀ b, dkB p S M (.slice none 0 0) b → ¬ K b := fun b hb => by
    rcases hb with hb | hb | hb | hb
    · exact k b (.inl hb)
    · exact k b (.inr (.inl hb))
    · exact k b (.inr (.inr (.inl hb)))
    · cases hb
  clear c0 c3 c4 cf hq hs hm hm2 hu hu2 h
  go_enter Try.func49, Try.ntmps49
  go_wp2
  refine bodyPost_end (results_none rfl _ _ _) rfl ?_

  exact ⟨rfl, ⟨S, M, _, hx, hk2⟩, hK⟩
end Go.Proofs.Ytgpnmmgoachajaa
