/- The disk's Read and Image. -/
import Derived.Test.YtgpnmmgoachajaaDe
import Derived.Test.YtgpnmmgoachajaaUp
namespace Go.Proofs.Ytgpnmmgoachajaa
open Go.RowKit
open Go.Proofs

theorem sec_octs {w : World} {b : Nat} {l : List UInt8} {t : TypeId} (h : w.heap[b]? = some (.cells (octs l).toArray t (0, 0))) : Octs w (some ⟨b, 0, none⟩) l := Cells.of_block h
theorem dk_secs {s : Dk} (c : Int) (at_ k : Nat) : dkSecs { s with calls := c } at_ k = dkSecs s at_ k := rfl

theorem make_room (c : Nat) (hc : c ≤ 4294967296) (w : World) :
    (Instr.makeSlice 22 (.int .i64 0) (.int .i64 (c : Int))).run Try.prog w = .ok (.slice (some ⟨w.heap.size, 0, none⟩) 0 c) (w.alloc (.cells (zeros c) 5)) := by
  obtain ⟨i0, hi, hz, hs1, hb⟩ := info_parts info5
  have h := run_make (P := Try.prog) w 22 5 i0 _ Try.underlying22 hi hz .i64 .i64 0 c (by omega) (by omega) (by rw [hb]; omega) (by omega)
  rw [h, hs1]
  simp [zeros, Value.cells]
theorem own_room (c : Nat) (hc : c ≤ 4294967296) (w : World) : Own (w.alloc (.cells (zeros c) 5)) w.heap.size 5 (.slice (some ⟨w.heap.size, 0, none⟩) 0 c) (octs []) := by
  refine ⟨rfl, .inr ⟨_, c, zeros c, rfl, Nat.le_refl _, heap_alloc_new w _, Nat.zero_le _, by simp only [maxLen]; omega, ?_, rfl⟩⟩
  have := congrArg List.length (zeros_list c)
  simpa using this

set_option maxRecDepth 100000 in
set_option maxHeartbeats 2000000 in
theorem dk22_on {K : Nat → Prop} {w : World} {p : Nat} {s : Dk} (h : Disk K w p s) (h0 : s.calls ≠ 0) (at_ n : Nat) (hn : at_ + n ≤ s.safe.length) :
    Calls Try.prog 22 #[.pointer (some ⟨p, 0, none⟩), .int .i64 (at_ : Int), .int .i64 (n : Int)] w fun e w' => ∃ v, e = .returned (.tuple #[v, .int .i64 0]) ∧ Up w w' v (dkSecs s at_ n) ∧ Disk (fun b => K b ∨ blk v = some b) w' p (dkRead s) ∧ Upd (fun b => ¬ K b) w w' := by
  have hbig : s.safe.length ≤ 65536 := h.choose_spec.choose_spec.choose_spec.1.big
  have hok : DkOk s := h.choose_spec.choose_spec.choose_spec.1.ok
  have hth : thereOf s.safe.length (at_ : Int) (n : Int) = 0 := by unfold thereOf; rw [if_pos (by omega)]
  have hf46 : ∀ W, Disk K W p s → Calls Try.prog 46 #[.pointer (some ⟨p, 0, none⟩), .int .i64 (at_ : Int), .int .i64 (n : Int)] W fun e w' => e = .returned (.int .i64 0) ∧ W = w' := fun W hW => by
    obtain ⟨S, M, qv, g, _⟩ := hW
    have := dk46_any g (at_ : Int) (n : Int)
    rw [hth] at this
    exact this
  have hmk : ∀ W, (Instr.makeSlice 22 (.int .i64 0) (.int .i64 ((n : Int) * 128))).run Try.prog W = .ok (.slice (some ⟨W.heap.size, 0, none⟩) 0 (n * 128)) (W.alloc (.cells (zeros (n * 128)) 5)) := fun W => by
    have := make_room (n * 128) (by omega) W
    rw [show ((n * 128 : Nat) : Int) = (n : Int) * 128 by omega] at this
    exact this
  go_enter Try.func22, Try.ntmps22
  go_wp2_with first
    | (go_at_call 46; refine (hf46 _ h).mono ?_; rintro e w0 ⟨rfl, rfl⟩)
    | (go_at_call 47; refine (dk47_on h h0).mono ?_; rintro e w1 ⟨rfl, h1, u1⟩)
  have hX : Ext w1 (w1.alloc (.cells (zeros (n * 128)) 5)) := (Ext.refl w1).alloc _
  have hup : Up w1 (w1.alloc (.cells (zeros (n * 128)) 5)) (.slice (some ⟨w1.heap.size, 0, none⟩) 0 (n * 128)) [] := Up.of_own (own_room _ (by omega) w1) (Nat.le_refl _)
  generalize w1.alloc (.cells (zeros (n * 128)) 5) = w2 at *
  go_loopw [9, 27] (fun v i wr => ∃ k : Nat, k ≤ n ∧ i = .int .i64 k ∧ Up w1 wr v (dkSecs s at_ k) ∧ Ext w1 wr) (fun _ i _ => n - (intOf i).toNat)
  case atStart => exact ⟨0, Nat.zero_le _, rfl, hup, hX⟩
  case round =>
    obtain ⟨k, hk, rfl, hu, hx⟩ := hrel
    by_cases hlt : k < n
    · have hsee := dk51_any (h1.ext hx) (at_ + k) (by show at_ + k < s.safe.length; omega)
      rw [show ((at_ + k : Nat) : Int) = (at_ : Int) + (k : Int) by omega] at hsee
      obtain ⟨l, hl⟩ : ∃ l, l = seeAt s (at_ + k) := ⟨_, rfl⟩
      have hsl : seeAt { s with calls := callTo s.calls } (at_ + k) = l := hl.symm
      have hl128 : l.length = 128 := by rw [hl]; exact length_seeAt hok _ (by omega)
      have hzl : Try.zeroCells91.size = (octs l).length := by rw [zero_size, length_octs, hl128]
      rw [hsl] at hsee
      have HL := Lib.hid hl
      have hx1 := hx
      clear hmk hf46 hsl hl
      go_wp2_with first
        | (go_at_call 51; refine hsee.mono ?_; clear hsee; rintro e w3 ⟨rfl, x3⟩)
        | (refine wpList_store_sec rfl (.tmp 11) (.tmp 34) rfl w3.heap.size 0 rfl l rfl hl128 Try.zeroCells91 91 (heap_alloc_new _ _) (by rw [zero_size]; decide) ?_; intro w4 b4 u4; rw [putAt_all _ _ hzl] at b4; have x4 : Ext wr w4 := u4.to_ext (x3.alloc _) (fun g e => by rw [e]; exact x3.size); have hx4 := hx1.trans x4; have hu4 := hu.ext x4; have y4 := sec_octs b4)
        | (at_builtin; refine wpList_up rfl (.tmp 35) (.tmp 36) rfl _ (dkSecs s at_ k) rfl hu4 hx4 (some ⟨w3.heap.size, 0, none⟩) 128 128 l rfl hl128 y4 (by rw [length_dkSecs hok at_ k (by omega), hl128]; omega) ?_; intro v5 w5 u5 x5)
      go_roundw
      case rel => exact ⟨k + 1, by omega, val_int (by omega), by rw [dkSecs_succ, ← HL.out]; exact u5, x5⟩
      case measure => simp [intOf]; omega
    · obtain rfl : k = n := by omega
      go_wp2
      refine bodyPost_ret (results_tmp2 rfl _ _ _) rfl ?_
      refine ⟨_, rfl, ⟨hu.1, fun g e => Nat.le_trans u1.size (hu.2 g e)⟩, (h1.more hx).less (fun b hb => ?_), u1.trans (Upd.of_ext _ hx)⟩
      rcases hb with hb | hb
      · exact .inl hb
      · exact .inr (hu.2 b hb)

set_option maxRecDepth 100000 in
theorem dk22_off {K : Nat → Prop} {w : World} {p : Nat} {s : Dk} (h : Disk K w p s) (at_ n : Int) (hc : thereOf s.safe.length at_ n = 2 ∨ s.calls = 0) :
    Calls Try.prog 22 #[.pointer (some ⟨p, 0, none⟩), .int .i64 at_, .int .i64 n] w fun e w' => e = .returned (.tuple #[.slice none 0 0, .int .i64 (if thereOf s.safe.length at_ n = 2 then 2 else 10)]) ∧ w' = w := by
  have hf46 : ∀ W, Disk K W p s → Calls Try.prog 46 #[.pointer (some ⟨p, 0, none⟩), .int .i64 at_, .int .i64 n] W fun e w' => e = .returned (.int .i64 (thereOf s.safe.length at_ n)) ∧ W = w' := fun W hW => by
    obtain ⟨S, M, qv, g, _⟩ := hW
    exact dk46_any g at_ n
  by_cases ht : thereOf s.safe.length at_ n = 2
  · rw [if_pos ht]
    rw [ht] at hf46
    go_enter Try.func22, Try.ntmps22
    go_wp2_with (go_at_call 46; refine (hf46 _ h).mono ?_; rintro e w0 ⟨rfl, rfl⟩)
    refine bodyPost_ret (results_tmp2 rfl _ _ _) rfl ?_
    exact ⟨rfl, rfl⟩
  · have h0 : s.calls = 0 := hc.resolve_left ht
    have ht0 : thereOf s.safe.length at_ n = 0 := by
      unfold thereOf at ht ⊢
      split
      · rfl
      · rename_i g; rw [if_neg g] at ht; exact absurd rfl ht
    rw [if_neg ht]
    rw [ht0] at hf46
    go_enter Try.func22, Try.ntmps22
    go_wp2_with first
      | (go_at_call 46; refine (hf46 _ h).mono ?_; rintro e w0 ⟨rfl, rfl⟩)
      | (go_at_call 47; refine (dk47_off h h0).mono ?_; rintro e w0 ⟨rfl, rfl⟩)
    refine bodyPost_ret (results_tmp2 rfl _ _ _) rfl ?_
    exact ⟨rfl, rfl⟩

set_option maxRecDepth 100000 in
set_option maxHeartbeats 2000000 in
theorem dk25_any {K : Nat → Prop} {w : World} {p : Nat} {s : Dk} (h : Disk K w p s) :
    Calls Try.prog 25 #[.pointer (some ⟨p, 0, none⟩)] w fun e w' => ∃ v, e = .returned v ∧ Up w w' v (dkImage s) ∧ Ext w w' := by
  have hbig : s.safe.length ≤ 65536 := h.choose_spec.choose_spec.choose_spec.1.big
  have hok : DkOk s := h.choose_spec.choose_spec.choose_spec.1.ok
  rw [dkImage_secs]
  have hc0 := h.choose_spec.choose_spec.choose_spec.1.cells.1
  generalize h.choose = S at hc0
  obtain ⟨n, hn⟩ : ∃ n, n = s.safe.length := ⟨_, rfl⟩
  rw [← hn] at hc0 ⊢
  have HN := Lib.hid hn
  go_enter Try.func25, Try.ntmps25
  clear hn
  go_wp2
  go_loopw [3, 11] (fun v i wr => ∃ k : Nat, k ≤ n ∧ i = .int .i64 k ∧ Up w wr v (dkSecs s 0 k) ∧ Ext w wr) (fun _ i _ => n - (intOf i).toNat)
  case atStart => exact ⟨0, Nat.zero_le _, rfl, ⟨Mine.nil _ _, fun g e => by cases e⟩, Ext.refl w⟩
  case round =>
    obtain ⟨k, hk, rfl, hu, hx⟩ := hrel
    by_cases hlt : k < n
    · have hsee := dk51_any (h.ext hx) k (by have := HN.out; omega)
      have hle := length_dkSecs hok 0 k (by have := HN.out; omega)
      obtain ⟨l, hl⟩ : ∃ l, l = seeAt s k := ⟨_, rfl⟩
      have hl128 : l.length = 128 := by rw [hl]; exact length_seeAt hok _ (by have := HN.out; omega)
      have hzl : Try.zeroCells91.size = (octs l).length := by rw [zero_size, length_octs, hl128]
      rw [← hl] at hsee
      have HL := Lib.hid hl
      have hx1 := hx
      have hk6 : k ≤ 65536 := by have := HN.out; omega
      clear hl
      go_wp2_with first
        | (go_at_call 51; refine hsee.mono ?_; clear hsee; rintro e w3 ⟨rfl, x3⟩)
        | (refine wpList_store_sec rfl (.tmp 5) (.tmp 16) rfl w3.heap.size 0 rfl l rfl hl128 Try.zeroCells91 91 (heap_alloc_new _ _) (by rw [zero_size]; decide) ?_; intro w4 b4 u4; rw [putAt_all _ _ hzl] at b4; have x4 : Ext wr w4 := u4.to_ext (x3.alloc _) (fun g e => by rw [e]; exact x3.size); have hx4 := hx1.trans x4; have hu4 := hu.ext x4; have y4 := sec_octs b4)
        | (at_builtin; refine wpList_up rfl (.tmp 17) (.tmp 18) rfl _ (dkSecs s 0 k) rfl hu4 hx4 (some ⟨w3.heap.size, 0, none⟩) 128 128 l rfl hl128 y4 (by rw [hle, hl128]; omega) ?_; intro v5 w5 u5 x5)
      go_roundw
      case rel => exact ⟨k + 1, by omega, val_int (by omega), by rw [dkSecs_succ, Nat.zero_add, ← HL.out]; exact u5, x5⟩
      case measure => simp [intOf]; omega
    · obtain rfl : k = n := by omega
      go_wp2
      go_ret
      exact ⟨_, rfl, hu, hx⟩
end Go.Proofs.Ytgpnmmgoachajaa
