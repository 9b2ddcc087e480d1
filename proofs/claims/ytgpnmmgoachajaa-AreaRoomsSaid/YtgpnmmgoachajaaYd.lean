/- The areas' example, and the walk of AreaRooms. -/
import Derived.Test.YtgpnmmgoachajaaYc
import Derived.Lib.SlBytesConst
namespace Go.Proofs.Ytgpnmmgoachajaa
open Go.RowKit Go.Shelf
open Go.Proofs

section
variable {K : Nat → Prop} {w w' : World} {B : Option Addr} {l : List UInt8}
theorem Octs.kept (hx : Octs w B l) (u : Upd (fun b => ¬ K b) w w') (hB : 0 < l.length → ∀ a, B = some a → K a.block) : Octs w' B l := fun hpos => by
  obtain ⟨b, o, e, hc⟩ := hx hpos
  exact ⟨b, o, e, fun j v hv => u.cell (hc j v hv) (fun x => x (hB (by rw [length_octs] at hpos; exact hpos) ⟨b, o, none⟩ e))⟩
theorem Octs.in_ (hx : Octs w B l) (h0 : 0 < l.length) : ∀ a, B = some a → a.block < w.heap.size := fun a e => by
  obtain ⟨b, o, e2, hc⟩ := hx (by rw [length_octs]; exact h0)
  rw [e] at e2
  injection e2 with e2
  rw [e2]
  have h1 := hc 0 _ (List.getElem?_eq_getElem (by rw [length_octs]; exact h0))
  exact block_lt_of_cell h1
end
section
variable {K : Nat → Prop} {w : World} {p y fr n : Nat} {s : Dk}
/-- An area is read whose sum is right. -/
theorem rd_ok (h : Disk K w p s) (hc1 : s.calls = -1) (hy : YardAt w y p fr n) (hKy : K y) (wh : Nat) (hwh : wh = 0 ∨ wh = 1) (hn : n ≤ 4096) (hf : fr + 2 * n ≤ s.safe.length) (z : Nat) (hz : z ≤ n * 128) (u : Nat) (l : List UInt8) (hl : yGot s (fr + wh * n) z = l) (hu : Mb.crcSum l = u) :
    Calls Try.prog 32 #[.pointer (some ⟨y, 0, none⟩), .int .i64 (wh : Int), .int .i64 (z : Int), .int .u32 (u : Int)] w fun e w' => ∃ B, e = .returned (.tuple #[.slice B z z, .int .i64 0]) ∧ Octs w' B l ∧ Disk (fun b => K b ∨ blk (.slice B z z) = some b) w' p s ∧ Upd (fun b => ¬ K b) w w' := by
  refine (yRead_on h hc1 hy hKy wh hwh hn hf z hz u).mono ?_
  rintro e w' ⟨B, h1, h2, h3⟩
  rw [hl, if_pos hu] at h1
  exact ⟨B, h1.1, h1.2, h2, h3⟩
theorem rd_bad (h : Disk K w p s) (hc1 : s.calls = -1) (hy : YardAt w y p fr n) (hKy : K y) (wh : Nat) (hwh : wh = 0 ∨ wh = 1) (hn : n ≤ 4096) (hf : fr + 2 * n ≤ s.safe.length) (z : Nat) (hz : z ≤ n * 128) (u : Nat) (hu : Mb.crcSum (yGot s (fr + wh * n) z) ≠ u) :
    Calls Try.prog 32 #[.pointer (some ⟨y, 0, none⟩), .int .i64 (wh : Int), .int .i64 (z : Int), .int .u32 (u : Int)] w fun e w' => e = .returned (.tuple #[.slice none 0 0, .int .i64 14]) ∧ Disk K w' p s ∧ Upd (fun b => ¬ K b) w w' := by
  refine (yRead_on h hc1 hy hKy wh hwh hn hf z hz u).mono ?_
  rintro e w' ⟨B, h1, h2, h3⟩
  rw [if_neg hu] at h1
  exact ⟨h1, h2.less (fun b e => .inl e), h3⟩
end

theorem hwr1 {w w1 w2 : World} {p C : Nat} {s1 : Dk} (h1 : Disk (fun b => b < w.heap.size) w1 p (dkNew 4)) (x1 : Ext w w1) (x2 : Ext w1 w2) (hy : YardAt w2 w1.heap.size p 0 2)
    (hwr : ∀ K W p y b, Disk K W p (dkNew 4) → YardAt W y p 0 2 → K b → Octs W (some ⟨b, 0, none⟩) [97, 98, 99] → (∀ b, K b → b < W.heap.size) → Calls Try.prog 31 #[.pointer (some ⟨y, 0, none⟩), .int .i64 1, .slice (some ⟨b, 0, none⟩) 3 3] W fun e w' => e = .returned (.tuple #[.int .u32 (C : Int), .int .i64 0]) ∧ Disk K w' p s1 ∧ Upd (fun b => ¬ K b) W w') :
    Calls Try.prog 31 #[.pointer (some ⟨w1.heap.size, 0, none⟩), .int .i64 1, .slice (some ⟨w2.heap.size, 0, none⟩) 3 3] (w2.alloc (.cells #[.int .u8 97, .int .u8 98, .int .u8 99] 5 (3, 4))) fun e w' => e = .returned (.tuple #[.int .u32 (C : Int), .int .i64 0]) ∧ ∃ K, Disk K w' p s1 ∧ YardAt w' w1.heap.size p 0 2 ∧ K w1.heap.size ∧ (∀ b, ¬ K b → w.heap.size ≤ b) ∧ Ext w w' := by
  have hb3 := heap_alloc_new w2 (.cells #[.int .u8 97, .int .u8 98, .int .u8 99] 5 (3, 4))
  have x23 : Ext w2 (w2.alloc (.cells #[.int .u8 97, .int .u8 98, .int .u8 99] 5 (3, 4))) := (Ext.refl w2).alloc _
  have hs3 : (w2.alloc (.cells #[.int .u8 97, .int .u8 98, .int .u8 99] 5 (3, 4))).heap.size = w2.heap.size + 1 := World.size_alloc ..
  generalize w2.alloc (.cells #[.int .u8 97, .int .u8 98, .int .u8 99] 5 (3, 4)) = W at *
  have x3 := x2.trans x23
  obtain ⟨K, hK⟩ : ∃ K : Nat → Prop, K = fun b => b < w.heap.size ∨ (w1.heap.size ≤ b ∧ b < W.heap.size) := ⟨_, rfl⟩
  have h3 : Disk K W p (dkNew 4) := by rw [hK]; exact h1.grow x3
  have s12 := x2.size
  have s01 := x1.size
  have hKb : ∀ b, K b → b < W.heap.size := fun b e => by rw [hK] at e; rcases e with e | e <;> omega
  have hlt := (Array.getElem?_eq_some_iff.1 hy).1
  have k1 : K w2.heap.size := by rw [hK]; exact .inr ⟨s12, by omega⟩
  have ky : K w1.heap.size := by rw [hK]; exact .inr ⟨Nat.le_refl _, by omega⟩
  have hKn : ∀ b, ¬ K b → w.heap.size ≤ b := fun b e => Nat.le_of_not_lt fun h => e (by rw [hK]; exact .inl h)
  have hy3 : YardAt W w1.heap.size p 0 2 := x23.heap hy
  have hx : Octs W (some ⟨w2.heap.size, 0, none⟩) [97, 98, 99] := fun _ => ⟨_, _, rfl, fun j u hu => by
    rw [Nat.zero_add, cell_of_row W w2.heap.size j _ _ _ hb3]
    match j, hu with
    | 0, hu => exact hu
    | 1, hu => exact hu
    | 2, hu => exact hu
    | j + 3, hu => cases hu⟩
  refine (hwr K W p w1.heap.size w2.heap.size h3 hy3 k1 hx hKb).mono ?_
  rintro e w' ⟨rfl, h4, u4⟩
  exact ⟨rfl, K, h4, u4.heap hy3 (fun x => x ky), ky, hKn, u4.to_ext (x1.trans x3) hKn⟩

set_option maxRecDepth 100000 in
set_option maxHeartbeats 4000000 in
theorem aw20_any (w : World) : Calls Try.prog 28 #[] w fun e w' => e = .returned (.bool true) ∧ Ext w w' := by
  have hf15 : Calls Try.prog 15 #[.int .i64 4] w fun e w' => ∃ p, e = .returned (.tuple #[.pointer (some ⟨p, 0, none⟩), .int .i64 0]) ∧ Disk (fun b => b < w.heap.size) w' p (dkNew 4) ∧ Ext w w' := dk15_good 4 w (by omega) (by omega)
  have hnw : ∀ p W, Disk (fun b => b < w.heap.size) W p (dkNew 4) → Calls Try.prog 29 #[.pointer (some ⟨p, 0, none⟩), .int .i64 0, .int .i64 2] W fun e w' => e = .returned (.tuple #[.pointer (some ⟨W.heap.size, 0, none⟩), .int .i64 0]) ∧ YardAt w' W.heap.size p 0 2 ∧ Ext W w' := fun p W h => ynew_good h 0 2 (by omega) (by omega) (by show 0 + 2 * 2 ≤ 4; omega)
  obtain ⟨C, hC⟩ : ∃ C, C = Mb.crcSum [97, 98, 99] := ⟨_, rfl⟩
  obtain ⟨s1, hs1⟩ : ∃ s1, s1 = yWr (dkNew 4) 2 [97, 98, 99] := ⟨_, rfl⟩
  have hwr : ∀ K W p y b, Disk K W p (dkNew 4) → YardAt W y p 0 2 → K b → Octs W (some ⟨b, 0, none⟩) [97, 98, 99] → (∀ b, K b → b < W.heap.size) → Calls Try.prog 31 #[.pointer (some ⟨y, 0, none⟩), .int .i64 1, .slice (some ⟨b, 0, none⟩) 3 3] W fun e w' => e = .returned (.tuple #[.int .u32 (C : Int), .int .i64 0]) ∧ Disk K w' p s1 ∧ Upd (fun b => ¬ K b) W w' := fun K W p y b h hy hb hx hKb => by
    rw [hC, hs1]
    exact yWrite_on h rfl hy 1 (.inr rfl) (by omega) (by show 0 + 2 * 2 ≤ 4; omega) (some ⟨b, 0, none⟩) [97, 98, 99] 3 3 rfl (by omega) (Nat.le_refl _) hx (fun _ a e => by injection e with e; rw [← e]; exact hb) ⟨Int.le_refl _, by show (0 : Int) ≤ 4294967296; decide⟩ (Nat.zero_le _) hKb
  have hsc : s1.calls = -1 := by rw [hs1]; exact ywr_calls _ _ _ rfl
  have hsl : s1.safe.length = 4 := by rw [hs1, ywr_safe]; rfl
  have hr1 : ∀ K W p y, Disk K W p s1 → YardAt W y p 0 2 → K y → Calls Try.prog 32 #[.pointer (some ⟨y, 0, none⟩), .int .i64 1, .int .i64 3, .int .u32 (C : Int)] W fun e w' => ∃ B, e = .returned (.tuple #[.slice B 3 3, .int .i64 0]) ∧ Octs w' B [97, 98, 99] ∧ Disk (fun b => K b ∨ blk (.slice B 3 3) = some b) w' p s1 ∧ Upd (fun b => ¬ K b) W w' := fun K W p y h hy hKy =>
    rd_ok h hsc hy hKy 1 (.inr rfl) (by omega) (by omega) 3 (by omega) C [97, 98, 99] (by rw [hs1]; exact ex_got) hC.symm
  have hr0 : ∀ K W p y, Disk K W p s1 → YardAt W y p 0 2 → K y → Calls Try.prog 32 #[.pointer (some ⟨y, 0, none⟩), .int .i64 0, .int .i64 3, .int .u32 (C : Int)] W fun e w' => e = .returned (.tuple #[.slice none 0 0, .int .i64 14]) ∧ Disk K w' p s1 ∧ Upd (fun b => ¬ K b) W w' := fun K W p y h hy hKy =>
    rd_bad h hsc hy hKy 0 (.inl rfl) (by omega) (by omega) 3 (by omega) C (by rw [hs1, hC]; show Mb.crcSum (yGot (yWr (dkNew 4) 2 [97, 98, 99]) 0 3) ≠ _; rw [ex_zero]; exact ex_sums)
  clear hs1 hC
  go_enter Try.func28, Try.ntmps28
  go_wp2_with first
    | (go_at_call 15; refine hf15.mono ?_; clear hf15; rintro e w1 ⟨p, rfl, h1, x1⟩; have hnw := hnw p w1 h1)
    | (go_at_call 29; refine hnw.mono ?_; clear hnw; rintro e w2 ⟨rfl, hy, x2⟩; have kc := Lib.run_convert_bytes_const (P := Try.prog) w2 22 5 #[.int .u8 97, .int .u8 98, .int .u8 99] 3 3 Try.underlying22 Try.underlying5)
    | (go_at_call 31; refine (hwr1 h1 x1 x2 hy hwr).mono ?_; clear hwr; rintro e w4 ⟨rfl, K, h4, hy4, ky, hKn, X4⟩)
    | (go_at_call 32; refine (hr1 K _ p _ h4 hy4 ky).mono ?_; clear hr1; rintro e w5 ⟨B, rfl, o5, h5, u5⟩; have hy5 : YardAt w5 _ p 0 2 := u5.heap hy4 (fun x => x ky); have X5 := u5.to_ext X4 hKn)
    | (go_at_call 32; refine (hr0 _ _ p _ h5 hy5 (.inl ky)).mono ?_; clear hr0; rintro e w6 ⟨rfl, h6, u6⟩; have o6 := o5.kept u6 (fun _ a e => .inr (by rw [e]; rfl)); have k6 := conv_str B [97, 98, 99] 3 3 w6 rfl o6; have X6 := u6.to_ext X5 (fun b e => hKn b (fun x => e (.inl x))))
  go_ret
  exact ⟨rfl, X6⟩
def rooms_k (n : Nat) : Nat := n + 1

set_option maxRecDepth 100000 in
set_option maxHeartbeats 8000000 in
theorem f7_any (x c : Int) (w : World) : Calls Try.prog 7 #[.int .i64 x, .int .u8 c] w fun e w' => e = .returned (.bool true) ∧ Ext w w' := by
  obtain ⟨t, n, e1, e2, e3, e4, e5, hn6⟩ := round_mod x 6 (by omega)
  rw [show ((6 : Nat) : Int) = 6 from rfl] at e1 e2 e3 e4 e5
  have hw1 : IntKind.i64.wrap (t + 6) = t + 6 := IntWalk.i64_in _ (by omega)
  obtain ⟨k, hk⟩ : ∃ k, k = n + 1 := ⟨_, rfl⟩
  have a1 : 1 + (n : Int) = (k : Int) := by omega
  obtain ⟨k2, hk2⟩ : ∃ k2, k2 = 2 * k := ⟨_, rfl⟩
  have a2 : 2 * (k : Int) = (k2 : Int) := by omega
  obtain ⟨N, hN⟩ : ∃ N, N = k2 + 3 := ⟨_, rfl⟩
  have a3 : (k2 : Int) + 3 = (N : Int) := by omega
  obtain ⟨M, hM⟩ : ∃ M, M = k * 128 := ⟨_, rfl⟩
  have a4 : 128 * (k : Int) = (M : Int) := by omega
  obtain ⟨M1, hM1⟩ : ∃ M1, M1 = M + 1 := ⟨_, rfl⟩
  have a5 : (M : Int) + 1 = (M1 : Int) := by omega
  have b1 : IntKind.i64.wrap (k : Int) = (k : Int) := IntWalk.i64_in _ (by omega)
  have b2 : IntKind.i64.wrap (k2 : Int) = (k2 : Int) := IntWalk.i64_in _ (by omega)
  have b3 : IntKind.i64.wrap (N : Int) = (N : Int) := IntWalk.i64_in _ (by omega)
  have b4 : IntKind.i64.wrap (M : Int) = (M : Int) := IntWalk.i64_in _ (by omega)
  have b5 : IntKind.i64.wrap (M1 : Int) = (M1 : Int) := IntWalk.i64_in _ (by omega)
  have hk1 : 1 ≤ k := by omega
  have hk6 : k ≤ 6 := by omega
  have hNk : N = 2 * k + 3 := by omega
  have hf15 : ∀ W, Calls Try.prog 15 #[.int .i64 (N : Int)] W fun e w' => ∃ p, e = .returned (.tuple #[.pointer (some ⟨p, 0, none⟩), .int .i64 0]) ∧ Disk (fun b => b < W.heap.size) w' p (dkNew N) ∧ Ext W w' := fun W => dk15_good N W (by omega) (by omega)
  have hlen : (dkNew N).safe.length = N := List.length_replicate
  have hnw : ∀ p (K : Nat → Prop) W, Disk K W p (dkNew N) → Calls Try.prog 29 #[.pointer (some ⟨p, 0, none⟩), .int .i64 3, .int .i64 (k : Int)] W fun e w' => e = .returned (.tuple #[.pointer (some ⟨W.heap.size, 0, none⟩), .int .i64 0]) ∧ YardAt w' W.heap.size p 3 k ∧ Ext W w' := fun p K W h => ynew_good h 3 k (by omega) (by omega) (by rw [hlen]; omega)
  have hroom : ∀ W y p, YardAt W y p 3 k → Calls Try.prog 30 #[.pointer (some ⟨y, 0, none⟩)] W fun e w' => e = .returned (.int .i64 (M : Int)) ∧ W = w' := fun W y p h => by rw [hM]; exact room_any h (by omega)
  have hmk : ∀ W : World, (Instr.makeSlice 22 (.int .i64 (M : Int)) (.int .i64 (M : Int))).run Try.prog W = .ok (.slice (some ⟨W.heap.size, 0, none⟩) M M) (W.alloc (.cells (zeros M) 5)) := fun W => make_octs M (by omega) W
  have hzl : zeros M = (octs (List.replicate M 0)).toArray := Array.toList_inj.1 (by rw [zeros_list])
  simp only [hzl] at hmk
  obtain ⟨Z, hZ⟩ : ∃ Z, Z = List.replicate M (0 : UInt8) := ⟨_, rfl⟩
  rw [← hZ] at hmk
  have HZ : Hid (Z.length = M) := Lib.hid (by rw [hZ, List.length_replicate])
  clear hZ hzl
  have hM8 : M ≤ 768 := by omega
  have hMk := Lib.hid hM
  have hM1k := Lib.hid hM1
  have HNk := Lib.hid hNk
  clear hk hk2 hN hM hM1 hNk
  go_enter Try.func7, Try.ntmps7
  go_wp2_with first
    | (go_at_call 28; refine (aw20_any _).mono ?_; rintro e w0 ⟨rfl, x0⟩)
    | (go_at_call 15; refine (hf15 w0).mono ?_; clear hf15; rintro e w1 ⟨p, rfl, h1, x1⟩; have hnw := hnw p _ w1 h1)
    | (go_at_call 29; refine hnw.mono ?_; clear hnw; rintro e w2 ⟨rfl, hy, x2⟩)
    | (go_at_call 30; refine (hroom w2 _ p hy).mono ?_; clear hroom; rintro e w3 ⟨rfl, rfl⟩)
  clear e1 e2 e3 e4 e5 hw1
  have hbb : (w2.alloc (.cells (octs Z).toArray 5)).heap[w2.heap.size]? = some (.cells (octs Z).toArray 5 (0, 0)) := heap_alloc_new w2 _
  go_loopw [11] (fun i wr => ∃ (j : Nat) (L : List UInt8), j ≤ M ∧ i = .int .i64 (j : Int) ∧ L.length = M ∧ wr.heap[w2.heap.size]? = some (.cells (octs L).toArray 5 (0, 0)) ∧ Ext w2 wr) (fun i _ => M - (intOf i).toNat)
  case atStart => exact ⟨0, Z, Nat.zero_le _, rfl, HZ.out, hbb, (Ext.refl w2).alloc _⟩
  case round =>
    obtain ⟨j, L, hj, rfl, hL, hb, x3⟩ := hrel
    clear hbb
    by_cases hlt : j < M
    · have hjL : j < L.length := by omega
      obtain ⟨q, hq⟩ : ∃ q, q = j % 256 := ⟨_, rfl⟩
      have v1 : IntKind.u8.wrap (j : Int) = (q : Int) := by rw [IntKind.wrap_u8]; omega
      obtain ⟨v, hv⟩ : ∃ v : Nat, v = ((c + (q : Int)) % 256).toNat := ⟨_, rfl⟩
      have v2 : IntKind.u8.wrap (c + (q : Int)) = (v : Int) := by rw [IntKind.wrap_u8]; omega
      have v3 : v < 256 := by omega
      have v4 : (((UInt8.ofNat v).toNat : Nat) : Int) = (v : Int) := by rw [UInt8.toNat_ofNat']; omega
      have cb : wr.cell? ⟨w2.heap.size, j, none⟩ = some (.int .u8 ((L[j].toNat : Nat) : Int)) := by
        rw [cell_of_row wr _ j _ _ _ hb]
        have := octs_get L j hjL
        simpa using this
      have fb : wr.frozen? ⟨w2.heap.size, j, none⟩ = false := frozen_of_row wr _ j _ _ hb
      have hnx : (wr.setCell ⟨w2.heap.size, j, none⟩ (.int .u8 (v : Int))).heap[w2.heap.size]? = some (.cells (octs (L.set j (UInt8.ofNat v))).toArray 5 (0, 0)) := by
        have := heap_setCell_same wr w2.heap.size j _ _ (.int .u8 (v : Int)) hb
        rw [this]
        have ho : oct (UInt8.ofNat v) = .int .u8 (v : Int) := by rw [oct, v4]
        simp only [octs, List.map_set, List.setIfInBounds_toArray, ho]
      have hex : Ext w2 (wr.setCell ⟨w2.heap.size, j, none⟩ (.int .u8 (v : Int))) := x3.setCell (p := ⟨w2.heap.size, j, none⟩) (Nat.le_refl _) _
      clear hq hv v4
      go_wp2
      go_roundw
      case rel => exact ⟨j + 1, _, by omega, val_int (by omega), by rw [List.length_set]; exact hL, hnx, hex⟩
      case measure => simp [intOf]; omega
    · obtain rfl : M = j := by omega
      clear hlt hj hmk HZ
      have s12 := x2.size
      have s23 := x3.size
      have s01 := x1.size
      have hb2 := (Array.getElem?_eq_some_iff.1 hb).1
      have hyl := (Array.getElem?_eq_some_iff.1 hy).1
      obtain ⟨K, hK⟩ : ∃ K : Nat → Prop, K = fun b => b < w0.heap.size ∨ (w1.heap.size ≤ b ∧ b < wr.heap.size) := ⟨_, rfl⟩
      have h3 : Disk K wr p (dkNew N) := by rw [hK]; exact h1.grow (x2.trans x3)
      have hKb : ∀ b, K b → b < wr.heap.size := fun b e => by rw [hK] at e; rcases e with e | e <;> omega
      have kb : K w2.heap.size := by rw [hK]; exact .inr ⟨s12, hb2⟩
      have ky : K w1.heap.size := by rw [hK]; exact .inr ⟨Nat.le_refl _, by omega⟩
      have hKn : ∀ b, ¬ K b → w.heap.size ≤ b := fun b e => Nat.le_of_not_lt fun h => e (by rw [hK]; exact .inl (Nat.lt_of_lt_of_le h x0.size))
      have hy3 : YardAt wr w1.heap.size p 3 k := x3.heap hy
      have X3 : Ext w wr := ((x0.trans x1).trans x2).trans x3
      have hoL : Octs wr (some ⟨w2.heap.size, 0, none⟩) L := sec_octs hb
      clear hK h1 s12 s23 s01 hyl hb2
      obtain ⟨s1, hs1⟩ : ∃ s1, s1 = yWr (dkNew N) (3 + 1 * k) L := ⟨_, rfl⟩
      obtain ⟨C, hC⟩ : ∃ C, C = Mb.crcSum L := ⟨_, rfl⟩
      have hmk2 : M = k * 128 := hMk.out
      have hWr : Calls Try.prog 31 #[.pointer (some ⟨w1.heap.size, 0, none⟩), .int .i64 1, .slice (some ⟨w2.heap.size, 0, none⟩) M M] wr fun e w' => e = .returned (.tuple #[.int .u32 (C : Int), .int .i64 0]) ∧ Disk K w' p s1 ∧ Upd (fun b => ¬ K b) wr w' := by
        rw [hC, hs1]
        exact yWrite_on h3 rfl hy3 1 (.inr rfl) (by omega) (by rw [hlen]; have := HNk.out; omega) (some ⟨w2.heap.size, 0, none⟩) L M M hL (by omega) (Nat.le_refl _) hoL (fun _ a e => by injection e with e; rw [← e]; exact kb) ⟨Int.le_refl _, by show (0 : Int) ≤ 4294967296; decide⟩ (Nat.zero_le _) hKb
      have hsc : s1.calls = -1 := by rw [hs1]; exact ywr_calls _ _ _ rfl
      have hsl : s1.safe.length = N := by rw [hs1, ywr_safe]; exact hlen
      have hsq : s1.queue.length = k := by
        rw [hs1, yWr, if_neg (by omega), pad_whole L k (by omega)]
        show ([] ++ cutSec (3 + 1 * k) L (L.length / 128)).length = k
        rw [List.nil_append, length_cutSec, hL]
        omega
      have hsg : yGot s1 (3 + 1 * k) M = L := by rw [hs1, ← hL]; exact got_write _ _ _
      have hRd : ∀ W, Disk K W p s1 → YardAt W w1.heap.size p 3 k → Calls Try.prog 32 #[.pointer (some ⟨w1.heap.size, 0, none⟩), .int .i64 1, .int .i64 (M : Int), .int .u32 (C : Int)] W fun e w' => ∃ B, e = .returned (.tuple #[.slice B M M, .int .i64 0]) ∧ Octs w' B L ∧ Disk (fun b => K b ∨ blk (.slice B M M) = some b) w' p s1 ∧ Upd (fun b => ¬ K b) W w' := fun W h hy =>
        rd_ok h hsc hy ky 1 (.inr rfl) (by omega) (by rw [hsl]; have := HNk.out; omega) M (by omega) C L hsg hC.symm
      have hsp : ∀ W, YardAt W w1.heap.size p 3 k → ∀ A c, Calls Try.prog 31 #[.pointer (some ⟨w1.heap.size, 0, none⟩), .int .i64 0, .slice A M1 c] W fun e w' => e = .returned (.tuple #[.int .u32 0, .int .i64 12]) ∧ Ext W w' := fun W h A c => yWrite_space h 0 (.inl rfl) (by omega) (by omega) A M1 c (by have := hM1k.out; omega)
      have hra : ∀ W, YardAt W w1.heap.size p 3 k → Calls Try.prog 32 #[.pointer (some ⟨w1.heap.size, 0, none⟩), .int .i64 0, .int .i64 (M1 : Int), .int .u32 (C : Int)] W fun e w' => e = .returned (.tuple #[.slice none 0 0, .int .i64 2]) ∧ Ext W w' := fun W h => yRead_arg h 0 (.inl rfl) (by omega) (by omega) M1 (by have := hM1k.out; omega) (by have := hM1k.out; omega) C
      have hwt : ∀ (K : Nat → Prop) W, Disk K W p s1 → Calls Try.prog 23 #[.pointer (some ⟨p, 0, none⟩)] W fun e w' => e = .returned (.int .i64 (k : Int)) ∧ W = w' := fun K W h => by
        have := dk23_any h
        rw [hsq] at this
        exact this
      have HL := Lib.hid hL
      have HML : Hid ((L ++ [(0 : UInt8)]).length = M1) := Lib.hid (by rw [List.length_append, hL, hM1k.out]; rfl)
      clear hs1 hC hmk2 hsl hsq hsg hlen
      go_wp2_with first
        | (go_at_call 31; refine hWr.mono ?_; clear hWr; rintro e w4 ⟨rfl, h4, u4⟩; have hy4 : YardAt w4 w1.heap.size p 3 k := u4.heap hy3 (fun x => x ky); have o4 := hoL.kept u4 (fun _ a e => by injection e with e; rw [← e]; exact kb); have X4 := u4.to_ext X3 hKn)
        | (go_at_call 32; refine (hRd _ h4 hy4).mono ?_; clear hRd; rintro e w5 ⟨B, rfl, z5, h5, u5⟩; have hy5 : YardAt w5 w1.heap.size p 3 k := u5.heap hy4 (fun x => x ky); have o5 := o4.kept u5 (fun _ a e => by injection e with e; rw [← e]; exact kb); have X5 := u5.to_ext X4 hKn)
        | (at_builtin; refine wpList_copyo rfl (.tmp 81) (.tmp 82) rfl rfl rfl (some ⟨w2.heap.size, 0, none⟩) M M L rfl HL.out o5 (by rw [HL.out]; omega) ?_; intro v6 w6 o6 x6)
        | (at_builtin; refine wpList_appo rfl (.tmp 83) (.tmp 84) rfl w5.heap.size v6 L rfl (o6.ext ((Ext.refl w6).alloc _)) (some ⟨w6.heap.size, 0, none⟩) 1 1 [0] rfl rfl (sec_octs (heap_alloc_new w6 (.cells #[.int .u8 0] 5))) (by rw [HL.out]; show M + 1 ≤ _; omega) (by have := x6.size; rw [World.size_alloc]; omega) ?_; intro v7 w7 o7 g7 _; have x7 : Ext w5 w7 := (x6.alloc _).grown g7 (fun b hb => (o6.block b hb).1); obtain ⟨A7, c7, rfl, _, _⟩ := o7.octs_form; rw [HML.out])
        | (go_at_call 31; refine (hsp _ (x7.heap hy5) A7 c7).mono ?_; clear hsp; rintro e w8 ⟨rfl, x8⟩; have x58 := x7.trans x8)
        | (go_at_call 32; refine (hra _ (x58.heap hy5)).mono ?_; clear hra; rintro e w9 ⟨rfl, x9⟩; have x59 := x58.trans x9; have k1 := conv_str B L M M w9 HL.out (z5.ext x59); have k2 := conv_str (some ⟨w2.heap.size, 0, none⟩) L M M w9 HL.out (o5.ext x59))
        | (go_at_call 23; refine (hwt _ _ (h5.ext x59)).mono ?_; clear hwt; rintro e w10 ⟨rfl, rfl⟩)
      go_ret
      exact ⟨rfl, X5.trans x59⟩
end Go.Proofs.Ytgpnmmgoachajaa
