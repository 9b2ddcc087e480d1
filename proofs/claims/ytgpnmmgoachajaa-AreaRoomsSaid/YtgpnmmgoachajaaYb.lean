/- The yard's Write and Read. -/
import Derived.Test.YtgpnmmgoachajaaYa
namespace Go.Proofs.Ytgpnmmgoachajaa
open Go.RowKit Go.Shelf
open Go.Proofs

/-- Made octets are written. -/
theorem wr_made {K : Nat → Prop} {w w2 : World} {p : Nat} {s : Dk} (h : Disk K w p s) (h0 : s.calls ≠ 0) (x : Ext w w2) (S : List UInt8) (U : Nat) (hS : S.length = U) (hU : U % 128 = 0) (hb : w2.heap[w.heap.size]? = some (.cells (octs S).toArray 5 (0, 0))) (at_ : Nat) (hat : at_ + U / 128 ≤ s.safe.length)
    (hwr : 0 ≤ s.writes ∧ s.writes ≤ 4294967296) (hq : s.queue.length ≤ 2147483648) (hKb : ∀ b, K b → b < w.heap.size) :
    Calls Try.prog 16 #[.pointer (some ⟨p, 0, none⟩), .int .i64 (at_ : Int), .slice (some ⟨w.heap.size, 0, none⟩) U U] w2 fun e w3 => e = .returned (.int .i64 0) ∧ Disk K w3 p (dkWrite s at_ S) ∧ Upd (fun b => ¬ K b) w w3 := by
  have hlt := (Array.getElem?_eq_some_iff.1 hb).1
  refine (dk16_on (h.grow x) h0 (some ⟨w.heap.size, 0, none⟩) S U U at_ hS hU hat (Nat.le_refl _) (sec_octs hb) (fun a e => by
    injection e with e
    rw [← e]
    exact .inr ⟨Nat.le_refl _, hlt⟩) hwr hq (fun b e => e.elim (fun e => Nat.lt_of_lt_of_le (hKb b e) x.size) (·.2))).mono ?_
  rintro e w3 ⟨rfl, h3, u3⟩
  exact ⟨rfl, h3.less (fun _ e => .inl e), (Upd.of_ext _ x).trans (u3.mono (fun b _ e y => e (.inl y)))⟩

set_option maxRecDepth 100000 in
set_option maxHeartbeats 4000000 in
theorem yWrite_on {K : Nat → Prop} {w : World} {p y fr n : Nat} {s : Dk} (h : Disk K w p s) (hc1 : s.calls = -1) (hy : YardAt w y p fr n) (wh : Nat) (hwh : wh = 0 ∨ wh = 1) (hn : n ≤ 4096) (hf : fr + 2 * n ≤ s.safe.length) (A : Option Addr) (l : List UInt8) (m c : Nat) (hl : l.length = m) (hm : m ≤ n * 128) (hmc : m ≤ c) (hx : Octs w A l) (hA : 0 < m → ∀ a, A = some a → K a.block)
    (hwr : 0 ≤ s.writes ∧ s.writes ≤ 4294967296) (hq : s.queue.length ≤ 2147483648) (hKb : ∀ b, K b → b < w.heap.size) :
    Calls Try.prog 31 #[.pointer (some ⟨y, 0, none⟩), .int .i64 (wh : Int), .slice A m c] w fun e w' => e = .returned (.tuple #[.int .u32 ((Mb.crcSum l : Nat) : Int), .int .i64 0]) ∧ Disk K w' p (yWr s (fr + wh * n) l) ∧ Upd (fun b => ¬ K b) w w' := by
  have hbig : s.safe.length ≤ 65536 := h.choose_spec.choose_spec.choose_spec.1.big
  have hwn : wh * n ≤ n := by rcases hwh with rfl | rfl <;> omega
  have hat := at_any hy (by omega) (by omega) wh hwh
  obtain ⟨T, hT⟩ : ∃ T, T = fr + wh * n := ⟨_, rfl⟩
  rw [← hT] at hat ⊢
  have hTn : T + n ≤ s.safe.length := by omega
  have hroom : ∀ W, YardAt W y p fr n → Calls Try.prog 30 #[.pointer (some ⟨y, 0, none⟩)] W fun e w' => e = .returned (.int .i64 ((n * 128 : Nat) : Int)) ∧ W = w' := fun W h => room_any h (by omega)
  obtain ⟨M, hM⟩ : ∃ M, M = n * 128 := ⟨_, rfl⟩
  rw [← hM] at hroom
  have g1 : ((T : Int) < 0) = False := eq_false (by omega)
  have g2 : ((M : Int) < (m : Int)) = False := eq_false (by omega)
  have hs1 : ∀ W, Octs W A l → Calls Try.prog 54 #[.slice (some ⟨W.heap.size, 0, none⟩) 1 1] (W.alloc (.cells #[.slice A m c] 22)) fun e w' => e = .returned (.int .u32 ((Mb.crcSum l : Nat) : Int)) ∧ Ext W w' := fun W hx => f41_one A l m c W hl (by omega) hmc hx 22
  by_cases h0 : m = 0
  · have hyw : yWr s T l = s := by unfold yWr; rw [if_pos (hl.trans h0)]
    rw [hyw]
    have g3 : ((0 : Int) < (m : Int)) = False := eq_false (by omega)
    have g3n : (0 < m) = False := eq_false (by omega)
    clear hyw h0 hT hM hwn
    go_enter Try.func31, Try.ntmps31
    go_wp2_with first
      | (go_at_call 52; refine hat.mono ?_; clear hat; rintro e w1 ⟨rfl, x1⟩; have hy1 : YardAt w1 y p fr n := x1.heap hy; have hs1 := hs1 w1 (hx.ext x1))
      | (go_at_call 30; refine (hroom _ hy1).mono ?_; rintro e w2 ⟨rfl, rfl⟩)
      | (go_at_call 54; refine hs1.mono ?_; clear hs1; rintro e w3 ⟨rfl, x3⟩)
    go_ret2
    exact ⟨rfl, h.ext (x1.trans x3), Upd.of_ext _ (x1.trans x3)⟩
  · have hyw : yWr s T l = dkWrite s T (padTo l) := by unfold yWr; rw [if_neg (by omega)]
    rw [hyw]
    have g3 : ((0 : Int) < (m : Int)) = True := eq_true (by omega)
    have g3n : (0 < m) = True := eq_true (by omega)
    have hup : ∀ W, Calls Try.prog 53 #[.int .i64 (m : Int), .int .i64 128] W fun e w' => e = .returned (.int .i64 (((m + 127) / 128 * 128 : Nat) : Int)) ∧ W = w' := fun W => up_any m (by omega) (by omega) W
    have hpl := length_padTo l
    rw [hl] at hpl
    obtain ⟨U, hU⟩ : ∃ U, U = (m + 127) / 128 * 128 := ⟨_, rfl⟩
    rw [← hU] at hup hpl
    have hU1 : m ≤ U := by omega
    have hU2 : U % 128 = 0 := by omega
    have hU3 : T + U / 128 ≤ s.safe.length := by omega
    have hU4 : U ≤ 4294967296 := by omega
    have hpd : padTo l = l ++ (List.replicate U (0 : UInt8)).drop l.length := by
      rw [padTo, List.drop_replicate, hl, ← hU]
    have hmk : ∀ W : World, (Instr.makeSlice 22 (.int .i64 (U : Int)) (.int .i64 (U : Int))).run Try.prog W = .ok (.slice (some ⟨W.heap.size, 0, none⟩) U U) (W.alloc (.cells (zeros U) 5)) := fun W => make_octs U hU4 W
    have hzl : zeros U = (octs (List.replicate U 0)).toArray := Array.toList_inj.1 (by rw [zeros_list])
    obtain ⟨Z, hZ⟩ : ∃ Z, Z = List.replicate U (0 : UInt8) := ⟨_, rfl⟩
    rw [← hZ] at hzl hpd
    have hZl : Z.length = U := by rw [hZ, List.length_replicate]
    have hmU : m ≤ Z.length := by rw [hZl]; exact hU1
    simp only [hzl] at hmk
    have HPD := Lib.hid hpd
    have HPL := Lib.hid hpl
    have HHL := Lib.hid hl
    have h0m : 0 < m := by omega
    clear hyw h0 hT hM hwn hU hzl hpd hpl hZ hZl
    go_enter Try.func31, Try.ntmps31
    go_wp2_with first
      | (go_at_call 52; refine hat.mono ?_; clear hat; rintro e w1 ⟨rfl, x1⟩; have hy1 : YardAt w1 y p fr n := x1.heap hy; have hb1 := heap_alloc_new w1 (.cells (octs Z).toArray 5); have hx1 := (hx.ext x1).alloc (.cells (octs Z).toArray 5))
      | (go_at_call 30; refine (hroom _ hy1).mono ?_; clear hroom; rintro e w2 ⟨rfl, rfl⟩)
      | (go_at_call 53; refine (hup _).mono ?_; rintro e w3 ⟨rfl, rfl⟩)
      | (refine wpList_copy_sec rfl (.tmp 30) (.tmp 31) rfl w1.heap.size U U m c rfl A rfl Z 5 hb1 l HHL.out hU1 h0m hx1 (by rw [HHL.out]; exact hmU) ?_; intro w4 b4 u4; rw [← HPD.out] at b4; have x4 : Ext w1 w4 := u4.to_ext ((Ext.refl w1).alloc _) (fun g e => by rw [e]; exact Nat.le_refl _); have hy4 : YardAt w4 y p fr n := x4.heap hy1; obtain ⟨c0, c1, c2⟩ := yard_cells hy4; have hwr4 := wr_made (h.ext x1) (by rw [hc1]; decide) x4 (padTo l) U HPL.out hU2 b4 T hU3 hwr hq (fun b e => Nat.lt_of_lt_of_le (hKb b e) x1.size))
      | (go_at_call 16; refine hwr4.mono ?_; clear hwr4; rintro e w5 ⟨rfl, h5, u5⟩; have u15 := (Upd.of_ext (fun b => ¬ K b) x1).trans u5; have hx5 : Octs w5 A l := (fun hpos => by obtain ⟨b, o, e, hc⟩ := hx hpos; exact ⟨b, o, e, fun j u hu => u15.cell (hc j u hu) (fun x => x (hA h0m ⟨b, o, none⟩ e))⟩); have hs1 := hs1 w5 hx5)
      | (go_at_call 54; refine hs1.mono ?_; clear hs1; rintro e w6 ⟨rfl, x6⟩)
    go_ret2
    exact ⟨rfl, h5.ext x6, u15.trans (Upd.of_ext _ x6)⟩
set_option maxRecDepth 100000 in
/-- More than an area's room. -/
theorem yWrite_space {w : World} {p y fr n : Nat} (hy : YardAt w y p fr n) (wh : Nat) (hwh : wh = 0 ∨ wh = 1) (hn : n ≤ 4096) (hf : fr ≤ 65536) (A : Option Addr) (m c : Nat) (hm : n * 128 < m) :
    Calls Try.prog 31 #[.pointer (some ⟨y, 0, none⟩), .int .i64 (wh : Int), .slice A m c] w fun e w' => e = .returned (.tuple #[.int .u32 0, .int .i64 12]) ∧ Ext w w' := by
  have hat := at_any hy (by omega) (by omega) wh hwh
  have hwn : wh * n ≤ n := by rcases hwh with rfl | rfl <;> omega
  obtain ⟨T, hT⟩ : ∃ T, T = fr + wh * n := ⟨_, rfl⟩
  rw [← hT] at hat
  have hroom : ∀ W, YardAt W y p fr n → Calls Try.prog 30 #[.pointer (some ⟨y, 0, none⟩)] W fun e w' => e = .returned (.int .i64 ((n * 128 : Nat) : Int)) ∧ W = w' := fun W h => room_any h (by omega)
  obtain ⟨M, hM⟩ : ∃ M, M = n * 128 := ⟨_, rfl⟩
  rw [← hM] at hroom hm
  have g1 : ((T : Int) < 0) = False := eq_false (by omega)
  have g2 : ((M : Int) < (m : Int)) = True := eq_true (by omega)
  clear hT hM hwn
  go_enter Try.func31, Try.ntmps31
  go_wp2_with first
    | (go_at_call 52; refine hat.mono ?_; clear hat; rintro e w1 ⟨rfl, x1⟩; have hy1 : YardAt w1 y p fr n := x1.heap hy)
    | (go_at_call 30; refine (hroom _ hy1).mono ?_; clear hroom; rintro e w2 ⟨rfl, rfl⟩)
  go_ret2
  exact ⟨rfl, x1⟩
set_option maxRecDepth 100000 in
theorem yRead_arg {w : World} {p y fr n : Nat} (hy : YardAt w y p fr n) (wh : Nat) (hwh : wh = 0 ∨ wh = 1) (hn : n ≤ 4096) (hf : fr ≤ 65536) (z : Nat) (hz : n * 128 < z) (hz2 : z ≤ 4294967296) (u : Nat) :
    Calls Try.prog 32 #[.pointer (some ⟨y, 0, none⟩), .int .i64 (wh : Int), .int .i64 (z : Int), .int .u32 (u : Int)] w fun e w' => e = .returned (.tuple #[.slice none 0 0, .int .i64 2]) ∧ Ext w w' := by
  have hat := at_any hy (by omega) (by omega) wh hwh
  have hwn : wh * n ≤ n := by rcases hwh with rfl | rfl <;> omega
  obtain ⟨T, hT⟩ : ∃ T, T = fr + wh * n := ⟨_, rfl⟩
  rw [← hT] at hat
  have hroom : ∀ W, YardAt W y p fr n → Calls Try.prog 30 #[.pointer (some ⟨y, 0, none⟩)] W fun e w' => e = .returned (.int .i64 ((n * 128 : Nat) : Int)) ∧ W = w' := fun W h => room_any h (by omega)
  obtain ⟨M, hM⟩ : ∃ M, M = n * 128 := ⟨_, rfl⟩
  rw [← hM] at hroom hz
  have g1 : ((T : Int) < 0) = False := eq_false (by omega)
  have g2 : ((z : Int) < 0) = False := eq_false (by omega)
  have g3 : ((M : Int) < (z : Int)) = True := eq_true (by omega)
  clear hT hM hwn
  go_enter Try.func32, Try.ntmps32
  go_wp2_with first
    | (go_at_call 52; refine hat.mono ?_; clear hat; rintro e w1 ⟨rfl, x1⟩; have hy1 : YardAt w1 y p fr n := x1.heap hy)
    | (go_at_call 30; refine (hroom _ hy1).mono ?_; clear hroom; rintro e w2 ⟨rfl, rfl⟩)
  go_ret2
  exact ⟨rfl, x1⟩

/-- What an area's octets are. -/
def yGot (s : Dk) (at_ z : Nat) : List UInt8 := (dkSecs s at_ ((z + 127) / 128)).take z
theorem dkRead_same (s : Dk) (h : s.calls = -1) : dkRead s = s := by
  cases s
  simp only at h
  subst h
  rfl
set_option maxRecDepth 100000 in
set_option maxHeartbeats 4000000 in
theorem yRead_on {K : Nat → Prop} {w : World} {p y fr n : Nat} {s : Dk} (h : Disk K w p s) (hc1 : s.calls = -1) (hy : YardAt w y p fr n) (hKy : K y) (wh : Nat) (hwh : wh = 0 ∨ wh = 1) (hn : n ≤ 4096) (hf : fr + 2 * n ≤ s.safe.length) (z : Nat) (hz : z ≤ n * 128) (u : Nat) :
    Calls Try.prog 32 #[.pointer (some ⟨y, 0, none⟩), .int .i64 (wh : Int), .int .i64 (z : Int), .int .u32 (u : Int)] w fun e w' => ∃ B, (if Mb.crcSum (yGot s (fr + wh * n) z) = u then e = .returned (.tuple #[.slice B z z, .int .i64 0]) ∧ Octs w' B (yGot s (fr + wh * n) z) else e = .returned (.tuple #[.slice none 0 0, .int .i64 14])) ∧ Disk (fun b => K b ∨ blk (.slice B z z) = some b) w' p s ∧ Upd (fun b => ¬ K b) w w' := by
  have hbig : s.safe.length ≤ 65536 := h.choose_spec.choose_spec.choose_spec.1.big
  have hok : DkOk s := h.choose_spec.choose_spec.choose_spec.1.ok
  have hwn : wh * n ≤ n := by rcases hwh with rfl | rfl <;> omega
  have hat := at_any hy (by omega) (by omega) wh hwh
  obtain ⟨T, hT⟩ : ∃ T, T = fr + wh * n := ⟨_, rfl⟩
  rw [← hT] at hat ⊢
  have hTn : T + n ≤ s.safe.length := by omega
  have hroom : ∀ W, YardAt W y p fr n → Calls Try.prog 30 #[.pointer (some ⟨y, 0, none⟩)] W fun e w' => e = .returned (.int .i64 ((n * 128 : Nat) : Int)) ∧ W = w' := fun W h => room_any h (by omega)
  obtain ⟨M, hM⟩ : ∃ M, M = n * 128 := ⟨_, rfl⟩
  rw [← hM] at hroom
  have g1 : ((T : Int) < 0) = False := eq_false (by omega)
  have g2 : ((z : Int) < 0) = False := eq_false (by omega)
  have g3 : ((M : Int) < (z : Int)) = False := eq_false (by omega)
  have hs1 : ∀ W A l c, l.length = z → z ≤ c → Octs W A l → Calls Try.prog 54 #[.slice (some ⟨W.heap.size, 0, none⟩) 1 1] (W.alloc (.cells #[.slice A z c] 22)) fun e w' => e = .returned (.int .u32 ((Mb.crcSum l : Nat) : Int)) ∧ Ext W w' := fun W A l c hl hc hx => f41_one A l z c W hl (by omega) hc hx 22
  by_cases h0 : z = 0
  · have hg : yGot s T z = [] := by unfold yGot; rw [h0]; rfl
    rw [hg]
    have g4 : ((0 : Int) < (z : Int)) = False := eq_false (by omega)
    subst h0
    obtain ⟨C, hC⟩ : ∃ C, C = Mb.crcSum [] := ⟨_, rfl⟩
    have hs2 : ∀ W, Calls Try.prog 54 #[.slice (some ⟨W.heap.size, 0, none⟩) 1 1] (W.alloc (.cells #[.slice none 0 0] 22)) fun e w' => e = .returned (.int .u32 (C : Int)) ∧ Ext W w' := fun W => by rw [hC]; exact hs1 W none [] 0 rfl (Nat.le_refl _) (Octs.nil _ _)
    have ch : ∀ W, (Instr.slice 22 (.slice none 0 0) none (some (.int .i64 0)) none).run Try.prog W = .ok (.slice none 0 0) W := by
      obtain ⟨A1, hc1, _, _, hc4⟩ := cut_hi none [] 0 0 (Nat.le_refl _) (Nat.le_refl _)
      obtain rfl : A1 = none := by
        cases A1 with
        | none => rfl
        | some a => obtain ⟨b, e, _⟩ := hc4 a rfl; cases e
      exact fun W => hc1 W
    have hcm : ∀ W, (Instr.slice 22 (.slice none 0 0) none (some (.int .i64 0)) (some (.int .i64 0))).run Try.prog W = .ok (.slice none 0 0) W := fun W => cut_hm none 0 0 0 (Nat.le_refl _) W
    rw [← hC]
    clear hg hT hM hwn hs1 hC
    by_cases hcu : C = u
    · have g5 : ((C : Int) != (u : Int)) = false := by rw [hcu]; simp
      simp only [if_pos hcu]
      clear hcu
      go_enter Try.func32, Try.ntmps32
      go_wp2_with first
        | (go_at_call 52; refine hat.mono ?_; clear hat; rintro e w1 ⟨rfl, x1⟩; have hy1 : YardAt w1 y p fr n := x1.heap hy; have k1 := ch w1)
        | (go_at_call 30; refine (hroom _ hy1).mono ?_; clear hroom; rintro e w2 ⟨rfl, rfl⟩)
        | (go_at_call 54; refine (hs2 _).mono ?_; clear hs2; rintro e w3 ⟨rfl, x3⟩; have k3 := hcm w3)
      go_ret2
      exact ⟨none, ⟨rfl, Octs.nil _ _⟩, (h.ext (x1.trans x3)).less (fun b e => e.elim id (fun e => by cases e)), Upd.of_ext _ (x1.trans x3)⟩
    · have g5 : ((C : Int) != (u : Int)) = true := bne_iff_ne.2 (by omega)
      simp only [if_neg hcu]
      clear hcu
      go_enter Try.func32, Try.ntmps32
      go_wp2_with first
        | (go_at_call 52; refine hat.mono ?_; clear hat; rintro e w1 ⟨rfl, x1⟩; have hy1 : YardAt w1 y p fr n := x1.heap hy; have k1 := ch w1)
        | (go_at_call 30; refine (hroom _ hy1).mono ?_; clear hroom; rintro e w2 ⟨rfl, rfl⟩)
        | (go_at_call 54; refine (hs2 _).mono ?_; clear hs2; rintro e w3 ⟨rfl, x3⟩)
      go_ret2
      exact ⟨none, rfl, (h.ext (x1.trans x3)).less (fun b e => e.elim id (fun e => by cases e)), Upd.of_ext _ (x1.trans x3)⟩
  · have g4 : ((0 : Int) < (z : Int)) = True := eq_true (by omega)
    have g4n : (0 < z) = True := eq_true (by omega)
    have hup : ∀ W, Calls Try.prog 53 #[.int .i64 (z : Int), .int .i64 128] W fun e w' => e = .returned (.int .i64 (((z + 127) / 128 * 128 : Nat) : Int)) ∧ W = w' := fun W => up_any z (by omega) (by omega) W
    obtain ⟨q, hq⟩ : ∃ q, q = (z + 127) / 128 := ⟨_, rfl⟩
    obtain ⟨U, hU⟩ : ∃ U, U = q * 128 := ⟨_, rfl⟩
    have hg : yGot s T z = (dkSecs s T q).take z := by rw [hq]; rfl
    have hgl : (dkSecs s T q).length = U := by rw [length_dkSecs hok T q (by omega), hU, Nat.mul_comm]
    rw [hg]
    rw [← hq, ← hU] at hup
    have q1 : (U : Int).tdiv 128 = (q : Int) := by rw [Int.tdiv_eq_ediv_of_nonneg (by omega)]; omega
    have q2 : (U : Int) / 128 = (q : Int) := by omega
    have q3 : IntKind.i64.wrap (q : Int) = (q : Int) := IntWalk.i64_in _ (by omega)
    have hzU : z ≤ U := by omega
    have h22 : ∀ W, Ext w W → Calls Try.prog 22 #[.pointer (some ⟨p, 0, none⟩), .int .i64 (T : Int), .int .i64 (q : Int)] W fun e w' => ∃ B d, e = .returned (.tuple #[.slice B U d, .int .i64 0]) ∧ U ≤ d ∧ Octs w' B (dkSecs s T q) ∧ Disk (fun b => K b ∨ blk (.slice B U d) = some b) w' p s ∧ Upd (fun b => ¬ K b) W w' := fun W x => (dk22_on (h.ext x) (by rw [hc1]; decide) T q (by omega)).mono (by
      rintro e w' ⟨v, rfl, o, hd, u⟩
      rw [dkRead_same s hc1] at hd
      obtain ⟨A, c, rfl, hc, _, hx⟩ := o.form
      rw [hgl] at hc hd ⊢
      exact ⟨A, c, rfl, hc, hx, hd, u⟩)
    obtain ⟨G, hG⟩ : ∃ G, G = dkSecs s T q := ⟨_, rfl⟩
    rw [← hG] at hgl h22 ⊢
    have hGz : (G.take z).length = z := by rw [List.length_take]; omega
    obtain ⟨C, hC⟩ : ∃ C, C = Mb.crcSum (G.take z) := ⟨_, rfl⟩
    have hCl : C < 4294967296 := by rw [hC]; exact Mb.crcSum_lt _
    rw [← hC]
    have hs2 : ∀ W A c, z ≤ c → Octs W A (G.take z) → Calls Try.prog 54 #[.slice (some ⟨W.heap.size, 0, none⟩) 1 1] (W.alloc (.cells #[.slice A z c] 22)) fun e w' => e = .returned (.int .u32 (C : Int)) ∧ Ext W w' := fun W A c hc hx => by rw [hC]; exact hs1 W A _ c hGz hc hx
    have HGL := Lib.hid hgl
    have hcut : ∀ B d, U ≤ d → ∃ A1, (∀ w, (Instr.slice 22 (.slice B U d) none (some (.int .i64 (z : Int))) none).run Try.prog w = .ok (.slice A1 z d) w) ∧ (∀ w, Octs w B G → Octs w A1 (G.take z)) := fun B d hd => by
      obtain ⟨A1, h1, _, h3, _⟩ := cut_hi B G d z (by omega) (by omega)
      rw [hgl] at h1
      exact ⟨A1, h1, h3⟩
    have hz0 : z ≤ 4294967296 := by omega
    clear hg hT hM hwn hs1 hC hU hq hG hgl h0
    by_cases hcu : C = u
    case' pos => have g5 : ((C : Int) != (u : Int)) = false := by rw [hcu]; simp
    case' neg => have g5 : ((C : Int) != (u : Int)) = true := bne_iff_ne.2 (by omega)
    case' pos => simp only [if_pos hcu]; clear hcu
    case' neg => simp only [if_neg hcu]; clear hcu
    all_goals
      go_enter Try.func32, Try.ntmps32
      go_wp2_with first
        | (go_at_call 52; refine hat.mono ?_; clear hat; rintro e w1 ⟨rfl, x1⟩; have hy1 : YardAt w1 y p fr n := x1.heap hy; obtain ⟨c0, c1, c2⟩ := yard_cells hy1)
        | (go_at_call 30; refine (hroom _ hy1).mono ?_; clear hroom; rintro e w2 ⟨rfl, rfl⟩)
      refine wp_region_held_drew (S := fun w' => Upd (fun b => ¬ K b) w1 w') (by kernel_rfl) ((Upd.refl _ _).drew) (fun hS => ?_)
      refine takeH (i := 0) (v := ?_) rfl rfl (by kernel_rfl) (by kernel_rfl) (by kernel_rfl) (fun _ _ _ h => h) (Or.inl ⟨by kernel_rfl, ?_⟩) hS ?_
      rotate_left 1
      · (intro w' hS'; go_simp; try (with_reducible rfl))
      simp only [List.setIfInBounds_toArray, List.set_cons_succ, List.set_cons_zero]
      refine takeH (i := 1) (v := ?_) rfl rfl (by kernel_rfl) (by kernel_rfl) (by kernel_rfl) (fun _ _ _ h => h) (Or.inl ⟨by kernel_rfl, ?_⟩) hS ?_
      rotate_left 1
      · (intro w' hS'; go_simp; try (with_reducible rfl))
      simp only [List.setIfInBounds_toArray, List.set_cons_succ, List.set_cons_zero]
      refine takeH (i := 2) (v := ?_) rfl rfl (by kernel_rfl) (by kernel_rfl) (by kernel_rfl) (fun _ _ _ h => h) (Or.inl ⟨by kernel_rfl, ?_⟩) hS ?_
      rotate_left 1
      · (intro w' hS'; go_simp; try (with_reducible rfl))
      simp only [List.setIfInBounds_toArray, List.set_cons_succ, List.set_cons_zero]
      refine takeH (i := 3) (v := ?_) rfl rfl (by kernel_rfl) (by kernel_rfl) (by kernel_rfl) (fun _ _ _ h => h) (Or.inl ⟨by kernel_rfl, ?_⟩) hS ?_
      rotate_left 1
      · (intro w' hS'; have c0 := hS'.cell c0 (fun x => x hKy); go_simp; try (with_reducible rfl))
      simp only [List.setIfInBounds_toArray, List.set_cons_succ, List.set_cons_zero]
      refine takeH (i := 4) (v := ?_) rfl rfl (by kernel_rfl) (by kernel_rfl) (by kernel_rfl) (fun _ _ _ h => h) (Or.inl ⟨by kernel_rfl, ?_⟩) hS ?_
      rotate_left 1
      · (intro w' hS'; go_simp; try (with_reducible rfl))
      simp only [List.setIfInBounds_toArray, List.set_cons_succ, List.set_cons_zero]
      refine takeH (i := 5) (v := ?_) rfl rfl (by kernel_rfl) (by kernel_rfl) (by kernel_rfl) (fun _ _ _ h => h) (Or.inl ⟨by kernel_rfl, ?_⟩) hS ?_
      rotate_left 1
      · (intro w' hS'; go_simp; try (with_reducible rfl))
      simp only [List.setIfInBounds_toArray, List.set_cons_succ, List.set_cons_zero]
      refine wpAnyH_ready (rs := [6]) (by kernel_rfl) (by simp) ?_
      refine AllReadyH.cons rfl (fun K hK => ?_) ?_
      rotate_left 1
      · exact AllReadyH.nil
      go_simp
      refine (hup _).mono ?_; rintro e w6 ⟨rfl, rfl⟩
      refine hK.out _ _ (hS) (fun hS => ?_)
      clear hK K
      refine takeH (i := 7) (v := ?_) rfl rfl (by kernel_rfl) (by kernel_rfl) (by kernel_rfl) (fun _ _ _ h => h) (Or.inl ⟨by kernel_rfl, ?_⟩) hS ?_
      rotate_left 1
      · (intro w' hS'; go_simp; try (with_reducible rfl))
      simp only [List.setIfInBounds_toArray, List.set_cons_succ, List.set_cons_zero]
      refine wpAnyH_ready (rs := [8]) (by kernel_rfl) (by simp) ?_
      refine AllReadyH.cons rfl (fun K hK => ?_) ?_
      rotate_left 1
      · exact AllReadyH.nil
      go_simp
      refine (h22 _ (x1.drew)).mono ?_; clear h22; rintro e w8 ⟨B, d, rfl, hUd, hx8, h8, u8⟩
      refine hK.out _ _ (hS.trans u8) (fun hS => ?_)
      clear hK K
      refine takeH (i := 9) (v := ?_) rfl rfl (by kernel_rfl) (by kernel_rfl) (by kernel_rfl) (fun _ _ _ h => h) (Or.inl ⟨by kernel_rfl, ?_⟩) hS ?_
      rotate_left 1
      · (intro w' hS'; go_simp; try (with_reducible rfl))
      simp only [List.setIfInBounds_toArray, List.set_cons_succ, List.set_cons_zero]
      refine takeH (i := 10) (v := ?_) rfl rfl (by kernel_rfl) (by kernel_rfl) (by kernel_rfl) (fun _ _ _ h => h) (Or.inl ⟨by kernel_rfl, ?_⟩) hS ?_
      rotate_left 1
      · (intro w' hS'; go_simp; try (with_reducible rfl))
      simp only [List.setIfInBounds_toArray, List.set_cons_succ, List.set_cons_zero]
      refine takeH (i := 11) (v := ?_) rfl rfl (by kernel_rfl) (by kernel_rfl) (by kernel_rfl) (fun _ _ _ h => h) (Or.inl ⟨by kernel_rfl, ?_⟩) hS ?_
      rotate_left 1
      · (intro w' hS'; go_simp; try (with_reducible rfl))
      simp only [List.setIfInBounds_toArray, List.set_cons_succ, List.set_cons_zero]
      refine takeH (i := 12) (v := ?_) rfl rfl (by kernel_rfl) (by kernel_rfl) (by kernel_rfl) (fun _ _ _ h => h) (Or.inl ⟨by kernel_rfl, ?_⟩) hS ?_
      rotate_left 1
      · (intro w' hS'; go_simp; try (with_reducible rfl))
      simp only [List.setIfInBounds_toArray, List.set_cons_succ, List.set_cons_zero]
      refine takeH (i := 13) (v := ?_) rfl rfl (by kernel_rfl) (by kernel_rfl) (by kernel_rfl) (fun _ _ _ h => h) (Or.inl ⟨by kernel_rfl, ?_⟩) hS ?_
      rotate_left 1
      · (intro w' hS'; go_simp; try (with_reducible rfl))
      simp only [List.setIfInBounds_toArray, List.set_cons_succ, List.set_cons_zero]
      refine wpAnyH_done (by kernel_rfl) ?_ _
      have u17 := (Upd.of_ext (fun b => ¬ K b) x1).trans hS
      obtain ⟨A1, k1, k2⟩ := hcut B d hUd
      have k1 := k1 w8
      have hs2 := hs2 w8 A1 d (Nat.le_trans hzU hUd) (k2 _ hx8)
      go_wp2_with (go_at_call 54; refine hs2.mono ?_; clear hs2; rintro e w9 ⟨rfl, x9⟩; have k9 := cut_hm B U d z (Nat.le_trans hzU hUd) w9)
      go_ret2
    · exact ⟨B, rfl, (h8.ext x9).less (fun b e => by cases B <;> exact e), u17.trans (Upd.of_ext _ x9)⟩
    · exact ⟨B, ⟨rfl, (hx8.ext x9).take z⟩, (h8.ext x9).less (fun b e => by cases B <;> exact e), u17.trans (Upd.of_ext _ x9)⟩
end Go.Proofs.Ytgpnmmgoachajaa
