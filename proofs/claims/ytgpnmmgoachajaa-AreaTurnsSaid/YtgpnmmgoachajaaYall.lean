/- Layer 20: the yard's functions, areas in plain Lean, and the walks of AreaRooms, AreaTurns and AreaTorn. -/
import Derived.Test.YtgpnmmgoachajaaDy
import Derived.Test.YtgpnmmgoachajaaSeal
import Derived.Test.YtgpnmmgoachajaaHd
import Derived.Test.YtgpnmmgoachajaaEn
import Derived.Lib.SlBytesConst
import Derived.Test.YtgpnmmgoachajaaRefCrc
namespace Go.Proofs.Ytgpnmmgoachajaa
open Go.RowKit Go.Shelf
open Go.Proofs

section
variable {w : World} {ops : Array Oper} {rest : List Oper} {o : Oper} {a : Act} {Q : Exit → Act → World → Prop}
/-- Octets copied into a row that is known whole, from its beginning. -/
theorem wpList_copy_sec (hgd : o.guard = none) (d s : Operand) (ho : o.op = .call { callee := .builtin .copy, args := #[d, s], argTypes := #[22, 22] })
    (g dLen dCap sLen sCap : Nat) (hd : a.eval d = .slice (some ⟨g, 0, none⟩) dLen dCap) (sp : Option Addr) (hs : a.eval s = .slice sp sLen sCap)
    (L : List UInt8) (t : TypeId) (hg : w.heap[g]? = some (.cells (octs L).toArray t (0, 0))) (q : List UInt8) (hq : q.length = sLen) (hle : sLen ≤ dLen)
    (h0 : 0 < sLen) (hx : Octs w sp q) (hfit : q.length ≤ L.length)
    (h : ∀ w', w'.heap[g]? = some (.cells (octs (q ++ L.drop q.length)).toArray t (0, 0)) → Upd (fun b => b = g) w w' → wpList Try.prog ops Q rest (a.put o.dst (goInt q.length)) w') : wpList Try.prog ops Q (o :: rest) a w := by
  subst hq
  obtain ⟨b, o2, rfl, _⟩ := hx (by rw [length_octs]; omega)
  have hn := Cells.news hx rfl (by rw [length_octs]; omega)
  have hrun := run_copy_row (P := Try.prog) w 22 22 o.type 5 g 0 dLen dCap _ q.length sCap (octs L).toArray t (octs q) Try.underlying22 size_octet hg (by rw [length_octs]; exact (Nat.min_eq_left hle).symm) hn (by rw [length_octs, List.size_toArray, length_octs]; omega) (octs_one q)
  refine wpList_plain hgd fun K hK => ?_
  unfold Oper.wp
  simp [execOp, ho, resolve, invoke, builtin, hd, hs, hrun, Result.andThen]
  refine hK _ _ (h _ ?_ (upd_row g _ w))
  have e : octs q ++ (octs L).drop q.length = octs (q ++ L.drop q.length) := by simp [octs]
  have := setRow_heap w g _ (octs q ++ (octs L).drop q.length).toArray t _ hg
  rw [e] at this
  simpa [e] using this
end
/-- 'b[:n:n]'. -/
theorem cut_hm (A : Option Addr) (n c z : Nat) (hz : z ≤ c) (w : World) : (Instr.slice 22 (.slice A n c) none (some (.int .i64 (z : Int))) (some (.int .i64 (z : Int)))).run Try.prog w = .ok (.slice A z z) w := by
  obtain ⟨i0, hi, _, hs, _⟩ := info_parts info5
  have he : Try.prog.elem 22 = 5 := by kernel_rfl
  rw [run_slice_hm w 22 A n c (by rw [he]; exact Try.underlying22) .i64 .i64 z z (by omega) (by omega) (by omega), run_size1 22 5 i0 he hi hs]
  have e0 : (if z = 0 then A else A.map (·.add (0 * 1))) = A := by
    split
    · rfl
    · cases A <;> simp [Addr.add]
  simp [Result.andThen, sliced, e0]

/-- Octets filled up to a whole number of sectors. -/
def padTo (l : List UInt8) : List UInt8 := l ++ List.replicate ((l.length + 127) / 128 * 128 - l.length) 0
theorem length_padTo (l : List UInt8) : (padTo l).length = (l.length + 127) / 128 * 128 := by
  rw [padTo, List.length_append, List.length_replicate]; omega
/-- What an area's writing does with the disk. -/
def yWr (s : Dk) (at_ : Nat) (l : List UInt8) : Dk := if l.length = 0 then s else dkWrite s at_ (padTo l)
/-- The yard in memory. -/
abbrev YardAt (w : World) (y p fr n : Nat) : Prop := w.heap[y]? = some (.cells #[.pointer (some ⟨p, 0, none⟩), .int .i64 (fr : Int), .int .i64 (n : Int)] 97 (0, 0))
theorem yard_cells {w : World} {y p fr n : Nat} (h : YardAt w y p fr n) : w.cell? ⟨y, 0, none⟩ = some (.pointer (some ⟨p, 0, none⟩)) ∧ w.cell? ⟨y, 1, none⟩ = some (.int .i64 (fr : Int)) ∧ w.cell? ⟨y, 2, none⟩ = some (.int .i64 (n : Int)) := by
  refine ⟨?_, ?_, ?_⟩ <;> (rw [cell_of_row w y _ _ _ _ h]; rfl)

set_option maxRecDepth 100000 in
/-- ints.Up. -/
theorem up_any (x : Nat) (h1 : 1 ≤ x) (h2 : x ≤ 4294967296) (w : World) : Calls Try.prog 53 #[.int .i64 (x : Int), .int .i64 128] w fun e w' => e = .returned (.int .i64 (((x + 127) / 128 * 128 : Nat) : Int)) ∧ w = w' := by
  obtain ⟨q, hq⟩ : ∃ q, q = (x - 1) / 128 := ⟨_, rfl⟩
  obtain ⟨D, hD⟩ : ∃ D, D = 4611686018427387904 / (q + 1) := ⟨_, rfl⟩
  have hq2 : q ≤ 33554432 := by omega
  have hD2 : 128 ≤ D := by
    rw [hD, Nat.le_div_iff_mul_le (by omega)]; omega
  have hD3 : D ≤ 4611686018427387904 := by rw [hD]; exact Nat.div_le_self ..
  have g1 : ((x : Int) < 1) = False := eq_false (by omega)
  have g2 : ((4611686018427387904 : Int) < (x : Int)) = False := eq_false (by omega)
  obtain ⟨x1, hx1⟩ : ∃ x1, x1 = x - 1 := ⟨_, rfl⟩
  have s1 : (x : Int) - 1 = (x1 : Int) := by omega
  have q1 : (x1 : Int).tdiv 128 = (q : Int) := by rw [Int.tdiv_eq_ediv_of_nonneg (by omega)]; omega
  have q2 : (x1 : Int) / 128 = (q : Int) := by omega
  obtain ⟨r, hr⟩ : ∃ r, r = q + 1 := ⟨_, rfl⟩
  have r1 : (q : Int) + 1 = (r : Int) := by omega
  have d1 : (4611686018427387904 : Int).tdiv (r : Int) = (D : Int) := by rw [Int.tdiv_eq_ediv_of_nonneg (by omega), hD, hr]; rfl
  have d2 : (4611686018427387904 : Int) / (r : Int) = (D : Int) := by rw [hD, hr]; rfl
  have g3 : ((D : Int) < 128) = False := eq_false (by omega)
  obtain ⟨U, hU⟩ : ∃ U, U = (x + 127) / 128 * 128 := ⟨_, rfl⟩
  have m1 : (r : Int) * 128 = (U : Int) := by omega
  have w1 : IntKind.i64.wrap (x1 : Int) = (x1 : Int) := IntWalk.i64_in _ (by omega)
  have w2 : IntKind.i64.wrap (q : Int) = (q : Int) := IntWalk.i64_in _ (by omega)
  have w3 : IntKind.i64.wrap (r : Int) = (r : Int) := IntWalk.i64_in _ (by omega)
  have w4 : IntKind.i64.wrap (D : Int) = (D : Int) := IntWalk.i64_in _ (by omega)
  have w5 : IntKind.i64.wrap (U : Int) = (U : Int) := IntWalk.i64_in _ (by omega)
  have r0 : ¬ ((r : Int) = 0) := by omega
  rw [← hU]
  clear hq hD hx1 hr hU hD2 hD3
  go_enter Try.func53, Try.ntmps53
  go_wp2
  go_ret
  exact ⟨rfl, rfl⟩

set_option maxRecDepth 100000 in
theorem room_any {w : World} {y p fr n : Nat} (hy : YardAt w y p fr n) (hn : n ≤ 65536) : Calls Try.prog 30 #[.pointer (some ⟨y, 0, none⟩)] w fun e w' => e = .returned (.int .i64 ((n * 128 : Nat) : Int)) ∧ w = w' := by
  obtain ⟨c0, c1, c2⟩ := yard_cells hy
  have m1 : (n : Int) * 128 = ((n * 128 : Nat) : Int) := by omega
  have w1 : IntKind.i64.wrap ((n * 128 : Nat) : Int) = ((n * 128 : Nat) : Int) := IntWalk.i64_in _ (by omega)
  obtain ⟨M, hM⟩ : ∃ M, M = n * 128 := ⟨_, rfl⟩
  rw [← hM] at m1 w1 ⊢
  clear hM
  go_enter Try.func30, Try.ntmps30
  go_wp2
  go_ret
  exact ⟨rfl, rfl⟩
set_option maxRecDepth 100000 in
theorem at_any {w : World} {y p fr n : Nat} (hy : YardAt w y p fr n) (hn : n ≤ 65536) (hf : fr ≤ 65536) (wh : Nat) (hwh : wh = 0 ∨ wh = 1) : Calls Try.prog 52 #[.pointer (some ⟨y, 0, none⟩), .int .i64 (wh : Int)] w fun e w' => e = .returned (.int .i64 ((fr + wh * n : Nat) : Int)) ∧ Ext w w' := by
  obtain ⟨c0, c1, c2⟩ := yard_cells hy
  rcases hwh with rfl | rfl
  · have m1 : (fr : Int) + 0 = (fr : Int) := by omega
    have w1 : IntKind.i64.wrap (fr : Int) = (fr : Int) := IntWalk.i64_in _ (by omega)
    rw [show fr + 0 * n = fr by omega]
    go_enter Try.func52, Try.ntmps52
    go_wp2_with fail
    go_quiet (fail)
    go_wp2_with fail
    go_ret
    exact ⟨rfl, (Ext.refl w).drewN _⟩
  · obtain ⟨T, hT⟩ : ∃ T, T = fr + 1 * n := ⟨_, rfl⟩
    have m1 : (fr : Int) + (n : Int) = (T : Int) := by omega
    have w1 : IntKind.i64.wrap (T : Int) = (T : Int) := IntWalk.i64_in _ (by omega)
    have w2 : IntKind.i64.wrap (n : Int) = (n : Int) := IntWalk.i64_in _ (by omega)
    rw [← hT]
    clear hT
    go_enter Try.func52, Try.ntmps52
    go_wp2_with fail
    go_quiet (fail)
    go_wp2_with fail
    go_ret
    exact ⟨rfl, (Ext.refl w).drewN _⟩
set_option maxRecDepth 100000 in
theorem ynew_good {K : Nat → Prop} {w : World} {p : Nat} {s : Dk} (h : Disk K w p s) (fr n : Nat) (h1 : 1 ≤ n) (h2 : n ≤ 4096) (hf : fr + 2 * n ≤ s.safe.length) :
    Calls Try.prog 29 #[.pointer (some ⟨p, 0, none⟩), .int .i64 (fr : Int), .int .i64 (n : Int)] w fun e w' => e = .returned (.tuple #[.pointer (some ⟨w.heap.size, 0, none⟩), .int .i64 0]) ∧ YardAt w' w.heap.size p fr n ∧ Ext w w' := by
  have hbig : s.safe.length ≤ 65536 := h.choose_spec.choose_spec.choose_spec.1.big
  have h27 : Calls Try.prog 27 #[.pointer (some ⟨p, 0, none⟩)] w fun e w' => e = .returned (.int .i64 (s.safe.length : Int)) ∧ w = w' := dk27_any h
  obtain ⟨N, hN⟩ : ∃ N, N = s.safe.length := ⟨_, rfl⟩
  rw [← hN] at h27 hf hbig
  obtain ⟨M, hM⟩ : ∃ M, M = 2 * n := ⟨_, rfl⟩
  obtain ⟨E, hE⟩ : ∃ E, E = N - 2 * n := ⟨_, rfl⟩
  have g1 : ((n : Int) < 1) = False := eq_false (by omega)
  have g2 : ((4096 : Int) < (n : Int)) = False := eq_false (by omega)
  have g3 : ((fr : Int) < 0) = False := eq_false (by omega)
  have m1 : 2 * (n : Int) = (M : Int) := by omega
  have m2 : (N : Int) - (M : Int) = (E : Int) := by omega
  have w1 : IntKind.i64.wrap (M : Int) = (M : Int) := IntWalk.i64_in _ (by omega)
  have w2 : IntKind.i64.wrap (E : Int) = (E : Int) := IntWalk.i64_in _ (by omega)
  have g4 : ((N : Int) < (M : Int)) = False := eq_false (by omega)
  have g5 : ((E : Int) < (fr : Int)) = False := eq_false (by omega)
  clear hN hM hE
  go_enter Try.func29, Try.ntmps29
  go_wp2_with (go_at_call 27; refine h27.mono ?_; rintro e w1 ⟨rfl, rfl⟩)
  go_ret2
  exact ⟨rfl, heap_alloc_new _ _, (Ext.refl _).alloc _⟩
end Go.Proofs.Ytgpnmmgoachajaa
namespace Go.Proofs.Ytgpnmmgoachajaa
open Go.RowKit Go.Shelf
open Go.Proofs

/-- Made octets are written. -/
theorem wr_made {K : Nat → Prop} {w w2 : World} {p : Nat} {s : Dk} (h : Disk K w p s) (h0 : s.calls ≠ 0) (x : Ext w w2) (S : List UInt8) (U : Nat) (hS : S.length = U) (hU : U % 128 = 0) (hb : w2.heap[w.heap.size]? = some (.cells (octs S).toArray 5 (0, 0))) (at_ : Nat) (hat : at_ + U / 128 ≤ s.safe.length)
    (hwr : 0 ≤ s.writes ∧ s.writes ≤ 4294967296) (hq : s.queue.length ≤ 2147483648) (hKb : ∀ b, K b → b < w.heap.size) :
    Calls Try.prog 16 #[.pointer (some ⟨p, 0, none⟩), .int .i64 (at_ : Int), .slice (some ⟨w.heap.size, 0, none⟩) U U] w2 fun e w3 => e = .returned (.int .i64 0) ∧ Disk K w3 p (dkWrite s at_ S) ∧ Upd (fun b => ¬ K b) w w3 := by
  have hlt := (Array.getElem?_eq_some_iff.1 hb).1
  refine (dk16_on (h.grow x) h0 (some ⟨w.heap.size, 0, none⟩) S U U at_ hS hU hat (Nat.le_refl _) (sec_octs hb) (fun a e => by
    injection e with e
    rw [← e]
    exact .inr ⟨Nat.le_refl _, hlt⟩) hwr hq (fun b e => e.elim (fun e => Nat.lt_of_lt_of_le (hKb b e) x.size) (·.2))).mono ?_
  rintro e w3 ⟨rfl, h3, u3⟩
  exact ⟨rfl, h3.less (fun _ e => .inl e), (Upd.of_ext _ x).trans (u3.mono (fun b _ e y => e (.inl y)))⟩

set_option maxRecDepth 100000 in
set_option maxHeartbeats 4000000 in
theorem yWrite_on {K : Nat → Prop} {w : World} {p y fr n : Nat} {s : Dk} (h : Disk K w p s) (hc1 : s.calls = -1) (hy : YardAt w y p fr n) (wh : Nat) (hwh : wh = 0 ∨ wh = 1) (hn : n ≤ 4096) (hf : fr + 2 * n ≤ s.safe.length) (A : Option Addr) (l : List UInt8) (m c : Nat) (hl : l.length = m) (hm : m ≤ n * 128) (hmc : m ≤ c) (hx : Octs w A l) (hA : 0 < m → ∀ a, A = some a → K a.block)
    (hwr : 0 ≤ s.writes ∧ s.writes ≤ 4294967296) (hq : s.queue.length ≤ 2147483648) (hKb : ∀ b, K b → b < w.heap.size) :
    Calls Try.prog 31 #[.pointer (some ⟨y, 0, none⟩), .int .i64 (wh : Int), .slice A m c] w fun e w' => e = .returned (.tuple #[.int .u32 ((Mb.crcSum l : Nat) : Int), .int .i64 0]) ∧ Disk K w' p (yWr s (fr + wh * n) l) ∧ Upd (fun b => ¬ K b) w w' := by
  have hbig : s.safe.length ≤ 65536 := h.choose_spec.choose_spec.choose_spec.1.big
  have hwn : wh * n ≤ n := by rcases hwh with rfl | rfl <;> omega
  have hat := at_any hy (by omega) (by omega) wh hwh
  obtain ⟨T, hT⟩ : ∃ T, T = fr + wh * n := ⟨_, rfl⟩
  rw [← hT] at hat ⊢
  have hTn : T + n ≤ s.safe.length := by omega
  have hroom : ∀ W, YardAt W y p fr n → Calls Try.prog 30 #[.pointer (some ⟨y, 0, none⟩)] W fun e w' => e = .returned (.int .i64 ((n * 128 : Nat) : Int)) ∧ W = w' := fun W h => room_any h (by omega)
  obtain ⟨M, hM⟩ : ∃ M, M = n * 128 := ⟨_, rfl⟩
  rw [← hM] at hroom
  have g1 : ((T : Int) < 0) = False := eq_false (by omega)
  have g2 : ((M : Int) < (m : Int)) = False := eq_false (by omega)
  have hs1 : ∀ W, Octs W A l → Calls Try.prog 54 #[.slice (some ⟨W.heap.size, 0, none⟩) 1 1] (W.alloc (.cells #[.slice A m c] 22)) fun e w' => e = .returned (.int .u32 ((Mb.crcSum l : Nat) : Int)) ∧ Ext W w' := fun W hx => f41_one A l m c W hl (by omega) hmc hx 22
  by_cases h0 : m = 0
  · have hyw : yWr s T l = s := by unfold yWr; rw [if_pos (hl.trans h0)]
    rw [hyw]
    have g3 : ((0 : Int) < (m : Int)) = False := eq_false (by omega)
    have g3n : (0 < m) = False := eq_false (by omega)
    clear hyw h0 hT hM hwn
    go_enter Try.func31, Try.ntmps31
    go_wp2_with first
      | (go_at_call 52; refine hat.mono ?_; clear hat; rintro e w1 ⟨rfl, x1⟩; have hy1 : YardAt w1 y p fr n := x1.heap hy; have hs1 := hs1 w1 (hx.ext x1))
      | (go_at_call 30; refine (hroom _ hy1).mono ?_; rintro e w2 ⟨rfl, rfl⟩)
      | (go_at_call 54; refine hs1.mono ?_; clear hs1; rintro e w3 ⟨rfl, x3⟩)
    go_ret2
    exact ⟨rfl, h.ext (x1.trans x3), Upd.of_ext _ (x1.trans x3)⟩
  · have hyw : yWr s T l = dkWrite s T (padTo l) := by unfold yWr; rw [if_neg (by omega)]
    rw [hyw]
    have g3 : ((0 : Int) < (m : Int)) = True := eq_true (by omega)
    have g3n : (0 < m) = True := eq_true (by omega)
    have hup : ∀ W, Calls Try.prog 53 #[.int .i64 (m : Int), .int .i64 128] W fun e w' => e = .returned (.int .i64 (((m + 127) / 128 * 128 : Nat) : Int)) ∧ W = w' := fun W => up_any m (by omega) (by omega) W
    have hpl := length_padTo l
    rw [hl] at hpl
    obtain ⟨U, hU⟩ : ∃ U, U = (m + 127) / 128 * 128 := ⟨_, rfl⟩
    rw [← hU] at hup hpl
    have hU1 : m ≤ U := by omega
    have hU2 : U % 128 = 0 := by omega
    have hU3 : T + U / 128 ≤ s.safe.length := by omega
    have hU4 : U ≤ 4294967296 := by omega
    have hpd : padTo l = l ++ (List.replicate U (0 : UInt8)).drop l.length := by
      rw [padTo, List.drop_replicate, hl, ← hU]
    have hmk : ∀ W : World, (Instr.makeSlice 22 (.int .i64 (U : Int)) (.int .i64 (U : Int))).run Try.prog W = .ok (.slice (some ⟨W.heap.size, 0, none⟩) U U) (W.alloc (.cells (zeros U) 5)) := fun W => make_octs U hU4 W
    have hzl : zeros U = (octs (List.replicate U 0)).toArray := Array.toList_inj.1 (by rw [zeros_list])
    obtain ⟨Z, hZ⟩ : ∃ Z, Z = List.replicate U (0 : UInt8) := ⟨_, rfl⟩
    rw [← hZ] at hzl hpd
    have hZl : Z.length = U := by rw [hZ, List.length_replicate]
    have hmU : m ≤ Z.length := by rw [hZl]; exact hU1
    simp only [hzl] at hmk
    have HPD := Lib.hid hpd
    have HPL := Lib.hid hpl
    have HHL := Lib.hid hl
    have h0m : 0 < m := by omega
    clear hyw h0 hT hM hwn hU hzl hpd hpl hZ hZl
    go_enter Try.func31, Try.ntmps31
    go_wp2_with first
      | (go_at_call 52; refine hat.mono ?_; clear hat; rintro e w1 ⟨rfl, x1⟩; have hy1 : YardAt w1 y p fr n := x1.heap hy; have hb1 := heap_alloc_new w1 (.cells (octs Z).toArray 5); have hx1 := (hx.ext x1).alloc (.cells (octs Z).toArray 5))
      | (go_at_call 30; refine (hroom _ hy1).mono ?_; clear hroom; rintro e w2 ⟨rfl, rfl⟩)
      | (go_at_call 53; refine (hup _).mono ?_; rintro e w3 ⟨rfl, rfl⟩)
      | (refine wpList_copy_sec rfl (.tmp 30) (.tmp 31) rfl w1.heap.size U U m c rfl A rfl Z 5 hb1 l HHL.out hU1 h0m hx1 (by rw [HHL.out]; exact hmU) ?_; intro w4 b4 u4; rw [← HPD.out] at b4; have x4 : Ext w1 w4 := u4.to_ext ((Ext.refl w1).alloc _) (fun g e => by rw [e]; exact Nat.le_refl _); have hy4 : YardAt w4 y p fr n := x4.heap hy1; obtain ⟨c0, c1, c2⟩ := yard_cells hy4; have hwr4 := wr_made (h.ext x1) (by rw [hc1]; decide) x4 (padTo l) U HPL.out hU2 b4 T hU3 hwr hq (fun b e => Nat.lt_of_lt_of_le (hKb b e) x1.size))
      | (go_at_call 16; refine hwr4.mono ?_; clear hwr4; rintro e w5 ⟨rfl, h5, u5⟩; have u15 := (Upd.of_ext (fun b => ¬ K b) x1).trans u5; have hx5 : Octs w5 A l := (fun hpos => by obtain ⟨b, o, e, hc⟩ := hx hpos; exact ⟨b, o, e, fun j u hu => u15.cell (hc j u hu) (fun x => x (hA h0m ⟨b, o, none⟩ e))⟩); have hs1 := hs1 w5 hx5)
      | (go_at_call 54; refine hs1.mono ?_; clear hs1; rintro e w6 ⟨rfl, x6⟩)
    go_ret2
    exact ⟨rfl, h5.ext x6, u15.trans (Upd.of_ext _ x6)⟩
set_option maxRecDepth 100000 in
/-- More than an area's room. -/
theorem yWrite_space {w : World} {p y fr n : Nat} (hy : YardAt w y p fr n) (wh : Nat) (hwh : wh = 0 ∨ wh = 1) (hn : n ≤ 4096) (hf : fr ≤ 65536) (A : Option Addr) (m c : Nat) (hm : n * 128 < m) :
    Calls Try.prog 31 #[.pointer (some ⟨y, 0, none⟩), .int .i64 (wh : Int), .slice A m c] w fun e w' => e = .returned (.tuple #[.int .u32 0, .int .i64 12]) ∧ Ext w w' := by
  have hat := at_any hy (by omega) (by omega) wh hwh
  have hwn : wh * n ≤ n := by rcases hwh with rfl | rfl <;> omega
  obtain ⟨T, hT⟩ : ∃ T, T = fr + wh * n := ⟨_, rfl⟩
  rw [← hT] at hat
  have hroom : ∀ W, YardAt W y p fr n → Calls Try.prog 30 #[.pointer (some ⟨y, 0, none⟩)] W fun e w' => e = .returned (.int .i64 ((n * 128 : Nat) : Int)) ∧ W = w' := fun W h => room_any h (by omega)
  obtain ⟨M, hM⟩ : ∃ M, M = n * 128 := ⟨_, rfl⟩
  rw [← hM] at hroom hm
  have g1 : ((T : Int) < 0) = False := eq_false (by omega)
  have g2 : ((M : Int) < (m : Int)) = True := eq_true (by omega)
  clear hT hM hwn
  go_enter Try.func31, Try.ntmps31
  go_wp2_with first
    | (go_at_call 52; refine hat.mono ?_; clear hat; rintro e w1 ⟨rfl, x1⟩; have hy1 : YardAt w1 y p fr n := x1.heap hy)
    | (go_at_call 30; refine (hroom _ hy1).mono ?_; clear hroom; rintro e w2 ⟨rfl, rfl⟩)
  go_ret2
  exact ⟨rfl, x1⟩
set_option maxRecDepth 100000 in
theorem yRead_arg {w : World} {p y fr n : Nat} (hy : YardAt w y p fr n) (wh : Nat) (hwh : wh = 0 ∨ wh = 1) (hn : n ≤ 4096) (hf : fr ≤ 65536) (z : Nat) (hz : n * 128 < z) (hz2 : z ≤ 4294967296) (u : Nat) :
    Calls Try.prog 32 #[.pointer (some ⟨y, 0, none⟩), .int .i64 (wh : Int), .int .i64 (z : Int), .int .u32 (u : Int)] w fun e w' => e = .returned (.tuple #[.slice none 0 0, .int .i64 2]) ∧ Ext w w' := by
  have hat := at_any hy (by omega) (by omega) wh hwh
  have hwn : wh * n ≤ n := by rcases hwh with rfl | rfl <;> omega
  obtain ⟨T, hT⟩ : ∃ T, T = fr + wh * n := ⟨_, rfl⟩
  rw [← hT] at hat
  have hroom : ∀ W, YardAt W y p fr n → Calls Try.prog 30 #[.pointer (some ⟨y, 0, none⟩)] W fun e w' => e = .returned (.int .i64 ((n * 128 : Nat) : Int)) ∧ W = w' := fun W h => room_any h (by omega)
  obtain ⟨M, hM⟩ : ∃ M, M = n * 128 := ⟨_, rfl⟩
  rw [← hM] at hroom hz
  have g1 : ((T : Int) < 0) = False := eq_false (by omega)
  have g2 : ((z : Int) < 0) = False := eq_false (by omega)
  have g3 : ((M : Int) < (z : Int)) = True := eq_true (by omega)
  clear hT hM hwn
  go_enter Try.func32, Try.ntmps32
  go_wp2_with first
    | (go_at_call 52; refine hat.mono ?_; clear hat; rintro e w1 ⟨rfl, x1⟩; have hy1 : YardAt w1 y p fr n := x1.heap hy)
    | (go_at_call 30; refine (hroom _ hy1).mono ?_; clear hroom; rintro e w2 ⟨rfl, rfl⟩)
  go_ret2
  exact ⟨rfl, x1⟩

/-- What an area's octets are. -/
def yGot (s : Dk) (at_ z : Nat) : List UInt8 := (dkSecs s at_ ((z + 127) / 128)).take z
theorem dkRead_same (s : Dk) (h : s.calls = -1) : dkRead s = s := by
  cases s
  simp only at h
  subst h
  rfl
set_option maxRecDepth 100000 in
set_option maxHeartbeats 4000000 in
theorem yRead_on {K : Nat → Prop} {w : World} {p y fr n : Nat} {s : Dk} (h : Disk K w p s) (hc1 : s.calls = -1) (hy : YardAt w y p fr n) (hKy : K y) (wh : Nat) (hwh : wh = 0 ∨ wh = 1) (hn : n ≤ 4096) (hf : fr + 2 * n ≤ s.safe.length) (z : Nat) (hz : z ≤ n * 128) (u : Nat) :
    Calls Try.prog 32 #[.pointer (some ⟨y, 0, none⟩), .int .i64 (wh : Int), .int .i64 (z : Int), .int .u32 (u : Int)] w fun e w' => ∃ B, (if Mb.crcSum (yGot s (fr + wh * n) z) = u then e = .returned (.tuple #[.slice B z z, .int .i64 0]) ∧ Octs w' B (yGot s (fr + wh * n) z) else e = .returned (.tuple #[.slice none 0 0, .int .i64 14])) ∧ Disk (fun b => K b ∨ blk (.slice B z z) = some b) w' p s ∧ Upd (fun b => ¬ K b) w w' := by
  have hbig : s.safe.length ≤ 65536 := h.choose_spec.choose_spec.choose_spec.1.big
  have hok : DkOk s := h.choose_spec.choose_spec.choose_spec.1.ok
  have hwn : wh * n ≤ n := by rcases hwh with rfl | rfl <;> omega
  have hat := at_any hy (by omega) (by omega) wh hwh
  obtain ⟨T, hT⟩ : ∃ T, T = fr + wh * n := ⟨_, rfl⟩
  rw [← hT] at hat ⊢
  have hTn : T + n ≤ s.safe.length := by omega
  have hroom : ∀ W, YardAt W y p fr n → Calls Try.prog 30 #[.pointer (some ⟨y, 0, none⟩)] W fun e w' => e = .returned (.int .i64 ((n * 128 : Nat) : Int)) ∧ W = w' := fun W h => room_any h (by omega)
  obtain ⟨M, hM⟩ : ∃ M, M = n * 128 := ⟨_, rfl⟩
  rw [← hM] at hroom
  have g1 : ((T : Int) < 0) = False := eq_false (by omega)
  have g2 : ((z : Int) < 0) = False := eq_false (by omega)
  have g3 : ((M : Int) < (z : Int)) = False := eq_false (by omega)
  have hs1 : ∀ W A l c, l.length = z → z ≤ c → Octs W A l → Calls Try.prog 54 #[.slice (some ⟨W.heap.size, 0, none⟩) 1 1] (W.alloc (.cells #[.slice A z c] 22)) fun e w' => e = .returned (.int .u32 ((Mb.crcSum l : Nat) : Int)) ∧ Ext W w' := fun W A l c hl hc hx => f41_one A l z c W hl (by omega) hc hx 22
  by_cases h0 : z = 0
  · have hg : yGot s T z = [] := by unfold yGot; rw [h0]; rfl
    rw [hg]
    have g4 : ((0 : Int) < (z : Int)) = False := eq_false (by omega)
    subst h0
    obtain ⟨C, hC⟩ : ∃ C, C = Mb.crcSum [] := ⟨_, rfl⟩
    have hs2 : ∀ W, Calls Try.prog 54 #[.slice (some ⟨W.heap.size, 0, none⟩) 1 1] (W.alloc (.cells #[.slice none 0 0] 22)) fun e w' => e = .returned (.int .u32 (C : Int)) ∧ Ext W w' := fun W => by rw [hC]; exact hs1 W none [] 0 rfl (Nat.le_refl _) (Octs.nil _ _)
    have ch : ∀ W, (Instr.slice 22 (.slice none 0 0) none (some (.int .i64 0)) none).run Try.prog W = .ok (.slice none 0 0) W := by
      obtain ⟨A1, hc1, _, _, hc4⟩ := cut_hi none [] 0 0 (Nat.le_refl _) (Nat.le_refl _)
      obtain rfl : A1 = none := by
        cases A1 with
        | none => rfl
        | some a => obtain ⟨b, e, _⟩ := hc4 a rfl; cases e
      exact fun W => hc1 W
    have hcm : ∀ W, (Instr.slice 22 (.slice none 0 0) none (some (.int .i64 0)) (some (.int .i64 0))).run Try.prog W = .ok (.slice none 0 0) W := fun W => cut_hm none 0 0 0 (Nat.le_refl _) W
    rw [← hC]
    clear hg hT hM hwn hs1 hC
    by_cases hcu : C = u
    · have g5 : ((C : Int) != (u : Int)) = false := by rw [hcu]; simp
      simp only [if_pos hcu]
      clear hcu
      go_enter Try.func32, Try.ntmps32
      go_wp2_with first
        | (go_at_call 52; refine hat.mono ?_; clear hat; rintro e w1 ⟨rfl, x1⟩; have hy1 : YardAt w1 y p fr n := x1.heap hy; have k1 := ch w1)
        | (go_at_call 30; refine (hroom _ hy1).mono ?_; clear hroom; rintro e w2 ⟨rfl, rfl⟩)
        | (go_at_call 54; refine (hs2 _).mono ?_; clear hs2; rintro e w3 ⟨rfl, x3⟩; have k3 := hcm w3)
      go_ret2
      exact ⟨none, ⟨rfl, Octs.nil _ _⟩, (h.ext (x1.trans x3)).less (fun b e => e.elim id (fun e => by cases e)), Upd.of_ext _ (x1.trans x3)⟩
    · have g5 : ((C : Int) != (u : Int)) = true := bne_iff_ne.2 (by omega)
      simp only [if_neg hcu]
      clear hcu
      go_enter Try.func32, Try.ntmps32
      go_wp2_with first
        | (go_at_call 52; refine hat.mono ?_; clear hat; rintro e w1 ⟨rfl, x1⟩; have hy1 : YardAt w1 y p fr n := x1.heap hy; have k1 := ch w1)
        | (go_at_call 30; refine (hroom _ hy1).mono ?_; clear hroom; rintro e w2 ⟨rfl, rfl⟩)
        | (go_at_call 54; refine (hs2 _).mono ?_; clear hs2; rintro e w3 ⟨rfl, x3⟩)
      go_ret2
      exact ⟨none, rfl, (h.ext (x1.trans x3)).less (fun b e => e.elim id (fun e => by cases e)), Upd.of_ext _ (x1.trans x3)⟩
  · have g4 : ((0 : Int) < (z : Int)) = True := eq_true (by omega)
    have g4n : (0 < z) = True := eq_true (by omega)
    have hup : ∀ W, Calls Try.prog 53 #[.int .i64 (z : Int), .int .i64 128] W fun e w' => e = .returned (.int .i64 (((z + 127) / 128 * 128 : Nat) : Int)) ∧ W = w' := fun W => up_any z (by omega) (by omega) W
    obtain ⟨q, hq⟩ : ∃ q, q = (z + 127) / 128 := ⟨_, rfl⟩
    obtain ⟨U, hU⟩ : ∃ U, U = q * 128 := ⟨_, rfl⟩
    have hg : yGot s T z = (dkSecs s T q).take z := by rw [hq]; rfl
    have hgl : (dkSecs s T q).length = U := by rw [length_dkSecs hok T q (by omega), hU, Nat.mul_comm]
    rw [hg]
    rw [← hq, ← hU] at hup
    have q1 : (U : Int).tdiv 128 = (q : Int) := by rw [Int.tdiv_eq_ediv_of_nonneg (by omega)]; omega
    have q2 : (U : Int) / 128 = (q : Int) := by omega
    have q3 : IntKind.i64.wrap (q : Int) = (q : Int) := IntWalk.i64_in _ (by omega)
    have hzU : z ≤ U := by omega
    have h22 : ∀ W, Ext w W → Calls Try.prog 22 #[.pointer (some ⟨p, 0, none⟩), .int .i64 (T : Int), .int .i64 (q : Int)] W fun e w' => ∃ B d, e = .returned (.tuple #[.slice B U d, .int .i64 0]) ∧ U ≤ d ∧ Octs w' B (dkSecs s T q) ∧ Disk (fun b => K b ∨ blk (.slice B U d) = some b) w' p s ∧ Upd (fun b => ¬ K b) W w' := fun W x => (dk22_on (h.ext x) (by rw [hc1]; decide) T q (by omega)).mono (by
      rintro e w' ⟨v, rfl, o, hd, u⟩
      rw [dkRead_same s hc1] at hd
      obtain ⟨A, c, rfl, hc, _, hx⟩ := o.form
      rw [hgl] at hc hd ⊢
      exact ⟨A, c, rfl, hc, hx, hd, u⟩)
    obtain ⟨G, hG⟩ : ∃ G, G = dkSecs s T q := ⟨_, rfl⟩
    rw [← hG] at hgl h22 ⊢
    have hGz : (G.take z).length = z := by rw [List.length_take]; omega
    obtain ⟨C, hC⟩ : ∃ C, C = Mb.crcSum (G.take z) := ⟨_, rfl⟩
    have hCl : C < 4294967296 := by rw [hC]; exact Mb.crcSum_lt _
    rw [← hC]
    have hs2 : ∀ W A c, z ≤ c → Octs W A (G.take z) → Calls Try.prog 54 #[.slice (some ⟨W.heap.size, 0, none⟩) 1 1] (W.alloc (.cells #[.slice A z c] 22)) fun e w' => e = .returned (.int .u32 (C : Int)) ∧ Ext W w' := fun W A c hc hx => by rw [hC]; exact hs1 W A _ c hGz hc hx
    have HGL := Lib.hid hgl
    have hcut : ∀ B d, U ≤ d → ∃ A1, (∀ w, (Instr.slice 22 (.slice B U d) none (some (.int .i64 (z : Int))) none).run Try.prog w = .ok (.slice A1 z d) w) ∧ (∀ w, Octs w B G → Octs w A1 (G.take z)) := fun B d hd => by
      obtain ⟨A1, h1, _, h3, _⟩ := cut_hi B G d z (by omega) (by omega)
      rw [hgl] at h1
      exact ⟨A1, h1, h3⟩
    have hz0 : z ≤ 4294967296 := by omega
    clear hg hT hM hwn hs1 hC hU hq hG hgl h0
    by_cases hcu : C = u
    case' pos => have g5 : ((C : Int) != (u : Int)) = false := by rw [hcu]; simp
    case' neg => have g5 : ((C : Int) != (u : Int)) = true := bne_iff_ne.2 (by omega)
    case' pos => simp only [if_pos hcu]; clear hcu
    case' neg => simp only [if_neg hcu]; clear hcu
    all_goals
      go_enter Try.func32, Try.ntmps32
      go_wp2_with first
        | (go_at_call 52; refine hat.mono ?_; clear hat; rintro e w1 ⟨rfl, x1⟩; have hy1 : YardAt w1 y p fr n := x1.heap hy; obtain ⟨c0, c1, c2⟩ := yard_cells hy1)
        | (go_at_call 30; refine (hroom _ hy1).mono ?_; clear hroom; rintro e w2 ⟨rfl, rfl⟩)
      refine wp_region_held_drew (S := fun w' => Upd (fun b => ¬ K b) w1 w') (by kernel_rfl) ((Upd.refl _ _).drew) (fun hS => ?_)
      refine takeH (i := 0) (v := ?_) rfl rfl (by kernel_rfl) (by kernel_rfl) (by kernel_rfl) (fun _ _ _ h => h) (Or.inl ⟨by kernel_rfl, ?_⟩) hS ?_
      rotate_left 1
      · (intro w' hS'; go_simp; try (with_reducible rfl))
      simp only [List.setIfInBounds_toArray, List.set_cons_succ, List.set_cons_zero]
      refine takeH (i := 1) (v := ?_) rfl rfl (by kernel_rfl) (by kernel_rfl) (by kernel_rfl) (fun _ _ _ h => h) (Or.inl ⟨by kernel_rfl, ?_⟩) hS ?_
      rotate_left 1
      · (intro w' hS'; go_simp; try (with_reducible rfl))
      simp only [List.setIfInBounds_toArray, List.set_cons_succ, List.set_cons_zero]
      refine takeH (i := 2) (v := ?_) rfl rfl (by kernel_rfl) (by kernel_rfl) (by kernel_rfl) (fun _ _ _ h => h) (Or.inl ⟨by kernel_rfl, ?_⟩) hS ?_
      rotate_left 1
      · (intro w' hS'; go_simp; try (with_reducible rfl))
      simp only [List.setIfInBounds_toArray, List.set_cons_succ, List.set_cons_zero]
      refine takeH (i := 3) (v := ?_) rfl rfl (by kernel_rfl) (by kernel_rfl) (by kernel_rfl) (fun _ _ _ h => h) (Or.inl ⟨by kernel_rfl, ?_⟩) hS ?_
      rotate_left 1
      · (intro w' hS'; have c0 := hS'.cell c0 (fun x => x hKy); go_simp; try (with_reducible rfl))
      simp only [List.setIfInBounds_toArray, List.set_cons_succ, List.set_cons_zero]
      refine takeH (i := 4) (v := ?_) rfl rfl (by kernel_rfl) (by kernel_rfl) (by kernel_rfl) (fun _ _ _ h => h) (Or.inl ⟨by kernel_rfl, ?_⟩) hS ?_
      rotate_left 1
      · (intro w' hS'; go_simp; try (with_reducible rfl))
      simp only [List.setIfInBounds_toArray, List.set_cons_succ, List.set_cons_zero]
      refine takeH (i := 5) (v := ?_) rfl rfl (by kernel_rfl) (by kernel_rfl) (by kernel_rfl) (fun _ _ _ h => h) (Or.inl ⟨by kernel_rfl, ?_⟩) hS ?_
      rotate_left 1
      · (intro w' hS'; go_simp; try (with_reducible rfl))
      simp only [List.setIfInBounds_toArray, List.set_cons_succ, List.set_cons_zero]
      refine wpAnyH_ready (rs := [6]) (by kernel_rfl) (by simp) ?_
      refine AllReadyH.cons rfl (fun K hK => ?_) ?_
      rotate_left 1
      · exact AllReadyH.nil
      go_simp
      refine (hup _).mono ?_; rintro e w6 ⟨rfl, rfl⟩
      refine hK.out _ _ (hS) (fun hS => ?_)
      clear hK K
      refine takeH (i := 7) (v := ?_) rfl rfl (by kernel_rfl) (by kernel_rfl) (by kernel_rfl) (fun _ _ _ h => h) (Or.inl ⟨by kernel_rfl, ?_⟩) hS ?_
      rotate_left 1
      · (intro w' hS'; go_simp; try (with_reducible rfl))
      simp only [List.setIfInBounds_toArray, List.set_cons_succ, List.set_cons_zero]
      refine wpAnyH_ready (rs := [8]) (by kernel_rfl) (by simp) ?_
      refine AllReadyH.cons rfl (fun K hK => ?_) ?_
      rotate_left 1
      · exact AllReadyH.nil
      go_simp
      refine (h22 _ (x1.drew)).mono ?_; clear h22; rintro e w8 ⟨B, d, rfl, hUd, hx8, h8, u8⟩
      refine hK.out _ _ (hS.trans u8) (fun hS => ?_)
      clear hK K
      refine takeH (i := 9) (v := ?_) rfl rfl (by kernel_rfl) (by kernel_rfl) (by kernel_rfl) (fun _ _ _ h => h) (Or.inl ⟨by kernel_rfl, ?_⟩) hS ?_
      rotate_left 1
      · (intro w' hS'; go_simp; try (with_reducible rfl))
      simp only [List.setIfInBounds_toArray, List.set_cons_succ, List.set_cons_zero]
      refine takeH (i := 10) (v := ?_) rfl rfl (by kernel_rfl) (by kernel_rfl) (by kernel_rfl) (fun _ _ _ h => h) (Or.inl ⟨by kernel_rfl, ?_⟩) hS ?_
      rotate_left 1
      · (intro w' hS'; go_simp; try (with_reducible rfl))
      simp only [List.setIfInBounds_toArray, List.set_cons_succ, List.set_cons_zero]
      refine takeH (i := 11) (v := ?_) rfl rfl (by kernel_rfl) (by kernel_rfl) (by kernel_rfl) (fun _ _ _ h => h) (Or.inl ⟨by kernel_rfl, ?_⟩) hS ?_
      rotate_left 1
      · (intro w' hS'; go_simp; try (with_reducible rfl))
      simp only [List.setIfInBounds_toArray, List.set_cons_succ, List.set_cons_zero]
      refine takeH (i := 12) (v := ?_) rfl rfl (by kernel_rfl) (by kernel_rfl) (by kernel_rfl) (fun _ _ _ h => h) (Or.inl ⟨by kernel_rfl, ?_⟩) hS ?_
      rotate_left 1
      · (intro w' hS'; go_simp; try (with_reducible rfl))
      simp only [List.setIfInBounds_toArray, List.set_cons_succ, List.set_cons_zero]
      refine takeH (i := 13) (v := ?_) rfl rfl (by kernel_rfl) (by kernel_rfl) (by kernel_rfl) (fun _ _ _ h => h) (Or.inl ⟨by kernel_rfl, ?_⟩) hS ?_
      rotate_left 1
      · (intro w' hS'; go_simp; try (with_reducible rfl))
      simp only [List.setIfInBounds_toArray, List.set_cons_succ, List.set_cons_zero]
      refine wpAnyH_done (by kernel_rfl) ?_ _
      have u17 := (Upd.of_ext (fun b => ¬ K b) x1).trans hS
      obtain ⟨A1, k1, k2⟩ := hcut B d hUd
      have k1 := k1 w8
      have hs2 := hs2 w8 A1 d (Nat.le_trans hzU hUd) (k2 _ hx8)
      go_wp2_with (go_at_call 54; refine hs2.mono ?_; clear hs2; rintro e w9 ⟨rfl, x9⟩; have k9 := cut_hm B U d z (Nat.le_trans hzU hUd) w9)
      go_ret2
    · exact ⟨B, rfl, (h8.ext x9).less (fun b e => by cases B <;> exact e), u17.trans (Upd.of_ext _ x9)⟩
    · exact ⟨B, ⟨rfl, (hx8.ext x9).take z⟩, (h8.ext x9).less (fun b e => by cases B <;> exact e), u17.trans (Upd.of_ext _ x9)⟩
end Go.Proofs.Ytgpnmmgoachajaa
namespace Go.Proofs.Ytgpnmmgoachajaa
open Go.RowKit
open Go.Proofs

theorem lastAt_cut (q : List (Nat × List UInt8)) (at_ : Nat) (l : List UInt8) (i : Nat) : ∀ k, i < k → lastAt (q ++ cutSec at_ l k) (at_ + i) = some ((l.drop (128 * i)).take 128)
  | 0, h => by omega
  | k + 1, h => by
    rw [cutSec_succ, ← List.append_assoc, lastAt_snoc]
    by_cases e : i = k
    · subst e
      rw [if_pos rfl]
    · rw [if_neg (by show at_ + k ≠ at_ + i; omega)]
      exact lastAt_cut q at_ l i k (by omega)
theorem lastAt_cut_other (q : List (Nat × List UInt8)) (at_ : Nat) (l : List UInt8) (b : Nat) : ∀ k, (b < at_ ∨ at_ + k ≤ b) → lastAt (q ++ cutSec at_ l k) b = lastAt q b
  | 0, _ => by simp [cutSec]
  | k + 1, h => by
    rw [cutSec_succ, ← List.append_assoc, lastAt_snoc, if_neg (by show at_ + k ≠ b; omega)]
    exact lastAt_cut_other q at_ l b k (by omega)
theorem see_write (s : Dk) (at_ : Nat) (l : List UInt8) (i : Nat) (h : i < l.length / 128) : seeAt (dkWrite s at_ l) (at_ + i) = (l.drop (128 * i)).take 128 := by
  unfold seeAt
  show ((lastAt (s.queue ++ cutSec at_ l (l.length / 128)) (at_ + i)).getD _) = _
  rw [lastAt_cut _ _ _ _ _ h]
  rfl
theorem see_write_other (s : Dk) (at_ : Nat) (l : List UInt8) (b : Nat) (h : b < at_ ∨ at_ + l.length / 128 ≤ b) : seeAt (dkWrite s at_ l) b = seeAt s b := by
  unfold seeAt
  show ((lastAt (s.queue ++ cutSec at_ l (l.length / 128)) b).getD (s.safe.getD b [])) = _
  rw [lastAt_cut_other _ _ _ _ _ h]
theorem last_from (a : Nat) : ∀ (q : List (Nat × List UInt8)) (r : Option (List UInt8)), q.foldl (fun r p => if p.1 = a then some p.2 else r) r = (lastAt q a).or r
  | [], r => by simp [lastAt]
  | p :: q, r => by
    have h1 := last_from a q (if p.1 = a then some p.2 else r)
    have h2 := last_from a q (if p.1 = a then some p.2 else none)
    have h3 : lastAt (p :: q) a = (lastAt q a).or (if p.1 = a then some p.2 else none) := h2
    rw [List.foldl_cons, h1, h3]
    split <;> cases lastAt q a <;> simp
theorem putAll_at (a : Nat) (q : List (Nat × List UInt8)) : ∀ (sf : List (List UInt8)), (∀ p ∈ q, p.1 < sf.length) → (putAll sf q).getD a [] = (lastAt q a).getD (sf.getD a []) := by
  induction q with
  | nil => intro sf _; rfl
  | cons p q ih =>
    intro sf h
    have hp := h p (by simp)
    have e : lastAt (p :: q) a = (lastAt q a).or (if p.1 = a then some p.2 else none) := last_from a q _
    rw [putAll_cons, ih _ (fun x hx => by rw [List.length_set]; exact h x (by simp [hx])), e]
    cases lastAt q a with
    | some y => rfl
    | none =>
      by_cases e : p.1 = a
      · rw [if_pos e, ← e, List.getD_eq_getElem?_getD, List.getElem?_set_self hp]
        rfl
      · rw [if_neg e, List.getD_eq_getElem?_getD, List.getElem?_set_ne e, ← List.getD_eq_getElem?_getD]
        rfl
theorem see_flush {s : Dk} (h : DkOk s) (a : Nat) : seeAt (dkFlush s) a = seeAt s a := by
  unfold seeAt
  show ((lastAt [] a).getD ((putAll s.safe s.queue).getD a [])) = _
  rw [lastAt_nil, Option.getD_none, putAll_at a s.queue s.safe (fun p hp => (h.queue p hp).1)]
theorem see_crash (s : Dk) (keep : List Int) (torn cut : Int) (a : Nat) (h : ∀ p ∈ s.queue, p.1 ≠ a) : seeAt (dkCrash s keep torn cut) a = seeAt s a := by
  unfold seeAt
  show ((lastAt [] a).getD ((crashTo keep torn cut 0 s.safe s.queue).1.getD a [])) = _
  rw [lastAt_nil, Option.getD_none, List.getD_eq_getElem?_getD, crashTo_other _ _ _ _ _ _ _ h, lastAt_none a s.queue h, Option.getD_none, List.getD_eq_getElem?_getD]
theorem secs_write (s : Dk) (at_ : Nat) (l : List UInt8) : ∀ k, k ≤ l.length / 128 → dkSecs (dkWrite s at_ l) at_ k = l.take (128 * k)
  | 0, _ => rfl
  | k + 1, h => by
    rw [dkSecs_succ, secs_write s at_ l k (by omega), see_write _ _ _ _ (by omega), Nat.mul_add, Nat.mul_one, List.take_add]
theorem secs_congr (s t : Dk) (at_ : Nat) : ∀ k, (∀ i, i < k → seeAt s (at_ + i) = seeAt t (at_ + i)) → dkSecs s at_ k = dkSecs t at_ k
  | 0, _ => rfl
  | k + 1, h => by
    rw [dkSecs_succ, dkSecs_succ, secs_congr s t at_ k (fun i hi => h i (by omega)), h k (by omega)]
theorem pad_take (l : List UInt8) : (padTo l).take l.length = l := by
  rw [padTo, List.take_append_of_le_length (Nat.le_refl _), List.take_length]
theorem pad_whole (l : List UInt8) (k : Nat) (h : l.length = k * 128) : padTo l = l := by
  unfold padTo
  rw [h, show (k * 128 + 127) / 128 * 128 - k * 128 = 0 by omega]
  simp
/-- What was written into an area is read again. -/
theorem got_write (s : Dk) (at_ : Nat) (l : List UInt8) : yGot (yWr s at_ l) at_ l.length = l := by
  by_cases h : l.length = 0
  · have : l = [] := List.eq_nil_of_length_eq_zero h
    subst this
    rfl
  · unfold yGot yWr
    rw [if_neg h, secs_write _ _ _ _ (by rw [length_padTo]; omega), List.take_take, Nat.min_eq_left (by omega), pad_take]
theorem got_congr (s t : Dk) (at_ z : Nat) (h : ∀ i, i < (z + 127) / 128 → seeAt s (at_ + i) = seeAt t (at_ + i)) : yGot s at_ z = yGot t at_ z := by
  unfold yGot
  rw [secs_congr s t at_ _ h]
theorem ywr_queue {s : Dk} {at_ : Nat} {l : List UInt8} : ∀ p ∈ (yWr s at_ l).queue, p ∈ s.queue ∨ (at_ ≤ p.1 ∧ p.1 < at_ + (l.length + 127) / 128) := by
  intro p hp
  unfold yWr at hp
  split at hp
  · exact .inl hp
  · rcases List.mem_append.1 hp with h | h
    · exact .inl h
    · simp only [cutSec, List.mem_map, List.mem_range, length_padTo] at h
      obtain ⟨i, hi, rfl⟩ := h
      refine .inr ⟨?_, ?_⟩
      · show at_ ≤ at_ + i; omega
      · show at_ + i < _; omega
theorem ywr_other (s : Dk) (at_ : Nat) (l : List UInt8) (b : Nat) (h : b < at_ ∨ at_ + (l.length + 127) / 128 ≤ b) : seeAt (yWr s at_ l) b = seeAt s b := by
  unfold yWr
  split
  · rfl
  · refine see_write_other s at_ _ b ?_
    rw [length_padTo]
    omega
theorem ywr_safe (s : Dk) (at_ : Nat) (l : List UInt8) : (yWr s at_ l).safe = s.safe := by unfold yWr; split <;> rfl
theorem ywr_calls (s : Dk) (at_ : Nat) (l : List UInt8) (h : s.calls = -1) : (yWr s at_ l).calls = -1 := by
  unfold yWr
  split
  · exact h
  · show callTo s.calls = -1
    rw [h]; rfl
theorem ywr_writes (s : Dk) (at_ : Nat) (l : List UInt8) : s.writes ≤ (yWr s at_ l).writes ∧ (yWr s at_ l).writes ≤ s.writes + (((l.length + 127) / 128 : Nat) : Int) := by
  unfold yWr
  split
  · exact ⟨Int.le_refl _, by omega⟩
  · show s.writes ≤ s.writes + (((padTo l).length / 128 : Nat) : Int) ∧ s.writes + (((padTo l).length / 128 : Nat) : Int) ≤ _
    rw [length_padTo]
    omega
theorem ywr_len (s : Dk) (at_ : Nat) (l : List UInt8) : (yWr s at_ l).queue.length ≤ s.queue.length + (l.length + 127) / 128 := by
  unfold yWr
  split
  · omega
  · show (s.queue ++ cutSec at_ (padTo l) ((padTo l).length / 128)).length ≤ _
    rw [List.length_append, length_cutSec, length_padTo]
    omega
theorem ywr_ok {s : Dk} (h : DkOk s) (at_ : Nat) (l : List UInt8) (ha : at_ + (l.length + 127) / 128 ≤ s.safe.length) : DkOk (yWr s at_ l) := by
  unfold yWr
  split
  · exact h
  · exact dkOk_write h _ _ (by rw [length_padTo]; omega) (by rw [length_padTo]; omega)

/-- The example. -/
theorem ex_got : yGot (yWr (dkNew 4) 2 [97, 98, 99]) 2 3 = [97, 98, 99] := got_write _ _ [97, 98, 99]
theorem ex_zero : yGot (yWr (dkNew 4) 2 [97, 98, 99]) 0 3 = [0, 0, 0] := by
  rw [got_congr _ (dkNew 4) 0 3 (fun i hi => ywr_other _ _ _ _ (.inl (by omega)))]
  rfl
theorem ex_sums : Mb.crcSum [0, 0, 0] ≠ Mb.crcSum [97, 98, 99] := by decide +kernel
end Go.Proofs.Ytgpnmmgoachajaa
namespace Go.Proofs.Ytgpnmmgoachajaa
open Go.RowKit Go.Shelf
open Go.Proofs

section
variable {K : Nat → Prop} {w w' : World} {B : Option Addr} {l : List UInt8}
theorem Octs.kept (hx : Octs w B l) (u : Upd (fun b => ¬ K b) w w') (hB : 0 < l.length → ∀ a, B = some a → K a.block) : Octs w' B l := fun hpos => by
  obtain ⟨b, o, e, hc⟩ := hx hpos
  exact ⟨b, o, e, fun j v hv => u.cell (hc j v hv) (fun x => x (hB (by rw [length_octs] at hpos; exact hpos) ⟨b, o, none⟩ e))⟩
theorem Octs.in_ (hx : Octs w B l) (h0 : 0 < l.length) : ∀ a, B = some a → a.block < w.heap.size := fun a e => by
  obtain ⟨b, o, e2, hc⟩ := hx (by rw [length_octs]; exact h0)
  rw [e] at e2
  injection e2 with e2
  rw [e2]
  have h1 := hc 0 _ (List.getElem?_eq_getElem (by rw [length_octs]; exact h0))
  exact block_lt_of_cell h1
end
section
variable {K : Nat → Prop} {w : World} {p y fr n : Nat} {s : Dk}
/-- An area is read whose sum is right. -/
theorem rd_ok (h : Disk K w p s) (hc1 : s.calls = -1) (hy : YardAt w y p fr n) (hKy : K y) (wh : Nat) (hwh : wh = 0 ∨ wh = 1) (hn : n ≤ 4096) (hf : fr + 2 * n ≤ s.safe.length) (z : Nat) (hz : z ≤ n * 128) (u : Nat) (l : List UInt8) (hl : yGot s (fr + wh * n) z = l) (hu : Mb.crcSum l = u) :
    Calls Try.prog 32 #[.pointer (some ⟨y, 0, none⟩), .int .i64 (wh : Int), .int .i64 (z : Int), .int .u32 (u : Int)] w fun e w' => ∃ B, e = .returned (.tuple #[.slice B z z, .int .i64 0]) ∧ Octs w' B l ∧ Disk (fun b => K b ∨ blk (.slice B z z) = some b) w' p s ∧ Upd (fun b => ¬ K b) w w' := by
  refine (yRead_on h hc1 hy hKy wh hwh hn hf z hz u).mono ?_
  rintro e w' ⟨B, h1, h2, h3⟩
  rw [hl, if_pos hu] at h1
  exact ⟨B, h1.1, h1.2, h2, h3⟩
theorem rd_bad (h : Disk K w p s) (hc1 : s.calls = -1) (hy : YardAt w y p fr n) (hKy : K y) (wh : Nat) (hwh : wh = 0 ∨ wh = 1) (hn : n ≤ 4096) (hf : fr + 2 * n ≤ s.safe.length) (z : Nat) (hz : z ≤ n * 128) (u : Nat) (hu : Mb.crcSum (yGot s (fr + wh * n) z) ≠ u) :
    Calls Try.prog 32 #[.pointer (some ⟨y, 0, none⟩), .int .i64 (wh : Int), .int .i64 (z : Int), .int .u32 (u : Int)] w fun e w' => e = .returned (.tuple #[.slice none 0 0, .int .i64 14]) ∧ Disk K w' p s ∧ Upd (fun b => ¬ K b) w w' := by
  refine (yRead_on h hc1 hy hKy wh hwh hn hf z hz u).mono ?_
  rintro e w' ⟨B, h1, h2, h3⟩
  rw [if_neg hu] at h1
  exact ⟨h1, h2.less (fun b e => .inl e), h3⟩
end

theorem hwr1 {w w1 w2 : World} {p C : Nat} {s1 : Dk} (h1 : Disk (fun b => b < w.heap.size) w1 p (dkNew 4)) (x1 : Ext w w1) (x2 : Ext w1 w2) (hy : YardAt w2 w1.heap.size p 0 2)
    (hwr : ∀ K W p y b, Disk K W p (dkNew 4) → YardAt W y p 0 2 → K b → Octs W (some ⟨b, 0, none⟩) [97, 98, 99] → (∀ b, K b → b < W.heap.size) → Calls Try.prog 31 #[.pointer (some ⟨y, 0, none⟩), .int .i64 1, .slice (some ⟨b, 0, none⟩) 3 3] W fun e w' => e = .returned (.tuple #[.int .u32 (C : Int), .int .i64 0]) ∧ Disk K w' p s1 ∧ Upd (fun b => ¬ K b) W w') :
    Calls Try.prog 31 #[.pointer (some ⟨w1.heap.size, 0, none⟩), .int .i64 1, .slice (some ⟨w2.heap.size, 0, none⟩) 3 3] (w2.alloc (.cells #[.int .u8 97, .int .u8 98, .int .u8 99] 5 (3, 4))) fun e w' => e = .returned (.tuple #[.int .u32 (C : Int), .int .i64 0]) ∧ ∃ K, Disk K w' p s1 ∧ YardAt w' w1.heap.size p 0 2 ∧ K w1.heap.size ∧ (∀ b, ¬ K b → w.heap.size ≤ b) ∧ Ext w w' := by
  have hb3 := heap_alloc_new w2 (.cells #[.int .u8 97, .int .u8 98, .int .u8 99] 5 (3, 4))
  have x23 : Ext w2 (w2.alloc (.cells #[.int .u8 97, .int .u8 98, .int .u8 99] 5 (3, 4))) := (Ext.refl w2).alloc _
  have hs3 : (w2.alloc (.cells #[.int .u8 97, .int .u8 98, .int .u8 99] 5 (3, 4))).heap.size = w2.heap.size + 1 := World.size_alloc ..
  generalize w2.alloc (.cells #[.int .u8 97, .int .u8 98, .int .u8 99] 5 (3, 4)) = W at *
  have x3 := x2.trans x23
  obtain ⟨K, hK⟩ : ∃ K : Nat → Prop, K = fun b => b < w.heap.size ∨ (w1.heap.size ≤ b ∧ b < W.heap.size) := ⟨_, rfl⟩
  have h3 : Disk K W p (dkNew 4) := by rw [hK]; exact h1.grow x3
  have s12 := x2.size
  have s01 := x1.size
  have hKb : ∀ b, K b → b < W.heap.size := fun b e => by rw [hK] at e; rcases e with e | e <;> omega
  have hlt := (Array.getElem?_eq_some_iff.1 hy).1
  have k1 : K w2.heap.size := by rw [hK]; exact .inr ⟨s12, by omega⟩
  have ky : K w1.heap.size := by rw [hK]; exact .inr ⟨Nat.le_refl _, by omega⟩
  have hKn : ∀ b, ¬ K b → w.heap.size ≤ b := fun b e => Nat.le_of_not_lt fun h => e (by rw [hK]; exact .inl h)
  have hy3 : YardAt W w1.heap.size p 0 2 := x23.heap hy
  have hx : Octs W (some ⟨w2.heap.size, 0, none⟩) [97, 98, 99] := fun _ => ⟨_, _, rfl, fun j u hu => by
    rw [Nat.zero_add, cell_of_row W w2.heap.size j _ _ _ hb3]
    match j, hu with
    | 0, hu => exact hu
    | 1, hu => exact hu
    | 2, hu => exact hu
    | j + 3, hu => cases hu⟩
  refine (hwr K W p w1.heap.size w2.heap.size h3 hy3 k1 hx hKb).mono ?_
  rintro e w' ⟨rfl, h4, u4⟩
  exact ⟨rfl, K, h4, u4.heap hy3 (fun x => x ky), ky, hKn, u4.to_ext (x1.trans x3) hKn⟩

set_option maxRecDepth 100000 in
set_option maxHeartbeats 4000000 in
theorem aw20_any (w : World) : Calls Try.prog 28 #[] w fun e w' => e = .returned (.bool true) ∧ Ext w w' := by
  have hf15 : Calls Try.prog 15 #[.int .i64 4] w fun e w' => ∃ p, e = .returned (.tuple #[.pointer (some ⟨p, 0, none⟩), .int .i64 0]) ∧ Disk (fun b => b < w.heap.size) w' p (dkNew 4) ∧ Ext w w' := dk15_good 4 w (by omega) (by omega)
  have hnw : ∀ p W, Disk (fun b => b < w.heap.size) W p (dkNew 4) → Calls Try.prog 29 #[.pointer (some ⟨p, 0, none⟩), .int .i64 0, .int .i64 2] W fun e w' => e = .returned (.tuple #[.pointer (some ⟨W.heap.size, 0, none⟩), .int .i64 0]) ∧ YardAt w' W.heap.size p 0 2 ∧ Ext W w' := fun p W h => ynew_good h 0 2 (by omega) (by omega) (by show 0 + 2 * 2 ≤ 4; omega)
  obtain ⟨C, hC⟩ : ∃ C, C = Mb.crcSum [97, 98, 99] := ⟨_, rfl⟩
  obtain ⟨s1, hs1⟩ : ∃ s1, s1 = yWr (dkNew 4) 2 [97, 98, 99] := ⟨_, rfl⟩
  have hwr : ∀ K W p y b, Disk K W p (dkNew 4) → YardAt W y p 0 2 → K b → Octs W (some ⟨b, 0, none⟩) [97, 98, 99] → (∀ b, K b → b < W.heap.size) → Calls Try.prog 31 #[.pointer (some ⟨y, 0, none⟩), .int .i64 1, .slice (some ⟨b, 0, none⟩) 3 3] W fun e w' => e = .returned (.tuple #[.int .u32 (C : Int), .int .i64 0]) ∧ Disk K w' p s1 ∧ Upd (fun b => ¬ K b) W w' := fun K W p y b h hy hb hx hKb => by
    rw [hC, hs1]
    exact yWrite_on h rfl hy 1 (.inr rfl) (by omega) (by show 0 + 2 * 2 ≤ 4; omega) (some ⟨b, 0, none⟩) [97, 98, 99] 3 3 rfl (by omega) (Nat.le_refl _) hx (fun _ a e => by injection e with e; rw [← e]; exact hb) ⟨Int.le_refl _, by show (0 : Int) ≤ 4294967296; decide⟩ (Nat.zero_le _) hKb
  have hsc : s1.calls = -1 := by rw [hs1]; exact ywr_calls _ _ _ rfl
  have hsl : s1.safe.length = 4 := by rw [hs1, ywr_safe]; rfl
  have hr1 : ∀ K W p y, Disk K W p s1 → YardAt W y p 0 2 → K y → Calls Try.prog 32 #[.pointer (some ⟨y, 0, none⟩), .int .i64 1, .int .i64 3, .int .u32 (C : Int)] W fun e w' => ∃ B, e = .returned (.tuple #[.slice B 3 3, .int .i64 0]) ∧ Octs w' B [97, 98, 99] ∧ Disk (fun b => K b ∨ blk (.slice B 3 3) = some b) w' p s1 ∧ Upd (fun b => ¬ K b) W w' := fun K W p y h hy hKy =>
    rd_ok h hsc hy hKy 1 (.inr rfl) (by omega) (by omega) 3 (by omega) C [97, 98, 99] (by rw [hs1]; exact ex_got) hC.symm
  have hr0 : ∀ K W p y, Disk K W p s1 → YardAt W y p 0 2 → K y → Calls Try.prog 32 #[.pointer (some ⟨y, 0, none⟩), .int .i64 0, .int .i64 3, .int .u32 (C : Int)] W fun e w' => e = .returned (.tuple #[.slice none 0 0, .int .i64 14]) ∧ Disk K w' p s1 ∧ Upd (fun b => ¬ K b) W w' := fun K W p y h hy hKy =>
    rd_bad h hsc hy hKy 0 (.inl rfl) (by omega) (by omega) 3 (by omega) C (by rw [hs1, hC]; show Mb.crcSum (yGot (yWr (dkNew 4) 2 [97, 98, 99]) 0 3) ≠ _; rw [ex_zero]; exact ex_sums)
  clear hs1 hC
  go_enter Try.func28, Try.ntmps28
  go_wp2_with first
    | (go_at_call 15; refine hf15.mono ?_; clear hf15; rintro e w1 ⟨p, rfl, h1, x1⟩; have hnw := hnw p w1 h1)
    | (go_at_call 29; refine hnw.mono ?_; clear hnw; rintro e w2 ⟨rfl, hy, x2⟩; have kc := Lib.run_convert_bytes_const (P := Try.prog) w2 22 5 #[.int .u8 97, .int .u8 98, .int .u8 99] 3 3 Try.underlying22 Try.underlying5)
    | (go_at_call 31; refine (hwr1 h1 x1 x2 hy hwr).mono ?_; clear hwr; rintro e w4 ⟨rfl, K, h4, hy4, ky, hKn, X4⟩)
    | (go_at_call 32; refine (hr1 K _ p _ h4 hy4 ky).mono ?_; clear hr1; rintro e w5 ⟨B, rfl, o5, h5, u5⟩; have hy5 : YardAt w5 _ p 0 2 := u5.heap hy4 (fun x => x ky); have X5 := u5.to_ext X4 hKn)
    | (go_at_call 32; refine (hr0 _ _ p _ h5 hy5 (.inl ky)).mono ?_; clear hr0; rintro e w6 ⟨rfl, h6, u6⟩; have o6 := o5.kept u6 (fun _ a e => .inr (by rw [e]; rfl)); have k6 := conv_str B [97, 98, 99] 3 3 w6 rfl o6; have X6 := u6.to_ext X5 (fun b e => hKn b (fun x => e (.inl x))))
  go_ret
  exact ⟨rfl, X6⟩
def rooms_k (n : Nat) : Nat := n + 1

set_option maxRecDepth 100000 in
set_option maxHeartbeats 8000000 in
theorem f7_any (x c : Int) (w : World) : Calls Try.prog 7 #[.int .i64 x, .int .u8 c] w fun e w' => e = .returned (.bool true) ∧ Ext w w' := by
  obtain ⟨t, n, e1, e2, e3, e4, e5, hn6⟩ := round_mod x 6 (by omega)
  rw [show ((6 : Nat) : Int) = 6 from rfl] at e1 e2 e3 e4 e5
  have hw1 : IntKind.i64.wrap (t + 6) = t + 6 := IntWalk.i64_in _ (by omega)
  obtain ⟨k, hk⟩ : ∃ k, k = n + 1 := ⟨_, rfl⟩
  have a1 : 1 + (n : Int) = (k : Int) := by omega
  obtain ⟨k2, hk2⟩ : ∃ k2, k2 = 2 * k := ⟨_, rfl⟩
  have a2 : 2 * (k : Int) = (k2 : Int) := by omega
  obtain ⟨N, hN⟩ : ∃ N, N = k2 + 3 := ⟨_, rfl⟩
  have a3 : (k2 : Int) + 3 = (N : Int) := by omega
  obtain ⟨M, hM⟩ : ∃ M, M = k * 128 := ⟨_, rfl⟩
  have a4 : 128 * (k : Int) = (M : Int) := by omega
  obtain ⟨M1, hM1⟩ : ∃ M1, M1 = M + 1 := ⟨_, rfl⟩
  have a5 : (M : Int) + 1 = (M1 : Int) := by omega
  have b1 : IntKind.i64.wrap (k : Int) = (k : Int) := IntWalk.i64_in _ (by omega)
  have b2 : IntKind.i64.wrap (k2 : Int) = (k2 : Int) := IntWalk.i64_in _ (by omega)
  have b3 : IntKind.i64.wrap (N : Int) = (N : Int) := IntWalk.i64_in _ (by omega)
  have b4 : IntKind.i64.wrap (M : Int) = (M : Int) := IntWalk.i64_in _ (by omega)
  have b5 : IntKind.i64.wrap (M1 : Int) = (M1 : Int) := IntWalk.i64_in _ (by omega)
  have hk1 : 1 ≤ k := by omega
  have hk6 : k ≤ 6 := by omega
  have hNk : N = 2 * k + 3 := by omega
  have hf15 : ∀ W, Calls Try.prog 15 #[.int .i64 (N : Int)] W fun e w' => ∃ p, e = .returned (.tuple #[.pointer (some ⟨p, 0, none⟩), .int .i64 0]) ∧ Disk (fun b => b < W.heap.size) w' p (dkNew N) ∧ Ext W w' := fun W => dk15_good N W (by omega) (by omega)
  have hlen : (dkNew N).safe.length = N := List.length_replicate
  have hnw : ∀ p (K : Nat → Prop) W, Disk K W p (dkNew N) → Calls Try.prog 29 #[.pointer (some ⟨p, 0, none⟩), .int .i64 3, .int .i64 (k : Int)] W fun e w' => e = .returned (.tuple #[.pointer (some ⟨W.heap.size, 0, none⟩), .int .i64 0]) ∧ YardAt w' W.heap.size p 3 k ∧ Ext W w' := fun p K W h => ynew_good h 3 k (by omega) (by omega) (by rw [hlen]; omega)
  have hroom : ∀ W y p, YardAt W y p 3 k → Calls Try.prog 30 #[.pointer (some ⟨y, 0, none⟩)] W fun e w' => e = .returned (.int .i64 (M : Int)) ∧ W = w' := fun W y p h => by rw [hM]; exact room_any h (by omega)
  have hmk : ∀ W : World, (Instr.makeSlice 22 (.int .i64 (M : Int)) (.int .i64 (M : Int))).run Try.prog W = .ok (.slice (some ⟨W.heap.size, 0, none⟩) M M) (W.alloc (.cells (zeros M) 5)) := fun W => make_octs M (by omega) W
  have hzl : zeros M = (octs (List.replicate M 0)).toArray := Array.toList_inj.1 (by rw [zeros_list])
  simp only [hzl] at hmk
  obtain ⟨Z, hZ⟩ : ∃ Z, Z = List.replicate M (0 : UInt8) := ⟨_, rfl⟩
  rw [← hZ] at hmk
  have HZ : Hid (Z.length = M) := Lib.hid (by rw [hZ, List.length_replicate])
  clear hZ hzl
  have hM8 : M ≤ 768 := by omega
  have hMk := Lib.hid hM
  have hM1k := Lib.hid hM1
  have HNk := Lib.hid hNk
  clear hk hk2 hN hM hM1 hNk
  go_enter Try.func7, Try.ntmps7
  go_wp2_with first
    | (go_at_call 28; refine (aw20_any _).mono ?_; rintro e w0 ⟨rfl, x0⟩)
    | (go_at_call 15; refine (hf15 w0).mono ?_; clear hf15; rintro e w1 ⟨p, rfl, h1, x1⟩; have hnw := hnw p _ w1 h1)
    | (go_at_call 29; refine hnw.mono ?_; clear hnw; rintro e w2 ⟨rfl, hy, x2⟩)
    | (go_at_call 30; refine (hroom w2 _ p hy).mono ?_; clear hroom; rintro e w3 ⟨rfl, rfl⟩)
  clear e1 e2 e3 e4 e5 hw1
  have hbb : (w2.alloc (.cells (octs Z).toArray 5)).heap[w2.heap.size]? = some (.cells (octs Z).toArray 5 (0, 0)) := heap_alloc_new w2 _
  go_loopw [11] (fun i wr => ∃ (j : Nat) (L : List UInt8), j ≤ M ∧ i = .int .i64 (j : Int) ∧ L.length = M ∧ wr.heap[w2.heap.size]? = some (.cells (octs L).toArray 5 (0, 0)) ∧ Ext w2 wr) (fun i _ => M - (intOf i).toNat)
  case atStart => exact ⟨0, Z, Nat.zero_le _, rfl, HZ.out, hbb, (Ext.refl w2).alloc _⟩
  case round =>
    obtain ⟨j, L, hj, rfl, hL, hb, x3⟩ := hrel
    clear hbb
    by_cases hlt : j < M
    · have hjL : j < L.length := by omega
      obtain ⟨q, hq⟩ : ∃ q, q = j % 256 := ⟨_, rfl⟩
      have v1 : IntKind.u8.wrap (j : Int) = (q : Int) := by rw [IntKind.wrap_u8]; omega
      obtain ⟨v, hv⟩ : ∃ v : Nat, v = ((c + (q : Int)) % 256).toNat := ⟨_, rfl⟩
      have v2 : IntKind.u8.wrap (c + (q : Int)) = (v : Int) := by rw [IntKind.wrap_u8]; omega
      have v3 : v < 256 := by omega
      have v4 : (((UInt8.ofNat v).toNat : Nat) : Int) = (v : Int) := by rw [UInt8.toNat_ofNat']; omega
      have cb : wr.cell? ⟨w2.heap.size, j, none⟩ = some (.int .u8 ((L[j].toNat : Nat) : Int)) := by
        rw [cell_of_row wr _ j _ _ _ hb]
        have := octs_get L j hjL
        simpa using this
      have fb : wr.frozen? ⟨w2.heap.size, j, none⟩ = false := frozen_of_row wr _ j _ _ hb
      have hnx : (wr.setCell ⟨w2.heap.size, j, none⟩ (.int .u8 (v : Int))).heap[w2.heap.size]? = some (.cells (octs (L.set j (UInt8.ofNat v))).toArray 5 (0, 0)) := by
        have := heap_setCell_same wr w2.heap.size j _ _ (.int .u8 (v : Int)) hb
        rw [this]
        have ho : oct (UInt8.ofNat v) = .int .u8 (v : Int) := by rw [oct, v4]
        simp only [octs, List.map_set, List.setIfInBounds_toArray, ho]
      have hex : Ext w2 (wr.setCell ⟨w2.heap.size, j, none⟩ (.int .u8 (v : Int))) := x3.setCell (p := ⟨w2.heap.size, j, none⟩) (Nat.le_refl _) _
      clear hq hv v4
      go_wp2
      go_roundw
      case rel => exact ⟨j + 1, _, by omega, val_int (by omega), by rw [List.length_set]; exact hL, hnx, hex⟩
      case measure => simp [intOf]; omega
    · obtain rfl : M = j := by omega
      clear hlt hj hmk HZ
      have s12 := x2.size
      have s23 := x3.size
      have s01 := x1.size
      have hb2 := (Array.getElem?_eq_some_iff.1 hb).1
      have hyl := (Array.getElem?_eq_some_iff.1 hy).1
      obtain ⟨K, hK⟩ : ∃ K : Nat → Prop, K = fun b => b < w0.heap.size ∨ (w1.heap.size ≤ b ∧ b < wr.heap.size) := ⟨_, rfl⟩
      have h3 : Disk K wr p (dkNew N) := by rw [hK]; exact h1.grow (x2.trans x3)
      have hKb : ∀ b, K b → b < wr.heap.size := fun b e => by rw [hK] at e; rcases e with e | e <;> omega
      have kb : K w2.heap.size := by rw [hK]; exact .inr ⟨s12, hb2⟩
      have ky : K w1.heap.size := by rw [hK]; exact .inr ⟨Nat.le_refl _, by omega⟩
      have hKn : ∀ b, ¬ K b → w.heap.size ≤ b := fun b e => Nat.le_of_not_lt fun h => e (by rw [hK]; exact .inl (Nat.lt_of_lt_of_le h x0.size))
      have hy3 : YardAt wr w1.heap.size p 3 k := x3.heap hy
      have X3 : Ext w wr := ((x0.trans x1).trans x2).trans x3
      have hoL : Octs wr (some ⟨w2.heap.size, 0, none⟩) L := sec_octs hb
      clear hK h1 s12 s23 s01 hyl hb2
      obtain ⟨s1, hs1⟩ : ∃ s1, s1 = yWr (dkNew N) (3 + 1 * k) L := ⟨_, rfl⟩
      obtain ⟨C, hC⟩ : ∃ C, C = Mb.crcSum L := ⟨_, rfl⟩
      have hmk2 : M = k * 128 := hMk.out
      have hWr : Calls Try.prog 31 #[.pointer (some ⟨w1.heap.size, 0, none⟩), .int .i64 1, .slice (some ⟨w2.heap.size, 0, none⟩) M M] wr fun e w' => e = .returned (.tuple #[.int .u32 (C : Int), .int .i64 0]) ∧ Disk K w' p s1 ∧ Upd (fun b => ¬ K b) wr w' := by
        rw [hC, hs1]
        exact yWrite_on h3 rfl hy3 1 (.inr rfl) (by omega) (by rw [hlen]; have := HNk.out; omega) (some ⟨w2.heap.size, 0, none⟩) L M M hL (by omega) (Nat.le_refl _) hoL (fun _ a e => by injection e with e; rw [← e]; exact kb) ⟨Int.le_refl _, by show (0 : Int) ≤ 4294967296; decide⟩ (Nat.zero_le _) hKb
      have hsc : s1.calls = -1 := by rw [hs1]; exact ywr_calls _ _ _ rfl
      have hsl : s1.safe.length = N := by rw [hs1, ywr_safe]; exact hlen
      have hsq : s1.queue.length = k := by
        rw [hs1, yWr, if_neg (by omega), pad_whole L k (by omega)]
        show ([] ++ cutSec (3 + 1 * k) L (L.length / 128)).length = k
        rw [List.nil_append, length_cutSec, hL]
        omega
      have hsg : yGot s1 (3 + 1 * k) M = L := by rw [hs1, ← hL]; exact got_write _ _ _
      have hRd : ∀ W, Disk K W p s1 → YardAt W w1.heap.size p 3 k → Calls Try.prog 32 #[.pointer (some ⟨w1.heap.size, 0, none⟩), .int .i64 1, .int .i64 (M : Int), .int .u32 (C : Int)] W fun e w' => ∃ B, e = .returned (.tuple #[.slice B M M, .int .i64 0]) ∧ Octs w' B L ∧ Disk (fun b => K b ∨ blk (.slice B M M) = some b) w' p s1 ∧ Upd (fun b => ¬ K b) W w' := fun W h hy =>
        rd_ok h hsc hy ky 1 (.inr rfl) (by omega) (by rw [hsl]; have := HNk.out; omega) M (by omega) C L hsg hC.symm
      have hsp : ∀ W, YardAt W w1.heap.size p 3 k → ∀ A c, Calls Try.prog 31 #[.pointer (some ⟨w1.heap.size, 0, none⟩), .int .i64 0, .slice A M1 c] W fun e w' => e = .returned (.tuple #[.int .u32 0, .int .i64 12]) ∧ Ext W w' := fun W h A c => yWrite_space h 0 (.inl rfl) (by omega) (by omega) A M1 c (by have := hM1k.out; omega)
      have hra : ∀ W, YardAt W w1.heap.size p 3 k → Calls Try.prog 32 #[.pointer (some ⟨w1.heap.size, 0, none⟩), .int .i64 0, .int .i64 (M1 : Int), .int .u32 (C : Int)] W fun e w' => e = .returned (.tuple #[.slice none 0 0, .int .i64 2]) ∧ Ext W w' := fun W h => yRead_arg h 0 (.inl rfl) (by omega) (by omega) M1 (by have := hM1k.out; omega) (by have := hM1k.out; omega) C
      have hwt : ∀ (K : Nat → Prop) W, Disk K W p s1 → Calls Try.prog 23 #[.pointer (some ⟨p, 0, none⟩)] W fun e w' => e = .returned (.int .i64 (k : Int)) ∧ W = w' := fun K W h => by
        have := dk23_any h
        rw [hsq] at this
        exact this
      have HL := Lib.hid hL
      have HML : Hid ((L ++ [(0 : UInt8)]).length = M1) := Lib.hid (by rw [List.length_append, hL, hM1k.out]; rfl)
      clear hs1 hC hmk2 hsl hsq hsg hlen
      go_wp2_with first
        | (go_at_call 31; refine hWr.mono ?_; clear hWr; rintro e w4 ⟨rfl, h4, u4⟩; have hy4 : YardAt w4 w1.heap.size p 3 k := u4.heap hy3 (fun x => x ky); have o4 := hoL.kept u4 (fun _ a e => by injection e with e; rw [← e]; exact kb); have X4 := u4.to_ext X3 hKn)
        | (go_at_call 32; refine (hRd _ h4 hy4).mono ?_; clear hRd; rintro e w5 ⟨B, rfl, z5, h5, u5⟩; have hy5 : YardAt w5 w1.heap.size p 3 k := u5.heap hy4 (fun x => x ky); have o5 := o4.kept u5 (fun _ a e => by injection e with e; rw [← e]; exact kb); have X5 := u5.to_ext X4 hKn)
        | (at_builtin; refine wpList_copyo rfl (.tmp 81) (.tmp 82) rfl rfl rfl (some ⟨w2.heap.size, 0, none⟩) M M L rfl HL.out o5 (by rw [HL.out]; omega) ?_; intro v6 w6 o6 x6)
        | (at_builtin; refine wpList_appo rfl (.tmp 83) (.tmp 84) rfl w5.heap.size v6 L rfl (o6.ext ((Ext.refl w6).alloc _)) (some ⟨w6.heap.size, 0, none⟩) 1 1 [0] rfl rfl (sec_octs (heap_alloc_new w6 (.cells #[.int .u8 0] 5))) (by rw [HL.out]; show M + 1 ≤ _; omega) (by have := x6.size; rw [World.size_alloc]; omega) ?_; intro v7 w7 o7 g7 _; have x7 : Ext w5 w7 := (x6.alloc _).grown g7 (fun b hb => (o6.block b hb).1); obtain ⟨A7, c7, rfl, _, _⟩ := o7.octs_form; rw [HML.out])
        | (go_at_call 31; refine (hsp _ (x7.heap hy5) A7 c7).mono ?_; clear hsp; rintro e w8 ⟨rfl, x8⟩; have x58 := x7.trans x8)
        | (go_at_call 32; refine (hra _ (x58.heap hy5)).mono ?_; clear hra; rintro e w9 ⟨rfl, x9⟩; have x59 := x58.trans x9; have k1 := conv_str B L M M w9 HL.out (z5.ext x59); have k2 := conv_str (some ⟨w2.heap.size, 0, none⟩) L M M w9 HL.out (o5.ext x59))
        | (go_at_call 23; refine (hwt _ _ (h5.ext x59)).mono ?_; clear hwt; rintro e w10 ⟨rfl, rfl⟩)
      go_ret
      exact ⟨rfl, X5.trans x59⟩
end Go.Proofs.Ytgpnmmgoachajaa
namespace Go.Proofs.Ytgpnmmgoachajaa
open Go.RowKit Go.Shelf
open Go.Proofs

theorem and_one_i64 (x : Int) : bits BinOp.and IntKind.i64 x 1 = x % 2 := by
  have h1 : (BitVec.ofInt 64 x).toNat = (x % 18446744073709551616).toNat := by rw [BitVec.toNat_ofInt]; rfl
  have h2 : (BitVec.ofInt 64 1).toNat = 1 := rfl
  show IntKind.i64.wrap ((BitVec.ofInt 64 x &&& BitVec.ofInt 64 1).toNat : Int) = _
  rw [BitVec.toNat_and, h1, h2, Nat.and_one_is_mod, IntWalk.i64_in _ (by omega)]
  omega

/-- What the areas' statements have at hand. -/
structure Ar (K : Nat → Prop) (W : World) (y p fr k q r : Nat) (A0 A1 G : Option Addr) (l0 l1 : List UInt8) (keep : List Int) (n0 c0 n1 c1 m mc : Nat) (torn cut : Int) : Prop where
  yard : YardAt W y p fr k
  tx : W.heap[q]? = some (.cells #[.slice A0 n0 c0, .slice A1 n1 c1] 58 (0, 0))
  cr : W.heap[r]? = some (.cells #[.slice G m mc, .int .i64 torn, .int .i64 cut] 35 (0, 0))
  o0 : Octs W A0 l0
  o1 : Octs W A1 l1
  kp : Cells W G (ints keep)
  ky : K y
  kq : K q
  kr : K r
  k0 : 0 < l0.length → ∀ a, A0 = some a → K a.block
  k1 : 0 < l1.length → ∀ a, A1 = some a → K a.block
  kG : 0 < keep.length → ∀ a, G = some a → K a.block
section
variable {K K' : Nat → Prop} {W W' : World} {y p fr k q r : Nat} {A0 A1 G : Option Addr} {l0 l1 : List UInt8} {keep : List Int} {n0 c0 n1 c1 m mc : Nat} {torn cut : Int}
theorem Ar.kept (h : Ar K W y p fr k q r A0 A1 G l0 l1 keep n0 c0 n1 c1 m mc torn cut) (u : Upd (fun b => ¬ K b) W W') : Ar K W' y p fr k q r A0 A1 G l0 l1 keep n0 c0 n1 c1 m mc torn cut :=
  ⟨u.heap h.yard (fun x => x h.ky), u.heap h.tx (fun x => x h.kq), u.heap h.cr (fun x => x h.kr), h.o0.kept u h.k0, h.o1.kept u h.k1, fun hpos => by
    obtain ⟨b, o, e, hc⟩ := h.kp hpos
    exact ⟨b, o, e, fun j v hv => u.cell (hc j v hv) (fun x => x (h.kG (by rw [length_ints] at hpos; exact hpos) ⟨b, o, none⟩ e))⟩, h.ky, h.kq, h.kr, h.k0, h.k1, h.kG⟩
theorem Ar.more (h : Ar K W y p fr k q r A0 A1 G l0 l1 keep n0 c0 n1 c1 m mc torn cut) (g : ∀ b, K b → K' b) : Ar K' W y p fr k q r A0 A1 G l0 l1 keep n0 c0 n1 c1 m mc torn cut :=
  ⟨h.yard, h.tx, h.cr, h.o0, h.o1, h.kp, g _ h.ky, g _ h.kq, g _ h.kr, fun z a e => g _ (h.k0 z a e), fun z a e => g _ (h.k1 z a e), fun z a e => g _ (h.kG z a e)⟩
theorem Ar.cells (h : Ar K W y p fr k q r A0 A1 G l0 l1 keep n0 c0 n1 c1 m mc torn cut) : W.cell? ⟨q, 0, none⟩ = some (.slice A0 n0 c0) ∧ W.cell? ⟨q, 1, none⟩ = some (.slice A1 n1 c1) ∧ W.cell? ⟨r, 0, none⟩ = some (.slice G m mc) ∧ W.cell? ⟨r, 1, none⟩ = some (.int .i64 torn) ∧ W.cell? ⟨r, 2, none⟩ = some (.int .i64 cut) := by
  refine ⟨?_, ?_, ?_, ?_, ?_⟩
  · rw [cell_of_row W q _ _ _ _ h.tx]; rfl
  · rw [cell_of_row W q _ _ _ _ h.tx]; rfl
  all_goals (rw [cell_of_row W r _ _ _ _ h.cr]; rfl)
end

set_option maxRecDepth 100000 in
set_option maxHeartbeats 8000000 in
theorem f8_any (x : Int) (A0 A1 G : Option Addr) (l0 l1 : List UInt8) (keep : List Int) (n0 c0 n1 c1 m mc : Nat) (torn cut : Int) (w : World)
    (hl0 : l0.length = n0) (hc0 : n0 ≤ c0) (hx0 : Octs w A0 l0) (hn0 : n0 ≤ 9223372036854775807) (hl1 : l1.length = n1) (hc1 : n1 ≤ c1) (hx1 : Octs w A1 l1) (hn1 : n1 ≤ 9223372036854775807) (hkm : keep.length = m) (hkx : Cells w G (ints keep)) (hm63 : m ≤ 9223372036854775807) :
    Calls Try.prog 8 #[.int .i64 x, .agg #[.slice A0 n0 c0, .slice A1 n1 c1], .agg #[.slice G m mc, .int .i64 torn, .int .i64 cut]] w fun e w' => e = .returned (.bool true) ∧ Ext w w' := by
  obtain ⟨W0, hW0⟩ : ∃ W0, W0 = (w.alloc (.cells #[.slice A0 n0 c0, .slice A1 n1 c1] 58)).alloc (.cells #[.slice G m mc, .int .i64 torn, .int .i64 cut] 35) := ⟨_, rfl⟩
  have X0 : Ext w W0 := by rw [hW0]; exact ((Ext.refl w).alloc _).alloc _
  have htx : W0.heap[w.heap.size]? = some (.cells #[.slice A0 n0 c0, .slice A1 n1 c1] 58 (0, 0)) := by
    rw [hW0]
    exact ((Ext.refl (w.alloc (.cells #[.slice A0 n0 c0, .slice A1 n1 c1] 58))).alloc _).heap (heap_alloc_new w _)
  have hcr : W0.heap[w.heap.size + 1]? = some (.cells #[.slice G m mc, .int .i64 torn, .int .i64 cut] 35 (0, 0)) := by
    rw [hW0]
    have := heap_alloc_new (w.alloc (.cells #[.slice A0 n0 c0, .slice A1 n1 c1] 58)) (.cells #[.slice G m mc, .int .i64 torn, .int .i64 cut] 35)
    rw [World.size_alloc] at this
    exact this
  have hT := fun W (X : Ext W0 W) => show W.cell? ⟨w.heap.size, 0, none⟩ = some (.slice A0 n0 c0) ∧ W.cell? ⟨w.heap.size, 1, none⟩ = some (.slice A1 n1 c1) ∧ W.cell? ⟨w.heap.size + 1, 0, none⟩ = some (.slice G m mc) from by
    refine ⟨?_, ?_, ?_⟩
    · rw [cell_of_row W _ _ _ _ _ (X.heap htx)]; rfl
    · rw [cell_of_row W _ _ _ _ _ (X.heap htx)]; rfl
    · rw [cell_of_row W _ _ _ _ _ (X.heap hcr)]; rfl
  subst hW0
  by_cases gn0 : 2000 < n0
  · have Gn0 : ((2000 : Int) < (n0 : Int)) = True := eq_true (by omega)
    clear hx0 hx1 hkx htx hcr
    go_enter Try.func8, Try.ntmps8
    go_wp2_with first
      | (go_at_call 28; refine (aw20_any w1).mono ?_; rintro e w2 ⟨rfl, x2⟩)
      | (go_at_call 28; refine (aw20_any _).mono ?_; rintro e w1 ⟨rfl, x1⟩; obtain ⟨t0, t1, t2⟩ := hT w1 x1)
    go_ret
    exact ⟨rfl, (X0.trans x1).trans x2⟩
  have Gn0 : ((2000 : Int) < (n0 : Int)) = False := eq_false (by omega)
  by_cases gn1 : 2000 < n1
  · have Gn1 : ((2000 : Int) < (n1 : Int)) = True := eq_true (by omega)
    clear hx0 hx1 hkx htx hcr
    go_enter Try.func8, Try.ntmps8
    go_wp2_with first
      | (go_at_call 28; refine (aw20_any w1).mono ?_; rintro e w2 ⟨rfl, x2⟩)
      | (go_at_call 28; refine (aw20_any _).mono ?_; rintro e w1 ⟨rfl, x1⟩; obtain ⟨t0, t1, t2⟩ := hT w1 x1)
    go_ret
    exact ⟨rfl, (X0.trans x1).trans x2⟩
  have Gn1 : ((2000 : Int) < (n1 : Int)) = False := eq_false (by omega)
  by_cases gm : 40 < m
  · have Gm : ((40 : Int) < (m : Int)) = True := eq_true (by omega)
    clear hx0 hx1 hkx htx hcr
    go_enter Try.func8, Try.ntmps8
    go_wp2_with first
      | (go_at_call 28; refine (aw20_any w1).mono ?_; rintro e w2 ⟨rfl, x2⟩)
      | (go_at_call 28; refine (aw20_any _).mono ?_; rintro e w1 ⟨rfl, x1⟩; obtain ⟨t0, t1, t2⟩ := hT w1 x1)
    go_ret
    exact ⟨rfl, (X0.trans x1).trans x2⟩
  have Gm : ((40 : Int) < (m : Int)) = False := eq_false (by omega)
  have mk : ∀ w1 w2 p (N k fr : Nat), Ext ((w.alloc (.cells #[.slice A0 n0 c0, .slice A1 n1 c1] 58)).alloc (.cells #[.slice G m mc, .int .i64 torn, .int .i64 cut] 35)) w1 → Disk (fun b => b < w1.heap.size) w2 p (dkNew N) → Ext w1 w2 → ∀ w3, YardAt w3 w2.heap.size p fr k → Ext w2 w3 →
      ∃ K : Nat → Prop, Disk K w3 p (dkNew N) ∧ Ar K w3 w2.heap.size p fr k w.heap.size (w.heap.size + 1) A0 A1 G l0 l1 keep n0 c0 n1 c1 m mc torn cut ∧ (∀ b, K b → b < w3.heap.size) ∧ (∀ b, ¬ K b → w.heap.size ≤ b) ∧ Ext w w3 := fun w1 w2 p N k fr x1 h2 x2 w3 hy x3 => by
    have s0 := X0.size
    have s1 := x1.size
    have s2 := x2.size
    have hyl := (Array.getElem?_eq_some_iff.1 hy).1
    have hb := (Array.getElem?_eq_some_iff.1 hcr).1
    have X3 := ((X0.trans x1).trans x2).trans x3
    have inK : ∀ b, b < w.heap.size → b < w1.heap.size := fun b h => by omega
    refine ⟨fun b => b < w1.heap.size ∨ (w2.heap.size ≤ b ∧ b < w3.heap.size), h2.grow x3, ⟨hy, ((x1.trans x2).trans x3).heap htx, ((x1.trans x2).trans x3).heap hcr, hx0.ext X3, hx1.ext X3, hkx.ext X3, .inr ⟨Nat.le_refl _, hyl⟩, .inl (by omega), .inl (by omega), ?_, ?_, ?_⟩, ?_, ?_, X3⟩
    · exact fun h a e => .inl (inK _ (hx0.in_ h a e))
    · exact fun h a e => .inl (inK _ (hx1.in_ h a e))
    · intro h a e
      obtain ⟨b, o, e2, hc⟩ := hkx (by rw [length_ints]; exact h)
      rw [e] at e2
      injection e2 with e2
      rw [e2]
      exact .inl (inK _ (block_lt_of_cell (hc 0 _ (List.getElem?_eq_getElem (by rw [length_ints]; exact h)))))
    · intro b e
      rcases e with e | e
      · have := x3.size; omega
      · exact e.2
    · exact fun b e => Nat.le_of_not_lt fun h => e (.inl (inK b h))
  obtain ⟨t, n, e1, e2, e3, e4, e5, hn5⟩ := round_mod x 5 (by omega)
  rw [show ((5 : Nat) : Int) = 5 from rfl] at e1 e2 e3 e4 e5
  have hw1 : IntKind.i64.wrap (t + 5) = t + 5 := IntWalk.i64_in _ (by omega)
  obtain ⟨k, hk⟩ : ∃ k, k = n + 16 := ⟨_, rfl⟩
  have a1 : 16 + (n : Int) = (k : Int) := by omega
  obtain ⟨N, hN⟩ : ∃ N, N = 2 * k := ⟨_, rfl⟩
  have a2 : 2 * (k : Int) = (N : Int) := by omega
  have b1 : IntKind.i64.wrap (k : Int) = (k : Int) := IntWalk.i64_in _ (by omega)
  have b2 : IntKind.i64.wrap (N : Int) = (N : Int) := IntWalk.i64_in _ (by omega)
  obtain ⟨h, hh⟩ : ∃ h : Nat, h = (x % 2).toNat := ⟨_, rfl⟩
  have h01 : h = 0 ∨ h = 1 := by omega
  have b3 : bits BinOp.and IntKind.i64 x 1 = (h : Int) := by rw [and_one_i64]; omega
  obtain ⟨g, hg⟩ : ∃ g : Nat, g = 1 - h := ⟨_, rfl⟩
  have g01 : g = 0 ∨ g = 1 := by omega
  have a3 : (1 : Int) - (h : Int) = (g : Int) := by omega
  have b4 : IntKind.i64.wrap (g : Int) = (g : Int) := IntWalk.i64_in _ (by omega)
  have hk20 : k ≤ 20 := by omega
  have hk16 : 16 ≤ k := by omega
  have hf15 : ∀ W, Calls Try.prog 15 #[.int .i64 (N : Int)] W fun e w' => ∃ p, e = .returned (.tuple #[.pointer (some ⟨p, 0, none⟩), .int .i64 0]) ∧ Disk (fun b => b < W.heap.size) w' p (dkNew N) ∧ Ext W w' := fun W => dk15_good N W (by omega) (by omega)
  have hlen : (dkNew N).safe.length = N := List.length_replicate
  have hnw : ∀ p (K : Nat → Prop) W, Disk K W p (dkNew N) → Calls Try.prog 29 #[.pointer (some ⟨p, 0, none⟩), .int .i64 0, .int .i64 (k : Int)] W fun e w' => e = .returned (.tuple #[.pointer (some ⟨W.heap.size, 0, none⟩), .int .i64 0]) ∧ YardAt w' W.heap.size p 0 k ∧ Ext W w' := fun p K W h => ynew_good h 0 k (by omega) (by omega) (by rw [hlen]; omega)
  obtain ⟨s1, hs1⟩ : ∃ s1, s1 = yWr (dkNew N) (0 + h * k) l0 := ⟨_, rfl⟩
  obtain ⟨s2, hs2⟩ : ∃ s2, s2 = dkFlush s1 := ⟨_, rfl⟩
  obtain ⟨s3, hs3⟩ : ∃ s3, s3 = yWr s2 (0 + g * k) l1 := ⟨_, rfl⟩
  obtain ⟨s4, hs4⟩ : ∃ s4, s4 = dkCrash s3 keep torn cut := ⟨_, rfl⟩
  obtain ⟨C0, hC0⟩ : ∃ C, C = Mb.crcSum l0 := ⟨_, rfl⟩
  obtain ⟨C1, hC1⟩ : ∃ C, C = Mb.crcSum l1 := ⟨_, rfl⟩
  have hhg : (h * k = 0 ∧ g * k = k) ∨ (h * k = k ∧ g * k = 0) := by
    rcases h01 with e | e
    · left; rw [hg, e]; omega
    · right; rw [hg, e]; omega
  have ok1 : DkOk s1 := by rw [hs1]; exact ywr_ok (dkOk_new N) _ _ (by rw [hlen]; omega)
  have len1 : s1.safe.length = N := by rw [hs1, ywr_safe]; exact hlen
  have cal1 : s1.calls = -1 := by rw [hs1]; exact ywr_calls _ _ _ rfl
  have len2 : s2.safe.length = N := by rw [hs2]; show (putAll s1.safe s1.queue).length = N; rw [length_putAll]; exact len1
  have cal2 : s2.calls = -1 := by rw [hs2]; show callTo s1.calls = -1; rw [cal1]; rfl
  have que2 : s2.queue = [] := by rw [hs2]; rfl
  have wri1 := ywr_writes (dkNew N) (0 + h * k) l0
  rw [← hs1] at wri1
  have wri2 : 0 ≤ s2.writes ∧ s2.writes ≤ 4294967296 := by
    rw [hs2]
    show 0 ≤ s1.writes ∧ s1.writes ≤ 4294967296
    have : (dkNew N).writes = 0 := rfl
    omega
  have len3 : s3.safe.length = N := by rw [hs3, ywr_safe]; exact len2
  have cal3 : s3.calls = -1 := by rw [hs3]; exact ywr_calls _ _ _ cal2
  have got3 : yGot s3 (0 + g * k) n1 = l1 := by rw [hs3, ← hl1]; exact got_write _ _ _
  have len4 : s4.safe.length = N := by rw [hs4]; show (crashTo keep torn cut 0 s3.safe s3.queue).1.length = N; rw [length_crashTo]; exact len3
  have cal4 : s4.calls = -1 := by rw [hs4]; rfl
  have got4 : yGot s4 (0 + h * k) n0 = l0 := by
    have e : yGot s1 (0 + h * k) n0 = l0 := by rw [hs1, ← hl0]; exact got_write _ _ _
    rw [← e]
    refine got_congr _ _ _ _ fun i hi => ?_
    have ha : ∀ j, 0 + h * k + i = j → (j < 0 + g * k ∨ 0 + g * k + (l1.length + 127) / 128 ≤ j) := fun j hj => by omega
    rw [hs4, see_crash _ _ _ _ _ (fun q hq x => ?_), hs3, ywr_other _ _ _ _ (ha _ rfl), hs2, see_flush ok1]
    rw [hs3] at hq
    rcases ywr_queue q hq with z | z
    · rw [que2] at z; cases z
    · have := ha _ x.symm
      omega
  have wA : ∀ (K : Nat → Prop) W p y, Disk K W p (dkNew N) → Ar K W y p 0 k w.heap.size (w.heap.size + 1) A0 A1 G l0 l1 keep n0 c0 n1 c1 m mc torn cut → (∀ b, K b → b < W.heap.size) → Calls Try.prog 31 #[.pointer (some ⟨y, 0, none⟩), .int .i64 (h : Int), .slice A0 n0 c0] W fun e w' => e = .returned (.tuple #[.int .u32 (C0 : Int), .int .i64 0]) ∧ Disk K w' p s1 ∧ Upd (fun b => ¬ K b) W w' := fun K W p y d a hKb => by
    rw [hC0, hs1]
    exact yWrite_on d rfl a.yard h h01 (by omega) (by rw [hlen]; omega) A0 l0 n0 c0 hl0 (by omega) hc0 a.o0 (fun z b e => a.k0 (by omega) b e) ⟨Int.le_refl _, by show (0 : Int) ≤ 4294967296; decide⟩ (Nat.zero_le _) hKb
  have wF : ∀ (K : Nat → Prop) W p, Disk K W p s1 → Calls Try.prog 18 #[.pointer (some ⟨p, 0, none⟩)] W fun e w' => e = .returned (.int .i64 0) ∧ Disk K w' p s2 ∧ Upd (fun b => ¬ K b) W w' := fun K W p d => by
    rw [hs2]
    exact dk18_on d (by rw [cal1]; decide)
  have wB : ∀ (K : Nat → Prop) W p y, Disk K W p s2 → Ar K W y p 0 k w.heap.size (w.heap.size + 1) A0 A1 G l0 l1 keep n0 c0 n1 c1 m mc torn cut → (∀ b, K b → b < W.heap.size) → Calls Try.prog 31 #[.pointer (some ⟨y, 0, none⟩), .int .i64 (g : Int), .slice A1 n1 c1] W fun e w' => e = .returned (.tuple #[.int .u32 (C1 : Int), .int .i64 0]) ∧ Disk K w' p s3 ∧ Upd (fun b => ¬ K b) W w' := fun K W p y d a hKb => by
    rw [hC1, hs3]
    exact yWrite_on d cal2 a.yard g g01 (by omega) (by rw [len2]; omega) A1 l1 n1 c1 hl1 (by omega) hc1 a.o1 (fun z b e => a.k1 (by omega) b e) wri2 (by rw [que2]; exact Nat.zero_le _) hKb
  have rB : ∀ (K : Nat → Prop) W p y, Disk K W p s3 → Ar K W y p 0 k w.heap.size (w.heap.size + 1) A0 A1 G l0 l1 keep n0 c0 n1 c1 m mc torn cut → Calls Try.prog 32 #[.pointer (some ⟨y, 0, none⟩), .int .i64 (g : Int), .int .i64 (n1 : Int), .int .u32 (C1 : Int)] W fun e w' => ∃ B, e = .returned (.tuple #[.slice B n1 n1, .int .i64 0]) ∧ Octs w' B l1 ∧ Disk (fun b => K b ∨ blk (.slice B n1 n1) = some b) w' p s3 ∧ Upd (fun b => ¬ K b) W w' := fun K W p y d a =>
    rd_ok d cal3 a.yard a.ky g g01 (by omega) (by rw [len3]; omega) n1 (by omega) C1 l1 got3 hC1.symm
  have cr : ∀ (K : Nat → Prop) W p y, Disk K W p s3 → Ar K W y p 0 k w.heap.size (w.heap.size + 1) A0 A1 G l0 l1 keep n0 c0 n1 c1 m mc torn cut → Calls Try.prog 19 #[.pointer (some ⟨p, 0, none⟩), .agg #[.slice G m mc, .int .i64 torn, .int .i64 cut]] W fun e w' => ∃ v, e = .returned v ∧ Disk K w' p s4 ∧ Upd (fun b => ¬ K b) W w' := fun K W p y d a => by
    rw [hs4]
    exact (dk19_wide d G keep m mc torn cut hkm a.kp (fun z => a.kG (by omega)) hm63).mono (fun e w' h => ⟨_, h⟩)
  have rA : ∀ (K : Nat → Prop) W p y, Disk K W p s4 → Ar K W y p 0 k w.heap.size (w.heap.size + 1) A0 A1 G l0 l1 keep n0 c0 n1 c1 m mc torn cut → Calls Try.prog 32 #[.pointer (some ⟨y, 0, none⟩), .int .i64 (h : Int), .int .i64 (n0 : Int), .int .u32 (C0 : Int)] W fun e w' => ∃ B, e = .returned (.tuple #[.slice B n0 n0, .int .i64 0]) ∧ Octs w' B l0 ∧ Disk (fun b => K b ∨ blk (.slice B n0 n0) = some b) w' p s4 ∧ Upd (fun b => ¬ K b) W w' := fun K W p y d a =>
    rd_ok d cal4 a.yard a.ky h h01 (by omega) (by rw [len4]; omega) n0 (by omega) C0 l0 got4 hC0.symm
  have H0 := Lib.hid hl0
  have H1 := Lib.hid hl1
  have nN0 := gn0
  have nN1 := gn1
  clear hs1 hs2 hs3 hs4 hC0 hC1 hhg ok1 len1 cal1 len2 cal2 que2 wri1 wri2 len3 cal3 got3 len4 cal4 got4 hk hN hh hg hlen hl0 hl1 hkm h01 g01 htx hcr
  go_enter Try.func8, Try.ntmps8
  go_wp2_with first
    | (go_at_call 28; refine (aw20_any _).mono ?_; rintro e w1 ⟨rfl, x1⟩; obtain ⟨t0, t1, t2⟩ := hT w1 x1)
    | (go_at_call 15; refine (hf15 _).mono ?_; clear hf15; rintro e w2 ⟨p, rfl, d2, x2⟩; have hnw := hnw p _ w2 d2)
    | (go_at_call 29; refine hnw.mono ?_; clear hnw; rintro e w3 ⟨rfl, hy, x3⟩; obtain ⟨K, d3, a3', hKb, hKn, X3⟩ := mk w1 w2 p N k 0 x1 d2 x2 w3 hy x3; obtain ⟨u0, u1, u2, u3, u4⟩ := a3'.cells)
    | (go_at_call 31; refine (wA K _ p _ d3 a3' hKb).mono ?_; clear wA; rintro e w4 ⟨rfl, d4, v4⟩; have a4 := a3'.kept v4; have X4 := v4.to_ext X3 hKn; obtain ⟨p0, p1, p2, p3, p4⟩ := a4.cells)
    | (go_at_call 18; refine (wF K _ p d4).mono ?_; clear wF; rintro e w5 ⟨rfl, d5, v5⟩; have a5 := a4.kept v5; have X5 := v5.to_ext X4 hKn; obtain ⟨q0, q1, q2, q3, q4⟩ := a5.cells)
    | (go_at_call 31; refine (wB K _ p _ d5 a5 (fun b e => Nat.lt_of_lt_of_le (hKb b e) (v4.trans v5).size)).mono ?_; clear wB; rintro e w6 ⟨rfl, d6, v6⟩; have a6 := a5.kept v6; have X6 := v6.to_ext X5 hKn; obtain ⟨r0, r1, r2, r3, r4⟩ := a6.cells)
    | (go_at_call 32; refine (rB K _ p _ d6 a6).mono ?_; clear rB; rintro e w7 ⟨B1, rfl, o7, d7, v7⟩; have a7 := (a6.kept v7).more (K' := fun b => K b ∨ blk (.slice B1 n1 n1) = some b) (fun b e => Or.inl e); have X7 := v7.to_ext X6 hKn; obtain ⟨y0, y1, y2, y3, y4⟩ := a7.cells)
    | (go_at_call 19; refine (cr _ _ p _ d7 a7).mono ?_; clear cr; rintro e w8 ⟨v8', rfl, d8, v8⟩; have a8 := a7.kept v8; have o8 := o7.kept v8 (fun _ a e => Or.inr (by rw [e]; rfl)); have X8 := v8.to_ext X7 (fun b e => hKn b (fun x => e (Or.inl x))); obtain ⟨z0, z1, z2, z3, z4⟩ := a8.cells)
    | (go_at_call 32; refine (rA _ _ p _ d8 a8).mono ?_; clear rA; rintro e w9 ⟨B0, rfl, o9, d9, v9⟩; have a9 := a8.kept v9; have o9' := o8.kept v9 (fun _ a e => Or.inr (by rw [e]; rfl)); have X9 := v9.to_ext X8 (fun b e => hKn b (fun x => e (Or.inl x))); obtain ⟨i0, i1, i2, i3, i4⟩ := a9.cells; have j1 := conv_str B1 l1 n1 n1 w9 H1.out o9'; have j2 := conv_str A1 l1 n1 c1 w9 H1.out a9.o1; have j3 := conv_str B0 l0 n0 n0 w9 H0.out o9; have j4 := conv_str A0 l0 n0 c0 w9 H0.out a9.o0)
  go_ret
  exact ⟨rfl, X9⟩
theorem secs_add (s : Dk) (at_ a : Nat) : ∀ b, dkSecs s at_ (a + b) = dkSecs s at_ a ++ dkSecs s (at_ + a) b
  | 0 => by simp [dkSecs]
  | b + 1 => by rw [← Nat.add_assoc, dkSecs_succ, secs_add s at_ a b, dkSecs_succ, List.append_assoc, Nat.add_assoc]
/-- An area's octets are the image's. -/
theorem got_image {s : Dk} (h : DkOk s) (a z : Nat) (hz : a + (z + 127) / 128 ≤ s.safe.length) : yGot s a z = ((dkImage s).drop (128 * a)).take z := by
  obtain ⟨r, hr⟩ : ∃ r, s.safe.length = a + ((z + 127) / 128 + r) := ⟨s.safe.length - a - (z + 127) / 128, by omega⟩
  rw [dkImage_secs, hr, secs_add, Nat.zero_add, List.drop_append_of_le_length (by rw [length_dkSecs h 0 a (by omega)]; omega), List.drop_of_length_le (by rw [length_dkSecs h 0 a (by omega)]; omega), List.nil_append, secs_add,
    List.take_append_of_le_length (by rw [length_dkSecs h a _ (by omega)]; omega)]
  rfl

set_option maxRecDepth 100000 in
set_option maxHeartbeats 8000000 in
theorem f9_any (A0 A1 G : Option Addr) (l0 l1 : List UInt8) (keep : List Int) (n0 c0 n1 c1 m mc : Nat) (torn cut : Int) (w : World)
    (hl0 : l0.length = n0) (hc0 : n0 ≤ c0) (hx0 : Octs w A0 l0) (hn0 : n0 ≤ 9223372036854775807) (hl1 : l1.length = n1) (hc1 : n1 ≤ c1) (hx1 : Octs w A1 l1) (hn1 : n1 ≤ 9223372036854775807) (hkm : keep.length = m) (hkx : Cells w G (ints keep)) (hm63 : m ≤ 9223372036854775807) :
    Calls Try.prog 9 #[.agg #[.slice A0 n0 c0, .slice A1 n1 c1], .agg #[.slice G m mc, .int .i64 torn, .int .i64 cut]] w fun e w' => e = .returned (.bool true) ∧ Ext w w' := by
  obtain ⟨W0, hW0⟩ : ∃ W0, W0 = (w.alloc (.cells #[.slice A0 n0 c0, .slice A1 n1 c1] 58)).alloc (.cells #[.slice G m mc, .int .i64 torn, .int .i64 cut] 35) := ⟨_, rfl⟩
  have X0 : Ext w W0 := by rw [hW0]; exact ((Ext.refl w).alloc _).alloc _
  have htx : W0.heap[w.heap.size]? = some (.cells #[.slice A0 n0 c0, .slice A1 n1 c1] 58 (0, 0)) := by
    rw [hW0]
    exact ((Ext.refl (w.alloc (.cells #[.slice A0 n0 c0, .slice A1 n1 c1] 58))).alloc _).heap (heap_alloc_new w _)
  have hcr : W0.heap[w.heap.size + 1]? = some (.cells #[.slice G m mc, .int .i64 torn, .int .i64 cut] 35 (0, 0)) := by
    rw [hW0]
    have := heap_alloc_new (w.alloc (.cells #[.slice A0 n0 c0, .slice A1 n1 c1] 58)) (.cells #[.slice G m mc, .int .i64 torn, .int .i64 cut] 35)
    rw [World.size_alloc] at this
    exact this
  have hT := fun W (X : Ext W0 W) => show W.cell? ⟨w.heap.size, 0, none⟩ = some (.slice A0 n0 c0) ∧ W.cell? ⟨w.heap.size, 1, none⟩ = some (.slice A1 n1 c1) ∧ W.cell? ⟨w.heap.size + 1, 0, none⟩ = some (.slice G m mc) from by
    refine ⟨?_, ?_, ?_⟩
    · rw [cell_of_row W _ _ _ _ _ (X.heap htx)]; rfl
    · rw [cell_of_row W _ _ _ _ _ (X.heap htx)]; rfl
    · rw [cell_of_row W _ _ _ _ _ (X.heap hcr)]; rfl
  subst hW0
  by_cases gn0 : 2000 < n0
  · have Gn0 : ((2000 : Int) < (n0 : Int)) = True := eq_true (by omega)
    clear hx0 hx1 hkx htx hcr
    go_enter Try.func9, Try.ntmps9
    go_wp2_with first
      | (go_at_call 28; refine (aw20_any w1).mono ?_; rintro e w2 ⟨rfl, x2⟩)
      | (go_at_call 28; refine (aw20_any _).mono ?_; rintro e w1 ⟨rfl, x1⟩; obtain ⟨t0, t1, t2⟩ := hT w1 x1)
    go_ret
    exact ⟨rfl, (X0.trans x1).trans x2⟩
  have Gn0 : ((2000 : Int) < (n0 : Int)) = False := eq_false (by omega)
  by_cases gn1 : 2000 < n1
  · have Gn1 : ((2000 : Int) < (n1 : Int)) = True := eq_true (by omega)
    clear hx0 hx1 hkx htx hcr
    go_enter Try.func9, Try.ntmps9
    go_wp2_with first
      | (go_at_call 28; refine (aw20_any w1).mono ?_; rintro e w2 ⟨rfl, x2⟩)
      | (go_at_call 28; refine (aw20_any _).mono ?_; rintro e w1 ⟨rfl, x1⟩; obtain ⟨t0, t1, t2⟩ := hT w1 x1)
    go_ret
    exact ⟨rfl, (X0.trans x1).trans x2⟩
  have Gn1 : ((2000 : Int) < (n1 : Int)) = False := eq_false (by omega)
  by_cases gm : 40 < m
  · have Gm : ((40 : Int) < (m : Int)) = True := eq_true (by omega)
    clear hx0 hx1 hkx htx hcr
    go_enter Try.func9, Try.ntmps9
    go_wp2_with first
      | (go_at_call 28; refine (aw20_any w1).mono ?_; rintro e w2 ⟨rfl, x2⟩)
      | (go_at_call 28; refine (aw20_any _).mono ?_; rintro e w1 ⟨rfl, x1⟩; obtain ⟨t0, t1, t2⟩ := hT w1 x1)
    go_ret
    exact ⟨rfl, (X0.trans x1).trans x2⟩
  have Gm : ((40 : Int) < (m : Int)) = False := eq_false (by omega)
  have mk : ∀ w1 w2 p (N k fr : Nat), Ext ((w.alloc (.cells #[.slice A0 n0 c0, .slice A1 n1 c1] 58)).alloc (.cells #[.slice G m mc, .int .i64 torn, .int .i64 cut] 35)) w1 → Disk (fun b => b < w1.heap.size) w2 p (dkNew N) → Ext w1 w2 → ∀ w3, YardAt w3 w2.heap.size p fr k → Ext w2 w3 →
      ∃ K : Nat → Prop, Disk K w3 p (dkNew N) ∧ Ar K w3 w2.heap.size p fr k w.heap.size (w.heap.size + 1) A0 A1 G l0 l1 keep n0 c0 n1 c1 m mc torn cut ∧ (∀ b, K b → b < w3.heap.size) ∧ (∀ b, ¬ K b → w.heap.size ≤ b) ∧ Ext w w3 := fun w1 w2 p N k fr x1 h2 x2 w3 hy x3 => by
    have s0 := X0.size
    have s1 := x1.size
    have s2 := x2.size
    have hyl := (Array.getElem?_eq_some_iff.1 hy).1
    have hb := (Array.getElem?_eq_some_iff.1 hcr).1
    have X3 := ((X0.trans x1).trans x2).trans x3
    have inK : ∀ b, b < w.heap.size → b < w1.heap.size := fun b h => by omega
    refine ⟨fun b => b < w1.heap.size ∨ (w2.heap.size ≤ b ∧ b < w3.heap.size), h2.grow x3, ⟨hy, ((x1.trans x2).trans x3).heap htx, ((x1.trans x2).trans x3).heap hcr, hx0.ext X3, hx1.ext X3, hkx.ext X3, .inr ⟨Nat.le_refl _, hyl⟩, .inl (by omega), .inl (by omega), ?_, ?_, ?_⟩, ?_, ?_, X3⟩
    · exact fun h a e => .inl (inK _ (hx0.in_ h a e))
    · exact fun h a e => .inl (inK _ (hx1.in_ h a e))
    · intro h a e
      obtain ⟨b, o, e2, hc⟩ := hkx (by rw [length_ints]; exact h)
      rw [e] at e2
      injection e2 with e2
      rw [e2]
      exact .inl (inK _ (block_lt_of_cell (hc 0 _ (List.getElem?_eq_getElem (by rw [length_ints]; exact h)))))
    · intro b e
      rcases e with e | e
      · have := x3.size; omega
      · exact e.2
    · exact fun b e => Nat.le_of_not_lt fun h => e (.inl (inK b h))
  obtain ⟨E, hE⟩ : ∃ E, E = 512 + n1 := ⟨_, rfl⟩
  have a2 : 512 + (n1 : Int) = (E : Int) := by omega
  have b1 : IntKind.i64.wrap (E : Int) = (E : Int) := IntWalk.i64_in _ (by omega)
  have hf15 : ∀ W, Calls Try.prog 15 #[.int .i64 40] W fun e w' => ∃ p, e = .returned (.tuple #[.pointer (some ⟨p, 0, none⟩), .int .i64 0]) ∧ Disk (fun b => b < W.heap.size) w' p (dkNew 40) ∧ Ext W w' := fun W => dk15_good 40 W (by omega) (by omega)
  have hlen : (dkNew 40).safe.length = 40 := List.length_replicate
  have hnw : ∀ p (K : Nat → Prop) W, Disk K W p (dkNew 40) → Calls Try.prog 29 #[.pointer (some ⟨p, 0, none⟩), .int .i64 4, .int .i64 16] W fun e w' => e = .returned (.tuple #[.pointer (some ⟨W.heap.size, 0, none⟩), .int .i64 0]) ∧ YardAt w' W.heap.size p 4 16 ∧ Ext W w' := fun p K W h => ynew_good h 4 16 (by omega) (by omega) (by rw [hlen]; omega)
  obtain ⟨s1, hs1⟩ : ∃ s1, s1 = yWr (dkNew 40) (4 + 0 * 16) l0 := ⟨_, rfl⟩
  obtain ⟨s2, hs2⟩ : ∃ s2, s2 = dkFlush s1 := ⟨_, rfl⟩
  obtain ⟨s3, hs3⟩ : ∃ s3, s3 = yWr s2 (4 + 0 * 16) l1 := ⟨_, rfl⟩
  obtain ⟨s4, hs4⟩ : ∃ s4, s4 = dkCrash s3 keep torn cut := ⟨_, rfl⟩
  obtain ⟨C0, hC0⟩ : ∃ C, C = Mb.crcSum l0 := ⟨_, rfl⟩
  obtain ⟨C1, hC1⟩ : ∃ C, C = Mb.crcSum l1 := ⟨_, rfl⟩
  have ok1 : DkOk s1 := by rw [hs1]; exact ywr_ok (dkOk_new 40) _ _ (by rw [hlen]; omega)
  have len1 : s1.safe.length = 40 := by rw [hs1, ywr_safe]; exact hlen
  have cal1 : s1.calls = -1 := by rw [hs1]; exact ywr_calls _ _ _ rfl
  have ok2 : DkOk s2 := by rw [hs2]; exact dkOk_flush ok1
  have len2 : s2.safe.length = 40 := by rw [hs2]; show (putAll s1.safe s1.queue).length = 40; rw [length_putAll]; exact len1
  have cal2 : s2.calls = -1 := by rw [hs2]; show callTo s1.calls = -1; rw [cal1]; rfl
  have que2 : s2.queue = [] := by rw [hs2]; rfl
  have wri1 := ywr_writes (dkNew 40) (4 + 0 * 16) l0
  rw [← hs1] at wri1
  have wri2 : 0 ≤ s2.writes ∧ s2.writes ≤ 4294967296 := by
    rw [hs2]
    show 0 ≤ s1.writes ∧ s1.writes ≤ 4294967296
    have : (dkNew 40).writes = 0 := rfl
    omega
  have ok3 : DkOk s3 := by rw [hs3]; exact ywr_ok ok2 _ _ (by rw [len2]; omega)
  have len3 : s3.safe.length = 40 := by rw [hs3, ywr_safe]; exact len2
  have ok4 : DkOk s4 := by rw [hs4]; exact dkOk_crash ok3 _ _ _
  have len4 : s4.safe.length = 40 := by rw [hs4]; show (crashTo keep torn cut 0 s3.safe s3.queue).1.length = 40; rw [length_crashTo]; exact len3
  have cal4 : s4.calls = -1 := by rw [hs4]; rfl
  obtain ⟨im, him⟩ : ∃ im, im = dkImage s4 := ⟨_, rfl⟩
  have iml : im.length = 5120 := by rw [him, dkImage_secs, length_dkSecs ok4 0 _ (by omega), len4]
  obtain ⟨st, hst⟩ : ∃ st, st = (im.drop 512).take n1 := ⟨_, rfl⟩
  have stl : st.length = n1 := by rw [hst, List.length_take, List.length_drop, iml]; omega
  have got4 : yGot s4 (4 + 0 * 16) n1 = st := by rw [got_image ok4 _ _ (by rw [len4]; omega), hst, him]
  obtain ⟨C2, hC2⟩ : ∃ C, C = Mb.crcSum st := ⟨_, rfl⟩
  have wA : ∀ (K : Nat → Prop) W p y, Disk K W p (dkNew 40) → Ar K W y p 4 16 w.heap.size (w.heap.size + 1) A0 A1 G l0 l1 keep n0 c0 n1 c1 m mc torn cut → (∀ b, K b → b < W.heap.size) → Calls Try.prog 31 #[.pointer (some ⟨y, 0, none⟩), .int .i64 0, .slice A0 n0 c0] W fun e w' => e = .returned (.tuple #[.int .u32 (C0 : Int), .int .i64 0]) ∧ Disk K w' p s1 ∧ Upd (fun b => ¬ K b) W w' := fun K W p y d a hKb => by
    rw [hC0, hs1]
    exact yWrite_on d rfl a.yard 0 (.inl rfl) (by omega) (by rw [hlen]; omega) A0 l0 n0 c0 hl0 (by omega) hc0 a.o0 (fun z b e => a.k0 (by omega) b e) ⟨Int.le_refl _, by show (0 : Int) ≤ 4294967296; decide⟩ (Nat.zero_le _) hKb
  have wF : ∀ (K : Nat → Prop) W p, Disk K W p s1 → Calls Try.prog 18 #[.pointer (some ⟨p, 0, none⟩)] W fun e w' => e = .returned (.int .i64 0) ∧ Disk K w' p s2 ∧ Upd (fun b => ¬ K b) W w' := fun K W p d => by
    rw [hs2]
    exact dk18_on d (by rw [cal1]; decide)
  have wB : ∀ (K : Nat → Prop) W p y, Disk K W p s2 → Ar K W y p 4 16 w.heap.size (w.heap.size + 1) A0 A1 G l0 l1 keep n0 c0 n1 c1 m mc torn cut → (∀ b, K b → b < W.heap.size) → Calls Try.prog 31 #[.pointer (some ⟨y, 0, none⟩), .int .i64 0, .slice A1 n1 c1] W fun e w' => e = .returned (.tuple #[.int .u32 (C1 : Int), .int .i64 0]) ∧ Disk K w' p s3 ∧ Upd (fun b => ¬ K b) W w' := fun K W p y d a hKb => by
    rw [hC1, hs3]
    exact yWrite_on d cal2 a.yard 0 (.inl rfl) (by omega) (by rw [len2]; omega) A1 l1 n1 c1 hl1 (by omega) hc1 a.o1 (fun z b e => a.k1 (by omega) b e) wri2 (by rw [que2]; exact Nat.zero_le _) hKb
  have cr : ∀ (K : Nat → Prop) W p y, Disk K W p s3 → Ar K W y p 4 16 w.heap.size (w.heap.size + 1) A0 A1 G l0 l1 keep n0 c0 n1 c1 m mc torn cut → Calls Try.prog 19 #[.pointer (some ⟨p, 0, none⟩), .agg #[.slice G m mc, .int .i64 torn, .int .i64 cut]] W fun e w' => ∃ v, e = .returned v ∧ Disk K w' p s4 ∧ Upd (fun b => ¬ K b) W w' := fun K W p y d a => by
    rw [hs4]
    exact (dk19_wide d G keep m mc torn cut hkm a.kp (fun z => a.kG (by omega)) hm63).mono (fun e w' h => ⟨_, h⟩)
  have h25 : ∀ (K : Nat → Prop) W p, Disk K W p s4 → Calls Try.prog 25 #[.pointer (some ⟨p, 0, none⟩)] W fun e w' => ∃ B c, e = .returned (.slice B 5120 c) ∧ 5120 ≤ c ∧ Octs w' B im ∧ Ext W w' ∧ ∃ K' : Nat → Prop, (∀ b, K b → K' b) ∧ (∀ a, B = some a → K' a.block) ∧ Disk K' w' p s4 := fun K W p d => (dk25_any d).mono (by
    rintro e w' ⟨v, rfl, o, x⟩
    obtain ⟨B, c, e1, e2, _, hx⟩ := o.form
    rw [← him] at hx e1 e2
    rw [iml] at e1 e2
    refine ⟨B, c, by rw [e1], e2, hx, x, fun b => K b ∨ (W.heap.size ≤ b ∧ b < w'.heap.size), fun b => Or.inl, fun a e => .inr ?_, d.grow x⟩
    subst e
    have hb : blk v = some a.block := by rw [e1]; rfl
    exact ⟨o.2 _ hb, o.1.lt hb⟩)
  have sm : ∀ W A c, Octs W A st → Calls Try.prog 33 #[.slice A n1 c] W fun e w' => e = .returned (.int .u32 (C2 : Int)) ∧ W = w' := fun W A c o => by
    rw [hC2]
    exact f43_n A st n1 c W stl (by omega) o
  have cm : ∀ B c, 5120 ≤ c → ∃ A1 c1, (∀ w, (Instr.slice 22 (.slice B 5120 c) (some (.int .i64 512)) (some (.int .i64 (E : Int))) none).run Try.prog w = .ok (.slice A1 n1 c1) w) ∧ (∀ w, Octs w B im → Octs w A1 st) := fun B c hc => by
    obtain ⟨A1, s1, _, s3, _⟩ := cut_mid B im c 512 E (by omega) (by omega) (by omega)
    rw [iml, show E - 512 = n1 by omega] at s1
    rw [show E - 512 = n1 by omega, ← hst] at s3
    exact ⟨A1, _, s1, s3⟩
  have HS := Lib.hid stl
  by_cases he : C2 = C1
  · have rB : ∀ (K : Nat → Prop) W p y, Disk K W p s4 → Ar K W y p 4 16 w.heap.size (w.heap.size + 1) A0 A1 G l0 l1 keep n0 c0 n1 c1 m mc torn cut → Calls Try.prog 32 #[.pointer (some ⟨y, 0, none⟩), .int .i64 0, .int .i64 (n1 : Int), .int .u32 (C1 : Int)] W fun e w' => ∃ B, e = .returned (.tuple #[.slice B n1 n1, .int .i64 0]) ∧ Octs w' B st ∧ Disk (fun b => K b ∨ blk (.slice B n1 n1) = some b) w' p s4 ∧ Upd (fun b => ¬ K b) W w' := fun K W p y d a =>
      rd_ok d cal4 a.yard a.ky 0 (.inl rfl) (by omega) (by rw [len4]; omega) n1 (by omega) C1 st got4 (by rw [← hC2]; exact he)
    subst he
    clear hs1 hs2 hs3 hs4 hC0 hC1 hC2 ok1 len1 cal1 len2 cal2 que2 wri1 wri2 len3 len4 cal4 got4 hlen hl0 hl1 hkm htx hcr ok2 ok3 ok4 him iml hst stl hE
    go_enter Try.func9, Try.ntmps9
    go_wp2_with first
      | (go_at_call 28; refine (aw20_any _).mono ?_; rintro e w1 ⟨rfl, x1⟩; obtain ⟨t0, t1, t2⟩ := hT w1 x1)
      | (go_at_call 15; refine (hf15 _).mono ?_; clear hf15; rintro e w2 ⟨p, rfl, d2, x2⟩; have hnw := hnw p _ w2 d2)
      | (go_at_call 29; refine hnw.mono ?_; clear hnw; rintro e w3 ⟨rfl, hy, x3⟩; obtain ⟨K, d3, a3, hKb, hKn, X3⟩ := mk w1 w2 p 40 16 4 x1 d2 x2 w3 hy x3; obtain ⟨u0, u1, u2, u3, u4⟩ := a3.cells)
      | (go_at_call 31; refine (wA K _ p _ d3 a3 hKb).mono ?_; clear wA; rintro e w4 ⟨rfl, d4, v4⟩; have a4 := a3.kept v4; have X4 := v4.to_ext X3 hKn; obtain ⟨p0, p1, p2, p3, p4⟩ := a4.cells)
      | (go_at_call 18; refine (wF K _ p d4).mono ?_; clear wF; rintro e w5 ⟨rfl, d5, v5⟩; have a5 := a4.kept v5; have X5 := v5.to_ext X4 hKn; obtain ⟨q0, q1, q2, q3, q4⟩ := a5.cells)
      | (go_at_call 31; refine (wB K _ p _ d5 a5 (fun b e => Nat.lt_of_lt_of_le (hKb b e) (v4.trans v5).size)).mono ?_; clear wB; rintro e w6 ⟨rfl, d6, v6⟩; have a6 := a5.kept v6; have X6 := v6.to_ext X5 hKn; obtain ⟨r0, r1, r2, r3, r4⟩ := a6.cells)
      | (go_at_call 19; refine (cr _ _ p _ d6 a6).mono ?_; clear cr; rintro e w8 ⟨v8', rfl, d8, v8⟩; have a8 := a6.kept v8; have X8 := v8.to_ext X6 hKn; obtain ⟨z0, z1, z2, z3, z4⟩ := a8.cells)
      | (go_at_call 25; refine (h25 _ _ p d8).mono ?_; clear h25; rintro e w9 ⟨Bm, cB, rfl, hcB, om, x9, K', hKK, hBK, d9⟩; have a9 := (a8.kept (Upd.of_ext _ x9)).more hKK; have X9 := X8.trans x9; obtain ⟨Am, cm', cm1, cm2⟩ := cm Bm cB hcB; clear cm; obtain ⟨i0, i1, i2, i3, i4⟩ := a9.cells)
      | (go_at_call 32; refine (rB K' _ p _ d9 a9).mono ?_; clear rB; rintro e w10 ⟨B1, rfl, o10, d10, v10⟩; have a10 := a9.kept v10; have X10 := v10.to_ext X9 (fun b e => hKn b (fun x => e (hKK b x))); have o10m := om.kept v10 (fun _ => hBK); obtain ⟨y0, y1, y2, y3, y4⟩ := a10.cells)
      | (go_at_call 33; refine (sm _ _ _ (cm2 _ o10m)).mono ?_; clear sm; rintro e w11 ⟨rfl, rfl⟩; have j1 := conv_str B1 st n1 n1 w10 HS.out o10; have j2 := conv_str Am st n1 cm' w10 HS.out (cm2 _ o10m))
    go_ret
    exact ⟨rfl, X10⟩
  · have rB : ∀ (K : Nat → Prop) W p y, Disk K W p s4 → Ar K W y p 4 16 w.heap.size (w.heap.size + 1) A0 A1 G l0 l1 keep n0 c0 n1 c1 m mc torn cut → Calls Try.prog 32 #[.pointer (some ⟨y, 0, none⟩), .int .i64 0, .int .i64 (n1 : Int), .int .u32 (C1 : Int)] W fun e w' => e = .returned (.tuple #[.slice none 0 0, .int .i64 14]) ∧ Disk K w' p s4 ∧ Upd (fun b => ¬ K b) W w' := fun K W p y d a =>
      rd_bad d cal4 a.yard a.ky 0 (.inl rfl) (by omega) (by rw [len4]; omega) n1 (by omega) C1 (by rw [got4, ← hC2]; exact he)
    have hne : ((C2 : Int) != (C1 : Int)) = true := by rw [bne_iff_ne]; omega
    have hne2 : ¬ ((C2 : Int) = (C1 : Int)) := by omega
    clear hs1 hs2 hs3 hs4 hC0 hC1 hC2 ok1 len1 cal1 len2 cal2 que2 wri1 wri2 len3 len4 cal4 got4 hlen hl0 hl1 hkm htx hcr ok2 ok3 ok4 him iml hst stl hE
    go_enter Try.func9, Try.ntmps9
    go_wp2_with first
      | (go_at_call 28; refine (aw20_any _).mono ?_; rintro e w1 ⟨rfl, x1⟩; obtain ⟨t0, t1, t2⟩ := hT w1 x1)
      | (go_at_call 15; refine (hf15 _).mono ?_; clear hf15; rintro e w2 ⟨p, rfl, d2, x2⟩; have hnw := hnw p _ w2 d2)
      | (go_at_call 29; refine hnw.mono ?_; clear hnw; rintro e w3 ⟨rfl, hy, x3⟩; obtain ⟨K, d3, a3, hKb, hKn, X3⟩ := mk w1 w2 p 40 16 4 x1 d2 x2 w3 hy x3; obtain ⟨u0, u1, u2, u3, u4⟩ := a3.cells)
      | (go_at_call 31; refine (wA K _ p _ d3 a3 hKb).mono ?_; clear wA; rintro e w4 ⟨rfl, d4, v4⟩; have a4 := a3.kept v4; have X4 := v4.to_ext X3 hKn; obtain ⟨p0, p1, p2, p3, p4⟩ := a4.cells)
      | (go_at_call 18; refine (wF K _ p d4).mono ?_; clear wF; rintro e w5 ⟨rfl, d5, v5⟩; have a5 := a4.kept v5; have X5 := v5.to_ext X4 hKn; obtain ⟨q0, q1, q2, q3, q4⟩ := a5.cells)
      | (go_at_call 31; refine (wB K _ p _ d5 a5 (fun b e => Nat.lt_of_lt_of_le (hKb b e) (v4.trans v5).size)).mono ?_; clear wB; rintro e w6 ⟨rfl, d6, v6⟩; have a6 := a5.kept v6; have X6 := v6.to_ext X5 hKn; obtain ⟨r0, r1, r2, r3, r4⟩ := a6.cells)
      | (go_at_call 19; refine (cr _ _ p _ d6 a6).mono ?_; clear cr; rintro e w8 ⟨v8', rfl, d8, v8⟩; have a8 := a6.kept v8; have X8 := v8.to_ext X6 hKn; obtain ⟨z0, z1, z2, z3, z4⟩ := a8.cells)
      | (go_at_call 25; refine (h25 _ _ p d8).mono ?_; clear h25; rintro e w9 ⟨Bm, cB, rfl, hcB, om, x9, K', hKK, hBK, d9⟩; have a9 := (a8.kept (Upd.of_ext _ x9)).more hKK; have X9 := X8.trans x9; obtain ⟨Am, cm', cm1, cm2⟩ := cm Bm cB hcB; clear cm; obtain ⟨i0, i1, i2, i3, i4⟩ := a9.cells)
      | (go_at_call 32; refine (rB K' _ p _ d9 a9).mono ?_; clear rB; rintro e w10 ⟨rfl, d10, v10⟩; have a10 := a9.kept v10; have X10 := v10.to_ext X9 (fun b e => hKn b (fun x => e (hKK b x))); have o10m := om.kept v10 (fun _ => hBK); obtain ⟨y0, y1, y2, y3, y4⟩ := a10.cells)
      | (go_at_call 33; refine (sm _ _ _ (cm2 _ o10m)).mono ?_; clear sm; rintro e w11 ⟨rfl, rfl⟩)
    go_ret
    exact ⟨rfl, X10⟩
end Go.Proofs.Ytgpnmmgoachajaa
