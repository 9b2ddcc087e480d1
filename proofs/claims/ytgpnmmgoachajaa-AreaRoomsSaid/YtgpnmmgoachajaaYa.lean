/- The yard: New, Room, at, Write, Read. -/
import Derived.Test.YtgpnmmgoachajaaDy
import Derived.Test.YtgpnmmgoachajaaSeal
import Derived.Test.YtgpnmmgoachajaaHd
namespace Go.Proofs.Ytgpnmmgoachajaa
open Go.RowKit Go.Shelf
open Go.Proofs

section
variable {w : World} {ops : Array Oper} {rest : List Oper} {o : Oper} {a : Act} {Q : Exit → Act → World → Prop}
/-- Octets copied into a row that is known whole, from its beginning. -/
theorem wpList_copy_sec (hgd : o.guard = none) (d s : Operand) (ho : o.op = .call { callee := .builtin .copy, args := #[d, s], argTypes := #[22, 22] })
    (g dLen dCap sLen sCap : Nat) (hd : a.eval d = .slice (some ⟨g, 0, none⟩) dLen dCap) (sp : Option Addr) (hs : a.eval s = .slice sp sLen sCap)
    (L : List UInt8) (t : TypeId) (hg : w.heap[g]? = some (.cells (octs L).toArray t (0, 0))) (q : List UInt8) (hq : q.length = sLen) (hle : sLen ≤ dLen)
    (h0 : 0 < sLen) (hx : Octs w sp q) (hfit : q.length ≤ L.length)
    (h : ∀ w', w'.heap[g]? = some (.cells (octs (q ++ L.drop q.length)).toArray t (0, 0)) → Upd (fun b => b = g) w w' → wpList Try.prog ops Q rest (a.put o.dst (goInt q.length)) w') : wpList Try.prog ops Q (o :: rest) a w := by
  subst hq
  obtain ⟨b, o2, rfl, _⟩ := hx (by rw [length_octs]; omega)
  have hn := Cells.news hx rfl (by rw [length_octs]; omega)
  have hrun := run_copy_row (P := Try.prog) w 22 22 o.type 5 g 0 dLen dCap _ q.length sCap (octs L).toArray t (octs q) Try.underlying22 size_octet hg (by rw [length_octs]; exact (Nat.min_eq_left hle).symm) hn (by rw [length_octs, List.size_toArray, length_octs]; omega) (octs_one q)
  refine wpList_plain hgd fun K hK => ?_
  unfold Oper.wp
  simp [execOp, ho, resolve, invoke, builtin, hd, hs, hrun, Result.andThen]
  refine hK _ _ (h _ ?_ (upd_row g _ w))
  have e : octs q ++ (octs L).drop q.length = octs (q ++ L.drop q.length) := by simp [octs]
  have := setRow_heap w g _ (octs q ++ (octs L).drop q.length).toArray t _ hg
  rw [e] at this
  simpa [e] using this
end
/-- 'b[:n:n]'. -/
theorem cut_hm (A : Option Addr) (n c z : Nat) (hz : z ≤ c) (w : World) : (Instr.slice 22 (.slice A n c) none (some (.int .i64 (z : Int))) (some (.int .i64 (z : Int)))).run Try.prog w = .ok (.slice A z z) w := by
  obtain ⟨i0, hi, _, hs, _⟩ := info_parts info5
  have he : Try.prog.elem 22 = 5 := by kernel_rfl
  rw [run_slice_hm w 22 A n c (by rw [he]; exact Try.underlying22) .i64 .i64 z z (by omega) (by omega) (by omega), run_size1 22 5 i0 he hi hs]
  have e0 : (if z = 0 then A else A.map (·.add (0 * 1))) = A := by
    split
    · rfl
    · cases A <;> simp [Addr.add]
  simp [Result.andThen, sliced, e0]

/-- Octets filled up to a whole number of sectors. -/
def padTo (l : List UInt8) : List UInt8 := l ++ List.replicate ((l.length + 127) / 128 * 128 - l.length) 0
theorem length_padTo (l : List UInt8) : (padTo l).length = (l.length + 127) / 128 * 128 := by
  rw [padTo, List.length_append, List.length_replicate]; omega
/-- What an area's writing does with the disk. -/
def yWr (s : Dk) (at_ : Nat) (l : List UInt8) : Dk := if l.length = 0 then s else dkWrite s at_ (padTo l)
/-- The yard in memory. -/
abbrev YardAt (w : World) (y p fr n : Nat) : Prop := w.heap[y]? = some (.cells #[.pointer (some ⟨p, 0, none⟩), .int .i64 (fr : Int), .int .i64 (n : Int)] 97 (0, 0))
theorem yard_cells {w : World} {y p fr n : Nat} (h : YardAt w y p fr n) : w.cell? ⟨y, 0, none⟩ = some (.pointer (some ⟨p, 0, none⟩)) ∧ w.cell? ⟨y, 1, none⟩ = some (.int .i64 (fr : Int)) ∧ w.cell? ⟨y, 2, none⟩ = some (.int .i64 (n : Int)) := by
  refine ⟨?_, ?_, ?_⟩ <;> (rw [cell_of_row w y _ _ _ _ h]; rfl)

set_option maxRecDepth 100000 in
/-- ints.Up. -/
theorem up_any (x : Nat) (h1 : 1 ≤ x) (h2 : x ≤ 4294967296) (w : World) : Calls Try.prog 53 #[.int .i64 (x : Int), .int .i64 128] w fun e w' => e = .returned (.int .i64 (((x + 127) / 128 * 128 : Nat) : Int)) ∧ w = w' := by
  obtain ⟨q, hq⟩ : ∃ q, q = (x - 1) / 128 := ⟨_, rfl⟩
  obtain ⟨D, hD⟩ : ∃ D, D = 4611686018427387904 / (q + 1) := ⟨_, rfl⟩
  have hq2 : q ≤ 33554432 := by omega
  have hD2 : 128 ≤ D := by
    rw [hD, Nat.le_div_iff_mul_le (by omega)]; omega
  have hD3 : D ≤ 4611686018427387904 := by rw [hD]; exact Nat.div_le_self ..
  have g1 : ((x : Int) < 1) = False := eq_false (by omega)
  have g2 : ((4611686018427387904 : Int) < (x : Int)) = False := eq_false (by omega)
  obtain ⟨x1, hx1⟩ : ∃ x1, x1 = x - 1 := ⟨_, rfl⟩
  have s1 : (x : Int) - 1 = (x1 : Int) := by omega
  have q1 : (x1 : Int).tdiv 128 = (q : Int) := by rw [Int.tdiv_eq_ediv_of_nonneg (by omega)]; omega
  have q2 : (x1 : Int) / 128 = (q : Int) := by omega
  obtain ⟨r, hr⟩ : ∃ r, r = q + 1 := ⟨_, rfl⟩
  have r1 : (q : Int) + 1 = (r : Int) := by omega
  have d1 : (4611686018427387904 : Int).tdiv (r : Int) = (D : Int) := by rw [Int.tdiv_eq_ediv_of_nonneg (by omega), hD, hr]; rfl
  have d2 : (4611686018427387904 : Int) / (r : Int) = (D : Int) := by rw [hD, hr]; rfl
  have g3 : ((D : Int) < 128) = False := eq_false (by omega)
  obtain ⟨U, hU⟩ : ∃ U, U = (x + 127) / 128 * 128 := ⟨_, rfl⟩
  have m1 : (r : Int) * 128 = (U : Int) := by omega
  have w1 : IntKind.i64.wrap (x1 : Int) = (x1 : Int) := IntWalk.i64_in _ (by omega)
  have w2 : IntKind.i64.wrap (q : Int) = (q : Int) := IntWalk.i64_in _ (by omega)
  have w3 : IntKind.i64.wrap (r : Int) = (r : Int) := IntWalk.i64_in _ (by omega)
  have w4 : IntKind.i64.wrap (D : Int) = (D : Int) := IntWalk.i64_in _ (by omega)
  have w5 : IntKind.i64.wrap (U : Int) = (U : Int) := IntWalk.i64_in _ (by omega)
  have r0 : ¬ ((r : Int) = 0) := by omega
  rw [← hU]
  clear hq hD hx1 hr hU hD2 hD3
  go_enter Try.func53, Try.ntmps53
  go_wp2
  go_ret
  exact ⟨rfl, rfl⟩

set_option maxRecDepth 100000 in
theorem room_any {w : World} {y p fr n : Nat} (hy : YardAt w y p fr n) (hn : n ≤ 65536) : Calls Try.prog 30 #[.pointer (some ⟨y, 0, none⟩)] w fun e w' => e = .returned (.int .i64 ((n * 128 : Nat) : Int)) ∧ w = w' := by
  obtain ⟨c0, c1, c2⟩ := yard_cells hy
  have m1 : (n : Int) * 128 = ((n * 128 : Nat) : Int) := by omega
  have w1 : IntKind.i64.wrap ((n * 128 : Nat) : Int) = ((n * 128 : Nat) : Int) := IntWalk.i64_in _ (by omega)
  obtain ⟨M, hM⟩ : ∃ M, M = n * 128 := ⟨_, rfl⟩
  rw [← hM] at m1 w1 ⊢
  clear hM
  go_enter Try.func30, Try.ntmps30
  go_wp2
  go_ret
  exact ⟨rfl, rfl⟩
set_option maxRecDepth 100000 in
theorem at_any {w : World} {y p fr n : Nat} (hy : YardAt w y p fr n) (hn : n ≤ 65536) (hf : fr ≤ 65536) (wh : Nat) (hwh : wh = 0 ∨ wh = 1) : Calls Try.prog 52 #[.pointer (some ⟨y, 0, none⟩), .int .i64 (wh : Int)] w fun e w' => e = .returned (.int .i64 ((fr + wh * n : Nat) : Int)) ∧ Ext w w' := by
  obtain ⟨c0, c1, c2⟩ := yard_cells hy
  rcases hwh with rfl | rfl
  · have m1 : (fr : Int) + 0 = (fr : Int) := by omega
    have w1 : IntKind.i64.wrap (fr : Int) = (fr : Int) := IntWalk.i64_in _ (by omega)
    rw [show fr + 0 * n = fr by omega]
    go_enter Try.func52, Try.ntmps52
    go_wp2_with fail
    go_quiet (fail)
    go_wp2_with fail
    go_ret
    exact ⟨rfl, (Ext.refl w).drewN _⟩
  · obtain ⟨T, hT⟩ : ∃ T, T = fr + 1 * n := ⟨_, rfl⟩
    have m1 : (fr : Int) + (n : Int) = (T : Int) := by omega
    have w1 : IntKind.i64.wrap (T : Int) = (T : Int) := IntWalk.i64_in _ (by omega)
    have w2 : IntKind.i64.wrap (n : Int) = (n : Int) := IntWalk.i64_in _ (by omega)
    rw [← hT]
    clear hT
    go_enter Try.func52, Try.ntmps52
    go_wp2_with fail
    go_quiet (fail)
    go_wp2_with fail
    go_ret
    exact ⟨rfl, (Ext.refl w).drewN _⟩
set_option maxRecDepth 100000 in
theorem ynew_good {K : Nat → Prop} {w : World} {p : Nat} {s : Dk} (h : Disk K w p s) (fr n : Nat) (h1 : 1 ≤ n) (h2 : n ≤ 4096) (hf : fr + 2 * n ≤ s.safe.length) :
    Calls Try.prog 29 #[.pointer (some ⟨p, 0, none⟩), .int .i64 (fr : Int), .int .i64 (n : Int)] w fun e w' => e = .returned (.tuple #[.pointer (some ⟨w.heap.size, 0, none⟩), .int .i64 0]) ∧ YardAt w' w.heap.size p fr n ∧ Ext w w' := by
  have hbig : s.safe.length ≤ 65536 := h.choose_spec.choose_spec.choose_spec.1.big
  have h27 : Calls Try.prog 27 #[.pointer (some ⟨p, 0, none⟩)] w fun e w' => e = .returned (.int .i64 (s.safe.length : Int)) ∧ w = w' := dk27_any h
  obtain ⟨N, hN⟩ : ∃ N, N = s.safe.length := ⟨_, rfl⟩
  rw [← hN] at h27 hf hbig
  obtain ⟨M, hM⟩ : ∃ M, M = 2 * n := ⟨_, rfl⟩
  obtain ⟨E, hE⟩ : ∃ E, E = N - 2 * n := ⟨_, rfl⟩
  have g1 : ((n : Int) < 1) = False := eq_false (by omega)
  have g2 : ((4096 : Int) < (n : Int)) = False := eq_false (by omega)
  have g3 : ((fr : Int) < 0) = False := eq_false (by omega)
  have m1 : 2 * (n : Int) = (M : Int) := by omega
  have m2 : (N : Int) - (M : Int) = (E : Int) := by omega
  have w1 : IntKind.i64.wrap (M : Int) = (M : Int) := IntWalk.i64_in _ (by omega)
  have w2 : IntKind.i64.wrap (E : Int) = (E : Int) := IntWalk.i64_in _ (by omega)
  have g4 : ((N : Int) < (M : Int)) = False := eq_false (by omega)
  have g5 : ((E : Int) < (fr : Int)) = False := eq_false (by omega)
  clear hN hM hE
  go_enter Try.func29, Try.ntmps29
  go_wp2_with (go_at_call 27; refine h27.mono ?_; rintro e w1 ⟨rfl, rfl⟩)
  go_ret2
  exact ⟨rfl, heap_alloc_new _ _, (Ext.refl _).alloc _⟩
end Go.Proofs.Ytgpnmmgoachajaa
