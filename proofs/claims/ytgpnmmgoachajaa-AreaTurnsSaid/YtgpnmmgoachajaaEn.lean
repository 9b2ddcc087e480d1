/- DiskKeeps: what stays on the disk. -/
import Derived.Test.YtgpnmmgoachajaaEl
namespace Go.Proofs.Ytgpnmmgoachajaa
open Go.RowKit
open Go.Proofs

/-- The sector that is laid at a place first. -/
def sK (k : Nat) : List UInt8 := secOf [7, UInt8.ofNat k]
theorem length_sK (k : Nat) : (sK k).length = 128 := length_secOf _ (by show 2 ≤ 128; decide)
def kq : Nat → Dk
  | 0 => dkNew 8
  | k + 1 => dkWrite (kq k) k (sK k)
theorem kq_form : ∀ k, kq k = ⟨(dkNew 8).safe, (List.range k).map (fun j => (j, sK j)), -1, (k : Int)⟩
  | 0 => rfl
  | k + 1 => by
    rw [kq, dkWrite_one _ _ _ (length_sK k), kq_form k, List.range_succ, List.map_append]
    rfl
theorem kq_flush : dkFlush (kq 8) = ⟨(List.range 8).map sK, [], -1, 8⟩ := by
  rw [kq_form]
  generalize sK = f
  rfl
/-- What holds of the disk where bs tells which sectors were turned. -/
structure Kept (s : Dk) (bs : List Bool) : Prop where
  len : s.safe.length = 8
  size : bs.length = 8
  calls : s.calls = -1
  safe : ∀ k : Nat, bs[k]? = some false → s.safe[k]? = some (sK k)
  queue : ∀ p ∈ s.queue, bs[p.1]? = some true
theorem Kept.start : Kept (dkFlush (kq 8)) (List.replicate 8 false) := by
  rw [kq_flush]
  refine ⟨by simp, by simp, rfl, fun k hk => ?_, fun p hp => by cases hp⟩
  have h8 : k < 8 := by
    have := (List.getElem?_eq_some_iff.1 hk).1
    simpa using this
  show ((List.range 8).map sK)[k]? = some (sK k)
  rw [List.getElem?_map, List.getElem?_range h8]
  rfl
section
variable {s : Dk} {bs : List Bool}
theorem Kept.write (h : Kept s bs) (a : Nat) (ha : a < 8) (S : List UInt8) (hS : S.length = 128) : Kept (dkWrite s a S) (bs.set a true) := by
  rw [dkWrite_one _ _ _ hS]
  refine ⟨h.len, by rw [List.length_set]; exact h.size, ?_, fun k hk => ?_, fun p hp => ?_⟩
  · show callTo s.calls = -1
    rw [h.calls]; rfl
  · refine h.safe k ?_
    by_cases e : a = k
    · subst e
      rw [List.getElem?_set_self (by rw [h.size]; exact ha)] at hk
      cases hk
    · rw [List.getElem?_set_ne e] at hk
      exact hk
  · rcases List.mem_append.1 hp with h1 | h1
    · by_cases e : a = p.1
      · rw [e, List.getElem?_set_self (by rw [h.size]; omega)]
      · rw [List.getElem?_set_ne e]
        exact h.queue p h1
    · rw [List.mem_singleton.1 h1]
      exact List.getElem?_set_self (by rw [h.size]; exact ha)
theorem crashTo_other (keep : List Int) (torn cut : Int) (k : Nat) (q : List (Nat × List UInt8)) : ∀ (i : Nat) (sf : List (List UInt8)), (∀ p ∈ q, p.1 ≠ k) → (crashTo keep torn cut i sf q).1[k]? = sf[k]? := by
  induction q with
  | nil => intro i sf _; rfl
  | cons p q ih =>
    intro i sf h
    have hp := h p (by simp)
    have hq : ∀ x ∈ q, x.1 ≠ k := fun x hx => h x (by simp [hx])
    rw [crashTo]
    split
    · show (crashTo keep torn cut (i + 1) (sf.set p.1 p.2) q).1[k]? = _
      rw [ih _ _ hq, List.getElem?_set_ne hp]
    · split
      · rw [ih _ _ hq, List.getElem?_set_ne hp]
      · exact ih _ _ hq
theorem Kept.crash (h : Kept s bs) (keep : List Int) (torn cut : Int) : Kept (dkCrash s keep torn cut) bs := by
  refine ⟨?_, h.size, rfl, fun k hk => ?_, fun p hp => by cases hp⟩
  · show (crashTo keep torn cut 0 s.safe s.queue).1.length = 8
    rw [length_crashTo]; exact h.len
  · show (crashTo keep torn cut 0 s.safe s.queue).1[k]? = _
    rw [crashTo_other _ _ _ _ _ _ _ (fun p hp e => by
      have := h.queue p hp
      rw [e, hk] at this
      cases this)]
    exact h.safe k hk
theorem Kept.read (h : Kept s bs) : Kept (dkRead s) bs := ⟨h.len, h.size, by show callTo s.calls = -1; rw [h.calls]; rfl, h.safe, h.queue⟩
theorem Kept.see (h : Kept s bs) (k : Nat) (hk : bs[k]? = some false) : seeAt s k = sK k := by
  unfold seeAt
  rw [lastAt_none k s.queue (fun p hp e => by
    have := h.queue p hp
    rw [e, hk] at this
    cases this), Option.getD_none, List.getD_eq_getElem?_getD, h.safe k hk]
  rfl
end
theorem sK_take (k : Nat) : (sK k).take 2 = [7, UInt8.ofNat k] := rfl
theorem octs_pair (k : Nat) (h : k < 8) : (octs [7, UInt8.ofNat k]).toArray = #[.int .u8 7, .int .u8 (k : Int)] := by
  have e : ((UInt8.ofNat k).toNat : Int) = k := by rw [UInt8.toNat_ofNat']; omega
  have e2 : octs [7, UInt8.ofNat k] = [.int .u8 7, .int .u8 (((UInt8.ofNat k).toNat : Nat) : Int)] := rfl
  rw [e2, e]

/-- The crashes that are handed in: what is kept, which is torn, where. -/
def CrashesAt (w : World) (A : Option Addr) (xs : List (List Int × Int × Int)) : Prop :=
  0 < xs.length → ∃ b o, A = some ⟨b, o, none⟩ ∧ ∀ (i : Nat) q, xs[i]? = some q → ∃ G c, w.rangeAt b (o + i * 3) [.slice G q.1.length c, .int .i64 q.2.1, .int .i64 q.2.2] ∧ Cells w G (ints q.1) ∧ q.1.length ≤ 9223372036854775807
theorem CrashesAt.ext {w w' : World} {A : Option Addr} {xs : List (List Int × Int × Int)} (h : CrashesAt w A xs) (k : Ext w w') : CrashesAt w' A xs := fun h0 => by
  obtain ⟨b, o, e, hx⟩ := h h0
  refine ⟨b, o, e, fun i q hq => ?_⟩
  obtain ⟨G, c, h1, h2, h3⟩ := hx i q hq
  exact ⟨G, c, fun j v hv => k.cell (h1 j v hv), h2.ext k, h3⟩
theorem size_crash : (Try.prog.info? 35).map (·.size) = some 3 := by kernel_rfl
/-- An array of bools in a block. -/
abbrev BoolsAt (w : World) (B : Nat) (bs : List Bool) : Prop := w.heap[B]? = some (.cells (bs.map Value.bool).toArray 32 (0, 0))
theorem BoolsAt.cell {w : World} {B : Nat} {bs : List Bool} (h : BoolsAt w B bs) (i : Nat) (x : Bool) (hx : bs[i]? = some x) : w.cell? ⟨B, i, none⟩ = some (.bool x) := by
  rw [cell_of_row w B i _ _ _ h]
  simp [hx]
theorem BoolsAt.set {w : World} {B : Nat} {bs : List Bool} (h : BoolsAt w B bs) (i : Nat) (x : Bool) : BoolsAt (w.setCell ⟨B, i, none⟩ (.bool x)) B (bs.set i x) := by
  have := heap_setCell_same w B i _ _ (.bool x) h
  show _ = some (Obj.cells ((bs.set i x).map Value.bool).toArray 32 (0, 0))
  rw [List.map_set]
  exact this.trans (by simp)
set_option maxRecDepth 100000 in
theorem buildSlice_two (x y : Int) (w : World) : (Instr.buildSlice 22 2 #[(0, .int .u8 x), (1, .int .u8 y)]).run Try.prog w = .ok (.slice (some ⟨w.heap.size, 0, none⟩) 2 2) (w.alloc (.cells #[.int .u8 x, .int .u8 y] 5)) := by
  obtain ⟨i0, hi, hz, hs, hb⟩ := info_parts info5
  simp [Instr.buildSlice, run_underlying Try.underlying22, sizeOf, typeInfo, hi, hs, zeroValue, hz, newRow, Instr.fill, Value.cells]
  rw [show Array.range 2 = #[0, 1] by decide]
  simp
section
variable {w : World} {ops : Array Oper} {rest : List Oper} {o : Oper} {a : Act} {Q : Exit → Act → World → Prop}
theorem wpList_bslice2 (hgd : o.guard = none) (x y : Operand) (ho : o.op = .buildSlice 22 2 #[(0, x), (1, y)]) (b1 b2 : Int) (hx : a.eval x = .int .u8 b1) (hy : a.eval y = .int .u8 b2)
    (h : wpList Try.prog ops Q rest (a.put o.dst (.slice (some ⟨w.heap.size, 0, none⟩) 2 2)) (w.alloc (.cells #[.int .u8 b1, .int .u8 b2] 5))) : wpList Try.prog ops Q (o :: rest) a w := wpList_plain hgd fun K hK => by
  unfold Oper.wp execOp
  simp only [ho, List.map_toArray, List.map_cons, List.map_nil, hx, hy, buildSlice_two, Sem.run_bind, Result.andThen_ok, Sem.run_pure]
  exact hK _ _ h
end
end Go.Proofs.Ytgpnmmgoachajaa
