/- slices.Chunk over octets, 128 a part: the function value it hands back, and what that gives to a loop, part by part. -/
import Derived.Test.YtgpnmmgoachajaaCuts
import Derived.RangeFuncNested
import Derived.RangeFuncBound
import Derived.RangeFuncCalls
import Derived.RangeFuncLeaves
import Derived.RangeFuncBox
import Derived.Shelf.Abstract
import Derived.Shelf.RegionOpen
import Derived.WalkKit
import Derived.OwnWalkIn
import Derived.TacticsInMore
import Derived.LoopNIn
import Derived.LoopIn
namespace Go.Proofs.Ytgpnmmgoachajaa
open Go.RowKit Go.Shelf
open Go.Proofs
attribute [local go_sem] Oper.semAt_some

/-- The chunk at an index: its address, its value. -/
def dhA (A : Option Addr) (i : Nat) : Option Addr := A.map (fun x => x.add (128 * i))
def dhN (n i : Nat) : Nat := min 128 (n - 128 * i)
abbrev dhV (A : Option Addr) (n i : Nat) : Value := .slice (dhA A i) (dhN n i) (dhN n i)
theorem dh_octs {w : World} {A : Option Addr} {l : List UInt8} (h : Octs w A l) (i : Nat) : Octs w (dhA A i) ((l.drop (128 * i)).take 128) := by
  by_cases hi : 128 * i < l.length
  · have := (h.cut (128 * i) l.length (Nat.le_refl _) (by omega)).take 128
    rw [if_neg (by omega), Nat.mul_one] at this
    exact this
  · rw [List.drop_of_length_le (by omega)]
    exact Octs.nil _ _
theorem dh_len (l : List UInt8) (n i : Nat) (hn : l.length = n) : ((l.drop (128 * i)).take 128).length = dhN n i := by
  rw [List.length_take, List.length_drop, hn]; rfl
/-- The two captured boxes stay. -/
def KdB (B : Nat) (W W' : World) : Prop := W'.heap[B]? = W.heap[B]? ∧ W'.heap[B + 1]? = W.heap[B + 1]?
theorem kdB_t {B : Nat} {W1 W2 W3 : World} (h : KdB B W1 W2) (k : KdB B W2 W3) : KdB B W1 W3 := ⟨k.1.trans h.1, k.2.trans h.2⟩
theorem kdB_b {B : Nat} {w : World} (hB : B + 1 < w.heap.size) (W : World) (l : Nat) (o o' : Obj) (hl : w.heap.size ≤ l) (_ : W.heap[l]? = some o) (_ : o.isCells = false) (_ : o.isWalk = false) : KdB B W (W.putObj l o') :=
  ⟨World.putObj_heap_other (by omega), World.putObj_heap_other (by omega)⟩

set_option maxRecDepth 100000 in
set_option maxHeartbeats 2000000 in
theorem chunk8_stops (f : Nat → Nat) (m B : Nat) (A : Option Addr) (n c : Nat) (w : World) (hB : B + 1 < w.heap.size) (hn : n ≤ 4294967296) (hc : n ≤ c) (hm : 1 ≤ m) (hf : ∀ x, x < (n + 127) / 128 → f x = x)
    (h1 : Boxed w B 22 (.slice A n c)) (h2 : Boxed w (B + 1) 3 (.int .i64 128)) :
    SeqStopsK Fence.wide m Try.prog 63 #[.pointer (some ⟨B, 0, none⟩), .pointer (some ⟨B + 1, 0, none⟩)] (fun x : Nat => #[dhV A n (f x)]) (KdB B) (fun xs => xs = List.range ((n + 127) / 128)) (fun _ => True) ((n + 127) / 128) w := fun l J Jx W hW hJ _ hY h0 => by
  have b1 : Boxed W B 22 (.slice A n c) := (hW.block B (by omega)).trans h1
  have b2 : Boxed W (B + 1) 3 (.int .i64 128) := (hW.block (B + 1) (by omega)).trans h2
  clear h1 h2 hW
  refine callsIn_of_wp Try.func63 rfl trivial ?_ rfl
  simp only [Try.ntmps63, List.size_toArray, List.length_cons, List.length_nil, Nat.reduceAdd, Nat.reduceSub, Array.replicate_succ, Array.replicate_zero, List.push_toArray, List.append_toArray, List.nil_append, List.cons_append]
  gi_wp2
  gi_loopw [4] (fun i wr => ∃ k : Nat, k ≤ (n + 127) / 128 ∧ i = .int .i64 ((128 * k : Nat) : Int) ∧ J (List.range k) wr ∧ Boxed wr B 22 (.slice A n c) ∧ Boxed wr (B + 1) 3 (.int .i64 128))
    (fun i _ => n + 128 - (intOf i).toNat)
  case atStart => exact ⟨0, Nat.zero_le _, rfl, h0, b1, b2⟩
  case round =>
    obtain ⟨k, hk, rfl, hJs, c1, c2⟩ := hrel
    have d1 := c1.cell
    have d2 := c2.cell
    by_cases hlt : 128 * k < n
    · have hJd : J (List.range k) wr.drew := hJ _ wr _ none hJs ⟨rfl, rfl, rfl, Nat.le_refl _, fun _ _ _ => rfl⟩ (fun r e => by cases e)
      obtain ⟨fn, tmps, assign, body, hy, hR⟩ := hY _ k wr.drew hJd (by rw [List.length_range]; omega)
      have hmin : (if ((n - 128 * k : Nat) : Int) < 128 then ((n - 128 * k : Nat) : Int) else 128) = ((dhN n k : Nat) : Int) := by
        unfold dhN
        split <;> omega
      have hmin2 : min (128 : Int) ((n - 128 * k : Nat) : Int) = ((dhN n k : Nat) : Int) := by unfold dhN; omega
      have hch : dhN n k ≤ 128 := by unfold dhN; omega
      have hy' : (Instr.yield l #[.slice (Option.map (fun x => x.add (128 * k)) A) (dhN n k) (dhN n k)]).run Try.prog wr.drew = Result.ok (Next.round l fn tmps assign body) wr.drew := by
        have hy2 := hy
        simp only [hf k (by omega)] at hy2
        exact hy2
      clear hy
      gi_wp2
      gi_region
      gi_wp2
      refine hR.mono ?_
      rintro e W3 (⟨rfl, hJ3, hk3⟩ | ⟨rfl, hJx3⟩)
      · have e1 : Boxed W3 B 22 (.slice A n c) := hk3.1.trans c1
        have e2 : Boxed W3 (B + 1) 3 (.int .i64 128) := hk3.2.trans c2
        have f2 := e2.cell
        gi_wp2
        go_roundw
        case rel => exact ⟨k + 1, by omega, val_int (by omega), by rw [List.range_succ]; exact hJ3, e1, e2⟩
        case measure => simp [intOf]; omega
      · gi_wp2
        refine bodyPost_ret (results_none rfl _ _ _) rfl ?_
        exact ⟨⟨_, rfl⟩, .inr ⟨_, trivial, hJx3⟩⟩
    · obtain rfl : k = (n + 127) / 128 := by omega
      gi_wp2
      go_end0
      exact ⟨⟨_, rfl⟩, .inl ⟨_, rfl, hJs⟩⟩

set_option maxRecDepth 100000 in
theorem chunk8_any (A : Option Addr) (n c : Nat) (w : World) : Calls Try.prog 48 #[.slice A n c, .int .i64 128] w fun e w' =>
    e = .returned (.func (.func 63) #[] #[.pointer (some ⟨w.heap.size, 0, none⟩), .pointer (some ⟨w.heap.size + 1, 0, none⟩)]) ∧ w' = (w.alloc (.cells #[.slice A n c] 22)).alloc (.cells #[.int .i64 128] 3) := by
  go_enter Try.func48, Try.ntmps48
  go_wp2
  go_ret
  exact ⟨rfl, rfl⟩
end Go.Proofs.Ytgpnmmgoachajaa
