/- Joined texts: Sa, Rvw, Rcj, Ja, Jb. -/
import Derived.Test.YtgpnmmgoachajaaK08
import Derived.Test.YtgpnmmgoachajaaK01
import Derived.RangeFuncNested
import Derived.RangeFuncBound
import Derived.RangeFuncCalls
import Derived.RangeFuncLeaves
import Derived.RangeFuncBox
import Derived.Shelf.Abstract
import Derived.Shelf.RegionOpen
import Derived.WalkKit
import Derived.OwnWalkIn
import Derived.TacticsInMore
import Derived.LoopNIn
import Derived.LoopIn
import Derived.Test.YtgpnmmgoachajaaK05
import Derived.BigQuiet
/- Superblocks (layer 5): the document's example. -/
namespace Go.Proofs.Ytgpnmmgoachajaa
open Go.RowKit
open Go.Proofs

section
variable {W0 w : World} {ops : Array Oper} {rest : List Oper} {o : Oper} {a : Act} {Q : Exit → Act → World → Prop}
/-- 'append([]byte{}, b...)'. -/
theorem wpList_up0 (hgd : o.guard = none) (s x : Operand)
    (ho : o.op = .call { callee := .builtin .append, args := #[s, x], argTypes := #[22, 22] }) (hw : w = W0.alloc (.cells #[] 5))
    (b : Nat) (hs : a.eval s = .slice (some ⟨b, 0, none⟩) 0 0) (hb : b = W0.heap.size) (A : Option Addr) (m c : Nat) (l2 : List UInt8) (hxv : a.eval x = .slice A m c) (hm' : l2.length = m) (hx : Octs W0 A l2) (hlen : l2.length ≤ 4294967296)
    (h : ∀ v' w', Up W0 w' v' l2 → Ext W0 w' → wpList Try.prog ops Q rest (a.put o.dst v') w') : wpList Try.prog ops Q (o :: rest) a w := by
  subst hw
  subst hb
  refine wpList_up hgd s x ho _ [] hs (Up.new (Ext.refl W0) #[] 0 0 [] rfl (Nat.le_refl _) (Nat.le_refl _) (by decide) (fun j u h => by simp [octs] at h)) ((Ext.refl W0).alloc _) A m c l2 hxv hm' (hx.alloc _) (by simpa using hlen) h
end

theorem right_plain (g : Int) (h1 : 1 ≤ g) (h2 : g ≤ 281474976710656) : supRight (plainS g) := by
  unfold supRight plainS
  simp only
  omega
theorem drop_put (s : Sup) (y : List UInt8) : (supPut s ++ y).drop 128 = y := by
  rw [← length_supPut s, List.drop_left]
theorem take_put (s : Sup) (y : List UInt8) : (supPut s ++ y).take 128 = supPut s := by
  rw [← length_supPut s, List.take_left]
theorem newest_app (s : Sup) (y : List UInt8) (hy : y.length = 128) (hs : supRight s) (hs2 : s.sum < 4294967296) : supNewest (supPut s ++ y) = supNewer (supPick (some s) 0) (supPick (supGet y) 1) := by
  rw [supNewest, if_pos (by rw [List.length_append, length_supPut, hy]), drop_put, take_put, get_put s hs hs2]
theorem awake_one : supNewest (supPut (plainS 6) ++ supPut (plainS 7)) = some (plainS 7) := by
  rw [newest_app _ _ (length_supPut _) (right_plain 6 (by decide) (by decide)) (by decide), get_put _ (right_plain 7 (by decide) (by decide)) (by decide)]
  rfl
theorem put_zero (s : Sup) : (supPut s)[0]? = some 77 := by
  have h := get_first4 s
  have h2 : ((supPut s).take 4)[0]? = some 77 := by rw [h]; rfl
  rw [List.getElem?_take] at h2
  simpa using h2
theorem awake_two : supNewest (supPut (plainS 6) ++ (supPut (plainS 7)).set 0 76) = some (plainS 6) := by
  have hl : (0 : Nat) < (supPut (plainS 7)).length := by rw [length_supPut]; decide
  rw [newest_app _ _ (by rw [List.length_set, length_supPut]) (right_plain 6 (by decide) (by decide)) (by decide), get_turned _ 0 (by decide) 76 (by
    have := put_zero (plainS 7)
    rw [List.getElem?_eq_getElem hl] at this
    rw [Option.some.inj this]
    decide)]
  rfl

end Go.Proofs.Ytgpnmmgoachajaa
/- The document's Get of a part, and RecordParts' walk. -/
namespace Go.Proofs.Ytgpnmmgoachajaa
open Go.RowKit
open Go.Proofs

theorem put_len (p : Prt) (h : prtRight p) : numAt (prtPut p) 11 1 = (p.data.length : Int) := by
  have h7 := h.2.2.2.2.2.2
  have e : prtPut p = ([] ++ leN 1 (u64of (sgnOf p.foot)) ++ leN 4 (u64of p.epoch) ++ leN 4 (u64of p.number) ++ leN 2 (u64of p.index)) ++ (leN 1 (u64of (p.data.length : Int)) ++ (p.data ++ zer (112 - p.data.length) ++ Mb.le4 (Mb.crcSum (prtBody p)))) := by
    simp [prtPut, Mb.seal_, prtBody, prtHead]
  rw [e]
  exact num_num _ _ _ 11 1 (by simp only [List.length_append, length_leN, List.length_nil]) (by omega) (by simp only [Nat.reducePow]; omega) (by omega)
theorem get_long (l : List UInt8) (V : Nat) (hV : numAt l 11 1 = (V : Int)) (h : ¬ V ≤ 112) : prtGet l = none := by
  unfold prtGet
  rw [if_neg]
  rintro ⟨_, h2, h3⟩
  have h4 := put_len _ h2
  rw [h3, hV, data_hi l V hV h] at h4
  simp at h4
  omega
theorem numAt_one (l : List UInt8) (i : Nat) (h : i < l.length) : numAt l i 1 = ((l[i].toNat : Nat) : Int) := by
  have e : (l.drop i).take 1 = [l[i]] := by rw [List.drop_eq_getElem_cons h]; rfl
  have := l[i].toNat_lt
  rw [numAt, e, i64of_small _ (by simp [getN]; omega)]
  simp [getN]
theorem setQ1 {w : World} {q : Nat} {P : Prt} {A : Option Addr} {n c : Nat} (hb : w.heap[q]? = some (.cells (prtCells P A n c) 117 (0, 0))) (v : Int) : (w.setCell ⟨q, 1, none⟩ (.int .i64 v)).heap[q]? = some (.cells (prtCells { P with epoch := v } A n c) 117 (0, 0)) := by
  have h := heap_setCell_same w q 1 _ _ (.int .i64 v) hb
  simp only [prtCells, List.setIfInBounds_toArray, List.set_cons_succ, List.set_cons_zero] at h
  exact h
theorem setQ2 {w : World} {q : Nat} {P : Prt} {A : Option Addr} {n c : Nat} (hb : w.heap[q]? = some (.cells (prtCells P A n c) 117 (0, 0))) (v : Int) : (w.setCell ⟨q, 2, none⟩ (.int .i64 v)).heap[q]? = some (.cells (prtCells { P with number := v } A n c) 117 (0, 0)) := by
  have h := heap_setCell_same w q 2 _ _ (.int .i64 v) hb
  simp only [prtCells, List.setIfInBounds_toArray, List.set_cons_succ, List.set_cons_zero] at h
  exact h
theorem setQ3 {w : World} {q : Nat} {P : Prt} {A : Option Addr} {n c : Nat} (hb : w.heap[q]? = some (.cells (prtCells P A n c) 117 (0, 0))) (v : Int) : (w.setCell ⟨q, 3, none⟩ (.int .i64 v)).heap[q]? = some (.cells (prtCells { P with index := v } A n c) 117 (0, 0)) := by
  have h := heap_setCell_same w q 3 _ _ (.int .i64 v) hb
  simp only [prtCells, List.setIfInBounds_toArray, List.set_cons_succ, List.set_cons_zero] at h
  exact h
theorem str_at (l : List UInt8) (i : Nat) (h : i < l.length) (w : World) : (Instr.index 9 (strOf l) (.int .i64 (i : Int))).run Try.prog w = .ok (.int .u8 ((l[i].toNat : Nat) : Int)) w := by
  have e := run_index_string (P := Try.prog) w 9 ⟨l.toArray⟩ .i64 (i : Int) Try.underlying9
  rw [e, dif_pos ⟨by omega, by show (i : Int) < (l.toArray.size : Int); rw [List.size_toArray]; omega⟩]
  rfl

end Go.Proofs.Ytgpnmmgoachajaa
namespace Go.Proofs.Ytgpnmmgoachajaa
open Go.RowKit
open Go.Proofs

theorem dec_prt (p : Prt) (h : prtRight p) : prtDec (prtPut p) = p := by
  obtain ⟨foot, epoch, number, index, data⟩ := p
  have hl := put_len _ h
  obtain ⟨a1, a2, a3, a4, a5, a6, a7⟩ := h
  simp only at a1 a2 a3 a4 a5 a6 a7 hl
  have e : prtPut ⟨foot, epoch, number, index, data⟩ = [] ++ (leN 1 (u64of (sgnOf foot)) ++ (leN 4 (u64of epoch) ++ (leN 4 (u64of number) ++ (leN 2 (u64of index) ++ (leN 1 (u64of (data.length : Int)) ++ (data ++ (zer (112 - data.length) ++ Mb.le4 (Mb.crcSum (prtBody ⟨foot, epoch, number, index, data⟩))))))))) := by
    simp [prtPut, Mb.seal_, prtBody, prtHead]
  generalize zer (112 - data.length) ++ Mb.le4 (Mb.crcSum (prtBody ⟨foot, epoch, number, index, data⟩)) = T at e
  have g (p q r x : List UInt8) : p ++ (q ++ (r ++ x)) = (p ++ q) ++ (r ++ x) := by simp
  have e1 := e
  have e2 := e1; rw [g] at e2
  have e3 := e2; rw [g] at e3
  have e4 := e3; rw [g] at e4
  have e5 := e4; rw [g] at e5
  have e6 := e5; rw [g] at e6
  unfold prtDec
  rw [hl, if_pos (by omega)]
  congr 1
  · rw [e1, num_num _ _ _ _ _ (show ([] : List UInt8).length = 0 from rfl) (by cases foot <;> decide) (by cases foot <;> decide) (by cases foot <;> decide)]
    cases foot <;> rfl
  · rw [e2, num_num _ _ _ _ _ (by simp [length_leN]) (by omega) (by simp only [Nat.reducePow]; omega) (by omega)]
  · rw [e3, num_num _ _ _ _ _ (by simp [length_leN]) (by omega) (by simp only [Nat.reducePow]; omega) (by omega)]
  · rw [e4, num_num _ _ _ _ _ (by simp [length_leN]) (by omega) (by simp only [Nat.reducePow]; omega) (by omega)]
  · rw [e6, num_mid _ _ _ 12 _ (by simp [length_leN]) (by simp)]
theorem get_prt (p : Prt) (h : prtRight p) : prtGet (prtPut p) = some p := by
  unfold prtGet
  rw [dec_prt p h, if_pos ⟨length_prtPut p h, h, rfl⟩]

end Go.Proofs.Ytgpnmmgoachajaa
/- Layer 6: a transaction's sectors, cut and joined: the plain law, the program's walks, the document's; RecordJoins' walk. -/
namespace Go.Proofs.Ytgpnmmgoachajaa
open Go.RowKit
open Go.Proofs

def idRight (e n : Int) : Prop := 1 ≤ e ∧ e ≤ 2147483648 ∧ 0 ≤ n ∧ n ≤ 2147483648
instance (e n : Int) : Decidable (idRight e n) := by unfold idRight; infer_instance
/-- The part at an index, and the foot. -/
def prtOf (e n : Int) (l : List UInt8) (i : Nat) : Prt := ⟨false, e, n, (i : Int), (l.drop (112 * i)).take 112⟩
def ftOf (e n : Int) (l : List UInt8) (k : Nat) : Prt := ⟨true, e, n, (k : Int), Mb.le4 (Mb.crcSum l)⟩
def cutPre (e n : Int) (l : List UInt8) : Nat → List UInt8
  | 0 => []
  | k + 1 => cutPre e n l k ++ prtPut (prtOf e n l k)
def nsec (l : List UInt8) : Nat := (l.length + 111) / 112
def cutOf (e n : Int) (l : List UInt8) : List UInt8 := cutPre e n l (nsec l) ++ prtPut (ftOf e n l (nsec l))
theorem prtOf_right {e n : Int} (h : idRight e n) (l : List UInt8) (i : Nat) (hi : i ≤ 65535) : prtRight (prtOf e n l i) := by
  obtain ⟨h1, h2, h3, h4⟩ := h
  refine ⟨h1, h2, h3, h4, ?_, ?_, ?_⟩
  · show (0 : Int) ≤ (i : Int); omega
  · show (i : Int) ≤ 65535; omega
  · show ((l.drop (112 * i)).take 112).length ≤ 112
    rw [List.length_take]; omega
theorem ftOf_right {e n : Int} (h : idRight e n) (l : List UInt8) (i : Nat) (hi : i ≤ 65535) : prtRight (ftOf e n l i) := by
  obtain ⟨h1, h2, h3, h4⟩ := h
  refine ⟨h1, h2, h3, h4, ?_, ?_, ?_⟩
  · show (0 : Int) ≤ (i : Int); omega
  · show (i : Int) ≤ 65535; omega
  · show (Mb.le4 (Mb.crcSum l)).length ≤ 112
    rw [Mb.length_le4]; omega
theorem length_cutPre {e n : Int} (h : idRight e n) (l : List UInt8) : ∀ k, k ≤ 65536 → (cutPre e n l k).length = 128 * k
  | 0, _ => rfl
  | k + 1, hk => by
    rw [cutPre, List.length_append, length_cutPre h l k (by omega), length_prtPut _ (prtOf_right h l k (by omega))]
    omega
theorem length_cutOf {e n : Int} (h : idRight e n) (l : List UInt8) (hk : nsec l ≤ 65535) : (cutOf e n l).length = 128 * (nsec l + 1) := by
  rw [cutOf, List.length_append, length_cutPre h l _ (by omega), length_prtPut _ (ftOf_right h l _ hk)]
  omega
theorem sec_pre {e n : Int} (h : idRight e n) (l : List UInt8) : ∀ (k i : Nat), i < k → k ≤ 65536 → ∀ R, ((cutPre e n l k ++ R).drop (128 * i)).take 128 = prtPut (prtOf e n l i)
  | 0, i, hi, _, _ => by omega
  | k + 1, i, hi, hk, R => by
    rw [cutPre, List.append_assoc]
    by_cases hik : i < k
    · exact sec_pre h l k i hik (by omega) _
    · obtain rfl : i = k := by omega
      rw [List.drop_append_of_le_length (by rw [length_cutPre h l i (by omega)]; omega), List.drop_of_length_le (by rw [length_cutPre h l i (by omega)]; omega), List.nil_append,
        List.take_append_of_le_length (by rw [length_prtPut _ (prtOf_right h l i (by omega))]; omega), List.take_of_length_le (by rw [length_prtPut _ (prtOf_right h l i (by omega))]; omega)]
theorem sec_cut {e n : Int} (h : idRight e n) (l : List UInt8) (hk : nsec l ≤ 65535) (i : Nat) (hi : i < nsec l) (R : List UInt8) : ((cutOf e n l ++ R).drop (128 * i)).take 128 = prtPut (prtOf e n l i) := by
  rw [cutOf, List.append_assoc]
  exact sec_pre h l _ i hi (by omega) _
theorem sec_foot {e n : Int} (h : idRight e n) (l : List UInt8) (hk : nsec l ≤ 65535) (R : List UInt8) : ((cutOf e n l ++ R).drop (128 * nsec l)).take 128 = prtPut (ftOf e n l (nsec l)) := by
  rw [cutOf, List.append_assoc, List.drop_append_of_le_length (by rw [length_cutPre h l _ (by omega)]; omega), List.drop_of_length_le (by rw [length_cutPre h l _ (by omega)]; omega), List.nil_append,
    List.take_append_of_le_length (by rw [length_prtPut _ (ftOf_right h l _ (by omega))]; omega), List.take_of_length_le (by rw [length_prtPut _ (ftOf_right h l _ (by omega))]; omega)]

/-- What is joined of octets. -/
def joinAt (b : List UInt8) (e n : Int) : Nat → Nat → List UInt8 → List UInt8 × Nat
  | 0, _, _ => ([], 0)
  | f + 1, i, l =>
    if 128 * (i + 1) ≤ b.length then
      match prtGet ((b.drop (128 * i)).take 128) with
      | none => ([], 0)
      | some p =>
        if p.epoch = e ∧ p.number = n ∧ p.index = (i : Int) then
          if p.foot = true then if secs (l.length : Int) ≠ 0 ∧ cutOf e n l = b.take (128 * (i + 1)) then (l, i + 1) else ([], 0)
          else joinAt b e n f (i + 1) (l ++ p.data)
        else ([], 0)
    else ([], 0)
def joinOf (b : List UInt8) (e n : Int) : List UInt8 × Nat := joinAt b e n (b.length / 128 + 1) 0 []
section
variable {b : List UInt8} {e n : Int} {f i : Nat} {l : List UInt8}
theorem joinAt_end (h : ¬ 128 * (i + 1) ≤ b.length) : joinAt b e n f i l = ([], 0) := by
  cases f with
  | zero => rfl
  | succ f => rw [joinAt, if_neg h]
theorem joinAt_none (h : prtGet ((b.drop (128 * i)).take 128) = none) : joinAt b e n f i l = ([], 0) := by
  cases f with
  | zero => rfl
  | succ f => rw [joinAt, h]; split <;> rfl
theorem joinAt_other {p : Prt} (h : prtGet ((b.drop (128 * i)).take 128) = some p) (hp : ¬ (p.epoch = e ∧ p.number = n ∧ p.index = (i : Int))) : joinAt b e n f i l = ([], 0) := by
  cases f with
  | zero => rfl
  | succ f =>
    rw [joinAt, h]
    simp only [if_neg hp]
    split <;> rfl
theorem joinAt_foot {p : Prt} (hb : 128 * (i + 1) ≤ b.length) (h : prtGet ((b.drop (128 * i)).take 128) = some p) (hp : p.epoch = e ∧ p.number = n ∧ p.index = (i : Int)) (hf : p.foot = true) :
    joinAt b e n (f + 1) i l = if secs (l.length : Int) ≠ 0 ∧ cutOf e n l = b.take (128 * (i + 1)) then (l, i + 1) else ([], 0) := by
  rw [joinAt, if_pos hb, h]
  simp only [if_pos hp, if_pos hf]
theorem joinAt_part {p : Prt} (hb : 128 * (i + 1) ≤ b.length) (h : prtGet ((b.drop (128 * i)).take 128) = some p) (hp : p.epoch = e ∧ p.number = n ∧ p.index = (i : Int)) (hf : p.foot = false) :
    joinAt b e n (f + 1) i l = joinAt b e n f (i + 1) (l ++ p.data) := by
  rw [joinAt, if_pos hb, h]
  simp only [if_pos hp, hf, Bool.false_eq_true, if_false]
end

theorem join_run {e n : Int} (h : idRight e n) (b l : List UInt8) : ∀ k, k ≤ 65536 → 128 * k ≤ b.length → (∀ i, i < k → (b.drop (128 * i)).take 128 = prtPut (prtOf e n l i)) → ∀ f, joinAt b e n (f + k) 0 [] = joinAt b e n f k (l.take (112 * k))
  | 0, _, _, _, f => by simp
  | k + 1, hk, hb, hs, f => by
    have IH := join_run h b l k (by omega) (by omega) (fun i hi => hs i (by omega)) (f + 1)
    rw [show f + (k + 1) = f + 1 + k by omega, IH]
    have hg : prtGet ((b.drop (128 * k)).take 128) = some (prtOf e n l k) := by
      rw [hs k (by omega)]
      exact get_prt _ (prtOf_right h l k (by omega))
    rw [joinAt_part (e := e) (n := n) (by omega) hg ⟨rfl, rfl, rfl⟩ rfl]
    congr 1
    show l.take (112 * k) ++ (l.drop (112 * k)).take 112 = l.take (112 * (k + 1))
    rw [show 112 * (k + 1) = 112 * k + 112 by omega, List.take_add]

theorem nsec_le (l : List UInt8) (h : l.length ≤ 65000) : nsec l ≤ 581 := by unfold nsec; omega
theorem nsec_all (l : List UInt8) : l.length ≤ 112 * nsec l := by unfold nsec; omega
theorem secs_nsec (l : List UInt8) (h1 : 1 ≤ l.length) (h2 : l.length ≤ 65000) : secs (l.length : Int) = ((nsec l + 1 : Nat) : Int) := by
  unfold secs nsec
  rw [if_neg (by omega)]
  omega

theorem join_cut {e n : Int} (h : idRight e n) (l : List UInt8) (h1 : 1 ≤ l.length) (h2 : l.length ≤ 65000) (R : List UInt8) : joinOf (cutOf e n l ++ R) e n = (l, nsec l + 1) := by
  have hk := nsec_le l h2
  have hL := length_cutOf h l (by omega)
  have hbl : (cutOf e n l ++ R).length = 128 * (nsec l + 1) + R.length := by rw [List.length_append, hL]
  unfold joinOf
  rw [show (cutOf e n l ++ R).length / 128 + 1 = ((cutOf e n l ++ R).length / 128 - nsec l - 1 + 1 + 1) + nsec l by omega,
    join_run h _ l (nsec l) (by omega) (by omega) (fun i hi => sec_cut h l (by omega) i hi R) _, List.take_of_length_le (nsec_all l)]
  have hg : prtGet (((cutOf e n l ++ R).drop (128 * nsec l)).take 128) = some (ftOf e n l (nsec l)) := by
    rw [sec_foot h l (by omega) R]
    exact get_prt _ (ftOf_right h l _ (by omega))
  rw [joinAt_foot (e := e) (n := n) (by omega) hg ⟨rfl, rfl, rfl⟩ rfl, if_pos]
  refine ⟨by rw [secs_nsec l h1 h2]; omega, ?_⟩
  rw [List.take_append_of_le_length (by omega), List.take_of_length_le (by omega)]

theorem join_wrong {e n m : Int} (h : idRight e n) (l : List UInt8) (h1 : 1 ≤ l.length) (h2 : l.length ≤ 65000) (hm : n ≠ m) : joinOf (cutOf e n l) e m = ([], 0) := by
  have hk := nsec_le l h2
  have h0 : 0 < nsec l := by unfold nsec; omega
  have hs := sec_cut h l (by omega) 0 h0 []
  rw [List.append_nil] at hs
  unfold joinOf
  refine joinAt_other (p := prtOf e n l 0) (by rw [hs]; exact get_prt _ (prtOf_right h l 0 (by omega))) ?_
  rintro ⟨_, hp, _⟩
  exact hm hp

theorem join_turned {e n : Int} (h : idRight e n) (l : List UInt8) (h2 : l.length ≤ 65000) (k : Nat) (hk : k < (cutOf e n l).length) (c : UInt8) (hc : (cutOf e n l)[k] ≠ c) :
    joinOf ((cutOf e n l).set k c) e n = ([], 0) := by
  have hn := nsec_le l h2
  have hL := length_cutOf h l (by omega)
  obtain ⟨b, hb⟩ : ∃ b, b = cutOf e n l := ⟨_, rfl⟩
  have sc := fun i hi => sec_cut h l (by omega) i hi []
  have sf := sec_foot h l (by omega) []
  rw [List.append_nil] at sf
  simp only [List.append_nil] at sc
  rw [← hb] at hL sf
  simp only [← hb] at sc hk hc ⊢
  have hlx : (b.set k c).length = b.length := List.length_set ..
  have hu (i : Nat) (hi : i < k / 128) : ((b.set k c).drop (128 * i)).take 128 = (b.drop (128 * i)).take 128 := by
    rw [List.drop_set, if_neg (by omega), List.take_set_of_le (by omega)]
  have ht : ((b.set k c).drop (128 * (k / 128))).take 128 = ((b.drop (128 * (k / 128))).take 128).set (k % 128) c := by
    rw [List.drop_set, if_neg (by omega), show k - 128 * (k / 128) = k % 128 by omega, List.take_set]
  have hle : ((b.drop (128 * (k / 128))).take 128).length = 128 := by rw [List.length_take, List.length_drop]; omega
  have hat : ((b.drop (128 * (k / 128))).take 128)[k % 128]'(by omega) = b[k] := by
    rw [List.getElem_take, List.getElem_drop]
    congr 1
    omega
  have hse : Mb.isSealed ((b.drop (128 * (k / 128))).take 128) = true := by
    by_cases hs : k / 128 < nsec l
    · rw [sc _ hs]; exact Mb.isSealed_seal _
    · rw [show k / 128 = nsec l by omega, sf]; exact Mb.isSealed_seal _
  have hno : prtGet (((b.set k c).drop (128 * (k / 128))).take 128) = none := by
    rw [ht]
    refine prt_unsealed _ ?_
    rw [Mb.isSealed_set _ hse _ (by omega) c, hat]
    exact decide_eq_false hc
  unfold joinOf
  rw [show (b.set k c).length / 128 + 1 = ((b.set k c).length / 128 + 1 - k / 128) + k / 128 by omega,
    join_run h _ l (k / 128) (by omega) (by omega) (fun i hi => (hu i hi).trans (sc i (by omega))) _]
  exact joinAt_none hno

theorem join_missing {e n : Int} (h : idRight e n) (l : List UInt8) (h2 : l.length ≤ 65000) (s : Nat) (hs : s ≤ nsec l) :
    joinOf ((cutOf e n l).take (128 * s) ++ (cutOf e n l).drop (128 * (s + 1))) e n = ([], 0) := by
  have hn := nsec_le l h2
  have hL := length_cutOf h l (by omega)
  obtain ⟨b, hb⟩ : ∃ b, b = cutOf e n l := ⟨_, rfl⟩
  have sc := fun i hi => sec_cut h l (by omega) i hi []
  have sf := sec_foot h l (by omega) []
  rw [List.append_nil] at sf
  simp only [List.append_nil] at sc
  rw [← hb] at hL sf
  simp only [← hb] at sc ⊢
  have hlt : (b.take (128 * s)).length = 128 * s := by rw [List.length_take]; omega
  have hlx : (b.take (128 * s) ++ b.drop (128 * (s + 1))).length = 128 * nsec l := by rw [List.length_append, hlt, List.length_drop]; omega
  have hu (i : Nat) (hi : i < s) : ((b.take (128 * s) ++ b.drop (128 * (s + 1))).drop (128 * i)).take 128 = (b.drop (128 * i)).take 128 := by
    rw [List.drop_append_of_le_length (by omega), List.take_append_of_le_length (by rw [List.length_drop]; omega), List.drop_take, List.take_take, Nat.min_eq_left (by omega)]
  unfold joinOf
  rw [show (b.take (128 * s) ++ b.drop (128 * (s + 1))).length / 128 + 1 = (nsec l + 1 - s) + s by omega,
    join_run h _ l s (by omega) (by omega) (fun i hi => (hu i hi).trans (sc i (by omega))) _]
  by_cases hsn : s = nsec l
  · exact joinAt_end (by omega)
  · have he : ((b.take (128 * s) ++ b.drop (128 * (s + 1))).drop (128 * s)).take 128 = (b.drop (128 * (s + 1))).take 128 := by
      rw [List.drop_append_of_le_length (by omega), List.drop_of_length_le (by omega), List.nil_append]
    by_cases hs1 : s + 1 < nsec l
    · refine joinAt_other (p := prtOf e n l (s + 1)) (by rw [he, sc _ hs1]; exact get_prt _ (prtOf_right h l _ (by omega))) ?_
      rintro ⟨_, _, hp⟩
      have : ((s + 1 : Nat) : Int) = (s : Int) := hp
      omega
    · have h1 : s + 1 = nsec l := by omega
      refine joinAt_other (p := ftOf e n l (nsec l)) (by rw [he, h1, sf]; exact get_prt _ (ftOf_right h l _ (by omega))) ?_
      rintro ⟨_, _, hp⟩
      have : ((nsec l : Nat) : Int) = (s : Int) := hp
      omega
end Go.Proofs.Ytgpnmmgoachajaa
namespace Go.Proofs.Ytgpnmmgoachajaa
open Go.RowKit
open Go.Proofs

theorem chunk_oct {w : World} {A : Option Addr} {l : List UInt8} (h : Octs w A l) (i : Nat) : Octs w (A.map (fun x => x.add (112 * i))) ((l.drop (112 * i)).take 112) := by
  by_cases hi : 112 * i < l.length
  · have := (h.cut (112 * i) l.length (Nat.le_refl _) (by omega)).take 112
    rw [if_neg (by omega), Nat.mul_one] at this
    exact this
  · rw [List.drop_of_length_le (by omega)]
    exact Octs.nil _ _

end Go.Proofs.Ytgpnmmgoachajaa
namespace Go.Proofs.Ytgpnmmgoachajaa
open Go.RowKit Go.Shelf
open Go.Proofs
attribute [local go_sem] Oper.semAt_some

/-- The chunk at an index: its address, its value. -/
def chA (A : Option Addr) (i : Nat) : Option Addr := A.map (fun x => x.add (112 * i))
def chN (n i : Nat) : Nat := min 112 (n - 112 * i)
abbrev chV (A : Option Addr) (n i : Nat) : Value := .slice (chA A i) (chN n i) (chN n i)
theorem ch_octs {w : World} {A : Option Addr} {l : List UInt8} (h : Octs w A l) (i : Nat) : Octs w (chA A i) ((l.drop (112 * i)).take 112) := by
  by_cases hi : 112 * i < l.length
  · have := (h.cut (112 * i) l.length (Nat.le_refl _) (by omega)).take 112
    rw [if_neg (by omega), Nat.mul_one] at this
    exact this
  · rw [List.drop_of_length_le (by omega)]
    exact Octs.nil _ _
theorem ch_len (l : List UInt8) (n i : Nat) (hn : l.length = n) : ((l.drop (112 * i)).take 112).length = chN n i := by
  rw [List.length_take, List.length_drop, hn]; rfl
/-- The two captured boxes stay. -/
def KpB (B : Nat) (W W' : World) : Prop := W'.heap[B]? = W.heap[B]? ∧ W'.heap[B + 1]? = W.heap[B + 1]?
theorem kpB_t {B : Nat} {W1 W2 W3 : World} (h : KpB B W1 W2) (k : KpB B W2 W3) : KpB B W1 W3 := ⟨k.1.trans h.1, k.2.trans h.2⟩
theorem kpB_b {B : Nat} {w : World} (hB : B + 1 < w.heap.size) (W : World) (l : Nat) (o o' : Obj) (hl : w.heap.size ≤ l) (_ : W.heap[l]? = some o) (_ : o.isCells = false) (_ : o.isWalk = false) : KpB B W (W.putObj l o') :=
  ⟨World.putObj_heap_other (by omega), World.putObj_heap_other (by omega)⟩

set_option maxRecDepth 100000 in
set_option maxHeartbeats 2000000 in
theorem chunk_stops (m B : Nat) (A : Option Addr) (n c : Nat) (w : World) (hB : B + 1 < w.heap.size) (hn : n ≤ 4294967296) (hc : n ≤ c) (hm : 1 ≤ m)
    (h1 : Boxed w B 22 (.slice A n c)) (h2 : Boxed w (B + 1) 3 (.int .i64 112)) :
    SeqStopsK Fence.wide m Try.prog 63 #[.pointer (some ⟨B, 0, none⟩), .pointer (some ⟨B + 1, 0, none⟩)] (fun x : Nat => #[chV A n x]) (KpB B) (fun xs => xs = List.range ((n + 111) / 112)) (fun _ => True) ((n + 111) / 112) w := fun l J Jx W hW hJ _ hY h0 => by
  have b1 : Boxed W B 22 (.slice A n c) := (hW.block B (by omega)).trans h1
  have b2 : Boxed W (B + 1) 3 (.int .i64 112) := (hW.block (B + 1) (by omega)).trans h2
  clear h1 h2 hW
  refine callsIn_of_wp Try.func63 rfl trivial ?_ rfl
  simp only [Try.ntmps63, List.size_toArray, List.length_cons, List.length_nil, Nat.reduceAdd, Nat.reduceSub, Array.replicate_succ, Array.replicate_zero, List.push_toArray, List.append_toArray, List.nil_append, List.cons_append]
  gi_wp2
  gi_loopw [4] (fun i wr => ∃ k : Nat, k ≤ (n + 111) / 112 ∧ i = .int .i64 ((112 * k : Nat) : Int) ∧ J (List.range k) wr ∧ Boxed wr B 22 (.slice A n c) ∧ Boxed wr (B + 1) 3 (.int .i64 112))
    (fun i _ => n + 112 - (intOf i).toNat)
  case atStart => exact ⟨0, Nat.zero_le _, rfl, h0, b1, b2⟩
  case round =>
    obtain ⟨k, hk, rfl, hJs, c1, c2⟩ := hrel
    have d1 := c1.cell
    have d2 := c2.cell
    by_cases hlt : 112 * k < n
    · have hJd : J (List.range k) wr.drew := hJ _ wr _ none hJs ⟨rfl, rfl, rfl, Nat.le_refl _, fun _ _ _ => rfl⟩ (fun r e => by cases e)
      obtain ⟨fn, tmps, assign, body, hy, hR⟩ := hY _ k wr.drew hJd (by rw [List.length_range]; omega)
      have hmin : (if ((n - 112 * k : Nat) : Int) < 112 then ((n - 112 * k : Nat) : Int) else 112) = ((chN n k : Nat) : Int) := by
        unfold chN
        split <;> omega
      have hmin2 : min (112 : Int) ((n - 112 * k : Nat) : Int) = ((chN n k : Nat) : Int) := by unfold chN; omega
      have hch : chN n k ≤ 112 := by unfold chN; omega
      have hy' : (Instr.yield l #[.slice (Option.map (fun x => x.add (112 * k)) A) (chN n k) (chN n k)]).run Try.prog wr.drew = Result.ok (Next.round l fn tmps assign body) wr.drew := hy
      clear hy
      gi_wp2
      gi_region
      gi_wp2
      refine hR.mono ?_
      rintro e W3 (⟨rfl, hJ3, hk3⟩ | ⟨rfl, hJx3⟩)
      · have e1 : Boxed W3 B 22 (.slice A n c) := hk3.1.trans c1
        have e2 : Boxed W3 (B + 1) 3 (.int .i64 112) := hk3.2.trans c2
        have f2 := e2.cell
        gi_wp2
        go_roundw
        case rel => exact ⟨k + 1, by omega, val_int (by omega), by rw [List.range_succ]; exact hJ3, e1, e2⟩
        case measure => simp [intOf]; omega
      · gi_wp2
        refine bodyPost_ret (results_none rfl _ _ _) rfl ?_
        exact ⟨⟨_, rfl⟩, .inr ⟨_, trivial, hJx3⟩⟩
    · obtain rfl : k = (n + 111) / 112 := by omega
      gi_wp2
      go_end0
      exact ⟨⟨_, rfl⟩, .inl ⟨_, rfl, hJs⟩⟩

set_option maxRecDepth 100000 in
theorem f49_any (A : Option Addr) (n c : Nat) (w : World) : Calls Try.prog 48 #[.slice A n c, .int .i64 112] w fun e w' =>
    e = .returned (.func (.func 63) #[] #[.pointer (some ⟨w.heap.size, 0, none⟩), .pointer (some ⟨w.heap.size + 1, 0, none⟩)]) ∧ w' = (w.alloc (.cells #[.slice A n c] 22)).alloc (.cells #[.int .i64 112] 3) := by
  go_enter Try.func48, Try.ntmps48
  go_wp2
  go_ret
  exact ⟨rfl, rfl⟩
end Go.Proofs.Ytgpnmmgoachajaa
namespace Go.Proofs.Ytgpnmmgoachajaa
open Go.RowKit Go.Shelf
open Go.Proofs
attribute [local go_sem] Oper.semAt_some

theorem ret_two {fn : Func} {p q : Tmp} (h : fn.results = #[.cell p 22, .cell q 26]) (tmps : Array Value) (w : World) (a b : Nat) (v : Value) (i : Int) (hp : tmps.getD p undef = .pointer (some ⟨a, 0, none⟩)) (hq : tmps.getD q undef = .pointer (some ⟨b, 0, none⟩))
    (ha : Boxed w a 22 v) (hb : Boxed w b 26 (.int .i64 i)) : (results fn tmps).run Try.prog w = .ok (.tuple #[v, .int .i64 i]) w := by
  have h1 := ha.cell
  have h2 := hb.cell
  have l1 : (loadVar 22 ⟨a, 0, none⟩).run Try.prog w = .ok v w := by go_simp
  have l2 : (loadVar 26 ⟨b, 0, none⟩).run Try.prog w = .ok (.int .i64 i) w := by go_simp
  rw [Array.getD_eq_getD_getElem?] at hp hq
  simp only [results, h]
  simp [Sem.run_bind, hp, hq, asAddr, l1, l2]

/-- What is no cells stays where all that was there stays. -/
theorem keeps_ext {W W' : World} (h : Ext W W') : KeepsOthers W W' := ⟨h.size, fun _ _ hk _ => h.heap hk⟩
theorem boxed_ext {W W' : World} {b : Nat} {t : TypeId} {v : Value} (h : Boxed W b t v) (x : Ext W W') : Boxed W' b t v := Ext.heap x h
theorem boxed_row {W w1 : World} {b n₀ : Nat} {t : TypeId} {u v : Value} {xs : List Value} (h : Boxed W b t u) (ht : t ≠ 5) (hrow : Own W n₀ 5 v xs) (hg : W.grownBy w1 v.ownBlock) : Boxed w1 b t u := h.kept hg (h.not_row ht hrow)
theorem keeps_row {W w1 : World} {n₀ : Nat} {v : Value} {xs : List Value} (hrow : Own W n₀ 5 v xs) (hg : W.grownBy w1 v.ownBlock) : KeepsOthers W w1 :=
  KeepsOthers.of_grownBy hg fun j o ej hj => by
    rcases hrow.2 with ⟨rfl, _⟩ | ⟨g, cap, cur, rfl, _, hgb, _⟩
    · simp [Value.ownBlock] at ej
    · obtain rfl : g = j := by simpa [Value.ownBlock] using ej
      rw [hgb] at hj; cases hj; rfl
theorem below_row {W w1 : World} {n₀ : Nat} {v : Value} {xs : List Value} (hrow : Own W n₀ 5 v xs) (hn : n₀ ≤ W.heap.size) (hg : W.grownBy w1 v.ownBlock) : Below n₀ W w1 :=
  (Below.refl n₀ W).grown hg hn fun j ej => by
    rcases hrow.2 with ⟨rfl, _⟩ | ⟨g, cap, cur, rfl, hb, _, _⟩
    · simp [Value.ownBlock] at ej
    · obtain rfl : g = j := by simpa [Value.ownBlock] using ej
      exact hb
theorem own_box {W : World} {n₀ b : Nat} {t : TypeId} {u v v' : Value} {xs : List Value} (hrow : Own W n₀ 5 v xs) (h : Boxed W b t u) (ht : t ≠ 5) : Own (W.setCell ⟨b, 0, none⟩ v') n₀ 5 v xs := World.ownsRow.kept hrow (grownBy_setCell' W b v') (.inr (h.not_row ht hrow).symm)

/-- Between two rounds: the sectors so far, and the other variables. -/
def CutI (w : World) (e n : Int) (A : Option Addr) (m c : Nat) (f : List Nat → List UInt8) (pre : List Nat) (W : World) : Prop :=
  (((∃ v, Boxed W (w.heap.size + 1 + 1 + 1 + 1) 22 v ∧ W.ownsRow w.heap.size 5 1 v (octs (f pre)).length (octs (f pre)) ∧ True) ∧ Boxed W (w.heap.size + 1 + 1 + 1 + 1 + 1) 3 (.int .i64 ((pre.length : Nat) : Int))) ∧
    (Boxed W w.heap.size 3 (.int .i64 e) ∧ Boxed W (w.heap.size + 1) 3 (.int .i64 n)) ∧ (Boxed W (w.heap.size + 1 + 1) 22 (.slice none 0 0) ∧ Boxed W (w.heap.size + 1 + 1 + 1) 26 (.int .i64 0)) ∧
    (Boxed W (w.heap.size + 1 + 1 + 1 + 1 + 1 + 1) 22 (.slice A m c) ∧ Boxed W (w.heap.size + 1 + 1 + 1 + 1 + 1 + 1 + 1) 3 (.int .i64 112))) ∧ Below w.heap.size w W
theorem cutI_own {w : World} {e n : Int} {A : Option Addr} {m c : Nat} {f : List Nat → List UInt8} {B : Nat} (hB : w.heap.size ≤ B) : OwnFrom B (CutI w e n A m c f) :=
  OwnFrom.and (OwnFrom.and (OwnFrom.and (Own.from (holdsRow_own w.heap.size (w.heap.size + 1 + 1 + 1 + 1) 22 5 1 (fun pre => (octs (f pre)).length) (fun pre => octs (f pre)) (fun _ _ => True)) _) (Own.from (boxed_own _ _ (fun pre : List Nat => .int .i64 ((pre.length : Nat) : Int))) _))
    (OwnFrom.and (OwnFrom.and (Own.from (boxed_own _ _ (fun _ => .int .i64 e)) _) (Own.from (boxed_own _ _ (fun _ => .int .i64 n)) _)) (OwnFrom.and (OwnFrom.and (Own.from (boxed_own _ _ (fun _ => .slice none 0 0)) _) (Own.from (boxed_own _ _ (fun _ => .int .i64 0)) _))
      (OwnFrom.and (Own.from (boxed_own _ _ (fun _ => .slice A m c)) _) (Own.from (boxed_own _ _ (fun _ => .int .i64 112)) _))))) (ownFrom_below (Nat.le_refl _) hB)

/-- The sectors of the parts that came. -/
def outOf (e n : Int) (l : List UInt8) : Nat → List Nat → List UInt8
  | _, [] => []
  | i, x :: xs => prtPut ⟨false, e, n, (i : Int), (l.drop (112 * x)).take 112⟩ ++ outOf e n l (i + 1) xs
theorem outOf_snoc (e n : Int) (l : List UInt8) (x : Nat) : ∀ (pre : List Nat) (i : Nat), outOf e n l i (pre ++ [x]) = outOf e n l i pre ++ prtPut ⟨false, e, n, ((i + pre.length : Nat) : Int), (l.drop (112 * x)).take 112⟩
  | [], i => by simp [outOf]
  | y :: ys, i => by
    rw [List.cons_append, outOf, outOf_snoc e n l x ys (i + 1), outOf, List.append_assoc, List.length_cons, show i + 1 + ys.length = i + (ys.length + 1) by omega]
theorem outOf_range (e n : Int) (l : List UInt8) : ∀ k, outOf e n l 0 (List.range k) = cutPre e n l k
  | 0 => rfl
  | k + 1 => by
    rw [List.range_succ, outOf_snoc, outOf_range e n l k, List.length_range, Nat.zero_add]
    rfl
theorem length_outOf {e n : Int} (h : idRight e n) (l : List UInt8) : ∀ (pre : List Nat) (i : Nat), i + pre.length ≤ 65536 → (outOf e n l i pre).length = 128 * pre.length
  | [], _, _ => rfl
  | x :: xs, i, hi => by
    rw [List.length_cons] at hi
    have hr : prtRight ⟨false, e, n, (i : Int), (l.drop (112 * x)).take 112⟩ := by
      obtain ⟨h1, h2, h3, h4⟩ := h
      refine ⟨h1, h2, h3, h4, ?_, ?_, ?_⟩
      · show (0 : Int) ≤ (i : Int); omega
      · show (i : Int) ≤ 65535; omega
      · show ((l.drop (112 * x)).take 112).length ≤ 112
        rw [List.length_take]; omega
    rw [outOf, List.length_append, length_prtPut _ hr, length_outOf h l xs (i + 1) (by omega), List.length_cons]
    omega

/-- The world where the loop begins. -/
abbrev cutW (w : World) (e n : Int) (A : Option Addr) (m c : Nat) : World :=
  (((((((w.alloc (.cells #[.int .i64 e] 3)).alloc (.cells #[.int .i64 n] 3)).alloc (.cells #[.slice none 0 0] 22)).alloc (.cells #[.int .i64 0] 26)).alloc (.cells #[.slice none 0 0] 22)).alloc (.cells #[.int .i64 0] 3)).alloc (.cells #[.slice A m c] 22)).alloc (.cells #[.int .i64 112] 3)
theorem cutW_size (w : World) (e n : Int) (A : Option Addr) (m c : Nat) : (cutW w e n A m c).heap.size = w.heap.size + 8 := by simp [cutW]
theorem cutI_start (w : World) (e n : Int) (A : Option Addr) (m c : Nat) (l : List UInt8) : CutI w e n A m c (outOf e n l 0) [] (cutW w e n A m c) := by
  refine ⟨⟨⟨⟨_, ?_, World.ownsRow_nil _ _ _ _, trivial⟩, ?_⟩, ⟨?_, ?_⟩, ⟨?_, ?_⟩, ⟨?_, ?_⟩⟩, ?_⟩
  all_goals first
    | (simp only [Boxed, cutW, World.alloc, Array.getElem?_push, Array.size_push]; simp; done)
    | exact (((((((Boxed.new w _ _).alloc _).alloc _).alloc _).alloc _).alloc _).alloc _).alloc _
    | exact (((((((((Ext.refl w).alloc _).alloc _).alloc _).alloc _).alloc _).alloc _).alloc _).alloc _)

section
variable {F : Fence} {nF : Nat} {w : World} {ops : Array Oper} {rest : List Oper} {o : Oper} {a : Act} {Q : Exit → Act → World → Prop}
theorem wpListIn_appo (hgd : o.guard = none) (s x : Operand)
    (ho : o.op = .call { callee := .builtin .append, args := #[s, x], argTypes := #[22, 22] })
    (base : Nat) (v : Value) (l : List UInt8) (hs : a.eval s = v) (hown : Own w base 5 v (octs l)) (A : Option Addr) (m c : Nat) (l2 : List UInt8) (hxv : a.eval x = .slice A m c) (hm : l2.length = m) (h0 : 0 < m) (hx : Octs w A l2)
    (hlen : l.length + m ≤ 4294967296) (hbase : base ≤ w.heap.size)
    (h : ∀ v' w', Own w' base 5 v' (octs (l ++ l2)) → w.grownBy w' v.ownBlock → wpListIn F nF Try.prog ops Q rest (a.put o.dst v') w') : wpListIn F nF Try.prog ops Q (o :: rest) a w := by
  obtain ⟨i0, hi, hz, hs1, hb⟩ := info_parts info5
  have hlo := length_octs l
  have hlo2 := length_octs l2
  obtain ⟨g, o', rfl, hc⟩ := hx (by omega)
  refine wpListIn_append_own w hgd s x _ ho base 5 i0 (.int .u8 0) 1 1 Try.underlying22 hi hz hs1 hb rfl (by decide) v (octs l).length (octs l) hs hown ⟨g, o', none⟩ m c (octs l2) hxv (by omega)
    (Cells.news hx rfl (by omega)) (octs_one _) (by simp only [maxLen]; omega) (by omega) hbase ?_
  intro v' w' r1 r2 _
  refine h v' w' ?_ r2
  rw [octs_append]
  have e : (octs l).length + m = (octs l ++ octs l2).length := by rw [List.length_append]; omega
  rw [e] at r1
  exact r1
end

set_option maxRecDepth 100000 in
set_option maxHeartbeats 4000000 in
theorem f31_right (e n : Int) (A : Option Addr) (l : List UInt8) (m c : Nat) (w : World) (hi : idRight e n) (hm : l.length = m) (h1 : 1 ≤ m) (h2 : m ≤ 65000) (hc : m ≤ c) (hx : Octs w A l) :
    Calls Try.prog 57 #[.int .i64 e, .int .i64 n, .slice A m c] w fun x w' => ∃ v, x = .returned (.tuple #[v, .int .i64 0]) ∧ Own w' w.heap.size 5 v (octs (cutOf e n l)) ∧ Ext w w' := by
  have hse : secs (m : Int) ≠ 0 := by unfold secs; rw [if_neg (by omega)]; omega
  refine (callsIn_wide (n := 3)).1 ?_
  refine callsIn_of_wp_marks Try.func57 rfl trivial ?_ rfl
  simp only [Try.ntmps57, List.size_toArray, List.length_cons, List.length_nil, Nat.reduceAdd, Nat.reduceSub, Array.replicate_succ, Array.replicate_zero, List.push_toArray, List.append_toArray, List.nil_append, List.cons_append]
  gi_wp2_with first
    | (refine ⟨trivial, ?_⟩; gi_at_call 56; refine (callsIn_wide.2 (sec_any (m : Int) _ (by omega) (by omega))).mono ?_; rintro e w' ⟨rfl, rfl⟩)
    | (refine ⟨trivial, ?_⟩; gi_at_call 48; refine (callsIn_wide.2 (f49_any A m c _)).mono ?_; rintro e w' ⟨rfl, rfl⟩)
  clear hse
  obtain ⟨W0, hW0⟩ : ∃ W0, W0 = cutW w e n A m c := ⟨_, rfl⟩
  have hI0 := cutI_start w e n A m c l
  have hsz := cutW_size w e n A m c
  show Code.wpIn Fence.wide 3 Try.prog _ _ _ (cutW w e n A m c)
  rw [← hW0] at hI0 hsz ⊢
  clear hW0
  refine wpIn_rangeFunc_ownG rfl (by decide) (gf := 63) (lb := #[.pointer (some ⟨w.heap.size + 1 + 1 + 1 + 1 + 1 + 1, 0, none⟩), .pointer (some ⟨w.heap.size + 1 + 1 + 1 + 1 + 1 + 1 + 1, 0, none⟩)]) rfl trivial (enters_of Try.func63 (by kernel_rfl) rfl)
    (chunk_stops (3 - 1) (w.heap.size + 1 + 1 + 1 + 1 + 1 + 1) A m c W0 (by omega) (by omega) hc (by decide) hI0.1.2.2.2.1 hI0.1.2.2.2.2) kpB_t (kpB_b (by omega)) (Below.refl _ _) (fun _ => rfl)
    (CutI w e n A m c (outOf e n l 0)) (fun _ _ _ => False) (cutI_own (by omega)) (fun _ _ _ _ _ hs _ _ => hs) hI0
    (fun x => { tmps := #[.int .i64 e, .int .i64 n, .slice A m c, .pointer (some ⟨w.heap.size, 0, none⟩), .pointer (some ⟨w.heap.size + 1, 0, none⟩), undef, .pointer (some ⟨w.heap.size + 1 + 1, 0, none⟩), .pointer (some ⟨w.heap.size + 1 + 1 + 1, 0, none⟩), .pointer (some ⟨w.heap.size + 1 + 1 + 1 + 1, 0, none⟩), .pointer (some ⟨w.heap.size + 1 + 1 + 1 + 1 + 1, 0, none⟩), chV A m x, undef, undef, undef, undef, undef, .slice A m c, .int .i64 (m : Int), .int .i64 (secs (m : Int)), .bool false, .slice A m c, .func (.func 63) #[] #[.pointer (some ⟨w.heap.size + 1 + 1 + 1 + 1 + 1 + 1, 0, none⟩), .pointer (some ⟨w.heap.size + 1 + 1 + 1 + 1 + 1 + 1 + 1, 0, none⟩)], chV A m x, undef, undef, undef, undef, undef, undef, undef, undef, undef, undef, undef, undef, undef, undef, undef, undef, undef, undef, undef, undef, undef, undef, undef, undef, undef, undef, undef, undef, undef, undef, undef, undef, undef, undef, undef], defers := [] }) ?assign ?body ?done ?stop
  case assign =>
    intro k x W K hK
    gi_wp2
    exact hK
  case body =>
    rintro k pre x W ⟨⟨⟨⟨v, hv, hrow, _⟩, hN⟩, ⟨hE, hM⟩, ⟨h6, h7⟩, ⟨hS, hC⟩⟩, hB⟩ hlt
    have hsW : w.heap.size ≤ W.heap.size := hB.size
    have hlen : (outOf e n l 0 pre).length = 128 * pre.length := length_outOf hi l pre 0 (by omega)
    have hrow : Own W w.heap.size 5 v (octs (outOf e n l 0 pre)) := hrow
    have hout := outOf_snoc e n l x pre 0
    rw [Nat.zero_add] at hout
    obtain ⟨D, hD⟩ : ∃ D, D = (l.drop (112 * x)).take 112 := ⟨_, rfl⟩
    have hy : Octs W (chA A x) D := by rw [hD]; exact ch_octs (hx.ext hB) x
    have hDl : D.length = chN m x := by rw [hD]; exact ch_len l m x hm
    have hr : prtRight ⟨false, e, n, (pre.length : Int), D⟩ := by
      have hch : chN m x ≤ 112 := by unfold chN; omega
      obtain ⟨i1, i2, i3, i4⟩ := hi
      refine ⟨i1, i2, i3, i4, ?_, ?_, ?_⟩
      · show (0 : Int) ≤ (pre.length : Int); omega
      · show (pre.length : Int) ≤ 65535; omega
      · show D.length ≤ 112; omega
    rw [← hD] at hout
    clear hD
    obtain ⟨X, hX⟩ : ∃ X, X = outOf e n l 0 pre := ⟨_, rfl⟩
    obtain ⟨j, hj⟩ : ∃ j, j = pre.length := ⟨_, rfl⟩
    obtain ⟨G, hG⟩ : ∃ G, G = prtPut ⟨false, e, n, (pre.length : Int), D⟩ := ⟨_, rfl⟩
    have hGl : G.length = 128 := by rw [hG]; exact length_prtPut _ hr
    have hf := fun W' (h : Ext W W') => f13_right ⟨false, e, n, (pre.length : Int), D⟩ (chA A x) (chN m x) (chN m x) W' hDl hr (hy.ext h)
    rw [← hG] at hout hf
    rw [← hX] at hrow hlen hout
    rw [← hj] at hf hN hlen hlt
    clear hr hG hX hy hDl
    have hX2 := Lib.hid hout
    have hj2 := Lib.hid hj
    clear hout hj
    have c0 := hE.cell
    have c1 := hM.cell
    have c5 := hN.cell
    gi_wp2_with first
      | (refine ⟨trivial, ?_⟩; gi_at_call 67; refine (CallsIn.inRound k (callsIn_wide.2 (hf _ (Ext.refl W)))).mono ?_; clear hf; rintro y w1 ⟨v1, rfl, o1, x1⟩; obtain ⟨A1, q1, rfl, hq1, y1⟩ := o1.octs_form; rw [hGl]; have z1 := (boxed_ext hv x1).cell)
      | (gi_at_builtin; refine wpListIn_appo rfl _ _ rfl w.heap.size v X rfl (hrow.ext x1) A1 128 q1 G rfl hGl (by decide) y1 (by omega) (by have := x1.size; omega) ?_; intro v2 w2 o2 g2; obtain ⟨A2, q2, rfl, hq2, y2⟩ := o2.octs_form; have bv := boxed_row (boxed_ext hv x1) (by decide) (hrow.ext x1) g2; have bN := boxed_row (boxed_ext hN x1) (by decide) (hrow.ext x1) g2; have z2 := bv.cell; have zf2 := bv.frozen; have z5 := bN.cell; have zf5 := bN.frozen)
    have hXG : (X ++ G).length = 128 * j + 128 := by rw [List.length_append, hlen, hGl]
    rw [hXG] at o2
    have hk (C : Nat) (T : TypeId) (u : Value) (h : Boxed W C T u) (hT : T ≠ 5) (h4 : C ≠ w.heap.size + 1 + 1 + 1 + 1) (h5 : C ≠ w.heap.size + 1 + 1 + 1 + 1 + 1) : Boxed ((w2.setCell ⟨w.heap.size + 1 + 1 + 1 + 1, 0, none⟩ (.slice A2 (128 * j + 128) q2)).setCell ⟨w.heap.size + 1 + 1 + 1 + 1 + 1, 0, none⟩ (.int .i64 ((j : Int) + 1))) C T u :=
      ((boxed_row (boxed_ext h x1) hT (hrow.ext x1) g2).other h4 _).other h5 _
    have hj3 : (pre ++ [x]).length = j + 1 := by rw [List.length_append, List.length_singleton, hj2.out]
    refine ⟨((keeps_ext x1).trans ((keeps_row (hrow.ext x1) g2).trans ((KeepsOthers.setCell _ _ _).trans (KeepsOthers.setCell _ _ _)))).from _, ⟨(hk _ _ _ hS (by decide) (by omega) (by omega)).trans hS.symm, (hk _ _ _ hC (by decide) (by omega) (by omega)).trans hC.symm⟩, ?_⟩
    refine ⟨⟨⟨⟨_, (bv.set _).other (by omega) _, ?_, trivial⟩, ?_⟩, ⟨hk _ _ _ hE (by decide) (by omega) (by omega), hk _ _ _ hM (by decide) (by omega) (by omega)⟩, ⟨hk _ _ _ h6 (by decide) (by omega) (by omega), hk _ _ _ h7 (by decide) (by omega) (by omega)⟩,
      ⟨hk _ _ _ hS (by decide) (by omega) (by omega), hk _ _ _ hC (by decide) (by omega) (by omega)⟩⟩, ?_⟩
    · rw [hX2.out]
      exact own_box (own_box o2 bv (by decide)) (bN.other (by omega) _) (by decide)
    · rw [hj3]
      exact (bN.other (by omega) _).set _
    · exact (((hB.trans (x1.mono hsW)).trans (below_row (hrow.ext x1) (by have := x1.size; omega) g2)).setCell (p := ⟨w.heap.size + 1 + 1 + 1 + 1, 0, none⟩) (by show w.heap.size ≤ w.heap.size + 1 + 1 + 1 + 1; omega) _).setCell (p := ⟨w.heap.size + 1 + 1 + 1 + 1 + 1, 0, none⟩) (by show w.heap.size ≤ w.heap.size + 1 + 1 + 1 + 1 + 1; omega) _
  case done =>
    rintro D ys W hD rfl ⟨⟨⟨⟨v, hv, hrow, _⟩, hN⟩, ⟨hE, hM⟩, ⟨h6, h7⟩, _⟩, hB⟩ hK
    have hsW : w.heap.size ≤ W.heap.size := hB.size
    have hrow : Own W w.heap.size 5 v (octs (outOf e n l 0 (List.range ((m + 111) / 112)))) := hrow
    rw [outOf_range] at hrow
    rw [List.length_range] at hN
    obtain ⟨K, hKm⟩ : ∃ K, K = (m + 111) / 112 := ⟨_, rfl⟩
    rw [← hKm] at hN hrow
    have hK581 : K ≤ 581 := by omega
    have hlen := length_cutPre hi l K (by omega)
    obtain ⟨u, hu⟩ : ∃ u, u = Mb.crcSum l := ⟨_, rfl⟩
    have hul : u < 4294967296 := by rw [hu]; exact Mb.crcSum_lt l
    obtain ⟨G, hG⟩ : ∃ G, G = leN 4 (u64of (u : Int)) := ⟨_, rfl⟩
    have hG2 : G = Mb.le4 (Mb.crcSum l) := by rw [hG, u64of_nat _ (by omega), leN4, hu]
    have hr : prtRight ⟨true, e, n, (K : Int), G⟩ := by rw [hG2]; exact ftOf_right hi l K (by omega)
    have hGl : G.length = 4 := by rw [hG, length_leN]
    have hcut : cutOf e n l = cutPre e n l K ++ prtPut ⟨true, e, n, (K : Int), G⟩ := by
      have : nsec l = K := by unfold nsec; omega
      rw [cutOf, this, hG2]; rfl
    have hf1 := fun W' (h : Ext w W') t => f41_one A l m c W' hm (by omega) hc (hx.ext h) t
    have hf2 : ∀ W', Calls Try.prog 68 #[.int .i64 (u : Int), .int .i64 4] W' fun x w' => ∃ v, x = .returned v ∧ Own w' W'.heap.size 5 v (octs G) ∧ Ext W' w' := by
      rw [hG]
      exact fun W' => f132_any (u : Int) 4 (by decide) W'
    have hf3 := fun W' A1 c1 (y : Octs W' A1 G) => f13_right ⟨true, e, n, (K : Int), G⟩ A1 4 c1 W' hGl hr y
    obtain ⟨F, hF⟩ : ∃ F, F = prtPut ⟨true, e, n, (K : Int), G⟩ := ⟨_, rfl⟩
    have hFl : F.length = 128 := by rw [hF]; exact length_prtPut _ hr
    obtain ⟨X, hX⟩ : ∃ X, X = cutPre e n l K := ⟨_, rfl⟩
    rw [← hF] at hcut hf3
    rw [← hX] at hcut hlen hrow
    rw [← hu] at hf1
    clear hX hF hr hG2 hG hu hKm
    have HC := Lib.hid hcut
    clear hcut
    have c0 := hE.cell
    have c1 := hM.cell
    have c5 := hN.cell
    have c4 := hv.cell
    gi_wp2_with first
      | (refine ⟨trivial, ?_⟩; gi_at_call 54; refine (callsIn_wide.2 (hf1 _ hB _)).mono ?_; clear hf1; rintro y w1 ⟨rfl, x1⟩)
      | (refine ⟨trivial, ?_⟩; gi_at_call 68; refine (callsIn_wide.2 (hf2 _)).mono ?_; clear hf2; rintro y w2 ⟨v2, rfl, o2, x2⟩; obtain ⟨A2, q2, rfl, hq2, y2⟩ := o2.octs_form; rw [hGl]; have X2 := Ext.trans x1 x2; have z0 := (boxed_ext hE X2).cell; have z1 := (boxed_ext hM X2).cell; have z5 := (boxed_ext hN X2).cell)
      | (refine ⟨trivial, ?_⟩; gi_at_call 67; refine (callsIn_wide.2 (hf3 _ _ _ y2)).mono ?_; clear hf3; rintro y w3 ⟨v3, rfl, o3, x3⟩; obtain ⟨A3, q3, rfl, hq3, y3⟩ := o3.octs_form; rw [hFl]; have X3 := Ext.trans X2 x3; have z4 := (boxed_ext hv X3).cell)
      | (gi_at_builtin; refine wpListIn_appo rfl _ _ rfl w.heap.size v X rfl (hrow.ext X3) A3 128 q3 F rfl hFl (by decide) y3 (by omega) (by have := X3.size; omega) ?_; intro v4 w4 o4 g4; obtain ⟨A4, q4, rfl, hq4, y4⟩ := o4.octs_form; have b6 := boxed_row (boxed_ext h6 X3) (by decide) (hrow.ext X3) g4; have b7 := boxed_row (boxed_ext h7 X3) (by decide) (hrow.ext X3) g4; have r6 := b6.cell; have rf6 := b6.frozen; have r7 := b7.cell; have rf7 := b7.frozen)
    have hXF : (X ++ F).length = 128 * K + 128 := by rw [List.length_append, hlen, hFl]
    rw [hXF] at o4
    obtain ⟨V, hV⟩ : ∃ V, V = Value.slice A4 (128 * K + 128) q4 := ⟨_, rfl⟩
    rw [← hV] at o4 ⊢
    clear hV
    obtain ⟨Wf, hWf⟩ : ∃ Wf, Wf = (w4.setCell ⟨w.heap.size + 1 + 1, 0, none⟩ V).setCell ⟨w.heap.size + 1 + 1 + 1, 0, none⟩ (.int .i64 0) := ⟨_, rfl⟩
    have hK4 : KeepsOthers W Wf := by
      rw [hWf]
      exact (keeps_ext X3).trans ((keeps_row (hrow.ext X3) g4).trans ((KeepsOthers.setCell _ _ _).trans (KeepsOthers.setCell _ _ _)))
    have hKf : Wf.heap[D]? = some (.deferred (some [])) := hK4.same D _ hK rfl
    have e6 : Boxed Wf (w.heap.size + 1 + 1) 22 V := by rw [hWf]; exact (b6.set V).other (by omega) _
    have e7 : Boxed Wf (w.heap.size + 1 + 1 + 1) 26 (.int .i64 0) := by rw [hWf]; exact (b7.other (by omega) _).set _
    have ef : Own Wf w.heap.size 5 V (octs (X ++ F)) := by
      rw [hWf]
      exact own_box (own_box o4 b6 (by decide)) (b7.other (by omega) _) (by decide)
    have eB : Below w.heap.size w Wf := by
      rw [hWf]
      exact (((hB.trans (X3.mono hsW)).trans (below_row (hrow.ext X3) (by have := X3.size; omega) g4)).setCell (p := ⟨w.heap.size + 1 + 1, 0, none⟩) (by show w.heap.size ≤ w.heap.size + 1 + 1; omega) _).setCell (p := ⟨w.heap.size + 1 + 1 + 1, 0, none⟩) (by show w.heap.size ≤ w.heap.size + 1 + 1 + 1; omega) _
    rw [← hWf]
    clear hWf
    refine ⟨by simp, .inl ⟨_, _, rfl, run_takeDeferred hKf, ?_⟩⟩
    have hne (C : Nat) (h : C < w.heap.size + 8) : some C ≠ some D := fun x => by injection x with x; omega
    exact ⟨_, ret_two rfl _ _ _ _ _ _ rfl rfl (e6.kept (grownBy_putObj' _ D (.deferred none)) (hne _ (by omega))) (e7.kept (grownBy_putObj' _ D (.deferred none)) (hne _ (by omega))), V, rfl, (by rw [HC.out]; exact ownsRow_putObj ef _ hKf rfl),
      eB.trans (belowK_b (w := w) (Nat.le_refl _) Wf D _ _ (by omega) hKf rfl rfl)⟩
  case stop =>
    rintro D k pre W _ _ h _
    exact h.elim

set_option maxRecDepth 100000 in
theorem f31_none (e n : Int) (A : Option Addr) (m c : Nat) (w : World) (h0 : secs (m : Int) = 0) (hm : m ≤ 9223372036854775807) :
    Calls Try.prog 57 #[.int .i64 e, .int .i64 n, .slice A m c] w fun x w' => x = .returned (.tuple #[.slice none 0 0, .int .i64 2]) ∧ Ext w w' := by
  refine (callsIn_wide (n := 3)).1 ?_
  refine callsIn_of_wp_marks Try.func57 rfl trivial ?_ rfl
  simp only [Try.ntmps57, List.size_toArray, List.length_cons, List.length_nil, Nat.reduceAdd, Nat.reduceSub, Array.replicate_succ, Array.replicate_zero, List.push_toArray, List.append_toArray, List.nil_append, List.cons_append]
  gi_wp2_with (refine ⟨trivial, ?_⟩; gi_at_call 56; refine (callsIn_wide.2 (sec_any (m : Int) _ (by omega) (by omega))).mono ?_; rintro e w' ⟨rfl, rfl⟩)
  exact ⟨_, ret_two rfl _ _ _ _ _ _ rfl rfl (by simp only [Boxed, World.alloc, Array.getElem?_push, Array.size_push]; simp) (by simp only [Boxed, World.alloc, Array.getElem?_push, Array.size_push]; simp), rfl, ((((Ext.refl w).alloc _).alloc _).alloc _).alloc _⟩

set_option maxRecDepth 100000 in
set_option maxHeartbeats 4000000 in
theorem f31_wrong (e n : Int) (A : Option Addr) (l : List UInt8) (m c : Nat) (w : World) (hi : ¬ idRight e n) (hm : l.length = m) (h1 : 1 ≤ m) (h2 : m ≤ 65000) (hc : m ≤ c) :
    Calls Try.prog 57 #[.int .i64 e, .int .i64 n, .slice A m c] w fun x w' => x = .returned (.tuple #[.slice none 0 0, .int .i64 2]) ∧ Ext w w' := by
  have hse : secs (m : Int) ≠ 0 := by unfold secs; rw [if_neg (by omega)]; omega
  refine (callsIn_wide (n := 3)).1 ?_
  refine callsIn_of_wp_marks Try.func57 rfl trivial ?_ rfl
  simp only [Try.ntmps57, List.size_toArray, List.length_cons, List.length_nil, Nat.reduceAdd, Nat.reduceSub, Array.replicate_succ, Array.replicate_zero, List.push_toArray, List.append_toArray, List.nil_append, List.cons_append]
  gi_wp2_with first
    | (refine ⟨trivial, ?_⟩; gi_at_call 56; refine (callsIn_wide.2 (sec_any (m : Int) _ (by omega) (by omega))).mono ?_; rintro e w' ⟨rfl, rfl⟩)
    | (refine ⟨trivial, ?_⟩; gi_at_call 48; refine (callsIn_wide.2 (f49_any A m c _)).mono ?_; rintro e w' ⟨rfl, rfl⟩)
  clear hse
  obtain ⟨W0, hW0⟩ : ∃ W0, W0 = cutW w e n A m c := ⟨_, rfl⟩
  have hI0 := cutI_start w e n A m c l
  have hsz := cutW_size w e n A m c
  show Code.wpIn Fence.wide 3 Try.prog _ _ _ (cutW w e n A m c)
  rw [← hW0] at hI0 hsz ⊢
  clear hW0
  refine wpIn_rangeFunc_ownG rfl (by decide) (gf := 63) (lb := #[.pointer (some ⟨w.heap.size + 1 + 1 + 1 + 1 + 1 + 1, 0, none⟩), .pointer (some ⟨w.heap.size + 1 + 1 + 1 + 1 + 1 + 1 + 1, 0, none⟩)]) rfl trivial (enters_of Try.func63 (by kernel_rfl) rfl)
    (chunk_stops (3 - 1) (w.heap.size + 1 + 1 + 1 + 1 + 1 + 1) A m c W0 (by omega) (by omega) hc (by decide) hI0.1.2.2.2.1 hI0.1.2.2.2.2) kpB_t (kpB_b (by omega)) (Below.refl _ _) (fun _ => rfl)
    (fun pre W => pre = [] ∧ CutI w e n A m c (outOf e n l 0) pre W) (fun k _ W => k = .ret ∧ (Boxed W (w.heap.size + 1 + 1) 22 (.slice none 0 0) ∧ Boxed W (w.heap.size + 1 + 1 + 1) 26 (.int .i64 2)) ∧ Below w.heap.size w W)
    (OwnFrom.and (ownFrom_pure _ (fun pre => pre = [])) (cutI_own (by omega))) (fun k => OwnFrom.and (ownFrom_pure _ (fun _ => k = .ret)) (OwnFrom.and (OwnFrom.and (Own.from (boxed_own _ _ (fun _ => .slice none 0 0)) _) (Own.from (boxed_own _ _ (fun _ => .int .i64 2)) _)) (ownFrom_below (Nat.le_refl _) (by omega)))) ⟨rfl, hI0⟩
    (fun x => { tmps := #[.int .i64 e, .int .i64 n, .slice A m c, .pointer (some ⟨w.heap.size, 0, none⟩), .pointer (some ⟨w.heap.size + 1, 0, none⟩), undef, .pointer (some ⟨w.heap.size + 1 + 1, 0, none⟩), .pointer (some ⟨w.heap.size + 1 + 1 + 1, 0, none⟩), .pointer (some ⟨w.heap.size + 1 + 1 + 1 + 1, 0, none⟩), .pointer (some ⟨w.heap.size + 1 + 1 + 1 + 1 + 1, 0, none⟩), chV A m x, undef, undef, undef, undef, undef, .slice A m c, .int .i64 (m : Int), .int .i64 (secs (m : Int)), .bool false, .slice A m c, .func (.func 63) #[] #[.pointer (some ⟨w.heap.size + 1 + 1 + 1 + 1 + 1 + 1, 0, none⟩), .pointer (some ⟨w.heap.size + 1 + 1 + 1 + 1 + 1 + 1 + 1, 0, none⟩)], chV A m x, undef, undef, undef, undef, undef, undef, undef, undef, undef, undef, undef, undef, undef, undef, undef, undef, undef, undef, undef, undef, undef, undef, undef, undef, undef, undef, undef, undef, undef, undef, undef, undef, undef, undef, undef], defers := [] }) ?assign ?body ?done ?stop
  case assign =>
    intro k x W K hK
    gi_wp2
    exact hK
  case body =>
    rintro k pre x W ⟨rfl, ⟨⟨⟨v, hv, hrow, _⟩, hN⟩, ⟨hE, hM⟩, ⟨h6, h7⟩, _⟩, hB⟩ hlt
    clear hv hrow
    have hsW : w.heap.size ≤ W.heap.size := hB.size
    have hDl := ch_len l m x hm
    have hr : ¬ prtRight ⟨false, e, n, 0, (l.drop (112 * x)).take 112⟩ := fun h => hi ⟨h.1, h.2.1, h.2.2.1, h.2.2.2.1⟩
    have hf := fun W' => f13_wrong ⟨false, e, n, 0, (l.drop (112 * x)).take 112⟩ (chA A x) (chN m x) (chN m x) W' hDl hr
    clear hr hDl
    have c0 := hE.cell
    have c1 := hM.cell
    have c5 := hN.cell
    gi_wp2_with (refine ⟨trivial, ?_⟩; gi_at_call 67; refine (CallsIn.inRound k (callsIn_wide.2 (hf _))).mono ?_; clear hf; rintro y w1 ⟨rfl, x1⟩; have b6 := boxed_ext h6 x1; have b7 := boxed_ext h7 x1; have r6 := b6.cell; have rf6 := b6.frozen; have r7 := b7.cell; have rf7 := b7.frozen)
    exact ⟨((keeps_ext x1).trans ((KeepsOthers.setCell _ _ _).trans (KeepsOthers.setCell _ _ _))).from _, rfl, ⟨(b6.set _).other (by omega) _, (b7.other (by omega) _).set _⟩, ((hB.trans (x1.mono hsW)).setCell (p := ⟨w.heap.size + 1 + 1, 0, none⟩) (by show w.heap.size ≤ w.heap.size + 1 + 1; omega) _).setCell (p := ⟨w.heap.size + 1 + 1 + 1, 0, none⟩) (by show w.heap.size ≤ w.heap.size + 1 + 1 + 1; omega) _⟩
  case done =>
    rintro D ys W _ rfl ⟨h, _⟩ _
    have := congrArg List.length h
    rw [List.length_range, List.length_nil] at this
    omega
  case stop =>
    rintro D k pre W hD _ ⟨rfl, ⟨h6, h7⟩, hB⟩ hK
    gi_wp2
    refine ⟨by simp, .inl ⟨_, _, rfl, run_takeDeferred hK, ?_⟩⟩
    have hne (C : Nat) (h : C < w.heap.size + 8) : some C ≠ some D := fun x => by injection x with x; omega
    exact ⟨_, ret_two rfl _ _ _ _ _ _ rfl rfl (h6.kept (grownBy_putObj' _ D (.deferred none)) (hne _ (by omega))) (h7.kept (grownBy_putObj' _ D (.deferred none)) (hne _ (by omega))), rfl, hB.trans (belowK_b (w := w) (Nat.le_refl _) W D _ _ (by omega) hK rfl rfl)⟩
end Go.Proofs.Ytgpnmmgoachajaa
namespace Go.Proofs.Ytgpnmmgoachajaa
open Go.RowKit
open Go.Proofs

theorem prtGet_right {b : List UInt8} {p : Prt} (h : prtGet b = some p) : prtRight p := by
  unfold prtGet at h
  split at h
  · injection h with h
    rw [← h]
    rename_i g
    exact g.2.1
  · cases h
theorem prtGet_id {b : List UInt8} {p : Prt} (h : prtGet b = some p) : idRight p.epoch p.number := by
  obtain ⟨h1, h2, h3, h4, _⟩ := prtGet_right h
  exact ⟨h1, h2, h3, h4⟩
theorem prtGet_data {b : List UInt8} {p : Prt} (h : prtGet b = some p) : p.data.length ≤ 112 := (prtGet_right h).2.2.2.2.2.2

theorem sector_octs {w : World} {A : Option Addr} {b : List UInt8} (h : Octs w A b) (k : Nat) : Octs w (A.map (fun x => x.add (k * 128))) ((b.drop (128 * k)).take 128) := by
  rw [Nat.mul_comm k 128]
  by_cases hi : 128 * k < b.length
  · have := (h.cut (128 * k) b.length (Nat.le_refl _) (by omega)).take 128
    rw [if_neg (by omega), Nat.mul_one] at this
    exact this
  · rw [List.drop_of_length_le (by omega)]
    exact Octs.nil _ _

theorem eq_octs (A B : Option Addr) (l m : List UInt8) (n k c d : Nat) (r : Bool) (w : World) (hr : decide (l = m) = r) (hl : l.length = n) (hm : m.length = k) (h0 : 0 < n) (h1 : 0 < k) (hn : n ≤ 9223372036854775807) (hk : k ≤ 9223372036854775807) (hx : Octs w A l) (hy : Octs w B m) :
    Calls Try.prog 72 #[.slice A n c, .slice B k d] w fun e w' => e = .returned (.bool r) ∧ Ext w w' := by
  subst hl; subst hm
  refine (equal_octs A B l m c d w h0 h1 hn hk hx hy).mono ?_
  rintro e w' ⟨rfl, q, rfl⟩
  exact ⟨by rw [hr], (Ext.refl w).drewN q⟩

set_option maxRecDepth 100000 in
set_option maxHeartbeats 4000000 in
theorem f34_any (A : Option Addr) (b : List UInt8) (nb cb : Nat) (E N : Int) (w : World) (hb : b.length = nb) (hl : nb ≤ 6000) (hc : nb ≤ cb) (hx : Octs w A b) :
    Calls Try.prog 61 #[.slice A nb cb, .int .i64 E, .int .i64 N] w fun x w' => ∃ v, x = .returned (.tuple #[v, .int .i64 (((joinOf b E N).2 : Nat) : Int)]) ∧ Own w' w.heap.size 5 v (octs (joinOf b E N).1) ∧ Ext w w' := by
  obtain ⟨J, hJ⟩ : ∃ J, J = joinOf b E N := ⟨_, rfl⟩
  rw [← hJ]
  go_enter Try.func61, Try.ntmps61
  go_wp2
  go_loopw [8, 9] (fun v i wr => ∃ (k f : Nat) (l : List UInt8), i = .int .i64 k ∧ Own wr w.heap.size 5 v (octs l) ∧ Ext w wr ∧ joinAt b E N f k l = J ∧ 128 * k ≤ nb ∧ l.length ≤ 112 * k ∧ nb < 128 * (k + f)) (fun _ i _ => nb - (intOf i).toNat)
  case atStart => exact ⟨0, nb / 128 + 1, [], rfl, Own.nil _ _ _, Ext.refl _, by rw [hJ, joinOf, hb], by omega, by simp, by omega⟩
  case round =>
    obtain ⟨k, f, l, rfl, hown, hext, hjoin, hk, hll, hf⟩ := hrel
    clear hJ
    by_cases hend : 128 * (k + 1) ≤ nb
    · obtain ⟨f, rfl⟩ : ∃ f', f = f' + 1 := ⟨f - 1, by omega⟩
      have hsl : ((b.drop (128 * k)).take 128).length = (k + 1) * 128 - k * 128 := by rw [List.length_take, List.length_drop]; omega
      have hso := sector_octs (hx.ext hext) k
      have hg14 := f14_any (A.map (fun x => x.add (k * 128))) _ ((k + 1) * 128 - k * 128) (cb - k * 128) wr hsl (by omega) (by omega) hso
      cases hg : prtGet ((b.drop (128 * k)).take 128) with
      | none =>
        rw [joinAt_none hg] at hjoin
        subst hjoin
        rw [hg, Option.getD_none, Option.isSome_none] at hg14
        clear hg hsl hso hx
        go_wp2_with (go_at_call 71; refine hg14.mono ?_; clear hg14; rintro x w1 ⟨A1, m1, c1, rfl, hm1, hc1, y1, x1⟩)
        refine bodyPost_ret (results_tmp2 rfl _ _ _) rfl ?_
        exact ⟨_, rfl, Own.nil _ _ _, (hext.trans x1).alloc _⟩
      | some p =>
        have hid := prtGet_id hg
        have hdl := prtGet_data hg
        rw [hg, Option.getD_some, Option.isSome_some] at hg14
        by_cases he : p.epoch = E
        · by_cases hn : p.number = N
          · by_cases hi : p.index = (k : Int)
            · cases hfoot : p.foot with
              | false =>
                rw [joinAt_part (by omega) hg ⟨he, hn, hi⟩ hfoot] at hjoin
                have g1 : (p.epoch != E) = false := bne_eq_false_iff_eq.2 he
                have g2 : (p.number != N) = false := bne_eq_false_iff_eq.2 hn
                have g3 : (p.index != (k : Int)) = false := bne_eq_false_iff_eq.2 hi
                clear hg hsl hso he hn hi
                go_wp2_with first
                  | (go_at_call 71; refine hg14.mono ?_; clear hg14; rintro x w1 ⟨A1, m1, c1, rfl, hm1, hc1, y1, x1⟩)
                  | (at_builtin; refine wpList_appo rfl _ _ rfl w.heap.size _ l rfl ((hown.ext x1).alloc _) A1 m1 c1 p.data rfl hm1 (y1.alloc _) (by omega) (by have := hext.size; have := x1.size; simp; omega) ?_; intro v2 w2 o2 g2 _)
                refine ⟨⟨k + 1, f, l ++ p.data, val_int (by omega), o2, ?_, hjoin, by omega, by rw [List.length_append]; omega, by omega⟩, by simp [intOf]; omega⟩
                exact ((hext.trans x1).alloc _).grown g2 (fun q hq => ((hown.ext x1).block q hq).1)
              | true =>
                rw [joinAt_foot (by omega) hg ⟨he, hn, hi⟩ hfoot] at hjoin
                have g1 : (p.epoch != E) = false := bne_eq_false_iff_eq.2 he
                have g2 : (p.number != N) = false := bne_eq_false_iff_eq.2 hn
                have g3 : (p.index != (k : Int)) = false := bne_eq_false_iff_eq.2 hi
                rw [he, hn] at hid
                obtain ⟨A8, c8, rfl, hc8, y8⟩ := hown.octs_form
                clear hg hsl hso he hn hi
                by_cases hs : secs (l.length : Int) = 0
                · rw [if_neg (fun h => h.1 hs)] at hjoin
                  subst hjoin
                  go_wp2_with first
                    | (go_at_call 71; refine hg14.mono ?_; clear hg14; rintro x w1 ⟨A1, m1, c1, rfl, hm1, hc1, y1, x1⟩)
                    | (go_at_call 57; refine (f31_none E N A8 l.length c8 _ hs (by omega)).mono ?_; rintro x w2 ⟨rfl, x2⟩)
                  refine bodyPost_ret (results_tmp2 rfl _ _ _) rfl ?_
                  exact ⟨_, rfl, Own.nil _ _ _, ((hext.trans x1).alloc _).trans x2⟩
                · have h1 : 1 ≤ l.length := by
                    rcases Nat.lt_or_ge 0 l.length with h | h
                    · exact h
                    · exact absurd (by unfold secs; rw [if_pos (by omega)]) hs
                  obtain ⟨T, hT⟩ : ∃ T, T = b.take (128 * (k + 1)) := ⟨_, rfl⟩
                  have hTl : T.length = (k + 1) * 128 := by rw [hT, List.length_take]; omega
                  have hTo : ∀ W, Ext w W → Octs W A T := fun W h => by rw [hT]; exact (hx.ext h).take _
                  have hn5 := nsec_le l (by omega)
                  have hLl := length_cutOf hid l (by omega)
                  obtain ⟨L, hL⟩ : ∃ L, L = cutOf E N l := ⟨_, rfl⟩
                  have hcut := fun W (h : Ext wr W) => f31_right E N A8 l l.length c8 W hid rfl h1 (by omega) hc8 (y8.ext h)
                  rw [← hL] at hcut hLl
                  rw [← hT, ← hL] at hjoin
                  clear hT hL
                  by_cases heq : L = T
                  · rw [if_pos ⟨hs, heq⟩] at hjoin
                    subst hjoin
                    have hdec : decide (L = T) = true := decide_eq_true heq
                    clear heq
                    go_wp2_with first
                      | (go_at_call 71; refine hg14.mono ?_; clear hg14; rintro x w1 ⟨A1, m1, c1, rfl, hm1, hc1, y1, x1⟩)
                      | (go_at_call 57; refine (hcut _ (x1.alloc _)).mono ?_; clear hcut; rintro x w2 ⟨v2, rfl, o2, x2⟩; obtain ⟨A2, c2, rfl, hc2, y2⟩ := o2.octs_form; rw [hLl])
                      | (go_at_call 72; refine (eq_octs A2 A L T _ _ _ _ _ _ hdec hLl hTl (by omega) (by omega) (by omega) (by omega) y2 (hTo _ (((hext.trans x1).alloc _).trans x2))).mono ?_; rintro x w3 ⟨rfl, x3⟩)
                    refine bodyPost_ret (results_tmp2 rfl _ _ _) rfl ?_
                    exact ⟨_, by simp, hown.ext (((x1.alloc _).trans x2).trans x3), (((hext.trans x1).alloc _).trans x2).trans x3⟩
                  · rw [if_neg (fun h => heq h.2)] at hjoin
                    subst hjoin
                    have hdec : decide (L = T) = false := decide_eq_false heq
                    clear heq
                    go_wp2_with first
                      | (go_at_call 71; refine hg14.mono ?_; clear hg14; rintro x w1 ⟨A1, m1, c1, rfl, hm1, hc1, y1, x1⟩)
                      | (go_at_call 57; refine (hcut _ (x1.alloc _)).mono ?_; clear hcut; rintro x w2 ⟨v2, rfl, o2, x2⟩; obtain ⟨A2, c2, rfl, hc2, y2⟩ := o2.octs_form; rw [hLl])
                      | (go_at_call 72; refine (eq_octs A2 A L T _ _ _ _ _ _ hdec hLl hTl (by omega) (by omega) (by omega) (by omega) y2 (hTo _ (((hext.trans x1).alloc _).trans x2))).mono ?_; rintro x w3 ⟨rfl, x3⟩)
                    refine bodyPost_ret (results_tmp2 rfl _ _ _) rfl ?_
                    exact ⟨_, rfl, Own.nil _ _ _, (((hext.trans x1).alloc _).trans x2).trans x3⟩
            · rw [joinAt_other hg (fun h => hi h.2.2)] at hjoin
              subst hjoin
              have g1 : (p.index != (k : Int)) = true := bne_iff_ne.2 hi
              have g2 : (p.epoch != E) = false := bne_eq_false_iff_eq.2 he
              have g3 : (p.number != N) = false := bne_eq_false_iff_eq.2 hn
              clear he hn
              clear hg hsl hso hx
              go_wp2_with (go_at_call 71; refine hg14.mono ?_; clear hg14; rintro x w1 ⟨A1, m1, c1, rfl, hm1, hc1, y1, x1⟩)
              refine bodyPost_ret (results_tmp2 rfl _ _ _) rfl ?_
              exact ⟨_, rfl, Own.nil _ _ _, (hext.trans x1).alloc _⟩
          · rw [joinAt_other hg (fun h => hn h.2.1)] at hjoin
            subst hjoin
            have g1 : (p.number != N) = true := bne_iff_ne.2 hn
            have g2 : (p.epoch != E) = false := bne_eq_false_iff_eq.2 he
            clear he
            clear hg hsl hso hx
            go_wp2_with (go_at_call 71; refine hg14.mono ?_; clear hg14; rintro x w1 ⟨A1, m1, c1, rfl, hm1, hc1, y1, x1⟩)
            refine bodyPost_ret (results_tmp2 rfl _ _ _) rfl ?_
            exact ⟨_, rfl, Own.nil _ _ _, (hext.trans x1).alloc _⟩
        · rw [joinAt_other hg (fun h => he h.1)] at hjoin
          subst hjoin
          have g1 : (p.epoch != E) = true := bne_iff_ne.2 he
          clear hg hsl hso hx
          go_wp2_with (go_at_call 71; refine hg14.mono ?_; clear hg14; rintro x w1 ⟨A1, m1, c1, rfl, hm1, hc1, y1, x1⟩)
          refine bodyPost_ret (results_tmp2 rfl _ _ _) rfl ?_
          exact ⟨_, rfl, Own.nil _ _ _, (hext.trans x1).alloc _⟩
    · rw [joinAt_end (by omega)] at hjoin
      subst hjoin
      go_wp2
      refine bodyPost_ret (results_tmp2 rfl _ _ _) rfl ?_
      exact ⟨_, rfl, Own.nil _ _ _, hext⟩
end Go.Proofs.Ytgpnmmgoachajaa
namespace Go.Proofs.Ytgpnmmgoachajaa
open Go.RowKit
open Go.Proofs

theorem conv_fun (l : List UInt8) : ∃ (C : World → Nat) (F : World → World), (∀ W, (convert 9 22 (strOf l)).run Try.prog W = .ok (.slice (some ⟨W.heap.size, 0, none⟩) l.length (C W)) (F W)) ∧
    ∀ W, l.length ≤ C W ∧ Octs (F W) (some ⟨W.heap.size, 0, none⟩) l ∧ Ext W (F W) :=
  ⟨fun W => (conv_octs l W).choose, fun W => (conv_octs l W).choose_spec.choose, fun W => (conv_octs l W).choose_spec.choose_spec.1, fun W => (conv_octs l W).choose_spec.choose_spec.2⟩
theorem iwrap_in (n : Int) (h : -9223372036854775808 ≤ n ∧ n ≤ 9223372036854775807) : IntKind.i64.wrap n = n := by
  simp only [IntKind.wrap, IntKind.bits, IntKind.signed, Bool.true_and, Int.reducePow, Nat.reduceSub]
  split
  · rename_i g
    have := of_decide_eq_true g
    omega
  · rename_i g
    have : ¬ _ := fun k => g (decide_eq_true k)
    omega
theorem str_upto (l : List UInt8) (j : Nat) (hj : j ≤ l.length) (w : World) : (Instr.slice 9 (strOf l) none (some (.int .i64 (j : Int))) none).run Try.prog w = .ok (strOf (l.take j)) w := by
  have h := run_slice_string_h (P := Try.prog) w 9 ⟨l.toArray⟩ Try.underlying9 .i64 (j : Int) (by omega) (by show (j : Int) ≤ (l.toArray.size : Int); rw [List.size_toArray]; omega)
  rw [h, show ((j : Int).toNat) = j by omega, extract_mid l 0 j j (by omega)]
  rfl

end Go.Proofs.Ytgpnmmgoachajaa
namespace Go.Proofs.Ytgpnmmgoachajaa
open Go.RowKit
open Go.Proofs

end Go.Proofs.Ytgpnmmgoachajaa
/- The journal in memory: its cells, Used, Epoch, Place, Free, Fits, Reset, step, New. -/
namespace Go.Proofs.Ytgpnmmgoachajaa
open Go.RowKit Go.Shelf
open Go.Proofs

/-- A journal: where, its epoch, its place, its count, its used sectors, and whether it is dead or dirty. -/
structure Jn where
  fr : Nat
  n : Nat
  epoch : Nat
  place : Nat
  count : Nat
  used : Nat
  dead : Bool
  dirty : Bool
/-- The journal in memory. -/
abbrev JnAt (w : World) (y p : Nat) (j : Jn) : Prop := w.heap[y]? = some (.cells #[.pointer (some ⟨p, 0, none⟩), .int .i64 (j.fr : Int), .int .i64 (j.n : Int), .int .i64 (j.epoch : Int), .int .i64 (j.place : Int), .int .i64 (j.count : Int), .int .i64 (j.used : Int), .bool j.dead, .bool j.dirty] 104 (0, 0))
section
variable {w w' : World} {y p : Nat} {j : Jn}
theorem jn_cells (h : JnAt w y p j) : w.cell? ⟨y, 0, none⟩ = some (.pointer (some ⟨p, 0, none⟩)) ∧ w.cell? ⟨y, 1, none⟩ = some (.int .i64 (j.fr : Int)) ∧ w.cell? ⟨y, 2, none⟩ = some (.int .i64 (j.n : Int)) ∧ w.cell? ⟨y, 3, none⟩ = some (.int .i64 (j.epoch : Int)) ∧ w.cell? ⟨y, 4, none⟩ = some (.int .i64 (j.place : Int)) ∧ w.cell? ⟨y, 5, none⟩ = some (.int .i64 (j.count : Int)) ∧ w.cell? ⟨y, 6, none⟩ = some (.int .i64 (j.used : Int)) ∧ w.cell? ⟨y, 7, none⟩ = some (.bool j.dead) ∧ w.cell? ⟨y, 8, none⟩ = some (.bool j.dirty) ∧ ∀ k, w.frozen? ⟨y, k, none⟩ = false := by
  refine ⟨?_, ?_, ?_, ?_, ?_, ?_, ?_, ?_, ?_, fun k => frozen_of_row w y k _ _ h⟩ <;> (rw [cell_of_row w y _ _ _ _ h]; rfl)
theorem JnAt.lt (h : JnAt w y p j) : y < w.heap.size := (Array.getElem?_eq_some_iff.1 h).1

set_option maxRecDepth 100000 in
theorem jused_any (h : JnAt w y p j) : Calls Try.prog 40 #[.pointer (some ⟨y, 0, none⟩)] w fun e w' => e = .returned (.int .i64 (j.used : Int)) ∧ w = w' := by
  obtain ⟨c0, c1, c2, c3, c4, c5, c6, c7, c8, hf⟩ := jn_cells h
  go_enter Try.func40, Try.ntmps40
  go_wp2
  go_ret
  exact ⟨rfl, rfl⟩
set_option maxRecDepth 100000 in
theorem jepoch_any (h : JnAt w y p j) : Calls Try.prog 42 #[.pointer (some ⟨y, 0, none⟩)] w fun e w' => e = .returned (.int .i64 (j.epoch : Int)) ∧ w = w' := by
  obtain ⟨c0, c1, c2, c3, c4, c5, c6, c7, c8, hf⟩ := jn_cells h
  go_enter Try.func42, Try.ntmps42
  go_wp2
  go_ret
  exact ⟨rfl, rfl⟩
set_option maxRecDepth 100000 in
theorem jplace_any (h : JnAt w y p j) : Calls Try.prog 44 #[.pointer (some ⟨y, 0, none⟩)] w fun e w' => e = .returned (.int .i64 (j.place : Int)) ∧ w = w' := by
  obtain ⟨c0, c1, c2, c3, c4, c5, c6, c7, c8, hf⟩ := jn_cells h
  go_enter Try.func44, Try.ntmps44
  go_wp2
  go_ret
  exact ⟨rfl, rfl⟩
set_option maxRecDepth 100000 in
theorem jfree_any (h : JnAt w y p j) (hu : j.used ≤ j.n) (hn : j.n ≤ 4096) : Calls Try.prog 37 #[.pointer (some ⟨y, 0, none⟩)] w fun e w' => e = .returned (.int .i64 ((j.n - j.used : Nat) : Int)) ∧ Ext w w' := by
  obtain ⟨c0, c1, c2, c3, c4, c5, c6, c7, c8, hf⟩ := jn_cells h
  obtain ⟨F, hF⟩ : ∃ F, F = j.n - j.used := ⟨_, rfl⟩
  have s1 : (j.n : Int) - (j.used : Int) = (F : Int) := by omega
  have w1 : IntKind.i64.wrap (F : Int) = (F : Int) := IntWalk.i64_in _ (by omega)
  rw [← hF]
  clear hF
  go_enter Try.func37, Try.ntmps37
  go_wp2_with fail
  go_quiet (fail)
  go_wp2_with fail
  go_ret
  exact ⟨rfl, (Ext.refl w).drewN _⟩
/-- Would so many octets be appended? -/
def jFits (j : Jn) (m : Int) : Bool := decide (0 < secs m) && decide (secs m ≤ ((j.n - j.used : Nat) : Int))
set_option maxRecDepth 100000 in
theorem jfits_any (h : JnAt w y p j) (hu : j.used ≤ j.n) (hn : j.n ≤ 4096) (m : Int) (h1 : -9223372036854775808 ≤ m) (h2 : m ≤ 9223372036854775807) : Calls Try.prog 36 #[.pointer (some ⟨y, 0, none⟩), .int .i64 m] w fun e w' => e = .returned (.bool (jFits j m)) ∧ Ext w w' := by
  have hs := fun W => sec_any m W h1 h2
  have hfr := jfree_any h hu hn
  unfold jFits
  obtain ⟨S, hS⟩ : ∃ S, S = secs m := ⟨_, rfl⟩
  obtain ⟨F, hF⟩ : ∃ F, F = j.n - j.used := ⟨_, rfl⟩
  rw [← hS] at hs ⊢
  rw [← hF] at hfr ⊢
  by_cases g : 0 < S
  · have g1 : (0 < S) = True := eq_true g
    by_cases k : S ≤ (F : Int)
    · have k1 : (S ≤ (F : Int)) = True := eq_true k
      rw [show (decide (0 < S) && decide (S ≤ (F : Int))) = true by simp [g, k]]
      clear hS hF
      go_enter Try.func36, Try.ntmps36
      go_wp2_with first
        | (go_at_call 56; refine (hs _).mono ?_; clear hs; rintro e w1 ⟨rfl, rfl⟩)
        | (go_at_call 37; refine hfr.mono ?_; clear hfr; rintro e w2 ⟨rfl, x2⟩)
      go_ret
      exact ⟨rfl, x2⟩
    · have k1 : (S ≤ (F : Int)) = False := eq_false k
      rw [show (decide (0 < S) && decide (S ≤ (F : Int))) = false by simp [k]]
      clear hS hF
      go_enter Try.func36, Try.ntmps36
      go_wp2_with first
        | (go_at_call 56; refine (hs _).mono ?_; clear hs; rintro e w1 ⟨rfl, rfl⟩)
        | (go_at_call 37; refine hfr.mono ?_; clear hfr; rintro e w2 ⟨rfl, x2⟩)
      go_ret
      exact ⟨rfl, x2⟩
  · have g1 : (0 < S) = False := eq_false g
    rw [show (decide (0 < S) && decide (S ≤ (F : Int))) = false by simp [g]]
    clear hS hF
    go_enter Try.func36, Try.ntmps36
    go_wp2_with first
      | (go_at_call 56; refine (hs _).mono ?_; clear hs; rintro e w1 ⟨rfl, rfl⟩)
    go_ret
    exact ⟨rfl, Ext.refl _⟩

/-- A transaction's step. -/
def jStep (j : Jn) (k : Nat) : Jn := { j with count := j.count + 1, used := j.used + k, place := (j.place + k) % j.n }
theorem jn_set (h : JnAt w y p j) (i : Nat) (v : Value) (j' : Jn) (e : (#[.pointer (some ⟨p, 0, none⟩), .int .i64 (j.fr : Int), .int .i64 (j.n : Int), .int .i64 (j.epoch : Int), .int .i64 (j.place : Int), .int .i64 (j.count : Int), .int .i64 (j.used : Int), .bool j.dead, .bool j.dirty] : Array Value).setIfInBounds i v = #[.pointer (some ⟨p, 0, none⟩), .int .i64 (j'.fr : Int), .int .i64 (j'.n : Int), .int .i64 (j'.epoch : Int), .int .i64 (j'.place : Int), .int .i64 (j'.count : Int), .int .i64 (j'.used : Int), .bool j'.dead, .bool j'.dirty]) :
    JnAt (w.setCell ⟨y, i, none⟩ v) y p j' := by
  have := heap_setCell_same w y i _ _ v h
  rw [e] at this
  exact this
set_option maxRecDepth 100000 in
set_option maxHeartbeats 2000000 in
theorem jstep_any (h : JnAt w y p j) (k : Nat) (hk : k ≤ 65536) (hn : 1 ≤ j.n ∧ j.n ≤ 4096) (hu : j.used ≤ 65536) (hc : j.count ≤ 2147483648) (hp : j.place ≤ 65536) : Calls Try.prog 59 #[.pointer (some ⟨y, 0, none⟩), .int .i64 (k : Int)] w fun e w' => e = .returned (.tuple #[]) ∧ JnAt w' y p (jStep j k) ∧ Upd (fun b => b = y) w w' := by
  obtain ⟨c0, c1, c2, c3, c4, c5, c6, c7, c8, hf⟩ := jn_cells h
  have f5 := hf 5
  have f6 := hf 6
  have f4 := hf 4
  have s1 : (j.count : Int) + 1 = ((j.count + 1 : Nat) : Int) := by omega
  have w1 : IntKind.i64.wrap ((j.count + 1 : Nat) : Int) = ((j.count + 1 : Nat) : Int) := IntWalk.i64_in _ (by omega)
  have s2 : (j.used : Int) + (k : Int) = ((j.used + k : Nat) : Int) := by omega
  have w2 : IntKind.i64.wrap ((j.used + k : Nat) : Int) = ((j.used + k : Nat) : Int) := IntWalk.i64_in _ (by omega)
  have s3 : (j.place : Int) + (k : Int) = ((j.place + k : Nat) : Int) := by omega
  have w3 : IntKind.i64.wrap ((j.place + k : Nat) : Int) = ((j.place + k : Nat) : Int) := IntWalk.i64_in _ (by omega)
  have s4 : ((j.place + k : Nat) : Int).tmod (j.n : Int) = (((j.place + k) % j.n : Nat) : Int) := by rw [Int.tmod_eq_emod_of_nonneg (by omega)]; omega
  have w4 : IntKind.i64.wrap (((j.place + k) % j.n : Nat) : Int) = (((j.place + k) % j.n : Nat) : Int) := IntWalk.i64_in _ (by have := Nat.mod_le (j.place + k) j.n; omega)
  have n0 : ¬ ((j.n : Int) = 0) := by omega
  have h1 := jn_set h 5 (.int .i64 ((j.count + 1 : Nat) : Int)) { j with count := j.count + 1 } rfl
  have h2 := jn_set h1 6 (.int .i64 ((j.used + k : Nat) : Int)) { j with count := j.count + 1, used := j.used + k } rfl
  have h3 := jn_set h2 4 (.int .i64 (((j.place + k) % j.n : Nat) : Int)) (jStep j k) rfl
  obtain ⟨a0, a1, a2, a3, a4, a5, a6, a7, a8, ha⟩ := jn_cells h1
  obtain ⟨b0, b1, b2, b3, b4, b5, b6, b7, b8, hb⟩ := jn_cells h2
  have f62 := ha 6
  have f42 := hb 4
  generalize hC : j.count + 1 = C at *
  generalize hU : j.used + k = U at *
  generalize hP : (j.place + k) % j.n = P at *
  generalize hQ : j.place + k = Q at *
  go_enter Try.func59, Try.ntmps59
  go_wp2
  go_region
  refine bodyPost_end (results_none rfl _ _ _) rfl ?_
  exact ⟨rfl, h3, ((((Upd.refl (fun b => b = y) w).setCell (p := ⟨y, 5, none⟩) (.inl rfl) _).setCell (p := ⟨y, 6, none⟩) (.inl rfl) _).setCell (p := ⟨y, 4, none⟩) (.inl rfl) _).drew⟩
/-- Reset of a journal that lives. -/
def jReset (j : Jn) : Jn := { j with epoch := j.epoch + 1, count := 0, used := 0, dirty := false }
set_option maxRecDepth 100000 in
set_option maxHeartbeats 2000000 in
theorem jreset_dead (h : JnAt w y p j) (hd : j.dead = true) : Calls Try.prog 41 #[.pointer (some ⟨y, 0, none⟩)] w fun e w' => e = .returned (.int .i64 10) ∧ w = w' := by
  obtain ⟨c0, c1, c2, c3, c4, c5, c6, c7, c8, hf⟩ := jn_cells h
  rw [hd] at c7
  go_enter Try.func41, Try.ntmps41
  go_wp2
  go_ret
  exact ⟨rfl, rfl⟩
set_option maxRecDepth 100000 in
set_option maxHeartbeats 2000000 in
theorem jreset_on (h : JnAt w y p j) (hd : j.dead = false) (he : j.epoch < 2147483648) : Calls Try.prog 41 #[.pointer (some ⟨y, 0, none⟩)] w fun e w' => e = .returned (.int .i64 0) ∧ JnAt w' y p (jReset j) ∧ Upd (fun b => b = y) w w' := by
  obtain ⟨c0, c1, c2, c3, c4, c5, c6, c7, c8, hf⟩ := jn_cells h
  rw [hd] at c7
  have f3 := hf 3
  have g1 : ((j.epoch : Int) = 2147483648) = False := eq_false (by omega)
  have s1 : (j.epoch : Int) + 1 = ((j.epoch + 1 : Nat) : Int) := by omega
  have w1 : IntKind.i64.wrap ((j.epoch + 1 : Nat) : Int) = ((j.epoch + 1 : Nat) : Int) := IntWalk.i64_in _ (by omega)
  have h1 := jn_set h 3 (.int .i64 ((j.epoch + 1 : Nat) : Int)) { j with epoch := j.epoch + 1 } rfl
  have h2 := jn_set h1 5 (.int .i64 0) { j with epoch := j.epoch + 1, count := 0 } rfl
  have h3 := jn_set h2 6 (.int .i64 0) { j with epoch := j.epoch + 1, count := 0, used := 0 } rfl
  have h4 := jn_set h3 8 (.bool false) (jReset j) rfl
  have f5 := (jn_cells h1).2.2.2.2.2.2.2.2.2 5
  have f6 := (jn_cells h2).2.2.2.2.2.2.2.2.2 6
  have f8 := (jn_cells h3).2.2.2.2.2.2.2.2.2 8
  generalize hE : j.epoch + 1 = E at *
  go_enter Try.func41, Try.ntmps41
  go_wp2
  go_ret
  exact ⟨rfl, h4, ((((Upd.refl (fun b => b = y) w).setCell (p := ⟨y, 3, none⟩) (.inl rfl) _).setCell (p := ⟨y, 5, none⟩) (.inl rfl) _).setCell (p := ⟨y, 6, none⟩) (.inl rfl) _).setCell (p := ⟨y, 8, none⟩) (.inl rfl) _⟩
/-- A journal that is begun. -/
def jNew (fr n epoch start : Nat) : Jn := ⟨fr, n, epoch, start, 0, 0, false, false⟩
set_option maxRecDepth 100000 in
set_option maxHeartbeats 2000000 in
theorem jnew_good {K : Nat → Prop} {s : Dk} (h : Disk K w p s) (fr n epoch start : Nat) (h1 : 4 ≤ n) (h2 : n ≤ 4096) (hf : fr + n ≤ s.safe.length) (he : 1 ≤ epoch) (he2 : epoch ≤ 2147483648) (hs : start < n) :
    Calls Try.prog 35 #[.pointer (some ⟨p, 0, none⟩), .int .i64 (fr : Int), .int .i64 (n : Int), .int .i64 (epoch : Int), .int .i64 (start : Int)] w fun e w' => e = .returned (.tuple #[.pointer (some ⟨w.heap.size, 0, none⟩), .int .i64 0]) ∧ JnAt w' w.heap.size p (jNew fr n epoch start) ∧ Ext w w' := by
  have hbig : s.safe.length ≤ 65536 := h.choose_spec.choose_spec.choose_spec.1.big
  have h27 : Calls Try.prog 27 #[.pointer (some ⟨p, 0, none⟩)] w fun e w' => e = .returned (.int .i64 (s.safe.length : Int)) ∧ w = w' := dk27_any h
  obtain ⟨N, hN⟩ : ∃ N, N = s.safe.length := ⟨_, rfl⟩
  rw [← hN] at h27 hf hbig
  obtain ⟨E, hE⟩ : ∃ E, E = N - n := ⟨_, rfl⟩
  have g1 : ((n : Int) < 4) = False := eq_false (by omega)
  have g2 : ((4096 : Int) < (n : Int)) = False := eq_false (by omega)
  have g3 : ((fr : Int) < 0) = False := eq_false (by omega)
  have g4 : ((N : Int) < (n : Int)) = False := eq_false (by omega)
  have m2 : (N : Int) - (n : Int) = (E : Int) := by omega
  have w2 : IntKind.i64.wrap (E : Int) = (E : Int) := IntWalk.i64_in _ (by omega)
  have g5 : ((E : Int) < (fr : Int)) = False := eq_false (by omega)
  have g6 : ((epoch : Int) < 1) = False := eq_false (by omega)
  have g7 : ((2147483648 : Int) < (epoch : Int)) = False := eq_false (by omega)
  have g8 : ((start : Int) < 0) = False := eq_false (by omega)
  have g9 : ((n : Int) ≤ (start : Int)) = False := eq_false (by omega)
  clear hN hE
  go_enter Try.func35, Try.ntmps35
  go_wp2_with (go_at_call 27; refine h27.mono ?_; rintro e w1 ⟨rfl, rfl⟩)
  go_ret2
  exact ⟨rfl, heap_alloc_new _ _, (Ext.refl _).alloc _⟩
end
end Go.Proofs.Ytgpnmmgoachajaa
/- The ring's write. -/
namespace Go.Proofs.Ytgpnmmgoachajaa
open Go.RowKit Go.Shelf
open Go.Proofs

/-- What a call upon the disk answers. -/
def dkE (s : Dk) : Nat := if s.calls = 0 then 10 else 0
theorem dk16_any {K : Nat → Prop} {w : World} {p : Nat} {s : Dk} (h : Disk K w p s) (A : Option Addr) (l : List UInt8) (m c at_ : Nat) (hl : l.length = m) (hm : m % 128 = 0) (hat : at_ + m / 128 ≤ s.safe.length) (hc : m ≤ c)
    (hx : Octs w A l) (hA : ∀ a, A = some a → K a.block) (hwr : 0 ≤ s.writes ∧ s.writes ≤ 4294967296) (hq : s.queue.length ≤ 2147483648) (hKb : ∀ b, K b → b < w.heap.size) :
    Calls Try.prog 16 #[.pointer (some ⟨p, 0, none⟩), .int .i64 (at_ : Int), .slice A m c] w fun x w' => x = .returned (.int .i64 ((dkE s : Nat) : Int)) ∧ Disk K w' p (if s.calls = 0 then s else dkWrite s at_ l) ∧ Upd (fun b => ¬ K b) w w' := by
  have hbig : s.safe.length ≤ 65536 := h.choose_spec.choose_spec.choose_spec.1.big
  unfold dkE
  by_cases h0 : s.calls = 0
  · rw [if_pos h0, if_pos h0]
    have hth : thereOf s.safe.length (at_ : Int) ((m / 128 : Nat) : Int) = 0 := by unfold thereOf; rw [if_pos (by omega)]
    have := dk16_off h A m c (at_ : Int) (by omega) (.inr (.inr h0))
    rw [if_neg (by rw [hth]; omega)] at this
    exact this.mono fun e w' ⟨h1, h2⟩ => ⟨h1, h.ext h2, Upd.of_ext _ h2⟩
  · rw [if_neg h0, if_neg h0]
    exact dk16_on h h0 A l m c at_ hl hm hat hc hx hA hwr hq hKb
theorem dk18_any {K : Nat → Prop} {w : World} {p : Nat} {s : Dk} (h : Disk K w p s) :
    Calls Try.prog 18 #[.pointer (some ⟨p, 0, none⟩)] w fun e w' => e = .returned (.int .i64 ((dkE s : Nat) : Int)) ∧ Disk K w' p (if s.calls = 0 then s else dkFlush s) ∧ Upd (fun b => ¬ K b) w w' := by
  unfold dkE
  by_cases h0 : s.calls = 0
  · rw [if_pos h0, if_pos h0]
    exact (dk18_off h h0).mono fun e w' ⟨h1, h2⟩ => by
      subst h2
      exact ⟨h1, h, Upd.refl _ _⟩
  · rw [if_neg h0, if_neg h0]
    exact dk18_on h h0
/-- What the ring's write does. -/
def rgWrite (s : Dk) (fr n pl : Nat) (l : List UInt8) : Dk × Nat :=
  if l.length ≤ (n - pl) * 128 then (if s.calls = 0 then s else dkWrite s (fr + pl) l, dkE s)
  else if s.calls = 0 then (s, 10)
  else (if (dkWrite s (fr + pl) (l.take ((n - pl) * 128))).calls = 0 then dkWrite s (fr + pl) (l.take ((n - pl) * 128)) else dkWrite (dkWrite s (fr + pl) (l.take ((n - pl) * 128))) fr (l.drop ((n - pl) * 128)), dkE (dkWrite s (fr + pl) (l.take ((n - pl) * 128))))
abbrev rgV (p fr n : Nat) : Value := .agg #[.pointer (some ⟨p, 0, none⟩), .int .i64 (fr : Int), .int .i64 (n : Int)]

set_option maxRecDepth 100000 in
set_option maxHeartbeats 4000000 in
theorem rg_any {K : Nat → Prop} {w : World} {p : Nat} {s : Dk} (h : Disk K w p s) (fr n pl : Nat) (A : Option Addr) (l : List UInt8) (m c : Nat) (hl : l.length = m) (hm : m % 128 = 0) (hmn : m ≤ n * 128) (hpl : pl < n) (hfr : fr + n ≤ s.safe.length) (hc : m ≤ c) (hx : Octs w A l)
    (hA : ∀ a, A = some a → K a.block) (hwr : 0 ≤ s.writes ∧ s.writes ≤ 4294800000) (hq : s.queue.length ≤ 2147400000) (hKb : ∀ b, K b → b < w.heap.size) :
    Calls Try.prog 69 #[rgV p fr n, .int .i64 (pl : Int), .slice A m c] w fun e w' => e = .returned (.int .i64 (((rgWrite s fr n pl l).2 : Nat) : Int)) ∧ Disk K w' p (rgWrite s fr n pl l).1 ∧ Upd (fun b => ¬ K b) w w' := by
  have hbig : s.safe.length ≤ 65536 := h.choose_spec.choose_spec.choose_spec.1.big
  have hcb : ∀ s : Dk, (∃ K w p, Disk K w p s) → s.safe.length ≤ 65536 := fun s ⟨K, w, p, h⟩ => h.choose_spec.choose_spec.choose_spec.1.big
  obtain ⟨D, hD⟩ : ∃ D, D = n - pl := ⟨_, rfl⟩
  have d1 : (n : Int) - (pl : Int) = (D : Int) := by omega
  obtain ⟨M, hM⟩ : ∃ M, M = D * 128 := ⟨_, rfl⟩
  have d2 : (D : Int) * 128 = (M : Int) := by omega
  have w1 : IntKind.i64.wrap (D : Int) = (D : Int) := IntWalk.i64_in _ (by omega)
  have w2 : IntKind.i64.wrap (M : Int) = (M : Int) := IntWalk.i64_in _ (by omega)
  obtain ⟨T, hT⟩ : ∃ T, T = fr + pl := ⟨_, rfl⟩
  have d3 : (fr : Int) + (pl : Int) = (T : Int) := by omega
  have w3 : IntKind.i64.wrap (T : Int) = (T : Int) := IntWalk.i64_in _ (by omega)
  -- the box of the ring
  obtain ⟨W, hW⟩ : ∃ W, W = w.alloc (.cells #[.pointer (some ⟨p, 0, none⟩), .int .i64 (fr : Int), .int .i64 (n : Int)] 102) := ⟨_, rfl⟩
  have hbx : W.heap[w.heap.size]? = some (.cells #[.pointer (some ⟨p, 0, none⟩), .int .i64 (fr : Int), .int .i64 (n : Int)] 102 (0, 0)) := by rw [hW]; exact heap_alloc_new w _
  have x0 : Ext w W := by rw [hW]; exact (Ext.refl w).alloc _
  obtain ⟨K', hK'⟩ : ∃ K' : Nat → Prop, K' = fun b => K b ∨ (w.heap.size ≤ b ∧ b < W.heap.size) := ⟨_, rfl⟩
  have hd : Disk K' W p s := by rw [hK']; exact h.grow x0
  have kb : K' w.heap.size := by rw [hK']; exact .inr ⟨Nat.le_refl _, (Array.getElem?_eq_some_iff.1 hbx).1⟩
  have hKK : ∀ b, K b → K' b := fun b e => by rw [hK']; exact .inl e
  have hK'b : ∀ b, K' b → b < W.heap.size := fun b e => by
    rw [hK'] at e
    rcases e with e | e
    · exact Nat.lt_of_lt_of_le (hKb b e) x0.size
    · exact e.2
  have c0 : W.cell? ⟨w.heap.size, 0, none⟩ = some (.pointer (some ⟨p, 0, none⟩)) := (cell_of_row W _ 0 _ _ _ hbx).trans rfl
  have c1 : W.cell? ⟨w.heap.size, 1, none⟩ = some (.int .i64 (fr : Int)) := (cell_of_row W _ 1 _ _ _ hbx).trans rfl
  have c2 : W.cell? ⟨w.heap.size, 2, none⟩ = some (.int .i64 (n : Int)) := (cell_of_row W _ 2 _ _ _ hbx).trans rfl
  have hX := hx.ext x0
  clear hK' hbx
  have fin : ∀ W' t, Upd (fun b => ¬ K' b) W W' → Disk K' W' p t → Disk K W' p t ∧ Upd (fun b => ¬ K b) w W' := fun W' t u d => ⟨d.less hKK, (Upd.of_ext _ x0).trans (u.mono (fun b _ e x => e (hKK b x)))⟩
  have ofE : ∀ E, E = dkE s → (E = 0 ∧ s.calls ≠ 0) ∨ (E = 10 ∧ s.calls = 0) := fun E hE => by
    unfold dkE at hE
    by_cases h0 : s.calls = 0
    · rw [if_pos h0] at hE; exact .inr ⟨hE, h0⟩
    · rw [if_neg h0] at hE; exact .inl ⟨hE, h0⟩
  unfold rgWrite
  rw [hl, ← hD, ← hM, ← hT]
  by_cases hle : m ≤ M
  · rw [if_pos hle]
    obtain ⟨A1, k1, _, o1, b1⟩ := cut_hi A l c m (by omega) (by omega)
    rw [hl] at k1
    have o1 := o1 W hX
    rw [List.take_of_length_le (by omega)] at o1
    have kA1 : ∀ a, A1 = some a → K' a.block := fun a e => by
      obtain ⟨b, e1, e2⟩ := b1 a e
      rw [← e2]
      exact hKK _ (hA b e1)
    have wr : ∀ W', Disk K' W' p s → Upd (fun b => ¬ K' b) W W' → Calls Try.prog 16 #[.pointer (some ⟨p, 0, none⟩), .int .i64 (T : Int), .slice A1 m c] W' fun x w' => x = .returned (.int .i64 ((dkE s : Nat) : Int)) ∧ Disk K' w' p (if s.calls = 0 then s else dkWrite s T l) ∧ Upd (fun b => ¬ K' b) W' w' := fun W' d u =>
      dk16_any d A1 l m c T hl hm (by omega) hc (fun hpos => by
        obtain ⟨b, o, e, hc⟩ := o1 hpos
        exact ⟨b, o, e, fun j v hv => u.cell (hc j v hv) (fun x => x (kA1 ⟨b, o, none⟩ e))⟩) kA1 ⟨hwr.1, by omega⟩ (by omega) (fun b e => Nat.lt_of_lt_of_le (hK'b b e) u.size)
    obtain ⟨E, hE⟩ : ∃ E, E = dkE s := ⟨_, rfl⟩
    have mn : min (m : Int) (M : Int) = (m : Int) := Int.min_eq_left (by omega)
    simp only [← hE] at wr ⊢
    rcases ofE E hE with ⟨rfl, z⟩ | ⟨rfl, z⟩
    case' inl => simp only [if_neg z] at wr ⊢
    case' inr => simp only [if_pos z] at wr ⊢
    all_goals clear hD hM hT hE
    all_goals
      go_enter Try.func69, Try.ntmps69
      go_wp2_with fail
      rw [← hW]
      clear hW
      refine wp_region_held_drew (S := fun w' => Upd (fun b => ¬ K' b) W w') (by kernel_rfl) ((Upd.refl _ _).drew) (fun hS => ?_)
      refine takeH (i := 0) (v := ?_) rfl rfl (by kernel_rfl) (by kernel_rfl) (by kernel_rfl) (fun _ _ _ h => h) (Or.inl ⟨by kernel_rfl, ?_⟩) hS ?_
      rotate_left 1
      · (intro w' hS'; go_simp; try (with_reducible rfl))
      simp only [List.setIfInBounds_toArray, List.set_cons_succ, List.set_cons_zero]
      refine takeH (i := 1) (v := ?_) rfl rfl (by kernel_rfl) (by kernel_rfl) (by kernel_rfl) (fun _ _ _ h => h) (Or.inl ⟨by kernel_rfl, ?_⟩) hS ?_
      rotate_left 1
      · (intro w' hS'; have c0 := hS'.cell c0 (fun x => x kb); go_simp; try (with_reducible rfl))
      simp only [List.setIfInBounds_toArray, List.set_cons_succ, List.set_cons_zero]
      refine takeH (i := 2) (v := ?_) rfl rfl (by kernel_rfl) (by kernel_rfl) (by kernel_rfl) (fun _ _ _ h => h) (Or.inl ⟨by kernel_rfl, ?_⟩) hS ?_
      rotate_left 1
      · (intro w' hS'; go_simp; try (with_reducible rfl))
      simp only [List.setIfInBounds_toArray, List.set_cons_succ, List.set_cons_zero]
      refine takeH (i := 3) (v := ?_) rfl rfl (by kernel_rfl) (by kernel_rfl) (by kernel_rfl) (fun _ _ _ h => h) (Or.inl ⟨by kernel_rfl, ?_⟩) hS ?_
      rotate_left 1
      · (intro w' hS'; have c1 := hS'.cell c1 (fun x => x kb); go_simp; try (with_reducible rfl))
      simp only [List.setIfInBounds_toArray, List.set_cons_succ, List.set_cons_zero]
      refine takeH (i := 4) (v := ?_) rfl rfl (by kernel_rfl) (by kernel_rfl) (by kernel_rfl) (fun _ _ _ h => h) (Or.inl ⟨by kernel_rfl, ?_⟩) hS ?_
      rotate_left 1
      · (intro w' hS'; go_simp; try (with_reducible rfl))
      simp only [List.setIfInBounds_toArray, List.set_cons_succ, List.set_cons_zero]
      refine takeH (i := 5) (v := ?_) rfl rfl (by kernel_rfl) (by kernel_rfl) (by kernel_rfl) (fun _ _ _ h => h) (Or.inl ⟨by kernel_rfl, ?_⟩) hS ?_
      rotate_left 1
      · (intro w' hS'; go_simp; try (with_reducible rfl))
      simp only [List.setIfInBounds_toArray, List.set_cons_succ, List.set_cons_zero]
      refine takeH (i := 6) (v := ?_) rfl rfl (by kernel_rfl) (by kernel_rfl) (by kernel_rfl) (fun _ _ _ h => h) (Or.inl ⟨by kernel_rfl, ?_⟩) hS ?_
      rotate_left 1
      · (intro w' hS'; go_simp; try (with_reducible rfl))
      simp only [List.setIfInBounds_toArray, List.set_cons_succ, List.set_cons_zero]
      refine takeH (i := 7) (v := ?_) rfl rfl (by kernel_rfl) (by kernel_rfl) (by kernel_rfl) (fun _ _ _ h => h) (Or.inl ⟨by kernel_rfl, ?_⟩) hS ?_
      rotate_left 1
      · (intro w' hS'; go_simp; try (with_reducible rfl))
      simp only [List.setIfInBounds_toArray, List.set_cons_succ, List.set_cons_zero]
      refine takeH (i := 8) (v := ?_) rfl rfl (by kernel_rfl) (by kernel_rfl) (by kernel_rfl) (fun _ _ _ h => h) (Or.inl ⟨by kernel_rfl, ?_⟩) hS ?_
      rotate_left 1
      · (intro w' hS'; have k1 := k1 w'; go_simp; try (with_reducible rfl))
      simp only [List.setIfInBounds_toArray, List.set_cons_succ, List.set_cons_zero]
      refine wpAnyH_ready (rs := [9]) (by kernel_rfl) (by simp) ?_
      refine AllReadyH.cons rfl (fun K hK => ?_) ?_
      rotate_left 1
      · exact AllReadyH.nil
      go_simp
      refine (wr _ hd.drew ((Upd.refl _ _).drew)).mono ?_; clear wr; rintro e w6 ⟨rfl, h6, u6⟩
      refine hK.out _ _ (hS.trans u6) (fun hS => ?_)
      clear hK K
      refine takeH (i := 10) (v := ?_) rfl rfl (by kernel_rfl) (by kernel_rfl) (by kernel_rfl) (fun _ _ _ h => h) (Or.inl ⟨by kernel_rfl, ?_⟩) hS ?_
      rotate_left 1
      · (intro w' hS'; go_simp; try (with_reducible rfl))
      simp only [List.setIfInBounds_toArray, List.set_cons_succ, List.set_cons_zero]
      refine wpAnyH_done (by kernel_rfl) ?_ _
      go_wp2_with fail
      go_ret
      exact ⟨rfl, fin _ _ hS h6⟩
  · rw [if_neg hle]
    obtain ⟨A1, k1, _, o1, b1⟩ := cut_hi A l c M (by omega) (by omega)
    obtain ⟨A2, k2, _, o2, b2⟩ := cut_lo A l c M (by omega) (by omega)
    obtain ⟨R, hR⟩ : ∃ R, R = m - M := ⟨_, rfl⟩
    rw [hl] at k1 k2
    rw [← hR] at k2
    have o1 := o1 W hX
    have o2 := o2 W hX
    have kA1 : ∀ a, A1 = some a → K' a.block := fun a e => by
      obtain ⟨b, e1, e2⟩ := b1 a e
      rw [← e2]
      exact hKK _ (hA b e1)
    have kA2 : ∀ a, A2 = some a → K' a.block := fun a e => by
      obtain ⟨b, e1, e2⟩ := b2 a e
      rw [← e2]
      exact hKK _ (hA b e1)
    have l1 : (l.take M).length = M := by rw [List.length_take]; omega
    have l2 : (l.drop M).length = R := by rw [List.length_drop]; omega
    have wr : ∀ W', Disk K' W' p s → Upd (fun b => ¬ K' b) W W' → Calls Try.prog 16 #[.pointer (some ⟨p, 0, none⟩), .int .i64 (T : Int), .slice A1 M c] W' fun x w' => x = .returned (.int .i64 ((dkE s : Nat) : Int)) ∧ Disk K' w' p (if s.calls = 0 then s else dkWrite s T (l.take M)) ∧ Upd (fun b => ¬ K' b) W' w' := fun W' d u =>
      dk16_any d A1 (l.take M) M c T l1 (by omega) (by omega) (by omega) (fun hpos => by
        obtain ⟨b, o, e, hc⟩ := o1 hpos
        exact ⟨b, o, e, fun j v hv => u.cell (hc j v hv) (fun x => x (kA1 ⟨b, o, none⟩ e))⟩) kA1 ⟨hwr.1, by omega⟩ (by omega) (fun b e => Nat.lt_of_lt_of_le (hK'b b e) u.size)
    obtain ⟨s1, hs1⟩ : ∃ s1, s1 = dkWrite s T (l.take M) := ⟨_, rfl⟩
    have q1 : s1.safe.length = s.safe.length := by rw [hs1]; rfl
    have q2 : s1.writes = s.writes + ((M / 128 : Nat) : Int) := by rw [hs1]; show s.writes + (((l.take M).length / 128 : Nat) : Int) = _; rw [l1]
    have q3 : s1.queue.length = s.queue.length + M / 128 := by rw [hs1]; show (s.queue ++ cutSec T (l.take M) ((l.take M).length / 128)).length = _; rw [List.length_append, length_cutSec, l1]
    simp only [← hs1] at wr ⊢
    have wr2 : ∀ W', Disk K' W' p s1 → Upd (fun b => ¬ K' b) W W' → Calls Try.prog 16 #[.pointer (some ⟨p, 0, none⟩), .int .i64 (fr : Int), .slice A2 R (c - M)] W' fun x w' => x = .returned (.int .i64 ((dkE s1 : Nat) : Int)) ∧ Disk K' w' p (if s1.calls = 0 then s1 else dkWrite s1 fr (l.drop M)) ∧ Upd (fun b => ¬ K' b) W' w' := fun W' d u =>
      dk16_any d A2 (l.drop M) R (c - M) fr l2 (by omega) (by omega) (by omega) (fun hpos => by
        obtain ⟨b, o, e, hc⟩ := o2 hpos
        exact ⟨b, o, e, fun j v hv => u.cell (hc j v hv) (fun x => x (kA2 ⟨b, o, none⟩ e))⟩) kA2 (by omega) (by omega) (fun b e => Nat.lt_of_lt_of_le (hK'b b e) u.size)
    obtain ⟨E2, hE2⟩ : ∃ E2, E2 = dkE s1 := ⟨_, rfl⟩
    simp only [← hE2] at wr2 ⊢
    obtain ⟨s2, hs2⟩ : ∃ s2, s2 = (if s1.calls = 0 then s1 else dkWrite s1 fr (l.drop M)) := ⟨_, rfl⟩
    simp only [← hs2] at wr2 ⊢
    obtain ⟨E, hE⟩ : ∃ E, E = dkE s := ⟨_, rfl⟩
    have mn : min (m : Int) (M : Int) = (M : Int) := Int.min_eq_right (by omega)
    have ne : ((M : Int) = (m : Int)) = False := eq_false (by omega)
    simp only [← hE] at wr
    rcases ofE E hE with ⟨rfl, z⟩ | ⟨rfl, z⟩
    · simp only [if_neg z] at wr ⊢
      clear hD hM hT hE hE2 hs2 hs1 q1 q2 q3 hR
      go_enter Try.func69, Try.ntmps69
      go_wp2_with fail
      rw [← hW]
      clear hW
      refine wp_region_held_drew (S := fun w' => Upd (fun b => ¬ K' b) W w') (by kernel_rfl) ((Upd.refl _ _).drew) (fun hS => ?_)
      refine takeH (i := 0) (v := ?_) rfl rfl (by kernel_rfl) (by kernel_rfl) (by kernel_rfl) (fun _ _ _ h => h) (Or.inl ⟨by kernel_rfl, ?_⟩) hS ?_
      rotate_left 1
      · (intro w' hS'; go_simp; try (with_reducible rfl))
      simp only [List.setIfInBounds_toArray, List.set_cons_succ, List.set_cons_zero]
      refine takeH (i := 1) (v := ?_) rfl rfl (by kernel_rfl) (by kernel_rfl) (by kernel_rfl) (fun _ _ _ h => h) (Or.inl ⟨by kernel_rfl, ?_⟩) hS ?_
      rotate_left 1
      · (intro w' hS'; have c0 := hS'.cell c0 (fun x => x kb); go_simp; try (with_reducible rfl))
      simp only [List.setIfInBounds_toArray, List.set_cons_succ, List.set_cons_zero]
      refine takeH (i := 2) (v := ?_) rfl rfl (by kernel_rfl) (by kernel_rfl) (by kernel_rfl) (fun _ _ _ h => h) (Or.inl ⟨by kernel_rfl, ?_⟩) hS ?_
      rotate_left 1
      · (intro w' hS'; go_simp; try (with_reducible rfl))
      simp only [List.setIfInBounds_toArray, List.set_cons_succ, List.set_cons_zero]
      refine takeH (i := 3) (v := ?_) rfl rfl (by kernel_rfl) (by kernel_rfl) (by kernel_rfl) (fun _ _ _ h => h) (Or.inl ⟨by kernel_rfl, ?_⟩) hS ?_
      rotate_left 1
      · (intro w' hS'; have c1 := hS'.cell c1 (fun x => x kb); go_simp; try (with_reducible rfl))
      simp only [List.setIfInBounds_toArray, List.set_cons_succ, List.set_cons_zero]
      refine takeH (i := 4) (v := ?_) rfl rfl (by kernel_rfl) (by kernel_rfl) (by kernel_rfl) (fun _ _ _ h => h) (Or.inl ⟨by kernel_rfl, ?_⟩) hS ?_
      rotate_left 1
      · (intro w' hS'; go_simp; try (with_reducible rfl))
      simp only [List.setIfInBounds_toArray, List.set_cons_succ, List.set_cons_zero]
      refine takeH (i := 5) (v := ?_) rfl rfl (by kernel_rfl) (by kernel_rfl) (by kernel_rfl) (fun _ _ _ h => h) (Or.inl ⟨by kernel_rfl, ?_⟩) hS ?_
      rotate_left 1
      · (intro w' hS'; go_simp; try (with_reducible rfl))
      simp only [List.setIfInBounds_toArray, List.set_cons_succ, List.set_cons_zero]
      refine takeH (i := 6) (v := ?_) rfl rfl (by kernel_rfl) (by kernel_rfl) (by kernel_rfl) (fun _ _ _ h => h) (Or.inl ⟨by kernel_rfl, ?_⟩) hS ?_
      rotate_left 1
      · (intro w' hS'; go_simp; try (with_reducible rfl))
      simp only [List.setIfInBounds_toArray, List.set_cons_succ, List.set_cons_zero]
      refine takeH (i := 7) (v := ?_) rfl rfl (by kernel_rfl) (by kernel_rfl) (by kernel_rfl) (fun _ _ _ h => h) (Or.inl ⟨by kernel_rfl, ?_⟩) hS ?_
      rotate_left 1
      · (intro w' hS'; go_simp; try (with_reducible rfl))
      simp only [List.setIfInBounds_toArray, List.set_cons_succ, List.set_cons_zero]
      refine takeH (i := 8) (v := ?_) rfl rfl (by kernel_rfl) (by kernel_rfl) (by kernel_rfl) (fun _ _ _ h => h) (Or.inl ⟨by kernel_rfl, ?_⟩) hS ?_
      rotate_left 1
      · (intro w' hS'; have k1 := k1 w'; go_simp; try (with_reducible rfl))
      simp only [List.setIfInBounds_toArray, List.set_cons_succ, List.set_cons_zero]
      refine wpAnyH_ready (rs := [9]) (by kernel_rfl) (by simp) ?_
      refine AllReadyH.cons rfl (fun K hK => ?_) ?_
      rotate_left 1
      · exact AllReadyH.nil
      go_simp
      refine (wr _ hd.drew ((Upd.refl _ _).drew)).mono ?_; clear wr; rintro e w6 ⟨rfl, h6, u6⟩
      refine hK.out _ _ (hS.trans u6) (fun hS => ?_)
      clear hK K
      refine takeH (i := 10) (v := ?_) rfl rfl (by kernel_rfl) (by kernel_rfl) (by kernel_rfl) (fun _ _ _ h => h) (Or.inl ⟨by kernel_rfl, ?_⟩) hS ?_
      rotate_left 1
      · (intro w' hS'; go_simp; try (with_reducible rfl))
      simp only [List.setIfInBounds_toArray, List.set_cons_succ, List.set_cons_zero]
      refine wpAnyH_done (by kernel_rfl) ?_ _
      have u06 := hS
      have wr2 := wr2 _ h6.drew hS.drew
      have c0 := hS.cell c0 (fun x => x kb)
      have c1 := hS.cell c1 (fun x => x kb)
      go_wp2_with fail
      refine wp_region_held_drew (S := fun w' => Upd (fun b => ¬ K' b) w6 w') (by kernel_rfl) ((Upd.refl _ _).drew) (fun hS => ?_)
      refine takeH (i := 0) (v := ?_) rfl rfl (by kernel_rfl) (by kernel_rfl) (by kernel_rfl) (fun _ _ _ h => h) (Or.inl ⟨by kernel_rfl, ?_⟩) hS ?_
      rotate_left 1
      · (intro w' hS'; go_simp; try (with_reducible rfl))
      simp only [List.setIfInBounds_toArray, List.set_cons_succ, List.set_cons_zero]
      refine takeH (i := 1) (v := ?_) rfl rfl (by kernel_rfl) (by kernel_rfl) (by kernel_rfl) (fun _ _ _ h => h) (Or.inl ⟨by kernel_rfl, ?_⟩) hS ?_
      rotate_left 1
      · (intro w' hS'; have c0 := hS'.cell c0 (fun x => x kb); go_simp; try (with_reducible rfl))
      simp only [List.setIfInBounds_toArray, List.set_cons_succ, List.set_cons_zero]
      refine takeH (i := 2) (v := ?_) rfl rfl (by kernel_rfl) (by kernel_rfl) (by kernel_rfl) (fun _ _ _ h => h) (Or.inl ⟨by kernel_rfl, ?_⟩) hS ?_
      rotate_left 1
      · (intro w' hS'; go_simp; try (with_reducible rfl))
      simp only [List.setIfInBounds_toArray, List.set_cons_succ, List.set_cons_zero]
      refine takeH (i := 3) (v := ?_) rfl rfl (by kernel_rfl) (by kernel_rfl) (by kernel_rfl) (fun _ _ _ h => h) (Or.inl ⟨by kernel_rfl, ?_⟩) hS ?_
      rotate_left 1
      · (intro w' hS'; have c1 := hS'.cell c1 (fun x => x kb); go_simp; try (with_reducible rfl))
      simp only [List.setIfInBounds_toArray, List.set_cons_succ, List.set_cons_zero]
      refine takeH (i := 4) (v := ?_) rfl rfl (by kernel_rfl) (by kernel_rfl) (by kernel_rfl) (fun _ _ _ h => h) (Or.inl ⟨by kernel_rfl, ?_⟩) hS ?_
      rotate_left 1
      · (intro w' hS'; go_simp; try (with_reducible rfl))
      simp only [List.setIfInBounds_toArray, List.set_cons_succ, List.set_cons_zero]
      refine takeH (i := 5) (v := ?_) rfl rfl (by kernel_rfl) (by kernel_rfl) (by kernel_rfl) (fun _ _ _ h => h) (Or.inl ⟨by kernel_rfl, ?_⟩) hS ?_
      rotate_left 1
      · (intro w' hS'; go_simp; try (with_reducible rfl))
      simp only [List.setIfInBounds_toArray, List.set_cons_succ, List.set_cons_zero]
      refine takeH (i := 6) (v := ?_) rfl rfl (by kernel_rfl) (by kernel_rfl) (by kernel_rfl) (fun _ _ _ h => h) (Or.inl ⟨by kernel_rfl, ?_⟩) hS ?_
      rotate_left 1
      · (intro w' hS'; have k2 := k2 w'; go_simp; try (with_reducible rfl))
      simp only [List.setIfInBounds_toArray, List.set_cons_succ, List.set_cons_zero]
      refine wpAnyH_ready (rs := [7]) (by kernel_rfl) (by simp) ?_
      refine AllReadyH.cons rfl (fun K hK => ?_) ?_
      rotate_left 1
      · exact AllReadyH.nil
      go_simp
      refine wr2.mono ?_; clear wr2; rintro e w7 ⟨rfl, h7, u7⟩
      refine hK.out _ _ (hS.trans u7) (fun hS => ?_)
      clear hK K
      refine takeH (i := 8) (v := ?_) rfl rfl (by kernel_rfl) (by kernel_rfl) (by kernel_rfl) (fun _ _ _ h => h) (Or.inl ⟨by kernel_rfl, ?_⟩) hS ?_
      rotate_left 1
      · (intro w' hS'; go_simp; try (with_reducible rfl))
      simp only [List.setIfInBounds_toArray, List.set_cons_succ, List.set_cons_zero]
      refine wpAnyH_done (by kernel_rfl) ?_ _
      go_wp2_with fail
      go_ret
      exact ⟨rfl, fin _ _ (u06.trans hS) h7⟩
    · simp only [if_pos z] at wr ⊢
      clear hD hM hT hE hE2 hs2 hs1 q1 q2 q3 hR
      go_enter Try.func69, Try.ntmps69
      go_wp2_with fail
      rw [← hW]
      clear hW
      refine wp_region_held_drew (S := fun w' => Upd (fun b => ¬ K' b) W w') (by kernel_rfl) ((Upd.refl _ _).drew) (fun hS => ?_)
      refine takeH (i := 0) (v := ?_) rfl rfl (by kernel_rfl) (by kernel_rfl) (by kernel_rfl) (fun _ _ _ h => h) (Or.inl ⟨by kernel_rfl, ?_⟩) hS ?_
      rotate_left 1
      · (intro w' hS'; go_simp; try (with_reducible rfl))
      simp only [List.setIfInBounds_toArray, List.set_cons_succ, List.set_cons_zero]
      refine takeH (i := 1) (v := ?_) rfl rfl (by kernel_rfl) (by kernel_rfl) (by kernel_rfl) (fun _ _ _ h => h) (Or.inl ⟨by kernel_rfl, ?_⟩) hS ?_
      rotate_left 1
      · (intro w' hS'; have c0 := hS'.cell c0 (fun x => x kb); go_simp; try (with_reducible rfl))
      simp only [List.setIfInBounds_toArray, List.set_cons_succ, List.set_cons_zero]
      refine takeH (i := 2) (v := ?_) rfl rfl (by kernel_rfl) (by kernel_rfl) (by kernel_rfl) (fun _ _ _ h => h) (Or.inl ⟨by kernel_rfl, ?_⟩) hS ?_
      rotate_left 1
      · (intro w' hS'; go_simp; try (with_reducible rfl))
      simp only [List.setIfInBounds_toArray, List.set_cons_succ, List.set_cons_zero]
      refine takeH (i := 3) (v := ?_) rfl rfl (by kernel_rfl) (by kernel_rfl) (by kernel_rfl) (fun _ _ _ h => h) (Or.inl ⟨by kernel_rfl, ?_⟩) hS ?_
      rotate_left 1
      · (intro w' hS'; have c1 := hS'.cell c1 (fun x => x kb); go_simp; try (with_reducible rfl))
      simp only [List.setIfInBounds_toArray, List.set_cons_succ, List.set_cons_zero]
      refine takeH (i := 4) (v := ?_) rfl rfl (by kernel_rfl) (by kernel_rfl) (by kernel_rfl) (fun _ _ _ h => h) (Or.inl ⟨by kernel_rfl, ?_⟩) hS ?_
      rotate_left 1
      · (intro w' hS'; go_simp; try (with_reducible rfl))
      simp only [List.setIfInBounds_toArray, List.set_cons_succ, List.set_cons_zero]
      refine takeH (i := 5) (v := ?_) rfl rfl (by kernel_rfl) (by kernel_rfl) (by kernel_rfl) (fun _ _ _ h => h) (Or.inl ⟨by kernel_rfl, ?_⟩) hS ?_
      rotate_left 1
      · (intro w' hS'; go_simp; try (with_reducible rfl))
      simp only [List.setIfInBounds_toArray, List.set_cons_succ, List.set_cons_zero]
      refine takeH (i := 6) (v := ?_) rfl rfl (by kernel_rfl) (by kernel_rfl) (by kernel_rfl) (fun _ _ _ h => h) (Or.inl ⟨by kernel_rfl, ?_⟩) hS ?_
      rotate_left 1
      · (intro w' hS'; go_simp; try (with_reducible rfl))
      simp only [List.setIfInBounds_toArray, List.set_cons_succ, List.set_cons_zero]
      refine takeH (i := 7) (v := ?_) rfl rfl (by kernel_rfl) (by kernel_rfl) (by kernel_rfl) (fun _ _ _ h => h) (Or.inl ⟨by kernel_rfl, ?_⟩) hS ?_
      rotate_left 1
      · (intro w' hS'; go_simp; try (with_reducible rfl))
      simp only [List.setIfInBounds_toArray, List.set_cons_succ, List.set_cons_zero]
      refine takeH (i := 8) (v := ?_) rfl rfl (by kernel_rfl) (by kernel_rfl) (by kernel_rfl) (fun _ _ _ h => h) (Or.inl ⟨by kernel_rfl, ?_⟩) hS ?_
      rotate_left 1
      · (intro w' hS'; have k1 := k1 w'; go_simp; try (with_reducible rfl))
      simp only [List.setIfInBounds_toArray, List.set_cons_succ, List.set_cons_zero]
      refine wpAnyH_ready (rs := [9]) (by kernel_rfl) (by simp) ?_
      refine AllReadyH.cons rfl (fun K hK => ?_) ?_
      rotate_left 1
      · exact AllReadyH.nil
      go_simp
      refine (wr _ hd.drew ((Upd.refl _ _).drew)).mono ?_; clear wr; rintro e w6 ⟨rfl, h6, u6⟩
      refine hK.out _ _ (hS.trans u6) (fun hS => ?_)
      clear hK K
      refine takeH (i := 10) (v := ?_) rfl rfl (by kernel_rfl) (by kernel_rfl) (by kernel_rfl) (fun _ _ _ h => h) (Or.inl ⟨by kernel_rfl, ?_⟩) hS ?_
      rotate_left 1
      · (intro w' hS'; go_simp; try (with_reducible rfl))
      simp only [List.setIfInBounds_toArray, List.set_cons_succ, List.set_cons_zero]
      refine wpAnyH_done (by kernel_rfl) ?_ _
      go_wp2_with fail
      go_ret
      exact ⟨rfl, fin _ _ hS h6⟩
end Go.Proofs.Ytgpnmmgoachajaa
