/- Layer 6: a transaction's sectors, cut and joined: the plain law, the program's walks, the document's; RecordJoins' walk. -/
import Derived.Test.YtanmjmeabcloiaaRvw
import Derived.Test.YtanmjmeabcloiaaRefCrc
import Derived.Test.YtanmjmeabcloiaaCuts
import Derived.RangeFuncNested
import Derived.RangeFuncBound
import Derived.RangeFuncCalls
import Derived.RangeFuncLeaves
import Derived.RangeFuncBox
import Derived.Shelf.Abstract
import Derived.Shelf.RegionOpen
import Derived.WalkKit
import Derived.OwnWalkIn
import Derived.TacticsInMore
import Derived.LoopNIn
import Derived.LoopIn
namespace Go.Proofs.Ytanmjmeabcloiaa
open Go.RowKit
open Go.Proofs

def idRight (e n : Int) : Prop := 1 ≤ e ∧ e ≤ 2147483648 ∧ 0 ≤ n ∧ n ≤ 2147483648
instance (e n : Int) : Decidable (idRight e n) := by unfold idRight; infer_instance
/-- The part at an index, and the foot. -/
def prtOf (e n : Int) (l : List UInt8) (i : Nat) : Prt := ⟨false, e, n, (i : Int), (l.drop (112 * i)).take 112⟩
def ftOf (e n : Int) (l : List UInt8) (k : Nat) : Prt := ⟨true, e, n, (k : Int), Mb.le4 (Mb.crcSum l)⟩
def cutPre (e n : Int) (l : List UInt8) : Nat → List UInt8
  | 0 => []
  | k + 1 => cutPre e n l k ++ prtPut (prtOf e n l k)
def nsec (l : List UInt8) : Nat := (l.length + 111) / 112
def cutOf (e n : Int) (l : List UInt8) : List UInt8 := cutPre e n l (nsec l) ++ prtPut (ftOf e n l (nsec l))
theorem prtOf_right {e n : Int} (h : idRight e n) (l : List UInt8) (i : Nat) (hi : i ≤ 65535) : prtRight (prtOf e n l i) := by
  obtain ⟨h1, h2, h3, h4⟩ := h
  refine ⟨h1, h2, h3, h4, ?_, ?_, ?_⟩
  · show (0 : Int) ≤ (i : Int); omega
  · show (i : Int) ≤ 65535; omega
  · show ((l.drop (112 * i)).take 112).length ≤ 112
    rw [List.length_take]; omega
theorem ftOf_right {e n : Int} (h : idRight e n) (l : List UInt8) (i : Nat) (hi : i ≤ 65535) : prtRight (ftOf e n l i) := by
  obtain ⟨h1, h2, h3, h4⟩ := h
  refine ⟨h1, h2, h3, h4, ?_, ?_, ?_⟩
  · show (0 : Int) ≤ (i : Int); omega
  · show (i : Int) ≤ 65535; omega
  · show (Mb.le4 (Mb.crcSum l)).length ≤ 112
    rw [Mb.length_le4]; omega
theorem length_cutPre {e n : Int} (h : idRight e n) (l : List UInt8) : ∀ k, k ≤ 65536 → (cutPre e n l k).length = 128 * k
  | 0, _ => rfl
  | k + 1, hk => by
    rw [cutPre, List.length_append, length_cutPre h l k (by omega), length_prtPut _ (prtOf_right h l k (by omega))]
    omega
theorem length_cutOf {e n : Int} (h : idRight e n) (l : List UInt8) (hk : nsec l ≤ 65535) : (cutOf e n l).length = 128 * (nsec l + 1) := by
  rw [cutOf, List.length_append, length_cutPre h l _ (by omega), length_prtPut _ (ftOf_right h l _ hk)]
  omega
theorem sec_pre {e n : Int} (h : idRight e n) (l : List UInt8) : ∀ (k i : Nat), i < k → k ≤ 65536 → ∀ R, ((cutPre e n l k ++ R).drop (128 * i)).take 128 = prtPut (prtOf e n l i)
  | 0, i, hi, _, _ => by omega
  | k + 1, i, hi, hk, R => by
    rw [cutPre, List.append_assoc]
    by_cases hik : i < k
    · exact sec_pre h l k i hik (by omega) _
    · obtain rfl : i = k := by omega
      rw [List.drop_append_of_le_length (by rw [length_cutPre h l i (by omega)]; omega), List.drop_of_length_le (by rw [length_cutPre h l i (by omega)]; omega), List.nil_append,
        List.take_append_of_le_length (by rw [length_prtPut _ (prtOf_right h l i (by omega))]; omega), List.take_of_length_le (by rw [length_prtPut _ (prtOf_right h l i (by omega))]; omega)]
theorem sec_cut {e n : Int} (h : idRight e n) (l : List UInt8) (hk : nsec l ≤ 65535) (i : Nat) (hi : i < nsec l) (R : List UInt8) : ((cutOf e n l ++ R).drop (128 * i)).take 128 = prtPut (prtOf e n l i) := by
  rw [cutOf, List.append_assoc]
  exact sec_pre h l _ i hi (by omega) _
theorem sec_foot {e n : Int} (h : idRight e n) (l : List UInt8) (hk : nsec l ≤ 65535) (R : List UInt8) : ((cutOf e n l ++ R).drop (128 * nsec l)).take 128 = prtPut (ftOf e n l (nsec l)) := by
  rw [cutOf, List.append_assoc, List.drop_append_of_le_length (by rw [length_cutPre h l _ (by omega)]; omega), List.drop_of_length_le (by rw [length_cutPre h l _ (by omega)]; omega), List.nil_append,
    List.take_append_of_le_length (by rw [length_prtPut _ (ftOf_right h l _ (by omega))]; omega), List.take_of_length_le (by rw [length_prtPut _ (ftOf_right h l _ (by omega))]; omega)]

/-- What is joined of octets. -/
def joinAt (b : List UInt8) (e n : Int) : Nat → Nat → List UInt8 → List UInt8 × Nat
  | 0, _, _ => ([], 0)
  | f + 1, i, l =>
    if 128 * (i + 1) ≤ b.length then
      match prtGet ((b.drop (128 * i)).take 128) with
      | none => ([], 0)
      | some p =>
        if p.epoch = e ∧ p.number = n ∧ p.index = (i : Int) then
          if p.foot = true then if secs (l.length : Int) ≠ 0 ∧ cutOf e n l = b.take (128 * (i + 1)) then (l, i + 1) else ([], 0)
          else joinAt b e n f (i + 1) (l ++ p.data)
        else ([], 0)
    else ([], 0)
def joinOf (b : List UInt8) (e n : Int) : List UInt8 × Nat := joinAt b e n (b.length / 128 + 1) 0 []
section
variable {b : List UInt8} {e n : Int} {f i : Nat} {l : List UInt8}
theorem joinAt_end (h : ¬ 128 * (i + 1) ≤ b.length) : joinAt b e n f i l = ([], 0) := by
  cases f with
  | zero => rfl
  | succ f => rw [joinAt, if_neg h]
theorem joinAt_none (h : prtGet ((b.drop (128 * i)).take 128) = none) : joinAt b e n f i l = ([], 0) := by
  cases f with
  | zero => rfl
  | succ f => rw [joinAt, h]; split <;> rfl
theorem joinAt_other {p : Prt} (h : prtGet ((b.drop (128 * i)).take 128) = some p) (hp : ¬ (p.epoch = e ∧ p.number = n ∧ p.index = (i : Int))) : joinAt b e n f i l = ([], 0) := by
  cases f with
  | zero => rfl
  | succ f =>
    rw [joinAt, h]
    simp only [if_neg hp]
    split <;> rfl
theorem joinAt_foot {p : Prt} (hb : 128 * (i + 1) ≤ b.length) (h : prtGet ((b.drop (128 * i)).take 128) = some p) (hp : p.epoch = e ∧ p.number = n ∧ p.index = (i : Int)) (hf : p.foot = true) :
    joinAt b e n (f + 1) i l = if secs (l.length : Int) ≠ 0 ∧ cutOf e n l = b.take (128 * (i + 1)) then (l, i + 1) else ([], 0) := by
  rw [joinAt, if_pos hb, h]
  simp only [if_pos hp, if_pos hf]
theorem joinAt_part {p : Prt} (hb : 128 * (i + 1) ≤ b.length) (h : prtGet ((b.drop (128 * i)).take 128) = some p) (hp : p.epoch = e ∧ p.number = n ∧ p.index = (i : Int)) (hf : p.foot = false) :
    joinAt b e n (f + 1) i l = joinAt b e n f (i + 1) (l ++ p.data) := by
  rw [joinAt, if_pos hb, h]
  simp only [if_pos hp, hf, Bool.false_eq_true, if_false]
end

theorem join_run {e n : Int} (h : idRight e n) (b l : List UInt8) : ∀ k, k ≤ 65536 → 128 * k ≤ b.length → (∀ i, i < k → (b.drop (128 * i)).take 128 = prtPut (prtOf e n l i)) → ∀ f, joinAt b e n (f + k) 0 [] = joinAt b e n f k (l.take (112 * k))
  | 0, _, _, _, f => by simp
  | k + 1, hk, hb, hs, f => by
    have IH := join_run h b l k (by omega) (by omega) (fun i hi => hs i (by omega)) (f + 1)
    rw [show f + (k + 1) = f + 1 + k by omega, IH]
    have hg : prtGet ((b.drop (128 * k)).take 128) = some (prtOf e n l k) := by
      rw [hs k (by omega)]
      exact get_prt _ (prtOf_right h l k (by omega))
    rw [joinAt_part (e := e) (n := n) (by omega) hg ⟨rfl, rfl, rfl⟩ rfl]
    congr 1
    show l.take (112 * k) ++ (l.drop (112 * k)).take 112 = l.take (112 * (k + 1))
    rw [show 112 * (k + 1) = 112 * k + 112 by omega, List.take_add]

theorem nsec_le (l : List UInt8) (h : l.length ≤ 65000) : nsec l ≤ 581 := by unfold nsec; omega
theorem nsec_all (l : List UInt8) : l.length ≤ 112 * nsec l := by unfold nsec; omega
theorem secs_nsec (l : List UInt8) (h1 : 1 ≤ l.length) (h2 : l.length ≤ 65000) : secs (l.length : Int) = ((nsec l + 1 : Nat) : Int) := by
  unfold secs nsec
  rw [if_neg (by omega)]
  omega

theorem join_cut {e n : Int} (h : idRight e n) (l : List UInt8) (h1 : 1 ≤ l.length) (h2 : l.length ≤ 65000) (R : List UInt8) : joinOf (cutOf e n l ++ R) e n = (l, nsec l + 1) := by
  have hk := nsec_le l h2
  have hL := length_cutOf h l (by omega)
  have hbl : (cutOf e n l ++ R).length = 128 * (nsec l + 1) + R.length := by rw [List.length_append, hL]
  unfold joinOf
  rw [show (cutOf e n l ++ R).length / 128 + 1 = ((cutOf e n l ++ R).length / 128 - nsec l - 1 + 1 + 1) + nsec l by omega,
    join_run h _ l (nsec l) (by omega) (by omega) (fun i hi => sec_cut h l (by omega) i hi R) _, List.take_of_length_le (nsec_all l)]
  have hg : prtGet (((cutOf e n l ++ R).drop (128 * nsec l)).take 128) = some (ftOf e n l (nsec l)) := by
    rw [sec_foot h l (by omega) R]
    exact get_prt _ (ftOf_right h l _ (by omega))
  rw [joinAt_foot (e := e) (n := n) (by omega) hg ⟨rfl, rfl, rfl⟩ rfl, if_pos]
  refine ⟨by rw [secs_nsec l h1 h2]; omega, ?_⟩
  rw [List.take_append_of_le_length (by omega), List.take_of_length_le (by omega)]

theorem join_wrong {e n m : Int} (h : idRight e n) (l : List UInt8) (h1 : 1 ≤ l.length) (h2 : l.length ≤ 65000) (hm : n ≠ m) : joinOf (cutOf e n l) e m = ([], 0) := by
  have hk := nsec_le l h2
  have h0 : 0 < nsec l := by unfold nsec; omega
  have hs := sec_cut h l (by omega) 0 h0 []
  rw [List.append_nil] at hs
  unfold joinOf
  refine joinAt_other (p := prtOf e n l 0) (by rw [hs]; exact get_prt _ (prtOf_right h l 0 (by omega))) ?_
  rintro ⟨_, hp, _⟩
  exact hm hp

theorem join_turned {e n : Int} (h : idRight e n) (l : List UInt8) (h2 : l.length ≤ 65000) (k : Nat) (hk : k < (cutOf e n l).length) (c : UInt8) (hc : (cutOf e n l)[k] ≠ c) :
    joinOf ((cutOf e n l).set k c) e n = ([], 0) := by
  have hn := nsec_le l h2
  have hL := length_cutOf h l (by omega)
  obtain ⟨b, hb⟩ : ∃ b, b = cutOf e n l := ⟨_, rfl⟩
  have sc := fun i hi => sec_cut h l (by omega) i hi []
  have sf := sec_foot h l (by omega) []
  rw [List.append_nil] at sf
  simp only [List.append_nil] at sc
  rw [← hb] at hL sf
  simp only [← hb] at sc hk hc ⊢
  have hlx : (b.set k c).length = b.length := List.length_set ..
  have hu (i : Nat) (hi : i < k / 128) : ((b.set k c).drop (128 * i)).take 128 = (b.drop (128 * i)).take 128 := by
    rw [List.drop_set, if_neg (by omega), List.take_set_of_le (by omega)]
  have ht : ((b.set k c).drop (128 * (k / 128))).take 128 = ((b.drop (128 * (k / 128))).take 128).set (k % 128) c := by
    rw [List.drop_set, if_neg (by omega), show k - 128 * (k / 128) = k % 128 by omega, List.take_set]
  have hle : ((b.drop (128 * (k / 128))).take 128).length = 128 := by rw [List.length_take, List.length_drop]; omega
  have hat : ((b.drop (128 * (k / 128))).take 128)[k % 128]'(by omega) = b[k] := by
    rw [List.getElem_take, List.getElem_drop]
    congr 1
    omega
  have hse : Mb.isSealed ((b.drop (128 * (k / 128))).take 128) = true := by
    by_cases hs : k / 128 < nsec l
    · rw [sc _ hs]; exact Mb.isSealed_seal _
    · rw [show k / 128 = nsec l by omega, sf]; exact Mb.isSealed_seal _
  have hno : prtGet (((b.set k c).drop (128 * (k / 128))).take 128) = none := by
    rw [ht]
    refine prt_unsealed _ ?_
    rw [Mb.isSealed_set _ hse _ (by omega) c, hat]
    exact decide_eq_false hc
  unfold joinOf
  rw [show (b.set k c).length / 128 + 1 = ((b.set k c).length / 128 + 1 - k / 128) + k / 128 by omega,
    join_run h _ l (k / 128) (by omega) (by omega) (fun i hi => (hu i hi).trans (sc i (by omega))) _]
  exact joinAt_none hno

theorem join_missing {e n : Int} (h : idRight e n) (l : List UInt8) (h2 : l.length ≤ 65000) (s : Nat) (hs : s ≤ nsec l) :
    joinOf ((cutOf e n l).take (128 * s) ++ (cutOf e n l).drop (128 * (s + 1))) e n = ([], 0) := by
  have hn := nsec_le l h2
  have hL := length_cutOf h l (by omega)
  obtain ⟨b, hb⟩ : ∃ b, b = cutOf e n l := ⟨_, rfl⟩
  have sc := fun i hi => sec_cut h l (by omega) i hi []
  have sf := sec_foot h l (by omega) []
  rw [List.append_nil] at sf
  simp only [List.append_nil] at sc
  rw [← hb] at hL sf
  simp only [← hb] at sc ⊢
  have hlt : (b.take (128 * s)).length = 128 * s := by rw [List.length_take]; omega
  have hlx : (b.take (128 * s) ++ b.drop (128 * (s + 1))).length = 128 * nsec l := by rw [List.length_append, hlt, List.length_drop]; omega
  have hu (i : Nat) (hi : i < s) : ((b.take (128 * s) ++ b.drop (128 * (s + 1))).drop (128 * i)).take 128 = (b.drop (128 * i)).take 128 := by
    rw [List.drop_append_of_le_length (by omega), List.take_append_of_le_length (by rw [List.length_drop]; omega), List.drop_take, List.take_take, Nat.min_eq_left (by omega)]
  unfold joinOf
  rw [show (b.take (128 * s) ++ b.drop (128 * (s + 1))).length / 128 + 1 = (nsec l + 1 - s) + s by omega,
    join_run h _ l s (by omega) (by omega) (fun i hi => (hu i hi).trans (sc i (by omega))) _]
  by_cases hsn : s = nsec l
  · exact joinAt_end (by omega)
  · have he : ((b.take (128 * s) ++ b.drop (128 * (s + 1))).drop (128 * s)).take 128 = (b.drop (128 * (s + 1))).take 128 := by
      rw [List.drop_append_of_le_length (by omega), List.drop_of_length_le (by omega), List.nil_append]
    by_cases hs1 : s + 1 < nsec l
    · refine joinAt_other (p := prtOf e n l (s + 1)) (by rw [he, sc _ hs1]; exact get_prt _ (prtOf_right h l _ (by omega))) ?_
      rintro ⟨_, _, hp⟩
      have : ((s + 1 : Nat) : Int) = (s : Int) := hp
      omega
    · have h1 : s + 1 = nsec l := by omega
      refine joinAt_other (p := ftOf e n l (nsec l)) (by rw [he, h1, sf]; exact get_prt _ (ftOf_right h l _ (by omega))) ?_
      rintro ⟨_, _, hp⟩
      have : ((nsec l : Nat) : Int) = (s : Int) := hp
      omega
end Go.Proofs.Ytanmjmeabcloiaa
namespace Go.Proofs.Ytanmjmeabcloiaa
open Go.RowKit
open Go.Proofs

theorem chunk_oct {w : World} {A : Option Addr} {l : List UInt8} (h : Octs w A l) (i : Nat) : Octs w (A.map (fun x => x.add (112 * i))) ((l.drop (112 * i)).take 112) := by
  by_cases hi : 112 * i < l.length
  · have := (h.cut (112 * i) l.length (Nat.le_refl _) (by omega)).take 112
    rw [if_neg (by omega), Nat.mul_one] at this
    exact this
  · rw [List.drop_of_length_le (by omega)]
    exact Octs.nil _ _

set_option maxRecDepth 100000 in
set_option maxHeartbeats 4000000 in
theorem f32_right (e n : Int) (A : Option Addr) (l : List UInt8) (m c : Nat) (w : World) (hi : idRight e n) (hm : l.length = m) (h2 : m ≤ 65000) (hc : m ≤ c) (hx : Octs w A l) :
    Calls Try.prog 32 #[.int .i64 e, .int .i64 n, .slice A m c] w fun x w' => x = .returned (strOf (cutOf e n l)) ∧ Ext w w' := by
  obtain ⟨K, hK⟩ : ∃ K, K = nsec l := ⟨_, rfl⟩
  have hK1 : K = (m + 111) / 112 := by rw [hK, nsec, hm]
  have hS : strOf (cutOf e n l) = .string (⟨(cutPre e n l K).toArray⟩ ++ ⟨(prtPut (ftOf e n l K)).toArray⟩) := by
    rw [ByteArray.mk_append_mk, hK]; simp [cutOf]
  have hT : ∀ k, strOf (cutPre e n l (k + 1)) = .string (⟨(cutPre e n l k).toArray⟩ ++ ⟨(prtPut (prtOf e n l k)).toArray⟩) := fun k => by
    rw [ByteArray.mk_append_mk]; simp [cutPre]
  rw [hS]
  have HT := fun k => Lib.hid (hT k)
  clear hT hS hK
  go_enter Try.func32, Try.ntmps32
  go_wp2
  go_loopw [7, 8] (fun s i wr => ∃ k : Nat, k ≤ K ∧ s = strOf (cutPre e n l k) ∧ i = .int .i64 k ∧ Ext w wr) (fun _ i _ => K - (intOf i).toNat)
  case atStart => exact ⟨0, Nat.zero_le _, rfl, rfl, Ext.refl _⟩
  case round =>
    obtain ⟨k, hk, rfl, rfl, hext⟩ := hrel
    by_cases hlt : 112 * k < m
    · obtain ⟨D, hD⟩ : ∃ D, D = (l.drop (112 * k)).take 112 := ⟨_, rfl⟩
      have hr : prtRight ⟨false, e, n, (k : Int), D⟩ := by rw [hD]; exact prtOf_right hi l k (by omega)
      have hy := chunk_oct (hx.ext hext) k
      have hlen : D.length = min 112 (m - 112 * k) := by rw [hD, List.length_take, List.length_drop, hm]
      have HTk := Lib.hid (show strOf (cutPre e n l (k + 1)) = .string (⟨(cutPre e n l k).toArray⟩ ++ ⟨(prtPut ⟨false, e, n, (k : Int), D⟩).toArray⟩) from by rw [hD]; exact (HT k).out)
      rw [← hD] at hy
      clear hD
      have hl1 := length_cutPre hi l k (by omega)
      have hl2 := length_prtPut _ hr
      by_cases hfull : 112 * k + 112 ≤ m
      · go_wp2_with (go_at_call 18; refine (f18_right ⟨false, e, n, (k : Int), D⟩ _ _ _ _ (hlen.trans (by omega)) hr hy).mono ?_; rintro x w1 ⟨rfl, x1⟩)
        go_roundw
        case rel => exact ⟨k + 1, by omega, HTk.out.symm, val_int (by omega), hext.trans x1⟩
        case measure => simp [intOf]; omega
      · go_wp2_with (go_at_call 18; refine (f18_right ⟨false, e, n, (k : Int), D⟩ _ _ _ _ (hlen.trans (by omega)) hr hy).mono ?_; rintro x w1 ⟨rfl, x1⟩)
        go_roundw
        case rel => exact ⟨k + 1, by omega, HTk.out.symm, val_int (by omega), hext.trans x1⟩
        case measure => simp [intOf]; omega
    · obtain rfl : k = K := by omega
      have hk581 : k ≤ 581 := by omega
      clear hK1
      obtain ⟨u, hu⟩ : ∃ u, u = Mb.crcSum l := ⟨_, rfl⟩
      have hul : u < 4294967296 := by rw [hu]; exact Mb.crcSum_lt l
      obtain ⟨G, hG⟩ : ∃ G, G = leN 4 (u64of (u : Int)) := ⟨_, rfl⟩
      have hG2 : G = Mb.le4 (Mb.crcSum l) := by rw [hG, u64of_nat _ (by omega), leN4, hu]
      have hr : prtRight ⟨true, e, n, (k : Int), G⟩ := by rw [hG2]; exact ftOf_right hi l k (by omega)
      have hGl : G.length = 4 := by rw [hG, length_leN]
      have hf := fun W (h : Ext w W) => f43_n A l m c W hm (by omega) (hx.ext h)
      rw [← hu] at hf
      have hft : prtPut (ftOf e n l k) = prtPut ⟨true, e, n, (k : Int), G⟩ := by rw [hG2]; rfl
      have HF := Lib.hid hft
      have hL := fun W => lay4 (u : Int) G hG W
      clear hG2 hu hft hG
      have hl1 := length_cutPre hi l k (by omega)
      have hl2 := length_prtPut _ hr
      go_wp2_with first
        | (go_at_call 52; refine (hf _ hext).mono ?_; rintro x w1 ⟨rfl, rfl⟩)
        | (go_at_call 46; refine (hL _).mono ?_; rintro x w1 ⟨A1, c1, rfl, y1, x1⟩)
        | (go_at_call 18; refine (f18_right ⟨true, e, n, (k : Int), G⟩ _ _ _ _ hGl hr y1).mono ?_; rintro x w2 ⟨rfl, x2⟩)
      go_ret
      rw [HF.out]
      exact ⟨rfl, (hext.trans x1).trans x2⟩
end Go.Proofs.Ytanmjmeabcloiaa
namespace Go.Proofs.Ytanmjmeabcloiaa
open Go.RowKit Go.Shelf
open Go.Proofs
attribute [local go_sem] Oper.semAt_some

/-- The chunk at an index: its address, its value. -/
def chA (A : Option Addr) (i : Nat) : Option Addr := A.map (fun x => x.add (112 * i))
def chN (n i : Nat) : Nat := min 112 (n - 112 * i)
abbrev chV (A : Option Addr) (n i : Nat) : Value := .slice (chA A i) (chN n i) (chN n i)
theorem ch_octs {w : World} {A : Option Addr} {l : List UInt8} (h : Octs w A l) (i : Nat) : Octs w (chA A i) ((l.drop (112 * i)).take 112) := by
  by_cases hi : 112 * i < l.length
  · have := (h.cut (112 * i) l.length (Nat.le_refl _) (by omega)).take 112
    rw [if_neg (by omega), Nat.mul_one] at this
    exact this
  · rw [List.drop_of_length_le (by omega)]
    exact Octs.nil _ _
theorem ch_len (l : List UInt8) (n i : Nat) (hn : l.length = n) : ((l.drop (112 * i)).take 112).length = chN n i := by
  rw [List.length_take, List.length_drop, hn]; rfl
/-- The two captured boxes stay. -/
def KpB (B : Nat) (W W' : World) : Prop := W'.heap[B]? = W.heap[B]? ∧ W'.heap[B + 1]? = W.heap[B + 1]?
theorem kpB_t {B : Nat} {W1 W2 W3 : World} (h : KpB B W1 W2) (k : KpB B W2 W3) : KpB B W1 W3 := ⟨k.1.trans h.1, k.2.trans h.2⟩
theorem kpB_b {B : Nat} {w : World} (hB : B + 1 < w.heap.size) (W : World) (l : Nat) (o o' : Obj) (hl : w.heap.size ≤ l) (_ : W.heap[l]? = some o) (_ : o.isCells = false) (_ : o.isWalk = false) : KpB B W (W.putObj l o') :=
  ⟨World.putObj_heap_other (by omega), World.putObj_heap_other (by omega)⟩

set_option maxRecDepth 100000 in
set_option maxHeartbeats 2000000 in
theorem chunk_stops (m B : Nat) (A : Option Addr) (n c : Nat) (w : World) (hB : B + 1 < w.heap.size) (hn : n ≤ 4294967296) (hc : n ≤ c) (hm : 1 ≤ m)
    (h1 : Boxed w B 22 (.slice A n c)) (h2 : Boxed w (B + 1) 3 (.int .i64 112)) :
    SeqStopsK Fence.wide m Try.prog 62 #[.pointer (some ⟨B, 0, none⟩), .pointer (some ⟨B + 1, 0, none⟩)] (fun x : Nat => #[chV A n x]) (KpB B) (fun xs => xs = List.range ((n + 111) / 112)) (fun _ => True) ((n + 111) / 112) w := fun l J Jx W hW hJ _ hY h0 => by
  have b1 : Boxed W B 22 (.slice A n c) := (hW.block B (by omega)).trans h1
  have b2 : Boxed W (B + 1) 3 (.int .i64 112) := (hW.block (B + 1) (by omega)).trans h2
  clear h1 h2 hW
  refine callsIn_of_wp Try.func62 rfl trivial ?_ rfl
  simp only [Try.ntmps62, List.size_toArray, List.length_cons, List.length_nil, Nat.reduceAdd, Nat.reduceSub, Array.replicate_succ, Array.replicate_zero, List.push_toArray, List.append_toArray, List.nil_append, List.cons_append]
  gi_wp2
  gi_loopw [4] (fun i wr => ∃ k : Nat, k ≤ (n + 111) / 112 ∧ i = .int .i64 ((112 * k : Nat) : Int) ∧ J (List.range k) wr ∧ Boxed wr B 22 (.slice A n c) ∧ Boxed wr (B + 1) 3 (.int .i64 112))
    (fun i _ => n + 112 - (intOf i).toNat)
  case atStart => exact ⟨0, Nat.zero_le _, rfl, h0, b1, b2⟩
  case round =>
    obtain ⟨k, hk, rfl, hJs, c1, c2⟩ := hrel
    have d1 := c1.cell
    have d2 := c2.cell
    by_cases hlt : 112 * k < n
    · have hJd : J (List.range k) wr.drew := hJ _ wr _ none hJs ⟨rfl, rfl, rfl, Nat.le_refl _, fun _ _ _ => rfl⟩ (fun r e => by cases e)
      obtain ⟨fn, tmps, assign, body, hy, hR⟩ := hY _ k wr.drew hJd (by rw [List.length_range]; omega)
      have hmin : (if ((n - 112 * k : Nat) : Int) < 112 then ((n - 112 * k : Nat) : Int) else 112) = ((chN n k : Nat) : Int) := by
        unfold chN
        split <;> omega
      have hmin2 : min (112 : Int) ((n - 112 * k : Nat) : Int) = ((chN n k : Nat) : Int) := by unfold chN; omega
      have hch : chN n k ≤ 112 := by unfold chN; omega
      have hy' : (Instr.yield l #[.slice (Option.map (fun x => x.add (112 * k)) A) (chN n k) (chN n k)]).run Try.prog wr.drew = Result.ok (Next.round l fn tmps assign body) wr.drew := hy
      clear hy
      gi_wp2
      gi_region
      gi_wp2
      refine hR.mono ?_
      rintro e W3 (⟨rfl, hJ3, hk3⟩ | ⟨rfl, hJx3⟩)
      · have e1 : Boxed W3 B 22 (.slice A n c) := hk3.1.trans c1
        have e2 : Boxed W3 (B + 1) 3 (.int .i64 112) := hk3.2.trans c2
        have f2 := e2.cell
        gi_wp2
        go_roundw
        case rel => exact ⟨k + 1, by omega, val_int (by omega), by rw [List.range_succ]; exact hJ3, e1, e2⟩
        case measure => simp [intOf]; omega
      · gi_wp2
        refine bodyPost_ret (results_none rfl _ _ _) rfl ?_
        exact ⟨⟨_, rfl⟩, .inr ⟨_, trivial, hJx3⟩⟩
    · obtain rfl : k = (n + 111) / 112 := by omega
      gi_wp2
      go_end0
      exact ⟨⟨_, rfl⟩, .inl ⟨_, rfl, hJs⟩⟩

set_option maxRecDepth 100000 in
theorem f49_any (A : Option Addr) (n c : Nat) (w : World) : Calls Try.prog 49 #[.slice A n c, .int .i64 112] w fun e w' =>
    e = .returned (.func (.func 62) #[] #[.pointer (some ⟨w.heap.size, 0, none⟩), .pointer (some ⟨w.heap.size + 1, 0, none⟩)]) ∧ w' = (w.alloc (.cells #[.slice A n c] 22)).alloc (.cells #[.int .i64 112] 3) := by
  go_enter Try.func49, Try.ntmps49
  go_wp2
  go_ret
  exact ⟨rfl, rfl⟩
end Go.Proofs.Ytanmjmeabcloiaa
namespace Go.Proofs.Ytanmjmeabcloiaa
open Go.RowKit Go.Shelf
open Go.Proofs
attribute [local go_sem] Oper.semAt_some

theorem ret_two {fn : Func} {p q : Tmp} (h : fn.results = #[.cell p 22, .cell q 26]) (tmps : Array Value) (w : World) (a b : Nat) (v : Value) (i : Int) (hp : tmps.getD p undef = .pointer (some ⟨a, 0, none⟩)) (hq : tmps.getD q undef = .pointer (some ⟨b, 0, none⟩))
    (ha : Boxed w a 22 v) (hb : Boxed w b 26 (.int .i64 i)) : (results fn tmps).run Try.prog w = .ok (.tuple #[v, .int .i64 i]) w := by
  have h1 := ha.cell
  have h2 := hb.cell
  have l1 : (loadVar 22 ⟨a, 0, none⟩).run Try.prog w = .ok v w := by go_simp
  have l2 : (loadVar 26 ⟨b, 0, none⟩).run Try.prog w = .ok (.int .i64 i) w := by go_simp
  rw [Array.getD_eq_getD_getElem?] at hp hq
  simp only [results, h]
  simp [Sem.run_bind, hp, hq, asAddr, l1, l2]

/-- What is no cells stays where all that was there stays. -/
theorem keeps_ext {W W' : World} (h : Ext W W') : KeepsOthers W W' := ⟨h.size, fun _ _ hk _ => h.heap hk⟩
theorem boxed_ext {W W' : World} {b : Nat} {t : TypeId} {v : Value} (h : Boxed W b t v) (x : Ext W W') : Boxed W' b t v := Ext.heap x h
theorem boxed_row {W w1 : World} {b n₀ : Nat} {t : TypeId} {u v : Value} {xs : List Value} (h : Boxed W b t u) (ht : t ≠ 5) (hrow : Own W n₀ 5 v xs) (hg : W.grownBy w1 v.ownBlock) : Boxed w1 b t u := h.kept hg (h.not_row ht hrow)
theorem keeps_row {W w1 : World} {n₀ : Nat} {v : Value} {xs : List Value} (hrow : Own W n₀ 5 v xs) (hg : W.grownBy w1 v.ownBlock) : KeepsOthers W w1 :=
  KeepsOthers.of_grownBy hg fun j o ej hj => by
    rcases hrow.2 with ⟨rfl, _⟩ | ⟨g, cap, cur, rfl, _, hgb, _⟩
    · simp [Value.ownBlock] at ej
    · obtain rfl : g = j := by simpa [Value.ownBlock] using ej
      rw [hgb] at hj; cases hj; rfl
theorem below_row {W w1 : World} {n₀ : Nat} {v : Value} {xs : List Value} (hrow : Own W n₀ 5 v xs) (hn : n₀ ≤ W.heap.size) (hg : W.grownBy w1 v.ownBlock) : Below n₀ W w1 :=
  (Below.refl n₀ W).grown hg hn fun j ej => by
    rcases hrow.2 with ⟨rfl, _⟩ | ⟨g, cap, cur, rfl, hb, _, _⟩
    · simp [Value.ownBlock] at ej
    · obtain rfl : g = j := by simpa [Value.ownBlock] using ej
      exact hb
theorem own_box {W : World} {n₀ b : Nat} {t : TypeId} {u v v' : Value} {xs : List Value} (hrow : Own W n₀ 5 v xs) (h : Boxed W b t u) (ht : t ≠ 5) : Own (W.setCell ⟨b, 0, none⟩ v') n₀ 5 v xs := World.ownsRow.kept hrow (grownBy_setCell' W b v') (.inr (h.not_row ht hrow).symm)

/-- Between two rounds: the sectors so far, and the other variables. -/
def CutI (w : World) (e n : Int) (A : Option Addr) (m c : Nat) (f : List Nat → List UInt8) (pre : List Nat) (W : World) : Prop :=
  (((∃ v, Boxed W (w.heap.size + 1 + 1 + 1 + 1) 22 v ∧ W.ownsRow w.heap.size 5 1 v (octs (f pre)).length (octs (f pre)) ∧ True) ∧ Boxed W (w.heap.size + 1 + 1 + 1 + 1 + 1) 3 (.int .i64 ((pre.length : Nat) : Int))) ∧
    (Boxed W w.heap.size 3 (.int .i64 e) ∧ Boxed W (w.heap.size + 1) 3 (.int .i64 n)) ∧ (Boxed W (w.heap.size + 1 + 1) 22 (.slice none 0 0) ∧ Boxed W (w.heap.size + 1 + 1 + 1) 26 (.int .i64 0)) ∧
    (Boxed W (w.heap.size + 1 + 1 + 1 + 1 + 1 + 1) 22 (.slice A m c) ∧ Boxed W (w.heap.size + 1 + 1 + 1 + 1 + 1 + 1 + 1) 3 (.int .i64 112))) ∧ Below w.heap.size w W
theorem cutI_own {w : World} {e n : Int} {A : Option Addr} {m c : Nat} {f : List Nat → List UInt8} {B : Nat} (hB : w.heap.size ≤ B) : OwnFrom B (CutI w e n A m c f) :=
  OwnFrom.and (OwnFrom.and (OwnFrom.and (Own.from (holdsRow_own w.heap.size (w.heap.size + 1 + 1 + 1 + 1) 22 5 1 (fun pre => (octs (f pre)).length) (fun pre => octs (f pre)) (fun _ _ => True)) _) (Own.from (boxed_own _ _ (fun pre : List Nat => .int .i64 ((pre.length : Nat) : Int))) _))
    (OwnFrom.and (OwnFrom.and (Own.from (boxed_own _ _ (fun _ => .int .i64 e)) _) (Own.from (boxed_own _ _ (fun _ => .int .i64 n)) _)) (OwnFrom.and (OwnFrom.and (Own.from (boxed_own _ _ (fun _ => .slice none 0 0)) _) (Own.from (boxed_own _ _ (fun _ => .int .i64 0)) _))
      (OwnFrom.and (Own.from (boxed_own _ _ (fun _ => .slice A m c)) _) (Own.from (boxed_own _ _ (fun _ => .int .i64 112)) _))))) (ownFrom_below (Nat.le_refl _) hB)

/-- The sectors of the parts that came. -/
def outOf (e n : Int) (l : List UInt8) : Nat → List Nat → List UInt8
  | _, [] => []
  | i, x :: xs => prtPut ⟨false, e, n, (i : Int), (l.drop (112 * x)).take 112⟩ ++ outOf e n l (i + 1) xs
theorem outOf_snoc (e n : Int) (l : List UInt8) (x : Nat) : ∀ (pre : List Nat) (i : Nat), outOf e n l i (pre ++ [x]) = outOf e n l i pre ++ prtPut ⟨false, e, n, ((i + pre.length : Nat) : Int), (l.drop (112 * x)).take 112⟩
  | [], i => by simp [outOf]
  | y :: ys, i => by
    rw [List.cons_append, outOf, outOf_snoc e n l x ys (i + 1), outOf, List.append_assoc, List.length_cons, show i + 1 + ys.length = i + (ys.length + 1) by omega]
theorem outOf_range (e n : Int) (l : List UInt8) : ∀ k, outOf e n l 0 (List.range k) = cutPre e n l k
  | 0 => rfl
  | k + 1 => by
    rw [List.range_succ, outOf_snoc, outOf_range e n l k, List.length_range, Nat.zero_add]
    rfl
theorem length_outOf {e n : Int} (h : idRight e n) (l : List UInt8) : ∀ (pre : List Nat) (i : Nat), i + pre.length ≤ 65536 → (outOf e n l i pre).length = 128 * pre.length
  | [], _, _ => rfl
  | x :: xs, i, hi => by
    rw [List.length_cons] at hi
    have hr : prtRight ⟨false, e, n, (i : Int), (l.drop (112 * x)).take 112⟩ := by
      obtain ⟨h1, h2, h3, h4⟩ := h
      refine ⟨h1, h2, h3, h4, ?_, ?_, ?_⟩
      · show (0 : Int) ≤ (i : Int); omega
      · show (i : Int) ≤ 65535; omega
      · show ((l.drop (112 * x)).take 112).length ≤ 112
        rw [List.length_take]; omega
    rw [outOf, List.length_append, length_prtPut _ hr, length_outOf h l xs (i + 1) (by omega), List.length_cons]
    omega

/-- The world where the loop begins. -/
abbrev cutW (w : World) (e n : Int) (A : Option Addr) (m c : Nat) : World :=
  (((((((w.alloc (.cells #[.int .i64 e] 3)).alloc (.cells #[.int .i64 n] 3)).alloc (.cells #[.slice none 0 0] 22)).alloc (.cells #[.int .i64 0] 26)).alloc (.cells #[.slice none 0 0] 22)).alloc (.cells #[.int .i64 0] 3)).alloc (.cells #[.slice A m c] 22)).alloc (.cells #[.int .i64 112] 3)
theorem cutW_size (w : World) (e n : Int) (A : Option Addr) (m c : Nat) : (cutW w e n A m c).heap.size = w.heap.size + 8 := by simp [cutW]
theorem cutI_start (w : World) (e n : Int) (A : Option Addr) (m c : Nat) (l : List UInt8) : CutI w e n A m c (outOf e n l 0) [] (cutW w e n A m c) := by
  refine ⟨⟨⟨⟨_, ?_, World.ownsRow_nil _ _ _ _, trivial⟩, ?_⟩, ⟨?_, ?_⟩, ⟨?_, ?_⟩, ⟨?_, ?_⟩⟩, ?_⟩
  all_goals first
    | (simp only [Boxed, cutW, World.alloc, Array.getElem?_push, Array.size_push]; simp; done)
    | exact (((((((Boxed.new w _ _).alloc _).alloc _).alloc _).alloc _).alloc _).alloc _).alloc _
    | exact (((((((((Ext.refl w).alloc _).alloc _).alloc _).alloc _).alloc _).alloc _).alloc _).alloc _)

section
variable {F : Fence} {nF : Nat} {w : World} {ops : Array Oper} {rest : List Oper} {o : Oper} {a : Act} {Q : Exit → Act → World → Prop}
theorem wpListIn_appo (hgd : o.guard = none) (s x : Operand)
    (ho : o.op = .call { callee := .builtin .append, args := #[s, x], argTypes := #[22, 22] })
    (base : Nat) (v : Value) (l : List UInt8) (hs : a.eval s = v) (hown : Own w base 5 v (octs l)) (A : Option Addr) (m c : Nat) (l2 : List UInt8) (hxv : a.eval x = .slice A m c) (hm : l2.length = m) (h0 : 0 < m) (hx : Octs w A l2)
    (hlen : l.length + m ≤ 4294967296) (hbase : base ≤ w.heap.size)
    (h : ∀ v' w', Own w' base 5 v' (octs (l ++ l2)) → w.grownBy w' v.ownBlock → wpListIn F nF Try.prog ops Q rest (a.put o.dst v') w') : wpListIn F nF Try.prog ops Q (o :: rest) a w := by
  obtain ⟨i0, hi, hz, hs1, hb⟩ := info_parts info5
  have hlo := length_octs l
  have hlo2 := length_octs l2
  obtain ⟨g, o', rfl, hc⟩ := hx (by omega)
  refine wpListIn_append_own w hgd s x _ ho base 5 i0 (.int .u8 0) 1 1 Try.underlying22 hi hz hs1 hb rfl (by decide) v (octs l).length (octs l) hs hown ⟨g, o', none⟩ m c (octs l2) hxv (by omega)
    (Cells.news hx rfl (by omega)) (octs_one _) (by simp only [maxLen]; omega) (by omega) hbase ?_
  intro v' w' r1 r2 _
  refine h v' w' ?_ r2
  rw [octs_append]
  have e : (octs l).length + m = (octs l ++ octs l2).length := by rw [List.length_append]; omega
  rw [e] at r1
  exact r1
end

set_option maxRecDepth 100000 in
set_option maxHeartbeats 4000000 in
theorem f31_right (e n : Int) (A : Option Addr) (l : List UInt8) (m c : Nat) (w : World) (hi : idRight e n) (hm : l.length = m) (h1 : 1 ≤ m) (h2 : m ≤ 65000) (hc : m ≤ c) (hx : Octs w A l) :
    Calls Try.prog 31 #[.int .i64 e, .int .i64 n, .slice A m c] w fun x w' => ∃ v, x = .returned (.tuple #[v, .int .i64 0]) ∧ Own w' w.heap.size 5 v (octs (cutOf e n l)) ∧ Ext w w' := by
  have hse : secs (m : Int) ≠ 0 := by unfold secs; rw [if_neg (by omega)]; omega
  refine (callsIn_wide (n := 3)).1 ?_
  refine callsIn_of_wp_marks Try.func31 rfl trivial ?_ rfl
  simp only [Try.ntmps31, List.size_toArray, List.length_cons, List.length_nil, Nat.reduceAdd, Nat.reduceSub, Array.replicate_succ, Array.replicate_zero, List.push_toArray, List.append_toArray, List.nil_append, List.cons_append]
  gi_wp2_with first
    | (refine ⟨trivial, ?_⟩; gi_at_call 33; refine (callsIn_wide.2 (sec_any (m : Int) _ (by omega) (by omega))).mono ?_; rintro e w' ⟨rfl, rfl⟩)
    | (refine ⟨trivial, ?_⟩; gi_at_call 49; refine (callsIn_wide.2 (f49_any A m c _)).mono ?_; rintro e w' ⟨rfl, rfl⟩)
  clear hse
  obtain ⟨W0, hW0⟩ : ∃ W0, W0 = cutW w e n A m c := ⟨_, rfl⟩
  have hI0 := cutI_start w e n A m c l
  have hsz := cutW_size w e n A m c
  show Code.wpIn Fence.wide 3 Try.prog _ _ _ (cutW w e n A m c)
  rw [← hW0] at hI0 hsz ⊢
  clear hW0
  refine wpIn_rangeFunc_ownG rfl (by decide) (gf := 62) (lb := #[.pointer (some ⟨w.heap.size + 1 + 1 + 1 + 1 + 1 + 1, 0, none⟩), .pointer (some ⟨w.heap.size + 1 + 1 + 1 + 1 + 1 + 1 + 1, 0, none⟩)]) rfl trivial (enters_of Try.func62 (by kernel_rfl) rfl)
    (chunk_stops (3 - 1) (w.heap.size + 1 + 1 + 1 + 1 + 1 + 1) A m c W0 (by omega) (by omega) hc (by decide) hI0.1.2.2.2.1 hI0.1.2.2.2.2) kpB_t (kpB_b (by omega)) (Below.refl _ _) (fun _ => rfl)
    (CutI w e n A m c (outOf e n l 0)) (fun _ _ _ => False) (cutI_own (by omega)) (fun _ _ _ _ _ hs _ _ => hs) hI0
    (fun x => { tmps := #[.int .i64 e, .int .i64 n, .slice A m c, .pointer (some ⟨w.heap.size, 0, none⟩), .pointer (some ⟨w.heap.size + 1, 0, none⟩), undef, .pointer (some ⟨w.heap.size + 1 + 1, 0, none⟩), .pointer (some ⟨w.heap.size + 1 + 1 + 1, 0, none⟩), .pointer (some ⟨w.heap.size + 1 + 1 + 1 + 1, 0, none⟩), .pointer (some ⟨w.heap.size + 1 + 1 + 1 + 1 + 1, 0, none⟩), chV A m x, undef, undef, undef, undef, undef, .slice A m c, .int .i64 (m : Int), .int .i64 (secs (m : Int)), .bool false, .slice A m c, .func (.func 62) #[] #[.pointer (some ⟨w.heap.size + 1 + 1 + 1 + 1 + 1 + 1, 0, none⟩), .pointer (some ⟨w.heap.size + 1 + 1 + 1 + 1 + 1 + 1 + 1, 0, none⟩)], chV A m x, undef, undef, undef, undef, undef, undef, undef, undef, undef, undef, undef, undef, undef, undef, undef, undef, undef, undef, undef, undef, undef, undef, undef, undef, undef, undef, undef, undef, undef, undef, undef, undef, undef, undef, undef], defers := [] }) ?assign ?body ?done ?stop
  case assign =>
    intro k x W K hK
    gi_wp2
    exact hK
  case body =>
    rintro k pre x W ⟨⟨⟨⟨v, hv, hrow, _⟩, hN⟩, ⟨hE, hM⟩, ⟨h6, h7⟩, ⟨hS, hC⟩⟩, hB⟩ hlt
    have hsW : w.heap.size ≤ W.heap.size := hB.size
    have hlen : (outOf e n l 0 pre).length = 128 * pre.length := length_outOf hi l pre 0 (by omega)
    have hrow : Own W w.heap.size 5 v (octs (outOf e n l 0 pre)) := hrow
    have hout := outOf_snoc e n l x pre 0
    rw [Nat.zero_add] at hout
    obtain ⟨D, hD⟩ : ∃ D, D = (l.drop (112 * x)).take 112 := ⟨_, rfl⟩
    have hy : Octs W (chA A x) D := by rw [hD]; exact ch_octs (hx.ext hB) x
    have hDl : D.length = chN m x := by rw [hD]; exact ch_len l m x hm
    have hr : prtRight ⟨false, e, n, (pre.length : Int), D⟩ := by
      have hch : chN m x ≤ 112 := by unfold chN; omega
      obtain ⟨i1, i2, i3, i4⟩ := hi
      refine ⟨i1, i2, i3, i4, ?_, ?_, ?_⟩
      · show (0 : Int) ≤ (pre.length : Int); omega
      · show (pre.length : Int) ≤ 65535; omega
      · show D.length ≤ 112; omega
    rw [← hD] at hout
    clear hD
    obtain ⟨X, hX⟩ : ∃ X, X = outOf e n l 0 pre := ⟨_, rfl⟩
    obtain ⟨j, hj⟩ : ∃ j, j = pre.length := ⟨_, rfl⟩
    obtain ⟨G, hG⟩ : ∃ G, G = prtPut ⟨false, e, n, (pre.length : Int), D⟩ := ⟨_, rfl⟩
    have hGl : G.length = 128 := by rw [hG]; exact length_prtPut _ hr
    have hf := fun W' (h : Ext W W') => f13_right ⟨false, e, n, (pre.length : Int), D⟩ (chA A x) (chN m x) (chN m x) W' hDl hr (hy.ext h)
    rw [← hG] at hout hf
    rw [← hX] at hrow hlen hout
    rw [← hj] at hf hN hlen hlt
    clear hr hG hX hy hDl
    have hX2 := Lib.hid hout
    have hj2 := Lib.hid hj
    clear hout hj
    have c0 := hE.cell
    have c1 := hM.cell
    have c5 := hN.cell
    gi_wp2_with first
      | (refine ⟨trivial, ?_⟩; gi_at_call 13; refine (CallsIn.inRound k (callsIn_wide.2 (hf _ (Ext.refl W)))).mono ?_; clear hf; rintro y w1 ⟨v1, rfl, o1, x1⟩; obtain ⟨A1, q1, rfl, hq1, y1⟩ := o1.octs_form; rw [hGl]; have z1 := (boxed_ext hv x1).cell)
      | (gi_at_builtin; refine wpListIn_appo rfl _ _ rfl w.heap.size v X rfl (hrow.ext x1) A1 128 q1 G rfl hGl (by decide) y1 (by omega) (by have := x1.size; omega) ?_; intro v2 w2 o2 g2; obtain ⟨A2, q2, rfl, hq2, y2⟩ := o2.octs_form; have bv := boxed_row (boxed_ext hv x1) (by decide) (hrow.ext x1) g2; have bN := boxed_row (boxed_ext hN x1) (by decide) (hrow.ext x1) g2; have z2 := bv.cell; have zf2 := bv.frozen; have z5 := bN.cell; have zf5 := bN.frozen)
    have hXG : (X ++ G).length = 128 * j + 128 := by rw [List.length_append, hlen, hGl]
    rw [hXG] at o2
    have hk (C : Nat) (T : TypeId) (u : Value) (h : Boxed W C T u) (hT : T ≠ 5) (h4 : C ≠ w.heap.size + 1 + 1 + 1 + 1) (h5 : C ≠ w.heap.size + 1 + 1 + 1 + 1 + 1) : Boxed ((w2.setCell ⟨w.heap.size + 1 + 1 + 1 + 1, 0, none⟩ (.slice A2 (128 * j + 128) q2)).setCell ⟨w.heap.size + 1 + 1 + 1 + 1 + 1, 0, none⟩ (.int .i64 ((j : Int) + 1))) C T u :=
      ((boxed_row (boxed_ext h x1) hT (hrow.ext x1) g2).other h4 _).other h5 _
    have hj3 : (pre ++ [x]).length = j + 1 := by rw [List.length_append, List.length_singleton, hj2.out]
    refine ⟨((keeps_ext x1).trans ((keeps_row (hrow.ext x1) g2).trans ((KeepsOthers.setCell _ _ _).trans (KeepsOthers.setCell _ _ _)))).from _, ⟨(hk _ _ _ hS (by decide) (by omega) (by omega)).trans hS.symm, (hk _ _ _ hC (by decide) (by omega) (by omega)).trans hC.symm⟩, ?_⟩
    refine ⟨⟨⟨⟨_, (bv.set _).other (by omega) _, ?_, trivial⟩, ?_⟩, ⟨hk _ _ _ hE (by decide) (by omega) (by omega), hk _ _ _ hM (by decide) (by omega) (by omega)⟩, ⟨hk _ _ _ h6 (by decide) (by omega) (by omega), hk _ _ _ h7 (by decide) (by omega) (by omega)⟩,
      ⟨hk _ _ _ hS (by decide) (by omega) (by omega), hk _ _ _ hC (by decide) (by omega) (by omega)⟩⟩, ?_⟩
    · rw [hX2.out]
      exact own_box (own_box o2 bv (by decide)) (bN.other (by omega) _) (by decide)
    · rw [hj3]
      exact (bN.other (by omega) _).set _
    · exact (((hB.trans (x1.mono hsW)).trans (below_row (hrow.ext x1) (by have := x1.size; omega) g2)).setCell (p := ⟨w.heap.size + 1 + 1 + 1 + 1, 0, none⟩) (by show w.heap.size ≤ w.heap.size + 1 + 1 + 1 + 1; omega) _).setCell (p := ⟨w.heap.size + 1 + 1 + 1 + 1 + 1, 0, none⟩) (by show w.heap.size ≤ w.heap.size + 1 + 1 + 1 + 1 + 1; omega) _
  case done =>
    rintro D ys W hD rfl ⟨⟨⟨⟨v, hv, hrow, _⟩, hN⟩, ⟨hE, hM⟩, ⟨h6, h7⟩, _⟩, hB⟩ hK
    have hsW : w.heap.size ≤ W.heap.size := hB.size
    have hrow : Own W w.heap.size 5 v (octs (outOf e n l 0 (List.range ((m + 111) / 112)))) := hrow
    rw [outOf_range] at hrow
    rw [List.length_range] at hN
    obtain ⟨K, hKm⟩ : ∃ K, K = (m + 111) / 112 := ⟨_, rfl⟩
    rw [← hKm] at hN hrow
    have hK581 : K ≤ 581 := by omega
    have hlen := length_cutPre hi l K (by omega)
    obtain ⟨u, hu⟩ : ∃ u, u = Mb.crcSum l := ⟨_, rfl⟩
    have hul : u < 4294967296 := by rw [hu]; exact Mb.crcSum_lt l
    obtain ⟨G, hG⟩ : ∃ G, G = leN 4 (u64of (u : Int)) := ⟨_, rfl⟩
    have hG2 : G = Mb.le4 (Mb.crcSum l) := by rw [hG, u64of_nat _ (by omega), leN4, hu]
    have hr : prtRight ⟨true, e, n, (K : Int), G⟩ := by rw [hG2]; exact ftOf_right hi l K (by omega)
    have hGl : G.length = 4 := by rw [hG, length_leN]
    have hcut : cutOf e n l = cutPre e n l K ++ prtPut ⟨true, e, n, (K : Int), G⟩ := by
      have : nsec l = K := by unfold nsec; omega
      rw [cutOf, this, hG2]; rfl
    have hf1 := fun W' (h : Ext w W') t => f41_one A l m c W' hm (by omega) hc (hx.ext h) t
    have hf2 : ∀ W', Calls Try.prog 50 #[.int .i64 (u : Int), .int .i64 4] W' fun x w' => ∃ v, x = .returned v ∧ Own w' W'.heap.size 5 v (octs G) ∧ Ext W' w' := by
      rw [hG]
      exact fun W' => f132_any (u : Int) 4 (by decide) W'
    have hf3 := fun W' A1 c1 (y : Octs W' A1 G) => f13_right ⟨true, e, n, (K : Int), G⟩ A1 4 c1 W' hGl hr y
    obtain ⟨F, hF⟩ : ∃ F, F = prtPut ⟨true, e, n, (K : Int), G⟩ := ⟨_, rfl⟩
    have hFl : F.length = 128 := by rw [hF]; exact length_prtPut _ hr
    obtain ⟨X, hX⟩ : ∃ X, X = cutPre e n l K := ⟨_, rfl⟩
    rw [← hF] at hcut hf3
    rw [← hX] at hcut hlen hrow
    rw [← hu] at hf1
    clear hX hF hr hG2 hG hu hKm
    have HC := Lib.hid hcut
    clear hcut
    have c0 := hE.cell
    have c1 := hM.cell
    have c5 := hN.cell
    have c4 := hv.cell
    gi_wp2_with first
      | (refine ⟨trivial, ?_⟩; gi_at_call 51; refine (callsIn_wide.2 (hf1 _ hB _)).mono ?_; clear hf1; rintro y w1 ⟨rfl, x1⟩)
      | (refine ⟨trivial, ?_⟩; gi_at_call 50; refine (callsIn_wide.2 (hf2 _)).mono ?_; clear hf2; rintro y w2 ⟨v2, rfl, o2, x2⟩; obtain ⟨A2, q2, rfl, hq2, y2⟩ := o2.octs_form; rw [hGl]; have X2 := Ext.trans x1 x2; have z0 := (boxed_ext hE X2).cell; have z1 := (boxed_ext hM X2).cell; have z5 := (boxed_ext hN X2).cell)
      | (refine ⟨trivial, ?_⟩; gi_at_call 13; refine (callsIn_wide.2 (hf3 _ _ _ y2)).mono ?_; clear hf3; rintro y w3 ⟨v3, rfl, o3, x3⟩; obtain ⟨A3, q3, rfl, hq3, y3⟩ := o3.octs_form; rw [hFl]; have X3 := Ext.trans X2 x3; have z4 := (boxed_ext hv X3).cell)
      | (gi_at_builtin; refine wpListIn_appo rfl _ _ rfl w.heap.size v X rfl (hrow.ext X3) A3 128 q3 F rfl hFl (by decide) y3 (by omega) (by have := X3.size; omega) ?_; intro v4 w4 o4 g4; obtain ⟨A4, q4, rfl, hq4, y4⟩ := o4.octs_form; have b6 := boxed_row (boxed_ext h6 X3) (by decide) (hrow.ext X3) g4; have b7 := boxed_row (boxed_ext h7 X3) (by decide) (hrow.ext X3) g4; have r6 := b6.cell; have rf6 := b6.frozen; have r7 := b7.cell; have rf7 := b7.frozen)
    have hXF : (X ++ F).length = 128 * K + 128 := by rw [List.length_append, hlen, hFl]
    rw [hXF] at o4
    obtain ⟨V, hV⟩ : ∃ V, V = Value.slice A4 (128 * K + 128) q4 := ⟨_, rfl⟩
    rw [← hV] at o4 ⊢
    clear hV
    obtain ⟨Wf, hWf⟩ : ∃ Wf, Wf = (w4.setCell ⟨w.heap.size + 1 + 1, 0, none⟩ V).setCell ⟨w.heap.size + 1 + 1 + 1, 0, none⟩ (.int .i64 0) := ⟨_, rfl⟩
    have hK4 : KeepsOthers W Wf := by
      rw [hWf]
      exact (keeps_ext X3).trans ((keeps_row (hrow.ext X3) g4).trans ((KeepsOthers.setCell _ _ _).trans (KeepsOthers.setCell _ _ _)))
    have hKf : Wf.heap[D]? = some (.deferred (some [])) := hK4.same D _ hK rfl
    have e6 : Boxed Wf (w.heap.size + 1 + 1) 22 V := by rw [hWf]; exact (b6.set V).other (by omega) _
    have e7 : Boxed Wf (w.heap.size + 1 + 1 + 1) 26 (.int .i64 0) := by rw [hWf]; exact (b7.other (by omega) _).set _
    have ef : Own Wf w.heap.size 5 V (octs (X ++ F)) := by
      rw [hWf]
      exact own_box (own_box o4 b6 (by decide)) (b7.other (by omega) _) (by decide)
    have eB : Below w.heap.size w Wf := by
      rw [hWf]
      exact (((hB.trans (X3.mono hsW)).trans (below_row (hrow.ext X3) (by have := X3.size; omega) g4)).setCell (p := ⟨w.heap.size + 1 + 1, 0, none⟩) (by show w.heap.size ≤ w.heap.size + 1 + 1; omega) _).setCell (p := ⟨w.heap.size + 1 + 1 + 1, 0, none⟩) (by show w.heap.size ≤ w.heap.size + 1 + 1 + 1; omega) _
    rw [← hWf]
    clear hWf
    refine ⟨by simp, .inl ⟨_, _, rfl, run_takeDeferred hKf, ?_⟩⟩
    have hne (C : Nat) (h : C < w.heap.size + 8) : some C ≠ some D := fun x => by injection x with x; omega
    exact ⟨_, ret_two rfl _ _ _ _ _ _ rfl rfl (e6.kept (grownBy_putObj' _ D (.deferred none)) (hne _ (by omega))) (e7.kept (grownBy_putObj' _ D (.deferred none)) (hne _ (by omega))), V, rfl, (by rw [HC.out]; exact ownsRow_putObj ef _ hKf rfl),
      eB.trans (belowK_b (w := w) (Nat.le_refl _) Wf D _ _ (by omega) hKf rfl rfl)⟩
  case stop =>
    rintro D k pre W _ _ h _
    exact h.elim

set_option maxRecDepth 100000 in
theorem f31_none (e n : Int) (A : Option Addr) (m c : Nat) (w : World) (h0 : secs (m : Int) = 0) (hm : m ≤ 9223372036854775807) :
    Calls Try.prog 31 #[.int .i64 e, .int .i64 n, .slice A m c] w fun x w' => x = .returned (.tuple #[.slice none 0 0, .int .i64 2]) ∧ Ext w w' := by
  refine (callsIn_wide (n := 3)).1 ?_
  refine callsIn_of_wp_marks Try.func31 rfl trivial ?_ rfl
  simp only [Try.ntmps31, List.size_toArray, List.length_cons, List.length_nil, Nat.reduceAdd, Nat.reduceSub, Array.replicate_succ, Array.replicate_zero, List.push_toArray, List.append_toArray, List.nil_append, List.cons_append]
  gi_wp2_with (refine ⟨trivial, ?_⟩; gi_at_call 33; refine (callsIn_wide.2 (sec_any (m : Int) _ (by omega) (by omega))).mono ?_; rintro e w' ⟨rfl, rfl⟩)
  exact ⟨_, ret_two rfl _ _ _ _ _ _ rfl rfl (by simp only [Boxed, World.alloc, Array.getElem?_push, Array.size_push]; simp) (by simp only [Boxed, World.alloc, Array.getElem?_push, Array.size_push]; simp), rfl, ((((Ext.refl w).alloc _).alloc _).alloc _).alloc _⟩

set_option maxRecDepth 100000 in
set_option maxHeartbeats 4000000 in
theorem f31_wrong (e n : Int) (A : Option Addr) (l : List UInt8) (m c : Nat) (w : World) (hi : ¬ idRight e n) (hm : l.length = m) (h1 : 1 ≤ m) (h2 : m ≤ 65000) (hc : m ≤ c) :
    Calls Try.prog 31 #[.int .i64 e, .int .i64 n, .slice A m c] w fun x w' => x = .returned (.tuple #[.slice none 0 0, .int .i64 2]) ∧ Ext w w' := by
  have hse : secs (m : Int) ≠ 0 := by unfold secs; rw [if_neg (by omega)]; omega
  refine (callsIn_wide (n := 3)).1 ?_
  refine callsIn_of_wp_marks Try.func31 rfl trivial ?_ rfl
  simp only [Try.ntmps31, List.size_toArray, List.length_cons, List.length_nil, Nat.reduceAdd, Nat.reduceSub, Array.replicate_succ, Array.replicate_zero, List.push_toArray, List.append_toArray, List.nil_append, List.cons_append]
  gi_wp2_with first
    | (refine ⟨trivial, ?_⟩; gi_at_call 33; refine (callsIn_wide.2 (sec_any (m : Int) _ (by omega) (by omega))).mono ?_; rintro e w' ⟨rfl, rfl⟩)
    | (refine ⟨trivial, ?_⟩; gi_at_call 49; refine (callsIn_wide.2 (f49_any A m c _)).mono ?_; rintro e w' ⟨rfl, rfl⟩)
  clear hse
  obtain ⟨W0, hW0⟩ : ∃ W0, W0 = cutW w e n A m c := ⟨_, rfl⟩
  have hI0 := cutI_start w e n A m c l
  have hsz := cutW_size w e n A m c
  show Code.wpIn Fence.wide 3 Try.prog _ _ _ (cutW w e n A m c)
  rw [← hW0] at hI0 hsz ⊢
  clear hW0
  refine wpIn_rangeFunc_ownG rfl (by decide) (gf := 62) (lb := #[.pointer (some ⟨w.heap.size + 1 + 1 + 1 + 1 + 1 + 1, 0, none⟩), .pointer (some ⟨w.heap.size + 1 + 1 + 1 + 1 + 1 + 1 + 1, 0, none⟩)]) rfl trivial (enters_of Try.func62 (by kernel_rfl) rfl)
    (chunk_stops (3 - 1) (w.heap.size + 1 + 1 + 1 + 1 + 1 + 1) A m c W0 (by omega) (by omega) hc (by decide) hI0.1.2.2.2.1 hI0.1.2.2.2.2) kpB_t (kpB_b (by omega)) (Below.refl _ _) (fun _ => rfl)
    (fun pre W => pre = [] ∧ CutI w e n A m c (outOf e n l 0) pre W) (fun k _ W => k = .ret ∧ (Boxed W (w.heap.size + 1 + 1) 22 (.slice none 0 0) ∧ Boxed W (w.heap.size + 1 + 1 + 1) 26 (.int .i64 2)) ∧ Below w.heap.size w W)
    (OwnFrom.and (ownFrom_pure _ (fun pre => pre = [])) (cutI_own (by omega))) (fun k => OwnFrom.and (ownFrom_pure _ (fun _ => k = .ret)) (OwnFrom.and (OwnFrom.and (Own.from (boxed_own _ _ (fun _ => .slice none 0 0)) _) (Own.from (boxed_own _ _ (fun _ => .int .i64 2)) _)) (ownFrom_below (Nat.le_refl _) (by omega)))) ⟨rfl, hI0⟩
    (fun x => { tmps := #[.int .i64 e, .int .i64 n, .slice A m c, .pointer (some ⟨w.heap.size, 0, none⟩), .pointer (some ⟨w.heap.size + 1, 0, none⟩), undef, .pointer (some ⟨w.heap.size + 1 + 1, 0, none⟩), .pointer (some ⟨w.heap.size + 1 + 1 + 1, 0, none⟩), .pointer (some ⟨w.heap.size + 1 + 1 + 1 + 1, 0, none⟩), .pointer (some ⟨w.heap.size + 1 + 1 + 1 + 1 + 1, 0, none⟩), chV A m x, undef, undef, undef, undef, undef, .slice A m c, .int .i64 (m : Int), .int .i64 (secs (m : Int)), .bool false, .slice A m c, .func (.func 62) #[] #[.pointer (some ⟨w.heap.size + 1 + 1 + 1 + 1 + 1 + 1, 0, none⟩), .pointer (some ⟨w.heap.size + 1 + 1 + 1 + 1 + 1 + 1 + 1, 0, none⟩)], chV A m x, undef, undef, undef, undef, undef, undef, undef, undef, undef, undef, undef, undef, undef, undef, undef, undef, undef, undef, undef, undef, undef, undef, undef, undef, undef, undef, undef, undef, undef, undef, undef, undef, undef, undef, undef], defers := [] }) ?assign ?body ?done ?stop
  case assign =>
    intro k x W K hK
    gi_wp2
    exact hK
  case body =>
    rintro k pre x W ⟨rfl, ⟨⟨⟨v, hv, hrow, _⟩, hN⟩, ⟨hE, hM⟩, ⟨h6, h7⟩, _⟩, hB⟩ hlt
    clear hv hrow
    have hsW : w.heap.size ≤ W.heap.size := hB.size
    have hDl := ch_len l m x hm
    have hr : ¬ prtRight ⟨false, e, n, 0, (l.drop (112 * x)).take 112⟩ := fun h => hi ⟨h.1, h.2.1, h.2.2.1, h.2.2.2.1⟩
    have hf := fun W' => f13_wrong ⟨false, e, n, 0, (l.drop (112 * x)).take 112⟩ (chA A x) (chN m x) (chN m x) W' hDl hr
    clear hr hDl
    have c0 := hE.cell
    have c1 := hM.cell
    have c5 := hN.cell
    gi_wp2_with (refine ⟨trivial, ?_⟩; gi_at_call 13; refine (CallsIn.inRound k (callsIn_wide.2 (hf _))).mono ?_; clear hf; rintro y w1 ⟨rfl, x1⟩; have b6 := boxed_ext h6 x1; have b7 := boxed_ext h7 x1; have r6 := b6.cell; have rf6 := b6.frozen; have r7 := b7.cell; have rf7 := b7.frozen)
    exact ⟨((keeps_ext x1).trans ((KeepsOthers.setCell _ _ _).trans (KeepsOthers.setCell _ _ _))).from _, rfl, ⟨(b6.set _).other (by omega) _, (b7.other (by omega) _).set _⟩, ((hB.trans (x1.mono hsW)).setCell (p := ⟨w.heap.size + 1 + 1, 0, none⟩) (by show w.heap.size ≤ w.heap.size + 1 + 1; omega) _).setCell (p := ⟨w.heap.size + 1 + 1 + 1, 0, none⟩) (by show w.heap.size ≤ w.heap.size + 1 + 1 + 1; omega) _⟩
  case done =>
    rintro D ys W _ rfl ⟨h, _⟩ _
    have := congrArg List.length h
    rw [List.length_range, List.length_nil] at this
    omega
  case stop =>
    rintro D k pre W hD _ ⟨rfl, ⟨h6, h7⟩, hB⟩ hK
    gi_wp2
    refine ⟨by simp, .inl ⟨_, _, rfl, run_takeDeferred hK, ?_⟩⟩
    have hne (C : Nat) (h : C < w.heap.size + 8) : some C ≠ some D := fun x => by injection x with x; omega
    exact ⟨_, ret_two rfl _ _ _ _ _ _ rfl rfl (h6.kept (grownBy_putObj' _ D (.deferred none)) (hne _ (by omega))) (h7.kept (grownBy_putObj' _ D (.deferred none)) (hne _ (by omega))), rfl, hB.trans (belowK_b (w := w) (Nat.le_refl _) W D _ _ (by omega) hK rfl rfl)⟩
end Go.Proofs.Ytanmjmeabcloiaa
namespace Go.Proofs.Ytanmjmeabcloiaa
open Go.RowKit
open Go.Proofs

theorem prtGet_right {b : List UInt8} {p : Prt} (h : prtGet b = some p) : prtRight p := by
  unfold prtGet at h
  split at h
  · injection h with h
    rw [← h]
    rename_i g
    exact g.2.1
  · cases h
theorem prtGet_id {b : List UInt8} {p : Prt} (h : prtGet b = some p) : idRight p.epoch p.number := by
  obtain ⟨h1, h2, h3, h4, _⟩ := prtGet_right h
  exact ⟨h1, h2, h3, h4⟩
theorem prtGet_data {b : List UInt8} {p : Prt} (h : prtGet b = some p) : p.data.length ≤ 112 := (prtGet_right h).2.2.2.2.2.2

theorem sector_octs {w : World} {A : Option Addr} {b : List UInt8} (h : Octs w A b) (k : Nat) : Octs w (A.map (fun x => x.add (k * 128))) ((b.drop (128 * k)).take 128) := by
  rw [Nat.mul_comm k 128]
  by_cases hi : 128 * k < b.length
  · have := (h.cut (128 * k) b.length (Nat.le_refl _) (by omega)).take 128
    rw [if_neg (by omega), Nat.mul_one] at this
    exact this
  · rw [List.drop_of_length_le (by omega)]
    exact Octs.nil _ _

theorem eq_octs (A B : Option Addr) (l m : List UInt8) (n k c d : Nat) (r : Bool) (w : World) (hr : decide (l = m) = r) (hl : l.length = n) (hm : m.length = k) (h0 : 0 < n) (h1 : 0 < k) (hn : n ≤ 9223372036854775807) (hk : k ≤ 9223372036854775807) (hx : Octs w A l) (hy : Octs w B m) :
    Calls Try.prog 44 #[.slice A n c, .slice B k d] w fun e w' => e = .returned (.bool r) ∧ Ext w w' := by
  subst hl; subst hm
  refine (equal_octs A B l m c d w h0 h1 hn hk hx hy).mono ?_
  rintro e w' ⟨rfl, q, rfl⟩
  exact ⟨by rw [hr], (Ext.refl w).drewN q⟩

set_option maxRecDepth 100000 in
set_option maxHeartbeats 4000000 in
theorem f34_any (A : Option Addr) (b : List UInt8) (nb cb : Nat) (E N : Int) (w : World) (hb : b.length = nb) (hl : nb ≤ 6000) (hc : nb ≤ cb) (hx : Octs w A b) :
    Calls Try.prog 34 #[.slice A nb cb, .int .i64 E, .int .i64 N] w fun x w' => ∃ v, x = .returned (.tuple #[v, .int .i64 (((joinOf b E N).2 : Nat) : Int)]) ∧ Own w' w.heap.size 5 v (octs (joinOf b E N).1) ∧ Ext w w' := by
  obtain ⟨J, hJ⟩ : ∃ J, J = joinOf b E N := ⟨_, rfl⟩
  rw [← hJ]
  go_enter Try.func34, Try.ntmps34
  go_wp2
  go_loopw [8, 9] (fun v i wr => ∃ (k f : Nat) (l : List UInt8), i = .int .i64 k ∧ Own wr w.heap.size 5 v (octs l) ∧ Ext w wr ∧ joinAt b E N f k l = J ∧ 128 * k ≤ nb ∧ l.length ≤ 112 * k ∧ nb < 128 * (k + f)) (fun _ i _ => nb - (intOf i).toNat)
  case atStart => exact ⟨0, nb / 128 + 1, [], rfl, Own.nil _ _ _, Ext.refl _, by rw [hJ, joinOf, hb], by omega, by simp, by omega⟩
  case round =>
    obtain ⟨k, f, l, rfl, hown, hext, hjoin, hk, hll, hf⟩ := hrel
    clear hJ
    by_cases hend : 128 * (k + 1) ≤ nb
    · obtain ⟨f, rfl⟩ : ∃ f', f = f' + 1 := ⟨f - 1, by omega⟩
      have hsl : ((b.drop (128 * k)).take 128).length = (k + 1) * 128 - k * 128 := by rw [List.length_take, List.length_drop]; omega
      have hso := sector_octs (hx.ext hext) k
      have hg14 := f14_any (A.map (fun x => x.add (k * 128))) _ ((k + 1) * 128 - k * 128) (cb - k * 128) wr hsl (by omega) (by omega) hso
      cases hg : prtGet ((b.drop (128 * k)).take 128) with
      | none =>
        rw [joinAt_none hg] at hjoin
        subst hjoin
        rw [hg, Option.getD_none, Option.isSome_none] at hg14
        clear hg hsl hso hx
        go_wp2_with (go_at_call 14; refine hg14.mono ?_; clear hg14; rintro x w1 ⟨A1, m1, c1, rfl, hm1, hc1, y1, x1⟩)
        refine bodyPost_ret (results_tmp2 rfl _ _ _) rfl ?_
        exact ⟨_, rfl, Own.nil _ _ _, (hext.trans x1).alloc _⟩
      | some p =>
        have hid := prtGet_id hg
        have hdl := prtGet_data hg
        rw [hg, Option.getD_some, Option.isSome_some] at hg14
        by_cases he : p.epoch = E
        · by_cases hn : p.number = N
          · by_cases hi : p.index = (k : Int)
            · cases hfoot : p.foot with
              | false =>
                rw [joinAt_part (by omega) hg ⟨he, hn, hi⟩ hfoot] at hjoin
                have g1 : (p.epoch != E) = false := bne_eq_false_iff_eq.2 he
                have g2 : (p.number != N) = false := bne_eq_false_iff_eq.2 hn
                have g3 : (p.index != (k : Int)) = false := bne_eq_false_iff_eq.2 hi
                clear hg hsl hso he hn hi
                go_wp2_with first
                  | (go_at_call 14; refine hg14.mono ?_; clear hg14; rintro x w1 ⟨A1, m1, c1, rfl, hm1, hc1, y1, x1⟩)
                  | (at_builtin; refine wpList_appo rfl _ _ rfl w.heap.size _ l rfl ((hown.ext x1).alloc _) A1 m1 c1 p.data rfl hm1 (y1.alloc _) (by omega) (by have := hext.size; have := x1.size; simp; omega) ?_; intro v2 w2 o2 g2 _)
                refine ⟨⟨k + 1, f, l ++ p.data, val_int (by omega), o2, ?_, hjoin, by omega, by rw [List.length_append]; omega, by omega⟩, by simp [intOf]; omega⟩
                exact ((hext.trans x1).alloc _).grown g2 (fun q hq => ((hown.ext x1).block q hq).1)
              | true =>
                rw [joinAt_foot (by omega) hg ⟨he, hn, hi⟩ hfoot] at hjoin
                have g1 : (p.epoch != E) = false := bne_eq_false_iff_eq.2 he
                have g2 : (p.number != N) = false := bne_eq_false_iff_eq.2 hn
                have g3 : (p.index != (k : Int)) = false := bne_eq_false_iff_eq.2 hi
                rw [he, hn] at hid
                obtain ⟨A8, c8, rfl, hc8, y8⟩ := hown.octs_form
                clear hg hsl hso he hn hi
                by_cases hs : secs (l.length : Int) = 0
                · rw [if_neg (fun h => h.1 hs)] at hjoin
                  subst hjoin
                  go_wp2_with first
                    | (go_at_call 14; refine hg14.mono ?_; clear hg14; rintro x w1 ⟨A1, m1, c1, rfl, hm1, hc1, y1, x1⟩)
                    | (go_at_call 31; refine (f31_none E N A8 l.length c8 _ hs (by omega)).mono ?_; rintro x w2 ⟨rfl, x2⟩)
                  refine bodyPost_ret (results_tmp2 rfl _ _ _) rfl ?_
                  exact ⟨_, rfl, Own.nil _ _ _, ((hext.trans x1).alloc _).trans x2⟩
                · have h1 : 1 ≤ l.length := by
                    rcases Nat.lt_or_ge 0 l.length with h | h
                    · exact h
                    · exact absurd (by unfold secs; rw [if_pos (by omega)]) hs
                  obtain ⟨T, hT⟩ : ∃ T, T = b.take (128 * (k + 1)) := ⟨_, rfl⟩
                  have hTl : T.length = (k + 1) * 128 := by rw [hT, List.length_take]; omega
                  have hTo : ∀ W, Ext w W → Octs W A T := fun W h => by rw [hT]; exact (hx.ext h).take _
                  have hn5 := nsec_le l (by omega)
                  have hLl := length_cutOf hid l (by omega)
                  obtain ⟨L, hL⟩ : ∃ L, L = cutOf E N l := ⟨_, rfl⟩
                  have hcut := fun W (h : Ext wr W) => f31_right E N A8 l l.length c8 W hid rfl h1 (by omega) hc8 (y8.ext h)
                  rw [← hL] at hcut hLl
                  rw [← hT, ← hL] at hjoin
                  clear hT hL
                  by_cases heq : L = T
                  · rw [if_pos ⟨hs, heq⟩] at hjoin
                    subst hjoin
                    have hdec : decide (L = T) = true := decide_eq_true heq
                    clear heq
                    go_wp2_with first
                      | (go_at_call 14; refine hg14.mono ?_; clear hg14; rintro x w1 ⟨A1, m1, c1, rfl, hm1, hc1, y1, x1⟩)
                      | (go_at_call 31; refine (hcut _ (x1.alloc _)).mono ?_; clear hcut; rintro x w2 ⟨v2, rfl, o2, x2⟩; obtain ⟨A2, c2, rfl, hc2, y2⟩ := o2.octs_form; rw [hLl])
                      | (go_at_call 44; refine (eq_octs A2 A L T _ _ _ _ _ _ hdec hLl hTl (by omega) (by omega) (by omega) (by omega) y2 (hTo _ (((hext.trans x1).alloc _).trans x2))).mono ?_; rintro x w3 ⟨rfl, x3⟩)
                    refine bodyPost_ret (results_tmp2 rfl _ _ _) rfl ?_
                    exact ⟨_, by simp, hown.ext (((x1.alloc _).trans x2).trans x3), (((hext.trans x1).alloc _).trans x2).trans x3⟩
                  · rw [if_neg (fun h => heq h.2)] at hjoin
                    subst hjoin
                    have hdec : decide (L = T) = false := decide_eq_false heq
                    clear heq
                    go_wp2_with first
                      | (go_at_call 14; refine hg14.mono ?_; clear hg14; rintro x w1 ⟨A1, m1, c1, rfl, hm1, hc1, y1, x1⟩)
                      | (go_at_call 31; refine (hcut _ (x1.alloc _)).mono ?_; clear hcut; rintro x w2 ⟨v2, rfl, o2, x2⟩; obtain ⟨A2, c2, rfl, hc2, y2⟩ := o2.octs_form; rw [hLl])
                      | (go_at_call 44; refine (eq_octs A2 A L T _ _ _ _ _ _ hdec hLl hTl (by omega) (by omega) (by omega) (by omega) y2 (hTo _ (((hext.trans x1).alloc _).trans x2))).mono ?_; rintro x w3 ⟨rfl, x3⟩)
                    refine bodyPost_ret (results_tmp2 rfl _ _ _) rfl ?_
                    exact ⟨_, rfl, Own.nil _ _ _, (((hext.trans x1).alloc _).trans x2).trans x3⟩
            · rw [joinAt_other hg (fun h => hi h.2.2)] at hjoin
              subst hjoin
              have g1 : (p.index != (k : Int)) = true := bne_iff_ne.2 hi
              have g2 : (p.epoch != E) = false := bne_eq_false_iff_eq.2 he
              have g3 : (p.number != N) = false := bne_eq_false_iff_eq.2 hn
              clear he hn
              clear hg hsl hso hx
              go_wp2_with (go_at_call 14; refine hg14.mono ?_; clear hg14; rintro x w1 ⟨A1, m1, c1, rfl, hm1, hc1, y1, x1⟩)
              refine bodyPost_ret (results_tmp2 rfl _ _ _) rfl ?_
              exact ⟨_, rfl, Own.nil _ _ _, (hext.trans x1).alloc _⟩
          · rw [joinAt_other hg (fun h => hn h.2.1)] at hjoin
            subst hjoin
            have g1 : (p.number != N) = true := bne_iff_ne.2 hn
            have g2 : (p.epoch != E) = false := bne_eq_false_iff_eq.2 he
            clear he
            clear hg hsl hso hx
            go_wp2_with (go_at_call 14; refine hg14.mono ?_; clear hg14; rintro x w1 ⟨A1, m1, c1, rfl, hm1, hc1, y1, x1⟩)
            refine bodyPost_ret (results_tmp2 rfl _ _ _) rfl ?_
            exact ⟨_, rfl, Own.nil _ _ _, (hext.trans x1).alloc _⟩
        · rw [joinAt_other hg (fun h => he h.1)] at hjoin
          subst hjoin
          have g1 : (p.epoch != E) = true := bne_iff_ne.2 he
          clear hg hsl hso hx
          go_wp2_with (go_at_call 14; refine hg14.mono ?_; clear hg14; rintro x w1 ⟨A1, m1, c1, rfl, hm1, hc1, y1, x1⟩)
          refine bodyPost_ret (results_tmp2 rfl _ _ _) rfl ?_
          exact ⟨_, rfl, Own.nil _ _ _, (hext.trans x1).alloc _⟩
    · rw [joinAt_end (by omega)] at hjoin
      subst hjoin
      go_wp2
      refine bodyPost_ret (results_tmp2 rfl _ _ _) rfl ?_
      exact ⟨_, rfl, Own.nil _ _ _, hext⟩
end Go.Proofs.Ytanmjmeabcloiaa
namespace Go.Proofs.Ytanmjmeabcloiaa
open Go.RowKit
open Go.Proofs

theorem conv_fun (l : List UInt8) : ∃ (C : World → Nat) (F : World → World), (∀ W, (convert 9 22 (strOf l)).run Try.prog W = .ok (.slice (some ⟨W.heap.size, 0, none⟩) l.length (C W)) (F W)) ∧
    ∀ W, l.length ≤ C W ∧ Octs (F W) (some ⟨W.heap.size, 0, none⟩) l ∧ Ext W (F W) :=
  ⟨fun W => (conv_octs l W).choose, fun W => (conv_octs l W).choose_spec.choose, fun W => (conv_octs l W).choose_spec.choose_spec.1, fun W => (conv_octs l W).choose_spec.choose_spec.2⟩
theorem iwrap_in (n : Int) (h : -9223372036854775808 ≤ n ∧ n ≤ 9223372036854775807) : IntKind.i64.wrap n = n := by
  simp only [IntKind.wrap, IntKind.bits, IntKind.signed, Bool.true_and, Int.reducePow, Nat.reduceSub]
  split
  · rename_i g
    have := of_decide_eq_true g
    omega
  · rename_i g
    have : ¬ _ := fun k => g (decide_eq_true k)
    omega
theorem str_upto (l : List UInt8) (j : Nat) (hj : j ≤ l.length) (w : World) : (Instr.slice 9 (strOf l) none (some (.int .i64 (j : Int))) none).run Try.prog w = .ok (strOf (l.take j)) w := by
  have h := run_slice_string_h (P := Try.prog) w 9 ⟨l.toArray⟩ Try.underlying9 .i64 (j : Int) (by omega) (by show (j : Int) ≤ (l.toArray.size : Int); rw [List.size_toArray]; omega)
  rw [h, show ((j : Int).toNat) = j by omega, extract_mid l 0 j j (by omega)]
  rfl

set_option maxRecDepth 100000 in
set_option maxHeartbeats 8000000 in
theorem rjoin_any (b : List UInt8) (nb : Nat) (E N : Int) (w : World) (hb : b.length = nb) (hl : nb ≤ 6000) :
    Calls Try.prog 35 #[strOf b, .int .i64 E, .int .i64 N] w fun x w' => x = .returned (.tuple #[strOf (joinOf b E N).1, .int .i64 (((joinOf b E N).2 : Nat) : Int)]) ∧ Ext w w' := by
  obtain ⟨J, hJ⟩ : ∃ J, J = joinOf b E N := ⟨_, rfl⟩
  rw [← hJ]
  have j0 : joinAt b E N (nb / 128 + 1) 0 [] = J := by rw [hJ, joinOf, hb]
  clear hJ
  go_enter Try.func35, Try.ntmps35
  go_wp2
  go_loopw [8, 9] (fun v i wr => ∃ (k f : Nat) (l : List UInt8), i = .int .i64 k ∧ v = strOf l ∧ Ext w wr ∧ joinAt b E N f k l = J ∧ 128 * k ≤ nb ∧ l.length ≤ 112 * k ∧ nb < 128 * (k + f)) (fun _ i _ => nb - (intOf i).toNat)
  case atStart => exact ⟨0, nb / 128 + 1, [], rfl, rfl, Ext.refl _, j0, by omega, by simp, by omega⟩
  case round =>
    obtain ⟨k, f, l, rfl, rfl, hext, hjoin, hk, hll, hf⟩ := hrel
    clear j0
    by_cases hend : 128 * (k + 1) ≤ nb
    · obtain ⟨f, rfl⟩ : ∃ f', f = f' + 1 := ⟨f - 1, by omega⟩
      have hg15 := f15_any ((b.drop (128 * k)).take 128) wr
      have hmid : (Instr.slice 9 (strOf b) (some (.int .i64 (128 * (k : Int)))) (some (.int .i64 (128 * (k : Int) + 128))) none).run Try.prog wr = .ok (strOf ((b.drop (128 * k)).take 128)) wr := by
        have := str_mid b (128 * k) 128 (128 * k + 128) rfl (by omega) wr
        rw [show ((128 * k : Nat) : Int) = 128 * (k : Int) by omega, show ((128 * k + 128 : Nat) : Int) = 128 * (k : Int) + 128 by omega] at this
        exact this
      obtain ⟨S, hS⟩ : ∃ S, S = (b.drop (128 * k)).take 128 := ⟨_, rfl⟩
      rw [← hS] at hg15 hmid
      cases hg : prtGet S with
      | none =>
        rw [joinAt_none (by rw [← hS]; exact hg)] at hjoin
        subst hjoin
        rw [hg, Option.getD_none, Option.isSome_none] at hg15
        clear hg hS
        go_wp2_with (go_at_call 15; refine hg15.mono ?_; clear hg15; rintro x w1 ⟨A1, m1, c1, rfl, hm1, hc1, y1, x1⟩)
        refine bodyPost_ret (results_tmp2 rfl _ _ _) rfl ?_
        exact ⟨rfl, (hext.trans x1).alloc _⟩
      | some p =>
        have hid := prtGet_id hg
        have hdl := prtGet_data hg
        rw [hg, Option.getD_some, Option.isSome_some] at hg15
        rw [hS] at hg
        clear hS
        by_cases he : p.epoch = E
        · by_cases hn : p.number = N
          · by_cases hi : p.index = (k : Int)
            · cases hfoot : p.foot with
              | false =>
                rw [joinAt_part (by omega) hg ⟨he, hn, hi⟩ hfoot] at hjoin
                have g1 : (p.epoch != E) = false := bne_eq_false_iff_eq.2 he
                have g2 : (p.number != N) = false := bne_eq_false_iff_eq.2 hn
                have g3 : (p.index != (k : Int)) = false := bne_eq_false_iff_eq.2 hi
                have hT : strOf (l ++ p.data) = .string (⟨l.toArray⟩ ++ ⟨p.data.toArray⟩) := by rw [ByteArray.mk_append_mk]
                have HT := Lib.hid hT
                have HJ := Lib.hid hjoin
                clear hg he hn hi hT hjoin
                go_wp2_with (go_at_call 15; refine hg15.mono ?_; clear hg15; rintro x w1 ⟨A1, m1, c1, rfl, hm1, hc1, y1, x1⟩; have kk := conv_str A1 p.data m1 c1 (w1.alloc (.cells (prtCells p A1 m1 c1) 24)) hm1 (y1.alloc _); simp only [prtCells, hfoot] at kk)
                refine ⟨⟨k + 1, f, l ++ p.data, val_int (by omega), HT.out.symm, (hext.trans x1).alloc _, HJ.out, by omega, by rw [List.length_append]; omega, by omega⟩, by simp [intOf]; omega⟩
              | true =>
                rw [joinAt_foot (by omega) hg ⟨he, hn, hi⟩ hfoot] at hjoin
                have g1 : (p.epoch != E) = false := bne_eq_false_iff_eq.2 he
                have g2 : (p.number != N) = false := bne_eq_false_iff_eq.2 hn
                have g3 : (p.index != (k : Int)) = false := bne_eq_false_iff_eq.2 hi
                rw [he, hn] at hid
                have hll2 : l.length ≤ 112 * 60 := by omega
                have hsec := fun W => rsec_any (l.length : Int) W (by omega) (by omega)
                clear hg he hn hi hll
                by_cases hs : secs (l.length : Int) = 0
                · rw [if_neg (fun h => h.1 hs)] at hjoin
                  subst hjoin
                  rw [hs] at hsec
                  go_wp2_with (go_at_call 15; refine hg15.mono ?_; clear hg15; rintro x w1 ⟨A1, m1, c1, rfl, hm1, hc1, y1, x1⟩)
                  have X2 : Ext w (w1.alloc (.cells #[.bool true, .int .i64 p.epoch, .int .i64 p.number, .int .i64 p.index, .slice A1 m1 c1] 24)) := (hext.trans x1).alloc _
                  generalize w1.alloc (.cells #[.bool true, .int .i64 p.epoch, .int .i64 p.number, .int .i64 p.index, .slice A1 m1 c1] 24) = w2 at *
                  refine wp_region_held_drew (S := fun w' => Ext w2 w') (by kernel_rfl) ((Ext.refl _).drew) (fun hS => ?_)
                  refine takeH (i := 0) (v := ?_) rfl rfl (by kernel_rfl) (by kernel_rfl) (by kernel_rfl) (fun _ _ _ h => h) (Or.inl ⟨by kernel_rfl, ?_⟩) hS ?_
                  rotate_left 1
                  · (intro w' hS'; go_simp; try (with_reducible rfl))
                  simp only [List.setIfInBounds_toArray, List.set_cons_succ, List.set_cons_zero]
                  refine takeH (i := 1) (v := ?_) rfl rfl (by kernel_rfl) (by kernel_rfl) (by kernel_rfl) (fun _ _ _ h => h) (Or.inl ⟨by kernel_rfl, ?_⟩) hS ?_
                  rotate_left 1
                  · (intro w' hS'; go_simp; try (with_reducible rfl))
                  simp only [List.setIfInBounds_toArray, List.set_cons_succ, List.set_cons_zero]
                  refine wpAnyH_ready (rs := [2]) (by kernel_rfl) (by simp) ?_
                  refine AllReadyH.cons rfl (fun K hK => ?_) ?_
                  rotate_left 1
                  · exact AllReadyH.nil
                  go_simp
                  refine (hsec _).mono ?_; rintro x w3 ⟨rfl, rfl⟩
                  refine hK.out _ _ (hS) (fun hS => ?_)
                  clear hK K
                  refine takeH (i := 3) (v := ?_) rfl rfl (by kernel_rfl) (by kernel_rfl) (by kernel_rfl) (fun _ _ _ h => h) (Or.inl ⟨by kernel_rfl, ?_⟩) hS ?_
                  rotate_left 1
                  · (intro w' hS'; go_simp; try (with_reducible rfl))
                  simp only [List.setIfInBounds_toArray, List.set_cons_succ, List.set_cons_zero]
                  refine takeH (i := 4) (v := ?_) rfl rfl (by kernel_rfl) (by kernel_rfl) (by kernel_rfl) (fun _ _ _ h => h) (Or.inl ⟨by kernel_rfl, ?_⟩) hS ?_
                  rotate_left 1
                  · (intro w' hS'; go_simp; try (with_reducible rfl))
                  simp only [List.setIfInBounds_toArray, List.set_cons_succ, List.set_cons_zero]
                  refine takeH (i := 5) (v := undef) rfl rfl (by kernel_rfl) (by kernel_rfl) (by kernel_rfl) (fun _ _ _ h => h) (Or.inr ⟨by kernel_rfl, rfl⟩) hS ?_
                  simp only [List.setIfInBounds_toArray, List.set_cons_succ, List.set_cons_zero]
                  refine takeH (i := 6) (v := undef) rfl rfl (by kernel_rfl) (by kernel_rfl) (by kernel_rfl) (fun _ _ _ h => h) (Or.inr ⟨by kernel_rfl, rfl⟩) hS ?_
                  simp only [List.setIfInBounds_toArray, List.set_cons_succ, List.set_cons_zero]
                  refine takeH (i := 7) (v := undef) rfl rfl (by kernel_rfl) (by kernel_rfl) (by kernel_rfl) (fun _ _ _ h => h) (Or.inr ⟨by kernel_rfl, rfl⟩) hS ?_
                  simp only [List.setIfInBounds_toArray, List.set_cons_succ, List.set_cons_zero]
                  refine takeH (i := 8) (v := undef) rfl rfl (by kernel_rfl) (by kernel_rfl) (by kernel_rfl) (fun _ _ _ h => h) (Or.inr ⟨by kernel_rfl, rfl⟩) hS ?_
                  simp only [List.setIfInBounds_toArray, List.set_cons_succ, List.set_cons_zero]
                  refine takeH (i := 9) (v := undef) rfl rfl (by kernel_rfl) (by kernel_rfl) (by kernel_rfl) (fun _ _ _ h => h) (Or.inr ⟨by kernel_rfl, rfl⟩) hS ?_
                  simp only [List.setIfInBounds_toArray, List.set_cons_succ, List.set_cons_zero]
                  refine takeH (i := 10) (v := undef) rfl rfl (by kernel_rfl) (by kernel_rfl) (by kernel_rfl) (fun _ _ _ h => h) (Or.inr ⟨by kernel_rfl, rfl⟩) hS ?_
                  simp only [List.setIfInBounds_toArray, List.set_cons_succ, List.set_cons_zero]
                  refine takeH (i := 11) (v := undef) rfl rfl (by kernel_rfl) (by kernel_rfl) (by kernel_rfl) (fun _ _ _ h => h) (Or.inr ⟨by kernel_rfl, rfl⟩) hS ?_
                  simp only [List.setIfInBounds_toArray, List.set_cons_succ, List.set_cons_zero]
                  refine takeH (i := 12) (v := undef) rfl rfl (by kernel_rfl) (by kernel_rfl) (by kernel_rfl) (fun _ _ _ h => h) (Or.inr ⟨by kernel_rfl, rfl⟩) hS ?_
                  simp only [List.setIfInBounds_toArray, List.set_cons_succ, List.set_cons_zero]
                  refine takeH (i := 13) (v := undef) rfl rfl (by kernel_rfl) (by kernel_rfl) (by kernel_rfl) (fun _ _ _ h => h) (Or.inr ⟨by kernel_rfl, rfl⟩) hS ?_
                  simp only [List.setIfInBounds_toArray, List.set_cons_succ, List.set_cons_zero]
                  refine takeH (i := 14) (v := undef) rfl rfl (by kernel_rfl) (by kernel_rfl) (by kernel_rfl) (fun _ _ _ h => h) (Or.inr ⟨by kernel_rfl, rfl⟩) hS ?_
                  simp only [List.setIfInBounds_toArray, List.set_cons_succ, List.set_cons_zero]
                  refine takeH (i := 15) (v := undef) rfl rfl (by kernel_rfl) (by kernel_rfl) (by kernel_rfl) (fun _ _ _ h => h) (Or.inr ⟨by kernel_rfl, rfl⟩) hS ?_
                  simp only [List.setIfInBounds_toArray, List.set_cons_succ, List.set_cons_zero]
                  refine takeH (i := 16) (v := ?_) rfl rfl (by kernel_rfl) (by kernel_rfl) (by kernel_rfl) (fun _ _ _ h => h) (Or.inl ⟨by kernel_rfl, ?_⟩) hS ?_
                  rotate_left 1
                  · (intro w' hS'; go_simp; try (with_reducible rfl))
                  simp only [List.setIfInBounds_toArray, List.set_cons_succ, List.set_cons_zero]
                  refine wpAnyH_done (by kernel_rfl) ?_ _
                  go_wp2_with fail
                  refine bodyPost_ret (results_tmp2 rfl _ _ _) rfl ?_
                  exact ⟨rfl, X2.trans hS⟩
                · have h1 : 1 ≤ l.length := by
                    rcases Nat.lt_or_ge 0 l.length with h | h
                    · exact h
                    · exact absurd (by unfold secs; rw [if_pos (by omega)]) hs
                  have hs1 : (0 : Int) < secs (l.length : Int) := by have := secs_range (l.length : Int); omega
                  obtain ⟨s, hss⟩ : ∃ s, s = secs (l.length : Int) := ⟨_, rfl⟩
                  obtain ⟨T, hT⟩ : ∃ T, T = b.take (128 * (k + 1)) := ⟨_, rfl⟩
                  have hhi : ∀ W, (Instr.slice 9 (strOf b) none (some (.int .i64 (128 * (k : Int) + 128))) none).run Try.prog W = .ok (strOf T) W := fun W => by
                    have := str_upto b (128 * (k + 1)) (by omega) W
                    rw [show ((128 * (k + 1) : Nat) : Int) = 128 * (k : Int) + 128 by omega, ← hT] at this
                    exact this
                  obtain ⟨C, F, hcf, hcg⟩ := conv_fun l
                  have hcut := fun W => f32_right E N (some ⟨W.heap.size, 0, none⟩) l l.length (C W) (F W) hid rfl (by omega) (hcg W).1 (hcg W).2.1
                  obtain ⟨L, hL⟩ : ∃ L, L = cutOf E N l := ⟨_, rfl⟩
                  rw [← hL] at hcut
                  rw [← hss] at hsec hs1
                  have g4 : ((0 : Int) < s) = True := eq_true hs1
                  have g5 : IntKind.i64.wrap (128 * (k : Int)) = 128 * (k : Int) := iwrap_in _ (by omega)
                  have g6 : IntKind.i64.wrap (128 * (k : Int) + 128) = 128 * (k : Int) + 128 := iwrap_in _ (by omega)
                  clear hs1
                  rw [← hT, ← hL] at hjoin
                  clear hT hL
                  by_cases heq : L = T
                  · rw [if_pos ⟨hs, heq⟩] at hjoin
                    have hbq : (L == T) = true := beq_iff_eq.2 heq
                    have HJ := Lib.hid hjoin
                    clear heq hjoin hss hs hid hll2
                    go_wp2_with (go_at_call 15; refine hg15.mono ?_; clear hg15; rintro x w1 ⟨A1, m1, c1, rfl, hm1, hc1, y1, x1⟩)
                    have X2 : Ext w (w1.alloc (.cells #[.bool true, .int .i64 p.epoch, .int .i64 p.number, .int .i64 p.index, .slice A1 m1 c1] 24)) := (hext.trans x1).alloc _
                    generalize w1.alloc (.cells #[.bool true, .int .i64 p.epoch, .int .i64 p.number, .int .i64 p.index, .slice A1 m1 c1] 24) = w2 at *
                    refine wp_region_held_drew (S := fun w' => Ext w2 w') (by kernel_rfl) ((Ext.refl _).drew) (fun hS => ?_)
                    refine takeH (i := 0) (v := ?_) rfl rfl (by kernel_rfl) (by kernel_rfl) (by kernel_rfl) (fun _ _ _ h => h) (Or.inl ⟨by kernel_rfl, ?_⟩) hS ?_
                    rotate_left 1
                    · (intro w' hS'; go_simp; try (with_reducible rfl))
                    simp only [List.setIfInBounds_toArray, List.set_cons_succ, List.set_cons_zero]
                    refine takeH (i := 1) (v := ?_) rfl rfl (by kernel_rfl) (by kernel_rfl) (by kernel_rfl) (fun _ _ _ h => h) (Or.inl ⟨by kernel_rfl, ?_⟩) hS ?_
                    rotate_left 1
                    · (intro w' hS'; go_simp; try (with_reducible rfl))
                    simp only [List.setIfInBounds_toArray, List.set_cons_succ, List.set_cons_zero]
                    refine wpAnyH_ready (rs := [2]) (by kernel_rfl) (by simp) ?_
                    refine AllReadyH.cons rfl (fun K hK => ?_) ?_
                    rotate_left 1
                    · exact AllReadyH.nil
                    go_simp
                    refine (hsec _).mono ?_; rintro x w3 ⟨rfl, rfl⟩
                    refine hK.out _ _ (hS) (fun hS => ?_)
                    clear hK K
                    refine takeH (i := 3) (v := ?_) rfl rfl (by kernel_rfl) (by kernel_rfl) (by kernel_rfl) (fun _ _ _ h => h) (Or.inl ⟨by kernel_rfl, ?_⟩) hS ?_
                    rotate_left 1
                    · (intro w' hS'; go_simp; try (with_reducible rfl))
                    simp only [List.setIfInBounds_toArray, List.set_cons_succ, List.set_cons_zero]
                    refine takeH (i := 4) (v := ?_) rfl rfl (by kernel_rfl) (by kernel_rfl) (by kernel_rfl) (fun _ _ _ h => h) (Or.inl ⟨by kernel_rfl, ?_⟩) hS ?_
                    rotate_left 1
                    · (intro w' hS'; go_simp; try (with_reducible rfl))
                    simp only [List.setIfInBounds_toArray, List.set_cons_succ, List.set_cons_zero]
                    refine takeH (i := 5) (v := ?_) rfl rfl (by kernel_rfl) (by kernel_rfl) (by kernel_rfl) (fun _ _ _ h => h) (Or.inl ⟨by kernel_rfl, ?_⟩) hS ?_
                    rotate_left 1
                    · (intro w' hS'; go_simp; try (with_reducible rfl))
                    simp only [List.setIfInBounds_toArray, List.set_cons_succ, List.set_cons_zero]
                    refine takeH (i := 6) (v := ?_) rfl rfl (by kernel_rfl) (by kernel_rfl) (by kernel_rfl) (fun _ _ _ h => h) (Or.inl ⟨by kernel_rfl, ?_⟩) hS ?_
                    rotate_left 1
                    · (intro w' hS'; go_simp; try (with_reducible rfl))
                    simp only [List.setIfInBounds_toArray, List.set_cons_succ, List.set_cons_zero]
                    refine takeH (i := 7) (v := ?_) rfl rfl (by kernel_rfl) (by kernel_rfl) (by kernel_rfl) (fun _ _ _ h => h) (Or.inl ⟨by kernel_rfl, ?_⟩) hS ?_
                    rotate_left 1
                    · (intro w' hS'; go_simp; try (with_reducible rfl))
                    simp only [List.setIfInBounds_toArray, List.set_cons_succ, List.set_cons_zero]
                    refine takeH (i := 10) (v := ?_) rfl rfl (by kernel_rfl) (by kernel_rfl) (by kernel_rfl) (fun _ _ _ h => h) (Or.inl ⟨by kernel_rfl, ?_⟩) hS ?_
                    rotate_left 1
                    · (intro w' hS'; go_simp; try (with_reducible rfl))
                    simp only [List.setIfInBounds_toArray, List.set_cons_succ, List.set_cons_zero]
                    refine takeH (i := 11) (v := ?_) rfl rfl (by kernel_rfl) (by kernel_rfl) (by kernel_rfl) (fun _ _ _ h => h) (Or.inl ⟨by kernel_rfl, ?_⟩) hS ?_
                    rotate_left 1
                    · (intro w' hS'; go_simp; try (with_reducible rfl))
                    simp only [List.setIfInBounds_toArray, List.set_cons_succ, List.set_cons_zero]
                    refine takeH (i := 12) (v := ?_) rfl rfl (by kernel_rfl) (by kernel_rfl) (by kernel_rfl) (fun _ _ _ h => h) (Or.inl ⟨by kernel_rfl, ?_⟩) hS ?_
                    rotate_left 1
                    · (intro w' hS'; go_simp; try (with_reducible rfl))
                    simp only [List.setIfInBounds_toArray, List.set_cons_succ, List.set_cons_zero]
                    refine takeH (i := 13) (v := ?_) rfl rfl (by kernel_rfl) (by kernel_rfl) (by kernel_rfl) (fun _ _ _ h => h) (Or.inl ⟨by kernel_rfl, ?_⟩) hS ?_
                    rotate_left 1
                    · (intro w' hS'; go_simp; try (with_reducible rfl))
                    simp only [List.setIfInBounds_toArray, List.set_cons_succ, List.set_cons_zero]
                    refine takeH (i := 14) (v := ?_) rfl rfl (by kernel_rfl) (by kernel_rfl) (by kernel_rfl) (fun _ _ _ h => h) (Or.inl ⟨by kernel_rfl, ?_⟩) hS ?_
                    rotate_left 1
                    · (intro w' hS'; go_simp; try (with_reducible rfl))
                    simp only [List.setIfInBounds_toArray, List.set_cons_succ, List.set_cons_zero]
                    refine wpAnyH_ready (rs := [8]) (by kernel_rfl) (by simp) ?_
                    refine AllReadyH.cons rfl (fun K hK => ?_) ?_
                    rotate_left 1
                    · exact AllReadyH.nil
                    go_simp
                    refine hK.out _ _ (hS.trans (hcg _).2.2) (fun hS => ?_)
                    clear hK K
                    refine wpAnyH_ready (rs := [9]) (by kernel_rfl) (by simp) ?_
                    refine AllReadyH.cons rfl (fun K hK => ?_) ?_
                    rotate_left 1
                    · exact AllReadyH.nil
                    go_simp
                    refine (hcut w2.drew).mono ?_; rintro x w4 ⟨rfl, x4⟩
                    refine hK.out _ _ (hS.trans x4) (fun hS => ?_)
                    clear hK K
                    refine takeH (i := 15) (v := ?_) rfl rfl (by kernel_rfl) (by kernel_rfl) (by kernel_rfl) (fun _ _ _ h => h) (Or.inl ⟨by kernel_rfl, ?_⟩) hS ?_
                    rotate_left 1
                    · (intro w' hS'; go_simp; try (with_reducible rfl))
                    simp only [List.setIfInBounds_toArray, List.set_cons_succ, List.set_cons_zero]
                    refine takeH (i := 16) (v := ?_) rfl rfl (by kernel_rfl) (by kernel_rfl) (by kernel_rfl) (fun _ _ _ h => h) (Or.inl ⟨by kernel_rfl, ?_⟩) hS ?_
                    rotate_left 1
                    · (intro w' hS'; go_simp; try (with_reducible rfl))
                    simp only [List.setIfInBounds_toArray, List.set_cons_succ, List.set_cons_zero]
                    refine wpAnyH_done (by kernel_rfl) ?_ _
                    go_wp2_with fail
                    refine bodyPost_ret (results_tmp2 rfl _ _ _) rfl ?_
                    rw [← HJ.out]
                    exact ⟨by simp, X2.trans hS⟩
                  · rw [if_neg (fun h => heq h.2)] at hjoin
                    have hbq : (L == T) = false := beq_eq_false_iff_ne.2 heq
                    subst hjoin
                    clear heq hss hs hid hll2
                    go_wp2_with (go_at_call 15; refine hg15.mono ?_; clear hg15; rintro x w1 ⟨A1, m1, c1, rfl, hm1, hc1, y1, x1⟩)
                    have X2 : Ext w (w1.alloc (.cells #[.bool true, .int .i64 p.epoch, .int .i64 p.number, .int .i64 p.index, .slice A1 m1 c1] 24)) := (hext.trans x1).alloc _
                    generalize w1.alloc (.cells #[.bool true, .int .i64 p.epoch, .int .i64 p.number, .int .i64 p.index, .slice A1 m1 c1] 24) = w2 at *
                    refine wp_region_held_drew (S := fun w' => Ext w2 w') (by kernel_rfl) ((Ext.refl _).drew) (fun hS => ?_)
                    refine takeH (i := 0) (v := ?_) rfl rfl (by kernel_rfl) (by kernel_rfl) (by kernel_rfl) (fun _ _ _ h => h) (Or.inl ⟨by kernel_rfl, ?_⟩) hS ?_
                    rotate_left 1
                    · (intro w' hS'; go_simp; try (with_reducible rfl))
                    simp only [List.setIfInBounds_toArray, List.set_cons_succ, List.set_cons_zero]
                    refine takeH (i := 1) (v := ?_) rfl rfl (by kernel_rfl) (by kernel_rfl) (by kernel_rfl) (fun _ _ _ h => h) (Or.inl ⟨by kernel_rfl, ?_⟩) hS ?_
                    rotate_left 1
                    · (intro w' hS'; go_simp; try (with_reducible rfl))
                    simp only [List.setIfInBounds_toArray, List.set_cons_succ, List.set_cons_zero]
                    refine wpAnyH_ready (rs := [2]) (by kernel_rfl) (by simp) ?_
                    refine AllReadyH.cons rfl (fun K hK => ?_) ?_
                    rotate_left 1
                    · exact AllReadyH.nil
                    go_simp
                    refine (hsec _).mono ?_; rintro x w3 ⟨rfl, rfl⟩
                    refine hK.out _ _ (hS) (fun hS => ?_)
                    clear hK K
                    refine takeH (i := 3) (v := ?_) rfl rfl (by kernel_rfl) (by kernel_rfl) (by kernel_rfl) (fun _ _ _ h => h) (Or.inl ⟨by kernel_rfl, ?_⟩) hS ?_
                    rotate_left 1
                    · (intro w' hS'; go_simp; try (with_reducible rfl))
                    simp only [List.setIfInBounds_toArray, List.set_cons_succ, List.set_cons_zero]
                    refine takeH (i := 4) (v := ?_) rfl rfl (by kernel_rfl) (by kernel_rfl) (by kernel_rfl) (fun _ _ _ h => h) (Or.inl ⟨by kernel_rfl, ?_⟩) hS ?_
                    rotate_left 1
                    · (intro w' hS'; go_simp; try (with_reducible rfl))
                    simp only [List.setIfInBounds_toArray, List.set_cons_succ, List.set_cons_zero]
                    refine takeH (i := 5) (v := ?_) rfl rfl (by kernel_rfl) (by kernel_rfl) (by kernel_rfl) (fun _ _ _ h => h) (Or.inl ⟨by kernel_rfl, ?_⟩) hS ?_
                    rotate_left 1
                    · (intro w' hS'; go_simp; try (with_reducible rfl))
                    simp only [List.setIfInBounds_toArray, List.set_cons_succ, List.set_cons_zero]
                    refine takeH (i := 6) (v := ?_) rfl rfl (by kernel_rfl) (by kernel_rfl) (by kernel_rfl) (fun _ _ _ h => h) (Or.inl ⟨by kernel_rfl, ?_⟩) hS ?_
                    rotate_left 1
                    · (intro w' hS'; go_simp; try (with_reducible rfl))
                    simp only [List.setIfInBounds_toArray, List.set_cons_succ, List.set_cons_zero]
                    refine takeH (i := 7) (v := ?_) rfl rfl (by kernel_rfl) (by kernel_rfl) (by kernel_rfl) (fun _ _ _ h => h) (Or.inl ⟨by kernel_rfl, ?_⟩) hS ?_
                    rotate_left 1
                    · (intro w' hS'; go_simp; try (with_reducible rfl))
                    simp only [List.setIfInBounds_toArray, List.set_cons_succ, List.set_cons_zero]
                    refine takeH (i := 10) (v := ?_) rfl rfl (by kernel_rfl) (by kernel_rfl) (by kernel_rfl) (fun _ _ _ h => h) (Or.inl ⟨by kernel_rfl, ?_⟩) hS ?_
                    rotate_left 1
                    · (intro w' hS'; go_simp; try (with_reducible rfl))
                    simp only [List.setIfInBounds_toArray, List.set_cons_succ, List.set_cons_zero]
                    refine takeH (i := 11) (v := ?_) rfl rfl (by kernel_rfl) (by kernel_rfl) (by kernel_rfl) (fun _ _ _ h => h) (Or.inl ⟨by kernel_rfl, ?_⟩) hS ?_
                    rotate_left 1
                    · (intro w' hS'; go_simp; try (with_reducible rfl))
                    simp only [List.setIfInBounds_toArray, List.set_cons_succ, List.set_cons_zero]
                    refine takeH (i := 12) (v := ?_) rfl rfl (by kernel_rfl) (by kernel_rfl) (by kernel_rfl) (fun _ _ _ h => h) (Or.inl ⟨by kernel_rfl, ?_⟩) hS ?_
                    rotate_left 1
                    · (intro w' hS'; go_simp; try (with_reducible rfl))
                    simp only [List.setIfInBounds_toArray, List.set_cons_succ, List.set_cons_zero]
                    refine takeH (i := 13) (v := ?_) rfl rfl (by kernel_rfl) (by kernel_rfl) (by kernel_rfl) (fun _ _ _ h => h) (Or.inl ⟨by kernel_rfl, ?_⟩) hS ?_
                    rotate_left 1
                    · (intro w' hS'; go_simp; try (with_reducible rfl))
                    simp only [List.setIfInBounds_toArray, List.set_cons_succ, List.set_cons_zero]
                    refine takeH (i := 14) (v := ?_) rfl rfl (by kernel_rfl) (by kernel_rfl) (by kernel_rfl) (fun _ _ _ h => h) (Or.inl ⟨by kernel_rfl, ?_⟩) hS ?_
                    rotate_left 1
                    · (intro w' hS'; go_simp; try (with_reducible rfl))
                    simp only [List.setIfInBounds_toArray, List.set_cons_succ, List.set_cons_zero]
                    refine wpAnyH_ready (rs := [8]) (by kernel_rfl) (by simp) ?_
                    refine AllReadyH.cons rfl (fun K hK => ?_) ?_
                    rotate_left 1
                    · exact AllReadyH.nil
                    go_simp
                    refine hK.out _ _ (hS.trans (hcg _).2.2) (fun hS => ?_)
                    clear hK K
                    refine wpAnyH_ready (rs := [9]) (by kernel_rfl) (by simp) ?_
                    refine AllReadyH.cons rfl (fun K hK => ?_) ?_
                    rotate_left 1
                    · exact AllReadyH.nil
                    go_simp
                    refine (hcut w2.drew).mono ?_; rintro x w4 ⟨rfl, x4⟩
                    refine hK.out _ _ (hS.trans x4) (fun hS => ?_)
                    clear hK K
                    refine takeH (i := 15) (v := ?_) rfl rfl (by kernel_rfl) (by kernel_rfl) (by kernel_rfl) (fun _ _ _ h => h) (Or.inl ⟨by kernel_rfl, ?_⟩) hS ?_
                    rotate_left 1
                    · (intro w' hS'; go_simp; try (with_reducible rfl))
                    simp only [List.setIfInBounds_toArray, List.set_cons_succ, List.set_cons_zero]
                    refine takeH (i := 16) (v := ?_) rfl rfl (by kernel_rfl) (by kernel_rfl) (by kernel_rfl) (fun _ _ _ h => h) (Or.inl ⟨by kernel_rfl, ?_⟩) hS ?_
                    rotate_left 1
                    · (intro w' hS'; go_simp; try (with_reducible rfl))
                    simp only [List.setIfInBounds_toArray, List.set_cons_succ, List.set_cons_zero]
                    refine wpAnyH_done (by kernel_rfl) ?_ _
                    go_wp2_with fail
                    refine bodyPost_ret (results_tmp2 rfl _ _ _) rfl ?_
                    exact ⟨rfl, X2.trans hS⟩
            · rw [joinAt_other hg (fun h => hi h.2.2)] at hjoin
              subst hjoin
              have g1 : (p.index != (k : Int)) = true := bne_iff_ne.2 hi
              have g2 : (p.epoch != E) = false := bne_eq_false_iff_eq.2 he
              have g3 : (p.number != N) = false := bne_eq_false_iff_eq.2 hn
              clear he hn
              clear hg
              go_wp2_with (go_at_call 15; refine hg15.mono ?_; clear hg15; rintro x w1 ⟨A1, m1, c1, rfl, hm1, hc1, y1, x1⟩)
              refine bodyPost_ret (results_tmp2 rfl _ _ _) rfl ?_
              exact ⟨rfl, (hext.trans x1).alloc _⟩
          · rw [joinAt_other hg (fun h => hn h.2.1)] at hjoin
            subst hjoin
            have g1 : (p.number != N) = true := bne_iff_ne.2 hn
            have g2 : (p.epoch != E) = false := bne_eq_false_iff_eq.2 he
            clear he
            clear hg
            go_wp2_with (go_at_call 15; refine hg15.mono ?_; clear hg15; rintro x w1 ⟨A1, m1, c1, rfl, hm1, hc1, y1, x1⟩)
            refine bodyPost_ret (results_tmp2 rfl _ _ _) rfl ?_
            exact ⟨rfl, (hext.trans x1).alloc _⟩
        · rw [joinAt_other hg (fun h => he h.1)] at hjoin
          subst hjoin
          have g1 : (p.epoch != E) = true := bne_iff_ne.2 he
          clear hg
          go_wp2_with (go_at_call 15; refine hg15.mono ?_; clear hg15; rintro x w1 ⟨A1, m1, c1, rfl, hm1, hc1, y1, x1⟩)
          refine bodyPost_ret (results_tmp2 rfl _ _ _) rfl ?_
          exact ⟨rfl, (hext.trans x1).alloc _⟩
    · rw [joinAt_end (by omega)] at hjoin
      subst hjoin
      go_wp2
      refine bodyPost_ret (results_tmp2 rfl _ _ _) rfl ?_
      exact ⟨rfl, hext⟩
end Go.Proofs.Ytanmjmeabcloiaa
namespace Go.Proofs.Ytanmjmeabcloiaa
open Go.RowKit
open Go.Proofs

theorem two_cells {w : World} {q : Nat} {E N : Int} (hb : w.heap[q]? = some (.cells #[.int .i64 E, .int .i64 N] 52 (0, 0))) :
    w.cell? ⟨q, 0, none⟩ = some (.int .i64 E) ∧ w.cell? ⟨q, 1, none⟩ = some (.int .i64 N) := by
  refine ⟨?_, ?_⟩ <;> (rw [cell_of_row w q _ _ _ _ hb]; rfl)

set_option maxRecDepth 100000 in
set_option maxHeartbeats 4000000 in
theorem f10_walk (A : Option Addr) (l : List UInt8) (nb cb : Nat) (E N : Int) (w : World) (hl : l.length = nb) (hx : Octs w A l) :
    Calls Try.prog 10 #[.slice A nb cb, .agg #[.int .i64 E, .int .i64 N]] w fun e w' => e = .returned (.bool true) ∧ Ext w w' := by
  by_cases hbig : nb ≤ 3000
  · have g1 : ((3000 : Int) < (nb : Int)) = False := eq_false (by omega)
    have hb := heap_alloc_new w (.cells #[.int .i64 E, .int .i64 N] 52)
    have X1 : Ext w (w.alloc (.cells #[.int .i64 E, .int .i64 N] 52)) := (Ext.refl w).alloc _
    have y1 := hx.alloc (.cells #[.int .i64 E, .int .i64 N] 52)
    have H34 := fun A3 c3 W (k : nb ≤ c3) (z : Octs W A3 l) => f34_any A3 l nb c3 E N W hl (by omega) k z
    have H35 := fun W => rjoin_any l nb E N W hl (by omega)
    generalize joinOf l E N = J at H34 H35
    go_enter Try.func10, Try.ntmps10
    go_wp2_with fail
    obtain ⟨q, hq⟩ : ∃ q, w.heap.size = q := ⟨_, rfl⟩
    rw [hq] at hb ⊢
    clear hq hx
    generalize w.alloc (.cells #[.int .i64 E, .int .i64 N] 52) = w1 at *
    refine (awake06_any _).mono ?_
    rintro e w0 ⟨rfl, rfl⟩
    go_wp2_with (first
      | (at_builtin; refine wpList_up0 rfl (.tmp 18) (.tmp 19) rfl rfl _ rfl rfl A nb cb l rfl hl y1 (by omega) ?_; intro v3 w3 u3 x3; obtain ⟨A3, c3, rfl, k3, _, z3⟩ := u3.form; rw [hl] at k3 ⊢; obtain ⟨c0, c1⟩ := two_cells (x3.heap hb)))
    refine (H34 A3 c3 w3 k3 z3).mono ?_
    rintro e w4 ⟨v4, rfl, o4, x4⟩
    obtain ⟨A4, c4, rfl, k4, z4⟩ := o4.octs_form
    have X4 := x3.trans x4
    obtain ⟨c0, c1⟩ := two_cells (X4.heap hb)
    have q1 := conv_str A l nb cb w4 hl (y1.ext X4)
    go_wp2_with fail
    refine (H35 _).mono ?_
    rintro e w5 ⟨rfl, x5⟩
    have q2 := conv_str A l nb cb w5 hl (y1.ext (X4.trans x5))
    have q3 := conv_str A3 l nb c3 w5 hl (z3.ext (x4.trans x5))
    have q4 := conv_str A4 J.1 _ c4 w5 rfl (z4.ext x5)
    go_wp2_with fail
    go_ret
    exact ⟨rfl, X1.trans (X4.trans x5)⟩
  · have g1 : ((3000 : Int) < (nb : Int)) = True := eq_true (by omega)
    go_enter Try.func10, Try.ntmps10
    go_wp2_with (go_at_call 12; refine (awake06_any _).mono ?_; rintro e w0 ⟨rfl, rfl⟩)
    go_ret
    exact ⟨rfl, (Ext.refl w).alloc _⟩
end Go.Proofs.Ytanmjmeabcloiaa
