/- Superblocks (layer 5): two sectors of which one is of an elder generation; copying into a row. -/
import Derived.Test.YtanmjmeabcloiaaSa
import Derived.Laws.CopyOwn
namespace Go.Proofs.Ytanmjmeabcloiaa
open Go.RowKit
open Go.Proofs

theorem get_zero : supGet (zer 128) = none := by
  cases hg : supGet (zer 128) with
  | none => rfl
  | some s =>
    obtain ⟨_, h2, _⟩ := get_some hg
    have h3 := put_zero s
    rw [h2] at h3
    exact absurd (Option.some.inj h3) (by decide)
/-- The image, by the elder one's place. -/
def img (odd : Bool) (P q : List UInt8) : List UInt8 := if odd then q ++ P else P ++ q
theorem length_img (odd : Bool) (P q : List UInt8) (hP : P.length = 128) (hq : q.length = 128) : (img odd P q).length = 256 := by
  unfold img
  split <;> rw [List.length_append, hP, hq]
theorem newest_img (g : Int) (h1 : 1 ≤ g) (h2 : g ≤ 281474976710656) (odd : Bool) (ho : g % 2 = if odd then 1 else 0) (q : List UInt8) (hq : q.length = 128) :
    supNewest (img odd (supPut (plainS g)) q) = if odd then supNewer (supPick (supGet q) 0) (some (plainS g)) else supNewer (some (plainS g)) (supPick (supGet q) 1) := by
  have hr := right_plain g h1 h2
  have hg := get_put (plainS g) hr (by show (0 : Nat) < 4294967296; decide)
  rw [supNewest, if_pos (length_img odd _ q (length_supPut _) hq)]
  cases odd with
  | true =>
    rw [if_pos rfl] at ho
    rw [img, if_pos rfl, if_pos rfl, ← hq, List.take_left, List.drop_left, hg]
    have : supPick (some (plainS g)) 1 = some (plainS g) := by
      show (if g % 2 = 1 then some (plainS g) else none) = _
      rw [if_pos ho]
    rw [this]
  | false =>
    have ho : g % 2 = 0 := ho
    rw [img, if_neg (by decide), if_neg (by decide), take_put, drop_put, hg]
    have : supPick (some (plainS g)) 0 = some (plainS g) := by
      show (if g % 2 = 0 then some (plainS g) else none) = _
      rw [if_pos ho]
    rw [this]
theorem img_none (g : Int) (h1 : 1 ≤ g) (h2 : g ≤ 281474976710656) (odd : Bool) (ho : g % 2 = if odd then 1 else 0) (q : List UInt8) (hq : q.length = 128) (hn : supGet q = none) :
    supNewest (img odd (supPut (plainS g)) q) = some (plainS g) := by
  rw [newest_img g h1 h2 odd ho q hq, hn]
  cases odd <;> rfl
theorem img_some (g : Int) (h1 : 1 ≤ g) (h2 : g ≤ 281474976710656) (odd : Bool) (ho : g % 2 = if odd then 1 else 0) (q : List UInt8) (hq : q.length = 128) (s : Sup) (hn : supGet q = some s) (hs : s.gen = g + 1) :
    supNewest (img odd (supPut (plainS g)) q) = some s := by
  rw [newest_img g h1 h2 odd ho q hq, hn]
  cases odd with
  | true =>
    have ho : g % 2 = 1 := ho
    have : supPick (some s) 0 = some s := by
      show (if s.gen % 2 = 0 then some s else none) = _
      rw [if_pos (by omega)]
    rw [if_pos rfl, this]
    show (if s.gen < g then some (plainS g) else some s) = some s
    rw [if_neg (by omega)]
  | false =>
    have ho : g % 2 = 0 := ho
    have : supPick (some s) 1 = some s := by
      show (if s.gen % 2 = 1 then some s else none) = _
      rw [if_pos (by omega)]
    rw [if_neg (by decide), this]
    show (if g < s.gen then some s else some (plainS g)) = some s
    rw [if_pos (by omega)]
theorem splice_right (P r q : List UInt8) (hP : P.length = 128) (_ : q.length ≤ r.length) : splice (P ++ r) 128 q = P ++ (q ++ r.drop q.length) := by
  rw [splice, ← hP, List.take_left, List.drop_append, List.drop_eq_nil_of_le (by omega), List.nil_append, show P.length + q.length - P.length = q.length by omega]
theorem splice_left (P r q : List UInt8) (hq : q.length ≤ r.length) : splice (r ++ P) 0 q = (q ++ r.drop q.length) ++ P := by
  rw [splice, List.take_zero, List.nil_append, Nat.zero_add, List.drop_append_of_le_length hq, List.append_assoc]
theorem splice_octs (L : List UInt8) (i : Nat) (q : List UInt8) : splice (octs L) i (octs q) = octs (splice L i q) := by
  simp [splice, octs]
/-- Into the other half. -/
theorem splice_img (odd : Bool) (P r q : List UInt8) (hP : P.length = 128) (hq : q.length ≤ r.length) : splice (img odd P r) (if odd then 0 else 128) q = img odd P (q ++ r.drop q.length) := by
  cases odd with
  | true => exact splice_left P r q hq
  | false => exact splice_right P r q hP hq
theorem zer_split : zer 256 = zer 128 ++ zer 128 := by rw [zer, zer, List.replicate_append_replicate]
theorem splice_first (odd : Bool) (P : List UInt8) (hP : P.length = 128) : splice (zer 256) (if odd then 128 else 0) P = img odd P (zer 128) := by
  have hz : (zer 128).drop 128 = [] := List.drop_eq_nil_of_le (by rw [length_zer]; exact Nat.le_refl _)
  rw [zer_split]
  cases odd with
  | true =>
    have := splice_right (zer 128) (zer 128) P (length_zer _) (by rw [length_zer, hP]; exact Nat.le_refl _)
    rw [hP, hz, List.append_nil] at this
    exact this
  | false =>
    have := splice_left (zer 128) (zer 128) P (by rw [length_zer, hP]; exact Nat.le_refl _)
    rw [hP, hz, List.append_nil] at this
    exact this

section
variable {w : World} {ops : Array Oper} {rest : List Oper} {o : Oper} {a : Act} {Q : Exit → Act → World → Prop}
theorem upd_setRow (g : Nat) (cs : Array Value) (w : World) : Upd (fun b => b = g) w (w.setRow g cs) :=
  ⟨rfl, rfl, rfl, by simp [World.setRow], fun k _ hk => setRow_other w g k cs hk⟩
theorem size5 : (Try.prog.info? 5).map (·.size) = some 1 := by kernel_rfl
/-- 'copy' of octets into a row that is known whole. -/
theorem wpList_copy_upd (hgd : o.guard = none) (d s : Operand) (ho : o.op = .call { callee := .builtin .copy, args := #[d, s], argTypes := #[22, 22] })
    (dp sp : Option Addr) (dLen dCap sLen sCap : Nat) (hd : a.eval d = .slice dp dLen dCap) (hs : a.eval s = .slice sp sLen sCap)
    (g off : Nat) (L : List UInt8) (hg : w.heap[g]? = some (.cells (octs L).toArray 5 (0, 0))) (q : List UInt8) (hq : q.length = sLen) (hle : sLen ≤ dLen)
    (hpos : 0 < q.length → dp = some ⟨g, off, none⟩) (hx : Octs w sp q) (hfit : off + q.length ≤ L.length)
    (h : ∀ w', w'.heap[g]? = some (.cells (octs (splice L off q)).toArray 5 (0, 0)) → Upd (fun b => b = g) w w' → wpList Try.prog ops Q rest (a.put o.dst (goInt q.length)) w') :
    wpList Try.prog ops Q (o :: rest) a w := by
  subst hq
  by_cases h0 : q.length = 0
  · obtain rfl : q = [] := List.eq_nil_of_length_eq_zero h0
    refine wpList_copy_nothing hgd d s _ _ ho 5 Try.underlying22 size5 dp sp dLen dCap _ sCap hd hs (by simp) ?_
    exact h w (by simpa [splice] using hg) (Upd.refl _ _)
  · have hdp := hpos (by omega)
    subst hdp
    obtain ⟨b, o2, rfl, _⟩ := hx (by rw [length_octs]; omega)
    have hn := Cells.news hx rfl (by rw [length_octs]; omega)
    refine wpList_copy_own hgd d s _ _ ho 5 Try.underlying22 size5 g off dLen dCap _ _ sCap hd hs (octs L).toArray 5 hg (octs q) (by rw [length_octs]; exact (Nat.min_eq_left hle).symm) hn (by rw [length_octs, List.size_toArray, length_octs]; exact hfit) (octs_one q) ?_
    rw [length_octs]
    refine h _ ?_ (upd_setRow g _ w)
    have e : (octs L).take off ++ (octs q ++ (octs L).drop (off + q.length)) = octs (splice L off q) := by
      rw [← splice_octs, splice, length_octs]
    rw [← e]
    exact setRow_heap w g _ _ 5 _ hg
theorem step_copy_upd {K : Act → World → Prop} {E : Prop} (hgd : o.guard = none) (d s : Operand) (ho : o.op = .call { callee := .builtin .copy, args := #[d, s], argTypes := #[22, 22] })
    (dp sp : Option Addr) (dLen dCap sLen sCap : Nat) (hd : a.eval d = .slice dp dLen dCap) (hs : a.eval s = .slice sp sLen sCap)
    (g off : Nat) (L : List UInt8) (hg : w.heap[g]? = some (.cells (octs L).toArray 5 (0, 0))) (q : List UInt8) (hq : q.length = sLen) (hle : sLen ≤ dLen)
    (hpos : 0 < q.length → dp = some ⟨g, off, none⟩) (hx : Octs w sp q) (hfit : off + q.length ≤ L.length)
    (h : ∀ w', w'.heap[g]? = some (.cells (octs (splice L off q)).toArray 5 (0, 0)) → Upd (fun b => b = g) w w' → K (a.put o.dst (goInt q.length)) w') :
    if Region.wanted o (yielded ops a.tmps) = true then Oper.wp Try.prog o a w K Q else E := by
  subst hq
  have hw : Region.wanted o (yielded ops a.tmps) = true := by simp [Region.wanted, hgd]
  rw [if_pos hw]
  by_cases h0 : q.length = 0
  · obtain rfl : q = [] := List.eq_nil_of_length_eq_zero h0
    have hrun := run_copy_none (P := Try.prog) w 22 22 o.type 5 dp sp dLen dCap 0 sCap Try.underlying22 size5 (by simp)
    unfold Oper.wp
    simp [execOp, ho, resolve, invoke, builtin, hd, hs, hrun, Result.andThen]
    exact h w (by simpa [splice] using hg) (Upd.refl _ _)
  · have hdp := hpos (by omega)
    subst hdp
    obtain ⟨b, o2, rfl, _⟩ := hx (by rw [length_octs]; omega)
    have hn := Cells.news hx rfl (by rw [length_octs]; omega)
    have hrun := run_copy_row (P := Try.prog) w 22 22 o.type 5 g off dLen dCap _ q.length sCap (octs L).toArray 5 (octs q) Try.underlying22 size5 hg (by rw [length_octs]; exact (Nat.min_eq_left hle).symm) hn (by rw [length_octs, List.size_toArray, length_octs]; exact hfit) (octs_one q)
    unfold Oper.wp
    simp [execOp, ho, resolve, invoke, builtin, hd, hs, hrun, Result.andThen]
    refine h _ ?_ (upd_setRow g _ w)
    have e : (octs L).take off ++ (octs q ++ (octs L).drop (off + q.length)) = octs (splice L off q) := by
      rw [← splice_octs, splice, length_octs]
    have := setRow_heap w g _ ((octs L).take off ++ (octs q ++ (octs L).drop (off + q.length))).toArray 5 _ hg
    rw [e] at this
    simpa [e] using this
end
end Go.Proofs.Ytanmjmeabcloiaa
