/- DiskTorn: what is on the disk. -/
import Derived.Test.YtgpnmmgoachajaaEa
namespace Go.Proofs.Ytgpnmmgoachajaa
open Go.RowKit
open Go.Proofs

/-- A sector of one octet. -/
def allOf (a : UInt8) : List UInt8 := List.replicate 128 a
theorem length_allOf (a : UInt8) : (allOf a).length = 128 := List.length_replicate ..
def tq (a : UInt8) : Nat → Dk
  | 0 => dkNew 4
  | i + 1 => dkWrite (tq a i) i (allOf a)
theorem tq_form (a : UInt8) : ∀ i, tq a i = ⟨(dkNew 4).safe, (List.range i).map (fun j => (j, allOf a)), -1, (i : Int)⟩
  | 0 => rfl
  | i + 1 => by
    rw [tq, dkWrite_one _ _ _ (length_allOf a), tq_form a i, List.range_succ, List.map_append]
    rfl
theorem tq_flush (a : UInt8) : dkFlush (tq a 4) = ⟨List.replicate 4 (allOf a), [], -1, 4⟩ := by
  rw [tq_form]
  generalize allOf a = S
  rfl
def tornS (a b : UInt8) (n : Nat) : Dk := ⟨List.replicate 4 (allOf a), [(n, allOf b)], -1, 5⟩
theorem torn_write (a b : UInt8) (n : Nat) : dkWrite (dkFlush (tq a 4)) n (allOf b) = tornS a b n := by
  rw [dkWrite_one _ _ _ (length_allOf b), tq_flush]
  rfl
def tornF (a b : UInt8) (n : Nat) (y : Int) : List (List UInt8) := if 0 < y ∧ y < 128 then (List.replicate 4 (allOf a)).set n ((allOf b).take y.toNat ++ (allOf a).drop y.toNat) else List.replicate 4 (allOf a)
theorem torn_crash (a b : UInt8) (n : Nat) (hn : n < 4) (y : Int) : crashTo [] 0 y 0 (tornS a b n).safe (tornS a b n).queue = (tornF a b n y, 0) := by
  have hg : (List.replicate 4 (allOf a)).getD n [] = allOf a := by rw [List.getD_eq_getElem?_getD, List.getElem?_replicate, if_pos hn]; rfl
  unfold tornS tornF
  show crashTo [] 0 y 0 (List.replicate 4 (allOf a)) [(n, allOf b)] = _
  rw [crashTo, if_neg (by simp)]
  by_cases h : 0 < y ∧ y < 128
  · rw [if_pos ⟨rfl, h⟩, if_pos h]
    show crashTo [] 0 y 1 ((List.replicate 4 (allOf a)).set n ((allOf b).take y.toNat ++ ((List.replicate 4 (allOf a)).getD n []).drop y.toNat)) [] = _
    rw [hg]
    rfl
  · rw [if_neg (fun x => h x.2), if_neg h]
    rfl
theorem image_flat (s : Dk) (hq : s.queue = []) : dkImage s = s.safe.flatten := by
  unfold dkImage
  have h : (List.range s.safe.length).map (seeAt s) = s.safe := by
    apply List.ext_getElem?
    intro i
    rw [List.getElem?_map]
    by_cases hi : i < s.safe.length
    · rw [List.getElem?_range hi, List.getElem?_eq_getElem hi]
      show some (seeAt s i) = _
      unfold seeAt
      rw [hq, lastAt_nil, Option.getD_none, List.getD_eq_getElem?_getD, List.getElem?_eq_getElem hi]
      rfl
    · rw [List.getElem?_eq_none (by rw [List.length_range]; omega), List.getElem?_eq_none (by omega)]
      rfl
  rw [List.flatMap_def, h]
theorem flat_get (n : Nat) (ls : List (List UInt8)) (i r : Nat) (x : List UInt8) (hl : ∀ x ∈ ls, x.length = n) (h : ls[i]? = some x) (hr : r < n) : ls.flatten[n * i + r]? = x[r]? := by
  have := flat_at n ls i x hl h
  rw [← this, List.getElem?_take, if_pos hr, List.getElem?_drop]
theorem torn_at (a b : UInt8) (n : Nat) (hn : n < 4) (y : Int) (k : Nat) (hk : k < 512) :
    (dkImage (dkCrash (tornS a b n) [] 0 y))[k]? = some (if k / 128 = n ∧ 1 ≤ y ∧ y ≤ 127 ∧ ((k % 128 : Nat) : Int) < y then b else a) := by
  rw [image_flat _ rfl]
  have hs : (dkCrash (tornS a b n) [] 0 y).safe = tornF a b n y := by
    show (crashTo [] 0 y 0 (tornS a b n).safe (tornS a b n).queue).1 = _
    rw [torn_crash a b n hn y]
  rw [hs, show k = 128 * (k / 128) + k % 128 by omega]
  have hk4 : k / 128 < 4 := by omega
  have hr : k % 128 < 128 := Nat.mod_lt _ (by decide)
  have e1 : (128 * (k / 128) + k % 128) / 128 = k / 128 := by omega
  have e2 : (128 * (k / 128) + k % 128) % 128 = k % 128 := by omega
  rw [e1, e2]
  generalize k / 128 = i at hk4
  generalize k % 128 = r at hr
  have hA := length_allOf a
  have hB := length_allOf b
  unfold tornF
  by_cases h : 0 < y ∧ y < 128
  · rw [if_pos h]
    have hm : ((allOf b).take y.toNat ++ (allOf a).drop y.toNat).length = 128 := by rw [List.length_append, List.length_take, List.length_drop, hA, hB]; omega
    have hl : ∀ x ∈ (List.replicate 4 (allOf a)).set n ((allOf b).take y.toNat ++ (allOf a).drop y.toNat), x.length = 128 := safe_set (fun x hx => by rw [List.eq_of_mem_replicate hx]; exact hA) _ _ hm
    by_cases hin : i = n
    · subst hin
      rw [flat_get 128 _ i r _ hl (by rw [List.getElem?_set_self (by rw [List.length_replicate]; exact hn)]) hr]
      by_cases hy : (r : Int) < y
      · rw [if_pos ⟨rfl, by omega, by omega, hy⟩, List.getElem?_append_left (by rw [List.length_take, hB]; omega), List.getElem?_take, if_pos (by omega)]
        exact List.getElem?_replicate_of_lt hr
      · rw [if_neg (fun x => hy x.2.2.2), List.getElem?_append_right (by rw [List.length_take, hB]; omega), List.length_take, hB, List.getElem?_drop]
        exact List.getElem?_replicate_of_lt (by omega)
    · rw [if_neg (fun x => hin x.1), flat_get 128 _ i r (allOf a) hl (by rw [List.getElem?_set_ne (fun e => hin e.symm)]; exact List.getElem?_replicate_of_lt hk4) hr]
      exact List.getElem?_replicate_of_lt hr
  · rw [if_neg h, if_neg (fun x => h ⟨by omega, by omega⟩), flat_get 128 _ i r (allOf a) (fun x hx => by rw [List.eq_of_mem_replicate hx]; exact hA) (List.getElem?_replicate_of_lt hk4) hr]
    exact List.getElem?_replicate_of_lt hr
theorem torn_len (a b : UInt8) (n : Nat) (hn : n < 4) (y : Int) : (dkImage (dkCrash (tornS a b n) [] 0 y)).length = 512 := by
  rcases Nat.lt_trichotomy (dkImage (dkCrash (tornS a b n) [] 0 y)).length 512 with h | h | h
  · have := torn_at a b n hn y _ h
    rw [List.getElem?_eq_none (Nat.le_refl _)] at this
    cases this
  · exact h
  · have hok : DkOk (tornS a b n) := ⟨fun x hx => by rw [List.eq_of_mem_replicate hx]; exact length_allOf a, fun q hq => by
      have : q = (n, allOf b) := by simpa [tornS] using hq
      rw [this]
      exact ⟨by show n < (List.replicate 4 (allOf a)).length; rw [List.length_replicate]; exact hn, length_allOf b⟩⟩
    have := length_dkSecs (dkOk_crash hok [] 0 y) 0 _ (Nat.le_of_eq (Nat.zero_add _))
    rw [← dkImage_secs] at this
    have h4 : (dkCrash (tornS a b n) [] 0 y).safe.length = 4 := length_crashTo [] 0 y _ 0 _
    rw [h4] at this
    exact this
/-- A sector being filled. -/
def fillOf (a : UInt8) (k : Nat) : List UInt8 := List.replicate k a ++ List.replicate (128 - k) 0
theorem length_fillOf (a : UInt8) (k : Nat) (h : k ≤ 128) : (fillOf a k).length = 128 := by simp [fillOf]; omega
theorem fill_none (a : UInt8) : zeros 128 = (octs (fillOf a 0)).toArray := by
  apply Array.toList_inj.1
  rw [zeros_list]
  rfl
theorem fill_set (a : UInt8) (k : Nat) (h : k < 128) : (octs (fillOf a k)).toArray.setIfInBounds k (.int .u8 ((a.toNat : Nat) : Int)) = (octs (fillOf a (k + 1))).toArray := by
  apply Array.toList_inj.1
  rw [Array.toList_setIfInBounds]
  have e : (octs (fillOf a k)).set k (.int .u8 ((a.toNat : Nat) : Int)) = octs ((fillOf a k).set k a) := by simp [octs, List.map_set, oct]
  show (octs (fillOf a k)).set k (.int .u8 ((a.toNat : Nat) : Int)) = octs (fillOf a (k + 1))
  rw [e]
  congr 1
  unfold fillOf
  rw [List.set_append_right _ _ (by rw [List.length_replicate]; exact Nat.le_refl _), List.length_replicate, Nat.sub_self, show 128 - k = (128 - (k + 1)) + 1 by omega, List.replicate_succ, List.set_cons_zero, List.replicate_succ', List.append_assoc]
  rfl
theorem fill_at (a : UInt8) (k : Nat) (h : k < 128) : (octs (fillOf a k)).toArray[k]? = some (.int .u8 0) := by
  rw [List.getElem?_toArray, octs_get _ k (by rw [length_fillOf a k (by omega)]; exact h)]
  have : (fillOf a k)[k]'(by rw [length_fillOf a k (by omega)]; exact h) = 0 := by
    unfold fillOf
    rw [List.getElem_append_right (by rw [List.length_replicate]; exact Nat.le_refl _)]
    exact List.getElem_replicate _
  rw [this]
  rfl
theorem fill_all (a : UInt8) : fillOf a 128 = allOf a := by unfold fillOf allOf; rw [Nat.sub_self]; exact List.append_nil _
/-- What is kept from changes stays a disk. -/
theorem Disk.upd {K F : Nat → Prop} {w w' : World} {p : Nat} {s : Dk} (h : Disk K w p s) (u : Upd F w w') (k : ∀ b, F b → K b) : Disk K w' p s := by
  obtain ⟨S, M, qv, h, g⟩ := h
  have n := fun b (hb : dkB p S M qv b) (x : F b) => g b hb (k b x)
  exact ⟨S, M, qv, h.keep (u.block p h.lt.1 (n p (.inl rfl))) (u.block S h.lt.2.1 (n S (.inr (.inl rfl)))) (u.block M h.lt.2.2.1 (n M (.inr (.inr (.inl rfl))))) (fun b e => u.block b (h.lt.2.2.2 b e) (n b (.inr (.inr (.inr e))))), g⟩
end Go.Proofs.Ytgpnmmgoachajaa
