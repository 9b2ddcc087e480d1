/- The disk in memory: a sector as a value; the map of what was seen; the rows of sectors and of writes that wait. -/
import Derived.Test.YtgpnmmgoachajaaDk
import Derived.Test.YtgpnmmgoachajaaMine
import Derived.Deep.MidRow
import Derived.Maps.OwnSet
import Derived.Maps.OwnIn
import Derived.Maps.OwnOps
namespace Go.Proofs.Ytgpnmmgoachajaa
open Go.RowKit
open Go.Proofs

theorem oct_inj {a b : UInt8} (h : oct a = oct b) : a = b := by
  injection h with _ h
  exact UInt8.toNat_inj.1 (by omega)
theorem octs_injD : ∀ {l m : List UInt8}, octs l = octs m → l = m
  | [], [], _ => rfl
  | [], _ :: _, h => by cases h
  | _ :: _, [], h => by cases h
  | a :: l, b :: m, h => by
    have h' : oct a :: octs l = oct b :: octs m := h
    injection h' with h1 h2
    rw [oct_inj h1, octs_injD h2]
/-- A sector's octets as a value. -/
abbrev secV (l : List UInt8) : Value := .agg (octs l).toArray
theorem secV_inj {l m : List UInt8} (h : secV l = secV m) : l = m := by
  injection h with h
  have := congrArg Array.toList h
  exact octs_injD (by simpa using this)
open Classical in
/-- How such a value reads. -/
noncomputable def secR (v : Value) : Option (DataW Unit × List MemPlace) := if h : ∃ l : List UInt8, v = secV l then some (.lit (.string h.choose), []) else none
theorem secR_mk (l : List UInt8) : secR (secV l) = some (.lit (.string l), []) := by
  have h : ∃ m : List UInt8, secV l = secV m := ⟨l, rfl⟩
  unfold secR
  rw [dif_pos h, ← secV_inj h.choose_spec]
theorem secR_inv {v : Value} {d : DataW Unit} {ps : List MemPlace} (h : secR v = some (d, ps)) : ∃ l, v = secV l ∧ d = .lit (.string l) := by
  unfold secR at h
  split at h
  · rename_i g
    injection h with h
    injection h with h1 h2
    exact ⟨g.choose, g.choose_spec, h1.symm⟩
  · cases h

set_option maxRecDepth 100000 in
theorem zero_sec (w : World) : (zeroValue 91).run Try.prog w = .ok (secV (List.replicate 128 0)) w := by kernel_rfl
theorem zero_ex : ∃ Z : List UInt8, Z = List.replicate 128 0 ∧ ∀ w, (zeroValue 91).run Try.prog w = .ok (secV Z) w := ⟨_, rfl, zero_sec⟩
theorem key_int (a : Nat) (h : a < 9223372036854775808) : keyOf Try.prog 3 (.int .i64 (a : Int)) = some (.int .i64 (a : Int)) :=
  Maps.keyOf_int_mk Try.underlying3 (by simp [Lit.wf, IntKind.min, IntKind.max, IntKind.signed, IntKind.bits]; omega)
theorem keyed3 : Maps.Keyed Try.prog 3 := Maps.int_keyed Try.underlying3

/-- The map holds the latest write that waits, sector by sector. -/
def Seen (w : World) (M : Nat) (q : List (Nat × List UInt8)) : Prop :=
  ∃ D, w.ownsMap Try.prog 3 secR M q.length D ∧ ∀ a : Nat, a < 9223372036854775808 → Maps.has D (.int .i64 (a : Int)) = (lastAt q a).isSome ∧ ∀ z, D.atKey (.int .i64 (a : Int)) z = (lastAt q a).elim z (fun l => .lit (.string l))
section
variable {w w' : World} {M : Nat} {q : List (Nat × List UInt8)}
theorem Seen.lt (h : Seen w M q) : M < w.heap.size := h.choose_spec.1.lt
theorem Seen.kept (h : Seen w M q) (k : w'.heap[M]? = w.heap[M]?) : Seen w' M q := by
  obtain ⟨D, ⟨es, clock, hb, r⟩, h2⟩ := h
  exact ⟨D, ⟨es, clock, k.trans hb, r⟩, h2⟩
theorem Seen.ext (h : Seen w M q) (x : Ext w w') : Seen w' M q := h.kept (Below.block x M h.lt)
theorem Seen.upd {F : Nat → Prop} (h : Seen w M q) (x : Upd F w w') (hf : ¬ F M) : Seen w' M q := h.kept (x.block M h.lt hf)
theorem Seen.new (w : World) : Seen (w.alloc (.map #[] 0)) w.heap.size [] :=
  ⟨.map [], World.ownsMap_made w Try.prog 3 secR, fun _ _ => ⟨rfl, fun _ => rfl⟩⟩
set_option maxRecDepth 100000 in
theorem Seen.look (h : Seen w M q) (a : Nat) (ha : a < 9223372036854775808) :
    ∃ l, (Instr.lookup 82 (.map (some M)) (.int .i64 (a : Int)) true).run Try.prog w = .ok (.tuple #[secV l, .bool (lastAt q a).isSome]) w ∧ l = (lastAt q a).getD (List.replicate 128 0) := by
  obtain ⟨D, ho, hd⟩ := h
  obtain ⟨h1, h2⟩ := hd a ha
  obtain ⟨Z, hZ, hz⟩ := zero_ex
  obtain ⟨v, ps, hr, hv⟩ := ho.look_ok keyed3 Try.underlying82 (hz w) (secR_mk Z) (key_int a ha)
  obtain ⟨l, rfl, hl⟩ := secR_inv hv
  rw [h1] at hr
  refine ⟨l, hr, ?_⟩
  have := (h2 (.lit (.string Z))).symm.trans hl
  rw [← hZ]
  cases hq : lastAt q a with
  | some m =>
    rw [hq] at this
    injection this with this
    injection this with this
    exact this.symm
  | none =>
    rw [hq] at this
    injection this with this
    injection this with this
    exact this.symm
set_option maxRecDepth 100000 in
theorem Seen.put (h : Seen w M q) (a : Nat) (l : List UInt8) (ha : a < 9223372036854775808) (hq : q.length < maxLen) :
    ∃ w', (Instr.mapUpdate 82 (.map (some M)) (.int .i64 (a : Int)) (secV l)).run Try.prog w = .ok () w' ∧ Seen w' M (q ++ [(a, l)]) ∧ Upd (fun b => b = M) w w' := by
  obtain ⟨D, ho, hd⟩ := h
  obtain ⟨w', hr, ho', ht⟩ := ho.store keyed3 Try.underlying82 hq (key_int a ha) (secR_mk l)
  refine ⟨w', hr, ⟨D.put (.int .i64 (a : Int)) (.lit (.string l)), by rw [List.length_append]; exact ho', fun b hb => ?_⟩, ?_⟩
  · rw [lastAt_snoc]
    by_cases hab : a = b
    · subst hab
      rw [if_pos rfl]
      refine ⟨Maps.has_put_same ho.isMap (keyed3.key (key_int a ha)) _, fun z => ?_⟩
      exact Maps.atKey_put_same ho.isMap (keyed3.key (key_int a ha)) _ _
    · have hne : (Lit.int .i64 (b : Int)) ≠ .int .i64 (a : Int) := fun e => by
        injection e with _ e
        omega
      rw [if_neg hab, Maps.has_put_other hne]
      refine ⟨(hd b hb).1, fun z => ?_⟩
      rw [Maps.atKey_put_other hne]
      exact (hd b hb).2 z
  · have := ht.grown
    exact Upd.grown this (fun k e => by injection e with e; exact e.symm)
theorem Seen.clear (h : Seen w M q) (ty : TypeId) : ∃ w', (Builtin.clear_ #[82] ty #[.map (some M)]).run Try.prog w = .ok (.tuple #[]) w' ∧ Seen w' M [] ∧ Upd (fun b => b = M) w w' := by
  obtain ⟨D, ⟨es, clock, hb, F, hs, hD⟩, _⟩ := h
  refine ⟨ChangeMaps.setBlock w M (.map #[] clock), ?_, ⟨.map [], ⟨#[], clock, ChangeMaps.heap_setBlock_same hb _, ⟨by simp, MapKept.stamped_empty _, by simp⟩, Nat.le_refl _, rfl⟩, fun _ _ => ⟨rfl, fun _ => rfl⟩⟩, ?_⟩
  · simp [Builtin.clear_, run_underlying Try.underlying82, MapKept.run_getObj_map hb, MapKept.run_setObj_map _ hb, Result.andThen, ChangeMaps.setBlock]
  · exact Upd.grown (row := some M) ⟨rfl, rfl, rfl, by simp [ChangeMaps.setBlock], fun i _ hi => ChangeMaps.heap_setBlock_other hb _ (fun e => hi (by rw [e]))⟩ (fun k e => by injection e with e; exact e.symm)
end
end Go.Proofs.Ytgpnmmgoachajaa
