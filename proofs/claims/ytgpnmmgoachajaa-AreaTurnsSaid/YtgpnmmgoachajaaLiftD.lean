/- From the reading of an argument as data to the walks' words: an array of octets. -/
import Derived.Test.YtgpnmmgoachajaaLiftB
import Derived.OpenShut
namespace Go.Proofs.Ytgpnmmgoachajaa
open Go.ChangeShapes Go.WideShapes Go.ChangeAt Go.RowKit Go.Deep
open Go.Proofs

theorem octs_of : ∀ ls : List Value, (∀ v ∈ ls, ∃ k : UInt8, v = oct k) → ∃ l, ls = octs l
  | [], _ => ⟨[], rfl⟩
  | v :: ls, h => by
    obtain ⟨k, rfl⟩ := h v (List.mem_cons_self ..)
    obtain ⟨l, rfl⟩ := octs_of ls fun u hu => h u (List.mem_cons_of_mem _ hu)
    exact ⟨k :: l, rfl⟩

section
variable {H : Type} {enc : TypeId × Value → H} {w : World} {base : Nat} {held : Bool}
set_option maxRecDepth 100000 in
theorem open_octN {t : TypeId} {n b2 : Nat} {v : Value} {d : DataW H} {p : List MemPlace} (ht : Try.prog.underlying t = some (.array n 5)) (hc : Try.prog.cellsOf t = n) (hv : Value.okWide Try.prog w .any b2 t v) (h : DataW.Trod enc Try.prog w base (fun _ => true) held t v d p) :
    ∃ l : List UInt8, l.length = n ∧ v = .agg (octs l).toArray := by
  simp only [Value.okWide, ht, hc] at hv
  obtain ⟨cs, rfl, hsz, _⟩ := hv
  obtain ⟨fuel, hf⟩ := h
  obtain ⟨xs, m, _, _, hcl, hl, hel⟩ := DataW.trod_array ht hf
  obtain ⟨ls⟩ := cs
  have hsz2 : ls.length = n := hsz
  have each : ∀ v ∈ ls, ∃ k : UInt8, v = oct k := fun v hv => by
    obtain ⟨i, hi, rfl⟩ := List.getElem_of_mem hv
    have h0 := hel i (by omega)
    rw [cells5, List.getElem?_eq_getElem (by omega)] at h0
    obtain ⟨k, e0, _, wf0⟩ := DataW.trod_int Try.underlying5 h0
    have e1 : (List.drop (i * 1) ls).take 1 = [Value.int .u8 k] := e0
    rw [Nat.mul_one, List.drop_eq_getElem_cons hi, List.take_succ_cons, List.take_zero] at e1
    simp only [List.cons.injEq, and_true] at e1
    have hb := bounds_u8 wf0
    refine ⟨UInt8.ofNat k.toNat, ?_⟩
    have e : ((UInt8.ofNat k.toNat).toNat : Int) = k := by rw [UInt8.toNat_ofNat']; omega
    rw [e1, oct, e]
  obtain ⟨l, rfl⟩ := octs_of ls each
  exact ⟨l, by rw [← hsz2]; exact (List.length_map ..).symm, rfl⟩
theorem cells39 : Try.prog.cellsOf 39 = 4 := by kernel_rfl
theorem cells45 : Try.prog.cellsOf 45 = 2 := by kernel_rfl
set_option maxRecDepth 100000 in
theorem open_oct4 {b2 : Nat} {v : Value} {d : DataW H} {p : List MemPlace} (hv : Value.okWide Try.prog w .any b2 39 v) (h : DataW.Trod enc Try.prog w base (fun _ => true) held 39 v d p) :
    ∃ l : List UInt8, l.length = 4 ∧ v = .agg (octs l).toArray := open_octN Try.underlying39 cells39 hv h
set_option maxRecDepth 100000 in
theorem open_oct2 {b2 : Nat} {v : Value} {d : DataW H} {p : List MemPlace} (hv : Value.okWide Try.prog w .any b2 45 v) (h : DataW.Trod enc Try.prog w base (fun _ => true) held 45 v d p) :
    ∃ a b : UInt8, v = .agg (octs [a, b]).toArray := by
  obtain ⟨l, hl, rfl⟩ := open_octN Try.underlying45 cells45 hv h
  match l, hl with
  | [a, b], _ => exact ⟨a, b, rfl⟩
end
end Go.Proofs.Ytgpnmmgoachajaa
