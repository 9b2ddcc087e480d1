/- Parts of strings, and the document's numbers in them. -/
import Derived.Test.YtanmjmeabcloiaaSg
import Derived.Test.YtanmjmeabcloiaaBi2
import Derived.Test.YtanmjmeabcloiaaConv
namespace Go.Proofs.Ytanmjmeabcloiaa
open Go.RowKit
open Go.Proofs

theorem extract_mid (l : List UInt8) (i n j : Nat) (hij : i + n = j) : (⟨l.toArray⟩ : ByteArray).extract i j = ⟨((l.drop i).take n).toArray⟩ := by
  subst hij
  apply ByteArray.ext
  apply Array.ext'
  rw [ByteArray.data_extract]
  simp only [List.extract_toArray, List.extract_eq_take_drop, List.toList_toArray]
  rw [show i + n - i = n by omega]
/-- 's[i:j]'. -/
theorem str_mid (l : List UInt8) (i n j : Nat) (hij : i + n = j) (hj : j ≤ l.length) (w : World) :
    (Instr.slice 9 (strOf l) (some (.int .i64 (i : Int))) (some (.int .i64 (j : Int))) none).run Try.prog w = .ok (strOf ((l.drop i).take n)) w := by
  have h := run_slice_string (P := Try.prog) w 9 ⟨l.toArray⟩ .i64 .i64 (i : Int) (j : Int) Try.underlying9 (by omega) (by omega) (by show (j : Int) ≤ (l.toArray.size : Int); rw [List.size_toArray]; omega)
  rw [h, show ((i : Int).toNat) = i by omega, show ((j : Int).toNat) = j by omega, extract_mid l i n j hij]
/-- The document's number at a place of a string. -/
theorem rget (l : List UInt8) (i n : Nat) (hn : n ≤ 8) (hl : i + n ≤ l.length) : ∃ (C : World → Nat) (F : World → World),
    (∀ w, (convert 9 22 (strOf ((l.drop i).take n))).run Try.prog w = .ok (.slice (some ⟨w.heap.size, 0, none⟩) n (C w)) (F w)) ∧
    (∀ w b, b = w.heap.size → Calls Try.prog 45 #[.slice (some ⟨b, 0, none⟩) n (C w)] (F w) fun e w' => e = .returned (.int .i64 (numAt l i n)) ∧ Ext w w') := by
  have lB : ((l.drop i).take n).length = n := by rw [List.length_take, List.length_drop]; omega
  have hc : ∀ w, ∃ c w', (convert 9 22 (strOf ((l.drop i).take n))).run Try.prog w = .ok (.slice (some ⟨w.heap.size, 0, none⟩) n c) w' ∧ Octs w' (some ⟨w.heap.size, 0, none⟩) ((l.drop i).take n) ∧ Ext w w' := fun w => by
    obtain ⟨c, w', h1, _, h3, h4⟩ := conv_octs ((l.drop i).take n) w
    rw [lB] at h1
    exact ⟨c, w', h1, h3, h4⟩
  refine ⟨fun w => (hc w).choose, fun w => (hc w).choose_spec.choose, fun w => (hc w).choose_spec.choose_spec.1, fun w b hb => ?_⟩
  subst hb
  obtain ⟨_, h3, h4⟩ := (hc w).choose_spec.choose_spec
  refine (f85_any _ ((l.drop i).take n) n _ _ lB (by omega) h3).mono ?_
  rintro e w1 ⟨rfl, x1⟩
  refine ⟨ret_int ?_, h4.trans x1⟩
  rw [List.take_of_length_le (l := (l.drop i).take n) (by omega), numAt]
end Go.Proofs.Ytanmjmeabcloiaa
