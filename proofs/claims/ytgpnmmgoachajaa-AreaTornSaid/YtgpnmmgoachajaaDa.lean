/- The disk's New. -/
import Derived.Test.YtgpnmmgoachajaaDc
namespace Go.Proofs.Ytgpnmmgoachajaa
open Go.RowKit
open Go.Proofs

set_option maxRecDepth 100000 in
theorem dk15_bad (n : Int) (w : World) (h : n < 1 ∨ 65536 < n) : Calls Try.prog 15 #[.int .i64 n] w fun e w' => e = .returned (.tuple #[.pointer none, .int .i64 2]) ∧ w' = w := by
  by_cases h1 : n < 1
  · go_enter Try.func15, Try.ntmps15
    go_wp2
    go_ret2
    exact ⟨rfl, rfl⟩
  · have h2 : 65536 < n := by omega
    go_enter Try.func15, Try.ntmps15
    go_wp2
    go_ret2
    exact ⟨rfl, rfl⟩
set_option maxRecDepth 100000 in
theorem info_sec : (Try.prog.info? 91).map (fun i => (i.zero, i.size, i.bytes)) = some (some (secV (List.replicate 128 0)), 128, 128) := by kernel_rfl
theorem made_secs (Z : List UInt8) (hZ : Z = List.replicate 128 0) (n : Nat) : madeCells (octs Z).toArray (n * 128) = (octs (List.replicate n Z).flatten).toArray := by
  have hl : (octs Z).toArray.size = 128 := by rw [List.size_toArray, length_octs, hZ, List.length_replicate]
  have hf : (List.replicate n Z).flatten = List.replicate (n * 128) 0 := by rw [hZ, List.flatten_replicate_replicate]
  rw [hf]
  apply Array.toList_inj.1
  apply List.ext_getElem
  · simp [madeCells]
  · intro i h1 h2
    have hi : i < n * 128 := by simpa [madeCells] using h1
    have e1 : (madeCells (octs Z).toArray (n * 128)).toList[i] = (octs Z).toArray[i % (octs Z).toArray.size]! := by simp [madeCells]
    rw [e1, hl]
    have hm : i % 128 < 128 := Nat.mod_lt _ (by decide)
    rw [getElem!_pos (octs Z).toArray (i % 128) (by rw [hl]; exact hm)]
    have hz : ∀ x ∈ Z, x = 0 := fun x hx => by rw [hZ] at hx; exact List.eq_of_mem_replicate hx
    have hzl : i % 128 < Z.length := by rw [hZ, List.length_replicate]; exact hm
    have e2 : (octs Z).toArray[i % 128]'(by rw [hl]; exact hm) = oct Z[i % 128] := by simp [octs]
    rw [e2, hz _ (List.getElem_mem hzl)]
    simp [octs]
theorem make_secs (n : Nat) (hn : n ≤ 65536) (w : World) :
    (Instr.makeSlice 81 (.int .i64 (n : Int)) (.int .i64 (n : Int))).run Try.prog w = .ok (.slice (some ⟨w.heap.size, 0, none⟩) n n) (w.alloc (.cells (octs (dkNew n).safe.flatten).toArray 91)) := by
  obtain ⟨Z, hZ⟩ : ∃ Z : List UInt8, Z = List.replicate 128 0 := ⟨_, rfl⟩
  have hi := info_sec
  rw [← hZ] at hi
  obtain ⟨i0, hi0, hz, hs, hb⟩ : ∃ i, Try.prog.info? 91 = some i ∧ i.zero = some (secV Z) ∧ i.size = 128 ∧ i.bytes = 128 := by
    cases hq : Try.prog.info? 91 with
    | none => rw [hq] at hi; cases hi
    | some i => rw [hq] at hi; injection hi with hi; injection hi with h1 h2; injection h2 with h2 h3; exact ⟨i, rfl, h1, h2, h3⟩
  have h := run_make (P := Try.prog) w 81 91 i0 _ Try.underlying81 hi0 hz .i64 .i64 (n : Int) (n : Int) (by omega) (by omega) (by rw [hb]; omega) (by omega)
  rw [h, hs, Int.toNat_natCast]
  show Result.ok _ (w.alloc (.cells (madeCells (octs Z).toArray (n * 128)) 91)) = _
  rw [made_secs Z hZ]
  show _ = Result.ok _ (w.alloc (.cells (octs (List.replicate n (List.replicate 128 0)).flatten).toArray 91))
  rw [← hZ]
set_option maxRecDepth 100000 in
theorem dk15_good (n : Nat) (w : World) (h1 : 1 ≤ n) (h2 : n ≤ 65536) : Calls Try.prog 15 #[.int .i64 (n : Int)] w fun e w' => ∃ p, e = .returned (.tuple #[.pointer (some ⟨p, 0, none⟩), .int .i64 0]) ∧ Disk (fun b => b < w.heap.size) w' p (dkNew n) ∧ Ext w w' := by
  have g1 : ((n : Int) < 1) = False := eq_false (by omega)
  have g2 : (65536 < (n : Int)) = False := eq_false (by omega)
  have hmk := make_secs n h2 w
  obtain ⟨cs, hcs⟩ : ∃ cs, cs = (octs (dkNew n).safe.flatten).toArray := ⟨_, rfl⟩
  rw [← hcs] at hmk
  have HC := Lib.hid hcs
  have hmm := @run_makeMap Try.prog
  clear hcs
  go_enter Try.func15, Try.ntmps15
  go_wp2
  refine bodyPost_ret (results_tmp2 rfl _ _ _) rfl ?_
  have s1 : (w.alloc (.cells cs 91)).heap.size = w.heap.size + 1 := World.size_alloc ..
  have s2 : ((w.alloc (.cells cs 91)).alloc (.map #[] 0)).heap.size = w.heap.size + 1 + 1 := by rw [World.size_alloc, s1]
  have b1 : (w.alloc (.cells cs 91)).heap[w.heap.size]? = some (.cells cs 91 (0, 0)) := heap_alloc_new w _
  have m1 : Seen ((w.alloc (.cells cs 91)).alloc (.map #[] 0)) (w.heap.size + 1) [] := by
    have := Seen.new (w.alloc (.cells cs 91))
    rw [s1] at this
    exact this
  have X2 : Ext (w.alloc (.cells cs 91)) ((w.alloc (.cells cs 91)).alloc (.map #[] 0)) := (Ext.refl _).alloc _
  have X3 := fun o => (Ext.refl ((w.alloc (.cells cs 91)).alloc (.map #[] 0))).alloc o
  refine ⟨w.heap.size + 1 + 1, rfl, ⟨w.heap.size, w.heap.size + 1, .slice none 0 0, ⟨dkOk_new n, ⟨show (-1 : Int) ≤ -1 by decide, show (-1 : Int) ≤ 9223372036854775807 by decide⟩, ?_, ?_, ?_, m1.ext (X3 _), World.ownsRow_nil _ _ _ _⟩, ?_⟩, (((Ext.refl w).alloc _).alloc _).alloc _⟩
  · show (List.replicate n (List.replicate 128 (0 : UInt8))).length ≤ 65536
    rw [List.length_replicate]; exact h2
  · show _ = some (Obj.cells #[.slice (some ⟨w.heap.size, 0, none⟩) (List.replicate n (List.replicate 128 (0 : UInt8))).length (List.replicate n (List.replicate 128 (0 : UInt8))).length, .map (some (w.heap.size + 1)), .slice none 0 0, .int .i64 (-1), .int .i64 0] 85 (0, 0))
    rw [List.length_replicate, ← s2]
    exact heap_alloc_new _ _
  · rw [← HC.out]
    exact (X3 _).heap (X2.heap b1)
  · intro b hb
    rcases hb with hb | hb | hb | hb
    · omega
    · omega
    · omega
    · cases hb
end Go.Proofs.Ytgpnmmgoachajaa
