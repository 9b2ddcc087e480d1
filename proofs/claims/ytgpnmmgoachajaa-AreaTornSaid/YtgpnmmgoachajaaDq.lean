/- A write that waits, as a value: how it is built, put into a row of one, and appended. -/
import Derived.Test.YtgpnmmgoachajaaDf
import Derived.Test.YtgpnmmgoachajaaRi
namespace Go.Proofs.Ytgpnmmgoachajaa
open Go.RowKit
open Go.Proofs

theorem zip_putAt : ∀ (l : List Value) (k off : Nat) (cells : Array Value), (l.zipIdx k).foldl (fun cs x => cs.setIfInBounds (off + x.2) x.1) cells = putAt cells (off + k) l
  | [], _, _, _ => rfl
  | v :: l, k, off, cells => by
    rw [List.zipIdx_cons, List.foldl_cons, zip_putAt l (k + 1) off, putAt]
    rfl
theorem fill_one (place : Nat → Option (Nat × Nat)) (cells : Array Value) (i off size : Nat) (v : Value) (rest : List (Nat × Value)) (hp : place i = some (off, size)) (hs : v.cells.size = size) (hc : off + size ≤ cells.size) :
    Instr.fill place cells ((i, v) :: rest) = Instr.fill place (putAt cells off v.cells.toList) rest := by
  rw [Instr.fill, hp]
  simp only
  rw [if_neg (by rw [hs]; simp; omega)]
  congr 1
  rw [← Array.foldl_toList, Array.toList_zipIdx]
  exact zip_putAt v.cells.toList 0 off cells
set_option maxRecDepth 100000 in
theorem info_w : ∃ i z, Try.prog.info? 93 = some i ∧ i.zero = some z ∧ i.size = 129 ∧ i.bytes = 136 ∧ z.cells.size = 129 := by
  have h : (Try.prog.info? 93).map (fun i => (i.zero.map (·.cells.size), i.size, i.bytes)) = some (some 129, 129, 136) := by kernel_rfl
  cases hq : Try.prog.info? 93 with
  | none => rw [hq] at h; cases h
  | some i =>
    rw [hq] at h
    injection h with h
    injection h with h1 h2
    injection h2 with h2 h3
    cases hz : i.zero with
    | none => rw [hz] at h1; cases h1
    | some z =>
      rw [hz] at h1
      injection h1 with h1
      exact ⟨i, z, rfl, hz, h2, h3, h1⟩
set_option maxRecDepth 100000 in
theorem und_w : ∃ fs, Try.prog.underlying 93 = some (.struct fs) ∧ fs.toList.mapM (fun f => (Try.prog.info? f.type).map fun i => (f.offset, i.size)) = some [(0, 1), (1, 128)] := ⟨_, Try.underlying93, by kernel_rfl⟩
set_option maxRecDepth 100000 in
theorem build_w (a : Int) (l : List UInt8) (hl : l.length = 128) (w : World) : (Instr.build 93 #[(0, .int .i64 a), (1, secV l)]).run Try.prog w = .ok (.agg (Value.int .i64 a :: octs l).toArray) w := by
  obtain ⟨i, z, hi, hz, _, _, hzs⟩ := info_w
  refine run_build w _ _ _ ?_
  obtain ⟨fs, hu, hp⟩ := und_w
  unfold Program.built
  rw [hi, hu]
  simp only
  rw [hz, hp]
  simp only
  rw [fill_one _ _ 0 0 1 _ _ rfl rfl (by omega), fill_one _ _ 1 1 128 _ _ rfl (by show (octs l).toArray.size = 128; rw [List.size_toArray, length_octs, hl]) (by rw [putAt_size]; omega), Instr.fill]
  congr 1
  apply Array.toList_inj.1
  have e1 : (secV l).cells.toList = octs l := rfl
  have e2 : (Value.int IntKind.i64 a).cells.toList = [Value.int .i64 a] := rfl
  have hzl : z.cells.toList.length = 129 := by rw [Array.length_toList]; exact hzs
  have hol : (octs l).length = 128 := by rw [length_octs, hl]
  rw [e1, e2, putAt_list _ _ _ (by rw [putAt_size]; omega), putAt_list _ _ _ (by simp; omega), List.take_zero, List.nil_append, hol, List.length_singleton]
  have h1 : ([Value.int .i64 a] ++ z.cells.toList.drop (0 + 1)).length = 129 := by rw [List.length_append, List.length_drop, hzl]; rfl
  have hdr : ([Value.int .i64 a] ++ z.cells.toList.drop (0 + 1)).drop (1 + 128) = [] := List.drop_of_length_le (by omega)
  rw [hdr, List.append_nil]
  rfl
set_option maxRecDepth 100000 in
theorem buildSlice_w (q : Nat × List UInt8) (hl : q.2.length = 128) (w : World) : (Instr.buildSlice 83 1 #[(0, .agg (wCells q).toArray)]).run Try.prog w = .ok (.slice (some ⟨w.heap.size, 0, none⟩) 1 1) (w.alloc (.cells (wCells q).toArray 93)) := by
  obtain ⟨i, z, hi, hz, hsz, _, hzs⟩ := info_w
  have hf := fun cur (hc : Array.size cur = 129) => fill_one (fun i => some (i * 129, 129)) cur 0 0 129 (.agg (wCells q).toArray) [] rfl (by show (wCells q).toArray.size = 129; rw [List.size_toArray, length_wCells q hl]) (by omega)
  unfold Instr.buildSlice
  have hall : ∀ cur : Array Value, cur.size = 129 → Instr.fill (fun i => some (i * 129, 129)) cur [(0, .agg (wCells q).toArray)] = some (wCells q).toArray := fun cur hc => by
    rw [hf cur hc, Instr.fill]
    congr 1
    exact putAt_all cur (wCells q) (by rw [hc, length_wCells q hl])
  simp [run_underlying Try.underlying83, sizeOf, typeInfo, hi, hsz, zeroValue, hz, hzs, hall, newRow]
end Go.Proofs.Ytgpnmmgoachajaa
