/- Joined texts: Ri, Dq, Dc, Da, Ch, Dv, Dw, Conv. -/
import Derived.Test.YtgpnmmgoachajaaK01
import Derived.RangeFuncNested
import Derived.RangeFuncBound
import Derived.RangeFuncCalls
import Derived.RangeFuncLeaves
import Derived.RangeFuncBox
import Derived.OwnWalkIn
import Derived.OrdersHeld
import Derived.Deep.RegionHeld
import Derived.Test.YtgpnmmgoachajaaK03
import Derived.Laws.CopyOwn
import Derived.Shelf.Abstract
import Derived.Shelf.RegionOpen
import Derived.WalkKit
import Derived.TacticsInMore
import Derived.LoopNIn
import Derived.LoopIn
import Derived.Test.YtgpnmmgoachajaaK02
import Derived.Lib.ConvBytes
/- A region that draws its order, inside a round of a loop over an iterator: what was shown of it anywhere holds there. -/
namespace Go.Proofs.Ytgpnmmgoachajaa
open Go.RowKit
open Go.Proofs

def noDefer (ops : Array Oper) : Bool := ops.all fun o => match o.op with | .defer _ => false | _ => true
section
variable {P : Program} {ops : Array Oper} {Q : Exit → Act → World → Prop} {md : Region.Mode}
theorem noDefer_at (h : noDefer ops = true) {i : Nat} {o : Oper} (ho : ops[i]? = some o) : ∀ c, o.op ≠ .defer c := fun c e => by
  have := (Array.all_eq_true_iff_forall_mem.1 h) o (Array.mem_of_getElem? ho)
  rw [e] at this
  cases this
theorem upon_inRound (l n : Nat) (o : Oper) (a : Act) {K K' : Act → World → Prop} (hk : ∀ a w, K a w → K' a w) : ∀ r, o.upon P a K Q r → o.uponIn (Fence.wide.inRound l) n P a K' Q r
  | .ok (.value v) w', h => hk _ _ h
  | .ok .skip w', h => hk _ _ h
  | .ok (.defer d) w', h => hk _ _ h
  | .ok (.enter f args) w', h => ⟨fun x => (by cases x), CallsIn.inRound l (callsIn_wide.2 (Calls.mono h (fun e _ h' => match e, h' with
    | .returned _, h' => hk _ _ h'
    | .panicked _, h' => h'
    | .outgrown, h' => h')))⟩
  | .ok (.row row args) w', h => ⟨fun x => (by cases x), fun c cs _ => let ⟨v, w2, r, s⟩ := h c cs; ⟨v, w2, hk _ _ r, stepsIn_wide.2 s⟩⟩
  | .halt (.panic v) w', h => h
theorem op_inRound (l n : Nat) (hq : ¬ LetsOut Q) (hd : noDefer ops = true) (i : Nat) {K K' : Act → World → Prop} (hk : ∀ a w, K a w → K' a w) (a : Act) (w : World) (h : wpOp P ops Q i K a w) : wpOpIn (Fence.wide.inRound l) n P ops Q i K' a w := by
  unfold wpOp at h
  unfold wpOpIn
  cases ho : ops[i]? with
  | none => rw [ho] at h; exact hk _ _ h
  | some o =>
    rw [ho] at h
    simp only at h ⊢
    split
    · rename_i g
      rw [if_pos g] at h
      rcases h with h | h
      · refine ⟨fun _ _ => trivial, ?_⟩
        rw [Oper.semAt_eq _ _ _ (noDefer_at hd ho)]
        exact upon_inRound l n o a hk _ h
      · exact absurd h.2 hq
    · rename_i g
      rw [if_neg g] at h
      exact ⟨fun _ _ => trivial, hk _ _ h⟩
theorem any_inRound (l n : Nat) (hq : ¬ LetsOut Q) (hd : noDefer ops = true) : ∀ (fuel : Nat) (listed : Array Bool) (a : Act) (w : World), wpAny P md ops Q fuel listed a w → wpAnyIn (Fence.wide.inRound l) n P md ops Q fuel listed a w
  | 0, _, _, _, h => h
  | fuel + 1, _, a, w, h => ⟨h.1, fun i hi => op_inRound l n hq hd i (fun a' w' h' => any_inRound l n hq hd fuel _ a' w' h') a w (h.2 i hi)⟩
theorem region_inRound {id l n : Nat} {a : Act} {w : World} {S : World → Prop} (hm : P.follows .mixedOrders = true) (hq : ¬ LetsOut Q) (hd : noDefer ops = true) (hS : S w.drew)
    (h : S w.drew → wpAnyH P .any ops Q S ops.size (Array.replicate ops.size false) a w.drew) : (Code.region id ops true).wpIn (Fence.wide.inRound l) n P Q a w :=
  wpIn_region_any hm (any_inRound l n hq hd _ _ _ _ (wpAny_of_held _ _ _ _ (h hS)))
end
end Go.Proofs.Ytgpnmmgoachajaa
/- A write that waits, as a value: how it is built, put into a row of one, and appended. -/
namespace Go.Proofs.Ytgpnmmgoachajaa
open Go.RowKit
open Go.Proofs

theorem zip_putAt : ∀ (l : List Value) (k off : Nat) (cells : Array Value), (l.zipIdx k).foldl (fun cs x => cs.setIfInBounds (off + x.2) x.1) cells = putAt cells (off + k) l
  | [], _, _, _ => rfl
  | v :: l, k, off, cells => by
    rw [List.zipIdx_cons, List.foldl_cons, zip_putAt l (k + 1) off, putAt]
    rfl
theorem fill_one (place : Nat → Option (Nat × Nat)) (cells : Array Value) (i off size : Nat) (v : Value) (rest : List (Nat × Value)) (hp : place i = some (off, size)) (hs : v.cells.size = size) (hc : off + size ≤ cells.size) :
    Instr.fill place cells ((i, v) :: rest) = Instr.fill place (putAt cells off v.cells.toList) rest := by
  rw [Instr.fill, hp]
  simp only
  rw [if_neg (by rw [hs]; simp; omega)]
  congr 1
  rw [← Array.foldl_toList, Array.toList_zipIdx]
  exact zip_putAt v.cells.toList 0 off cells
set_option maxRecDepth 100000 in
theorem info_w : ∃ i z, Try.prog.info? 93 = some i ∧ i.zero = some z ∧ i.size = 129 ∧ i.bytes = 136 ∧ z.cells.size = 129 := by
  have h : (Try.prog.info? 93).map (fun i => (i.zero.map (·.cells.size), i.size, i.bytes)) = some (some 129, 129, 136) := by kernel_rfl
  cases hq : Try.prog.info? 93 with
  | none => rw [hq] at h; cases h
  | some i =>
    rw [hq] at h
    injection h with h
    injection h with h1 h2
    injection h2 with h2 h3
    cases hz : i.zero with
    | none => rw [hz] at h1; cases h1
    | some z =>
      rw [hz] at h1
      injection h1 with h1
      exact ⟨i, z, rfl, hz, h2, h3, h1⟩
set_option maxRecDepth 100000 in
theorem und_w : ∃ fs, Try.prog.underlying 93 = some (.struct fs) ∧ fs.toList.mapM (fun f => (Try.prog.info? f.type).map fun i => (f.offset, i.size)) = some [(0, 1), (1, 128)] := ⟨_, Try.underlying93, by kernel_rfl⟩
set_option maxRecDepth 100000 in
theorem build_w (a : Int) (l : List UInt8) (hl : l.length = 128) (w : World) : (Instr.build 93 #[(0, .int .i64 a), (1, secV l)]).run Try.prog w = .ok (.agg (Value.int .i64 a :: octs l).toArray) w := by
  obtain ⟨i, z, hi, hz, _, _, hzs⟩ := info_w
  refine run_build w _ _ _ ?_
  obtain ⟨fs, hu, hp⟩ := und_w
  unfold Program.built
  rw [hi, hu]
  simp only
  rw [hz, hp]
  simp only
  rw [fill_one _ _ 0 0 1 _ _ rfl rfl (by omega), fill_one _ _ 1 1 128 _ _ rfl (by show (octs l).toArray.size = 128; rw [List.size_toArray, length_octs, hl]) (by rw [putAt_size]; omega), Instr.fill]
  congr 1
  apply Array.toList_inj.1
  have e1 : (secV l).cells.toList = octs l := rfl
  have e2 : (Value.int IntKind.i64 a).cells.toList = [Value.int .i64 a] := rfl
  have hzl : z.cells.toList.length = 129 := by rw [Array.length_toList]; exact hzs
  have hol : (octs l).length = 128 := by rw [length_octs, hl]
  rw [e1, e2, putAt_list _ _ _ (by rw [putAt_size]; omega), putAt_list _ _ _ (by simp; omega), List.take_zero, List.nil_append, hol, List.length_singleton]
  have h1 : ([Value.int .i64 a] ++ z.cells.toList.drop (0 + 1)).length = 129 := by rw [List.length_append, List.length_drop, hzl]; rfl
  have hdr : ([Value.int .i64 a] ++ z.cells.toList.drop (0 + 1)).drop (1 + 128) = [] := List.drop_of_length_le (by omega)
  rw [hdr, List.append_nil]
  rfl
set_option maxRecDepth 100000 in
theorem buildSlice_w (q : Nat × List UInt8) (hl : q.2.length = 128) (w : World) : (Instr.buildSlice 83 1 #[(0, .agg (wCells q).toArray)]).run Try.prog w = .ok (.slice (some ⟨w.heap.size, 0, none⟩) 1 1) (w.alloc (.cells (wCells q).toArray 93)) := by
  obtain ⟨i, z, hi, hz, hsz, _, hzs⟩ := info_w
  have hf := fun cur (hc : Array.size cur = 129) => fill_one (fun i => some (i * 129, 129)) cur 0 0 129 (.agg (wCells q).toArray) [] rfl (by show (wCells q).toArray.size = 129; rw [List.size_toArray, length_wCells q hl]) (by omega)
  unfold Instr.buildSlice
  have hall : ∀ cur : Array Value, cur.size = 129 → Instr.fill (fun i => some (i * 129, 129)) cur [(0, .agg (wCells q).toArray)] = some (wCells q).toArray := fun cur hc => by
    rw [hf cur hc, Instr.fill]
    congr 1
    exact putAt_all cur (wCells q) (by rw [hc, length_wCells q hl])
  simp [run_underlying Try.underlying83, sizeOf, typeInfo, hi, hsz, zeroValue, hz, hzs, hall, newRow]
end Go.Proofs.Ytgpnmmgoachajaa
/- The disk's Crash. -/
namespace Go.Proofs.Ytgpnmmgoachajaa
open Go.RowKit
open Go.Proofs

section
variable {w : World} {ops : Array Oper} {rest : List Oper} {o : Oper} {a : Act} {Q : Exit → Act → World → Prop}
theorem upd_row (g : Nat) (cs : Array Value) (w : World) : Upd (fun b => b = g) w (w.setRow g cs) :=
  ⟨rfl, rfl, rfl, by simp [World.setRow], fun k _ hk => setRow_other w g k cs hk⟩
theorem size_octet : (Try.prog.info? 5).map (·.size) = some 1 := by kernel_rfl
/-- Octets copied into a row that is known whole, in a region that draws its order. -/
theorem step_copy_sec {K : Act → World → Prop} {E : Prop} (hgd : o.guard = none) (d s : Operand) (ho : o.op = .call { callee := .builtin .copy, args := #[d, s], argTypes := #[22, 22] })
    (g off dLen dCap sLen sCap : Nat) (hd : a.eval d = .slice (some ⟨g, off, none⟩) dLen dCap) (sp : Option Addr) (hs : a.eval s = .slice sp sLen sCap)
    (L : List UInt8) (t : TypeId) (hg : w.heap[g]? = some (.cells (octs L).toArray t (0, 0))) (q : List UInt8) (hq : q.length = sLen) (hle : sLen ≤ dLen)
    (h0 : 0 < sLen) (hx : Octs w sp q) (hfit : off + q.length ≤ L.length)
    (h : ∀ w', w'.heap[g]? = some (.cells (octs (L.take off ++ (q ++ L.drop (off + q.length)))).toArray t (0, 0)) → Upd (fun b => b = g) w w' → K (a.put o.dst (goInt q.length)) w') :
    if Region.wanted o (yielded ops a.tmps) = true then Oper.wp Try.prog o a w K Q else E := by
  subst hq
  have hw : Region.wanted o (yielded ops a.tmps) = true := by simp [Region.wanted, hgd]
  rw [if_pos hw]
  obtain ⟨b, o2, rfl, _⟩ := hx (by rw [length_octs]; omega)
  have hn := Cells.news hx rfl (by rw [length_octs]; omega)
  have hrun := run_copy_row (P := Try.prog) w 22 22 o.type 5 g off dLen dCap _ q.length sCap (octs L).toArray t (octs q) Try.underlying22 size_octet hg (by rw [length_octs]; exact (Nat.min_eq_left hle).symm) hn (by rw [length_octs, List.size_toArray, length_octs]; exact hfit) (octs_one q)
  unfold Oper.wp
  simp [execOp, ho, resolve, invoke, builtin, hd, hs, hrun, Result.andThen]
  refine h _ ?_ (upd_row g _ w)
  have e : (octs L).take off ++ (octs q ++ (octs L).drop (off + q.length)) = octs (L.take off ++ (q ++ L.drop (off + q.length))) := by
    simp [octs]
  have := setRow_heap w g _ ((octs L).take off ++ (octs q ++ (octs L).drop (off + q.length))).toArray t _ hg
  rw [e] at this
  simpa [e] using this
end
theorem sliceAt_hi (b o C : Nat) (hC : C ≤ 128) (w : World) : (Instr.sliceAt 91 (.pointer (some ⟨b, o, none⟩)) none (some (.int .i64 (C : Int))) none).run Try.prog w = .ok (.slice (some ⟨b, o, none⟩) C 128) w := by
  have hlen : Try.prog.arrayLen 91 = 128 := by kernel_rfl
  have hel : Try.prog.elem 91 = 5 := by kernel_rfl
  obtain ⟨i0, hi0, _, hs, _⟩ := info_parts info5
  have h := run_sliceAt_array_h (P := Try.prog) w 91 ⟨b, o, none⟩ (by rw [hlen, hel]; exact und_sec) .i64 (C : Int) (by omega) (by rw [hlen]; omega)
  rw [h, run_size1 91 5 i0 hel hi0 hs, hlen]
  simp [Result.andThen, slicedAt, Addr.add]
/-- A sector that is torn, in the row of them all. -/
theorem flat_torn (sf : List (List UInt8)) (a C : Nat) (l : List UInt8) (h : ∀ x ∈ sf, x.length = 128) (ha : a < sf.length) (hC : C ≤ 128) (hl : l.length = 128) :
    sf.flatten.take (a * 128) ++ (l.take C ++ sf.flatten.drop (a * 128 + (l.take C).length)) = (sf.set a (l.take C ++ (sf.getD a []).drop C)).flatten := by
  have hg : sf[a]? = some (sf.getD a []) := by rw [List.getD_eq_getElem?_getD, List.getElem?_eq_getElem ha]; rfl
  have h1 := flat_at 128 sf a _ h hg
  have hlen : (l.take C).length = C := by rw [List.length_take]; omega
  have h2 : sf.flatten.drop (128 * a) = sf.getD a [] ++ sf.flatten.drop (128 * a + 128) := by
    rw [← List.take_append_drop 128 (sf.flatten.drop (128 * a)), h1, List.drop_drop]
  have hgl : (sf.getD a []).length = 128 := h _ (List.mem_of_getElem? hg)
  have h3 : sf.flatten.drop (128 * a + C) = (sf.getD a []).drop C ++ sf.flatten.drop (128 * a + 128) := by
    rw [← List.drop_drop, h2, List.drop_append_of_le_length (by omega)]
  rw [flat_set 128 sf a _ h ha, hlen, Nat.mul_comm a 128, h3]
  simp

theorem crash_cells {w : World} {q : Nat} {A : Option Addr} {n c : Nat} {torn cut : Int} (hb : w.heap[q]? = some (.cells #[.slice A n c, .int .i64 torn, .int .i64 cut] 35 (0, 0))) :
    w.cell? ⟨q, 0, none⟩ = some (.slice A n c) ∧ w.cell? ⟨q, 1, none⟩ = some (.int .i64 torn) ∧ w.cell? ⟨q, 2, none⟩ = some (.int .i64 cut) := by
  refine ⟨?_, ?_, ?_⟩ <;> (rw [cell_of_row w q _ _ _ _ hb]; rfl)

theorem DiskV.setTorn {w w' : World} {p S M : Nat} {qv : Value} {s : Dk} (h : DiskV w p S M qv s) (a C : Nat) (l : List UInt8) (ha : a < s.safe.length) (hC : C ≤ 128) (hl : l.length = 128)
    (hb : w'.heap[S]? = some (.cells (octs (s.safe.set a (l.take C ++ (s.safe.getD a []).drop C)).flatten).toArray 91 (0, 0))) (hu : Upd (fun b => b = S) w w') : DiskV w' p S M qv { s with safe := s.safe.set a (l.take C ++ (s.safe.getD a []).drop C) } := by
  have hg : (s.safe.getD a []).length = 128 := by
    rw [List.getD_eq_getElem?_getD, List.getElem?_eq_getElem ha]
    exact h.ok.safe _ (List.getElem_mem ha)
  have hy : (l.take C ++ (s.safe.getD a []).drop C).length = 128 := by rw [List.length_append, List.length_take, List.length_drop]; omega
  refine h.setSafe a _ ha hy ?_ hu
  rw [Nat.mul_comm, octs_set _ _ _ h.ok.safe ha hy]
  exact hb

set_option maxRecDepth 100000 in
set_option maxHeartbeats 8000000 in
theorem dk19_wide {K : Nat → Prop} {w : World} {p : Nat} {s : Dk} (h : Disk K w p s) (A : Option Addr) (keep : List Int) (n c : Nat) (torn cut : Int) (hn : keep.length = n) (hx : Cells w A (ints keep)) (hA : 0 < n → ∀ x, A = some x → K x.block) (hk63 : n ≤ 9223372036854775807) :
    Calls Try.prog 19 #[.pointer (some ⟨p, 0, none⟩), .agg #[.slice A n c, .int .i64 torn, .int .i64 cut]] w fun e w' => e = .returned (.int .i64 (((crashTo keep torn cut 0 s.safe s.queue).2 : Nat) : Int)) ∧ Disk K w' p (dkCrash s keep torn cut) ∧ Upd (fun b => ¬ K b) w w' := by
  subst hn
  obtain ⟨w1, hw1⟩ : ∃ w1, w1 = w.alloc (.cells #[.slice A keep.length c, .int .i64 torn, .int .i64 cut] 35) := ⟨_, rfl⟩
  have hbx : w1.heap[w.heap.size]? = some (.cells #[.slice A keep.length c, .int .i64 torn, .int .i64 cut] 35 (0, 0)) := by rw [hw1]; exact heap_alloc_new w _
  have x1 : Ext w w1 := by rw [hw1]; exact (Ext.refl w).alloc _
  have h1 : Disk (fun b => K b ∨ w.heap.size ≤ b) w1 p s := h.more x1
  obtain ⟨K1, hK1⟩ : ∃ K1 : Nat → Prop, K1 = fun b => K b ∨ b = w.heap.size := ⟨_, rfl⟩
  have h1 : Disk K1 w1 p s := h1.less (fun b hb => by rw [hK1] at hb; rcases hb with hb | hb; exact .inl hb; exact .inr (by omega))
  have hKA : 0 < keep.length → ∀ x, A = some x → K1 x.block := fun h0 x e => by rw [hK1]; exact .inl (hA h0 x e)
  have hKb : K1 w.heap.size := by rw [hK1]; exact .inr rfl
  have hKK : ∀ b, K b → K1 b := fun b g => by rw [hK1]; exact .inl g
  have hK2 : ∀ b, ¬ K1 b → ¬ K b := fun b g x => g (hKK b x)
  have hx1 : Cells w1 A (ints keep) := hx.ext x1
  have hsz1 : w.heap.size < w1.heap.size := by rw [hw1]; simp
  clear hK1 h hx
  obtain ⟨bx, hbe⟩ : ∃ bx, bx = w.heap.size := ⟨_, rfl⟩
  rw [← hbe] at hbx hKb hsz1
  obtain ⟨S, M, qv, hd, hk⟩ := h1
  obtain ⟨qA, qc, rfl⟩ := hd.qform
  obtain ⟨c0, c1, c2, c3, c4, cf⟩ := hd.cells
  have hok := hd.ok
  have d2 : (w.alloc (.cells #[.slice A keep.length c, .int .i64 torn, .int .i64 cut] 35)).cell? ⟨p, 2, none⟩ = some (.slice qA s.queue.length qc) := by rw [← hw1]; exact c2
  clear c0 c1 c2 c3 c4 cf
  obtain ⟨R, hR⟩ : ∃ R, R = crashTo keep torn cut 0 s.safe s.queue := ⟨_, rfl⟩
  have r0 : crashTo keep torn cut 0 s.safe (s.queue.drop 0) = R := hR.symm
  have hDC : dkCrash s keep torn cut = ⟨R.1, [], -1, s.writes⟩ := by rw [hR]; rfl
  rw [← hR, hDC]
  clear hR hDC
  go_enter Try.func19, Try.ntmps19
  go_wp2
  rw [← hw1]
  rw [← hbe]
  clear hbe hsz1
  have u1 : Upd (fun b => ¬ K b) w w1 := Upd.of_ext _ x1
  clear d2 hw1
  go_loopw [5, 13] (fun v i wr => ∃ (k m : Nat) (sf : List (List UInt8)), k ≤ s.queue.length ∧ m ≤ k ∧ v = .int .i64 m ∧ i = .int .i64 k ∧ DiskV wr p S M (.slice qA s.queue.length qc) ⟨sf, s.queue, s.calls, s.writes⟩ ∧ sf.length = s.safe.length ∧ Upd (fun b => ¬ K1 b) w1 wr ∧
    (crashTo keep torn cut k sf (s.queue.drop k)).1 = R.1 ∧ (crashTo keep torn cut k sf (s.queue.drop k)).2 + m = R.2) (fun _ i _ => s.queue.length - (intOf i).toNat)
  case atStart => exact ⟨0, 0, s.safe, Nat.zero_le _, Nat.le_refl _, rfl, rfl, hd, rfl, Upd.refl _ _, by rw [r0], by rw [r0]; rfl⟩
  case round =>
    obtain ⟨k, m, sf, hkn, hmk, rfl, rfl, hr, hsl, ur, hR1, hR2⟩ := hrel
    by_cases hlt : k < s.queue.length
    · obtain ⟨⟨a, l⟩, hq⟩ : ∃ q, s.queue[k]? = some q := ⟨_, List.getElem?_eq_getElem hlt⟩
      obtain ⟨g, cc, e, hrange, hq63⟩ := hr.qat k (a, l) hq
      injection e with e1 e2 e3
      subst e1; subst e3
      obtain ⟨ha, hl128⟩ : a < s.safe.length ∧ l.length = 128 := hok.queue (a, l) (List.mem_of_getElem? hq)
      have hzw : Try.zeroCells93.size = (wCells (a, l)).length := by rw [zero_wsize, length_wCells _ hl128]
      have hdr : s.queue.drop k = (a, l) :: s.queue.drop (k + 1) := by
        rw [List.drop_eq_getElem_cons hlt]
        congr 1
        have := List.getElem?_eq_getElem hlt
        rw [hq] at this
        exact (Option.some.inj this).symm
      rw [hdr, crashTo] at hR1 hR2
      have hb := hr.big
      have hbxr : wr.heap[bx]? = some (.cells #[.slice A keep.length c, .int .i64 torn, .int .i64 cut] 35 (0, 0)) := ur.heap hbx (fun x => x hKb)
      have hxr : Cells wr A (ints keep) := fun hpos => by
        obtain ⟨b, o, e, hc⟩ := hx1 hpos
        exact ⟨b, o, e, fun j u hu => ur.cell (hc j u hu) (fun x => x (hKA (by rw [length_ints] at hpos; exact hpos) ⟨b, o, none⟩ e))⟩
      have hcon : ∀ W, Ext wr W → Calls Try.prog 50 #[.slice A keep.length c, .int .i64 (k : Int)] W fun e w' => e = .returned (.bool (decide ((k : Int) ∈ keep))) ∧ W = w' :=
        fun W x => (contains_ints A keep c (k : Int) W hk63 (hxr.ext x)).mono (fun e w' h => ⟨h.1, h.2.symm⟩)
      clear e2
      by_cases hin : (k : Int) ∈ keep
      · rw [if_pos hin] at hR1 hR2
        have hdin : decide ((k : Int) ∈ keep) = true := decide_eq_true hin
        clear hin
        rw [hdin] at hcon
        go_wp2_with first
          | (refine wpList_load_w rfl (.tmp 16) rfl g (k * 129) rfl (a, l) hl128 hrange ?_)
          | (refine wpList_store_w rfl (.tmp 7) (.tmp 17) rfl wr.heap.size 0 rfl (a, l) rfl hl128 Try.zeroCells93 93 (heap_alloc_new _ _) (by rw [zero_wsize]; decide) ?_; intro w4 b4 u4; rw [putAt_all _ _ hzw] at b4; have x4 : Ext wr w4 := u4.to_ext ((Ext.refl wr).alloc _) (fun g e => by rw [e]; exact Nat.le_refl _); obtain ⟨hbx0, hbx1, hbx2⟩ := crash_cells (x4.heap hbxr))
          | (go_at_call 50; refine (hcon w4 x4).mono ?_; rintro e w5 ⟨rfl, rfl⟩)
        have hd4 := hr.ext x4
        have hb4S : ¬ (⟨wr.heap.size, 0, none⟩ : Addr).block = S := fun e => by
          have := hr.lt.2.1
          simp only at e
          omega
        have hbS : ¬ (⟨bx, 2, none⟩ : Addr).block = S := fun e => hk S (.inr (.inl rfl)) (by rw [← e]; exact hKb)
        have hc0 := hd4.cells.1
        have hk0 : w4.cell? ⟨wr.heap.size, 0, none⟩ = some (.int .i64 (a : Int)) := by rw [cell_of_row w4 _ _ _ _ _ b4]; rfl
        have hr7 : ∀ w', Upd (fun b => b = S) w4 w' → w'.rangeAt wr.heap.size 1 (octs l) := fun w' u => range_row (u.heap b4 hb4S) 1 (octs l) (by show (octs l).take (octs l).length = octs l; exact List.take_length)
        have hs9 := hd4.safe
        have hs128 : a * 128 + 128 ≤ (octs sf.flatten).toArray.size := by
          rw [List.size_toArray, length_octs, flat_len 128 sf hr.ok.safe, hsl]
          omega
        refine wp_region_held_drew (S := fun w' => Upd (fun b => b = S) w4 w') (by kernel_rfl) ((Upd.refl (fun b => b = S) w4).drew) (fun hS => ?_)
        refine takeH (i := 0) (v := ?_) rfl rfl (by kernel_rfl) (by kernel_rfl) (by kernel_rfl) (fun _ _ _ h => h) (Or.inl ⟨by kernel_rfl, ?_⟩) hS ?_
        rotate_left 1
        · (intro w' hS'; go_simp; try (with_reducible rfl))
        simp only [List.setIfInBounds_toArray, List.set_cons_succ, List.set_cons_zero]
        refine takeH (i := 1) (v := ?_) rfl rfl (by kernel_rfl) (by kernel_rfl) (by kernel_rfl) (fun _ _ _ h => h) (Or.inl ⟨by kernel_rfl, ?_⟩) hS ?_
        rotate_left 1
        · (intro w' hS'; go_simp; try (with_reducible rfl))
        simp only [List.setIfInBounds_toArray, List.set_cons_succ, List.set_cons_zero]
        refine takeH (i := 2) (v := ?_) rfl rfl (by kernel_rfl) (by kernel_rfl) (by kernel_rfl) (fun _ _ _ h => h) (Or.inl ⟨by kernel_rfl, ?_⟩) hS ?_
        rotate_left 1
        · (intro w' hS'; go_simp; try (with_reducible rfl))
        simp only [List.setIfInBounds_toArray, List.set_cons_succ, List.set_cons_zero]
        refine takeH (i := 3) (v := ?_) rfl rfl (by kernel_rfl) (by kernel_rfl) (by kernel_rfl) (fun _ _ _ h => h) (Or.inl ⟨by kernel_rfl, ?_⟩) hS ?_
        rotate_left 1
        · (intro w' hS'; have c0 := hS'.cell hc0 hd4.pS; go_simp; try (with_reducible rfl))
        simp only [List.setIfInBounds_toArray, List.set_cons_succ, List.set_cons_zero]
        refine takeH (i := 4) (v := ?_) rfl rfl (by kernel_rfl) (by kernel_rfl) (by kernel_rfl) (fun _ _ _ h => h) (Or.inl ⟨by kernel_rfl, ?_⟩) hS ?_
        rotate_left 1
        · (intro w' hS'; go_simp; try (with_reducible rfl))
        simp only [List.setIfInBounds_toArray, List.set_cons_succ, List.set_cons_zero]
        refine takeH (i := 5) (v := ?_) rfl rfl (by kernel_rfl) (by kernel_rfl) (by kernel_rfl) (fun _ _ _ h => h) (Or.inl ⟨by kernel_rfl, ?_⟩) hS ?_
        rotate_left 1
        · (intro w' hS'; have k5 := hS'.cell hk0 hb4S; go_simp; try (with_reducible rfl))
        simp only [List.setIfInBounds_toArray, List.set_cons_succ, List.set_cons_zero]
        refine takeH (i := 6) (v := ?_) rfl rfl (by kernel_rfl) (by kernel_rfl) (by kernel_rfl) (fun _ _ _ h => h) (Or.inl ⟨by kernel_rfl, ?_⟩) hS ?_
        rotate_left 1
        · (intro w' hS'; go_simp; try (with_reducible rfl))
        simp only [List.setIfInBounds_toArray, List.set_cons_succ, List.set_cons_zero]
        refine takeH (i := 7) (v := secV l) rfl rfl (by kernel_rfl) (by kernel_rfl) (by kernel_rfl) (fun _ _ _ h => h) (yieldsIf_load_mid (by kernel_rfl) 91 (.tmp 29) rfl wr.heap.size 1 rfl (octs l) _ hr7 und_sec rfl (by rw [size_sec, length_octs, hl128])) hS ?_
        simp only [List.setIfInBounds_toArray, List.set_cons_succ, List.set_cons_zero]
        refine takeH (i := 8) (v := ?_) rfl rfl (by kernel_rfl) (by kernel_rfl) (by kernel_rfl) (fun _ _ _ h => h) (Or.inl ⟨by kernel_rfl, ?_⟩) hS ?_
        rotate_left 1
        · (intro w' hS'; go_simp; try (with_reducible rfl))
        simp only [List.setIfInBounds_toArray, List.set_cons_succ, List.set_cons_zero]
        refine wpAnyH_ready (rs := [9]) (by kernel_rfl) (by simp) ?_
        refine AllReadyH.cons rfl (fun K hK => ?_) ?_
        rotate_left 1
        · exact AllReadyH.nil
        refine step_store_sec rfl (.tmp 31) (.tmp 30) rfl S (a * 128) rfl l rfl hl128 _ _ hs9 hs128 ?_; intro w9 b9 u9
        try go_simp
        refine hK.out _ _ (by first | exact hS.trans u9 | exact hS) (fun hS => ?_)
        clear hK K
        refine wpAnyH_done (by kernel_rfl) ?_ _
        have hd9 := hd4.setSafe a l (by show a < sf.length; omega) hl128 b9 hS
        have u49 : Upd (fun b => ¬ K1 b) wr w9 := (Upd.of_ext _ x4).trans (hS.mono (fun b _ e => by subst e; exact hk b (.inr (.inl rfl))))
        go_wp2
        go_roundw
        case rel => exact ⟨k + 1, m + 1, sf.set a l, by omega, by omega, val_int (by omega), val_int (by omega), hd9, by rw [List.length_set]; exact hsl, ur.trans u49, hR1, by omega⟩
        case measure => simp [intOf]; omega
      · rw [if_neg hin] at hR1 hR2
        have hdin : decide ((k : Int) ∈ keep) = false := decide_eq_false hin
        clear hin
        rw [hdin] at hcon
        by_cases ht : (k : Int) = torn ∧ 0 < cut ∧ cut < 128
        · rw [if_pos ht] at hR1 hR2
          obtain ⟨ht1, ht2, ht3⟩ := ht
          obtain ⟨C, rfl⟩ : ∃ C : Nat, cut = (C : Int) := ⟨cut.toNat, by omega⟩
          rw [Int.toNat_natCast] at hR1 hR2
          have g1 : ((k : Int) == torn) = true := beq_iff_eq.2 ht1
          have g2 : ((0 : Int) < (C : Int)) = True := eq_true ht2
          have g3 : ((C : Int) < 128) = True := eq_true ht3
          clear ht1
          go_wp2_with first
            | (refine wpList_load_w rfl (.tmp 16) rfl g (k * 129) rfl (a, l) hl128 hrange ?_)
            | (refine wpList_store_w rfl (.tmp 7) (.tmp 17) rfl wr.heap.size 0 rfl (a, l) rfl hl128 Try.zeroCells93 93 (heap_alloc_new _ _) (by rw [zero_wsize]; decide) ?_; intro w4 b4 u4; rw [putAt_all _ _ hzw] at b4; have x4 : Ext wr w4 := u4.to_ext ((Ext.refl wr).alloc _) (fun g e => by rw [e]; exact Nat.le_refl _); obtain ⟨hbx0, hbx1, hbx2⟩ := crash_cells (x4.heap hbxr))
            | (go_at_call 50; refine (hcon w4 x4).mono ?_; rintro e w5 ⟨rfl, rfl⟩)
          have hd4 := hr.ext x4
          have hb4S : ¬ (⟨wr.heap.size, 0, none⟩ : Addr).block = S := fun e => by
            have := hr.lt.2.1
            simp only at e
            omega
          have hbS : ¬ (⟨bx, 2, none⟩ : Addr).block = S := fun e => hk S (.inr (.inl rfl)) (by rw [← e]; exact hKb)
          have hc0 := hd4.cells.1
          have hk0 : w4.cell? ⟨wr.heap.size, 0, none⟩ = some (.int .i64 (a : Int)) := by rw [cell_of_row w4 _ _ _ _ _ b4]; rfl
          have hr7 : ∀ w', Upd (fun b => b = S) w4 w' → w'.rangeAt wr.heap.size 1 (octs l) := fun w' u => range_row (u.heap b4 hb4S) 1 (octs l) (by show (octs l).take (octs l).length = octs l; exact List.take_length)
          have hs9 := hd4.safe
          have hs128 : a * 128 + 128 ≤ (octs sf.flatten).toArray.size := by
            rw [List.size_toArray, length_octs, flat_len 128 sf hr.ok.safe, hsl]
            omega
          have hr7c : ∀ w', Upd (fun b => b = S) w4 w' → Octs w' (some ⟨wr.heap.size, 1, none⟩) (l.take C) := fun w' u _ => ⟨_, _, rfl, fun j v hv => hr7 w' u j v (by
            rw [← octs_take, List.getElem?_take] at hv
            split at hv
            · exact hv
            · cases hv)⟩
          refine wp_region_held_drew (S := fun w' => Upd (fun b => b = S) w4 w') (by kernel_rfl) ((Upd.refl (fun b => b = S) w4).drew) (fun hS => ?_)
          refine takeH (i := 0) (v := ?_) rfl rfl (by kernel_rfl) (by kernel_rfl) (by kernel_rfl) (fun _ _ _ h => h) (Or.inl ⟨by kernel_rfl, ?_⟩) hS ?_
          rotate_left 1
          · (intro w' hS'; go_simp; try (with_reducible rfl))
          simp only [List.setIfInBounds_toArray, List.set_cons_succ, List.set_cons_zero]
          refine takeH (i := 1) (v := ?_) rfl rfl (by kernel_rfl) (by kernel_rfl) (by kernel_rfl) (fun _ _ _ h => h) (Or.inl ⟨by kernel_rfl, ?_⟩) hS ?_
          rotate_left 1
          · (intro w' hS'; go_simp; try (with_reducible rfl))
          simp only [List.setIfInBounds_toArray, List.set_cons_succ, List.set_cons_zero]
          refine takeH (i := 2) (v := ?_) rfl rfl (by kernel_rfl) (by kernel_rfl) (by kernel_rfl) (fun _ _ _ h => h) (Or.inl ⟨by kernel_rfl, ?_⟩) hS ?_
          rotate_left 1
          · (intro w' hS'; go_simp; try (with_reducible rfl))
          simp only [List.setIfInBounds_toArray, List.set_cons_succ, List.set_cons_zero]
          refine takeH (i := 3) (v := ?_) rfl rfl (by kernel_rfl) (by kernel_rfl) (by kernel_rfl) (fun _ _ _ h => h) (Or.inl ⟨by kernel_rfl, ?_⟩) hS ?_
          rotate_left 1
          · (intro w' hS'; have c0 := hS'.cell hc0 hd4.pS; go_simp; try (with_reducible rfl))
          simp only [List.setIfInBounds_toArray, List.set_cons_succ, List.set_cons_zero]
          refine takeH (i := 4) (v := ?_) rfl rfl (by kernel_rfl) (by kernel_rfl) (by kernel_rfl) (fun _ _ _ h => h) (Or.inl ⟨by kernel_rfl, ?_⟩) hS ?_
          rotate_left 1
          · (intro w' hS'; go_simp; try (with_reducible rfl))
          simp only [List.setIfInBounds_toArray, List.set_cons_succ, List.set_cons_zero]
          refine takeH (i := 5) (v := ?_) rfl rfl (by kernel_rfl) (by kernel_rfl) (by kernel_rfl) (fun _ _ _ h => h) (Or.inl ⟨by kernel_rfl, ?_⟩) hS ?_
          rotate_left 1
          · (intro w' hS'; have k5 := hS'.cell hk0 hb4S; go_simp; try (with_reducible rfl))
          simp only [List.setIfInBounds_toArray, List.set_cons_succ, List.set_cons_zero]
          refine takeH (i := 6) (v := ?_) rfl rfl (by kernel_rfl) (by kernel_rfl) (by kernel_rfl) (fun _ _ _ h => h) (Or.inl ⟨by kernel_rfl, ?_⟩) hS ?_
          rotate_left 1
          · (intro w' hS'; go_simp; try (with_reducible rfl))
          simp only [List.setIfInBounds_toArray, List.set_cons_succ, List.set_cons_zero]
          refine takeH (i := 7) (v := ?_) rfl rfl (by kernel_rfl) (by kernel_rfl) (by kernel_rfl) (fun _ _ _ h => h) (Or.inl ⟨by kernel_rfl, ?_⟩) hS ?_
          rotate_left 1
          · (intro w' hS'; go_simp; try (with_reducible rfl))
          simp only [List.setIfInBounds_toArray, List.set_cons_succ, List.set_cons_zero]
          refine takeH (i := 8) (v := ?_) rfl rfl (by kernel_rfl) (by kernel_rfl) (by kernel_rfl) (fun _ _ _ h => h) (Or.inl ⟨by kernel_rfl, ?_⟩) hS ?_
          rotate_left 1
          · (intro w' hS'; go_simp; try (with_reducible rfl))
          simp only [List.setIfInBounds_toArray, List.set_cons_succ, List.set_cons_zero]
          refine takeH (i := 9) (v := ?_) rfl rfl (by kernel_rfl) (by kernel_rfl) (by kernel_rfl) (fun _ _ _ h => h) (Or.inl ⟨by kernel_rfl, ?_⟩) hS ?_
          rotate_left 1
          · (intro w' hS'; go_simp; try (with_reducible rfl))
          simp only [List.setIfInBounds_toArray, List.set_cons_succ, List.set_cons_zero]
          refine takeH (i := 10) (v := ?_) rfl rfl (by kernel_rfl) (by kernel_rfl) (by kernel_rfl) (fun _ _ _ h => h) (Or.inl ⟨by kernel_rfl, ?_⟩) hS ?_
          rotate_left 1
          · (intro w' hS'; have k10 := hS'.cell hbx2 hbS; go_simp; try (with_reducible rfl))
          simp only [List.setIfInBounds_toArray, List.set_cons_succ, List.set_cons_zero]
          refine takeH (i := 11) (v := ?_) rfl rfl (by kernel_rfl) (by kernel_rfl) (by kernel_rfl) (fun _ _ _ h => h) (Or.inl ⟨by kernel_rfl, ?_⟩) hS ?_
          rotate_left 1
          · (intro w' hS'; have k11 := sliceAt_hi wr.heap.size 1 C (by omega) w'; go_simp; try (with_reducible rfl))
          simp only [List.setIfInBounds_toArray, List.set_cons_succ, List.set_cons_zero]
          refine wpAnyH_ready (rs := [12]) (by kernel_rfl) (by simp) ?_
          refine AllReadyH.cons rfl (fun K hK => ?_) ?_
          rotate_left 1
          · exact AllReadyH.nil
          refine step_copy_sec (w := w4.drew) rfl (.tmp 56) (.tmp 60) rfl S (a * 128) 128 128 C 128 rfl _ rfl _ 91 hs9 (l.take C) (by rw [List.length_take]; omega) (by omega) (by omega) (hr7c _ hS) (by rw [List.length_take, flat_len 128 sf hr.ok.safe]; omega) ?_; intro w9 b9 u9
          try go_simp
          refine hK.out _ _ (by first | exact hS.trans u9 | exact hS) (fun hS => ?_)
          clear hK K
          refine wpAnyH_done (by kernel_rfl) ?_ _
          rw [flat_torn sf a C l hr.ok.safe (by omega) (by omega) hl128] at b9
          have hd9 := hd4.setTorn a C l (by show a < sf.length; omega) (by omega) hl128 b9 hS
          have u49 : Upd (fun b => ¬ K1 b) wr w9 := (Upd.of_ext _ x4).trans (hS.mono (fun b _ e => by subst e; exact hk b (.inr (.inl rfl))))
          go_wp2
          go_roundw
          case rel => exact ⟨k + 1, m, _, by omega, by omega, rfl, val_int (by omega), hd9, by rw [List.length_set]; exact hsl, ur.trans u49, hR1, hR2⟩
          case measure => simp [intOf]; omega
        · rw [if_neg ht] at hR1 hR2
          have hfin : ∀ w9, Ext wr w9 → DiskV w9 p S M (.slice (some ⟨g, 0, none⟩) s.queue.length qc) ⟨sf, s.queue, s.calls, s.writes⟩ ∧ Upd (fun b => ¬ K1 b) w1 w9 := fun w9 x9 => ⟨hr.ext x9, ur.trans (Upd.of_ext _ x9)⟩
          by_cases ht1 : (k : Int) = torn
          · by_cases ht2 : 0 < cut
            · have g1 : ((k : Int) == torn) = true := beq_iff_eq.2 ht1
              have g2 : ((0 : Int) < cut) = True := eq_true ht2
              have g3 : (cut < 128) = False := eq_false (fun x => ht ⟨ht1, ht2, x⟩)
              clear ht1 ht2 ht
              go_wp2_with first
                | (refine wpList_load_w rfl (.tmp 16) rfl g (k * 129) rfl (a, l) hl128 hrange ?_)
                | (refine wpList_store_w rfl (.tmp 7) (.tmp 17) rfl wr.heap.size 0 rfl (a, l) rfl hl128 Try.zeroCells93 93 (heap_alloc_new _ _) (by rw [zero_wsize]; decide) ?_; intro w4 b4 u4; rw [putAt_all _ _ hzw] at b4; have x4 : Ext wr w4 := u4.to_ext ((Ext.refl wr).alloc _) (fun g e => by rw [e]; exact Nat.le_refl _); obtain ⟨hbx0, hbx1, hbx2⟩ := crash_cells (x4.heap hbxr))
                | (go_at_call 50; refine (hcon w4 x4).mono ?_; rintro e w5 ⟨rfl, rfl⟩)
              go_roundw
              case rel => exact ⟨k + 1, m, sf, by omega, by omega, rfl, val_int (by omega), (hfin _ x4).1, hsl, (hfin _ x4).2, hR1, hR2⟩
              case measure => simp [intOf]; omega
            · have g1 : ((k : Int) == torn) = true := beq_iff_eq.2 ht1
              have g2 : ((0 : Int) < cut) = False := eq_false ht2
              clear ht1 ht2 ht
              go_wp2_with first
                | (refine wpList_load_w rfl (.tmp 16) rfl g (k * 129) rfl (a, l) hl128 hrange ?_)
                | (refine wpList_store_w rfl (.tmp 7) (.tmp 17) rfl wr.heap.size 0 rfl (a, l) rfl hl128 Try.zeroCells93 93 (heap_alloc_new _ _) (by rw [zero_wsize]; decide) ?_; intro w4 b4 u4; rw [putAt_all _ _ hzw] at b4; have x4 : Ext wr w4 := u4.to_ext ((Ext.refl wr).alloc _) (fun g e => by rw [e]; exact Nat.le_refl _); obtain ⟨hbx0, hbx1, hbx2⟩ := crash_cells (x4.heap hbxr))
                | (go_at_call 50; refine (hcon w4 x4).mono ?_; rintro e w5 ⟨rfl, rfl⟩)
              go_roundw
              case rel => exact ⟨k + 1, m, sf, by omega, by omega, rfl, val_int (by omega), (hfin _ x4).1, hsl, (hfin _ x4).2, hR1, hR2⟩
              case measure => simp [intOf]; omega
          · have g1 : ((k : Int) == torn) = false := beq_eq_false_iff_ne.2 ht1
            clear ht1 ht
            go_wp2_with first
              | (refine wpList_load_w rfl (.tmp 16) rfl g (k * 129) rfl (a, l) hl128 hrange ?_)
              | (refine wpList_store_w rfl (.tmp 7) (.tmp 17) rfl wr.heap.size 0 rfl (a, l) rfl hl128 Try.zeroCells93 93 (heap_alloc_new _ _) (by rw [zero_wsize]; decide) ?_; intro w4 b4 u4; rw [putAt_all _ _ hzw] at b4; have x4 : Ext wr w4 := u4.to_ext ((Ext.refl wr).alloc _) (fun g e => by rw [e]; exact Nat.le_refl _); obtain ⟨hbx0, hbx1, hbx2⟩ := crash_cells (x4.heap hbxr))
              | (go_at_call 50; refine (hcon w4 x4).mono ?_; rintro e w5 ⟨rfl, rfl⟩)
            go_roundw
            case rel => exact ⟨k + 1, m, sf, by omega, by omega, rfl, val_int (by omega), (hfin _ x4).1, hsl, (hfin _ x4).2, hR1, hR2⟩
            case measure => simp [intOf]; omega
    · obtain rfl : k = s.queue.length := by omega
      rw [List.drop_length, crashTo] at hR1 hR2
      have hRm : R.2 = m := by rw [← hR2]; exact Nat.zero_add m
      have hRs : R.1 = sf := hR1.symm
      go_wp2_with (go_at_call 49; refine (dk49_any ⟨S, M, _, hr, hk⟩).mono ?_; rintro e w2 ⟨rfl, ⟨S2, M2, qv2, hd2, hk2⟩, u2⟩; have c3 := hd2.cells.2.2.2.1; have f3 := hd2.cells.2.2.2.2.2 3)
      go_ret
      have hpK1 : ¬ K1 p := hk p (.inl rfl)
      have hfin := hd2.setCalls (-1) (by omega)
      refine ⟨by rw [hRm]; rfl, by rw [hRs]; exact ⟨S2, M2, qv2, hfin, fun b hb x => hk2 b hb (hKK b x)⟩, ?_⟩
      exact (u1.trans ((ur.trans u2).mono (fun b _ hb => hK2 b hb))).setCell (p := ⟨p, 3, none⟩) (.inl (hK2 p hpK1)) _
theorem dk19_any {K : Nat → Prop} {w : World} {p : Nat} {s : Dk} (h : Disk K w p s) (A : Option Addr) (keep : List Int) (n c : Nat) (torn cut : Int) (hn : keep.length = n) (hx : Cells w A (ints keep)) (hA : ∀ x, A = some x → K x.block) (hk63 : n ≤ 9223372036854775807) :
    Calls Try.prog 19 #[.pointer (some ⟨p, 0, none⟩), .agg #[.slice A n c, .int .i64 torn, .int .i64 cut]] w fun e w' => e = .returned (.int .i64 (((crashTo keep torn cut 0 s.safe s.queue).2 : Nat) : Int)) ∧ Disk K w' p (dkCrash s keep torn cut) ∧ Upd (fun b => ¬ K b) w w' :=
  dk19_wide h A keep n c torn cut hn hx (fun _ => hA) hk63
end Go.Proofs.Ytgpnmmgoachajaa
/- The disk's New. -/
namespace Go.Proofs.Ytgpnmmgoachajaa
open Go.RowKit
open Go.Proofs

set_option maxRecDepth 100000 in
theorem dk15_bad (n : Int) (w : World) (h : n < 1 ∨ 65536 < n) : Calls Try.prog 15 #[.int .i64 n] w fun e w' => e = .returned (.tuple #[.pointer none, .int .i64 2]) ∧ w' = w := by
  by_cases h1 : n < 1
  · go_enter Try.func15, Try.ntmps15
    go_wp2
    go_ret2
    exact ⟨rfl, rfl⟩
  · have h2 : 65536 < n := by omega
    go_enter Try.func15, Try.ntmps15
    go_wp2
    go_ret2
    exact ⟨rfl, rfl⟩
set_option maxRecDepth 100000 in
theorem info_sec : (Try.prog.info? 91).map (fun i => (i.zero, i.size, i.bytes)) = some (some (secV (List.replicate 128 0)), 128, 128) := by kernel_rfl
theorem made_secs (Z : List UInt8) (hZ : Z = List.replicate 128 0) (n : Nat) : madeCells (octs Z).toArray (n * 128) = (octs (List.replicate n Z).flatten).toArray := by
  have hl : (octs Z).toArray.size = 128 := by rw [List.size_toArray, length_octs, hZ, List.length_replicate]
  have hf : (List.replicate n Z).flatten = List.replicate (n * 128) 0 := by rw [hZ, List.flatten_replicate_replicate]
  rw [hf]
  apply Array.toList_inj.1
  apply List.ext_getElem
  · simp [madeCells]
  · intro i h1 h2
    have hi : i < n * 128 := by simpa [madeCells] using h1
    have e1 : (madeCells (octs Z).toArray (n * 128)).toList[i] = (octs Z).toArray[i % (octs Z).toArray.size]! := by simp [madeCells]
    rw [e1, hl]
    have hm : i % 128 < 128 := Nat.mod_lt _ (by decide)
    rw [getElem!_pos (octs Z).toArray (i % 128) (by rw [hl]; exact hm)]
    have hz : ∀ x ∈ Z, x = 0 := fun x hx => by rw [hZ] at hx; exact List.eq_of_mem_replicate hx
    have hzl : i % 128 < Z.length := by rw [hZ, List.length_replicate]; exact hm
    have e2 : (octs Z).toArray[i % 128]'(by rw [hl]; exact hm) = oct Z[i % 128] := by simp [octs]
    rw [e2, hz _ (List.getElem_mem hzl)]
    simp [octs]
theorem make_secs (n : Nat) (hn : n ≤ 65536) (w : World) :
    (Instr.makeSlice 81 (.int .i64 (n : Int)) (.int .i64 (n : Int))).run Try.prog w = .ok (.slice (some ⟨w.heap.size, 0, none⟩) n n) (w.alloc (.cells (octs (dkNew n).safe.flatten).toArray 91)) := by
  obtain ⟨Z, hZ⟩ : ∃ Z : List UInt8, Z = List.replicate 128 0 := ⟨_, rfl⟩
  have hi := info_sec
  rw [← hZ] at hi
  obtain ⟨i0, hi0, hz, hs, hb⟩ : ∃ i, Try.prog.info? 91 = some i ∧ i.zero = some (secV Z) ∧ i.size = 128 ∧ i.bytes = 128 := by
    cases hq : Try.prog.info? 91 with
    | none => rw [hq] at hi; cases hi
    | some i => rw [hq] at hi; injection hi with hi; injection hi with h1 h2; injection h2 with h2 h3; exact ⟨i, rfl, h1, h2, h3⟩
  have h := run_make (P := Try.prog) w 81 91 i0 _ Try.underlying81 hi0 hz .i64 .i64 (n : Int) (n : Int) (by omega) (by omega) (by rw [hb]; omega) (by omega)
  rw [h, hs, Int.toNat_natCast]
  show Result.ok _ (w.alloc (.cells (madeCells (octs Z).toArray (n * 128)) 91)) = _
  rw [made_secs Z hZ]
  show _ = Result.ok _ (w.alloc (.cells (octs (List.replicate n (List.replicate 128 0)).flatten).toArray 91))
  rw [← hZ]
set_option maxRecDepth 100000 in
theorem dk15_good (n : Nat) (w : World) (h1 : 1 ≤ n) (h2 : n ≤ 65536) : Calls Try.prog 15 #[.int .i64 (n : Int)] w fun e w' => ∃ p, e = .returned (.tuple #[.pointer (some ⟨p, 0, none⟩), .int .i64 0]) ∧ Disk (fun b => b < w.heap.size) w' p (dkNew n) ∧ Ext w w' := by
  have g1 : ((n : Int) < 1) = False := eq_false (by omega)
  have g2 : (65536 < (n : Int)) = False := eq_false (by omega)
  have hmk := make_secs n h2 w
  obtain ⟨cs, hcs⟩ : ∃ cs, cs = (octs (dkNew n).safe.flatten).toArray := ⟨_, rfl⟩
  rw [← hcs] at hmk
  have HC := Lib.hid hcs
  have hmm := @run_makeMap Try.prog
  clear hcs
  go_enter Try.func15, Try.ntmps15
  go_wp2
  refine bodyPost_ret (results_tmp2 rfl _ _ _) rfl ?_
  have s1 : (w.alloc (.cells cs 91)).heap.size = w.heap.size + 1 := World.size_alloc ..
  have s2 : ((w.alloc (.cells cs 91)).alloc (.map #[] 0)).heap.size = w.heap.size + 1 + 1 := by rw [World.size_alloc, s1]
  have b1 : (w.alloc (.cells cs 91)).heap[w.heap.size]? = some (.cells cs 91 (0, 0)) := heap_alloc_new w _
  have m1 : Seen ((w.alloc (.cells cs 91)).alloc (.map #[] 0)) (w.heap.size + 1) [] := by
    have := Seen.new (w.alloc (.cells cs 91))
    rw [s1] at this
    exact this
  have X2 : Ext (w.alloc (.cells cs 91)) ((w.alloc (.cells cs 91)).alloc (.map #[] 0)) := (Ext.refl _).alloc _
  have X3 := fun o => (Ext.refl ((w.alloc (.cells cs 91)).alloc (.map #[] 0))).alloc o
  refine ⟨w.heap.size + 1 + 1, rfl, ⟨w.heap.size, w.heap.size + 1, .slice none 0 0, ⟨dkOk_new n, ⟨show (-1 : Int) ≤ -1 by decide, show (-1 : Int) ≤ 9223372036854775807 by decide⟩, ?_, ?_, ?_, m1.ext (X3 _), World.ownsRow_nil _ _ _ _⟩, ?_⟩, (((Ext.refl w).alloc _).alloc _).alloc _⟩
  · show (List.replicate n (List.replicate 128 (0 : UInt8))).length ≤ 65536
    rw [List.length_replicate]; exact h2
  · show _ = some (Obj.cells #[.slice (some ⟨w.heap.size, 0, none⟩) (List.replicate n (List.replicate 128 (0 : UInt8))).length (List.replicate n (List.replicate 128 (0 : UInt8))).length, .map (some (w.heap.size + 1)), .slice none 0 0, .int .i64 (-1), .int .i64 0] 85 (0, 0))
    rw [List.length_replicate, ← s2]
    exact heap_alloc_new _ _
  · rw [← HC.out]
    exact (X3 _).heap (X2.heap b1)
  · intro b hb
    rcases hb with hb | hb | hb | hb
    · omega
    · omega
    · omega
    · cases hb
end Go.Proofs.Ytgpnmmgoachajaa
/- slices.Chunk over octets, 128 a part: the function value it hands back, and what that gives to a loop, part by part. -/
namespace Go.Proofs.Ytgpnmmgoachajaa
open Go.RowKit Go.Shelf
open Go.Proofs
attribute [local go_sem] Oper.semAt_some

/-- The chunk at an index: its address, its value. -/
def dhA (A : Option Addr) (i : Nat) : Option Addr := A.map (fun x => x.add (128 * i))
def dhN (n i : Nat) : Nat := min 128 (n - 128 * i)
abbrev dhV (A : Option Addr) (n i : Nat) : Value := .slice (dhA A i) (dhN n i) (dhN n i)
theorem dh_octs {w : World} {A : Option Addr} {l : List UInt8} (h : Octs w A l) (i : Nat) : Octs w (dhA A i) ((l.drop (128 * i)).take 128) := by
  by_cases hi : 128 * i < l.length
  · have := (h.cut (128 * i) l.length (Nat.le_refl _) (by omega)).take 128
    rw [if_neg (by omega), Nat.mul_one] at this
    exact this
  · rw [List.drop_of_length_le (by omega)]
    exact Octs.nil _ _
theorem dh_len (l : List UInt8) (n i : Nat) (hn : l.length = n) : ((l.drop (128 * i)).take 128).length = dhN n i := by
  rw [List.length_take, List.length_drop, hn]; rfl
/-- The two captured boxes stay. -/
def KdB (B : Nat) (W W' : World) : Prop := W'.heap[B]? = W.heap[B]? ∧ W'.heap[B + 1]? = W.heap[B + 1]?
theorem kdB_t {B : Nat} {W1 W2 W3 : World} (h : KdB B W1 W2) (k : KdB B W2 W3) : KdB B W1 W3 := ⟨k.1.trans h.1, k.2.trans h.2⟩
theorem kdB_b {B : Nat} {w : World} (hB : B + 1 < w.heap.size) (W : World) (l : Nat) (o o' : Obj) (hl : w.heap.size ≤ l) (_ : W.heap[l]? = some o) (_ : o.isCells = false) (_ : o.isWalk = false) : KdB B W (W.putObj l o') :=
  ⟨World.putObj_heap_other (by omega), World.putObj_heap_other (by omega)⟩

set_option maxRecDepth 100000 in
set_option maxHeartbeats 2000000 in
theorem chunk8_stops (f : Nat → Nat) (m B : Nat) (A : Option Addr) (n c : Nat) (w : World) (hB : B + 1 < w.heap.size) (hn : n ≤ 4294967296) (hc : n ≤ c) (hm : 1 ≤ m) (hf : ∀ x, x < (n + 127) / 128 → f x = x)
    (h1 : Boxed w B 22 (.slice A n c)) (h2 : Boxed w (B + 1) 3 (.int .i64 128)) :
    SeqStopsK Fence.wide m Try.prog 63 #[.pointer (some ⟨B, 0, none⟩), .pointer (some ⟨B + 1, 0, none⟩)] (fun x : Nat => #[dhV A n (f x)]) (KdB B) (fun xs => xs = List.range ((n + 127) / 128)) (fun _ => True) ((n + 127) / 128) w := fun l J Jx W hW hJ _ hY h0 => by
  have b1 : Boxed W B 22 (.slice A n c) := (hW.block B (by omega)).trans h1
  have b2 : Boxed W (B + 1) 3 (.int .i64 128) := (hW.block (B + 1) (by omega)).trans h2
  clear h1 h2 hW
  refine callsIn_of_wp Try.func63 rfl trivial ?_ rfl
  simp only [Try.ntmps63, List.size_toArray, List.length_cons, List.length_nil, Nat.reduceAdd, Nat.reduceSub, Array.replicate_succ, Array.replicate_zero, List.push_toArray, List.append_toArray, List.nil_append, List.cons_append]
  gi_wp2
  gi_loopw [4] (fun i wr => ∃ k : Nat, k ≤ (n + 127) / 128 ∧ i = .int .i64 ((128 * k : Nat) : Int) ∧ J (List.range k) wr ∧ Boxed wr B 22 (.slice A n c) ∧ Boxed wr (B + 1) 3 (.int .i64 128))
    (fun i _ => n + 128 - (intOf i).toNat)
  case atStart => exact ⟨0, Nat.zero_le _, rfl, h0, b1, b2⟩
  case round =>
    obtain ⟨k, hk, rfl, hJs, c1, c2⟩ := hrel
    have d1 := c1.cell
    have d2 := c2.cell
    by_cases hlt : 128 * k < n
    · have hJd : J (List.range k) wr.drew := hJ _ wr _ none hJs ⟨rfl, rfl, rfl, Nat.le_refl _, fun _ _ _ => rfl⟩ (fun r e => by cases e)
      obtain ⟨fn, tmps, assign, body, hy, hR⟩ := hY _ k wr.drew hJd (by rw [List.length_range]; omega)
      have hmin : (if ((n - 128 * k : Nat) : Int) < 128 then ((n - 128 * k : Nat) : Int) else 128) = ((dhN n k : Nat) : Int) := by
        unfold dhN
        split <;> omega
      have hmin2 : min (128 : Int) ((n - 128 * k : Nat) : Int) = ((dhN n k : Nat) : Int) := by unfold dhN; omega
      have hch : dhN n k ≤ 128 := by unfold dhN; omega
      have hy' : (Instr.yield l #[.slice (Option.map (fun x => x.add (128 * k)) A) (dhN n k) (dhN n k)]).run Try.prog wr.drew = Result.ok (Next.round l fn tmps assign body) wr.drew := by
        have hy2 := hy
        simp only [hf k (by omega)] at hy2
        exact hy2
      clear hy
      gi_wp2
      gi_region
      gi_wp2
      refine hR.mono ?_
      rintro e W3 (⟨rfl, hJ3, hk3⟩ | ⟨rfl, hJx3⟩)
      · have e1 : Boxed W3 B 22 (.slice A n c) := hk3.1.trans c1
        have e2 : Boxed W3 (B + 1) 3 (.int .i64 128) := hk3.2.trans c2
        have f2 := e2.cell
        gi_wp2
        go_roundw
        case rel => exact ⟨k + 1, by omega, val_int (by omega), by rw [List.range_succ]; exact hJ3, e1, e2⟩
        case measure => simp [intOf]; omega
      · gi_wp2
        refine bodyPost_ret (results_none rfl _ _ _) rfl ?_
        exact ⟨⟨_, rfl⟩, .inr ⟨_, trivial, hJx3⟩⟩
    · obtain rfl : k = (n + 127) / 128 := by omega
      gi_wp2
      go_end0
      exact ⟨⟨_, rfl⟩, .inl ⟨_, rfl, hJs⟩⟩

set_option maxRecDepth 100000 in
theorem chunk8_any (A : Option Addr) (n c : Nat) (w : World) : Calls Try.prog 48 #[.slice A n c, .int .i64 128] w fun e w' =>
    e = .returned (.func (.func 63) #[] #[.pointer (some ⟨w.heap.size, 0, none⟩), .pointer (some ⟨w.heap.size + 1, 0, none⟩)]) ∧ w' = (w.alloc (.cells #[.slice A n c] 22)).alloc (.cells #[.int .i64 128] 3) := by
  go_enter Try.func48, Try.ntmps48
  go_wp2
  go_ret
  exact ⟨rfl, rfl⟩
end Go.Proofs.Ytgpnmmgoachajaa
/- One step with a write that waits, in a region that draws its order; what stays between two rounds. -/
namespace Go.Proofs.Ytgpnmmgoachajaa
open Go.RowKit Go.Shelf
open Go.Proofs

section
variable {w : World} {ops : Array Oper} {o : Oper} {a : Act} {Q : Exit → Act → World → Prop}
theorem yields_build_w {S : World → Prop} (hw : Region.wanted o (yielded ops a.tmps) = true) (x y : Operand) (ho : o.op = .build 93 #[(0, x), (1, y)]) (n : Int) (l : List UInt8) (hx : a.eval x = .int .i64 n) (hy : a.eval y = secV l) (hl : l.length = 128) :
    YieldsIf Try.prog ops S o (.agg (Value.int .i64 n :: octs l).toArray) a := .inl ⟨hw, fun w _ => by
  unfold execOp
  simp only [ho, List.map_toArray, List.map_cons, List.map_nil, hx, hy, build_w n l hl, Sem.run_bind, Result.andThen_ok, Sem.run_pure]⟩
variable {K : Act → World → Prop} {E : Prop}
theorem step_store_w (hgd : o.guard = none) (x y : Operand) (ho : o.op = .store 93 x y) (b k : Nat) (hx : a.eval x = .pointer (some ⟨b, k, none⟩)) (q : Nat × List UInt8) (hy : a.eval y = .agg (wCells q).toArray) (hl : q.2.length = 128)
    (cur : Array Value) (t : TypeId) (hb : w.heap[b]? = some (.cells cur t (0, 0))) (hk : k + 129 ≤ cur.size)
    (h : ∀ w', w'.heap[b]? = some (.cells (putAt cur k (wCells q)) t (0, 0)) → Upd (fun g => g = b) w w' → K (a.put o.dst undef) w') : if Region.wanted o (yielded ops a.tmps) = true then Oper.wp Try.prog o a w K Q else E := by
  have hw : Region.wanted o (yielded ops a.tmps) = true := by simp [Region.wanted, hgd]
  rw [if_pos hw]
  have hsz : (wCells q).toArray.size = 129 := by rw [List.size_toArray, length_wCells q hl]
  refine wp_store_mid _ x y ho b k (wCells q).toArray hx hy (there_row hb k _ (by omega)) (by rw [size_w, hsz]) (all_wCells q) ?_
  exact h _ (heap_setCells b t (wCells q) k w cur hb) (upd_setCells (F := fun g => g = b) b rfl (wCells q) k w)
theorem step_bslice_w (hgd : o.guard = none) (x : Operand) (ho : o.op = .buildSlice 83 1 #[(0, x)]) (q : Nat × List UInt8) (hx : a.eval x = .agg (wCells q).toArray) (hl : q.2.length = 128)
    (h : K (a.put o.dst (.slice (some ⟨w.heap.size, 0, none⟩) 1 1)) (w.alloc (.cells (wCells q).toArray 93))) : if Region.wanted o (yielded ops a.tmps) = true then Oper.wp Try.prog o a w K Q else E := by
  have hw : Region.wanted o (yielded ops a.tmps) = true := by simp [Region.wanted, hgd]
  rw [if_pos hw]
  unfold Oper.wp execOp
  simp only [ho, List.map_toArray, List.map_cons, List.map_nil, hx, buildSlice_w q hl, Sem.run_bind, Result.andThen_ok, Sem.run_pure]
  exact h
theorem step_app_w (hgd : o.guard = none) (s x : Operand) (ho : o.op = .call { callee := .builtin .append, args := #[s, x], argTypes := #[83, 83] }) (v : Value) (n : Nat) (xs : List Value) (hs : a.eval s = v) (hown : w.ownsRow 0 93 129 v n xs)
    (b : Nat) (hx : a.eval x = .slice (some ⟨b, 0, none⟩) 1 1) (q : Nat × List UInt8) (hl : q.2.length = 128) (hb : w.heap[b]? = some (.cells (wCells q).toArray 93 (0, 0))) (hn : n + 1 ≤ 4294967296)
    (h : ∀ v' w', w'.ownsRow 0 93 129 v' (n + 1) (xs ++ wCells q) → w.grownBy w' v.ownBlock → (v'.ownBlock = v.ownBlock ∨ v'.ownBlock = some w.heap.size) → K (a.put o.dst v') w') :
    if Region.wanted o (yielded ops a.tmps) = true then Oper.wp Try.prog o a w K Q else E := by
  have hw : Region.wanted o (yielded ops a.tmps) = true := by simp [Region.wanted, hgd]
  rw [if_pos hw]
  obtain ⟨i, z, hi, hz, hsz, hby, hzs⟩ := info_w
  have hr : w.rangeAt b 0 (wCells q) := range_row hb 0 (wCells q) (by rw [List.drop_zero]; exact List.take_of_length_le (Nat.le_refl _))
  obtain ⟨v', w', hrun, h1, h2, _, h4⟩ := run_append_own_at (P := Try.prog) w 0 83 o.type 93 i z 129 136 Try.underlying83 hi hz hsz hby hzs (by decide) v n xs hown ⟨b, 0, none⟩ 1 1 (wCells q) (by rw [length_wCells q hl])
    (fun j u hu => by rw [Addr.add_mid]; exact hr j u hu) (fun u hu => (Array.all_eq_true_iff_forall_mem.1 (all_wCells q)) u (by simpa using hu)) (by simp only [maxLen]; omega) (by omega) (Nat.zero_le _)
  unfold Oper.wp
  simp [execOp, ho, resolve, invoke, builtin, hs, hx, hrun, Result.andThen]
  exact h v' w' h1 h2 h4
theorem step_put_sec (hgd : o.guard = none) (m x v : Operand) (ho : o.op = .mapUpdate 82 m x v) (M k : Nat) (q : List (Nat × List UInt8)) (l : List UInt8) (hm : a.eval m = .map (some M)) (hx : a.eval x = .int .i64 (k : Int)) (hv : a.eval v = secV l)
    (hs : Seen w M q) (hk : k < 9223372036854775808) (hq : q.length < maxLen) (h : ∀ w', Seen w' M (q ++ [(k, l)]) → Upd (fun b => b = M) w w' → K (a.put o.dst undef) w') :
    if Region.wanted o (yielded ops a.tmps) = true then Oper.wp Try.prog o a w K Q else E := by
  have hw : Region.wanted o (yielded ops a.tmps) = true := by simp [Region.wanted, hgd]
  rw [if_pos hw]
  obtain ⟨w', hrun, h1, h2⟩ := hs.put k l hk hq
  unfold Oper.wp
  simp [execOp, ho, hm, hx, hv, hrun, Result.andThen]
  exact h w' h1 h2
end
/-- The writes that the chunks that came make. -/
def qOf (at_ : Nat) (l : List UInt8) : Nat → List Nat → List (Nat × List UInt8)
  | _, [] => []
  | i, x :: xs => (at_ + i, (l.drop (128 * x)).take 128) :: qOf at_ l (i + 1) xs
theorem qOf_snoc (at_ : Nat) (l : List UInt8) (x : Nat) : ∀ (pre : List Nat) (i : Nat), qOf at_ l i (pre ++ [x]) = qOf at_ l i pre ++ [(at_ + (i + pre.length), (l.drop (128 * x)).take 128)]
  | [], i => by simp [qOf]
  | y :: ys, i => by
    rw [List.cons_append, qOf, qOf_snoc at_ l x ys (i + 1), qOf, List.length_cons, show i + 1 + ys.length = i + (ys.length + 1) by omega]
    rfl
theorem qOf_range (at_ : Nat) (l : List UInt8) : ∀ k, qOf at_ l 0 (List.range k) = cutSec at_ l k
  | 0 => rfl
  | k + 1 => by
    rw [List.range_succ, qOf_snoc, qOf_range at_ l k, List.length_range, Nat.zero_add, cutSec_succ]
theorem length_qOf (at_ : Nat) (l : List UInt8) : ∀ (pre : List Nat) (i : Nat), (qOf at_ l i pre).length = pre.length
  | [], _ => rfl
  | _ :: xs, i => by rw [qOf, List.length_cons, length_qOf at_ l xs (i + 1), List.length_cons]

/-- Between two rounds: the disk so far; what is kept; where the next write goes. -/
def WrI (K : Nat → Prop) (w3 : World) (p S M b4 at_ : Nat) (l : List UInt8) (s : Dk) (pre : List Nat) (W : World) : Prop :=
  ∃ qv, DiskV W p S M qv ⟨s.safe, s.queue ++ qOf at_ l 0 pre, s.calls, s.writes + ((pre.length : Nat) : Int)⟩ ∧ (∀ b, dkB p S M qv b → ¬ K b ∧ b ≠ b4) ∧ Upd (fun b => ¬ K b) w3 W ∧ Boxed W b4 3 (.int .i64 ((at_ + pre.length : Nat) : Int))
theorem heap_cells_ne {W : World} {row : Option Nat} {b : Nat} {cs : Array Value} {t : TypeId} {fr : Nat × Nat} (hb : W.heap[b]? = some (.cells cs t fr)) (hr : ∀ r, row = some r → ∃ o : Obj, W.heap[r]? = some o ∧ o.isCells = false) : some b ≠ row := fun e => by
  obtain ⟨o, ho, hc⟩ := hr b e.symm
  rw [hb] at ho
  cases ho
  cases hc
theorem wrI_own {K : Nat → Prop} {w3 : World} {p S M b4 at_ : Nat} {l : List UInt8} {s : Dk} {B : Nat} (hB : w3.heap.size ≤ B) (hM : M < B) : OwnFrom B (WrI K w3 p S M b4 at_ l s) := by
  rintro pre W W' row ⟨qv, hd, hk, hu, hb⟩ hg hr
  have hr1 : ∀ r, row = some r → ∃ o : Obj, W.heap[r]? = some o ∧ o.isCells = false := fun r e => (hr r e).2
  have hlt := hd.lt
  refine ⟨qv, hd.keep (hg.block p hlt.1 (heap_cells_ne hd.me hr1)) (hg.block S hlt.2.1 (heap_cells_ne hd.safe hr1)) (hg.block M hlt.2.2.1 (fun e => by have := (hr M e.symm).1; omega)) (fun g hgq => ?_), hk,
    hu.trans' (Upd.grown (F := fun b => row = some b) hg (fun k e => e)) (fun b e => .inr (by have := (hr b e).1; omega)), (hg.block b4 hb.lt (heap_cells_ne hb hr1)).trans hb⟩
  refine hg.block g (hlt.2.2.2 g hgq) ?_
  rcases hd.queue.2 with ⟨e, _⟩ | ⟨g', cap, cur, e, _, hh, _⟩
  · rw [e] at hgq; cases hgq
  · rw [e] at hgq
    injection hgq with hgq
    have hgq : g' = g := hgq
    subst hgq
    exact heap_cells_ne hh hr1
section
variable {w w6 w7 : World} {p S M n : Nat} {qA : Option Addr} {qc : Nat} {s : Dk} {V : Value}
/-- A write has been appended to the row of those that wait, and the row's header stored. -/
theorem DiskV.push (h : DiskV w p S M (.slice qA n qc) s) (hn : s.queue.length = n) (hx : Ext w w6) (q : Nat × List UInt8) (r7 : w7.ownsRow 0 93 129 V (n + 1) (qCells s.queue ++ wCells q)) (g7 : w6.grownBy w7 (Value.slice qA n qc).ownBlock)
    (k7 : V.ownBlock = (Value.slice qA n qc).ownBlock ∨ V.ownBlock = some w6.heap.size) :
    w7.heap[p]? = w.heap[p]? ∧ (w7.setCell ⟨p, 2, none⟩ V).heap[p]? = some (.cells #[.slice (some ⟨S, 0, none⟩) s.safe.length s.safe.length, .map (some M), V, .int .i64 s.calls, .int .i64 s.writes] 85 (0, 0)) ∧
    Upd (fun b => b = p ∨ (Value.slice qA n qc).ownBlock = some b) w (w7.setCell ⟨p, 2, none⟩ V) ∧ (w7.setCell ⟨p, 2, none⟩ V).ownsRow 0 93 129 V (s.queue ++ [q]).length (qCells (s.queue ++ [q])) ∧
    ∀ g, V.ownBlock = some g → (Value.slice qA n qc).ownBlock = some g ∨ w.heap.size ≤ g := by
  have hlt := h.lt
  have hp7 : w7.heap[p]? = w.heap[p]? := (g7.block p (Nat.lt_of_lt_of_le hlt.1 hx.size) (fun e => (h.row e.symm).1 rfl)).trans (Below.block hx p hlt.1)
  have hg : ∀ g, V.ownBlock = some g → (Value.slice qA n qc).ownBlock = some g ∨ w.heap.size ≤ g := fun g e => by
    rcases k7 with k | k
    · exact .inl (k.symm.trans e)
    · rw [k] at e
      injection e with e
      exact .inr (by rw [← e]; exact hx.size)
  have hpV : ∀ g, V.ownBlock = some g → g ≠ p := fun g e => by
    rcases hg g e with k | k
    · exact (h.row k).1
    · have := hlt.1; omega
  have hu7 : Upd (fun b => b = p ∨ (Value.slice qA n qc).ownBlock = some b) w w7 := (Upd.of_ext _ hx).trans (Upd.grown g7 (fun k e => .inr e))
  refine ⟨hp7, ?_, hu7.setCell (p := ⟨p, 2, none⟩) (.inl (.inl rfl)) V, ?_, hg⟩
  · have := heap_setCell_same w7 p 2 _ _ V (hp7.trans h.me)
    simp only [List.setIfInBounds_toArray, List.set_cons_succ, List.set_cons_zero] at this
    exact this
  · rw [qCells_snoc, List.length_append, List.length_singleton, hn]
    exact row_keep r7 (fun g e => by
      have hne := hpV g e
      have hu : Upd (fun b => b = p) w7 (w7.setCell ⟨p, 2, none⟩ V) := (Upd.refl (fun b => b = p) w7).setCell (.inl rfl) _
      exact hu.block g (World.ownsRow.lt r7 g e).2 hne)
/-- .. and the map knows of it. -/
theorem DiskV.pushed {w8 w9 : World} (h : DiskV w p S M (.slice qA n qc) s) (q : Nat × List UInt8) (hq : q.1 < s.safe.length ∧ q.2.length = 128)
    (me : w8.heap[p]? = some (.cells #[.slice (some ⟨S, 0, none⟩) s.safe.length s.safe.length, .map (some M), V, .int .i64 s.calls, .int .i64 s.writes] 85 (0, 0)))
    (u8 : Upd (fun b => b = p ∨ (Value.slice qA n qc).ownBlock = some b) w w8) (r8 : w8.ownsRow 0 93 129 V (s.queue ++ [q]).length (qCells (s.queue ++ [q])))
    (g8 : ∀ g, V.ownBlock = some g → (Value.slice qA n qc).ownBlock = some g ∨ w.heap.size ≤ g) (m9 : Seen w9 M (s.queue ++ [q])) (u9 : Upd (fun b => b = M) w8 w9) : DiskV w9 p S M V { s with queue := s.queue ++ [q] } := by
  have hlt := h.lt
  refine ⟨⟨h.ok.safe, fun x hx => ?_⟩, h.calls, h.big, u9.heap me h.pM, u9.heap (u8.heap h.safe (fun x => ?_)) h.sM, m9, row_keep r8 (fun g e => u9.block g (World.ownsRow.lt r8 g e).2 ?_)⟩
  · rcases List.mem_append.1 hx with x1 | x1
    · exact h.ok.queue x x1
    · have : x = q := by simpa using x1
      rw [this]; exact hq
  · rcases x with x | x
    · exact h.pS x.symm
    · exact (h.row x).2.1 rfl
  · rcases g8 g e with k | k
    · exact (h.row k).2.2
    · have := hlt.2.2.1; omega
end
theorem wr_keeps {W wf : World} {p S M b4 B0 : Nat} {qv : Value} {s : Dk} {t : TypeId} {v : Value} (h : DiskV W p S M qv s) (hb : Boxed W b4 t v) (hM : M < B0) (u : Upd (fun b => dkB p S M qv b ∨ b = b4) W wf) : KeepsFrom B0 W wf := by
  refine ⟨u.size, fun k o hk ho hc => ?_⟩
  have hlt := (Array.getElem?_eq_some_iff.1 ho).1
  refine (u.block k hlt ?_).trans ho
  rintro ((x | x | x | x) | x)
  · subst x
    have := h.me.symm.trans ho
    injection this with this
    rw [← this] at hc
    cases hc
  · subst x
    have := h.safe.symm.trans ho
    injection this with this
    rw [← this] at hc
    cases hc
  · omega
  · rcases h.queue.2 with ⟨e, _⟩ | ⟨g', cap, cur, e, _, hh, _⟩
    · rw [e] at x; cases x
    · rw [e] at x
      injection x with x
      have x : g' = k := x
      subst x
      have := hh.symm.trans ho
      injection this with this
      rw [← this] at hc
      cases hc
  · subst x
    have hb' : W.heap[k]? = some (.cells #[v] t (0, 0)) := hb
    have := hb'.symm.trans ho
    injection this with this
    rw [← this] at hc
    cases hc
end Go.Proofs.Ytgpnmmgoachajaa
/- The disk's Write. -/
namespace Go.Proofs.Ytgpnmmgoachajaa
open Go.RowKit Go.Shelf
open Go.Proofs
attribute [local go_sem] Oper.semAt_some

set_option maxRecDepth 100000 in
set_option maxHeartbeats 8000000 in
theorem dk16_on {K : Nat → Prop} {w : World} {p : Nat} {s : Dk} (h : Disk K w p s) (h0 : s.calls ≠ 0) (A : Option Addr) (l : List UInt8) (m c at_ : Nat) (hl : l.length = m) (hm : m % 128 = 0) (hat : at_ + m / 128 ≤ s.safe.length) (hc : m ≤ c)
    (hx : Octs w A l) (hA : ∀ a, A = some a → K a.block) (hwr : 0 ≤ s.writes ∧ s.writes ≤ 4294967296) (hq : s.queue.length ≤ 2147483648) (hKb : ∀ b, K b → b < w.heap.size) :
    Calls Try.prog 16 #[.pointer (some ⟨p, 0, none⟩), .int .i64 (at_ : Int), .slice A m c] w fun x w' => x = .returned (.int .i64 0) ∧ Disk K w' p (dkWrite s at_ l) ∧ Upd (fun b => ¬ K b) w w' := by
  obtain ⟨n, hmn⟩ : ∃ n, m = 128 * n := ⟨m / 128, by omega⟩
  have hnn : m / 128 = n := by omega
  rw [hnn] at hat
  obtain ⟨w1, hw1⟩ : ∃ w1, w1 = (w.alloc (.cells #[.pointer (some ⟨p, 0, none⟩)] 25)).alloc (.cells #[.int .i64 (at_ : Int)] 3) := ⟨_, rfl⟩
  have hbig : s.safe.length ≤ 65536 := h.choose_spec.choose_spec.choose_spec.1.big
  have X1 : Ext w w1 := by rw [hw1]; exact ((Ext.refl w).alloc _).alloc _
  have z1 : w1.heap.size = w.heap.size + 1 + 1 := by rw [hw1]; simp
  have b3 : Boxed w1 w.heap.size 25 (.pointer (some ⟨p, 0, none⟩)) := by rw [hw1]; exact (Boxed.new w _ _).alloc _
  have b4 : Boxed w1 (w.heap.size + 1) 3 (.int .i64 (at_ : Int)) := by
    rw [hw1]
    have := Boxed.new (w.alloc (.cells #[.pointer (some ⟨p, 0, none⟩)] 25)) 3 (.int .i64 (at_ : Int))
    rw [World.size_alloc] at this
    exact this
  have h1 : Disk (fun b => K b ∨ w.heap.size ≤ b) w1 p s := h.more X1
  have hth : thereOf s.safe.length (at_ : Int) (n : Int) = 0 := by unfold thereOf; rw [if_pos (by omega)]
  have hf46 : Calls Try.prog 46 #[.pointer (some ⟨p, 0, none⟩), .int .i64 (at_ : Int), .int .i64 (n : Int)] w1 fun e w' => e = .returned (.int .i64 0) ∧ w1 = w' := by
    obtain ⟨S, M, qv, g, _⟩ := h1
    have := dk46_any g (at_ : Int) (n : Int)
    rw [hth] at this
    exact this
  have hf47 := dk47_on h1 h0
  have hm0 : ((m : Nat) : Int).tmod 128 = 0 := by rw [Int.tmod_eq_emod_of_nonneg (by omega)]; omega
  have hm1 : ((m : Nat) : Int) % 128 = 0 := by omega
  have hm2 : ((m : Nat) : Int).tdiv 128 = (n : Int) := by rw [Int.tdiv_eq_ediv_of_nonneg (by omega)]; omega
  have hm3 : ((m : Nat) : Int) / 128 = (n : Int) := by omega
  rw [hw1] at hf46 hf47
  have HMN := Lib.hid hmn
  have HM := Lib.hid hm
  have HNN := Lib.hid hnn
  clear hmn hm hnn
  refine (callsIn_wide (n := 3)).1 ?_
  refine callsIn_of_wp_marks Try.func16 rfl trivial ?_ rfl
  simp only [Try.ntmps16, List.size_toArray, List.length_cons, List.length_nil, Nat.reduceAdd, Nat.reduceSub, Array.replicate_succ, Array.replicate_zero, List.push_toArray, List.append_toArray, List.nil_append, List.cons_append]
  gi_wp2_with first
    | (refine ⟨trivial, ?_⟩; gi_at_call 46; refine (callsIn_wide.2 hf46).mono ?_; clear hf46; rintro e w' ⟨rfl, rfl⟩)
    | (refine ⟨trivial, ?_⟩; gi_at_call 47; refine (callsIn_wide.2 hf47).mono ?_; clear hf47; rw [← hw1]; rintro e w2 ⟨rfl, h2, u2⟩; have b32 : Boxed w2 _ _ _ := u2.heap b3 (fun x => x (.inr (Nat.le_refl _))); have b42 : Boxed w2 _ _ _ := u2.heap b4 (fun x => x (.inr (Nat.le_succ _))))
    | (refine ⟨trivial, ?_⟩; gi_at_call 48; refine (callsIn_wide.2 (chunk8_any A m c _)).mono ?_; rintro e w' ⟨rfl, rfl⟩)
  obtain ⟨q3, hq3⟩ : ∃ q3, q3 = w.heap.size := ⟨_, rfl⟩
  obtain ⟨B, hB⟩ : ∃ B, B = w2.heap.size := ⟨_, rfl⟩
  obtain ⟨w3, hw3⟩ : ∃ w3, w3 = (w2.alloc (.cells #[.slice A m c] 22)).alloc (.cells #[.int .i64 128] 3) := ⟨_, rfl⟩
  have X3 : Ext w2 w3 := by rw [hw3]; exact ((Ext.refl w2).alloc _).alloc _
  have s3 : w3.heap.size = w2.heap.size + 1 + 1 := by rw [hw3]; simp
  have b5 : Boxed w3 w2.heap.size 22 (.slice A m c) := by rw [hw3]; exact (Boxed.new w2 _ _).alloc _
  have b6 : Boxed w3 (w2.heap.size + 1) 3 (.int .i64 128) := by
    rw [hw3]
    have := Boxed.new (w2.alloc (.cells #[.slice A m c] 22)) 3 (.int .i64 128)
    rw [World.size_alloc] at this
    exact this
  have b33 : Boxed w3 w.heap.size 25 (.pointer (some ⟨p, 0, none⟩)) := X3.heap b32
  have b43 : Boxed w3 (w.heap.size + 1) 3 (.int .i64 (at_ : Int)) := X3.heap b42
  have hx3 : Octs w3 A l := fun hpos => by
    obtain ⟨b, o, e, hc⟩ := (hx.ext X1) hpos
    exact ⟨b, o, e, fun j u hu => X3.cell (u2.cell (hc j u hu) (fun x => x (.inl (hA ⟨b, o, none⟩ e))))⟩
  have h3 := h2.more X3
  have sz2 := u2.size
  obtain ⟨S, M, qv, hd, hk⟩ := h3
  obtain ⟨K2, hK2⟩ : ∃ K2 : Nat → Prop, K2 = fun b => K b ∨ b = w.heap.size ∨ b = w2.heap.size ∨ b = w2.heap.size + 1 := ⟨_, rfl⟩
  have hk2 : ∀ b, dkB p S M qv b → ¬ K2 b ∧ b ≠ w.heap.size + 1 := fun b hb => by
    refine ⟨fun x => ?_, fun e => hk b hb (.inl (.inr (by omega)))⟩
    rw [hK2] at x
    rcases x with x | x | x | x
    · exact hk b hb (.inl (.inl x))
    · exact hk b hb (.inl (.inr (by omega)))
    · exact hk b hb (.inr (by omega))
    · exact hk b hb (.inr (by omega))
  have kK : ∀ b, K b → K2 b := fun b x => by rw [hK2]; exact .inl x
  have k3 : K2 w.heap.size := by rw [hK2]; exact .inr (.inl rfl)
  have k5 : K2 w2.heap.size := by rw [hK2]; exact .inr (.inr (.inl rfl))
  have k6 : K2 (w2.heap.size + 1) := by rw [hK2]; exact .inr (.inr (.inr rfl))
  have K2lt : ∀ b, K2 b → b < w3.heap.size := fun b x => by
    rw [hK2] at x
    rcases x with x | x | x | x
    · have := hKb b x; omega
    · omega
    · omega
    · omega
  have k4 : ¬ K2 (w.heap.size + 1) := fun x => by
    rw [hK2] at x
    rcases x with x | x | x | x
    · have := hKb _ x; omega
    · omega
    · omega
    · omega
  have u13 : Upd (fun b => ¬ K b) w w3 := ((Upd.of_ext _ X1).trans (u2.mono (fun b _ x => fun y => x (.inl y)))).trans (Upd.of_ext _ X3)
  obtain ⟨s1, hs1⟩ : ∃ s1 : Dk, s1 = { s with calls := callTo s.calls } := ⟨_, rfl⟩
  have hsq : s1.queue = s.queue := by rw [hs1]
  have hss : s1.safe = s.safe := by rw [hs1]
  have hsw : s1.writes = s.writes := by rw [hs1]
  have hsW : dkWrite s at_ l = ⟨s1.safe, s1.queue ++ cutSec at_ l n, s1.calls, s1.writes + (n : Int)⟩ := by rw [hs1, dkWrite, hl, HNN.out]
  rw [← hs1] at hd
  have hI0 : WrI K2 w3 p S M (w.heap.size + 1) at_ l s1 [] w3 := ⟨qv, by
    have e1 : s1.queue ++ qOf at_ l 0 [] = s1.queue := List.append_nil _
    have e2 : s1.writes + (([] : List Nat).length : Int) = s1.writes := Int.add_zero _
    rw [e1, e2]; exact hd, hk2, Upd.refl _ _, b43⟩
  have hMlt := hd.lt.2.2.1
  show Code.wpIn Fence.wide 3 Try.prog _ _ _ ((w2.alloc (.cells #[.slice A m c] 22)).alloc (.cells #[.int .i64 128] 3))
  rw [← hw3]
  rw [← hB] at s3 b5 b6 k5 k6 ⊢
  rw [← hq3] at b33 b43 k3 k4 hI0 ⊢
  have hsz3 : B + 1 < w3.heap.size := by omega
  have hq3l : q3 + 1 < w3.heap.size := by omega
  have hqB : q3 + 1 < B := by omega
  clear hw3 hq3 hB hw1 hK2 hk hk2 h1 h2 hd b3 b4 b32 b42 hm0 hm1 hm2 hm3 hth hs1 u2 X1 X3 b43 z1
  obtain ⟨f, hf⟩ : ∃ f : Nat → Nat, f = fun x => if x < n then x else 0 := ⟨_, rfl⟩
  have hf1 : ∀ x, x < n → f x = x := fun x hx => by rw [hf]; exact if_pos hx
  have hf2 : ∀ x, 0 < n → f x < n := fun x h0 => by
    rw [hf]
    show (if x < n then x else 0) < n
    split
    · assumption
    · exact h0
  have hN : (m + 127) / 128 = n := by have := HMN.out; omega
  have hnb : n ≤ 65536 := by omega
  clear hf
  refine wpIn_rangeFunc_ownG rfl (by decide) (gf := 63) (lb := #[.pointer (some ⟨B, 0, none⟩), .pointer (some ⟨B + 1, 0, none⟩)]) rfl trivial (enters_of Try.func63 (by kernel_rfl) rfl)
    (chunk8_stops f (3 - 1) B A m c w3 hsz3 (by have := HMN.out; omega) hc (by decide) (fun x hx => hf1 x (by omega)) b5 b6) kdB_t (kdB_b hsz3) (Below.refl _ _) (fun _ => rfl)
    (fun pre W => WrI K2 w3 p S M (q3 + 1) at_ l s1 (pre.map f) W) (fun _ _ _ => False) (fun pre => wrI_own (Nat.le_refl _) hMlt (pre.map f)) (fun _ _ _ _ _ hs _ _ => hs) hI0
    (fun x => { tmps := #[.pointer (some ⟨p, 0, none⟩), .int .i64 (at_ : Int), .slice A m c, .pointer (some ⟨q3, 0, none⟩), .pointer (some ⟨q3 + 1, 0, none⟩), undef, .int .i64 0, .int .i64 0, dhV A m (f x), undef, .slice A m c, .int .i64 (m : Int), .int .i64 0, .bool false, .pointer (some ⟨p, 0, none⟩), .int .i64 (at_ : Int), .slice A m c, .int .i64 (m : Int), .int .i64 (n : Int), .int .i64 0, .int .i64 0, .bool true, .pointer (some ⟨p, 0, none⟩), .int .i64 0, .int .i64 0, .bool false, undef, .slice A m c, .func (.func 63) #[] #[.pointer (some ⟨B, 0, none⟩), .pointer (some ⟨B + 1, 0, none⟩)], dhV A m (f x), undef, undef, undef, undef, undef, undef, undef, undef, undef, undef, undef, undef, undef, undef, undef, undef, undef, undef, undef, undef, undef, undef, undef, undef, undef, undef, undef, undef, undef, undef, undef], defers := [] }) ?assign ?body ?done ?stop
  case assign =>
    intro k x W Kk hKk
    gi_wp2
    exact hKk
  case body =>
    rintro k pre x W ⟨qv, hd, hk, hu, hb⟩ hlt
    rw [hN] at hlt
    have h0n : 0 < n := by omega
    obtain ⟨y, hy⟩ : ∃ y, y = f x := ⟨_, rfl⟩
    have hyn : y < n := by rw [hy]; exact hf2 x h0n
    rw [← hy]
    obtain ⟨j, hj⟩ : ∃ j, j = pre.length := ⟨_, rfl⟩
    rw [List.length_map, ← hj] at hb
    rw [← hj] at hlt
    obtain ⟨D, hD⟩ : ∃ D, D = (l.drop (128 * y)).take 128 := ⟨_, rfl⟩
    have hD128 : D.length = 128 := by rw [hD, List.length_take, List.length_drop, hl]; have := HMN.out; omega
    have hqo := qOf_snoc at_ l y (pre.map f) 0
    rw [Nat.zero_add, List.length_map, ← hj, ← hD] at hqo
    obtain ⟨Q, hQ⟩ : ∃ Q, Q = s1.queue ++ qOf at_ l 0 (pre.map f) := ⟨_, rfl⟩
    have hQ2 : s1.queue ++ qOf at_ l 0 ((pre ++ [x]).map f) = Q ++ [(at_ + j, D)] := by rw [List.map_append, List.map_cons, List.map_nil, ← hy, hqo, ← List.append_assoc, ← hQ]
    have hQl : Q.length = s1.queue.length + j := by rw [hQ, List.length_append, length_qOf, List.length_map, ← hj]
    rw [List.length_map, ← hj, ← hQ] at hd
    have hjl : (pre ++ [x]).length = j + 1 := by rw [List.length_append, List.length_singleton, ← hj]
    have hxW : Octs W A l := fun hpos => by
      obtain ⟨b, o, e, hc⟩ := hx3 hpos
      exact ⟨b, o, e, fun j u hu2 => hu.cell (hc j u hu2) (fun x => x (kK _ (hA ⟨b, o, none⟩ e)))⟩
    obtain ⟨ab, ao, hAe, _⟩ := hxW (by rw [length_octs, hl]; have := HMN.out; omega)
    have hch := dh_octs hxW y
    rw [← hD] at hch
    have hAy : dhA A y = some ⟨ab, ao + 128 * y, none⟩ := by rw [hAe]; simp [dhA, Addr.add_mid]
    have hNy : dhN m y = 128 := by unfold dhN; have := HMN.out; omega
    have hV : dhV A m y = .slice (some ⟨ab, ao + 128 * y, none⟩) 128 128 := by show Value.slice (dhA A y) (dhN m y) (dhN m y) = _; rw [hAy, hNy]
    rw [hV]
    rw [hAy] at hch
    obtain ⟨ko, hko⟩ : ∃ ko, ko = ao + 128 * y := ⟨_, rfl⟩
    rw [← hko] at hch ⊢
    have hrD : ∀ w', Ext W w' → w'.rangeAt ab ko (octs D) := fun w' x => by
      obtain ⟨b', o', e, hc⟩ := (hch.ext x) (by rw [length_octs, hD128]; decide)
      injection e with e
      injection e with e1 e2
      subst e1; subst e2
      exact fun j v hv => hc j v hv
    have hzw : Try.zeroCells93.size = (wCells (at_ + j, D)).length := by rw [zero_wsize, length_wCells _ hD128]
    have hb3 : Boxed W q3 25 (.pointer (some ⟨p, 0, none⟩)) := hu.heap b33 (fun x => x k3)
    have c3 := hb3.cell
    have c4 := hb.cell
    have hKx := Lib.hid hQ2
    have hjx := Lib.hid hjl
    have hQlx := hQl
    have hatj : at_ + j < 65536 := by omega
    have hqv : ∃ A c, qv = .slice A Q.length c := hd.qform
    have hwra : s1.writes + (j : Int) < 8589934592 ∧ 0 ≤ s1.writes + (j : Int) := by rw [hsw]; omega
    have hQb : Q.length ≤ 4294967295 := by rw [hQl, hsq]; omega
    clear hQ2 hjl hqo hQ hD hy hj hV hAy hNy hAe hko hch hxW hx3 hx hA
    obtain ⟨qA, qc, rfl⟩ := hqv
    gi_wp2
    refine region_inRound (S := fun w' => Ext W w') (by kernel_rfl) (fun ⟨_, _, h⟩ => h) (by kernel_rfl) ((Ext.refl _).drew) (fun hS => ?_)
    refine takeH (i := 0) (v := ?_) rfl rfl (by kernel_rfl) (by kernel_rfl) (by kernel_rfl) (fun _ _ _ h => h) (Or.inl ⟨by kernel_rfl, ?_⟩) hS ?_
    rotate_left 1
    · (intro w' hS'; have k0 := hS'.cell c4; go_simp; try (with_reducible rfl))
    simp only [List.setIfInBounds_toArray, List.set_cons_succ, List.set_cons_zero]
    refine takeH (i := 1) (v := ?_) rfl rfl (by kernel_rfl) (by kernel_rfl) (by kernel_rfl) (fun _ _ _ h => h) (Or.inl ⟨by kernel_rfl, ?_⟩) hS ?_
    rotate_left 1
    · (intro w' hS'; go_simp; try (with_reducible rfl))
    simp only [List.setIfInBounds_toArray, List.set_cons_succ, List.set_cons_zero]
    refine takeH (i := 2) (v := ?_) rfl rfl (by kernel_rfl) (by kernel_rfl) (by kernel_rfl) (fun _ _ _ h => h) (Or.inl ⟨by kernel_rfl, ?_⟩) hS ?_
    rotate_left 1
    · (intro w' hS'; have k2 := run_arrayAt (P := Try.prog) (w := w') 91 5 128 (some ⟨ab, ko, none⟩) 128 128 und_sec (Nat.le_refl _); go_simp; try (with_reducible rfl))
    simp only [List.setIfInBounds_toArray, List.set_cons_succ, List.set_cons_zero]
    refine takeH (i := 3) (v := secV D) rfl rfl (by kernel_rfl) (by kernel_rfl) (by kernel_rfl) (fun _ _ _ h => h) (yieldsIf_load_mid (by kernel_rfl) 91 (.tmp 32) rfl ab ko rfl (octs D) _ hrD und_sec rfl (by rw [size_sec, length_octs, hD128])) hS ?_
    simp only [List.setIfInBounds_toArray, List.set_cons_succ, List.set_cons_zero]
    refine takeH (i := 4) (v := .agg (wCells (at_ + j, D)).toArray) rfl rfl (by kernel_rfl) (by kernel_rfl) (by kernel_rfl) (fun _ _ _ h => h) (yields_build_w (by kernel_rfl) (.tmp 30) (.tmp 33) rfl ((at_ + j : Nat) : Int) D rfl rfl hD128) hS ?_
    simp only [List.setIfInBounds_toArray, List.set_cons_succ, List.set_cons_zero]
    refine wpAnyH_ready (rs := [5]) (by kernel_rfl) (by simp) ?_
    refine AllReadyH.cons rfl (fun K hK => ?_) ?_
    rotate_left 1
    · exact AllReadyH.nil
    go_simp
    refine hK.out _ _ (by first | exact hS | exact hS.alloc _ | exact u5.to_ext hS (fun g e => by rw [e]; exact Nat.le_refl _)) (fun hS => ?_)
    clear hK K
    refine wpAnyH_ready (rs := [6]) (by kernel_rfl) (by simp) ?_
    refine AllReadyH.cons rfl (fun K hK => ?_) ?_
    rotate_left 1
    · exact AllReadyH.nil
    refine step_store_w rfl (.tmp 9) (.tmp 34) rfl W.heap.size 0 rfl (at_ + j, D) rfl hD128 Try.zeroCells93 93 (heap_alloc_new _ _) (by rw [zero_wsize]; decide) ?_; intro w5 e5 u5; rw [putAt_all _ _ hzw] at e5
    try go_simp
    refine hK.out _ _ (by first | exact hS | exact hS.alloc _ | exact u5.to_ext hS (fun g e => by rw [e]; exact Nat.le_refl _)) (fun hS => ?_)
    clear hK K
    refine wpAnyH_done (by kernel_rfl) ?_ _
    have hX5 : Ext W w5 := hS
    have hd5 := hd.ext hS
    have b35 : Boxed w5 q3 _ _ := hS.heap hb3
    have b45 : Boxed w5 (q3 + 1) _ _ := hS.heap hb
    have nF3 : ¬ (q3 = p ∨ (Value.slice qA Q.length qc).ownBlock = some q3) := fun x => (hk q3 (x.elim .inl (fun e => .inr (.inr (.inr e))))).1 k3
    have nF4 : ¬ (q3 + 1 = p ∨ (Value.slice qA Q.length qc).ownBlock = some (q3 + 1)) := fun x => (hk (q3 + 1) (x.elim .inl (fun e => .inr (.inr (.inr e))))).2 rfl
    have nM3 : q3 ≠ M := fun e => (hk q3 (.inr (.inr (.inl e)))).1 k3
    have nM4 : q3 + 1 ≠ M := fun e => (hk (q3 + 1) (.inr (.inr (.inl e)))).2 rfl
    have hWlt := hd.lt
    have nFW : ¬ (W.heap.size = p ∨ (Value.slice qA Q.length qc).ownBlock = some W.heap.size) := fun x => x.elim (fun e => by omega) (fun e => by have := hWlt.2.2.2 _ e; omega)
    have nMW : W.heap.size ≠ M := by omega
    have hr5 : ∀ w', Upd (fun b => b = p ∨ (Value.slice qA Q.length qc).ownBlock = some b) w5 w' → w'.rangeAt W.heap.size 0 (wCells (at_ + j, D)) := fun w' u => range_row (u.heap e5 nFW) 0 _ (by rw [List.drop_zero]; exact List.take_of_length_le (Nat.le_refl _))
    have c2 : w5.cell? ⟨p, 2, none⟩ = some (.slice qA Q.length qc) := hd5.cells.2.2.1
    have d2 : (w5.alloc (.cells (wCells (at_ + j, D)).toArray 93)).cell? ⟨p, 2, none⟩ = some (.slice qA Q.length qc) := (hd5.ext ((Ext.refl _).alloc _)).cells.2.2.1
    have X7 : Ext w5 (w5.alloc (.cells (wCells (at_ + j, D)).toArray 93)).drew := ((Ext.refl w5).alloc _).drew
    have HSS := Lib.hid hss
    have HSW := Lib.hid hsW
    clear hss hsq hsw hQl hQlx hsW
    gi_wp2
    refine region_inRound (S := fun w' => Upd (fun b => b = p ∨ (Value.slice qA Q.length qc).ownBlock = some b) w5 w') (by kernel_rfl) (fun ⟨_, _, h⟩ => h) (by kernel_rfl) ((Upd.refl _ _).drew) (fun hS => ?_)
    refine takeH (i := 0) (v := ?_) rfl rfl (by kernel_rfl) (by kernel_rfl) (by kernel_rfl) (fun _ _ _ h => h) (Or.inl ⟨by kernel_rfl, ?_⟩) hS ?_
    rotate_left 1
    · (intro w' hS'; have k0 : Boxed w' _ _ _ := hS'.heap b35 nF3; have k0 := k0.cell; go_simp; try (with_reducible rfl))
    simp only [List.setIfInBounds_toArray, List.set_cons_succ, List.set_cons_zero]
    refine takeH (i := 1) (v := ?_) rfl rfl (by kernel_rfl) (by kernel_rfl) (by kernel_rfl) (fun _ _ _ h => h) (Or.inl ⟨by kernel_rfl, ?_⟩) hS ?_
    rotate_left 1
    · (intro w' hS'; have k0 : Boxed w' _ _ _ := hS'.heap b35 nF3; have k0 := k0.cell; go_simp; try (with_reducible rfl))
    simp only [List.setIfInBounds_toArray, List.set_cons_succ, List.set_cons_zero]
    refine takeH (i := 2) (v := ?_) rfl rfl (by kernel_rfl) (by kernel_rfl) (by kernel_rfl) (fun _ _ _ h => h) (Or.inl ⟨by kernel_rfl, ?_⟩) hS ?_
    rotate_left 1
    · (intro w' hS'; go_simp; try (with_reducible rfl))
    simp only [List.setIfInBounds_toArray, List.set_cons_succ, List.set_cons_zero]
    refine takeH (i := 3) (v := ?_) rfl rfl (by kernel_rfl) (by kernel_rfl) (by kernel_rfl) (fun _ _ _ h => h) (Or.inl ⟨by kernel_rfl, ?_⟩) hS ?_
    rotate_left 1
    · (intro w' hS'; go_simp; try (with_reducible rfl))
    simp only [List.setIfInBounds_toArray, List.set_cons_succ, List.set_cons_zero]
    refine takeH (i := 5) (v := .agg (wCells (at_ + j, D)).toArray) rfl rfl (by kernel_rfl) (by kernel_rfl) (by kernel_rfl) (fun _ _ _ h => h) (yieldsIf_load_mid (by kernel_rfl) 93 (.tmp 9) rfl W.heap.size 0 rfl (wCells (at_ + j, D)) _ hr5 Try.underlying93 rfl (by rw [size_w, length_wCells _ hD128])) hS ?_
    simp only [List.setIfInBounds_toArray, List.set_cons_succ, List.set_cons_zero]
    refine wpAnyH_ready (rs := [4, 6]) (by kernel_rfl) (by simp) ?_
    refine AllReadyH.cons rfl (fun K hK => ?_) ?_
    · skip
      go_simp
      refine hK.out _ _ (by first | exact hS | exact hS.alloc _ | exact hS7 | exact hS.setCell (p := ⟨p, 2, none⟩) (.inl (.inl rfl)) _) (fun hS => ?_)
      clear hK K
      refine wpAnyH_ready (rs := [6]) (by kernel_rfl) (by simp) ?_
      refine AllReadyH.cons rfl (fun K hK => ?_) ?_
      rotate_left 1
      · exact AllReadyH.nil
      refine step_bslice_w rfl (.tmp 40) rfl (at_ + j, D) rfl hD128 ?_
      try go_simp
      refine hK.out _ _ (by first | exact hS | exact hS.alloc _ | exact hS7 | exact hS.setCell (p := ⟨p, 2, none⟩) (.inl (.inl rfl)) _) (fun hS => ?_)
      clear hK K
      refine wpAnyH_ready (rs := [7]) (by kernel_rfl) (by simp) ?_
      refine AllReadyH.cons rfl (fun K hK => ?_) ?_
      rotate_left 1
      · exact AllReadyH.nil
      refine step_app_w rfl (.tmp 39) (.tmp 41) rfl _ Q.length (qCells Q) rfl (hd5.ext X7).queue _ rfl (at_ + j, D) hD128 (heap_alloc_new _ _) (by omega) ?_; intro V w7 r7 g7 k7; obtain ⟨g', c', rfl⟩ := ownsRow_succ r7; obtain ⟨p7, me8, u8, r8, g8⟩ := hd5.push rfl X7 (at_ + j, D) r7 g7 k7; have c27 : w7.cell? ⟨p, 2, none⟩ = some (.slice qA Q.length qc) := (cell_of_row w7 p _ _ _ _ (p7.trans hd5.me)).trans rfl; have f27 := frozen_of_row w7 p 2 _ _ (p7.trans hd5.me); have hS7 : Upd (fun b => b = p ∨ (Value.slice qA Q.length qc).ownBlock = some b) w5 w7 := (Upd.of_ext _ X7).trans (Upd.grown g7 (fun k e => .inr e))
      try go_simp
      refine hK.out _ _ (by first | exact hS | exact hS.alloc _ | exact hS7 | exact hS.setCell (p := ⟨p, 2, none⟩) (.inl (.inl rfl)) _) (fun hS => ?_)
      clear hK K
      refine takeH (i := 8) (v := ?_) rfl rfl (by kernel_rfl) (by kernel_rfl) (by kernel_rfl) (fun _ _ _ h => h) (Or.inl ⟨by kernel_rfl, ?_⟩) hS ?_
      rotate_left 1
      · (intro w' hS'; go_simp; try (with_reducible rfl))
      simp only [List.setIfInBounds_toArray, List.set_cons_succ, List.set_cons_zero]
      refine takeH (i := 9) (v := ?_) rfl rfl (by kernel_rfl) (by kernel_rfl) (by kernel_rfl) (fun _ _ _ h => h) (Or.inl ⟨by kernel_rfl, ?_⟩) hS ?_
      rotate_left 1
      · (intro w' hS'; go_simp; try (with_reducible rfl))
      simp only [List.setIfInBounds_toArray, List.set_cons_succ, List.set_cons_zero]
      refine wpAnyH_ready (rs := [10]) (by kernel_rfl) (by simp) ?_
      refine AllReadyH.cons rfl (fun K hK => ?_) ?_
      rotate_left 1
      · exact AllReadyH.nil
      go_simp
      refine hK.out _ _ (by first | exact hS | exact hS.alloc _ | exact hS7 | exact hS.setCell (p := ⟨p, 2, none⟩) (.inl (.inl rfl)) _) (fun hS => ?_)
      clear hK K
      refine wpAnyH_done (by kernel_rfl) ?_ _
      obtain ⟨w8, hw8⟩ : ∃ w8, w8 = w7.setCell ⟨p, 2, none⟩ (.slice (some ⟨g', 0, none⟩) (Q.length + 1) c') := ⟨_, rfl⟩
      rw [← hw8] at me8 u8 r8 ⊢
      have b38 : Boxed w8 _ _ _ := u8.heap b35 nF3
      have b48 : Boxed w8 _ _ _ := u8.heap b45 nF4
      have c1 : w8.cell? ⟨p, 1, none⟩ = some (.map (some M)) := by rw [cell_of_row w8 p _ _ _ _ me8]; rfl
      have hs8 : Seen w8 M Q := hd5.seen.upd u8 (fun x => x.elim (fun e => hd5.pM e.symm) (fun e => (hd5.row e).2.2 rfl))
      have hr6 : ∀ w', Upd (fun b => b = M) w8 w' → w'.rangeAt W.heap.size 1 (octs D) := fun w' u => range_row (u.heap (u8.heap e5 nFW) nMW) 1 (octs D) (by show (octs D).take (octs D).length = octs D; exact List.take_length)
      clear c2 d2 hS
      gi_wp2
      rw [← hw8]
      refine region_inRound (S := fun w' => Upd (fun b => b = M) w8 w') (by kernel_rfl) (fun ⟨_, _, h⟩ => h) (by kernel_rfl) ((Upd.refl _ _).drew) (fun hS => ?_)
      refine takeH (i := 0) (v := ?_) rfl rfl (by kernel_rfl) (by kernel_rfl) (by kernel_rfl) (fun _ _ _ h => h) (Or.inl ⟨by kernel_rfl, ?_⟩) hS ?_
      rotate_left 1
      · (intro w' hS'; have k0 : Boxed w' _ _ _ := hS'.heap b38 nM3; have k0 := k0.cell; go_simp; try (with_reducible rfl))
      simp only [List.setIfInBounds_toArray, List.set_cons_succ, List.set_cons_zero]
      refine takeH (i := 1) (v := ?_) rfl rfl (by kernel_rfl) (by kernel_rfl) (by kernel_rfl) (fun _ _ _ h => h) (Or.inl ⟨by kernel_rfl, ?_⟩) hS ?_
      rotate_left 1
      · (intro w' hS'; go_simp; try (with_reducible rfl))
      simp only [List.setIfInBounds_toArray, List.set_cons_succ, List.set_cons_zero]
      refine takeH (i := 2) (v := ?_) rfl rfl (by kernel_rfl) (by kernel_rfl) (by kernel_rfl) (fun _ _ _ h => h) (Or.inl ⟨by kernel_rfl, ?_⟩) hS ?_
      rotate_left 1
      · (intro w' hS'; go_simp; try (with_reducible rfl))
      simp only [List.setIfInBounds_toArray, List.set_cons_succ, List.set_cons_zero]
      refine takeH (i := 3) (v := ?_) rfl rfl (by kernel_rfl) (by kernel_rfl) (by kernel_rfl) (fun _ _ _ h => h) (Or.inl ⟨by kernel_rfl, ?_⟩) hS ?_
      rotate_left 1
      · (intro w' hS'; have k3 := hS'.cell c1 hd5.pM; go_simp; try (with_reducible rfl))
      simp only [List.setIfInBounds_toArray, List.set_cons_succ, List.set_cons_zero]
      refine takeH (i := 4) (v := ?_) rfl rfl (by kernel_rfl) (by kernel_rfl) (by kernel_rfl) (fun _ _ _ h => h) (Or.inl ⟨by kernel_rfl, ?_⟩) hS ?_
      rotate_left 1
      · (intro w' hS'; have k4 : Boxed w' _ _ _ := hS'.heap b48 nM4; have k4 := k4.cell; go_simp; try (with_reducible rfl))
      simp only [List.setIfInBounds_toArray, List.set_cons_succ, List.set_cons_zero]
      refine takeH (i := 5) (v := ?_) rfl rfl (by kernel_rfl) (by kernel_rfl) (by kernel_rfl) (fun _ _ _ h => h) (Or.inl ⟨by kernel_rfl, ?_⟩) hS ?_
      rotate_left 1
      · (intro w' hS'; go_simp; try (with_reducible rfl))
      simp only [List.setIfInBounds_toArray, List.set_cons_succ, List.set_cons_zero]
      refine takeH (i := 6) (v := secV D) rfl rfl (by kernel_rfl) (by kernel_rfl) (by kernel_rfl) (fun _ _ _ h => h) (yieldsIf_load_mid (by kernel_rfl) 91 (.tmp 50) rfl W.heap.size 1 rfl (octs D) _ hr6 und_sec rfl (by rw [size_sec, length_octs, hD128])) hS ?_
      simp only [List.setIfInBounds_toArray, List.set_cons_succ, List.set_cons_zero]
      refine wpAnyH_ready (rs := [7]) (by kernel_rfl) (by simp) ?_
      refine AllReadyH.cons rfl (fun K hK => ?_) ?_
      rotate_left 1
      · exact AllReadyH.nil
      refine step_put_sec rfl (.tmp 48) (.tmp 49) (.tmp 51) rfl M (at_ + j) Q D rfl rfl rfl (hs8.kept rfl) (by omega) (by simp only [maxLen]; omega) ?_; intro w9 m9 u9
      try go_simp
      refine hK.out _ _ (by first | exact hS.trans u9 | exact hS) (fun hS => ?_)
      clear hK K
      refine wpAnyH_done (by kernel_rfl) ?_ _
      have hd9 := hd5.pushed (at_ + j, D) ⟨by show at_ + j < s1.safe.length; rw [HSS.out]; omega, hD128⟩ me8 u8 r8 g8 m9 hS
      have b39 : Boxed w9 _ _ _ := hS.heap b38 nM3
      have b49 : Boxed w9 _ _ _ := hS.heap b48 nM4
      have c39 := b39.cell
      have c49 := b49.cell
      have cf49 := b49.frozen
      have c9 : w9.cell? ⟨p, 4, none⟩ = some (.int .i64 (s1.writes + (j : Int))) := hd9.cells.2.2.2.2.1
      have cf9 : w9.frozen? ⟨p, 4, none⟩ = false := hd9.cells.2.2.2.2.2 4
      gi_wp2
      obtain ⟨V, hV⟩ : ∃ V, V = Value.slice (some ⟨g', 0, none⟩) (Q.length + 1) c' := ⟨_, rfl⟩
      rw [← hV] at hd9 g8
      clear hV hw8
      have uW : Upd (fun b => dkB p S M (Value.slice qA Q.length qc) b ∨ b = q3 + 1) W w9 := ((Upd.of_ext _ hX5).trans (u8.mono (fun b _ e => .inl (e.elim .inl (fun e => .inr (.inr (.inr e))))))).trans (hS.mono (fun b _ e => .inl (.inr (.inr (.inl e)))))
      have ua := (uW.setCell (p := ⟨p, 4, none⟩) (.inl (.inl (.inl rfl))) (.int .i64 (s1.writes + (j : Int) + 1)))
      have uf := ua.setCell (p := ⟨q3 + 1, 0, none⟩) (.inl (.inr rfl)) (.int .i64 ((at_ : Int) + (j : Int) + 1))
      have hda := hd9.setWrites (s1.writes + (j : Int) + 1)
      have b4a : Boxed (w9.setCell ⟨p, 4, none⟩ (.int .i64 (s1.writes + (j : Int) + 1))) (q3 + 1) _ _ := Upd.heap ((Upd.refl (fun b => b = p) w9).setCell (p := ⟨p, 4, none⟩) (.inl rfl) (.int .i64 (s1.writes + (j : Int) + 1))) b49 (fun e => nF4 (.inl e))
      have hba := b4a.set (.int .i64 ((at_ : Int) + (j : Int) + 1))
      have ub : Upd (fun b => b = q3 + 1) (w9.setCell ⟨p, 4, none⟩ (.int .i64 (s1.writes + (j : Int) + 1))) ((w9.setCell ⟨p, 4, none⟩ (.int .i64 (s1.writes + (j : Int) + 1))).setCell ⟨q3 + 1, 0, none⟩ (.int .i64 ((at_ : Int) + (j : Int) + 1))) := (Upd.refl (fun b => b = q3 + 1) _).setCell (.inl rfl) _
      have szW := hu.size
      have sz5 := hX5.size
      have hVb : ∀ b, V.ownBlock = some b → ¬ K2 b ∧ b ≠ q3 + 1 := fun b e => by
        rcases g8 b e with e | e
        · exact hk b (.inr (.inr (.inr e)))
        · exact ⟨fun x => by have := K2lt b x; omega, by omega⟩
      have hkf : ∀ b, dkB p S M V b → ¬ K2 b ∧ b ≠ q3 + 1 := fun b e => by
        rcases e with e | e | e | e
        · exact hk b (.inl e)
        · exact hk b (.inr (.inl e))
        · exact hk b (.inr (.inr (.inl e)))
        · exact hVb b e
      have hdf := hda.keep (ub.block p hda.lt.1 (hkf p (.inl rfl)).2) (ub.block S hda.lt.2.1 (hkf S (.inr (.inl rfl))).2) (ub.block M hda.lt.2.2.1 (hkf M (.inr (.inr (.inl rfl)))).2) (fun g e => ub.block g (hda.lt.2.2.2 g e) (hVb g e).2)
      have nB : ∀ b, K2 b → ¬ (dkB p S M (Value.slice qA Q.length qc) b ∨ b = q3 + 1) := fun b x e => e.elim (fun e => (hk b e).1 x) (fun e => k4 (e ▸ x))
      have huf := hu.trans (uf.mono (fun b _ e x => nB b x e))
      have hlen : ((pre ++ [x]).map f).length = j + 1 := by rw [List.length_map, hjx.out]
      refine ⟨wr_keeps hd hb (by omega) uf, ⟨uf.block B (by omega) (nB _ k5), uf.block (B + 1) (by omega) (nB _ k6)⟩, V, ?_, hkf, huf, ?_⟩
      · rw [hKx.out, hlen, show s1.writes + ((j + 1 : Nat) : Int) = s1.writes + (j : Int) + 1 by omega]
        exact hdf
      · rw [hlen, show ((at_ + (j + 1) : Nat) : Int) = (at_ : Int) + (j : Int) + 1 by omega]
        exact hba
    refine AllReadyH.cons rfl (fun K hK => ?_) ?_
    · skip
      refine step_bslice_w rfl (.tmp 40) rfl (at_ + j, D) rfl hD128 ?_
      try go_simp
      refine hK.out _ _ (by first | exact hS | exact hS.alloc _ | exact hS7 | exact hS.setCell (p := ⟨p, 2, none⟩) (.inl (.inl rfl)) _) (fun hS => ?_)
      clear hK K
      refine wpAnyH_ready (rs := [4]) (by kernel_rfl) (by simp) ?_
      refine AllReadyH.cons rfl (fun K hK => ?_) ?_
      rotate_left 1
      · exact AllReadyH.nil
      go_simp
      refine hK.out _ _ (by first | exact hS | exact hS.alloc _ | exact hS7 | exact hS.setCell (p := ⟨p, 2, none⟩) (.inl (.inl rfl)) _) (fun hS => ?_)
      clear hK K
      refine wpAnyH_ready (rs := [7]) (by kernel_rfl) (by simp) ?_
      refine AllReadyH.cons rfl (fun K hK => ?_) ?_
      rotate_left 1
      · exact AllReadyH.nil
      refine step_app_w rfl (.tmp 39) (.tmp 41) rfl _ Q.length (qCells Q) rfl (hd5.ext X7).queue _ rfl (at_ + j, D) hD128 (heap_alloc_new _ _) (by omega) ?_; intro V w7 r7 g7 k7; obtain ⟨g', c', rfl⟩ := ownsRow_succ r7; obtain ⟨p7, me8, u8, r8, g8⟩ := hd5.push rfl X7 (at_ + j, D) r7 g7 k7; have c27 : w7.cell? ⟨p, 2, none⟩ = some (.slice qA Q.length qc) := (cell_of_row w7 p _ _ _ _ (p7.trans hd5.me)).trans rfl; have f27 := frozen_of_row w7 p 2 _ _ (p7.trans hd5.me); have hS7 : Upd (fun b => b = p ∨ (Value.slice qA Q.length qc).ownBlock = some b) w5 w7 := (Upd.of_ext _ X7).trans (Upd.grown g7 (fun k e => .inr e))
      try go_simp
      refine hK.out _ _ (by first | exact hS | exact hS.alloc _ | exact hS7 | exact hS.setCell (p := ⟨p, 2, none⟩) (.inl (.inl rfl)) _) (fun hS => ?_)
      clear hK K
      refine takeH (i := 8) (v := ?_) rfl rfl (by kernel_rfl) (by kernel_rfl) (by kernel_rfl) (fun _ _ _ h => h) (Or.inl ⟨by kernel_rfl, ?_⟩) hS ?_
      rotate_left 1
      · (intro w' hS'; go_simp; try (with_reducible rfl))
      simp only [List.setIfInBounds_toArray, List.set_cons_succ, List.set_cons_zero]
      refine takeH (i := 9) (v := ?_) rfl rfl (by kernel_rfl) (by kernel_rfl) (by kernel_rfl) (fun _ _ _ h => h) (Or.inl ⟨by kernel_rfl, ?_⟩) hS ?_
      rotate_left 1
      · (intro w' hS'; go_simp; try (with_reducible rfl))
      simp only [List.setIfInBounds_toArray, List.set_cons_succ, List.set_cons_zero]
      refine wpAnyH_ready (rs := [10]) (by kernel_rfl) (by simp) ?_
      refine AllReadyH.cons rfl (fun K hK => ?_) ?_
      rotate_left 1
      · exact AllReadyH.nil
      go_simp
      refine hK.out _ _ (by first | exact hS | exact hS.alloc _ | exact hS7 | exact hS.setCell (p := ⟨p, 2, none⟩) (.inl (.inl rfl)) _) (fun hS => ?_)
      clear hK K
      refine wpAnyH_done (by kernel_rfl) ?_ _
      obtain ⟨w8, hw8⟩ : ∃ w8, w8 = w7.setCell ⟨p, 2, none⟩ (.slice (some ⟨g', 0, none⟩) (Q.length + 1) c') := ⟨_, rfl⟩
      rw [← hw8] at me8 u8 r8 ⊢
      have b38 : Boxed w8 _ _ _ := u8.heap b35 nF3
      have b48 : Boxed w8 _ _ _ := u8.heap b45 nF4
      have c1 : w8.cell? ⟨p, 1, none⟩ = some (.map (some M)) := by rw [cell_of_row w8 p _ _ _ _ me8]; rfl
      have hs8 : Seen w8 M Q := hd5.seen.upd u8 (fun x => x.elim (fun e => hd5.pM e.symm) (fun e => (hd5.row e).2.2 rfl))
      have hr6 : ∀ w', Upd (fun b => b = M) w8 w' → w'.rangeAt W.heap.size 1 (octs D) := fun w' u => range_row (u.heap (u8.heap e5 nFW) nMW) 1 (octs D) (by show (octs D).take (octs D).length = octs D; exact List.take_length)
      clear c2 d2 hS
      gi_wp2
      rw [← hw8]
      refine region_inRound (S := fun w' => Upd (fun b => b = M) w8 w') (by kernel_rfl) (fun ⟨_, _, h⟩ => h) (by kernel_rfl) ((Upd.refl _ _).drew) (fun hS => ?_)
      refine takeH (i := 0) (v := ?_) rfl rfl (by kernel_rfl) (by kernel_rfl) (by kernel_rfl) (fun _ _ _ h => h) (Or.inl ⟨by kernel_rfl, ?_⟩) hS ?_
      rotate_left 1
      · (intro w' hS'; have k0 : Boxed w' _ _ _ := hS'.heap b38 nM3; have k0 := k0.cell; go_simp; try (with_reducible rfl))
      simp only [List.setIfInBounds_toArray, List.set_cons_succ, List.set_cons_zero]
      refine takeH (i := 1) (v := ?_) rfl rfl (by kernel_rfl) (by kernel_rfl) (by kernel_rfl) (fun _ _ _ h => h) (Or.inl ⟨by kernel_rfl, ?_⟩) hS ?_
      rotate_left 1
      · (intro w' hS'; go_simp; try (with_reducible rfl))
      simp only [List.setIfInBounds_toArray, List.set_cons_succ, List.set_cons_zero]
      refine takeH (i := 2) (v := ?_) rfl rfl (by kernel_rfl) (by kernel_rfl) (by kernel_rfl) (fun _ _ _ h => h) (Or.inl ⟨by kernel_rfl, ?_⟩) hS ?_
      rotate_left 1
      · (intro w' hS'; go_simp; try (with_reducible rfl))
      simp only [List.setIfInBounds_toArray, List.set_cons_succ, List.set_cons_zero]
      refine takeH (i := 3) (v := ?_) rfl rfl (by kernel_rfl) (by kernel_rfl) (by kernel_rfl) (fun _ _ _ h => h) (Or.inl ⟨by kernel_rfl, ?_⟩) hS ?_
      rotate_left 1
      · (intro w' hS'; have k3 := hS'.cell c1 hd5.pM; go_simp; try (with_reducible rfl))
      simp only [List.setIfInBounds_toArray, List.set_cons_succ, List.set_cons_zero]
      refine takeH (i := 4) (v := ?_) rfl rfl (by kernel_rfl) (by kernel_rfl) (by kernel_rfl) (fun _ _ _ h => h) (Or.inl ⟨by kernel_rfl, ?_⟩) hS ?_
      rotate_left 1
      · (intro w' hS'; have k4 : Boxed w' _ _ _ := hS'.heap b48 nM4; have k4 := k4.cell; go_simp; try (with_reducible rfl))
      simp only [List.setIfInBounds_toArray, List.set_cons_succ, List.set_cons_zero]
      refine takeH (i := 5) (v := ?_) rfl rfl (by kernel_rfl) (by kernel_rfl) (by kernel_rfl) (fun _ _ _ h => h) (Or.inl ⟨by kernel_rfl, ?_⟩) hS ?_
      rotate_left 1
      · (intro w' hS'; go_simp; try (with_reducible rfl))
      simp only [List.setIfInBounds_toArray, List.set_cons_succ, List.set_cons_zero]
      refine takeH (i := 6) (v := secV D) rfl rfl (by kernel_rfl) (by kernel_rfl) (by kernel_rfl) (fun _ _ _ h => h) (yieldsIf_load_mid (by kernel_rfl) 91 (.tmp 50) rfl W.heap.size 1 rfl (octs D) _ hr6 und_sec rfl (by rw [size_sec, length_octs, hD128])) hS ?_
      simp only [List.setIfInBounds_toArray, List.set_cons_succ, List.set_cons_zero]
      refine wpAnyH_ready (rs := [7]) (by kernel_rfl) (by simp) ?_
      refine AllReadyH.cons rfl (fun K hK => ?_) ?_
      rotate_left 1
      · exact AllReadyH.nil
      refine step_put_sec rfl (.tmp 48) (.tmp 49) (.tmp 51) rfl M (at_ + j) Q D rfl rfl rfl (hs8.kept rfl) (by omega) (by simp only [maxLen]; omega) ?_; intro w9 m9 u9
      try go_simp
      refine hK.out _ _ (by first | exact hS.trans u9 | exact hS) (fun hS => ?_)
      clear hK K
      refine wpAnyH_done (by kernel_rfl) ?_ _
      have hd9 := hd5.pushed (at_ + j, D) ⟨by show at_ + j < s1.safe.length; rw [HSS.out]; omega, hD128⟩ me8 u8 r8 g8 m9 hS
      have b39 : Boxed w9 _ _ _ := hS.heap b38 nM3
      have b49 : Boxed w9 _ _ _ := hS.heap b48 nM4
      have c39 := b39.cell
      have c49 := b49.cell
      have cf49 := b49.frozen
      have c9 : w9.cell? ⟨p, 4, none⟩ = some (.int .i64 (s1.writes + (j : Int))) := hd9.cells.2.2.2.2.1
      have cf9 : w9.frozen? ⟨p, 4, none⟩ = false := hd9.cells.2.2.2.2.2 4
      gi_wp2
      obtain ⟨V, hV⟩ : ∃ V, V = Value.slice (some ⟨g', 0, none⟩) (Q.length + 1) c' := ⟨_, rfl⟩
      rw [← hV] at hd9 g8
      clear hV hw8
      have uW : Upd (fun b => dkB p S M (Value.slice qA Q.length qc) b ∨ b = q3 + 1) W w9 := ((Upd.of_ext _ hX5).trans (u8.mono (fun b _ e => .inl (e.elim .inl (fun e => .inr (.inr (.inr e))))))).trans (hS.mono (fun b _ e => .inl (.inr (.inr (.inl e)))))
      have ua := (uW.setCell (p := ⟨p, 4, none⟩) (.inl (.inl (.inl rfl))) (.int .i64 (s1.writes + (j : Int) + 1)))
      have uf := ua.setCell (p := ⟨q3 + 1, 0, none⟩) (.inl (.inr rfl)) (.int .i64 ((at_ : Int) + (j : Int) + 1))
      have hda := hd9.setWrites (s1.writes + (j : Int) + 1)
      have b4a : Boxed (w9.setCell ⟨p, 4, none⟩ (.int .i64 (s1.writes + (j : Int) + 1))) (q3 + 1) _ _ := Upd.heap ((Upd.refl (fun b => b = p) w9).setCell (p := ⟨p, 4, none⟩) (.inl rfl) (.int .i64 (s1.writes + (j : Int) + 1))) b49 (fun e => nF4 (.inl e))
      have hba := b4a.set (.int .i64 ((at_ : Int) + (j : Int) + 1))
      have ub : Upd (fun b => b = q3 + 1) (w9.setCell ⟨p, 4, none⟩ (.int .i64 (s1.writes + (j : Int) + 1))) ((w9.setCell ⟨p, 4, none⟩ (.int .i64 (s1.writes + (j : Int) + 1))).setCell ⟨q3 + 1, 0, none⟩ (.int .i64 ((at_ : Int) + (j : Int) + 1))) := (Upd.refl (fun b => b = q3 + 1) _).setCell (.inl rfl) _
      have szW := hu.size
      have sz5 := hX5.size
      have hVb : ∀ b, V.ownBlock = some b → ¬ K2 b ∧ b ≠ q3 + 1 := fun b e => by
        rcases g8 b e with e | e
        · exact hk b (.inr (.inr (.inr e)))
        · exact ⟨fun x => by have := K2lt b x; omega, by omega⟩
      have hkf : ∀ b, dkB p S M V b → ¬ K2 b ∧ b ≠ q3 + 1 := fun b e => by
        rcases e with e | e | e | e
        · exact hk b (.inl e)
        · exact hk b (.inr (.inl e))
        · exact hk b (.inr (.inr (.inl e)))
        · exact hVb b e
      have hdf := hda.keep (ub.block p hda.lt.1 (hkf p (.inl rfl)).2) (ub.block S hda.lt.2.1 (hkf S (.inr (.inl rfl))).2) (ub.block M hda.lt.2.2.1 (hkf M (.inr (.inr (.inl rfl)))).2) (fun g e => ub.block g (hda.lt.2.2.2 g e) (hVb g e).2)
      have nB : ∀ b, K2 b → ¬ (dkB p S M (Value.slice qA Q.length qc) b ∨ b = q3 + 1) := fun b x e => e.elim (fun e => (hk b e).1 x) (fun e => k4 (e ▸ x))
      have huf := hu.trans (uf.mono (fun b _ e x => nB b x e))
      have hlen : ((pre ++ [x]).map f).length = j + 1 := by rw [List.length_map, hjx.out]
      refine ⟨wr_keeps hd hb (by omega) uf, ⟨uf.block B (by omega) (nB _ k5), uf.block (B + 1) (by omega) (nB _ k6)⟩, V, ?_, hkf, huf, ?_⟩
      · rw [hKx.out, hlen, show s1.writes + ((j + 1 : Nat) : Int) = s1.writes + (j : Int) + 1 by omega]
        exact hdf
      · rw [hlen, show ((at_ + (j + 1) : Nat) : Int) = (at_ : Int) + (j : Int) + 1 by omega]
        exact hba
    exact AllReadyH.nil
  case done =>
    rintro D ys W hD rfl hI hK
    have hmap : (List.range ((m + 127) / 128)).map f = List.range n := by rw [hN]; exact (List.map_congr_left (fun x hx => hf1 x (List.mem_range.1 hx))).trans (List.map_id _)
    rw [hmap] at hI
    have hI2 := (wrI_own (K := K2) (p := p) (S := S) (at_ := at_) (b4 := q3 + 1) (l := l) (s := s1) (Nat.le_refl w3.heap.size) hMlt) _ W (W.putObj D (.deferred none)) (some D) hI (grownBy_putObj' W D (.deferred none)) (fun r e => by cases e; exact ⟨by omega, _, hK, rfl⟩)
    have hsW2 := hsW
    clear hI hsW hsq hss hsw
    gi_wp2
    obtain ⟨qv2, hd2, hk2, hu2, _⟩ := hI2
    refine ⟨by simp, .inl ⟨_, _, rfl, run_takeDeferred hK, ?_⟩⟩
    refine ⟨_, results_tmp rfl _ _ _, rfl, ⟨S, M, qv2, ?_, fun b e x => (hk2 b e).1 (kK b x)⟩, u13.trans (hu2.mono (fun b _ x y => x (kK b y)))⟩
    rw [hsW2]
    rw [qOf_range, List.length_range] at hd2
    exact hd2
  case stop =>
    rintro D k pre W _ _ h _
    exact h.elim
end Go.Proofs.Ytgpnmmgoachajaa
/- '[]byte(s)' of a string that is no constant. -/
namespace Go.Proofs.Ytgpnmmgoachajaa
open Go.RowKit
open Go.Proofs

theorem conv_octs (l : List UInt8) (w : World) : ∃ c w', (convert 9 22 (.string ⟨l.toArray⟩)).run Try.prog w = .ok (.slice (some ⟨w.heap.size, 0, none⟩) l.length c) w' ∧
    l.length ≤ c ∧ Octs w' (some ⟨w.heap.size, 0, none⟩) l ∧ Ext w w' := by
  have h := Lib.run_convert_string_bytes (P := Try.prog) w 9 22 5 ⟨l.toArray⟩ Try.underlying9 Try.underlying22 Try.underlying5
  refine ⟨_, _, h, ?_, ?_, ?_⟩
  · exact grownCap_ge w _ 0 5
  · intro h0
    refine ⟨_, _, rfl, fun i v hv => ?_⟩
    have hi : i < l.length := by
      have := (List.getElem?_eq_some_iff.1 hv).1
      simpa using this
    rw [octs_get l i hi] at hv
    rw [Nat.zero_add, Lib.bytesWorld_cell w 5 ⟨l.toArray⟩ i hi, ← hv]
    simp [List.getD_eq_getElem?_getD, List.getElem?_eq_getElem hi]
  · refine ⟨rfl, rfl, rfl, ?_, ?_⟩
    · rw [Lib.bytesWorld_size]; omega
    · intro b hb
      exact Lib.bytesWorld_at_old w _ _ b hb
end Go.Proofs.Ytgpnmmgoachajaa
