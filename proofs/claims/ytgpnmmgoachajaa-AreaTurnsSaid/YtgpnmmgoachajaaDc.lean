/- The disk's Crash. -/
import Derived.Test.YtgpnmmgoachajaaDf
import Derived.Test.YtgpnmmgoachajaaSl
import Derived.Laws.CopyOwn
namespace Go.Proofs.Ytgpnmmgoachajaa
open Go.RowKit
open Go.Proofs

section
variable {w : World} {ops : Array Oper} {rest : List Oper} {o : Oper} {a : Act} {Q : Exit → Act → World → Prop}
theorem upd_row (g : Nat) (cs : Array Value) (w : World) : Upd (fun b => b = g) w (w.setRow g cs) :=
  ⟨rfl, rfl, rfl, by simp [World.setRow], fun k _ hk => setRow_other w g k cs hk⟩
theorem size_octet : (Try.prog.info? 5).map (·.size) = some 1 := by kernel_rfl
/-- Octets copied into a row that is known whole, in a region that draws its order. -/
theorem step_copy_sec {K : Act → World → Prop} {E : Prop} (hgd : o.guard = none) (d s : Operand) (ho : o.op = .call { callee := .builtin .copy, args := #[d, s], argTypes := #[22, 22] })
    (g off dLen dCap sLen sCap : Nat) (hd : a.eval d = .slice (some ⟨g, off, none⟩) dLen dCap) (sp : Option Addr) (hs : a.eval s = .slice sp sLen sCap)
    (L : List UInt8) (t : TypeId) (hg : w.heap[g]? = some (.cells (octs L).toArray t (0, 0))) (q : List UInt8) (hq : q.length = sLen) (hle : sLen ≤ dLen)
    (h0 : 0 < sLen) (hx : Octs w sp q) (hfit : off + q.length ≤ L.length)
    (h : ∀ w', w'.heap[g]? = some (.cells (octs (L.take off ++ (q ++ L.drop (off + q.length)))).toArray t (0, 0)) → Upd (fun b => b = g) w w' → K (a.put o.dst (goInt q.length)) w') :
    if Region.wanted o (yielded ops a.tmps) = true then Oper.wp Try.prog o a w K Q else E := by
  subst hq
  have hw : Region.wanted o (yielded ops a.tmps) = true := by simp [Region.wanted, hgd]
  rw [if_pos hw]
  obtain ⟨b, o2, rfl, _⟩ := hx (by rw [length_octs]; omega)
  have hn := Cells.news hx rfl (by rw [length_octs]; omega)
  have hrun := run_copy_row (P := Try.prog) w 22 22 o.type 5 g off dLen dCap _ q.length sCap (octs L).toArray t (octs q) Try.underlying22 size_octet hg (by rw [length_octs]; exact (Nat.min_eq_left hle).symm) hn (by rw [length_octs, List.size_toArray, length_octs]; exact hfit) (octs_one q)
  unfold Oper.wp
  simp [execOp, ho, resolve, invoke, builtin, hd, hs, hrun, Result.andThen]
  refine h _ ?_ (upd_row g _ w)
  have e : (octs L).take off ++ (octs q ++ (octs L).drop (off + q.length)) = octs (L.take off ++ (q ++ L.drop (off + q.length))) := by
    simp [octs]
  have := setRow_heap w g _ ((octs L).take off ++ (octs q ++ (octs L).drop (off + q.length))).toArray t _ hg
  rw [e] at this
  simpa [e] using this
end
theorem sliceAt_hi (b o C : Nat) (hC : C ≤ 128) (w : World) : (Instr.sliceAt 91 (.pointer (some ⟨b, o, none⟩)) none (some (.int .i64 (C : Int))) none).run Try.prog w = .ok (.slice (some ⟨b, o, none⟩) C 128) w := by
  have hlen : Try.prog.arrayLen 91 = 128 := by kernel_rfl
  have hel : Try.prog.elem 91 = 5 := by kernel_rfl
  obtain ⟨i0, hi0, _, hs, _⟩ := info_parts info5
  have h := run_sliceAt_array_h (P := Try.prog) w 91 ⟨b, o, none⟩ (by rw [hlen, hel]; exact und_sec) .i64 (C : Int) (by omega) (by rw [hlen]; omega)
  rw [h, run_size1 91 5 i0 hel hi0 hs, hlen]
  simp [Result.andThen, slicedAt, Addr.add]
/-- A sector that is torn, in the row of them all. -/
theorem flat_torn (sf : List (List UInt8)) (a C : Nat) (l : List UInt8) (h : ∀ x ∈ sf, x.length = 128) (ha : a < sf.length) (hC : C ≤ 128) (hl : l.length = 128) :
    sf.flatten.take (a * 128) ++ (l.take C ++ sf.flatten.drop (a * 128 + (l.take C).length)) = (sf.set a (l.take C ++ (sf.getD a []).drop C)).flatten := by
  have hg : sf[a]? = some (sf.getD a []) := by rw [List.getD_eq_getElem?_getD, List.getElem?_eq_getElem ha]; rfl
  have h1 := flat_at 128 sf a _ h hg
  have hlen : (l.take C).length = C := by rw [List.length_take]; omega
  have h2 : sf.flatten.drop (128 * a) = sf.getD a [] ++ sf.flatten.drop (128 * a + 128) := by
    rw [← List.take_append_drop 128 (sf.flatten.drop (128 * a)), h1, List.drop_drop]
  have hgl : (sf.getD a []).length = 128 := h _ (List.mem_of_getElem? hg)
  have h3 : sf.flatten.drop (128 * a + C) = (sf.getD a []).drop C ++ sf.flatten.drop (128 * a + 128) := by
    rw [← List.drop_drop, h2, List.drop_append_of_le_length (by omega)]
  rw [flat_set 128 sf a _ h ha, hlen, Nat.mul_comm a 128, h3]
  simp

theorem crash_cells {w : World} {q : Nat} {A : Option Addr} {n c : Nat} {torn cut : Int} (hb : w.heap[q]? = some (.cells #[.slice A n c, .int .i64 torn, .int .i64 cut] 35 (0, 0))) :
    w.cell? ⟨q, 0, none⟩ = some (.slice A n c) ∧ w.cell? ⟨q, 1, none⟩ = some (.int .i64 torn) ∧ w.cell? ⟨q, 2, none⟩ = some (.int .i64 cut) := by
  refine ⟨?_, ?_, ?_⟩ <;> (rw [cell_of_row w q _ _ _ _ hb]; rfl)

theorem DiskV.setTorn {w w' : World} {p S M : Nat} {qv : Value} {s : Dk} (h : DiskV w p S M qv s) (a C : Nat) (l : List UInt8) (ha : a < s.safe.length) (hC : C ≤ 128) (hl : l.length = 128)
    (hb : w'.heap[S]? = some (.cells (octs (s.safe.set a (l.take C ++ (s.safe.getD a []).drop C)).flatten).toArray 91 (0, 0))) (hu : Upd (fun b => b = S) w w') : DiskV w' p S M qv { s with safe := s.safe.set a (l.take C ++ (s.safe.getD a []).drop C) } := by
  have hg : (s.safe.getD a []).length = 128 := by
    rw [List.getD_eq_getElem?_getD, List.getElem?_eq_getElem ha]
    exact h.ok.safe _ (List.getElem_mem ha)
  have hy : (l.take C ++ (s.safe.getD a []).drop C).length = 128 := by rw [List.length_append, List.length_take, List.length_drop]; omega
  refine h.setSafe a _ ha hy ?_ hu
  rw [Nat.mul_comm, octs_set _ _ _ h.ok.safe ha hy]
  exact hb

set_option maxRecDepth 100000 in
set_option maxHeartbeats 8000000 in
theorem dk19_wide {K : Nat → Prop} {w : World} {p : Nat} {s : Dk} (h : Disk K w p s) (A : Option Addr) (keep : List Int) (n c : Nat) (torn cut : Int) (hn : keep.length = n) (hx : Cells w A (ints keep)) (hA : 0 < n → ∀ x, A = some x → K x.block) (hk63 : n ≤ 9223372036854775807) :
    Calls Try.prog 19 #[.pointer (some ⟨p, 0, none⟩), .agg #[.slice A n c, .int .i64 torn, .int .i64 cut]] w fun e w' => e = .returned (.int .i64 (((crashTo keep torn cut 0 s.safe s.queue).2 : Nat) : Int)) ∧ Disk K w' p (dkCrash s keep torn cut) ∧ Upd (fun b => ¬ K b) w w' := by
  subst hn
  obtain ⟨w1, hw1⟩ : ∃ w1, w1 = w.alloc (.cells #[.slice A keep.length c, .int .i64 torn, .int .i64 cut] 35) := ⟨_, rfl⟩
  have hbx : w1.heap[w.heap.size]? = some (.cells #[.slice A keep.length c, .int .i64 torn, .int .i64 cut] 35 (0, 0)) := by rw [hw1]; exact heap_alloc_new w _
  have x1 : Ext w w1 := by rw [hw1]; exact (Ext.refl w).alloc _
  have h1 : Disk (fun b => K b ∨ w.heap.size ≤ b) w1 p s := h.more x1
  obtain ⟨K1, hK1⟩ : ∃ K1 : Nat → Prop, K1 = fun b => K b ∨ b = w.heap.size := ⟨_, rfl⟩
  have h1 : Disk K1 w1 p s := h1.less (fun b hb => by rw [hK1] at hb; rcases hb with hb | hb; exact .inl hb; exact .inr (by omega))
  have hKA : 0 < keep.length → ∀ x, A = some x → K1 x.block := fun h0 x e => by rw [hK1]; exact .inl (hA h0 x e)
  have hKb : K1 w.heap.size := by rw [hK1]; exact .inr rfl
  have hKK : ∀ b, K b → K1 b := fun b g => by rw [hK1]; exact .inl g
  have hK2 : ∀ b, ¬ K1 b → ¬ K b := fun b g x => g (hKK b x)
  have hx1 : Cells w1 A (ints keep) := hx.ext x1
  have hsz1 : w.heap.size < w1.heap.size := by rw [hw1]; simp
  clear hK1 h hx
  obtain ⟨bx, hbe⟩ : ∃ bx, bx = w.heap.size := ⟨_, rfl⟩
  rw [← hbe] at hbx hKb hsz1
  obtain ⟨S, M, qv, hd, hk⟩ := h1
  obtain ⟨qA, qc, rfl⟩ := hd.qform
  obtain ⟨c0, c1, c2, c3, c4, cf⟩ := hd.cells
  have hok := hd.ok
  have d2 : (w.alloc (.cells #[.slice A keep.length c, .int .i64 torn, .int .i64 cut] 35)).cell? ⟨p, 2, none⟩ = some (.slice qA s.queue.length qc) := by rw [← hw1]; exact c2
  clear c0 c1 c2 c3 c4 cf
  obtain ⟨R, hR⟩ : ∃ R, R = crashTo keep torn cut 0 s.safe s.queue := ⟨_, rfl⟩
  have r0 : crashTo keep torn cut 0 s.safe (s.queue.drop 0) = R := hR.symm
  have hDC : dkCrash s keep torn cut = ⟨R.1, [], -1, s.writes⟩ := by rw [hR]; rfl
  rw [← hR, hDC]
  clear hR hDC
  go_enter Try.func19, Try.ntmps19
  go_wp2
  rw [← hw1]
  rw [← hbe]
  clear hbe hsz1
  have u1 : Upd (fun b => ¬ K b) w w1 := Upd.of_ext _ x1
  clear d2 hw1
  go_loopw [5, 13] (fun v i wr => ∃ (k m : Nat) (sf : List (List UInt8)), k ≤ s.queue.length ∧ m ≤ k ∧ v = .int .i64 m ∧ i = .int .i64 k ∧ DiskV wr p S M (.slice qA s.queue.length qc) ⟨sf, s.queue, s.calls, s.writes⟩ ∧ sf.length = s.safe.length ∧ Upd (fun b => ¬ K1 b) w1 wr ∧
    (crashTo keep torn cut k sf (s.queue.drop k)).1 = R.1 ∧ (crashTo keep torn cut k sf (s.queue.drop k)).2 + m = R.2) (fun _ i _ => s.queue.length - (intOf i).toNat)
  case atStart => exact ⟨0, 0, s.safe, Nat.zero_le _, Nat.le_refl _, rfl, rfl, hd, rfl, Upd.refl _ _, by rw [r0], by rw [r0]; rfl⟩
  case round =>
    obtain ⟨k, m, sf, hkn, hmk, rfl, rfl, hr, hsl, ur, hR1, hR2⟩ := hrel
    by_cases hlt : k < s.queue.length
    · obtain ⟨⟨a, l⟩, hq⟩ : ∃ q, s.queue[k]? = some q := ⟨_, List.getElem?_eq_getElem hlt⟩
      obtain ⟨g, cc, e, hrange, hq63⟩ := hr.qat k (a, l) hq
      injection e with e1 e2 e3
      subst e1; subst e3
      obtain ⟨ha, hl128⟩ : a < s.safe.length ∧ l.length = 128 := hok.queue (a, l) (List.mem_of_getElem? hq)
      have hzw : Try.zeroCells93.size = (wCells (a, l)).length := by rw [zero_wsize, length_wCells _ hl128]
      have hdr : s.queue.drop k = (a, l) :: s.queue.drop (k + 1) := by
        rw [List.drop_eq_getElem_cons hlt]
        congr 1
        have := List.getElem?_eq_getElem hlt
        rw [hq] at this
        exact (Option.some.inj this).symm
      rw [hdr, crashTo] at hR1 hR2
      have hb := hr.big
      have hbxr : wr.heap[bx]? = some (.cells #[.slice A keep.length c, .int .i64 torn, .int .i64 cut] 35 (0, 0)) := ur.heap hbx (fun x => x hKb)
      have hxr : Cells wr A (ints keep) := fun hpos => by
        obtain ⟨b, o, e, hc⟩ := hx1 hpos
        exact ⟨b, o, e, fun j u hu => ur.cell (hc j u hu) (fun x => x (hKA (by rw [length_ints] at hpos; exact hpos) ⟨b, o, none⟩ e))⟩
      have hcon : ∀ W, Ext wr W → Calls Try.prog 50 #[.slice A keep.length c, .int .i64 (k : Int)] W fun e w' => e = .returned (.bool (decide ((k : Int) ∈ keep))) ∧ W = w' :=
        fun W x => (contains_ints A keep c (k : Int) W hk63 (hxr.ext x)).mono (fun e w' h => ⟨h.1, h.2.symm⟩)
      clear e2
      by_cases hin : (k : Int) ∈ keep
      · rw [if_pos hin] at hR1 hR2
        have hdin : decide ((k : Int) ∈ keep) = true := decide_eq_true hin
        clear hin
        rw [hdin] at hcon
        go_wp2_with first
          | (refine wpList_load_w rfl (.tmp 16) rfl g (k * 129) rfl (a, l) hl128 hrange ?_)
          | (refine wpList_store_w rfl (.tmp 7) (.tmp 17) rfl wr.heap.size 0 rfl (a, l) rfl hl128 Try.zeroCells93 93 (heap_alloc_new _ _) (by rw [zero_wsize]; decide) ?_; intro w4 b4 u4; rw [putAt_all _ _ hzw] at b4; have x4 : Ext wr w4 := u4.to_ext ((Ext.refl wr).alloc _) (fun g e => by rw [e]; exact Nat.le_refl _); obtain ⟨hbx0, hbx1, hbx2⟩ := crash_cells (x4.heap hbxr))
          | (go_at_call 50; refine (hcon w4 x4).mono ?_; rintro e w5 ⟨rfl, rfl⟩)
        have hd4 := hr.ext x4
        have hb4S : ¬ (⟨wr.heap.size, 0, none⟩ : Addr).block = S := fun e => by
          have := hr.lt.2.1
          simp only at e
          omega
        have hbS : ¬ (⟨bx, 2, none⟩ : Addr).block = S := fun e => hk S (.inr (.inl rfl)) (by rw [← e]; exact hKb)
        have hc0 := hd4.cells.1
        have hk0 : w4.cell? ⟨wr.heap.size, 0, none⟩ = some (.int .i64 (a : Int)) := by rw [cell_of_row w4 _ _ _ _ _ b4]; rfl
        have hr7 : ∀ w', Upd (fun b => b = S) w4 w' → w'.rangeAt wr.heap.size 1 (octs l) := fun w' u => range_row (u.heap b4 hb4S) 1 (octs l) (by show (octs l).take (octs l).length = octs l; exact List.take_length)
        have hs9 := hd4.safe
        have hs128 : a * 128 + 128 ≤ (octs sf.flatten).toArray.size := by
          rw [List.size_toArray, length_octs, flat_len 128 sf hr.ok.safe, hsl]
          omega
        refine wp_region_held_drew (S := fun w' => Upd (fun b => b = S) w4 w') (by kernel_rfl) ((Upd.refl (fun b => b = S) w4).drew) (fun hS => ?_)
        refine takeH (i := 0) (v := ?_) rfl rfl (by kernel_rfl) (by kernel_rfl) (by kernel_rfl) (fun _ _ _ h => h) (Or.inl ⟨by kernel_rfl, ?_⟩) hS ?_
        rotate_left 1
        · (intro w' hS'; go_simp; try (with_reducible rfl))
        simp only [List.setIfInBounds_toArray, List.set_cons_succ, List.set_cons_zero]
        refine takeH (i := 1) (v := ?_) rfl rfl (by kernel_rfl) (by kernel_rfl) (by kernel_rfl) (fun _ _ _ h => h) (Or.inl ⟨by kernel_rfl, ?_⟩) hS ?_
        rotate_left 1
        · (intro w' hS'; go_simp; try (with_reducible rfl))
        simp only [List.setIfInBounds_toArray, List.set_cons_succ, List.set_cons_zero]
        refine takeH (i := 2) (v := ?_) rfl rfl (by kernel_rfl) (by kernel_rfl) (by kernel_rfl) (fun _ _ _ h => h) (Or.inl ⟨by kernel_rfl, ?_⟩) hS ?_
        rotate_left 1
        · (intro w' hS'; go_simp; try (with_reducible rfl))
        simp only [List.setIfInBounds_toArray, List.set_cons_succ, List.set_cons_zero]
        refine takeH (i := 3) (v := ?_) rfl rfl (by kernel_rfl) (by kernel_rfl) (by kernel_rfl) (fun _ _ _ h => h) (Or.inl ⟨by kernel_rfl, ?_⟩) hS ?_
        rotate_left 1
        · (intro w' hS'; have c0 := hS'.cell hc0 hd4.pS; go_simp; try (with_reducible rfl))
        simp only [List.setIfInBounds_toArray, List.set_cons_succ, List.set_cons_zero]
        refine takeH (i := 4) (v := ?_) rfl rfl (by kernel_rfl) (by kernel_rfl) (by kernel_rfl) (fun _ _ _ h => h) (Or.inl ⟨by kernel_rfl, ?_⟩) hS ?_
        rotate_left 1
        · (intro w' hS'; go_simp; try (with_reducible rfl))
        simp only [List.setIfInBounds_toArray, List.set_cons_succ, List.set_cons_zero]
        refine takeH (i := 5) (v := ?_) rfl rfl (by kernel_rfl) (by kernel_rfl) (by kernel_rfl) (fun _ _ _ h => h) (Or.inl ⟨by kernel_rfl, ?_⟩) hS ?_
        rotate_left 1
        · (intro w' hS'; have k5 := hS'.cell hk0 hb4S; go_simp; try (with_reducible rfl))
        simp only [List.setIfInBounds_toArray, List.set_cons_succ, List.set_cons_zero]
        refine takeH (i := 6) (v := ?_) rfl rfl (by kernel_rfl) (by kernel_rfl) (by kernel_rfl) (fun _ _ _ h => h) (Or.inl ⟨by kernel_rfl, ?_⟩) hS ?_
        rotate_left 1
        · (intro w' hS'; go_simp; try (with_reducible rfl))
        simp only [List.setIfInBounds_toArray, List.set_cons_succ, List.set_cons_zero]
        refine takeH (i := 7) (v := secV l) rfl rfl (by kernel_rfl) (by kernel_rfl) (by kernel_rfl) (fun _ _ _ h => h) (yieldsIf_load_mid (by kernel_rfl) 91 (.tmp 29) rfl wr.heap.size 1 rfl (octs l) _ hr7 und_sec rfl (by rw [size_sec, length_octs, hl128])) hS ?_
        simp only [List.setIfInBounds_toArray, List.set_cons_succ, List.set_cons_zero]
        refine takeH (i := 8) (v := ?_) rfl rfl (by kernel_rfl) (by kernel_rfl) (by kernel_rfl) (fun _ _ _ h => h) (Or.inl ⟨by kernel_rfl, ?_⟩) hS ?_
        rotate_left 1
        · (intro w' hS'; go_simp; try (with_reducible rfl))
        simp only [List.setIfInBounds_toArray, List.set_cons_succ, List.set_cons_zero]
        refine wpAnyH_ready (rs := [9]) (by kernel_rfl) (by simp) ?_
        refine AllReadyH.cons rfl (fun K hK => ?_) ?_
        rotate_left 1
        · exact AllReadyH.nil
        refine step_store_sec rfl (.tmp 31) (.tmp 30) rfl S (a * 128) rfl l rfl hl128 _ _ hs9 hs128 ?_; intro w9 b9 u9
        try go_simp
        refine hK.out _ _ (by first | exact hS.trans u9 | exact hS) (fun hS => ?_)
        clear hK K
        refine wpAnyH_done (by kernel_rfl) ?_ _
        have hd9 := hd4.setSafe a l (by show a < sf.length; omega) hl128 b9 hS
        have u49 : Upd (fun b => ¬ K1 b) wr w9 := (Upd.of_ext _ x4).trans (hS.mono (fun b _ e => by subst e; exact hk b (.inr (.inl rfl))))
        go_wp2
        go_roundw
        case rel => exact ⟨k + 1, m + 1, sf.set a l, by omega, by omega, val_int (by omega), val_int (by omega), hd9, by rw [List.length_set]; exact hsl, ur.trans u49, hR1, by omega⟩
        case measure => simp [intOf]; omega
      · rw [if_neg hin] at hR1 hR2
        have hdin : decide ((k : Int) ∈ keep) = false := decide_eq_false hin
        clear hin
        rw [hdin] at hcon
        by_cases ht : (k : Int) = torn ∧ 0 < cut ∧ cut < 128
        · rw [if_pos ht] at hR1 hR2
          obtain ⟨ht1, ht2, ht3⟩ := ht
          obtain ⟨C, rfl⟩ : ∃ C : Nat, cut = (C : Int) := ⟨cut.toNat, by omega⟩
          rw [Int.toNat_natCast] at hR1 hR2
          have g1 : ((k : Int) == torn) = true := beq_iff_eq.2 ht1
          have g2 : ((0 : Int) < (C : Int)) = True := eq_true ht2
          have g3 : ((C : Int) < 128) = True := eq_true ht3
          clear ht1
          go_wp2_with first
            | (refine wpList_load_w rfl (.tmp 16) rfl g (k * 129) rfl (a, l) hl128 hrange ?_)
            | (refine wpList_store_w rfl (.tmp 7) (.tmp 17) rfl wr.heap.size 0 rfl (a, l) rfl hl128 Try.zeroCells93 93 (heap_alloc_new _ _) (by rw [zero_wsize]; decide) ?_; intro w4 b4 u4; rw [putAt_all _ _ hzw] at b4; have x4 : Ext wr w4 := u4.to_ext ((Ext.refl wr).alloc _) (fun g e => by rw [e]; exact Nat.le_refl _); obtain ⟨hbx0, hbx1, hbx2⟩ := crash_cells (x4.heap hbxr))
            | (go_at_call 50; refine (hcon w4 x4).mono ?_; rintro e w5 ⟨rfl, rfl⟩)
          have hd4 := hr.ext x4
          have hb4S : ¬ (⟨wr.heap.size, 0, none⟩ : Addr).block = S := fun e => by
            have := hr.lt.2.1
            simp only at e
            omega
          have hbS : ¬ (⟨bx, 2, none⟩ : Addr).block = S := fun e => hk S (.inr (.inl rfl)) (by rw [← e]; exact hKb)
          have hc0 := hd4.cells.1
          have hk0 : w4.cell? ⟨wr.heap.size, 0, none⟩ = some (.int .i64 (a : Int)) := by rw [cell_of_row w4 _ _ _ _ _ b4]; rfl
          have hr7 : ∀ w', Upd (fun b => b = S) w4 w' → w'.rangeAt wr.heap.size 1 (octs l) := fun w' u => range_row (u.heap b4 hb4S) 1 (octs l) (by show (octs l).take (octs l).length = octs l; exact List.take_length)
          have hs9 := hd4.safe
          have hs128 : a * 128 + 128 ≤ (octs sf.flatten).toArray.size := by
            rw [List.size_toArray, length_octs, flat_len 128 sf hr.ok.safe, hsl]
            omega
          have hr7c : ∀ w', Upd (fun b => b = S) w4 w' → Octs w' (some ⟨wr.heap.size, 1, none⟩) (l.take C) := fun w' u _ => ⟨_, _, rfl, fun j v hv => hr7 w' u j v (by
            rw [← octs_take, List.getElem?_take] at hv
            split at hv
            · exact hv
            · cases hv)⟩
          refine wp_region_held_drew (S := fun w' => Upd (fun b => b = S) w4 w') (by kernel_rfl) ((Upd.refl (fun b => b = S) w4).drew) (fun hS => ?_)
          refine takeH (i := 0) (v := ?_) rfl rfl (by kernel_rfl) (by kernel_rfl) (by kernel_rfl) (fun _ _ _ h => h) (Or.inl ⟨by kernel_rfl, ?_⟩) hS ?_
          rotate_left 1
          · (intro w' hS'; go_simp; try (with_reducible rfl))
          simp only [List.setIfInBounds_toArray, List.set_cons_succ, List.set_cons_zero]
          refine takeH (i := 1) (v := ?_) rfl rfl (by kernel_rfl) (by kernel_rfl) (by kernel_rfl) (fun _ _ _ h => h) (Or.inl ⟨by kernel_rfl, ?_⟩) hS ?_
          rotate_left 1
          · (intro w' hS'; go_simp; try (with_reducible rfl))
          simp only [List.setIfInBounds_toArray, List.set_cons_succ, List.set_cons_zero]
          refine takeH (i := 2) (v := ?_) rfl rfl (by kernel_rfl) (by kernel_rfl) (by kernel_rfl) (fun _ _ _ h => h) (Or.inl ⟨by kernel_rfl, ?_⟩) hS ?_
          rotate_left 1
          · (intro w' hS'; go_simp; try (with_reducible rfl))
          simp only [List.setIfInBounds_toArray, List.set_cons_succ, List.set_cons_zero]
          refine takeH (i := 3) (v := ?_) rfl rfl (by kernel_rfl) (by kernel_rfl) (by kernel_rfl) (fun _ _ _ h => h) (Or.inl ⟨by kernel_rfl, ?_⟩) hS ?_
          rotate_left 1
          · (intro w' hS'; have c0 := hS'.cell hc0 hd4.pS; go_simp; try (with_reducible rfl))
          simp only [List.setIfInBounds_toArray, List.set_cons_succ, List.set_cons_zero]
          refine takeH (i := 4) (v := ?_) rfl rfl (by kernel_rfl) (by kernel_rfl) (by kernel_rfl) (fun _ _ _ h => h) (Or.inl ⟨by kernel_rfl, ?_⟩) hS ?_
          rotate_left 1
          · (intro w' hS'; go_simp; try (with_reducible rfl))
          simp only [List.setIfInBounds_toArray, List.set_cons_succ, List.set_cons_zero]
          refine takeH (i := 5) (v := ?_) rfl rfl (by kernel_rfl) (by kernel_rfl) (by kernel_rfl) (fun _ _ _ h => h) (Or.inl ⟨by kernel_rfl, ?_⟩) hS ?_
          rotate_left 1
          · (intro w' hS'; have k5 := hS'.cell hk0 hb4S; go_simp; try (with_reducible rfl))
          simp only [List.setIfInBounds_toArray, List.set_cons_succ, List.set_cons_zero]
          refine takeH (i := 6) (v := ?_) rfl rfl (by kernel_rfl) (by kernel_rfl) (by kernel_rfl) (fun _ _ _ h => h) (Or.inl ⟨by kernel_rfl, ?_⟩) hS ?_
          rotate_left 1
          · (intro w' hS'; go_simp; try (with_reducible rfl))
          simp only [List.setIfInBounds_toArray, List.set_cons_succ, List.set_cons_zero]
          refine takeH (i := 7) (v := ?_) rfl rfl (by kernel_rfl) (by kernel_rfl) (by kernel_rfl) (fun _ _ _ h => h) (Or.inl ⟨by kernel_rfl, ?_⟩) hS ?_
          rotate_left 1
          · (intro w' hS'; go_simp; try (with_reducible rfl))
          simp only [List.setIfInBounds_toArray, List.set_cons_succ, List.set_cons_zero]
          refine takeH (i := 8) (v := ?_) rfl rfl (by kernel_rfl) (by kernel_rfl) (by kernel_rfl) (fun _ _ _ h => h) (Or.inl ⟨by kernel_rfl, ?_⟩) hS ?_
          rotate_left 1
          · (intro w' hS'; go_simp; try (with_reducible rfl))
          simp only [List.setIfInBounds_toArray, List.set_cons_succ, List.set_cons_zero]
          refine takeH (i := 9) (v := ?_) rfl rfl (by kernel_rfl) (by kernel_rfl) (by kernel_rfl) (fun _ _ _ h => h) (Or.inl ⟨by kernel_rfl, ?_⟩) hS ?_
          rotate_left 1
          · (intro w' hS'; go_simp; try (with_reducible rfl))
          simp only [List.setIfInBounds_toArray, List.set_cons_succ, List.set_cons_zero]
          refine takeH (i := 10) (v := ?_) rfl rfl (by kernel_rfl) (by kernel_rfl) (by kernel_rfl) (fun _ _ _ h => h) (Or.inl ⟨by kernel_rfl, ?_⟩) hS ?_
          rotate_left 1
          · (intro w' hS'; have k10 := hS'.cell hbx2 hbS; go_simp; try (with_reducible rfl))
          simp only [List.setIfInBounds_toArray, List.set_cons_succ, List.set_cons_zero]
          refine takeH (i := 11) (v := ?_) rfl rfl (by kernel_rfl) (by kernel_rfl) (by kernel_rfl) (fun _ _ _ h => h) (Or.inl ⟨by kernel_rfl, ?_⟩) hS ?_
          rotate_left 1
          · (intro w' hS'; have k11 := sliceAt_hi wr.heap.size 1 C (by omega) w'; go_simp; try (with_reducible rfl))
          simp only [List.setIfInBounds_toArray, List.set_cons_succ, List.set_cons_zero]
          refine wpAnyH_ready (rs := [12]) (by kernel_rfl) (by simp) ?_
          refine AllReadyH.cons rfl (fun K hK => ?_) ?_
          rotate_left 1
          · exact AllReadyH.nil
          refine step_copy_sec (w := w4.drew) rfl (.tmp 56) (.tmp 60) rfl S (a * 128) 128 128 C 128 rfl _ rfl _ 91 hs9 (l.take C) (by rw [List.length_take]; omega) (by omega) (by omega) (hr7c _ hS) (by rw [List.length_take, flat_len 128 sf hr.ok.safe]; omega) ?_; intro w9 b9 u9
          try go_simp
          refine hK.out _ _ (by first | exact hS.trans u9 | exact hS) (fun hS => ?_)
          clear hK K
          refine wpAnyH_done (by kernel_rfl) ?_ _
          rw [flat_torn sf a C l hr.ok.safe (by omega) (by omega) hl128] at b9
          have hd9 := hd4.setTorn a C l (by show a < sf.length; omega) (by omega) hl128 b9 hS
          have u49 : Upd (fun b => ¬ K1 b) wr w9 := (Upd.of_ext _ x4).trans (hS.mono (fun b _ e => by subst e; exact hk b (.inr (.inl rfl))))
          go_wp2
          go_roundw
          case rel => exact ⟨k + 1, m, _, by omega, by omega, rfl, val_int (by omega), hd9, by rw [List.length_set]; exact hsl, ur.trans u49, hR1, hR2⟩
          case measure => simp [intOf]; omega
        · rw [if_neg ht] at hR1 hR2
          have hfin : ∀ w9, Ext wr w9 → DiskV w9 p S M (.slice (some ⟨g, 0, none⟩) s.queue.length qc) ⟨sf, s.queue, s.calls, s.writes⟩ ∧ Upd (fun b => ¬ K1 b) w1 w9 := fun w9 x9 => ⟨hr.ext x9, ur.trans (Upd.of_ext _ x9)⟩
          by_cases ht1 : (k : Int) = torn
          · by_cases ht2 : 0 < cut
            · have g1 : ((k : Int) == torn) = true := beq_iff_eq.2 ht1
              have g2 : ((0 : Int) < cut) = True := eq_true ht2
              have g3 : (cut < 128) = False := eq_false (fun x => ht ⟨ht1, ht2, x⟩)
              clear ht1 ht2 ht
              go_wp2_with first
                | (refine wpList_load_w rfl (.tmp 16) rfl g (k * 129) rfl (a, l) hl128 hrange ?_)
                | (refine wpList_store_w rfl (.tmp 7) (.tmp 17) rfl wr.heap.size 0 rfl (a, l) rfl hl128 Try.zeroCells93 93 (heap_alloc_new _ _) (by rw [zero_wsize]; decide) ?_; intro w4 b4 u4; rw [putAt_all _ _ hzw] at b4; have x4 : Ext wr w4 := u4.to_ext ((Ext.refl wr).alloc _) (fun g e => by rw [e]; exact Nat.le_refl _); obtain ⟨hbx0, hbx1, hbx2⟩ := crash_cells (x4.heap hbxr))
                | (go_at_call 50; refine (hcon w4 x4).mono ?_; rintro e w5 ⟨rfl, rfl⟩)
              go_roundw
              case rel => exact ⟨k + 1, m, sf, by omega, by omega, rfl, val_int (by omega), (hfin _ x4).1, hsl, (hfin _ x4).2, hR1, hR2⟩
              case measure => simp [intOf]; omega
            · have g1 : ((k : Int) == torn) = true := beq_iff_eq.2 ht1
              have g2 : ((0 : Int) < cut) = False := eq_false ht2
              clear ht1 ht2 ht
              go_wp2_with first
                | (refine wpList_load_w rfl (.tmp 16) rfl g (k * 129) rfl (a, l) hl128 hrange ?_)
                | (refine wpList_store_w rfl (.tmp 7) (.tmp 17) rfl wr.heap.size 0 rfl (a, l) rfl hl128 Try.zeroCells93 93 (heap_alloc_new _ _) (by rw [zero_wsize]; decide) ?_; intro w4 b4 u4; rw [putAt_all _ _ hzw] at b4; have x4 : Ext wr w4 := u4.to_ext ((Ext.refl wr).alloc _) (fun g e => by rw [e]; exact Nat.le_refl _); obtain ⟨hbx0, hbx1, hbx2⟩ := crash_cells (x4.heap hbxr))
                | (go_at_call 50; refine (hcon w4 x4).mono ?_; rintro e w5 ⟨rfl, rfl⟩)
              go_roundw
              case rel => exact ⟨k + 1, m, sf, by omega, by omega, rfl, val_int (by omega), (hfin _ x4).1, hsl, (hfin _ x4).2, hR1, hR2⟩
              case measure => simp [intOf]; omega
          · have g1 : ((k : Int) == torn) = false := beq_eq_false_iff_ne.2 ht1
            clear ht1 ht
            go_wp2_with first
              | (refine wpList_load_w rfl (.tmp 16) rfl g (k * 129) rfl (a, l) hl128 hrange ?_)
              | (refine wpList_store_w rfl (.tmp 7) (.tmp 17) rfl wr.heap.size 0 rfl (a, l) rfl hl128 Try.zeroCells93 93 (heap_alloc_new _ _) (by rw [zero_wsize]; decide) ?_; intro w4 b4 u4; rw [putAt_all _ _ hzw] at b4; have x4 : Ext wr w4 := u4.to_ext ((Ext.refl wr).alloc _) (fun g e => by rw [e]; exact Nat.le_refl _); obtain ⟨hbx0, hbx1, hbx2⟩ := crash_cells (x4.heap hbxr))
              | (go_at_call 50; refine (hcon w4 x4).mono ?_; rintro e w5 ⟨rfl, rfl⟩)
            go_roundw
            case rel => exact ⟨k + 1, m, sf, by omega, by omega, rfl, val_int (by omega), (hfin _ x4).1, hsl, (hfin _ x4).2, hR1, hR2⟩
            case measure => simp [intOf]; omega
    · obtain rfl : k = s.queue.length := by omega
      rw [List.drop_length, crashTo] at hR1 hR2
      have hRm : R.2 = m := by rw [← hR2]; exact Nat.zero_add m
      have hRs : R.1 = sf := hR1.symm
      go_wp2_with (go_at_call 49; refine (dk49_any ⟨S, M, _, hr, hk⟩).mono ?_; rintro e w2 ⟨rfl, ⟨S2, M2, qv2, hd2, hk2⟩, u2⟩; have c3 := hd2.cells.2.2.2.1; have f3 := hd2.cells.2.2.2.2.2 3)
      go_ret
      have hpK1 : ¬ K1 p := hk p (.inl rfl)
      have hfin := hd2.setCalls (-1) (by omega)
      refine ⟨by rw [hRm]; rfl, by rw [hRs]; exact ⟨S2, M2, qv2, hfin, fun b hb x => hk2 b hb (hKK b x)⟩, ?_⟩
      exact (u1.trans ((ur.trans u2).mono (fun b _ hb => hK2 b hb))).setCell (p := ⟨p, 3, none⟩) (.inl (hK2 p hpK1)) _
theorem dk19_any {K : Nat → Prop} {w : World} {p : Nat} {s : Dk} (h : Disk K w p s) (A : Option Addr) (keep : List Int) (n c : Nat) (torn cut : Int) (hn : keep.length = n) (hx : Cells w A (ints keep)) (hA : ∀ x, A = some x → K x.block) (hk63 : n ≤ 9223372036854775807) :
    Calls Try.prog 19 #[.pointer (some ⟨p, 0, none⟩), .agg #[.slice A n c, .int .i64 torn, .int .i64 cut]] w fun e w' => e = .returned (.int .i64 (((crashTo keep torn cut 0 s.safe s.queue).2 : Nat) : Int)) ∧ Disk K w' p (dkCrash s keep torn cut) ∧ Upd (fun b => ¬ K b) w w' :=
  dk19_wide h A keep n c torn cut hn hx (fun _ => hA) hk63
end Go.Proofs.Ytgpnmmgoachajaa
