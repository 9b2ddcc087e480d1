/- The document's two lists: drop, even. -/
import Derived.Test.YtghkkhafnkkomaaTl
import Derived.Test.YtghkkhafnkkomaaReg
import Derived.Deep.RegionHeld3
import Derived.BigQuiet
namespace Go.Proofs.Ytghkkhafnkkomaa
open Go.RowKit
open Go.Proofs

/-- A list without a number. -/
def without (l : List Int) (x : Int) : List Int := l.filter (fun y => !decide (y = x))

set_option maxRecDepth 100000 in
theorem f77_any (A : Option Addr) (l : List Int) (c : Nat) (x : Int) (w : World) (hlen : l.length ≤ 4294967290) (hx : Cells w A (ints l)) :
    Calls Try.prog 77 #[.slice A l.length c, .int .i64 x] w fun e w' => ∃ v, e = .returned v ∧ Mine w' 3 v (ints (without l x)) ∧ (∀ g, blk v = some g → w.heap.size ≤ g) ∧ Ext w w' := by
  go_enter Try.func77, Try.ntmps77
  go_wp2_with fail
  go_loopw [5, 6] (fun v i wr => ∃ j : Nat, j ≤ l.length ∧ i = .int .i64 j ∧ Mine wr 3 v (ints (without (l.take j) x)) ∧ (∀ g, blk v = some g → w.heap.size ≤ g) ∧ Ext w wr) (fun _ i _ => l.length - (intOf i).toNat)
  case atStart => exact ⟨0, by omega, rfl, Mine.nil _ _, (fun g h => by cases h), Ext.refl _⟩
  case round =>
    obtain ⟨j, hj, rfl, hm, hb, hext⟩ := hrel
    by_cases hlt : j < l.length
    · obtain ⟨b, o, rfl, hcell⟩ := (hx.ext hext).at_ (k := j) (u := .int .i64 l[j]) (ints_get l j hlt)
      have hts : without (l.take (j + 1)) x = if l[j] = x then without (l.take j) x else without (l.take j) x ++ [l[j]] := by
        rw [List.take_succ_eq_append_getElem hlt, without, List.filter_append, List.filter_cons]
        split <;> simp_all [without]
      have hle : (without (l.take j) x).length ≤ 4294967295 := by
        refine Nat.le_trans (List.length_filter_le _ _) ?_
        rw [List.length_take]; omega
      generalize hy : l[j] = y at hcell hts
      have hyy := Lib.hid hy
      clear hy
      by_cases he : y = x
      · rw [if_pos he] at hts
        have HT := Lib.hid hts
        subst he
        clear hts
        go_wp2_with fail
        go_roundw
        case rel => exact ⟨j + 1, by omega, by go_num, by rw [HT.out]; exact hm, hb, hext⟩
        case measure => simp [intOf]; omega
      · rw [if_neg he] at hts
        have HT := Lib.hid hts
        clear hts
        go_wp2_with (at_builtin; refine wpList_append_int rfl (.tmp 19) (.tmp 24) rfl u5 (without (l.take j) x) rfl (hm.ext ((Ext.refl wr).alloc (.cells #[.int .i64 y] 3))) (some ⟨wr.heap.size, 0, none⟩) 1 y rfl (Cells.new1 wr (.int .i64 y) 3) hle ?_; intro v2 w2 m2 u2 b2)
        go_roundw
        case rel =>
          have hg : ∀ g, blk u5 = some g → w.heap.size ≤ g := hb
          refine ⟨j + 1, by omega, by go_num, by rw [HT.out]; exact m2, fun g hg2 => ?_, Upd.to_ext (hext.alloc _) u2 (fun b e => hb b e)⟩
          rcases b2 with e | e
          · exact hb g (by rw [← e]; exact hg2)
          · rw [e] at hg2
            cases hg2
            have := hext.size
            simp; omega
        case measure => simp [intOf]; omega
    · obtain rfl : j = l.length := by omega
      rw [List.take_length] at hm
      go_wp2_with fail
      go_ret
      exact ⟨_, rfl, hm, hb, hext⟩

/-- append of a whole list of ints, as a step of a region. -/
theorem step_append_ints {w : World} {ops : Array Oper} {o : Oper} {a : Act} {K : Act → World → Prop} {Q : Exit → Act → World → Prop} {E : Prop} (hgd : o.guard = none) (s x : Operand)
    (ho : o.op = .call { callee := .builtin .append, args := #[s, x], argTypes := #[22, 22] })
    (v : Value) (l : List Int) (hs : a.eval s = v) (hm : Mine w 3 v (ints l)) (A : Option Addr) (m c : Nat) (l2 : List Int) (hxv : a.eval x = .slice A m c) (hm' : l2.length = m) (hx : Cells w A (ints l2))
    (hlen : l.length + l2.length ≤ 4294967295)
    (h : ∀ v' w', Mine w' 3 v' (ints (l ++ l2)) → Upd (fun b => blk v = some b) w w' → (blk v' = blk v ∨ blk v' = some w.heap.size) → K (a.put o.dst v') w') :
    if Region.wanted o (yielded ops a.tmps) = true then Oper.wp Try.prog o a w K Q else E := by
  obtain ⟨i0, hi0, hz, hs0, hb0⟩ := info_three info3
  refine step_append_mine hgd s x _ ho 3 i0 (.int .i64 0) 8 Try.underlying22 hi0 hz hs0 hb0 rfl v (ints l) hs hm A m c (ints l2) hxv (by rw [length_ints]; exact hm') hx (ints_one _) (by simp; omega) (by omega) ?_
  intro v' w' h1 h2 h3
  exact h v' w' (by rw [ints_append]; exact h1) h2 h3
theorem mine_empty (w : World) : Mine (w.alloc (.cells #[] 3)) 3 (.slice (some ⟨w.heap.size, 0, none⟩) 0 0) (ints []) := Mine.new w 3 #[] 0 0 [] rfl (Nat.le_refl _) (by simp) (by simp) (fun j u h => by simp at h)

/-- A slice in blocks from b0 on. -/
def Fresh (b0 : Nat) (v : Value) : Prop := ∀ g, blk v = some g → b0 ≤ g
theorem Fresh.of {b0 : Nat} {v v' : Value} {w : World} (b : blk v' = blk v ∨ blk v' = some w.heap.size) (h : Fresh b0 v) (hs : b0 ≤ w.heap.size) : Fresh b0 v' := fun g e => by
  rcases b with b | b
  · exact h g (by rw [← b]; exact e)
  · rw [b] at e; cases e; exact hs
theorem TLv.putI {w : World} {t : TypeId} {k : Nat} {F : Nat → Prop} {n : Int} {va vi v : Value} {A I I' : List Int} (h : TLv w t k F n va vi A I) (hm : Mine w 3 v (ints I')) (hb : ∀ g, blk v = some g → F g ∧ g ≠ k ∧ blk va ≠ some g) :
    TLv (w.setCell ⟨k, 2, none⟩ v) t k F n va v A I' := by
  have uk : Upd (fun b => b = k) w (w.setCell ⟨k, 2, none⟩ v) := (Upd.refl (fun b => b = k) w).setCell (p := ⟨k, 2, none⟩) (.inl rfl) v
  exact ⟨heap_setCell_same w k 2 _ t v h.head, h.mem, h.act.upd uk (fun g e => (h.ba g e).2.1), hm.upd uk (fun g e => (hb g e).2.1), fun g e => ⟨(h.ba g e).1, (h.ba g e).2.1, fun e2 => (hb g e2).2.2 e⟩, fun g e => ⟨(hb g e).1, (hb g e).2.1⟩⟩
theorem TLv.putA {w : World} {t : TypeId} {k : Nat} {F : Nat → Prop} {n : Int} {va vi v : Value} {A I A' : List Int} (h : TLv w t k F n va vi A I) (hm : Mine w 3 v (ints A')) (hb : ∀ g, blk v = some g → F g ∧ g ≠ k ∧ blk vi ≠ some g) :
    TLv (w.setCell ⟨k, 1, none⟩ v) t k F n v vi A' I := by
  have uk : Upd (fun b => b = k) w (w.setCell ⟨k, 1, none⟩ v) := (Upd.refl (fun b => b = k) w).setCell (p := ⟨k, 1, none⟩) (.inl rfl) v
  exact ⟨heap_setCell_same w k 1 _ t v h.head, h.mem, hm.upd uk (fun g e => (hb g e).2.1), h.ina.upd uk (fun g e => (h.bi g e).2), fun g e => ⟨(hb g e).1, (hb g e).2.1, (hb g e).2.2⟩, fun g e => ⟨(h.bi g e).1, (h.bi g e).2⟩⟩
theorem ref_fin {w wq w3 : World} {t : TypeId} {k : Nat} {F : Nat → Prop} {n : Int} {va vi v : Value} {A I I' : List Int} (h : TLv wq t k (Since F w wq) n va vi A I) (u : Upd F w wq) (e : Ext wq w3) (hm : Mine w3 3 v (ints I')) (hf : Fresh wq.heap.size v) :
    TLv (w3.setCell ⟨k, 2, none⟩ v) t k (Since F w w3) n va v A I' ∧ Upd F w (w3.setCell ⟨k, 2, none⟩ v) := by
  have hk := h.lt
  have h3 : TLv w3 t k (Since F w w3) n va vi A I := (h.ext e).mono (fun b x => x.mono e.size)
  refine ⟨h3.putI hm (fun g x => ⟨.inr ⟨Nat.le_trans u.size (hf g x), hm.lt x⟩, ?_, ?_⟩), ((u.trans' (Upd.of_ext (fun _ => False) e) (fun _ x => x.elim)).trans' ((Upd.refl (fun b => b = k) w3).setCell (p := ⟨k, 2, none⟩) (.inl rfl) v) (fun b x => ?_))⟩
  · have := hf g x; omega
  · intro x2
    have := h.act.lt x2
    have := hf g x; omega
  · cases x
    rcases h.mem with y | y
    · exact .inl y
    · exact .inr y.1

set_option maxRecDepth 100000 in
set_option maxHeartbeats 4000000 in
theorem f78_any (k : Nat) (F : Nat → Prop) (n : Int) (A I : List Int) (w : World) (hL : A.length + I.length ≤ 4294967290) (h : TL w 45 k F n A I) :
    Calls Try.prog 78 #[.pointer (some ⟨k, 0, none⟩)] w fun e w' => e = .returned (.tuple #[]) ∧ TL w' 45 k (Since F w w') n (even A I).1 (even A I).2 ∧ Upd F w w' := by
  obtain ⟨va, vi, h⟩ := h
  obtain ⟨N, hN⟩ : ∃ N, N = A.length + I.length := ⟨_, rfl⟩
  rw [← hN] at hL
  go_enter Try.func78, Try.ntmps78
  go_wp2_with fail
  go_loopg [] A.length (fun g wr => ∃ (A' I' : List Int) (va vi : Value), A'.length ≤ g ∧ TLv wr 45 k (Since F w wr) n va vi A' I' ∧ Upd F w wr ∧ even A' I' = even A I ∧ A'.length + I'.length = N)
  case atStart => exact ⟨A, I, va, vi, Nat.le_refl _, h.mono (fun _ x => .inl x), Upd.refl _ _, rfl, hN.symm⟩
  case round =>
    obtain ⟨A', I', va, vi, hg, ht, hu, he, hl⟩ := hrel
    obtain ⟨c0, c1, c2, hf⟩ := ht.cells
    obtain ⟨Aa, ca, rfl, hca, _, hxa, _, _⟩ := ht.act.form
    obtain ⟨Ai, ci, rfl, hci, _, hxi, _, _⟩ := ht.ina.form
    simp only [length_ints] at *
    obtain ⟨q, hq⟩ : ∃ q, q = 2 * A'.length := ⟨_, rfl⟩
    have hs1 : (A'.length : Int) + (I'.length : Int) = (N : Int) := by omega
    have hs2 : 2 * (A'.length : Int) = (q : Int) := by omega
    have hw1 : IntKind.i64.wrap (N : Int) = (N : Int) := IntWalk.i64_in _ (by omega)
    have hw2 : IntKind.i64.wrap ((N : Int) + 1) = (N : Int) + 1 := IntWalk.i64_in _ (by omega)
    have hw3 : IntKind.i64.wrap (q : Int) = (q : Int) := IntWalk.i64_in _ (by omega)
    by_cases hb : N + 1 < q
    · have hgt : ((N : Int) + 1 < (q : Int)) = True := by simp; omega
      obtain ⟨x, A2, rfl⟩ : ∃ x A2, A' = x :: A2 := by
        cases A' with
        | nil => simp at hq; omega
        | cons x A2 => exact ⟨x, A2, rfl⟩
      have hev : even (x :: A2) I' = even A2 (I' ++ [x]) := by
        rw [even, if_pos]
        simp only [List.length_cons] at hq hl
        omega
      have hlen : I'.length ≤ 4294967290 := by omega
      obtain ⟨a, ha⟩ : ∃ a, a = (x :: A2).length := ⟨_, rfl⟩
      have hA2 : A2.length < gk := hg
      rw [← ha] at hg hca hs1 hs2
      simp only [← ha] at c1 ht hxa
      have ha1 : 1 ≤ a := by rw [ha]; simp
      have ha2 : 0 < a := by omega
      have HA := Lib.hid ha
      have HE := Lib.hid he
      have HL := Lib.hid hl
      clear hq hL hN hl ha he
      go_wp2_with fail
      go_quiet (fail)
      have htq := (ht.ext ((Ext.refl wr).drewN nq)).mono (G := Since F w (wr.drewN nq)) (fun _ x => x)
      have huq := hu.drewN nq
      have hxq := hxi.ext ((Ext.refl wr).drewN nq)
      generalize wr.drewN nq = wq at *
      clear c0 c1 c2 hf hxa hxi ht hu
      obtain ⟨c0, c1, c2, hf⟩ := htq.cells
      obtain ⟨A0, ca0, hv0, _, _, hx0, _, _⟩ := htq.act.form
      injection hv0 with e1 e2 e3
      subst e1
      clear e2 e3
      obtain ⟨ga, oa, rfl, hcell⟩ := hx0.at_ (k := 0) (u := .int .i64 x) (by simp [ints])
      rw [Nat.add_zero] at hcell
      clear hx0
      have hgk : ga ≠ k := (htq.ba ga rfl).2.1
      have e1 : Ext wq (wq.alloc (.cells #[] 3)) := (Ext.refl _).alloc _
      have e2 : Ext wq (wq.alloc (.cells #[.int .i64 x] 3)) := (Ext.refl _).alloc _
      have e12 : Ext wq ((wq.alloc (.cells #[] 3)).alloc (.cells #[.int .i64 x] 3)) := e1.alloc _
      have e21 : Ext wq ((wq.alloc (.cells #[.int .i64 x] 3)).alloc (.cells #[] 3)) := e2.alloc _
      have l1 := e1.cell c2
      have l2 := e2.cell c2
      have l12 := e12.cell c2
      have l21 := e21.cell c2
      have s1 := e1.cell c1
      have s2 := e2.cell c1
      have s12 := e12.cell c1
      have s21 := e21.cell c1
      have z1 := e1.cell hcell
      have z2 := e2.cell hcell
      have z12 := e12.cell hcell
      have z21 := e21.cell hcell
      have m1 : Mine (wq.alloc (.cells #[] 3)).drew 3 (.slice (some ⟨wq.heap.size, 0, none⟩) 0 0) (ints []) := (mine_empty wq).ext (Ext.refl _).drew
      have m12 : Mine ((wq.alloc (.cells #[] 3)).alloc (.cells #[.int .i64 x] 3)).drew 3 (.slice (some ⟨wq.heap.size, 0, none⟩) 0 0) (ints []) := (mine_empty wq).ext ((Ext.refl _).alloc _).drew
      have m21 : Mine ((wq.alloc (.cells #[.int .i64 x] 3)).alloc (.cells #[] 3)).drew 3 (.slice (some ⟨wq.heap.size + 1, 0, none⟩) 0 0) (ints []) := by
        have := (mine_empty (wq.alloc (.cells #[.int .i64 x] 3))).ext (Ext.refl _).drew
        simpa using this
      have y12 : Cells ((wq.alloc (.cells #[] 3)).alloc (.cells #[.int .i64 x] 3)).drew (some ⟨wq.heap.size + 1, 0, none⟩) [.int .i64 x] := by
        have : Cells ((wq.alloc (.cells #[] 3)).alloc (.cells #[.int .i64 x] 3)) (some ⟨(wq.alloc (.cells #[] 3)).heap.size, 0, none⟩) [.int .i64 x] := Cells.new1 (wq.alloc (.cells #[] 3)) (.int .i64 x) 3
        rw [show (wq.alloc (.cells #[] 3)).heap.size = wq.heap.size + 1 by simp] at this
        exact this
      have y21 : Cells ((wq.alloc (.cells #[.int .i64 x] 3)).alloc (.cells #[] 3)).drew (some ⟨wq.heap.size, 0, none⟩) [.int .i64 x] := (Cells.new1 wq (.int .i64 x) 3).alloc _
      go_wp2_with fail
      refine wp_region_held_drew (S := fun w' => w'.cell? ⟨k, 1, none⟩ = some (.slice (some ⟨ga, oa, none⟩) a ca) ∧ w'.cell? ⟨ga, oa, none⟩ = some (.int .i64 x)) (by kernel_rfl) (⟨c1, hcell⟩) (fun hS => ?_)
      refine takeH (i := 0) (v := ?_) rfl rfl (by kernel_rfl) (by kernel_rfl) (by kernel_rfl) (fun _ _ _ h => h) (Or.inl ⟨by kernel_rfl, ?_⟩) hS ?_
      rotate_left 1
      · (intro w' hS'; go_simp; try (with_reducible rfl))
      simp only [List.setIfInBounds_toArray, List.set_cons_succ, List.set_cons_zero]
      refine takeH (i := 2) (v := ?_) rfl rfl (by kernel_rfl) (by kernel_rfl) (by kernel_rfl) (fun _ _ _ h => h) (Or.inl ⟨by kernel_rfl, ?_⟩) hS ?_
      rotate_left 1
      · (intro w' hS'; go_simp; try (with_reducible rfl))
      simp only [List.setIfInBounds_toArray, List.set_cons_succ, List.set_cons_zero]
      refine takeH (i := 3) (v := ?_) rfl rfl (by kernel_rfl) (by kernel_rfl) (by kernel_rfl) (fun _ _ _ h => h) (Or.inl ⟨by kernel_rfl, ?_⟩) hS ?_
      rotate_left 1
      · (intro w' hS'; go_simp; try (with_reducible rfl))
      simp only [List.setIfInBounds_toArray, List.set_cons_succ, List.set_cons_zero]
      refine takeH (i := 4) (v := ?_) rfl rfl (by kernel_rfl) (by kernel_rfl) (by kernel_rfl) (fun _ _ _ h => h) (Or.inl ⟨by kernel_rfl, ?_⟩) hS ?_
      rotate_left 1
      · (intro w' hS'; go_simp; try (with_reducible rfl))
      simp only [List.setIfInBounds_toArray, List.set_cons_succ, List.set_cons_zero]
      refine takeH (i := 7) (v := ?_) rfl rfl (by kernel_rfl) (by kernel_rfl) (by kernel_rfl) (fun _ _ _ h => h) (Or.inl ⟨by kernel_rfl, ?_⟩) hS ?_
      rotate_left 1
      · (intro w' hS'; go_simp; try (with_reducible rfl))
      simp only [List.setIfInBounds_toArray, List.set_cons_succ, List.set_cons_zero]
      refine takeH (i := 8) (v := ?_) rfl rfl (by kernel_rfl) (by kernel_rfl) (by kernel_rfl) (fun _ _ _ h => h) (Or.inl ⟨by kernel_rfl, ?_⟩) hS ?_
      rotate_left 1
      · (intro w' hS'; go_simp; try (with_reducible rfl))
      simp only [List.setIfInBounds_toArray, List.set_cons_succ, List.set_cons_zero]
      refine takeH (i := 9) (v := ?_) rfl rfl (by kernel_rfl) (by kernel_rfl) (by kernel_rfl) (fun _ _ _ h => h) (Or.inl ⟨by kernel_rfl, ?_⟩) hS ?_
      rotate_left 1
      · (intro w' hS'; go_simp; try (with_reducible rfl))
      simp only [List.setIfInBounds_toArray, List.set_cons_succ, List.set_cons_zero]
      refine takeH (i := 10) (v := ?_) rfl rfl (by kernel_rfl) (by kernel_rfl) (by kernel_rfl) (fun _ _ _ h => h) (Or.inl ⟨by kernel_rfl, ?_⟩) hS ?_
      rotate_left 1
      · (intro w' hS'; obtain ⟨g1, g2⟩ := hS'; go_simp; try (with_reducible rfl))
      simp only [List.setIfInBounds_toArray, List.set_cons_succ, List.set_cons_zero]
      refine takeH (i := 11) (v := ?_) rfl rfl (by kernel_rfl) (by kernel_rfl) (by kernel_rfl) (fun _ _ _ h => h) (Or.inl ⟨by kernel_rfl, ?_⟩) hS ?_
      rotate_left 1
      · (intro w' hS'; go_simp; try (with_reducible rfl))
      simp only [List.setIfInBounds_toArray, List.set_cons_succ, List.set_cons_zero]
      refine takeH (i := 12) (v := ?_) rfl rfl (by kernel_rfl) (by kernel_rfl) (by kernel_rfl) (fun _ _ _ h => h) (Or.inl ⟨by kernel_rfl, ?_⟩) hS ?_
      rotate_left 1
      · (intro w' hS'; obtain ⟨g1, g2⟩ := hS'; go_simp; try (with_reducible rfl))
      simp only [List.setIfInBounds_toArray, List.set_cons_succ, List.set_cons_zero]
      refine wpAnyH_ready (rs := [1, 5, 13]) (by kernel_rfl) (by simp) ?_
      refine AllReadyH.cons rfl (fun K hK => ?_) ?_
      · skip
        go_simp
        refine hK.out _ _ (by first | exact hS | (refine ⟨?_, ?_⟩ <;> first | (simp [*]; done) | simp [*, World.cell?_alloc_some])) (fun hS => ?_)
        clear hK K
        refine wpAnyH_ready (rs := [5, 13]) (by kernel_rfl) (by simp) ?_
        refine AllReadyH.cons rfl (fun K hK => ?_) ?_
        · skip
          go_simp
          refine hK.out _ _ (by first | exact hS | (refine ⟨?_, ?_⟩ <;> first | (simp [*]; done) | simp [*, World.cell?_alloc_some])) (fun hS => ?_)
          clear hK K
          refine wpAnyH_ready (rs := [6, 13]) (by kernel_rfl) (by simp) ?_
          refine AllReadyH.cons rfl (fun K hK => ?_) ?_
          · skip
            first | (refine step_append_ints rfl (.tmp 22) (.tmp 26) rfl (.slice (some ⟨wq.heap.size, 0, none⟩) 0 0) [] (by simp [Act.eval]) m1 Ai I'.length ci I' (by simp [Act.eval]) rfl (hxq.ext e1.drew) (by simp; omega) ?_; intro v2 w2 p2 u2 b2; have E2 : Ext wq w2 := Upd.to_ext e1.drew u2 (by intro b hb; simp [blk] at hb; omega); have F2 : Fresh wq.heap.size v2 := Fresh.of b2 (by intro g hg; simp [blk] at hg; omega) e1.drew.size; have s3 := E2.cell c1; have z3 := E2.cell hcell; have l3 := E2.cell c2) | (refine step_append_ints rfl (.tmp 22) (.tmp 26) rfl (.slice (some ⟨wq.heap.size, 0, none⟩) 0 0) [] (by simp [Act.eval]) m12 Ai I'.length ci I' (by simp [Act.eval]) rfl (hxq.ext e12.drew) (by simp; omega) ?_; intro v2 w2 p2 u2 b2; have E2 : Ext wq w2 := Upd.to_ext e12.drew u2 (by intro b hb; simp [blk] at hb; omega); have F2 : Fresh wq.heap.size v2 := Fresh.of b2 (by intro g hg; simp [blk] at hg; omega) e12.drew.size; have s3 := E2.cell c1; have z3 := E2.cell hcell; have l3 := E2.cell c2; have Y2 : Cells w2 (some ⟨wq.heap.size + 1, 0, none⟩) [.int .i64 x] := y12.keep (by intro b o e; cases e; refine u2.block _ (by simp <;> omega) (by simp [blk]))) | (refine step_append_ints rfl (.tmp 22) (.tmp 26) rfl (.slice (some ⟨wq.heap.size + 1, 0, none⟩) 0 0) [] (by simp [Act.eval]) m21 Ai I'.length ci I' (by simp [Act.eval]) rfl (hxq.ext e21.drew) (by simp; omega) ?_; intro v2 w2 p2 u2 b2; have E2 : Ext wq w2 := Upd.to_ext e21.drew u2 (by intro b hb; simp [blk] at hb; omega); have F2 : Fresh wq.heap.size v2 := Fresh.of b2 (by intro g hg; simp [blk] at hg; omega) e21.drew.size; have s3 := E2.cell c1; have z3 := E2.cell hcell; have l3 := E2.cell c2; have Y2 : Cells w2 (some ⟨wq.heap.size, 0, none⟩) [.int .i64 x] := y21.keep (by intro b o e; cases e; refine u2.block _ (by simp <;> omega) (by simp [blk])))
            try go_simp
            refine hK.out _ _ (by first | exact hS | (refine ⟨?_, ?_⟩ <;> first | (simp [*]; done) | simp [*, World.cell?_alloc_some])) (fun hS => ?_)
            clear hK K
            refine wpAnyH_ready (rs := [13]) (by kernel_rfl) (by simp) ?_
            refine AllReadyH.cons rfl (fun K hK => ?_) ?_
            rotate_left 1
            · exact AllReadyH.nil
            go_simp
            refine hK.out _ _ (by first | exact hS | (refine ⟨?_, ?_⟩ <;> first | (simp [*]; done) | simp [*, World.cell?_alloc_some])) (fun hS => ?_)
            clear hK K
            refine wpAnyH_ready (rs := [14]) (by kernel_rfl) (by simp) ?_
            refine AllReadyH.cons rfl (fun K hK => ?_) ?_
            rotate_left 1
            · exact AllReadyH.nil
            first | (refine step_append_int rfl (.tmp 27) (.tmp 34) rfl v2 ([] ++ I') (by simp [Act.eval]) (p2.ext ((Ext.refl w2).alloc _)) (some ⟨w2.heap.size, 0, none⟩) 1 x (by simp [Act.eval]) (Cells.new1 w2 (.int .i64 x) 3) (by simp; omega) ?_; intro v3 w3 p3 u3 b3; have E3 : Ext wq w3 := Upd.to_ext (E2.alloc _) u3 (fun b hb => F2 b hb); have F3 : Fresh wq.heap.size v3 := Fresh.of b3 F2 ((E2.alloc _)).size; obtain ⟨B3, n3, d3, rfl⟩ := p3.slice; obtain ⟨q0, q1, q2, qf⟩ := (htq.ext E3).cells; have z4 := E3.cell hcell; obtain ⟨t4, u4⟩ := ref_fin htq huq E3 p3 F3; obtain ⟨_, k1, _, _⟩ := t4.cells; have k2 := (World.cell?_setCell_far w3 ⟨k, 2, none⟩ ⟨ga, oa, none⟩ (.slice B3 n3 d3) (fun e => hgk e.symm)).trans z4; obtain ⟨A1, r1, r2, m4, b4⟩ := tail_ints (some ⟨ga, oa, none⟩) a ca (x :: A2) _ HA.out.symm ha1 t4.act) | (refine step_append_int rfl (.tmp 27) (.tmp 34) rfl v2 ([] ++ I') (by simp [Act.eval]) p2 (some ⟨wq.heap.size + 1, 0, none⟩) 1 x (by simp [Act.eval]) Y2 (by simp; omega) ?_; intro v3 w3 p3 u3 b3; have E3 : Ext wq w3 := Upd.to_ext E2 u3 (fun b hb => F2 b hb); have F3 : Fresh wq.heap.size v3 := Fresh.of b3 F2 (E2).size; obtain ⟨B3, n3, d3, rfl⟩ := p3.slice; obtain ⟨q0, q1, q2, qf⟩ := (htq.ext E3).cells; have z4 := E3.cell hcell; obtain ⟨t4, u4⟩ := ref_fin htq huq E3 p3 F3; obtain ⟨_, k1, _, _⟩ := t4.cells; have k2 := (World.cell?_setCell_far w3 ⟨k, 2, none⟩ ⟨ga, oa, none⟩ (.slice B3 n3 d3) (fun e => hgk e.symm)).trans z4; obtain ⟨A1, r1, r2, m4, b4⟩ := tail_ints (some ⟨ga, oa, none⟩) a ca (x :: A2) _ HA.out.symm ha1 t4.act) | (refine step_append_int rfl (.tmp 27) (.tmp 34) rfl v2 ([] ++ I') (by simp [Act.eval]) p2 (some ⟨wq.heap.size, 0, none⟩) 1 x (by simp [Act.eval]) Y2 (by simp; omega) ?_; intro v3 w3 p3 u3 b3; have E3 : Ext wq w3 := Upd.to_ext E2 u3 (fun b hb => F2 b hb); have F3 : Fresh wq.heap.size v3 := Fresh.of b3 F2 (E2).size; obtain ⟨B3, n3, d3, rfl⟩ := p3.slice; obtain ⟨q0, q1, q2, qf⟩ := (htq.ext E3).cells; have z4 := E3.cell hcell; obtain ⟨t4, u4⟩ := ref_fin htq huq E3 p3 F3; obtain ⟨_, k1, _, _⟩ := t4.cells; have k2 := (World.cell?_setCell_far w3 ⟨k, 2, none⟩ ⟨ga, oa, none⟩ (.slice B3 n3 d3) (fun e => hgk e.symm)).trans z4; obtain ⟨A1, r1, r2, m4, b4⟩ := tail_ints (some ⟨ga, oa, none⟩) a ca (x :: A2) _ HA.out.symm ha1 t4.act)
            try go_simp
            refine hK.out _ _ (by first | exact hS | (refine ⟨?_, ?_⟩ <;> first | (simp [*]; done) | simp [*, World.cell?_alloc_some])) (fun hS => ?_)
            clear hK K
            refine takeH (i := 15) (v := ?_) rfl rfl (by kernel_rfl) (by kernel_rfl) (by kernel_rfl) (fun _ _ _ h => h) (Or.inl ⟨by kernel_rfl, ?_⟩) hS ?_
            rotate_left 1
            · (intro w' hS'; go_simp; try (with_reducible rfl))
            simp only [List.setIfInBounds_toArray, List.set_cons_succ, List.set_cons_zero]
            refine takeH (i := 16) (v := ?_) rfl rfl (by kernel_rfl) (by kernel_rfl) (by kernel_rfl) (fun _ _ _ h => h) (Or.inl ⟨by kernel_rfl, ?_⟩) hS ?_
            rotate_left 1
            · (intro w' hS'; go_simp; try (with_reducible rfl))
            simp only [List.setIfInBounds_toArray, List.set_cons_succ, List.set_cons_zero]
            refine wpAnyH_ready (rs := [17]) (by kernel_rfl) (by simp) ?_
            refine AllReadyH.cons rfl (fun K hK => ?_) ?_
            rotate_left 1
            · exact AllReadyH.nil
            go_simp
            refine hK.out _ _ (by first | exact hS | (refine ⟨?_, ?_⟩ <;> first | (simp [*]; done) | simp [*, World.cell?_alloc_some])) (fun hS => ?_)
            clear hK K
            refine wpAnyH_done (by kernel_rfl) ?_ _
            generalize (some ⟨ga, oa, none⟩ : Option Addr) = A0 at *
            go_wp2_with fail
            go_roundg A2.length
            case measure => exact hA2
            case rel =>
              have t5 := t4.putA m4 (fun g e => t4.ba g (by rw [← b4]; exact e))
              refine ⟨A2, I' ++ [x], _, _, Nat.le_refl _, t5.mono (fun b hb => since_one hb (by simp)), u4.setCell (p := ⟨k, 1, none⟩) (by rcases t4.mem with y | y; exact .inl y; exact .inr y.1) _, by rw [← hev]; exact HE.out, ?_⟩
              have := HL.out
              simp only [List.length_cons, List.length_append, List.length_nil] at this ⊢
              omega
          refine AllReadyH.cons rfl (fun K hK => ?_) ?_
          · skip
            go_simp
            refine hK.out _ _ (by first | exact hS | (refine ⟨?_, ?_⟩ <;> first | (simp [*]; done) | simp [*, World.cell?_alloc_some])) (fun hS => ?_)
            clear hK K
            refine wpAnyH_ready (rs := [6]) (by kernel_rfl) (by simp) ?_
            refine AllReadyH.cons rfl (fun K hK => ?_) ?_
            rotate_left 1
            · exact AllReadyH.nil
            first | (refine step_append_ints rfl (.tmp 22) (.tmp 26) rfl (.slice (some ⟨wq.heap.size, 0, none⟩) 0 0) [] (by simp [Act.eval]) m1 Ai I'.length ci I' (by simp [Act.eval]) rfl (hxq.ext e1.drew) (by simp; omega) ?_; intro v2 w2 p2 u2 b2; have E2 : Ext wq w2 := Upd.to_ext e1.drew u2 (by intro b hb; simp [blk] at hb; omega); have F2 : Fresh wq.heap.size v2 := Fresh.of b2 (by intro g hg; simp [blk] at hg; omega) e1.drew.size; have s3 := E2.cell c1; have z3 := E2.cell hcell; have l3 := E2.cell c2) | (refine step_append_ints rfl (.tmp 22) (.tmp 26) rfl (.slice (some ⟨wq.heap.size, 0, none⟩) 0 0) [] (by simp [Act.eval]) m12 Ai I'.length ci I' (by simp [Act.eval]) rfl (hxq.ext e12.drew) (by simp; omega) ?_; intro v2 w2 p2 u2 b2; have E2 : Ext wq w2 := Upd.to_ext e12.drew u2 (by intro b hb; simp [blk] at hb; omega); have F2 : Fresh wq.heap.size v2 := Fresh.of b2 (by intro g hg; simp [blk] at hg; omega) e12.drew.size; have s3 := E2.cell c1; have z3 := E2.cell hcell; have l3 := E2.cell c2; have Y2 : Cells w2 (some ⟨wq.heap.size + 1, 0, none⟩) [.int .i64 x] := y12.keep (by intro b o e; cases e; refine u2.block _ (by simp <;> omega) (by simp [blk]))) | (refine step_append_ints rfl (.tmp 22) (.tmp 26) rfl (.slice (some ⟨wq.heap.size + 1, 0, none⟩) 0 0) [] (by simp [Act.eval]) m21 Ai I'.length ci I' (by simp [Act.eval]) rfl (hxq.ext e21.drew) (by simp; omega) ?_; intro v2 w2 p2 u2 b2; have E2 : Ext wq w2 := Upd.to_ext e21.drew u2 (by intro b hb; simp [blk] at hb; omega); have F2 : Fresh wq.heap.size v2 := Fresh.of b2 (by intro g hg; simp [blk] at hg; omega) e21.drew.size; have s3 := E2.cell c1; have z3 := E2.cell hcell; have l3 := E2.cell c2; have Y2 : Cells w2 (some ⟨wq.heap.size, 0, none⟩) [.int .i64 x] := y21.keep (by intro b o e; cases e; refine u2.block _ (by simp <;> omega) (by simp [blk])))
            try go_simp
            refine hK.out _ _ (by first | exact hS | (refine ⟨?_, ?_⟩ <;> first | (simp [*]; done) | simp [*, World.cell?_alloc_some])) (fun hS => ?_)
            clear hK K
            refine wpAnyH_ready (rs := [14]) (by kernel_rfl) (by simp) ?_
            refine AllReadyH.cons rfl (fun K hK => ?_) ?_
            rotate_left 1
            · exact AllReadyH.nil
            first | (refine step_append_int rfl (.tmp 27) (.tmp 34) rfl v2 ([] ++ I') (by simp [Act.eval]) (p2.ext ((Ext.refl w2).alloc _)) (some ⟨w2.heap.size, 0, none⟩) 1 x (by simp [Act.eval]) (Cells.new1 w2 (.int .i64 x) 3) (by simp; omega) ?_; intro v3 w3 p3 u3 b3; have E3 : Ext wq w3 := Upd.to_ext (E2.alloc _) u3 (fun b hb => F2 b hb); have F3 : Fresh wq.heap.size v3 := Fresh.of b3 F2 ((E2.alloc _)).size; obtain ⟨B3, n3, d3, rfl⟩ := p3.slice; obtain ⟨q0, q1, q2, qf⟩ := (htq.ext E3).cells; have z4 := E3.cell hcell; obtain ⟨t4, u4⟩ := ref_fin htq huq E3 p3 F3; obtain ⟨_, k1, _, _⟩ := t4.cells; have k2 := (World.cell?_setCell_far w3 ⟨k, 2, none⟩ ⟨ga, oa, none⟩ (.slice B3 n3 d3) (fun e => hgk e.symm)).trans z4; obtain ⟨A1, r1, r2, m4, b4⟩ := tail_ints (some ⟨ga, oa, none⟩) a ca (x :: A2) _ HA.out.symm ha1 t4.act) | (refine step_append_int rfl (.tmp 27) (.tmp 34) rfl v2 ([] ++ I') (by simp [Act.eval]) p2 (some ⟨wq.heap.size + 1, 0, none⟩) 1 x (by simp [Act.eval]) Y2 (by simp; omega) ?_; intro v3 w3 p3 u3 b3; have E3 : Ext wq w3 := Upd.to_ext E2 u3 (fun b hb => F2 b hb); have F3 : Fresh wq.heap.size v3 := Fresh.of b3 F2 (E2).size; obtain ⟨B3, n3, d3, rfl⟩ := p3.slice; obtain ⟨q0, q1, q2, qf⟩ := (htq.ext E3).cells; have z4 := E3.cell hcell; obtain ⟨t4, u4⟩ := ref_fin htq huq E3 p3 F3; obtain ⟨_, k1, _, _⟩ := t4.cells; have k2 := (World.cell?_setCell_far w3 ⟨k, 2, none⟩ ⟨ga, oa, none⟩ (.slice B3 n3 d3) (fun e => hgk e.symm)).trans z4; obtain ⟨A1, r1, r2, m4, b4⟩ := tail_ints (some ⟨ga, oa, none⟩) a ca (x :: A2) _ HA.out.symm ha1 t4.act) | (refine step_append_int rfl (.tmp 27) (.tmp 34) rfl v2 ([] ++ I') (by simp [Act.eval]) p2 (some ⟨wq.heap.size, 0, none⟩) 1 x (by simp [Act.eval]) Y2 (by simp; omega) ?_; intro v3 w3 p3 u3 b3; have E3 : Ext wq w3 := Upd.to_ext E2 u3 (fun b hb => F2 b hb); have F3 : Fresh wq.heap.size v3 := Fresh.of b3 F2 (E2).size; obtain ⟨B3, n3, d3, rfl⟩ := p3.slice; obtain ⟨q0, q1, q2, qf⟩ := (htq.ext E3).cells; have z4 := E3.cell hcell; obtain ⟨t4, u4⟩ := ref_fin htq huq E3 p3 F3; obtain ⟨_, k1, _, _⟩ := t4.cells; have k2 := (World.cell?_setCell_far w3 ⟨k, 2, none⟩ ⟨ga, oa, none⟩ (.slice B3 n3 d3) (fun e => hgk e.symm)).trans z4; obtain ⟨A1, r1, r2, m4, b4⟩ := tail_ints (some ⟨ga, oa, none⟩) a ca (x :: A2) _ HA.out.symm ha1 t4.act)
            try go_simp
            refine hK.out _ _ (by first | exact hS | (refine ⟨?_, ?_⟩ <;> first | (simp [*]; done) | simp [*, World.cell?_alloc_some])) (fun hS => ?_)
            clear hK K
            refine takeH (i := 15) (v := ?_) rfl rfl (by kernel_rfl) (by kernel_rfl) (by kernel_rfl) (fun _ _ _ h => h) (Or.inl ⟨by kernel_rfl, ?_⟩) hS ?_
            rotate_left 1
            · (intro w' hS'; go_simp; try (with_reducible rfl))
            simp only [List.setIfInBounds_toArray, List.set_cons_succ, List.set_cons_zero]
            refine takeH (i := 16) (v := ?_) rfl rfl (by kernel_rfl) (by kernel_rfl) (by kernel_rfl) (fun _ _ _ h => h) (Or.inl ⟨by kernel_rfl, ?_⟩) hS ?_
            rotate_left 1
            · (intro w' hS'; go_simp; try (with_reducible rfl))
            simp only [List.setIfInBounds_toArray, List.set_cons_succ, List.set_cons_zero]
            refine wpAnyH_ready (rs := [17]) (by kernel_rfl) (by simp) ?_
            refine AllReadyH.cons rfl (fun K hK => ?_) ?_
            rotate_left 1
            · exact AllReadyH.nil
            go_simp
            refine hK.out _ _ (by first | exact hS | (refine ⟨?_, ?_⟩ <;> first | (simp [*]; done) | simp [*, World.cell?_alloc_some])) (fun hS => ?_)
            clear hK K
            refine wpAnyH_done (by kernel_rfl) ?_ _
            generalize (some ⟨ga, oa, none⟩ : Option Addr) = A0 at *
            go_wp2_with fail
            go_roundg A2.length
            case measure => exact hA2
            case rel =>
              have t5 := t4.putA m4 (fun g e => t4.ba g (by rw [← b4]; exact e))
              refine ⟨A2, I' ++ [x], _, _, Nat.le_refl _, t5.mono (fun b hb => since_one hb (by simp)), u4.setCell (p := ⟨k, 1, none⟩) (by rcases t4.mem with y | y; exact .inl y; exact .inr y.1) _, by rw [← hev]; exact HE.out, ?_⟩
              have := HL.out
              simp only [List.length_cons, List.length_append, List.length_nil] at this ⊢
              omega
          exact AllReadyH.nil
        refine AllReadyH.cons rfl (fun K hK => ?_) ?_
        · skip
          go_simp
          refine hK.out _ _ (by first | exact hS | (refine ⟨?_, ?_⟩ <;> first | (simp [*]; done) | simp [*, World.cell?_alloc_some])) (fun hS => ?_)
          clear hK K
          refine wpAnyH_ready (rs := [5]) (by kernel_rfl) (by simp) ?_
          refine AllReadyH.cons rfl (fun K hK => ?_) ?_
          rotate_left 1
          · exact AllReadyH.nil
          go_simp
          refine hK.out _ _ (by first | exact hS | (refine ⟨?_, ?_⟩ <;> first | (simp [*]; done) | simp [*, World.cell?_alloc_some])) (fun hS => ?_)
          clear hK K
          refine wpAnyH_ready (rs := [6]) (by kernel_rfl) (by simp) ?_
          refine AllReadyH.cons rfl (fun K hK => ?_) ?_
          rotate_left 1
          · exact AllReadyH.nil
          first | (refine step_append_ints rfl (.tmp 22) (.tmp 26) rfl (.slice (some ⟨wq.heap.size, 0, none⟩) 0 0) [] (by simp [Act.eval]) m1 Ai I'.length ci I' (by simp [Act.eval]) rfl (hxq.ext e1.drew) (by simp; omega) ?_; intro v2 w2 p2 u2 b2; have E2 : Ext wq w2 := Upd.to_ext e1.drew u2 (by intro b hb; simp [blk] at hb; omega); have F2 : Fresh wq.heap.size v2 := Fresh.of b2 (by intro g hg; simp [blk] at hg; omega) e1.drew.size; have s3 := E2.cell c1; have z3 := E2.cell hcell; have l3 := E2.cell c2) | (refine step_append_ints rfl (.tmp 22) (.tmp 26) rfl (.slice (some ⟨wq.heap.size, 0, none⟩) 0 0) [] (by simp [Act.eval]) m12 Ai I'.length ci I' (by simp [Act.eval]) rfl (hxq.ext e12.drew) (by simp; omega) ?_; intro v2 w2 p2 u2 b2; have E2 : Ext wq w2 := Upd.to_ext e12.drew u2 (by intro b hb; simp [blk] at hb; omega); have F2 : Fresh wq.heap.size v2 := Fresh.of b2 (by intro g hg; simp [blk] at hg; omega) e12.drew.size; have s3 := E2.cell c1; have z3 := E2.cell hcell; have l3 := E2.cell c2; have Y2 : Cells w2 (some ⟨wq.heap.size + 1, 0, none⟩) [.int .i64 x] := y12.keep (by intro b o e; cases e; refine u2.block _ (by simp <;> omega) (by simp [blk]))) | (refine step_append_ints rfl (.tmp 22) (.tmp 26) rfl (.slice (some ⟨wq.heap.size + 1, 0, none⟩) 0 0) [] (by simp [Act.eval]) m21 Ai I'.length ci I' (by simp [Act.eval]) rfl (hxq.ext e21.drew) (by simp; omega) ?_; intro v2 w2 p2 u2 b2; have E2 : Ext wq w2 := Upd.to_ext e21.drew u2 (by intro b hb; simp [blk] at hb; omega); have F2 : Fresh wq.heap.size v2 := Fresh.of b2 (by intro g hg; simp [blk] at hg; omega) e21.drew.size; have s3 := E2.cell c1; have z3 := E2.cell hcell; have l3 := E2.cell c2; have Y2 : Cells w2 (some ⟨wq.heap.size, 0, none⟩) [.int .i64 x] := y21.keep (by intro b o e; cases e; refine u2.block _ (by simp <;> omega) (by simp [blk])))
          try go_simp
          refine hK.out _ _ (by first | exact hS | (refine ⟨?_, ?_⟩ <;> first | (simp [*]; done) | simp [*, World.cell?_alloc_some])) (fun hS => ?_)
          clear hK K
          refine wpAnyH_ready (rs := [14]) (by kernel_rfl) (by simp) ?_
          refine AllReadyH.cons rfl (fun K hK => ?_) ?_
          rotate_left 1
          · exact AllReadyH.nil
          first | (refine step_append_int rfl (.tmp 27) (.tmp 34) rfl v2 ([] ++ I') (by simp [Act.eval]) (p2.ext ((Ext.refl w2).alloc _)) (some ⟨w2.heap.size, 0, none⟩) 1 x (by simp [Act.eval]) (Cells.new1 w2 (.int .i64 x) 3) (by simp; omega) ?_; intro v3 w3 p3 u3 b3; have E3 : Ext wq w3 := Upd.to_ext (E2.alloc _) u3 (fun b hb => F2 b hb); have F3 : Fresh wq.heap.size v3 := Fresh.of b3 F2 ((E2.alloc _)).size; obtain ⟨B3, n3, d3, rfl⟩ := p3.slice; obtain ⟨q0, q1, q2, qf⟩ := (htq.ext E3).cells; have z4 := E3.cell hcell; obtain ⟨t4, u4⟩ := ref_fin htq huq E3 p3 F3; obtain ⟨_, k1, _, _⟩ := t4.cells; have k2 := (World.cell?_setCell_far w3 ⟨k, 2, none⟩ ⟨ga, oa, none⟩ (.slice B3 n3 d3) (fun e => hgk e.symm)).trans z4; obtain ⟨A1, r1, r2, m4, b4⟩ := tail_ints (some ⟨ga, oa, none⟩) a ca (x :: A2) _ HA.out.symm ha1 t4.act) | (refine step_append_int rfl (.tmp 27) (.tmp 34) rfl v2 ([] ++ I') (by simp [Act.eval]) p2 (some ⟨wq.heap.size + 1, 0, none⟩) 1 x (by simp [Act.eval]) Y2 (by simp; omega) ?_; intro v3 w3 p3 u3 b3; have E3 : Ext wq w3 := Upd.to_ext E2 u3 (fun b hb => F2 b hb); have F3 : Fresh wq.heap.size v3 := Fresh.of b3 F2 (E2).size; obtain ⟨B3, n3, d3, rfl⟩ := p3.slice; obtain ⟨q0, q1, q2, qf⟩ := (htq.ext E3).cells; have z4 := E3.cell hcell; obtain ⟨t4, u4⟩ := ref_fin htq huq E3 p3 F3; obtain ⟨_, k1, _, _⟩ := t4.cells; have k2 := (World.cell?_setCell_far w3 ⟨k, 2, none⟩ ⟨ga, oa, none⟩ (.slice B3 n3 d3) (fun e => hgk e.symm)).trans z4; obtain ⟨A1, r1, r2, m4, b4⟩ := tail_ints (some ⟨ga, oa, none⟩) a ca (x :: A2) _ HA.out.symm ha1 t4.act) | (refine step_append_int rfl (.tmp 27) (.tmp 34) rfl v2 ([] ++ I') (by simp [Act.eval]) p2 (some ⟨wq.heap.size, 0, none⟩) 1 x (by simp [Act.eval]) Y2 (by simp; omega) ?_; intro v3 w3 p3 u3 b3; have E3 : Ext wq w3 := Upd.to_ext E2 u3 (fun b hb => F2 b hb); have F3 : Fresh wq.heap.size v3 := Fresh.of b3 F2 (E2).size; obtain ⟨B3, n3, d3, rfl⟩ := p3.slice; obtain ⟨q0, q1, q2, qf⟩ := (htq.ext E3).cells; have z4 := E3.cell hcell; obtain ⟨t4, u4⟩ := ref_fin htq huq E3 p3 F3; obtain ⟨_, k1, _, _⟩ := t4.cells; have k2 := (World.cell?_setCell_far w3 ⟨k, 2, none⟩ ⟨ga, oa, none⟩ (.slice B3 n3 d3) (fun e => hgk e.symm)).trans z4; obtain ⟨A1, r1, r2, m4, b4⟩ := tail_ints (some ⟨ga, oa, none⟩) a ca (x :: A2) _ HA.out.symm ha1 t4.act)
          try go_simp
          refine hK.out _ _ (by first | exact hS | (refine ⟨?_, ?_⟩ <;> first | (simp [*]; done) | simp [*, World.cell?_alloc_some])) (fun hS => ?_)
          clear hK K
          refine takeH (i := 15) (v := ?_) rfl rfl (by kernel_rfl) (by kernel_rfl) (by kernel_rfl) (fun _ _ _ h => h) (Or.inl ⟨by kernel_rfl, ?_⟩) hS ?_
          rotate_left 1
          · (intro w' hS'; go_simp; try (with_reducible rfl))
          simp only [List.setIfInBounds_toArray, List.set_cons_succ, List.set_cons_zero]
          refine takeH (i := 16) (v := ?_) rfl rfl (by kernel_rfl) (by kernel_rfl) (by kernel_rfl) (fun _ _ _ h => h) (Or.inl ⟨by kernel_rfl, ?_⟩) hS ?_
          rotate_left 1
          · (intro w' hS'; go_simp; try (with_reducible rfl))
          simp only [List.setIfInBounds_toArray, List.set_cons_succ, List.set_cons_zero]
          refine wpAnyH_ready (rs := [17]) (by kernel_rfl) (by simp) ?_
          refine AllReadyH.cons rfl (fun K hK => ?_) ?_
          rotate_left 1
          · exact AllReadyH.nil
          go_simp
          refine hK.out _ _ (by first | exact hS | (refine ⟨?_, ?_⟩ <;> first | (simp [*]; done) | simp [*, World.cell?_alloc_some])) (fun hS => ?_)
          clear hK K
          refine wpAnyH_done (by kernel_rfl) ?_ _
          generalize (some ⟨ga, oa, none⟩ : Option Addr) = A0 at *
          go_wp2_with fail
          go_roundg A2.length
          case measure => exact hA2
          case rel =>
            have t5 := t4.putA m4 (fun g e => t4.ba g (by rw [← b4]; exact e))
            refine ⟨A2, I' ++ [x], _, _, Nat.le_refl _, t5.mono (fun b hb => since_one hb (by simp)), u4.setCell (p := ⟨k, 1, none⟩) (by rcases t4.mem with y | y; exact .inl y; exact .inr y.1) _, by rw [← hev]; exact HE.out, ?_⟩
            have := HL.out
            simp only [List.length_cons, List.length_append, List.length_nil] at this ⊢
            omega
        exact AllReadyH.nil
      refine AllReadyH.cons rfl (fun K hK => ?_) ?_
      · skip
        go_simp
        refine hK.out _ _ (by first | exact hS | (refine ⟨?_, ?_⟩ <;> first | (simp [*]; done) | simp [*, World.cell?_alloc_some])) (fun hS => ?_)
        clear hK K
        refine wpAnyH_ready (rs := [1, 13]) (by kernel_rfl) (by simp) ?_
        refine AllReadyH.cons rfl (fun K hK => ?_) ?_
        · skip
          go_simp
          refine hK.out _ _ (by first | exact hS | (refine ⟨?_, ?_⟩ <;> first | (simp [*]; done) | simp [*, World.cell?_alloc_some])) (fun hS => ?_)
          clear hK K
          refine wpAnyH_ready (rs := [6, 13]) (by kernel_rfl) (by simp) ?_
          refine AllReadyH.cons rfl (fun K hK => ?_) ?_
          · skip
            first | (refine step_append_ints rfl (.tmp 22) (.tmp 26) rfl (.slice (some ⟨wq.heap.size, 0, none⟩) 0 0) [] (by simp [Act.eval]) m1 Ai I'.length ci I' (by simp [Act.eval]) rfl (hxq.ext e1.drew) (by simp; omega) ?_; intro v2 w2 p2 u2 b2; have E2 : Ext wq w2 := Upd.to_ext e1.drew u2 (by intro b hb; simp [blk] at hb; omega); have F2 : Fresh wq.heap.size v2 := Fresh.of b2 (by intro g hg; simp [blk] at hg; omega) e1.drew.size; have s3 := E2.cell c1; have z3 := E2.cell hcell; have l3 := E2.cell c2) | (refine step_append_ints rfl (.tmp 22) (.tmp 26) rfl (.slice (some ⟨wq.heap.size, 0, none⟩) 0 0) [] (by simp [Act.eval]) m12 Ai I'.length ci I' (by simp [Act.eval]) rfl (hxq.ext e12.drew) (by simp; omega) ?_; intro v2 w2 p2 u2 b2; have E2 : Ext wq w2 := Upd.to_ext e12.drew u2 (by intro b hb; simp [blk] at hb; omega); have F2 : Fresh wq.heap.size v2 := Fresh.of b2 (by intro g hg; simp [blk] at hg; omega) e12.drew.size; have s3 := E2.cell c1; have z3 := E2.cell hcell; have l3 := E2.cell c2; have Y2 : Cells w2 (some ⟨wq.heap.size + 1, 0, none⟩) [.int .i64 x] := y12.keep (by intro b o e; cases e; refine u2.block _ (by simp <;> omega) (by simp [blk]))) | (refine step_append_ints rfl (.tmp 22) (.tmp 26) rfl (.slice (some ⟨wq.heap.size + 1, 0, none⟩) 0 0) [] (by simp [Act.eval]) m21 Ai I'.length ci I' (by simp [Act.eval]) rfl (hxq.ext e21.drew) (by simp; omega) ?_; intro v2 w2 p2 u2 b2; have E2 : Ext wq w2 := Upd.to_ext e21.drew u2 (by intro b hb; simp [blk] at hb; omega); have F2 : Fresh wq.heap.size v2 := Fresh.of b2 (by intro g hg; simp [blk] at hg; omega) e21.drew.size; have s3 := E2.cell c1; have z3 := E2.cell hcell; have l3 := E2.cell c2; have Y2 : Cells w2 (some ⟨wq.heap.size, 0, none⟩) [.int .i64 x] := y21.keep (by intro b o e; cases e; refine u2.block _ (by simp <;> omega) (by simp [blk])))
            try go_simp
            refine hK.out _ _ (by first | exact hS | (refine ⟨?_, ?_⟩ <;> first | (simp [*]; done) | simp [*, World.cell?_alloc_some])) (fun hS => ?_)
            clear hK K
            refine wpAnyH_ready (rs := [13]) (by kernel_rfl) (by simp) ?_
            refine AllReadyH.cons rfl (fun K hK => ?_) ?_
            rotate_left 1
            · exact AllReadyH.nil
            go_simp
            refine hK.out _ _ (by first | exact hS | (refine ⟨?_, ?_⟩ <;> first | (simp [*]; done) | simp [*, World.cell?_alloc_some])) (fun hS => ?_)
            clear hK K
            refine wpAnyH_ready (rs := [14]) (by kernel_rfl) (by simp) ?_
            refine AllReadyH.cons rfl (fun K hK => ?_) ?_
            rotate_left 1
            · exact AllReadyH.nil
            first | (refine step_append_int rfl (.tmp 27) (.tmp 34) rfl v2 ([] ++ I') (by simp [Act.eval]) (p2.ext ((Ext.refl w2).alloc _)) (some ⟨w2.heap.size, 0, none⟩) 1 x (by simp [Act.eval]) (Cells.new1 w2 (.int .i64 x) 3) (by simp; omega) ?_; intro v3 w3 p3 u3 b3; have E3 : Ext wq w3 := Upd.to_ext (E2.alloc _) u3 (fun b hb => F2 b hb); have F3 : Fresh wq.heap.size v3 := Fresh.of b3 F2 ((E2.alloc _)).size; obtain ⟨B3, n3, d3, rfl⟩ := p3.slice; obtain ⟨q0, q1, q2, qf⟩ := (htq.ext E3).cells; have z4 := E3.cell hcell; obtain ⟨t4, u4⟩ := ref_fin htq huq E3 p3 F3; obtain ⟨_, k1, _, _⟩ := t4.cells; have k2 := (World.cell?_setCell_far w3 ⟨k, 2, none⟩ ⟨ga, oa, none⟩ (.slice B3 n3 d3) (fun e => hgk e.symm)).trans z4; obtain ⟨A1, r1, r2, m4, b4⟩ := tail_ints (some ⟨ga, oa, none⟩) a ca (x :: A2) _ HA.out.symm ha1 t4.act) | (refine step_append_int rfl (.tmp 27) (.tmp 34) rfl v2 ([] ++ I') (by simp [Act.eval]) p2 (some ⟨wq.heap.size + 1, 0, none⟩) 1 x (by simp [Act.eval]) Y2 (by simp; omega) ?_; intro v3 w3 p3 u3 b3; have E3 : Ext wq w3 := Upd.to_ext E2 u3 (fun b hb => F2 b hb); have F3 : Fresh wq.heap.size v3 := Fresh.of b3 F2 (E2).size; obtain ⟨B3, n3, d3, rfl⟩ := p3.slice; obtain ⟨q0, q1, q2, qf⟩ := (htq.ext E3).cells; have z4 := E3.cell hcell; obtain ⟨t4, u4⟩ := ref_fin htq huq E3 p3 F3; obtain ⟨_, k1, _, _⟩ := t4.cells; have k2 := (World.cell?_setCell_far w3 ⟨k, 2, none⟩ ⟨ga, oa, none⟩ (.slice B3 n3 d3) (fun e => hgk e.symm)).trans z4; obtain ⟨A1, r1, r2, m4, b4⟩ := tail_ints (some ⟨ga, oa, none⟩) a ca (x :: A2) _ HA.out.symm ha1 t4.act) | (refine step_append_int rfl (.tmp 27) (.tmp 34) rfl v2 ([] ++ I') (by simp [Act.eval]) p2 (some ⟨wq.heap.size, 0, none⟩) 1 x (by simp [Act.eval]) Y2 (by simp; omega) ?_; intro v3 w3 p3 u3 b3; have E3 : Ext wq w3 := Upd.to_ext E2 u3 (fun b hb => F2 b hb); have F3 : Fresh wq.heap.size v3 := Fresh.of b3 F2 (E2).size; obtain ⟨B3, n3, d3, rfl⟩ := p3.slice; obtain ⟨q0, q1, q2, qf⟩ := (htq.ext E3).cells; have z4 := E3.cell hcell; obtain ⟨t4, u4⟩ := ref_fin htq huq E3 p3 F3; obtain ⟨_, k1, _, _⟩ := t4.cells; have k2 := (World.cell?_setCell_far w3 ⟨k, 2, none⟩ ⟨ga, oa, none⟩ (.slice B3 n3 d3) (fun e => hgk e.symm)).trans z4; obtain ⟨A1, r1, r2, m4, b4⟩ := tail_ints (some ⟨ga, oa, none⟩) a ca (x :: A2) _ HA.out.symm ha1 t4.act)
            try go_simp
            refine hK.out _ _ (by first | exact hS | (refine ⟨?_, ?_⟩ <;> first | (simp [*]; done) | simp [*, World.cell?_alloc_some])) (fun hS => ?_)
            clear hK K
            refine takeH (i := 15) (v := ?_) rfl rfl (by kernel_rfl) (by kernel_rfl) (by kernel_rfl) (fun _ _ _ h => h) (Or.inl ⟨by kernel_rfl, ?_⟩) hS ?_
            rotate_left 1
            · (intro w' hS'; go_simp; try (with_reducible rfl))
            simp only [List.setIfInBounds_toArray, List.set_cons_succ, List.set_cons_zero]
            refine takeH (i := 16) (v := ?_) rfl rfl (by kernel_rfl) (by kernel_rfl) (by kernel_rfl) (fun _ _ _ h => h) (Or.inl ⟨by kernel_rfl, ?_⟩) hS ?_
            rotate_left 1
            · (intro w' hS'; go_simp; try (with_reducible rfl))
            simp only [List.setIfInBounds_toArray, List.set_cons_succ, List.set_cons_zero]
            refine wpAnyH_ready (rs := [17]) (by kernel_rfl) (by simp) ?_
            refine AllReadyH.cons rfl (fun K hK => ?_) ?_
            rotate_left 1
            · exact AllReadyH.nil
            go_simp
            refine hK.out _ _ (by first | exact hS | (refine ⟨?_, ?_⟩ <;> first | (simp [*]; done) | simp [*, World.cell?_alloc_some])) (fun hS => ?_)
            clear hK K
            refine wpAnyH_done (by kernel_rfl) ?_ _
            generalize (some ⟨ga, oa, none⟩ : Option Addr) = A0 at *
            go_wp2_with fail
            go_roundg A2.length
            case measure => exact hA2
            case rel =>
              have t5 := t4.putA m4 (fun g e => t4.ba g (by rw [← b4]; exact e))
              refine ⟨A2, I' ++ [x], _, _, Nat.le_refl _, t5.mono (fun b hb => since_one hb (by simp)), u4.setCell (p := ⟨k, 1, none⟩) (by rcases t4.mem with y | y; exact .inl y; exact .inr y.1) _, by rw [← hev]; exact HE.out, ?_⟩
              have := HL.out
              simp only [List.length_cons, List.length_append, List.length_nil] at this ⊢
              omega
          refine AllReadyH.cons rfl (fun K hK => ?_) ?_
          · skip
            go_simp
            refine hK.out _ _ (by first | exact hS | (refine ⟨?_, ?_⟩ <;> first | (simp [*]; done) | simp [*, World.cell?_alloc_some])) (fun hS => ?_)
            clear hK K
            refine wpAnyH_ready (rs := [6]) (by kernel_rfl) (by simp) ?_
            refine AllReadyH.cons rfl (fun K hK => ?_) ?_
            rotate_left 1
            · exact AllReadyH.nil
            first | (refine step_append_ints rfl (.tmp 22) (.tmp 26) rfl (.slice (some ⟨wq.heap.size, 0, none⟩) 0 0) [] (by simp [Act.eval]) m1 Ai I'.length ci I' (by simp [Act.eval]) rfl (hxq.ext e1.drew) (by simp; omega) ?_; intro v2 w2 p2 u2 b2; have E2 : Ext wq w2 := Upd.to_ext e1.drew u2 (by intro b hb; simp [blk] at hb; omega); have F2 : Fresh wq.heap.size v2 := Fresh.of b2 (by intro g hg; simp [blk] at hg; omega) e1.drew.size; have s3 := E2.cell c1; have z3 := E2.cell hcell; have l3 := E2.cell c2) | (refine step_append_ints rfl (.tmp 22) (.tmp 26) rfl (.slice (some ⟨wq.heap.size, 0, none⟩) 0 0) [] (by simp [Act.eval]) m12 Ai I'.length ci I' (by simp [Act.eval]) rfl (hxq.ext e12.drew) (by simp; omega) ?_; intro v2 w2 p2 u2 b2; have E2 : Ext wq w2 := Upd.to_ext e12.drew u2 (by intro b hb; simp [blk] at hb; omega); have F2 : Fresh wq.heap.size v2 := Fresh.of b2 (by intro g hg; simp [blk] at hg; omega) e12.drew.size; have s3 := E2.cell c1; have z3 := E2.cell hcell; have l3 := E2.cell c2; have Y2 : Cells w2 (some ⟨wq.heap.size + 1, 0, none⟩) [.int .i64 x] := y12.keep (by intro b o e; cases e; refine u2.block _ (by simp <;> omega) (by simp [blk]))) | (refine step_append_ints rfl (.tmp 22) (.tmp 26) rfl (.slice (some ⟨wq.heap.size + 1, 0, none⟩) 0 0) [] (by simp [Act.eval]) m21 Ai I'.length ci I' (by simp [Act.eval]) rfl (hxq.ext e21.drew) (by simp; omega) ?_; intro v2 w2 p2 u2 b2; have E2 : Ext wq w2 := Upd.to_ext e21.drew u2 (by intro b hb; simp [blk] at hb; omega); have F2 : Fresh wq.heap.size v2 := Fresh.of b2 (by intro g hg; simp [blk] at hg; omega) e21.drew.size; have s3 := E2.cell c1; have z3 := E2.cell hcell; have l3 := E2.cell c2; have Y2 : Cells w2 (some ⟨wq.heap.size, 0, none⟩) [.int .i64 x] := y21.keep (by intro b o e; cases e; refine u2.block _ (by simp <;> omega) (by simp [blk])))
            try go_simp
            refine hK.out _ _ (by first | exact hS | (refine ⟨?_, ?_⟩ <;> first | (simp [*]; done) | simp [*, World.cell?_alloc_some])) (fun hS => ?_)
            clear hK K
            refine wpAnyH_ready (rs := [14]) (by kernel_rfl) (by simp) ?_
            refine AllReadyH.cons rfl (fun K hK => ?_) ?_
            rotate_left 1
            · exact AllReadyH.nil
            first | (refine step_append_int rfl (.tmp 27) (.tmp 34) rfl v2 ([] ++ I') (by simp [Act.eval]) (p2.ext ((Ext.refl w2).alloc _)) (some ⟨w2.heap.size, 0, none⟩) 1 x (by simp [Act.eval]) (Cells.new1 w2 (.int .i64 x) 3) (by simp; omega) ?_; intro v3 w3 p3 u3 b3; have E3 : Ext wq w3 := Upd.to_ext (E2.alloc _) u3 (fun b hb => F2 b hb); have F3 : Fresh wq.heap.size v3 := Fresh.of b3 F2 ((E2.alloc _)).size; obtain ⟨B3, n3, d3, rfl⟩ := p3.slice; obtain ⟨q0, q1, q2, qf⟩ := (htq.ext E3).cells; have z4 := E3.cell hcell; obtain ⟨t4, u4⟩ := ref_fin htq huq E3 p3 F3; obtain ⟨_, k1, _, _⟩ := t4.cells; have k2 := (World.cell?_setCell_far w3 ⟨k, 2, none⟩ ⟨ga, oa, none⟩ (.slice B3 n3 d3) (fun e => hgk e.symm)).trans z4; obtain ⟨A1, r1, r2, m4, b4⟩ := tail_ints (some ⟨ga, oa, none⟩) a ca (x :: A2) _ HA.out.symm ha1 t4.act) | (refine step_append_int rfl (.tmp 27) (.tmp 34) rfl v2 ([] ++ I') (by simp [Act.eval]) p2 (some ⟨wq.heap.size + 1, 0, none⟩) 1 x (by simp [Act.eval]) Y2 (by simp; omega) ?_; intro v3 w3 p3 u3 b3; have E3 : Ext wq w3 := Upd.to_ext E2 u3 (fun b hb => F2 b hb); have F3 : Fresh wq.heap.size v3 := Fresh.of b3 F2 (E2).size; obtain ⟨B3, n3, d3, rfl⟩ := p3.slice; obtain ⟨q0, q1, q2, qf⟩ := (htq.ext E3).cells; have z4 := E3.cell hcell; obtain ⟨t4, u4⟩ := ref_fin htq huq E3 p3 F3; obtain ⟨_, k1, _, _⟩ := t4.cells; have k2 := (World.cell?_setCell_far w3 ⟨k, 2, none⟩ ⟨ga, oa, none⟩ (.slice B3 n3 d3) (fun e => hgk e.symm)).trans z4; obtain ⟨A1, r1, r2, m4, b4⟩ := tail_ints (some ⟨ga, oa, none⟩) a ca (x :: A2) _ HA.out.symm ha1 t4.act) | (refine step_append_int rfl (.tmp 27) (.tmp 34) rfl v2 ([] ++ I') (by simp [Act.eval]) p2 (some ⟨wq.heap.size, 0, none⟩) 1 x (by simp [Act.eval]) Y2 (by simp; omega) ?_; intro v3 w3 p3 u3 b3; have E3 : Ext wq w3 := Upd.to_ext E2 u3 (fun b hb => F2 b hb); have F3 : Fresh wq.heap.size v3 := Fresh.of b3 F2 (E2).size; obtain ⟨B3, n3, d3, rfl⟩ := p3.slice; obtain ⟨q0, q1, q2, qf⟩ := (htq.ext E3).cells; have z4 := E3.cell hcell; obtain ⟨t4, u4⟩ := ref_fin htq huq E3 p3 F3; obtain ⟨_, k1, _, _⟩ := t4.cells; have k2 := (World.cell?_setCell_far w3 ⟨k, 2, none⟩ ⟨ga, oa, none⟩ (.slice B3 n3 d3) (fun e => hgk e.symm)).trans z4; obtain ⟨A1, r1, r2, m4, b4⟩ := tail_ints (some ⟨ga, oa, none⟩) a ca (x :: A2) _ HA.out.symm ha1 t4.act)
            try go_simp
            refine hK.out _ _ (by first | exact hS | (refine ⟨?_, ?_⟩ <;> first | (simp [*]; done) | simp [*, World.cell?_alloc_some])) (fun hS => ?_)
            clear hK K
            refine takeH (i := 15) (v := ?_) rfl rfl (by kernel_rfl) (by kernel_rfl) (by kernel_rfl) (fun _ _ _ h => h) (Or.inl ⟨by kernel_rfl, ?_⟩) hS ?_
            rotate_left 1
            · (intro w' hS'; go_simp; try (with_reducible rfl))
            simp only [List.setIfInBounds_toArray, List.set_cons_succ, List.set_cons_zero]
            refine takeH (i := 16) (v := ?_) rfl rfl (by kernel_rfl) (by kernel_rfl) (by kernel_rfl) (fun _ _ _ h => h) (Or.inl ⟨by kernel_rfl, ?_⟩) hS ?_
            rotate_left 1
            · (intro w' hS'; go_simp; try (with_reducible rfl))
            simp only [List.setIfInBounds_toArray, List.set_cons_succ, List.set_cons_zero]
            refine wpAnyH_ready (rs := [17]) (by kernel_rfl) (by simp) ?_
            refine AllReadyH.cons rfl (fun K hK => ?_) ?_
            rotate_left 1
            · exact AllReadyH.nil
            go_simp
            refine hK.out _ _ (by first | exact hS | (refine ⟨?_, ?_⟩ <;> first | (simp [*]; done) | simp [*, World.cell?_alloc_some])) (fun hS => ?_)
            clear hK K
            refine wpAnyH_done (by kernel_rfl) ?_ _
            generalize (some ⟨ga, oa, none⟩ : Option Addr) = A0 at *
            go_wp2_with fail
            go_roundg A2.length
            case measure => exact hA2
            case rel =>
              have t5 := t4.putA m4 (fun g e => t4.ba g (by rw [← b4]; exact e))
              refine ⟨A2, I' ++ [x], _, _, Nat.le_refl _, t5.mono (fun b hb => since_one hb (by simp)), u4.setCell (p := ⟨k, 1, none⟩) (by rcases t4.mem with y | y; exact .inl y; exact .inr y.1) _, by rw [← hev]; exact HE.out, ?_⟩
              have := HL.out
              simp only [List.length_cons, List.length_append, List.length_nil] at this ⊢
              omega
          exact AllReadyH.nil
        refine AllReadyH.cons rfl (fun K hK => ?_) ?_
        · skip
          go_simp
          refine hK.out _ _ (by first | exact hS | (refine ⟨?_, ?_⟩ <;> first | (simp [*]; done) | simp [*, World.cell?_alloc_some])) (fun hS => ?_)
          clear hK K
          refine wpAnyH_ready (rs := [1]) (by kernel_rfl) (by simp) ?_
          refine AllReadyH.cons rfl (fun K hK => ?_) ?_
          rotate_left 1
          · exact AllReadyH.nil
          go_simp
          refine hK.out _ _ (by first | exact hS | (refine ⟨?_, ?_⟩ <;> first | (simp [*]; done) | simp [*, World.cell?_alloc_some])) (fun hS => ?_)
          clear hK K
          refine wpAnyH_ready (rs := [6]) (by kernel_rfl) (by simp) ?_
          refine AllReadyH.cons rfl (fun K hK => ?_) ?_
          rotate_left 1
          · exact AllReadyH.nil
          first | (refine step_append_ints rfl (.tmp 22) (.tmp 26) rfl (.slice (some ⟨wq.heap.size, 0, none⟩) 0 0) [] (by simp [Act.eval]) m1 Ai I'.length ci I' (by simp [Act.eval]) rfl (hxq.ext e1.drew) (by simp; omega) ?_; intro v2 w2 p2 u2 b2; have E2 : Ext wq w2 := Upd.to_ext e1.drew u2 (by intro b hb; simp [blk] at hb; omega); have F2 : Fresh wq.heap.size v2 := Fresh.of b2 (by intro g hg; simp [blk] at hg; omega) e1.drew.size; have s3 := E2.cell c1; have z3 := E2.cell hcell; have l3 := E2.cell c2) | (refine step_append_ints rfl (.tmp 22) (.tmp 26) rfl (.slice (some ⟨wq.heap.size, 0, none⟩) 0 0) [] (by simp [Act.eval]) m12 Ai I'.length ci I' (by simp [Act.eval]) rfl (hxq.ext e12.drew) (by simp; omega) ?_; intro v2 w2 p2 u2 b2; have E2 : Ext wq w2 := Upd.to_ext e12.drew u2 (by intro b hb; simp [blk] at hb; omega); have F2 : Fresh wq.heap.size v2 := Fresh.of b2 (by intro g hg; simp [blk] at hg; omega) e12.drew.size; have s3 := E2.cell c1; have z3 := E2.cell hcell; have l3 := E2.cell c2; have Y2 : Cells w2 (some ⟨wq.heap.size + 1, 0, none⟩) [.int .i64 x] := y12.keep (by intro b o e; cases e; refine u2.block _ (by simp <;> omega) (by simp [blk]))) | (refine step_append_ints rfl (.tmp 22) (.tmp 26) rfl (.slice (some ⟨wq.heap.size + 1, 0, none⟩) 0 0) [] (by simp [Act.eval]) m21 Ai I'.length ci I' (by simp [Act.eval]) rfl (hxq.ext e21.drew) (by simp; omega) ?_; intro v2 w2 p2 u2 b2; have E2 : Ext wq w2 := Upd.to_ext e21.drew u2 (by intro b hb; simp [blk] at hb; omega); have F2 : Fresh wq.heap.size v2 := Fresh.of b2 (by intro g hg; simp [blk] at hg; omega) e21.drew.size; have s3 := E2.cell c1; have z3 := E2.cell hcell; have l3 := E2.cell c2; have Y2 : Cells w2 (some ⟨wq.heap.size, 0, none⟩) [.int .i64 x] := y21.keep (by intro b o e; cases e; refine u2.block _ (by simp <;> omega) (by simp [blk])))
          try go_simp
          refine hK.out _ _ (by first | exact hS | (refine ⟨?_, ?_⟩ <;> first | (simp [*]; done) | simp [*, World.cell?_alloc_some])) (fun hS => ?_)
          clear hK K
          refine wpAnyH_ready (rs := [14]) (by kernel_rfl) (by simp) ?_
          refine AllReadyH.cons rfl (fun K hK => ?_) ?_
          rotate_left 1
          · exact AllReadyH.nil
          first | (refine step_append_int rfl (.tmp 27) (.tmp 34) rfl v2 ([] ++ I') (by simp [Act.eval]) (p2.ext ((Ext.refl w2).alloc _)) (some ⟨w2.heap.size, 0, none⟩) 1 x (by simp [Act.eval]) (Cells.new1 w2 (.int .i64 x) 3) (by simp; omega) ?_; intro v3 w3 p3 u3 b3; have E3 : Ext wq w3 := Upd.to_ext (E2.alloc _) u3 (fun b hb => F2 b hb); have F3 : Fresh wq.heap.size v3 := Fresh.of b3 F2 ((E2.alloc _)).size; obtain ⟨B3, n3, d3, rfl⟩ := p3.slice; obtain ⟨q0, q1, q2, qf⟩ := (htq.ext E3).cells; have z4 := E3.cell hcell; obtain ⟨t4, u4⟩ := ref_fin htq huq E3 p3 F3; obtain ⟨_, k1, _, _⟩ := t4.cells; have k2 := (World.cell?_setCell_far w3 ⟨k, 2, none⟩ ⟨ga, oa, none⟩ (.slice B3 n3 d3) (fun e => hgk e.symm)).trans z4; obtain ⟨A1, r1, r2, m4, b4⟩ := tail_ints (some ⟨ga, oa, none⟩) a ca (x :: A2) _ HA.out.symm ha1 t4.act) | (refine step_append_int rfl (.tmp 27) (.tmp 34) rfl v2 ([] ++ I') (by simp [Act.eval]) p2 (some ⟨wq.heap.size + 1, 0, none⟩) 1 x (by simp [Act.eval]) Y2 (by simp; omega) ?_; intro v3 w3 p3 u3 b3; have E3 : Ext wq w3 := Upd.to_ext E2 u3 (fun b hb => F2 b hb); have F3 : Fresh wq.heap.size v3 := Fresh.of b3 F2 (E2).size; obtain ⟨B3, n3, d3, rfl⟩ := p3.slice; obtain ⟨q0, q1, q2, qf⟩ := (htq.ext E3).cells; have z4 := E3.cell hcell; obtain ⟨t4, u4⟩ := ref_fin htq huq E3 p3 F3; obtain ⟨_, k1, _, _⟩ := t4.cells; have k2 := (World.cell?_setCell_far w3 ⟨k, 2, none⟩ ⟨ga, oa, none⟩ (.slice B3 n3 d3) (fun e => hgk e.symm)).trans z4; obtain ⟨A1, r1, r2, m4, b4⟩ := tail_ints (some ⟨ga, oa, none⟩) a ca (x :: A2) _ HA.out.symm ha1 t4.act) | (refine step_append_int rfl (.tmp 27) (.tmp 34) rfl v2 ([] ++ I') (by simp [Act.eval]) p2 (some ⟨wq.heap.size, 0, none⟩) 1 x (by simp [Act.eval]) Y2 (by simp; omega) ?_; intro v3 w3 p3 u3 b3; have E3 : Ext wq w3 := Upd.to_ext E2 u3 (fun b hb => F2 b hb); have F3 : Fresh wq.heap.size v3 := Fresh.of b3 F2 (E2).size; obtain ⟨B3, n3, d3, rfl⟩ := p3.slice; obtain ⟨q0, q1, q2, qf⟩ := (htq.ext E3).cells; have z4 := E3.cell hcell; obtain ⟨t4, u4⟩ := ref_fin htq huq E3 p3 F3; obtain ⟨_, k1, _, _⟩ := t4.cells; have k2 := (World.cell?_setCell_far w3 ⟨k, 2, none⟩ ⟨ga, oa, none⟩ (.slice B3 n3 d3) (fun e => hgk e.symm)).trans z4; obtain ⟨A1, r1, r2, m4, b4⟩ := tail_ints (some ⟨ga, oa, none⟩) a ca (x :: A2) _ HA.out.symm ha1 t4.act)
          try go_simp
          refine hK.out _ _ (by first | exact hS | (refine ⟨?_, ?_⟩ <;> first | (simp [*]; done) | simp [*, World.cell?_alloc_some])) (fun hS => ?_)
          clear hK K
          refine takeH (i := 15) (v := ?_) rfl rfl (by kernel_rfl) (by kernel_rfl) (by kernel_rfl) (fun _ _ _ h => h) (Or.inl ⟨by kernel_rfl, ?_⟩) hS ?_
          rotate_left 1
          · (intro w' hS'; go_simp; try (with_reducible rfl))
          simp only [List.setIfInBounds_toArray, List.set_cons_succ, List.set_cons_zero]
          refine takeH (i := 16) (v := ?_) rfl rfl (by kernel_rfl) (by kernel_rfl) (by kernel_rfl) (fun _ _ _ h => h) (Or.inl ⟨by kernel_rfl, ?_⟩) hS ?_
          rotate_left 1
          · (intro w' hS'; go_simp; try (with_reducible rfl))
          simp only [List.setIfInBounds_toArray, List.set_cons_succ, List.set_cons_zero]
          refine wpAnyH_ready (rs := [17]) (by kernel_rfl) (by simp) ?_
          refine AllReadyH.cons rfl (fun K hK => ?_) ?_
          rotate_left 1
          · exact AllReadyH.nil
          go_simp
          refine hK.out _ _ (by first | exact hS | (refine ⟨?_, ?_⟩ <;> first | (simp [*]; done) | simp [*, World.cell?_alloc_some])) (fun hS => ?_)
          clear hK K
          refine wpAnyH_done (by kernel_rfl) ?_ _
          generalize (some ⟨ga, oa, none⟩ : Option Addr) = A0 at *
          go_wp2_with fail
          go_roundg A2.length
          case measure => exact hA2
          case rel =>
            have t5 := t4.putA m4 (fun g e => t4.ba g (by rw [← b4]; exact e))
            refine ⟨A2, I' ++ [x], _, _, Nat.le_refl _, t5.mono (fun b hb => since_one hb (by simp)), u4.setCell (p := ⟨k, 1, none⟩) (by rcases t4.mem with y | y; exact .inl y; exact .inr y.1) _, by rw [← hev]; exact HE.out, ?_⟩
            have := HL.out
            simp only [List.length_cons, List.length_append, List.length_nil] at this ⊢
            omega
        exact AllReadyH.nil
      refine AllReadyH.cons rfl (fun K hK => ?_) ?_
      · skip
        go_simp
        refine hK.out _ _ (by first | exact hS | (refine ⟨?_, ?_⟩ <;> first | (simp [*]; done) | simp [*, World.cell?_alloc_some])) (fun hS => ?_)
        clear hK K
        refine wpAnyH_ready (rs := [1, 5]) (by kernel_rfl) (by simp) ?_
        refine AllReadyH.cons rfl (fun K hK => ?_) ?_
        · skip
          go_simp
          refine hK.out _ _ (by first | exact hS | (refine ⟨?_, ?_⟩ <;> first | (simp [*]; done) | simp [*, World.cell?_alloc_some])) (fun hS => ?_)
          clear hK K
          refine wpAnyH_ready (rs := [5]) (by kernel_rfl) (by simp) ?_
          refine AllReadyH.cons rfl (fun K hK => ?_) ?_
          rotate_left 1
          · exact AllReadyH.nil
          go_simp
          refine hK.out _ _ (by first | exact hS | (refine ⟨?_, ?_⟩ <;> first | (simp [*]; done) | simp [*, World.cell?_alloc_some])) (fun hS => ?_)
          clear hK K
          refine wpAnyH_ready (rs := [6]) (by kernel_rfl) (by simp) ?_
          refine AllReadyH.cons rfl (fun K hK => ?_) ?_
          rotate_left 1
          · exact AllReadyH.nil
          first | (refine step_append_ints rfl (.tmp 22) (.tmp 26) rfl (.slice (some ⟨wq.heap.size, 0, none⟩) 0 0) [] (by simp [Act.eval]) m1 Ai I'.length ci I' (by simp [Act.eval]) rfl (hxq.ext e1.drew) (by simp; omega) ?_; intro v2 w2 p2 u2 b2; have E2 : Ext wq w2 := Upd.to_ext e1.drew u2 (by intro b hb; simp [blk] at hb; omega); have F2 : Fresh wq.heap.size v2 := Fresh.of b2 (by intro g hg; simp [blk] at hg; omega) e1.drew.size; have s3 := E2.cell c1; have z3 := E2.cell hcell; have l3 := E2.cell c2) | (refine step_append_ints rfl (.tmp 22) (.tmp 26) rfl (.slice (some ⟨wq.heap.size, 0, none⟩) 0 0) [] (by simp [Act.eval]) m12 Ai I'.length ci I' (by simp [Act.eval]) rfl (hxq.ext e12.drew) (by simp; omega) ?_; intro v2 w2 p2 u2 b2; have E2 : Ext wq w2 := Upd.to_ext e12.drew u2 (by intro b hb; simp [blk] at hb; omega); have F2 : Fresh wq.heap.size v2 := Fresh.of b2 (by intro g hg; simp [blk] at hg; omega) e12.drew.size; have s3 := E2.cell c1; have z3 := E2.cell hcell; have l3 := E2.cell c2; have Y2 : Cells w2 (some ⟨wq.heap.size + 1, 0, none⟩) [.int .i64 x] := y12.keep (by intro b o e; cases e; refine u2.block _ (by simp <;> omega) (by simp [blk]))) | (refine step_append_ints rfl (.tmp 22) (.tmp 26) rfl (.slice (some ⟨wq.heap.size + 1, 0, none⟩) 0 0) [] (by simp [Act.eval]) m21 Ai I'.length ci I' (by simp [Act.eval]) rfl (hxq.ext e21.drew) (by simp; omega) ?_; intro v2 w2 p2 u2 b2; have E2 : Ext wq w2 := Upd.to_ext e21.drew u2 (by intro b hb; simp [blk] at hb; omega); have F2 : Fresh wq.heap.size v2 := Fresh.of b2 (by intro g hg; simp [blk] at hg; omega) e21.drew.size; have s3 := E2.cell c1; have z3 := E2.cell hcell; have l3 := E2.cell c2; have Y2 : Cells w2 (some ⟨wq.heap.size, 0, none⟩) [.int .i64 x] := y21.keep (by intro b o e; cases e; refine u2.block _ (by simp <;> omega) (by simp [blk])))
          try go_simp
          refine hK.out _ _ (by first | exact hS | (refine ⟨?_, ?_⟩ <;> first | (simp [*]; done) | simp [*, World.cell?_alloc_some])) (fun hS => ?_)
          clear hK K
          refine wpAnyH_ready (rs := [14]) (by kernel_rfl) (by simp) ?_
          refine AllReadyH.cons rfl (fun K hK => ?_) ?_
          rotate_left 1
          · exact AllReadyH.nil
          first | (refine step_append_int rfl (.tmp 27) (.tmp 34) rfl v2 ([] ++ I') (by simp [Act.eval]) (p2.ext ((Ext.refl w2).alloc _)) (some ⟨w2.heap.size, 0, none⟩) 1 x (by simp [Act.eval]) (Cells.new1 w2 (.int .i64 x) 3) (by simp; omega) ?_; intro v3 w3 p3 u3 b3; have E3 : Ext wq w3 := Upd.to_ext (E2.alloc _) u3 (fun b hb => F2 b hb); have F3 : Fresh wq.heap.size v3 := Fresh.of b3 F2 ((E2.alloc _)).size; obtain ⟨B3, n3, d3, rfl⟩ := p3.slice; obtain ⟨q0, q1, q2, qf⟩ := (htq.ext E3).cells; have z4 := E3.cell hcell; obtain ⟨t4, u4⟩ := ref_fin htq huq E3 p3 F3; obtain ⟨_, k1, _, _⟩ := t4.cells; have k2 := (World.cell?_setCell_far w3 ⟨k, 2, none⟩ ⟨ga, oa, none⟩ (.slice B3 n3 d3) (fun e => hgk e.symm)).trans z4; obtain ⟨A1, r1, r2, m4, b4⟩ := tail_ints (some ⟨ga, oa, none⟩) a ca (x :: A2) _ HA.out.symm ha1 t4.act) | (refine step_append_int rfl (.tmp 27) (.tmp 34) rfl v2 ([] ++ I') (by simp [Act.eval]) p2 (some ⟨wq.heap.size + 1, 0, none⟩) 1 x (by simp [Act.eval]) Y2 (by simp; omega) ?_; intro v3 w3 p3 u3 b3; have E3 : Ext wq w3 := Upd.to_ext E2 u3 (fun b hb => F2 b hb); have F3 : Fresh wq.heap.size v3 := Fresh.of b3 F2 (E2).size; obtain ⟨B3, n3, d3, rfl⟩ := p3.slice; obtain ⟨q0, q1, q2, qf⟩ := (htq.ext E3).cells; have z4 := E3.cell hcell; obtain ⟨t4, u4⟩ := ref_fin htq huq E3 p3 F3; obtain ⟨_, k1, _, _⟩ := t4.cells; have k2 := (World.cell?_setCell_far w3 ⟨k, 2, none⟩ ⟨ga, oa, none⟩ (.slice B3 n3 d3) (fun e => hgk e.symm)).trans z4; obtain ⟨A1, r1, r2, m4, b4⟩ := tail_ints (some ⟨ga, oa, none⟩) a ca (x :: A2) _ HA.out.symm ha1 t4.act) | (refine step_append_int rfl (.tmp 27) (.tmp 34) rfl v2 ([] ++ I') (by simp [Act.eval]) p2 (some ⟨wq.heap.size, 0, none⟩) 1 x (by simp [Act.eval]) Y2 (by simp; omega) ?_; intro v3 w3 p3 u3 b3; have E3 : Ext wq w3 := Upd.to_ext E2 u3 (fun b hb => F2 b hb); have F3 : Fresh wq.heap.size v3 := Fresh.of b3 F2 (E2).size; obtain ⟨B3, n3, d3, rfl⟩ := p3.slice; obtain ⟨q0, q1, q2, qf⟩ := (htq.ext E3).cells; have z4 := E3.cell hcell; obtain ⟨t4, u4⟩ := ref_fin htq huq E3 p3 F3; obtain ⟨_, k1, _, _⟩ := t4.cells; have k2 := (World.cell?_setCell_far w3 ⟨k, 2, none⟩ ⟨ga, oa, none⟩ (.slice B3 n3 d3) (fun e => hgk e.symm)).trans z4; obtain ⟨A1, r1, r2, m4, b4⟩ := tail_ints (some ⟨ga, oa, none⟩) a ca (x :: A2) _ HA.out.symm ha1 t4.act)
          try go_simp
          refine hK.out _ _ (by first | exact hS | (refine ⟨?_, ?_⟩ <;> first | (simp [*]; done) | simp [*, World.cell?_alloc_some])) (fun hS => ?_)
          clear hK K
          refine takeH (i := 15) (v := ?_) rfl rfl (by kernel_rfl) (by kernel_rfl) (by kernel_rfl) (fun _ _ _ h => h) (Or.inl ⟨by kernel_rfl, ?_⟩) hS ?_
          rotate_left 1
          · (intro w' hS'; go_simp; try (with_reducible rfl))
          simp only [List.setIfInBounds_toArray, List.set_cons_succ, List.set_cons_zero]
          refine takeH (i := 16) (v := ?_) rfl rfl (by kernel_rfl) (by kernel_rfl) (by kernel_rfl) (fun _ _ _ h => h) (Or.inl ⟨by kernel_rfl, ?_⟩) hS ?_
          rotate_left 1
          · (intro w' hS'; go_simp; try (with_reducible rfl))
          simp only [List.setIfInBounds_toArray, List.set_cons_succ, List.set_cons_zero]
          refine wpAnyH_ready (rs := [17]) (by kernel_rfl) (by simp) ?_
          refine AllReadyH.cons rfl (fun K hK => ?_) ?_
          rotate_left 1
          · exact AllReadyH.nil
          go_simp
          refine hK.out _ _ (by first | exact hS | (refine ⟨?_, ?_⟩ <;> first | (simp [*]; done) | simp [*, World.cell?_alloc_some])) (fun hS => ?_)
          clear hK K
          refine wpAnyH_done (by kernel_rfl) ?_ _
          generalize (some ⟨ga, oa, none⟩ : Option Addr) = A0 at *
          go_wp2_with fail
          go_roundg A2.length
          case measure => exact hA2
          case rel =>
            have t5 := t4.putA m4 (fun g e => t4.ba g (by rw [← b4]; exact e))
            refine ⟨A2, I' ++ [x], _, _, Nat.le_refl _, t5.mono (fun b hb => since_one hb (by simp)), u4.setCell (p := ⟨k, 1, none⟩) (by rcases t4.mem with y | y; exact .inl y; exact .inr y.1) _, by rw [← hev]; exact HE.out, ?_⟩
            have := HL.out
            simp only [List.length_cons, List.length_append, List.length_nil] at this ⊢
            omega
        refine AllReadyH.cons rfl (fun K hK => ?_) ?_
        · skip
          go_simp
          refine hK.out _ _ (by first | exact hS | (refine ⟨?_, ?_⟩ <;> first | (simp [*]; done) | simp [*, World.cell?_alloc_some])) (fun hS => ?_)
          clear hK K
          refine wpAnyH_ready (rs := [1]) (by kernel_rfl) (by simp) ?_
          refine AllReadyH.cons rfl (fun K hK => ?_) ?_
          rotate_left 1
          · exact AllReadyH.nil
          go_simp
          refine hK.out _ _ (by first | exact hS | (refine ⟨?_, ?_⟩ <;> first | (simp [*]; done) | simp [*, World.cell?_alloc_some])) (fun hS => ?_)
          clear hK K
          refine wpAnyH_ready (rs := [6]) (by kernel_rfl) (by simp) ?_
          refine AllReadyH.cons rfl (fun K hK => ?_) ?_
          rotate_left 1
          · exact AllReadyH.nil
          first | (refine step_append_ints rfl (.tmp 22) (.tmp 26) rfl (.slice (some ⟨wq.heap.size, 0, none⟩) 0 0) [] (by simp [Act.eval]) m1 Ai I'.length ci I' (by simp [Act.eval]) rfl (hxq.ext e1.drew) (by simp; omega) ?_; intro v2 w2 p2 u2 b2; have E2 : Ext wq w2 := Upd.to_ext e1.drew u2 (by intro b hb; simp [blk] at hb; omega); have F2 : Fresh wq.heap.size v2 := Fresh.of b2 (by intro g hg; simp [blk] at hg; omega) e1.drew.size; have s3 := E2.cell c1; have z3 := E2.cell hcell; have l3 := E2.cell c2) | (refine step_append_ints rfl (.tmp 22) (.tmp 26) rfl (.slice (some ⟨wq.heap.size, 0, none⟩) 0 0) [] (by simp [Act.eval]) m12 Ai I'.length ci I' (by simp [Act.eval]) rfl (hxq.ext e12.drew) (by simp; omega) ?_; intro v2 w2 p2 u2 b2; have E2 : Ext wq w2 := Upd.to_ext e12.drew u2 (by intro b hb; simp [blk] at hb; omega); have F2 : Fresh wq.heap.size v2 := Fresh.of b2 (by intro g hg; simp [blk] at hg; omega) e12.drew.size; have s3 := E2.cell c1; have z3 := E2.cell hcell; have l3 := E2.cell c2; have Y2 : Cells w2 (some ⟨wq.heap.size + 1, 0, none⟩) [.int .i64 x] := y12.keep (by intro b o e; cases e; refine u2.block _ (by simp <;> omega) (by simp [blk]))) | (refine step_append_ints rfl (.tmp 22) (.tmp 26) rfl (.slice (some ⟨wq.heap.size + 1, 0, none⟩) 0 0) [] (by simp [Act.eval]) m21 Ai I'.length ci I' (by simp [Act.eval]) rfl (hxq.ext e21.drew) (by simp; omega) ?_; intro v2 w2 p2 u2 b2; have E2 : Ext wq w2 := Upd.to_ext e21.drew u2 (by intro b hb; simp [blk] at hb; omega); have F2 : Fresh wq.heap.size v2 := Fresh.of b2 (by intro g hg; simp [blk] at hg; omega) e21.drew.size; have s3 := E2.cell c1; have z3 := E2.cell hcell; have l3 := E2.cell c2; have Y2 : Cells w2 (some ⟨wq.heap.size, 0, none⟩) [.int .i64 x] := y21.keep (by intro b o e; cases e; refine u2.block _ (by simp <;> omega) (by simp [blk])))
          try go_simp
          refine hK.out _ _ (by first | exact hS | (refine ⟨?_, ?_⟩ <;> first | (simp [*]; done) | simp [*, World.cell?_alloc_some])) (fun hS => ?_)
          clear hK K
          refine wpAnyH_ready (rs := [14]) (by kernel_rfl) (by simp) ?_
          refine AllReadyH.cons rfl (fun K hK => ?_) ?_
          rotate_left 1
          · exact AllReadyH.nil
          first | (refine step_append_int rfl (.tmp 27) (.tmp 34) rfl v2 ([] ++ I') (by simp [Act.eval]) (p2.ext ((Ext.refl w2).alloc _)) (some ⟨w2.heap.size, 0, none⟩) 1 x (by simp [Act.eval]) (Cells.new1 w2 (.int .i64 x) 3) (by simp; omega) ?_; intro v3 w3 p3 u3 b3; have E3 : Ext wq w3 := Upd.to_ext (E2.alloc _) u3 (fun b hb => F2 b hb); have F3 : Fresh wq.heap.size v3 := Fresh.of b3 F2 ((E2.alloc _)).size; obtain ⟨B3, n3, d3, rfl⟩ := p3.slice; obtain ⟨q0, q1, q2, qf⟩ := (htq.ext E3).cells; have z4 := E3.cell hcell; obtain ⟨t4, u4⟩ := ref_fin htq huq E3 p3 F3; obtain ⟨_, k1, _, _⟩ := t4.cells; have k2 := (World.cell?_setCell_far w3 ⟨k, 2, none⟩ ⟨ga, oa, none⟩ (.slice B3 n3 d3) (fun e => hgk e.symm)).trans z4; obtain ⟨A1, r1, r2, m4, b4⟩ := tail_ints (some ⟨ga, oa, none⟩) a ca (x :: A2) _ HA.out.symm ha1 t4.act) | (refine step_append_int rfl (.tmp 27) (.tmp 34) rfl v2 ([] ++ I') (by simp [Act.eval]) p2 (some ⟨wq.heap.size + 1, 0, none⟩) 1 x (by simp [Act.eval]) Y2 (by simp; omega) ?_; intro v3 w3 p3 u3 b3; have E3 : Ext wq w3 := Upd.to_ext E2 u3 (fun b hb => F2 b hb); have F3 : Fresh wq.heap.size v3 := Fresh.of b3 F2 (E2).size; obtain ⟨B3, n3, d3, rfl⟩ := p3.slice; obtain ⟨q0, q1, q2, qf⟩ := (htq.ext E3).cells; have z4 := E3.cell hcell; obtain ⟨t4, u4⟩ := ref_fin htq huq E3 p3 F3; obtain ⟨_, k1, _, _⟩ := t4.cells; have k2 := (World.cell?_setCell_far w3 ⟨k, 2, none⟩ ⟨ga, oa, none⟩ (.slice B3 n3 d3) (fun e => hgk e.symm)).trans z4; obtain ⟨A1, r1, r2, m4, b4⟩ := tail_ints (some ⟨ga, oa, none⟩) a ca (x :: A2) _ HA.out.symm ha1 t4.act) | (refine step_append_int rfl (.tmp 27) (.tmp 34) rfl v2 ([] ++ I') (by simp [Act.eval]) p2 (some ⟨wq.heap.size, 0, none⟩) 1 x (by simp [Act.eval]) Y2 (by simp; omega) ?_; intro v3 w3 p3 u3 b3; have E3 : Ext wq w3 := Upd.to_ext E2 u3 (fun b hb => F2 b hb); have F3 : Fresh wq.heap.size v3 := Fresh.of b3 F2 (E2).size; obtain ⟨B3, n3, d3, rfl⟩ := p3.slice; obtain ⟨q0, q1, q2, qf⟩ := (htq.ext E3).cells; have z4 := E3.cell hcell; obtain ⟨t4, u4⟩ := ref_fin htq huq E3 p3 F3; obtain ⟨_, k1, _, _⟩ := t4.cells; have k2 := (World.cell?_setCell_far w3 ⟨k, 2, none⟩ ⟨ga, oa, none⟩ (.slice B3 n3 d3) (fun e => hgk e.symm)).trans z4; obtain ⟨A1, r1, r2, m4, b4⟩ := tail_ints (some ⟨ga, oa, none⟩) a ca (x :: A2) _ HA.out.symm ha1 t4.act)
          try go_simp
          refine hK.out _ _ (by first | exact hS | (refine ⟨?_, ?_⟩ <;> first | (simp [*]; done) | simp [*, World.cell?_alloc_some])) (fun hS => ?_)
          clear hK K
          refine takeH (i := 15) (v := ?_) rfl rfl (by kernel_rfl) (by kernel_rfl) (by kernel_rfl) (fun _ _ _ h => h) (Or.inl ⟨by kernel_rfl, ?_⟩) hS ?_
          rotate_left 1
          · (intro w' hS'; go_simp; try (with_reducible rfl))
          simp only [List.setIfInBounds_toArray, List.set_cons_succ, List.set_cons_zero]
          refine takeH (i := 16) (v := ?_) rfl rfl (by kernel_rfl) (by kernel_rfl) (by kernel_rfl) (fun _ _ _ h => h) (Or.inl ⟨by kernel_rfl, ?_⟩) hS ?_
          rotate_left 1
          · (intro w' hS'; go_simp; try (with_reducible rfl))
          simp only [List.setIfInBounds_toArray, List.set_cons_succ, List.set_cons_zero]
          refine wpAnyH_ready (rs := [17]) (by kernel_rfl) (by simp) ?_
          refine AllReadyH.cons rfl (fun K hK => ?_) ?_
          rotate_left 1
          · exact AllReadyH.nil
          go_simp
          refine hK.out _ _ (by first | exact hS | (refine ⟨?_, ?_⟩ <;> first | (simp [*]; done) | simp [*, World.cell?_alloc_some])) (fun hS => ?_)
          clear hK K
          refine wpAnyH_done (by kernel_rfl) ?_ _
          generalize (some ⟨ga, oa, none⟩ : Option Addr) = A0 at *
          go_wp2_with fail
          go_roundg A2.length
          case measure => exact hA2
          case rel =>
            have t5 := t4.putA m4 (fun g e => t4.ba g (by rw [← b4]; exact e))
            refine ⟨A2, I' ++ [x], _, _, Nat.le_refl _, t5.mono (fun b hb => since_one hb (by simp)), u4.setCell (p := ⟨k, 1, none⟩) (by rcases t4.mem with y | y; exact .inl y; exact .inr y.1) _, by rw [← hev]; exact HE.out, ?_⟩
            have := HL.out
            simp only [List.length_cons, List.length_append, List.length_nil] at this ⊢
            omega
        exact AllReadyH.nil
      exact AllReadyH.nil
    · have hgt : ((N : Int) + 1 < (q : Int)) = False := by simp; omega
      have hev : even A' I' = (A', I') := by
        cases A' with
        | nil => rfl
        | cons x A2 =>
          rw [even, if_neg]
          simp only [List.length_cons] at hq hl
          omega
      clear hq hL hN hl
      go_wp2_with fail
      go_quiet (fail)
      go_wp2_with fail
      go_end0
      rw [← he, hev]
      exact ⟨rfl, ⟨_, _, (ht.ext ((Ext.refl wr).drewN nq)).mono (fun _ x => x)⟩, hu.drewN nq⟩
end Go.Proofs.Ytghkkhafnkkomaa
