/- The document's two lists: Put. -/
import Derived.Test.YtghkkhafnkkomaaRf
namespace Go.Proofs.Ytghkkhafnkkomaa
open Go.RowKit
open Go.Proofs

theorem ref_two {w wq w9 : World} {t : TypeId} {k : Nat} {F : Nat → Prop} {n : Int} {va vi v7 v9 : Value} {A I a b : List Int} (h : TLv wq t k (Since F w wq) n va vi A I) (u : Upd F w wq) (e : Ext wq w9)
    (m7 : Mine w9 3 v7 (ints a)) (m9 : Mine w9 3 v9 (ints b)) (f7 : Fresh wq.heap.size v7) (f9 : Fresh wq.heap.size v9) (D : ∀ g, blk v7 = some g → blk v9 ≠ some g) :
    TLv ((w9.setCell ⟨k, 1, none⟩ v7).setCell ⟨k, 2, none⟩ v9) t k (Since F w w9) n v7 v9 a b ∧ Upd F w ((w9.setCell ⟨k, 1, none⟩ v7).setCell ⟨k, 2, none⟩ v9) := by
  have hk := h.lt
  have h9 : TLv w9 t k (Since F w w9) n va vi A I := (h.ext e).mono (fun b x => x.mono e.size)
  have new : ∀ v, Fresh wq.heap.size v → ∀ xs, Mine w9 3 v (ints xs) → ∀ g, blk v = some g → Since F w w9 g ∧ g ≠ k := fun v hf xs hm g x => by
    have := hf g x
    exact ⟨.inr ⟨Nat.le_trans u.size this, hm.lt x⟩, by omega⟩
  have t1 := h9.putA m7 (fun g x => ⟨(new v7 f7 a m7 g x).1, (new v7 f7 a m7 g x).2, fun x2 => by
    have := h.ina.lt x2
    have := f7 g x
    omega⟩)
  have uk : Upd (fun b => b = k) w9 (w9.setCell ⟨k, 1, none⟩ v7) := (Upd.refl (fun b => b = k) w9).setCell (p := ⟨k, 1, none⟩) (.inl rfl) v7
  have t2 := t1.putI (m9.upd uk (fun g x => (new v9 f9 b m9 g x).2)) (fun g x => ⟨(new v9 f9 b m9 g x).1, (new v9 f9 b m9 g x).2, fun x2 => D g x2 x⟩)
  have hF : F k ∨ w.heap.size ≤ k := by rcases h.mem with y | y; exact .inl y; exact .inr y.1
  exact ⟨t2, ((u.trans' (Upd.of_ext (fun _ => False) e) (fun _ x => x.elim)).setCell (p := ⟨k, 1, none⟩) hF v7).setCell (p := ⟨k, 2, none⟩) hF v9⟩

/-- What the document's Put does: 0 Add, 1 Touch, else Remove. -/
def rPut (how n x : Int) (A I : List Int) : List Int × List Int :=
  if x < 0 ∨ n ≤ x then (A, I)
  else if how = 1 ∧ (without A x).length + (without I x).length = A.length + I.length then (A, I)
  else even (if how = 1 then without A x ++ [x] else without A x) (if how = 0 then without I x ++ [x] else without I x)
theorem without_le (l : List Int) (x : Int) : (without l x).length ≤ l.length := List.length_filter_le _ _
theorem dis_of {w : World} {v v7 v9 : Value} {xs : List Value} {z : Nat} (b : blk v9 = blk v ∨ blk v9 = some z) (D : ∀ g, blk v7 = some g → blk v ≠ some g) (m : Mine w 3 v7 xs) (h : w.heap.size ≤ z) : ∀ g, blk v7 = some g → blk v9 ≠ some g := fun g e e2 => by
  rcases b with b | b
  · exact D g e (by rw [← b]; exact e2)
  · rw [b] at e2; cases e2
    have := m.lt e
    omega
theorem dis_sym {v7 v9 : Value} (D : ∀ g, blk v7 = some g → blk v9 ≠ some g) : ∀ g, blk v9 = some g → blk v7 ≠ some g := fun g e e2 => D g e2 e
theorem len_of {w : World} {e : TypeId} {A : Option Addr} {n c : Nat} {l : List Int} (m : Mine w e (.slice A n c) (ints l)) : n = l.length := by
  obtain ⟨A', c', h, _⟩ := m.form
  injection h with _ h2 _
  rw [h2, length_ints]

set_option maxRecDepth 100000 in
set_option maxHeartbeats 1000000 in
theorem f29_any (k : Nat) (F : Nat → Prop) (n how x : Int) (A I : List Int) (w : World) (hL : A.length + I.length ≤ 4294967280) (h : TL w 45 k F n A I) :
    Calls Try.prog 29 #[.pointer (some ⟨k, 0, none⟩), .int .i64 how, .int .i64 x] w fun e w' => e = .returned (.tuple #[]) ∧ TL w' 45 k (Since F w w') n (rPut how n x A I).1 (rPut how n x A I).2 ∧ Upd F w w' := by
  obtain ⟨va, vi, h⟩ := h
  obtain ⟨c0, c1, c2, hf⟩ := h.cells
  obtain ⟨Aa, ca, rfl, hca, _, hxa, _, _⟩ := h.act.form
  obtain ⟨Ai, ci, rfl, hci, _, hxi, _, _⟩ := h.ina.form
  simp only [length_ints] at *
  obtain ⟨N, hN⟩ : ∃ N, N = A.length + I.length := ⟨_, rfl⟩
  have hs1 : (A.length : Int) + (I.length : Int) = (N : Int) := by omega
  have hw1 : IntKind.i64.wrap (N : Int) = (N : Int) := IntWalk.i64_in _ (by omega)
  by_cases hr : x < 0 ∨ n ≤ x
  · unfold rPut
    rw [if_pos hr]
    by_cases hr1 : x < 0
    · clear hr hN
      go_enter Try.func29, Try.ntmps29
      go_wp2_with fail
      go_quiet (fail)
      go_wp2_with fail
      refine bodyPost_ret (results_none rfl _ _ _) rfl ?_
      exact ⟨rfl, ⟨_, _, (h.ext ((Ext.refl w).drewN nq)).mono (fun _ y => .inl y)⟩, (Upd.refl _ _).drewN nq⟩
    · have hr2 : n ≤ x := by omega
      clear hr hN
      go_enter Try.func29, Try.ntmps29
      go_wp2_with fail
      go_quiet (fail)
      go_wp2_with fail
      refine bodyPost_ret (results_none rfl _ _ _) rfl ?_
      exact ⟨rfl, ⟨_, _, (h.ext ((Ext.refl w).drewN nq)).mono (fun _ y => .inl y)⟩, (Upd.refl _ _).drewN nq⟩
  · obtain ⟨R, hR⟩ : ∃ R, R = rPut how n x A I := ⟨_, rfl⟩
    rw [← hR]
    unfold rPut at hR
    rw [if_neg hr] at hR
    have HR := Lib.hid hR
    clear hR
    have hr1 : (x < 0) = False := by simp; omega
    have hr2 : (n ≤ x) = False := by simp; omega
    have HN := Lib.hid hN
    clear hr hN
    go_enter Try.func29, Try.ntmps29
    go_wp2_with fail
    go_quiet (fail)
    have htq := (h.ext ((Ext.refl w).drewN nq)).mono (G := Since F w (w.drewN nq)) (fun _ x => .inl x)
    have huq : Upd F w (w.drewN nq) := (Upd.refl F w).drewN nq
    generalize w.drewN nq = wq at *
    clear c0 c1 c2 hf hxa hxi h
    obtain ⟨c0, c1, c2, hf⟩ := htq.cells
    obtain ⟨Aa', ca', ea, _, _, hxa, _, _⟩ := htq.act.form
    obtain ⟨Ai', ci', ei, _, _, hxi, _, _⟩ := htq.ina.form
    injection ea with ea ea2 ea3
    injection ei with ei ei2 ei3
    rw [← ea] at hxa
    rw [← ei] at hxi
    clear ea ei ea2 ea3 ei2 ei3
    go_wp2_with fail
    refine wp_region_held_drew (S := fun w' => Ext wq w') (by kernel_rfl) ((Ext.refl _).drew) (fun hS => ?_)
    refine takeH (i := 0) (v := ?_) rfl rfl (by kernel_rfl) (by kernel_rfl) (by kernel_rfl) (fun _ _ _ h => h) (Or.inl ⟨by kernel_rfl, ?_⟩) hS ?_
    rotate_left 1
    · (intro w' hS'; go_simp; try (with_reducible rfl))
    simp only [List.setIfInBounds_toArray, List.set_cons_succ, List.set_cons_zero]
    refine takeH (i := 1) (v := ?_) rfl rfl (by kernel_rfl) (by kernel_rfl) (by kernel_rfl) (fun _ _ _ h => h) (Or.inl ⟨by kernel_rfl, ?_⟩) hS ?_
    rotate_left 1
    · (intro w' hS'; go_simp; try (with_reducible rfl))
    simp only [List.setIfInBounds_toArray, List.set_cons_succ, List.set_cons_zero]
    refine takeH (i := 2) (v := ?_) rfl rfl (by kernel_rfl) (by kernel_rfl) (by kernel_rfl) (fun _ _ _ h => h) (Or.inl ⟨by kernel_rfl, ?_⟩) hS ?_
    rotate_left 1
    · (intro w' hS'; go_simp; try (with_reducible rfl))
    simp only [List.setIfInBounds_toArray, List.set_cons_succ, List.set_cons_zero]
    refine takeH (i := 3) (v := ?_) rfl rfl (by kernel_rfl) (by kernel_rfl) (by kernel_rfl) (fun _ _ _ h => h) (Or.inl ⟨by kernel_rfl, ?_⟩) hS ?_
    rotate_left 1
    · (intro w' hS'; have c1' := hS'.cell c1; go_simp; try (with_reducible rfl))
    simp only [List.setIfInBounds_toArray, List.set_cons_succ, List.set_cons_zero]
    refine takeH (i := 4) (v := ?_) rfl rfl (by kernel_rfl) (by kernel_rfl) (by kernel_rfl) (fun _ _ _ h => h) (Or.inl ⟨by kernel_rfl, ?_⟩) hS ?_
    rotate_left 1
    · (intro w' hS'; go_simp; try (with_reducible rfl))
    simp only [List.setIfInBounds_toArray, List.set_cons_succ, List.set_cons_zero]
    refine takeH (i := 6) (v := ?_) rfl rfl (by kernel_rfl) (by kernel_rfl) (by kernel_rfl) (fun _ _ _ h => h) (Or.inl ⟨by kernel_rfl, ?_⟩) hS ?_
    rotate_left 1
    · (intro w' hS'; go_simp; try (with_reducible rfl))
    simp only [List.setIfInBounds_toArray, List.set_cons_succ, List.set_cons_zero]
    refine takeH (i := 7) (v := ?_) rfl rfl (by kernel_rfl) (by kernel_rfl) (by kernel_rfl) (fun _ _ _ h => h) (Or.inl ⟨by kernel_rfl, ?_⟩) hS ?_
    rotate_left 1
    · (intro w' hS'; go_simp; try (with_reducible rfl))
    simp only [List.setIfInBounds_toArray, List.set_cons_succ, List.set_cons_zero]
    refine takeH (i := 8) (v := ?_) rfl rfl (by kernel_rfl) (by kernel_rfl) (by kernel_rfl) (fun _ _ _ h => h) (Or.inl ⟨by kernel_rfl, ?_⟩) hS ?_
    rotate_left 1
    · (intro w' hS'; go_simp; try (with_reducible rfl))
    simp only [List.setIfInBounds_toArray, List.set_cons_succ, List.set_cons_zero]
    refine takeH (i := 9) (v := ?_) rfl rfl (by kernel_rfl) (by kernel_rfl) (by kernel_rfl) (fun _ _ _ h => h) (Or.inl ⟨by kernel_rfl, ?_⟩) hS ?_
    rotate_left 1
    · (intro w' hS'; have c2' := hS'.cell c2; go_simp; try (with_reducible rfl))
    simp only [List.setIfInBounds_toArray, List.set_cons_succ, List.set_cons_zero]
    refine takeH (i := 10) (v := ?_) rfl rfl (by kernel_rfl) (by kernel_rfl) (by kernel_rfl) (fun _ _ _ h => h) (Or.inl ⟨by kernel_rfl, ?_⟩) hS ?_
    rotate_left 1
    · (intro w' hS'; go_simp; try (with_reducible rfl))
    simp only [List.setIfInBounds_toArray, List.set_cons_succ, List.set_cons_zero]
    refine wpAnyH_ready (rs := [5]) (by kernel_rfl) (by simp) ?_
    refine AllReadyH.cons rfl (fun K hK => ?_) ?_
    rotate_left 1
    · exact AllReadyH.nil
    go_simp
    refine (f77_any Aa A ca x _ (by omega) (hxa.ext hS)).mono ?_; rintro e wa ⟨vA, rfl, mA, fA, xA⟩
    refine hK.out _ _ (hS.trans xA) (fun hS => ?_)
    clear hK K
    refine wpAnyH_ready (rs := [11]) (by kernel_rfl) (by simp) ?_
    refine AllReadyH.cons rfl (fun K hK => ?_) ?_
    rotate_left 1
    · exact AllReadyH.nil
    go_simp
    refine (f77_any Ai I ci x _ (by omega) (hxi.ext hS)).mono ?_; rintro e wb ⟨vI, rfl, mI, fI, xI⟩
    refine hK.out _ _ (hS.trans xI) (fun hS => ?_)
    clear hK K
    refine takeH (i := 12) (v := ?_) rfl rfl (by kernel_rfl) (by kernel_rfl) (by kernel_rfl) (fun _ _ _ h => h) (Or.inl ⟨by kernel_rfl, ?_⟩) hS ?_
    rotate_left 1
    · (intro w' hS'; go_simp; try (with_reducible rfl))
    simp only [List.setIfInBounds_toArray, List.set_cons_succ, List.set_cons_zero]
    refine takeH (i := 13) (v := ?_) rfl rfl (by kernel_rfl) (by kernel_rfl) (by kernel_rfl) (fun _ _ _ h => h) (Or.inl ⟨by kernel_rfl, ?_⟩) hS ?_
    rotate_left 1
    · (intro w' hS'; go_simp; try (with_reducible rfl))
    simp only [List.setIfInBounds_toArray, List.set_cons_succ, List.set_cons_zero]
    refine wpAnyH_done (by kernel_rfl) ?_ _
    have FA : Fresh wq.heap.size vA := fA
    have FI : Fresh wq.heap.size vI := fun g e => Nat.le_trans xA.size (fI g e)
    have DD : ∀ g, blk vA = some g → blk vI ≠ some g := fun g e e2 => by have := mA.lt e; have := fI g e2; omega
    have m7 := mA.ext xI
    have m8 := mI
    have E2 := hS
    have hlA := without_le A x
    have hlI := without_le I x
    clear mA mI xA xI fA fI hS
    obtain ⟨q0, q1, q2, qf⟩ := (htq.ext E2).cells
    obtain ⟨B7, n7, d7, rfl⟩ := m7.slice
    obtain ⟨B8, n8, d8, rfl⟩ := m8.slice
    clear hxa hxi
    by_cases how0 : how = 0
    · subst how0
      have hR := HR.out
      rw [if_neg (fun e => by have := e.1; omega), if_neg (by decide), if_pos rfl] at hR
      subst hR
      go_wp2_with (at_builtin; refine wpList_append_int rfl (.tmp 55) (.tmp 57) rfl (.slice B8 n8 d8) (without I x) rfl (m8.ext ((Ext.refl wb).alloc (.cells #[.int .i64 x] 3))) (some ⟨wb.heap.size, 0, none⟩) 1 x rfl (Cells.new1 wb (.int .i64 x) 3) (by omega) ?_; intro v9 w9 m9 u9 b9; obtain ⟨B9, n9, d9, rfl⟩ := m9.slice; have E9 : Ext wq w9 := Upd.to_ext (E2.alloc _) u9 (fun b hb => FI b hb); have m7' := (m7.ext ((Ext.refl wb).alloc (.cells #[.int .i64 x] 3))).upd u9 (fun g e e2 => DD g e e2); have F9 : Fresh wq.heap.size (.slice B9 n9 d9) := Fresh.of b9 FI (E2.alloc _).size; have D9 : ∀ g, blk (.slice B7 n7 d7) = some g → blk (.slice B9 n9 d9) ≠ some g := dis_of b9 DD m7 (by simp); obtain ⟨tS, uS⟩ := ref_two htq huq E9 m7' m9 FA F9 D9; obtain ⟨r0, r1, r2, rf⟩ := (htq.ext E9).cells; have HE := f78_any k _ n _ _ _ (by simp only [List.length_append, List.length_cons, List.length_nil]; omega) ⟨_, _, tS⟩)
      refine HE.mono ?_
      rintro e w3 ⟨rfl, t3, u3⟩
      go_wp2_with fail
      go_end0
      exact ⟨rfl, t3.mono (fun b hb => since_two hb (Nat.le_trans huq.size E9.size) (by simp) u3.size (Nat.le_refl _)), uS.then' u3⟩
    by_cases how1 : how = 1
    · subst how1
      have hl7 := len_of m7
      have hl8 := len_of m8
      obtain ⟨M, hM⟩ : ∃ M, M = n7 + n8 := ⟨_, rfl⟩
      have hs3 : (n7 : Int) + (n8 : Int) = (M : Int) := by omega
      have hw3 : IntKind.i64.wrap (M : Int) = (M : Int) := IntWalk.i64_in _ (by omega)
      by_cases hsame : M = N
      · have hR := HR.out
        rw [if_pos ⟨rfl, by have := HN.out; omega⟩] at hR
        subst hR
        clear hM hl7 hl8
        subst hsame
        go_wp2_with fail
        refine bodyPost_ret (results_none rfl _ _ _) rfl ?_
        exact ⟨rfl, ⟨_, _, (htq.ext E2).mono (fun b y => y.mono E2.size)⟩, huq.trans' (Upd.of_ext (fun _ => False) E2) (fun _ y => y.elim)⟩
      · have hR := HR.out
        rw [if_neg (fun e => hsame (by have := HN.out; omega)), if_pos rfl, if_neg (by decide)] at hR
        subst hR
        have hMN : ((M : Int) == (N : Int)) = false := by simp; omega
        clear hM hsame hl7 hl8
        go_wp2_with (at_builtin; refine wpList_append_int rfl (.tmp 61) (.tmp 63) rfl (.slice B7 n7 d7) (without A x) rfl (m7.ext ((Ext.refl wb).alloc (.cells #[.int .i64 x] 3))) (some ⟨wb.heap.size, 0, none⟩) 1 x rfl (Cells.new1 wb (.int .i64 x) 3) (by omega) ?_; intro v9 w9 m9 u9 b9; obtain ⟨B9, n9, d9, rfl⟩ := m9.slice; have E9 : Ext wq w9 := Upd.to_ext (E2.alloc _) u9 (fun b hb => FA b hb); have m8' := (m8.ext ((Ext.refl wb).alloc (.cells #[.int .i64 x] 3))).upd u9 (fun g e e2 => DD g e2 e); have F9 : Fresh wq.heap.size (.slice B9 n9 d9) := Fresh.of b9 FA (E2.alloc _).size; have D9 : ∀ g, blk (.slice B9 n9 d9) = some g → blk (.slice B8 n8 d8) ≠ some g := dis_sym (dis_of b9 (dis_sym DD) m8 (by simp)); obtain ⟨tS, uS⟩ := ref_two htq huq E9 m9 m8' F9 FI D9; obtain ⟨r0, r1, r2, rf⟩ := (htq.ext E9).cells; have HE := f78_any k _ n _ _ _ (by simp only [List.length_append, List.length_cons, List.length_nil]; omega) ⟨_, _, tS⟩)
        refine HE.mono ?_
        rintro e w3 ⟨rfl, t3, u3⟩
        go_wp2_with fail
        go_end0
        exact ⟨rfl, t3.mono (fun b hb => since_two hb (Nat.le_trans huq.size E9.size) (by simp) u3.size (Nat.le_refl _)), uS.then' u3⟩
    · have hR := HR.out
      rw [if_neg (fun e => how1 e.1), if_neg how1, if_neg how0] at hR
      subst hR
      obtain ⟨tS, uS⟩ := ref_two htq huq E2 m7 m8 FA FI DD
      have HE := f78_any k _ n _ _ _ (by omega) ⟨_, _, tS⟩
      go_wp2_with (go_at_call 78; refine HE.mono ?_; clear HE; rintro e w3 ⟨rfl, t3, u3⟩)
      go_end0
      exact ⟨rfl, t3.mono (fun b hb => since_two hb (Nat.le_trans huq.size E2.size) (by simp) u3.size (Nat.le_refl _)), uS.then' u3⟩
end Go.Proofs.Ytghkkhafnkkomaa
