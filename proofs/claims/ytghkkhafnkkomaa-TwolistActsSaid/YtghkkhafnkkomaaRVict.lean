/- The document's two lists: Victim. -/
import Derived.Test.YtghkkhafnkkomaaRf
import Derived.Test.YtghkkhafnkkomaaTl2
namespace Go.Proofs.Ytghkkhafnkkomaa
open Go.RowKit
open Go.Proofs

theorem find_take_next {p : Int → Bool} {l : List Int} {i : Nat} {y : Int} (h : (l.take i).find? p = none) (hy : l[i]? = some y) (hp : p y = false) : (l.take (i + 1)).find? p = none := by
  obtain ⟨hi, he⟩ := List.getElem?_eq_some_iff.1 hy
  rw [List.take_succ_eq_append_getElem hi, List.find?_append, h, he]
  simp [hp]
theorem find_take_hit {p : Int → Bool} {l : List Int} {i : Nat} {y : Int} (h : (l.take i).find? p = none) (hy : l[i]? = some y) (hp : p y = true) : l.find? p = some y := by
  obtain ⟨hi, he⟩ := List.getElem?_eq_some_iff.1 hy
  rw [← List.take_append_drop i l, List.find?_append, h, List.drop_eq_getElem_cons hi, he]
  simp [hp]

set_option maxRecDepth 100000 in
set_option maxHeartbeats 1000000 in
theorem f31_any (k : Nat) (F : Nat → Prop) (n : Int) (A I : List Int) (H : Option Addr) (hl : List Int) (m2 c2 : Nat) (w : World) (hL : A.length + I.length ≤ 4294967280) (h2 : hl.length = m2) (hm2 : m2 ≤ 9223372036854775807)
    (h : TL w 45 k F n A I) (hy : Cells w H (ints hl)) :
    Calls Try.prog 31 #[.pointer (some ⟨k, 0, none⟩), .slice H m2 c2] w fun e w' => e = .returned (.int .i64 (victim hl A I)) ∧ Ext w w' := by
  obtain ⟨va, vi, h⟩ := h
  have H2 := Lib.hid h2
  clear h2
  obtain ⟨q0, q1, q2, qf⟩ := h.cells
  obtain ⟨Aa, ca, rfl, hca, _, hxa, _, _⟩ := h.act.form
  obtain ⟨Ai, ci, rfl, hci, _, hxi, _, _⟩ := h.ina.form
  simp only [length_ints] at *
  have e1 : Ext w (w.alloc (.cells #[] 3)).drew := ((Ext.refl _).alloc _).drew
  have m1 : Mine (w.alloc (.cells #[] 3)).drew 3 (.slice (some ⟨w.heap.size, 0, none⟩) 0 0) (ints []) := (mine_empty w).ext (Ext.refl _).drew
  go_enter Try.func31, Try.ntmps31
  go_wp2_with fail
  refine wp_region_held_drew (S := fun w' => Ext w w') (by kernel_rfl) ((Ext.refl _).drew) (fun hS => ?_)
  refine takeH (i := 1) (v := ?_) rfl rfl (by kernel_rfl) (by kernel_rfl) (by kernel_rfl) (fun _ _ _ h => h) (Or.inl ⟨by kernel_rfl, ?_⟩) hS ?_
  rotate_left 1
  · (intro w' hS'; go_simp; try (with_reducible rfl))
  simp only [List.setIfInBounds_toArray, List.set_cons_succ, List.set_cons_zero]
  refine takeH (i := 2) (v := ?_) rfl rfl (by kernel_rfl) (by kernel_rfl) (by kernel_rfl) (fun _ _ _ h => h) (Or.inl ⟨by kernel_rfl, ?_⟩) hS ?_
  rotate_left 1
  · (intro w' hS'; go_simp; try (with_reducible rfl))
  simp only [List.setIfInBounds_toArray, List.set_cons_succ, List.set_cons_zero]
  refine takeH (i := 3) (v := ?_) rfl rfl (by kernel_rfl) (by kernel_rfl) (by kernel_rfl) (fun _ _ _ h => h) (Or.inl ⟨by kernel_rfl, ?_⟩) hS ?_
  rotate_left 1
  · (intro w' hS'; go_simp; try (with_reducible rfl))
  simp only [List.setIfInBounds_toArray, List.set_cons_succ, List.set_cons_zero]
  refine takeH (i := 4) (v := ?_) rfl rfl (by kernel_rfl) (by kernel_rfl) (by kernel_rfl) (fun _ _ _ h => h) (Or.inl ⟨by kernel_rfl, ?_⟩) hS ?_
  rotate_left 1
  · (intro w' hS'; have c1' := hS'.cell q2; go_simp; try (with_reducible rfl))
  simp only [List.setIfInBounds_toArray, List.set_cons_succ, List.set_cons_zero]
  refine takeH (i := 6) (v := ?_) rfl rfl (by kernel_rfl) (by kernel_rfl) (by kernel_rfl) (fun _ _ _ h => h) (Or.inl ⟨by kernel_rfl, ?_⟩) hS ?_
  rotate_left 1
  · (intro w' hS'; go_simp; try (with_reducible rfl))
  simp only [List.setIfInBounds_toArray, List.set_cons_succ, List.set_cons_zero]
  refine takeH (i := 7) (v := ?_) rfl rfl (by kernel_rfl) (by kernel_rfl) (by kernel_rfl) (fun _ _ _ h => h) (Or.inl ⟨by kernel_rfl, ?_⟩) hS ?_
  rotate_left 1
  · (intro w' hS'; go_simp; try (with_reducible rfl))
  simp only [List.setIfInBounds_toArray, List.set_cons_succ, List.set_cons_zero]
  refine takeH (i := 8) (v := ?_) rfl rfl (by kernel_rfl) (by kernel_rfl) (by kernel_rfl) (fun _ _ _ h => h) (Or.inl ⟨by kernel_rfl, ?_⟩) hS ?_
  rotate_left 1
  · (intro w' hS'; go_simp; try (with_reducible rfl))
  simp only [List.setIfInBounds_toArray, List.set_cons_succ, List.set_cons_zero]
  refine takeH (i := 9) (v := ?_) rfl rfl (by kernel_rfl) (by kernel_rfl) (by kernel_rfl) (fun _ _ _ h => h) (Or.inl ⟨by kernel_rfl, ?_⟩) hS ?_
  rotate_left 1
  · (intro w' hS'; have c2' := hS'.cell q1; go_simp; try (with_reducible rfl))
  simp only [List.setIfInBounds_toArray, List.set_cons_succ, List.set_cons_zero]
  refine wpAnyH_ready (rs := [0]) (by kernel_rfl) (by simp) ?_
  refine AllReadyH.cons rfl (fun K hK => ?_) ?_
  rotate_left 1
  · exact AllReadyH.nil
  go_simp
  skip
  refine hK.out _ _ (by first | exact E3 | exact E2 | exact hS.alloc _ | exact hS) (fun hS => ?_)
  clear hK K
  refine wpAnyH_ready (rs := [5]) (by kernel_rfl) (by simp) ?_
  refine AllReadyH.cons rfl (fun K hK => ?_) ?_
  rotate_left 1
  · exact AllReadyH.nil
  refine step_append_ints rfl (.tmp 9) (.tmp 13) rfl (.slice (some ⟨w.heap.size, 0, none⟩) 0 0) [] (by simp [Act.eval]) m1 Ai I.length ci I (by simp [Act.eval]) rfl (hxi.ext e1) (by simp; omega) ?_; intro v2 w2 p2 u2 b2; have E2 : Ext w w2 := Upd.to_ext e1 u2 (by intro b hb; simp [blk] at hb; omega); have F2 : Fresh w.heap.size v2 := Fresh.of b2 (by intro g hg; simp [blk] at hg; omega) e1.size
  try go_simp
  refine hK.out _ _ (by first | exact E3 | exact E2 | exact hS.alloc _ | exact hS) (fun hS => ?_)
  clear hK K
  refine wpAnyH_ready (rs := [10]) (by kernel_rfl) (by simp) ?_
  refine AllReadyH.cons rfl (fun K hK => ?_) ?_
  rotate_left 1
  · exact AllReadyH.nil
  refine step_append_ints rfl (.tmp 14) (.tmp 18) rfl v2 ([] ++ I) (by simp [Act.eval]) p2 Aa A.length ca A (by simp [Act.eval]) rfl (hxa.ext E2) (by simp; omega) ?_; intro v3 w3 p3 u3 b3; have E3 : Ext w w3 := Upd.to_ext E2 u3 (fun b hb => F2 b hb)
  try go_simp
  refine hK.out _ _ (by first | exact E3 | exact E2 | exact hS.alloc _ | exact hS) (fun hS => ?_)
  clear hK K
  refine takeH (i := 11) (v := ?_) rfl rfl (by kernel_rfl) (by kernel_rfl) (by kernel_rfl) (fun _ _ _ h => h) (Or.inl ⟨by kernel_rfl, ?_⟩) hS ?_
  rotate_left 1
  · (intro w' hS'; go_simp; try (with_reducible rfl))
  simp only [List.setIfInBounds_toArray, List.set_cons_succ, List.set_cons_zero]
  refine wpAnyH_done (by kernel_rfl) ?_ _
  have hall : Hid (([] ++ I ++ A : List Int) = I ++ A) := rfl
  obtain ⟨B3, n3, d3, rfl⟩ := p3.slice
  obtain ⟨B3', d3', ev, _, _, hx3, _, _⟩ := p3.form
  injection ev with ev1 ev2 ev3
  rw [← ev1] at hx3
  rw [length_ints] at ev2
  obtain ⟨all, hal⟩ : ∃ all, all = I ++ A := ⟨_, rfl⟩
  rw [hall.out, ← hal] at hx3 ev2
  have HA := Lib.hid hal
  have HL := Lib.hid ev2
  have hn3 : n3 ≤ 4294967280 := by rw [ev2, hal, List.length_append]; omega
  have hyw := hy.ext E3
  clear ev1 ev2 ev3 hal p2 p3 u2 u3 b2 b3 hxa hxi hy h q0 q1 q2 qf m1 e1 hS hall F2
  go_wp2_with fail
  go_loopg [6, 7, 8] n3 (fun g i _ _ wr => ∃ (j t : Nat), j ≤ n3 ∧ n3 - j ≤ g ∧ i = .int .i64 j ∧ wr = w3.drewN t ∧ Hid ((all.take j).find? (free hl) = none))
  case atStart => exact ⟨0, 0, by omega, by omega, rfl, rfl, by unfold Hid; rfl⟩
  case round =>
    obtain ⟨j, t, hj, hg, rfl, rfl, hno⟩ := hrel
    by_cases hlt : j < n3
    · have hjn : (j : Int) < (n3 : Int) := by omega
      obtain ⟨y, hyg⟩ : ∃ y, all[j]? = some y := ⟨_, List.getElem?_eq_getElem (by rw [← HL.out]; exact hlt)⟩
      obtain ⟨b3, o3, rfl, hcell⟩ := hx3.at_ (k := j) (u := .int .i64 y) (by simp [ints, hyg])
      have HY := Lib.hid hyg
      clear hyg hx3
      go_wp2_with fail
      go_loopg [7, 8] m2 (fun g z i wr' => ∃ (r t' : Nat) (z' : Bool), r ≤ m2 ∧ m2 - r ≤ g ∧ i = .int .i64 r ∧ z = .bool z' ∧ Hid (z' = decide (y ∈ hl.take r)) ∧ wr' = w3.drewN t')
      case atStart => exact ⟨0, t, false, by omega, by omega, rfl, rfl, by unfold Hid; simp, rfl⟩
      case round =>
        obtain ⟨r, t', z, hr, hg2, rfl, rfl, hz, rfl⟩ := hrel
        by_cases hlr : r < m2
        · have hrm : (r : Int) < (m2 : Int) := by omega
          obtain ⟨h, hhg⟩ : ∃ h, hl[r]? = some h := ⟨_, List.getElem?_eq_getElem (by rw [H2.out]; exact hlr)⟩
          have hts : Hid (∀ z, z ∈ hl.take (r + 1) ↔ (z ∈ hl.take r ∨ z = h)) := fun z => by
            have hl' : r < hl.length := by rw [H2.out]; exact hlr
            rw [List.take_succ_eq_append_getElem hl', List.mem_append, List.mem_singleton]
            rw [List.getElem?_eq_getElem hl'] at hhg
            rw [Option.some.inj hhg]
          cases z with
          | true =>
            clear hhg
            go_wp2_with fail
            go_quiet (fail)
            go_wp2_with fail
            go_roundg (m2 - (r + 1))
            case measure => omega
            case rel =>
              refine ⟨r + 1, t' + nq, true, by omega, by omega, by go_num, rfl, ?_, by simp [World.drewN]⟩
              unfold Hid
              rw [eq_comm, decide_eq_true_iff, hts.out]
              exact .inl (of_decide_eq_true hz.out.symm)
          | false =>
            obtain ⟨b6, o6, rfl, hcell6⟩ := hyw.at_ (k := r) (u := .int .i64 h) (by simp [ints, hhg])
            clear hhg hyw
            go_wp2_with fail
            go_quiet (fail)
            go_wp2_with fail
            go_roundg (m2 - (r + 1))
            case measure => omega
            case rel =>
              refine ⟨r + 1, t' + nq, decide (h = y), by omega, by omega, by go_num, val_bool (by simp [Bool.beq_eq_decide_eq]), ?_, by simp [World.drewN]⟩
              unfold Hid
              have hn := of_decide_eq_false hz.out.symm
              have := hts.out y
              by_cases e : h = y
              · subst e
                rw [decide_eq_true rfl, eq_comm, decide_eq_true_iff, this]
                exact .inr rfl
              · rw [decide_eq_false e, eq_comm, decide_eq_false_iff_not, this]
                rintro (h2 | h2)
                · exact hn h2
                · exact e h2.symm
        · obtain rfl : r = m2 := by omega
          rw [← H2.out, List.take_length] at hz
          cases z with
          | true =>
            go_wp2_with fail
            go_roundg (n3 - (j + 1))
            case measure => omega
            case rel =>
              refine ⟨j + 1, t', by omega, by omega, by go_num, rfl, ?_⟩
              exact find_take_next hno.out HY.out (by rw [free, ← hz.out]; rfl)
          | false =>
            go_wp2_with fail
            go_ret
            refine ⟨ret_int ?_, E3.drewN t'⟩
            unfold victim
            rw [← HA.out, find_take_hit hno.out HY.out (by rw [free, ← hz.out]; rfl)]
            rfl
    · obtain rfl : j = n3 := by omega
      rw [HL.out, List.take_length] at hno
      go_wp2_with fail
      go_ret
      refine ⟨ret_int ?_, E3.drewN t⟩
      unfold victim
      rw [← HA.out, hno.out]
      rfl
end Go.Proofs.Ytghkkhafnkkomaa
