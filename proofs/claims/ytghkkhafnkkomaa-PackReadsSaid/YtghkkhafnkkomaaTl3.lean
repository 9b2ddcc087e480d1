/- The two lists: Victim. -/
import Derived.Test.YtghkkhafnkkomaaTl2
namespace Go.Proofs.Ytghkkhafnkkomaa
open Go.RowKit
open Go.Proofs

theorem index_0 (x y : Value) (w : World) : (Instr.index 88 (.agg #[x, y]) (.int .i64 0)).run Try.prog w = .ok x w := by
  simp [Instr.index, asIntOf, run_underlying Try.underlying88, go_sem]
theorem index_1 (x y : Value) (w : World) : (Instr.index 88 (.agg #[x, y]) (.int .i64 1)).run Try.prog w = .ok y w := by
  simp [Instr.index, asIntOf, run_underlying Try.underlying88, go_sem]

set_option maxRecDepth 100000 in
theorem f19_any (k : Nat) (F : Nat → Prop) (n : Int) (A I : List Int) (H : Option Addr) (held : List Int) (c : Nat) (w : World) (hL : A.length + I.length ≤ 4294967290) (hm : held.length ≤ 9223372036854775807)
    (h : TL w 85 k F n A I) (hx : Cells w H (ints held)) :
    Calls Try.prog 19 #[.pointer (some ⟨k, 0, none⟩), .slice H held.length c] w fun e w' => e = .returned (.int .i64 (victim held A I)) ∧ Ext w w' := by
  obtain ⟨va, vi, h⟩ := h
  obtain ⟨m, hmm⟩ : ∃ m, m = held.length := ⟨_, rfl⟩
  obtain ⟨p, hp⟩ : ∃ p, p = free held := ⟨_, rfl⟩
  have hP := f60_any w.heap.size H held c (w.alloc (.cells #[.slice H held.length c] 22)) (by simp) (by simp) hm (hx.alloc _)
  have hext : Ext w (w.alloc (.cells #[.slice H held.length c] 22)) := (Ext.refl w).alloc _
  have hB := h.ext hext
  rw [← hmm] at *
  rw [← hp] at hP
  unfold victim
  rw [← hp]
  clear hm hmm hp h hx
  obtain ⟨c0, c1, c2, hf⟩ := hB.cells
  obtain ⟨Aa, ca, rfl, hca, _, hxa, _, _⟩ := hB.act.form
  obtain ⟨Ai, ci, rfl, hci, _, hxi, _, _⟩ := hB.ina.form
  simp only [length_ints] at *
  have eg : ∀ args w, (callFunc 60 args).run Try.prog w = .ok (.enter 60 args) w := enters_of Try.func60 (by kernel_rfl) rfl
  go_enter Try.func19, Try.ntmps19
  go_wp2_with fail
  go_quiet (fail)
  have hE : Ext w ((w.alloc (.cells #[.slice H m c] 22)).drewN nq) := hext.drewN nq
  have hF : Ext (w.alloc (.cells #[.slice H m c] 22)) ((w.alloc (.cells #[.slice H m c] 22)).drewN nq) := (Ext.refl _).drewN nq
  generalize (w.alloc (.cells #[.slice H m c] 22)).drewN nq = wq at *
  go_wp2_with fail
  go_loopg [19] 2 (fun g s19 wr => ∃ j : Int, (j = 0 ∨ j = 1 ∨ j = 2) ∧ 2 - j.toNat ≤ g ∧ s19 = .int .i64 j ∧ Ext w wr ∧ Ext (w.alloc (.cells #[.slice H m c] 22)) wr ∧ Hid (0 < j → I.find? p = none) ∧ Hid (1 < j → A.find? p = none))
  case atStart => exact ⟨0, .inl rfl, by decide, rfl, hE, hF, fun h => absurd h (by omega), fun h => absurd h (by omega)⟩
  case round =>
    obtain ⟨j, hjj, hg, rfl, h1, h2, N1, N2⟩ := hrel
    have hxa' := hxa.ext h2
    have hxi' := hxi.ext h2
    have hP' := hP.later h2
    clear hxa hxi hP c0 c1 c2 hf hB
    have x0 := index_0 (.slice Ai I.length ci) (.slice Aa A.length ca) wr
    have x1 := index_1 (.slice Ai I.length ci) (.slice Aa A.length ca) wr
    rcases hjj with rfl | rfl | rfl
    · cases hfi : I.find? p with
      | none =>
        have HC := indexFunc_ints 60 _ p eg Ai I ci wr hP' (by omega) hxi'
        rw [Lib.idxBy, idx_none p I 0 default hfi] at HC
        have N3 := Lib.hid hfi
        clear hfi
        go_wp2_with (go_at_call 62; refine HC.mono ?_; rintro e w1 ⟨rfl, q1, rfl⟩)
        go_roundg 1
        case measure => simp at hg; omega
        case rel => exact ⟨1, .inr (.inl rfl), by decide, rfl, h1.drewN q1, h2.drewN q1, fun _ => N3.out, fun h => absurd h (by omega)⟩
      | some y =>
        obtain ⟨kk, hk1, hk2, hk3⟩ := idx_some p I 0 default y hfi
        obtain ⟨b, o, rfl, hcell⟩ := hxi'.at_ (k := kk) (u := .int .i64 y) (by simp [ints, hk2])
        have HC := indexFunc_ints 60 _ p eg (some ⟨b, o, none⟩) I ci wr hP' (by omega) hxi'
        rw [Lib.idxBy, hk3, Nat.zero_add] at HC
        have hkz : (0 : Int) ≤ (kk : Int) := by omega
        have hkl : (kk : Int) < (I.length : Int) := by omega
        have N3 := Lib.hid hfi
        clear hfi hk3 hk2 hxi'
        go_wp2_with (go_at_call 62; refine HC.mono ?_; rintro e w1 ⟨rfl, q1, rfl⟩)
        go_ret
        refine ⟨ret_int ?_, h1.drewN q1⟩
        rw [List.find?_append, N3.out]
        rfl
    · cases hfi : A.find? p with
      | none =>
        have HC := indexFunc_ints 60 _ p eg Aa A ca wr hP' (by omega) hxa'
        rw [Lib.idxBy, idx_none p A 0 default hfi] at HC
        have N3 := Lib.hid hfi
        clear hfi
        go_wp2_with (go_at_call 62; refine HC.mono ?_; rintro e w1 ⟨rfl, q1, rfl⟩)
        go_roundg 0
        case measure => simp at hg; omega
        case rel => exact ⟨2, .inr (.inr rfl), by decide, rfl, h1.drewN q1, h2.drewN q1, fun _ => N1.out (by omega), fun _ => N3.out⟩
      | some y =>
        obtain ⟨kk, hk1, hk2, hk3⟩ := idx_some p A 0 default y hfi
        obtain ⟨b, o, rfl, hcell⟩ := hxa'.at_ (k := kk) (u := .int .i64 y) (by simp [ints, hk2])
        have HC := indexFunc_ints 60 _ p eg (some ⟨b, o, none⟩) A ca wr hP' (by omega) hxa'
        rw [Lib.idxBy, hk3, Nat.zero_add] at HC
        have hkz : (0 : Int) ≤ (kk : Int) := by omega
        have hkl : (kk : Int) < (A.length : Int) := by omega
        have N3 := Lib.hid hfi
        clear hfi hk3 hk2 hxa'
        go_wp2_with (go_at_call 62; refine HC.mono ?_; rintro e w1 ⟨rfl, q1, rfl⟩)
        go_ret
        refine ⟨ret_int ?_, h1.drewN q1⟩
        rw [List.find?_append, N1.out (by omega), N3.out]
        rfl
    · go_wp2_with fail
      go_ret
      refine ⟨ret_int ?_, h1⟩
      rw [List.find?_append, N1.out (by omega), N2.out (by omega)]
      rfl
end Go.Proofs.Ytghkkhafnkkomaa
