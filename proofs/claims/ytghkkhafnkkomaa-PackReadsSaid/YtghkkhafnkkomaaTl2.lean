/- The two lists: Add, Touch, Remove, Active, Inactive and Victim. -/
import Derived.Test.YtghkkhafnkkomaaTl
namespace Go.Proofs.Ytghkkhafnkkomaa
open Go.RowKit
open Go.Proofs

def tAdd (n x : Int) (A I : List Int) : List Int × List Int := if 0 ≤ x ∧ x < n then even (A.erase x) (I.erase x ++ [x]) else (A, I)
def tTouch (n x : Int) (A I : List Int) : List Int × List Int := if (0 ≤ x ∧ x < n) ∧ (x ∈ A ∨ x ∈ I) then even (A.erase x ++ [x]) (I.erase x) else (A, I)
def tRemove (x : Int) (A I : List Int) : List Int × List Int := even (A.erase x) (I.erase x)

theorem erase_le (l : List Int) (x : Int) : (l.erase x).length ≤ l.length := List.length_erase_le

set_option maxRecDepth 100000 in
theorem f30_any (k : Nat) (F : Nat → Prop) (n x : Int) (A I : List Int) (w : World) (hL : A.length + I.length ≤ 4294967290) (h : TL w 85 k F n A I) :
    Calls Try.prog 30 #[.pointer (some ⟨k, 0, none⟩), .int .i64 x] w fun e w' => e = .returned (.tuple #[]) ∧ TL w' 85 k (Since F w w') n (tRemove x A I).1 (tRemove x A I).2 ∧ Upd F w w' := by
  have HL := f58_any k F n x A I w (by omega) (by omega) h
  have hA := erase_le A x
  have hI := erase_le I x
  go_enter Try.func30, Try.ntmps30
  go_wp2_with (first
    | (go_at_call 58; refine HL.mono ?_; clear HL; rintro e w1 ⟨rfl, t1, u1⟩; have HE := f59_any k _ n _ _ w1 (by omega) t1)
    | (go_at_call 59; refine HE.mono ?_; clear HE; rintro e w2 ⟨rfl, t2, u2⟩))
  go_end0
  exact ⟨rfl, t2.then u1 u2, u1.then u2⟩

set_option maxRecDepth 100000 in
theorem f17_any (k : Nat) (F : Nat → Prop) (n x : Int) (A I : List Int) (w : World) (hL : A.length + I.length ≤ 4294967290) (h : TL w 85 k F n A I) :
    Calls Try.prog 17 #[.pointer (some ⟨k, 0, none⟩), .int .i64 x] w fun e w' => e = .returned (.tuple #[]) ∧ TL w' 85 k (Since F w w') n (tAdd n x A I).1 (tAdd n x A I).2 ∧ Upd F w w' := by
  have HT := f57_any k F n x A I w h
  unfold tAdd
  by_cases hin : 0 ≤ x ∧ x < n
  · rw [if_pos hin]
    rw [decide_eq_true hin.1, decide_eq_true hin.2] at HT
    have HL := f58_any k F n x A I w (by omega) (by omega) h
    have hA := erase_le A x
    have hI := erase_le I x
    have HX := Lib.hid hin
    clear hin
    go_enter Try.func17, Try.ntmps17
    go_wp2_with (first
      | (go_at_call 57; refine HT.mono ?_; clear HT; rintro e w1 ⟨rfl, rfl⟩)
      | (go_at_call 58; refine HL.mono ?_; clear HL; rintro e w1 ⟨rfl, t1, u1⟩; obtain ⟨va, vi, t1⟩ := t1; obtain ⟨c0, c1, c2, hf⟩ := t1.cells; have tX := t1.ext ((Ext.refl w1).alloc (.cells #[.int .i64 x] 3)); have uX := u1.alloc (.cells #[.int .i64 x] 3))
      | (at_builtin; refine wpList_append_int rfl (.tmp 14) (.tmp 16) rfl vi (I.erase x) rfl tX.ina (some ⟨w1.heap.size, 0, none⟩) 1 x rfl (Cells.new1 w1 (.int .i64 x) 3) (by omega) ?_; intro v2 w2 m2 u2 b2; obtain ⟨B2, n2, d2, rfl⟩ := m2.slice; obtain ⟨p0, p1, p2, pf⟩ := tX.kept u2 (fun e => (tX.bi k e).2 rfl); obtain ⟨t2, s2⟩ := tX.setI u2 m2 b2; have HE := f59_any k _ n _ _ _ (by simp only [List.length_append, List.length_cons, List.length_nil]; omega) ⟨_, _, t2⟩)
      | (go_at_call 59; refine HE.mono ?_; clear HE; rintro e w3 ⟨rfl, t3, u3⟩))
    go_end0
    refine ⟨rfl, t3.mono (fun b hb => since_three hb u1.size (by simp) u2.size (by simp) u3.size (Nat.le_refl _)), (uX.then' s2).then3 u3 uX.size⟩
  · rw [if_neg hin]
    have hd : (decide (0 ≤ x) && decide (x < n)) = false := by simp; omega
    rw [hd] at HT
    clear hd hin
    go_enter Try.func17, Try.ntmps17
    go_wp2_with (go_at_call 57; refine HT.mono ?_; clear HT; rintro e w1 ⟨rfl, rfl⟩)
    go_end0
    exact ⟨rfl, h.since _, Upd.refl _ _⟩
set_option maxRecDepth 100000 in
theorem f18_any (k : Nat) (F : Nat → Prop) (n x : Int) (A I : List Int) (w : World) (hL : A.length + I.length ≤ 4294967290) (h : TL w 85 k F n A I) :
    Calls Try.prog 18 #[.pointer (some ⟨k, 0, none⟩), .int .i64 x] w fun e w' => e = .returned (.tuple #[]) ∧ TL w' 85 k (Since F w w') n (tTouch n x A I).1 (tTouch n x A I).2 ∧ Upd F w w' := by
  have HT := f57_any k F n x A I w h
  unfold tTouch
  by_cases hin : 0 ≤ x ∧ x < n
  · rw [decide_eq_true hin.1, decide_eq_true hin.2] at HT
    have HL := f58_any k F n x A I w (by omega) (by omega) h
    have hA := erase_le A x
    have hI := erase_le I x
    by_cases hm : x ∈ A ∨ x ∈ I
    · rw [if_pos ⟨hin, hm⟩]
      have hd : (decide (x ∈ A) || decide (x ∈ I)) = true := by simpa using hm
      rw [hd] at HL
      clear hin hm hd
      go_enter Try.func18, Try.ntmps18
      go_wp2_with (first
        | (go_at_call 57; refine HT.mono ?_; clear HT; rintro e w1 ⟨rfl, rfl⟩)
        | (go_at_call 58; refine HL.mono ?_; clear HL; rintro e w1 ⟨rfl, t1, u1⟩; obtain ⟨va, vi, t1⟩ := t1; obtain ⟨c0, c1, c2, hf⟩ := t1.cells; have tX := t1.ext ((Ext.refl w1).alloc (.cells #[.int .i64 x] 3)); have uX := u1.alloc (.cells #[.int .i64 x] 3))
        | (at_builtin; refine wpList_append_int rfl (.tmp 16) (.tmp 18) rfl va (A.erase x) rfl tX.act (some ⟨w1.heap.size, 0, none⟩) 1 x rfl (Cells.new1 w1 (.int .i64 x) 3) (by omega) ?_; intro v2 w2 m2 u2 b2; obtain ⟨B2, n2, d2, rfl⟩ := m2.slice; obtain ⟨p0, p1, p2, pf⟩ := tX.kept u2 (fun e => (tX.ba k e).2.1 rfl); obtain ⟨t2, s2⟩ := tX.setA u2 m2 b2; have HE := f59_any k _ n _ _ _ (by simp only [List.length_append, List.length_cons, List.length_nil]; omega) ⟨_, _, t2⟩)
        | (go_at_call 59; refine HE.mono ?_; clear HE; rintro e w3 ⟨rfl, t3, u3⟩))
      go_end0
      refine ⟨rfl, t3.mono (fun b hb => since_three hb u1.size (by simp) u2.size (by simp) u3.size (Nat.le_refl _)), (uX.then' s2).then3 u3 uX.size⟩
    · rw [if_neg (fun e => hm e.2)]
      have hd : (decide (x ∈ A) || decide (x ∈ I)) = false := by simpa using hm
      have e1 : A.erase x = A := List.erase_of_not_mem (fun e => hm (.inl e))
      have e2 : I.erase x = I := List.erase_of_not_mem (fun e => hm (.inr e))
      rw [hd, e1, e2] at HL
      clear hin hm hd e1 e2
      go_enter Try.func18, Try.ntmps18
      go_wp2_with (first
        | (go_at_call 57; refine HT.mono ?_; clear HT; rintro e w1 ⟨rfl, rfl⟩)
        | (go_at_call 58; refine HL.mono ?_; clear HL; rintro e w1 ⟨rfl, t1, u1⟩))
      go_end0
      exact ⟨rfl, t1, u1⟩
  · rw [if_neg (fun e => hin e.1)]
    have hd : (decide (0 ≤ x) && decide (x < n)) = false := by simp; omega
    rw [hd] at HT
    clear hd hin
    go_enter Try.func18, Try.ntmps18
    go_wp2_with (go_at_call 57; refine HT.mono ?_; clear HT; rintro e w1 ⟨rfl, rfl⟩)
    go_end0
    exact ⟨rfl, h.since _, Upd.refl _ _⟩

set_option maxRecDepth 100000 in
theorem f20_any (k : Nat) (F : Nat → Prop) (n : Int) (A I : List Int) (w : World) (hL : A.length ≤ 4294967290) (h : TL w 85 k F n A I) :
    Calls Try.prog 20 #[.pointer (some ⟨k, 0, none⟩)] w fun e w' => ∃ v, e = .returned v ∧ Own w' w.heap.size 3 v (ints A) ∧ Ext w w' := by
  obtain ⟨va, vi, h⟩ := h
  obtain ⟨c0, c1, c2, hf⟩ := h.cells
  obtain ⟨Aa, ca, rfl, hca, _, hxa, _, _⟩ := h.act.form
  have hm := h.act
  rw [length_ints] at *
  have HC := clone_ints Aa A ca w (by omega) hm
  go_enter Try.func20, Try.ntmps20
  go_wp2_with (go_at_call 63; refine HC.mono ?_; rintro e w1 ⟨v, rfl, h1, h2⟩)
  go_ret
  exact ⟨_, rfl, h1, h2⟩
set_option maxRecDepth 100000 in
theorem f21_any (k : Nat) (F : Nat → Prop) (n : Int) (A I : List Int) (w : World) (hL : I.length ≤ 4294967290) (h : TL w 85 k F n A I) :
    Calls Try.prog 21 #[.pointer (some ⟨k, 0, none⟩)] w fun e w' => ∃ v, e = .returned v ∧ Own w' w.heap.size 3 v (ints I) ∧ Ext w w' := by
  obtain ⟨va, vi, h⟩ := h
  obtain ⟨c0, c1, c2, hf⟩ := h.cells
  obtain ⟨Aa, ca, rfl, hca, _, hxa, _, _⟩ := h.ina.form
  have hm := h.ina
  rw [length_ints] at *
  have HC := clone_ints Aa I ca w (by omega) hm
  go_enter Try.func21, Try.ntmps21
  go_wp2_with (go_at_call 63; refine HC.mono ?_; rintro e w1 ⟨v, rfl, h1, h2⟩)
  go_ret
  exact ⟨_, rfl, h1, h2⟩

/-- Is it held by nobody? -/
def free (held : List Int) (y : Int) : Bool := !decide (y ∈ held)
def victim (held A I : List Int) : Int := ((I ++ A).find? (free held)).getD (-1)

set_option maxRecDepth 100000 in
theorem f60_any (B : Nat) (H : Option Addr) (held : List Int) (c : Nat) (w : World) (hB : B < w.heap.size) (hc : w.cell? ⟨B, 0, none⟩ = some (.slice H held.length c)) (hm : held.length ≤ 9223372036854775807) (hx : Cells w H (ints held)) :
    PredAt Try.prog 60 #[.pointer (some ⟨B, 0, none⟩)] (Value.int .i64) (free held) w := fun W x hb => by
  have hc' : W.cell? ⟨B, 0, none⟩ = some (.slice H held.length c) := (hb.cell (p := ⟨B, 0, none⟩) hB).trans hc
  have HC := contains_ints H held c x W hm (hx.ext hb)
  unfold FnGives free
  clear hc hx hb
  go_enter Try.func60, Try.ntmps60
  go_wp2_with (go_at_call 61; refine HC.mono ?_; rintro e w' ⟨rfl, rfl⟩)
  go_ret
  exact ⟨rfl, 0, rfl⟩

theorem idx_none (p : Int → Bool) : ∀ (l : List Int) (i : Nat) (d : Int), l.find? p = none → Lib.idxByFrom (fun _ y => p y) d l i = -1
  | [], _, _, _ => rfl
  | y :: r, i, d, h => by
    rw [List.find?_cons] at h
    cases hp : p y with
    | true => rw [hp] at h; cases h
    | false => rw [hp] at h; simp only [Lib.idxByFrom, hp]; exact idx_none p r (i + 1) d h
theorem idx_some (p : Int → Bool) : ∀ (l : List Int) (i : Nat) (d x : Int), l.find? p = some x → ∃ k, k < l.length ∧ l[k]? = some x ∧ Lib.idxByFrom (fun _ y => p y) d l i = ((i + k : Nat) : Int)
  | [], _, _, _, h => by cases h
  | y :: r, i, d, x, h => by
    rw [List.find?_cons] at h
    cases hp : p y with
    | true => rw [hp] at h; cases h; exact ⟨0, by simp, rfl, by simp [Lib.idxByFrom, hp]⟩
    | false =>
      rw [hp] at h
      obtain ⟨k, h1, h2, h3⟩ := idx_some p r (i + 1) d x h
      exact ⟨k + 1, by simp; omega, by simpa using h2, by simp only [Lib.idxByFrom, hp]; rw [if_neg (by simp), h3]; omega⟩
end Go.Proofs.Ytghkkhafnkkomaa
