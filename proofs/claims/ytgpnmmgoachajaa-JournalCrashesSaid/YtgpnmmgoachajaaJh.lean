/- stained: has one of some sectors an epoch? -/
import Derived.Test.YtgpnmmgoachajaaJq
namespace Go.Proofs.Ytgpnmmgoachajaa
open Go.RowKit Go.Shelf
open Go.Proofs
attribute [local go_sem] Oper.semAt_some

def secAt (l : List UInt8) (x : Nat) : List UInt8 := (l.drop (128 * x)).take 128
/-- Has one of the first sectors this epoch? -/
def stain (l : List UInt8) (e : Nat) (n : Nat) : Bool := (List.range n).any fun x => epOf (secAt l x) == e

/-- The world where the loop begins. -/
abbrev stnW (w : World) (e : Nat) (A : Option Addr) (m c : Nat) : World :=
  (((w.alloc (.cells #[.int .i64 (e : Int)] 3)).alloc (.cells #[.bool false] 4)).alloc (.cells #[.slice A m c] 22)).alloc (.cells #[.int .i64 128] 3)
def StnI (w : World) (e : Nat) (A : Option Addr) (m c : Nat) (W : World) : Prop :=
  ((Boxed W w.heap.size 3 (.int .i64 (e : Int)) ∧ Boxed W (w.heap.size + 1) 4 (.bool false)) ∧ (Boxed W (w.heap.size + 1 + 1) 22 (.slice A m c) ∧ Boxed W (w.heap.size + 1 + 1 + 1) 3 (.int .i64 128))) ∧ Below w.heap.size w W
theorem stnI_own {w : World} {e : Nat} {A : Option Addr} {m c B : Nat} (hB : w.heap.size ≤ B) : OwnFrom B (fun (_ : List Nat) W => StnI w e A m c W) :=
  OwnFrom.and (OwnFrom.and (OwnFrom.and (Own.from (boxed_own _ _ (fun _ => .int .i64 (e : Int))) _) (Own.from (boxed_own _ _ (fun _ => .bool false)) _)) (OwnFrom.and (Own.from (boxed_own _ _ (fun _ => .slice A m c)) _) (Own.from (boxed_own _ _ (fun _ => .int .i64 128)) _))) (ownFrom_below (Nat.le_refl _) hB)
theorem stnI_start (w : World) (e : Nat) (A : Option Addr) (m c : Nat) : StnI w e A m c (stnW w e A m c) := by
  refine ⟨⟨⟨?_, ?_⟩, ⟨?_, ?_⟩⟩, ?_⟩
  all_goals first
    | (simp only [Boxed, stnW, World.alloc, Array.getElem?_push, Array.size_push]; simp; done)
    | exact (((Boxed.new w _ _).alloc _).alloc _).alloc _
    | exact ((((Ext.refl w).alloc _).alloc _).alloc _).alloc _
theorem ret_one {fn : Func} {p : Tmp} (h : fn.results = #[.cell p 4]) (tmps : Array Value) (w : World) (a : Nat) (v : Value) (hp : tmps.getD p undef = .pointer (some ⟨a, 0, none⟩)) (ha : Boxed w a 4 v) : (results fn tmps).run Try.prog w = .ok v w := by
  have h1 := ha.cell
  have l1 : (loadVar 4 ⟨a, 0, none⟩).run Try.prog w = .ok v w := by go_simp
  rw [Array.getD_eq_getD_getElem?] at hp
  simp only [results, h]
  simp [hp, asAddr, l1]

set_option maxRecDepth 100000 in
set_option maxHeartbeats 4000000 in
theorem stained_any (A : Option Addr) (l : List UInt8) (n m c e : Nat) (w : World) (hl : l.length = m) (hm : m = 128 * n) (hn : n ≤ 65536) (hc : m ≤ c) (hx : Octs w A l) :
    Calls Try.prog 62 #[.slice A m c, .int .i64 (e : Int)] w fun x w' => x = .returned (.bool (stain l e n)) ∧ Ext w w' := by
  have HM := Lib.hid hm
  have HLL := Lib.hid hl
  clear hm hl
  refine (callsIn_wide (n := 3)).1 ?_
  refine callsIn_of_wp_marks Try.func62 rfl trivial ?_ rfl
  simp only [Try.ntmps62, List.size_toArray, List.length_cons, List.length_nil, Nat.reduceAdd, Nat.reduceSub, Array.replicate_succ, Array.replicate_zero, List.push_toArray, List.append_toArray, List.nil_append, List.cons_append]
  gi_wp2_with (refine ⟨trivial, ?_⟩; gi_at_call 48; refine (callsIn_wide.2 (chunk8_any A m c _)).mono ?_; rintro e w' ⟨rfl, rfl⟩)
  obtain ⟨W0, hW0⟩ : ∃ W0, W0 = stnW w e A m c := ⟨_, rfl⟩
  have hI0 := stnI_start w e A m c
  have hsz : (stnW w e A m c).heap.size = w.heap.size + 4 := by simp [stnW]
  show Code.wpIn Fence.wide 3 Try.prog _ _ _ (stnW w e A m c)
  rw [← hW0] at hI0 hsz ⊢
  clear hW0
  obtain ⟨f, hf⟩ : ∃ f : Nat → Nat, f = fun x => if x < n then x else 0 := ⟨_, rfl⟩
  have hf1 : ∀ x, x < n → f x = x := fun x hx => by rw [hf]; exact if_pos hx
  have hf2 : ∀ x, 0 < n → f x < n := fun x h0 => by
    rw [hf]
    show (if x < n then x else 0) < n
    split
    · assumption
    · exact h0
  have hN : (m + 127) / 128 = n := by have := HM.out; omega
  clear hf
  refine wpIn_rangeFunc_ownG rfl (by decide) (gf := 63) (lb := #[.pointer (some ⟨w.heap.size + 1 + 1, 0, none⟩), .pointer (some ⟨w.heap.size + 1 + 1 + 1, 0, none⟩)]) rfl trivial (enters_of Try.func63 (by kernel_rfl) rfl)
    (chunk8_stops f (3 - 1) (w.heap.size + 1 + 1) A m c W0 (by omega) (by have := HM.out; omega) hc (by decide) (fun x hx => hf1 x (by omega)) hI0.1.2.1 hI0.1.2.2) kdB_t (kdB_b (by omega)) (Below.refl _ _) (fun _ => rfl)
    (fun pre W => (∀ x ∈ pre, epOf (secAt l (f x)) ≠ e) ∧ StnI w e A m c W) (fun k _ W => k = .ret ∧ ((∃ x, x < n ∧ epOf (secAt l x) = e) ∧ (Boxed W (w.heap.size + 1) 4 (.bool true) ∧ Below w.heap.size w W)))
    (OwnFrom.and (ownFrom_pure _ (fun pre => ∀ x ∈ pre, epOf (secAt l (f x)) ≠ e)) (stnI_own (by omega))) (fun k => OwnFrom.and (ownFrom_pure _ (fun _ => k = .ret)) (OwnFrom.and (ownFrom_pure _ (fun _ => ∃ x, x < n ∧ epOf (secAt l x) = e)) (OwnFrom.and (Own.from (boxed_own _ _ (fun _ => .bool true)) _) (ownFrom_below (Nat.le_refl _) (by omega))))) ⟨fun x h => (by cases h), hI0⟩
    (fun x => { tmps := #[.slice A m c, .int .i64 (e : Int), undef, .pointer (some ⟨w.heap.size, 0, none⟩), .pointer (some ⟨w.heap.size + 1, 0, none⟩), dhV A m (f x), .slice A m c, .func (.func 63) #[] #[.pointer (some ⟨w.heap.size + 1 + 1, 0, none⟩), .pointer (some ⟨w.heap.size + 1 + 1 + 1, 0, none⟩)], dhV A m (f x), undef, undef, undef, undef, undef], defers := [] }) ?assign ?body ?done ?stop
  case assign =>
    intro k x W Kk hKk
    gi_wp2
    exact hKk
  case body =>
    rintro k pre x W ⟨hp, ⟨⟨hE, hR⟩, ⟨hS1, hC⟩⟩, hB⟩ hlt
    rw [hN] at hlt
    have hyn : f x < n := hf2 x (by omega)
    have hsW : w.heap.size ≤ W.heap.size := hB.size
    obtain ⟨y, hy⟩ : ∃ y, y = f x := ⟨_, rfl⟩
    rw [← hy] at hyn ⊢
    obtain ⟨D, hD⟩ : ∃ D, D = (l.drop (128 * y)).take 128 := ⟨_, rfl⟩
    have hDl : D.length = 128 := by rw [hD, List.length_take, List.length_drop, HLL.out]; have := HM.out; omega
    have hch := dh_octs (hx.ext hB) y
    rw [← hD] at hch
    have hNy : dhN m y = 128 := by unfold dhN; have := HM.out; omega
    have hV : dhV A m y = .slice (dhA A y) 128 128 := by show Value.slice (dhA A y) (dhN m y) (dhN m y) = _; rw [hNy]
    rw [hV]
    have hen : epOf (secAt l y) = epOf D := by unfold secAt; rw [← hD]
    generalize dhA A y = A' at *
    obtain ⟨A1, k1, _, o1, _⟩ := cut_mid A' D 128 1 5 (by omega) (by omega) (by omega)
    rw [hDl] at k1
    have k1 : ∀ w, (Instr.slice 22 (.slice A' 128 128) (some (.int .i64 1)) (some (.int .i64 5)) none).run Try.prog w = .ok (.slice A1 4 127) w := k1
    have o1 := o1 W hch
    have g4 : ((D.drop 1).take 4).length = 4 := by rw [List.length_take, List.length_drop]; omega
    obtain ⟨E2, hE2⟩ : ∃ E2, E2 = epOf D := ⟨_, rfl⟩
    have hget : ∀ W', Ext W W' → Calls Try.prog 73 #[.slice A1 4 127] W' fun e w' => e = .returned (.int .i64 (E2 : Int)) ∧ W' = w' := fun W' x => by
      have := f133_n A1 ((D.drop 1).take 4) 4 127 W' g4 (by omega) (by omega) (o1.ext x)
      rw [List.take_of_length_le (by omega : ((D.drop 1).take 4).length ≤ 8), i64of_small _ (by have := epOf_lt D; unfold epOf at this; omega)] at this
      rw [hE2]
      exact this
    have c0 := hE.cell
    have c1 := hR.cell
    have f1 := hR.frozen
    clear hD hDl hch hNy hV o1 g4
    by_cases he : E2 = e
    · have hq : ((E2 : Int) == (e : Int)) = true := by rw [beq_iff_eq]; omega
      have hx2 : ∃ x, x < n ∧ epOf (secAt l x) = e := ⟨y, hyn, by rw [hen, ← hE2]; exact he⟩
      clear he hE2 hen
      gi_wp2
      refine region_inRound (S := fun w' => Ext W w') (by kernel_rfl) (fun ⟨_, _, h⟩ => h) (by kernel_rfl) ((Ext.refl _).drew) (fun hS => ?_)
      refine takeH (i := 0) (v := ?_) rfl rfl (by kernel_rfl) (by kernel_rfl) (by kernel_rfl) (fun _ _ _ h => h) (Or.inl ⟨by kernel_rfl, ?_⟩) hS ?_
      rotate_left 1
      · (intro w' hS'; go_simp; try (with_reducible rfl))
      simp only [List.setIfInBounds_toArray, List.set_cons_succ, List.set_cons_zero]
      refine takeH (i := 1) (v := ?_) rfl rfl (by kernel_rfl) (by kernel_rfl) (by kernel_rfl) (fun _ _ _ h => h) (Or.inl ⟨by kernel_rfl, ?_⟩) hS ?_
      rotate_left 1
      · (intro w' hS'; have k1 := k1 w'; go_simp; try (with_reducible rfl))
      simp only [List.setIfInBounds_toArray, List.set_cons_succ, List.set_cons_zero]
      refine takeH (i := 3) (v := ?_) rfl rfl (by kernel_rfl) (by kernel_rfl) (by kernel_rfl) (fun _ _ _ h => h) (Or.inl ⟨by kernel_rfl, ?_⟩) hS ?_
      rotate_left 1
      · (intro w' hS'; have c0 := hS'.cell c0; go_simp; try (with_reducible rfl))
      simp only [List.setIfInBounds_toArray, List.set_cons_succ, List.set_cons_zero]
      refine wpAnyH_ready (rs := [2]) (by kernel_rfl) (by simp) ?_
      refine AllReadyH.cons rfl (fun K hK => ?_) ?_
      rotate_left 1
      · exact AllReadyH.nil
      go_simp
      refine (hget _ ((Ext.refl _).drew)).mono ?_; clear hget; rintro e1 w6 ⟨rfl, rfl⟩
      refine hK.out _ _ (hS) (fun hS => ?_)
      clear hK K
      refine takeH (i := 4) (v := ?_) rfl rfl (by kernel_rfl) (by kernel_rfl) (by kernel_rfl) (fun _ _ _ h => h) (Or.inl ⟨by kernel_rfl, ?_⟩) hS ?_
      rotate_left 1
      · (intro w' hS'; go_simp; try (with_reducible rfl))
      simp only [List.setIfInBounds_toArray, List.set_cons_succ, List.set_cons_zero]
      refine wpAnyH_done (by kernel_rfl) ?_ _
      gi_wp2
      exact ⟨((keeps_ext ((Ext.refl W).drew)).trans (KeepsOthers.setCell _ _ _)).from _, rfl, hx2, hR.set _, (hB.drew).setCell (p := ⟨w.heap.size + 1, 0, none⟩) (by show w.heap.size ≤ w.heap.size + 1; omega) _⟩
    · have hq : ((E2 : Int) == (e : Int)) = false := by rw [beq_eq_false_iff_ne]; omega
      have hp2 : ∀ z ∈ pre ++ [x], epOf (secAt l (f z)) ≠ e := fun z hz => by
        rw [List.mem_append, List.mem_singleton] at hz
        rcases hz with hz | rfl
        · exact hp z hz
        · rw [← hy, hen, ← hE2]; exact he
      clear he hE2 hen
      gi_wp2
      refine region_inRound (S := fun w' => Ext W w') (by kernel_rfl) (fun ⟨_, _, h⟩ => h) (by kernel_rfl) ((Ext.refl _).drew) (fun hS => ?_)
      refine takeH (i := 0) (v := ?_) rfl rfl (by kernel_rfl) (by kernel_rfl) (by kernel_rfl) (fun _ _ _ h => h) (Or.inl ⟨by kernel_rfl, ?_⟩) hS ?_
      rotate_left 1
      · (intro w' hS'; go_simp; try (with_reducible rfl))
      simp only [List.setIfInBounds_toArray, List.set_cons_succ, List.set_cons_zero]
      refine takeH (i := 1) (v := ?_) rfl rfl (by kernel_rfl) (by kernel_rfl) (by kernel_rfl) (fun _ _ _ h => h) (Or.inl ⟨by kernel_rfl, ?_⟩) hS ?_
      rotate_left 1
      · (intro w' hS'; have k1 := k1 w'; go_simp; try (with_reducible rfl))
      simp only [List.setIfInBounds_toArray, List.set_cons_succ, List.set_cons_zero]
      refine takeH (i := 3) (v := ?_) rfl rfl (by kernel_rfl) (by kernel_rfl) (by kernel_rfl) (fun _ _ _ h => h) (Or.inl ⟨by kernel_rfl, ?_⟩) hS ?_
      rotate_left 1
      · (intro w' hS'; have c0 := hS'.cell c0; go_simp; try (with_reducible rfl))
      simp only [List.setIfInBounds_toArray, List.set_cons_succ, List.set_cons_zero]
      refine wpAnyH_ready (rs := [2]) (by kernel_rfl) (by simp) ?_
      refine AllReadyH.cons rfl (fun K hK => ?_) ?_
      rotate_left 1
      · exact AllReadyH.nil
      go_simp
      refine (hget _ ((Ext.refl _).drew)).mono ?_; clear hget; rintro e1 w6 ⟨rfl, rfl⟩
      refine hK.out _ _ (hS) (fun hS => ?_)
      clear hK K
      refine takeH (i := 4) (v := ?_) rfl rfl (by kernel_rfl) (by kernel_rfl) (by kernel_rfl) (fun _ _ _ h => h) (Or.inl ⟨by kernel_rfl, ?_⟩) hS ?_
      rotate_left 1
      · (intro w' hS'; go_simp; try (with_reducible rfl))
      simp only [List.setIfInBounds_toArray, List.set_cons_succ, List.set_cons_zero]
      refine wpAnyH_done (by kernel_rfl) ?_ _
      gi_wp2
      exact ⟨(keeps_ext ((Ext.refl W).drew)).from _, ⟨rfl, rfl⟩, hp2, ⟨⟨hE, hR⟩, ⟨hS1, hC⟩⟩, hB.drew⟩
  case done =>
    rintro D ys W hD rfl ⟨hp, ⟨⟨hE, hR⟩, ⟨hS1, hC⟩⟩, hB⟩ hK
    have hst : stain l e n = false := by
      unfold stain
      rw [List.any_eq_false]
      intro x hx
      rw [List.mem_range] at hx
      have := hp x (by rw [List.mem_range, hN]; exact hx)
      rw [hf1 x hx] at this
      simpa using this
    have c1 := hR.cell
    have f1 := hR.frozen
    gi_wp2
    have hKf : (W.setCell ⟨w.heap.size + 1, 0, none⟩ (.bool false)).heap[D]? = some (.deferred (some [])) := by
      rw [heap_setCell_other _ _ _ _ (by show D ≠ w.heap.size + 1; omega)]
      exact hK
    refine ⟨by simp, .inl ⟨_, _, rfl, run_takeDeferred hKf, ?_⟩⟩
    have hne (C : Nat) (h : C < w.heap.size + 4) : some C ≠ some D := fun x => by injection x with x; omega
    exact ⟨_, ret_one rfl _ _ _ _ rfl ((hR.set (.bool false)).kept (grownBy_putObj' _ D (.deferred none)) (hne _ (by omega))), (by rw [hst]), (hB.setCell (p := ⟨w.heap.size + 1, 0, none⟩) (by show w.heap.size ≤ w.heap.size + 1; omega) _).trans (belowK_b (w := w) (Nat.le_refl _) _ D _ _ (by omega) hKf rfl rfl)⟩
  case stop =>
    rintro D k pre W hD _ ⟨rfl, ⟨z, hz1, hz2⟩, h7, hB⟩ hK
    have hst : stain l e n = true := by
      unfold stain
      rw [List.any_eq_true]
      exact ⟨z, List.mem_range.2 hz1, by simpa using hz2⟩
    gi_wp2
    refine ⟨by simp, .inl ⟨_, _, rfl, run_takeDeferred hK, ?_⟩⟩
    have hne (C : Nat) (h : C < w.heap.size + 4) : some C ≠ some D := fun x => by injection x with x; omega
    exact ⟨_, ret_one rfl _ _ _ _ rfl (h7.kept (grownBy_putObj' _ D (.deferred none)) (hne _ (by omega))), (by rw [hst]), hB.trans (belowK_b (w := w) (Nat.le_refl _) W D _ _ (by omega) hK rfl rfl)⟩
end Go.Proofs.Ytgpnmmgoachajaa
