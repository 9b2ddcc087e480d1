/- The document's two lists: drop, even. -/
import Derived.Test.YtanmjmeabcloiaaTl
import Derived.Test.YtanmjmeabcloiaaReg
import Derived.Deep.RegionHeld3
import Derived.BigQuiet
namespace Go.Proofs.Ytanmjmeabcloiaa
open Go.RowKit
open Go.Proofs

/-- A list without a number. -/
def without (l : List Int) (x : Int) : List Int := l.filter (fun y => !decide (y = x))

/-- append of a whole list of ints, as a step of a region. -/
theorem step_append_ints {w : World} {ops : Array Oper} {o : Oper} {a : Act} {K : Act → World → Prop} {Q : Exit → Act → World → Prop} {E : Prop} (hgd : o.guard = none) (s x : Operand)
    (ho : o.op = .call { callee := .builtin .append, args := #[s, x], argTypes := #[78, 78] })
    (v : Value) (l : List Int) (hs : a.eval s = v) (hm : Mine w 3 v (ints l)) (A : Option Addr) (m c : Nat) (l2 : List Int) (hxv : a.eval x = .slice A m c) (hm' : l2.length = m) (hx : Cells w A (ints l2))
    (hlen : l.length + l2.length ≤ 4294967295)
    (h : ∀ v' w', Mine w' 3 v' (ints (l ++ l2)) → Upd (fun b => blk v = some b) w w' → (blk v' = blk v ∨ blk v' = some w.heap.size) → K (a.put o.dst v') w') :
    if Region.wanted o (yielded ops a.tmps) = true then Oper.wp Try.prog o a w K Q else E := by
  obtain ⟨i0, hi0, hz, hs0, hb0⟩ := info_three info3
  refine step_append_mine hgd s x _ ho 3 i0 (.int .i64 0) 8 Try.underlying78 hi0 hz hs0 hb0 rfl v (ints l) hs hm A m c (ints l2) hxv (by rw [length_ints]; exact hm') hx (ints_one _) (by simp; omega) (by omega) ?_
  intro v' w' h1 h2 h3
  exact h v' w' (by rw [ints_append]; exact h1) h2 h3
theorem mine_empty (w : World) : Mine (w.alloc (.cells #[] 3)) 3 (.slice (some ⟨w.heap.size, 0, none⟩) 0 0) (ints []) := Mine.new w 3 #[] 0 0 [] rfl (Nat.le_refl _) (by simp) (by simp) (fun j u h => by simp at h)

/-- A slice in blocks from b0 on. -/
def Fresh (b0 : Nat) (v : Value) : Prop := ∀ g, blk v = some g → b0 ≤ g
theorem Fresh.of {b0 : Nat} {v v' : Value} {w : World} (b : blk v' = blk v ∨ blk v' = some w.heap.size) (h : Fresh b0 v) (hs : b0 ≤ w.heap.size) : Fresh b0 v' := fun g e => by
  rcases b with b | b
  · exact h g (by rw [← b]; exact e)
  · rw [b] at e; cases e; exact hs
theorem TLv.putI {w : World} {t : TypeId} {k : Nat} {F : Nat → Prop} {n : Int} {va vi v : Value} {A I I' : List Int} (h : TLv w t k F n va vi A I) (hm : Mine w 3 v (ints I')) (hb : ∀ g, blk v = some g → F g ∧ g ≠ k ∧ blk va ≠ some g) :
    TLv (w.setCell ⟨k, 2, none⟩ v) t k F n va v A I' := by
  have uk : Upd (fun b => b = k) w (w.setCell ⟨k, 2, none⟩ v) := (Upd.refl (fun b => b = k) w).setCell (p := ⟨k, 2, none⟩) (.inl rfl) v
  exact ⟨heap_setCell_same w k 2 _ t v h.head, h.mem, h.act.upd uk (fun g e => (h.ba g e).2.1), hm.upd uk (fun g e => (hb g e).2.1), fun g e => ⟨(h.ba g e).1, (h.ba g e).2.1, fun e2 => (hb g e2).2.2 e⟩, fun g e => ⟨(hb g e).1, (hb g e).2.1⟩⟩
theorem TLv.putA {w : World} {t : TypeId} {k : Nat} {F : Nat → Prop} {n : Int} {va vi v : Value} {A I A' : List Int} (h : TLv w t k F n va vi A I) (hm : Mine w 3 v (ints A')) (hb : ∀ g, blk v = some g → F g ∧ g ≠ k ∧ blk vi ≠ some g) :
    TLv (w.setCell ⟨k, 1, none⟩ v) t k F n v vi A' I := by
  have uk : Upd (fun b => b = k) w (w.setCell ⟨k, 1, none⟩ v) := (Upd.refl (fun b => b = k) w).setCell (p := ⟨k, 1, none⟩) (.inl rfl) v
  exact ⟨heap_setCell_same w k 1 _ t v h.head, h.mem, hm.upd uk (fun g e => (hb g e).2.1), h.ina.upd uk (fun g e => (h.bi g e).2), fun g e => ⟨(hb g e).1, (hb g e).2.1, (hb g e).2.2⟩, fun g e => ⟨(h.bi g e).1, (h.bi g e).2⟩⟩
theorem ref_fin {w wq w3 : World} {t : TypeId} {k : Nat} {F : Nat → Prop} {n : Int} {va vi v : Value} {A I I' : List Int} (h : TLv wq t k (Since F w wq) n va vi A I) (u : Upd F w wq) (e : Ext wq w3) (hm : Mine w3 3 v (ints I')) (hf : Fresh wq.heap.size v) :
    TLv (w3.setCell ⟨k, 2, none⟩ v) t k (Since F w w3) n va v A I' ∧ Upd F w (w3.setCell ⟨k, 2, none⟩ v) := by
  have hk := h.lt
  have h3 : TLv w3 t k (Since F w w3) n va vi A I := (h.ext e).mono (fun b x => x.mono e.size)
  refine ⟨h3.putI hm (fun g x => ⟨.inr ⟨Nat.le_trans u.size (hf g x), hm.lt x⟩, ?_, ?_⟩), ((u.trans' (Upd.of_ext (fun _ => False) e) (fun _ x => x.elim)).trans' ((Upd.refl (fun b => b = k) w3).setCell (p := ⟨k, 2, none⟩) (.inl rfl) v) (fun b x => ?_))⟩
  · have := hf g x; omega
  · intro x2
    have := h.act.lt x2
    have := hf g x; omega
  · cases x
    rcases h.mem with y | y
    · exact .inl y
    · exact .inr y.1

end Go.Proofs.Ytanmjmeabcloiaa
