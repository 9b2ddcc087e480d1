/- Superblocks (layer 5): the document's example. -/
import Derived.Test.YtanmjmeabcloiaaSn
namespace Go.Proofs.Ytanmjmeabcloiaa
open Go.RowKit
open Go.Proofs

section
variable {W0 w : World} {ops : Array Oper} {rest : List Oper} {o : Oper} {a : Act} {Q : Exit → Act → World → Prop}
/-- 'append([]byte{}, b...)'. -/
theorem wpList_up0 (hgd : o.guard = none) (s x : Operand)
    (ho : o.op = .call { callee := .builtin .append, args := #[s, x], argTypes := #[22, 22] }) (hw : w = W0.alloc (.cells #[] 5))
    (b : Nat) (hs : a.eval s = .slice (some ⟨b, 0, none⟩) 0 0) (hb : b = W0.heap.size) (A : Option Addr) (m c : Nat) (l2 : List UInt8) (hxv : a.eval x = .slice A m c) (hm' : l2.length = m) (hx : Octs W0 A l2) (hlen : l2.length ≤ 4294967296)
    (h : ∀ v' w', Up W0 w' v' l2 → Ext W0 w' → wpList Try.prog ops Q rest (a.put o.dst v') w') : wpList Try.prog ops Q (o :: rest) a w := by
  subst hw
  subst hb
  refine wpList_up hgd s x ho _ [] hs (Up.new (Ext.refl W0) #[] 0 0 [] rfl (Nat.le_refl _) (Nat.le_refl _) (by decide) (fun j u h => by simp [octs] at h)) ((Ext.refl W0).alloc _) A m c l2 hxv hm' (hx.alloc _) (by simpa using hlen) h
end

theorem right_plain (g : Int) (h1 : 1 ≤ g) (h2 : g ≤ 281474976710656) : supRight (plainS g) := by
  unfold supRight plainS
  simp only
  omega
theorem drop_put (s : Sup) (y : List UInt8) : (supPut s ++ y).drop 128 = y := by
  rw [← length_supPut s, List.drop_left]
theorem take_put (s : Sup) (y : List UInt8) : (supPut s ++ y).take 128 = supPut s := by
  rw [← length_supPut s, List.take_left]
theorem newest_app (s : Sup) (y : List UInt8) (hy : y.length = 128) (hs : supRight s) (hs2 : s.sum < 4294967296) : supNewest (supPut s ++ y) = supNewer (supPick (some s) 0) (supPick (supGet y) 1) := by
  rw [supNewest, if_pos (by rw [List.length_append, length_supPut, hy]), drop_put, take_put, get_put s hs hs2]
theorem awake_one : supNewest (supPut (plainS 6) ++ supPut (plainS 7)) = some (plainS 7) := by
  rw [newest_app _ _ (length_supPut _) (right_plain 6 (by decide) (by decide)) (by decide), get_put _ (right_plain 7 (by decide) (by decide)) (by decide)]
  rfl
theorem put_zero (s : Sup) : (supPut s)[0]? = some 77 := by
  have h := get_first4 s
  have h2 : ((supPut s).take 4)[0]? = some 77 := by rw [h]; rfl
  rw [List.getElem?_take] at h2
  simpa using h2
theorem awake_two : supNewest (supPut (plainS 6) ++ (supPut (plainS 7)).set 0 76) = some (plainS 6) := by
  have hl : (0 : Nat) < (supPut (plainS 7)).length := by rw [length_supPut]; decide
  rw [newest_app _ _ (by rw [List.length_set, length_supPut]) (right_plain 6 (by decide) (by decide)) (by decide), get_turned _ 0 (by decide) 76 (by
    have := put_zero (plainS 7)
    rw [List.getElem?_eq_getElem hl] at this
    rw [Option.some.inj this]
    decide)]
  rfl

theorem awake_mid {w wt : World} {A6 : Option Addr} {x6 x7 : List UInt8} {b7 n c7 base : Nat} (p7 : Sup) (X : Ext w wt) (Y6 : Octs wt A6 x6) (o7 : Own wt base 5 (.slice (some ⟨b7, 0, none⟩) n c7) (octs x7))
    (NA : ∀ a, A6 = some a → ¬ a.block = b7) (NB : w.heap.size ≤ b7) :
    Octs (wt.setCell ⟨b7, 0, none⟩ (.int .u8 76)) A6 x6 ∧ Octs (wt.setCell ⟨b7, 0, none⟩ (.int .u8 76)) (some ⟨b7, 0, none⟩) (x7.set 0 76) ∧ Ext w (wt.setCell ⟨b7, 0, none⟩ (.int .u8 76)) ∧
      ((wt.setCell ⟨b7, 0, none⟩ (.int .u8 76)).alloc (.cells (supCells p7) 38)).cell? ⟨wt.heap.size, 0, none⟩ = some (.int .i64 p7.gen) := by
  have um : Upd (fun b => b = b7) wt (wt.setCell ⟨b7, 0, none⟩ (.int .u8 76)) := (Upd.refl (fun b => b = b7) wt).setCell (p := ⟨b7, 0, none⟩) (.inl rfl) _
  refine ⟨Y6.upd um NA, ?_, X.setCell (p := ⟨b7, 0, none⟩) NB _, ?_⟩
  · obtain ⟨A0, d0, e0, _, Yb⟩ := (o7.set 0 76).octs_form
    injection e0 with e1 _ _
    subst e1
    exact Yb
  · have q5 := cell_of_row _ _ 0 _ _ _ (heap_alloc_new (wt.setCell ⟨b7, 0, none⟩ (.int .u8 76)) (.cells (supCells p7) 38))
    rw [show (wt.setCell ⟨b7, 0, none⟩ (.int .u8 76)).heap.size = wt.heap.size by simp] at q5
    exact q5
set_option maxRecDepth 100000 in
set_option maxHeartbeats 400000 in
theorem f19_any (w : World) : Calls Try.prog 19 #[] w fun e w' => e = .returned (.bool true) ∧ Ext w w' := by
  have R6 := fun W => f20_right (plainS 6) W (by decide) (right_plain 6 (by decide) (by decide))
  have R7 := fun W => f20_right (plainS 7) W (by decide) (right_plain 7 (by decide) (by decide))
  obtain ⟨p6, h6⟩ : ∃ p, p = plainS 6 := ⟨_, rfl⟩
  obtain ⟨p7, h7⟩ : ∃ p, p = plainS 7 := ⟨_, rfl⟩
  have N1 := awake_one
  have N2 := awake_two
  have Z7 := put_zero (plainS 7)
  rw [← h7] at R7 N1 N2 Z7
  rw [← h6] at R6 N1 N2
  have L6 := length_supPut p6
  have L7 := length_supPut p7
  have P6 := fun W => f25_plain 6 W
  have P7 := fun W => f25_plain 7 W
  rw [← h6] at P6
  rw [← h7] at P7
  have g7 : p7.gen = 7 := by rw [h7]; rfl
  have g6 : p6.gen = 6 := by rw [h6]; rfl
  generalize supPut p6 = x6 at R6 N1 N2 L6
  generalize supPut p7 = x7 at R7 N1 N2 L7 Z7
  have H1 := Lib.hid N1
  have H2 := Lib.hid N2
  have H6 := Lib.hid L6
  have H7 := Lib.hid L7
  have HZ := Lib.hid Z7
  clear h6 h7 N1 N2 L6 L7 Z7
  go_enter Try.func19, Try.ntmps19
  go_wp2_with fail
  refine (P6 _).mono ?_
  rintro e w1 ⟨rfl, x1⟩
  go_wp2_with fail
  refine (R6 _).mono ?_
  rintro e w2 ⟨v6, rfl, o6, x2⟩
  obtain ⟨A6, c6, rfl, k6, y6⟩ := o6.octs_form
  rw [H6.out]
  go_wp2_with fail
  refine (P7 _).mono ?_
  rintro e w3 ⟨rfl, x3⟩
  go_wp2_with fail
  refine (R7 _).mono ?_
  rintro e w4 ⟨v7, rfl, o7, x4⟩
  obtain ⟨b7, c7, rfl, k7, i7, j7, z7, fr7⟩ := o7.head (by rw [H7.out]; decide)
  have y7 := o7.octs_form
  have z0 := z7 0 (by rw [H7.out]; decide)
  rw [show x7.getD 0 0 = 77 by rw [List.getD_eq_getElem?_getD, HZ.out]; rfl] at z0
  rw [H7.out]
  obtain ⟨A7, d7, e7, _, y7⟩ := y7
  cases e7
  have Y6 := y6.ext (x3.trans x4)
  have X4 := ((x1.trans x2).trans x3).trans x4
  have M7 : Hid ((x7.set 0 76).length = 128) := Lib.hid (by rw [List.length_set, H7.out])
  have M67 : Hid ((x6 ++ x7.set 0 76).length = 256) := Lib.hid (by rw [List.length_append, H6.out, M7.out])
  have s3 := x3.size
  have NB : w.heap.size ≤ b7 := Nat.le_trans ((x1.trans x2).trans x3).size i7
  have NA : ∀ a, A6 = some a → ¬ a.block = b7 := fun a e => by
    have := (o6.block a.block (by rw [e]; rfl)).2
    omega
  have L67 : Hid ((x6 ++ x7).length = 256) := Lib.hid (by rw [List.length_append, H6.out, H7.out])
  go_wp2_with (first
    | (at_builtin; refine wpList_up0 rfl (.tmp 36) (.tmp 37) rfl rfl _ rfl rfl A6 _ c6 x6 rfl H6.out Y6 (by rw [H6.out]; decide) ?_; intro v8 w8 u8 x8)
    | (at_builtin; refine wpList_up rfl (.tmp 38) (.tmp 39) rfl v8 x6 rfl u8 x8 (some ⟨b7, 0, none⟩) 128 c7 x7 rfl H7.out (y7.ext x8) (by rw [H6.out, H7.out]; decide) ?_; intro v9 w9 u9 x9; obtain ⟨A9, c9, rfl, k9, _, y9⟩ := u9.form; rw [L67.out] at k9 ⊢)
    | (go_at_call 26; refine (f26_any A12 (x6 ++ x7.set 0 76) 256 c12 _ M67.out (by decide) k12 y12).mono ?_; rintro e w14 ⟨rfl, x14⟩; rw [H2.out]; have X14 := x12.trans x14; have q14 : w14.cell? ⟨w10.heap.size, 0, none⟩ = some (.int .i64 7) := X14.cell q5; have hlq := block_lt_of_cell q14; simp only at hlq)
    | (go_at_call 26; refine (f26_any A9 (x6 ++ x7) 256 c9 _ L67.out (by decide) k9 y9).mono ?_; rintro e w10 ⟨rfl, x10⟩; rw [H1.out]; have X10 := x9.trans x10; have Z10 : w10.cell? ⟨b7, 0, none⟩ = some (.int .u8 77) := X10.cell z0; have hlt := block_lt_of_cell Z10; simp only at hlt; have F10 := fun j => (X10.frozen (p := ⟨b7, j, none⟩) j7).trans (fr7 j); have hxor : bits BinOp.xor IntKind.u8 77 1 = 76 := (by decide); obtain ⟨Ya, Yb, Xm, q5⟩ := awake_mid p7 (X4.trans X10) (Y6.ext X10) (o7.ext X10) NA NB; simp only [supCells, g7] at q5)
    | (at_builtin; refine wpList_up0 rfl (.tmp 50) (.tmp 51) rfl rfl _ rfl (by simp) A6 _ c6 x6 rfl H6.out (Ya.alloc _) (by rw [H6.out]; decide) ?_; intro v11 w11 u11 x11; have Yb1 := Octs.ext (Octs.alloc Yb _) x11)
    | (at_builtin; refine wpList_up rfl (.tmp 52) (.tmp 53) rfl v11 x6 rfl u11 x11 (some ⟨b7, 0, none⟩) 128 c7 (x7.set 0 76) rfl M7.out Yb1 (by rw [H6.out, M7.out]; decide) ?_; intro v12 w12 u12 x12; obtain ⟨A12, c12, rfl, k12, _, y12⟩ := u12.form; rw [M67.out] at k12 ⊢)
    | (at_builtin; fail))
  go_ret
  exact ⟨rfl, ((Xm.alloc _).trans X14).alloc _⟩
end Go.Proofs.Ytanmjmeabcloiaa
