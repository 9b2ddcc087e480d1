/- Strings that grow beside a disk and a journal; the document's comparison of payloads. -/
import Derived.Test.YtgpnmmgoachajaaJl
namespace Go.Proofs.Ytgpnmmgoachajaa
open Go.RowKit Go.Shelf
open Go.Proofs

section
variable {w : World} {ops : Array Oper} {rest : List Oper} {o : Oper} {a : Act} {Q : Exit → Act → World → Prop}
/-- A string is put onto strings: what is changed is the strings' row alone. -/
theorem wpList_strs2 (hgd : o.guard = none) (s x : Operand) (ho : o.op = .call { callee := .builtin .append, args := #[s, x], argTypes := #[75, 75] })
    (base : Nat) (v : Value) (ss : List (List UInt8)) (hs : a.eval s = v) (hp : Own w base 9 v (ss.map strOf)) (g0 : Nat) (P : List UInt8) (hxv : a.eval x = .slice (some ⟨g0, 0, none⟩) 1 1) (hg : w.heap[g0]? = some (.cells #[strOf P] 9 (0, 0)))
    (hlen : ss.length < 4294967296) (hbase : base ≤ w.heap.size)
    (h : ∀ v' w', Own w' base 9 v' ((ss ++ [P]).map strOf) → Upd (fun b => v.ownBlock = some b) w w' → (v'.ownBlock = v.ownBlock ∨ v'.ownBlock = some w.heap.size) → wpList Try.prog ops Q rest (a.put o.dst v') w') : wpList Try.prog ops Q (o :: rest) a w := by
  obtain ⟨i0, hi, hz, hs1, hb⟩ := info_parts info9
  refine wpList_app hgd s x 75 ho base 9 i0 _ 16 Try.underlying75 hi hz hs1 hb rfl v (ss.map strOf) hs hp (some ⟨g0, 0, none⟩) 1 1 [strOf P] hxv rfl (Cells.of_block hg) (fun z hz => by
    rw [List.mem_singleton] at hz; rw [hz]; rfl) (by rw [List.length_map]; show ss.length + 1 ≤ _; omega) (by decide) hbase ?_
  intro v' w' o' g' b'
  refine h v' w' ?_ ⟨g'.os, g'.tape, g'.output, g'.size, fun k hk hf => g'.block k hk (fun e => hf e.symm)⟩ b'
  rw [List.map_append]
  exact o'
end
/-- What a law's loop has: a disk, a journal, strings. -/
structure RS (w : World) (K : Nat → Prop) (W : World) (p y B : Nat) (s : Dk) (j : Jn) (sv : Value) (ss : List (List UInt8)) : Prop where
  disk : Disk K W p s
  jn : JnAt W y p j
  ky : K y
  lo : ∀ b, b < w.heap.size → K b
  kb : ∀ b, K b → b < W.heap.size
  ext : Ext w W
  own : Own W B 9 sv (ss.map strOf)
  ks : ∀ b, sv.ownBlock = some b → K b
  wy : w.heap.size ≤ y
  yB : y < B
  BW : B ≤ W.heap.size
section
variable {w W W' : World} {K : Nat → Prop} {p y B : Nat} {s s' : Dk} {j j' : Jn} {sv : Value} {ss : List (List UInt8)}
theorem RS.grow (h : RS w K W p y B s j sv ss) (x : Ext W W') : RS w (fun b => K b ∨ (W.heap.size ≤ b ∧ b < W'.heap.size)) W' p y B s j sv ss :=
  ⟨h.disk.grow x, Ext.heap x h.jn, .inl h.ky, fun b hb => .inl (h.lo b hb), fun b hb => hb.elim (fun hb => Nat.lt_of_lt_of_le (h.kb b hb) x.size) (·.2), h.ext.trans x, h.own.ext x, fun b hb => .inl (h.ks b hb), h.wy, h.yB, Nat.le_trans h.BW x.size⟩
theorem RS.more (h : RS w K W p y B s j sv ss) (x : Ext W W') : RS w K W' p y B s j sv ss :=
  ⟨h.disk.ext x, Ext.heap x h.jn, h.ky, h.lo, fun b hb => Nat.lt_of_lt_of_le (h.kb b hb) x.size, h.ext.trans x, h.own.ext x, h.ks, h.wy, h.yB, Nat.le_trans h.BW x.size⟩
theorem RS.low (h : RS w K W p y B s j sv ss) : ∀ b, ¬ K b ∨ b = y → w.heap.size ≤ b := fun b e => by
  rcases e with e | e
  · exact Nat.le_of_not_lt fun z => e (h.lo b z)
  · rw [e]; exact h.wy
theorem RS.step (h : RS w K W p y B s j sv ss) (d : Disk K W' p s') (jn : JnAt W' y p j') (u : Upd (fun b => ¬ K b ∨ b = y) W W') : RS w K W' p y B s' j' sv ss :=
  ⟨d, jn, h.ky, h.lo, fun b hb => Nat.lt_of_lt_of_le (h.kb b hb) u.size, u.to_ext h.ext h.low, h.own.keep (fun b hb => u.block b (h.own.block b hb).2 (fun z => by
    rcases z with z | z
    · exact z (h.ks b hb)
    · have := (h.own.block b hb).1
      have := h.yB
      omega)), h.ks, h.wy, h.yB, Nat.le_trans h.BW u.size⟩
/-- The strings' row is changed. -/
theorem RS.push (h : RS w K W p y B s j sv ss) {sv' : Value} {ss' : List (List UInt8)} (o : Own W' B 9 sv' (ss'.map strOf)) (u : Upd (fun b => sv.ownBlock = some b) W W') (hb : sv'.ownBlock = sv.ownBlock ∨ sv'.ownBlock = some W.heap.size) :
    RS w (fun b => K b ∨ (W.heap.size ≤ b ∧ b < W'.heap.size)) W' p y B s j sv' ss' := by
  have d : Disk (fun b => K b ∨ (W.heap.size ≤ b ∧ b < W'.heap.size)) W' p s := by
    obtain ⟨S, M, qv, g1, g2⟩ := h.disk
    obtain ⟨l1, l2, l3, l4⟩ := g1.lt
    have n (b : Nat) (hb : dkB p S M qv b) : ¬ sv.ownBlock = some b := fun e => g2 b hb (h.ks b e)
    refine ⟨S, M, qv, g1.keep (u.block _ l1 (n _ (.inl rfl))) (u.block _ l2 (n _ (.inr (.inl rfl)))) (u.block _ l3 (n _ (.inr (.inr (.inl rfl))))) (fun g e => u.block g (l4 g e) (n _ (.inr (.inr (.inr e))))), fun b hb x => ?_⟩
    have hlt : b < W.heap.size := by
      rcases hb with rfl | rfl | rfl | hb
      · exact l1
      · exact l2
      · exact l3
      · exact l4 b hb
    rcases x with x | x
    · exact g2 b hb x
    · omega
  have nb : ∀ b, sv.ownBlock = some b → w.heap.size ≤ b ∧ b ≠ y := fun b e => by
    have := (h.own.block b e).1
    have := h.yB
    have := h.wy
    omega
  refine ⟨d, u.heap h.jn (fun e => (nb y e).2 rfl), .inl h.ky, fun b hb => .inl (h.lo b hb), fun b hb => hb.elim (fun hb => Nat.lt_of_lt_of_le (h.kb b hb) u.size) (·.2), u.to_ext h.ext (fun b e => (nb b e).1), o, fun b e => ?_, h.wy, h.yB, Nat.le_trans h.BW u.size⟩
  rcases hb with z | z
  · exact .inl (h.ks b (by rw [← z]; exact e))
  · rw [z] at e
    injection e with e
    have := (o.block W.heap.size z).2
    exact .inr ⟨by omega, by omega⟩
/-- No strings. -/
theorem RS.clear (h : RS w K W p y B s j sv ss) : RS w K W p y B s j (.slice none 0 0) [] :=
  ⟨h.disk, h.jn, h.ky, h.lo, h.kb, h.ext, Own.nil _ _ _, fun b e => (by cases e), h.wy, h.yB, h.BW⟩
end

set_option maxRecDepth 100000 in
set_option maxHeartbeats 4000000 in
/-- The document's comparison: the same payloads. -/
theorem same_any {W : World} {base B : Nat} {v sv : Value} {Ps : List (List UInt8)} (h : Pays W base v Ps) (hs : Own W B 9 sv (Ps.map strOf)) (hn : Ps.length ≤ 4294967296) :
    Calls Try.prog 45 #[v, sv] W fun e w' => e = .returned (.bool true) ∧ Ext W w' := by
  obtain ⟨A, c, rfl, hc, hp⟩ := h.form
  obtain ⟨A2, c2, rfl, hc2, _, hx2, _⟩ := hs.form
  rw [List.length_map] at hc2 ⊢
  obtain ⟨n, hn2⟩ : ∃ n, n = Ps.length := ⟨_, rfl⟩
  have HN := Lib.hid hn2
  rw [← hn2] at hc hc2 hn ⊢
  have nn : ((n : Int) != (n : Int)) = false := by simp
  clear hn2
  go_enter Try.func45, Try.ntmps45
  go_wp2
  go_loopw [5] (fun i wr => ∃ k : Nat, k ≤ n ∧ i = .int .i64 (k : Int) ∧ Ext W wr) (fun i _ => n - (intOf i).toNat)
  case atStart => exact ⟨0, Nat.zero_le _, rfl, Ext.refl _⟩
  case round =>
    obtain ⟨k, hk, rfl, x⟩ := hrel
    by_cases hlt : k < n
    · have hkP : k < Ps.length := by rw [← HN.out]; exact hlt
      obtain ⟨b, o, D, d, rfl, c1, hd, hD⟩ := hp k hkP
      obtain ⟨b2, o2, rfl, hcell⟩ := hx2 (by rw [List.length_map]; omega)
      have c2' := hcell k (strOf Ps[k]) (by rw [List.getElem?_map, List.getElem?_eq_getElem hkP]; rfl)
      obtain ⟨P, hP⟩ : ∃ P, P = Ps[k] := ⟨_, rfl⟩
      rw [← hP] at c1 c2' hD hd
      obtain ⟨m, hm⟩ : ∃ m, m = P.length := ⟨_, rfl⟩
      rw [← hm] at c1 hd
      have c1 := x.cell c1
      have c2' := x.cell c2'
      have HM := Lib.hid hm.symm
      clear hp hP hm hcell
      go_wp2_with fail
      refine wp_region_held_drew (S := fun w' => Ext wr w') (by kernel_rfl) ((Ext.refl _).drew) (fun hS => ?_)
      refine takeH (i := 0) (v := ?_) rfl rfl (by kernel_rfl) (by kernel_rfl) (by kernel_rfl) (fun _ _ _ h => h) (Or.inl ⟨by kernel_rfl, ?_⟩) hS ?_
      rotate_left 1
      · (intro w' hS'; go_simp; try (with_reducible rfl))
      simp only [List.setIfInBounds_toArray, List.set_cons_succ, List.set_cons_zero]
      refine takeH (i := 1) (v := ?_) rfl rfl (by kernel_rfl) (by kernel_rfl) (by kernel_rfl) (fun _ _ _ h => h) (Or.inl ⟨by kernel_rfl, ?_⟩) hS ?_
      rotate_left 1
      · (intro w' hS'; go_simp; try (with_reducible rfl))
      simp only [List.setIfInBounds_toArray, List.set_cons_succ, List.set_cons_zero]
      refine takeH (i := 2) (v := ?_) rfl rfl (by kernel_rfl) (by kernel_rfl) (by kernel_rfl) (fun _ _ _ h => h) (Or.inl ⟨by kernel_rfl, ?_⟩) hS ?_
      rotate_left 1
      · (intro w' hS'; go_simp; try (with_reducible rfl))
      simp only [List.setIfInBounds_toArray, List.set_cons_succ, List.set_cons_zero]
      refine takeH (i := 3) (v := ?_) rfl rfl (by kernel_rfl) (by kernel_rfl) (by kernel_rfl) (fun _ _ _ h => h) (Or.inl ⟨by kernel_rfl, ?_⟩) hS ?_
      rotate_left 1
      · (intro w' hS'; have c1 := hS'.cell c1; go_simp; try (with_reducible rfl))
      simp only [List.setIfInBounds_toArray, List.set_cons_succ, List.set_cons_zero]
      refine takeH (i := 4) (v := ?_) rfl rfl (by kernel_rfl) (by kernel_rfl) (by kernel_rfl) (fun _ _ _ h => h) (Or.inl ⟨by kernel_rfl, ?_⟩) hS ?_
      rotate_left 1
      · (intro w' hS'; have kc := conv_str D P m d w' HM.out (hD.ext (x.trans hS')); go_simp; try (with_reducible rfl))
      simp only [List.setIfInBounds_toArray, List.set_cons_succ, List.set_cons_zero]
      refine takeH (i := 5) (v := ?_) rfl rfl (by kernel_rfl) (by kernel_rfl) (by kernel_rfl) (fun _ _ _ h => h) (Or.inl ⟨by kernel_rfl, ?_⟩) hS ?_
      rotate_left 1
      · (intro w' hS'; go_simp; try (with_reducible rfl))
      simp only [List.setIfInBounds_toArray, List.set_cons_succ, List.set_cons_zero]
      refine takeH (i := 6) (v := ?_) rfl rfl (by kernel_rfl) (by kernel_rfl) (by kernel_rfl) (fun _ _ _ h => h) (Or.inl ⟨by kernel_rfl, ?_⟩) hS ?_
      rotate_left 1
      · (intro w' hS'; go_simp; try (with_reducible rfl))
      simp only [List.setIfInBounds_toArray, List.set_cons_succ, List.set_cons_zero]
      refine takeH (i := 7) (v := ?_) rfl rfl (by kernel_rfl) (by kernel_rfl) (by kernel_rfl) (fun _ _ _ h => h) (Or.inl ⟨by kernel_rfl, ?_⟩) hS ?_
      rotate_left 1
      · (intro w' hS'; go_simp; try (with_reducible rfl))
      simp only [List.setIfInBounds_toArray, List.set_cons_succ, List.set_cons_zero]
      refine takeH (i := 8) (v := ?_) rfl rfl (by kernel_rfl) (by kernel_rfl) (by kernel_rfl) (fun _ _ _ h => h) (Or.inl ⟨by kernel_rfl, ?_⟩) hS ?_
      rotate_left 1
      · (intro w' hS'; have c2' := hS'.cell c2'; go_simp; try (with_reducible rfl))
      simp only [List.setIfInBounds_toArray, List.set_cons_succ, List.set_cons_zero]
      refine takeH (i := 9) (v := ?_) rfl rfl (by kernel_rfl) (by kernel_rfl) (by kernel_rfl) (fun _ _ _ h => h) (Or.inl ⟨by kernel_rfl, ?_⟩) hS ?_
      rotate_left 1
      · (intro w' hS'; go_simp; try (with_reducible rfl))
      simp only [List.setIfInBounds_toArray, List.set_cons_succ, List.set_cons_zero]
      refine wpAnyH_done (by kernel_rfl) ?_ _
      go_wp2_with fail
      go_roundw
      case rel => exact ⟨k + 1, by omega, val_int (by omega), x.trans hS⟩
      case measure => simp [intOf]; omega
    · obtain rfl : n = k := by omega
      go_wp2
      go_ret
      exact ⟨rfl, x⟩
end Go.Proofs.Ytgpnmmgoachajaa
