/- The disk's Write, refused; the laws' helpers: sector, begins. -/
import Derived.Test.YtgpnmmgoachajaaDw
import Derived.Test.YtgpnmmgoachajaaConv
import Derived.Lib.LazyBuf
namespace Go.Proofs.Ytgpnmmgoachajaa
open Go.RowKit Go.Shelf
open Go.Proofs
attribute [local go_sem] Oper.semAt_some

/-- What is kept of a disk, and all that was made since. -/
theorem Disk.grow {K : Nat → Prop} {w w' : World} {p : Nat} {s : Dk} (h : Disk K w p s) (x : Ext w w') : Disk (fun b => K b ∨ (w.heap.size ≤ b ∧ b < w'.heap.size)) w' p s :=
  (h.more x).less (fun _ e => e.elim .inl (fun e => .inr e.1))

set_option maxRecDepth 100000 in
set_option maxHeartbeats 2000000 in
theorem dk16_off {K : Nat → Prop} {w : World} {p : Nat} {s : Dk} (h : Disk K w p s) (A : Option Addr) (m c : Nat) (at_ : Int) (hm : m ≤ 4294967296) (hc : m % 128 ≠ 0 ∨ thereOf s.safe.length at_ ((m / 128 : Nat) : Int) = 2 ∨ s.calls = 0) :
    Calls Try.prog 16 #[.pointer (some ⟨p, 0, none⟩), .int .i64 at_, .slice A m c] w fun x w' => x = .returned (.int .i64 (if m % 128 ≠ 0 ∨ thereOf s.safe.length at_ ((m / 128 : Nat) : Int) = 2 then 2 else 10)) ∧ Ext w w' := by
  have X1 : Ext w ((w.alloc (.cells #[.pointer (some ⟨p, 0, none⟩)] 25)).alloc (.cells #[.int .i64 at_] 3)) := ((Ext.refl w).alloc _).alloc _
  have h1 := h.ext X1
  obtain ⟨n, hn⟩ : ∃ n, n = m / 128 := ⟨_, rfl⟩
  rw [← hn] at hc ⊢
  have hf46 : Calls Try.prog 46 #[.pointer (some ⟨p, 0, none⟩), .int .i64 at_, .int .i64 (n : Int)] ((w.alloc (.cells #[.pointer (some ⟨p, 0, none⟩)] 25)).alloc (.cells #[.int .i64 at_] 3)) fun e w' => e = .returned (.int .i64 (thereOf s.safe.length at_ (n : Int))) ∧ (w.alloc (.cells #[.pointer (some ⟨p, 0, none⟩)] 25)).alloc (.cells #[.int .i64 at_] 3) = w' := by
    obtain ⟨S, M, qv, g, _⟩ := h1
    exact dk46_any g at_ (n : Int)
  by_cases hm0 : m % 128 = 0
  · have hm1 : ((m : Nat) : Int).tmod 128 = 0 := by rw [Int.tmod_eq_emod_of_nonneg (by omega)]; omega
    have hm2 : ((m : Nat) : Int) % 128 = 0 := by omega
    have hm3 : ((m : Nat) : Int).tdiv 128 = (n : Int) := by rw [Int.tdiv_eq_ediv_of_nonneg (by omega)]; omega
    have hm4 : ((m : Nat) : Int) / 128 = (n : Int) := by omega
    have hc2 := hc.resolve_left (by omega)
    by_cases ht : thereOf s.safe.length at_ (n : Int) = 2
    · rw [if_pos (.inr ht)]
      rw [ht] at hf46
      clear ht hc hc2 hn
      refine (callsIn_wide (n := 3)).1 ?_
      refine callsIn_of_wp_marks Try.func16 rfl trivial ?_ rfl
      simp only [Try.ntmps16, List.size_toArray, List.length_cons, List.length_nil, Nat.reduceAdd, Nat.reduceSub, Array.replicate_succ, Array.replicate_zero, List.push_toArray, List.append_toArray, List.nil_append, List.cons_append]
      gi_wp2_with (refine ⟨trivial, ?_⟩; gi_at_call 46; refine (callsIn_wide.2 hf46).mono ?_; clear hf46; rintro e w' ⟨rfl, rfl⟩)
      exact ⟨_, results_tmp rfl _ _ _, rfl, X1⟩
    · have h0 := hc2.resolve_left ht
      have ht0 : thereOf s.safe.length at_ (n : Int) = 0 := by
        unfold thereOf at ht ⊢
        split
        · rfl
        · rename_i g; rw [if_neg g] at ht; exact absurd rfl ht
      have hf47 := dk47_off h1 h0
      rw [if_neg (by omega)]
      rw [ht0] at hf46
      clear ht hc hc2 hn ht0 h0
      refine (callsIn_wide (n := 3)).1 ?_
      refine callsIn_of_wp_marks Try.func16 rfl trivial ?_ rfl
      simp only [Try.ntmps16, List.size_toArray, List.length_cons, List.length_nil, Nat.reduceAdd, Nat.reduceSub, Array.replicate_succ, Array.replicate_zero, List.push_toArray, List.append_toArray, List.nil_append, List.cons_append]
      gi_wp2_with first
        | (refine ⟨trivial, ?_⟩; gi_at_call 46; refine (callsIn_wide.2 hf46).mono ?_; clear hf46; rintro e w' ⟨rfl, rfl⟩)
        | (refine ⟨trivial, ?_⟩; gi_at_call 47; refine (callsIn_wide.2 hf47).mono ?_; clear hf47; rintro e w' ⟨rfl, rfl⟩)
      exact ⟨_, results_tmp rfl _ _ _, rfl, X1⟩
  · rw [if_pos (.inl hm0)]
    have hm1 : ¬ ((m : Nat) : Int).tmod 128 = 0 := by rw [Int.tmod_eq_emod_of_nonneg (by omega)]; omega
    have hm2 : ¬ ((m : Nat) : Int) % 128 = 0 := by omega
    clear hm0 hc hn
    refine (callsIn_wide (n := 3)).1 ?_
    refine callsIn_of_wp_marks Try.func16 rfl trivial ?_ rfl
    simp only [Try.ntmps16, List.size_toArray, List.length_cons, List.length_nil, Nat.reduceAdd, Nat.reduceSub, Array.replicate_succ, Array.replicate_zero, List.push_toArray, List.append_toArray, List.nil_append, List.cons_append]
    gi_wp2
    exact ⟨_, results_tmp rfl _ _ _, rfl, X1⟩

/-- A sector that begins with these octets. -/
def secOf (l : List UInt8) : List UInt8 := l ++ List.replicate (128 - l.length) 0
theorem length_secOf (l : List UInt8) (h : l.length ≤ 128) : (secOf l).length = 128 := by simp [secOf]; omega
section
variable {w : World} {ops : Array Oper} {rest : List Oper} {o : Oper} {a : Act} {Q : Exit → Act → World → Prop}
theorem size5 : ∀ w, (Go.sizeOf 5).run Try.prog w = .ok 1 w := fun w => by
  obtain ⟨i0, hi, hz, hs1, hb⟩ := info_parts info5
  simp [Go.sizeOf, typeInfo, hi, hs1]
theorem wpList_copy_str (hgd : o.guard = none) (d x : Operand) (ho : o.op = .call { callee := .builtin .copy, args := #[d, x], argTypes := #[22, 9] }) (b n c : Nat) (hd : a.eval d = .slice (some ⟨b, 0, none⟩) n c) (l : List UInt8) (hx : a.eval x = strOf l) (hl : l.length ≤ n)
    (cur : Array Value) (t : TypeId) (hb : w.heap[b]? = some (.cells cur t (0, 0))) (hk : n ≤ cur.size)
    (h : ∀ w', w'.heap[b]? = some (.cells (putAt cur 0 (octs l)) t (0, 0)) → Upd (fun g => g = b) w w' → wpList Try.prog ops Q rest (a.put o.dst (.int .i64 (l.length : Int))) w') : wpList Try.prog ops Q (o :: rest) a w := by
  have hsz : (⟨l.toArray⟩ : ByteArray).size = l.length := List.size_toArray ..
  have hrun := run_copy_string (P := Try.prog) w 22 9 o.type 5 b 0 n c ⟨l.toArray⟩ Try.underlying22 size5 (by rw [hsz]; exact hl) (fun j hj => by
    rw [hsz] at hj
    rw [Nat.zero_add, cell_of_row w b j _ _ _ hb, Array.getElem?_eq_getElem (by omega)]; rfl) (fun j _ => frozen_of_row w b _ _ _ hb)
  have he : ((⟨l.toArray⟩ : ByteArray).data.toList.map fun x => Value.int .u8 (x.toNat : Int)) = octs l := rfl
  rw [he, hsz] at hrun
  refine wpList_plain hgd fun K hK => ?_
  unfold Oper.wp
  simp [execOp, ho, resolve, invoke, builtin, hd, hx, hrun, Result.andThen]
  exact hK _ _ (h _ (heap_setCells b t (octs l) 0 w cur hb) (upd_setCells (F := fun g => g = b) b rfl (octs l) 0 w))
end
theorem put_secOf (l : List UInt8) (h : l.length ≤ 128) : putAt (zeros 128) 0 (octs l) = (octs (secOf l)).toArray := by
  have hz : (zeros 128).size = 128 := by
    have := congrArg List.length (zeros_list 128)
    simpa using this
  apply Array.toList_inj.1
  rw [putAt_list _ _ _ (by rw [length_octs, hz]; omega), zeros_list, octs_drop, List.take_zero, List.nil_append, List.drop_replicate, Nat.zero_add, length_octs, ← octs_append]
  rfl
set_option maxRecDepth 100000 in
theorem dk17_any (l : List UInt8) (hl : l.length ≤ 128) (w : World) : Calls Try.prog 17 #[strOf l] w fun e w' => e = .returned (.slice (some ⟨w.heap.size, 0, none⟩) 128 128) ∧ w'.heap[w.heap.size]? = some (.cells (octs (secOf l)).toArray 5 (0, 0)) ∧ Ext w w' := by
  have hmk : (Instr.makeSlice 22 (.int .i64 128) (.int .i64 128)).run Try.prog w = .ok (.slice (some ⟨w.heap.size, 0, none⟩) 128 128) (w.alloc (.cells (zeros 128) 5)) := make_octs 128 (by omega) w
  have hz : (zeros 128).size = 128 := by
    have := congrArg List.length (zeros_list 128)
    simpa using this
  have hp := put_secOf l hl
  generalize secOf l = S at hp ⊢
  obtain ⟨Z, hZ⟩ : ∃ Z, Z = zeros 128 := ⟨_, rfl⟩
  rw [← hZ] at hmk hz hp
  have HP := Lib.hid hp
  clear hZ hp
  go_enter Try.func17, Try.ntmps17
  go_wp2_with (refine wpList_copy_str rfl (.tmp 5) (.tmp 6) rfl w.heap.size 128 128 rfl l rfl hl Z 5 (heap_alloc_new _ _) (by omega) ?_; intro w2 b2 u2; have hp := HP.out; rw [hp] at b2; have x2 : Ext w w2 := u2.to_ext ((Ext.refl w).alloc _) (fun g e => by rw [e]; exact Nat.le_refl _); clear hp)
  go_ret
  exact ⟨rfl, b2, x2⟩

set_option maxRecDepth 100000 in
set_option maxHeartbeats 2000000 in
theorem dk20_any {K : Nat → Prop} {w : World} {p : Nat} {s : Dk} (h : Disk K w p s) (h0 : s.calls ≠ 0) (at_ : Nat) (hat : at_ < s.safe.length) (m : List UInt8) (hm : m.length ≤ 128) :
    Calls Try.prog 20 #[.pointer (some ⟨p, 0, none⟩), .int .i64 (at_ : Int), strOf m] w fun e w' => e = .returned (.bool (decide ((seeAt s at_).take m.length = m))) ∧ Disk K w' p (dkRead s) ∧ Upd (fun b => ¬ K b) w w' := by
  have hok : DkOk s := h.choose_spec.choose_spec.choose_spec.1.ok
  have hf22 := dk22_on h h0 at_ 1 (by omega)
  have hse : dkSecs s at_ 1 = seeAt s at_ := by rw [dkSecs_succ]; rfl
  have hl := length_seeAt hok at_ hat
  rw [hse] at hf22
  obtain ⟨D, hD⟩ : ∃ D, D = seeAt s at_ := ⟨_, rfl⟩
  rw [← hD] at hl hf22 ⊢
  clear hD hse
  go_enter Try.func20, Try.ntmps20
  go_wp2_with (go_at_call 22; refine hf22.mono ?_; clear hf22; rintro e w2 ⟨v, rfl, o2, h2, u2⟩; obtain ⟨A, C, rfl, hC, hCm, hx⟩ := o2.form; rw [hl] at hC ⊢; have hx2 := hx.take m.length; have hs2 := conv_str A (D.take m.length) m.length C w2 (by rw [List.length_take]; omega) hx2)
  go_ret
  exact ⟨congrArg (fun b => Ending.returned (Value.bool b)) (Bool.eq_iff_iff.2 (by simp)), h2.less (fun _ e => .inl e), u2⟩
end Go.Proofs.Ytgpnmmgoachajaa
