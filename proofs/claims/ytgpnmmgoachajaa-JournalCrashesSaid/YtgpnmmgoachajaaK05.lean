/- Joined texts: Dx, Dy, CrcMath, Tl2, Tl3, Aw22, Turns, Rd. -/
import Derived.Test.YtgpnmmgoachajaaK04
import Derived.Lib.LazyBuf
import Derived.Test.YtgpnmmgoachajaaK03
import Derived.Test.YtgpnmmgoachajaaK02
/- The disk's Write, refused; the laws' helpers: sector, begins. -/
namespace Go.Proofs.Ytgpnmmgoachajaa
open Go.RowKit Go.Shelf
open Go.Proofs
attribute [local go_sem] Oper.semAt_some

/-- What is kept of a disk, and all that was made since. -/
theorem Disk.grow {K : Nat → Prop} {w w' : World} {p : Nat} {s : Dk} (h : Disk K w p s) (x : Ext w w') : Disk (fun b => K b ∨ (w.heap.size ≤ b ∧ b < w'.heap.size)) w' p s :=
  (h.more x).less (fun _ e => e.elim .inl (fun e => .inr e.1))

set_option maxRecDepth 100000 in
set_option maxHeartbeats 2000000 in
theorem dk16_off {K : Nat → Prop} {w : World} {p : Nat} {s : Dk} (h : Disk K w p s) (A : Option Addr) (m c : Nat) (at_ : Int) (hm : m ≤ 4294967296) (hc : m % 128 ≠ 0 ∨ thereOf s.safe.length at_ ((m / 128 : Nat) : Int) = 2 ∨ s.calls = 0) :
    Calls Try.prog 16 #[.pointer (some ⟨p, 0, none⟩), .int .i64 at_, .slice A m c] w fun x w' => x = .returned (.int .i64 (if m % 128 ≠ 0 ∨ thereOf s.safe.length at_ ((m / 128 : Nat) : Int) = 2 then 2 else 10)) ∧ Ext w w' := by
  have X1 : Ext w ((w.alloc (.cells #[.pointer (some ⟨p, 0, none⟩)] 25)).alloc (.cells #[.int .i64 at_] 3)) := ((Ext.refl w).alloc _).alloc _
  have h1 := h.ext X1
  obtain ⟨n, hn⟩ : ∃ n, n = m / 128 := ⟨_, rfl⟩
  rw [← hn] at hc ⊢
  have hf46 : Calls Try.prog 46 #[.pointer (some ⟨p, 0, none⟩), .int .i64 at_, .int .i64 (n : Int)] ((w.alloc (.cells #[.pointer (some ⟨p, 0, none⟩)] 25)).alloc (.cells #[.int .i64 at_] 3)) fun e w' => e = .returned (.int .i64 (thereOf s.safe.length at_ (n : Int))) ∧ (w.alloc (.cells #[.pointer (some ⟨p, 0, none⟩)] 25)).alloc (.cells #[.int .i64 at_] 3) = w' := by
    obtain ⟨S, M, qv, g, _⟩ := h1
    exact dk46_any g at_ (n : Int)
  by_cases hm0 : m % 128 = 0
  · have hm1 : ((m : Nat) : Int).tmod 128 = 0 := by rw [Int.tmod_eq_emod_of_nonneg (by omega)]; omega
    have hm2 : ((m : Nat) : Int) % 128 = 0 := by omega
    have hm3 : ((m : Nat) : Int).tdiv 128 = (n : Int) := by rw [Int.tdiv_eq_ediv_of_nonneg (by omega)]; omega
    have hm4 : ((m : Nat) : Int) / 128 = (n : Int) := by omega
    have hc2 := hc.resolve_left (by omega)
    by_cases ht : thereOf s.safe.length at_ (n : Int) = 2
    · rw [if_pos (.inr ht)]
      rw [ht] at hf46
      clear ht hc hc2 hn
      refine (callsIn_wide (n := 3)).1 ?_
      refine callsIn_of_wp_marks Try.func16 rfl trivial ?_ rfl
      simp only [Try.ntmps16, List.size_toArray, List.length_cons, List.length_nil, Nat.reduceAdd, Nat.reduceSub, Array.replicate_succ, Array.replicate_zero, List.push_toArray, List.append_toArray, List.nil_append, List.cons_append]
      gi_wp2_with (refine ⟨trivial, ?_⟩; gi_at_call 46; refine (callsIn_wide.2 hf46).mono ?_; clear hf46; rintro e w' ⟨rfl, rfl⟩)
      exact ⟨_, results_tmp rfl _ _ _, rfl, X1⟩
    · have h0 := hc2.resolve_left ht
      have ht0 : thereOf s.safe.length at_ (n : Int) = 0 := by
        unfold thereOf at ht ⊢
        split
        · rfl
        · rename_i g; rw [if_neg g] at ht; exact absurd rfl ht
      have hf47 := dk47_off h1 h0
      rw [if_neg (by omega)]
      rw [ht0] at hf46
      clear ht hc hc2 hn ht0 h0
      refine (callsIn_wide (n := 3)).1 ?_
      refine callsIn_of_wp_marks Try.func16 rfl trivial ?_ rfl
      simp only [Try.ntmps16, List.size_toArray, List.length_cons, List.length_nil, Nat.reduceAdd, Nat.reduceSub, Array.replicate_succ, Array.replicate_zero, List.push_toArray, List.append_toArray, List.nil_append, List.cons_append]
      gi_wp2_with first
        | (refine ⟨trivial, ?_⟩; gi_at_call 46; refine (callsIn_wide.2 hf46).mono ?_; clear hf46; rintro e w' ⟨rfl, rfl⟩)
        | (refine ⟨trivial, ?_⟩; gi_at_call 47; refine (callsIn_wide.2 hf47).mono ?_; clear hf47; rintro e w' ⟨rfl, rfl⟩)
      exact ⟨_, results_tmp rfl _ _ _, rfl, X1⟩
  · rw [if_pos (.inl hm0)]
    have hm1 : ¬ ((m : Nat) : Int).tmod 128 = 0 := by rw [Int.tmod_eq_emod_of_nonneg (by omega)]; omega
    have hm2 : ¬ ((m : Nat) : Int) % 128 = 0 := by omega
    clear hm0 hc hn
    refine (callsIn_wide (n := 3)).1 ?_
    refine callsIn_of_wp_marks Try.func16 rfl trivial ?_ rfl
    simp only [Try.ntmps16, List.size_toArray, List.length_cons, List.length_nil, Nat.reduceAdd, Nat.reduceSub, Array.replicate_succ, Array.replicate_zero, List.push_toArray, List.append_toArray, List.nil_append, List.cons_append]
    gi_wp2
    exact ⟨_, results_tmp rfl _ _ _, rfl, X1⟩

/-- A sector that begins with these octets. -/
def secOf (l : List UInt8) : List UInt8 := l ++ List.replicate (128 - l.length) 0
theorem length_secOf (l : List UInt8) (h : l.length ≤ 128) : (secOf l).length = 128 := by simp [secOf]; omega
section
variable {w : World} {ops : Array Oper} {rest : List Oper} {o : Oper} {a : Act} {Q : Exit → Act → World → Prop}
theorem size5 : ∀ w, (Go.sizeOf 5).run Try.prog w = .ok 1 w := fun w => by
  obtain ⟨i0, hi, hz, hs1, hb⟩ := info_parts info5
  simp [Go.sizeOf, typeInfo, hi, hs1]
theorem wpList_copy_str (hgd : o.guard = none) (d x : Operand) (ho : o.op = .call { callee := .builtin .copy, args := #[d, x], argTypes := #[22, 9] }) (b n c : Nat) (hd : a.eval d = .slice (some ⟨b, 0, none⟩) n c) (l : List UInt8) (hx : a.eval x = strOf l) (hl : l.length ≤ n)
    (cur : Array Value) (t : TypeId) (hb : w.heap[b]? = some (.cells cur t (0, 0))) (hk : n ≤ cur.size)
    (h : ∀ w', w'.heap[b]? = some (.cells (putAt cur 0 (octs l)) t (0, 0)) → Upd (fun g => g = b) w w' → wpList Try.prog ops Q rest (a.put o.dst (.int .i64 (l.length : Int))) w') : wpList Try.prog ops Q (o :: rest) a w := by
  have hsz : (⟨l.toArray⟩ : ByteArray).size = l.length := List.size_toArray ..
  have hrun := run_copy_string (P := Try.prog) w 22 9 o.type 5 b 0 n c ⟨l.toArray⟩ Try.underlying22 size5 (by rw [hsz]; exact hl) (fun j hj => by
    rw [hsz] at hj
    rw [Nat.zero_add, cell_of_row w b j _ _ _ hb, Array.getElem?_eq_getElem (by omega)]; rfl) (fun j _ => frozen_of_row w b _ _ _ hb)
  have he : ((⟨l.toArray⟩ : ByteArray).data.toList.map fun x => Value.int .u8 (x.toNat : Int)) = octs l := rfl
  rw [he, hsz] at hrun
  refine wpList_plain hgd fun K hK => ?_
  unfold Oper.wp
  simp [execOp, ho, resolve, invoke, builtin, hd, hx, hrun, Result.andThen]
  exact hK _ _ (h _ (heap_setCells b t (octs l) 0 w cur hb) (upd_setCells (F := fun g => g = b) b rfl (octs l) 0 w))
end
theorem put_secOf (l : List UInt8) (h : l.length ≤ 128) : putAt (zeros 128) 0 (octs l) = (octs (secOf l)).toArray := by
  have hz : (zeros 128).size = 128 := by
    have := congrArg List.length (zeros_list 128)
    simpa using this
  apply Array.toList_inj.1
  rw [putAt_list _ _ _ (by rw [length_octs, hz]; omega), zeros_list, octs_drop, List.take_zero, List.nil_append, List.drop_replicate, Nat.zero_add, length_octs, ← octs_append]
  rfl
set_option maxRecDepth 100000 in
theorem dk17_any (l : List UInt8) (hl : l.length ≤ 128) (w : World) : Calls Try.prog 17 #[strOf l] w fun e w' => e = .returned (.slice (some ⟨w.heap.size, 0, none⟩) 128 128) ∧ w'.heap[w.heap.size]? = some (.cells (octs (secOf l)).toArray 5 (0, 0)) ∧ Ext w w' := by
  have hmk : (Instr.makeSlice 22 (.int .i64 128) (.int .i64 128)).run Try.prog w = .ok (.slice (some ⟨w.heap.size, 0, none⟩) 128 128) (w.alloc (.cells (zeros 128) 5)) := make_octs 128 (by omega) w
  have hz : (zeros 128).size = 128 := by
    have := congrArg List.length (zeros_list 128)
    simpa using this
  have hp := put_secOf l hl
  generalize secOf l = S at hp ⊢
  obtain ⟨Z, hZ⟩ : ∃ Z, Z = zeros 128 := ⟨_, rfl⟩
  rw [← hZ] at hmk hz hp
  have HP := Lib.hid hp
  clear hZ hp
  go_enter Try.func17, Try.ntmps17
  go_wp2_with (refine wpList_copy_str rfl (.tmp 5) (.tmp 6) rfl w.heap.size 128 128 rfl l rfl hl Z 5 (heap_alloc_new _ _) (by omega) ?_; intro w2 b2 u2; have hp := HP.out; rw [hp] at b2; have x2 : Ext w w2 := u2.to_ext ((Ext.refl w).alloc _) (fun g e => by rw [e]; exact Nat.le_refl _); clear hp)
  go_ret
  exact ⟨rfl, b2, x2⟩

set_option maxRecDepth 100000 in
set_option maxHeartbeats 2000000 in
theorem dk20_any {K : Nat → Prop} {w : World} {p : Nat} {s : Dk} (h : Disk K w p s) (h0 : s.calls ≠ 0) (at_ : Nat) (hat : at_ < s.safe.length) (m : List UInt8) (hm : m.length ≤ 128) :
    Calls Try.prog 20 #[.pointer (some ⟨p, 0, none⟩), .int .i64 (at_ : Int), strOf m] w fun e w' => e = .returned (.bool (decide ((seeAt s at_).take m.length = m))) ∧ Disk K w' p (dkRead s) ∧ Upd (fun b => ¬ K b) w w' := by
  have hok : DkOk s := h.choose_spec.choose_spec.choose_spec.1.ok
  have hf22 := dk22_on h h0 at_ 1 (by omega)
  have hse : dkSecs s at_ 1 = seeAt s at_ := by rw [dkSecs_succ]; rfl
  have hl := length_seeAt hok at_ hat
  rw [hse] at hf22
  obtain ⟨D, hD⟩ : ∃ D, D = seeAt s at_ := ⟨_, rfl⟩
  rw [← hD] at hl hf22 ⊢
  clear hD hse
  go_enter Try.func20, Try.ntmps20
  go_wp2_with (go_at_call 22; refine hf22.mono ?_; clear hf22; rintro e w2 ⟨v, rfl, o2, h2, u2⟩; obtain ⟨A, C, rfl, hC, hCm, hx⟩ := o2.form; rw [hl] at hC ⊢; have hx2 := hx.take m.length; have hs2 := conv_str A (D.take m.length) m.length C w2 (by rw [List.length_take]; omega) hx2)
  go_ret
  exact ⟨congrArg (fun b => Ending.returned (Value.bool b)) (Bool.eq_iff_iff.2 (by simp)), h2.less (fun _ e => .inl e), u2⟩
end Go.Proofs.Ytgpnmmgoachajaa
/- The law's awake. -/
namespace Go.Proofs.Ytgpnmmgoachajaa
open Go.RowKit Go.Shelf
open Go.Proofs

/-- A made sector is written. -/
theorem wr_sec {K : Nat → Prop} {w w2 : World} {p : Nat} {s : Dk} (h : Disk K w p s) (h0 : s.calls ≠ 0) (x : Ext w w2) (S : List UInt8) (hS : S.length = 128) (hb : w2.heap[w.heap.size]? = some (.cells (octs S).toArray 5 (0, 0))) (at_ : Nat) (hat : at_ < s.safe.length)
    (hwr : 0 ≤ s.writes ∧ s.writes ≤ 4294967296) (hq : s.queue.length ≤ 2147483648) (hKb : ∀ b, K b → b < w.heap.size) :
    Calls Try.prog 16 #[.pointer (some ⟨p, 0, none⟩), .int .i64 (at_ : Int), .slice (some ⟨w.heap.size, 0, none⟩) 128 128] w2 fun e w3 => e = .returned (.int .i64 0) ∧ Disk K w3 p (dkWrite s at_ S) ∧ Upd (fun b => ¬ K b) w w3 := by
  have hlt := (Array.getElem?_eq_some_iff.1 hb).1
  refine (dk16_on (h.grow x) h0 (some ⟨w.heap.size, 0, none⟩) S 128 128 at_ hS rfl (by omega) (Nat.le_refl _) (sec_octs hb) (fun a e => by
    injection e with e
    rw [← e]
    exact .inr ⟨Nat.le_refl _, hlt⟩) hwr hq (fun b e => e.elim (fun e => Nat.lt_of_lt_of_le (hKb b e) x.size) (·.2))).mono ?_
  rintro e w3 ⟨rfl, h3, u3⟩
  exact ⟨rfl, h3.less (fun _ e => .inl e), (Upd.of_ext _ x).trans (u3.mono (fun b _ e y => e (.inl y)))⟩

def awA : List UInt8 := secOf [97, 97, 97, 97]
def awB : List UInt8 := secOf [98, 98, 98, 98]
def aw3 : Dk := dkWrite (dkFlush (dkWrite (dkNew 2) 0 awA)) 0 awB
set_option maxRecDepth 100000 in
theorem aw_crash : (crashTo [] 0 2 0 aw3.safe aw3.queue).2 = 0 := by decide
set_option maxRecDepth 100000 in
theorem aw_see : (seeAt (dkCrash aw3 [] 0 2) 0).take 4 = [98, 98, 97, 97] := by decide

set_option maxRecDepth 100000 in
set_option maxHeartbeats 4000000 in
theorem dk14_any (w : World) : Calls Try.prog 14 #[] w fun e w' => e = .returned (.bool true) ∧ Ext w w' := by
  have hf15 : Calls Try.prog 15 #[.int .i64 2] w fun e w' => ∃ p, e = .returned (.tuple #[.pointer (some ⟨p, 0, none⟩), .int .i64 0]) ∧ Disk (fun b => b < w.heap.size) w' p (dkNew 2) ∧ Ext w w' := dk15_good 2 w (by omega) (by omega)
  obtain ⟨K, hK⟩ : ∃ K : Nat → Prop, K = fun b => b < w.heap.size := ⟨_, rfl⟩
  have hKb : ∀ b, K b → b < w.heap.size := fun b e => by rw [hK] at e; exact e
  have hKu : ∀ w', Upd (fun b => ¬ K b) w w' → Ext w w' := fun w' u => u.to_ext (Ext.refl w) (fun b e => by rw [hK] at e; omega)
  rw [← hK] at hf15
  clear hK
  have hcr : ∀ w' p, Disk K w' p aw3 → Calls Try.prog 19 #[.pointer (some ⟨p, 0, none⟩), .agg #[.slice none 0 0, .int .i64 0, .int .i64 2]] w' fun e w'' => e = .returned (.int .i64 0) ∧ Disk K w'' p (dkCrash aw3 [] 0 2) ∧ Upd (fun b => ¬ K b) w' w'' := fun w' p h => by
    have := dk19_any h none [] 0 0 0 2 rfl (Cells.nil _ _) (fun x e => by cases e) (by omega)
    rw [aw_crash] at this
    exact this
  have hbe : ∀ w' p, Disk K w' p (dkCrash aw3 [] 0 2) → Calls Try.prog 20 #[.pointer (some ⟨p, 0, none⟩), .int .i64 0, strOf [98, 98, 97, 97]] w' fun e w'' => e = .returned (.bool true) ∧ Disk K w'' p (dkRead (dkCrash aw3 [] 0 2)) ∧ Upd (fun b => ¬ K b) w' w'' := fun w' p h => by
    have := dk20_any h (by decide) 0 (by decide) [98, 98, 97, 97] (by decide)
    rw [show ([98, 98, 97, 97] : List UInt8).length = 4 from rfl, aw_see, decide_eq_true rfl] at this
    exact this
  have hw1 : ∀ w' w2 p, Disk K w' p (dkNew 2) → Upd (fun b => ¬ K b) w w' → Ext w' w2 → w2.heap[w'.heap.size]? = some (.cells (octs awA).toArray 5 (0, 0)) → Calls Try.prog 16 #[.pointer (some ⟨p, 0, none⟩), .int .i64 0, .slice (some ⟨w'.heap.size, 0, none⟩) 128 128] w2 fun e w3 => e = .returned (.int .i64 0) ∧ Disk K w3 p (dkWrite (dkNew 2) 0 awA) ∧ Upd (fun b => ¬ K b) w' w3 :=
    fun w' w2 p h u x hb => wr_sec h (by decide) x awA (by decide) hb 0 (by decide) (by decide) (by decide) (fun b e => Nat.lt_of_lt_of_le (hKb b e) u.size)
  have hw2 : ∀ w' w2 p, Disk K w' p (dkFlush (dkWrite (dkNew 2) 0 awA)) → Upd (fun b => ¬ K b) w w' → Ext w' w2 → w2.heap[w'.heap.size]? = some (.cells (octs awB).toArray 5 (0, 0)) → Calls Try.prog 16 #[.pointer (some ⟨p, 0, none⟩), .int .i64 0, .slice (some ⟨w'.heap.size, 0, none⟩) 128 128] w2 fun e w3 => e = .returned (.int .i64 0) ∧ Disk K w3 p aw3 ∧ Upd (fun b => ¬ K b) w' w3 :=
    fun w' w2 p h u x hb => wr_sec h (by decide) x awB (by decide) hb 0 (by decide) (by decide) (by decide) (fun b e => Nat.lt_of_lt_of_le (hKb b e) u.size)
  have hfl : ∀ w' p, Disk K w' p (dkWrite (dkNew 2) 0 awA) → Calls Try.prog 18 #[.pointer (some ⟨p, 0, none⟩)] w' fun e w'' => e = .returned (.int .i64 0) ∧ Disk K w'' p (dkFlush (dkWrite (dkNew 2) 0 awA)) ∧ Upd (fun b => ¬ K b) w' w'' := fun w' p h => dk18_on h (by decide)
  have hsA : ∀ w, Calls Try.prog 17 #[strOf [97, 97, 97, 97]] w fun e w' => e = .returned (.slice (some ⟨w.heap.size, 0, none⟩) 128 128) ∧ w'.heap[w.heap.size]? = some (.cells (octs awA).toArray 5 (0, 0)) ∧ Ext w w' := fun w => dk17_any [97, 97, 97, 97] (by decide) w
  have hsB : ∀ w, Calls Try.prog 17 #[strOf [98, 98, 98, 98]] w fun e w' => e = .returned (.slice (some ⟨w.heap.size, 0, none⟩) 128 128) ∧ w'.heap[w.heap.size]? = some (.cells (octs awB).toArray 5 (0, 0)) ∧ Ext w w' := fun w => dk17_any [98, 98, 98, 98] (by decide) w
  go_enter Try.func14, Try.ntmps14
  go_wp2_with first
    | (go_at_call 15; refine hf15.mono ?_; clear hf15; rintro e w1 ⟨p, rfl, h1, x1⟩; have u1 : Upd (fun b => ¬ K b) w w1 := Upd.of_ext _ x1)
    | (go_at_call 17; refine (hsA _).mono ?_; clear hsA; rintro e w2 ⟨rfl, b2, x2⟩)
    | (go_at_call 16; refine (hw1 _ _ _ h1 u1 x2 b2).mono ?_; clear hw1; rintro e w3 ⟨rfl, h3, u3⟩; have u3 := u1.trans u3)
    | (go_at_call 18; refine (hfl _ _ h3).mono ?_; clear hfl; rintro e w4 ⟨rfl, h4, u4⟩; have u4 := u3.trans u4)
    | (go_at_call 17; refine (hsB _).mono ?_; clear hsB; rintro e w5 ⟨rfl, b5, x5⟩)
    | (go_at_call 16; refine (hw2 _ _ _ h4 u4 x5 b5).mono ?_; clear hw2; rintro e w6 ⟨rfl, h6, u6⟩; have u6 := u4.trans u6)
    | (go_at_call 19; refine (hcr _ _ h6).mono ?_; clear hcr; rintro e w7 ⟨rfl, h7, u7⟩; have u7 := u6.trans u7)
    | (go_at_call 20; refine (hbe _ _ h7).mono ?_; clear hbe; rintro e w8 ⟨rfl, h8, u8⟩; have u8 := u7.trans u8)
  go_ret
  exact ⟨rfl, hKu _ u8⟩
end Go.Proofs.Ytgpnmmgoachajaa
/- The check sum of layer 2 in plain mathematics: the shift register on natural numbers, its linearity over xor, the table of nibbles, and that a turned burst of at most 32 bits is always seen. No program is named here. -/
namespace Mb

/-- One step of the register: a bit out at the low end. -/
def step1 (u : Nat) : Nat := (u >>> 1) ^^^ (if u % 2 = 1 then 3988292384 else 0)

def stepn : Nat → Nat → Nat
  | 0, u => u
  | n + 1, u => stepn n (step1 u)

/-- The register behind an octet. -/
def take (u : Nat) (c : UInt8) : Nat := stepn 8 (u ^^^ c.toNat)

def reg (u : Nat) (l : List UInt8) : Nat := l.foldl take u

def mask32 : Nat := 4294967295

def crcSum (l : List UInt8) : Nat := mask32 ^^^ reg mask32 l

theorem step1_xor (a b : Nat) : step1 (a ^^^ b) = step1 a ^^^ step1 b := by
  unfold step1
  rw [Nat.shiftRight_xor_distrib]
  have h := @Nat.xor_mod_two_eq_one a b
  by_cases ha : a % 2 = 1 <;> by_cases hb : b % 2 = 1
  · have : ¬ (a ^^^ b) % 2 = 1 := by rw [h]; simp [ha, hb]
    rw [if_neg this, if_pos ha, if_pos hb]
    have e : ∀ x y p : Nat, (x ^^^ y) ^^^ 0 = (x ^^^ p) ^^^ (y ^^^ p) := by
      intro x y p
      rw [Nat.xor_zero, Nat.xor_assoc, ← Nat.xor_assoc p y p, Nat.xor_comm p y, Nat.xor_assoc y p p, Nat.xor_self, Nat.xor_zero]
    exact e _ _ _
  · have : (a ^^^ b) % 2 = 1 := by rw [h]; simp [ha, hb]
    rw [if_pos this, if_pos ha, if_neg hb, Nat.xor_zero, Nat.xor_assoc, Nat.xor_comm (b >>> 1), ← Nat.xor_assoc]
  · have : (a ^^^ b) % 2 = 1 := by rw [h]; simp [ha, hb]
    rw [if_pos this, if_neg ha, if_pos hb, Nat.xor_zero, Nat.xor_assoc]
  · have : ¬ (a ^^^ b) % 2 = 1 := by rw [h]; simp [ha, hb]
    rw [if_neg this, if_neg ha, if_neg hb, Nat.xor_zero, Nat.xor_zero, Nat.xor_zero]

theorem stepn_xor (n : Nat) : ∀ a b, stepn n (a ^^^ b) = stepn n a ^^^ stepn n b := by
  induction n with
  | zero => intro a b; rfl
  | succ n ih => intro a b; simp only [stepn]; rw [step1_xor, ih]

theorem stepn_add (m : Nat) : ∀ n u, stepn (m + n) u = stepn n (stepn m u) := by
  induction m with
  | zero => intro n u; simp [stepn]
  | succ m ih => intro n u; rw [Nat.succ_add]; simp only [stepn]; exact ih n _

theorem step1_even (v : Nat) : step1 (2 * v) = v := by
  unfold step1
  have h : ¬ (2 * v) % 2 = 1 := by omega
  rw [if_neg h, Nat.xor_zero, Nat.shiftRight_eq_div_pow]; omega

theorem stepn_shl (k : Nat) : ∀ v, stepn k (v * 2 ^ k) = v := by
  induction k with
  | zero => intro v; simp [stepn]
  | succ k ih =>
    intro v
    simp only [stepn]
    have : v * 2 ^ (k + 1) = 2 * (v * 2 ^ k) := by rw [Nat.pow_succ]; ac_rfl
    rw [this, step1_even, ih]

theorem step1_lt {u : Nat} (h : u < 4294967296) : step1 u < 4294967296 := by
  unfold step1
  have h1 : u >>> 1 < 2 ^ 32 := by rw [Nat.shiftRight_eq_div_pow]; omega
  have h2 : (if u % 2 = 1 then 3988292384 else 0) < 2 ^ 32 := by split <;> omega
  exact Nat.xor_lt_two_pow h1 h2

theorem stepn_lt (n : Nat) : ∀ {u}, u < 4294967296 → stepn n u < 4294967296 := by
  induction n with
  | zero => intro u h; exact h
  | succ n ih => intro u h; exact ih (step1_lt h)

theorem xor_byte_lt {u : Nat} (h : u < 4294967296) (c : UInt8) : u ^^^ c.toNat < 4294967296 :=
  Nat.xor_lt_two_pow (n := 32) h (by have := c.toNat_lt; omega)

theorem take_lt {u : Nat} (h : u < 4294967296) (c : UInt8) : take u c < 4294967296 := stepn_lt 8 (xor_byte_lt h c)

theorem reg_lt (l : List UInt8) : ∀ {u}, u < 4294967296 → reg u l < 4294967296 := by
  induction l with
  | nil => intro u h; exact h
  | cons c l ih => intro u h; exact ih (take_lt h c)

theorem crcSum_lt (l : List UInt8) : crcSum l < 4294967296 :=
  Nat.xor_lt_two_pow (n := 32) (by unfold mask32; omega) (reg_lt l (by unfold mask32; omega))

theorem reg_append (l m : List UInt8) (u : Nat) : reg u (l ++ m) = reg (reg u l) m := List.foldl_append ..

/-- No state of the register but nought steps to nought. -/
theorem step1_ne {u : Nat} (h : u < 4294967296) (h0 : u ≠ 0) : step1 u ≠ 0 := by
  unfold step1
  intro e
  split at e
  · rename_i ho
    have : u >>> 1 = 3988292384 := by
      have e2 := congrArg (· ^^^ 3988292384) e
      simpa [Nat.xor_assoc, Nat.xor_self] using e2
    rw [Nat.shiftRight_eq_div_pow] at this; omega
  · rename_i ho
    rw [Nat.xor_zero, Nat.shiftRight_eq_div_pow] at e; omega

theorem stepn_ne (n : Nat) : ∀ {u}, u < 4294967296 → u ≠ 0 → stepn n u ≠ 0 := by
  induction n with
  | zero => intro u _ h0; exact h0
  | succ n ih => intro u h h0; exact ih (step1_lt h) (step1_ne h h0)

theorem stepn_inj (n : Nat) {a b : Nat} (ha : a < 4294967296) (hb : b < 4294967296) (h : stepn n a = stepn n b) : a = b := by
  by_cases e : a ^^^ b = 0
  · have h2 := congrArg (· ^^^ b) e
    simpa [Nat.xor_assoc, Nat.xor_self] using h2
  · exfalso
    refine stepn_ne n (Nat.xor_lt_two_pow (n := 32) ha hb) e ?_
    rw [stepn_xor, h, Nat.xor_self]

theorem stepn_shift_in (k x c : Nat) : stepn k x ^^^ c = stepn k (x ^^^ c * 2 ^ k) := by rw [stepn_xor, stepn_shl]

theorem xor_cancel {a b c : Nat} (h : a ^^^ c = b ^^^ c) : a = b := by
  have h2 := congrArg (· ^^^ c) h
  simpa [Nat.xor_assoc, Nat.xor_self] using h2

theorem take_xor (a b : Nat) (c : UInt8) : take (a ^^^ b) c = take a c ^^^ stepn 8 b := by
  unfold take
  rw [← stepn_xor, Nat.xor_assoc, Nat.xor_comm b, ← Nat.xor_assoc]

/-- What the register differs by, it goes on to differ by. -/
theorem reg_xor_left (m : List UInt8) : ∀ a b, reg (a ^^^ b) m = reg a m ^^^ stepn (8 * m.length) b := by
  induction m with
  | nil => intro a b; rfl
  | cons c m ih =>
    intro a b
    show reg (take (a ^^^ b) c) m = reg (take a c) m ^^^ _
    rw [take_xor, ih, ← stepn_add]
    congr 2
    simp; omega

/-- One octet turned: the register behind all octets differs by what came of the difference. -/
theorem reg_set (l : List UInt8) (k : Nat) (hk : k < l.length) (c : UInt8) (u : Nat) :
    reg u (l.set k c) = reg u l ^^^ stepn (8 * (l.length - k)) (l[k].toNat ^^^ c.toNat) := by
  have e1 : l = l.take k ++ l[k] :: l.drop (k + 1) := by simp
  have e2 : l.set k c = l.take k ++ c :: l.drop (k + 1) := by rw [List.set_eq_take_append_cons_drop, if_pos hk]
  have e3 : reg u l = reg (take (reg u (l.take k)) l[k]) (l.drop (k + 1)) := by
    conv => lhs; rw [e1]
    rw [reg_append]; rfl
  rw [e2, reg_append, e3]
  show reg (take (reg u (l.take k)) c) (l.drop (k + 1)) = _
  have e4 : take (reg u (l.take k)) c = take (reg u (l.take k)) l[k] ^^^ stepn 8 (l[k].toNat ^^^ c.toNat) := by
    unfold take
    rw [← stepn_xor, Nat.xor_assoc, ← Nat.xor_assoc l[k].toNat, Nat.xor_self, Nat.zero_xor]
  rw [e4, reg_xor_left, ← stepn_add]
  congr 2
  simp; omega

def get4 : List UInt8 → Nat
  | [a, b, c, d] => a.toNat + 256 * b.toNat + 65536 * c.toNat + 16777216 * d.toNat
  | _ => 0

def le4 (v : Nat) : List UInt8 := [UInt8.ofNat v, UInt8.ofNat (v / 256), UInt8.ofNat (v / 65536), UInt8.ofNat (v / 16777216)]

theorem get4_le4 (v : Nat) (h : v < 4294967296) : get4 (le4 v) = v := by
  simp only [get4, le4, UInt8.toNat_ofNat']; omega

theorem length_le4 (v : Nat) : (le4 v).length = 4 := rfl

theorem get4_lt : ∀ l, get4 l < 4294967296
  | [a, b, c, d] => by
    have := a.toNat_lt; have := b.toNat_lt; have := c.toNat_lt; have := d.toNat_lt
    simp only [get4]; omega
  | [] => by simp [get4]
  | [_] => by simp [get4]
  | [_, _] => by simp [get4]
  | [_, _, _] => by simp [get4]
  | _ :: _ :: _ :: _ :: _ :: _ => by simp [get4]

theorem le4_get4 (l : List UInt8) (h : l.length = 4) : le4 (get4 l) = l := by
  match l, h with
  | [a, b, c, d], _ =>
    have := a.toNat_lt; have := b.toNat_lt; have := c.toNat_lt; have := d.toNat_lt
    have e : ∀ (x : UInt8) (n : Nat), n % 256 = x.toNat → UInt8.ofNat n = x := by
      intro x n h
      apply UInt8.toNat_inj.1
      rw [UInt8.toNat_ofNat']; exact h
    simp only [get4, le4]
    rw [e a _ (by omega), e b _ (by omega), e c _ (by omega), e d _ (by omega)]

theorem add_shl_xor (k a b : Nat) (h : a < 2 ^ k) : a + b * 2 ^ k = a ^^^ b * 2 ^ k := by
  apply Nat.eq_of_testBit_eq
  intro i
  have h1 : a + b * 2 ^ k = 2 ^ k * b + a := by rw [Nat.mul_comm]; omega
  have h2 : b * 2 ^ k = 2 ^ k * b + 0 := by rw [Nat.mul_comm]; omega
  rw [Nat.testBit_xor, h1, Nat.testBit_two_pow_mul_add _ h, h2, Nat.testBit_two_pow_mul_add _ (Nat.two_pow_pos k)]
  split
  · simp
  · rename_i hi
    have : a.testBit i = false := Nat.testBit_lt_two_pow (Nat.lt_of_lt_of_le h (Nat.pow_le_pow_right (by omega) (by omega)))
    simp [this]

theorem reg_four (u : Nat) (l : List UInt8) (h : l.length = 4) : reg u l = stepn 32 (u ^^^ get4 l) := by
  match l, h with
  | [a, b, c, d], _ =>
    have ha := a.toNat_lt; have hb := b.toNat_lt; have hc := c.toNat_lt; have hd := d.toNat_lt
    show stepn 8 (stepn 8 (stepn 8 (stepn 8 (u ^^^ a.toNat) ^^^ b.toNat) ^^^ c.toNat) ^^^ d.toNat) = _
    rw [stepn_shift_in 8 _ b.toNat, ← stepn_add, stepn_shift_in (8 + 8) _ c.toNat, ← stepn_add, stepn_shift_in (8 + 8 + 8) _ d.toNat, ← stepn_add]
    congr 1
    have e1 := add_shl_xor 8 a.toNat b.toNat (by omega)
    have e2 := add_shl_xor 16 (a.toNat + b.toNat * 2 ^ 8) c.toNat (by omega)
    have e3 := add_shl_xor 24 (a.toNat + b.toNat * 2 ^ 8 + c.toNat * 2 ^ 16) d.toNat (by omega)
    have e : get4 [a, b, c, d] = a.toNat + b.toNat * 2 ^ 8 + c.toNat * 2 ^ 16 + d.toNat * 2 ^ 24 := by simp only [get4]; omega
    rw [e, e3, e2, e1]
    simp only [Nat.xor_assoc, Nat.reduceAdd]

/-- The register behind what is sealed: ever the same. -/
def residue : Nat := stepn 32 mask32

/-- Is a list of octets a sealed one? -/
def isSealed (x : List UInt8) : Bool := decide (4 ≤ x.length) && decide (get4 (x.drop (x.length - 4)) = crcSum (x.take (x.length - 4)))

def seal_ (l : List UInt8) : List UInt8 := l ++ le4 (crcSum l)

theorem isSealed_iff (x : List UInt8) : isSealed x = true ↔ 4 ≤ x.length ∧ reg mask32 x = residue := by
  unfold isSealed
  rw [Bool.and_eq_true, decide_eq_true_iff, decide_eq_true_iff]
  refine and_congr_right fun h4 => ?_
  have e : reg mask32 x = stepn 32 (reg mask32 (x.take (x.length - 4)) ^^^ get4 (x.drop (x.length - 4))) := by
    conv => lhs; rw [← List.take_append_drop (x.length - 4) x]
    rw [reg_append, reg_four _ _ (by rw [List.length_drop]; omega)]
  have hr : reg mask32 (x.take (x.length - 4)) < 4294967296 := reg_lt _ (by unfold mask32; omega)
  rw [e]
  unfold crcSum residue
  constructor
  · intro h
    rw [h, Nat.xor_comm mask32, ← Nat.xor_assoc, Nat.xor_self, Nat.zero_xor]
  · intro h
    have h2 := stepn_inj 32 (Nat.xor_lt_two_pow (n := 32) hr (get4_lt _)) (by unfold mask32; omega) h
    have h3 := congrArg (reg mask32 (x.take (x.length - 4)) ^^^ ·) h2
    rw [← Nat.xor_assoc, Nat.xor_self, Nat.zero_xor, Nat.xor_comm] at h3
    exact h3

theorem seal_length (l : List UInt8) : (seal_ l).length = l.length + 4 := by simp [seal_, le4]

theorem take_seal (l : List UInt8) : (seal_ l).take ((seal_ l).length - 4) = l := by
  rw [seal_length]; simp [seal_]

theorem drop_seal (l : List UInt8) : (seal_ l).drop ((seal_ l).length - 4) = le4 (crcSum l) := by
  rw [seal_length]; simp [seal_]

theorem isSealed_seal (l : List UInt8) : isSealed (seal_ l) = true := by
  unfold isSealed
  rw [drop_seal, take_seal, get4_le4 _ (crcSum_lt l), seal_length]
  simp

theorem seal_of_isSealed {x : List UInt8} (h : isSealed x = true) : seal_ (x.take (x.length - 4)) = x := by
  unfold isSealed at h
  rw [Bool.and_eq_true, decide_eq_true_iff, decide_eq_true_iff] at h
  unfold seal_
  rw [← h.2, le4_get4 _ (by rw [List.length_drop]; omega), List.take_append_drop]

theorem isSealed_iff_seal (x : List UInt8) : isSealed x = (decide (4 ≤ x.length) && decide (seal_ (x.take (x.length - 4)) = x)) := by
  rw [Bool.eq_iff_iff]
  constructor
  · intro h
    have h4 := ((isSealed_iff x).1 h).1
    simp [h4, seal_of_isSealed h]
  · intro h
    rw [Bool.and_eq_true, decide_eq_true_iff, decide_eq_true_iff] at h
    rw [← h.2]; exact isSealed_seal _

/-- One octet of a sealed text turned: it is none any more. -/
theorem isSealed_set (x : List UInt8) (h : isSealed x = true) (k : Nat) (hk : k < x.length) (c : UInt8) : isSealed (x.set k c) = decide (x[k] = c) := by
  by_cases e : x[k] = c
  · subst e
    rw [List.set_getElem_self, h]; simp
  · have h1 := (isSealed_iff x).1 h
    have : isSealed (x.set k c) = false := by
      rw [Bool.eq_false_iff]
      intro h2
      have h3 := ((isSealed_iff _).1 h2).2
      rw [reg_set x k hk, h1.2] at h3
      have hne : x[k].toNat ^^^ c.toNat ≠ 0 := by
        intro h0
        have := congrArg (· ^^^ c.toNat) h0
        simp [Nat.xor_assoc, Nat.xor_self] at this
        exact e (UInt8.toNat_inj.1 this)
      have hlt : x[k].toNat ^^^ c.toNat < 4294967296 := Nat.xor_lt_two_pow (n := 32) (by have := (x[k]).toNat_lt; omega) (by have := c.toNat_lt; omega)
      refine stepn_ne (8 * (x.length - k)) hlt hne ?_
      have h4 := congrArg (residue ^^^ ·) h3
      simpa [← Nat.xor_assoc, Nat.xor_self] using h4
    rw [this]; simp [e]

/-- Bit i of a word laid into the octets from bit k on. -/
def turnBit (x : List UInt8) (j : Nat) : List UInt8 := x.set (j / 8) (x.getD (j / 8) 0 ^^^ UInt8.ofNat (2 ^ (j % 8)))

def turned (x : List UInt8) (k v : Nat) : Nat → List UInt8
  | 0 => x
  | i + 1 => if v.testBit i then turnBit (turned x k v i) (k + i) else turned x k v i

theorem length_turned (x : List UInt8) (k v : Nat) : ∀ i, (turned x k v i).length = x.length
  | 0 => rfl
  | i + 1 => by
    unfold turned
    split
    · simp [turnBit, length_turned x k v i]
    · exact length_turned x k v i

theorem reg_turnBit (x : List UInt8) (j : Nat) (hj : j < 8 * x.length) (u : Nat) : reg u (turnBit x j) = reg u x ^^^ stepn (8 * x.length - j) 1 := by
  have hk : j / 8 < x.length := by omega
  unfold turnBit
  rw [reg_set _ _ hk]
  congr 1
  have e1 : x[j / 8].toNat ^^^ (x.getD (j / 8) 0 ^^^ UInt8.ofNat (2 ^ (j % 8))).toNat = 1 * 2 ^ (j % 8) := by
    have : x.getD (j / 8) 0 = x[j / 8] := by simp [List.getD_eq_getElem?_getD, List.getElem?_eq_getElem hk]
    rw [this, UInt8.toNat_xor, ← Nat.xor_assoc, Nat.xor_self, Nat.zero_xor, UInt8.toNat_ofNat']
    have h8 : 2 ^ (j % 8) < 256 := by
      have : 2 ^ (j % 8) < 2 ^ 8 := Nat.pow_lt_pow_right (by omega) (by omega)
      simpa using this
    rw [Nat.mod_eq_of_lt (by simpa using h8), Nat.one_mul]
  rw [e1]
  have e2 : 8 * (x.length - j / 8) = j % 8 + (8 * x.length - j) := by omega
  rw [e2, stepn_add, stepn_shl]

theorem mod_two_pow_succ_xor (v i : Nat) : v % 2 ^ (i + 1) = v % 2 ^ i ^^^ (if v.testBit i then 2 ^ i else 0) := by
  apply Nat.eq_of_testBit_eq
  intro j
  rw [Nat.testBit_xor, Nat.testBit_mod_two_pow, Nat.testBit_mod_two_pow]
  by_cases h : j = i
  · subst h
    by_cases hb : v.testBit j <;> simp [hb, Nat.testBit_two_pow_self]
  · have : (if v.testBit i then 2 ^ i else 0).testBit j = false := by
      split
      · exact Nat.testBit_two_pow_of_ne (by omega)
      · simp
    rw [this]
    have : decide (j < i + 1) = decide (j < i) := by
      rw [decide_eq_decide]; omega
    simp [this]

theorem reg_turned (x : List UInt8) (k v : Nat) (hk : k + 32 ≤ 8 * x.length) (u : Nat) : ∀ i, i ≤ 32 → reg u (turned x k v i) = reg u x ^^^ stepn (8 * x.length - k) (v % 2 ^ i)
  | 0, _ => by
    have : ∀ n, stepn n 0 = 0 := by
      intro n
      have := stepn_shl n 0
      simpa using this
    simp [turned, Nat.mod_one, this]
  | i + 1, hi => by
    have ih := reg_turned x k v hk u i (by omega)
    unfold turned
    rw [mod_two_pow_succ_xor, stepn_xor, ← Nat.xor_assoc, ← ih]
    by_cases hb : v.testBit i = true
    · rw [if_pos hb, if_pos hb, reg_turnBit _ _ (by rw [length_turned]; omega), length_turned]
      congr 1
      have e : 8 * x.length - k = i + (8 * x.length - (k + i)) := by omega
      have e2 := stepn_shl i 1
      rw [Nat.one_mul] at e2
      rw [e, stepn_add, e2]
    · have : ∀ n, stepn n 0 = 0 := by
        intro n
        have := stepn_shl n 0
        simpa using this
      rw [if_neg hb, if_neg hb, this, Nat.xor_zero]

/-- Up to 32 bits beside each other turned: it is no sealed text. -/
theorem isSealed_turned (x : List UInt8) (h : isSealed x = true) (k v : Nat) (hk : k + 32 ≤ 8 * x.length) (hv : v < 4294967296) (h0 : v ≠ 0) : isSealed (turned x k v 32) = false := by
  rw [Bool.eq_false_iff]
  intro h2
  have h3 := ((isSealed_iff _).1 h2).2
  have h1 := (isSealed_iff x).1 h
  rw [reg_turned x k v hk _ 32 (Nat.le_refl _), h1.2] at h3
  have e : v % 2 ^ 32 = v := Nat.mod_eq_of_lt hv
  rw [e] at h3
  refine stepn_ne (8 * x.length - k) hv h0 ?_
  have h4 := congrArg (residue ^^^ ·) h3
  simpa [← Nat.xor_assoc, Nat.xor_self] using h4

/-- Three texts of one length, xored. -/
def xor3 : List UInt8 → List UInt8 → List UInt8 → List UInt8
  | a :: xa, b :: bs, c :: cs => (a ^^^ b ^^^ c) :: xor3 xa bs cs
  | _, _, _ => []

theorem reg_xor3 : ∀ (a b c : List UInt8), b.length = a.length → c.length = a.length → ∀ u v w, reg (u ^^^ v ^^^ w) (xor3 a b c) = reg u a ^^^ reg v b ^^^ reg w c
  | [], [], [], _, _, _, _, _ => rfl
  | a :: xa, b :: bs, c :: cs, hb, hc, u, v, w => by
    have e : take (u ^^^ v ^^^ w) (a ^^^ b ^^^ c) = take u a ^^^ take v b ^^^ take w c := by
      unfold take
      rw [← stepn_xor, ← stepn_xor, UInt8.toNat_xor, UInt8.toNat_xor]
      congr 1
      ac_rfl
    show reg (take (u ^^^ v ^^^ w) (a ^^^ b ^^^ c)) (xor3 xa bs cs) = _
    rw [e, reg_xor3 xa bs cs (by simpa using hb) (by simpa using hc)]
    rfl
  | [], _ :: _, _, hb, _, _, _, _ => by simp at hb
  | [], [], _ :: _, _, hc, _, _, _ => by simp at hc
  | _ :: _, [], _, hb, _, _, _, _ => by simp at hb
  | _ :: _, _ :: _, [], _, hc, _, _, _ => by simp at hc

theorem crcSum_xor3 (a b c : List UInt8) (hb : b.length = a.length) (hc : c.length = a.length) : crcSum (xor3 a b c) = crcSum a ^^^ crcSum b ^^^ crcSum c := by
  unfold crcSum
  have := reg_xor3 a b c hb hc mask32 mask32 mask32
  have e : mask32 ^^^ mask32 ^^^ mask32 = mask32 := by rw [Nat.xor_self, Nat.zero_xor]
  rw [e] at this
  rw [this]
  have e2 : mask32 ^^^ reg mask32 a ^^^ (mask32 ^^^ reg mask32 b) ^^^ (mask32 ^^^ reg mask32 c) = mask32 ^^^ mask32 ^^^ mask32 ^^^ (reg mask32 a ^^^ reg mask32 b ^^^ reg mask32 c) := by ac_rfl
  rw [e2, e]

/-- The table of nibbles serves for a step of eight. -/
theorem take_nibbles (u : Nat) (c : UInt8) : u >>> 8 ^^^ stepn 8 ((u % 256 ^^^ c.toNat) % 16) ^^^ stepn 8 ((u % 256 ^^^ c.toNat) / 16 * 16) = take u c := by
  have hx : u % 256 ^^^ c.toNat < 256 := Nat.xor_lt_two_pow (n := 8) (Nat.mod_lt _ (by omega)) (by have := c.toNat_lt; omega)
  have e1 : stepn 8 (u >>> 8 * 2 ^ 8) = u >>> 8 := stepn_shl 8 _
  have e2 : (u % 256 ^^^ c.toNat) % 16 ^^^ (u % 256 ^^^ c.toNat) / 16 * 16 = u % 256 ^^^ c.toNat := by
    have := add_shl_xor 4 ((u % 256 ^^^ c.toNat) % 16) ((u % 256 ^^^ c.toNat) / 16) (Nat.mod_lt _ (by omega))
    simp only [Nat.reducePow] at this
    rw [← this]; omega
  have e3 : u >>> 8 * 2 ^ 8 ^^^ u % 256 = u := by
    have := add_shl_xor 8 (u % 256) (u >>> 8) (Nat.mod_lt _ (by omega))
    rw [Nat.xor_comm, ← this, Nat.shiftRight_eq_div_pow]
    have h := Nat.mod_add_div u 256
    rw [Nat.mul_comm] at h
    exact h
  unfold take
  conv => lhs; rw [← e1]
  rw [← stepn_xor, ← stepn_xor, Nat.xor_assoc, e2, ← Nat.xor_assoc, e3]

/-- The document's way, bit by bit. -/
def refBit (u c : Nat) : Nat := (u / 2) ^^^ (if (u ^^^ c) % 2 = 1 then 3988292384 else 0)
def refStep (p : Nat × Nat) : Nat × Nat := (refBit p.1 p.2, p.2 / 2)

def refSteps : Nat → Nat × Nat → Nat × Nat
  | 0, p => p
  | n + 1, p => refStep (refSteps n p)

theorem refStep_xor (p : Nat × Nat) : (refStep p).1 ^^^ (refStep p).2 = step1 (p.1 ^^^ p.2) := by
  obtain ⟨u, c⟩ := p
  show refBit u c ^^^ c / 2 = step1 (u ^^^ c)
  unfold refBit step1
  rw [Nat.shiftRight_xor_distrib, Nat.shiftRight_eq_div_pow, Nat.shiftRight_eq_div_pow]
  simp only [Nat.pow_one]
  ac_rfl

theorem stepn_succ' (n : Nat) (u : Nat) : stepn (n + 1) u = step1 (stepn n u) := by
  have := stepn_add n 1 u
  simpa [stepn] using this

theorem refSteps_xor (u c : Nat) : ∀ n, (refSteps n (u, c)).1 ^^^ (refSteps n (u, c)).2 = stepn n (u ^^^ c)
  | 0 => rfl
  | n + 1 => by
    rw [stepn_succ', ← refSteps_xor u c n]
    exact refStep_xor _

theorem refSteps_snd (u c : Nat) : ∀ n, (refSteps n (u, c)).2 = c / 2 ^ n
  | 0 => by simp [refSteps]
  | n + 1 => by
    show (refSteps n (u, c)).2 / 2 = _
    rw [refSteps_snd u c n, Nat.pow_succ, Nat.div_div_eq_div_mul]

theorem refSteps_fst_of (u c n : Nat) (h : c / 2 ^ n = 0) : (refSteps n (u, c)).1 = stepn n (u ^^^ c) := by
  have h1 := refSteps_xor u c n
  rw [refSteps_snd u c n, h, Nat.xor_zero] at h1
  exact h1

theorem refSteps_take (u : Nat) (c : UInt8) : (refSteps 8 (u, c.toNat)).1 = take u c :=
  refSteps_fst_of u c.toNat 8 (Nat.div_eq_of_lt c.toNat_lt)

end Mb
/- The two lists: Add, Touch, Remove, Active, Inactive and Victim. -/
namespace Go.Proofs.Ytgpnmmgoachajaa
open Go.RowKit
open Go.Proofs

def tAdd (n x : Int) (A I : List Int) : List Int × List Int := if 0 ≤ x ∧ x < n then even (A.erase x) (I.erase x ++ [x]) else (A, I)
def tTouch (n x : Int) (A I : List Int) : List Int × List Int := if (0 ≤ x ∧ x < n) ∧ (x ∈ A ∨ x ∈ I) then even (A.erase x ++ [x]) (I.erase x) else (A, I)
def tRemove (x : Int) (A I : List Int) : List Int × List Int := even (A.erase x) (I.erase x)

theorem erase_le (l : List Int) (x : Int) : (l.erase x).length ≤ l.length := List.length_erase_le

/-- Is it held by nobody? -/
def free (held : List Int) (y : Int) : Bool := !decide (y ∈ held)
def victim (held A I : List Int) : Int := ((I ++ A).find? (free held)).getD (-1)

theorem idx_none (p : Int → Bool) : ∀ (l : List Int) (i : Nat) (d : Int), l.find? p = none → Lib.idxByFrom (fun _ y => p y) d l i = -1
  | [], _, _, _ => rfl
  | y :: r, i, d, h => by
    rw [List.find?_cons] at h
    cases hp : p y with
    | true => rw [hp] at h; cases h
    | false => rw [hp] at h; simp only [Lib.idxByFrom, hp]; exact idx_none p r (i + 1) d h
theorem idx_some (p : Int → Bool) : ∀ (l : List Int) (i : Nat) (d x : Int), l.find? p = some x → ∃ k, k < l.length ∧ l[k]? = some x ∧ Lib.idxByFrom (fun _ y => p y) d l i = ((i + k : Nat) : Int)
  | [], _, _, _, h => by cases h
  | y :: r, i, d, x, h => by
    rw [List.find?_cons] at h
    cases hp : p y with
    | true => rw [hp] at h; cases h; exact ⟨0, by simp, rfl, by simp [Lib.idxByFrom, hp]⟩
    | false =>
      rw [hp] at h
      obtain ⟨k, h1, h2, h3⟩ := idx_some p r (i + 1) d x h
      exact ⟨k + 1, by simp; omega, by simpa using h2, by simp only [Lib.idxByFrom, hp]; rw [if_neg (by simp), h3]; omega⟩
end Go.Proofs.Ytgpnmmgoachajaa
/- The two lists: Victim. -/
namespace Go.Proofs.Ytgpnmmgoachajaa
open Go.RowKit
open Go.Proofs

end Go.Proofs.Ytgpnmmgoachajaa
/- The document's comparison of two lists of ints, and the example of layer 22. -/
namespace Go.Proofs.Ytgpnmmgoachajaa
open Go.RowKit
open Go.Proofs

/-- 0, 1, .. -/
def iota (j : Nat) : List Int := (List.range j).map (fun (i : Nat) => (i : Int))
theorem iota_succ (j : Nat) : iota (j + 1) = iota j ++ [(j : Int)] := by simp [iota, List.range_succ]
theorem iota_length (j : Nat) : (iota j).length = j := by simp [iota]
theorem iota_mem (j : Nat) (x : Int) : x ∈ iota j ↔ 0 ≤ x ∧ x < j := by
  simp only [iota, List.mem_map, List.mem_range]
  constructor
  · rintro ⟨i, h, rfl⟩; omega
  · rintro ⟨h0, h1⟩; exact ⟨x.toNat, by omega, by omega⟩
theorem even_nil (I : List Int) : even [] I = ([], I) := rfl
theorem tAdd_iota (n : Int) (j : Nat) (h : (j : Int) < n) : tAdd n (j : Int) [] (iota j) = ([], iota (j + 1)) := by
  have h1 : (j : Int) ∉ iota j := by rw [iota_mem]; omega
  rw [tAdd, if_pos ⟨by omega, h⟩, List.erase_of_not_mem h1, iota_succ]
  rfl

theorem Own.ints_form {w : World} {base : Nat} {v : Value} {l : List Int} (h : Own w base 3 v (ints l)) : ∃ A c, v = .slice A l.length c ∧ l.length ≤ c ∧ Cells w A (ints l) := by
  obtain ⟨A, c, hv, hc, _, hx, _⟩ := h.form
  rw [length_ints] at hv hc
  exact ⟨A, c, hv, hc, hx⟩
theorem upd_ext {F : Nat → Prop} {w0 w1 w2 : World} {k : Nat} (u : Upd F w1 w2) (h : Ext w0 w1) (hk : w0.heap.size = k) (hF : F = fun b => b = k) : Ext w0 w2 :=
  u.to_ext h (fun b e => by rw [hF] at e; exact Nat.le_of_eq (hk.trans e.symm))

end Go.Proofs.Ytgpnmmgoachajaa
/- While nothing is touched victims come as they were added: the law's walk. -/
namespace Go.Proofs.Ytgpnmmgoachajaa
open Go.RowKit
open Go.Proofs

/-- '((x % n) + n) % n'. -/
theorem round_two (x : Int) (N : Nat) (h : 0 < N) : ∃ (t : Int) (k : Nat), x.tmod (N : Int) = t ∧ -(N : Int) < t ∧ t < (N : Int) ∧ (t + (N : Int)).tmod (N : Int) = (k : Int) ∧ k < N := by
  have h1 : x.tmod (N : Int) < (N : Int) := Int.tmod_lt_of_pos x (by omega)
  have h2 : -(N : Int) < x.tmod (N : Int) := by
    have := Int.tmod_lt_of_pos (-x) (b := (N : Int)) (by omega)
    rw [Int.neg_tmod] at this
    omega
  have h3 : 0 ≤ x.tmod (N : Int) + (N : Int) := by omega
  have h4 := Int.emod_nonneg (x.tmod (N : Int) + (N : Int)) (b := (N : Int)) (by omega)
  have h5 := Int.emod_lt_of_pos (x.tmod (N : Int) + (N : Int)) (b := (N : Int)) (by omega)
  refine ⟨_, ((x.tmod (N : Int) + (N : Int)) % (N : Int)).toNat, rfl, h2, h1, ?_, by omega⟩
  rw [Int.tmod_eq_emod_of_nonneg h3]; omega
theorem mod_nat (a N : Nat) : (a : Int).tmod (N : Int) = ((a % N : Nat) : Int) := by
  rw [Int.tmod_eq_emod_of_nonneg (by omega)]; omega

/-- The places in the order in which they are added. -/
def ord (K s j : Nat) : List Int := (List.range j).map (fun i => (((i + s) % K : Nat) : Int))
theorem ord_succ (K s j : Nat) : ord K s (j + 1) = ord K s j ++ [(((j + s) % K : Nat) : Int)] := by simp [ord, List.range_succ]
theorem ord_length (K s j : Nat) : (ord K s j).length = j := by simp [ord]
theorem ord_get (K s j i : Nat) (h : i < j) : (ord K s j)[i]? = some (((i + s) % K : Nat) : Int) := by simp [ord, h]
theorem ord_new (K s j : Nat) (hj : j < K) : (((j + s) % K : Nat) : Int) ∉ ord K s j := by
  simp only [ord, List.mem_map, List.mem_range, not_exists, not_and]
  intro i hi e
  have e2 : (i + s) % K = (j + s) % K := by omega
  have h1 := Nat.div_add_mod (i + s) K
  have h2 := Nat.div_add_mod (j + s) K
  rw [e2] at h1
  have h3 : K * ((j + s) / K) - K * ((i + s) / K) = j - i := by omega
  rw [← Nat.mul_sub] at h3
  have h4 : 0 < j - i := by omega
  have h5 : 1 ≤ (j + s) / K - (i + s) / K := by
    rcases Nat.eq_zero_or_pos ((j + s) / K - (i + s) / K) with h | h
    · rw [h] at h3; omega
    · exact h
  have h6 : K * 1 ≤ K * ((j + s) / K - (i + s) / K) := Nat.mul_le_mul_left K h5
  omega
theorem tAdd_ord (K s j : Nat) (hj : j < K) : tAdd (K : Int) (((j + s) % K : Nat) : Int) [] (ord K s j) = ([], ord K s (j + 1)) := by
  have h : (j + s) % K < K := Nat.mod_lt _ (by omega)
  rw [tAdd, if_pos ⟨by omega, by omega⟩, List.erase_of_not_mem (ord_new K s j hj), ord_succ]
  rfl
theorem ord_drop (K s j i : Nat) (h : i < j) : (ord K s j).drop i = (((i + s) % K : Nat) : Int) :: (ord K s j).drop (i + 1) := by
  have h2 : i < (ord K s j).length := by rw [ord_length]; exact h
  rw [List.drop_eq_getElem_cons h2]
  congr 1
  have := ord_get K s j i h
  rw [List.getElem?_eq_getElem h2] at this
  exact Option.some.inj this
theorem victim_nil (x : Int) (r : List Int) : victim [] [] (x :: r) = x := by simp [victim, free]
theorem tRemove_head (x : Int) (r : List Int) : tRemove x [] (x :: r) = ([], r) := by simp [tRemove, even]

/-- The blocks of an owner: from base on, and there. -/
def Within (G : Nat → Prop) (base : Nat) (w : World) : Prop := ∀ b, G b → base ≤ b ∧ b < w.heap.size
theorem Within.since {G : Nat → Prop} {base : Nat} {w w' : World} (h : Within G base w) (u : Upd G w w') (hb : base ≤ w.heap.size) : Within (Since G w w') base w' := by
  intro b hb2
  rcases hb2 with x | x
  · exact ⟨(h b x).1, Nat.lt_of_lt_of_le (h b x).2 u.size⟩
  · exact ⟨Nat.le_trans hb x.1, x.2⟩
theorem Within.le {G : Nat → Prop} {base : Nat} {w w' : World} (h : Within G base w) (hs : w.heap.size ≤ w'.heap.size) : Within G base w' := fun b x => ⟨(h b x).1, Nat.lt_of_lt_of_le (h b x).2 hs⟩

theorem Ext.trans' {F : Nat → Prop} {w0 w1 w2 : World} (h : Ext w0 w1) (u : Upd F w1 w2) (hf : ∀ b, F b → w0.heap.size ≤ b) : Ext w0 w2 := u.to_ext h hf

end Go.Proofs.Ytgpnmmgoachajaa
/- Layer 4's reading: its struct, Read, take, Done and Left. -/
namespace Go.Proofs.Ytgpnmmgoachajaa
open Go.RowKit
open Go.Proofs

/-- A reading's struct, in blocks of F; what is left; did it fail? -/
structure RdV (w : World) (k : Nat) (F : Nat → Prop) (A : Option Addr) (c : Nat) (B : List UInt8) (f : Bool) : Prop where
  head : w.heap[k]? = some (.cells #[.slice A B.length c, .bool f] 142 (0, 0))
  mem : F k
  le : B.length ≤ c
  rd : Octs w A B
  bl : ∀ a, A = some a → F a.block ∧ a.block ≠ k ∧ a.block < w.heap.size
  nil : f = true → B = []
def RdAt (w : World) (k : Nat) (F : Nat → Prop) (B : List UInt8) (f : Bool) : Prop := ∃ A c, RdV w k F A c B f
theorem Octs.upd {w w' : World} {G : Nat → Prop} {A : Option Addr} {l : List UInt8} (h : Octs w A l) (u : Upd G w w') (hg : ∀ a, A = some a → ¬ G a.block) : Octs w' A l := fun h0 => by
  obtain ⟨b, o, e, hc⟩ := h h0
  exact ⟨b, o, e, fun j v hv => u.cell (hc j v hv) (show ¬ G b from hg _ e)⟩
section
variable {w w' : World} {k : Nat} {F G : Nat → Prop} {A A1 : Option Addr} {c c1 : Nat} {B B1 : List UInt8} {f f1 : Bool}
theorem RdV.upd (h : RdV w k F A c B f) (u : Upd G w w') (hg : ∀ b, F b → ¬ G b) : RdV w' k F A c B f :=
  ⟨u.heap h.head (hg _ h.mem), h.mem, h.le, h.rd.upd u (fun a e => hg _ (h.bl a e).1), fun a e => ⟨(h.bl a e).1, (h.bl a e).2.1, Nat.lt_of_lt_of_le (h.bl a e).2.2 u.size⟩, h.nil⟩
theorem RdV.ext (h : RdV w k F A c B f) (u : Ext w w') : RdV w' k F A c B f := h.upd (Upd.of_ext (fun _ => False) u) (fun _ _ x => x)
theorem RdAt.upd (h : RdAt w k F B f) (u : Upd G w w') (hg : ∀ b, F b → ¬ G b) : RdAt w' k F B f := by
  obtain ⟨A, c, h⟩ := h
  exact ⟨A, c, h.upd u hg⟩
theorem RdAt.ext (h : RdAt w k F B f) (u : Ext w w') : RdAt w' k F B f := by
  obtain ⟨A, c, h⟩ := h
  exact ⟨A, c, h.ext u⟩
theorem RdV.cells (h : RdV w k F A c B f) : w.cell? ⟨k, 0, none⟩ = some (.slice A B.length c) ∧ w.cell? ⟨k, 1, none⟩ = some (.bool f) ∧ (∀ j, w.frozen? ⟨k, j, none⟩ = false) :=
  ⟨by rw [cell_of_row w k 0 _ _ (0, 0) h.head]; rfl, by rw [cell_of_row w k 1 _ _ (0, 0) h.head]; rfl, fun j => frozen_of_row w k j _ _ h.head⟩
theorem RdV.fails (h : RdV w k F A c B f) : RdAt ((w.setCell ⟨k, 0, none⟩ (.slice none 0 0)).setCell ⟨k, 1, none⟩ (.bool true)) k F [] true ∧ Upd (fun b => b = k) w ((w.setCell ⟨k, 0, none⟩ (.slice none 0 0)).setCell ⟨k, 1, none⟩ (.bool true)) := by
  have h1 := heap_setCell_same w k 0 _ _ (.slice none 0 0) h.head
  have h2 := heap_setCell_same _ k 1 _ _ (.bool true) h1
  exact ⟨⟨none, 0, h2, h.mem, Nat.le_refl _, Cells.nil _ _, (fun a e => by cases e), fun _ => rfl⟩,
    ((Upd.refl (fun b => b = k) w).setCell (p := ⟨k, 0, none⟩) (.inl rfl) _).setCell (p := ⟨k, 1, none⟩) (.inl rfl) _⟩
theorem RdV.goes (h : RdV w k F A c B false) (hr : Octs w A1 B1) (hb : ∀ a, A1 = some a → ∃ b, A = some b ∧ b.block = a.block) (hle : B1.length ≤ c1) :
    RdV (w.setCell ⟨k, 0, none⟩ (.slice A1 B1.length c1)) k F A1 c1 B1 false ∧ Upd (fun b => b = k) w (w.setCell ⟨k, 0, none⟩ (.slice A1 B1.length c1)) := by
  have h1 := heap_setCell_same w k 0 _ _ (.slice A1 B1.length c1) h.head
  have uk : Upd (fun b => b = k) w (w.setCell ⟨k, 0, none⟩ (.slice A1 B1.length c1)) := (Upd.refl (fun b => b = k) w).setCell (p := ⟨k, 0, none⟩) (.inl rfl) _
  have hbl : ∀ a, A1 = some a → F a.block ∧ a.block ≠ k ∧ a.block < w.heap.size := fun a e => by
    obtain ⟨b, e1, e2⟩ := hb a e
    rw [← e2]
    exact h.bl b e1
  exact ⟨⟨h1, h.mem, hle, hr.upd uk (fun a e => (hbl a e).2.1), fun a e => ⟨(hbl a e).1, (hbl a e).2.1, by simpa using (hbl a e).2.2⟩, fun e => by cases e⟩, uk⟩
end

set_option maxRecDepth 100000 in
theorem f25_any (A : Option Addr) (l : List UInt8) (n c : Nat) (w : World) (hn : l.length = n) (hl : n ≤ 4294967296) (hnil : A = none → l = []) (hs : ∀ a, A = some a → ∃ b o, a = ⟨b, o, none⟩) (hx : Octs w A l) :
    Calls Try.prog 82 #[.slice A n c] w fun e w' => ∃ k, e = .returned (.pointer (some ⟨k, 0, none⟩)) ∧ RdAt w' k (fun b => w.heap.size ≤ b ∧ b < w'.heap.size) l false ∧ Ext w w' := by
  subst hn
  have HC := clone_octs A l c w hl hnil hs hx
  clear hx
  go_enter Try.func82, Try.ntmps82
  go_wp2_with (go_at_call 84; refine HC.mono ?_; rintro e w1 ⟨v, rfl, o1, x1⟩; obtain ⟨B, d, rfl, hd, hx⟩ := o1.octs_form)
  go_ret
  have hs1 := x1.size
  refine ⟨_, rfl, ⟨B, d, heap_alloc_new w1 _, ⟨hs1, by simp⟩, hd, hx.alloc _, fun a e => ?_, fun e => by cases e⟩, x1.alloc _⟩
  have := o1.block a.block (by rw [e]; rfl)
  simp
  omega

/-- What is taken, what is left, does it fail? -/
def rTake (n : Int) (B : List UInt8) (f : Bool) : List UInt8 × List UInt8 × Bool := if f = true ∨ (B.length : Int) < n then ([], [], true) else (B.take n.toNat, B.drop n.toNat, false)

set_option maxRecDepth 100000 in
theorem f73_any (k : Nat) (F : Nat → Prop) (B : List UInt8) (f : Bool) (n : Int) (w : World) (hn : 0 ≤ n) (h : RdAt w k F B f) :
    Calls Try.prog 85 #[.pointer (some ⟨k, 0, none⟩), .int .i64 n] w fun e w' => ∃ A c, e = .returned (.slice A (rTake n B f).1.length c) ∧ (rTake n B f).1.length ≤ c ∧ Octs w' A (rTake n B f).1 ∧ (∀ a, A = some a → a.block ≠ k ∧ F a.block) ∧
      RdAt w' k F (rTake n B f).2.1 (rTake n B f).2.2 ∧ Upd (fun b => b = k) w w' := by
  obtain ⟨A, c, h⟩ := h
  obtain ⟨c0, c1, hf⟩ := h.cells
  unfold rTake
  cases f with
  | true =>
    rw [if_pos (.inl rfl)]
    obtain ⟨t1, u1⟩ := h.fails
    clear h
    go_enter Try.func85, Try.ntmps85
    go_wp2
    go_ret
    exact ⟨none, 0, rfl, Nat.le_refl _, Cells.nil _ _, (fun a e => by cases e), t1, u1⟩
  | false =>
    by_cases hlt : (B.length : Int) < n
    · rw [if_pos (.inr hlt)]
      obtain ⟨t1, u1⟩ := h.fails
      clear h
      go_enter Try.func85, Try.ntmps85
      go_wp2
      go_ret
      exact ⟨none, 0, rfl, Nat.le_refl _, Cells.nil _ _, (fun a e => by cases e), t1, u1⟩
    · rw [if_neg (by simp [hlt])]
      obtain ⟨m, rfl⟩ := Int.eq_ofNat_of_zero_le hn
      have hm : m ≤ B.length := by omega
      simp only [Int.toNat_natCast]
      obtain ⟨A1, a1, a2, a3, a4⟩ := cut_hi A B c m hm h.le
      obtain ⟨A2, b1, b2, b3, b4⟩ := cut_lo A B c m hm h.le
      have hl1 : (B.take m).length = m := by rw [List.length_take]; omega
      have hl2 : (B.drop m).length = B.length - m := List.length_drop
      have G := h.goes (A1 := A2) (B1 := B.drop m) (c1 := c - m) (b3 w h.rd) b4 (by rw [hl2]; have := h.le; omega)
      rw [hl2] at G
      obtain ⟨g1, g2⟩ := G
      have r1 := (a3 w h.rd).upd g2 (fun a e => by obtain ⟨b, e1, e2⟩ := a4 a e; rw [← e2]; exact (h.bl b e1).2.1)
      have hbl : ∀ a, A1 = some a → a.block ≠ k ∧ F a.block := fun a e => by
        obtain ⟨b, e1, e2⟩ := a4 a e
        rw [← e2]
        exact ⟨(h.bl b e1).2.1, (h.bl b e1).1⟩
      have hle := h.le
      clear h a3 a4 b3 b4
      generalize B.take m = T at *
      subst hl1
      go_enter Try.func85, Try.ntmps85
      go_wp2
      go_ret
      exact ⟨A1, c, rfl, by omega, r1, hbl, ⟨_, _, g1⟩, g2⟩
end Go.Proofs.Ytgpnmmgoachajaa
