/- The walk of JournalRound. -/
import Derived.Test.YtgpnmmgoachajaaJu
import Derived.Test.YtgpnmmgoachajaaJg
namespace Go.Proofs.Ytgpnmmgoachajaa
open Go.RowKit Go.Shelf
open Go.Proofs

section
variable {w W : World} {K : Nat → Prop} {p y B : Nat} {s : Dk} {j : Jn} {sv : Value} {ss : List (List UInt8)} {size fr k t st : Nat} {Ps : List (List UInt8)}
theorem rs_app_ok (R : RS w K W p y B s j sv ss) (r : JRun s j size fr k t st Ps) (ht : t ≤ 1000) (he : j.epoch ≤ 2147483648) (hk : 1 ≤ k ∧ k ≤ 4096) (hsz : fr + k ≤ size) (A : Option Addr) (l : List UInt8) (m c : Nat) (hl : l.length = m) (hm1 : 1 ≤ m) (hm : m ≤ 65000) (hc : m ≤ c) (hx : Octs W A l) (hf : secs (m : Int) ≤ ((j.n - j.used : Nat) : Int)) :
    Calls Try.prog 38 #[.pointer (some ⟨y, 0, none⟩), .slice A m c] W fun e w' => ∃ s' j', e = .returned (.int .i64 0) ∧ RS w K w' p y B s' j' sv ss ∧ JRun s' j' size fr k (t + 1) st (Ps ++ [l]) ∧ j'.epoch = j.epoch ∧ Upd (fun b => ¬ K b ∨ b = y) W w' := by
  refine (jrun_append r ht he hk hsz R.disk R.jn R.ky A l m c hl hm1 hm hc hx R.kb).mono ?_
  rintro e w' ⟨s', j', Ps', h1, h2, h3, h4, h5, h6, h7⟩
  rw [if_pos hf] at h1 h6
  subst h6
  exact ⟨s', j', h1, R.step h2 h3 h7, h4, h5, h7⟩
theorem rs_app_full (R : RS w K W p y B s j sv ss) (r : JRun s j size fr k t st Ps) (ht : t ≤ 1000) (he : j.epoch ≤ 2147483648) (hk : 1 ≤ k ∧ k ≤ 4096) (hsz : fr + k ≤ size) (A : Option Addr) (l : List UInt8) (m c : Nat) (hl : l.length = m) (hm1 : 1 ≤ m) (hm : m ≤ 65000) (hc : m ≤ c) (hx : Octs W A l) (hf : ¬ secs (m : Int) ≤ ((j.n - j.used : Nat) : Int)) :
    Calls Try.prog 38 #[.pointer (some ⟨y, 0, none⟩), .slice A m c] W fun e w' => e = .returned (.int .i64 11) ∧ RS w K w' p y B s j sv ss ∧ Upd (fun b => ¬ K b ∨ b = y) W w' := by
  refine (jrun_append r ht he hk hsz R.disk R.jn R.ky A l m c hl hm1 hm hc hx R.kb).mono ?_
  rintro e w' ⟨s', j', Ps', h1, h2, h3, h4, h5, h6, h7⟩
  rw [if_neg hf] at h1 h6
  obtain ⟨_, rfl, rfl⟩ := h6
  exact ⟨h1, R.step h2 h3 h7, h7⟩
theorem rs_reset (R : RS w K W p y B s j sv ss) (hd : j.dead = false) (he : j.epoch < 2147483648) :
    Calls Try.prog 41 #[.pointer (some ⟨y, 0, none⟩)] W fun e w' => e = .returned (.int .i64 0) ∧ RS w K w' p y B s (jReset j) sv ss ∧ Upd (fun b => ¬ K b ∨ b = y) W w' := by
  refine (jreset_on R.jn hd he).mono ?_
  rintro e w' ⟨h1, h2, h3⟩
  have u := h3.mono (G := fun b => ¬ K b ∨ b = y) (fun b _ e => Or.inr e)
  exact ⟨h1, R.step (disk_upd R.disk h3 (fun b e => by rw [e]; exact R.ky)) h2 u, u⟩
end
theorem crash_still (s : Dk) (hq : s.queue.length = 0) (hc : s.calls = -1) (keep : List Int) (torn cut : Int) : dkCrash s keep torn cut = s := by
  obtain ⟨sf, q, c, wr⟩ := s
  have hq : q = [] := List.eq_nil_of_length_eq_zero hq
  have hc : c = -1 := hc
  subst hq
  subst hc
  rfl

set_option maxRecDepth 100000 in
set_option maxHeartbeats 8000000 in
theorem f12_any (x : Int) (A : Option Addr) (ls : List Nat) (n c : Nat) (w : World) (hl : ls.length = n) (hn : n ≤ 9223372036854775807) (hx : Cells w A (u16s ls)) (hls : ∀ x ∈ ls, x < 65536) :
    Calls Try.prog 12 #[.int .i64 x, .slice A n c] w fun e w' => e = .returned (.bool true) ∧ Ext w w' := by
  by_cases gn : 30 < n
  · have G : ((30 : Int) < (n : Int)) = True := eq_true (by omega)
    clear hx hls
    go_enter Try.func12, Try.ntmps12
    go_wp2_with first
      | (go_at_call 34; refine (aw07_any w1).mono ?_; rintro e w2 ⟨rfl, x2⟩)
      | (go_at_call 34; refine (aw07_any _).mono ?_; rintro e w1 ⟨rfl, x1⟩)
    go_ret
    exact ⟨rfl, x1.trans x2⟩
  have G : ((30 : Int) < (n : Int)) = False := eq_false (by omega)
  obtain ⟨t, r, e1, e2, e3, e4, e5, hr⟩ := round_mod x 20 (by omega)
  rw [show ((20 : Nat) : Int) = 20 from rfl] at e1 e2 e3 e4 e5
  have hw1 : IntKind.i64.wrap (t + 20) = t + 20 := IntWalk.i64_in _ (by omega)
  obtain ⟨k, hk⟩ : ∃ k, k = r + 12 := ⟨_, rfl⟩
  have a1 : 12 + (r : Int) = (k : Int) := by omega
  have b1 : IntKind.i64.wrap (k : Int) = (k : Int) := IntWalk.i64_in _ (by omega)
  have hk4 : 12 ≤ k ∧ k ≤ 31 := by omega
  have hf15 : ∀ W, Calls Try.prog 15 #[.int .i64 (k : Int)] W fun e w' => ∃ p, e = .returned (.tuple #[.pointer (some ⟨p, 0, none⟩), .int .i64 0]) ∧ Disk (fun b => b < W.heap.size) w' p (dkNew k) ∧ Ext W w' := fun W => dk15_good k W (by omega) (by omega)
  have hnw : ∀ p (K : Nat → Prop) W, Disk K W p (dkNew k) → Calls Try.prog 35 #[.pointer (some ⟨p, 0, none⟩), .int .i64 0, .int .i64 (k : Int), .int .i64 1, .int .i64 0] W fun e w' => e = .returned (.tuple #[.pointer (some ⟨W.heap.size, 0, none⟩), .int .i64 0]) ∧ JnAt w' W.heap.size p (jNew 0 k 1 0) ∧ Ext W w' := fun p K W h => jnew_good h 0 k 1 0 (by omega) (by omega) (by show 0 + k ≤ (List.replicate k _).length; rw [List.length_replicate]; omega) (by omega) (by omega) (by omega)
  have g0 := jrun_new k 0 k 1 0 (by omega) (by omega) (by omega) (by omega)
  have ep0 : (jNew 0 k 1 0).epoch = 1 := rfl
  generalize hj0 : jNew 0 k 1 0 = j0 at *
  generalize hs0 : dkNew k = s0 at *
  clear hk hj0 hs0
  go_enter Try.func12, Try.ntmps12
  go_wp2_with first
    | (go_at_call 34; refine (aw07_any _).mono ?_; rintro e w0 ⟨rfl, x0⟩)
    | (go_at_call 15; refine (hf15 w0).mono ?_; clear hf15; rintro e w1 ⟨p, rfl, h1, x1⟩; have hnw := hnw p _ w1 h1)
    | (go_at_call 35; refine hnw.mono ?_; clear hnw; rintro e w2 ⟨rfl, hy, x2⟩)
  clear e1 e2 e3 e4 e5 hw1
  have z0 := x0.size
  have z1 := x1.size
  have z2 := x2.size
  have R0 : RS w (fun b => b < w0.heap.size ∨ (w1.heap.size ≤ b ∧ b < w2.heap.size)) w2 p w1.heap.size w2.heap.size s0 j0 (.slice none 0 0) [] :=
    ⟨h1.grow x2, hy, .inr ⟨Nat.le_refl _, hy.lt⟩, fun b hb => .inl (by omega), fun b hb => by rcases hb with hb | hb <;> omega, (x0.trans x1).trans x2, Own.nil _ _ _, fun b e => (by cases e), by omega, hy.lt, Nat.le_refl _⟩
  clear h1 hy x0 x1 x2
  generalize w1.heap.size = y at *
  generalize w2.heap.size = B at *
  go_loopw [10, 11, 12, 13] (fun sv ev tv i wr => ∃ (t : Nat) (K : Nat → Prop) (s : Dk) (j : Jn) (st : Nat) (Ps : List (List UInt8)), t ≤ n ∧ i = .int .i64 (t : Int) ∧ ev = .int .i64 (j.epoch : Int) ∧ tv = .int .i64 (st : Int) ∧ RS w K wr p y B s j sv Ps ∧ JRun s j k 0 k t st Ps ∧ j.epoch ≤ t + 1 ∧ st < k) (fun _ _ _ i _ => n - (intOf i).toNat)
  case atStart => exact ⟨0, _, s0, j0, 0, [], Nat.zero_le _, rfl, by rw [ep0]; rfl, rfl, R0, g0, by omega, by omega⟩
  case round =>
    clear g0 ep0 R0
    obtain ⟨t, K, s, j, st, Ps, ht, rfl, rfl, rfl, R, r, hep, hst⟩ := hrel
    by_cases hlt : t < n
    · obtain ⟨b, o, rfl, hcell⟩ := (hx.ext R.ext) (by rw [length_u16s]; omega)
      obtain ⟨v, hv⟩ : ∃ v, v = ls[t]'(by omega) := ⟨_, rfl⟩
      have hv16 : v < 65536 := by rw [hv]; exact hls _ (List.getElem_mem _)
      have cv : wr.cell? ⟨b, o + t, none⟩ = some (.int .u16 (v : Int)) := hcell t _ (by simp [u16s, hv, List.getElem?_eq_getElem (show t < ls.length by omega)])
      have wv : IntKind.i64.wrap (v : Int) = (v : Int) := IntWalk.i64_in _ (by omega)
      obtain ⟨m0, hm0⟩ : ∃ m0, m0 = v % 600 := ⟨_, rfl⟩
      have tm : (v : Int).tmod 600 = (m0 : Int) := by rw [Int.tmod_eq_emod_of_nonneg (by omega)]; omega
      have tm2 : (v : Int) % 600 = (m0 : Int) := by omega
      have wm0 : IntKind.i64.wrap (m0 : Int) = (m0 : Int) := IntWalk.i64_in _ (by omega)
      obtain ⟨m, hm⟩ : ∃ m, m = 1 + m0 := ⟨_, rfl⟩
      have tm3 : 1 + (m0 : Int) = (m : Int) := by omega
      have wm : IntKind.i64.wrap (m : Int) = (m : Int) := IntWalk.i64_in _ (by omega)
      have m1 : 1 ≤ m ∧ m ≤ 600 := by omega
      have mpos : 0 < m := by omega
      obtain ⟨l0, hl0⟩ : ∃ l0, l0 = List.replicate m (0 : UInt8) := ⟨_, rfl⟩
      have ll0 : l0.length = m := by rw [hl0, List.length_replicate]
      have mk := fun W => make_zero m (by omega) W
      simp only [← hl0] at mk
      obtain ⟨l, hll⟩ : ∃ l, l = l0.set 0 (UInt8.ofNat t) := ⟨_, rfl⟩
      have ll : l.length = m := by rw [hll, List.length_set, ll0]
      have wt : IntKind.u8.wrap (t : Int) = (t : Int) := by rw [IntKind.wrap_u8]; omega
      have hb1 : (wr.alloc (.cells (octs l0).toArray 5)).heap[wr.heap.size]? = some (.cells (octs l0).toArray 5 (0, 0)) := heap_alloc_new wr _
      have cb : (wr.alloc (.cells (octs l0).toArray 5)).cell? ⟨wr.heap.size, 0, none⟩ = some (.int .u8 0) := by
        rw [cell_of_row _ _ 0 _ _ _ hb1, hl0]
        obtain ⟨m', rfl⟩ : ∃ m', m = m' + 1 := ⟨m - 1, by omega⟩
        rfl
      have fb : (wr.alloc (.cells (octs l0).toArray 5)).frozen? ⟨wr.heap.size, 0, none⟩ = false := frozen_of_row _ _ 0 _ _ hb1
      have hset : (octs l0).set 0 (.int .u8 (t : Int)) = octs l := by
        have ho : oct (UInt8.ofNat t) = .int .u8 (t : Int) := by rw [oct, UInt8.toNat_ofNat', Nat.mod_eq_of_lt (by omega)]
        rw [hll]
        simp only [octs, List.map_set, ho]
      obtain ⟨W2, hW2⟩ : ∃ W2, W2 = wr.alloc (.cells (octs l).toArray 5) := ⟨_, rfl⟩
      have hb2 : W2.heap[wr.heap.size]? = some (.cells (octs l).toArray 5 (0, 0)) := by rw [hW2]; exact heap_alloc_new wr _
      have x2 : Ext wr W2 := by rw [hW2]; exact (Ext.refl wr).alloc _
      obtain ⟨K2, hK2⟩ : ∃ K2 : Nat → Prop, K2 = fun b => K b ∨ (wr.heap.size ≤ b ∧ b < W2.heap.size) := ⟨_, rfl⟩
      have R2 := R.grow x2
      rw [← hK2] at R2
      have ob : Octs W2 (some ⟨wr.heap.size, 0, none⟩) l := sec_octs hb2
      have kgb : K2 wr.heap.size := by rw [hK2]; exact .inr ⟨Nat.le_refl _, (Array.getElem?_eq_some_iff.1 hb2).1⟩
      have ngb : wr.heap.size ≠ y := by have := R.jn.lt; omega
      clear hK2
      have gg := r.good
      have jn := gg.n
      have ju := gg.used
      have secm : secs (m : Int) ≤ 12 := by rw [secs_nsec2 m (by omega) (by omega)]; omega
      have sec0 : secs (m : Int) ≠ 0 := by rw [secs_nsec2 m (by omega) (by omega)]; omega
      have fit := fun W (R : JnAt W y p j) => jfits_any R (by omega) (by omega) (m : Int) (by omega) (by omega)
      have obk : ∀ W W' (_ : Octs W (some ⟨wr.heap.size, 0, none⟩) l), Upd (fun b => ¬ K2 b ∨ b = y) W W' → Octs W' (some ⟨wr.heap.size, 0, none⟩) l := fun W W' o u => octs_upd o u (fun a ea z => by
        injection ea with ea
        rw [← ea] at z
        rcases z with z | z
        · exact z kgb
        · exact ngb z)
      have psl : Ps.length < 4294967296 := by have := r.cnt; have := r.good.count; omega
      by_cases hf : secs (m : Int) ≤ ((j.n - j.used : Nat) : Int)
      · have fit := fun W R => by
          have := fit W R
          rw [fits_le sec0 hf] at this
          exact this
        clear hcell hv hm hm0 hls hx secm sec0 hl0 ll0 jn ju gg hll
        go_wp2_with first
          | (go_at_call 36; rw [← hW2]; refine (fit W2 R2.jn).mono ?_; clear fit; rintro e w4 ⟨rfl, x4⟩; have R4 := R2.more x4; have ob4 := ob.ext x4)
          | (go_at_call 38; refine (rs_app_ok R4 r (by omega) (by omega) (by omega) (by omega) _ l m m ll (by omega) (by omega) (Nat.le_refl _) ob4 hf).mono ?_; rintro e w5 ⟨s5, j5, rfl, R5, r5, e5, u5⟩; have ob5 := obk w4 w5 ob4 u5; have kc := conv_str _ l m m w5 ll ob5)
          | (at_builtin; refine wpList_strs2 rfl (.tmp 88) (.tmp 91) rfl B _ _ rfl (R5.own.ext ((Ext.refl w5).alloc (.cells #[strOf l] 9))) w5.heap.size l rfl (heap_alloc_new w5 _) (by first | exact psl | (show 0 < 4294967296; decide)) (Nat.le_trans R5.BW (by rw [World.size_alloc]; omega)) ?_; intro v6 w6 o6 u6 b6; have R6 := (R5.more ((Ext.refl w5).alloc (.cells #[strOf l] 9))).push o6 u6 b6)
        go_roundw
        case rel => exact ⟨t + 1, _, s5, j5, st, Ps ++ [l], by omega, val_int (by omega), by rw [e5], rfl, R6, r5, by omega, hst⟩
        case measure => simp [intOf]; omega
      · have fit := fun W R => by
          have := fit W R
          rw [fits_lt (.inr (by omega))] at this
          exact this
        have HF := Lib.hid (Int.not_le.1 hf)
        have jr := r.reset (by omega) (by omega) R.disk.choose_spec.choose_spec.choose_spec.1.ok
        have jre : (jReset j).epoch = j.epoch + 1 := rfl
        have jrp : (jReset j).place = j.place := rfl
        have jru : (jReset j).used = 0 := rfl
        have jrn : (jReset j).n = k := jn
        have jpl := gg.place
        have gdead := gg.dead
        have hep' : ∀ W (_ : JnAt W y p (jReset j)), Calls Try.prog 42 #[.pointer (some ⟨y, 0, none⟩)] W fun e w' => e = .returned (.int .i64 ((j.epoch + 1 : Nat) : Int)) ∧ W = w' := fun W h => (jepoch_any h : Calls Try.prog 42 #[.pointer (some ⟨y, 0, none⟩)] W fun e w' => e = .returned (.int .i64 ((jReset j).epoch : Int)) ∧ W = w')
        have hpl' : ∀ W (_ : JnAt W y p (jReset j)), Calls Try.prog 44 #[.pointer (some ⟨y, 0, none⟩)] W fun e w' => e = .returned (.int .i64 (j.place : Int)) ∧ W = w' := fun W h => (jplace_any h : Calls Try.prog 44 #[.pointer (some ⟨y, 0, none⟩)] W fun e w' => e = .returned (.int .i64 ((jReset j).place : Int)) ∧ W = w')
        have hf0 : secs (m : Int) ≤ (((jReset j).n - (jReset j).used : Nat) : Int) := by rw [jru, jrn]; omega
        clear hcell hv hm hm0 hls hx secm sec0 hl0 ll0 jn ju gg hll
        clear hf
        go_wp2_with first
          | (go_at_call 36; rw [← hW2]; refine (fit W2 R2.jn).mono ?_; clear fit; rintro e w4 ⟨rfl, x4⟩; have R4 := R2.more x4; have ob4 := ob.ext x4)
          | (go_at_call 38; refine (rs_app_ok (R7.clear) jr (by omega) (by omega) (by omega) (by omega) _ l m m ll (by omega) (by omega) (Nat.le_refl _) ob7 hf0).mono ?_; rintro e w5 ⟨s5, j5, rfl, R5, r5, e5, u5⟩; have ob5 := obk w7 w5 ob7 u5; have kc := conv_str _ l m m w5 ll ob5)
          | (go_at_call 38; refine (rs_app_full R4 r (by omega) (by omega) (by omega) (by omega) _ l m m ll (by omega) (by omega) (Nat.le_refl _) ob4 (by have := HF.out; omega)).mono ?_; rintro e w6 ⟨rfl, R6', u6'⟩; have ob6 := obk w4 w6 ob4 u6'; have rst := rs_reset R6' gdead (by omega))
          | (go_at_call 41; refine rst.mono ?_; clear rst; rintro e w7 ⟨rfl, R7, u7⟩; have ob7 := obk w6 w7 ob6 u7)
          | (go_at_call 42; refine (hep' w7 R7.jn).mono ?_; clear hep'; rintro e w8 ⟨rfl, rfl⟩)
          | (go_at_call 44; refine (hpl' w7 R7.jn).mono ?_; clear hpl'; rintro e w8 ⟨rfl, rfl⟩)
          | (at_builtin; refine wpList_strs2 rfl (.tmp 88) (.tmp 91) rfl B _ _ rfl (R5.own.ext ((Ext.refl w5).alloc (.cells #[strOf l] 9))) w5.heap.size l rfl (heap_alloc_new w5 _) (by first | exact psl | (show 0 < 4294967296; decide)) (Nat.le_trans R5.BW (by rw [World.size_alloc]; omega)) ?_; intro v6 w6 o6 u6 b6; have R6 := (R5.more ((Ext.refl w5).alloc (.cells #[strOf l] 9))).push o6 u6 b6)
        go_roundw
        case rel => exact ⟨t + 1, _, s5, j5, j.place, [] ++ [l], by omega, val_int (by omega), by rw [e5, jre]; rfl, rfl, R6, r5, by omega, jpl⟩
        case measure => simp [intOf]; omega
    · obtain rfl : n = t := by omega
      have hlt2 : ¬ ((n : Int) < (n : Int)) := by omega
      have gg := r.good
      have cal := gg.calls
      have slen := gg.safe
      have ju := gg.used
      have jep := gg.epoch
      have fitc := r.cont.fit
      have pl := jtot_ge Ps
      have opens := r.cont.opens ⟨jep, by omega⟩ (by omega) (k + 1) (by omega)
      have hus := r.used
      have hpl := r.plc
      have hcr : ∀ W, Disk K W p s → Calls Try.prog 19 #[.pointer (some ⟨p, 0, none⟩), .agg #[.slice none 0 0, .int .i64 (-1), .int .i64 0]] W fun e w' => ∃ v, e = .returned v ∧ Disk K w' p s ∧ Upd (fun b => ¬ K b) W w' := fun W d => by
        have := dk19_any d none [] 0 0 (-1) 0 rfl (Cells.nil _ _) (fun x e => by cases e) (by omega)
        rw [crash_still s gg.queue cal] at this
        exact this.mono (fun e w' h => ⟨_, h⟩)
      have hop : ∀ sv W, RS w K W p y B s j sv Ps → Calls Try.prog 43 #[.pointer (some ⟨p, 0, none⟩), .int .i64 0, .int .i64 (k : Int), .int .i64 (j.epoch : Int), .int .i64 (st : Int)] W fun x w' => ∃ y2 v j2, x = .returned (.tuple #[.pointer (some ⟨y2, 0, none⟩), v, .int .i64 0]) ∧ JnAt w' y2 p j2 ∧ j2.used = jtot Ps ∧ j2.place = (st + jtot Ps) % k ∧ Pays w' W.heap.size v Ps ∧ RS w K w' p y B s j sv Ps := fun sv W R => by
        refine (jopen_any R.disk cal 0 k j.epoch st (by omega) (by omega) (by omega) (by omega) (by omega) hst R.kb).mono ?_
        rintro x w' ⟨y2, v, K', rfl, a1, a2, a3, a4, a5, a6, a7, a8⟩
        rw [opens] at a2
        refine ⟨y2, v, _, rfl, a1, ?_, ?_, a2, R.step (a3.less a4) (a8.heap R.jn (fun z => z R.ky)) (a8.mono (fun b _ e => Or.inl e))⟩
        · unfold jOpen
          rw [opens]
        · unfold jOpen
          rw [opens]
      have us2 : ∀ W y2 j2, JnAt W y2 p j2 → j2.used = jtot Ps → Calls Try.prog 40 #[.pointer (some ⟨y2, 0, none⟩)] W fun e w' => e = .returned (.int .i64 ((jtot Ps : Nat) : Int)) ∧ W = w' := fun W y2 j2 h e => by
        have := jused_any h
        rw [e] at this
        exact this
      have pl2 : ∀ W y2 j2, JnAt W y2 p j2 → j2.place = (st + jtot Ps) % k → Calls Try.prog 44 #[.pointer (some ⟨y2, 0, none⟩)] W fun e w' => e = .returned (.int .i64 (((st + jtot Ps) % k : Nat) : Int)) ∧ W = w' := fun W y2 j2 h e => by
        have := jplace_any h
        rw [e] at this
        exact this
      have pl32 : Ps.length ≤ 4294967296 := by omega
      have usj := fun W h => us2 W y j h hus
      have plj := fun W h => pl2 W y j h hpl
      generalize jtot Ps = U at *
      generalize (st + U) % k = Z at *
      clear hx hls opens r gg hus hpl ju fitc
      go_wp2_with first
        | (go_at_call 19; refine (hcr _ R.disk).mono ?_; clear hcr; rintro e w4 ⟨v4, rfl, d4, u4⟩; have R4 := R.step d4 (u4.heap R.jn (fun z => z R.ky)) (u4.mono (fun b _ e => Or.inl e)))
        | (go_at_call 43; refine (hop _ w4 R4).mono ?_; clear hop; rintro e w5 ⟨y2, v5, j2, rfl, j5, us5, pl5, p5, R5⟩)
        | (go_at_call 45; refine (same_any p5 R5.own pl32).mono ?_; rintro e w6 ⟨rfl, x6⟩; have R6 := R5.more x6; have us6 := us2 w6 y2 j2 (x6.heap j5) us5; have pl6 := pl2 w6 y2 j2 (x6.heap j5) pl5; clear us2 pl2)
        | (go_at_call 40; refine us7.mono ?_; clear us7; rintro e w8 ⟨rfl, rfl⟩)
        | (go_at_call 40; refine us6.mono ?_; clear us6; rintro e w8 ⟨rfl, rfl⟩; have us7 := usj w6 R6.jn; clear usj)
        | (go_at_call 44; refine pl7.mono ?_; clear pl7; rintro e w8 ⟨rfl, rfl⟩)
        | (go_at_call 44; refine pl6.mono ?_; clear pl6; rintro e w8 ⟨rfl, rfl⟩; have pl7 := plj w6 R6.jn; clear plj)
      go_ret
      exact ⟨rfl, R6.ext⟩
end Go.Proofs.Ytgpnmmgoachajaa
