/- The walk of JournalCrashes. -/
import Derived.Test.YtgpnmmgoachajaaKc
import Derived.Test.YtgpnmmgoachajaaJg
import Derived.Deep.CutRange
namespace Go.Proofs.Ytgpnmmgoachajaa
open Go.RowKit Go.Shelf
open Go.Proofs

theorem jst_len {s : Dk} {j : Jn} {size fr k t e st : Nat} {Ps : List (List UInt8)} {U : List UInt8} (g : JSt s j size fr k t e st Ps U) : Ps.length ≤ k := by
  have h1 := jtot_ge Ps
  rcases g with ⟨g, _⟩ | g
  · have := g.cont.fit
    omega
  · rcases g.crash [] 0 0 with c | c
    · have := c.fit
      omega
    · have h2 := c.fit
      have h3 := jtot_ge (Ps ++ [U])
      rw [List.length_append] at h3
      have : ([U] : List (List UInt8)).length = 1 := rfl
      omega
set_option maxRecDepth 100000 in
set_option maxHeartbeats 8000000 in
theorem f13_any (x : Int) (A : Option Addr) (xs : List JAct) (n c : Nat) (w : World) (hl : xs.length = n) (hn : n ≤ 9223372036854775807) (hx : JActsAt w A xs) :
    Calls Try.prog 13 #[.int .i64 x, .slice A n c] w fun e w' => e = .returned (.bool true) ∧ Ext w w' := by
  by_cases gn : 20 < n
  · have G : ((20 : Int) < (n : Int)) = True := eq_true (by omega)
    clear hx
    go_enter Try.func13, Try.ntmps13
    go_wp2_with first
      | (go_at_call 34; refine (aw07_any w1).mono ?_; rintro e w2 ⟨rfl, x2⟩)
      | (go_at_call 34; refine (aw07_any _).mono ?_; rintro e w1 ⟨rfl, x1⟩)
    go_ret
    exact ⟨rfl, x1.trans x2⟩
  have G : ((20 : Int) < (n : Int)) = False := eq_false (by omega)
  obtain ⟨t, r, e1, e2, e3, e4, e5, hr⟩ := round_mod x 20 (by omega)
  rw [show ((20 : Nat) : Int) = 20 from rfl] at e1 e2 e3 e4 e5
  have hw1 : IntKind.i64.wrap (t + 20) = t + 20 := IntWalk.i64_in _ (by omega)
  obtain ⟨k, hk⟩ : ∃ k, k = r + 4 := ⟨_, rfl⟩
  have a1 : 4 + (r : Int) = (k : Int) := by omega
  have b1 : IntKind.i64.wrap (k : Int) = (k : Int) := IntWalk.i64_in _ (by omega)
  obtain ⟨N, hN⟩ : ∃ N, N = k + 2 := ⟨_, rfl⟩
  have a2 : (k : Int) + 2 = (N : Int) := by omega
  have b2 : IntKind.i64.wrap (N : Int) = (N : Int) := IntWalk.i64_in _ (by omega)
  have hk4 : 4 ≤ k ∧ k ≤ 23 := by omega
  have hf15 : ∀ W, Calls Try.prog 15 #[.int .i64 (N : Int)] W fun e w' => ∃ p, e = .returned (.tuple #[.pointer (some ⟨p, 0, none⟩), .int .i64 0]) ∧ Disk (fun b => b < W.heap.size) w' p (dkNew N) ∧ Ext W w' := fun W => dk15_good N W (by omega) (by omega)
  have hnw : ∀ p (K : Nat → Prop) W, Disk K W p (dkNew N) → Calls Try.prog 35 #[.pointer (some ⟨p, 0, none⟩), .int .i64 1, .int .i64 (k : Int), .int .i64 1, .int .i64 0] W fun e w' => e = .returned (.tuple #[.pointer (some ⟨W.heap.size, 0, none⟩), .int .i64 0]) ∧ JnAt w' W.heap.size p (jNew 1 k 1 0) ∧ Ext W w' := fun p K W h => jnew_good h 1 k 1 0 (by omega) (by omega) (by show 1 + k ≤ (List.replicate N _).length; rw [List.length_replicate]; omega) (by omega) (by omega) (by omega)
  have g0 : JSt (dkNew N) (jNew 1 k 1 0) N 1 k 0 1 0 [] [] := by
    obtain ⟨c1, c2⟩ := cont_new N 1 k 0 1 (by omega) (by omega) (by omega)
    exact .inl ⟨⟨⟨List.length_replicate, ⟨Int.le_refl _, Int.le_refl _⟩, Nat.zero_le _, rfl, rfl, rfl, Nat.le_refl _, Nat.le_refl _, Nat.zero_le _, Nat.zero_le _, by show 0 < k; omega⟩, dkOk_new N, rfl, rfl, c1, fun _ => c2, rfl, rfl, by show 0 = (0 + 0) % k; rw [Nat.zero_mod]⟩, rfl⟩
  generalize hj0 : jNew 1 k 1 0 = j0 at *
  generalize hs0 : dkNew N = s0 at *
  have hNk := Lib.hid hN
  clear hk hj0 hs0 hN
  go_enter Try.func13, Try.ntmps13
  go_wp2_with first
    | (go_at_call 34; refine (aw07_any _).mono ?_; rintro e w0 ⟨rfl, x0⟩)
    | (go_at_call 15; refine (hf15 w0).mono ?_; clear hf15; rintro e w1 ⟨p, rfl, h1, x1⟩; have hnw := hnw p _ w1 h1)
    | (go_at_call 35; refine hnw.mono ?_; clear hnw; rintro e w2 ⟨rfl, hy, x2⟩)
  clear e1 e2 e3 e4 e5 hw1
  have z0 := x0.size
  have z1 := x1.size
  have z2 := x2.size
  have R0 : RC w (fun b => b < w0.heap.size ∨ (w1.heap.size ≤ b ∧ b < w2.heap.size)) w2 p w1.heap.size s0 j0 (.slice none 0 0) [] :=
    ⟨h1.grow x2, hy, .inr ⟨Nat.le_refl _, hy.lt⟩, fun b hb => .inl (by omega), fun b hb => by rcases hb with hb | hb <;> omega, (x0.trans x1).trans x2, Own.nil _ _ _, fun b e => (by cases e), by omega⟩
  clear h1 hy x0 x1 x2
  generalize w1.heap.size = y0 at *
  go_loopw [8, 10, 11, 12, 13, 14] (fun jv sv uv ev tv i wr => ∃ (t : Nat) (K : Nat → Prop) (y : Nat) (s : Dk) (j : Jn) (e st : Nat) (Ps : List (List UInt8)) (U : List UInt8), t ≤ n + 1 ∧ i = .int .i64 (t : Int) ∧ jv = .pointer (some ⟨y, 0, none⟩) ∧ uv = strOf U ∧ ev = .int .i64 (e : Int) ∧ tv = .int .i64 (st : Int) ∧ RC w K wr p y s j sv Ps ∧ JSt s j N 1 k t e st Ps U ∧ st < k) (fun _ _ _ _ _ i _ => n + 1 - (intOf i).toNat)
  case atStart => exact ⟨0, _, y0, s0, j0, 1, 0, [], [], Nat.zero_le _, rfl, rfl, rfl, rfl, rfl, R0, g0, by omega⟩
  case round =>
    clear g0 R0
    obtain ⟨t, K, y, s, j, e, st, Ps, U, ht, rfl, rfl, rfl, rfl, rfl, R, g, hst⟩ := hrel
    by_cases hlt : t < n + 1
    · have hle : ((t : Int) ≤ (n : Int)) = True := eq_true (by omega)
      have gap : (wr.alloc (.cells #[.int .i64 3, .int .i64 0, .slice none 0 0, .slice none 0 0, .int .i64 0, .int .i64 0] 79)).heap[wr.heap.size]? = some (.cells #[.int .i64 3, .int .i64 0, .slice none 0 0, .slice none 0 0, .int .i64 0, .int .i64 0] 79 (0, 0)) := heap_alloc_new wr _
      go_upto_if 63 with fail
      go_cut [15] from 53 to 186 (fun v15 wx => v15 = .pointer (some ⟨wr.heap.size, 0, none⟩) ∧ Ext wr wx ∧ ∃ q A G c d, ActAt w wx wr.heap.size q A G c d)
      case first =>
        by_cases h2 : t < n
        · obtain ⟨b, o, rfl, hxs⟩ := hx (by omega)
          obtain ⟨q, hq⟩ : ∃ q, xs[t]? = some q := ⟨xs[t], List.getElem?_eq_getElem (by omega)⟩
          obtain ⟨A', G', c', d', r1, r2, r3, r4, r5, r6, r7⟩ := hxs t q hq
          have hlt2 : ((t : Int) < (n : Int)) = True := eq_true (by omega)
          have X : Ext w (wr.alloc (.cells #[.int .i64 3, .int .i64 0, .slice none 0 0, .slice none 0 0, .int .i64 0, .int .i64 0] 79)) := R.ext.alloc _
          have d0 := X.cell (r1 0 _ rfl)
          have d1 := X.cell (r1 1 _ rfl)
          have d2 := X.cell (r1 2 _ rfl)
          have d3 := X.cell (r1 3 _ rfl)
          have d4 := X.cell (r1 4 _ rfl)
          have d5 := X.cell (r1 5 _ rfl)
          rw [Nat.add_zero] at d0
          go_wp2
          go_meet
          case rel => exact ⟨rfl, (Ext.refl wr).alloc _, q, A', G', c', d', ⟨heap_alloc_new wr _, r2, r4, r5, r6, r7⟩⟩
        · have hlt2 : ((t : Int) < (n : Int)) = False := eq_false (by omega)
          go_wp2
          go_meet
          case rel => exact ⟨rfl, (Ext.refl wr).alloc _, ⟨3, 0, [], [], 0, 0⟩, none, none, 0, 0, ⟨gap, Nat.le_refl _, Octs.nil _ _, Cells.nil _ _, by decide, by decide⟩⟩
      case rest =>
        obtain ⟨rfl, xc, q, A', G', c', d', ac⟩ := hcut
        clear gap hle
        obtain ⟨gb, hgb⟩ : ∃ gb, gb = wr.heap.size := ⟨_, rfl⟩
        obtain ⟨K2, hK2⟩ : ∃ K2 : Nat → Prop, K2 = fun b => K b ∨ (wr.heap.size ≤ b ∧ b < wc.heap.size) := ⟨_, rfl⟩
        have R2 := R.grow xc
        rw [← hK2] at R2
        have kgb : K2 gb := by rw [hK2, hgb]; exact .inr ⟨Nat.le_refl _, (Array.getElem?_eq_some_iff.1 ac.row).1⟩
        have ngb : gb ≠ y := by have := R.jn.lt; omega
        rw [← hgb] at ac ⊢
        clear hK2 hgb R xc
        obtain ⟨c0, c1, c2, c3, c4, c5⟩ := act_cells ac
        have kept : ∀ W, Upd (fun b => ¬ K2 b ∨ b = y) wc W → ActAt w W gb q A' G' c' d' := fun W u => ⟨u.heap ac.row (fun z => z.elim (fun z => z kgb) ngb), ac.cap, ac.octs, ac.keeps, ac.klen, ac.nmax⟩
        obtain ⟨m, hm⟩ : ∃ m, m = q.B.length := ⟨_, rfl⟩
        obtain ⟨m2, hm2⟩ : ∃ m2, m2 = q.keep.length := ⟨_, rfl⟩
        by_cases big1 : 1500 < m
        · have B1 : ((1500 : Int) < (m : Int)) = True := eq_true (by omega)
          rw [← hm] at c2
          clear hm hx
          go_wp2
          go_ret
          exact ⟨rfl, R2.ext⟩
        have B1 : ((1500 : Int) < (m : Int)) = False := eq_false (by omega)
        by_cases big2 : 40 < m2
        · have B2 : ((40 : Int) < (m2 : Int)) = True := eq_true (by omega)
          rw [← hm] at c2
          rw [← hm2] at c3
          clear hm hm2 hx
          go_wp2
          go_ret
          exact ⟨rfl, R2.ext⟩
        have B2 : ((40 : Int) < (m2 : Int)) = False := eq_false (by omega)
        have gb0 := g.base
        have cap1 := ac.cap
        rw [← hm] at cap1
        have HM := Lib.hid hm
        have HM2 := Lib.hid hm2
        have HN2 := hNk.out
        have ob := ac.octs
        have hx20 : t ≤ 20 := by omega
        clear hx hl
        by_cases k0 : q.kind = 0
        · have q0 : (q.kind == 0) = true := by rw [beq_iff_eq]; exact k0
          have capp : Calls Try.prog 38 #[.pointer (some ⟨y, 0, none⟩), .slice A' m c'] wc fun x w' => ∃ (r : Nat) (s' : Dk) (j' : Jn), x = .returned (.int .i64 (r : Int)) ∧ RC w K2 w' p y s' j' u10 Ps ∧ JSt s' j' N 1 k (t + 1) e st (if r = 0 then Ps ++ [q.B] else Ps) (if r ≠ 0 ∧ r = 10 ∧ U = [] then q.B else U) ∧ Upd (fun b => ¬ K2 b ∨ b = y) wc w' := by
            have e2 := gb0.e2
            have e1 := gb0.e1
            have ep := gb0.ep
            have cn := gb0.count
            have wr' := gb0.writes
            have ql := gb0.qlen
            have jn := gb0.n
            have jf := gb0.fr
            have jp := gb0.place
            have ju := gb0.used
            have sl := gb0.safe
            refine (jappend_any R2.disk R2.jn R2.ky A' q.B m c' HM.out.symm (by omega) (by omega) (by omega) (by omega) (by omega) cap1 (ob.ext R2.ext) ⟨by omega, by omega, by omega, by omega⟩ (by omega) (by omega) R2.kb).mono ?_
            rintro x w' ⟨rfl, h1, h2, h3⟩
            have ok' : DkOk (jAppend s j q.B).1 := h1.choose_spec.choose_spec.choose_spec.1.ok
            exact ⟨_, _, _, rfl, R2.step h1 h2 h3, g.append (by omega) (by omega) (by omega) (by omega) q.B (by rw [← HM.out]; omega) ok', h3⟩
          rw [← hm] at c2
          rw [← hm2] at c3
          clear hm hm2 gb0 ob HN2 big1 big2
          go_upto_region 22 with (go_at_call 38; (refine capp.mono ?_; clear capp; rintro x4 w4 ⟨r, s4, j4, rfl, R4, g4, v4⟩; have a4 := kept w4 v4; obtain ⟨d0, d1, d2, d3, d4, d5⟩ := act_cells a4; rw [← HM.out] at d2))
          have kc := conv_str A' q.B m c' w4 HM.out.symm (a4.octs.ext R4.ext)
          have psl : Ps.length < 4294967296 := by have := jst_len g; omega
          by_cases r0 : r = 0
          · subst r0
            rw [if_pos rfl, if_neg (fun z => z.1 rfl)] at g4
            go_wp2_with (at_builtin; refine wpList_strs2 rfl (.tmp 89) (.tmp 93) rfl w.heap.size _ Ps rfl (R4.own.ext ((Ext.refl w4).alloc (.cells #[strOf q.B] 9))) w4.heap.size q.B rfl (heap_alloc_new w4 _) psl (by have := R4.ext.size; rw [World.size_alloc]; omega) ?_; intro v6 w6 o6 p6 b6; have R6 := (R4.more ((Ext.refl w4).alloc (.cells #[strOf q.B] 9))).push o6 p6 b6)
            go_roundw
            case rel => exact ⟨t + 1, _, y, s4, j4, e, st, Ps ++ [q.B], U, by omega, val_int (by omega), rfl, rfl, rfl, rfl, R6, g4, hst⟩
            case measure => simp [intOf]; omega
          · rw [if_neg r0] at g4
            by_cases r10 : r = 10 ∧ U = []
            · obtain ⟨rfl, rfl⟩ := r10
              rw [if_pos ⟨r0, rfl, rfl⟩] at g4
              go_wp2
              go_roundw
              case rel => exact ⟨t + 1, _, y, s4, j4, e, st, Ps, q.B, by omega, val_int (by omega), rfl, rfl, rfl, rfl, R4, g4, hst⟩
              case measure => simp [intOf]; omega
            · rw [if_neg (fun z => r10 z.2)] at g4
              have n0 : ((r : Int) == 0) = false := by rw [beq_eq_false_iff_ne]; omega
              by_cases r11 : r = 10
              · subst r11
                have hUe : U.isEmpty = false := by
                  cases U with
                  | nil => exact absurd ⟨rfl, rfl⟩ r10
                  | cons a b => rfl
                go_wp2
                go_roundw
                case rel => exact ⟨t + 1, _, y, s4, j4, e, st, Ps, U, by omega, val_int (by omega), rfl, rfl, rfl, rfl, R4, g4, hst⟩
                case measure => simp [intOf]; omega
              · have n1 : ((r : Int) == 10) = false := by rw [beq_eq_false_iff_ne]; omega
                go_wp2
                go_roundw
                case rel => exact ⟨t + 1, _, y, s4, j4, e, st, Ps, U, by omega, val_int (by omega), rfl, rfl, rfl, rfl, R4, g4, hst⟩
                case measure => simp [intOf]; omega
        have q0 : (q.kind == 0) = false := by rw [beq_eq_false_iff_ne]; exact k0
        by_cases k1 : q.kind = 1
        · have q1 : (q.kind == 1) = true := by rw [beq_iff_eq]; exact k1
          have ep := gb0.ep
          have jpl := gb0.place
          have e2 := gb0.e2
          rw [← hm] at c2
          rw [← hm2] at c3
          clear hm hm2 ob big1 big2 k0 k1
          by_cases hd : j.dead = true
          · have rs := jreset_dead R2.jn hd
            clear HN2 gb0 ep e2 jpl
            go_wp2_with (go_at_call 41; refine rs.mono ?_; clear rs; rintro x4 w4 ⟨rfl, rfl⟩)
            go_roundw
            case rel => exact ⟨t + 1, _, y, s, j, e, st, Ps, U, by omega, val_int (by omega), rfl, rfl, rfl, rfl, R2, g.more, hst⟩
            case measure => simp [intOf]; omega
          · have hd : j.dead = false := by cases z : j.dead; rfl; exact absurd z hd
            have rs := jreset_on R2.jn hd (by omega)
            have hep' : ∀ W, JnAt W y p (jReset j) → Calls Try.prog 42 #[.pointer (some ⟨y, 0, none⟩)] W fun x w' => x = .returned (.int .i64 ((e + 1 : Nat) : Int)) ∧ W = w' := fun W h => by
              have := jepoch_any h
              rw [show (jReset j).epoch = j.epoch + 1 from rfl, ep] at this
              exact this
            have hpl' : ∀ W, JnAt W y p (jReset j) → Calls Try.prog 44 #[.pointer (some ⟨y, 0, none⟩)] W fun x w' => x = .returned (.int .i64 (j.place : Int)) ∧ W = w' := fun W h => (jplace_any h : Calls Try.prog 44 #[.pointer (some ⟨y, 0, none⟩)] W fun e w' => e = .returned (.int .i64 ((jReset j).place : Int)) ∧ W = w')
            have gr := g.reset (by omega) (by omega) hd
            clear HN2 gb0 ep e2
            go_wp2_with first
              | (go_at_call 41; refine rs.mono ?_; clear rs; rintro x4 w4 ⟨rfl, j4, v4⟩; have R4 := R2.step (disk_upd R2.disk v4 (fun b z => by rw [z]; exact R2.ky)) j4 (v4.mono (fun b _ z => Or.inr z)))
              | (go_at_call 42; refine (hep' w4 j4).mono ?_; clear hep'; rintro x5 w5 ⟨rfl, rfl⟩)
              | (go_at_call 44; refine (hpl' w4 j4).mono ?_; clear hpl'; rintro x5 w5 ⟨rfl, rfl⟩)
            go_roundw
            case rel => exact ⟨t + 1, _, y, s, jReset j, e + 1, j.place, [], U, by omega, val_int (by omega), rfl, rfl, rfl, rfl, R4.clear, gr, jpl⟩
            case measure => simp [intOf]; omega
        have q1 : (q.kind == 1) = false := by rw [beq_eq_false_iff_ne]; exact k1
        by_cases k2 : q.kind = 2
        · have q2 : (q.kind == 2) = true := by rw [beq_iff_eq]; exact k2
          have lm := dk21_any R2.disk q.n ac.nmax
          rw [← hm] at c2
          rw [← hm2] at c3
          clear hm hm2 ob big1 big2 k0 k1 k2 HN2 gb0
          go_wp2_with (go_at_call 21; refine lm.mono ?_; clear lm; rintro x4 w4 ⟨rfl, d4, v4⟩; have R4 := R2.step d4 (v4.heap R2.jn (fun z => z R2.ky)) (v4.mono (fun b _ z => Or.inl z)))
          go_roundw
          case rel => exact ⟨t + 1, _, y, _, j, e, st, Ps, U, by omega, val_int (by omega), rfl, rfl, rfl, rfl, R4, (g.limit _).more, hst⟩
          case measure => simp [intOf]; omega
        have q2 : (q.kind == 2) = false := by rw [beq_eq_false_iff_ne]; exact k2
        by_cases k3 : q.kind = 3
        · have q3 : (q.kind == 3) = true := by rw [beq_iff_eq]; exact k3
          have ep := gb0.ep
          have e1 := gb0.e1
          have e2 := gb0.e2
          have ok1 := g.opens (by omega) (by omega) (by omega) (by omega) q.keep q.torn q.cut
          obtain ⟨Ps', hor, hct, ho, g5⟩ := ok1
          have pl := jst_len g
          have crk := dk19_wide R2.disk G' q.keep m2 d' q.torn q.cut HM2.out.symm (ac.keeps.ext R2.ext) (fun h0 a ea => by
            obtain ⟨b, o, e9, hc⟩ := ac.keeps (by rw [length_ints, ← HM2.out]; exact h0)
            rw [ea] at e9
            injection e9 with e9
            rw [e9]
            exact R2.lo _ (block_lt_of_cell (hc 0 _ (List.getElem?_eq_getElem (by rw [length_ints, ← HM2.out]; exact h0))))) (by rw [HM2.out]; exact ac.klen)
          have sl5 : (dkCrash s q.keep q.torn q.cut).safe.length = N := g5.base.safe
          have opk : ∀ W, RC w K2 W p y (dkCrash s q.keep q.torn q.cut) j u10 Ps → Calls Try.prog 43 #[.pointer (some ⟨p, 0, none⟩), .int .i64 1, .int .i64 (k : Int), .int .i64 (e : Int), .int .i64 (st : Int)] W fun x w' => ∃ y2 Ap cp K', x = .returned (.tuple #[.pointer (some ⟨y2, 0, none⟩), .slice Ap Ps'.length cp, .int .i64 0]) ∧ RC w K' w' p y2 (dkCrash s q.keep q.torn q.cut) (jOpen (dkCrash s q.keep q.torn q.cut) 1 k e st) u10 Ps ∧ Pays w' W.heap.size (.slice Ap Ps'.length cp) Ps' := fun W R => by
            refine (jopen_any R.disk rfl 1 k e st (by omega) (by omega) (by omega) e1 (by omega) hst R.kb).mono ?_
            rintro x w' ⟨y2, v, K', rfl, a1, a2, a3, a4, a5, a6, a7, a8⟩
            rw [ho] at a2
            obtain ⟨Ap, cp, rfl, _⟩ := a2.form
            exact ⟨y2, Ap, cp, K', rfl, R.turn a3 a4 a1 a5 a6 a7 a8, a2⟩
          have hform : ∃ As cs, u10 = .slice As Ps.length cs ∧ Ps.length ≤ cs := by
            obtain ⟨As, cs, z1, z2, _⟩ := R2.own.form
            rw [List.length_map] at z1 z2
            exact ⟨As, cs, z1, z2⟩
          obtain ⟨As, cs, rfl, hcs⟩ := hform
          have hwant : ∀ i (hi : i < Ps'.length), (∃ h2 : i < Ps.length, Ps'[i] = Ps[i]) ∨ (¬ i < Ps.length ∧ Ps'[i] = U) := fun i hi => by
            rcases hor with rfl | rfl
            · exact .inl ⟨hi, rfl⟩
            · by_cases h2 : i < Ps.length
              · exact .inl ⟨h2, List.getElem_append_left h2⟩
              · rw [List.length_append] at hi
                have : i < Ps.length + 1 := hi
                refine .inr ⟨h2, ?_⟩
                rw [List.getElem_append_right (by omega)]
                simp
          have hlen : Ps'.length = Ps.length ∨ Ps'.length = Ps.length + 1 := by
            rcases hor with rfl | rfl
            · exact .inl rfl
            · exact .inr (by rw [List.length_append]; rfl)
          have hfin : Ps'.length = Ps.length → Ps' = Ps := fun z => by
            rcases hor with rfl | rfl
            · rfl
            · rw [List.length_append] at z
              have : Ps.length + 1 = Ps.length := z
              omega
          have hfin2 : Ps'.length ≠ Ps.length → Ps' = Ps ++ [U] := fun z => by
            rcases hor with rfl | rfl
            · exact absurd rfl z
            · rfl
          obtain ⟨L, hL⟩ : ∃ L, L = Ps.length := ⟨_, rfl⟩
          obtain ⟨L', hL'⟩ : ∃ L', L' = Ps'.length := ⟨_, rfl⟩
          obtain ⟨L1, hL1⟩ : ∃ L1, L1 = L + 1 := ⟨_, rfl⟩
          have f1 : ((L' : Int) < (L : Int)) = False := eq_false (by omega)
          have f2 : (L : Int) + 1 = (L1 : Int) := by omega
          have f3 : IntKind.i64.wrap (L1 : Int) = (L1 : Int) := IntWalk.i64_in _ (by omega)
          have f4 : ((L1 : Int) < (L' : Int)) = False := eq_false (by omega)
          have psl : Ps.length < 4294967296 := by omega
          have hLb : L' ≤ 100 := by omega
          simp only [← hL, ← hL'] at opk R2 crk hcs
          rw [← hm] at c2
          rw [← hm2] at c3
          have HL := Lib.hid hL
          have HL' := Lib.hid hL'
          have HOR := Lib.hid hlen
          have HF := Lib.hid hfin
          have HF2 := Lib.hid hfin2
          rw [← hL]
          clear hm hm2 ob big1 big2 k0 k1 k2 k3 HN2 gb0 ep e1 e2 hL hL' hL1 hor hct ho hlen hfin hfin2 pl sl5 ac kept cap1 HM HM2 hnw a1 a2 b1 b2
          generalize dkCrash s q.keep q.torn q.cut = s5 at *
          generalize jOpen s5 1 k e st = j5 at *
          go_wp2_with first
            | (go_at_call 19; refine crk.mono ?_; clear crk; rintro x4 w4 ⟨rfl, d4, v4⟩; have R4 := R2.step d4 (v4.heap R2.jn (fun z => z R2.ky)) (v4.mono (fun b _ z => Or.inl z)); have opk := opk w4 R4)
            | (go_at_call 43; refine opk.mono ?_; clear opk; rintro x5 w5 ⟨y2, Ap, cp, K5, rfl, R5, p5⟩)
          obtain ⟨_, _, ef, _, pf⟩ := p5.form
          have hAp : ∀ i (hi : i < Ps'.length), ∃ b o B d, Ap = some ⟨b, o, none⟩ ∧ w5.cell? ⟨b, o + i, none⟩ = some (.slice B Ps'[i].length d) ∧ Octs w5 B Ps'[i] := fun i hi => by
            obtain ⟨b, o, B, d, z1, z2, _, z4⟩ := pf i hi
            injection ef with ef
            rw [← ef] at z1
            exact ⟨b, o, B, d, z1, z2, z4⟩
          have hAs : ∀ i (hi : i < Ps.length), ∃ b o, As = some ⟨b, o, none⟩ ∧ w5.cell? ⟨b, o + i, none⟩ = some (strOf Ps[i]) := fun i hi => by
            obtain ⟨A9, c9, z1, _, _, z4, _⟩ := R5.own.form
            injection z1 with z1
            subst z1
            obtain ⟨b, o, z5, z6⟩ := z4 (by rw [List.length_map]; omega)
            exact ⟨b, o, z5, z6 i _ (by rw [List.getElem?_map, List.getElem?_eq_getElem hi]; rfl)⟩
          clear ef pf
          go_loopw [20] (fun pv wq => ∃ qn : Nat, qn ≤ L' ∧ pv = .int .i64 (qn : Int) ∧ Ext w5 wq) (fun pv _ => L' - (intOf pv).toNat)
          case atStart => exact ⟨0, Nat.zero_le _, rfl, Ext.refl _⟩
          case round =>
            obtain ⟨qn, hqn, rfl, xq⟩ := hrel
            by_cases hq2 : qn < L'
            · have hq3 : qn < Ps'.length := by rw [← HL'.out]; exact hq2
              have hq4 : ((qn : Int) < (L' : Int)) = True := eq_true (by omega)
              obtain ⟨b, o, B, d, rfl, cb, oB⟩ := hAp qn hq3
              obtain ⟨P, hP⟩ : ∃ P, P = Ps'[qn] := ⟨_, rfl⟩
              rw [← hP] at cb oB
              obtain ⟨pn, hpn⟩ : ∃ pn, pn = P.length := ⟨_, rfl⟩
              rw [← hpn] at cb
              have kcv := conv_str B P pn d wr hpn.symm (oB.ext xq)
              have cb := xq.cell cb
              rcases hwant qn hq3 with ⟨h2, h3⟩ | ⟨h2, h3⟩
              · obtain ⟨b2, o2, rfl, cs2⟩ := hAs qn h2
                rw [← h3, ← hP] at cs2
                have cs2 := xq.cell cs2
                have h5 : ((qn : Int) < (L : Int)) = True := eq_true (by have := HL.out; omega)
                clear hpn hP h3 h2 hwant hAp hAs
                go_wp2
                go_roundw
                case rel => exact ⟨qn + 1, by omega, val_int (by omega), xq⟩
                case measure => simp [intOf]; omega
              · have h5 : ((qn : Int) < (L : Int)) = False := eq_false (by have := HL.out; omega)
                have hPU : P = U := hP.trans h3
                subst hPU
                clear hpn h3 h2 hwant hAp hAs
                go_wp2
                go_roundw
                case rel => exact ⟨qn + 1, by omega, val_int (by omega), xq⟩
                case measure => simp [intOf]; omega
            · obtain rfl : L' = qn := by omega
              have hq4 : ((L' : Int) < (L' : Int)) = False := eq_false (by omega)
              have R6 := R5.more xq
              clear hAp hAs hwant p5
              by_cases hLL : L' = L
              · have h6 : ((L : Int) < (L' : Int)) = False := eq_false (by omega)
                have hPP := HF.out (by have := HL.out; have := HL'.out; omega)
                rw [hPP] at g5
                go_wp2
                go_roundw
                case rel => exact ⟨t + 1, _, y2, s5, j5, e, st, Ps, [], by omega, val_int (by omega), rfl, rfl, rfl, rfl, R6, g5.more, hst⟩
                case measure => simp [intOf]; omega
              · have h6 : ((L : Int) < (L' : Int)) = True := eq_true (by have := HL.out; have := HL'.out; have := HOR.out; omega)
                have hPP := HF2.out (by have := HL.out; have := HL'.out; omega)
                rw [hPP] at g5
                go_wp2_with (at_builtin; refine wpList_strs2 rfl (.tmp 182) (.tmp 184) rfl w.heap.size _ Ps rfl (R6.own.ext ((Ext.refl wr).alloc (.cells #[strOf U] 9))) wr.heap.size U rfl (heap_alloc_new wr _) psl (by have := R6.ext.size; rw [World.size_alloc]; omega) ?_; intro v7 w7 o7 p7 b7; have R7 := (R6.more ((Ext.refl wr).alloc (.cells #[strOf U] 9))).push o7 p7 b7)
                go_roundw
                case rel => exact ⟨t + 1, _, y2, s5, j5, e, st, Ps ++ [U], [], by omega, val_int (by omega), rfl, rfl, rfl, rfl, R7, g5.more, hst⟩
                case measure => simp [intOf]; omega
        · have q3 : (q.kind == 3) = false := by rw [beq_eq_false_iff_ne]; exact k3
          rw [← hm] at c2
          rw [← hm2] at c3
          clear hm hm2 ob big1 big2 k0 k1 k2 k3 HN2 gb0
          go_wp2
          go_roundw
          case rel => exact ⟨t + 1, _, y, s, j, e, st, Ps, U, by omega, val_int (by omega), rfl, rfl, rfl, rfl, R2, g.more, hst⟩
          case measure => simp [intOf]; omega
    · have hle : ((t : Int) ≤ (n : Int)) = False := eq_false (by omega)
      go_wp2
      go_ret
      exact ⟨rfl, R.ext⟩
end Go.Proofs.Ytgpnmmgoachajaa
