/- The library's Grow, Concat, Clone and Equal at slices of octets. -/
import Derived.Test.YtgpnmmgoachajaaCrc2
import Derived.Lib.SliceRun
namespace Go.Proofs.Ytgpnmmgoachajaa
open Go.RowKit
open Go.Proofs

theorem run_append_zeros {P : Program} (w : World) (t u ty e : TypeId) (i : TypeInfo) (z : Value) (ht : P.underlying t = some (.slice e)) (hu : P.underlying u = some (.int .i64)) (hi : P.info? e = some i) (hz : i.zero = some z)
    (n : Nat) (h0 : 0 < n) (hn32 : n ≤ 4294967296) (hs1 : 0 < i.size) (hb : i.bytes ≤ 32768) :
    (Builtin.append_ #[t, u] ty #[.slice none 0 0, .int .i64 n]).run P w =
      .ok (.slice (some ⟨w.heap.size, 0, none⟩) n (grownCap w n 0 e)) (w.drew.alloc (.cells (Builtin.zeroCells z.cells n ++ Builtin.zeroCells z.cells (grownCap w n 0 e - n)) e)) := by
  have hn : n ≠ 0 := by omega
  have hn2 : n * i.size ≠ 0 := Nat.mul_ne_zero hn (by omega)
  have h48 : n * i.bytes ≤ 281474976710656 := Nat.le_trans (Nat.mul_le_mul hn32 hb) (by decide)
  have h63' : ¬ (9223372036854775807 < (n : Int)) := by omega
  have h48' : ¬ (281474976710656 < Builtin.nextslicecap n 0 * i.bytes) := by rw [nextslicecap_zero h0]; omega
  have hw : IntKind.i64.wrap (n : Int) = (n : Int) := IntWalk.i64_in _ (by omega)
  have h48'' : ¬ (281474976710656 < (n : Int) * (i.bytes : Int)) := by
    have : ((n * i.bytes : Nat) : Int) ≤ 281474976710656 := by omega
    rw [Int.natCast_mul] at this
    omega
  have hneg : ¬ ((n : Int) < 0) := by omega
  simp [asInt, asIntOf, Builtin.append_, run_underlying ht, run_underlying hu, sizeOf, typeInfo, zeroValue, hi, hz, Builtin.lenOf, hn, hn2, h63', h48', h48'', hw, hneg, Question.forced, run_firstCells_none, newRow, grownCap]

set_option maxRecDepth 100000 in
theorem f179_any (n : Nat) (w : World) (hn : n ≤ 4294967296) :
    Calls Try.prog 70 #[.slice none 0 0, .int .i64 n] w fun e w' => ∃ v, e = .returned v ∧ Own w' w.heap.size 5 v [] ∧ Ext w w' := by
  obtain ⟨i0, hi, hz, hs, hb⟩ := info_parts info5
  rcases Nat.eq_zero_or_pos n with rfl | h0
  · go_enter Try.func70, Try.ntmps70
    go_wp2
    go_ret
    exact ⟨_, rfl, Own.nil _ _ _, Ext.refl _⟩
  · have hr := run_append_zeros w 22 3 22 5 i0 _ Try.underlying22 Try.underlying3 hi hz n h0 hn (by omega) (by omega)
    have hcap := grownCap_ge w n 0 5
    have hcap2 := grownCap_le_maxLen w n 0 5 (by simp only [maxLen]; omega)
    have hwrap : IntKind.i64.wrap (n : Int) = (n : Int) := IntWalk.i64_in _ (by omega)
    have hneg : ((n : Int) < 0) = False := by simp
    generalize hK : Builtin.zeroCells (Value.int IntKind.u8 0).cells n ++ Builtin.zeroCells (Value.int IntKind.u8 0).cells (grownCap w n 0 5 - n) = cur at hr
    have hcs : cur.size = grownCap w n 0 5 := by rw [← hK]; simp [size_zeroCells, Value.cells]; omega
    clear hK
    generalize grownCap w n 0 5 = cap at hr hcap hcap2 hcs
    have HC := Lib.hid hcs
    clear hcs
    go_enter Try.func70, Try.ntmps70
    go_wp2_with (at_builtin; refine wpList_append_run rfl (.tmp 20) (.tmp 21) _ _ rfl (.slice none 0 0) (.int .i64 n) _ _ rfl rfl hr ?_)
    go_ret
    exact ⟨_, rfl, ⟨rfl, .inr ⟨_, cap, cur, rfl, Nat.le_refl _, heap_alloc_new w.drew _, Nat.zero_le _, hcap2, by rw [HC.out, Nat.mul_one], rfl⟩⟩, (Ext.refl w).drew.alloc _⟩

/-- The octets of the first lists. -/
def tot (ls : List (List UInt8)) (j : Nat) : Nat := (ls.take j).flatten.length
theorem tot_zero (ls : List (List UInt8)) : tot ls 0 = 0 := rfl
theorem tot_all (ls : List (List UInt8)) : tot ls ls.length = ls.flatten.length := by rw [tot, List.take_length]
theorem tot_succ (ls : List (List UInt8)) (j : Nat) (h : j < ls.length) : tot ls (j + 1) = tot ls j + ls[j].length := by
  rw [tot, tot, List.take_succ_eq_append_getElem h, List.flatten_append, List.length_append]; simp
theorem tot_le (ls : List (List UInt8)) (j : Nat) : tot ls j ≤ ls.flatten.length := by
  conv => rhs; rw [← List.take_append_drop j ls, List.flatten_append, List.length_append]
  unfold tot; omega

theorem flatten_take_le (ls : List (List UInt8)) (j : Nat) : (ls.take j).flatten.length ≤ ls.flatten.length := by
  conv => rhs; rw [← List.take_append_drop j ls, List.flatten_append, List.length_append]
  omega
theorem flatten_take_succ (ls : List (List UInt8)) (j : Nat) (h : j < ls.length) : (ls.take (j + 1)).flatten = (ls.take j).flatten ++ ls[j] := by
  rw [List.take_succ_eq_append_getElem h, List.flatten_append]; simp

set_option maxRecDepth 100000 in
theorem f131_any (A : Option Addr) (ls : List (List UInt8)) (c : Nat) (w : World) (hn : ls.length ≤ 4294967296) (htot : ls.flatten.length ≤ 4294967296) (hx : Lists w A ls) :
    Calls Try.prog 60 #[.slice A ls.length c] w fun e w' => ∃ v, e = .returned v ∧ Own w' w.heap.size 5 v (octs ls.flatten) ∧ Ext w w' := by
  obtain ⟨i0, hi, hz, hs, hb⟩ := info_parts info5
  go_enter Try.func60, Try.ntmps60
  go_wp2_with fail
  go_loop [3, 11] (fun t i => ∃ j : Nat, j ≤ ls.length ∧ i = .int .i64 j ∧ t = .int .i64 ((tot ls j : Nat) : Int)) (fun _ i => ls.length - (intOf i).toNat)
  case atStart => exact ⟨0, by omega, rfl, rfl⟩
  case round =>
    obtain ⟨j, hj, rfl, rfl⟩ := hrel
    by_cases hlt : j < ls.length
    · obtain ⟨b, o, B, d, rfl, hcell, h1, h2, h3⟩ := hx.at_ (k := j) (by omega)
      have hle := tot_le ls (j + 1)
      have hst := tot_succ ls j hlt
      rw [hst] at hle
      have Hs := Lib.hid hst
      clear hst
      go_wp2
      go_round
      case rel => exact ⟨j + 1, by omega, by go_num, val_int (by rw [Hs.out]; omega)⟩
      case measure => simp [intOf]; omega
    · obtain rfl : j = ls.length := by omega
      have Ht := Lib.hid (tot_all ls)
      have htt : tot ls ls.length ≤ 4294967296 := by rw [tot_all]; exact htot
      go_wp2_with (go_at_call 70; refine (f179_any _ _ htt).mono ?_; rintro e w1 ⟨v1, rfl, hown1, hext1⟩)
      go_loopw [6, 27] (fun v i wr => ∃ j : Nat, j ≤ ls.length ∧ i = .int .i64 j ∧ Own wr w.heap.size 5 v (octs (ls.take j).flatten) ∧ Ext w wr) (fun _ i _ => ls.length - (intOf i).toNat)
      case atStart => exact ⟨0, by omega, rfl, hown1, hext1⟩
      case round =>
        obtain ⟨j, hj, rfl, hown, hext⟩ := hrel
        by_cases hlt : j < ls.length
        · obtain ⟨b, o, B, d, rfl, hcell, h1, h2, h3⟩ := (hx.ext hext).at_ (k := j) (by omega)
          have hsz := hext.size
          have hle := flatten_take_le ls (j + 1)
          have hst := flatten_take_succ ls j hlt
          have Hs := Lib.hid hst
          rw [hst, List.length_append] at hle
          clear hst
          go_wp2_with (at_builtin; refine wpList_app rfl (.tmp 31) (.tmp 32) _ rfl w.heap.size 5 i0 (.int .u8 0) 1 Try.underlying22 hi hz hs hb rfl u6 (octs (ls.take j).flatten) rfl hown B ls[j].length d (octs ls[j]) rfl (length_octs _) h3 (octs_one _) ?_ (by omega) ?_ ?_)
          · simp only [length_octs]; exact Nat.le_trans hle htot
          · exact hsz
          intro v' w2 hown2 hg2 _
          have hext2 : Ext w w2 := hext.grown hg2 (fun b hb => (hown.block b hb).1)
          clear hg2
          go_wp2
          go_roundw
          case rel => exact ⟨j + 1, by omega, by go_num, by rw [Hs.out, octs_append]; exact hown2, hext2⟩
          case measure => simp [intOf]; omega
        · obtain rfl : j = ls.length := by omega
          rw [List.take_length] at hown
          go_wp2
          go_ret
          exact ⟨_, rfl, hown, hext⟩

set_option maxRecDepth 100000 in
theorem f134_any (A : Option Addr) (l : List UInt8) (c : Nat) (w : World) (hl : l.length ≤ 4294967296) (hc : l.length ≤ c) (hx : Octs w A l) :
    Calls Try.prog 84 #[.slice A l.length c] w fun e w' => ∃ v, e = .returned v ∧ Own w' w.heap.size 5 v (octs l) ∧ Ext w w' := by
  obtain ⟨i0, hi, hz, hs, hb⟩ := info_parts info5
  rcases A with _ | a
  · have h0 : l = [] := by
      rcases l with _ | ⟨x, l⟩
      · rfl
      · obtain ⟨b, o, e, _⟩ := hx (by simp)
        cases e
    subst h0
    have hen := fun (w : World) => Lib.run_eql_slice_nil (P := Try.prog) w 22 5 none 0 c 0 0 Try.underlying22
    show Calls Try.prog 84 #[.slice none 0 c] w _
    go_enter Try.func84, Try.ntmps84
    go_wp2
    go_ret
    exact ⟨_, rfl, Own.nil _ _ _, Ext.refl _⟩
  · have hen := fun (w : World) => Lib.run_eql_slice_nil (P := Try.prog) w 22 5 (some a) l.length c 0 0 Try.underlying22
    have hown0 : Own (w.alloc (.cells #[] 5)) w.heap.size 5 (.slice (some ⟨w.heap.size, 0, none⟩) 0 0) [] :=
      ⟨rfl, .inr ⟨_, 0, #[], rfl, Nat.le_refl _, heap_alloc_new w _, Nat.le_refl _, Nat.zero_le _, rfl, rfl⟩⟩
    go_enter Try.func84, Try.ntmps84
    go_wp2_with (at_builtin; refine wpList_app rfl (.tmp 5) (.tmp 6) _ rfl w.heap.size 5 i0 (.int .u8 0) 1 Try.underlying22 hi hz hs hb rfl (.slice (some ⟨w.heap.size, 0, none⟩) 0 0) [] rfl hown0 (some a) l.length c (octs l) rfl (length_octs _) (hx.alloc _) (octs_one _) ?_ (by omega) ?_ ?_)
    · simp; omega
    · simp
    intro v' w1 hown1 hg1 _
    have hext1 : Ext w w1 := ((Ext.refl w).alloc _).grown hg1 (fun b hb => (hown0.block b hb).1)
    clear hg1
    go_wp2
    go_ret
    exact ⟨_, rfl, by simpa using hown1, hext1⟩

set_option maxRecDepth 100000 in
theorem f152_any (A B : Option Addr) (l m : List UInt8) (n k c d : Nat) (w : World) (hln : l.length = n) (hmk : m.length = k) (hn : n ≤ 4294967296) (hk : k ≤ 4294967296) (hx : Octs w A l) (hy : Octs w B m) :
    Calls Try.prog 72 #[.slice A n c, .slice B k d] w fun e w' => e = .returned (.bool (decide (l = m))) ∧ ∃ q, w' = w.drewN q := by
  have HL := Lib.hid hln
  have HM := Lib.hid hmk
  by_cases hlen : n = k
  · subst hlen
    clear hln hmk
    go_enter Try.func72, Try.ntmps72
    go_wp2
    go_loopw [13] (fun i wr => ∃ j : Nat, j ≤ n ∧ i = .int .i64 j ∧ Hid (l.take j = m.take j) ∧ ∃ q, wr = w.drewN q) (fun i _ => n - (intOf i).toNat)
    case atStart => exact ⟨0, by omega, rfl, Lib.hid rfl, 0, rfl⟩
    case round =>
      obtain ⟨j, hj, rfl, heq, q, rfl⟩ := hrel
      by_cases hlt : j < n
      · have hl1 : j < l.length := by rw [HL.out]; exact hlt
        have hm1 : j < m.length := by rw [HM.out]; exact hlt
        obtain ⟨b, o, rfl, hcell⟩ := hx.at_ hl1
        obtain ⟨b', o', rfl, hcell'⟩ := hy.at_ hm1
        by_cases hv : l[j] = m[j]
        · have hvb : (((l[j].toNat : Nat) : Int) != ((m[j].toNat : Nat) : Int)) = false := by simp [hv]
          have Hv := Lib.hid hv
          clear hv
          go_wp2_with fail
          go_quiet (fail)
          go_wp2
          go_roundw
          case rel => exact ⟨j + 1, by omega, by go_num, Lib.hid (by rw [List.take_succ_eq_append_getElem hl1, List.take_succ_eq_append_getElem hm1, heq.out, Hv.out]), _, rfl⟩
          case measure => simp [intOf]; omega
        · have hvb : (((l[j].toNat : Nat) : Int) != ((m[j].toNat : Nat) : Int)) = true := by
            rw [bne_iff_ne]
            intro h
            exact hv (UInt8.toNat_inj.1 (by omega))
          have hne : decide (l = m) = false := by
            rw [decide_eq_false_iff_not]
            intro h
            subst h
            exact hv rfl
          have Hne := Lib.hid hne
          clear hv hne
          go_wp2_with fail
          go_quiet (fail)
          go_wp2
          go_ret
          exact ⟨ret_bool Hne.out.symm, _, World.drewN_drewN _ _ _⟩
      · obtain rfl : j = n := by omega
        go_wp2
        go_ret
        refine ⟨ret_bool ?_, _, rfl⟩
        have h1 := heq.out
        rw [List.take_of_length_le (by rw [HL.out]; exact Nat.le_refl _), List.take_of_length_le (by rw [HM.out]; exact Nat.le_refl _)] at h1
        exact (decide_eq_true h1).symm
  · have hne : decide (l = m) = false := by
      rw [decide_eq_false_iff_not]
      intro h
      exact hlen (by rw [← hln, ← hmk, h])
    have hnb : ((n : Int) != (k : Int)) = true := by rw [bne_iff_ne]; omega
    clear hln hmk hlen
    go_enter Try.func72, Try.ntmps72
    go_wp2
    go_ret
    exact ⟨ret_bool hne.symm, 0, rfl⟩
end Go.Proofs.Ytgpnmmgoachajaa
