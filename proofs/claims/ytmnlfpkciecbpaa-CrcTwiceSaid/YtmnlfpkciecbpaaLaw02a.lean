/- The crc laws' example; sums in any pieces: the law returns true, for whatever lists of octets. -/
import Derived.Test.YtmnlfpkciecbpaaSeal
import Derived.Test.YtmnlfpkciecbpaaRefCrc
import Derived.KernelRfl
import Derived.Lib.SlBytesConst
namespace Go.Proofs.Ytmnlfpkciecbpaa
open Go.RowKit
open Go.Proofs

theorem awake_sum : Mb.crcSum [49, 50, 51, 52, 53, 54, 55, 56, 57] = 3421780262 := by decide +kernel

set_option maxRecDepth 100000 in
theorem f40_any (w : World) : Calls Try.prog 40 #[] w fun e w' => e = .returned (.bool true) ∧ Ext w w' := by
  have hc : Octs (w.alloc (.cells #[.int .u8 49, .int .u8 50, .int .u8 51, .int .u8 52, .int .u8 53, .int .u8 54, .int .u8 55, .int .u8 56, .int .u8 57] 5 (9, 10))) (some ⟨w.heap.size, 0, none⟩) [49, 50, 51, 52, 53, 54, 55, 56, 57] :=
    Cells.of_block (heap_alloc_new w (.cells #[.int .u8 49, .int .u8 50, .int .u8 51, .int .u8 52, .int .u8 53, .int .u8 54, .int .u8 55, .int .u8 56, .int .u8 57] 5 (9, 10)))
  have kc := fun (w : World) (C : Array Value) (n c : Nat) => Lib.run_convert_bytes_const (P := Try.prog) w 25 5 C n c Try.underlying25 Try.underlying5
  have hL := Lists.one (c := 9) 25 hc (Nat.le_refl _) (by decide)
  have hs := Lib.hid awake_sum
  go_enter Try.func40, Try.ntmps40
  go_wp2_with fail
  refine (f41_any _ [[49, 50, 51, 52, 53, 54, 55, 56, 57]] _ _ (by decide) ?_).mono ?_
  · simpa using hL
  rintro e w1 ⟨rfl, hext⟩
  simp only [List.flatten_cons, List.flatten_nil, List.append_nil]
  rw [hs.out]
  go_wp2
  go_ret
  exact ⟨rfl, (((Ext.refl w).alloc _).alloc _).trans hext⟩

/-- The law's loop adds pieces: what has come is the sum of the first pieces. -/
theorem add_reg (ls : List (List UInt8)) (j : Nat) (h : j < ls.length) :
    4294967295 ^^^ Mb.reg (4294967295 ^^^ Mb.crcSum (ls.take j).flatten) ls[j] = Mb.crcSum (ls.take (j + 1)).flatten := by
  rw [flatten_take_succ ls j h]
  unfold Mb.crcSum
  rw [Mb.reg_append]
  have e : 4294967295 ^^^ (Mb.mask32 ^^^ Mb.reg Mb.mask32 (ls.take j).flatten) = Mb.reg Mb.mask32 (ls.take j).flatten := by
    rw [← Nat.xor_assoc]
    show (4294967295 ^^^ 4294967295) ^^^ _ = _
    rw [Nat.xor_self, Nat.zero_xor]
  rw [e]; rfl

theorem flatten_small (ls : List (List UInt8)) (B n : Nat) (h : ∀ j (hj : j < ls.length), ls[j].length ≤ B) (hn : ls.length ≤ n) : ls.flatten.length ≤ n * B := by
  induction ls generalizing n with
  | nil => simp
  | cons l ls ih =>
    have h0 := h 0 (by simp)
    have h1 := ih (n - 1) (fun j hj => h (j + 1) (by simpa using hj)) (by simp at hn; omega)
    simp only [List.flatten_cons, List.length_append]
    simp only [List.getElem_cons_zero] at h0
    obtain ⟨m, rfl⟩ : ∃ m, n = m + 1 := ⟨n - 1, by simp at hn; omega⟩
    rw [Nat.succ_mul]
    simp only [Nat.add_sub_cancel] at h1
    omega

/-- A slice of slices that reads as lists of octets, however long. -/
def ListsAny (w : World) (A : Option Addr) (ls : List (List UInt8)) : Prop :=
  ∃ vs : List Value, vs.length = ls.length ∧ Cells w A vs ∧ ∀ i (h : i < ls.length), ∃ B c, vs[i]? = some (.slice B ls[i].length c) ∧ ls[i].length ≤ c ∧ c ≤ maxLen ∧ Octs w B ls[i]
theorem ListsAny.small {w : World} {A : Option Addr} {ls : List (List UInt8)} (h : ListsAny w A ls) (k : ∀ i (h : i < ls.length), ls[i].length ≤ 300) : Lists w A ls := by
  obtain ⟨vs, hl, hc, hi⟩ := h
  exact ⟨vs, hl, hc, fun i h => by
    obtain ⟨B, c, h1, h2, _, h4⟩ := hi i h
    exact ⟨B, c, h1, h2, by have := k i h; omega, h4⟩⟩
theorem ListsAny.ext {w w' : World} {A : Option Addr} {ls : List (List UInt8)} (h : ListsAny w A ls) (k : Ext w w') : ListsAny w' A ls := by
  obtain ⟨vs, hl, hc, hi⟩ := h
  exact ⟨vs, hl, hc.ext k, fun i h => by
    obtain ⟨B, c, h1, h2, h3, h4⟩ := hi i h
    exact ⟨B, c, h1, h2, h3, h4.ext k⟩⟩
theorem ListsAny.at_ {w : World} {A : Option Addr} {ls : List (List UInt8)} (h : ListsAny w A ls) {k : Nat} (hk : k < ls.length) :
    ∃ b o B c, A = some ⟨b, o, none⟩ ∧ w.cell? ⟨b, o + k, none⟩ = some (.slice B ls[k].length c) ∧ ls[k].length ≤ c ∧ c ≤ maxLen ∧ Octs w B ls[k] := by
  obtain ⟨vs, hl, hc, hi⟩ := h
  obtain ⟨B, c, h1, h2, h3, h4⟩ := hi k hk
  obtain ⟨b, o, e, h5⟩ := hc.at_ h1
  exact ⟨b, o, B, c, e, h5, h2, h3, h4⟩
theorem Lists.none_ (w : World) : Lists w none [] := ⟨[], rfl, Cells.nil _ _, fun i h => by simp at h⟩

set_option maxRecDepth 100000 in
set_option maxHeartbeats 600000 in
theorem f5_walk (A : Option Addr) (ls : List (List UInt8)) (n c : Nat) (w : World) (hn : ls.length = n) (hnm : n ≤ 9223372036854775807) (hx : ListsAny w A ls) :
    Calls Try.prog 5 #[.slice A n c] w fun e w' => e = .returned (.bool true) ∧ Ext w w' := by
  have HN := Lib.hid hn
  by_cases h10 : 10 < n
  · clear hn
    go_enter Try.func5, Try.ntmps5
    go_wp2_with fail
    refine (f40_any _).mono ?_
    rintro e w1 ⟨rfl, hext1⟩
    go_wp2_with fail
    refine (f40_any _).mono ?_
    rintro e w2 ⟨rfl, hext2⟩
    go_wp2
    go_ret
    exact ⟨rfl, hext1.trans hext2⟩
  · have h10' : n ≤ 10 := by omega
    clear hn hnm h10
    go_enter Try.func5, Try.ntmps5
    go_wp2_with fail
    refine (f40_any _).mono ?_
    rintro e w1 ⟨rfl, hext1⟩
    go_wp2_with fail
    refine (f41_any none [] 0 _ (by simp) (Lists.none_ _)).mono ?_
    rintro e w2 ⟨rfl, hext2⟩
    have hw2 : Ext w w2 := hext1.trans hext2
    go_wp2_with fail
    go_loopw [3, 4] (fun u i wr => ∃ j s : Nat, j ≤ n ∧ i = .int .i64 j ∧ u = .int .u32 (s : Int) ∧ s < 4294967296 ∧ Hid (Mb.crcSum (ls.take j).flatten = s) ∧ Ext w wr ∧ ∀ i (h : i < ls.length), i < j → ls[i].length ≤ 300) (fun _ i _ => n - (intOf i).toNat)
    case atStart => exact ⟨0, Mb.crcSum [], by omega, rfl, rfl, Mb.crcSum_lt _, Lib.hid rfl, hw2, fun i _ h => by omega⟩
    case round =>
      obtain ⟨j, s, hj, rfl, rfl, hs, HS, hext, hall⟩ := hrel
      by_cases hlt : j < n
      · have hl1 : j < ls.length := by rw [HN.out]; exact hlt
        obtain ⟨b, o, B, d, rfl, hcell, h1, h2, h3⟩ := (hx.ext hext).at_ hl1
        unfold maxLen at h2
        by_cases hbig : 300 < ls[j].length
        · go_wp2
          go_ret
          exact ⟨rfl, hext⟩
        · have HA : Hid (∀ i (h : i < ls.length), i < j + 1 → ls[i].length ≤ 300) := by
            intro i h hi
            by_cases e : i = j
            · subst e; omega
            · exact hall i h (by omega)
          have HS2 : Hid (4294967295 ^^^ Mb.reg (4294967295 ^^^ s) ls[j] = Mb.crcSum (ls.take (j + 1)).flatten) := by
            unfold Hid
            rw [← HS.out]; exact add_reg ls j hl1
          have hlt2 := Mb.crcSum_lt (ls.take (j + 1)).flatten
          clear hall
          go_wp2_with (go_at_call 42; refine (f42_any _ _ _ _ _ hs (by omega) h3).mono ?_; rintro e w3 ⟨rfl, hext3⟩; rw [HS2.out])
          go_roundw
          case rel => exact ⟨j + 1, _, by omega, by go_num, rfl, hlt2, Lib.hid rfl, hext.trans hext3, HA⟩
          case measure => simp [intOf]; omega
      · obtain rfl : j = n := by omega
        have HA : ∀ i (h : i < ls.length), ls[i].length ≤ 300 := fun i h => hall i h (by rw [← HN.out]; exact h)
        have hL := (hx.ext hext).small HA
        have htot : ls.flatten.length ≤ 4294967296 := Nat.le_trans (flatten_small ls 300 10 HA (by rw [HN.out]; omega)) (by decide)
        have hnn : ls.length ≤ 4294967296 := by rw [HN.out]; omega
        have h1 := HS.out
        rw [List.take_of_length_le (by rw [HN.out]; exact Nat.le_refl _)] at h1
        have H1 := Lib.hid h1
        clear h1 hall
        have c44 := f44_any A ls c wr hnn htot hL
        rw [HN.out] at c44
        go_wp2_with fail
        refine c44.mono ?_
        rintro e w3 ⟨v3, rfl, hown3, hext3⟩
        obtain ⟨A3, c3, rfl, hc3, _, hcells, _⟩ := hown3.form
        go_wp2_with fail
        refine (f43_n A3 ls.flatten _ c3 w3 ?_ ?_ hcells).mono ?_
        · simp
        · simpa using htot
        rintro e w4 ⟨rfl, rfl⟩
        rw [H1.out]
        have c41 := f41_any A ls c w3 hnn (hL.ext hext3)
        rw [HN.out, H1.out] at c41
        go_wp2_with fail
        refine c41.mono ?_
        rintro e w5 ⟨rfl, hext5⟩
        go_wp2
        go_ret
        exact ⟨rfl, (hext.trans hext3).trans hext5⟩
end Go.Proofs.Ytmnlfpkciecbpaa
