/- The check sum's functions (layer 2): taking octets, Sum, Add. -/
import Derived.Test.YtgpnmmgoachajaaCrc
namespace Go.Proofs.Ytgpnmmgoachajaa
open Go.RowKit
open Go.Proofs

theorem Table.ext {w w' : World} {g k : Nat} (h : Table w g k) (e : Ext w w') : Table w' g k := by
  obtain ⟨cur, hg, r⟩ := h
  exact ⟨cur, e.heap hg, r⟩

set_option maxRecDepth 100000 in
theorem f129_any (g : Nat) (u : Nat) (A : Option Addr) (l : List UInt8) (c : Nat) (w : World) (hu : u < 4294967296) (ht : Table w g 16) (hl : l.length ≤ 4294967296) (hx : Octs w A l) :
    Calls Try.prog 66 #[.pointer (some ⟨g, 0, none⟩), .int .u32 (u : Int), .slice A l.length c] w fun e w' => e = .returned (.int .u32 ((Mb.reg u l : Nat) : Int)) ∧ ∃ n, w' = w.drewN n := by
  obtain ⟨cur, hg, hsz, htab⟩ := ht
  go_enter Try.func66, Try.ntmps66
  go_wp2_with fail
  go_loopw [1, 12] (fun u' i wr => ∃ j : Nat, j ≤ l.length ∧ i = .int .i64 j ∧ u' = .int .u32 ((Mb.reg u (l.take j) : Nat) : Int) ∧ ∃ n, wr = w.drewN n) (fun _ i _ => l.length - (intOf i).toNat)
  case atStart => exact ⟨0, by omega, rfl, rfl, 0, rfl⟩
  case round =>
    obtain ⟨j, hj, rfl, rfl, n, rfl⟩ := hrel
    by_cases hlt : j < l.length
    · obtain ⟨b, o, rfl, hcell⟩ := hx.at_ (k := j) (by omega)
      have hr : Mb.reg u (l.take j) < 4294967296 := Mb.reg_lt _ hu
      have hstep : Mb.reg u (l.take (j + 1)) = Mb.take (Mb.reg u (l.take j)) l[j] := by
        rw [List.take_succ_eq_append_getElem hlt, Mb.reg_append]; rfl
      generalize Mb.reg u (l.take j) = r at hr hstep ⊢
      have hstep2 := (Mb.take_nibbles r l[j]).trans hstep.symm
      have hx8 : r % 256 ^^^ l[j].toNat < 256 := Nat.xor_lt_two_pow (n := 8) (Nat.mod_lt _ (by omega)) (l[j]).toNat_lt
      have hx1 : bits .xor .u8 ((r : Int) % 256) ((l[j].toNat : Nat) : Int) = ((r % 256 ^^^ l[j].toNat : Nat) : Int) := by
        rw [← u8_xor_nat _ _ (Nat.mod_lt _ (by omega)) (l[j]).toNat_lt]
        congr 1
      generalize r % 256 ^^^ l[j].toNat = x at hx8 hx1 hstep2
      have hx2 : bits .and .u8 (x : Int) 15 = ((x % 16 : Nat) : Int) := by
        have := u8_and_nat x 15 hx8 (by omega)
        rw [show ((15 : Nat) : Int) = 15 from rfl] at this
        rw [this]
        congr 1
        exact Nat.and_two_pow_sub_one_eq_mod x 4
      obtain ⟨t1, _⟩ := htab (x % 16) (by omega)
      obtain ⟨_, t2⟩ := htab (x / 16) (by omega)
      have c1 : w.cell? ⟨g, x % 16, none⟩ = some (.int .u32 ((Mb.stepn 8 (x % 16) : Nat) : Int)) := by rw [cell_of_row w _ _ _ _ _ hg]; exact t1
      have c2 : w.cell? ⟨g, 16 + x / 16, none⟩ = some (.int .u32 ((Mb.stepn 8 (x / 16 * 16) : Nat) : Int)) := by rw [cell_of_row w _ _ _ _ _ hg]; exact t2
      have h16 : x / 16 < 16 := by omega
      have h17 : x % 16 < 16 := by omega
      have hfin : bits .xor .u32 (bits .xor .u32 ((r : Int) / 256) ((Mb.stepn 8 (x % 16) : Nat) : Int)) ((Mb.stepn 8 (x / 16 * 16) : Nat) : Int) = ((Mb.reg u (l.take (j + 1)) : Nat) : Int) := by
        have a1 : (r : Int) / 256 = ((r / 256 : Nat) : Int) := by omega
        have a2 : Mb.stepn 8 (x % 16) < 4294967296 := Mb.stepn_lt 8 (by omega)
        have a3 : Mb.stepn 8 (x / 16 * 16) < 4294967296 := Mb.stepn_lt 8 (by omega)
        rw [a1, u32_xor_nat _ _ (by omega) a2, u32_xor_nat _ _ (Nat.xor_lt_two_pow (n := 32) (by omega) a2) a3, ← hstep2, Nat.shiftRight_eq_div_pow]
      have Hfin := Lib.hid hfin
      clear hstep hstep2 t1 t2 hfin
      go_wp2_with fail
      go_quiet (fail)
      go_wp2
      go_roundw
      case rel => exact ⟨j + 1, by omega, by go_num, by rw [Hfin.out], _, rfl⟩
      case measure => simp [intOf]; omega
    · go_wp2
      go_ret
      obtain rfl : j = l.length := by omega
      exact ⟨by rw [List.take_length]; rfl, n, rfl⟩

/-- A slice of slices that reads as lists of octets. -/
def Lists (w : World) (A : Option Addr) (ls : List (List UInt8)) : Prop :=
  ∃ vs : List Value, vs.length = ls.length ∧ Cells w A vs ∧ ∀ i (h : i < ls.length), ∃ B c, vs[i]? = some (.slice B ls[i].length c) ∧ ls[i].length ≤ c ∧ ls[i].length ≤ 4294967296 ∧ Octs w B ls[i]
theorem Lists.ext {w w' : World} {A : Option Addr} {ls : List (List UInt8)} (h : Lists w A ls) (k : Ext w w') : Lists w' A ls := by
  obtain ⟨vs, hl, hc, hi⟩ := h
  exact ⟨vs, hl, hc.ext k, fun i h => by
    obtain ⟨B, c, h1, h2, h3, h4⟩ := hi i h
    exact ⟨B, c, h1, h2, h3, h4.ext k⟩⟩
theorem Lists.at_ {w : World} {A : Option Addr} {ls : List (List UInt8)} (h : Lists w A ls) {k : Nat} (hk : k < ls.length) :
    ∃ b o B c, A = some ⟨b, o, none⟩ ∧ w.cell? ⟨b, o + k, none⟩ = some (.slice B ls[k].length c) ∧ ls[k].length ≤ c ∧ ls[k].length ≤ 4294967296 ∧ Octs w B ls[k] := by
  obtain ⟨vs, hl, hc, hi⟩ := h
  obtain ⟨B, c, h1, h2, h3, h4⟩ := hi k hk
  obtain ⟨b, o, e, h5⟩ := hc.at_ h1
  exact ⟨b, o, B, c, e, h5, h2, h3, h4⟩
theorem Lists.one {w : World} {B : Option Addr} {l : List UInt8} {c : Nat} (t : TypeId) (h : Octs w B l) (h1 : l.length ≤ c) (h2 : l.length ≤ 4294967296) :
    Lists (w.alloc (.cells #[.slice B l.length c] t)) (some ⟨w.heap.size, 0, none⟩) [l] :=
  ⟨_, rfl, Cells.new1 w _ t, fun i hi => by
    obtain rfl : i = 0 := by simpa using hi
    exact ⟨B, c, rfl, h1, h2, h.alloc _⟩⟩
theorem Lists.two {w : World} {B C : Option Addr} {l m : List UInt8} {c d : Nat} (t : TypeId) (h : Octs w B l) (h1 : l.length ≤ c) (h2 : l.length ≤ 4294967296) (k : Octs w C m) (k1 : m.length ≤ d) (k2 : m.length ≤ 4294967296) :
    Lists (w.alloc (.cells #[.slice B l.length c, .slice C m.length d] t)) (some ⟨w.heap.size, 0, none⟩) [l, m] :=
  ⟨_, rfl, Cells.new2 w _ _ t, fun i hi => by
    match i, hi with
    | 0, _ => exact ⟨B, c, rfl, h1, h2, h.alloc _⟩
    | 1, _ => exact ⟨C, d, rfl, k1, k2, k.alloc _⟩⟩

theorem u32_unsigned : IntKind.u32.signed = false := rfl
theorem not_u32 (u : Nat) (h : u < 4294967296) : bits .xor .u32 IntKind.u32.max (u : Int) = ((4294967295 ^^^ u : Nat) : Int) := u32_xor_nat 4294967295 u (by decide) h

set_option maxRecDepth 100000 in
theorem f41_any (A : Option Addr) (ls : List (List UInt8)) (c : Nat) (w : World) (hn : ls.length ≤ 4294967296) (hx : Lists w A ls) :
    Calls Try.prog 54 #[.slice A ls.length c] w fun e w' => e = .returned (.int .u32 ((Mb.crcSum ls.flatten : Nat) : Int)) ∧ Ext w w' := by
  go_enter Try.func54, Try.ntmps54
  go_wp2_with (go_at_call 65; refine (f128_any _).mono ?_; rintro e w1 ⟨rfl, htab, hext1⟩)
  go_loopw [4, 10] (fun u' i wr => ∃ j : Nat, j ≤ ls.length ∧ i = .int .i64 j ∧ u' = .int .u32 ((Mb.reg Mb.mask32 (ls.take j).flatten : Nat) : Int) ∧ Ext w1 wr) (fun _ i _ => ls.length - (intOf i).toNat)
  case atStart => exact ⟨0, by omega, rfl, rfl, Ext.refl _⟩
  case round =>
    obtain ⟨j, hj, rfl, rfl, hext⟩ := hrel
    by_cases hlt : j < ls.length
    · obtain ⟨b, o, B, d, rfl, hcell, h1, h2, h3⟩ := (hx.ext (hext1.trans hext)).at_ (k := j) (by omega)
      have hr : Mb.reg Mb.mask32 (ls.take j).flatten < 4294967296 := Mb.reg_lt _ (by decide)
      have hstep : Mb.reg Mb.mask32 (ls.take (j + 1)).flatten = Mb.reg (Mb.reg Mb.mask32 (ls.take j).flatten) ls[j] := by
        rw [List.take_succ_eq_append_getElem hlt, List.flatten_append, Mb.reg_append]; simp
      have Hs := Lib.hid hstep
      clear hstep
      go_wp2_with (go_at_call 66; refine (f129_any _ _ _ _ _ _ hr (htab.ext hext) h2 h3).mono ?_; rintro e w2 ⟨rfl, n, rfl⟩)
      go_roundw
      case rel => exact ⟨j + 1, by omega, by go_num, by rw [Hs.out], hext.drewN _⟩
      case measure => simp [intOf]; omega
    · obtain rfl : j = ls.length := by omega
      have hr : Mb.reg Mb.mask32 ls.flatten < 4294967296 := Mb.reg_lt _ (by decide)
      rw [List.take_length]
      have hns := u32_unsigned
      go_wp2
      go_ret
      exact ⟨ret_int (not_u32 _ hr), hext1.trans hext⟩

end Go.Proofs.Ytgpnmmgoachajaa
