/- The disk's Load. -/
import Derived.Test.YtgpnmmgoachajaaEb
namespace Go.Proofs.Ytgpnmmgoachajaa
open Go.RowKit Go.Shelf
open Go.Proofs

/-- The sectors of octets. -/
def secsOf (l : List UInt8) (k : Nat) : List (List UInt8) := (List.range k).map fun i => (l.drop (i * 128)).take 128
theorem secsOf_succ (l : List UInt8) (k : Nat) : secsOf l (k + 1) = secsOf l k ++ [(l.drop (k * 128)).take 128] := by simp [secsOf, List.range_succ]
theorem length_secsOf (l : List UInt8) (k : Nat) : (secsOf l k).length = k := by simp [secsOf]
/-- A disk of m sectors, of which k have been loaded. -/
def dkLoad (l : List UInt8) (k m : Nat) : Dk := ⟨secsOf l k ++ List.replicate (m - k) (List.replicate 128 0), [], -1, 0⟩
theorem load_zero (l : List UInt8) (m : Nat) : dkLoad l 0 m = dkNew m := rfl
theorem length_load (l : List UInt8) (k m : Nat) (h : k ≤ m) : (dkLoad l k m).safe.length = m := by
  show (secsOf l k ++ List.replicate (m - k) (List.replicate 128 0)).length = m
  rw [List.length_append, length_secsOf, List.length_replicate]
  omega
theorem load_next (l : List UInt8) (k m : Nat) (h : k < m) : ({ dkLoad l k m with safe := (dkLoad l k m).safe.set k ((l.drop (k * 128)).take 128) } : Dk) = dkLoad l (k + 1) m := by
  have e : m - k = (m - (k + 1)) + 1 := by omega
  unfold dkLoad
  rw [secsOf_succ, e, List.replicate_succ]
  have hs := length_secsOf l k
  have : (secsOf l k ++ List.replicate 128 0 :: List.replicate (m - (k + 1)) (List.replicate 128 0)).set k ((l.drop (k * 128)).take 128) = secsOf l k ++ [(l.drop (k * 128)).take 128] ++ List.replicate (m - (k + 1)) (List.replicate 128 0) := by
    rw [List.set_append_right _ _ (by omega), hs, Nat.sub_self, List.set_cons_zero, List.append_assoc]
    rfl
  rw [this]
theorem load_flat (l : List UInt8) : ∀ k, k * 128 ≤ l.length → (secsOf l k).flatten = l.take (k * 128)
  | 0, _ => by simp [secsOf]
  | k + 1, h => by
    rw [secsOf_succ, List.flatten_append, load_flat l k (by omega), List.flatten_cons, List.flatten_nil, List.append_nil, Nat.add_mul, Nat.one_mul, List.take_add]
theorem load_image (l : List UInt8) (m : Nat) (h : l.length = m * 128) : dkImage (dkLoad l m m) = l := by
  rw [image_flat _ rfl]
  show (secsOf l m ++ List.replicate (m - m) (List.replicate 128 0)).flatten = l
  rw [Nat.sub_self, List.replicate_zero, List.append_nil, load_flat l m (by omega), List.take_of_length_le (by omega)]

set_option maxRecDepth 100000 in
theorem dk26_bad (A : Option Addr) (l : List UInt8) (n c : Nat) (hl : l.length = n) (hn : n ≤ 9223372036854775807) (h : n % 128 ≠ 0) (w : World) : Calls Try.prog 26 #[.slice A n c] w fun e w' => e = .returned (.tuple #[.pointer none, .int .i64 2]) ∧ w' = w := by
  have e1 : (n : Int).tmod 128 ≠ 0 := by rw [Int.tmod_eq_emod_of_nonneg (by omega)]; omega
  have e2 : (n : Int) % 128 ≠ 0 := by omega
  clear h
  go_enter Try.func26, Try.ntmps26
  go_wp2
  go_ret2
  exact ⟨rfl, rfl⟩
set_option maxRecDepth 100000 in
theorem dk26_size (A : Option Addr) (l : List UInt8) (n c : Nat) (hl : l.length = n) (hn : n ≤ 9223372036854775807) (h : n % 128 = 0) (h2 : n = 0 ∨ 8388608 < n) (w : World) : Calls Try.prog 26 #[.slice A n c] w fun e w' => e = .returned (.tuple #[.pointer none, .int .i64 2]) ∧ w' = w := by
  obtain ⟨m, hm⟩ : ∃ m, m = n / 128 := ⟨_, rfl⟩
  have e1 : (n : Int).tmod 128 = 0 := by rw [Int.tmod_eq_emod_of_nonneg (by omega)]; omega
  have e2 : (n : Int) % 128 = 0 := by omega
  have d1 : (n : Int).tdiv 128 = (m : Int) := by rw [Int.tdiv_eq_ediv_of_nonneg (by omega)]; omega
  have d2 : (n : Int) / 128 = (m : Int) := by omega
  have hb := dk15_bad (m : Int) w (by omega)
  clear hm h h2
  go_enter Try.func26, Try.ntmps26
  go_wp2_with (go_at_call 15; refine hb.mono ?_; rintro e w1 ⟨rfl, rfl⟩)
  go_ret2
  exact ⟨rfl, rfl⟩

set_option maxRecDepth 100000 in
set_option maxHeartbeats 4000000 in
theorem dk26_good (A : Option Addr) (l : List UInt8) (m n c : Nat) (w : World) (hl : l.length = n) (hn : n = m * 128) (h1 : 1 ≤ m) (h2 : m ≤ 65536) (hc : n ≤ c) (hx : Octs w A l) :
    Calls Try.prog 26 #[.slice A n c] w fun e w' => ∃ p, e = .returned (.tuple #[.pointer (some ⟨p, 0, none⟩), .int .i64 0]) ∧ Disk (fun b => b < w.heap.size) w' p (dkLoad l m m) ∧ Ext w w' := by
  have e1 : (n : Int).tmod 128 = 0 := by rw [Int.tmod_eq_emod_of_nonneg (by omega)]; omega
  have e2 : (n : Int) % 128 = 0 := by omega
  have d1 : (n : Int).tdiv 128 = (m : Int) := by rw [Int.tdiv_eq_ediv_of_nonneg (by omega)]; omega
  have d2 : (n : Int) / 128 = (m : Int) := by omega
  have hb := dk15_good m w h1 h2
  obtain ⟨K, hK⟩ : ∃ K : Nat → Prop, K = fun b => b < w.heap.size := ⟨_, rfl⟩
  rw [← hK] at hb ⊢
  have hKn : ∀ b, ¬ K b → w.heap.size ≤ b := fun b e => Nat.le_of_not_lt fun h => e (by rw [hK]; exact h)
  have HN := Lib.hid hn
  clear hK
  have hn7 : n ≤ 9223372036854775807 := by omega
  clear hn
  go_enter Try.func26, Try.ntmps26
  go_wp2_with (go_at_call 15; refine hb.mono ?_; clear hb; rintro e w1 ⟨p, rfl, ⟨S, M, qv, hd, hk⟩, x1⟩; obtain ⟨c0, c1, c2, c3, c4, cf⟩ := hd.cells; rw [show (dkNew m).safe.length = m from List.length_replicate] at c0)
  clear e1 e2 d1 d2
  rw [← load_zero l m] at hd
  have hSn : w.heap.size ≤ S := hKn S (hk S (.inr (.inl rfl)))
  clear c0 c1 c2 c3 c4 cf
  go_loopw [6, 26] (fun _ i wr => ∃ k : Nat, k ≤ m ∧ i = .int .i64 (k : Int) ∧ DiskV wr p S M qv (dkLoad l k m) ∧ Upd (fun b => b = S) w1 wr) (fun _ i _ => m - (intOf i).toNat)
  case atStart => exact ⟨0, Nat.zero_le _, rfl, hd, Upd.refl _ _⟩
  case round =>
    obtain ⟨k, hk2, rfl, hr, ur⟩ := hrel
    by_cases hlt : k < m
    · have xr : Ext w wr := ur.to_ext x1 (fun b e => by rw [e]; exact hSn)
      obtain ⟨lo, hlo⟩ : ∃ lo, lo = k * 128 := ⟨_, rfl⟩
      have hnx := load_next l k m hlt
      have hsl := length_load l k m (Nat.le_of_lt hlt)
      have hS128 : k * 128 + 128 ≤ (octs (dkLoad l k m).safe.flatten).toArray.size := by
        rw [List.size_toArray, length_octs, flat_len 128 _ hr.ok.safe, hsl]
        omega
      have hlow : lo + 128 ≤ n := by rw [hlo, HN.out]; omega
      have hmul : (k : Int) * 128 = (lo : Int) := by omega
      obtain ⟨D, hD⟩ : ∃ D, D = (l.drop lo).take 128 := ⟨_, rfl⟩
      have hDl : D.length = 128 := by rw [hD, List.length_take, List.length_drop]; omega
      rw [← hlo, ← hD] at hnx
      obtain ⟨A1, hc1, _, hc3, _⟩ := cut_lo A l c lo (by omega) (by omega)
      rw [hl] at hc1
      obtain ⟨ab, ko, rfl, _⟩ := hc3 wr (hx.ext xr) (by rw [length_octs, List.length_drop]; omega)
      have hrD : ∀ w', Upd (fun b => b = S) wr w' → w'.rangeAt ab ko (octs D) := fun w' u => by
        have x9 : Ext w w' := u.to_ext xr (fun b e => by rw [e]; exact hSn)
        obtain ⟨b', o', e, hcc⟩ := hc3 w' (hx.ext x9) (by rw [length_octs, List.length_drop]; omega)
        injection e with e
        injection e with e1 e2
        subst e1; subst e2
        intro j v hv
        refine hcc j v ?_
        rw [hD, ← octs_take, List.getElem?_take] at hv
        split at hv
        · exact hv
        · cases hv
      have hpS := hr.pS
      have hc0 := hr.cells.1
      rw [hsl] at hc0
      have hs9 := hr.safe
      have hn128 : 128 ≤ n - lo := by omega
      have hlo7 : IntKind.i64.wrap (lo : Int) = (lo : Int) := IntWalk.i64_in _ (by omega)
      have HNX := Lib.hid hnx
      clear hD hlo hnx hc3 hsl
      go_wp2
      refine wp_region_held_drew (S := fun w' => Upd (fun b => b = S) wr w') (by kernel_rfl) ((Upd.refl _ _).drew) (fun hS => ?_)
      refine takeH (i := 0) (v := ?_) rfl rfl (by kernel_rfl) (by kernel_rfl) (by kernel_rfl) (fun _ _ _ h => h) (Or.inl ⟨by kernel_rfl, ?_⟩) hS ?_
      rotate_left 1
      · (intro w' hS'; go_simp; try (with_reducible rfl))
      simp only [List.setIfInBounds_toArray, List.set_cons_succ, List.set_cons_zero]
      refine takeH (i := 1) (v := ?_) rfl rfl (by kernel_rfl) (by kernel_rfl) (by kernel_rfl) (fun _ _ _ h => h) (Or.inl ⟨by kernel_rfl, ?_⟩) hS ?_
      rotate_left 1
      · (intro w' hS'; go_simp; try (with_reducible rfl))
      simp only [List.setIfInBounds_toArray, List.set_cons_succ, List.set_cons_zero]
      refine takeH (i := 2) (v := ?_) rfl rfl (by kernel_rfl) (by kernel_rfl) (by kernel_rfl) (fun _ _ _ h => h) (Or.inl ⟨by kernel_rfl, ?_⟩) hS ?_
      rotate_left 1
      · (intro w' hS'; go_simp; try (with_reducible rfl))
      simp only [List.setIfInBounds_toArray, List.set_cons_succ, List.set_cons_zero]
      refine takeH (i := 3) (v := ?_) rfl rfl (by kernel_rfl) (by kernel_rfl) (by kernel_rfl) (fun _ _ _ h => h) (Or.inl ⟨by kernel_rfl, ?_⟩) hS ?_
      rotate_left 1
      · (intro w' hS'; have c0 := hS'.cell hc0 hpS; go_simp; try (with_reducible rfl))
      simp only [List.setIfInBounds_toArray, List.set_cons_succ, List.set_cons_zero]
      refine takeH (i := 4) (v := ?_) rfl rfl (by kernel_rfl) (by kernel_rfl) (by kernel_rfl) (fun _ _ _ h => h) (Or.inl ⟨by kernel_rfl, ?_⟩) hS ?_
      rotate_left 1
      · (intro w' hS'; go_simp; try (with_reducible rfl))
      simp only [List.setIfInBounds_toArray, List.set_cons_succ, List.set_cons_zero]
      refine takeH (i := 5) (v := ?_) rfl rfl (by kernel_rfl) (by kernel_rfl) (by kernel_rfl) (fun _ _ _ h => h) (Or.inl ⟨by kernel_rfl, ?_⟩) hS ?_
      rotate_left 1
      · (intro w' hS'; go_simp; try (with_reducible rfl))
      simp only [List.setIfInBounds_toArray, List.set_cons_succ, List.set_cons_zero]
      refine takeH (i := 6) (v := ?_) rfl rfl (by kernel_rfl) (by kernel_rfl) (by kernel_rfl) (fun _ _ _ h => h) (Or.inl ⟨by kernel_rfl, ?_⟩) hS ?_
      rotate_left 1
      · (intro w' hS'; go_simp; try (with_reducible rfl))
      simp only [List.setIfInBounds_toArray, List.set_cons_succ, List.set_cons_zero]
      refine takeH (i := 7) (v := ?_) rfl rfl (by kernel_rfl) (by kernel_rfl) (by kernel_rfl) (fun _ _ _ h => h) (Or.inl ⟨by kernel_rfl, ?_⟩) hS ?_
      rotate_left 1
      · (intro w' hS'; go_simp; try (with_reducible rfl))
      simp only [List.setIfInBounds_toArray, List.set_cons_succ, List.set_cons_zero]
      refine takeH (i := 8) (v := ?_) rfl rfl (by kernel_rfl) (by kernel_rfl) (by kernel_rfl) (fun _ _ _ h => h) (Or.inl ⟨by kernel_rfl, ?_⟩) hS ?_
      rotate_left 1
      · (intro w' hS'; have k8 := hc1 w'; go_simp; try (with_reducible rfl))
      simp only [List.setIfInBounds_toArray, List.set_cons_succ, List.set_cons_zero]
      refine takeH (i := 9) (v := ?_) rfl rfl (by kernel_rfl) (by kernel_rfl) (by kernel_rfl) (fun _ _ _ h => h) (Or.inl ⟨by kernel_rfl, ?_⟩) hS ?_
      rotate_left 1
      · (intro w' hS'; have k9 := run_arrayAt (P := Try.prog) (w := w') 91 5 128 (some ⟨ab, ko, none⟩) (n - lo) (c - lo) und_sec hn128; go_simp; try (with_reducible rfl))
      simp only [List.setIfInBounds_toArray, List.set_cons_succ, List.set_cons_zero]
      refine takeH (i := 10) (v := secV D) rfl rfl (by kernel_rfl) (by kernel_rfl) (by kernel_rfl) (fun _ _ _ h => h) (yieldsIf_load_mid (by kernel_rfl) 91 (.tmp 38) rfl ab ko rfl (octs D) _ hrD und_sec rfl (by rw [size_sec, length_octs, hDl])) hS ?_
      simp only [List.setIfInBounds_toArray, List.set_cons_succ, List.set_cons_zero]
      refine takeH (i := 11) (v := ?_) rfl rfl (by kernel_rfl) (by kernel_rfl) (by kernel_rfl) (fun _ _ _ h => h) (Or.inl ⟨by kernel_rfl, ?_⟩) hS ?_
      rotate_left 1
      · (intro w' hS'; go_simp; try (with_reducible rfl))
      simp only [List.setIfInBounds_toArray, List.set_cons_succ, List.set_cons_zero]
      refine wpAnyH_ready (rs := [12]) (by kernel_rfl) (by simp) ?_
      refine AllReadyH.cons rfl (fun K hK => ?_) ?_
      rotate_left 1
      · exact AllReadyH.nil
      refine step_store_sec rfl (.tmp 40) (.tmp 39) rfl S (k * 128) rfl D rfl hDl _ _ hs9 hS128 ?_; intro w9 b9 u9
      try go_simp
      refine hK.out _ _ (by first | exact hS.trans u9 | exact hS) (fun hS => ?_)
      clear hK K
      refine wpAnyH_done (by kernel_rfl) ?_ _
      have hd9 := hr.setSafe k D (by rw [length_load l k m (Nat.le_of_lt hlt)]; exact hlt) hDl b9 hS
      rw [HNX.out] at hd9
      go_wp2
      go_roundw
      case rel => exact ⟨k + 1, by omega, val_int (by omega), hd9, ur.trans hS⟩
      case measure => simp [intOf]; omega
    · obtain rfl : k = m := by omega
      go_wp2
      refine bodyPost_ret (results_tmp2 rfl _ _ _) rfl ?_
      exact ⟨p, rfl, ⟨S, M, qv, hr, hk⟩, ur.to_ext x1 (fun b e => by rw [e]; exact hSn)⟩
end Go.Proofs.Ytgpnmmgoachajaa
