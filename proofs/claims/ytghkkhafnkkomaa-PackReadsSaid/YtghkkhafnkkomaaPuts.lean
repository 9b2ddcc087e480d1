/- Fields in memory, and the octets that the law's 'puts' writes of them. -/
import Derived.Test.YtghkkhafnkkomaaWr3
import Derived.Test.YtghkkhafnkkomaaTurns
namespace Go.Proofs.Ytghkkhafnkkomaa
open Go.RowKit
open Go.Proofs

/-- A field: kind, number, size, text. -/
abbrev Fld := Int × Int × Int × List UInt8
/-- A field's octets. -/
def fld (q : Fld) : List UInt8 := if q.1 = 0 then leN (wid q.2.2.1) (u64of q.2.1) else if q.1 = 1 then zb (zz q.2.1) else leN 2 (u64of ((q.2.2.2.take 65535).length : Int)) ++ q.2.2.2.take 65535
def flds (fs : List Fld) : List UInt8 := (fs.map fld).flatten
theorem flds_next (fs : List Fld) (j : Nat) (q : Fld) (h : fs[j]? = some q) : flds (fs.take (j + 1)) = flds (fs.take j) ++ fld q := by
  obtain ⟨hj, e⟩ := List.getElem?_eq_some_iff.1 h
  rw [flds, flds, List.take_succ_eq_append_getElem hj, List.map_append, List.flatten_append, e]
  simp
theorem fld_le (q : Fld) (h1 : -9223372036854775808 ≤ q.2.1) (h2 : q.2.1 ≤ 9223372036854775807) : (fld q).length ≤ 65537 := by
  unfold fld
  split
  · rw [length_leN]; have := wid_le q.2.2.1; omega
  · split
    · have := zb_len64 _ (zz_lt _ h1 h2); omega
    · rw [List.length_append, length_leN, List.length_take]; omega
/-- Fields as a row in memory. -/
def FldsAt (w : World) (A : Option Addr) (fs : List Fld) : Prop :=
  0 < fs.length → ∃ b o, A = some ⟨b, o, none⟩ ∧ ∀ (i : Nat) q, fs[i]? = some q → w.cell? ⟨b, o + i * 4, none⟩ = some (.int .i64 q.1) ∧ w.cell? ⟨b, o + i * 4 + 1, none⟩ = some (.int .i64 q.2.1) ∧
    w.cell? ⟨b, o + i * 4 + 2, none⟩ = some (.int .i64 q.2.2.1) ∧ w.cell? ⟨b, o + i * 4 + 3, none⟩ = some (strOf q.2.2.2) ∧ (-9223372036854775808 ≤ q.2.1 ∧ q.2.1 ≤ 9223372036854775807)
theorem FldsAt.ext {w w' : World} {A : Option Addr} {fs : List Fld} (h : FldsAt w A fs) (k : Ext w w') : FldsAt w' A fs := fun h0 => by
  obtain ⟨b, o, e, hx⟩ := h h0
  exact ⟨b, o, e, fun i q hq => ⟨k.cell (hx i q hq).1, k.cell (hx i q hq).2.1, k.cell (hx i q hq).2.2.1, k.cell (hx i q hq).2.2.2.1, (hx i q hq).2.2.2.2⟩⟩
theorem flds_le (fs : List Fld) (h : ∀ (i : Nat) q, fs[i]? = some q → -9223372036854775808 ≤ q.2.1 ∧ q.2.1 ≤ 9223372036854775807) : ∀ j, j ≤ fs.length → (flds (fs.take j)).length ≤ j * 65537
  | 0, _ => by simp [flds]
  | j + 1, hj => by
    have ih := flds_le fs h j (by omega)
    have hq : fs[j]? = some fs[j] := List.getElem?_eq_getElem (by omega)
    rw [flds_next fs j _ hq, List.length_append]
    have := fld_le fs[j] (h j _ hq).1 (h j _ hq).2
    omega

set_option maxRecDepth 100000 in
set_option maxHeartbeats 1000000 in
theorem f23_any (A : Option Addr) (fs : List Fld) (n c : Nat) (w : World) (hn : fs.length = n) (hl : n ≤ 1000) (hs : ∀ (i : Nat) q, fs[i]? = some q → q.2.2.2.length ≤ 4294960000) (hx : FldsAt w A fs) :
    Calls Try.prog 23 #[.slice A n c] w fun e w' => ∃ v, e = .returned v ∧ Own w' w.heap.size 5 v (octs (flds fs)) ∧ Ext w w' := by
  have HN := Lib.hid hn
  have hsz : Hid (∀ j, j ≤ n → (flds (fs.take j)).length ≤ j * 65537) := by
    intro j hj
    by_cases h0 : 0 < fs.length
    · obtain ⟨b, o, _, hr⟩ := hx h0
      exact flds_le fs (fun i q hq => (hr i q hq).2.2.2.2) j (by omega)
    · have : fs = [] := List.eq_nil_of_length_eq_zero (by omega)
      subst this
      simp [flds]
  clear hn
  go_enter Try.func23, Try.ntmps23
  go_wp2_with fail
  refine (f64_any w).mono ?_
  rintro e w1 ⟨rfl, ht1, hx1, hs1⟩
  have hW1 : Within (fun b => b = w.heap.size) w.heap.size w1 := fun b x => by rw [x]; exact ⟨Nat.le_refl _, by omega⟩
  have hbs := hx1.size
  obtain ⟨k, hk⟩ : ∃ k, w.heap.size = k := ⟨_, rfl⟩
  rw [hk] at ht1 hW1 hbs ⊢
  generalize (fun b => b = k) = F at ht1 hW1
  have HK := Lib.hid hk
  clear hk hs1
  go_wp2_with fail
  go_loopg [4] n (fun g i wr => ∃ (j : Nat) (G : Nat → Prop), j ≤ n ∧ n - j ≤ g ∧ i = .int .i64 j ∧ WrAt wr k G (flds (fs.take j)) ∧ Within G k wr ∧ Ext w wr)
  case atStart => exact ⟨0, F, by omega, by omega, rfl, ht1, hW1, hx1⟩
  case round =>
    obtain ⟨j, G, hj, hg, rfl, ht, hWi, hxr⟩ := hrel
    have hlen := hsz.out j hj
    have hks : k ≤ wr.heap.size := by have := hxr.size; rw [HK.out] at this; exact this
    by_cases hlt : j < n
    · obtain ⟨⟨kd, nn, sz, tx⟩, hqg⟩ : ∃ q, fs[j]? = some q := ⟨_, List.getElem?_eq_getElem (by rw [HN.out]; exact hlt)⟩
      obtain ⟨b, o, rfl, hrow⟩ := hx (by rw [HN.out]; omega)
      obtain ⟨D0, D1, D2, D3, r1, r2⟩ := hrow j _ hqg
      have htx := hs j _ hqg
      simp only at D0 D1 D2 D3 r1 r2 htx
      have d0 := hxr.cell D0
      have d1 := hxr.cell D1
      have d2 := hxr.cell D2
      have d3 := hxr.cell D3
      have hnext := flds_next fs j _ hqg
      have hji : (j : Int) < (n : Int) := by omega
      generalize flds (fs.take j) = L at ht hlen hnext
      have hL : L.length ≤ 4294890000 := by omega
      have HX := Lib.hid hnext
      clear hqg hrow hnext hlen
      by_cases k0 : kd = 0
      · subst k0
        go_wp2_with fail
        have hT : Ext wr wr.drew := (Ext.refl _).drew
        refine wp_region_held_drew (S := fun w' => w'.cell? ⟨b, o + j * 4 + 1, none⟩ = some (.int .i64 nn) ∧ w'.cell? ⟨b, o + j * 4 + 2, none⟩ = some (.int .i64 sz)) (by kernel_rfl) (⟨d1, d2⟩) (fun hS => ?_)
        refine takeH (i := 0) (v := ?_) rfl rfl (by kernel_rfl) (by kernel_rfl) (by kernel_rfl) (fun _ _ _ h => h) (Or.inl ⟨by kernel_rfl, ?_⟩) hS ?_
        rotate_left 1
        · (intro w' hS'; go_simp; try (with_reducible rfl))
        simp only [List.setIfInBounds_toArray, List.set_cons_succ, List.set_cons_zero]
        refine takeH (i := 1) (v := ?_) rfl rfl (by kernel_rfl) (by kernel_rfl) (by kernel_rfl) (fun _ _ _ h => h) (Or.inl ⟨by kernel_rfl, ?_⟩) hS ?_
        rotate_left 1
        · (intro w' hS'; go_simp; try (with_reducible rfl))
        simp only [List.setIfInBounds_toArray, List.set_cons_succ, List.set_cons_zero]
        refine takeH (i := 2) (v := ?_) rfl rfl (by kernel_rfl) (by kernel_rfl) (by kernel_rfl) (fun _ _ _ h => h) (Or.inl ⟨by kernel_rfl, ?_⟩) hS ?_
        rotate_left 1
        · (intro w' hS'; go_simp; try (with_reducible rfl))
        simp only [List.setIfInBounds_toArray, List.set_cons_succ, List.set_cons_zero]
        refine takeH (i := 3) (v := ?_) rfl rfl (by kernel_rfl) (by kernel_rfl) (by kernel_rfl) (fun _ _ _ h => h) (Or.inl ⟨by kernel_rfl, ?_⟩) hS ?_
        rotate_left 1
        · (intro w' hS'; go_simp; try (with_reducible rfl))
        simp only [List.setIfInBounds_toArray, List.set_cons_succ, List.set_cons_zero]
        refine takeH (i := 4) (v := ?_) rfl rfl (by kernel_rfl) (by kernel_rfl) (by kernel_rfl) (fun _ _ _ h => h) (Or.inl ⟨by kernel_rfl, ?_⟩) hS ?_
        rotate_left 1
        · (intro w' hS'; go_simp; try (with_reducible rfl))
        simp only [List.setIfInBounds_toArray, List.set_cons_succ, List.set_cons_zero]
        refine takeH (i := 5) (v := ?_) rfl rfl (by kernel_rfl) (by kernel_rfl) (by kernel_rfl) (fun _ _ _ h => h) (Or.inl ⟨by kernel_rfl, ?_⟩) hS ?_
        rotate_left 1
        · (intro w' hS'; obtain ⟨g1, g2⟩ := hS'; go_simp; try (with_reducible rfl))
        simp only [List.setIfInBounds_toArray, List.set_cons_succ, List.set_cons_zero]
        refine takeH (i := 6) (v := ?_) rfl rfl (by kernel_rfl) (by kernel_rfl) (by kernel_rfl) (fun _ _ _ h => h) (Or.inl ⟨by kernel_rfl, ?_⟩) hS ?_
        rotate_left 1
        · (intro w' hS'; go_simp; try (with_reducible rfl))
        simp only [List.setIfInBounds_toArray, List.set_cons_succ, List.set_cons_zero]
        refine takeH (i := 7) (v := ?_) rfl rfl (by kernel_rfl) (by kernel_rfl) (by kernel_rfl) (fun _ _ _ h => h) (Or.inl ⟨by kernel_rfl, ?_⟩) hS ?_
        rotate_left 1
        · (intro w' hS'; go_simp; try (with_reducible rfl))
        simp only [List.setIfInBounds_toArray, List.set_cons_succ, List.set_cons_zero]
        refine takeH (i := 8) (v := ?_) rfl rfl (by kernel_rfl) (by kernel_rfl) (by kernel_rfl) (fun _ _ _ h => h) (Or.inl ⟨by kernel_rfl, ?_⟩) hS ?_
        rotate_left 1
        · (intro w' hS'; go_simp; try (with_reducible rfl))
        simp only [List.setIfInBounds_toArray, List.set_cons_succ, List.set_cons_zero]
        refine takeH (i := 9) (v := ?_) rfl rfl (by kernel_rfl) (by kernel_rfl) (by kernel_rfl) (fun _ _ _ h => h) (Or.inl ⟨by kernel_rfl, ?_⟩) hS ?_
        rotate_left 1
        · (intro w' hS'; go_simp; try (with_reducible rfl))
        simp only [List.setIfInBounds_toArray, List.set_cons_succ, List.set_cons_zero]
        refine takeH (i := 10) (v := ?_) rfl rfl (by kernel_rfl) (by kernel_rfl) (by kernel_rfl) (fun _ _ _ h => h) (Or.inl ⟨by kernel_rfl, ?_⟩) hS ?_
        rotate_left 1
        · (intro w' hS'; obtain ⟨g1, g2⟩ := hS'; go_simp; try (with_reducible rfl))
        simp only [List.setIfInBounds_toArray, List.set_cons_succ, List.set_cons_zero]
        refine wpAnyH_ready (rs := [11]) (by kernel_rfl) (by simp) ?_
        refine AllReadyH.cons rfl (fun K hK => ?_) ?_
        rotate_left 1
        · exact AllReadyH.nil
        go_simp
        generalize wr.drew = w3' at hT ⊢; have xd := hT; refine (f65_any k G nn sz L w3' (by omega) (ht.ext hT)).mono ?_; rintro e w3 ⟨rfl, t3, u3⟩; have e1 := (hxr.trans hT).trans' u3 (fun b e => by rw [HK.out]; exact (hWi b e).1)
        refine hK.out _ _ ⟨e1.cell D1, e1.cell D2⟩ (fun hS => ?_)
        clear hK K
        refine wpAnyH_done (by kernel_rfl) ?_ _
        have h3 : fld (0, nn, sz, tx) = leN (wid sz) (u64of nn) := by rw [fld, if_pos rfl]
        rw [← h3] at t3
        go_wp2_with fail
        go_roundg (n - (j + 1))
        case measure => omega
        case rel => exact ⟨j + 1, Since G w3' w3, by omega, by omega, by go_num, by rw [HX.out]; exact t3, (hWi.le xd.size).since u3 (Nat.le_trans hks xd.size), (hxr.trans xd).trans' u3 (fun b e => by rw [HK.out]; exact (hWi b e).1)⟩
      by_cases k1 : kd = 1
      · subst k1
        have H1 := f66_any k G nn r1 r2 L wr (by omega) ht
        go_wp2_with (go_at_call 66; refine H1.mono ?_; clear H1; rintro e w3 ⟨rfl, t3, u3⟩)
        have h3 : fld (1, nn, sz, tx) = zb (zz nn) := by rw [fld, if_neg (by simp), if_pos rfl]
        rw [← h3] at t3
        go_roundg (n - (j + 1))
        case measure => omega
        case rel => exact ⟨j + 1, Since G wr w3, by omega, by omega, by go_num, by rw [HX.out]; exact t3, hWi.since u3 hks, hxr.trans' u3 (fun b e => by rw [HK.out]; exact (hWi b e).1)⟩
      · have H1 := f67_any k G tx L wr htx hL ht
        have kk0 : (kd == 0) = false := by simpa using k0
        have kk1 : (kd == 1) = false := by simpa using k1
        have h3 : fld (kd, nn, sz, tx) = leN 2 (u64of ((tx.take 65535).length : Int)) ++ tx.take 65535 := by rw [fld, if_neg k0, if_neg k1]
        rw [← h3] at H1
        have HF := Lib.hid h3
        clear h3 k0 k1
        go_wp2_with (go_at_call 67; refine H1.mono ?_; clear H1; rintro e w3 ⟨rfl, t3, u3⟩)
        go_roundg (n - (j + 1))
        case measure => omega
        case rel => exact ⟨j + 1, Since G wr w3, by omega, by omega, by go_num, by rw [HX.out]; exact t3, hWi.since u3 hks, hxr.trans' u3 (fun b e => by rw [HK.out]; exact (hWi b e).1)⟩
    · obtain rfl : j = n := by omega
      have ht2 : fs.take j = fs := by rw [← HN.out, List.take_length]
      rw [ht2] at ht hlen
      refine ?_
      have H1 := f68_any k G (flds fs) wr (by omega) ht
      go_wp2_with (go_at_call 68; refine H1.mono ?_; clear H1; rintro e w3 ⟨v, rfl, o3, x3⟩)
      go_ret
      exact ⟨_, rfl, o3.mono hxr.size, hxr.trans x3⟩
end Go.Proofs.Ytghkkhafnkkomaa
