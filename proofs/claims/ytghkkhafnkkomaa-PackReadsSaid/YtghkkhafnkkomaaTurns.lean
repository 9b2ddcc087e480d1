/- While nothing is touched victims come as they were added: the law's walk. -/
import Derived.Test.YtghkkhafnkkomaaAw22
namespace Go.Proofs.Ytghkkhafnkkomaa
open Go.RowKit
open Go.Proofs

/-- '((x % n) + n) % n'. -/
theorem round_two (x : Int) (N : Nat) (h : 0 < N) : ∃ (t : Int) (k : Nat), x.tmod (N : Int) = t ∧ -(N : Int) < t ∧ t < (N : Int) ∧ (t + (N : Int)).tmod (N : Int) = (k : Int) ∧ k < N := by
  have h1 : x.tmod (N : Int) < (N : Int) := Int.tmod_lt_of_pos x (by omega)
  have h2 : -(N : Int) < x.tmod (N : Int) := by
    have := Int.tmod_lt_of_pos (-x) (b := (N : Int)) (by omega)
    rw [Int.neg_tmod] at this
    omega
  have h3 : 0 ≤ x.tmod (N : Int) + (N : Int) := by omega
  have h4 := Int.emod_nonneg (x.tmod (N : Int) + (N : Int)) (b := (N : Int)) (by omega)
  have h5 := Int.emod_lt_of_pos (x.tmod (N : Int) + (N : Int)) (b := (N : Int)) (by omega)
  refine ⟨_, ((x.tmod (N : Int) + (N : Int)) % (N : Int)).toNat, rfl, h2, h1, ?_, by omega⟩
  rw [Int.tmod_eq_emod_of_nonneg h3]; omega
theorem mod_nat (a N : Nat) : (a : Int).tmod (N : Int) = ((a % N : Nat) : Int) := by
  rw [Int.tmod_eq_emod_of_nonneg (by omega)]; omega

/-- The places in the order in which they are added. -/
def ord (K s j : Nat) : List Int := (List.range j).map (fun i => (((i + s) % K : Nat) : Int))
theorem ord_succ (K s j : Nat) : ord K s (j + 1) = ord K s j ++ [(((j + s) % K : Nat) : Int)] := by simp [ord, List.range_succ]
theorem ord_length (K s j : Nat) : (ord K s j).length = j := by simp [ord]
theorem ord_get (K s j i : Nat) (h : i < j) : (ord K s j)[i]? = some (((i + s) % K : Nat) : Int) := by simp [ord, h]
theorem ord_new (K s j : Nat) (hj : j < K) : (((j + s) % K : Nat) : Int) ∉ ord K s j := by
  simp only [ord, List.mem_map, List.mem_range, not_exists, not_and]
  intro i hi e
  have e2 : (i + s) % K = (j + s) % K := by omega
  have h1 := Nat.div_add_mod (i + s) K
  have h2 := Nat.div_add_mod (j + s) K
  rw [e2] at h1
  have h3 : K * ((j + s) / K) - K * ((i + s) / K) = j - i := by omega
  rw [← Nat.mul_sub] at h3
  have h4 : 0 < j - i := by omega
  have h5 : 1 ≤ (j + s) / K - (i + s) / K := by
    rcases Nat.eq_zero_or_pos ((j + s) / K - (i + s) / K) with h | h
    · rw [h] at h3; omega
    · exact h
  have h6 : K * 1 ≤ K * ((j + s) / K - (i + s) / K) := Nat.mul_le_mul_left K h5
  omega
theorem tAdd_ord (K s j : Nat) (hj : j < K) : tAdd (K : Int) (((j + s) % K : Nat) : Int) [] (ord K s j) = ([], ord K s (j + 1)) := by
  have h : (j + s) % K < K := Nat.mod_lt _ (by omega)
  rw [tAdd, if_pos ⟨by omega, by omega⟩, List.erase_of_not_mem (ord_new K s j hj), ord_succ]
  rfl
theorem ord_drop (K s j i : Nat) (h : i < j) : (ord K s j).drop i = (((i + s) % K : Nat) : Int) :: (ord K s j).drop (i + 1) := by
  have h2 : i < (ord K s j).length := by rw [ord_length]; exact h
  rw [List.drop_eq_getElem_cons h2]
  congr 1
  have := ord_get K s j i h
  rw [List.getElem?_eq_getElem h2] at this
  exact Option.some.inj this
theorem victim_nil (x : Int) (r : List Int) : victim [] [] (x :: r) = x := by simp [victim, free]
theorem tRemove_head (x : Int) (r : List Int) : tRemove x [] (x :: r) = ([], r) := by simp [tRemove, even]

/-- The blocks of an owner: from base on, and there. -/
def Within (G : Nat → Prop) (base : Nat) (w : World) : Prop := ∀ b, G b → base ≤ b ∧ b < w.heap.size
theorem Within.since {G : Nat → Prop} {base : Nat} {w w' : World} (h : Within G base w) (u : Upd G w w') (hb : base ≤ w.heap.size) : Within (Since G w w') base w' := by
  intro b hb2
  rcases hb2 with x | x
  · exact ⟨(h b x).1, Nat.lt_of_lt_of_le (h b x).2 u.size⟩
  · exact ⟨Nat.le_trans hb x.1, x.2⟩
theorem Within.le {G : Nat → Prop} {base : Nat} {w w' : World} (h : Within G base w) (hs : w.heap.size ≤ w'.heap.size) : Within G base w' := fun b x => ⟨(h b x).1, Nat.lt_of_lt_of_le (h b x).2 hs⟩

theorem Ext.trans' {F : Nat → Prop} {w0 w1 w2 : World} (h : Ext w0 w1) (u : Upd F w1 w2) (hf : ∀ b, F b → w0.heap.size ≤ b) : Ext w0 w2 := u.to_ext h hf

set_option maxRecDepth 100000 in
theorem f7_walk (n turn : Int) (w : World) : Calls Try.prog 7 #[.int .i64 n, .int .i64 turn] w fun e w' => e = .returned (.bool true) ∧ Ext w w' := by
  obtain ⟨a0, a1, ha0, ha1, ha2, ha3, ha4⟩ := round_two n 20 (by decide)
  replace ha0 : n.tmod 20 = a0 := ha0
  replace ha3 : (a0 + 20).tmod 20 = (a1 : Int) := ha3
  obtain ⟨K, hK⟩ : ∃ K, K = 1 + a1 := ⟨_, rfl⟩
  obtain ⟨b0, s, hb0, hb1, hb2, hb3, hb4⟩ := round_two turn K (by omega)
  have hw1 : IntKind.i64.wrap (a0 + 20) = a0 + 20 := IntWalk.i64_in _ (by omega)
  have hw2 : (1 : Int) + (a1 : Int) = (K : Int) := by omega
  have hw3 : IntKind.i64.wrap (K : Int) = (K : Int) := IntWalk.i64_in _ (by omega)
  have hw4 : IntKind.i64.wrap (b0 + (K : Int)) = b0 + (K : Int) := IntWalk.i64_in _ (by omega)
  have hK1 : 1 ≤ K ∧ K ≤ 20 := by omega
  obtain ⟨hK2, hK3⟩ := hK1
  have hK4 : (K : Int) ≠ 0 := by omega
  have hK5 : K ≠ 0 := by omega
  have HB := Lib.hid hb4
  clear hK ha1 ha2 ha4 hb1 hb2 hb4
  go_enter Try.func7, Try.ntmps7
  go_wp2_with fail
  refine (f15_any w).mono ?_
  rintro e w1 ⟨rfl, hx1⟩
  go_wp2_with fail
  refine (f16_good (K : Int) w1 (by omega) (by omega)).mono ?_
  rintro e w2 ⟨rfl, ht2, hx2, hs2⟩
  have hk : w1.heap.size < w2.heap.size := by omega
  have hkb := hx1.size
  generalize w1.heap.size = k at *
  obtain ⟨F, hF⟩ : ∃ F : Nat → Prop, F = (fun b => b = k) := ⟨_, rfl⟩
  have hWi : Within F w.heap.size w2 := fun b x => by rw [hF] at x; exact ⟨by rw [x]; exact hkb, by rw [x]; exact hk⟩
  rw [← hF] at ht2
  have hx := hx1.trans hx2
  clear hs2 hF hk hkb
  go_wp2_with fail
  go_loopg [8, 9] K (fun g v i wr => ∃ (j : Nat) (G : Nat → Prop), j ≤ K ∧ K - j ≤ g ∧ i = .int .i64 j ∧ TL wr 85 k G K [] (ord K s j) ∧ Within G w.heap.size wr ∧ Mine wr 3 v (ints (ord K s j)) ∧ (∀ b, blk v = some b → w.heap.size ≤ b ∧ ¬ G b) ∧ Ext w wr)
  case atStart => exact ⟨0, F, by omega, by omega, rfl, ht2, hWi, Mine.nil _ _, (fun b h => by cases h), hx⟩
  case round =>
    obtain ⟨j, G, hj, hg, rfl, ht, hWi, hm, hmb, hxr⟩ := hrel
    by_cases hlt : j < K
    · have HA := f17_any k G (K : Int) (((j + s) % K : Nat) : Int) [] (ord K s j) wr (by rw [ord_length]; simp; omega) ht
      rw [tAdd_ord K s j hlt] at HA
      have ht5 : IntKind.i64.wrap ((j : Int) + (s : Int)) = (((j + s : Nat)) : Int) := by rw [IntWalk.i64_in _ (by have := HB.out; omega)]; omega
      have ht6 := mod_nat (j + s) K
      obtain ⟨P, hP⟩ : ∃ P, P = j + s := ⟨_, rfl⟩
      rw [← hP] at HA ht5 ht6
      obtain ⟨p, hp⟩ : ∃ p, p = P % K := ⟨_, rfl⟩
      rw [← hp] at HA ht6
      have hji : (j : Int) < (K : Int) := by omega
      have HP := Lib.hid hP
      have Hp := Lib.hid hp
      clear hP hp ht
      go_wp2_with (first
        | (go_at_call 17; refine HA.mono ?_; clear HA; rintro e w3 ⟨rfl, t3, u3⟩; have W3 := hWi.since u3 hxr.size; have x3 : Ext w w3 := u3.to_ext hxr (fun b e => (hWi b e).1); have m3 := hm.upd u3 (fun b e => (hmb b e).2); have tX := t3.ext ((Ext.refl w3).alloc (.cells #[.int .i64 (p : Int)] 3)); have mX := m3.ext ((Ext.refl w3).alloc (.cells #[.int .i64 (p : Int)] 3)))
        | (at_builtin; refine wpList_append_int rfl (.tmp 46) (.tmp 48) rfl u8 (ord K s j) rfl mX (some ⟨w3.heap.size, 0, none⟩) 1 (p : Int) rfl (Cells.new1 w3 (.int .i64 (p : Int)) 3) (by rw [ord_length]; omega) ?_; intro v4 w4 m4 u4 b4))
      go_roundg (K - (j + 1))
      case measure => omega
      case rel =>
        have hlt3 : ∀ b, blk u8 = some b → b < w3.heap.size := fun b e => m3.lt e
        have hnG : ∀ b, blk u8 = some b → ¬ Since G wr w3 b := by
          intro b e x
          rcases x with x | x
          · exact (hmb b e).2 x
          · have := hm.lt e; omega
        have hsz := u4.size
        simp at hsz
        refine ⟨j + 1, Since G wr w3, by omega, by omega, by go_num, tX.upd u4 (fun b x e => hnG b e x), W3.le (by omega), ?_, ?_, (x3.alloc _).trans' u4 ?_⟩
        · rw [ord_succ, ← HP.out, ← Hp.out]; exact m4
        · intro b e
          rcases b4 with h | h
          · rw [h] at e
            exact ⟨(hmb b e).1, hnG b e⟩
          · rw [h] at e
            cases e
            have h1 := x3.size
            refine ⟨by simp; omega, fun x => ?_⟩
            have := (W3 _ x).2
            simp at this
            omega
        · intro b e
          exact (hmb b e).1
    · obtain rfl : j = K := by omega
      obtain ⟨A, c, rfl, hc, _, hxo, hab, _⟩ := hm.form
      simp only [length_ints, ord_length] at *
      have H0 := ht
      clear hg hlt
      go_wp2_with fail
      go_loopg [11] j (fun g i wr => ∃ (m : Nat) (G : Nat → Prop), m ≤ j ∧ j - m ≤ g ∧ i = .int .i64 m ∧ TL wr 85 k G j [] ((ord j s j).drop m) ∧ Within G w.heap.size wr ∧ Mine wr 3 (.slice A j c) (ints (ord j s j)) ∧ (∀ b, blk (.slice A j c) = some b → ¬ G b) ∧ Ext w wr)
      case atStart => exact ⟨0, G, by omega, by omega, rfl, ht, hWi, hm, fun b e => (hmb b e).2, hxr⟩
      case round =>
        clear H0 ht hWi hm hmb hxr hxo hab
        obtain ⟨m, G, hj, hg, rfl, ht, hWi, hm, hmb, hxr⟩ := hrel
        by_cases hlt : m < j
        · have hdr := ord_drop j s j m hlt
          obtain ⟨p, hp⟩ : ∃ p, p = (m + s) % j := ⟨_, rfl⟩
          rw [← hp] at hdr
          rw [hdr] at ht
          have HV := f19_any k G (j : Int) [] ((p : Int) :: (ord j s j).drop (m + 1)) none [] 0 _ (by simp [ord_length]; omega) (by decide) ht (Cells.nil _ _)
          rw [victim_nil] at HV
          have hget := ord_get j s j m hlt
          rw [← hp] at hget
          obtain ⟨b, o, hA, hcell⟩ : ∃ b o, A = some ⟨b, o, none⟩ ∧ _ := by
            obtain ⟨A', c', e, _, _, hx', _⟩ := hm.form
            injection e with e1 _ _
            subst e1
            exact hx'.at_ (k := m) (u := .int .i64 (p : Int)) (by simp [ints, hget])
          have hmj : (m : Int) < (j : Int) := by omega
          have hgs := hg
          clear hp hdr hget
          subst hA
          go_wp2_with (first
            | (go_at_call 19; refine HV.mono ?_; clear HV; rintro e w3 ⟨rfl, x3⟩; have c3 := x3.cell hcell; have t3 := ht.ext x3; have m3 := hm.ext x3; have W3 := hWi.le x3.size; have y3 := hxr.trans x3; have HR := f30_any k G (j : Int) (p : Int) [] ((p : Int) :: (ord j s j).drop (m + 1)) w3 (by simp [ord_length]; omega) t3)
            | (go_at_call 30; refine HR.mono ?_; clear HR; rw [tRemove_head]; rintro e w4 ⟨rfl, t4, u4⟩))
          go_roundg (j - (m + 1))
          case measure => omega
          case rel =>
            exact ⟨m + 1, Since G w3 w4, by omega, by omega, by go_num, t4, W3.since u4 y3.size, m3.upd u4 hmb, fun b e x => by
              rcases x with x | x
              · exact hmb b e x
              · have := m3.lt e; omega, y3.trans' u4 (fun b e => (W3 b e).1)⟩
        · obtain rfl : m = j := by omega
          have hnil : (ord m s m).drop m = [] := by rw [List.drop_eq_nil_iff]; rw [ord_length]; exact Nat.le_refl _
          rw [hnil] at ht
          have HV := f19_any k G (m : Int) [] [] none [] 0 _ (by simp) (by decide) ht (Cells.nil _ _)
          rw [show victim [] [] [] = -1 by decide] at HV
          clear hnil hg hlt
          go_wp2_with (go_at_call 19; refine HV.mono ?_; rintro e w3 ⟨rfl, x3⟩)
          go_ret
          exact ⟨rfl, hxr.trans x3⟩
end Go.Proofs.Ytghkkhafnkkomaa
