/- From the reading of an argument as data to the walks' words: a slice of structs of one-cell fields; the acts of layer 22. -/
import Derived.Test.YtgpnmmgoachajaaLiftT
import Derived.DataReads
import Derived.ChangeArms
import Derived.Deep.Slices
namespace Go.Proofs.Ytgpnmmgoachajaa
open Go.ChangeShapes Go.WideShapes Go.ChangeAt Go.RowKit Go.Deep
open Go.Proofs

/-- A row of n cells each, at every index. -/
def RowsOf (w : World) (A : Option Addr) (len n : Nat) (R : Nat → List Value → Prop) : Prop :=
  0 < len → ∃ b o, A = some ⟨b, o, none⟩ ∧ ∀ i, i < len → ∃ vs : List Value, vs.length = n ∧ R i vs ∧ ∀ (j : Nat) v, vs[j]? = some v → w.cell? ⟨b, o + i * n + j, none⟩ = some v

section
variable {H : Type} {enc : TypeId × Value → H} {P : Program} {w : World} {base : Nat} {held : Bool}
theorem open_structs {t e : TypeId} {fs : Array Field} {n : Nat} {a : Option Addr} {len cap : Nat} {d : DataW H} {p : List MemPlace} (ht : P.underlying t = some (.slice e)) (he : P.underlying e = some (.struct fs)) (ce : P.cellsOf e = n) (hn : 0 < n)
    (hfs : fs.size = n) (ho : ∀ (j : Nat) f, fs[j]? = some f → f.offset = j ∧ P.cellsOf f.type = 1)
    (h : DataW.Trod enc P w base (fun _ => true) held t (.slice a len cap) d p) :
    len ≤ cap ∧ cap ≤ maxLen ∧ RowsOf w a len n (fun _ vs => ∀ (j : Nat) f v, fs[j]? = some f → vs[j]? = some v → ∃ fuel x, DataW.trod enc P w base (fun _ => true) held fuel f.type [v] = some x) := by
  obtain ⟨fuel, hf⟩ := h
  rcases open_slice ht hf with ⟨hcs, _⟩ | ⟨x, l, c, m, k, D, Pl, hcs, hb, hl, hm, hmm, _, hx⟩
  · simp [Value.cells] at hcs
    obtain ⟨rfl, rfl, rfl⟩ := hcs
    exact ⟨Nat.le_refl _, Nat.zero_le _, fun h => by omega⟩
  · simp [Value.cells] at hcs
    obtain ⟨rfl, rfl, rfl⟩ := hcs
    simp only [if_true] at hmm
    subst hmm
    refine ⟨hl, hm, fun h0 => ?_⟩
    have each : ∀ i, i < m → ∃ vs : List Value, vs.length = n ∧ (∀ (j : Nat) f v, fs[j]? = some f → vs[j]? = some v → ∃ fuel x, DataW.trod enc P w base (fun _ => true) held fuel f.type [v] = some x) ∧ ∀ (j : Nat) v, vs[j]? = some v → w.cell? ((x.add (i * n)).add j) = some v := by
      intro i hi
      obtain ⟨cs', h1, h2⟩ := hx i hi
      rw [ce] at h1
      obtain ⟨_, hlen, hcell⟩ := World.cells?_some h1
      obtain ⟨xs, k', _, _, _, hxl, hfd⟩ := DataW.trod_struct he h2
      refine ⟨cs', hlen, fun j f v hj hv => ?_, fun j v hv => ?_⟩
      · have hjn : j < cs'.length := (List.getElem?_eq_some_iff.1 hv).1
        have := hfd j f hj
        obtain ⟨o1, o2⟩ := ho j f hj
        rw [o1, o2, List.drop_eq_getElem_cons hjn, List.take_succ_cons, List.take_zero] at this
        rw [List.getElem?_eq_getElem hjn] at hv
        rw [Option.some.inj hv] at this
        have hxj : j < xs.length := by rw [hxl, hfs]; omega
        rw [List.getElem?_eq_getElem hxj] at this
        exact ⟨k', _, this⟩
      · have hjn : j < cs'.length := (List.getElem?_eq_some_iff.1 hv).1
        rw [hcell j (by omega)]
        exact hv
    obtain ⟨b, o, s⟩ := x
    have hs : s = none := by
      obtain ⟨vs, hv1, _, hv2⟩ := each 0 (by omega)
      have h3 := hv2 0 _ (List.getElem?_eq_getElem (by omega))
      have := World.cell?_spot h3
      simpa [Addr.add] using this
    subst hs
    refine ⟨b, o, rfl, fun i hi => ?_⟩
    obtain ⟨vs, hv1, hv2, hv3⟩ := each i (by omega)
    refine ⟨vs, hv1, hv2, fun j v hv => ?_⟩
    have := hv3 j v hv
    rwa [Addr.add_lit, Addr.add_lit] at this
end

/-- The acts of layer 22: kind, place, held. -/
def ActsAt (w : World) (A : Option Addr) (al : List (Int × Int × List Int)) : Prop :=
  0 < al.length → ∃ b o, A = some ⟨b, o, none⟩ ∧ ∀ (i : Nat) q, al[i]? = some q → ∃ G c, w.cell? ⟨b, o + i * 3, none⟩ = some (.int .i64 q.1) ∧ w.cell? ⟨b, o + i * 3 + 1, none⟩ = some (.int .i64 q.2.1) ∧
    w.cell? ⟨b, o + i * 3 + 2, none⟩ = some (.slice G q.2.2.length c) ∧ Cells w G (ints q.2.2) ∧ q.2.2.length ≤ 9223372036854775807
theorem ActsAt.ext {w w' : World} {A : Option Addr} {al : List (Int × Int × List Int)} (h : ActsAt w A al) (k : Ext w w') : ActsAt w' A al := fun h0 => by
  obtain ⟨b, o, e, hx⟩ := h h0
  refine ⟨b, o, e, fun i q hq => ?_⟩
  obtain ⟨G, c, h1, h2, h3, h4, h5⟩ := hx i q hq
  exact ⟨G, c, k.cell h1, k.cell h2, k.cell h3, h4.ext k, h5⟩

section
variable {H : Type} {enc : TypeId × Value → H} {w : World} {base : Nat} {held : Bool}
end
end Go.Proofs.Ytgpnmmgoachajaa
