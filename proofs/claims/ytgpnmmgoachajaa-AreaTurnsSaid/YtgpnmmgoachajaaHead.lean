/- The program's head is a harness cut at its roots: the three facts on the head that every row of this seat asks, without reading the whole list of roots. -/
import Derived.Test.YtgpnmmgoachajaaRows
import Derived.JoinedOf
import Derived.KernelRfl
namespace Go.Proofs.Ytgpnmmgoachajaa
open Go

theorem wordsSigns_any : ∀ r : List Char, ∃ w ws, wordsSigns r = w :: ws
  | [] => ⟨[], [], rfl⟩
  | c :: r => by
    obtain ⟨w, ws, h⟩ := wordsSigns_any r
    by_cases hc : c = Char.ofNat 32
    · subst hc
      exact ⟨_, _, rfl⟩
    · refine ⟨c :: w, ws, ?_⟩
      rw [wordsSigns, h]
      exact hc

theorem wordsSigns_cons (c : Char) (hc : c ≠ Char.ofNat 32) (r w : List Char) (ws : List (List Char)) (h : wordsSigns r = w :: ws) : wordsSigns (c :: r) = (c :: w) :: ws := by
  rw [wordsSigns, h]
  exact hc

theorem wordsSigns_word (r : List Char) : ∀ w : List Char, (∀ c ∈ w, c ≠ Char.ofNat 32) → wordsSigns (w ++ Char.ofNat 32 :: r) = w :: wordsSigns r
  | [], _ => rfl
  | c :: w, h => wordsSigns_cons c (h c (.head _)) _ _ _ (wordsSigns_word r w fun x hx => h x (.tail _ hx))

def spaceless (w : List Char) : Bool := w.all fun c => c != Char.ofNat 32

theorem spaceless_iff {w : List Char} (h : spaceless w = true) : ∀ c ∈ w, c ≠ Char.ofNat 32 := by
  intro c hc
  unfold spaceless at h
  rw [List.all_eq_true] at h
  simpa using h c hc

/-- Three words at the head, cut out by their places. -/
theorem wordsSigns_three (l : List Char) (a b c : Nat) (h1 : spaceless (l.take a) = true) (h2 : spaceless ((l.drop (a + 1)).take b) = true) (h3 : spaceless ((l.drop (a + 1 + b + 1)).take c) = true)
    (s1 : l[a]? = some (Char.ofNat 32)) (s2 : l[a + 1 + b]? = some (Char.ofNat 32)) (s3 : l[a + 1 + b + 1 + c]? = some (Char.ofNat 32)) :
    wordsSigns l = l.take a :: (l.drop (a + 1)).take b :: (l.drop (a + 1 + b + 1)).take c :: wordsSigns (l.drop (a + 1 + b + 1 + c + 1)) := by
  have cut : ∀ (m : List Char) (k : Nat), m[k]? = some (Char.ofNat 32) → m = m.take k ++ Char.ofNat 32 :: m.drop (k + 1) := by
    intro m k hk
    obtain ⟨hlt, hv⟩ := List.getElem?_eq_some_iff.1 hk
    conv => lhs; rw [← List.take_append_drop k m, List.drop_eq_getElem_cons hlt, hv]
  have e1 := cut l a s1
  have e2 := cut (l.drop (a + 1)) b (by rw [List.getElem?_drop]; exact s2)
  have e3 := cut (l.drop (a + 1 + b + 1)) c (by rw [List.getElem?_drop]; exact s3)
  rw [List.drop_drop] at e2 e3
  conv => lhs; rw [e1]
  rw [wordsSigns_word _ _ (spaceless_iff h1)]
  congr 1
  conv => lhs; rw [e2]
  rw [wordsSigns_word _ _ (spaceless_iff h2)]
  congr 1
  have q : a + 1 + b + 1 = a + 1 + (b + 1) := by omega
  rw [← q]
  conv => lhs; rw [e3]
  rw [wordsSigns_word _ _ (spaceless_iff h3)]
  rfl

section
variable {P : Program} {s : List Char} {rest : List (List Char)} (hw : wordsSigns P.initOrder.toList = "harness".toList :: s :: "cut".toList :: rest) (hs : isSumSigns s = true)
include hw hs
theorem behind_of : behindMainWord (wordsSigns P.initOrder.toList) = "cut".toList :: rest := by
  rw [hw]
  unfold behindMainWord
  simp only [hs]
  rfl
theorem make_of : P.make = some .cut := by
  unfold Program.make
  rw [behind_of hw hs]
  rfl
omit hw hs in
theorem strip_of : stripLifts liftWords ("cut".toList :: rest) = ([], "cut".toList :: rest) := rfl
theorem headLifts_of : P.headLifts = [] := by
  unfold Program.headLifts
  rw [behind_of hw hs]
  rfl
theorem liftsFinal_of : P.liftsFinal = false := by
  unfold Program.liftsFinal
  rw [headLifts_of hw hs, behind_of hw hs]
  rfl
theorem mayEnter_of (h1 : P.laysLater = false) (h2 : P.bearsReflect = false) (h3 : P.doorFits [] = true) : P.mayEnter = true := by
  unfold Program.mayEnter
  rw [behind_of hw hs]
  simp only [strip_of, h1, h2, h3]
  rfl
end

/-- The first words of a list of signs are those of a harness that is cut. -/
def cutHead (l : List Char) : Bool :=
  (l.take 7 == "harness".toList) && spaceless (l.take 7) && spaceless ((l.drop 8).take 64) && isSumSigns ((l.drop 8).take 64) && ((l.drop 73).take 3 == "cut".toList) && spaceless ((l.drop 73).take 3) &&
  (l[7]? == some (Char.ofNat 32)) && (l[72]? == some (Char.ofNat 32)) && (l[76]? == some (Char.ofNat 32))

theorem words_of_cutHead {l : List Char} (h : cutHead l = true) : ∃ s rest, isSumSigns s = true ∧ wordsSigns l = "harness".toList :: s :: "cut".toList :: rest := by
  unfold cutHead at h
  simp only [Bool.and_eq_true, beq_iff_eq] at h
  obtain ⟨⟨⟨⟨⟨⟨⟨⟨a1, a2⟩, a3⟩, a4⟩, a5⟩, a6⟩, a7⟩, a8⟩, a9⟩ := h
  refine ⟨(l.drop 8).take 64, wordsSigns (l.drop 77), a4, ?_⟩
  have := wordsSigns_three l 7 64 3 a2 a3 a6 a7 a8 a9
  rw [this, a1]
  congr 3

theorem toList_of {s : String} {l : List Char} (h : s = String.ofList l) : s.toList = l := by rw [h, String.toList_ofList]

set_option maxRecDepth 100000 in
theorem head_list : ∃ l, Try.prog.initOrder = String.ofList l ∧ cutHead l = true := ⟨_, rfl, by kernel_rfl⟩
theorem head_words : ∃ s rest, isSumSigns s = true ∧ wordsSigns Try.prog.initOrder.toList = "harness".toList :: s :: "cut".toList :: rest := by
  obtain ⟨l, hl, hc⟩ := head_list
  rw [toList_of hl]
  exact words_of_cutHead hc
theorem laysLater_f : Try.prog.laysLater = false := by kernel_rfl
theorem bearsReflect_f : Try.prog.bearsReflect = false := by kernel_rfl
theorem doorFits_t : Try.prog.doorFits [] = true := by kernel_rfl
theorem mayEnter_t : Try.prog.mayEnter = true := by
  obtain ⟨s, rest, hs, hw⟩ := head_words
  exact mayEnter_of hw hs laysLater_f bearsReflect_f doorFits_t
theorem liftsFinal_f : Try.prog.liftsFinal = false := by
  obtain ⟨s, rest, hs, hw⟩ := head_words
  exact liftsFinal_of hw hs
theorem make_cut : Try.prog.make = some .cut := by
  obtain ⟨s, rest, hs, hw⟩ := head_words
  exact make_of hw hs

theorem laidOut : laidOutB Try.prog = true := by kernel_rfl
theorem own : ownKnob Try.prog.godebug = none := by kernel_rfl
theorem mapsRowed_t : mapsRowed Try.prog = true := by kernel_rfl
theorem stops_nil : Try.prog.stops = [] := by kernel_rfl
theorem stopKnobs_nil : Try.prog.stopKnobs = [] := by kernel_rfl
theorem stopsHeard_t : Try.prog.stopsHeard = true := by kernel_rfl

/-- What a row's cells say of the functions on its road. -/
def roadFacts (P : Program) (f : FuncId) (c : OpenClaim) : Bool :=
  (c.inPlace == P.inPlace f) && (c.unfollowed == P.unfollowed f) && (c.recurses == P.recurses f) && (c.named == P.varsNamed f)

/-- What else a row's cells say. -/
def cellFacts (P : Program) (fn : Func) (s : ChangeSpec) (c : OpenClaim) : Bool :=
  c.wf (OpenSpec.ofChange s) && fn.params.all (P.readableRec ·) && namedTie P c.named s.vars && (c.stops == []) && (c.knobs == []) &&
  (c.maps == (fn.params.toList ++ s.plain.varTypes P).any (P.mapsRec ·)) && (c.ifaces == (fn.params.toList ++ s.plain.varTypes P).any (P.ifacesRec ·)) && (c.mapsOut == P.mapsAmong fn.resultTypes.toList) &&
  (c.loops == (fn.params.toList ++ s.plain.varTypes P).any (P.loopsFrom ·)) && (c.wideKeys == (fn.params.toList ++ s.plain.varTypes P ++ fn.resultTypes.toList).any (P.wideKeysFrom ·)) &&
  s.vars.all (P.varReadable ·) && fn.resultTypes.all (fun t => P.readableRec t && decide (t < P.types.size)) && (c.ifacesOut == fn.resultTypes.toList.any (P.ifacesRec ·)) && (c.loopsOut == fn.resultTypes.toList.any (P.loopsFrom ·)) && (c.plainKeys == P.plainKeys) && c.shortTexts.isNone && (c.lifted == false) && (some Make.cut == some c.make) && (c.kinds == []) && (c.pinned == c.pinnedBy) &&
  (c.veiled == (fn.params.toList ++ s.plain.varTypes P ++ fn.resultTypes.toList).any (P.veiledRec ·)) && c.veiledFits P fn.params.toList (fn.params.toList ++ s.plain.varTypes P ++ fn.resultTypes.toList) && c.domain.isEmpty

theorem closed_of {f : FuncId} {fn : Func} {s : ChangeSpec} {c : OpenClaim} (h1 : roadFacts Try.prog f c = true) (h2 : cellFacts Try.prog fn s c = true) : joinedFacts Try.prog f fn s c = true := by
  simp only [roadFacts, Bool.and_eq_true] at h1
  simp only [cellFacts, Bool.and_eq_true] at h2
  obtain ⟨⟨⟨r1, r2⟩, r3⟩, r4⟩ := h1
  obtain ⟨⟨⟨⟨⟨⟨⟨⟨⟨⟨⟨⟨⟨⟨⟨⟨⟨⟨⟨⟨⟨⟨k1, k2⟩, k3⟩, k4⟩, k5⟩, k6⟩, k7⟩, k8⟩, k9⟩, k10⟩, k11⟩, k12⟩, k13⟩, k14⟩, k15⟩, k16⟩, k17⟩, k18⟩, k19⟩, k20⟩, k21⟩, k22⟩, k0⟩ := h2
  unfold joinedFacts
  rw [laidOut, mapsRowed_t, stops_nil, stopKnobs_nil, stopsHeard_t, mayEnter_t, liftsFinal_f, make_cut, r1, r2, r3, r4, k1, k2, k3, k4, k5, k6, k7, k8, k9, k10, k11, k12, k13, k14, k15, k16, k17, k18, if_pos k0, k19, k20, k21, k22]
  rfl
end Go.Proofs.Ytgpnmmgoachajaa
