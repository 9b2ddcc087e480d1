/- The check sum of layer 2 in plain mathematics: the shift register on natural numbers, its linearity over xor, the table of nibbles, and that a turned burst of at most 32 bits is always seen. No program is named here. -/
namespace Mb

/-- One step of the register: a bit out at the low end. -/
def step1 (u : Nat) : Nat := (u >>> 1) ^^^ (if u % 2 = 1 then 3988292384 else 0)

def stepn : Nat → Nat → Nat
  | 0, u => u
  | n + 1, u => stepn n (step1 u)

/-- The register behind an octet. -/
def take (u : Nat) (c : UInt8) : Nat := stepn 8 (u ^^^ c.toNat)

def reg (u : Nat) (l : List UInt8) : Nat := l.foldl take u

def mask32 : Nat := 4294967295

def crcSum (l : List UInt8) : Nat := mask32 ^^^ reg mask32 l

theorem step1_xor (a b : Nat) : step1 (a ^^^ b) = step1 a ^^^ step1 b := by
  unfold step1
  rw [Nat.shiftRight_xor_distrib]
  have h := @Nat.xor_mod_two_eq_one a b
  by_cases ha : a % 2 = 1 <;> by_cases hb : b % 2 = 1
  · have : ¬ (a ^^^ b) % 2 = 1 := by rw [h]; simp [ha, hb]
    rw [if_neg this, if_pos ha, if_pos hb]
    have e : ∀ x y p : Nat, (x ^^^ y) ^^^ 0 = (x ^^^ p) ^^^ (y ^^^ p) := by
      intro x y p
      rw [Nat.xor_zero, Nat.xor_assoc, ← Nat.xor_assoc p y p, Nat.xor_comm p y, Nat.xor_assoc y p p, Nat.xor_self, Nat.xor_zero]
    exact e _ _ _
  · have : (a ^^^ b) % 2 = 1 := by rw [h]; simp [ha, hb]
    rw [if_pos this, if_pos ha, if_neg hb, Nat.xor_zero, Nat.xor_assoc, Nat.xor_comm (b >>> 1), ← Nat.xor_assoc]
  · have : (a ^^^ b) % 2 = 1 := by rw [h]; simp [ha, hb]
    rw [if_pos this, if_neg ha, if_pos hb, Nat.xor_zero, Nat.xor_assoc]
  · have : ¬ (a ^^^ b) % 2 = 1 := by rw [h]; simp [ha, hb]
    rw [if_neg this, if_neg ha, if_neg hb, Nat.xor_zero, Nat.xor_zero, Nat.xor_zero]

theorem stepn_xor (n : Nat) : ∀ a b, stepn n (a ^^^ b) = stepn n a ^^^ stepn n b := by
  induction n with
  | zero => intro a b; rfl
  | succ n ih => intro a b; simp only [stepn]; rw [step1_xor, ih]

theorem stepn_add (m : Nat) : ∀ n u, stepn (m + n) u = stepn n (stepn m u) := by
  induction m with
  | zero => intro n u; simp [stepn]
  | succ m ih => intro n u; rw [Nat.succ_add]; simp only [stepn]; exact ih n _

theorem step1_even (v : Nat) : step1 (2 * v) = v := by
  unfold step1
  have h : ¬ (2 * v) % 2 = 1 := by omega
  rw [if_neg h, Nat.xor_zero, Nat.shiftRight_eq_div_pow]; omega

theorem stepn_shl (k : Nat) : ∀ v, stepn k (v * 2 ^ k) = v := by
  induction k with
  | zero => intro v; simp [stepn]
  | succ k ih =>
    intro v
    simp only [stepn]
    have : v * 2 ^ (k + 1) = 2 * (v * 2 ^ k) := by rw [Nat.pow_succ]; ac_rfl
    rw [this, step1_even, ih]

theorem step1_lt {u : Nat} (h : u < 4294967296) : step1 u < 4294967296 := by
  unfold step1
  have h1 : u >>> 1 < 2 ^ 32 := by rw [Nat.shiftRight_eq_div_pow]; omega
  have h2 : (if u % 2 = 1 then 3988292384 else 0) < 2 ^ 32 := by split <;> omega
  exact Nat.xor_lt_two_pow h1 h2

theorem stepn_lt (n : Nat) : ∀ {u}, u < 4294967296 → stepn n u < 4294967296 := by
  induction n with
  | zero => intro u h; exact h
  | succ n ih => intro u h; exact ih (step1_lt h)

theorem xor_byte_lt {u : Nat} (h : u < 4294967296) (c : UInt8) : u ^^^ c.toNat < 4294967296 :=
  Nat.xor_lt_two_pow (n := 32) h (by have := c.toNat_lt; omega)

theorem take_lt {u : Nat} (h : u < 4294967296) (c : UInt8) : take u c < 4294967296 := stepn_lt 8 (xor_byte_lt h c)

theorem reg_lt (l : List UInt8) : ∀ {u}, u < 4294967296 → reg u l < 4294967296 := by
  induction l with
  | nil => intro u h; exact h
  | cons c l ih => intro u h; exact ih (take_lt h c)

theorem crcSum_lt (l : List UInt8) : crcSum l < 4294967296 :=
  Nat.xor_lt_two_pow (n := 32) (by unfold mask32; omega) (reg_lt l (by unfold mask32; omega))

theorem reg_append (l m : List UInt8) (u : Nat) : reg u (l ++ m) = reg (reg u l) m := List.foldl_append ..

/-- No state of the register but nought steps to nought. -/
theorem step1_ne {u : Nat} (h : u < 4294967296) (h0 : u ≠ 0) : step1 u ≠ 0 := by
  unfold step1
  intro e
  split at e
  · rename_i ho
    have : u >>> 1 = 3988292384 := by
      have e2 := congrArg (· ^^^ 3988292384) e
      simpa [Nat.xor_assoc, Nat.xor_self] using e2
    rw [Nat.shiftRight_eq_div_pow] at this; omega
  · rename_i ho
    rw [Nat.xor_zero, Nat.shiftRight_eq_div_pow] at e; omega

theorem stepn_ne (n : Nat) : ∀ {u}, u < 4294967296 → u ≠ 0 → stepn n u ≠ 0 := by
  induction n with
  | zero => intro u _ h0; exact h0
  | succ n ih => intro u h h0; exact ih (step1_lt h) (step1_ne h h0)

theorem stepn_inj (n : Nat) {a b : Nat} (ha : a < 4294967296) (hb : b < 4294967296) (h : stepn n a = stepn n b) : a = b := by
  by_cases e : a ^^^ b = 0
  · have h2 := congrArg (· ^^^ b) e
    simpa [Nat.xor_assoc, Nat.xor_self] using h2
  · exfalso
    refine stepn_ne n (Nat.xor_lt_two_pow (n := 32) ha hb) e ?_
    rw [stepn_xor, h, Nat.xor_self]

theorem stepn_shift_in (k x c : Nat) : stepn k x ^^^ c = stepn k (x ^^^ c * 2 ^ k) := by rw [stepn_xor, stepn_shl]

theorem xor_cancel {a b c : Nat} (h : a ^^^ c = b ^^^ c) : a = b := by
  have h2 := congrArg (· ^^^ c) h
  simpa [Nat.xor_assoc, Nat.xor_self] using h2

theorem take_xor (a b : Nat) (c : UInt8) : take (a ^^^ b) c = take a c ^^^ stepn 8 b := by
  unfold take
  rw [← stepn_xor, Nat.xor_assoc, Nat.xor_comm b, ← Nat.xor_assoc]

/-- What the register differs by, it goes on to differ by. -/
theorem reg_xor_left (m : List UInt8) : ∀ a b, reg (a ^^^ b) m = reg a m ^^^ stepn (8 * m.length) b := by
  induction m with
  | nil => intro a b; rfl
  | cons c m ih =>
    intro a b
    show reg (take (a ^^^ b) c) m = reg (take a c) m ^^^ _
    rw [take_xor, ih, ← stepn_add]
    congr 2
    simp; omega

/-- One octet turned: the register behind all octets differs by what came of the difference. -/
theorem reg_set (l : List UInt8) (k : Nat) (hk : k < l.length) (c : UInt8) (u : Nat) :
    reg u (l.set k c) = reg u l ^^^ stepn (8 * (l.length - k)) (l[k].toNat ^^^ c.toNat) := by
  have e1 : l = l.take k ++ l[k] :: l.drop (k + 1) := by simp
  have e2 : l.set k c = l.take k ++ c :: l.drop (k + 1) := by rw [List.set_eq_take_append_cons_drop, if_pos hk]
  have e3 : reg u l = reg (take (reg u (l.take k)) l[k]) (l.drop (k + 1)) := by
    conv => lhs; rw [e1]
    rw [reg_append]; rfl
  rw [e2, reg_append, e3]
  show reg (take (reg u (l.take k)) c) (l.drop (k + 1)) = _
  have e4 : take (reg u (l.take k)) c = take (reg u (l.take k)) l[k] ^^^ stepn 8 (l[k].toNat ^^^ c.toNat) := by
    unfold take
    rw [← stepn_xor, Nat.xor_assoc, ← Nat.xor_assoc l[k].toNat, Nat.xor_self, Nat.zero_xor]
  rw [e4, reg_xor_left, ← stepn_add]
  congr 2
  simp; omega

def get4 : List UInt8 → Nat
  | [a, b, c, d] => a.toNat + 256 * b.toNat + 65536 * c.toNat + 16777216 * d.toNat
  | _ => 0

def le4 (v : Nat) : List UInt8 := [UInt8.ofNat v, UInt8.ofNat (v / 256), UInt8.ofNat (v / 65536), UInt8.ofNat (v / 16777216)]

theorem get4_le4 (v : Nat) (h : v < 4294967296) : get4 (le4 v) = v := by
  simp only [get4, le4, UInt8.toNat_ofNat']; omega

theorem length_le4 (v : Nat) : (le4 v).length = 4 := rfl

theorem get4_lt : ∀ l, get4 l < 4294967296
  | [a, b, c, d] => by
    have := a.toNat_lt; have := b.toNat_lt; have := c.toNat_lt; have := d.toNat_lt
    simp only [get4]; omega
  | [] => by simp [get4]
  | [_] => by simp [get4]
  | [_, _] => by simp [get4]
  | [_, _, _] => by simp [get4]
  | _ :: _ :: _ :: _ :: _ :: _ => by simp [get4]

theorem le4_get4 (l : List UInt8) (h : l.length = 4) : le4 (get4 l) = l := by
  match l, h with
  | [a, b, c, d], _ =>
    have := a.toNat_lt; have := b.toNat_lt; have := c.toNat_lt; have := d.toNat_lt
    have e : ∀ (x : UInt8) (n : Nat), n % 256 = x.toNat → UInt8.ofNat n = x := by
      intro x n h
      apply UInt8.toNat_inj.1
      rw [UInt8.toNat_ofNat']; exact h
    simp only [get4, le4]
    rw [e a _ (by omega), e b _ (by omega), e c _ (by omega), e d _ (by omega)]

theorem add_shl_xor (k a b : Nat) (h : a < 2 ^ k) : a + b * 2 ^ k = a ^^^ b * 2 ^ k := by
  apply Nat.eq_of_testBit_eq
  intro i
  have h1 : a + b * 2 ^ k = 2 ^ k * b + a := by rw [Nat.mul_comm]; omega
  have h2 : b * 2 ^ k = 2 ^ k * b + 0 := by rw [Nat.mul_comm]; omega
  rw [Nat.testBit_xor, h1, Nat.testBit_two_pow_mul_add _ h, h2, Nat.testBit_two_pow_mul_add _ (Nat.two_pow_pos k)]
  split
  · simp
  · rename_i hi
    have : a.testBit i = false := Nat.testBit_lt_two_pow (Nat.lt_of_lt_of_le h (Nat.pow_le_pow_right (by omega) (by omega)))
    simp [this]

theorem reg_four (u : Nat) (l : List UInt8) (h : l.length = 4) : reg u l = stepn 32 (u ^^^ get4 l) := by
  match l, h with
  | [a, b, c, d], _ =>
    have ha := a.toNat_lt; have hb := b.toNat_lt; have hc := c.toNat_lt; have hd := d.toNat_lt
    show stepn 8 (stepn 8 (stepn 8 (stepn 8 (u ^^^ a.toNat) ^^^ b.toNat) ^^^ c.toNat) ^^^ d.toNat) = _
    rw [stepn_shift_in 8 _ b.toNat, ← stepn_add, stepn_shift_in (8 + 8) _ c.toNat, ← stepn_add, stepn_shift_in (8 + 8 + 8) _ d.toNat, ← stepn_add]
    congr 1
    have e1 := add_shl_xor 8 a.toNat b.toNat (by omega)
    have e2 := add_shl_xor 16 (a.toNat + b.toNat * 2 ^ 8) c.toNat (by omega)
    have e3 := add_shl_xor 24 (a.toNat + b.toNat * 2 ^ 8 + c.toNat * 2 ^ 16) d.toNat (by omega)
    have e : get4 [a, b, c, d] = a.toNat + b.toNat * 2 ^ 8 + c.toNat * 2 ^ 16 + d.toNat * 2 ^ 24 := by simp only [get4]; omega
    rw [e, e3, e2, e1]
    simp only [Nat.xor_assoc, Nat.reduceAdd]

/-- The register behind what is sealed: ever the same. -/
def residue : Nat := stepn 32 mask32

/-- Is a list of octets a sealed one? -/
def isSealed (x : List UInt8) : Bool := decide (4 ≤ x.length) && decide (get4 (x.drop (x.length - 4)) = crcSum (x.take (x.length - 4)))

def seal_ (l : List UInt8) : List UInt8 := l ++ le4 (crcSum l)

theorem isSealed_iff (x : List UInt8) : isSealed x = true ↔ 4 ≤ x.length ∧ reg mask32 x = residue := by
  unfold isSealed
  rw [Bool.and_eq_true, decide_eq_true_iff, decide_eq_true_iff]
  refine and_congr_right fun h4 => ?_
  have e : reg mask32 x = stepn 32 (reg mask32 (x.take (x.length - 4)) ^^^ get4 (x.drop (x.length - 4))) := by
    conv => lhs; rw [← List.take_append_drop (x.length - 4) x]
    rw [reg_append, reg_four _ _ (by rw [List.length_drop]; omega)]
  have hr : reg mask32 (x.take (x.length - 4)) < 4294967296 := reg_lt _ (by unfold mask32; omega)
  rw [e]
  unfold crcSum residue
  constructor
  · intro h
    rw [h, Nat.xor_comm mask32, ← Nat.xor_assoc, Nat.xor_self, Nat.zero_xor]
  · intro h
    have h2 := stepn_inj 32 (Nat.xor_lt_two_pow (n := 32) hr (get4_lt _)) (by unfold mask32; omega) h
    have h3 := congrArg (reg mask32 (x.take (x.length - 4)) ^^^ ·) h2
    rw [← Nat.xor_assoc, Nat.xor_self, Nat.zero_xor, Nat.xor_comm] at h3
    exact h3

theorem seal_length (l : List UInt8) : (seal_ l).length = l.length + 4 := by simp [seal_, le4]

theorem take_seal (l : List UInt8) : (seal_ l).take ((seal_ l).length - 4) = l := by
  rw [seal_length]; simp [seal_]

theorem drop_seal (l : List UInt8) : (seal_ l).drop ((seal_ l).length - 4) = le4 (crcSum l) := by
  rw [seal_length]; simp [seal_]

theorem isSealed_seal (l : List UInt8) : isSealed (seal_ l) = true := by
  unfold isSealed
  rw [drop_seal, take_seal, get4_le4 _ (crcSum_lt l), seal_length]
  simp

theorem seal_of_isSealed {x : List UInt8} (h : isSealed x = true) : seal_ (x.take (x.length - 4)) = x := by
  unfold isSealed at h
  rw [Bool.and_eq_true, decide_eq_true_iff, decide_eq_true_iff] at h
  unfold seal_
  rw [← h.2, le4_get4 _ (by rw [List.length_drop]; omega), List.take_append_drop]

theorem isSealed_iff_seal (x : List UInt8) : isSealed x = (decide (4 ≤ x.length) && decide (seal_ (x.take (x.length - 4)) = x)) := by
  rw [Bool.eq_iff_iff]
  constructor
  · intro h
    have h4 := ((isSealed_iff x).1 h).1
    simp [h4, seal_of_isSealed h]
  · intro h
    rw [Bool.and_eq_true, decide_eq_true_iff, decide_eq_true_iff] at h
    rw [← h.2]; exact isSealed_seal _

/-- One octet of a sealed text turned: it is none any more. -/
theorem isSealed_set (x : List UInt8) (h : isSealed x = true) (k : Nat) (hk : k < x.length) (c : UInt8) : isSealed (x.set k c) = decide (x[k] = c) := by
  by_cases e : x[k] = c
  · subst e
    rw [List.set_getElem_self, h]; simp
  · have h1 := (isSealed_iff x).1 h
    have : isSealed (x.set k c) = false := by
      rw [Bool.eq_false_iff]
      intro h2
      have h3 := ((isSealed_iff _).1 h2).2
      rw [reg_set x k hk, h1.2] at h3
      have hne : x[k].toNat ^^^ c.toNat ≠ 0 := by
        intro h0
        have := congrArg (· ^^^ c.toNat) h0
        simp [Nat.xor_assoc, Nat.xor_self] at this
        exact e (UInt8.toNat_inj.1 this)
      have hlt : x[k].toNat ^^^ c.toNat < 4294967296 := Nat.xor_lt_two_pow (n := 32) (by have := (x[k]).toNat_lt; omega) (by have := c.toNat_lt; omega)
      refine stepn_ne (8 * (x.length - k)) hlt hne ?_
      have h4 := congrArg (residue ^^^ ·) h3
      simpa [← Nat.xor_assoc, Nat.xor_self] using h4
    rw [this]; simp [e]

/-- Bit i of a word laid into the octets from bit k on. -/
def turnBit (x : List UInt8) (j : Nat) : List UInt8 := x.set (j / 8) (x.getD (j / 8) 0 ^^^ UInt8.ofNat (2 ^ (j % 8)))

def turned (x : List UInt8) (k v : Nat) : Nat → List UInt8
  | 0 => x
  | i + 1 => if v.testBit i then turnBit (turned x k v i) (k + i) else turned x k v i

theorem length_turned (x : List UInt8) (k v : Nat) : ∀ i, (turned x k v i).length = x.length
  | 0 => rfl
  | i + 1 => by
    unfold turned
    split
    · simp [turnBit, length_turned x k v i]
    · exact length_turned x k v i

theorem reg_turnBit (x : List UInt8) (j : Nat) (hj : j < 8 * x.length) (u : Nat) : reg u (turnBit x j) = reg u x ^^^ stepn (8 * x.length - j) 1 := by
  have hk : j / 8 < x.length := by omega
  unfold turnBit
  rw [reg_set _ _ hk]
  congr 1
  have e1 : x[j / 8].toNat ^^^ (x.getD (j / 8) 0 ^^^ UInt8.ofNat (2 ^ (j % 8))).toNat = 1 * 2 ^ (j % 8) := by
    have : x.getD (j / 8) 0 = x[j / 8] := by simp [List.getD_eq_getElem?_getD, List.getElem?_eq_getElem hk]
    rw [this, UInt8.toNat_xor, ← Nat.xor_assoc, Nat.xor_self, Nat.zero_xor, UInt8.toNat_ofNat']
    have h8 : 2 ^ (j % 8) < 256 := by
      have : 2 ^ (j % 8) < 2 ^ 8 := Nat.pow_lt_pow_right (by omega) (by omega)
      simpa using this
    rw [Nat.mod_eq_of_lt (by simpa using h8), Nat.one_mul]
  rw [e1]
  have e2 : 8 * (x.length - j / 8) = j % 8 + (8 * x.length - j) := by omega
  rw [e2, stepn_add, stepn_shl]

theorem mod_two_pow_succ_xor (v i : Nat) : v % 2 ^ (i + 1) = v % 2 ^ i ^^^ (if v.testBit i then 2 ^ i else 0) := by
  apply Nat.eq_of_testBit_eq
  intro j
  rw [Nat.testBit_xor, Nat.testBit_mod_two_pow, Nat.testBit_mod_two_pow]
  by_cases h : j = i
  · subst h
    by_cases hb : v.testBit j <;> simp [hb, Nat.testBit_two_pow_self]
  · have : (if v.testBit i then 2 ^ i else 0).testBit j = false := by
      split
      · exact Nat.testBit_two_pow_of_ne (by omega)
      · simp
    rw [this]
    have : decide (j < i + 1) = decide (j < i) := by
      rw [decide_eq_decide]; omega
    simp [this]

theorem reg_turned (x : List UInt8) (k v : Nat) (hk : k + 32 ≤ 8 * x.length) (u : Nat) : ∀ i, i ≤ 32 → reg u (turned x k v i) = reg u x ^^^ stepn (8 * x.length - k) (v % 2 ^ i)
  | 0, _ => by
    have : ∀ n, stepn n 0 = 0 := by
      intro n
      have := stepn_shl n 0
      simpa using this
    simp [turned, Nat.mod_one, this]
  | i + 1, hi => by
    have ih := reg_turned x k v hk u i (by omega)
    unfold turned
    rw [mod_two_pow_succ_xor, stepn_xor, ← Nat.xor_assoc, ← ih]
    by_cases hb : v.testBit i = true
    · rw [if_pos hb, if_pos hb, reg_turnBit _ _ (by rw [length_turned]; omega), length_turned]
      congr 1
      have e : 8 * x.length - k = i + (8 * x.length - (k + i)) := by omega
      have e2 := stepn_shl i 1
      rw [Nat.one_mul] at e2
      rw [e, stepn_add, e2]
    · have : ∀ n, stepn n 0 = 0 := by
        intro n
        have := stepn_shl n 0
        simpa using this
      rw [if_neg hb, if_neg hb, this, Nat.xor_zero]

/-- Up to 32 bits beside each other turned: it is no sealed text. -/
theorem isSealed_turned (x : List UInt8) (h : isSealed x = true) (k v : Nat) (hk : k + 32 ≤ 8 * x.length) (hv : v < 4294967296) (h0 : v ≠ 0) : isSealed (turned x k v 32) = false := by
  rw [Bool.eq_false_iff]
  intro h2
  have h3 := ((isSealed_iff _).1 h2).2
  have h1 := (isSealed_iff x).1 h
  rw [reg_turned x k v hk _ 32 (Nat.le_refl _), h1.2] at h3
  have e : v % 2 ^ 32 = v := Nat.mod_eq_of_lt hv
  rw [e] at h3
  refine stepn_ne (8 * x.length - k) hv h0 ?_
  have h4 := congrArg (residue ^^^ ·) h3
  simpa [← Nat.xor_assoc, Nat.xor_self] using h4

/-- Three texts of one length, xored. -/
def xor3 : List UInt8 → List UInt8 → List UInt8 → List UInt8
  | a :: as, b :: bs, c :: cs => (a ^^^ b ^^^ c) :: xor3 as bs cs
  | _, _, _ => []

theorem reg_xor3 : ∀ (a b c : List UInt8), b.length = a.length → c.length = a.length → ∀ u v w, reg (u ^^^ v ^^^ w) (xor3 a b c) = reg u a ^^^ reg v b ^^^ reg w c
  | [], [], [], _, _, _, _, _ => rfl
  | a :: as, b :: bs, c :: cs, hb, hc, u, v, w => by
    have e : take (u ^^^ v ^^^ w) (a ^^^ b ^^^ c) = take u a ^^^ take v b ^^^ take w c := by
      unfold take
      rw [← stepn_xor, ← stepn_xor, UInt8.toNat_xor, UInt8.toNat_xor]
      congr 1
      ac_rfl
    show reg (take (u ^^^ v ^^^ w) (a ^^^ b ^^^ c)) (xor3 as bs cs) = _
    rw [e, reg_xor3 as bs cs (by simpa using hb) (by simpa using hc)]
    rfl
  | [], _ :: _, _, hb, _, _, _, _ => by simp at hb
  | [], [], _ :: _, _, hc, _, _, _ => by simp at hc
  | _ :: _, [], _, hb, _, _, _, _ => by simp at hb
  | _ :: _, _ :: _, [], _, hc, _, _, _ => by simp at hc

theorem crcSum_xor3 (a b c : List UInt8) (hb : b.length = a.length) (hc : c.length = a.length) : crcSum (xor3 a b c) = crcSum a ^^^ crcSum b ^^^ crcSum c := by
  unfold crcSum
  have := reg_xor3 a b c hb hc mask32 mask32 mask32
  have e : mask32 ^^^ mask32 ^^^ mask32 = mask32 := by rw [Nat.xor_self, Nat.zero_xor]
  rw [e] at this
  rw [this]
  have e2 : mask32 ^^^ reg mask32 a ^^^ (mask32 ^^^ reg mask32 b) ^^^ (mask32 ^^^ reg mask32 c) = mask32 ^^^ mask32 ^^^ mask32 ^^^ (reg mask32 a ^^^ reg mask32 b ^^^ reg mask32 c) := by ac_rfl
  rw [e2, e]

/-- The table of nibbles serves for a step of eight. -/
theorem take_nibbles (u : Nat) (c : UInt8) : u >>> 8 ^^^ stepn 8 ((u % 256 ^^^ c.toNat) % 16) ^^^ stepn 8 ((u % 256 ^^^ c.toNat) / 16 * 16) = take u c := by
  have hx : u % 256 ^^^ c.toNat < 256 := Nat.xor_lt_two_pow (n := 8) (Nat.mod_lt _ (by omega)) (by have := c.toNat_lt; omega)
  have e1 : stepn 8 (u >>> 8 * 2 ^ 8) = u >>> 8 := stepn_shl 8 _
  have e2 : (u % 256 ^^^ c.toNat) % 16 ^^^ (u % 256 ^^^ c.toNat) / 16 * 16 = u % 256 ^^^ c.toNat := by
    have := add_shl_xor 4 ((u % 256 ^^^ c.toNat) % 16) ((u % 256 ^^^ c.toNat) / 16) (Nat.mod_lt _ (by omega))
    simp only [Nat.reducePow] at this
    rw [← this]; omega
  have e3 : u >>> 8 * 2 ^ 8 ^^^ u % 256 = u := by
    have := add_shl_xor 8 (u % 256) (u >>> 8) (Nat.mod_lt _ (by omega))
    rw [Nat.xor_comm, ← this, Nat.shiftRight_eq_div_pow]
    have h := Nat.mod_add_div u 256
    rw [Nat.mul_comm] at h
    exact h
  unfold take
  conv => lhs; rw [← e1]
  rw [← stepn_xor, ← stepn_xor, Nat.xor_assoc, e2, ← Nat.xor_assoc, e3]

/-- The document's way, bit by bit. -/
def refBit (u c : Nat) : Nat := (u / 2) ^^^ (if (u ^^^ c) % 2 = 1 then 3988292384 else 0)
def refStep (p : Nat × Nat) : Nat × Nat := (refBit p.1 p.2, p.2 / 2)

def refSteps : Nat → Nat × Nat → Nat × Nat
  | 0, p => p
  | n + 1, p => refStep (refSteps n p)

theorem refStep_xor (p : Nat × Nat) : (refStep p).1 ^^^ (refStep p).2 = step1 (p.1 ^^^ p.2) := by
  obtain ⟨u, c⟩ := p
  show refBit u c ^^^ c / 2 = step1 (u ^^^ c)
  unfold refBit step1
  rw [Nat.shiftRight_xor_distrib, Nat.shiftRight_eq_div_pow, Nat.shiftRight_eq_div_pow]
  simp only [Nat.pow_one]
  ac_rfl

theorem stepn_succ' (n : Nat) (u : Nat) : stepn (n + 1) u = step1 (stepn n u) := by
  have := stepn_add n 1 u
  simpa [stepn] using this

theorem refSteps_xor (u c : Nat) : ∀ n, (refSteps n (u, c)).1 ^^^ (refSteps n (u, c)).2 = stepn n (u ^^^ c)
  | 0 => rfl
  | n + 1 => by
    rw [stepn_succ', ← refSteps_xor u c n]
    exact refStep_xor _

theorem refSteps_snd (u c : Nat) : ∀ n, (refSteps n (u, c)).2 = c / 2 ^ n
  | 0 => by simp [refSteps]
  | n + 1 => by
    show (refSteps n (u, c)).2 / 2 = _
    rw [refSteps_snd u c n, Nat.pow_succ, Nat.div_div_eq_div_mul]

theorem refSteps_fst_of (u c n : Nat) (h : c / 2 ^ n = 0) : (refSteps n (u, c)).1 = stepn n (u ^^^ c) := by
  have h1 := refSteps_xor u c n
  rw [refSteps_snd u c n, h, Nat.xor_zero] at h1
  exact h1

theorem refSteps_take (u : Nat) (c : UInt8) : (refSteps 8 (u, c.toNat)).1 = take u c :=
  refSteps_fst_of u c.toNat 8 (Nat.div_eq_of_lt c.toNat_lt)

end Mb
