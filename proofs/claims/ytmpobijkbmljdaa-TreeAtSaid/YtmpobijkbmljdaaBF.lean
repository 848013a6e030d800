import Derived.Test.YtmpobijkbmljdaaVc
set_option linter.unusedVariables false
set_option linter.unusedSimpArgs false
namespace Go.Proofs.Ytmpobijkbmljdaa.Sh.V
open Go.Proofs.Ytmpobijkbmljdaa.Sh
/-! ### Floats as words: which stands ahead -/
/-- A word's rung. -/
def rung (a : Nat) : Nat := a % 9223372036854775808
def isNaN (a : Nat) : Prop := 9218868437227405312 < rung a
instance (a : Nat) : Decidable (isNaN a) := inferInstanceAs (Decidable (_ < _))
/-- The number that a word's place among all is. -/
def skey (a : Nat) : Int := if a / 9223372036854775808 % 2 = 1 then -(rung a : Int) else rung a
/-- What a rung stands for, in the least units. -/
def rval (r : Nat) : Nat := if r < 4503599627370496 then r else (4503599627370496 + r % 4503599627370496) * 2 ^ (r / 4503599627370496 - 1)
theorem rval_mono {r s : Nat} (h : r < s) : rval r < rval s := by
  unfold rval
  by_cases h1 : r < 4503599627370496
  · rw [if_pos h1]
    by_cases h2 : s < 4503599627370496
    · rw [if_pos h2]; exact h
    · rw [if_neg h2]
      have : 1 ≤ 2 ^ (s / 4503599627370496 - 1) := Nat.one_le_two_pow
      calc r < 4503599627370496 := h1
        _ ≤ 4503599627370496 + s % 4503599627370496 := by omega
        _ = (4503599627370496 + s % 4503599627370496) * 1 := by omega
        _ ≤ _ := Nat.mul_le_mul_left _ this
  · have h2 : ¬ s < 4503599627370496 := by omega
    rw [if_neg h1, if_neg h2]
    by_cases h3 : r / 4503599627370496 = s / 4503599627370496
    · rw [h3]
      exact Nat.mul_lt_mul_of_pos_right (by omega) (Nat.pow_pos (by omega))
    · have h4 : r / 4503599627370496 + 1 ≤ s / 4503599627370496 := by omega
      have h5 : 1 ≤ r / 4503599627370496 := by omega
      have e : s / 4503599627370496 - 1 = (r / 4503599627370496 - 1 + 1) + (s / 4503599627370496 - r / 4503599627370496 - 1) := by omega
      have h6 : 2 ^ (r / 4503599627370496 - 1 + 1) ≤ 2 ^ (s / 4503599627370496 - 1) := Nat.pow_le_pow_right (by omega) (by omega)
      calc (4503599627370496 + r % 4503599627370496) * 2 ^ (r / 4503599627370496 - 1)
          < (4503599627370496 * 2) * 2 ^ (r / 4503599627370496 - 1) := Nat.mul_lt_mul_of_pos_right (by omega) (Nat.pow_pos (by omega))
        _ = 4503599627370496 * 2 ^ (r / 4503599627370496 - 1 + 1) := by rw [Nat.mul_assoc, Nat.pow_succ']
        _ ≤ 4503599627370496 * 2 ^ (s / 4503599627370496 - 1) := Nat.mul_le_mul_left _ h6
        _ ≤ _ := Nat.mul_le_mul_right _ (by omega)
theorem rval_cmp (r s : Nat) : compare (rval r) (rval s) = compare r s := by
  rcases Nat.lt_trichotomy r s with h | h | h
  · rw [Nat.compare_eq_lt.2 h, Nat.compare_eq_lt.2 (rval_mono h)]
  · subst h; simp
  · rw [Nat.compare_eq_gt.2 h, Nat.compare_eq_gt.2 (rval_mono h)]
theorem rval_inj {r s : Nat} (h : rval r = rval s) : r = s := by
  rcases Nat.lt_trichotomy r s with h1 | h1 | h1
  · have := rval_mono h1; omega
  · exact h1
  · have := rval_mono h1; omega
theorem rval_zero : rval 0 = 0 := rfl
theorem icmp_congr {x y x' y' : Int} (h1 : x < y ↔ x' < y') (h2 : y < x ↔ y' < x') : compare x y = compare x' y' := by
  rcases Int.lt_trichotomy x y with h | h | h
  · rw [Int.compare_eq_lt.2 h, Int.compare_eq_lt.2 (h1.1 h)]
  · have : x' = y' := by
      have a : ¬ x' < y' := fun k => by have := h1.2 k; omega
      have b : ¬ y' < x' := fun k => by have := h2.2 k; omega
      omega
    rw [Int.compare_eq_eq.2 h, Int.compare_eq_eq.2 this]
  · rw [Int.compare_eq_gt.2 h, Int.compare_eq_gt.2 (h2.1 h)]
abbrev dbl : Ieee.Format := Ieee.double
abbrev sgn (a : Nat) : Bool := a / 9223372036854775808 % 2 == 1
theorem read_num {a : Nat} (h : rung a < 9218868437227405312) : ∃ (m e : Nat), dbl.read a = .number (sgn a) m (-1074 + (e : Int)) ∧ m * 2 ^ e = rval (rung a) := by
  have e1 : dbl.signWeight = 9223372036854775808 := by decide
  have e2 : dbl.binade = 4503599627370496 := by decide
  have e3 : dbl.infRung = 9218868437227405312 := by decide
  have e4 : dbl.leastPlace = -1074 := by decide
  unfold Ieee.Format.read
  simp only [e1, e2, e3, e4]
  unfold rung at h ⊢
  by_cases h1 : a % 9223372036854775808 < 4503599627370496
  · rw [if_pos h1]
    exact ⟨a % 9223372036854775808, 0, rfl, by unfold rval; rw [if_pos h1]; simp⟩
  · rw [if_neg h1, if_pos h]
    exact ⟨_, _, rfl, by unfold rval; rw [if_neg h1]⟩
theorem read_inf {a : Nat} (h : rung a = 9218868437227405312) : dbl.read a = .infinity (sgn a) := by
  have e1 : dbl.signWeight = 9223372036854775808 := by decide
  have e2 : dbl.binade = 4503599627370496 := by decide
  have e3 : dbl.infRung = 9218868437227405312 := by decide
  unfold Ieee.Format.read
  unfold rung at h
  simp only [e1, e2, e3, h]
  rfl
theorem read_nan {a : Nat} (h : isNaN a) : ∃ fr, dbl.read a = .nan (sgn a) fr := by
  have e1 : dbl.signWeight = 9223372036854775808 := by decide
  have e2 : dbl.binade = 4503599627370496 := by decide
  have e3 : dbl.infRung = 9218868437227405312 := by decide
  unfold isNaN rung at h
  unfold Ieee.Format.read
  simp only [e1, e2, e3]
  rw [if_neg (by omega), if_neg (by omega), if_neg (by omega)]
  exact ⟨_, rfl⟩
theorem skey_pos {a : Nat} (h : sgn a = false) : skey a = rung a := by
  unfold skey; rw [if_neg]; simpa [sgn] using h
theorem skey_neg {a : Nat} (h : sgn a = true) : skey a = -(rung a : Int) := by
  unfold skey; rw [if_pos]; simpa [sgn] using h
theorem signed_eq (s : Bool) (m k : Nat) : Ieee.signed s m k = if s then -((m * 2 ^ k : Nat) : Int) else ((m * 2 ^ k : Nat) : Int) := by
  unfold Ieee.signed
  rw [Nat.shiftLeft_eq]
/-- What two words' order is. -/
theorem order_key (a b : Nat) : dbl.order a b = if isNaN a ∨ isNaN b then none else some (compare (skey a) (skey b)) := by
  unfold Ieee.Format.order
  by_cases ha : isNaN a
  · obtain ⟨fr, h⟩ := read_nan ha
    rw [h, if_pos (.inl ha)]; rfl
  by_cases hb : isNaN b
  · obtain ⟨fr, h⟩ := read_nan hb
    rw [h, if_pos (.inr hb)]
    cases dbl.read a <;> rfl
  rw [if_neg (by simp [ha, hb])]
  unfold isNaN at ha hb
  rcases Nat.lt_or_ge (rung a) 9218868437227405312 with h1 | h1
  · obtain ⟨m, e, g1, g2⟩ := read_num h1
    rw [g1]
    rcases Nat.lt_or_ge (rung b) 9218868437227405312 with h2 | h2
    · obtain ⟨n, f, g3, g4⟩ := read_num h2
      rw [g3]
      show some (compare (Ieee.signed _ m _) (Ieee.signed _ n _)) = _
      congr 1
      rw [signed_eq, signed_eq]
      have x1 : (-1074 + (e : Int) - min (-1074 + (e : Int)) (-1074 + (f : Int))).toNat = e - min e f := by omega
      have x2 : (-1074 + (f : Int) - min (-1074 + (e : Int)) (-1074 + (f : Int))).toNat = f - min e f := by omega
      rw [x1, x2]
      have p1 : m * 2 ^ (e - min e f) * 2 ^ (min e f) = rval (rung a) := by rw [Nat.mul_assoc, ← Nat.pow_add, ← g2]; congr 2; omega
      have p2 : n * 2 ^ (f - min e f) * 2 ^ (min e f) = rval (rung b) := by rw [Nat.mul_assoc, ← Nat.pow_add, ← g4]; congr 2; omega
      generalize m * 2 ^ (e - min e f) = M at p1
      generalize n * 2 ^ (f - min e f) = N at p2
      have hpos : 0 < 2 ^ (min e f) := Nat.pow_pos (by omega)
      have c1 : M < N ↔ rung a < rung b := by
        rw [← Nat.mul_lt_mul_right hpos, p1, p2]
        constructor
        · intro h; rcases Nat.lt_trichotomy (rung a) (rung b) with k | k | k
          · exact k
          · rw [k] at h; omega
          · have := rval_mono k; omega
        · exact rval_mono
      have c2 : N < M ↔ rung b < rung a := by
        rw [← Nat.mul_lt_mul_right hpos, p1, p2]
        constructor
        · intro h; rcases Nat.lt_trichotomy (rung a) (rung b) with k | k | k
          · have := rval_mono k; omega
          · rw [k] at h; omega
          · exact k
        · exact rval_mono
      have z1 : M = 0 ↔ rung a = 0 := by
        constructor
        · intro h; subst h; apply rval_inj; rw [rval_zero, ← p1]; simp
        · intro h; rw [h, rval_zero] at p1; rcases Nat.mul_eq_zero.1 p1 with k | k
          · exact k
          · omega
      have z2 : N = 0 ↔ rung b = 0 := by
        constructor
        · intro h; subst h; apply rval_inj; rw [rval_zero, ← p2]; simp
        · intro h; rw [h, rval_zero] at p2; rcases Nat.mul_eq_zero.1 p2 with k | k
          · exact k
          · omega
      cases hs : sgn a <;> cases ht : sgn b <;> simp only [hs, ht, skey_pos, skey_neg, if_true, if_false, Bool.false_eq_true] <;> exact icmp_congr (by omega) (by omega)
    · have h3 : rung b = 9218868437227405312 := by omega
      rw [read_inf h3]
      show some (if sgn b then Ordering.gt else Ordering.lt) = _
      congr 1
      cases hs : sgn a <;> cases ht : sgn b <;> simp only [hs, ht, skey_pos, skey_neg, if_true, if_false, Bool.false_eq_true] <;> symm
      · exact Int.compare_eq_lt.2 (by omega)
      · exact Int.compare_eq_gt.2 (by omega)
      · exact Int.compare_eq_lt.2 (by omega)
      · exact Int.compare_eq_gt.2 (by omega)
  · have h3 : rung a = 9218868437227405312 := by omega
    rw [read_inf h3]
    rcases Nat.lt_or_ge (rung b) 9218868437227405312 with h2 | h2
    · obtain ⟨n, f, g3, g4⟩ := read_num h2
      rw [g3]
      show some (if sgn a then Ordering.lt else Ordering.gt) = _
      congr 1
      cases hs : sgn a <;> cases ht : sgn b <;> simp only [hs, ht, skey_pos, skey_neg, if_true, if_false, Bool.false_eq_true] <;> symm
      · exact Int.compare_eq_gt.2 (by omega)
      · exact Int.compare_eq_gt.2 (by omega)
      · exact Int.compare_eq_lt.2 (by omega)
      · exact Int.compare_eq_lt.2 (by omega)
    · have h4 : rung b = 9218868437227405312 := by omega
      rw [read_inf h4]
      show some (compare _ _) = _
      congr 1
      cases hs : sgn a <;> cases ht : sgn b <;> simp only [hs, ht, skey_pos, skey_neg, h3, h4] <;> decide
/-! ### What the machine says of floats -/
theorem fne (P : Program) (T : TypeId) (a b : Nat) : pvD P .bool (binOp .neq T (.float .f64 a) (.float .f64 b)) = some (dbl.order a b != some .eq) := rfl
theorem feq (P : Program) (T : TypeId) (a b : Nat) : pvD P .bool (binOp .eql T (.float .f64 a) (.float .f64 b)) = some (dbl.order a b == some .eq) := rfl
theorem flss (P : Program) (T : TypeId) (a b : Nat) : pvD P .bool (binOp .lss T (.float .f64 a) (.float .f64 b)) = some (dbl.order a b == some .lt) := rfl
theorem order_self (a : Nat) : (dbl.order a a != some .eq) = decide (isNaN a) := by
  rw [order_key]
  by_cases h : isNaN a
  · rw [if_pos (.inl h), decide_eq_true h]; rfl
  · rw [if_neg (by simp [h]), decide_eq_false h, Int.compare_eq_eq.2 rfl]; rfl
theorem order_self2 (a : Nat) : (dbl.order a a == some .eq) = !decide (isNaN a) := by
  have := order_self a
  cases h : dbl.order a a == some .eq <;> simp [bne, h] at this ⊢ <;> exact this
/-- The canon's bits. -/
def canonB (b : Nat) : Nat := if isNaN b then 9221120237041090561 else if rung b = 0 then 0 else b
theorem order_zero {a : Nat} (hn : ¬ isNaN a) : (dbl.order a 0 == some .eq) = decide (rung a = 0) := by
  rw [order_key, if_neg (by simp [hn]; decide)]
  have h0 : skey 0 = 0 := by decide
  rw [h0]
  by_cases h : rung a = 0
  · have : skey a = 0 := by unfold skey; rw [h]; split <;> rfl
    rw [this, decide_eq_true h]; rfl
  · rw [decide_eq_false h]
    have : skey a ≠ 0 := by unfold skey; split <;> omega
    rcases Int.lt_trichotomy (skey a) 0 with k | k | k
    · rw [Int.compare_eq_lt.2 k]; rfl
    · exact absurd k this
    · rw [Int.compare_eq_gt.2 k]; rfl
theorem canonB_lt {b : Nat} (h : b < 18446744073709551616) : canonB b < 18446744073709551616 := by
  unfold canonB; split
  · decide
  · split
    · decide
    · exact h
theorem canonB_ref {b : Nat} (h : b < 18446744073709551616) : canonB b = if 9218868437227405312 < b % 9223372036854775808 then 9221120237041090561 else if b = 9223372036854775808 then 0 else b := by
  unfold canonB
  by_cases h1 : isNaN b
  · rw [if_pos h1, if_pos (show 9218868437227405312 < b % 9223372036854775808 from h1)]
  · rw [if_neg h1, if_neg (show ¬ 9218868437227405312 < b % 9223372036854775808 from h1)]
    unfold rung
    by_cases h2 : b % 9223372036854775808 = 0
    · rw [if_pos h2]
      by_cases h3 : b = 9223372036854775808
      · rw [if_pos h3]
      · rw [if_neg h3]; omega
    · rw [if_neg h2, if_neg (by omega)]
theorem canonB_idem (b : Nat) : canonB (canonB b) = canonB b := by
  by_cases h1 : isNaN b
  · have : canonB b = 9221120237041090561 := if_pos h1
    rw [this]; decide
  · by_cases h2 : rung b = 0
    · have : canonB b = 0 := by unfold canonB; rw [if_neg h1, if_pos h2]
      rw [this]; decide
    · have : canonB b = b := by unfold canonB; rw [if_neg h1, if_neg h2]
      rw [this, this]
end Go.Proofs.Ytmpobijkbmljdaa.Sh.V
