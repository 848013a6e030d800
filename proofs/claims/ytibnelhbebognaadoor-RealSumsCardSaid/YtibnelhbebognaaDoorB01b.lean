import Derived.Test.YtibnelhbebognaaDoorB01r
set_option maxRecDepth 100000
set_option linter.unusedVariables false
set_option linter.unusedSimpArgs false
namespace Go.Proofs.YtibnelhbebognaaDoor
open Go.Proofs.YtibnelhbebognaaDoor.Sh Go.Proofs.YtibnelhbebognaaDoor.Sh.V Go.RowKit
/-! ### Which number stands ahead -/
theorem e10 (n : Nat) (b : Nat) (H : VH) : vF P tab (n + 1) 10 [.int .u64 (b : Int)] H = some (.flt .f64 b, H) := by
  have h : bodyV P tab (vF P tab n) n 10 ([.int .u64 (b : Int)].map stripC) [] = some (.flt .f64 b, []) := by
    show bodyV P tab (vF P tab n) n 10 [.int .u64 (b : Int)] [] = _
    rw [f10_eq, ofbits, Option.bind_some]
  rw [vF_lone rfl rfl h rfl]; rfl
theorem c10 (n : Nat) (b : Nat) (H : VH) : V.callD (vF P tab (n + 1)) P false (.one (.flat (.flt .f64))) 10 [.int .u64 (b : Int)] H = some (b, H) := callD_some _ (e10 n b H) rfl
def lessF (a b : Nat) : Bool := if isNaN a ∨ isNaN b then !decide (isNaN a) else decide (skey a < skey b)
theorem order_lt {a b : Nat} (ha : ¬ isNaN a) (hb : ¬ isNaN b) : (dbl.order a b == some .lt) = decide (skey a < skey b) := by
  rw [order_key, if_neg (by simp [ha, hb])]
  rcases Int.lt_trichotomy (skey a) (skey b) with h | h | h
  · rw [Int.compare_eq_lt.2 h, decide_eq_true h]; rfl
  · rw [Int.compare_eq_eq.2 h, decide_eq_false (by omega)]; rfl
  · rw [Int.compare_eq_gt.2 h, decide_eq_false (by omega)]; rfl
theorem order_eq {a b : Nat} (ha : ¬ isNaN a) (hb : ¬ isNaN b) : (dbl.order a b == some .eq) = decide (skey a = skey b) := by
  rw [order_key, if_neg (by simp [ha, hb])]
  rcases Int.lt_trichotomy (skey a) (skey b) with h | h | h
  · rw [Int.compare_eq_lt.2 h, decide_eq_false (by omega)]; rfl
  · rw [Int.compare_eq_eq.2 h, decide_eq_true h]; rfl
  · rw [Int.compare_eq_gt.2 h, decide_eq_false (by omega)]; rfl
theorem e20 (n : Nat) (a b : Nat) (H : VH) : vF P tab (n + 1) 20 [.flt .f64 a, .flt .f64 b] H = some (.bool (lessF a b), H) := by
  have h : bodyV P tab (vF P tab n) n 20 ([.flt .f64 a, .flt .f64 b].map stripC) [] = some (.bool (lessF a b), []) := by
    show bodyV P tab (vF P tab n) n 20 [.flt .f64 a, .flt .f64 b] [] = _
    rw [f20_eq, fne, Option.bind_some, order_self, feq, Option.bind_some, order_self2, fne, Option.bind_some, order_self, flss, Option.bind_some]
    unfold lessF
    by_cases ha : isNaN a
    · rw [if_pos (.inl ha), decide_eq_true ha]; rfl
    · by_cases hb : isNaN b
      · rw [if_pos (.inr hb), decide_eq_false ha, decide_eq_true hb]; rfl
      · rw [if_neg (by simp [ha, hb]), order_lt ha hb, decide_eq_false ha, decide_eq_false hb]; rfl
  rw [vF_lone rfl rfl h rfl]; rfl
theorem c20 (n : Nat) (a b : Nat) (H : VH) : V.callD (vF P tab (n + 1)) P false (.one (.flat .bool)) 20 [.flt .f64 a, .flt .f64 b] H = some (lessF a b, H) := callD_bool (e20 n a b H)
theorem c22 (n : Nat) (a b : Nat) (H : VH) : V.callD (vF P tab (n + 3)) P false (.one (.flat .bool)) 22 [.flt .f64 a, .flt .f64 b] H = some (decide (canonB a = canonB b), H) := callD_bool (e22 n a b H)
theorem c12 (n : Nat) (H : VH) : V.callD (vF P tab (n + 80)) P false (.one (.flat .bool)) 12 [] H = some (true, H) := callD_bool (noughts n H)
/-- The document's key. -/
def keyN (a : Nat) : Nat := if canonB a = 9221120237041090561 then 18446744073709551615 else if 9223372036854775808 ≤ canonB a then 18446744073709551615 - canonB a else canonB a + 9223372036854775808
theorem e35 (n : Nat) {a : Nat} (ha : a < 18446744073709551616) (H : VH) : vF P tab (n + 2) 35 [.flt .f64 a] H = some (.int .u64 (keyN a : Int), H) := by
  have hlt := canonB_lt ha
  have h : bodyV P tab (vF P tab (n + 1)) (n + 1) 35 ([.flt .f64 a].map stripC) [] = some (.int .u64 (keyN a : Int), []) := by
    show bodyV P tab (vF P tab (n + 1)) (n + 1) 35 [.flt .f64 a] [] = _
    rw [f35_eq, c14 n ha, Option.bind_some]
    unfold keyN
    simp only
    by_cases h1 : canonB a = 9221120237041090561
    · rw [if_pos h1, h1]; rfl
    · have e1 : ((canonB a : Int) == 9221120237041090561) = false := by simp; omega
      rw [if_neg h1, e1, cond_false]
      by_cases h2 : 9223372036854775808 ≤ canonB a
      · have e2 : decide ((canonB a : Int) ≥ 9223372036854775808) = true := decide_eq_true (by omega)
        rw [if_pos h2, e2, cond_true]
        have : IntKind.wrap .u64 (18446744073709551615 - (canonB a : Int)) = ((18446744073709551615 - canonB a : Nat) : Int) := by
          have e3 : (18446744073709551615 - (canonB a : Int)) = ((18446744073709551615 - canonB a : Nat) : Int) := by omega
          rw [e3]
          simp [IntKind.wrap, IntKind.bits, IntKind.signed]; omega
        rw [this]
      · have e2 : decide ((canonB a : Int) ≥ 9223372036854775808) = false := decide_eq_false (by omega)
        rw [if_neg h2, e2, cond_false]
        have : IntKind.wrap .u64 ((canonB a : Int) + 9223372036854775808) = ((canonB a + 9223372036854775808 : Nat) : Int) := by
          simp [IntKind.wrap, IntKind.bits, IntKind.signed]; omega
        rw [this]
  rw [vF_lone rfl rfl h rfl]; rfl
theorem c35 (n : Nat) {a : Nat} (ha : a < 18446744073709551616) (H : VH) : V.callD (vF P tab (n + 2)) P false (.one (.flat (.int .u64))) 35 [.flt .f64 a] H = some ((keyN a : Int), H) := callD_int (e35 n ha H)
theorem skey_of {a : Nat} (ha : a < 18446744073709551616) : skey a = if 9223372036854775808 ≤ a then -((a : Int) - 9223372036854775808) else a := by
  unfold skey rung
  by_cases h : 9223372036854775808 ≤ a
  · rw [if_pos (by omega), if_pos h]; omega
  · rw [if_neg (by omega), if_neg h]; omega
theorem canon_nan {a : Nat} (ha : isNaN a) : canonB a = 9221120237041090561 := if_pos ha
theorem canon_zero {a : Nat} (ha : ¬ isNaN a) (hr : rung a = 0) : canonB a = 0 := by unfold canonB; rw [if_neg ha, if_pos hr]
theorem canon_else {a : Nat} (ha : ¬ isNaN a) (hr : rung a ≠ 0) : canonB a = a := by unfold canonB; rw [if_neg ha, if_neg hr]
theorem key_num {a : Nat} (ha : a < 18446744073709551616) (hn : ¬ isNaN a) : (keyN a : Int) = if skey a < 0 then 9223372036854775807 + skey a else 9223372036854775808 + skey a := by
  rw [skey_of ha]
  have hn' := hn
  unfold isNaN rung at hn'
  unfold keyN
  by_cases hr : rung a = 0
  · rw [canon_zero hn hr]
    unfold rung at hr
    rw [if_neg (by decide), if_neg (by decide)]
    split <;> split <;> omega
  · rw [canon_else hn hr]
    unfold rung at hr
    rw [if_neg (by omega)]
    split <;> split <;> omega
theorem key_nan {a : Nat} (hn : isNaN a) : keyN a = 18446744073709551615 := by unfold keyN; rw [canon_nan hn]; rfl
theorem skey_bd {a : Nat} (ha : a < 18446744073709551616) (hn : ¬ isNaN a) : -9218868437227405312 ≤ skey a ∧ skey a ≤ 9218868437227405312 := by
  rw [skey_of ha]
  unfold isNaN rung at hn
  split <;> omega
theorem less_key {a b : Nat} (ha : a < 18446744073709551616) (hb : b < 18446744073709551616) : decide ((keyN a : Int) < (keyN b : Int)) = lessF a b := by
  unfold lessF
  by_cases na : isNaN a
  · rw [if_pos (.inl na), key_nan na, decide_eq_true na]
    by_cases nb : isNaN b
    · rw [key_nan nb]; rfl
    · have := key_num hb nb
      have := skey_bd hb nb
      rw [decide_eq_false (by split at * <;> omega)]; rfl
  · by_cases nb : isNaN b
    · rw [if_pos (.inr nb), key_nan nb, decide_eq_false na]
      have := key_num ha na
      have := skey_bd ha na
      rw [decide_eq_true (by split at * <;> omega)]; rfl
    · rw [if_neg (by simp [na, nb]), key_num ha na, key_num hb nb]
      congr 1
      apply propext
      split <;> split <;> omega
theorem e21 (n : Nat) {a b : Nat} (ha : a < 18446744073709551616) (hb : b < 18446744073709551616) (H : VH) : vF P tab (n + 3) 21 [.flt .f64 a, .flt .f64 b] H = some (.bool (lessF a b), H) := by
  have h : bodyV P tab (vF P tab (n + 2)) (n + 2) 21 ([.flt .f64 a, .flt .f64 b].map stripC) [] = some (.bool (lessF a b), []) := by
    show bodyV P tab (vF P tab (n + 2)) (n + 2) 21 [.flt .f64 a, .flt .f64 b] [] = _
    rw [f21_eq, c35 n ha, Option.bind_some, c35 n hb, Option.bind_some]
    simp only
    rw [less_key ha hb]
  rw [vF_lone rfl rfl h rfl]; rfl
theorem c21 (n : Nat) {a b : Nat} (ha : a < 18446744073709551616) (hb : b < 18446744073709551616) (H : VH) : V.callD (vF P tab (n + 3)) P false (.one (.flat .bool)) 21 [.flt .f64 a, .flt .f64 b] H = some (lessF a b, H) := callD_bool (e21 n ha hb H)
theorem canon_eq_iff {a b : Nat} (ha : a < 18446744073709551616) (hb : b < 18446744073709551616) (na : ¬ isNaN a) (nb : ¬ isNaN b) : canonB a = canonB b ↔ skey a = skey b := by
  rw [skey_of ha, skey_of hb]
  have na' := na
  have nb' := nb
  unfold isNaN rung at na' nb'
  by_cases ra : rung a = 0
  · rw [canon_zero na ra]
    by_cases rb : rung b = 0
    · rw [canon_zero nb rb]; unfold rung at ra rb; split <;> split <;> omega
    · rw [canon_else nb rb]; unfold rung at ra rb; split <;> split <;> omega
  · rw [canon_else na ra]
    by_cases rb : rung b = 0
    · rw [canon_zero nb rb]; unfold rung at ra rb; split <;> split <;> omega
    · rw [canon_else nb rb]; unfold rung at ra rb; split <;> split <;> omega
theorem canon_nan_iff {a b : Nat} (ha : a < 18446744073709551616) (na : ¬ isNaN a) (nb : isNaN b) : canonB a ≠ canonB b := by
  rw [canon_nan nb]
  by_cases ra : rung a = 0
  · rw [canon_zero na ra]; decide
  · rw [canon_else na ra]; unfold isNaN rung at na; omega
/-- Are two one? Just if neither stands ahead. -/
theorem same_less {a b : Nat} (ha : a < 18446744073709551616) (hb : b < 18446744073709551616) : decide (canonB a = canonB b) = (!lessF a b && !lessF b a) := by
  unfold lessF
  by_cases na : isNaN a <;> by_cases nb : isNaN b
  · rw [canon_nan na, canon_nan nb]; simp [na, nb]
  · have := canon_nan_iff hb nb na
    rw [decide_eq_false (fun h => this h.symm)]; simp [na, nb]
  · have := canon_nan_iff ha na nb
    rw [decide_eq_false this]; simp [na, nb]
  · have := canon_eq_iff ha hb na nb
    simp only [na, nb, or_self, if_false]
    rcases Int.lt_trichotomy (skey a) (skey b) with h | h | h
    · rw [decide_eq_false (fun e => by have := this.1 e; omega), decide_eq_true h]; rfl
    · rw [decide_eq_true (this.2 h), decide_eq_false (by omega), decide_eq_false (by omega)]; rfl
    · rw [decide_eq_false (fun e => by have := this.1 e; omega), decide_eq_true h, decide_eq_false (by omega)]; rfl
end Go.Proofs.YtibnelhbebognaaDoor
