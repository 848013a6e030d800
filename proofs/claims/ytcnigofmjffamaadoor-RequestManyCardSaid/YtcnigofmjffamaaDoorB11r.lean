import Derived.Test.YtcnigofmjffamaaDoorB11w
import Derived.Test.YtcnigofmjffamaaDoorBF
set_option maxRecDepth 100000
set_option linter.unusedVariables false
set_option linter.unusedSimpArgs false
namespace Go.Proofs.YtcnigofmjffamaaDoor
open Go.Proofs.YtcnigofmjffamaaDoor.Sh Go.Proofs.YtcnigofmjffamaaDoor.Sh.V Go.RowKit
/-! ### Numbers with a point -/
theorem tobits (a : Nat) : pvD P (.int .u64) (ext90 #[.float .f64 a]) = some (a : Int) := by kernel_rfl
theorem ofbits (a : Nat) : pvD P (.flt .f64) (ext24 #[.int .u64 (a : Int)]) = some a := by kernel_rfl
theorem ofnan : pvD P (.flt .f64) (ext24 #[.int .u64 9221120237041090561]) = some 9221120237041090561 := by kernel_rfl
theorem e91 (n : Nat) (a : Nat) (H : VH) : vF P tab (n + 1) 91 [.flt .f64 a] H = some (.flt .f64 (canonB a), H) := by
  have h : bodyV P tab (vF P tab n) n 91 ([.flt .f64 a].map stripC) [] = some (.flt .f64 (canonB a), []) := by
    show bodyV P tab (vF P tab n) n 91 [.flt .f64 a] [] = _
    rw [f91_eq, fne, Option.bind_some, order_self]
    by_cases hn : isNaN a
    · rw [decide_eq_true hn, cond_true, ofnan]
      unfold canonB; rw [if_pos hn]; rfl
    · rw [decide_eq_false hn, cond_false, feq, Option.bind_some, order_zero hn]
      unfold canonB; rw [if_neg hn]
      by_cases h0 : rung a = 0
      · rw [decide_eq_true h0, if_pos h0]; rfl
      · rw [decide_eq_false h0, if_neg h0]; rfl
  rw [vF_lone rfl rfl h rfl]; rfl
theorem c91 (n : Nat) (a : Nat) (H : VH) : V.callD (vF P tab (n + 1)) P false (.one (.flat (.flt .f64))) 91 [.flt .f64 a] H = some (canonB a, H) := callD_some _ (e91 n a H) rfl
theorem e59 (n : Nat) (a : Nat) (H : VH) : vF P tab (n + 2) 59 [.flt .f64 a] H = some (.int .u64 (canonB a : Int), H) := by
  have h : bodyV P tab (vF P tab (n + 1)) (n + 1) 59 ([.flt .f64 a].map stripC) [] = some (.int .u64 (canonB a : Int), []) := by
    show bodyV P tab (vF P tab (n + 1)) (n + 1) 59 [.flt .f64 a] [] = _
    rw [f59_eq, c91, Option.bind_some, tobits]; rfl
  rw [vF_lone rfl rfl h rfl]; rfl
theorem c59 (n : Nat) (a : Nat) (H : VH) : V.callD (vF P tab (n + 2)) P false (.one (.flat (.int .u64))) 59 [.flt .f64 a] H = some ((canonB a : Int), H) := callD_int (e59 n a H)
/-- The error of bits. -/
def ofE (b : Nat) : Nat := if canonB b = b then 0 else 2
def ofX (b : Nat) : Nat := if canonB b = b then b else 0
theorem e61 (n : Nat) (b : Nat) (H : VH) : vF P tab (n + 3) 61 [.int .u64 (b : Int)] H = some (.tup [.flt .f64 (ofX b), .int .i64 (ofE b : Int)], H) := by
  have h : bodyV P tab (vF P tab (n + 2)) (n + 2) 61 ([.int .u64 (b : Int)].map stripC) [] = some (.tup [.flt .f64 (ofX b), .int .i64 (ofE b : Int)], []) := by
    show bodyV P tab (vF P tab (n + 2)) (n + 2) 61 [.int .u64 (b : Int)] [] = _
    rw [f61_eq, ofbits, Option.bind_some, c59, Option.bind_some]
    unfold ofX ofE
    by_cases hc : canonB b = b
    · rw [if_pos hc, if_pos hc, hc]
      have : ((b : Int) != (b : Int)) = false := by simp
      rw [this]; rfl
    · rw [if_neg hc, if_neg hc]
      have : ((canonB b : Int) != (b : Int)) = true := by simp; omega
      rw [this]; rfl
  rw [vF_lone rfl rfl h rfl]; rfl
theorem c61 (n : Nat) (b : Nat) (H : VH) : V.callD (vF P tab (n + 3)) P false (.tup [(.flat (.flt .f64)), (.flat (.int .i64))]) 61 [.int .u64 (b : Int)] H = some ((ofX b, (ofE b : Int), ()), H) := callD_some _ (e61 n b H) rfl
theorem e65 (n : Nat) (a b : Nat) (H : VH) : vF P tab (n + 3) 65 [.flt .f64 a, .flt .f64 b] H = some (.bool (decide (canonB a = canonB b)), H) := by
  have h : bodyV P tab (vF P tab (n + 2)) (n + 2) 65 ([.flt .f64 a, .flt .f64 b].map stripC) [] = some (.bool (decide (canonB a = canonB b)), []) := by
    show bodyV P tab (vF P tab (n + 2)) (n + 2) 65 [.flt .f64 a, .flt .f64 b] [] = _
    rw [f65_eq, c59, Option.bind_some, c59, Option.bind_some]
    have : ((canonB a : Int) == (canonB b : Int)) = decide (canonB a = canonB b) := by
      by_cases hc : canonB a = canonB b
      · rw [hc]; simp
      · rw [decide_eq_false hc]; simp; omega
    rw [this]
  rw [vF_lone rfl rfl h rfl]; rfl
theorem e64 (n : Nat) {a : Nat} (ha : a < 18446744073709551616) (H : VH) : vF P tab (n + 1) 64 [.flt .f64 a] H = some (.int .u64 (canonB a : Int), H) := by
  have h : bodyV P tab (vF P tab n) n 64 ([.flt .f64 a].map stripC) [] = some (.int .u64 (canonB a : Int), []) := by
    show bodyV P tab (vF P tab n) n 64 [.flt .f64 a] [] = _
    rw [f64_eq, tobits, Option.bind_some, canonB_ref ha]
    have hr : remI (a : Int) 9223372036854775808 = some ((a % 9223372036854775808 : Nat) : Int) := by
      unfold remI; simp [Int.tmod_eq_emod_of_nonneg]
    rw [hr, Option.bind_some]
    by_cases h1 : 9218868437227405312 < a % 9223372036854775808
    · have : decide (((a % 9223372036854775808 : Nat) : Int) > 9218868437227405312) = true := decide_eq_true (by omega)
      rw [this, if_pos h1]; rfl
    · have : decide (((a % 9223372036854775808 : Nat) : Int) > 9218868437227405312) = false := decide_eq_false (by omega)
      rw [this, if_neg h1, cond_false]
      by_cases h2 : a = 9223372036854775808
      · subst h2; rfl
      · have : ((a : Int) == 9223372036854775808) = false := by simp; omega
        rw [this, if_neg h2]; rfl
  rw [vF_lone rfl rfl h rfl]; rfl
theorem c64 (n : Nat) {a : Nat} (ha : a < 18446744073709551616) (H : VH) : V.callD (vF P tab (n + 1)) P false (.one (.flat (.int .u64))) 64 [.flt .f64 a] H = some ((canonB a : Int), H) := callD_int (e64 n ha H)
theorem ofE_ref {b : Nat} (hb : b < 18446744073709551616) : ofE b = if 9218868437227405312 < b % 9223372036854775808 ∧ b ≠ 9221120237041090561 ∨ b = 9223372036854775808 then 2 else 0 := by
  unfold ofE
  rw [canonB_ref hb]
  by_cases h1 : 9218868437227405312 < b % 9223372036854775808
  · rw [if_pos h1]
    by_cases h2 : b = 9221120237041090561
    · subst h2; rfl
    · rw [if_neg (fun e => h2 e.symm), if_pos (.inl ⟨h1, h2⟩)]
  · rw [if_neg h1]
    by_cases h2 : b = 9223372036854775808
    · subst h2; rfl
    · rw [if_neg h2, if_pos rfl, if_neg (by rintro (h | h); exact h1 h.1; exact h2 h)]
theorem ofX_of (b : Nat) : ofX b = if ofE b = 0 then b else 0 := by
  unfold ofX ofE
  split <;> rfl
theorem e69 (n : Nat) {b : Nat} (hb : b < 18446744073709551616) (H : VH) : vF P tab (n + 1) 69 [.int .u64 (b : Int)] H = some (.tup [.flt .f64 (ofX b), .int .i64 (ofE b : Int)], H) := by
  have h : bodyV P tab (vF P tab n) n 69 ([.int .u64 (b : Int)].map stripC) [] = some (.tup [.flt .f64 (ofX b), .int .i64 (ofE b : Int)], []) := by
    show bodyV P tab (vF P tab n) n 69 [.int .u64 (b : Int)] [] = _
    rw [f69_eq]
    have hr : remI (b : Int) 9223372036854775808 = some ((b % 9223372036854775808 : Nat) : Int) := by
      unfold remI; simp [Int.tmod_eq_emod_of_nonneg]
    rw [hr, Option.bind_some]
    have k2 : ofE b = 2 → ofX b = 0 := fun h => by rw [ofX_of, h]; rfl
    have k0 : ofE b = 0 → ofX b = b := fun h => by rw [ofX_of, h]; rfl
    by_cases h1 : 9218868437227405312 < b % 9223372036854775808
    · have : decide (((b % 9223372036854775808 : Nat) : Int) > 9218868437227405312) = true := decide_eq_true (by omega)
      rw [this, cond_true]
      by_cases h2 : b = 9221120237041090561
      · have hE : ofE b = 0 := by rw [ofE_ref hb, if_neg]; rintro (h | h); exact h.2 h2; omega
        rw [hE, k0 hE]
        subst h2; rw [ofbits]; rfl
      · have hE : ofE b = 2 := by rw [ofE_ref hb]; exact if_pos (Or.inl ⟨h1, h2⟩)
        have : ((b : Int) != 9221120237041090561) = true := by simp; omega
        rw [this, hE, k2 hE]; rfl
    · have : decide (((b % 9223372036854775808 : Nat) : Int) > 9218868437227405312) = false := decide_eq_false (by omega)
      rw [this, cond_false]
      by_cases h2 : b = 9223372036854775808
      · have hE : ofE b = 2 := by rw [ofE_ref hb]; exact if_pos (Or.inr h2)
        rw [hE, k2 hE]
        subst h2; rfl
      · have hE : ofE b = 0 := by rw [ofE_ref hb, if_neg]; rintro (h | h); exact h1 h.1; exact h2 h
        have : ((b : Int) == 9223372036854775808) = false := by simp; omega
        rw [this, cond_false, ofbits, hE, k0 hE]; rfl
  rw [vF_lone rfl rfl h rfl]; rfl
theorem c69 (n : Nat) {b : Nat} (hb : b < 18446744073709551616) (H : VH) : V.callD (vF P tab (n + 1)) P false (.tup [(.flat (.flt .f64)), (.flat (.int .i64))]) 69 [.int .u64 (b : Int)] H = some ((ofX b, (ofE b : Int), ()), H) := callD_some _ (e69 n hb H) rfl
end Go.Proofs.YtcnigofmjffamaaDoor
