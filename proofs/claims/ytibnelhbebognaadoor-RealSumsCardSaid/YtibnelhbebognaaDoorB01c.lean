import Derived.Test.YtibnelhbebognaaDoorB01b
set_option maxRecDepth 100000
set_option linter.unusedVariables false
set_option linter.unusedSimpArgs false
namespace Go.Proofs.YtibnelhbebognaaDoor
open Go.Proofs.YtibnelhbebognaaDoor.Sh Go.Proofs.YtibnelhbebognaaDoor.Sh.V Go.RowKit
theorem bits_of {v : V} (h : HasA P 22 v) : ∃ a : Nat, v = .int .u64 (a : Int) ∧ a < 18446744073709551616 := by
  obtain ⟨x, rfl, hw⟩ := hasA_int (k := .u64) (by kernel_rfl) h
  have : 0 ≤ x ∧ x < 18446744073709551616 := by
    simp [Lit.wf, IntKind.min, IntKind.max, IntKind.bits, IntKind.signed] at hw; omega
  refine ⟨x.toNat, ?_, by omega⟩
  rw [Int.toNat_of_nonneg this.1]
theorem beq_nat (a b : Nat) : ((a : Int) == (b : Int)) = decide (a = b) := by
  by_cases h : a = b
  · subst h; simp
  · rw [decide_eq_false h]; simp; omega
theorem bne_nat (a b : Nat) : ((a : Int) != (b : Int)) = !decide (a = b) := by
  rw [bne, beq_nat]
theorem less_irr (a : Nat) : lessF a a = false := by
  unfold lessF
  by_cases h : isNaN a
  · rw [if_pos (.inl h), decide_eq_true h]; rfl
  · rw [if_neg (by simp [h]), decide_eq_false (by omega)]
theorem less_asym {a b : Nat} (h : lessF a b = true) : lessF b a = false := by
  unfold lessF at *
  by_cases na : isNaN a <;> by_cases nb : isNaN b <;> simp [na, nb] at h ⊢
  omega
theorem less_trans {a b c : Nat} (h : lessF a b = true) (h2 : lessF b c = true) : lessF a c = true := by
  unfold lessF at *
  by_cases na : isNaN a <;> by_cases nb : isNaN b <;> by_cases nc : isNaN c <;> simp [na, nb, nc] at h h2 ⊢
  omega
/-- RealOrder. -/
theorem realOrder_law (us : List V) (h : HasAs P [22, 22, 22] us) : ∃ n H', vF P tab n 6 us [] = some (.bool true, H') := by
  match us, h with
  | [u0, u1, u2], ⟨h0, h1, h2, _⟩ =>
    obtain ⟨a, rfl, ha⟩ := bits_of h0
    obtain ⟨b, rfl, hb⟩ := bits_of h1
    obtain ⟨c, rfl, hc⟩ := bits_of h2
    obtain ⟨m, hm⟩ : ∃ m, m = 0 + 80 := ⟨_, rfl⟩
    refine ⟨m + 1, [], ?_⟩
    have q10 : ∀ (b : Nat) (H : VH), V.callD (vF P tab m) P false (.one (.flat (.flt .f64))) 10 [.int .u64 (b : Int)] H = some (b, H) := by subst hm; exact c10 79
    have q20 : ∀ (a b : Nat) (H : VH), V.callD (vF P tab m) P false (.one (.flat .bool)) 20 [.flt .f64 a, .flt .f64 b] H = some (lessF a b, H) := by subst hm; exact c20 79
    have q21 : ∀ (H : VH), V.callD (vF P tab m) P false (.one (.flat .bool)) 21 [.flt .f64 a, .flt .f64 b] H = some (lessF a b, H) := by subst hm; exact c21 77 ha hb
    have q22 : ∀ (a b : Nat) (H : VH), V.callD (vF P tab m) P false (.one (.flat .bool)) 22 [.flt .f64 a, .flt .f64 b] H = some (decide (canonB a = canonB b), H) := by subst hm; exact c22 77
    have q12 : ∀ (H : VH), V.callD (vF P tab m) P false (.one (.flat .bool)) 12 [] H = some (true, H) := by subst hm; exact c12 0
    rw [vF_body rfl, f6_eq]
    simp only [q10, q20, q21, q22, q12, Option.bind_some, feq, order_self2, less_irr, beq_self_eq_true, Bool.not_true, cond_false, cond_true, same_less ha hb]
    have hasy := @less_asym a b
    have htr := @less_trans a b c
    have hnan : isNaN a → lessF a b = false := by intro h; unfold lessF; rw [if_pos (.inl h), decide_eq_true h]; rfl
    by_cases na : isNaN a
    · rw [decide_eq_true na, hnan na]
      cases lessF b a <;> rfl
    · rw [decide_eq_false na]
      revert hasy htr
      clear q10 q20 q21 q22 q12 hnan
      generalize lessF a b = p
      generalize lessF b a = q
      generalize lessF b c = r
      generalize lessF a c = t
      cases p <;> cases q <;> cases r <;> cases t <;> intro g1 g2 <;> first | rfl | (exfalso; revert g1 g2; decide)
/-- RealCanons. -/
theorem realCanons_law (us : List V) (h : HasAs P [22] us) : ∃ n H', vF P tab n 3 us [] = some (.bool true, H') := by
  match us, h with
  | [u0], ⟨h0, _⟩ =>
    obtain ⟨a, rfl, ha⟩ := bits_of h0
    obtain ⟨m, hm⟩ : ∃ m, m = 0 + 80 := ⟨_, rfl⟩
    refine ⟨m + 1, [], ?_⟩
    have q10 : ∀ (b : Nat) (H : VH), V.callD (vF P tab m) P false (.one (.flat (.flt .f64))) 10 [.int .u64 (b : Int)] H = some (b, H) := by subst hm; exact c10 79
    have q11 : ∀ (b : Nat) (H : VH), V.callD (vF P tab m) P false (.one (.flat (.flt .f64))) 11 [.flt .f64 b] H = some (canonB b, H) := by subst hm; exact c11 79
    have q14 : ∀ (H : VH), V.callD (vF P tab m) P false (.one (.flat (.int .u64))) 14 [.flt .f64 a] H = some ((canonB a : Int), H) := by subst hm; exact c14 79 ha
    have q15 : ∀ (b : Nat) (H : VH), V.callD (vF P tab m) P false (.one (.flat (.int .u64))) 15 [.flt .f64 b] H = some ((canonB b : Int), H) := by subst hm; exact c15 78
    have q12 : ∀ (H : VH), V.callD (vF P tab m) P false (.one (.flat .bool)) 12 [] H = some (true, H) := by subst hm; exact c12 0
    rw [vF_body rfl, f3_eq]
    simp only [q10, q11, q12, q14, q15, Option.bind_some, tobits, beq_self_eq_true, cond_true, canonB_idem, fne, order_self, feq]
    by_cases na : isNaN a
    · rw [decide_eq_true na]; rfl
    · rw [decide_eq_false na, cond_false]
      have hc : (dbl.order (canonB a) a == some .eq) = true := by
        by_cases ra : rung a = 0
        · rw [canon_zero na ra, order_eq (by decide) na]
          have : skey a = 0 := by unfold skey; rw [ra]; split <;> rfl
          rw [this]; rfl
        · rw [canon_else na ra, order_self2, decide_eq_false na]; rfl
      rw [hc]
/-- RealOf. -/
theorem realOf_law (us : List V) (h : HasAs P [22] us) : ∃ n H', vF P tab n 8 us [] = some (.bool true, H') := by
  match us, h with
  | [u0], ⟨h0, _⟩ =>
    obtain ⟨a, rfl, ha⟩ := bits_of h0
    obtain ⟨m, hm⟩ : ∃ m, m = 0 + 80 := ⟨_, rfl⟩
    refine ⟨m + 1, [], ?_⟩
    have q10 : ∀ (b : Nat) (H : VH), V.callD (vF P tab m) P false (.one (.flat (.flt .f64))) 10 [.int .u64 (b : Int)] H = some (b, H) := by subst hm; exact c10 79
    have q15 : ∀ (b : Nat) (H : VH), V.callD (vF P tab m) P false (.one (.flat (.int .u64))) 15 [.flt .f64 b] H = some ((canonB b : Int), H) := by subst hm; exact c15 78
    have q12 : ∀ (H : VH), V.callD (vF P tab m) P false (.one (.flat .bool)) 12 [] H = some (true, H) := by subst hm; exact c12 0
    have q22 : ∀ (a b : Nat) (H : VH), V.callD (vF P tab m) P false (.one (.flat .bool)) 22 [.flt .f64 a, .flt .f64 b] H = some (decide (canonB a = canonB b), H) := by subst hm; exact c22 77
    have q23 : ∀ (b : Nat) (H : VH), V.callD (vF P tab m) P false (.tup [(.flat (.flt .f64)), (.flat (.int .i64))]) 23 [.int .u64 (b : Int)] H = some ((ofX b, (ofE b : Int), ()), H) := by subst hm; exact c23 77
    have q24 : ∀ (H : VH), V.callD (vF P tab m) P false (.tup [(.flat (.flt .f64)), (.flat (.int .i64))]) 24 [.int .u64 (a : Int)] H = some ((ofX a, (ofE a : Int), ()), H) := by subst hm; exact c24 79 ha
    have hE : ofE (canonB a) = 0 := by unfold ofE; rw [canonB_idem, if_pos rfl]
    have hX : ofX (canonB a) = canonB a := by rw [ofX_of, hE]; rfl
    rw [vF_body rfl, f8_eq]
    simp only [q10, q15, q12, q22, q23, q24, Option.bind_some, tobits, bne_nat, beq_nat, decide_true, Bool.not_true, cond_false, cond_true, hE, hX, canonB_idem]
    rw [show (((0 : Nat) : Int) == 0) = true from rfl, cond_true]
    by_cases he : canonB a = a
    · have e0 : ofE a = 0 := if_pos he
      have x0 : ofX a = a := if_pos he
      rw [e0, x0, he, show (((0 : Nat) : Int) != 0) = false from rfl, cond_false, decide_eq_true rfl]
    · have e0 : ofE a = 2 := if_neg he
      rw [e0]; rfl
/-! ### The opposite -/
theorem neg_div {a : Nat} (ha : a < 18446744073709551616) : Op.negFloat .f64 a = if 9223372036854775808 ≤ a then a - 9223372036854775808 else a + 9223372036854775808 := by
  have e : Op.negFloat .f64 a = a ^^^ 2 ^ 63 := rfl
  rw [e]
  have h1 : (a ^^^ 2 ^ 63) % 2 ^ 63 = a % 2 ^ 63 := by rw [Nat.xor_mod_two_pow]; simp
  have h2 : (a ^^^ 2 ^ 63) / 2 ^ 63 = (a / 2 ^ 63) ^^^ 1 := by rw [Nat.xor_div_two_pow]
  have h3 : a / 2 ^ 63 = 0 ∨ a / 2 ^ 63 = 1 := by omega
  generalize a ^^^ 2 ^ 63 = x at *
  rcases h3 with h3 | h3 <;> rw [h3] at h2
  · have : (0 ^^^ 1 : Nat) = 1 := rfl
    rw [this] at h2
    split <;> omega
  · have : (1 ^^^ 1 : Nat) = 0 := rfl
    rw [this] at h2
    split <;> omega
theorem neg_val (a : Nat) : pvD P (.flt .f64) (Op.unary .neg (.float .f64 a)) = some (Op.negFloat .f64 a) := rfl
theorem neg_lt {a : Nat} (ha : a < 18446744073709551616) : Op.negFloat .f64 a < 18446744073709551616 := by rw [neg_div ha]; split <;> omega
theorem neg_rung {a : Nat} (ha : a < 18446744073709551616) : rung (Op.negFloat .f64 a) = rung a := by rw [neg_div ha]; unfold rung; split <;> omega
theorem neg_nan {a : Nat} (ha : a < 18446744073709551616) : isNaN (Op.negFloat .f64 a) ↔ isNaN a := by unfold isNaN; rw [neg_rung ha]
theorem neg_skey {a : Nat} (ha : a < 18446744073709551616) : skey (Op.negFloat .f64 a) = -skey a := by
  rw [skey_of (neg_lt ha), skey_of ha, neg_div ha]
  split <;> split <;> omega
/-- RealSigns. -/
theorem realSigns_law (us : List V) (h : HasAs P [22, 22] us) : ∃ n H', vF P tab n 7 us [] = some (.bool true, H') := by
  match us, h with
  | [u0, u1], ⟨h0, h1, _⟩ =>
    obtain ⟨a, rfl, ha⟩ := bits_of h0
    obtain ⟨b, rfl, hb⟩ := bits_of h1
    obtain ⟨m, hm⟩ : ∃ m, m = 0 + 80 := ⟨_, rfl⟩
    refine ⟨m + 1, [], ?_⟩
    have q10 : ∀ (b : Nat) (H : VH), V.callD (vF P tab m) P false (.one (.flat (.flt .f64))) 10 [.int .u64 (b : Int)] H = some (b, H) := by subst hm; exact c10 79
    have q12 : ∀ (H : VH), V.callD (vF P tab m) P false (.one (.flat .bool)) 12 [] H = some (true, H) := by subst hm; exact c12 0
    have q20 : ∀ (a b : Nat) (H : VH), V.callD (vF P tab m) P false (.one (.flat .bool)) 20 [.flt .f64 a, .flt .f64 b] H = some (lessF a b, H) := by subst hm; exact c20 79
    have q22 : ∀ (a b : Nat) (H : VH), V.callD (vF P tab m) P false (.one (.flat .bool)) 22 [.flt .f64 a, .flt .f64 b] H = some (decide (canonB a = canonB b), H) := by subst hm; exact c22 77
    rw [vF_body rfl, f7_eq]
    simp only [q10, q12, q20, q22, Option.bind_some, fne, feq, order_self, order_self2, neg_val, cond_true]
    by_cases na : isNaN a
    · have : canonB a = canonB (Op.negFloat .f64 a) := by rw [canon_nan na, canon_nan ((neg_nan ha).2 na)]
      rw [decide_eq_true na, decide_eq_true this]; rfl
    · rw [decide_eq_false na]
      by_cases nb : isNaN b
      · rw [decide_eq_true nb]; rfl
      · rw [decide_eq_false nb]
        have hl : lessF a b = lessF (Op.negFloat .f64 b) (Op.negFloat .f64 a) := by
          have n1 := mt (neg_nan ha).1 na
          have n2 := mt (neg_nan hb).1 nb
          unfold lessF
          rw [if_neg (by simp [na, nb]), if_neg (by simp [n1, n2]), neg_skey ha, neg_skey hb]
          congr 1
          apply propext; omega
        have hs : decide (canonB a = canonB (Op.negFloat .f64 a)) = (dbl.order a 0 == some .eq) := by
          rw [order_eq na (by decide)]
          have h0 : skey 0 = 0 := by decide
          rw [h0]
          congr 1
          apply propext
          rw [canon_eq_iff ha (neg_lt ha) na (mt (neg_nan ha).1 na), neg_skey ha]
          omega
        rw [← hl, hs]
        cases lessF a b <;> cases (dbl.order a 0 == some .eq) <;> rfl
end Go.Proofs.YtibnelhbebognaaDoor
