import Derived.Test.YthodknboobgfpaaB04a
set_option linter.unusedVariables false
set_option linter.unusedSimpArgs false
namespace Go.Proofs.Ythodknboobgfpaa
open Go.Proofs.Ythodknboobgfpaa.Sh Go.Proofs.Ythodknboobgfpaa.Sh.V Go.RowKit
theorem takeS_len (c : Nat) (l : List UInt8) (f : Bool) : (takeS c l f).1.length ≤ c := by
  unfold takeS
  split
  · simp
  · split
    · simp
    · simp only [List.length_take]; omega
theorem numA1 {l : List UInt8} (h : l.length ≤ 1) : numA 0 l < 256 := by
  match l, h with
  | [], _ => decide
  | [b], _ => have := b.toNat_lt; simpa [numA] using this
theorem numA2 {l : List UInt8} (h : l.length ≤ 2) : numA 0 l < 65536 := by
  match l, h with
  | [], _ => decide
  | [b], _ => have := b.toNat_lt; simp [numA]; omega
  | [a, b], _ => have := b.toNat_lt; have := a.toNat_lt; simp [numA]; omega
theorem e15 (n : Nat) {H : VH} {k : Nat} {l : List UInt8} {f : Bool} (h : RS RT H k l f) (hn : 300 ≤ n) :
    ∃ H', vF P tab (n + 4) 15 [.ptr (.ob k 0)] H = some (.int .u8 (numA 0 (takeS 1 l f).1 : Int), H') ∧ RS RT H' k (takeS 1 l f).2.1 (takeS 1 l f).2.2 ∧ Kp H H' [k] ∧ H'.length = H.length := by
  obtain ⟨H', g1, g2⟩ := e39 n h (c := 1) (by omega) (by omega)
  rw [show ((1 : Nat) : Int) = 1 from rfl] at g1
  rw [vF_body rfl, f15_eq, callD_int g1, Option.bind_some]
  simp only
  rw [wrap_u8_nat (numA1 (takeS_len 1 l f))]
  exact ⟨H', rfl, g2⟩
theorem e18 (n : Nat) {H : VH} {k : Nat} {l : List UInt8} {f : Bool} (h : RS RT H k l f) (hn : 300 ≤ n) :
    ∃ H', vF P tab (n + 4) 18 [.ptr (.ob k 0)] H = some (.int .i64 (numA 0 (takeS 2 l f).1 : Int), H') ∧ RS RT H' k (takeS 2 l f).2.1 (takeS 2 l f).2.2 ∧ Kp H H' [k] ∧ H'.length = H.length := by
  obtain ⟨H', g1, g2⟩ := e39 n h (c := 2) (by omega) (by omega)
  rw [show ((2 : Nat) : Int) = 2 from rfl] at g1
  have := numA2 (takeS_len 2 l f)
  rw [vF_body rfl, f18_eq, callD_int g1, Option.bind_some]
  simp only
  rw [i64_nat (by omega)]
  exact ⟨H', rfl, g2⟩
theorem e19 (n : Nat) {H : VH} {k : Nat} {l : List UInt8} {f : Bool} (h : RS RT H k l f) (hn : 300 ≤ n) :
    ∃ H', vF P tab (n + 4) 19 [.ptr (.ob k 0)] H = some (.int .u64 (numA 0 (takeS 8 l f).1 : Int), H') ∧ RS RT H' k (takeS 8 l f).2.1 (takeS 8 l f).2.2 ∧ Kp H H' [k] ∧ H'.length = H.length := by
  obtain ⟨H', g1, g2⟩ := e39 n h (c := 8) (by omega) (by omega)
  rw [show ((8 : Nat) : Int) = 8 from rfl] at g1
  rw [vF_body rfl, f19_eq, callD_int g1, Option.bind_some]
  exact ⟨H', rfl, g2⟩
/-- A text. -/
def textS (l : List UInt8) (f : Bool) : List UInt8 × List UInt8 × Bool :=
  takeS (numA 0 (takeS 2 l f).1) (takeS 2 l f).2.1 (takeS 2 l f).2.2
theorem e20 (n : Nat) {H : VH} {k : Nat} {l : List UInt8} {f : Bool} (h : RS RT H k l f) (hn : 300 ≤ n) :
    ∃ H', vF P tab (n + 5) 20 [.ptr (.ob k 0)] H = some (.str ⟨(textS l f).1.toArray⟩, H') ∧ RS RT H' k (textS l f).2.1 (textS l f).2.2 ∧ Kp H H' [k] ∧ H'.length = H.length := by
  obtain ⟨H1, g1, g2, g3, g4⟩ := e18 n h hn
  have := numA2 (takeS_len 2 l f)
  obtain ⟨s', H2, g5, g6, g7, g8, g9⟩ := e41 (n + 2) g2 (c := numA 0 (takeS 2 l f).1) (by omega)
  rw [vF_body rfl, f20_eq, callD_int g1, Option.bind_some]
  simp only
  rw [callD_sl g5, Option.bind_some]
  simp only
  rw [g6.str, Option.bind_some]
  exact ⟨H2, rfl, g7, g3.trans g8 (fun x hx _ => hx) (fun y hy _ => hy), by omega⟩
/-- Texts as elements. -/
def ss (ls : List (List UInt8)) : List (List V) := ls.map fun l => [.str ⟨l.toArray⟩]
theorem ss_len (ls : List (List UInt8)) : (ss ls).length = ls.length := by simp [ss]
/-- So many texts; none, if there aren't so many. -/
def textsL : Nat → List UInt8 → Bool → List (List UInt8) → List (List UInt8) × List UInt8 × Bool
  | 0, l, f, acc => (if f = true then [] else acc, l, f)
  | n + 1, l, f, acc => if f = true then ([], l, true) else if (textS l f).2.2 = true then ([], (textS l f).2.1, true) else textsL n (textS l f).2.1 false (acc ++ [(textS l f).1])
theorem textS_fail (l : List UInt8) : textS l true = ([], l, true) := by simp [textS, takeS]
theorem l23 (n : Nat) (hn : 300 ≤ n) (c : Nat) (hc : c < 256) {k : Nat} : ∀ (m i : Nat) {H0 H : VH} {l : List UInt8} {f : Bool} {s : VS} {acc : List (List UInt8)}, RS RT H k l f → k < H0.length → Kp H0 H [k] → Ap H 9 s (ss acc) → (∀ t ∈ toks s, H0.length ≤ t) → acc.length = i → (f = true → acc = [] ) → i ≤ c → c < i + m →
    ∃ s' H', L23_0 (n + 5) m (.ob k 0) s (c : Int) (i : Int) H = some (.sl 9 s', H') ∧ IsE s' (ss (textsL (c - i) l f acc).1) ∧ RS RT H' k (textsL (c - i) l f acc).2.1 (textsL (c - i) l f acc).2.2 ∧ Kp H0 H' [k] := by
  intro m
  induction m with
  | zero => intros; omega
  | succ m ih =>
    intro i H0 H l f s acc h hk0 hkp ha ht hlen hf h1 h2
    rw [L23_0_eq]
    by_cases hi : i < c
    · rw [decide_eq_true (by omega), cond_true]
      obtain ⟨H1, g1, g2, g3, g4⟩ := e20 n h hn
      rw [callD_str g1, Option.bind_some]
      simp only
      rw [c25 (n + 4) g2, Option.bind_some]
      have hkp1 : Kp H0 H1 [k] := hkp.trans g3 (fun x hx _ => hx) (fun y hy _ => hy)
      obtain ⟨d, hd⟩ : ∃ d, c - i = d + 1 := ⟨c - i - 1, by omega⟩
      rw [hd]
      cases f with
      | true =>
        rw [textS_fail] at g2 ⊢
        simp only [Bool.not_true, Bool.not_false, cond_true]
        exact ⟨.nil, H1, rfl, by simpa [textsL, ss] using IsE.nil, by simpa [textsL] using g2, hkp1⟩
      | false =>
        cases hfl : (textS l false).2.2 with
        | true =>
          simp only [Bool.not_true, Bool.not_false, cond_true]
          refine ⟨.nil, H1, rfl, ?_, ?_, hkp1⟩
          · simpa [textsL, hfl, ss] using IsE.nil
          · rw [hfl] at g2; simpa [textsL, hfl] using g2
        | false =>
          simp only [Bool.not_false, Bool.not_true, cond_false]
          have ha1 : Ap H1 9 s (ss acc) := ha.keep g3 (fun t hts hx => by
            have h3 := ht t hts
            rw [List.mem_singleton] at hx
            omega)
          obtain ⟨s2, H2, q1, q2, q3, q4, _⟩ := ha1.app (sz := 1) (by_ := 16) (x := .fz [[.str ⟨(textS l false).1.toArray⟩]] (.ex 1)) (.fz _ _) (by simp only [ss_len, bound, List.length_cons, List.length_nil]; omega) (by simp only [ss_len, bound, List.length_cons, List.length_nil]; omega)
          rw [q1, Option.bind_some]
          simp only
          have e3 : IntKind.wrap .i64 ((i : Int) + 1) = ((i + 1 : Nat) : Int) := by rw [i64_in (by omega)]; rfl
          rw [e3]
          have hsa : ss acc ++ [[.str ⟨(textS l false).1.toArray⟩]] = ss (acc ++ [(textS l false).1]) := by simp [ss]
          rw [hsa] at q2
          have hkt : k ∉ toks s := fun hx => by have := ht k hx; omega
          have hlk := hkp1.len
          rw [hfl] at g2
          obtain ⟨s3, H3, r1, r2, r3, r4⟩ := ih (i + 1) (g2.keep q3 hkt) hk0 (hkp1.trans q3 (fun x hx _ => hx) (fun y hy hy2 => by have := ht y hy; omega)) q2 (fun t hts => by
            rcases q4 t hts with h3 | h3
            · exact ht t h3
            · omega) (by simp [hlen]) (fun h => by cases h) (by omega) (by omega)
          refine ⟨s3, H3, r1, ?_, ?_, r4⟩
          · rw [show c - (i + 1) = d by omega] at r2; simpa [textsL, hfl] using r2
          · rw [show c - (i + 1) = d by omega] at r3; simpa [textsL, hfl] using r3
    · rw [decide_eq_false (by omega), cond_false]
      rw [show c - i = 0 by omega]
      refine ⟨s, H, rfl, ?_, ?_, hkp⟩
      · cases f with
        | true => rw [hf rfl] at ha; simpa [textsL] using ha.isE
        | false => simpa [textsL] using ha.isE
      · simpa [textsL] using h
/-- As many texts as it says, but not more than so many. -/
def textsS (most : Nat) (l : List UInt8) (f : Bool) : List (List UInt8) × List UInt8 × Bool :=
  if most < numA 0 (takeS 1 l f).1 ∧ (takeS 1 l f).2.2 = false then textsL (numA 0 (takeS 1 l f).1) [] true []
  else textsL (numA 0 (takeS 1 l f).1) (takeS 1 l f).2.1 (takeS 1 l f).2.2 []
theorem e23 (n : Nat) {H : VH} {k : Nat} {l : List UInt8} {f : Bool} (h : RS RT H k l f) (hn : 300 ≤ n) (most : Nat) :
    ∃ s' H', vF P tab (n + 6) 23 [.ptr (.ob k 0), .int .i64 (most : Int)] H = some (.sl 9 s', H') ∧ IsE s' (ss (textsS most l f).1) ∧ RS RT H' k (textsS most l f).2.1 (textsS most l f).2.2 ∧ Kp H H' [k] := by
  obtain ⟨H1, g1, g2, g3, g4⟩ := e15 (n + 1) h (by omega)
  have hc := numA1 (takeS_len 1 l f)
  have hk : k < H.length := by obtain ⟨s, h1, _⟩ := h; exact lt_of_ob h1
  rw [vF_body rfl, f23_eq, callD_int g1, Option.bind_some]
  simp only
  rw [c25 (n + 4) g2, Option.bind_some]
  simp only
  have e1 : IntKind.wrap .i64 (numA 0 (takeS 1 l f).1 : Int) = (numA 0 (takeS 1 l f).1 : Int) := i64_nat (by omega)
  rw [e1]
  have fin : ∀ {H2 : VH} {l2 : List UInt8} {f2 : Bool}, RS RT H2 k l2 f2 → Kp H H2 [k] → ∃ s' H', L23_0 (n + 5) (n + 5) (.ob k 0) .nil (numA 0 (takeS 1 l f).1 : Int) 0 H2 = some (.sl 9 s', H') ∧ IsE s' (ss (textsL (numA 0 (takeS 1 l f).1) l2 f2 []).1) ∧ RS RT H' k (textsL (numA 0 (takeS 1 l f).1) l2 f2 []).2.1 (textsL (numA 0 (takeS 1 l f).1) l2 f2 []).2.2 ∧ Kp H H' [k] := by
    intro H2 l2 f2 h2 hkp
    have := l23 n hn (numA 0 (takeS 1 l f).1) hc (n + 5) 0 (H0 := H) h2 hk hkp (s := .nil) (acc := []) .nil (fun t ht => by cases ht) rfl (fun _ => rfl) (by omega) (by omega)
    simpa using this
  unfold textsS
  cases hf : (takeS 1 l f).2.2 with
  | true =>
    rw [hf] at g2
    simp only [Bool.not_true, cond_false, and_false, reduceCtorEq, if_false]
    exact fin g2 g3
  | false =>
    rw [hf] at g2
    simp only [Bool.not_false, cond_true, and_true]
    by_cases hm : most < numA 0 (takeS 1 l f).1
    · rw [decide_eq_true (by omega), cond_true, if_pos hm]
      obtain ⟨H2, q1, q2, q3, q4⟩ := e42 (n + 4) g2
      rw [callD_unit q1, Option.bind_some]
      exact fin q2 (g3.trans q3 (fun x hx _ => hx) (fun y hy _ => hy))
    · rw [decide_eq_false (by omega), cond_false, if_neg hm]
      exact fin g2 g3
end Go.Proofs.Ythodknboobgfpaa
