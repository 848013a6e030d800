import Derived.Test.YthodknboobgfpaaB04b
set_option linter.unusedVariables false
set_option linter.unusedSimpArgs false
namespace Go.Proofs.Ythodknboobgfpaa
open Go.Proofs.Ythodknboobgfpaa.Sh Go.Proofs.Ythodknboobgfpaa.Sh.V Go.RowKit
theorem takeS_inv (c : Nat) {l : List UInt8} {f : Bool} (h : f = true → l = []) : (takeS c l f).2.2 = true → (takeS c l f).2.1 = [] := by
  unfold takeS
  split
  · intro _; exact h (by assumption)
  · split
    · intro _; rfl
    · intro h; cases h
theorem e26 (n : Nat) {H : VH} {k : Nat} {l : List UInt8} {f : Bool} (h : RS RT H k l f) : vF P tab (n + 1) 26 [.ptr (.ob k 0)] H = some (.int .i64 (l.length : Int), H) := by
  obtain ⟨s, h1, h2⟩ := h
  rw [vF_body rfl, f26_eq]
  simp only [VP.isNil, cond_false, nn, atO, Option.bind_some]
  rw [ld_row h1]
  simp only [Nat.zero_add, List.getElem?_cons_zero, Option.bind_some, fd_sl]
  rw [h2.len, bs_len]
/-- What End says. -/
def endS (l : List UInt8) (f : Bool) : Nat := if f = true ∨ l ≠ [] then 2 else 0
theorem e16 (n : Nat) {H : VH} {k : Nat} {l : List UInt8} {f : Bool} (h : RS RT H k l f) : vF P tab (n + 2) 16 [.ptr (.ob k 0)] H = some (.int .i64 (endS l f : Int), H) := by
  rw [vF_body rfl, f16_eq, c25 n h, Option.bind_some]
  unfold endS
  cases f with
  | true => simp
  | false =>
    simp only [Bool.not_false, Bool.not_true, cond_false]
    rw [callD_int (e26 n h), Option.bind_some]
    simp only
    cases l with
    | nil => rfl
    | cons b l =>
      have : (((b :: l).length : Nat) : Int) > 0 := by simp only [List.length_cons]; omega
      rw [decide_eq_true this]
      simp
theorem e40 (n : Nat) {H : VH} {k : Nat} {l : List UInt8} {f : Bool} (h : RS IT H k l f) (hf : f = true → l = []) {c : Nat} (hc : c < 1000000) :
    ∃ s' H', vF P tab (n + 1) 40 [.ptr (.ob k 0), .int .i64 (c : Int)] H = some (.sl 5 s', H') ∧ IsB s' (takeS c l f).1 ∧ RS IT H' k (takeS c l f).2.1 (takeS c l f).2.2 ∧ Kp H H' [k] ∧ H'.length = H.length := by
  obtain ⟨s, h1, h2⟩ := h
  have hk := lt_of_ob h1
  rw [vF_body rfl, f40_eq]
  simp only [nn, atO, Option.bind_some, Nat.zero_add]
  rw [ld_row h1]
  simp only [List.getElem?_cons_succ, List.getElem?_cons_zero, Option.bind_some, fd_bool]
  unfold takeS
  cases f with
  | true =>
    have := hf rfl; subst this
    simp only [cond_true, if_true]
    rw [st_row h1 (by simp) rfl, Option.bind_some]
    rw [st_row (by rw [List.getElem?_set_self hk]) (by simp [putAllV]) rfl, Option.bind_some]
    refine ⟨.nil, _, rfl, .nil, ⟨.nil, ?_, .nil⟩, ?_, by simp⟩
    · rw [List.getElem?_set_self (by simpa using hk)]; rfl
    · exact (Kp.set H k _).trans (Kp.set _ k _) (fun x hx _ => hx) (fun y hy _ => hy)
  | false =>
    simp only [cond_false, Bool.false_eq_true, if_false]
    rw [ld_row h1]
    simp only [List.getElem?_cons_zero, Option.bind_some, fd_sl]
    rw [h2.len, bs_len]
    by_cases hl : l.length < c
    · rw [decide_eq_true (by omega), cond_true, if_pos hl]
      rw [st_row h1 (by simp) rfl, Option.bind_some]
      rw [st_row (by rw [List.getElem?_set_self hk]) (by simp [putAllV]) rfl, Option.bind_some]
      refine ⟨.nil, _, rfl, .nil, ⟨.nil, ?_, .nil⟩, ?_, by simp⟩
      · rw [List.getElem?_set_self (by simpa using hk)]; rfl
      · exact (Kp.set H k _).trans (Kp.set _ k _) (fun x hx _ => hx) (fun y hy _ => hy)
    · rw [decide_eq_false (by omega), cond_false, if_neg hl]
      obtain ⟨s1, g1, g2, _⟩ := h2.cut (lo := 0) (hi := c) (Nat.zero_le _) (by rw [bs_len]; omega) (lo' := none) (hi' := some (c : Int)) (mx' := none) (.inr ⟨rfl, rfl⟩) (.inl rfl) (.inl rfl) H 5 1
      obtain ⟨s2, g3, g4, _⟩ := h2.cut (lo := c) (hi := l.length) (by omega) (by rw [bs_len]; omega) (lo' := some (c : Int)) (hi' := none) (mx' := none) (.inl rfl) (.inr ⟨rfl, by rw [bs_len]⟩) (.inl rfl) H 5 1
      rw [g1, Option.bind_some, g3, Option.bind_some, st_row h1 (by simp) rfl, Option.bind_some]
      rw [List.drop_zero, bs_take] at g2
      rw [List.take_of_length_le (by rw [bs_len]; exact Nat.le_refl _), bs_drop] at g4
      exact ⟨s1, _, rfl, g2, ⟨s2, by rw [List.getElem?_set_self hk]; rfl, g4⟩, Kp.set _ _ _, by simp⟩
theorem l17 (n : Nat) {H : VH} {s : VS} {l : List UInt8} (hs : IsB s l) (hl : l.length < 1000000) : ∀ (m i : Nat), i ≤ l.length → l.length < i + m → L17_0 n m s (numA 0 (l.take i) : Int) (i : Int) H = some (.int .u64 (numA 0 l : Int), H) := by
  intro m
  induction m with
  | zero => intro i h1 h2; omega
  | succ m ih =>
    intro i h1 h2
    rw [L17_0_eq, hs.len, bs_len]
    by_cases hi : i < l.length
    · rw [decide_eq_true (by omega), cond_true]
      obtain ⟨b, hb⟩ : ∃ b, l[i]? = some b := ⟨_, List.getElem?_eq_getElem hi⟩
      rw [hs.rd hb]
      have hx := numA_lt (x := 0) (by decide) (l.take i)
      have hb2 := b.toNat_lt
      have e : IntKind.wrap .u64 (IntKind.wrap .u64 ((numA 0 (l.take i) : Int) * 256) + IntKind.wrap .u64 (b.toNat : Int)) = (numA 0 (l.take (i + 1)) : Int) := by
        rw [numA_take hb]
        simp only [IntKind.wrap_u64]
        omega
      have e3 : IntKind.wrap .i64 ((i : Int) + 1) = ((i + 1 : Nat) : Int) := by rw [i64_in (by omega)]; rfl
      rw [e, e3]
      exact ih (i + 1) (by omega) (by omega)
    · rw [decide_eq_false (by omega), cond_false]
      have : i = l.length := by omega
      subst this
      rw [List.take_length]
theorem e17 (n : Nat) {H : VH} {k : Nat} {l : List UInt8} {f : Bool} (h : RS IT H k l f) (hf : f = true → l = []) {c : Nat} (hc : c < 1000000) (hn : c ≤ n) :
    ∃ H', vF P tab (n + 2) 17 [.ptr (.ob k 0), .int .i64 (c : Int)] H = some (.int .u64 (numA 0 (takeS c l f).1 : Int), H') ∧ RS IT H' k (takeS c l f).2.1 (takeS c l f).2.2 ∧ Kp H H' [k] ∧ H'.length = H.length := by
  obtain ⟨s', H', g1, g2, g3⟩ := e40 n h hf hc
  have hlen := takeS_len c l f
  rw [vF_body rfl, f17_eq, callD_sl g1, Option.bind_some]
  exact ⟨H', l17 (n + 1) g2 (by omega) (n + 1) 0 (by omega) (by omega), g3⟩
theorem textS_inv {l : List UInt8} {f : Bool} (h : f = true → l = []) : (textS l f).2.2 = true → (textS l f).2.1 = [] := takeS_inv _ (takeS_inv _ h)
theorem RS.flag {T : TypeId} {H : VH} {k : Nat} {l : List UInt8} {f : Bool} (h : RS T H k l f) : ldV (.flat .bool) H (.ob k 1) = some f := by
  obtain ⟨s, h1, h2⟩ := h
  rw [ld_row h1]; rfl
theorem RS.left {T : TypeId} {H : VH} {k : Nat} {l : List UInt8} {f : Bool} (h : RS T H k l f) : ∃ s, ldV (.flat (.slice 5)) H (.ob k 0) = some s ∧ IsB s l := by
  obtain ⟨s, h1, h2⟩ := h
  rw [ld_row h1]
  simp only [List.getElem?_cons_zero, Option.bind_some, fd_sl]
  exact ⟨s, rfl, h2⟩
theorem e21 (n : Nat) {H : VH} {k : Nat} {l : List UInt8} {f : Bool} (h : RS IT H k l f) (hf : f = true → l = []) (hn : 300 ≤ n) :
    ∃ H', vF P tab (n + 3) 21 [.ptr (.ob k 0)] H = some (.str ⟨(textS l f).1.toArray⟩, H') ∧ RS IT H' k (textS l f).2.1 (textS l f).2.2 ∧ Kp H H' [k] ∧ H'.length = H.length := by
  obtain ⟨H1, g1, g2, g3, g4⟩ := e17 n h hf (c := 2) (by omega) (by omega)
  rw [show ((2 : Nat) : Int) = 2 from rfl] at g1
  have hl := numA2 (takeS_len 2 l f)
  rw [vF_body rfl, f21_eq, callD_int g1, Option.bind_some]
  simp only [nn, atO, Option.bind_some, Nat.zero_add]
  rw [g2.flag, Option.bind_some]
  have hf2 := takeS_inv 2 hf
  unfold textS
  cases hq : (takeS 2 l f).2.2 with
  | true =>
    rw [hq] at g2
    rw [cond_true]
    refine ⟨H1, ?_, ?_, g3, g4⟩
    · simp [takeS]
    · simpa [takeS] using g2
  | false =>
    rw [hq] at g2
    obtain ⟨s', H2, g5, g6, g7, g8, g9⟩ := e40 (n + 1) g2 (fun h => by cases h) (c := numA 0 (takeS 2 l f).1) (by omega)
    rw [cond_false, i64_nat (by omega), callD_sl g5, Option.bind_some]
    simp only
    rw [g6.str, Option.bind_some]
    exact ⟨H2, rfl, g7, g3.trans g8 (fun x hx _ => hx) (fun y hy _ => hy), by omega⟩
theorem e27 (n : Nat) {H : VH} {k : Nat} {l : List UInt8} {f : Bool} (h : RS IT H k l f) (hf : f = true → l = []) : vF P tab (n + 1) 27 [.ptr (.ob k 0)] H = some (.bool (endS l f == 0), H) := by
  rw [vF_body rfl, f27_eq]
  simp only [nn, atO, Option.bind_some, Nat.zero_add]
  rw [h.flag, Option.bind_some]
  unfold endS
  cases f with
  | true => rfl
  | false =>
    obtain ⟨s, h1, h2⟩ := h.left
    simp only [Bool.not_false, cond_true]
    rw [h1, Option.bind_some, h2.len, bs_len]
    cases l with
    | nil => rfl
    | cons b l =>
      have : ((((b :: l).length : Nat) : Int) == 0) = false := by simp only [List.length_cons, beq_eq_false_iff_ne, ne_eq]; omega
      rw [this]
      simp
end Go.Proofs.Ythodknboobgfpaa
