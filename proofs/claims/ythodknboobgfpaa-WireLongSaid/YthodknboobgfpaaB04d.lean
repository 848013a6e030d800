import Derived.Test.YthodknboobgfpaaB04c
set_option linter.unusedVariables false
set_option linter.unusedSimpArgs false
namespace Go.Proofs.Ythodknboobgfpaa
open Go.Proofs.Ythodknboobgfpaa.Sh Go.Proofs.Ythodknboobgfpaa.Sh.V Go.RowKit
theorem textsL_fail (n : Nat) (l : List UInt8) (acc : List (List UInt8)) : textsL n l true acc = ([], l, true) := by
  cases n <;> simp [textsL]
theorem l24 (n : Nat) (hn : 300 ≤ n) (c : Nat) (hc : c < 256) {k : Nat} : ∀ (m i : Nat) {H0 H : VH} {l : List UInt8} {f : Bool} {s : VS} {acc : List (List UInt8)}, RS IT H k l f → (f = true → l = []) → k < H0.length → Kp H0 H [k] → Ap H 9 s (ss acc) → (∀ t ∈ toks s, H0.length ≤ t) → acc.length = i → i ≤ c → c < i + m →
    ∃ s' H', L24_0 (n + 3) m (.ob k 0) (c : Int) s (i : Int) H = some (.sl 9 s', H') ∧ IsE s' (ss (textsL (c - i) l f acc).1) ∧ RS IT H' k (textsL (c - i) l f acc).2.1 (textsL (c - i) l f acc).2.2 ∧ ((textsL (c - i) l f acc).2.2 = true → (textsL (c - i) l f acc).2.1 = []) ∧ Kp H0 H' [k] := by
  intro m
  induction m with
  | zero => intros; omega
  | succ m ih =>
    intro i H0 H l f s acc h hfl hk0 hkp ha ht hlen h1 h2
    rw [L24_0_eq]
    simp only [nn, atO, Option.bind_some, Nat.zero_add]
    rw [h.flag, Option.bind_some]
    by_cases hi : i < c
    · rw [decide_eq_true (by omega), cond_true]
      cases f with
      | true =>
        rw [textsL_fail]
        simp only [Bool.not_true, cond_false, cond_true]
        exact ⟨.nil, H, rfl, by simpa [ss] using IsE.nil, h, fun _ => hfl rfl, hkp⟩
      | false =>
        simp only [Bool.not_false, cond_true]
        obtain ⟨H1, g1, g2, g3, g4⟩ := e21 n h hfl hn
        have hfl2 := textS_inv hfl
        rw [callD_str g1, Option.bind_some]
        simp only
        have hkp1 : Kp H0 H1 [k] := hkp.trans g3 (fun x hx _ => hx) (fun y hy _ => hy)
        obtain ⟨d, hd⟩ : ∃ d, c - i = d + 1 := ⟨c - i - 1, by omega⟩
        rw [hd]
        have ha1 : Ap H1 9 s (ss acc) := ha.keep g3 (fun t hts hx => by
          have h3 := ht t hts
          rw [List.mem_singleton] at hx
          omega)
        obtain ⟨s2, H2, q1, q2, q3, q4, _⟩ := ha1.app (sz := 1) (by_ := 16) (x := .fz [[.str ⟨(textS l false).1.toArray⟩]] (.ex 1)) (.fz _ _) (by simp only [ss_len, bound, List.length_cons, List.length_nil]; omega) (by simp only [ss_len, bound, List.length_cons, List.length_nil]; omega)
        rw [q1, Option.bind_some]
        simp only
        have e3 : IntKind.wrap .i64 ((i : Int) + 1) = ((i + 1 : Nat) : Int) := by rw [i64_in (by omega)]; rfl
        rw [e3]
        have hsa : ss acc ++ [[.str ⟨(textS l false).1.toArray⟩]] = ss (acc ++ [(textS l false).1]) := by simp [ss]
        rw [hsa] at q2
        have hkt : k ∉ toks s := fun hx => by have := ht k hx; omega
        have hlk := hkp1.len
        obtain ⟨s3, H3, r1, r2, r3, r4, r5⟩ := ih (i + 1) (g2.keep q3 hkt) hfl2 hk0 (hkp1.trans q3 (fun x hx _ => hx) (fun y hy hy2 => by have := ht y hy; omega)) q2 (fun t hts => by
          rcases q4 t hts with h3 | h3
          · exact ht t h3
          · omega) (by simp [hlen]) (by omega) (by omega)
        have et : textsL (d + 1) l false acc = textsL d (textS l false).2.1 (textS l false).2.2 (acc ++ [(textS l false).1]) := by
          cases hq : (textS l false).2.2 with
          | true => rw [textsL_fail]; simp [textsL, hq]
          | false => simp [textsL, hq]
        rw [et, ← show c - (i + 1) = d by omega]
        exact ⟨s3, H3, r1, r2, r3, r4, r5⟩
    · rw [decide_eq_false (by omega), cond_false]
      rw [show c - i = 0 by omega]
      cases f with
      | true =>
        rw [textsL_fail]
        exact ⟨.nil, H, rfl, by simpa [ss] using IsE.nil, h, fun _ => hfl rfl, hkp⟩
      | false => exact ⟨s, H, rfl, by simpa [textsL] using ha.isE, by simpa [textsL] using h, fun h => by simp [textsL] at h, hkp⟩
theorem numA_fail {c : Nat} {l : List UInt8} {f : Bool} (h : (takeS c l f).2.2 = true) : (takeS c l f).1 = [] := by
  unfold takeS at h ⊢
  split
  · rfl
  · split
    · rfl
    · simp_all
theorem e24 (n : Nat) {H : VH} {k : Nat} {l : List UInt8} {f : Bool} (h : RS IT H k l f) (hf : f = true → l = []) (hn : 300 ≤ n) (most : Nat) :
    ∃ s' H', vF P tab (n + 4) 24 [.ptr (.ob k 0), .int .i64 (most : Int)] H = some (.sl 9 s', H') ∧ IsE s' (ss (textsS most l f).1) ∧ RS IT H' k (textsS most l f).2.1 (textsS most l f).2.2 ∧ ((textsS most l f).2.2 = true → (textsS most l f).2.1 = []) ∧ Kp H H' [k] := by
  obtain ⟨H1, g1, g2, g3, g4⟩ := e17 (n + 1) h hf (c := 1) (by omega) (by omega)
  rw [show ((1 : Nat) : Int) = 1 from rfl] at g1
  have hc := numA1 (takeS_len 1 l f)
  have hk : k < H.length := by obtain ⟨s, h1, _⟩ := h; exact lt_of_ob h1
  rw [vF_body rfl, f24_eq, callD_int g1, Option.bind_some]
  simp only
  have e1 : IntKind.wrap .i64 (numA 0 (takeS 1 l f).1 : Int) = (numA 0 (takeS 1 l f).1 : Int) := i64_nat (by omega)
  rw [e1]
  have fin : ∀ {H2 : VH} {l2 : List UInt8} {f2 : Bool}, RS IT H2 k l2 f2 → (f2 = true → l2 = []) → Kp H H2 [k] → ∃ s' H', L24_0 (n + 3) (n + 3) (.ob k 0) (numA 0 (takeS 1 l f).1 : Int) .nil 0 H2 = some (.sl 9 s', H') ∧ IsE s' (ss (textsL (numA 0 (takeS 1 l f).1) l2 f2 []).1) ∧ RS IT H' k (textsL (numA 0 (takeS 1 l f).1) l2 f2 []).2.1 (textsL (numA 0 (takeS 1 l f).1) l2 f2 []).2.2 ∧ ((textsL (numA 0 (takeS 1 l f).1) l2 f2 []).2.2 = true → (textsL (numA 0 (takeS 1 l f).1) l2 f2 []).2.1 = []) ∧ Kp H H' [k] := by
    intro H2 l2 f2 h2 hf2 hkp
    have := l24 n hn (numA 0 (takeS 1 l f).1) hc (n + 3) 0 (H0 := H) h2 hf2 hk hkp (s := .nil) (acc := []) .nil (fun t ht => by cases ht) rfl (by omega) (by omega)
    simpa using this
  unfold textsS
  by_cases hm : most < numA 0 (takeS 1 l f).1
  · have hnf : (takeS 1 l f).2.2 = false := by
      cases hq : (takeS 1 l f).2.2 with
      | false => rfl
      | true => rw [numA_fail hq] at hm; exact absurd hm (Nat.not_lt_zero _)
    rw [decide_eq_true (by omega), cond_true, if_pos ⟨hm, hnf⟩]
    obtain ⟨s, g5, g6⟩ := g2
    have hk1 := lt_of_ob g5
    simp only [nn, atO, Option.bind_some, Nat.zero_add]
    rw [st_row g5 (by simp) rfl, Option.bind_some]
    rw [st_row (by rw [List.getElem?_set_self hk1]) (by simp [putAllV]) rfl, Option.bind_some]
    refine fin (l2 := []) (f2 := true) ⟨.nil, ?_, .nil⟩ (fun _ => rfl) ?_
    · rw [List.getElem?_set_self (by simpa using hk1)]; rfl
    · exact (g3.trans (Kp.set _ k _) (fun x hx _ => hx) (fun y hy _ => hy)).trans (Kp.set _ k _) (fun x hx _ => hx) (fun y hy _ => hy)
  · rw [decide_eq_false (by omega), cond_false, if_neg (fun h => hm h.1)]
    exact fin g2 (takeS_inv 1 hf) g3
end Go.Proofs.Ythodknboobgfpaa
