import Derived.Test.YtlkpgimhcnmblaaB09a
import Derived.Test.YtlkpgimhcnmblaaVc
set_option maxRecDepth 100000
set_option linter.unusedVariables false
set_option linter.unusedSimpArgs false
namespace Go.Proofs.Ytlkpgimhcnmblaa
open Go.Proofs.Ytlkpgimhcnmblaa.Sh Go.Proofs.Ytlkpgimhcnmblaa.Sh.V Go.RowKit
/-! ### Are texts alike? -/
theorem l18 (n : Nat) {a b : VS} {la lb : List Key} (ha : IsT a la) (hb : IsT b lb) (hl : la.length = lb.length) (hz : la.length < 1000000000) (H : VH) : ∀ (m i : Nat), i ≤ la.length → la.length < i + m → L18_0 n m a b (i : Int) H = some (.bool (decide (la.drop i = lb.drop i)), H) := by
  intro m
  induction m with
  | zero => intros; omega
  | succ m ih =>
    intro i hi hm
    rw [L18_0_eq, isT_len ha]
    by_cases c : i < la.length
    · obtain ⟨x, hx⟩ := get_of c
      obtain ⟨y, hy⟩ := get_of (l := lb) (i := i) (by omega)
      have hdt : decide ((i : Int) < (la.length : Int)) = true := decide_eq_true (by omega)
      rw [hdt, cond_true, isT_rd ha hx, isT_rd hb hy, strEq_iff]
      obtain ⟨h1, h2⟩ := List.getElem?_eq_some_iff.1 hx
      obtain ⟨h3, h4⟩ := List.getElem?_eq_some_iff.1 hy
      rw [List.drop_eq_getElem_cons h1, List.drop_eq_getElem_cons h3, h2, h4]
      by_cases e : x = y
      · have e2 : decide (x :: la.drop (i + 1) = y :: lb.drop (i + 1)) = decide (la.drop (i + 1) = lb.drop (i + 1)) := by simp [e]
        rw [e2, decide_eq_true e, Bool.not_true, cond_false, inc_nat (by omega)]
        exact ih (i + 1) (by omega) (by omega)
      · have e2 : decide (x :: la.drop (i + 1) = y :: lb.drop (i + 1)) = false := by simp [e]
        rw [e2, decide_eq_false e, Bool.not_false, cond_true]
    · have hdt : decide ((i : Int) < (la.length : Int)) = false := decide_eq_false (by omega)
      rw [hdt, cond_false, List.drop_eq_nil_of_le (by omega), List.drop_eq_nil_of_le (by omega)]
      simp
theorem e18 (n : Nat) {a b : VS} {la lb : List Key} (ha : IsT a la) (hb : IsT b lb) (hz : la.length < 1000000000) (hn : la.length < n) (H : VH) : vF P tab (n + 1) 18 [.sl 9 a, .sl 9 b] H = some (.bool (decide (la = lb)), H) := by
  refine vF_lone (r := .bool (decide (la = lb))) (H1 := []) rfl (by simp [closed_slv 9 ha, closed_slv 9 hb]) ?_ rfl
  show bodyV P tab (vF P tab n) n 18 [.sl 9 a.strip, .sl 9 b.strip] [] = _
  rw [f18_eq, isT_len ha.strip, isT_len hb.strip]
  by_cases h : la.length = lb.length
  · have e : (((la.length : Nat) : Int) != ((lb.length : Nat) : Int)) = false := by rw [h]; simp
    rw [e, cond_false]
    have := l18 n ha.strip hb.strip h hz [] n 0 (by omega) (by omega)
    exact this
  · have e : (((la.length : Nat) : Int) != ((lb.length : Nat) : Int)) = true := by simp only [bne_iff_ne, ne_eq]; omega
    have e2 : la ≠ lb := fun hh => h (by rw [hh])
    rw [e, cond_true, decide_eq_false e2]
/-! ### Texts, rising -/
theorem l22i (n m0 : Nat) {s0 s3 : VS} {l out : List Key} (hs : IsT s0 l) (ho : IsT s3 out) {i : Nat} {x : Key} (hx : l[i]? = some x) (hbl : out.length < 1000000) : ∀ (m k : Nat) {H : VH} {s5 : VS} {acc : List Key} {done : Bool}, Aq H 9 s5 (strs acc) → acc.length ≤ k + done.toNat → k ≤ out.length → out.length < k + m →
    ∃ s' H', L22_1 n m0 m s0 s3 (i : Int) s5 done (k : Int) H = L22_0 n m0 s0 s' (IntKind.wrap .i64 ((i : Int) + 1)) H' ∧ IsT s' (acc ++ if done = true then out.drop k else insR x (out.drop k)) := by
  intro m
  induction m with
  | zero => intros; omega
  | succ m ih =>
    intro k H s5 acc done h hal hk hm
    have hal2 : acc.length ≤ k + 1 := by cases done <;> simp at hal <;> omega
    have hal1 : done = false → acc.length ≤ k := fun e => by subst e; simpa using hal
    rw [L22_1_eq, isT_len ho]
    have app : ∀ {H : VH} {s5 : VS} {acc : List Key} (y : Key), Aq H 9 s5 (strs acc) → acc.length ≤ k + 2 → ∃ s' H', appD true H 1 16 9 s5 (.fz [[.str ⟨y.toArray⟩]] (.ex 1)) = some (s', H') ∧ Aq H' 9 s' (strs (acc ++ [y])) := by
      intro H s5 acc y h hal
      obtain ⟨s', H', g1, g2, _⟩ := h.appE (sz := 1) (by_ := 16) (x := .fz [[.str ⟨y.toArray⟩]] (.ex 1)) (.fz _ _) (by rw [strs_len]; simp only [bound, List.length_singleton]; omega) (by rw [strs_len]; simp only [bound, List.length_singleton]; omega)
      exact ⟨s', H', g1, by rw [strs_app]; exact g2⟩
    by_cases c : k < out.length
    · obtain ⟨o, hyo⟩ := get_of c
      obtain ⟨h1, h2⟩ := List.getElem?_eq_some_iff.1 hyo
      have hdt : decide ((k : Int) < (out.length : Int)) = true := decide_eq_true (by omega)
      rw [hdt, cond_true, List.drop_eq_getElem_cons h1, h2, inc_nat (by omega)]
      cases done with
      | true =>
        simp only [Bool.not_true, cond_false, cond_true]
        rw [isT_rd ho hyo]
        obtain ⟨s1, H1, g1, g2⟩ := app o h (by omega)
        rw [g1, Option.bind_some]
        obtain ⟨s', H', r1, r2⟩ := ih (k + 1) (done := true) g2 (by rw [List.length_append, List.length_singleton, Bool.toNat_true]; omega) (by omega) (by omega)
        refine ⟨s', H', r1, ?_⟩
        simp only [if_true] at r2 ⊢
        rw [List.append_assoc] at r2
        exact r2
      | false =>
        simp only [Bool.not_false, cond_false, cond_true]
        rw [isT_rd hs hx, isT_rd ho hyo, less_of]
        by_cases hlt : x < o
        · rw [decide_eq_true hlt, cond_true, isT_rd hs hx]
          have hal0 := hal1 rfl
          obtain ⟨s1, H1, g1, g2⟩ := app x h (by omega)
          rw [g1, Option.bind_some, isT_rd ho hyo]
          obtain ⟨s2, H2, g3, g4⟩ := app o g2 (by rw [List.length_append, List.length_singleton]; omega)
          simp only
          rw [g3, Option.bind_some]
          obtain ⟨s', H', r1, r2⟩ := ih (k + 1) (done := true) g4 (by simp only [List.length_append, List.length_singleton, Bool.toNat_true]; omega) (by omega) (by omega)
          refine ⟨s', H', r1, ?_⟩
          simp only [if_true] at r2
          simp only [Bool.false_eq_true, if_false, insR, if_pos hlt]
          simpa using r2
        · rw [decide_eq_false hlt, cond_false, isT_rd hs hx, isT_rd ho hyo, isT_rd ho hyo, strEq_iff]
          obtain ⟨s1, H1, g1, g2⟩ := app o h (by omega)
          rw [g1, Option.bind_some]
          obtain ⟨s', H', r1, r2⟩ := ih (k + 1) (done := decide (x = o)) g2 (by rw [List.length_append, List.length_singleton]; have := hal1 rfl; omega) (by omega) (by omega)
          refine ⟨s', H', r1, ?_⟩
          simp only [Bool.false_eq_true, if_false, insR, if_neg hlt]
          by_cases he : x = o
          · rw [if_pos he]
            simp only [he, decide_true, if_true] at r2
            simpa using r2
          · rw [if_neg he]
            simp only [he, decide_false, Bool.false_eq_true, if_false] at r2
            simpa using r2
    · have hdt : decide ((k : Int) < (out.length : Int)) = false := decide_eq_false (by omega)
      rw [hdt, cond_false, List.drop_eq_nil_of_le (by omega)]
      cases done with
      | true =>
        simp only [Bool.not_true, cond_false, if_true, List.append_nil]
        exact ⟨s5, H, rfl, h.isE⟩
      | false =>
        simp only [Bool.not_false, cond_true, Bool.false_eq_true, if_false, insR]
        rw [isT_rd hs hx]
        obtain ⟨s1, H1, g1, g2⟩ := app x h (by omega)
        rw [g1, Option.bind_some]
        exact ⟨s1, H1, rfl, g2.isE⟩
theorem l22 (n : Nat) {s0 : VS} {l : List Key} (hs : IsT s0 l) (hz : l.length < 900000) (hn : l.length < n) : ∀ (m i : Nat) {H : VH} {s3 : VS}, IsT s3 (riseS (l.take i)) → i ≤ l.length → l.length < i + m →
    ∃ s' H', L22_0 n m s0 s3 (i : Int) H = some (.sl 9 s', H') ∧ IsT s' (riseS l) := by
  intro m
  induction m with
  | zero => intros; omega
  | succ m ih =>
    intro i H s3 ho hi hm
    have hrl : (riseS (l.take i)).length ≤ i := by
      have h1 := riseS_len (l.take i)
      rw [List.length_take] at h1; omega
    rw [L22_0_eq, isT_len hs]
    by_cases c : i < l.length
    · obtain ⟨x, hx⟩ := get_of c
      obtain ⟨h1, h2⟩ := List.getElem?_eq_some_iff.1 hx
      have hdt : decide ((i : Int) < (l.length : Int)) = true := decide_eq_true (by omega)
      rw [hdt, cond_true]
      obtain ⟨s', H', g1, g2⟩ := l22i n m hs ho hx (by omega) n 0 (H := H) (acc := []) (done := false) .nil (Nat.zero_le _) (Nat.zero_le _) (by omega)
      rw [show ((0 : Nat) : Int) = 0 from rfl] at g1
      rw [g1, inc_nat (by omega)]
      refine ih (i + 1) ?_ (by omega) (by omega)
      have e : riseS (l.take (i + 1)) = insR x (riseS (l.take i)) := by
        rw [List.take_succ_eq_append_getElem h1, h2]
        unfold riseS
        rw [List.foldl_append]; rfl
      rw [e]
      simpa using g2
    · have : i = l.length := by omega
      subst this
      have hdt : decide ((l.length : Int) < (l.length : Int)) = false := decide_eq_false (by omega)
      rw [hdt, cond_false]
      rw [List.take_length] at ho
      exact ⟨s3, H, rfl, ho⟩
theorem e22 (n : Nat) {s0 : VS} {l : List Key} (hs : IsT s0 l) (hz : l.length < 900000) (hn : l.length < n) (H : VH) : ∃ s', vF P tab (n + 1) 22 [.sl 9 s0] H = some (.sl 9 s', H) ∧ IsT s' (riseS l) := by
  have hb : ∃ s' H', bodyV P tab (vF P tab n) n 22 [.sl 9 s0.strip] [] = some (.sl 9 s', H') ∧ IsT s' (riseS l) := by
    rw [f22_eq]
    exact l22 n hs.strip hz hn n 0 (by rw [List.take_zero]; exact .nil) (by omega) (by omega)
  obtain ⟨s', H', g1, g2⟩ := hb
  exact ⟨s'.strip, lone_E (H := H) rfl (by simp [closed_slv 9 hs]) g1 g2⟩
end Go.Proofs.Ytlkpgimhcnmblaa
