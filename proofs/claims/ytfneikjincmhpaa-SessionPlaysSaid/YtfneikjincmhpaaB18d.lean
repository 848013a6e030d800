import Derived.Test.YtfneikjincmhpaaB18c
set_option maxRecDepth 100000
set_option linter.unusedVariables false
set_option linter.unusedSimpArgs false
namespace Go.Proofs.Ytfneikjincmhpaa
open Go.Proofs.Ytfneikjincmhpaa.Sh Go.Proofs.Ytfneikjincmhpaa.Sh.V Go.RowKit
/-! ### SessionOrder -/
theorem pays_of {v : V} (h : HasA P 45 v) : ∃ (s : VS) (es : List (List V)) (l : List (List UInt8)), v = .sl 22 s ∧ IsE s es ∧ PB es l ∧ l.length ≤ maxLen := by
  obtain ⟨d, s, es, h1, h2, h3, h4⟩ := hasA_sl (e := 22) (by kernel_rfl) h
  have : ∃ l, PB es l := by
    clear h2 h3
    induction es with
    | nil => exact ⟨[], .nil⟩
    | cons y es ih =>
      obtain ⟨l, hl⟩ := ih (fun z hz => h4 z (List.mem_cons_of_mem _ hz))
      obtain ⟨v, x, h5, h6, _⟩ := hasT_bytes (e := 5) (by kernel_rfl) (by kernel_rfl) (h4 y (List.mem_cons_self ..)).1
      rw [h5]
      exact ⟨x :: l, .cons h6 hl⟩
  obtain ⟨l, hl⟩ := this
  exact ⟨s, es, l, h1, h2, hl, by rw [← hl.len]; exact h3⟩
theorem feed_pull (p : List UInt8) {a b : Nat} (h : a ≤ b) : pull (p.take b) = ((pull (p.take a)).1 ++ (feedS (pull (p.take a)).2.1 ((p.take b).drop a) (pull (p.take a)).2.2).1, (feedS (pull (p.take a)).2.1 ((p.take b).drop a) (pull (p.take a)).2.2).2) := by
  have e : p.take b = p.take a ++ (p.take b).drop a := by
    conv => lhs; rw [← List.take_append_drop a (p.take b)]
    rw [List.take_take, Nat.min_eq_left h]
  conv => lhs; rw [e, pull_app _ _ _ (Nat.le_refl _)]
  unfold feedS
  by_cases hb : (pull (p.take a)).2.2 = true
  · rw [if_pos hb, if_pos hb, pull_broken _ _ (Nat.le_refl _) hb]; simp
  · rw [if_neg hb, if_neg hb]
abbrev s00 : PS := ⟨0, [], [], 0⟩
theorem pre_state {ls ys zs : List (List UInt8)} (h : hello :: ls = ys ++ zs) (hl : ls.length ≤ 4) : (paysS ys s00).st < 2 ∧ (paysS ys s00).out = [] ∧ (paysS ys s00).n = 0 ∧ (paysS ys s00).q.length ≤ 4 := by
  cases ys with
  | nil => exact ⟨by decide, rfl, rfl, by decide⟩
  | cons y ys =>
    injection h with h1 h2
    subst h1
    have hy : ys.length ≤ 4 := by
      have h3 : ls = ys ++ zs := h2
      rw [h3, List.length_append] at hl; omega
    rw [paysS_hello ys hy]
    exact ⟨(show 1 < 2 by decide), rfl, rfl, hy⟩
theorem paysS_app (a b : List (List UInt8)) (s : PS) : paysS (a ++ b) s = paysS b (paysS a s) := by unfold paysS; rw [List.foldl_append]
theorem pull_nil : pull [] = ([], [], false) := rfl
theorem pre_full {ls : List (List UInt8)} (h : ∀ x ∈ ls, 1 ≤ x.length ∧ x.length ≤ 60) : pull (frames (hello :: ls)) = (hello :: ls, [], false) := by
  have := pull_frames (hello :: ls) [] (fun x hx => by
    rcases List.mem_cons.1 hx with rfl | hx
    · decide
    · have := h x hx; omega)
  rw [List.append_nil, pull_nil, List.append_nil] at this
  exact this
theorem pre_ok {ls : List (List UInt8)} (h : ∀ x ∈ ls, 1 ≤ x.length ∧ x.length ≤ 60) (i : Nat) : (pull ((frames (hello :: ls)).take i)).2.2 = false ∧ ∃ zs, hello :: ls = (pull ((frames (hello :: ls)).take i)).1 ++ zs := by
  have e := pre_full h
  rw [← List.take_append_drop i (frames (hello :: ls)), pull_app _ _ _ (Nat.le_refl _)] at e
  by_cases hb : (pull ((frames (hello :: ls)).take i)).2.2 = true
  · rw [if_pos hb] at e
    injection e with _ e; injection e with _ e; cases e
  · rw [if_neg hb] at e
    injection e with e _
    exact ⟨by simpa using hb, _, e.symm⟩
theorem full_len {ls : List (List UInt8)} (h : ∀ x ∈ ls, 1 ≤ x.length ∧ x.length ≤ 60) (hl : ls.length ≤ 4) : (frames (hello :: ls)).length ≤ 310 := by
  have := frames_len (l := hello :: ls) (c := 60) (fun x hx => by
    rcases List.mem_cons.1 hx with rfl | hx
    · decide
    · exact (h x hx).2)
  rw [List.length_cons] at this
  omega
theorem o42 (n : Nat) {k ks : Nat} {s0 : VS} {es : List (List V)} {ls : List (List UInt8)} (hs : IsE s0 es) (hp : PB es ls) (hl : ls.length ≤ 4) (h60 : ∀ x ∈ ls, 1 ≤ x.length ∧ x.length ≤ 60) : ∀ (m i : Nat) {H : VH} {T : List Nat} {l : List UInt8}, Ses H k ks T 1 l false (ls.drop i) [] → i ≤ ls.length → ls.length < i + m →
    ∃ H', L4_2 (n + 30003) m s0 (.ob k 0) (i : Int) H = some (.bool true, H') := by
  intro m
  induction m with
  | zero => intros; omega
  | succ m ih =>
    intro i H T l h hi hm
    rw [L4_2_eq, hs.len, hp.len]
    obtain ⟨s', H1, T1, g1, g2, g3, g4, g5⟩ := e21s (n + 30001) h
    by_cases c : i < ls.length
    · have hd : ls.drop i ≠ [] := by rw [ne_eq, List.drop_eq_nil_iff]; omega
      obtain ⟨x, hx⟩ := get_of c
      have hx2 : ls.drop i = x :: ls.drop (i + 1) := by
        obtain ⟨h1, h2⟩ := List.getElem?_eq_some_iff.1 hx
        rw [List.drop_eq_getElem_cons c, h2]
      obtain ⟨v, hv, hrd⟩ := rdB hs hp hx
      have hdt : decide ((i : Int) < (ls.length : Int)) = true := decide_eq_true (by omega)
      rw [hdt, cond_true, callD_next g1, Option.bind_some]
      simp only
      rw [decide_eq_true hd]
      simp only [Bool.not_true, cond_false]
      rw [hrd]
      have hxm : x ∈ ls := List.mem_of_getElem? hx
      rw [hx2] at g2 g3
      have hlx := (h60 x hxm).2
      rw [callD_bool (e17 (n + 30002) g2 hv (by show x.length ≤ maxLen; rw [maxLen_eq]; omega) (by show x.length < _; omega)), Option.bind_some]
      simp only [List.headD_cons]
      rw [show decide True = true from rfl]
      simp only [Bool.not_true, cond_false]
      rw [inc_nat (by omega)]
      exact ih (i + 1) g3 (by omega) (by omega)
    · have : i = ls.length := by omega
      subst this
      have hdt : decide ((ls.length : Int) < (ls.length : Int)) = false := decide_eq_false (by omega)
      rw [List.drop_length] at g1 g3
      rw [hdt, cond_false, callD_next g1, Option.bind_some]
      simp only
      rw [show decide (([] : List (List UInt8)) ≠ []) = false by simp]
      simp only [Bool.not_false, cond_true]
      rw [callD_int (e16s (n + 30002) g3), Option.bind_some]
      exact ⟨H1, rfl⟩
theorem o41 (n : Nat) {k ks : Nat} {s0 s5 : VS} {es : List (List V)} {ls : List (List UInt8)} (hs : IsE s0 es) (hp : PB es ls) (hl : ls.length ≤ 4) (h60 : ∀ x ∈ ls, 1 ≤ x.length ∧ x.length ≤ 60) (h5 : IsB s5 (frames (hello :: ls))) {t : Nat} (ht : 1 ≤ t) (ht2 : t ≤ 20) : ∀ (m i : Nat) {H : VH} {T : List Nat},
    SesP H k ks T (pull ((frames (hello :: ls)).take i)).2.1 (pull ((frames (hello :: ls)).take i)).2.2 (paysS (pull ((frames (hello :: ls)).take i)).1 s00) → i ≤ 330 → 330 < i + m →
    ∃ H', L4_1 (n + 30003) m s0 s5 (.ob k 0) (t : Int) (i : Int) H = some (.bool true, H') := by
  intro m
  induction m with
  | zero => intros; omega
  | succ m ih =>
    intro i H T h hi hm
    have hfl := full_len h60 hl
    rw [L4_1_eq, h5.len, bs_len]
    by_cases c : i < (frames (hello :: ls)).length
    · have hdt : decide ((i : Int) < ((frames (hello :: ls)).length : Int)) = true := decide_eq_true (by omega)
      rw [hdt, cond_true]
      have step : ∀ b : Nat, i ≤ b → b ≤ (frames (hello :: ls)).length → ∃ z H1 T1, cutD H 5 1 s5 (some (i : Int)) (some (b : Int)) none = some z ∧ vF P tab (n + 30003) 12 [.ptr (.ob k 0), .sl 5 z] H = some (.int .i64 0, H1) ∧ SesP H1 k ks T1 (pull ((frames (hello :: ls)).take b)).2.1 (pull ((frames (hello :: ls)).take b)).2.2 (paysS (pull ((frames (hello :: ls)).take b)).1 s00) := by
        intro b h1 h2
        obtain ⟨z, g1, g2, _⟩ := h5.cut (lo := i) (hi := b) h1 (by rw [bs_len]; omega) (lo' := some (i : Int)) (hi' := some (b : Int)) (mx' := none) (.inl rfl) (.inl rfl) (.inl rfl) H 5 1
        have g2' : IsB z (((frames (hello :: ls)).take b).drop i) := by
          unfold bs at g2
          rw [← List.map_take, ← List.map_drop] at g2
          exact g2
        obtain ⟨f1, zs, f2⟩ := pre_ok h60 i
        obtain ⟨f3, f4, f5, f6⟩ := pre_state f2 hl
        obtain ⟨k1, zs', k2⟩ := pre_ok h60 b
        obtain ⟨k3, k4, k5, k6⟩ := pre_state k2 hl
        have hfp := feed_pull (frames (hello :: ls)) h1
        have hleft := (pull_left _ ((frames (hello :: ls)).take i) (Nat.le_refl _)).1
        have hti : ((frames (hello :: ls)).take i).length ≤ 310 := by rw [List.length_take]; omega
        have hdl : (((frames (hello :: ls)).take b).drop i).length ≤ 310 := by rw [List.length_drop, List.length_take]; omega
        obtain ⟨H1, T1, q1, q2, _, _⟩ := dlv (n + 3) (s' := paysS (pull ((frames (hello :: ls)).take b)).1 s00) (xs := (feedS (pull ((frames (hello :: ls)).take i)).2.1 (((frames (hello :: ls)).take b).drop i) (pull ((frames (hello :: ls)).take i)).2.2).1) (l' := (pull ((frames (hello :: ls)).take b)).2.1) (b' := (pull ((frames (hello :: ls)).take b)).2.2) h f3 g2' (by omega) (by rw [f4]; decide) (by omega) (by rw [hfp]) (by
          unfold delS
          simp only
          rw [k1, if_neg (by simp), hfp, paysS_app])
        rw [k5, f5] at q1
        exact ⟨z, H1, T1, g1, q1, q2⟩
      have hw : IntKind.wrap .i64 ((i : Int) + (t : Int)) = ((i + t : Nat) : Int) := by rw [← Int.natCast_add]; exact i64_nat (by omega)
      rw [hw]
      by_cases c2 : (frames (hello :: ls)).length < i + t
      · obtain ⟨z, H1, T1, g1, g2, g3⟩ := step (frames (hello :: ls)).length (by omega) (Nat.le_refl _)
        have hd2 : decide (((i + t : Nat) : Int) > ((frames (hello :: ls)).length : Int)) = true := decide_eq_true (by omega)
        rw [hd2, cond_true, g1, Option.bind_some, callD_int g2, Option.bind_some]
        simp only
        rw [show ((0 : Int) != 0) = false from rfl, cond_false]
        refine ih (i + t) (T := T1) ?_ (by omega) (by omega)
        rw [List.take_of_length_le (by omega)]
        rw [List.take_of_length_le (Nat.le_refl _)] at g3
        exact g3
      · obtain ⟨z, H1, T1, g1, g2, g3⟩ := step (i + t) (by omega) (by omega)
        have hd2 : decide (((i + t : Nat) : Int) > ((frames (hello :: ls)).length : Int)) = false := decide_eq_false (by omega)
        rw [hd2, cond_false, g1, Option.bind_some, callD_int g2, Option.bind_some]
        simp only
        rw [show ((0 : Int) != 0) = false from rfl, cond_false]
        exact ih (i + t) g3 (by omega) (by omega)
    · have hdt : decide ((i : Int) < ((frames (hello :: ls)).length : Int)) = false := decide_eq_false (by omega)
      rw [hdt, cond_false]
      rw [List.take_of_length_le (by omega), pre_full h60] at h
      simp only at h
      rw [paysS_hello ls hl] at h
      have := o42 n hs hp hl h60 (n + 30003) 0 (l := []) h (by omega) (by omega)
      exact this
theorem o40 (n : Nat) {s0 : VS} {es : List (List V)} {ls : List (List UInt8)} (hs : IsE s0 es) (hp : PB es ls) (hl : ls.length ≤ 4) {a : Nat} : ∀ (m i : Nat) {H : VH} {s5 : VS}, IsB s5 (frames (hello :: ls.take i)) → (∀ x ∈ ls.take i, 1 ≤ x.length ∧ x.length ≤ 60) → i ≤ ls.length → ls.length < i + m →
    ∃ H', L4_0 (n + 30003) m s0 (a : Int) s5 (i : Int) H = some (.bool true, H') := by
  intro m
  induction m with
  | zero => intros; omega
  | succ m ih =>
    intro i H s5 h5 h60 hi hm
    rw [L4_0_eq, hs.len, hp.len]
    by_cases c : i < ls.length
    · obtain ⟨x, hx⟩ := get_of c
      obtain ⟨v, hv, hrd⟩ := rdB hs hp hx
      have hdt : decide ((i : Int) < (ls.length : Int)) = true := decide_eq_true (by omega)
      rw [hdt, cond_true, hrd, hv.len, bs_len]
      by_cases c0 : x.length = 0
      · rw [show (((x.length : Nat) : Int) == 0) = true by rw [c0]; rfl, cond_true]
        exact ⟨H, rfl⟩
      · rw [show (((x.length : Nat) : Int) == 0) = false from nat_beq (c := 0) c0, cond_false, hrd, hv.len, bs_len]
        by_cases c6 : 60 < x.length
        · have hd6 : decide ((((x.length : Nat) : Int)) > 60) = true := decide_eq_true (by omega)
          rw [hd6, cond_true]
          exact ⟨H, rfl⟩
        · have hd6 : decide ((((x.length : Nat) : Int)) > 60) = false := decide_eq_false (by omega)
          rw [hd6, cond_false, hrd]
          obtain ⟨s1, g1, g2⟩ := e14 (n + 30001) (H := H) hv (by omega)
          rw [callD_sl g1, Option.bind_some]
          have h60' : ∀ y ∈ ls.take (i + 1), 1 ≤ y.length ∧ y.length ≤ 60 := fun y hy => by
            rw [List.take_add_one, hx] at hy
            rcases List.mem_append.1 hy with hy | hy
            · exact h60 y hy
            · simp at hy; subst hy; omega
          have hfl := full_len h60 (by rw [List.length_take]; omega)
          obtain ⟨s2, q1, q2⟩ := e13 (n + 30002) (H := H) h5 g2 (by rw [textI_len]; omega)
          simp only
          rw [callD_sl q1, Option.bind_some, inc_nat (by omega)]
          refine ih (i + 1) ?_ h60' (by omega) (by omega)
          rw [List.take_add_one, hx]
          show IsB s2 (frames (hello :: (ls.take i ++ [x])))
          rw [← List.cons_append, frames_app, frames_one]
          exact q2
    · have : i = ls.length := by omega
      subst this
      have hdt : decide ((ls.length : Int) < (ls.length : Int)) = false := decide_eq_false (by omega)
      rw [List.take_length] at h5 h60
      obtain ⟨H1, a1, a2, a3⟩ := e11s (n + 30001) H
      rw [hdt, cond_false, callD_ptr a1, Option.bind_some, show (20 : Int) = ((20 : Nat) : Int) from rfl, remI_nat (by decide), Option.bind_some, i64_nat (by omega), show (1 : Int) + ((a % 20 : Nat) : Int) = ((1 + a % 20 : Nat) : Int) by omega, i64_nat (by omega)]
      exact o41 n hs hp hl h60 h5 (t := 1 + a % 20) (by omega) (by omega) (n + 30003) 0 (by rw [List.take_zero, pull_nil]; exact a2) (by omega) (by omega)
theorem sessionOrder (n : Nat) {s0 : VS} {es : List (List V)} {ls : List (List UInt8)} (hs : IsE s0 es) (hp : PB es ls) (a : Nat) (H : VH) : ∃ H', vF P tab (n + 30010) 4 [.sl 22 s0, .int .u8 (a : Int)] H = some (.bool true, H') := by
  rw [vF_body rfl, f4_eq, callD_bool (e9 (n + 7) H), Option.bind_some]
  simp only [Bool.not_true, cond_false]
  rw [hs.len, hp.len]
  by_cases c : 4 < ls.length
  · have hdt : decide ((ls.length : Int) > 4) = true := decide_eq_true (by omega)
    rw [hdt, cond_true, callD_bool (e9 (n + 7) H), Option.bind_some]
    exact ⟨H, rfl⟩
  · have hdt : decide ((ls.length : Int) > 4) = false := decide_eq_false (by omega)
    rw [hdt, cond_false, if_pos (hello_if H)]
    obtain ⟨s, H2, b1, b2, b3⟩ := hello_frame (n + 30007) H
    rw [callD_sl b1, Option.bind_some]
    exact o40 (n + 6) hs hp (by omega) (n + 30009) 0 (by rw [List.take_zero, frames_one]; exact b2) (by simp) (by omega) (by omega)
theorem sessionOrder_law (us : List V) (h : HasAs P [45, 5] us) : ∃ n H', vF P tab n 4 us [] = some (.bool true, H') := by
  match us, h with
  | [u0, u1], ⟨h0, h1, _⟩ =>
    obtain ⟨s, es, l, rfl, i1, i2, _⟩ := pays_of h0
    obtain ⟨x, rfl, hx⟩ := hasA_int (k := .u8) (by kernel_rfl) h1
    obtain ⟨x1, x2⟩ := wf_u8 hx
    obtain ⟨a, rfl⟩ : ∃ a : Nat, x = (a : Int) := ⟨x.toNat, by omega⟩
    exact ⟨_, sessionOrder 0 i1 i2 a []⟩
end Go.Proofs.Ytfneikjincmhpaa
