import Derived.Test.YtlkpgimhcnmblaaB09e
set_option maxRecDepth 100000
set_option linter.unusedVariables false
set_option linter.unusedSimpArgs false
namespace Go.Proofs.Ytlkpgimhcnmblaa
open Go.Proofs.Ytlkpgimhcnmblaa.Sh Go.Proofs.Ytlkpgimhcnmblaa.Sh.V Go.RowKit
/-! ### RowsNested -/
open I
/-- Snapshots of the table and of its journal, one act apart. -/
inductive Ch : List (List (Key × Int) × List I.JE) → List (Key × Int) → List I.JE → Prop
  | nil : Ch [] [] []
  | step {sn m jr tl m'} : Ch sn m jr → Jd m tl m' → tl.length ≤ 1 → Ch (sn ++ [(m, jr)]) m' (jr ++ tl)
theorem Ch.back {sn m' jr x} (h : Ch (sn ++ [x]) m' jr) : ∃ tl, jr = x.2 ++ tl ∧ Jd x.1 tl m' ∧ tl.length ≤ 1 ∧ Ch sn x.1 x.2 := by
  generalize e : sn ++ [x] = l at h
  cases h with
  | nil => simp at e
  | step a b d =>
    obtain ⟨rfl, e2⟩ := List.append_inj' e rfl
    simp only [List.cons.injEq, and_true] at e2
    subst e2
    exact ⟨_, rfl, b, d, a⟩
theorem I.Jd.nd {m0 : List (Key × Int)} (h0 : Nd m0) {jr m} (h : Jd m0 jr m) : Nd m := (h.undo h0).1
theorem Ch.nd {sn m jr} (h : Ch sn m jr) : Nd m := by
  induction h with
  | nil => simp [Nd]
  | step a b d ih => exact b.nd ih
theorem Ch.zero {m jr} (h : Ch [] m jr) : m = [] ∧ jr = [] := by
  generalize e : ([] : List (List (Key × Int) × List I.JE)) = l at h
  cases h with
  | nil => exact ⟨rfl, rfl⟩
  | step a b d => simp at e
theorem jd_len {m0 : List (Key × Int)} {jr m} (h : Jd m0 jr m) : m.length ≤ m0.length + jr.length := by
  induction h with
  | nil => simp
  | @set jr m k a _ ih => have := (len_put m k a).2; rw [List.length_append, List.length_singleton]; exact Nat.le_trans this (by omega)
  | @cut jr m k _ ih => have := len_cut m k; rw [List.length_append, List.length_singleton]; exact Nat.le_trans this (by omega)
theorem Ch.len {sn m jr} (h : Ch sn m jr) : m.length ≤ jr.length ∧ jr.length ≤ sn.length := by
  induction h with
  | nil => simp
  | step a b d ih => have := jd_len b; rw [List.length_append, List.length_append, List.length_singleton]; omega
def mks (sn : List (List (Key × Int) × List I.JE)) : List Int := sn.map fun x => (x.2.length : Int)
def IsKs (sn : List (List (Key × Int) × List I.JE)) (es : List (List V)) : Prop := es.length = sn.length ∧ ∀ (i : Nat) (x : List (Key × Int) × List I.JE), sn[i]? = some x → ∃ w : VS, es[i]? = some [.sl 9 w] ∧ IsT w (sortK (x.1.map (·.1)))
theorem IsKs.app {sn es} (h : IsKs sn es) {x : List (Key × Int) × List I.JE} {w : VS} (hw : IsT w (sortK (x.1.map (·.1)))) : IsKs (sn ++ [x]) (es ++ [[.sl 9 w]]) := by
  obtain ⟨h1, h2⟩ := h
  refine ⟨by simp [h1], fun i y hy => ?_⟩
  by_cases c : i < sn.length
  · rw [List.getElem?_append_left c] at hy
    obtain ⟨w', a, b⟩ := h2 i y hy
    exact ⟨w', by rw [List.getElem?_append_left (by omega)]; exact a, b⟩
  · rw [List.getElem?_append_right (by omega)] at hy
    have e : i - sn.length = 0 := by
      obtain ⟨q, _⟩ := List.getElem?_eq_some_iff.1 hy
      simp at q; omega
    rw [e] at hy
    simp only [List.getElem?_cons_zero, Option.some.injEq] at hy
    subst hy
    exact ⟨w, by rw [List.getElem?_append_right (by omega), h1, e]; rfl, hw⟩
theorem n51 (n : Nat) {s4 s5 : VS} {sn0 : List (List (Key × Int) × List I.JE)} {es : List (List V)} (h4 : IsI s4 (mks sn0)) (h5 : IsE s5 es) (hk : IsKs sn0 es) (hz : sn0.length ≤ 100) :
    ∀ (m c : Nat) {H : VH} {k j : Nat} {T : List Nat} {mp mc : List (Key × Int)} {jr : List I.JE}, TB H k j T mp jr → Nd mp → Eqv mp mc → Ch (sn0.take c) mc jr → JK jr → c ≤ sn0.length → c < m →
    ∃ H', L5_1 (n + 210) m (.ob k 0) s4 s5 ((c : Int) - 1) H = some (.bool true, H') := by
  intro m
  induction m with
  | zero => intros; omega
  | succ m ih =>
    intro c H k j T mp mc jr h hn he hc hjk hle hlt
    rw [L5_1_eq]
    cases c with
    | zero =>
      have hdt : decide ((((0 : Nat) : Int) - 1) ≥ 0) = false := by decide
      rw [hdt, cond_false, callD_int (e26 (n + 209) h), Option.bind_some]
      obtain ⟨rfl, rfl⟩ := hc.zero
      obtain ⟨_, e2⟩ := he.keys hn (by simp [Nd])
      rw [e2]
      exact ⟨_, rfl⟩
    | succ c =>
      have ec : (((c + 1 : Nat) : Int) - 1) = (c : Int) := by omega
      have hdt : decide ((c : Int) ≥ 0) = true := decide_eq_true (by omega)
      obtain ⟨x, hx⟩ := get_of (l := sn0) (i := c) (by omega)
      obtain ⟨q1, q2⟩ := List.getElem?_eq_some_iff.1 hx
      rw [List.take_succ_eq_append_getElem q1, q2] at hc
      obtain ⟨tl, rfl, hjd, htl, hc'⟩ := hc.back
      obtain ⟨w, w1, w2⟩ := hk.2 c x hx
      have hm4 : (mks sn0)[c]? = some (x.2.length : Int) := by unfold mks; rw [List.getElem?_map, hx]; rfl
      have hl1 := jd_len hjd
      have hl2 := (he.keys hn (Ch.step hc' hjd htl).nd).2
      have hl3 := hc'.len
      rw [List.length_take] at hl3
      rw [ec, hdt, cond_true, isI_rd h4 hm4]
      obtain ⟨H1, T1, a1, a2, a3, a4⟩ := e25 (n + 208) (mark_nat x.2.length) h (by rw [List.length_append]; omega) (by rw [List.length_append]; omega) hjk
      rw [callD_unit a1, Option.bind_some, h5.ix w1 1, Option.bind_some]
      rw [List.drop_left, List.take_left] at a2
      obtain ⟨g0, g1⟩ := hjd.undo hc'.nd
      obtain ⟨g2, g3⟩ := g1 mp hn he
      obtain ⟨k1, k2⟩ := g3.keys g2 hc'.nd
      show ∃ H', ((ldV (.flat (.slice 9)) H1 (.fz [.sl 9 w])).bind _) = _
      rw [show ldV (.flat (.slice 9)) H1 (.fz [.sl 9 w]) = some w from rfl, Option.bind_some]
      obtain ⟨s6, H2, b1, b2, b3⟩ := e21 (n + 208) a2 (by omega)
      rw [callD_sl b1, Option.bind_some]
      simp only [held_fzp, stays_hn, cond_true]
      rw [k1] at b2
      have hs6 := sortK_len (x.1.map (·.1))
      rw [List.length_map] at hs6
      rw [callD_bool (e18 (n + 209) b2 w2 (by omega) (by omega) H2), Option.bind_some]
      simp only [decide_true, Bool.not_true, cond_false]
      rw [h4.ix (y := [ik (x.2.length : Int)]) (by unfold ints; rw [List.getElem?_map, hm4]; rfl) 1, Option.bind_some]
      have t4 := a2.kn b3
      show ∃ H', ((ldV (.flat (.int .i64)) H2 (.fz [ik (x.2.length : Int)])).bind _) = _
      rw [show ldV (.flat (.int .i64)) H2 (.fz [ik (x.2.length : Int)]) = some (x.2.length : Int) from rfl, Option.bind_some]
      rw [callD_int (e23 (n + 209) t4), Option.bind_some]
      simp only
      simp only [held_fzp, stays_hn2, cond_true]
      rw [bne_self_eq_false, cond_false]
      have hw : IntKind.wrap .i64 ((c : Int) - 1) = (c : Int) - 1 := by rw [IntKind.wrap_i64]; omega
      rw [hw]
      exact ih c t4 g2 g3 hc' (fun y hy => hjk y (List.mem_append_left _ hy)) (by omega) (by omega)
theorem n50 (n : Nat) {s0 : VS} {xs : List Ac} (hs : IsE s0 (acs xs)) (hok : ∀ x ∈ xs, x.ok) (hz : xs.length ≤ 30) : ∀ (m i : Nat) {H : VH} {k j : Nat} {T : List Nat} {mp : List (Key × Int)} {jr : List I.JE} {sn : List (List (Key × Int) × List I.JE)} {s4 s5 : VS} {es : List (List V)}, TB H k j T mp jr → Ch sn mp jr → JK jr → sn.length = i → Aq H 3 s4 (ints (mks sn)) → Aq H 30 s5 es → IsKs sn es → (∀ t ∈ toks s4, t ∉ T) → (∀ t ∈ toks s5, t ∉ T) → (∀ t ∈ toks s4, t ∉ toks s5) → i ≤ xs.length → xs.length < i + m →
    ∃ H', L5_0 (n + 210) m s0 (.ob k 0) s4 s5 (i : Int) H = some (.bool true, H') := by
  intro m
  induction m with
  | zero => intros; omega
  | succ m ih =>
    intro i H k j T mp jr sn s4 s5 es h hc hjk hsl h4 h5 hks d4 d5 d45 hi hlt
    have hcl := hc.len
    rw [L5_0_eq, hs.len, acs_len]
    by_cases c1 : i < xs.length
    · obtain ⟨a, ha⟩ := get_of c1
      have hdt : decide ((i : Int) < (xs.length : Int)) = true := decide_eq_true (by omega)
      have hao := hok a (List.mem_of_getElem? ha)
      rw [hdt, cond_true, callD_int (e23 (n + 209) h), Option.bind_some]
      simp only
      have hml : (mks sn).length = sn.length := by simp [mks]
      obtain ⟨s4', H1, g1, g2, g3, g4⟩ := h4.appE (sz := 1) (by_ := 8) (x := .fz [[.int .i64 (jr.length : Int)]] (.ex 1)) (.fz _ _) (by rw [ints_len, hml]; simp only [bound, List.length_singleton]; omega) (by rw [ints_len, hml]; simp only [bound, List.length_singleton]; omega)
      rw [g1, Option.bind_some]
      simp only
      have h1 := h.keep g3 (fun t ht hm => d4 t hm ht)
      have h51 := h5.keep g3 (fun t ht hm => d45 t hm ht)
      have d41 : ∀ t ∈ toks s4', t ∉ T := fun t ht hm => by
        rcases g4 t ht with h5 | h5
        · exact d4 t h5 hm
        · have := h.lt t hm; omega
      have d451 : ∀ t ∈ toks s4', t ∉ toks s5 := fun t ht hm => by
        rcases g4 t ht with h6 | h6
        · exact d45 t h6 hm
        · obtain ⟨g, hg⟩ := h5.tok_at hm
          have := (List.getElem?_eq_some_iff.1 hg).1; omega
      obtain ⟨sk', H2, b1, b2, b3⟩ := e21 (n + 208) h1 (by omega)
      rw [callD_sl b1, Option.bind_some]
      simp only
      have h2 := h1.kn b3
      have h42 := g2.keep b3 (fun t _ => by simp)
      have h52 := h51.keep b3 (fun t _ => by simp)
      have hcl1 : List.all [V.sl 9 sk'] closed1 = true := by simp only [List.all_cons, List.all_nil, Bool.and_true]; exact IsE.closed b2 9
      rw [if_pos hcl1]
      obtain ⟨s5', H3, q1, q2, q3, q4⟩ := h52.appE (sz := 1) (by_ := 24) (x := .fz [[.sl 9 (VS.strip sk')]] (.ex 1)) (.fz _ _) (by rw [hks.1]; simp only [bound, List.length_singleton]; omega) (by rw [hks.1]; simp only [bound, List.length_singleton]; omega)
      rw [q1, Option.bind_some]
      simp only
      have h3 := h2.keep q3 (fun t ht hm => d5 t hm ht)
      have h43 := h42.keep q3 (fun t ht hm => d451 t ht hm)
      have d52 : ∀ t ∈ toks s5', t ∉ T := fun t ht hm => by
        rcases q4 t ht with h5 | h5
        · exact d5 t h5 hm
        · have := h2.lt t hm; omega
      have d452 : ∀ t ∈ toks s4', t ∉ toks s5' := fun t ht hm => by
        rcases q4 t hm with h6 | h6
        · exact d451 t ht h6
        · obtain ⟨g, hg⟩ := h42.tok_at ht
          have := (List.getElem?_eq_some_iff.1 hg).1; omega
      have hks' := hks.app (x := (mp, jr)) (IsE.strip b2)
      have h43' : Aq H3 3 s4' (ints (mks (sn ++ [(mp, jr)]))) := by
        unfold mks; rw [List.map_append, ints_app]; exact h43
      rw [ix_act hs ha, Option.bind_some, at_0, Option.bind_some, ld_d, Option.bind_some, show (3 : Int) = ((3 : Nat) : Int) from rfl, remI_nat (by decide), Option.bind_some]
      have fin : ∀ {H4 : VH} {T4 : List Nat} {mp' : List (Key × Int)} {tl : List I.JE}, TB H4 k j T4 mp' (jr ++ tl) → Jd mp tl mp' → tl.length ≤ 1 → JK tl → Kp H3 H4 T → TN H3 T T4 → ∃ H', L5_0 (n + 210) m s0 (.ob k 0) s4' s5' (((i + 1 : Nat)) : Int) H4 = some (.bool true, H') := by
        intro H4 T4 mp' tl t4 j4 l4 k4 kp4 tn4
        refine ih (i + 1) t4 (hc.step j4 l4) (fun y hy => ?_) (by rw [List.length_append, List.length_singleton]; omega) (h43'.keep kp4 d41) (q2.keep kp4 d52) hks' (fun t ht hm => ?_) (fun t ht hm => ?_) d452 (by omega) (by omega)
        · rcases List.mem_append.1 hy with hy | hy
          · exact hjk y hy
          · exact k4 y hy
        · rcases tn4 t hm with h6 | h6
          · exact d41 t ht h6
          · obtain ⟨g, hg⟩ := h43'.tok_at ht
            have := (List.getElem?_eq_some_iff.1 hg).1; omega
        · rcases tn4 t hm with h6 | h6
          · exact d52 t ht h6
          · obtain ⟨g, hg⟩ := q2.tok_at ht
            have := (List.getElem?_eq_some_iff.1 hg).1; omega
      by_cases c2 : a.d % 3 = 0
      · have hb : (((a.d % 3 : Nat) : Int) == 0) = true := by rw [c2]; rfl
        rw [hb, cond_true, Option.bind_some, ld_act, Option.bind_some]
        simp only
        rw [c12 (n + 208) hao true H3, Option.bind_some]
        simp only
        obtain ⟨H4, T4, a1, a2, a3, a4⟩ := e24 (n + 207) h3 (keyS a true) (by omega)
        rw [callD_bool a1, Option.bind_some]
        simp only
        rw [inc_nat (by omega)]
        by_cases c3 : (getM mp (keyS a true)).isSome = true
        · rw [if_pos c3] at a2
          exact fin a2 (.cut _ .nil) (Nat.le_refl _) (fun y hy => by rw [List.mem_singleton] at hy; subst hy; exact keyS_len hao true) a3 a4
        · rw [if_neg c3] at a2
          have hcut : cutA mp (keyS a true) = mp := by
            rcases findV_ents (enc := I.enc) vkeq_sk (keyS a true) mp with ⟨_, _, _, h4⟩ | ⟨_, _, h1, _⟩
            · exact h4
            · rw [h1] at c3; exact absurd rfl c3
          rw [hcut] at a2
          exact fin (tl := []) (by rw [List.append_nil]; exact a2) .nil (Nat.zero_le _) (fun y hy => by cases hy) a3 a4
      · have hb : (((a.d % 3 : Nat) : Int) == 0) = false := by rw [beq_eq_false_iff_ne]; omega
        rw [hb, cond_false, Option.bind_some, ld_act, Option.bind_some, Option.bind_some, at_v, Option.bind_some, ld_v, Option.bind_some]
        simp only
        rw [c12 (n + 208) hao true H3, Option.bind_some]
        simp only [held_fzp, stays_hn, cond_true]
        obtain ⟨H4, T4, a1, a2, a3, a4⟩ := e20 (n + 207) h3 (key := keyS a true) a.v (keyS_len hao true) (by omega) (by omega)
        rw [callD_unit a1, Option.bind_some]
        simp only [stays_hn, cond_true]
        rw [inc_nat (by omega)]
        exact fin a2 (.set _ _ .nil) (Nat.le_refl _) (fun y hy => by rw [List.mem_singleton] at hy; subst hy; exact keyS_len hao true) a3 a4
    · have : i = xs.length := by omega
      subst this
      have hdt : decide ((xs.length : Int) < (xs.length : Int)) = false := decide_eq_false (by omega)
      rw [hdt, cond_false]
      have hw : IntKind.wrap .i64 ((xs.length : Int) - 1) = (xs.length : Int) - 1 := by rw [IntKind.wrap_i64]; omega
      rw [hw]
      exact n51 n h4.isE h5.isE hks (by omega) (n + 210) xs.length h hc.nd (fun _ => rfl) (by rw [List.take_of_length_le (by omega)]; exact hc) hjk (by omega) (by omega)
theorem rowsNested (n : Nat) {s0 : VS} {xs : List Ac} (hs0 : IsE s0 (acs xs)) (hok0 : ∀ x ∈ xs, x.ok) (H : VH) : ∃ H', vF P tab (n + 211) 5 [.sl 29 s0] H = some (.bool true, H') := by
  rw [vF_body rfl, f5_eq, callD_bool (e9 (n + 170) H), Option.bind_some]
  simp only [Bool.not_true, cond_false]
  rw [hs0.len, acs_len]
  by_cases c1 : 30 < xs.length
  · have hdt : decide ((xs.length : Int) > 30) = true := decide_eq_true (by omega)
    rw [hdt, cond_true, callD_bool (e9 (n + 170) H), Option.bind_some]
    exact ⟨H, rfl⟩
  have hdt : decide ((xs.length : Int) > 30) = false := decide_eq_false (by omega)
  rw [hdt, cond_false]
  obtain ⟨H1, T1, a1, a2, a3, a4⟩ := I.e19 (n + 209) H
  rw [callD_ptr a1, Option.bind_some]
  exact n50 n hs0 hok0 (by omega) (n + 210) 0 a2 .nil (fun y hy => by cases hy) rfl .nil .nil ⟨rfl, fun i x hx => by simp at hx⟩ (fun t ht => by cases ht) (fun t ht => by cases ht) (fun t ht => by cases ht) (Nat.zero_le _) (by omega)
theorem rowsNested_law (us : List V) (h : HasAs P [22] us) : ∃ n H', vF P tab n 5 us [] = some (.bool true, H') := by
  match us, h with
  | [u0], ⟨h0, _⟩ =>
    obtain ⟨s, l, rfl, i1, i2, _⟩ := acts_of h0
    exact ⟨_, rowsNested 0 i1 i2 []⟩
end Go.Proofs.Ytlkpgimhcnmblaa
