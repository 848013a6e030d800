import Derived.Test.YtibdinelkpbhaaaB15c
set_option maxRecDepth 100000
set_option linter.unusedVariables false
set_option linter.unusedSimpArgs false
namespace Go.Proofs.Ytibdinelkpbhaaa
open Go.Proofs.Ytibdinelkpbhaaa.Sh Go.Proofs.Ytibdinelkpbhaaa.Sh.V Go.RowKit Go.Proofs.Ytibdinelkpbhaaa.Sh.Lk
/-! ### Stuck -/
/-- What a closure of Stuck holds on to. -/
structure SG (k : Nat) (F : List Nat) (t : Tb) (p a : Nat) (o : Int) (H : VH) : Prop where
  t : TO H k F t
  p : H[p]? = some (.row (23 + boxK) [.ptr (.ob k 0)])
  a : H[a]? = some (.row (3 + boxK) [.int .i64 o])
theorem SG.keep {k : Nat} {F : List Nat} {t : Tb} {p a : Nat} {o : Int} {H H' : VH} {X : List Nat} (h : SG k F t p a o H) (kp : Kp H H' X) (hF : ∀ x ∈ F, x ∉ X) (hp : p ∉ X) (ha : a ∉ X) : SG k F t p a o H' :=
  ⟨h.t.keep kp hF, kp.ob h.p hp, kp.ob h.a ha⟩
theorem SG.kn {k : Nat} {F : List Nat} {t : Tb} {p a : Nat} {o : Int} {H H' : VH} (h : SG k F t p a o H) (kp : Kp H H' []) : SG k F t p a o H' := h.keep kp (fun x _ => by simp) (by simp) (by simp)
def stq (R : Int → List Int) (o x : Int) : Bool := (sortI (R x)).contains o
theorem reachO_len {t : Tb} : ∀ (m : Nat) {l todo R : List Int}, reachO t m l todo = some R → l.length < 1801 → R.length < 1801
  | 0, l, todo, R, h, _ => by cases h
  | m + 1, l, [], R, h, hl => by injection h with h; subst h; exact hl
  | m + 1, l, o :: r, R, h, hl => by
    unfold reachO at h
    cases hg : decide (l.length + r.length + (aheadP t o).length < 1800) with
    | false => rw [hg] at h; cases h
    | true =>
      rw [hg, cond_true] at h
      have hg := of_decide_eq_true hg
      cases hc : l.contains o with
      | true => rw [hc, cond_true] at h; exact reachO_len m h hl
      | false => rw [hc, cond_false] at h; exact reachO_len m h (by simp; omega)
section
variable {k : Nat} {F : List Nat} {t : Tb} {p a : Nat} {o : Int} {R : Int → List Int}
theorem pS1 (n : Nat) (hn : 3000 ≤ n) (sz : ∀ key, (lkOf t key).hs.length + (lkOf t key).q.length < 1900) {H : VH} (h : SG k F t p a o H) (x : Int) (hR : reachO t 1000 [] (aheadP t x) = some (R x)) :
    ∃ H', V.callD (vF P tab (n + 6)) P false (.one (.flat .bool)) 30 [.int .i64 x, .ptr (.ob p 0), .ptr (.ob a 0)] H = some (!(stq R o x), H') ∧ Kp H H' [] := by
  obtain ⟨s', H1, a1, a2, a3, a4⟩ := pR n hn h.t sz x hR
  have h1 := h.kn a3
  have lp : ∀ {H : VH}, SG k F t p a o H → ldV (.flat .ptr) H (.ob p 0) = some (.ob k 0) := fun h => by rw [ld_row h.p]; rfl
  have la : ∀ {H : VH}, SG k F t p a o H → ldV (.flat (.int .i64)) H (.ob a 0) = some o := fun h => by rw [ld_row h.a]; exact fd_int .i64 o
  refine ⟨H1, callD_bool ?_, a3⟩
  have s1 : V.stays H1 (hj (heldOf (.ob a 0) [.int .i64] [.int .i64 o]) []) = true := stays_step (τ := .int .i64) (la h1) []
  have s2 : V.stays H1 (hj (heldOf (.ob p 0) [.ptr] [.ptr (.ob k 0)]) []) = true := stays_step (τ := .ptr) (lp h1) []
  have hlen : (sortI (R x)).length < 2000 := by rw [sortI_len]; have := reachO_len _ hR (by simp); omega
  rw [vF_body rfl, f30_eq, lp h, Option.bind_some, la h, Option.bind_some, a1, Option.bind_some]
  show cond (V.stays H1 (hj (heldOf (.ob a 0) [.int .i64] [.int .i64 o]) [])) _ _ = _
  rw [s1, cond_true, p27 (n + 3) (by omega) a2 o hlen, Option.bind_some]
  show cond (V.stays H1 (hj (heldOf (.ob p 0) [.ptr] [.ptr (.ob k 0)]) [])) _ _ = _
  rw [s2, cond_true]
  rfl
/-- IndexFunc. -/
theorem l47 (n : Nat) (hn : 3000 ≤ n) (sz : ∀ key, (lkOf t key).hs.length + (lkOf t key).q.length < 1900) {s : VS} {l : List Int} (hl : l.length < 100000) (hR : ∀ x ∈ l, reachO t 1000 [] (aheadP t x) = some (R x)) : ∀ (m j : Nat) {H : VH}, Hr H 3 1 s (ints l) → SG k F t p a o H → j ≤ l.length → l.length < j + m →
    (∃ H', L47_0 (n + 6) m s (.ob p 0) (.ob a 0) (l.length : Int) (j : Int) H = some (.int .i64 (-1), H') ∧ (l.drop j).filter (stq R o) = l.drop j ∧ Kp H H' []) ∨
    ∃ i H', j ≤ i ∧ i < l.length ∧ L47_0 (n + 6) m s (.ob p 0) (.ob a 0) (l.length : Int) (j : Int) H = some (.int .i64 (i : Int), H') ∧ (l.drop j).filter (stq R o) = (l.drop j).take (i - j) ++ (l.drop (i + 1)).filter (stq R o) ∧ Kp H H' [] := by
  intro m
  induction m with
  | zero => intro j H _ _ h1 h2; omega
  | succ m ih =>
    intro j H hs hG h1 h2
    rw [L47_0_eq]
    by_cases hj : j < l.length
    · obtain ⟨y, hy⟩ := get_of hj
      obtain ⟨H1, b1, b2⟩ := pS1 n hn sz hG y (hR y (List.mem_of_getElem? hy))
      rw [decide_eq_true (by omega), cond_true, hs.rd1 (τ := .int .i64) (ints_get hy) (fd_int .i64 y), b1, Option.bind_some, inc_nat (by omega), drop_of hy]
      simp only
      cases hq : stq R o y with
      | false =>
        rw [Bool.not_false, cond_true]
        refine .inr ⟨j, H1, Nat.le_refl _, hj, rfl, ?_, b2⟩
        rw [List.filter_cons, hq, Nat.sub_self]
        rfl
      | true =>
        rw [Bool.not_true, cond_false, List.filter_cons, if_pos hq]
        rcases ih (j + 1) (hs.keep b2 (fun t _ => by simp)) (hG.kn b2) (by omega) (by omega) with ⟨H2, a, b, c⟩ | ⟨i, H2, a, b, c, d, e⟩
        · exact .inl ⟨H2, a, by rw [b], b2.trans c (fun x hx _ => hx) (fun x hx _ => hx)⟩
        · refine .inr ⟨i, H2, by omega, b, c, ?_, b2.trans e (fun x hx _ => hx) (fun x hx _ => hx)⟩
          rw [d, show i - j = (i - (j + 1)) + 1 by omega, List.take_succ_cons]; rfl
    · rw [decide_eq_false (by omega), cond_false]
      refine .inl ⟨H, rfl, ?_, Kp.refl _ _⟩
      rw [List.drop_eq_nil_of_le (by omega)]; rfl
/-- DeleteFunc. -/
theorem l29 (n : Nat) (hn : 3000 ≤ n) (sz : ∀ key, (lkOf t key).hs.length + (lkOf t key).q.length < 1900) {s : VS} (hF : ∀ x ∈ F, x ∉ hps s) (hp2 : p ∉ hps s) (ha2 : a ∉ hps s) : ∀ (m i j : Nat) {H : VH} {l : List Int}, Hr H 3 1 s (ints l) → SG k F t p a o H → (∀ x ∈ l.drop j, reachO t 1000 [] (aheadP t x) = some (R x)) → l.length < 100000 → i ≤ j → j ≤ l.length → l.length < j + m →
    ∃ s' H', L29_0 (n + 6) m s (.ob p 0) (.ob a 0) (i : Int) (j : Int) H = some (.sl 3 s', H') ∧ Hr H' 3 1 s' (ints (l.take i ++ (l.drop j).filter (stq R o))) ∧ Kp H H' (hps s) ∧ hps s' = hps s := by
  intro m
  induction m with
  | zero => intros; omega
  | succ m ih =>
    intro i j H l hs hG hR hl hij hj hm
    rw [L29_0_eq, hs.len, ints_len]
    by_cases hc : j < l.length
    · obtain ⟨y, hy⟩ := get_of hc
      have hdy := drop_of hy
      obtain ⟨H1, b1, b2⟩ := pS1 n hn sz hG y (hR y (by rw [hdy]; exact List.mem_cons_self ..))
      have hR' : ∀ x ∈ l.drop (j + 1), reachO t 1000 [] (aheadP t x) = some (R x) := fun x hx => hR x (by rw [hdy]; exact List.mem_cons_of_mem _ hx)
      have hs1 := hs.keep b2 (fun t _ => by simp)
      have hG1 := hG.kn b2
      rw [decide_eq_true (by omega), cond_true, hs.rd1 (τ := .int .i64) (ints_get hy) (fd_int .i64 y), b1, Option.bind_some, inc_nat (by omega), inc_nat (by omega), hdy, List.filter_cons]
      simp only
      cases hq : stq R o y with
      | false =>
        rw [Bool.not_false, Bool.not_true, cond_false]
        simp only [Bool.false_eq_true, if_false]
        obtain ⟨s', H', q1, q2, q3, q4⟩ := ih i (j + 1) hs1 hG1 hR' hl (by omega) (by omega) (by omega)
        exact ⟨s', H', q1, q2, b2.trans q3 (fun x hx _ => (by cases hx)) (fun x hx _ => hx), q4⟩
      | true =>
        rw [Bool.not_true, Bool.not_false, cond_true, if_pos rfl]
        obtain ⟨H2, a1, a2, a3, a4⟩ := hs1.set (i := i) (by rw [ints_len]; omega) (z := [ik y]) rfl rfl (fun h5 => L29_0 (n + 6) m s (.ob p 0) (.ob a 0) ((i + 1 : Nat) : Int) ((j + 1 : Nat) : Int) h5)
        rw [a1]
        rw [← ints_set] at a2
        obtain ⟨s', H', b1, b2', b3, b4⟩ := ih (i + 1) (j + 1) a2 (hG1.keep a3 hF hp2 ha2) (by rw [List.drop_set_of_lt (by omega)]; exact hR') (by rw [List.length_set]; exact hl) (by omega) (by rw [List.length_set]; omega) (by rw [List.length_set]; omega)
        refine ⟨s', H', b1, ?_, (b2.trans a3 (Z := hps s) (fun x hx _ => (by cases hx)) (fun x hx _ => hx)).trans b3 (fun x hx _ => hx) (fun x hx _ => hx), b4⟩
        have e3 : (l.set i y).take (i + 1) ++ ((l.set i y).drop (j + 1)).filter (stq R o) = l.take i ++ y :: (l.drop (j + 1)).filter (stq R o) := by
          rw [List.drop_set_of_lt (by omega), List.set_eq_take_append_cons_drop, if_pos (by omega)]
          rw [List.take_append, List.length_take, Nat.min_eq_left (by omega), show i + 1 - i = 1 by omega, List.take_of_length_le (by rw [List.length_take]; omega)]
          simp
        rw [e3] at b2'
        exact b2'
    · have hjl : j = l.length := by omega
      subst hjl
      rw [decide_eq_false (by omega), cond_false, List.drop_eq_nil_of_le (Nat.le_refl _), List.filter_nil, List.append_nil]
      obtain ⟨s2, a1, a2, a3, a4⟩ := hs.drop (c := i) (by rw [ints_len]; omega)
      rw [a1, Option.bind_some]
      obtain ⟨H1, es', b1, b2, b3, b4, b5, b6⟩ := hs.clear (c := i) (by rw [ints_len]; omega) a1 elem3 zero3 rfl (by decide) rfl
      rw [b1, Option.bind_some]
      obtain ⟨s3, c1, c2, c3⟩ := b2.take (c := i) (by rw [b3, ints_len]; omega)
      rw [c1, Option.bind_some]
      refine ⟨s3, H1, rfl, ?_, b5, c3⟩
      rw [b4, ← ints_take] at c2
      exact c2
theorem p29d (n : Nat) (hn : 3000 ≤ n) (sz : ∀ key, (lkOf t key).hs.length + (lkOf t key).q.length < 1900) {s : VS} (hF : ∀ x ∈ F, x ∉ hps s) (hp2 : p ∉ hps s) (ha2 : a ∉ hps s) {H : VH} {l : List Int} (hs : Hr H 3 1 s (ints l)) (hG : SG k F t p a o H) (hR : ∀ x ∈ l, reachO t 1000 [] (aheadP t x) = some (R x)) (hl : l.length < 2000) :
    ∃ s' H', V.callD (vF P tab (n + 8)) P false (.one (.flat (.slice 3))) 29 [.sl 3 s, .func (.func 30) [] [.ptr (.ob p 0), .ptr (.ob a 0)]] H = some (s', H') ∧ Hr H' 3 1 s' (ints (l.filter (stq R o))) ∧ Kp H H' (hps s) ∧ hps s' = hps s := by
  have hc : ∀ (r : Int) (H' : VH), L47_0 (n + 6) (n + 6) s (.ob p 0) (.ob a 0) (l.length : Int) ((0 : Nat) : Int) H = some (.int .i64 r, H') → V.callD (vF P tab (n + 7)) P false (.one (.flat (.int .i64))) 47 [.sl 3 s, .func (.func 30) [] [.ptr (.ob p 0), .ptr (.ob a 0)]] H = some (r, H') := fun r H' h => by
    refine callD_int ?_
    rw [vF_body rfl, f47_eq, hs.len, ints_len]
    exact h
  rcases l47 n hn sz (by omega) hR (n + 6) 0 hs hG (Nat.zero_le _) (by omega) with ⟨H1, a, b, c⟩ | ⟨i, H1, a, b, c, d, e⟩
  · refine ⟨s, H1, callD_sl ?_, ?_, ⟨c.len, fun i hi _ => c.at_ i hi (by simp)⟩, rfl⟩
    · rw [vF_body rfl, f29_eq, hc _ _ a, Option.bind_some]; rfl
    · rw [List.drop_zero] at b; rw [b]; exact hs.keep c (fun t _ => by simp)
  · obtain ⟨s', H', e1, e2, e3, e4⟩ := l29 (n + 1) (by omega) sz hF hp2 ha2 (n + 7) i (i + 1) (hs.keep e (fun t _ => by simp)) (hG.kn e) (fun x hx => hR x (List.mem_of_mem_drop hx)) (by omega) (by omega) (by omega) (by omega)
    refine ⟨s', H', callD_sl ?_, ?_, e.trans e3 (fun x hx _ => (by cases hx)) (fun x hx _ => hx), e4⟩
    · rw [vF_body rfl, f29_eq, hc _ _ c, Option.bind_some]
      simp only
      have : ((i : Int) == (-1)) = false := by
        have : (i : Int) ≠ -1 := by omega
        simp
      rw [this, cond_false, inc_nat (by omega)]
      exact e1
    · rw [List.drop_zero, Nat.sub_zero] at d
      rw [d]; exact e2
end
/-- Stuck: who is reached and reaches back. -/
theorem pS (n : Nat) (hn : 3000 ≤ n) {H : VH} {k : Nat} {F : List Nat} {t : Tb} (h : TO H k F t) (sz : ∀ key, (lkOf t key).hs.length + (lkOf t key).q.length < 1900) (o : Int) {R : Int → List Int} (hR0 : reachO t 1000 [] (aheadP t o) = some (R o)) (hR : ∀ x ∈ R o, reachO t 1000 [] (aheadP t x) = some (R x)) :
    ∃ s' H', V.callD (vF P tab (n + 9)) P false (.one (.flat (.slice 3))) 12 [.ptr (.ob k 0), .int .i64 o] H = some (s', H') ∧ Hr H' 3 1 s' (ints ((sortI (R o)).filter (stq R o))) ∧ Kp H H' [] := by
  suffices hb : ∃ s' H', bodyV P tab (vF P tab (n + 8)) (n + 8) 12 [.ptr (.ob k 0), .int .i64 o] H = some (.sl 3 s', H') ∧ Hr H' 3 1 s' (ints ((sortI (R o)).filter (stq R o))) ∧ Kp H H' [] by
    obtain ⟨s', H', h1, h2⟩ := hb
    exact ⟨s', H', callD_sl (by rw [vF_body rfl]; exact h1), h2⟩
  rw [f12_eq]
  obtain ⟨H1, e1⟩ : ∃ H1 : VH, H1 = H ++ [VO.row (23 + boxK) [.ptr (.ob k 0)]] := ⟨_, rfl⟩
  obtain ⟨H2, e2⟩ : ∃ H2 : VH, H2 = H1 ++ [VO.row (3 + boxK) [.int .i64 o]] := ⟨_, rfl⟩
  have k1 : Kp H H1 [] := by rw [e1]; exact Kp.app _ _
  have k2 : Kp H1 H2 [] := by rw [e2]; exact Kp.app _ _
  have k12 : Kp H H2 [] := k1.trans k2 (fun x hx _ => hx) (fun x hx _ => hx)
  have hp1 : H1[H.length]? = some (.row (23 + boxK) [.ptr (.ob k 0)]) := by rw [e1]; exact app_last _ _
  have hG : SG k F t H.length H1.length o H2 := ⟨h.kn k12, k2.ob hp1 (by simp), by rw [e2]; exact app_last _ _⟩
  show ∃ s' H', ((ldV (.flat .ptr) ((H ++ [VO.row (23 + boxK) [.ptr (.ob k 0)]]) ++ [VO.row (3 + boxK) [.int .i64 o]]) (.ob H.length 0)).bind fun x1 =>
    ((ldV (.flat (.int .i64)) ((H ++ [VO.row (23 + boxK) [.ptr (.ob k 0)]]) ++ [VO.row (3 + boxK) [.int .i64 o]]) (.ob (List.length ((H ++ [.row (23 + boxK) [.ptr (.ob k 0)]]) : VH)) 0)).bind fun x2 =>
      ((V.callD (vF P tab (n + 8)) P false (.one (.flat (.slice 3))) 15 [.ptr x1, .int .i64 x2] ((H ++ [VO.row (23 + boxK) [.ptr (.ob k 0)]]) ++ [VO.row (3 + boxK) [.int .i64 o]])).bind fun r3 =>
        ((V.callD (vF P tab (n + 8)) P false (.one (.flat (.slice 3))) 29 [.sl 3 r3.1, .func (.func 30) [] [.ptr (.ob H.length 0), .ptr (.ob (List.length ((H ++ [.row (23 + boxK) [.ptr (.ob k 0)]]) : VH)) 0)]] r3.2).bind fun r4 =>
          (some (V.sl 3 r4.1, r4.2)))))) = _ ∧ _
  rw [← e1, ← e2]
  have lp : ldV (.flat .ptr) H2 (.ob H.length 0) = some (.ob k 0) := by rw [ld_row hG.p]; rfl
  have la : ldV (.flat (.int .i64)) H2 (.ob H1.length 0) = some o := by rw [ld_row hG.a]; exact fd_int .i64 o
  obtain ⟨s3, H3, a1, a2, a3, a4⟩ := pR (n + 3) (by omega) hG.t sz o hR0
  rw [lp, Option.bind_some, la, Option.bind_some, a1, Option.bind_some]
  simp only
  have hlen : (sortI (R o)).length < 2000 := by rw [sortI_len]; have := reachO_len _ hR0 (by simp); omega
  have hl2 : H2.length = H1.length + 1 := by rw [e2]; simp
  have hl1 : H1.length = H.length + 1 := by rw [e1]; simp
  obtain ⟨s4, H4, b1, b2, b3, b4⟩ := p29d n hn sz (fun x hx hx' => by have := h.lt x hx; have := a4 x hx'; omega) (fun hx' => by have := a4 _ hx'; omega) (fun hx' => by have := a4 _ hx'; omega) a2 (hG.kn a3) (fun x hx => hR x (mem_sortI.1 hx)) hlen
  rw [b1, Option.bind_some]
  exact ⟨s4, H4, rfl, b2, (k12.trans a3 (Z := []) (fun x hx _ => hx) (fun x hx _ => hx)).trans b3 (fun x hx _ => hx) (fun x hx hlt => by have := a4 x hx; omega)⟩
/-- Victim: the last of them. -/
def lastO (l : List Int) : Int × Bool := match l[l.length - 1]? with | none => (0, false) | some x => (x, true)
theorem pV (n : Nat) (hn : 3000 ≤ n) {H : VH} {k : Nat} {F : List Nat} {t : Tb} (h : TO H k F t) (sz : ∀ key, (lkOf t key).hs.length + (lkOf t key).q.length < 1900) (o : Int) {R : Int → List Int} (hR0 : reachO t 1000 [] (aheadP t o) = some (R o)) (hR : ∀ x ∈ R o, reachO t 1000 [] (aheadP t x) = some (R x)) :
    ∃ H', V.callD (vF P tab (n + 10)) P false (.tup [(.flat (.int .i64)), (.flat .bool)]) 13 [.ptr (.ob k 0), .int .i64 o] H = some (((lastO ((sortI (R o)).filter (stq R o))).1, (lastO ((sortI (R o)).filter (stq R o))).2, ()), H') ∧ Kp H H' [] := by
  obtain ⟨s', H1, a1, a2, a3⟩ := pS n hn h sz o hR0 hR
  suffices hb : bodyV P tab (vF P tab (n + 9)) (n + 9) 13 [.ptr (.ob k 0), .int .i64 o] H = some (.tup [.int .i64 (lastO ((sortI (R o)).filter (stq R o))).1, .bool (lastO ((sortI (R o)).filter (stq R o))).2], H1) by
    refine ⟨H1, callD_some _ (by rw [vF_body rfl]; exact hb) rfl, a3⟩
  rw [f13_eq, a1, Option.bind_some]
  simp only
  rw [a2.len, ints_len]
  have hlen : (sortI (R o)).length < 2000 := by rw [sortI_len]; have := reachO_len _ hR0 (by simp); omega
  have hl2 := flen (stq R o) (sortI (R o))
  generalize hL : (sortI (R o)).filter (stq R o) = L at a2 hl2 ⊢
  by_cases h0 : L.length = 0
  · have : L = [] := List.eq_nil_of_length_eq_zero h0
    subst this
    rfl
  · have e1 : (((L.length : Nat) : Int) == 0) = false := by
      have : (L.length : Int) ≠ 0 := by omega
      simpa using this
    obtain ⟨x, hx⟩ := get_of (l := L) (i := L.length - 1) (by omega)
    have e2 : IntKind.wrap .i64 ((L.length : Int) - 1) = ((L.length - 1 : Nat) : Int) := by
      have : (L.length : Int) - 1 = ((L.length - 1 : Nat) : Int) := by omega
      rw [this, i64_nat (by omega)]
    rw [e1, cond_false, e2, a2.rd1 (τ := .int .i64) (ints_get hx) (fd_int .i64 x)]
    unfold lastO
    rw [hx]
end Go.Proofs.Ytibdinelkpbhaaa
