import Derived.Test.YtfneikjincmhpaaB18a
set_option maxRecDepth 100000
set_option linter.unusedVariables false
set_option linter.unusedSimpArgs false
namespace Go.Proofs.Ytfneikjincmhpaa
open Go.Proofs.Ytfneikjincmhpaa.Sh Go.Proofs.Ytfneikjincmhpaa.Sh.V Go.RowKit
/-! ### Payloads -/
structure PS where
  st : Nat
  q : List (List UInt8)
  out : List UInt8
  n : Nat
def faultS (e : Int) (s : PS) : PS := ⟨2, s.q, s.out ++ ans e 0, s.n⟩
def payS (x : List UInt8) (s : PS) : PS :=
  if s.st = 0 then if x = hello then ⟨1, s.q, s.out, s.n⟩ else faultS 10 s
  else if s.st = 1 then if 4 ≤ s.q.length then ⟨1, s.q, s.out ++ ans 8 0, s.n + 1⟩ else ⟨1, s.q ++ [x], s.out, s.n⟩
  else s
def paysS (xs : List (List UInt8)) (s : PS) : PS := xs.foldl (fun s x => payS x s) s
theorem payS_out (x : List UInt8) (s : PS) : (payS x s).out.length ≤ s.out.length + 17 := by
  unfold payS faultS
  have := ans_len
  split
  · split
    · simp
    · simp [ans_len]
  · split
    · split
      · simp [ans_len]
      · simp
    · omega
theorem payS_n (x : List UInt8) (s : PS) : s.n ≤ (payS x s).n ∧ (payS x s).n ≤ s.n + 1 := by
  unfold payS faultS
  split
  · split <;> exact ⟨Nat.le_refl _, Nat.le_succ _⟩
  · split
    · split
      · exact ⟨Nat.le_succ _, Nat.le_refl _⟩
      · exact ⟨Nat.le_refl _, Nat.le_succ _⟩
    · exact ⟨Nat.le_refl _, Nat.le_succ _⟩
theorem payS_q (x : List UInt8) (s : PS) : (payS x s).q.length ≤ s.q.length + 1 := by
  unfold payS faultS
  split
  · split <;> exact Nat.le_succ _
  · split
    · split
      · exact Nat.le_succ _
      · simp
    · exact Nat.le_succ _
theorem payS_deaf {s : PS} (h : 2 ≤ s.st) (x : List UInt8) : payS x s = s := by
  unfold payS
  rw [if_neg (by omega), if_neg (by omega)]
theorem paysS_deaf {s : PS} (h : 2 ≤ s.st) : ∀ xs, paysS xs s = s := by
  intro xs
  unfold paysS
  induction xs with
  | nil => rfl
  | cons x xs ih => rw [List.foldl_cons, payS_deaf h]; exact ih
theorem payS_st {s : PS} (h : s.st ≤ 2) (x : List UInt8) : (payS x s).st ≤ 2 := by
  unfold payS faultS
  split
  · split <;> simp
  · split
    · split <;> simp
    · exact h
/-- A session in a state. -/
abbrev SesP (H : VH) (k ks : Nat) (T : List Nat) (l : List UInt8) (b : Bool) (s : PS) : Prop := Ses H k ks T s.st l b s.q s.out
section
variable {H : VH} {k ks : Nat} {T : List Nat} {st : Nat} {l : List UInt8} {b : Bool} {queue : List (List UInt8)} {out : List UInt8}
theorem set_st (h : Ses H k ks T st l b queue out) (st' : Nat) : ∃ H', stV H (.ob k 0) [.int .u8 (st' : Int)] = some H' ∧ Ses H' k ks T st' l b queue out ∧ Kp H H' (k :: ks :: T) := by
  have hlt := h.lt
  obtain ⟨qs, os, qes, h1, h2, h3, h4, h5, rfl, h6⟩ := h
  have kp : Kp H (H.set k (.row SS (putAllV [.int .u8 (st : Int), .ptr (.ob ks 0), .sl 22 qs, .sl 5 os] 0 [.int .u8 (st' : Int)]))) [k] := Kp.set _ _ _
  have nk : ∀ t ∈ toks qs ++ toks os, t ∉ [k] := fun t ht h => (hlt.2.2.2 t ht).2.1 (List.mem_singleton.1 h)
  exact ⟨_, st_row h1 (by simp) rfl, ⟨qs, os, qes, by rw [List.getElem?_set_self (lt_of_ob h1)]; rfl, h2.keep kp (by simpa using fun he => hlt.2.2.1 he.symm), h3.keep kp (fun t ht => nk t (List.mem_append_left _ ht)), h4, h5.keep kp (fun t ht => nk t (List.mem_append_right _ ht)), rfl, h6⟩, kp.weak (fun x hx _ => by rw [List.mem_singleton.1 hx]; exact List.mem_cons_self ..)⟩
theorem e36s (n : Nat) (e : Int) (h : Ses H k ks T st l b queue out) (hst : st ≠ 3) (hl : out.length < 1000000) : ∃ H' T', vF P tab (n + 83) 36 [.ptr (.ob k 0), .int .i64 e] H = some (.tup [], H') ∧ Ses H' k ks T' 2 l b queue (out ++ ans e 0) ∧ Kp H H' (k :: ks :: T) ∧ TN H T T' := by
  obtain ⟨H1, T1, g1, g2, g3, g4⟩ := e29s n e 0 h hl
  rw [if_neg hst] at g2
  rw [vF_body rfl, f36_eq, callD_unit g1, Option.bind_some]
  simp only [nn, atO, Option.bind_some, Nat.zero_add]
  obtain ⟨H2, q1, q2, q3⟩ := set_st g2 2
  rw [show ((2 : Nat) : Int) = 2 from rfl] at q1
  rw [q1, Option.bind_some]
  exact ⟨H2, T1, rfl, q2, kp_ses g3 q3 g4, g4⟩
/-- The queue, and one more. -/
theorem add_q (h : Ses H k ks T st l b queue out) {v : VS} {x : List UInt8} (hv : IsB v x) (hq : queue.length < 1000000) :
    ∃ qs, ldV (.flat (.slice 22)) H (.ob k 2) = some qs ∧ qs.len = queue.length ∧ ∃ r H1 H2 T', appD true H 1 24 22 qs (.fz [[.sl 5 v.strip]] (.ex 1)) = some (r, H1) ∧ stV H1 (.ob k 2) [.sl 22 r] = some H2 ∧ Ses H2 k ks T' st l b (queue ++ [x]) out ∧ Kp H H2 (k :: ks :: T) ∧ TN H T T' := by
  have hlt := h.lt
  obtain ⟨qs, os, qes, h1, h2, h3, h4, h5, rfl, h6⟩ := h
  refine ⟨qs, by rw [ld_row h1]; simp only [List.getElem?_cons_succ, List.getElem?_cons_zero, Option.bind_some, fd_sl], by rw [h3.isE.len, h4.len], ?_⟩
  have hql := h4.len
  obtain ⟨r, H1, q1, q2, q3, q4⟩ := h3.appE (sz := 1) (by_ := 24) (x := .fz [[.sl 5 v.strip]] (.ex 1)) (.fz _ _) (by simp only [bound, List.length_singleton]; omega) (by simp only [bound, List.length_singleton]; omega)
  have hk1 := q3.ob h1 (fun ht => (hlt.2.2.2 k (List.mem_append_left _ ht)).2.1 rfl)
  have kp : Kp H1 (H1.set k (.row SS (putAllV [.int .u8 (st : Int), .ptr (.ob ks 0), .sl 22 qs, .sl 5 os] 2 [.sl 22 r]))) [k] := Kp.set _ _ _
  have hks : ks ∉ toks qs := fun ht => (hlt.2.2.2 ks (List.mem_append_left _ ht)).2.2 rfl
  have hdis : ∀ t ∈ toks os, t ∉ toks qs := fun t ht hm => h6 t hm ht
  refine ⟨r, H1, _, toks r ++ toks os, q1, st_row hk1 (by simp) rfl, ⟨r, os, _, by rw [List.getElem?_set_self (lt_of_ob hk1)]; rfl, (h2.keep q3 hks).keep kp (by simpa using fun he => hlt.2.2.1 he.symm), q2.keep kp (fun t ht hm => ?_), h4.app (.cons hv.strip .nil), (h5.keep q3 hdis).keep kp (fun t ht hm => (hlt.2.2.2 t (List.mem_append_right _ ht)).2.1 (List.mem_singleton.1 hm)), rfl, fun t ht hm => ?_⟩, ?_, fun t ht => ?_⟩
  · rw [List.mem_singleton] at hm
    obtain ⟨g, hg⟩ := q2.tok_at ht
    rw [hm, hk1] at hg; cases hg
  · rcases q4 t ht with h7 | h7
    · exact h6 t h7 hm
    · have := (hlt.2.2.2 t (List.mem_append_right _ hm)).1; omega
  · exact q3.trans kp (Z := k :: ks :: (toks qs ++ toks os)) (fun x hx _ => List.mem_cons_of_mem _ (List.mem_cons_of_mem _ (List.mem_append_left _ hx))) (fun y hy _ => by rw [List.mem_singleton.1 hy]; exact List.mem_cons_self ..)
  · rcases List.mem_append.1 ht with h7 | h7
    · rcases q4 t h7 with h8 | h8
      · exact .inl (List.mem_append_left _ h8)
      · exact .inr h8
    · exact .inl (List.mem_append_right _ h7)
theorem ld_st (h : Ses H k ks T st l b queue out) : ldV (.flat (.int .u8)) H (.ob k 0) = some (st : Int) := by
  obtain ⟨qs, os, qes, h1, _⟩ := h
  rw [ld_row h1]; rfl
theorem ld_ks (h : Ses H k ks T st l b queue out) : ldV (.flat .ptr) H (.ob k 1) = some (.ob ks 0) := by
  obtain ⟨qs, os, qes, h1, _⟩ := h
  rw [ld_row h1]; rfl
theorem nat_beq {a c : Nat} (h : a ≠ c) : (((a : Nat) : Int) == ((c : Nat) : Int)) = false := by rw [beq_eq_false_iff_ne]; omega
theorem e34s (n : Nat) {s : PS} {v : VS} {x : List UInt8} (h : SesP H k ks T l b s) (hv : IsB v x) (hl : s.out.length < 900000) (hq : s.q.length < 900000) :
    ∃ H' T', vF P tab (n + 84) 34 [.ptr (.ob k 0), .sl 5 v] H = some (.int .i64 (((payS x s).n : Int) - (s.n : Int)), H') ∧ SesP H' k ks T' l b (payS x s) ∧ Kp H H' (k :: ks :: T) ∧ TN H T T' := by
  rw [vF_body rfl, f34_eq]
  simp only [nn, atO, Option.bind_some, Nat.zero_add]
  rw [ld_st h, Option.bind_some]
  have hst := ld_st h
  by_cases c0 : s.st = 0
  · rw [show (((s.st : Nat) : Int) == 0) = true by rw [c0]; rfl, cond_true, hv.str, Option.bind_some]
    have hx : strEq ⟨x.toArray⟩ ⟨#[104, 101, 108, 108, 111]⟩ = decide (x = hello) := strEq_iff x hello
    rw [hx]
    unfold payS
    rw [if_pos c0]
    by_cases ch : x = hello
    · rw [decide_eq_true ch, cond_true, if_pos ch]
      obtain ⟨H2, q1, q2, q3⟩ := set_st h 1
      rw [show ((1 : Nat) : Int) = 1 from rfl] at q1
      rw [q1, Option.bind_some]
      exact ⟨H2, T, by simp, q2, q3, TN.refl _ _⟩
    · rw [decide_eq_false ch, cond_false, if_neg ch, Option.bind_some, show (((s.st : Nat) : Int) == 0) = true by rw [c0]; rfl, cond_true]
      obtain ⟨H1, T1, g1, g2, g3, g4⟩ := e36s n 10 h (by omega) (by omega)
      rw [callD_unit g1, Option.bind_some]
      exact ⟨H1, T1, by simp [faultS], g2, g3, g4⟩
  · have n0 : (((s.st : Nat) : Int) == 0) = false := nat_beq (c := 0) c0
    rw [n0, cond_false, Option.bind_some, n0, cond_false, Option.bind_some]
    unfold payS
    rw [if_neg c0]
    obtain ⟨qs, hq1, hq2, r, H1, H2, T', hq3, hq4, hq5, hq6, hq7⟩ := add_q h hv (by omega)
    by_cases c1 : s.st = 1
    · rw [show (((s.st : Nat) : Int) == 1) = true by rw [c1]; rfl, cond_true, if_pos c1, hq1, Option.bind_some, hq2]
      by_cases c4 : 4 ≤ s.q.length
      · rw [decide_eq_true (by omega), cond_true, if_pos c4]
        obtain ⟨H3, T3, g1, g2, g3, g4⟩ := e29s (n + 1) 8 0 h (by omega)
        rw [if_neg (by omega)] at g2
        rw [callD_unit g1, Option.bind_some]
        refine ⟨H3, T3, ?_, ?_, g3, g4⟩
        · show some (V.int IntKind.i64 1, H3) = some (V.int IntKind.i64 (((s.n + 1 : Nat) : Int) - (s.n : Int)), H3)
          rw [show ((s.n + 1 : Nat) : Int) - (s.n : Int) = 1 by omega]
        · rw [c1] at g2
          exact g2
      · rw [decide_eq_false (by omega), cond_false, if_neg c4, Option.bind_some, show (((s.st : Nat) : Int) == 1) = true by rw [c1]; rfl, cond_true, Option.bind_some, if_pos (closed1_B hv), hq3, Option.bind_some]
        simp only
        rw [hq4, Option.bind_some]
        refine ⟨H2, T', by simp, ?_, hq6, hq7⟩
        rw [c1] at hq5
        exact hq5
    · have n1 : (((s.st : Nat) : Int) == 1) = false := nat_beq (c := 1) c1
      rw [n1, cond_false, if_neg c1, Option.bind_some, n1, cond_false]
      exact ⟨H, T, by simp, h, Kp.refl _ _, TN.refl _ _⟩
/-- Bytes come. -/
def delS (r : List (List UInt8) × List UInt8 × Bool) (s : PS) : PS :=
  if r.2.2 = true ∧ (paysS r.1 s).st < 2 then faultS 3 (paysS r.1 s) else paysS r.1 s
theorem l12 (n : Nat) {vs : VS} {es : List (List V)} {xs : List (List UInt8)} (hs : IsE vs es) (hp : PB es xs) (hxl : xs.length < 100000) (s0 : PS) (hs0 : s0.st ≤ 2) : ∀ (m i : Nat) {H : VH} {T : List Nat} {H0 : VH} {T0 : List Nat} {s : PS}, SesP H k ks T l b s → s = paysS (xs.take i) s0 → Kp H0 H (k :: ks :: T0) → TN H0 T0 T → s.out.length + 17 * (xs.length - i) < 800000 → s.q.length + (xs.length - i) < 800000 → s.n - s0.n ≤ i → s0.n ≤ s.n → s.st ≤ 2 → i ≤ xs.length → xs.length < i + m →
    ∃ H' T', L12_0 (n + 84) m (.ob k 0) ((s.n : Int) - (s0.n : Int)) vs (xs.length : Int) (i : Int) H = some (.int .i64 (((delS (xs, l, b) s0).n : Int) - (s0.n : Int)), H') ∧ SesP H' k ks T' l b (delS (xs, l, b) s0) ∧ Kp H0 H' (k :: ks :: T0) ∧ TN H0 T0 T' := by
  intro m
  induction m with
  | zero => intros; omega
  | succ m ih =>
    intro i H T H0 T0 s h he kp tn h1 h2 h3 h3' h4 h5 h6
    rw [L12_0_eq]
    by_cases hi : i < xs.length
    · rw [decide_eq_true (by omega), cond_true]
      obtain ⟨x, hx⟩ := get_of hi
      obtain ⟨v, hv, hrd⟩ := rdB hs hp hx
      rw [hrd]
      obtain ⟨H1, T1, g1, g2, g3, g4⟩ := e34s n h hv (by omega) (by omega)
      rw [callD_int g1, Option.bind_some, inc_nat (by omega)]
      obtain ⟨n1, n2⟩ := payS_n x s
      simp only
      rw [show ((s.n : Int) - (s0.n : Int)) + (((payS x s).n : Int) - (s.n : Int)) = ((payS x s).n : Int) - (s0.n : Int) by omega, i64_in (by omega)]
      have o1 := payS_out x s
      have o2 := payS_q x s
      refine ih (i + 1) g2 ?_ (kp_ses kp g3 tn) (tn.trans kp g4) (by omega) (by omega) (by omega) (by omega) (payS_st h4 x) (by omega) (by omega)
      rw [he]
      unfold paysS
      rw [List.take_add_one, hx, List.foldl_append]
      rfl
    · rw [decide_eq_false (by omega), cond_false]
      have : i = xs.length := by omega
      subst this
      rw [List.take_length] at he
      subst he
      simp only [nn, atO, Option.bind_some, Nat.zero_add]
      rw [ld_ks h, Option.bind_some]
      have hr : RS ST H ks l b := by obtain ⟨_, _, _, _, h2, _⟩ := h; exact h2
      rw [callD_bool (e35 (n + 83) hr), Option.bind_some]
      unfold delS
      cases b with
      | false =>
        rw [cond_false, if_neg (by simp)]
        exact ⟨H, T, rfl, h, kp, tn⟩
      | true =>
        simp only [cond_true]
        rw [ld_st h, Option.bind_some]
        by_cases c2 : (paysS xs s0).st < 2
        · have hd : decide ((((paysS xs s0).st : Nat) : Int) < 2) = true := decide_eq_true (by omega)
          rw [hd, cond_true, if_pos ⟨trivial, c2⟩]
          obtain ⟨H1, T1, g1, g2, g3, g4⟩ := e36s (n + 1) 3 h (by omega) (by omega)
          rw [callD_unit g1, Option.bind_some]
          exact ⟨H1, T1, rfl, g2, kp_ses kp g3 tn, tn.trans kp g4⟩
        · have hd : decide ((((paysS xs s0).st : Nat) : Int) < 2) = false := decide_eq_false (by omega)
          rw [hd, cond_false, if_neg (by simp [c2])]
          exact ⟨H, T, rfl, h, kp, tn⟩
/-- A session whose stream has turned. -/
theorem Ses.stream {H1 : VH} {l' : List UInt8} {b' : Bool} (h : Ses H k ks T st l b queue out) (kp : Kp H H1 [ks]) (hr : RS ST H1 ks l' b') : Ses H1 k ks T st l' b' queue out := by
  have hlt := h.lt
  obtain ⟨qs, os, qes, h1, h2, h3, h4, h5, rfl, h6⟩ := h
  have nk : ∀ t ∈ toks qs ++ toks os, t ∉ [ks] := fun t ht h => (hlt.2.2.2 t ht).2.2 (List.mem_singleton.1 h)
  exact ⟨qs, os, qes, kp.ob h1 (by simpa using hlt.2.2.1), hr, h3.keep kp (fun t ht => nk t (List.mem_append_left _ ht)), h4, h5.keep kp (fun t ht => nk t (List.mem_append_right _ ht)), rfl, h6⟩
theorem e12d (n : Nat) {s : PS} {v : VS} {p : List UInt8} (h : SesP H k ks T l b s) (hst : 2 ≤ s.st) : vF P tab (n + 2) 12 [.ptr (.ob k 0), .sl 5 v] H = some (.int .i64 0, H) := by
  have hd : decide (((s.st : Nat) : Int) ≥ 2) = true := decide_eq_true (by omega)
  rw [vF_body rfl, f12_eq, callD_int (e16s n h), Option.bind_some, hd, cond_true]
theorem feed_len (l p : List UInt8) (b : Bool) : (feedS l p b).1.length ≤ l.length + p.length := by
  unfold feedS
  split
  · simp
  · have := (pull_left _ (l ++ p) (Nat.le_refl _)).2
    rw [List.length_append] at this
    exact this
theorem e12s (n : Nat) {s : PS} {v : VS} {p : List UInt8} (h : SesP H k ks T l b s) (hst : s.st < 2) (hv : IsB v p) (hl : l.length + p.length < 20000) (ho : s.out.length < 400000) (hq : s.q.length < 700000) :
    ∃ H' T', vF P tab (n + 30000) 12 [.ptr (.ob k 0), .sl 5 v] H = some (.int .i64 (((delS (feedS l p b) s).n : Int) - (s.n : Int)), H') ∧ SesP H' k ks T' (feedS l p b).2.1 (feedS l p b).2.2 (delS (feedS l p b) s) ∧ Kp H H' (k :: ks :: T) ∧ TN H T T' := by
  have hd : decide (((s.st : Nat) : Int) ≥ 2) = false := decide_eq_false (by omega)
  rw [vF_body rfl, f12_eq, callD_int (e16s (n + 29998) h), Option.bind_some, hd, cond_false]
  simp only [nn, atO, Option.bind_some, Nat.zero_add]
  rw [ld_ks h, Option.bind_some]
  have hr : RS ST H ks l b := by obtain ⟨_, _, _, _, h2, _⟩ := h; exact h2
  obtain ⟨s', es', H1, g1, g2, g3, g4, g5⟩ := e33 (n + 29993) (by omega) hr hv (by omega) (by omega)
  rw [callD_sl g1, Option.bind_some]
  have h1 := h.stream g5 g4
  have hfl := feed_len l p b
  simp only
  rw [g2.len, g3.len]
  have := l12 (n + 29915) (k := k) (ks := ks) (l := (feedS l p b).2.1) (b := (feedS l p b).2.2) g2 g3 (by omega) s (by omega) (n + 29999) 0 (H := H1) (T := T) (H0 := H) (T0 := T) h1 rfl (g5.weak (fun x hx _ => by rw [List.mem_singleton.1 hx]; exact List.mem_cons_of_mem _ (List.mem_cons_self ..))) (TN.refl _ _) (by omega) (by omega) (by omega) (Nat.le_refl _) (by omega) (by omega) (by omega)
  rw [Int.sub_self] at this
  exact this
end
end Go.Proofs.Ytfneikjincmhpaa
