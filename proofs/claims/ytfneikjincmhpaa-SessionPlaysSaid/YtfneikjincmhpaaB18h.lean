import Derived.Test.YtfneikjincmhpaaB18g
set_option maxRecDepth 100000
set_option linter.unusedVariables false
set_option linter.unusedSimpArgs false
namespace Go.Proofs.Ytfneikjincmhpaa
open Go.Proofs.Ytfneikjincmhpaa.Sh Go.Proofs.Ytfneikjincmhpaa.Sh.V Go.RowKit
/-! ### The document's session -/
abbrev MS : TypeId := 57 + boxK
def Ref (H : VH) (q : Nat) (acc : List UInt8) (tk : Nat) (s : PS) : Prop :=
  ∃ ba qs os qes, H[q]? = some (.row MS [.sl 5 ba, .int .i64 (tk : Int), .int .i64 (s.st : Int), .sl 22 qs, .sl 5 os]) ∧ IsB ba acc ∧ IsE qs qes ∧ PB qes s.q ∧ IsB os s.out
section
variable {H H' : VH} {q tk : Nat} {acc : List UInt8} {s : PS}
theorem Ref.keep {X : List Nat} (h : Ref H q acc tk s) (kp : Kp H H' X) (hq : q ∉ X) : Ref H' q acc tk s := by
  obtain ⟨ba, qs, os, qes, h1, h2⟩ := h
  exact ⟨ba, qs, os, qes, kp.ob h1 hq, h2⟩
theorem Ref.lt (h : Ref H q acc tk s) : q < H.length := by
  obtain ⟨_, _, _, _, h1, _⟩ := h
  exact lt_of_ob h1
theorem rl_st (h : Ref H q acc tk s) : ldV (.flat (.int .i64)) H (.ob q 2) = some (s.st : Int) := by
  obtain ⟨_, _, _, _, h1, _⟩ := h
  rw [ld_row h1]; rfl
theorem rl_tk (h : Ref H q acc tk s) : ldV (.flat (.int .i64)) H (.ob q 1) = some (tk : Int) := by
  obtain ⟨_, _, _, _, h1, _⟩ := h
  rw [ld_row h1]; rfl
theorem rl_q (h : Ref H q acc tk s) : ∃ qs qes, ldV (.flat (.slice 22)) H (.ob q 3) = some qs ∧ IsE qs qes ∧ PB qes s.q := by
  obtain ⟨_, qs, _, qes, h1, _, h3, h4, _⟩ := h
  exact ⟨qs, qes, by rw [ld_row h1]; exact fd_sl 22 qs, h3, h4⟩
theorem rl_out (h : Ref H q acc tk s) : ∃ os, ldV (.flat (.slice 5)) H (.ob q 4) = some os ∧ IsB os s.out := by
  obtain ⟨_, _, os, _, h1, _, _, _, h5⟩ := h
  exact ⟨os, by rw [ld_row h1]; exact fd_sl 5 os, h5⟩
theorem rl_ba (h : Ref H q acc tk s) : ∃ ba, ldV (.flat (.slice 5)) H (.ob q 0) = some ba ∧ IsB ba acc := by
  obtain ⟨ba, _, _, _, h1, h2, _⟩ := h
  exact ⟨ba, by rw [ld_row h1]; exact fd_sl 5 ba, h2⟩
theorem ref_ba (h : Ref H q acc tk s) {r : VS} {acc' : List UInt8} (hr : IsB r acc') : ∃ H', stV H (.ob q 0) [.sl 5 r] = some H' ∧ Ref H' q acc' tk s ∧ Kp H H' [q] := by
  obtain ⟨ba, qs, os, qes, h1, h2, h3, h4, h5⟩ := h
  exact ⟨_, st_row h1 (by simp) rfl, ⟨r, qs, os, qes, by rw [List.getElem?_set_self (lt_of_ob h1)]; rfl, hr, h3, h4, h5⟩, Kp.set _ _ _⟩
theorem ref_tk (h : Ref H q acc tk s) (tk' : Nat) : ∃ H', stV H (.ob q 1) [.int .i64 (tk' : Int)] = some H' ∧ Ref H' q acc tk' s ∧ Kp H H' [q] := by
  obtain ⟨ba, qs, os, qes, h1, h2, h3, h4, h5⟩ := h
  exact ⟨_, st_row h1 (by simp) rfl, ⟨ba, qs, os, qes, by rw [List.getElem?_set_self (lt_of_ob h1)]; rfl, h2, h3, h4, h5⟩, Kp.set _ _ _⟩
theorem ref_st (h : Ref H q acc tk s) (st' : Nat) : ∃ H', stV H (.ob q 2) [.int .i64 (st' : Int)] = some H' ∧ Ref H' q acc tk ⟨st', s.q, s.out, s.n⟩ ∧ Kp H H' [q] := by
  obtain ⟨ba, qs, os, qes, h1, h2, h3, h4, h5⟩ := h
  exact ⟨_, st_row h1 (by simp) rfl, ⟨ba, qs, os, qes, by rw [List.getElem?_set_self (lt_of_ob h1)]; rfl, h2, h3, h4, h5⟩, Kp.set _ _ _⟩
theorem ref_q (h : Ref H q acc tk s) {r : VS} {res : List (List V)} {q' : List (List UInt8)} (hr : IsE r res) (hp : PB res q') : ∃ H', stV H (.ob q 3) [.sl 22 r] = some H' ∧ Ref H' q acc tk ⟨s.st, q', s.out, s.n⟩ ∧ Kp H H' [q] := by
  obtain ⟨ba, qs, os, qes, h1, h2, h3, h4, h5⟩ := h
  exact ⟨_, st_row h1 (by simp) rfl, ⟨ba, r, os, res, by rw [List.getElem?_set_self (lt_of_ob h1)]; rfl, h2, hr, hp, h5⟩, Kp.set _ _ _⟩
theorem ref_out (h : Ref H q acc tk s) {r : VS} {o' : List UInt8} (hr : IsB r o') : ∃ H', stV H (.ob q 4) [.sl 5 r] = some H' ∧ Ref H' q acc tk ⟨s.st, s.q, o', s.n⟩ ∧ Kp H H' [q] := by
  obtain ⟨ba, qs, os, qes, h1, h2, h3, h4, h5⟩ := h
  exact ⟨_, st_row h1 (by simp) rfl, ⟨ba, qs, r, qes, by rw [List.getElem?_set_self (lt_of_ob h1)]; rfl, h2, h3, h4, hr⟩, Kp.set _ _ _⟩
theorem kq {H H1 H2 : VH} {q : Nat} (a : Kp H H1 [q]) (b : Kp H1 H2 [q]) : Kp H H2 [q] := a.trans b (fun x hx _ => hx) (fun y hy _ => hy)
theorem kq0 {H H1 : VH} (a : Kp H H1 []) (q : Nat) : Kp H H1 [q] := kp_nil a _
def ansS (a c : Int) (s : PS) : PS := ⟨s.st, s.q, if s.st = 3 then s.out else s.out ++ ans a c, s.n⟩
theorem e30r (n : Nat) (a c : Int) (h : Ref H q acc tk s) (hl : s.out.length < 1000000) : ∃ H', vF P tab (n + 62) 30 [.ptr (.ob q 0), Rp a c] H = some (.tup [], H') ∧ Ref H' q acc tk (ansS a c s) ∧ Kp H H' [q] := by
  have kp0 : Kp H (H ++ [.row (36 + boxK) [.int .i64 a, .bool false, .int .i64 c, .flt .f64 0, .sl 5 .nil, .sl 9 .nil]]) [] := Kp.app _ _
  have h0 := h.keep kp0 (by simp)
  have hR : (H ++ [VO.row (36 + boxK) [.int .i64 a, .bool false, .int .i64 c, .flt .f64 0, .sl 5 .nil, .sl 9 .nil]])[H.length]? = some (.row (36 + boxK) [.int .i64 a, .bool false, .int .i64 c, .flt .f64 0, .sl 5 .nil, .sl 9 .nil]) := by simp
  rw [vF_body rfl, f30_eq]
  generalize hH0 : H ++ [VO.row (36 + boxK) [.int .i64 a, .bool false, .int .i64 c, .flt .f64 0, .sl 5 .nil, .sl 9 .nil]] = H0 at kp0 h0 hR
  simp only [nn, atO, Option.bind_some, Nat.zero_add]
  rw [rl_st h0, Option.bind_some]
  unfold ansS
  by_cases hst : s.st = 3
  · rw [if_pos hst, show (((s.st : Nat) : Int) != 3) = false by rw [hst]; rfl, cond_false]
    exact ⟨H0, rfl, h0, kq0 kp0 q⟩
  · rw [if_neg hst, show (((s.st : Nat) : Int) != 3) = true by simp only [bne_iff_ne, ne_eq]; omega, cond_true]
    obtain ⟨os, o1, o2⟩ := rl_out h0
    have hld : ldV (.agg [.int .i64, .bool, .int .i64, .flt .f64, .slice 5, .slice 9]) H0 (.ob H.length 0) = some (a, false, c, 0, .nil, .nil, ()) := by
      simp only [ldV, rowV_of hR, Option.bind_some]
      rfl
    rw [o1, Option.bind_some, hld, Option.bind_some]
    have stay : V.stays H0 (hj (heldOf (.ob q 4) [.slice 5] [.sl 5 os]) []) = true := stays_sl o1
    obtain ⟨s1, g1, g2⟩ := e15r (n + 1) a c H0
    obtain ⟨s2, g3, g4⟩ := e14 (n + 59) (H := H0) g2 (by rw [encR_len]; omega)
    simp only [stay, cond_true]
    rw [callD_sl g1, Option.bind_some]
    simp only [stay, cond_true]
    rw [callD_sl g3, Option.bind_some]
    simp only [stay, cond_true]
    obtain ⟨s3, g5, g6⟩ := e13 (n + 60) (H := H0) o2 g4 (by have := ans_len a c; unfold ans at this; omega)
    rw [callD_sl g5, Option.bind_some]
    obtain ⟨H1, q1, q2, q3⟩ := ref_out h0 g6
    simp only
    rw [q1, Option.bind_some]
    exact ⟨H1, rfl, q2, kq (kq0 kp0 q) q3⟩
theorem e31r (n : Nat) (h : Ref H q acc tk s) : ∃ r H', vF P tab (n + 1) 31 [.ptr (.ob q 0)] H = some (.sl 5 r, H') ∧ IsB r s.out ∧ Ref H' q acc tk ⟨s.st, s.q, [], s.n⟩ ∧ Kp H H' [q] := by
  rw [vF_body rfl, f31_eq]
  simp only [nn, atO, Option.bind_some, Nat.zero_add]
  obtain ⟨os, o1, o2⟩ := rl_out h
  obtain ⟨H1, q1, q2, q3⟩ := ref_out h (r := .nil) (o' := []) .nil
  rw [o1, Option.bind_some, q1, Option.bind_some]
  exact ⟨os, H1, rfl, o2, q2, q3⟩
theorem e28r (n : Nat) (h : Ref H q acc tk s) : ∃ H', vF P tab (n + 1) 28 [.ptr (.ob q 0)] H = some (.tup [], H') ∧ Ref H' q acc tk ⟨3, [], s.out, s.n⟩ ∧ Kp H H' [q] := by
  rw [vF_body rfl, f28_eq]
  simp only [nn, atO, Option.bind_some, Nat.zero_add]
  obtain ⟨H1, q1, q2, q3⟩ := ref_st h 3
  obtain ⟨H2, q4, q5, q6⟩ := ref_q q2 (r := .nil) (res := []) (q' := []) .nil .nil
  rw [show ((3 : Nat) : Int) = 3 from rfl] at q1
  rw [q1, Option.bind_some, q4, Option.bind_some]
  exact ⟨H2, rfl, q5, kq q3 q6⟩
theorem e26r (n : Nat) (h : Ref H q acc tk s) : ∃ r H', vF P tab (n + 1) 26 [.ptr (.ob q 0)] H = some (.tup [.sl 5 r, .bool (decide (s.q ≠ []))], H') ∧ IsB r (s.q.headD []) ∧ Ref H' q acc tk ⟨s.st, s.q.tail, s.out, s.n⟩ ∧ Kp H H' [q] := by
  rw [vF_body rfl, f26_eq]
  simp only [nn, atO, Option.bind_some, Nat.zero_add]
  obtain ⟨qs, qes, o1, o2, o3⟩ := rl_q h
  rw [o1, Option.bind_some, o2.len, o3.len]
  cases hq : s.q with
  | nil =>
    rw [show ((([] : List (List UInt8)).length : Int) == 0) = true from rfl, cond_true]
    refine ⟨.nil, H, rfl, .nil, ?_, Kp.refl _ _⟩
    have := h
    unfold Ref at this ⊢
    rw [hq] at this
    exact this
  | cons x queue =>
    rw [hq] at o3
    rw [show (((x :: queue).length : Int) == 0) = false by rw [beq_eq_false_iff_ne]; simp only [List.length_cons]; omega, cond_false]
    cases o3 with
    | cons hv hp =>
      rename_i v es
      rw [Option.bind_some, show (0 : Int) = ((0 : Nat) : Int) from rfl, o2.ix (i := 0) rfl 1, Option.bind_some, show ldV (.flat (.slice 5)) H (.fz [.sl 5 v]) = some v from fd_sl 5 v, Option.bind_some, Option.bind_some]
      obtain ⟨z, g1, g2, _⟩ := o2.cut (lo := 1) (hi := ([V.sl 5 v] :: es).length) (by simp) (Nat.le_refl _) (lo' := some ((1 : Nat) : Int)) (hi' := none) (mx' := none) (.inl rfl) (.inr ⟨rfl, rfl⟩) (.inl rfl) H 22 1
      rw [show (1 : Int) = ((1 : Nat) : Int) from rfl, g1, Option.bind_some]
      rw [List.take_length, List.drop_one, List.tail_cons] at g2
      obtain ⟨H1, q1, q2, q3⟩ := ref_q h g2 hp
      rw [q1, Option.bind_some]
      exact ⟨v, H1, by simp, hv, q2, q3⟩
theorem payS_q4 (x : List UInt8) {s : PS} (h : s.q.length ≤ 4) : (payS x s).q.length ≤ 4 := by
  unfold payS faultS
  split
  · split <;> exact h
  · split
    · split
      · exact h
      · simp only [List.length_append, List.length_singleton]; omega
    · exact h
theorem l25 (n : Nat) {vs : VS} {es : List (List V)} {xs : List (List UInt8)} (hs : IsE vs es) (hp : PB es xs) (hxl : xs.length < 100000) (b : Bool) : ∀ (m i : Nat) {H : VH} {s : PS} {c : Int}, Ref H q acc i s → s.st ≤ 2 → s.q.length ≤ 4 → s.out.length + 17 * (xs.length - i) < 800000 → 0 ≤ c → c ≤ i → i ≤ xs.length → xs.length < i + m →
    ∃ H', L25_0 (n + 62) m (.ob q 0) vs b c H = some (.int .i64 (c + (((delS (xs.drop i, [], b) s).n : Int) - (s.n : Int))), H') ∧ Ref H' q acc xs.length (delS (xs.drop i, [], b) s) ∧ Kp H H' [q] := by
  intro m
  induction m with
  | zero => intros; omega
  | succ m ih =>
    intro i H s c h hst hq4 ho hc0 hc hi hm
    rw [L25_0_eq]
    simp only [nn, atO, Option.bind_some, Nat.zero_add]
    rw [rl_tk h, Option.bind_some, hs.len, hp.len]
    by_cases hlt : i < xs.length
    · have hd : decide ((i : Int) < (xs.length : Int)) = true := decide_eq_true (by omega)
      rw [hd, cond_true]
      obtain ⟨x, hx⟩ := get_of hlt
      obtain ⟨v, hv, hrd⟩ := rdB hs hp hx
      obtain ⟨h4, h5⟩ := List.getElem?_eq_some_iff.1 hx
      have hdr : ∀ s : PS, delS (xs.drop i, [], b) s = delS (xs.drop (i + 1), [], b) (payS x s) := fun s => by
        rw [List.drop_eq_getElem_cons hlt, h5]; rfl
      rw [hdr]
      have fin : ∀ {H1 : VH} {c' : Int}, Ref H1 q acc i (payS x s) → Kp H H1 [q] → c' = c + (((payS x s).n : Int) - (s.n : Int)) → ∃ H2, stV H1 (.ob q 1) [.int .i64 ((i + 1 : Nat) : Int)] = some H2 ∧ ∃ H', L25_0 (n + 62) m (.ob q 0) vs b c' H2 = some (.int .i64 (c + (((delS (xs.drop (i + 1), [], b) (payS x s)).n : Int) - (s.n : Int))), H') ∧ Ref H' q acc xs.length (delS (xs.drop (i + 1), [], b) (payS x s)) ∧ Kp H H' [q] := by
        intro H1 c' h1 k1 hcc
        obtain ⟨H2, q1, q2, q3⟩ := ref_tk h1 (i + 1)
        have n1 := payS_n x s
        have o1 := payS_out x s
        obtain ⟨H', g1, g2, g3⟩ := ih (i + 1) (c := c') q2 (payS_st hst x) (payS_q4 x hq4) (by omega) (by omega) (by omega) (by omega) (by omega)
        refine ⟨H2, q1, H', ?_, g2, kq (kq k1 q3) g3⟩
        rw [g1, show c' + (((delS (xs.drop (i + 1), [], b) (payS x s)).n : Int) - ((payS x s).n : Int)) = c + (((delS (xs.drop (i + 1), [], b) (payS x s)).n : Int) - (s.n : Int)) by omega]
      rw [Option.bind_some, hrd, rl_st h, Option.bind_some]
      by_cases c2 : s.st = 2
      · rw [show (((s.st : Nat) : Int) == 2) = true from nat_beqT (c := 2) c2, cond_true, Option.bind_some, inc_nat (by omega)]
        have e := payS_deaf (s := s) (by omega) x
        obtain ⟨H2, q1, H', q2⟩ := fin (c' := c) (by rw [e]; exact h) (Kp.refl _ _) (by rw [e]; omega)
        rw [q1, Option.bind_some]
        exact ⟨H', q2⟩
      rw [show (((s.st : Nat) : Int) == 2) = false from nat_beq (c := 2) c2, cond_false, Option.bind_some]
      by_cases c0 : s.st = 0
      · rw [show (((s.st : Nat) : Int) == 0) = true from nat_beqT (c := 0) c0, cond_true]
        obtain ⟨H1, q1, q2, q3⟩ := ref_st h 1
        rw [show ((1 : Nat) : Int) = 1 from rfl] at q1
        rw [q1, Option.bind_some, hv.str, Option.bind_some]
        have hxe : strEq ⟨x.toArray⟩ ⟨#[104, 101, 108, 108, 111]⟩ = decide (x = hello) := strEq_iff x hello
        rw [hxe]
        by_cases ch : x = hello
        · have e : payS x s = ⟨1, s.q, s.out, s.n⟩ := by unfold payS; rw [if_pos c0, if_pos ch]
          rw [decide_eq_true ch]
          simp only [Bool.not_true, cond_false]
          rw [rl_tk q2, Option.bind_some, inc_nat (by omega)]
          obtain ⟨H2, r1, H', r2⟩ := fin (c' := c) (H1 := H1) (by rw [e]; exact q2) q3 (by rw [e]; simp)
          rw [r1, Option.bind_some]
          exact ⟨H', r2⟩
        · have e : payS x s = faultS 10 s := by unfold payS; rw [if_pos c0, if_neg ch]
          rw [decide_eq_false ch]
          simp only [Bool.not_false, cond_true]
          obtain ⟨H3, t1, t2, t3⟩ := ref_st q2 2
          rw [show ((2 : Nat) : Int) = 2 from rfl] at t1
          rw [t1, Option.bind_some]
          obtain ⟨H4, u1, u2, u3⟩ := e30r n 10 0 t2 (by show s.out.length < _; omega)
          rw [callD_unit u1, Option.bind_some]
          simp only
          rw [rl_tk u2, Option.bind_some, inc_nat (by omega)]
          obtain ⟨H2, r1, H', r2⟩ := fin (c' := c) (H1 := H4) (by rw [e]; exact u2) (kq (kq q3 t3) u3) (by rw [e]; simp [faultS])
          rw [r1, Option.bind_some]
          exact ⟨H', r2⟩
      rw [show (((s.st : Nat) : Int) == 0) = false from nat_beq (c := 0) c0, cond_false]
      have c1 : s.st = 1 := by omega
      obtain ⟨qs, qes, o1, o2, o3⟩ := rl_q h
      rw [o1, Option.bind_some, o2.len, o3.len]
      by_cases cq : 4 ≤ s.q.length
      · have hdq : decide ((s.q.length : Int) ≥ 4) = true := decide_eq_true (by omega)
        have e : payS x s = ⟨1, s.q, s.out ++ ans 8 0, s.n + 1⟩ := by unfold payS; rw [if_neg c0, if_pos c1, if_pos cq]
        obtain ⟨H4, u1, u2, u3⟩ := e30r n 8 0 h (by omega)
        rw [hdq, cond_true, callD_unit u1, Option.bind_some]
        simp only
        rw [rl_tk u2, Option.bind_some, inc_nat (by omega), i64_in (by omega)]
        have u2' : Ref H4 q acc i (payS x s) := by
          rw [e]
          unfold ansS at u2
          rw [if_neg (by omega), c1] at u2
          exact u2
        obtain ⟨H2, r1, H', r2⟩ := fin (c' := c + 1) (H1 := H4) u2' u3 (by rw [e]; simp only; omega)
        rw [r1, Option.bind_some]
        exact ⟨H', r2⟩
      · have hdq : decide ((s.q.length : Int) ≥ 4) = false := decide_eq_false (by omega)
        have e : payS x s = ⟨1, s.q ++ [x], s.out, s.n⟩ := by unfold payS; rw [if_neg c0, if_pos c1, if_neg cq]
        have hql := o3.len
        obtain ⟨s1, H1, g1, g2, g3, g4⟩ := (Aq.nil (H := H) (e := 22)).appE (sz := 1) (by_ := 24) (x := qs) o2 (by simp only [bound, List.length_nil]; omega) (by simp only [bound, List.length_nil]; omega)
        rw [hdq, cond_false, Option.bind_some, g1, Option.bind_some, if_pos (closed1_B hv)]
        obtain ⟨s2, H2, g5, g6, g7, g8⟩ := g2.appE (sz := 1) (by_ := 24) (x := .fz [[.sl 5 v.strip]] (.ex 1)) (.fz _ _) (by simp only [bound, List.length_singleton, List.nil_append]; omega) (by simp only [bound, List.length_singleton, List.nil_append]; omega)
        simp only
        rw [g5, Option.bind_some]
        have hnq : q ∉ toks s1 := fun hm => by
          rcases g4 q hm with h7 | h7
          · cases h7
          · have := h.lt; omega
        have h2 := (h.keep g3 (by simp [toks])).keep g7 hnq
        have k2 : Kp H H2 [q] := (show Kp H H1 [] from g3).trans g7 (fun x hx _ => by cases hx) (fun y hy hl => by
          rcases g4 y hy with h7 | h7
          · cases h7
          · omega)
        obtain ⟨H3, t1, t2, t3⟩ := ref_q h2 (q' := s.q ++ [x]) g6.isE (by
          rw [List.nil_append]
          exact o3.app (.cons hv.strip .nil))
        simp only
        rw [t1, Option.bind_some, rl_tk t2, Option.bind_some, inc_nat (by omega)]
        obtain ⟨H4, r1, H', r2⟩ := fin (c' := c) (H1 := H3) (by rw [e, ← c1]; exact t2) (kq k2 t3) (by rw [e]; simp)
        rw [r1, Option.bind_some]
        exact ⟨H', r2⟩
    · have : i = xs.length := by omega
      subst this
      have hd : decide ((xs.length : Int) < (xs.length : Int)) = false := decide_eq_false (by omega)
      rw [hd, cond_false, List.drop_length]
      cases b with
      | false =>
        rw [cond_false, show delS ([], [], false) s = s from rfl]
        exact ⟨H, by rw [Int.sub_self, Int.add_zero], h, Kp.refl _ _⟩
      | true =>
        simp only [cond_true]
        rw [rl_st h, Option.bind_some]
        by_cases c2 : s.st < 2
        · have hd2 : decide (((s.st : Nat) : Int) < 2) = true := decide_eq_true (by omega)
          have e : delS ([], [], true) s = faultS 3 s := if_pos ⟨rfl, c2⟩
          obtain ⟨H3, t1, t2, t3⟩ := ref_st h 2
          rw [show ((2 : Nat) : Int) = 2 from rfl] at t1
          obtain ⟨H4, u1, u2, u3⟩ := e30r n 3 0 t2 (by show s.out.length < _; omega)
          rw [hd2, cond_true, t1, Option.bind_some, callD_unit u1, Option.bind_some, e]
          exact ⟨H4, by simp [faultS], u2, kq t3 u3⟩
        · have hd2 : decide (((s.st : Nat) : Int) < 2) = false := decide_eq_false (by omega)
          have e : delS ([], [], true) s = s := if_neg (fun hh => c2 hh.2)
          rw [hd2, cond_false, e]
          exact ⟨H, by rw [Int.sub_self, Int.add_zero], h, Kp.refl _ _⟩
theorem e25d (n : Nat) {v : VS} (h : Ref H q acc tk s) (hst : 2 ≤ s.st) : vF P tab (n + 1) 25 [.ptr (.ob q 0), .sl 5 v] H = some (.int .i64 0, H) := by
  have hd : decide (((s.st : Nat) : Int) ≥ 2) = true := decide_eq_true (by omega)
  rw [vF_body rfl, f25_eq]
  simp only [nn, atO, Option.bind_some, Nat.zero_add]
  rw [rl_st h, Option.bind_some, hd, cond_true]
theorem e25r (n : Nat) {v : VS} {p : List UInt8} (h : Ref H q acc tk s) (hst : s.st < 2) (hv : IsB v p) (hl : acc.length + p.length < 20000) (hq4 : s.q.length ≤ 4) (ho : s.out.length < 400000) (htk : tk ≤ (pull (acc ++ p)).1.length) :
    ∃ H', vF P tab (n + 30000) 25 [.ptr (.ob q 0), .sl 5 v] H = some (.int .i64 (((delS ((pull (acc ++ p)).1.drop tk, [], (pull (acc ++ p)).2.2) s).n : Int) - (s.n : Int)), H') ∧ Ref H' q (acc ++ p) (pull (acc ++ p)).1.length (delS ((pull (acc ++ p)).1.drop tk, [], (pull (acc ++ p)).2.2) s) ∧ Kp H H' [q] := by
  have hd : decide (((s.st : Nat) : Int) ≥ 2) = false := decide_eq_false (by omega)
  rw [vF_body rfl, f25_eq]
  simp only [nn, atO, Option.bind_some, Nat.zero_add]
  obtain ⟨ba, o1, o2⟩ := rl_ba h
  rw [rl_st h, Option.bind_some, hd, cond_false, o1, Option.bind_some]
  obtain ⟨s1, g1, g2⟩ := e13 (n + 29998) (H := H) o2 hv (by omega)
  rw [callD_sl g1, Option.bind_some]
  obtain ⟨H1, q1, q2, q3⟩ := ref_ba h g2
  simp only
  rw [q1, Option.bind_some]
  obtain ⟨ba2, o3, o4⟩ := rl_ba q2
  rw [o3, Option.bind_some]
  have hal : (acc ++ p).length < 20000 := by rw [List.length_append]; exact hl
  obtain ⟨s6, es6, w1, w2, w3⟩ := e22 (n + 29998) (H := H1) o4 (by omega) (by omega)
  rw [callD_some (τ := .tup [(.flat (.slice 22)), (.flat (.int .i64)), (.flat .bool)]) (x := (s6, (((pull (acc ++ p)).2.1.length : Nat) : Int), (pull (acc ++ p)).2.2, ())) _ w1 rfl, Option.bind_some]
  simp only
  have hpl := (pull_left _ (acc ++ p) (Nat.le_refl _)).2
  obtain ⟨H', t1, t2, t3⟩ := l25 (n + 29937) w2 w3 (by omega) (pull (acc ++ p)).2.2 (n + 29999) tk (c := 0) q2 (by omega) hq4 (by omega) (Int.le_refl _) (by omega) htk (by omega)
  rw [Int.zero_add] at t1
  exact ⟨H', t1, t2, kq q3 t3⟩
end
end Go.Proofs.Ytfneikjincmhpaa
