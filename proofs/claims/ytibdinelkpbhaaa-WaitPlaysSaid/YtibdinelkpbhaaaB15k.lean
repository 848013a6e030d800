import Derived.Test.YtibdinelkpbhaaaB15d
import Derived.Test.YtibdinelkpbhaaaB15y
set_option maxRecDepth 100000
set_option linter.unusedVariables false
set_option linter.unusedSimpArgs false
namespace Go.Proofs.Ytibdinelkpbhaaa
open Go.Proofs.Ytibdinelkpbhaaa.Sh Go.Proofs.Ytibdinelkpbhaaa.Sh.V Go.RowKit Go.Proofs.Ytibdinelkpbhaaa.Sh.Lk
/-! ### Waiters, locks, tables in the heap -/
/-! ### Is a number in a list? -/
/-! ### Numbers that go -/
theorem p53 (n : Nat) {H : VH} {p : Nat} {o : Int} (hp : H[p]? = some (.row (3 + boxK) [.int .i64 o])) (x : Int) : V.callD (vF P tab (n + 1)) P false (.one (.flat .bool)) 52 [.int .i64 x, .ptr (.ob p 0)] H = some (x == o, H) := by
  refine callD_bool ?_
  rw [vF_body rfl, f52_eq, ld_row hp]
  show ((V.fdec (.int .i64) (.int .i64 o)).bind _) = _
  rw [fd_int]; rfl
theorem l64 (n : Nat) {H : VH} {s : VS} {l : List Int} (hs : Hr H 3 1 s (ints l)) {p : Nat} {o : Int} (hp : H[p]? = some (.row (3 + boxK) [.int .i64 o])) (hl : l.length < 100000) : ∀ (m j : Nat), j ≤ l.length → l.length < j + m →
    (L47b_0 (n + 1) m s (.ob p 0) (l.length : Int) (j : Int) H = some (.int .i64 (-1), H) ∧ (l.drop j).filter (· != o) = l.drop j) ∨
    ∃ i, j ≤ i ∧ i < l.length ∧ L47b_0 (n + 1) m s (.ob p 0) (l.length : Int) (j : Int) H = some (.int .i64 (i : Int), H) ∧ (l.drop j).filter (· != o) = (l.drop j).take (i - j) ++ (l.drop (i + 1)).filter (· != o) := by
  intro m
  induction m with
  | zero => intro j h1 h2; omega
  | succ m ih =>
    intro j h1 h2
    rw [L47b_0_eq]
    by_cases hj : j < l.length
    · obtain ⟨y, hy⟩ := get_of hj
      rw [decide_eq_true (by omega), cond_true, hs.rd1 (τ := .int .i64) (ints_get hy) (fd_int .i64 y), p53 n hp, Option.bind_some, inc_nat (by omega), drop_of hy]
      simp only
      by_cases hyo : y = o
      · have : (y == o) = true := by simpa using hyo
        rw [this, cond_true]
        refine .inr ⟨j, Nat.le_refl _, hj, rfl, ?_⟩
        have : (y != o) = false := by simp [hyo]
        rw [List.filter_cons, this, Nat.sub_self]
        rfl
      · have e1 : (y == o) = false := by simpa using hyo
        have e2 : (y != o) = true := by simpa using hyo
        rw [e1, cond_false, List.filter_cons, if_pos e2]
        rcases ih (j + 1) (by omega) (by omega) with ⟨a, b⟩ | ⟨i, a, b, c, d⟩
        · exact .inl ⟨a, by rw [b]⟩
        · refine .inr ⟨i, by omega, b, c, ?_⟩
          rw [d, show i - j = (i - (j + 1)) + 1 by omega, List.take_succ_cons]; rfl
    · rw [decide_eq_false (by omega), cond_false]
      refine .inl ⟨rfl, ?_⟩
      rw [List.drop_eq_nil_of_le (by omega)]; rfl
theorem elem70 : elemOf? P 62 = some 66 := by kernel_rfl
theorem zero70 : zeroV P 66 = some [.int .i64 0, .bool false, .bool false] := by kernel_rfl
theorem l52 (n : Nat) {p : Nat} {o : Int} {s : VS} (hp2 : p ∉ hps s) : ∀ (m i j : Nat) {H : VH} {l : List Int}, Hr H 3 1 s (ints l) → H[p]? = some (.row (3 + boxK) [.int .i64 o]) → l.length < 100000 → i ≤ j → j ≤ l.length → l.length < j + m →
    ∃ s' H', L29b_0 (n + 1) m s (.ob p 0) (i : Int) (j : Int) H = some (.sl 3 s', H') ∧ Hr H' 3 1 s' (ints (l.take i ++ (l.drop j).filter (· != o))) ∧ Kp H H' (hps s) ∧ hps s' = hps s ∧ H'.length = H.length := by
  intro m
  induction m with
  | zero => intros; omega
  | succ m ih =>
    intro i j H l hs hp hl hij hj hm
    rw [L29b_0_eq, hs.len, ints_len]
    by_cases hc : j < l.length
    · obtain ⟨y, hy⟩ := get_of hc
      rw [decide_eq_true (by omega), cond_true, hs.rd1 (τ := .int .i64) (ints_get hy) (fd_int .i64 y), p53 n hp, Option.bind_some, inc_nat (by omega), inc_nat (by omega), drop_of hy, List.filter_cons]
      simp only
      by_cases hyo : y = o
      · have e1 : (y == o) = true := by simpa using hyo
        have e2 : (y != o) = false := by simp [hyo]
        rw [e1, Bool.not_true, cond_false, e2]
        simp only [Bool.false_eq_true, if_false]
        exact ih i (j + 1) hs hp hl (by omega) (by omega) (by omega)
      · have e1 : (y == o) = false := by simpa using hyo
        have e2 : (y != o) = true := by simpa using hyo
        rw [e1, Bool.not_false, cond_true, if_pos e2]
        obtain ⟨H1, a1, a2, a3, a4⟩ := hs.set (i := i) (by rw [ints_len]; omega) (z := [ik y]) rfl rfl (fun h5 => L29b_0 (n + 1) m s (.ob p 0) ((i + 1 : Nat) : Int) ((j + 1 : Nat) : Int) h5)
        rw [a1]
        rw [← ints_set] at a2
        obtain ⟨s', H', b1, b2, b3, b4, b5⟩ := ih (i + 1) (j + 1) a2 (a3.ob hp hp2) (by rw [List.length_set]; exact hl) (by omega) (by rw [List.length_set]; omega) (by rw [List.length_set]; omega)
        refine ⟨s', H', b1, ?_, a3.trans b3 (fun x hx _ => hx) (fun x hx _ => hx), b4, by omega⟩
        have e3 : (l.set i y).take (i + 1) ++ ((l.set i y).drop (j + 1)).filter (· != o) = l.take i ++ y :: (l.drop (j + 1)).filter (· != o) := by
          rw [List.drop_set_of_lt (by omega), List.set_eq_take_append_cons_drop, if_pos (by omega)]
          rw [List.take_append, List.length_take, Nat.min_eq_left (by omega), show i + 1 - i = 1 by omega, List.take_of_length_le (by rw [List.length_take]; omega)]
          simp
        rw [e3] at b2
        exact b2
    · have hjl : j = l.length := by omega
      subst hjl
      rw [decide_eq_false (by omega), cond_false, List.drop_eq_nil_of_le (Nat.le_refl _), List.filter_nil, List.append_nil]
      obtain ⟨s2, a1, a2, a3, a4⟩ := hs.drop (c := i) (by rw [ints_len]; omega)
      rw [a1, Option.bind_some]
      obtain ⟨H1, es', b1, b2, b3, b4, b5, b6⟩ := hs.clear (c := i) (by rw [ints_len]; omega) a1 elem3 zero3 rfl (by decide) rfl
      rw [b1, Option.bind_some]
      obtain ⟨s3, c1, c2, c3⟩ := b2.take (c := i) (by rw [b3, ints_len]; omega)
      rw [c1, Option.bind_some]
      refine ⟨s3, H1, rfl, ?_, b5, c3, b6⟩
      rw [b4, ← ints_take] at c2
      exact c2
theorem p52 (n : Nat) (hn : 3000 ≤ n) {H : VH} {s : VS} {l : List Int} (hs : Hr H 3 1 s (ints l)) {p : Nat} {o : Int} (hp : H[p]? = some (.row (3 + boxK) [.int .i64 o])) (hl : l.length < 2000) :
    ∃ s' H', V.callD (vF P tab (n + 3)) P false (.one (.flat (.slice 3))) 29 [.sl 3 s, .func (.func 52) [] [.ptr (.ob p 0)]] H = some (s', H') ∧ Hr H' 3 1 s' (ints (l.filter (· != o))) ∧ Kp H H' (hps s) ∧ hps s' = hps s ∧ H'.length = H.length := by
  have hp2 : p ∉ hps s := fun h => by
    obtain ⟨_, cs, hcs⟩ := hs.lt p h
    rw [hp] at hcs
    injection hcs with hcs
    injection hcs with hcs
    revert hcs; decide
  have hc : ∀ r : Int, L47b_0 (n + 1) (n + 1) s (.ob p 0) (l.length : Int) ((0 : Nat) : Int) H = some (.int .i64 r, H) → V.callD (vF P tab (n + 2)) P false (.one (.flat (.int .i64))) 47 [.sl 3 s, .func (.func 52) [] [.ptr (.ob p 0)]] H = some (r, H) := fun r h => by
    refine callD_int ?_
    rw [vF_body rfl, f47b_eq, hs.len, ints_len]
    exact h
  rcases l64 n hs hp (by omega) (n + 1) 0 (Nat.zero_le _) (by omega) with ⟨a, b⟩ | ⟨i, a, b, c, d⟩
  · refine ⟨s, H, callD_sl ?_, ?_, Kp.refl _ _, rfl, rfl⟩
    · rw [vF_body rfl, f29b_eq, hc _ a, Option.bind_some]; rfl
    · rw [List.drop_zero] at b; rw [b]; exact hs
  · obtain ⟨s', H', e1, e2, e3, e4, e5⟩ := l52 (n + 1) (o := o) hp2 (n + 2) i (i + 1) hs hp (by omega) (by omega) (by omega) (by omega)
    refine ⟨s', H', callD_sl ?_, ?_, e3, e4, e5⟩
    · rw [vF_body rfl, f29b_eq, hc _ c, Option.bind_some]
      simp only
      have : ((i : Int) == (-1)) = false := by
        have : (i : Int) ≠ -1 := by omega
        simp
      rw [this, cond_false, inc_nat (by omega)]
      exact e1
    · rw [List.drop_zero, Nat.sub_zero] at d
      rw [d]; exact e2
/-! ### Waiters that go -/
theorem p55 (n : Nat) {H : VH} {p : Nat} {o : Int} (hp : H[p]? = some (.row (3 + boxK) [.int .i64 o])) (w : Wt) : ∃ H', V.callD (vF P tab (n + 1)) P false (.one (.flat .bool)) 54 [.agg (wtc w), .ptr (.ob p 0)] H = some (w.o == o, H') ∧ Kp H H' [] := by
  refine ⟨_, callD_bool ?_, Kp.app H [.row (66 + boxK) (wtc w)]⟩
  rw [vF_body rfl]
  show bodyV P tab (vF P tab n) n 54 [.agg [.int .i64 w.o, .bool w.only, .bool w.up], .ptr (.ob p 0)] H = _
  rw [f54_eq]
  have h1 : (H ++ [VO.row (66 + boxK) (wtc w)])[H.length]? = some (.row (66 + boxK) (wtc w)) := by simp
  have h2 := (Kp.app H [.row (66 + boxK) (wtc w)]).ob hp (by simp)
  rw [show [VO.row (66 + boxK) [.int .i64 w.o, .bool w.only, .bool w.up]] = [VO.row (66 + boxK) (wtc w)] from rfl, ld_row h1]
  show ((V.fdec (.int .i64) (.int .i64 w.o)).bind _) = _
  rw [fd_int, Option.bind_some, ld_row h2]
  show ((V.fdec (.int .i64) (.int .i64 o)).bind _) = _
  rw [fd_int]; rfl
theorem l65 (n : Nat) {s : VS} {q : List Wt} {p : Nat} {o : Int} (hl : q.length < 100000) : ∀ (m j : Nat) {H : VH}, Hr H WTY 3 s (wts q) → H[p]? = some (.row (3 + boxK) [.int .i64 o]) → j ≤ q.length → q.length < j + m →
    (∃ H', L73_0 (n + 1) m s (.ob p 0) (q.length : Int) (j : Int) H = some (.int .i64 (-1), H') ∧ Kp H H' [] ∧ (q.drop j).filter (·.o != o) = q.drop j) ∨
    ∃ i H', j ≤ i ∧ i < q.length ∧ L73_0 (n + 1) m s (.ob p 0) (q.length : Int) (j : Int) H = some (.int .i64 (i : Int), H') ∧ Kp H H' [] ∧ (q.drop j).filter (·.o != o) = (q.drop j).take (i - j) ++ (q.drop (i + 1)).filter (·.o != o) := by
  intro m
  induction m with
  | zero => intros; omega
  | succ m ih =>
    intro j H hs hp h1 h2
    rw [L73_0_eq]
    by_cases hj : j < q.length
    · obtain ⟨y, hy⟩ := get_of hj
      obtain ⟨H1, a1, a2⟩ := p55 n hp y
      rw [decide_eq_true (by omega), cond_true, rd_w hs hy]
      simp only
      rw [show [V.agg [.int .i64 y.o, .bool y.only, .bool y.up], .ptr (.ob p 0)] = [.agg (wtc y), .ptr (.ob p 0)] from rfl, a1, Option.bind_some, inc_nat (by omega), drop_of hy]
      simp only
      by_cases hyo : y.o = o
      · have : (y.o == o) = true := by simpa using hyo
        rw [this, cond_true]
        refine .inr ⟨j, H1, Nat.le_refl _, hj, rfl, a2, ?_⟩
        have : (y.o != o) = false := by simp [hyo]
        rw [List.filter_cons, this, Nat.sub_self]
        rfl
      · have e1 : (y.o == o) = false := by simpa using hyo
        have e2 : (y.o != o) = true := by simpa using hyo
        rw [e1, cond_false, List.filter_cons, if_pos e2]
        rcases ih (j + 1) (hs.keep a2 (fun t _ => by simp)) (a2.ob hp (by simp)) (by omega) (by omega) with ⟨H', a, k, b⟩ | ⟨i, H', a, b, c, k, d⟩
        · exact .inl ⟨H', a, a2.trans k (fun x hx _ => hx) (fun x hx _ => hx), by rw [b]⟩
        · refine .inr ⟨i, H', by omega, b, c, a2.trans k (fun x hx _ => hx) (fun x hx _ => hx), ?_⟩
          rw [d, show i - j = (i - (j + 1)) + 1 by omega, List.take_succ_cons]; rfl
    · rw [decide_eq_false (by omega), cond_false]
      refine .inl ⟨H, rfl, Kp.refl _ _, ?_⟩
      rw [List.drop_eq_nil_of_le (by omega)]; rfl
theorem l54 (n : Nat) {p : Nat} {o : Int} {s : VS} (hp2 : p ∉ hps s) : ∀ (m i j : Nat) {H : VH} {l : List Wt}, Hr H WTY 3 s (wts l) → H[p]? = some (.row (3 + boxK) [.int .i64 o]) → l.length < 100000 → i ≤ j → j ≤ l.length → l.length < j + m →
    ∃ s' H', L53_0 (n + 1) m s (.ob p 0) (i : Int) (j : Int) H = some (.sl 66 s', H') ∧ Hr H' WTY 3 s' (wts (l.take i ++ (l.drop j).filter (·.o != o))) ∧ Kp H H' (hps s) ∧ hps s' = hps s := by
  intro m
  induction m with
  | zero => intros; omega
  | succ m ih =>
    intro i j H l hs hp hl hij hj hm
    rw [L53_0_eq, hs.len, wts_len]
    by_cases hc : j < l.length
    · obtain ⟨y, hy⟩ := get_of hc
      rw [decide_eq_true (by omega), cond_true, rd_w hs hy]
      simp only
      obtain ⟨H1, a1, a2, a3, a4⟩ := new_w H y
      rw [a1, Option.bind_some, ld_w a2, Option.bind_some]
      simp only
      obtain ⟨H2, b1, b2⟩ := p55 n (a3.ob hp (by simp)) y
      rw [show [V.agg [.int .i64 y.o, .bool y.only, .bool y.up], .ptr (.ob p 0)] = [.agg (wtc y), .ptr (.ob p 0)] from rfl, b1, Option.bind_some, inc_nat (by omega), inc_nat (by omega), drop_of hy, List.filter_cons]
      simp only
      have k2 : Kp H H2 [] := a3.trans b2 (fun x hx _ => hx) (fun x hx _ => hx)
      have hs2 := hs.keep k2 (fun t _ => by simp)
      have hp' := k2.ob hp (by simp)
      by_cases hyo : y.o = o
      · have e1 : (y.o == o) = true := by simpa using hyo
        have e2 : (y.o != o) = false := by simp [hyo]
        rw [e1, Bool.not_true, cond_false, e2]
        simp only [Bool.false_eq_true, if_false]
        obtain ⟨s', H', c1, c2, c3, c4⟩ := ih i (j + 1) hs2 hp' hl (by omega) (by omega) (by omega)
        exact ⟨s', H', c1, c2, k2.trans c3 (fun x hx _ => by cases hx) (fun x hx _ => hx), c4⟩
      · have e1 : (y.o == o) = false := by simpa using hyo
        have e2 : (y.o != o) = true := by simpa using hyo
        rw [e1, Bool.not_false, cond_true, if_pos e2, ld_w (b2.ob a2 (by simp)), Option.bind_some]
        simp only
        obtain ⟨H3, c1, c2, c3, c4⟩ := hs2.set (i := i) (by rw [wts_len]; omega) (z := wtc y) rfl rfl (fun h8 => L53_0 (n + 1) m s (.ob p 0) ((i + 1 : Nat) : Int) ((j + 1 : Nat) : Int) h8)
        rw [show [V.int .i64 y.o, .bool y.only, .bool y.up] = wtc y from rfl, c1]
        rw [← wts_set] at c2
        obtain ⟨s', H', d1, d2, d3, d4⟩ := ih (i + 1) (j + 1) c2 (c3.ob hp' hp2) (by rw [List.length_set]; exact hl) (by omega) (by rw [List.length_set]; omega) (by rw [List.length_set]; omega)
        refine ⟨s', H', d1, ?_, (k2.trans c3 (fun x hx _ => by cases hx) (fun x hx _ => hx)).trans d3 (fun x hx _ => hx) (fun x hx _ => hx), d4⟩
        have e3 : (l.set i y).take (i + 1) ++ ((l.set i y).drop (j + 1)).filter (·.o != o) = l.take i ++ y :: (l.drop (j + 1)).filter (·.o != o) := by
          rw [List.drop_set_of_lt (by omega), List.set_eq_take_append_cons_drop, if_pos (by omega)]
          rw [List.take_append, List.length_take, Nat.min_eq_left (by omega), show i + 1 - i = 1 by omega, List.take_of_length_le (by rw [List.length_take]; omega)]
          simp
        rw [e3] at d2
        exact d2
    · have hjl : j = l.length := by omega
      subst hjl
      rw [decide_eq_false (by omega), cond_false, List.drop_eq_nil_of_le (Nat.le_refl _), List.filter_nil, List.append_nil]
      obtain ⟨s2, a1, a2, a3, a4⟩ := hs.drop (c := i) (by rw [wts_len]; omega)
      rw [a1, Option.bind_some]
      obtain ⟨H1, es', b1, b2, b3, b4, b5, b6⟩ := hs.clear (c := i) (by rw [wts_len]; omega) a1 elem70 zero70 rfl (by decide) rfl
      rw [b1, Option.bind_some]
      obtain ⟨s3, c1, c2, c3⟩ := b2.take (c := i) (by rw [b3, wts_len]; omega)
      rw [c1, Option.bind_some]
      refine ⟨s3, H1, rfl, ?_, b5, c3⟩
      rw [b4, ← wts_take] at c2
      exact c2
theorem p54 (n : Nat) (hn : 3000 ≤ n) {H : VH} {s : VS} {l : List Wt} (hs : Hr H WTY 3 s (wts l)) {p : Nat} {o : Int} (hp : H[p]? = some (.row (3 + boxK) [.int .i64 o])) (hl : l.length < 2000) :
    ∃ s' H', V.callD (vF P tab (n + 3)) P false (.one (.flat (.slice 66))) 53 [.sl 66 s, .func (.func 54) [] [.ptr (.ob p 0)]] H = some (s', H') ∧ Hr H' WTY 3 s' (wts (l.filter (·.o != o))) ∧ Kp H H' (hps s) ∧ hps s' = hps s := by
  have hp2 : p ∉ hps s := fun h => by
    obtain ⟨_, cs, hcs⟩ := hs.lt p h
    rw [hp] at hcs
    injection hcs with hcs
    injection hcs with hcs
    revert hcs; decide
  have hc : ∀ (r : Int) (H1 : VH), L73_0 (n + 1) (n + 1) s (.ob p 0) (l.length : Int) ((0 : Nat) : Int) H = some (.int .i64 r, H1) → V.callD (vF P tab (n + 2)) P false (.one (.flat (.int .i64))) 73 [.sl 66 s, .func (.func 54) [] [.ptr (.ob p 0)]] H = some (r, H1) := fun r H1 h => by
    refine callD_int ?_
    rw [vF_body rfl, f73_eq, hs.len, wts_len]
    exact h
  rcases l65 n (o := o) (by omega) (n + 1) 0 hs hp (Nat.zero_le _) (by omega) with ⟨H1, a, k, b⟩ | ⟨i, H1, a, b, c, k, d⟩
  · refine ⟨s, H1, callD_sl ?_, ?_, k.weak (fun x hx _ => by cases hx), rfl⟩
    · rw [vF_body rfl, f53_eq, hc _ _ a, Option.bind_some]; rfl
    · rw [List.drop_zero] at b; rw [b]; exact hs.keep k (fun t _ => by simp)
  · obtain ⟨s', H', e1, e2, e3, e4⟩ := l54 (n + 1) (o := o) hp2 (n + 2) i (i + 1) (hs.keep k (fun t _ => by simp)) (k.ob hp (by simp)) (by omega) (by omega) (by omega) (by omega)
    refine ⟨s', H', callD_sl ?_, ?_, k.trans e3 (fun x hx _ => by cases hx) (fun x hx _ => hx), e4⟩
    · rw [vF_body rfl, f53_eq, hc _ _ c, Option.bind_some]
      simp only
      have : ((i : Int) == (-1)) = false := by
        have : (i : Int) ≠ -1 := by omega
        simp
      rw [this, cond_false, inc_nat (by omega)]
      exact e1
    · rw [List.drop_zero, Nat.sub_zero] at d
      rw [d]; exact e2
/-! ### may -/
/-! ### give -/
/-- What comes behind the two 'DeleteFunc's of leave. -/
theorem tl32 (n : Nat) (hn : 3000 ≤ n) {H : VH} {b p : Nat} {s q : VS} {hs : List Int} {only : Bool} {qs : List Wt} {o : Int} (L0 L2 : Nat) (hb : H[b]? = some (.row LTY [.sl 3 s, .bool only, .sl WTY q])) (h1 : Hr H 3 1 s (ints hs)) (h2 : Hr H WTY 3 q (wts qs)) (hp : H[p]? = some (.row (3 + boxK) [.int .i64 o])) (l1 : hs.length < 2000) (l2 : qs.length < 2000) (l3 : L0 + L2 < 100000) :
    ∃ H' s' q', ((callD (vF P tab (n + 3)) P false (.one (.flat (.slice 3))) 29 [.sl 3 s, .func (.func 52) [] [.ptr (.ob p 0)]] H).bind fun r18 =>
        ((stV r18.2 (.ob b 0) [.sl 3 r18.1]).bind fun h21 =>
        ((ldV (.flat (.slice 66)) h21 (.ob b 2)).bind fun x24 =>
        ((callD (vF P tab (n + 3)) P false (.one (.flat (.slice 66))) 53 [.sl 66 x24, .func (.func 54) [] [.ptr (.ob p 0)]] h21).bind fun r25 =>
        ((stV r25.2 (.ob b 2) [.sl 66 r25.1]).bind fun h28 =>
        ((ldV (.flat (.slice 3)) h28 (.ob b 0)).bind fun x31 =>
        ((ldV (.flat (.slice 66)) h28 (.ob b 2)).bind fun x34 =>
        (some (V.bool (decide (((IntKind.wrap .i64 (((VS.len x31 : Nat) : Int) + ((VS.len x34 : Nat) : Int))) : Int) < (IntKind.wrap .i64 (((L0 : Nat) : Int) + ((L2 : Nat) : Int))))), h28)))))))))
      = some (.bool (decide ((hs.filter (· != o)).length + (qs.filter (·.o != o)).length < L0 + L2)), H') ∧ H'[b]? = some (.row LTY [.sl 3 s', .bool only, .sl WTY q']) ∧ Hr H' 3 1 s' (ints (hs.filter (· != o))) ∧ Hr H' WTY 3 q' (wts (qs.filter (·.o != o))) ∧ Kp H H' (b :: (hps s ++ hps q)) ∧ hps s' = hps s ∧ hps q' = hps q := by
  obtain ⟨s', H1, a1, a2, a3, a4, a5⟩ := p52 n hn h1 hp l1
  rw [a1, Option.bind_some]
  simp only
  have hb1 := a3.ob hb (hr_ne h1 hb (by decide))
  have hq1 := h2.keep a3 (hr_dis h1 h2 (by decide))
  rw [st_l0 hb1, Option.bind_some]
  obtain ⟨H2, e2⟩ : ∃ H2 : VH, H2 = H1.set b (.row LTY [.sl 3 s', .bool only, .sl WTY q]) := ⟨_, rfl⟩
  rw [← e2]
  have k2 : Kp H1 H2 [b] := by rw [e2]; exact Kp.set _ _ _
  have hb2 : H2[b]? = some (.row LTY [.sl 3 s', .bool only, .sl WTY q]) := by rw [e2]; exact set_at hb1
  have hs2 := a2.keep k2 (fun t ht => by simp; rintro rfl; exact hr_ne a2 hb1 (by decide) ht)
  have hq2 := hq1.keep k2 (fun t ht => by simp; rintro rfl; exact hr_ne hq1 hb1 (by decide) ht)
  have hpb : p ≠ b := by rintro rfl; rw [hp] at hb; injection hb with hb; injection hb with hb; revert hb; decide
  have hp2 := k2.ob (a3.ob hp (hr_ne h1 hp (by decide))) (by simpa using hpb)
  rw [ld_l2 hb2, Option.bind_some]
  obtain ⟨q', H3, c1, c2, c3, c4⟩ := p54 n hn hq2 hp2 l2
  rw [c1, Option.bind_some]
  simp only
  have hb3 := c3.ob hb2 (hr_ne hq2 hb2 (by decide))
  have hs3 := hs2.keep c3 (hr_dis hq2 hs2 (by decide))
  rw [st_l2 hb3, Option.bind_some]
  obtain ⟨H4, e4⟩ : ∃ H4 : VH, H4 = H3.set b (.row LTY [.sl 3 s', .bool only, .sl WTY q']) := ⟨_, rfl⟩
  rw [← e4]
  have k4 : Kp H3 H4 [b] := by rw [e4]; exact Kp.set _ _ _
  have hb4 : H4[b]? = some (.row LTY [.sl 3 s', .bool only, .sl WTY q']) := by rw [e4]; exact set_at hb3
  have hs4 := hs3.keep k4 (fun t ht => by simp; rintro rfl; exact hr_ne hs3 hb3 (by decide) ht)
  have hq4 := c2.keep k4 (fun t ht => by simp; rintro rfl; exact hr_ne c2 hb3 (by decide) ht)
  rw [ld_l0 hb4, Option.bind_some, ld_l2 hb4, Option.bind_some, hs4.len, hq4.len, ints_len, wts_len]
  have f1 := fl_len (· != o) hs
  have f2 := fl_len (fun w : Wt => w.o != o) qs
  rw [w2 _ _ (by omega), w2 _ _ l3, ltI]
  refine ⟨H4, s', q', rfl, hb4, hs4, hq4, ?_, a4, c4⟩
  have z1 : Kp H H2 (b :: (hps s ++ hps q)) := a3.trans k2 (fun x hx _ => by simp [hx]) (fun x hx _ => by simp at hx; simp [hx])
  have z2 : Kp H H3 (b :: (hps s ++ hps q)) := z1.trans c3 (fun x hx _ => hx) (fun x hx _ => by simp [hx])
  exact z2.trans k4 (fun x hx _ => hx) (fun x hx _ => by simp at hx; simp [hx])
theorem p32 (n : Nat) (hn : 3000 ≤ n) {H : VH} {b : Nat} {F : List Nat} {x : Lk} (h : LO H b F x) (o : Int) (l1 : x.hs.length < 2000) (l2 : x.q.length < 2000) : ∃ H', V.callD (vF P tab (n + 4)) P false (.one (.flat .bool)) 34 [.ptr (.ob b 0), .int .i64 o] H = some (decide ((leaveP x o).hs.length + (leaveP x o).q.length < x.hs.length + x.q.length), H') ∧ LO H' b F (leaveP x o) ∧ Kp H H' F := by
  have main : ∃ H', bodyV P tab (vF P tab (n + 3)) (n + 3) 34 [.ptr (.ob b 0), .int .i64 o] H = some (.bool (decide ((leaveP x o).hs.length + (leaveP x o).q.length < x.hs.length + x.q.length)), H') ∧ LO H' b F (leaveP x o) ∧ Kp H H' F := by
    rw [f34_eq]
    obtain ⟨s, q, hb, hs, hq, rfl⟩ := h
    obtain ⟨H1, e1⟩ : ∃ H1 : VH, H1 = H ++ [VO.row (3 + boxK) [.int .i64 o]] := ⟨_, rfl⟩
    have hp1 : H1[H.length]? = some (.row (3 + boxK) [.int .i64 o]) := by rw [e1]; exact app_last _ _
    have k1 : Kp H H1 [] := by rw [e1]; exact Kp.app _ _
    rw [← e1]
    have hb1 := k1.ob hb (by simp)
    have hs1 := hs.keep k1 (fun t _ => by simp)
    have hq1 := hq.keep k1 (fun t _ => by simp)
    have lp : ldV (.flat (.int .i64)) H1 (.ob H.length 0) = some o := by rw [ld_row hp1]; exact fd_int .i64 _
    simp only [nn, atO, Option.bind_some, Nat.zero_add]
    rw [ld_l0 hb1, Option.bind_some, ld_l2 hb1, Option.bind_some, Option.bind_some, lp, Option.bind_some, p27 (n + 1) (by omega) hs1 o l1, Option.bind_some]
    simp only
    rw [hs1.len, hq1.len, ints_len, wts_len]
    unfold leaveP
    cases hc : x.hs.contains o with
    | true =>
      rw [cond_true, st_l1 hb1, Option.bind_some]
      obtain ⟨H2, e2⟩ : ∃ H2 : VH, H2 = H1.set b (.row LTY [.sl 3 s, .bool false, .sl WTY q]) := ⟨_, rfl⟩
      rw [← e2]
      have k2 : Kp H1 H2 [b] := by rw [e2]; exact Kp.set _ _ _
      have hb2 : H2[b]? = some (.row LTY [.sl 3 s, .bool false, .sl WTY q]) := by rw [e2]; exact set_at hb1
      have hs2 := hs1.keep k2 (fun t ht => by simp; rintro rfl; exact hr_ne hs1 hb1 (by decide) ht)
      have hq2 := hq1.keep k2 (fun t ht => by simp; rintro rfl; exact hr_ne hq1 hb1 (by decide) ht)
      have hpb : H.length ≠ b := by have := lt_of_ob hb; omega
      have hp2 := k2.ob hp1 (by simpa using hpb)
      rw [ld_l0 hb2, Option.bind_some]
      obtain ⟨H', s', q', g1, g2, g3, g4, g5, g6, g7⟩ := tl32 n hn x.hs.length x.q.length hb2 hs2 hq2 hp2 l1 l2 (by omega)
      refine ⟨H', g1, ⟨s', q', g2, g3, g4, by rw [g6, g7]⟩, ?_⟩
      exact (k1.trans k2 (Z := b :: (hps s ++ hps q)) (fun x hx _ => by cases hx) (fun x hx _ => by simp at hx; simp [hx])).trans g5 (fun x hx _ => hx) (fun x hx _ => hx)
    | false =>
      rw [cond_false, ld_l0 hb1, Option.bind_some]
      obtain ⟨H', s', q', g1, g2, g3, g4, g5, g6, g7⟩ := tl32 n hn x.hs.length x.q.length hb1 hs1 hq1 hp1 l1 l2 (by omega)
      refine ⟨H', g1, ⟨s', q', g2, g3, g4, by rw [g6, g7]⟩, ?_⟩
      exact k1.trans g5 (fun x hx _ => by cases hx) (fun x hx _ => hx)
  obtain ⟨H', h1, h2⟩ := main
  exact ⟨H', callD_bool (by rw [vF_body rfl]; exact h1), h2⟩
/-! ### The table -/
/-! ### Lists of pairs -/
section
variable {A : Type}
end
/-! ### One lock of a table, and the rest -/
section
variable {H H' : VH} {k b i j : Nat} {key : Key} {Fb Fb' : List Nat} {x x' : Lk} {l1 l2 : List Ent} {ws : List (Int × Key)}
end
/-! ### wait -/
/-! ### Ask -/
/-! ### let -/
theorem l33 (n : Nat) {k b i j : Nat} {key : Key} {l1 l2 : List Ent} : ∀ (m : Nat) {H : VH} {Fb : List Nat} {x : Lk} {ws : List (Int × Key)} {s : VS} {acc : List Int}, Foc H k key b Fb x i j l1 l2 ws → Ap H 3 s (ints acc) → x.q.length < m → x.hs.length + x.q.length < 1990 → acc.length + x.q.length < 900000 →
    ∃ s' H' Fb', L35_0 (n + 2) m (.ob k 0) (.ob b 0) s H = some (.sl 3 s', H') ∧ Foc H' k key b Fb' (letP x.q x.hs x.only ws).1 i j l1 l2 (letP x.q x.hs x.only ws).2.1 ∧ Ap H' 3 s' (ints (acc ++ (letP x.q x.hs x.only ws).2.2)) ∧ Kp H H' (j :: (Fb ++ toks s)) ∧ (∀ t ∈ Fb', t ∈ Fb ∨ H.length ≤ t) ∧ (∀ t ∈ toks s', t ∈ toks s ∨ H.length ≤ t) := by
  intro m
  induction m with
  | zero => intros; omega
  | succ m ih =>
    intro H Fb x ws s acc h hA hm hsz hacc
    rw [L35_0_eq]
    simp only [nn_ob, atO_ob, Option.bind_some, Nat.zero_add]
    obtain ⟨xh, xo, xq⟩ := x
    obtain ⟨sh, sq, hb, hsh, hsq, hF⟩ := h.lo
    simp only at hm hsz hacc
    rw [ld_l2 hb, Option.bind_some, hsq.len, wts_len]
    cases xq with
    | nil =>
      have : decide ((([] : List Wt).length : Int) > 0) = false := rfl
      simp only
      rw [this, cond_false]
      refine ⟨s, H, Fb, rfl, h, ?_, Kp.refl _ _, fun t ht => .inl ht, fun t ht => .inl ht⟩
      simpa [letP] using hA
    | cons w q =>
      have : decide ((((w :: q).length : Nat) : Int) > 0) = true := decide_eq_true (by simp only [List.length_cons]; omega)
      simp only
      rw [this, cond_true, Option.bind_some]
      rw [rd_wh hsq]
      simp only
      rw [show V.agg [.int .i64 w.o, .bool w.only, .bool w.up] = .agg (wtc w) from rfl]
      obtain ⟨H1, a1, a2⟩ := p28 (n + 1) h.lo w
      rw [a1, Option.bind_some]
      have f1 := h.kn a2
      unfold letP
      cases hmay : mayP ⟨xh, xo, w :: q⟩ w with
      | false =>
        simp only [cond_false]
        refine ⟨s, H1, Fb, rfl, f1, ?_, a2.weak (fun x hx _ => by cases hx), fun t ht => .inl ht, fun t ht => .inl ht⟩
        rw [List.append_nil]
        exact hA.keep a2 (fun t _ => by simp)
      | true =>
        simp only [cond_true]
        have hb1 := a2.ob hb (by simp)
        have hsq1 := hsq.keep a2 (fun t _ => by simp)
        have hsh1 := hsh.keep a2 (fun t _ => by simp)
        rw [ld_l2 hb1, Option.bind_some, rd_wh hsq1]
        simp only
        obtain ⟨H2, b1, b2, b3, b4⟩ := new_w H1 w
        rw [b1, Option.bind_some]
        have hb2 := b3.ob hb1 (by simp)
        have hsq2 := hsq1.keep b3 (fun t _ => by simp)
        have hsh2 := hsh1.keep b3 (fun t _ => by simp)
        rw [ld_l2 hb2, Option.bind_some]
        obtain ⟨sq', c1, c2, c3, _⟩ := hsq2.drop (c := 1) (by simp [wts])
        rw [show ((1 : Nat) : Int) = 1 from rfl] at c1
        rw [c1, Option.bind_some, st_l2 hb2, Option.bind_some]
        rw [← wts_drop] at c2
        simp only [List.drop_succ_cons, List.drop_zero] at c2
        obtain ⟨H3, e3⟩ : ∃ H3 : VH, H3 = H2.set b (.row LTY [.sl 3 sh, .bool xo, .sl WTY sq']) := ⟨_, rfl⟩
        rw [← e3]
        have k3 : Kp H2 H3 [b] := by rw [e3]; exact Kp.set _ _ _
        have hb3 : H3[b]? = some (.row LTY [.sl 3 sh, .bool xo, .sl WTY sq']) := by rw [e3]; exact set_at hb2
        have hsh3 := hsh2.keep k3 (fun t ht => by simp; rintro rfl; exact hr_ne hsh2 hb2 (by decide) ht)
        have hsq3 := c2.keep k3 (fun t ht => by simp; rintro rfl; exact hr_ne c2 hb2 (by decide) ht)
        have k03 : Kp H H3 Fb := by
          rw [hF]
          exact (a2.trans b3 (Z := []) (fun x hx _ => hx) (fun x hx _ => hx)).trans k3 (fun x hx _ => by cases hx) (fun x hx _ => by simp at hx; simp [hx])
        have f3 : Foc H3 k key b Fb ⟨xh, xo, q⟩ i j l1 l2 ws := h.op k03 ⟨sh, sq', hb3, hsh3, hsq3, by rw [hF, c3]⟩ (fun t ht => .inl ht)
        have hw3 := k3.ob b2 (by simp; have := lt_of_ob hb1; omega)
        rw [ld_w hw3, Option.bind_some]
        simp only
        rw [show V.agg [.int .i64 w.o, .bool w.only, .bool w.up] = .agg (wtc w) from rfl]
        obtain ⟨H4, Fb4, d1, d2, d3, d4⟩ := p29 n f3.lo w (by simp only; simp only [List.length_cons] at hsz; omega)
        rw [d1, Option.bind_some]
        simp only
        have f4 := f3.op d3 d2 d4
        have hw4 := d3.ob hw3 (fun hm => by
          have hlt := k03.len
          rw [hF] at hm
          have := h.lo.lt H1.length (by rw [hF]; exact hm)
          have := a2.len
          omega)
        rw [ld_t1 f4.hk, Option.bind_some, ld_w0 hw4, Option.bind_some]
        have hcut := cut_int (enc := fun k : Key => sk k) f4.hj w.o
        rw [hcut, Option.bind_some]
        have k5 := Kp.set H4 j (.map (.int .i64) (ents ik sk (cutA ws w.o)))
        obtain ⟨H5, e5⟩ : ∃ H5 : VH, H5 = H4.set j (.map (.int .i64) (ents ik sk (cutA ws w.o))) := ⟨_, rfl⟩
        rw [← e5] at k5 ⊢
        have hij : i ≠ j := fun e => by have := f4.hi; rw [e, f4.hj] at this; injection this with this; injection this with this; cases this
        have hne : ∀ {a : Nat} {T cs}, H4[a]? = some (.row T cs) → a ∉ [j] := fun {a T cs} ha => by
          simp
          rintro rfl
          have := f4.hj
          rw [this] at ha; injection ha with ha; cases ha
        have f5 : Foc H5 k key b Fb4 (giveP ⟨xh, xo, q⟩ w) i j l1 l2 (cutA ws w.o) := by
          refine ⟨k5.ob f4.hk (hne f4.hk), k5.ob f4.hi (by simpa using hij), by rw [e5]; exact set_at f4.hj, fun p hp => (f4.ho p hp).keep k5 (fun t ht => ?_), f4.nd, f4.lo.keep k5 (fun t ht => ?_), f4.ds, f4.nk⟩
          · obtain ⟨T, cs, hc, _⟩ := (f4.ho p hp).ty t ht
            exact hne hc
          · obtain ⟨T, cs, hc, _⟩ := f4.lo.ty t ht
            exact hne hc
        have hw5 := k5.ob hw4 (hne hw4)
        rw [ld_w0 hw5, Option.bind_some]
        have k05 : Kp H H5 (j :: Fb) := (k03.trans d3 (Z := Fb) (fun x hx _ => hx) (fun x hx _ => hx)).trans k5 (fun x hx _ => by simp [hx]) (fun x hx _ => by simp at hx; simp [hx])
        have htn : ∀ t ∈ toks s, t ∉ j :: Fb := fun t ht hm => by
          obtain ⟨g, hg⟩ := ap_tok hA ht
          obtain ⟨q1, q2⟩ := h.tok hg
          rcases List.mem_cons.1 hm with rfl | hm
          · exact q1 (by simp [frF])
          · exact q2 hm
        have hA5 : Ap H5 3 s (ints acc) := hA.keep k05 htn
        obtain ⟨s6, H6, g1, g2, g3, g4⟩ := apI hA5 (x := .fz [[.int .i64 w.o]] (.ex 1)) (r := [w.o]) (.fz _ _) (by simp only [List.length_cons] at hacc; simp; omega)
        rw [g1, Option.bind_some]
        simp only
        have htn5 : ∀ t ∈ toks s, t ∉ frF k i j l1 l2 ∧ t ∉ Fb4 := fun t ht => by
          obtain ⟨g, hg⟩ := ap_tok hA5 ht
          exact f5.tok hg
        have f6 : Foc H6 k key b Fb4 (giveP ⟨xh, xo, q⟩ w) i j l1 l2 (cutA ws w.o) := by
          have hne6 : ∀ {a : Nat}, a ∈ frF k i j l1 l2 → a ∉ toks s := fun ha hm => (htn5 _ hm).1 ha
          refine ⟨g3.ob f5.hk (hne6 (by simp [frF])), g3.ob f5.hi (hne6 (by simp [frF])), g3.ob f5.hj (hne6 (by simp [frF])), fun p hp => (f5.ho p hp).keep g3 (fun t ht => hne6 ?_), f5.nd, f5.lo.keep g3 (fun t ht hm => (htn5 t hm).2 ht), f5.ds, f5.nk⟩
          unfold frF
          exact List.mem_cons_of_mem _ (List.mem_cons_of_mem _ (List.mem_cons_of_mem _ (mem_foot.2 ⟨p, hp, ht⟩)))
        have hhl : (giveP ⟨xh, xo, q⟩ w).hs.length ≤ xh.length + 1 := by
          unfold giveP
          cases w.up with
          | true => simp
          | false => simp [sortI_len]
        simp only [List.length_cons] at hm hsz hacc
        obtain ⟨s', H', Fb', q1, q2, q3, q4, q5, q6⟩ := ih f6 g2 (by show q.length < m; omega) (by show _ + q.length < 1990; omega) (by show _ + q.length < 900000; simp; omega)
        refine ⟨s', H', Fb', q1, q2, ?_, ?_, ?_, ?_⟩
        · rw [List.append_assoc] at q3
          exact q3
        · refine (k05.trans g3 (Z := j :: (Fb ++ toks s)) (fun x hx _ => ?_) (fun x hx _ => by simp [hx])).trans q4 (fun x hx _ => hx) (fun x hx hlt => ?_)
          · rcases List.mem_cons.1 hx with rfl | hx
            · simp
            · simp [hx]
          · rcases List.mem_cons.1 hx with rfl | hx
            · simp
            · rcases List.mem_append.1 hx with hx | hx
              · rcases d4 x hx with h | h
                · simp [h]
                · have := k03.len; omega
              · rcases g4 x hx with h | h
                · simp [h]
                · have := k05.len; omega
        · intro t ht
          rcases q5 t ht with h | h
          · rcases d4 t h with h | h
            · exact .inl h
            · exact .inr (by have := k03.len; omega)
          · exact .inr (by have := k05.len; have := g3.len; omega)
        · intro t ht
          rcases q6 t ht with h | h
          · rcases g4 t h with h | h
            · exact .inl h
            · exact .inr (by have := k05.len; omega)
          · exact .inr (by have := k05.len; have := g3.len; omega)
theorem p33 (n : Nat) (hn : 3000 ≤ n) {H : VH} {k b i j : Nat} {key : Key} {l1 l2 : List Ent} {Fb : List Nat} {x : Lk} {ws : List (Int × Key)} (h : Foc H k key b Fb x i j l1 l2 ws) (hsz : x.hs.length + x.q.length < 1990) :
    ∃ s' H' Fb', V.callD (vF P tab (n + 3)) P false (.one (.flat (.slice 3))) 35 [.ptr (.ob k 0), .ptr (.ob b 0)] H = some (s', H') ∧ Foc H' k key b Fb' (letP x.q x.hs x.only ws).1 i j l1 l2 (letP x.q x.hs x.only ws).2.1 ∧ IsE s' (ints (letP x.q x.hs x.only ws).2.2) ∧ Kp H H' (j :: Fb) ∧ (∀ t ∈ Fb', t ∈ Fb ∨ H.length ≤ t) := by
  obtain ⟨s', H', Fb', q1, q2, q3, q4, q5, q6⟩ := l33 n (n + 2) h (s := .nil) (acc := []) .nil (by omega) hsz (by simp; omega)
  refine ⟨s', H', Fb', callD_sl ?_, q2, ?_, ?_, q5⟩
  · rw [vF_body rfl, f35_eq]; exact q1
  · rw [List.nil_append] at q3; exact q3.isE
  · simpa [toks] using q4
/-! ### Free -/
theorem l13 (n : Nat) (hn : 3000 ≤ n) {k : Nat} {o : Int} {s10 : VS} {ks : List Key} (hks : IsT s10 ks) (hk4 : ks.length ≤ 400) : ∀ (m c : Nat) {H : VH} {F : List Nat} {t : Tb} {s : VS} {acc : List Int}, TO H k F t → Ap H 3 s (ints acc) → c ≤ ks.length → ks.length < c + m → acc.length ≤ 2000 * c → (ks.drop c).Nodup → (∀ key ∈ ks.drop c, getM t.m key ≠ none) → (∀ p ∈ t.m, p.2.hs.length + p.2.q.length < 1990) →
    ∃ s' H' F', L18_0 (n + 4) m (.ob k 0) o s s10 (ks.length : Int) (c : Int) H = some (.sl 3 s', H') ∧ TO H' k F' ⟨(freeK o (ks.drop c) t).1.m, cutA (freeK o (ks.drop c) t).1.ws o⟩ ∧ IsE s' (ints (acc ++ (freeK o (ks.drop c) t).2)) := by
  intro m
  induction m with
  | zero => intros; omega
  | succ m ih =>
    intro c H F t s acc h hA hc hm hacc hnd hall hsz
    rw [L18_0_eq]
    by_cases hcl : c < ks.length
    · obtain ⟨key, hkey⟩ := get_of hcl
      have hdt : decide ((c : Int) < (ks.length : Int)) = true := decide_eq_true (by omega)
      rw [hdt, cond_true, isT_rd hks hkey]
      rw [drop_of hkey] at hnd hall ⊢
      rw [List.nodup_cons] at hnd
      simp only [nn_ob, atO_ob, Option.bind_some, Nat.zero_add]
      obtain ⟨i, j, g1, g2, g3⟩ := h.find key
      rcases g3 with ⟨q1, _⟩ | ⟨l1, l2, b, Fb, x, q1, q2, q3, q4⟩
      · exact absurd q1 (hall key (List.mem_cons_self ..))
      rw [ld_t0 g1, Option.bind_some, look_l q2.hi, Option.bind_some, getM_mid (by rw [keys_kb]; exact q2.nk)]
      simp only [nn_ob, atO_ob, Option.bind_some, Nat.zero_add]
      have hx : x.hs.length + x.q.length < 1990 := hsz _ (getM_mem q1)
      obtain ⟨H1, a1, a2, a3⟩ := p32 n hn q2.lo o (by omega) (by omega)
      rw [a1, Option.bind_some]
      simp only
      have f1 := q2.op a3 a2 (fun t ht => .inl ht)
      have hlv := leaveP_len x o
      have hFb : ∀ a ∈ Fb, a ∈ F := fun a ha => (q4 a).2 (.inr ha)
      have hiF : i ∈ F := (q4 i).2 (.inl (by simp [frF]))
      have hjF : j ∈ F := (q4 j).2 (.inl (by simp [frF]))
      have tokF : ∀ a ∈ toks s, a ∉ F := fun a ha => by
        obtain ⟨g, hg⟩ := ap_tok hA ha
        exact h.tok hg
      have hA1 : Ap H1 3 s (ints acc) := hA.keep a3 (fun a ha hm => tokF a ha (hFb a hm))
      rw [inc_nat (by omega)]
      unfold freeK
      rw [lkOf_some q1]
      have hfz := freeZ_sz o x t.ws
      -- what comes behind
      have rest : ∀ {H3 : VH} {F3 : List Nat} {s3 : VS} {acc3 : List Int}, TO H3 k F3 ⟨freeM t.m key (freeZ o x t.ws).1, (freeZ o x t.ws).2.1⟩ → Ap H3 3 s3 (ints acc3) → acc3 = acc ++ (freeZ o x t.ws).2.2 →
          ∃ s' H' F', L18_0 (n + 4) m (.ob k 0) o s3 s10 (ks.length : Int) ((c + 1 : Nat) : Int) H3 = some (.sl 3 s', H') ∧ TO H' k F' ⟨(freeK o (ks.drop (c + 1)) ⟨freeM t.m key (freeZ o x t.ws).1, (freeZ o x t.ws).2.1⟩).1.m, cutA (freeK o (ks.drop (c + 1)) ⟨freeM t.m key (freeZ o x t.ws).1, (freeZ o x t.ws).2.1⟩).1.ws o⟩ ∧ IsE s' (ints (acc ++ ((freeZ o x t.ws).2.2 ++ (freeK o (ks.drop (c + 1)) ⟨freeM t.m key (freeZ o x t.ws).1, (freeZ o x t.ws).2.1⟩).2))) := by
        intro H3 F3 s3 acc3 b1 b2 b3
        subst b3
        have hne : ∀ k' ∈ ks.drop (c + 1), k' ≠ key := fun k' hk' e => hnd.1 (e ▸ hk')
        obtain ⟨s', H', F', c1, c2, c3⟩ := ih (c + 1) b1 b2 (by omega) (by omega) (by simp only [List.length_append]; omega) hnd.2 (fun k' hk' => by
          show getM (freeM t.m key _) k' ≠ none
          rw [getM_freeM (hne k' hk')]
          exact hall k' (List.mem_cons_of_mem _ hk')) (fun p hp => by
          have hp : p ∈ freeM t.m key (freeZ o x t.ws).1 := hp
          unfold freeM at hp
          cases hd : decide ((freeZ o x t.ws).1.hs.length + (freeZ o x t.ws).1.q.length = 0) with
          | true =>
            rw [hd, cond_true] at hp
            exact hsz p ((cut_sub _ _).mem hp)
          | false =>
            rw [hd, cond_false] at hp
            rcases mem_put hp with rfl | hp
            · show (freeZ o x t.ws).1.hs.length + (freeZ o x t.ws).1.q.length < 1990
              omega
            · exact hsz p hp)
        refine ⟨s', H', F', c1, c2, ?_⟩
        rw [List.append_assoc] at c3
        exact c3
      cases hch : decide ((leaveP x o).hs.length + (leaveP x o).q.length < x.hs.length + x.q.length) with
      | true =>
        rw [cond_true]
        obtain ⟨s2, H2, Fb2, b1, b2, b3, b4, b5⟩ := p33 (n + 1) (by omega) f1 (by omega)
        rw [b1, Option.bind_some]
        simp only
        have hz : freeZ o x t.ws = letP (leaveP x o).q (leaveP x o).hs (leaveP x o).only t.ws := by unfold freeZ; rw [hch]; rfl
        have hA2 : Ap H2 3 s (ints acc) := hA1.keep b4 (fun a ha hm => by
          rcases List.mem_cons.1 hm with rfl | hm
          · exact tokF _ ha hjF
          · exact tokF _ ha (hFb _ hm))
        rw [← hz] at b2 b3
        obtain ⟨s3, H3, c1, c2, c3, c4⟩ := apI hA2 b3 (by omega)
        rw [c1, Option.bind_some]
        simp only
        have tok3 : ∀ a ∈ toks s, a ∉ frF k i j l1 l2 ∧ a ∉ Fb2 := fun a ha => by
          obtain ⟨g, hg⟩ := ap_tok hA2 ha
          exact b2.tok hg
        have f3 : Foc H3 k key b Fb2 (freeZ o x t.ws).1 i j l1 l2 (freeZ o x t.ws).2.1 := by
          have hne6 : ∀ {a : Nat}, a ∈ frF k i j l1 l2 → a ∉ toks s := fun ha hm => (tok3 _ hm).1 ha
          refine ⟨c3.ob b2.hk (hne6 (by simp [frF])), c3.ob b2.hi (hne6 (by simp [frF])), c3.ob b2.hj (hne6 (by simp [frF])), fun p hp => (b2.ho p hp).keep c3 (fun t ht => hne6 ?_), b2.nd, b2.lo.keep c3 (fun t ht hm => (tok3 t hm).2 ht), b2.ds, b2.nk⟩
          unfold frF
          exact List.mem_cons_of_mem _ (List.mem_cons_of_mem _ (List.mem_cons_of_mem _ (mem_foot.2 ⟨p, hp, ht⟩)))
        obtain ⟨H4, F4, d1, d2, d3⟩ := tlF (x := x) f3 (by omega) (fun h19 => L18_0 (n + 4) m (.ob k 0) o s3 s10 (ks.length : Int) ((c + 1 : Nat) : Int) h19)
        rw [d1]
        rw [← q3] at d2
        refine rest d2 (c2.keep d3 (fun a ha hm => ?_)) rfl
        obtain ⟨g, hg⟩ := ap_tok c2 ha
        rw [List.mem_singleton] at hm
        subst hm
        exact (f3.tok hg).1 (by simp [frF])
      | false =>
        rw [cond_false]
        have hz : freeZ o x t.ws = (leaveP x o, t.ws, []) := by unfold freeZ; rw [hch]; rfl
        have f3 : Foc H1 k key b Fb (freeZ o x t.ws).1 i j l1 l2 (freeZ o x t.ws).2.1 := by rw [hz]; exact f1
        obtain ⟨H4, F4, d1, d2, d3⟩ := tlF (x := x) f3 (by omega) (fun h19 => L18_0 (n + 4) m (.ob k 0) o s s10 (ks.length : Int) ((c + 1 : Nat) : Int) h19)
        rw [d1]
        rw [← q3] at d2
        refine rest d2 (hA1.keep d3 (fun a ha hm => ?_)) (by rw [hz, List.append_nil])
        rw [List.mem_singleton] at hm
        subst hm
        exact tokF _ ha hiF
    · have : c = ks.length := by omega
      subst this
      have hdt : decide ((ks.length : Int) < (ks.length : Int)) = false := decide_eq_false (by omega)
      rw [hdt, cond_false, List.drop_eq_nil_of_le (Nat.le_refl _)]
      simp only [VP.isNil, Bool.not_false, cond_true, nn_ob, atO_ob, Option.bind_some, Nat.zero_add]
      obtain ⟨i, j, tl, g1, g2, g3, g4, g5, g6, rfl⟩ := h
      rw [ld_t1 g1, Option.bind_some]
      have hcut := cut_int (enc := fun k : Key => sk k) g3 o
      rw [hcut, Option.bind_some]
      have k5 := Kp.set H j (.map (.int .i64) (ents ik sk (cutA t.ws o)))
      have hij : i ≠ j := fun e => by rw [e, g3] at g2; injection g2 with g2; injection g2 with g2; cases g2
      have hne : ∀ {a : Nat} {T cs}, H[a]? = some (.row T cs) → a ∉ [j] := fun {a T cs} ha => by
        simp
        rintro rfl
        rw [g3] at ha; injection ha with ha; cases ha
      refine ⟨s, _, _, rfl, ⟨i, j, tl, k5.ob g1 (hne g1), k5.ob g2 (by simpa using hij), set_at g3, g4, fun p hp => (g5 p hp).keep k5 (fun a ha => ?_), g6, rfl⟩, ?_⟩
      · obtain ⟨T, cs, hc, _⟩ := (g5 p hp).ty a ha
        exact hne hc
      · unfold freeK
        rw [List.append_nil]; exact hA.isE
theorem p31 (n : Nat) {H : VH} {k : Nat} {F : List Nat} {t : Tb} (h : TO H k F t) (hl : t.m.length < 1000000) : ∃ s' H', V.callD (vF P tab (n + 2)) P false (.one (.flat (.slice 9))) 33 [.ptr (.ob k 0)] H = some (s', H') ∧ IsT s' (keysP t) ∧ Kp H H' [] := by
  obtain ⟨i, j, tl, h1, h2, h3, h4, h5, h6, rfl⟩ := h
  refine ⟨srtV (t.m.map (·.1)), _, callD_sl ?_, isT_srt _, Kp.app H [.row (55 + boxK) [.map (some i)]]⟩
  rw [vF_body rfl, f33_eq]
  simp only [VP.isNil, cond_false, nn_ob, atO_ob, Option.bind_some, Nat.zero_add]
  rw [ld_t0 h1, Option.bind_some]
  have hc : V.callD (vF P tab (n + 1)) P false (.one (.flat .any)) 51 [.map (some i)] H = some (.func (.func 72) [] [.ptr (.ob H.length 0)], H ++ [.row (55 + boxK) [.map (some i)]]) := by
    refine callD_some _ ?_ rfl
    rw [vF_body rfl, f51_eq]
  rw [hc, Option.bind_some]
  simp only
  have k1 := Kp.app H [VO.row (55 + boxK) [.map (some i)]]
  have hlen : (tl.map kb).length = t.m.length := by rw [h4, List.length_map, List.length_map]
  have hs : V.callD (vF P tab (n + 1)) P false (.one (.flat (.slice 9))) 50 [.func (.func 72) [] [.ptr (.ob H.length 0)]] (H ++ [.row (55 + boxK) [.map (some i)]]) = some (srtV ((tl.map kb).map (·.1)), H ++ [.row (55 + boxK) [.map (some i)]]) := by
    refine callD_sl ?_
    rw [vF_body rfl]
    exact sorted_str (enc := pv) (k1.ob h2 (by simp)) (app_last _ _) (by decide) (by rw [hlen]; omega) (its := [63]) (it := 63) (e := 9) rfl
  rw [hs, Option.bind_some]
  have : (tl.map kb).map (·.1) = t.m.map (·.1) := by rw [h4]; simp [kb, kx]
  rw [this]
theorem p13 (n : Nat) (hn : 3000 ≤ n) {H : VH} {k : Nat} {F : List Nat} {t : Tb} (h : TO H k F t) (o : Int) (hl : t.m.length ≤ 400) (hnd : (t.m.map (·.1)).Nodup) (hsz : ∀ p ∈ t.m, p.2.hs.length + p.2.q.length < 1990) :
    ∃ s' H' F', V.callD (vF P tab (n + 5)) P false (.one (.flat (.slice 3))) 18 [.ptr (.ob k 0), .int .i64 o] H = some (s', H') ∧ TO H' k F' (freeP t o).1 ∧ IsE s' (ints (freeP t o).2) := by
  obtain ⟨s1, H1, a1, a2, a3⟩ := p31 (n + 2) h (by omega)
  have hp : (keysP t).Perm (t.m.map (·.1)) := sortK_perm _
  have hkl : (keysP t).length ≤ 400 := by rw [hp.length_eq, List.length_map]; exact hl
  obtain ⟨s', H', F', b1, b2, b3⟩ := l13 n hn (o := o) a2 hkl (n + 4) 0 (h.kn a3) (s := .nil) (acc := []) .nil (Nat.zero_le _) (by omega) (Nat.zero_le _) (by rw [List.drop_zero]; exact hp.nodup_iff.2 hnd) (fun key hk => by
    rw [List.drop_zero] at hk
    exact mem_keys.1 (hp.mem_iff.1 hk)) hsz
  refine ⟨s', H', F', callD_sl ?_, ?_, ?_⟩
  · rw [vF_body rfl, f18_eq, a1, Option.bind_some]
    simp only
    rw [isT_len a2]
    exact b1
  · rw [List.drop_zero] at b2; exact b2
  · rw [List.drop_zero, List.nil_append] at b3; exact b3
/-! ### see -/
/-! ### Queue -/
/-! ### Waits -/
/-! ### Compact -/
/-! ### Ahead -/
/-! ### Two lists of numbers are alike -/
end Go.Proofs.Ytibdinelkpbhaaa
