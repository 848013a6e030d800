import Derived.Test.YtgmgpandhaeniaaB14t
set_option maxRecDepth 100000
set_option linter.unusedVariables false
set_option linter.unusedSimpArgs false
namespace Go.Proofs.Ytgmgpandhaeniaa
open Go.Proofs.Ytgmgpandhaeniaa.Sh Go.Proofs.Ytgmgpandhaeniaa.Sh.V Go.RowKit Go.Proofs.Ytgmgpandhaeniaa.Sh.Lk
/-! ### Waiters that go -/
theorem p55 (n : Nat) {H : VH} {p : Nat} {o : Int} (hp : H[p]? = some (.row (3 + boxK) [.int .i64 o])) (w : Wt) : ∃ H', V.callD (vF P tab (n + 1)) P false (.one (.flat .bool)) 55 [.agg (wtc w), .ptr (.ob p 0)] H = some (w.o == o, H') ∧ Kp H H' [] := by
  refine ⟨_, callD_bool ?_, Kp.app H [.row (70 + boxK) (wtc w)]⟩
  rw [vF_body rfl]
  show bodyV P tab (vF P tab n) n 55 [.agg [.int .i64 w.o, .bool w.only, .bool w.up], .ptr (.ob p 0)] H = _
  rw [f55_eq]
  have h1 : (H ++ [VO.row (70 + boxK) (wtc w)])[H.length]? = some (.row (70 + boxK) (wtc w)) := by simp
  have h2 := (Kp.app H [.row (70 + boxK) (wtc w)]).ob hp (by simp)
  rw [show [VO.row (70 + boxK) [.int .i64 w.o, .bool w.only, .bool w.up]] = [VO.row (70 + boxK) (wtc w)] from rfl, ld_row h1]
  show ((V.fdec (.int .i64) (.int .i64 w.o)).bind _) = _
  rw [fd_int, Option.bind_some, ld_row h2]
  show ((V.fdec (.int .i64) (.int .i64 o)).bind _) = _
  rw [fd_int]; rfl
theorem rd_w {H : VH} {s : VS} {q : List Wt} (hs : Hr H WTY 3 s (wts q)) {i : Nat} {w : Wt} (hw : q[i]? = some w) {β : Type} (f : V.aggT [.int .i64, .bool, .bool] → Option β) : ((ixV 3 s (i : Int)).bind fun p => (ldV (.agg [.int .i64, .bool, .bool]) H p).bind f) = f (w.o, w.only, w.up, ()) := hs.rd (wts_get hw) rfl (dec_w w) f
theorem l65 (n : Nat) {s : VS} {q : List Wt} {p : Nat} {o : Int} (hl : q.length < 100000) : ∀ (m j : Nat) {H : VH}, Hr H WTY 3 s (wts q) → H[p]? = some (.row (3 + boxK) [.int .i64 o]) → j ≤ q.length → q.length < j + m →
    (∃ H', L65_0 (n + 1) m s (.ob p 0) (q.length : Int) (j : Int) H = some (.int .i64 (-1), H') ∧ Kp H H' [] ∧ (q.drop j).filter (·.o != o) = q.drop j) ∨
    ∃ i H', j ≤ i ∧ i < q.length ∧ L65_0 (n + 1) m s (.ob p 0) (q.length : Int) (j : Int) H = some (.int .i64 (i : Int), H') ∧ Kp H H' [] ∧ (q.drop j).filter (·.o != o) = (q.drop j).take (i - j) ++ (q.drop (i + 1)).filter (·.o != o) := by
  intro m
  induction m with
  | zero => intros; omega
  | succ m ih =>
    intro j H hs hp h1 h2
    rw [L65_0_eq]
    by_cases hj : j < q.length
    · obtain ⟨y, hy⟩ := get_of hj
      obtain ⟨H1, a1, a2⟩ := p55 n hp y
      rw [decide_eq_true (by omega), cond_true, rd_w hs hy]
      simp only
      rw [show [V.agg [.int .i64 y.o, .bool y.only, .bool y.up], .ptr (.ob p 0)] = [.agg (wtc y), .ptr (.ob p 0)] from rfl, a1, Option.bind_some, inc_nat (by omega), drop_of hy]
      simp only
      by_cases hyo : y.o = o
      · have : (y.o == o) = true := by simpa using hyo
        rw [this, cond_true]
        refine .inr ⟨j, H1, Nat.le_refl _, hj, rfl, a2, ?_⟩
        have : (y.o != o) = false := by simp [hyo]
        rw [List.filter_cons, this, Nat.sub_self]
        rfl
      · have e1 : (y.o == o) = false := by simpa using hyo
        have e2 : (y.o != o) = true := by simpa using hyo
        rw [e1, cond_false, List.filter_cons, if_pos e2]
        rcases ih (j + 1) (hs.keep a2 (fun t _ => by simp)) (a2.ob hp (by simp)) (by omega) (by omega) with ⟨H', a, k, b⟩ | ⟨i, H', a, b, c, k, d⟩
        · exact .inl ⟨H', a, a2.trans k (fun x hx _ => hx) (fun x hx _ => hx), by rw [b]⟩
        · refine .inr ⟨i, H', by omega, b, c, a2.trans k (fun x hx _ => hx) (fun x hx _ => hx), ?_⟩
          rw [d, show i - j = (i - (j + 1)) + 1 by omega, List.take_succ_cons]; rfl
    · rw [decide_eq_false (by omega), cond_false]
      refine .inl ⟨H, rfl, Kp.refl _ _, ?_⟩
      rw [List.drop_eq_nil_of_le (by omega)]; rfl
theorem wts_set (l : List Wt) (i : Nat) (x : Wt) : wts (l.set i x) = (wts l).set i (wtc x) := by simp [wts, List.map_set]
theorem wts_take (l : List Wt) (i : Nat) : wts (l.take i) = (wts l).take i := by simp [wts]
theorem wts_drop (l : List Wt) (i : Nat) : wts (l.drop i) = (wts l).drop i := by simp [wts]
/-- A copy in a new object. -/
theorem new_w (H : VH) (w : Wt) : ∃ H', stV (H ++ [.row (70 + boxK) [.int .i64 0, .bool false, .bool false]]) (.ob H.length 0) [.int .i64 w.o, .bool w.only, .bool w.up] = some H' ∧ H'[H.length]? = some (.row (70 + boxK) (wtc w)) ∧ Kp H H' [] ∧ H'.length = H.length + 1 := by
  have h0 : (H ++ [VO.row (70 + boxK) [.int .i64 0, .bool false, .bool false]])[H.length]? = some (.row (70 + boxK) [.int .i64 0, .bool false, .bool false]) := by simp
  refine ⟨_, st_row h0 (by simp) rfl, ?_, ?_, by simp⟩
  · rw [List.getElem?_set_self (by simp)]; rfl
  · exact ⟨by simp, fun i hi _ => by rw [List.getElem?_set_ne (by omega), List.getElem?_append_left hi]⟩
theorem ld_w {H : VH} {i : Nat} {w : Wt} {T : TypeId} (h : H[i]? = some (.row T (wtc w))) : ldV (.agg [.int .i64, .bool, .bool]) H (.ob i 0) = some (w.o, w.only, w.up, ()) := by
  simp only [ldV, rowV_of h, Option.bind_some]
  have : takeN 0 [V.FT.int .i64, V.FT.bool, V.FT.bool].length (wtc w) = some (wtc w) := rfl
  rw [this, Option.bind_some, dec_w]
theorem ld_w0 {H : VH} {i : Nat} {w : Wt} {T : TypeId} (h : H[i]? = some (.row T (wtc w))) : ldV (.flat (.int .i64)) H (.ob i 0) = some w.o := by rw [ld_row h]; exact fd_int .i64 _
theorem ld_w1 {H : VH} {i : Nat} {w : Wt} {T : TypeId} (h : H[i]? = some (.row T (wtc w))) : ldV (.flat .bool) H (.ob i 1) = some w.only := by rw [ld_row h]; rfl
theorem ld_w2 {H : VH} {i : Nat} {w : Wt} {T : TypeId} (h : H[i]? = some (.row T (wtc w))) : ldV (.flat .bool) H (.ob i 2) = some w.up := by rw [ld_row h]; rfl
theorem l54 (n : Nat) {p : Nat} {o : Int} {s : VS} (hp2 : p ∉ hps s) : ∀ (m i j : Nat) {H : VH} {l : List Wt}, Hr H WTY 3 s (wts l) → H[p]? = some (.row (3 + boxK) [.int .i64 o]) → l.length < 100000 → i ≤ j → j ≤ l.length → l.length < j + m →
    ∃ s' H', L54_0 (n + 1) m s (.ob p 0) (i : Int) (j : Int) H = some (.sl 70 s', H') ∧ Hr H' WTY 3 s' (wts (l.take i ++ (l.drop j).filter (·.o != o))) ∧ Kp H H' (hps s) ∧ hps s' = hps s := by
  intro m
  induction m with
  | zero => intros; omega
  | succ m ih =>
    intro i j H l hs hp hl hij hj hm
    rw [L54_0_eq, hs.len, wts_len]
    by_cases hc : j < l.length
    · obtain ⟨y, hy⟩ := get_of hc
      rw [decide_eq_true (by omega), cond_true, rd_w hs hy]
      simp only
      obtain ⟨H1, a1, a2, a3, a4⟩ := new_w H y
      rw [a1, Option.bind_some, ld_w a2, Option.bind_some]
      simp only
      obtain ⟨H2, b1, b2⟩ := p55 n (a3.ob hp (by simp)) y
      rw [show [V.agg [.int .i64 y.o, .bool y.only, .bool y.up], .ptr (.ob p 0)] = [.agg (wtc y), .ptr (.ob p 0)] from rfl, b1, Option.bind_some, inc_nat (by omega), inc_nat (by omega), drop_of hy, List.filter_cons]
      simp only
      have k2 : Kp H H2 [] := a3.trans b2 (fun x hx _ => hx) (fun x hx _ => hx)
      have hs2 := hs.keep k2 (fun t _ => by simp)
      have hp' := k2.ob hp (by simp)
      by_cases hyo : y.o = o
      · have e1 : (y.o == o) = true := by simpa using hyo
        have e2 : (y.o != o) = false := by simp [hyo]
        rw [e1, Bool.not_true, cond_false, e2]
        simp only [Bool.false_eq_true, if_false]
        obtain ⟨s', H', c1, c2, c3, c4⟩ := ih i (j + 1) hs2 hp' hl (by omega) (by omega) (by omega)
        exact ⟨s', H', c1, c2, k2.trans c3 (fun x hx _ => by cases hx) (fun x hx _ => hx), c4⟩
      · have e1 : (y.o == o) = false := by simpa using hyo
        have e2 : (y.o != o) = true := by simpa using hyo
        rw [e1, Bool.not_false, cond_true, if_pos e2, ld_w (b2.ob a2 (by simp)), Option.bind_some]
        simp only
        obtain ⟨H3, c1, c2, c3, c4⟩ := hs2.set (i := i) (by rw [wts_len]; omega) (z := wtc y) rfl rfl (fun h8 => L54_0 (n + 1) m s (.ob p 0) ((i + 1 : Nat) : Int) ((j + 1 : Nat) : Int) h8)
        rw [show [V.int .i64 y.o, .bool y.only, .bool y.up] = wtc y from rfl, c1]
        rw [← wts_set] at c2
        obtain ⟨s', H', d1, d2, d3, d4⟩ := ih (i + 1) (j + 1) c2 (c3.ob hp' hp2) (by rw [List.length_set]; exact hl) (by omega) (by rw [List.length_set]; omega) (by rw [List.length_set]; omega)
        refine ⟨s', H', d1, ?_, (k2.trans c3 (fun x hx _ => by cases hx) (fun x hx _ => hx)).trans d3 (fun x hx _ => hx) (fun x hx _ => hx), d4⟩
        have e3 : (l.set i y).take (i + 1) ++ ((l.set i y).drop (j + 1)).filter (·.o != o) = l.take i ++ y :: (l.drop (j + 1)).filter (·.o != o) := by
          rw [List.drop_set_of_lt (by omega), List.set_eq_take_append_cons_drop, if_pos (by omega)]
          rw [List.take_append, List.length_take, Nat.min_eq_left (by omega), show i + 1 - i = 1 by omega, List.take_of_length_le (by rw [List.length_take]; omega)]
          simp
        rw [e3] at d2
        exact d2
    · have hjl : j = l.length := by omega
      subst hjl
      rw [decide_eq_false (by omega), cond_false, List.drop_eq_nil_of_le (Nat.le_refl _), List.filter_nil, List.append_nil]
      obtain ⟨s2, a1, a2, a3, a4⟩ := hs.drop (c := i) (by rw [wts_len]; omega)
      rw [a1, Option.bind_some]
      obtain ⟨H1, es', b1, b2, b3, b4, b5, b6⟩ := hs.clear (c := i) (by rw [wts_len]; omega) a1 elem70 zero70 rfl (by decide) rfl
      rw [b1, Option.bind_some]
      obtain ⟨s3, c1, c2, c3⟩ := b2.take (c := i) (by rw [b3, wts_len]; omega)
      rw [c1, Option.bind_some]
      refine ⟨s3, H1, rfl, ?_, b5, c3⟩
      rw [b4, ← wts_take] at c2
      exact c2
theorem p54 (n : Nat) (hn : 3000 ≤ n) {H : VH} {s : VS} {l : List Wt} (hs : Hr H WTY 3 s (wts l)) {p : Nat} {o : Int} (hp : H[p]? = some (.row (3 + boxK) [.int .i64 o])) (hl : l.length < 2000) :
    ∃ s' H', V.callD (vF P tab (n + 3)) P false (.one (.flat (.slice 70))) 54 [.sl 70 s, .func (.func 55) [] [.ptr (.ob p 0)]] H = some (s', H') ∧ Hr H' WTY 3 s' (wts (l.filter (·.o != o))) ∧ Kp H H' (hps s) ∧ hps s' = hps s := by
  have hp2 : p ∉ hps s := fun h => by
    obtain ⟨_, cs, hcs⟩ := hs.lt p h
    rw [hp] at hcs
    injection hcs with hcs
    injection hcs with hcs
    revert hcs; decide
  have hc : ∀ (r : Int) (H1 : VH), L65_0 (n + 1) (n + 1) s (.ob p 0) (l.length : Int) ((0 : Nat) : Int) H = some (.int .i64 r, H1) → V.callD (vF P tab (n + 2)) P false (.one (.flat (.int .i64))) 65 [.sl 70 s, .func (.func 55) [] [.ptr (.ob p 0)]] H = some (r, H1) := fun r H1 h => by
    refine callD_int ?_
    rw [vF_body rfl, f65_eq, hs.len, wts_len]
    exact h
  rcases l65 n (o := o) (by omega) (n + 1) 0 hs hp (Nat.zero_le _) (by omega) with ⟨H1, a, k, b⟩ | ⟨i, H1, a, b, c, k, d⟩
  · refine ⟨s, H1, callD_sl ?_, ?_, k.weak (fun x hx _ => by cases hx), rfl⟩
    · rw [vF_body rfl, f54_eq, hc _ _ a, Option.bind_some]; rfl
    · rw [List.drop_zero] at b; rw [b]; exact hs.keep k (fun t _ => by simp)
  · obtain ⟨s', H', e1, e2, e3, e4⟩ := l54 (n + 1) (o := o) hp2 (n + 2) i (i + 1) (hs.keep k (fun t _ => by simp)) (k.ob hp (by simp)) (by omega) (by omega) (by omega) (by omega)
    refine ⟨s', H', callD_sl ?_, ?_, k.trans e3 (fun x hx _ => by cases hx) (fun x hx _ => hx), e4⟩
    · rw [vF_body rfl, f54_eq, hc _ _ c, Option.bind_some]
      simp only
      have : ((i : Int) == (-1)) = false := by
        have : (i : Int) ≠ -1 := by omega
        simp
      rw [this, cond_false, inc_nat (by omega)]
      exact e1
    · rw [List.drop_zero, Nat.sub_zero] at d
      rw [d]; exact e2
end Go.Proofs.Ytgmgpandhaeniaa
