import Derived.Test.YtgmgpandhaeniaaB14rd
set_option maxRecDepth 100000
set_option linter.unusedVariables false
set_option linter.unusedSimpArgs false
namespace Go.Proofs.Ytgmgpandhaeniaa.R
open Go.Proofs.Ytgmgpandhaeniaa.Sh Go.Proofs.Ytgmgpandhaeniaa.Sh.V Go.RowKit Go.Proofs.Ytgmgpandhaeniaa.Sh.Lk
/-! ### Ahead -/
theorem nb0 {H : VH} {p : Nat} {T : TypeId} {a : ByteArray} {b : Bool} (h : H[p]? = some (.row T [.str a, .bool b])) : ldV (.flat .str) H (.ob p 0) = some a := ldb h 0 .str
theorem nb1 {H : VH} {p : Nat} {T : TypeId} {a : ByteArray} {b : Bool} (h : H[p]? = some (.row T [.str a, .bool b])) : ldV (.flat .bool) H (.ob p 1) = some b := ldb h 1 .bool
def aheadH (m : List Ln) (o : Int) (k : Key) (only : Bool) : List Int := (m.filter (fun l => decide (l.k = k) && !l.waits && !decide (l.o = o) && (only || l.only))).map (·.o)
theorem l450 (n : Nat) {s0 : VS} {m : List Ln} (hs : IsL s0 m) (o : Int) {k : Key} {only : Bool} {p : Nat} (hz : m.length ≤ 1000) (hn : 3 * m.length + 10 < n) : ∀ (f j : Nat) {H : VH} {s7 : VS} {acc : List Int}, H[p]? = some (.row (54 + boxK) [.str (bk k), .bool only]) → Aq H 3 s7 (acc.map i1) → acc.length + (m.drop j).length ≤ m.length → j ≤ m.length → m.length < j + f →
    ∃ s' H', L45_0 (n + 1) f s0 o p s7 (j : Int) H = some (.sl 3 s', H') ∧ IsI s' (riseI (acc ++ aheadH (m.drop j) o k only ++ ((qR m k).map (·.o)).takeWhile (fun a => !decide (a = o)))) := by
  intro f
  induction f with
  | zero => intros; omega
  | succ f ih =>
    intro j H s7 acc hp h hl hj hm
    rw [L45_0_eq, hs.len, lns_len]
    by_cases c : j < m.length
    · obtain ⟨y, hy⟩ := get_of c
      rw [drop_cons hy, List.length_cons] at hl
      have hdt : decide ((j : Int) < (m.length : Int)) = true := decide_eq_true (by omega)
      rw [hdt, cond_true, rl_1 hs hy, inc_nat (by omega), drop_cons hy, nb0 hp, Option.bind_some, strEq_iff]
      have skip : (decide (y.k = k) && !y.waits && !decide (y.o = o) && (only || y.only)) = false → ∃ s' H', L45_0 (n + 1) f s0 o p s7 ((j + 1 : Nat) : Int) H = some (.sl 3 s', H') ∧ IsI s' (riseI (acc ++ aheadH (y :: m.drop (j + 1)) o k only ++ ((qR m k).map (·.o)).takeWhile (fun a => !decide (a = o)))) := by
        intro e
        have e2 : aheadH (y :: m.drop (j + 1)) o k only = aheadH (m.drop (j + 1)) o k only := by unfold aheadH; rw [flt_cons, e]; rfl
        rw [e2]
        exact ih (j + 1) hp h (by omega) (by omega) (by omega)
      have put : (decide (y.k = k) && !y.waits && !decide (y.o = o) && (only || y.only)) = true → ∃ s' H', ((appD true H 1 8 3 s7 (.fz [[.int .i64 y.o]] (.ex 1))).bind fun r15 => L45_0 (n + 1) f s0 o p r15.1 ((j + 1 : Nat) : Int) r15.2) = some (.sl 3 s', H') ∧ IsI s' (riseI (acc ++ aheadH (y :: m.drop (j + 1)) o k only ++ ((qR m k).map (·.o)).takeWhile (fun a => !decide (a = o)))) := by
        intro e
        have e2 : aheadH (y :: m.drop (j + 1)) o k only = y.o :: aheadH (m.drop (j + 1)) o k only := by unfold aheadH; rw [flt_cons, e]; rfl
        obtain ⟨s', H', a1, a2, a3⟩ := h.push i1 (sz := 1) (by_ := 8) y.o (by decide) (by omega)
        have a1' : appD true H 1 8 3 s7 (.fz [[.int .i64 y.o]] (.ex 1)) = some (s', H') := a1
        rw [a1', Option.bind_some]
        obtain ⟨s4, H4, b1, b2⟩ := ih (j + 1) (a3.rx _ _ _ hp) a2 (by rw [List.length_append, List.length_singleton]; omega) (by omega) (by omega)
        refine ⟨s4, H4, b1, ?_⟩
        rw [e2, show ∀ r : List Int, acc ++ y.o :: r = acc ++ [y.o] ++ r from fun r => by simp]
        exact b2
      cases e1 : decide (y.k = k) with
      | false => rw [cond_false]; exact skip (by rw [e1]; rfl)
      | true =>
        rw [cond_true, rl_3 hs hy]
        cases e2 : y.waits with
        | true => rw [Bool.not_true, cond_false]; exact skip (by rw [e2]; simp)
        | false =>
          rw [Bool.not_false, cond_true, rl_0 hs hy, bne_dec]
          cases e3 : decide (y.o = o) with
          | true => rw [Bool.not_true, cond_false]; exact skip (by rw [e3]; simp)
          | false =>
            rw [Bool.not_false, cond_true, nb1 hp, Option.bind_some]
            cases e4 : only with
            | true =>
              rw [cond_true, rl_0 hs hy]
              have := put (by rw [e1, e2, e3, e4]; rfl)
              rw [e4] at this
              exact this
            | false =>
              rw [cond_false, rl_2 hs hy]
              cases e5 : y.only with
              | true =>
                rw [cond_true, rl_0 hs hy]
                have := put (by rw [e1, e2, e3, e4, e5]; rfl)
                rw [e4] at this
                exact this
              | false =>
                rw [cond_false]
                have := skip (by rw [e4, e5]; simp)
                rw [e4] at this
                exact this
    · have hdt : decide ((j : Int) < (m.length : Int)) = false := decide_eq_false (by omega)
      rw [List.drop_eq_nil_of_le (by omega)] at hl
      rw [hdt, cond_false, List.drop_eq_nil_of_le (by omega), nb0 hp, Option.bind_some]
      rw [List.length_nil] at hl
      obtain ⟨s', a, b⟩ := c39 n hs k (by omega) (by omega) H
      rw [a, Option.bind_some]
      have hq := qR_len m k
      obtain ⟨s4, H4, c1, c2⟩ := l451 n b o (by omega) (n + 1) 0 h (by rw [List.drop_zero]; omega) (by rw [List.drop_zero]; omega) (Nat.zero_le _) (by omega)
      refine ⟨s4, H4, c1, ?_⟩
      rw [List.drop_zero] at c2
      simpa [aheadH] using c2
theorem c45 (n : Nat) {s0 : VS} {m : List Ln} (hs : IsL s0 m) (o : Int) (hz : m.length ≤ 1000) (hn : 3 * m.length + 10 < n) (H : VH) : ∃ s', V.callD (vF P tab (n + 2)) P false (.one (.flat (.slice 3))) 45 [.sl 82 s0, .int .i64 o] H = some (s', H) ∧ IsI s' (aheadR m o) := by
  have hb : ∃ s' H', bodyV P tab (vF P tab (n + 1)) (n + 1) 45 [.sl 82 s0.strip, .int .i64 o] [] = some (.sl 3 s', H') ∧ IsI s' (aheadR m o) := by
    have hs' : IsL s0.strip m := hs.strip
    rw [f45_eq, c42 n hs' o (by omega) (by omega) [], Option.bind_some]
    obtain ⟨H1, a1, a2, a3, a4⟩ := box_new [] (54 + boxK) (zs := [.str ⟨#[]⟩, .bool false]) (cs := [.str (wsr (waitsR m o)).1, .bool (wsr (waitsR m o)).2.1]) rfl rfl
    simp only
    rw [a1, Option.bind_some]
    cases hw : waitsR m o with
    | none =>
      refine ⟨.nil, H1, rfl, ?_⟩
      unfold aheadR
      rw [hw]
      exact .nil
    | some x =>
      rw [hw] at a2
      obtain ⟨s', H', b1, b2⟩ := l450 n hs' o (k := x.k) (only := x.only) (p := 0) hz hn (n + 1) 0 (H := H1) (acc := []) a2 .nil (by simp) (Nat.zero_le _) (by omega)
      refine ⟨s', H', b1, ?_⟩
      unfold aheadR
      rw [hw]
      exact b2
  obtain ⟨s', H', g1, g2⟩ := hb
  obtain ⟨a, b⟩ := lone_E (H := H) (args := [.sl 82 s0, .int .i64 o]) rfl (by simp [closed_slv 82 hs]; rfl) g1 g2
  exact ⟨s'.strip, callD_sl a, b⟩
/-! ### Ask -/
theorem l230 (n : Nat) {s0 : VS} {m : List Ln} (hs : IsL s0 m) (o : Int) {k : Key} {only : Bool} {p : Nat} {H : VH} (hp : H[p]? = some (.row (54 + boxK) [.str (bk k), .bool only])) (hz : m.length < 100000) : ∀ (f j : Nat) (a b : Bool), j ≤ m.length → m.length < j + f →
    ∃ f', L23_0 n f s0 o p a b (j : Int) H = L23_0 n (f' + 1) s0 o p (hasR o k (m.drop j) a b).1 (hasR o k (m.drop j) a b).2 (m.length : Int) H := by
  intro f
  induction f with
  | zero => intros; omega
  | succ f ih =>
    intro j a b hj hm
    by_cases c : j < m.length
    · obtain ⟨y, hy⟩ := get_of c
      have hdt : decide ((j : Int) < (m.length : Int)) = true := decide_eq_true (by omega)
      rw [L23_0_eq, hs.len, lns_len, hdt, cond_true, rl_0 hs hy, inc_nat (by omega), drop_cons hy, beq_dec]
      show ∃ f', _ = L23_0 n (f' + 1) s0 o p (hasR o k (m.drop (j + 1)) (cond (hit o k y) true a) (cond (hit o k y) y.only b)).1 (hasR o k (m.drop (j + 1)) (cond (hit o k y) true a) (cond (hit o k y) y.only b)).2 (m.length : Int) H
      unfold hit
      cases e1 : decide (y.o = o) with
      | false => rw [cond_false, Bool.false_and, cond_false, cond_false]; exact ih (j + 1) _ _ (by omega) (by omega)
      | true =>
        rw [cond_true, rl_1 hs hy, nb0 hp, Option.bind_some, strEq_iff, Bool.true_and]
        cases e2 : decide (y.k = k) with
        | false => rw [cond_false, cond_false, cond_false]; exact ih (j + 1) _ _ (by omega) (by omega)
        | true => rw [cond_true, cond_true, cond_true, rl_2 hs hy]; exact ih (j + 1) _ _ (by omega) (by omega)
    · have : j = m.length := by omega
      subst this
      rw [List.drop_eq_nil_of_le (Nat.le_refl _)]
      exact ⟨f, rfl⟩
theorem lenz (l : List Ln) : (((l.length : Nat) : Int) == 0) = l.isEmpty := by cases l <;> simp; omega
theorem c23 (n : Nat) {s0 : VS} {m : List Ln} (hs : IsL s0 m) (o : Int) (k : Key) (only : Bool) (hz : m.length < 100000) (hn : m.length + 30 < n) (H : VH) : ∃ s', V.callD (vF P tab (n + 4)) P false (.tup [(.flat (.slice 82)), (.flat .bool)]) 23 [.sl 82 s0, .int .i64 o, .agg [.str (bk k), .bool only]] H = some ((s', (askR m o k only).2, ()), H) ∧ IsL s' (askR m o k only).1 := by
  have hb : ∃ s' H', bodyV P tab (vF P tab (n + 3)) (n + 3) 23 [.sl 82 s0.strip, .int .i64 o, .agg [.str (bk k), .bool only]] [] = some (.tup [.sl 82 s', .bool (askR m o k only).2], H') ∧ IsL s' (askR m o k only).1 := by
    have hs' : IsL s0.strip m := hs.strip
    generalize s0.strip = t0 at hs'
    rw [f23_eq, c42 (n + 2) hs' o hz (by omega) _, Option.bind_some]
    obtain ⟨H0, e0⟩ : ∃ H0 : VH, H0 = ([] ++ [VO.row (54 + boxK) [.str (bk k), .bool only]] : VH) := ⟨_, rfl⟩
    have hp0 : H0[0]? = some (.row (54 + boxK) [.str (bk k), .bool only]) := by rw [e0]; rfl
    simp only
    rw [← e0]
    obtain ⟨H1, a1, a2, a3, a4⟩ := box_new H0 (54 + boxK) (zs := [.str ⟨#[]⟩, .bool false]) (cs := [.str (wsr (waitsR m o)).1, .bool (wsr (waitsR m o)).2.1]) rfl rfl
    rw [a1, Option.bind_some]
    have hp : H1[0]? = some (.row (54 + boxK) [.str (bk k), .bool only]) := (a3 0).rx _ _ _ hp0
    unfold askR
    cases hw : waitsR m o with
    | some x => exact ⟨t0, H1, rfl, hs'⟩
    | none =>
      show ∃ s' H', L23_0 (n + 3) (n + 3) t0 o 0 false false 0 H1 = _ ∧ _
      obtain ⟨f', ef⟩ := l230 (n + 3) hs' o hp hz (n + 3) 0 false false (Nat.zero_le _) (by omega)
      rw [show ((0 : Nat) : Int) = 0 from rfl, List.drop_zero] at ef
      rw [ef, L23_0_eq, hs'.len, lns_len]
      have hdt : decide ((m.length : Int) < (m.length : Int)) = false := decide_eq_false (by omega)
      rw [hdt, cond_false]
      unfold lnA
      obtain ⟨a, ea⟩ : ∃ a, a = (hasR o k m false false).1 := ⟨_, rfl⟩
      obtain ⟨b, eb⟩ : ∃ b, b = (hasR o k m false false).2 := ⟨_, rfl⟩
      rw [← ea, ← eb]
      obtain ⟨H2, b1, b2, b3, b4⟩ := box_new H1 (82 + boxK) (zs := [.int .i64 0, .str ⟨#[]⟩, .bool false, .bool false, .bool false]) (cs := lnc ⟨o, k, only, true, a⟩) rfl rfl
      have b1' : stV (H1 ++ [.row (82 + boxK) [.int .i64 0, .str ⟨#[]⟩, .bool false, .bool false, .bool false]]) (.ob H1.length 0) [.int .i64 o, .str (bk k), .bool only, .bool true, .bool a] = some H2 := b1
      have hp2 : H2[0]? = some (.row (54 + boxK) [.str (bk k), .bool only]) := (b3 0).rx _ _ _ hp
      have c40' := c40 n hs' ⟨o, k, only, true, a⟩ hz (by omega) H2
      obtain ⟨sg, g1, g2⟩ := c41 (n + 2) hs' ⟨o, k, only, true, a⟩ hz (by omega) H2
      obtain ⟨sq, q1, q2⟩ := c39 (n + 2) hs' k hz (by omega) H2
      have add : ∃ s' H', ((appD true H2 5 32 82 .nil t0).bind fun r26 => (ldV (.agg [.int .i64, .str, .bool, .bool, .bool]) r26.2 (.ob H1.length 0)).bind fun x27 => (appD true r26.2 5 32 82 r26.1 (.fz [[.int .i64 x27.1, .str x27.2.1, .bool x27.2.2.1, .bool x27.2.2.2.1, .bool x27.2.2.2.2.1]] (.ex 1))).bind fun r28 => some (V.tup [.sl 82 r28.1, .bool false], r28.2)) = some (.tup [.sl 82 s', .bool false], H') ∧ IsL s' (m ++ [⟨o, k, only, true, a⟩]) := by
        obtain ⟨s1, K1, u1, u2, u3⟩ := (Aq.nil (H := H2) (e := 82)).pushs lnc (l := []) (r := m) (sz := 5) (by_ := 32) hs' (by decide) (by simp; omega)
        rw [List.nil_append] at u2
        obtain ⟨s2, K2, v1, v2, v3⟩ := u2.push lnc (sz := 5) (by_ := 32) ⟨o, k, only, true, a⟩ (by decide) (by omega)
        have v1' : appD true K1 5 32 82 s1 (.fz [[.int .i64 o, .str (bk k), .bool only, .bool true, .bool a]] (.ex 1)) = some (s2, K2) := v1
        rw [u1, Option.bind_some]
        simp only
        rw [lnba (u3.rx _ _ _ b2), Option.bind_some]
        simp only
        rw [v1', Option.bind_some]
        exact ⟨s2, K2, rfl, v2.isE⟩
      cases a with
      | true =>
        rw [cond_true, Bool.true_and, Bool.true_or, Bool.and_true]
        cases b with
        | true => rw [cond_true, Bool.true_or, cond_true]; exact ⟨t0, H1, rfl, hs'⟩
        | false =>
          rw [cond_false, nb1 hp, Option.bind_some, Bool.false_or]
          cases only with
          | false => rw [Bool.not_false, cond_true, cond_true]; exact ⟨t0, H1, rfl, hs'⟩
          | true =>
            rw [Bool.not_true, cond_false, cond_false, nb0 hp, Option.bind_some, Option.bind_some, b1', Option.bind_some, lnba b2, Option.bind_some]
            simp only
            rw [show [V.sl 82 t0, .agg [.int .i64 o, .str (bk k), .bool true, .bool true, .bool true]] = [V.sl 82 t0, .agg (lnc ⟨o, k, true, true, true⟩)] from rfl]
            rw [c40', Option.bind_some]
            simp only
            cases hmay : mayR m ⟨o, k, true, true, true⟩ with
            | true =>
              rw [cond_true, cond_true, cond_true, lnba b2, Option.bind_some]
              simp only
              rw [show [V.sl 82 t0, .agg [.int .i64 o, .str (bk k), .bool true, .bool true, .bool true]] = [V.sl 82 t0, .agg (lnc ⟨o, k, true, true, true⟩)] from rfl]
              rw [g1, Option.bind_some]
              exact ⟨sg, H2, rfl, g2⟩
            | false =>
              rw [cond_false, cond_false]
              exact add
      | false =>
        rw [cond_false, Bool.false_and, cond_false, Bool.false_or]
        rw [nb0 hp, Option.bind_some, nb1 hp, Option.bind_some, b1', Option.bind_some, lnba b2, Option.bind_some]
        simp only
        rw [show [V.sl 82 t0, .agg [.int .i64 o, .str (bk k), .bool only, .bool true, .bool false]] = [V.sl 82 t0, .agg (lnc ⟨o, k, only, true, false⟩)] from rfl]
        rw [c40', Option.bind_some]
        simp only
        cases hmay : mayR m ⟨o, k, only, true, false⟩ with
        | true =>
          rw [cond_true, cond_false, Bool.true_and, nb0 hp2, Option.bind_some, q1, Option.bind_some]
          simp only
          rw [q2.len, lns_len, lenz]
          cases hq : (qR m k).isEmpty with
          | true =>
            rw [cond_true, cond_true, lnba b2, Option.bind_some]
            simp only
            rw [show [V.sl 82 t0, .agg [.int .i64 o, .str (bk k), .bool only, .bool true, .bool false]] = [V.sl 82 t0, .agg (lnc ⟨o, k, only, true, false⟩)] from rfl]
            rw [g1, Option.bind_some]
            exact ⟨sg, H2, rfl, g2⟩
          | false =>
            rw [cond_false, cond_false]
            exact add
        | false =>
          rw [cond_false, Bool.false_and, cond_false]
          exact add
  obtain ⟨s', H', g1, g2⟩ := hb
  have := vF_lone (H := H) (args := [.sl 82 s0, .int .i64 o, .agg [.str (bk k), .bool only]]) rfl (by show (closedC (.sl 82 s0) && _) = true; rw [closed_slv 82 hs]; rfl) g1 (by show (closedC (.sl 82 s') && _) = true; rw [closed_slv 82 g2]; rfl)
  exact ⟨s'.strip, callD_some (.tup [.sl 82 s'.strip, .bool (askR m o k only).2]) this (dec_sb 82 _ _), g2.strip⟩
end Go.Proofs.Ytgmgpandhaeniaa.R
