import Derived.Test.YtgmgpandhaeniaaB14re
set_option maxRecDepth 100000
set_option linter.unusedVariables false
set_option linter.unusedSimpArgs false
namespace Go.Proofs.Ytgmgpandhaeniaa.R
open Go.Proofs.Ytgmgpandhaeniaa.Sh Go.Proofs.Ytgmgpandhaeniaa.Sh.V Go.RowKit Go.Proofs.Ytgmgpandhaeniaa.Sh.Lk
/-! ### Free -/
theorem l222 (n : Nat) {s7 : VS} {ks : List Key} (hk : IsT s7 ks) {i : Nat} {k : Key} (hi : ks[i]? = some k) (m0 : Nat) : ∀ (N f : Nat) {H : VH} {s6 s9 : VS} {m : List Ln} {acc : List Int}, IsL s6 m → m.length ≤ 1000 → m.length + 10 < n → (qR m k).length ≤ N → N < f → Aq H 3 s9 (acc.map i1) → acc.length + N < 100000000 →
    ∃ s' t' H', L22_2 (n + 3) m0 f s6 s7 s9 (i : Int) H = L22_1 (n + 3) m0 s' s7 t' (IntKind.wrap .i64 ((i : Int) + 1)) H' ∧ IsL s' (letR N m k).1 ∧ Aq H' 3 t' ((acc ++ (letR N m k).2).map i1) := by
  intro N
  induction N with
  | zero =>
    intro f H s6 s9 m acc hs hz hn hN hf h hl
    obtain ⟨f, rfl⟩ : ∃ f1, f = f1 + 1 := ⟨f - 1, by omega⟩
    have hq : qR m k = [] := List.eq_nil_of_length_eq_zero (by omega)
    obtain ⟨sq, q1, q2⟩ := c39 (n + 2) hs k (by omega) (by omega) H
    rw [L22_2_eq, isT_rd hk hi, q1, Option.bind_some]
    simp only
    rw [q2.len, lns_len, hq, show (((([] : List Ln).length : Nat) : Int) == 0) = true from rfl, cond_true]
    exact ⟨s6, s9, H, rfl, hs, by simpa [letR] using h⟩
  | succ N ih =>
    intro f H s6 s9 m acc hs hz hn hN hf h hl
    obtain ⟨f, rfl⟩ : ∃ f1, f = f1 + 1 := ⟨f - 1, by omega⟩
    obtain ⟨sq, q1, q2⟩ := c39 (n + 2) hs k (by omega) (by omega) H
    rw [L22_2_eq, isT_rd hk hi, q1, Option.bind_some]
    simp only
    rw [q2.len, lns_len, lenz]
    unfold letR
    cases hq : qR m k with
    | nil =>
      rw [show ([] : List Ln).isEmpty = true from rfl, cond_true]
      exact ⟨s6, s9, H, rfl, hs, by simpa using h⟩
    | cons x r =>
      rw [show (x :: r).isEmpty = false from rfl, cond_false]
      rw [hq] at q2
      have hx0 : (x :: r)[0]? = some x := rfl
      have hixa : ∀ {β : Type} (g : V.aggT [.int .i64, .str, .bool, .bool, .bool] → Option β), ((ixV 5 sq 0).bind fun p1 => (ldV (.agg [.int .i64, .str, .bool, .bool, .bool]) H p1).bind g) = g (x.o, ⟨x.k.toArray⟩, x.only, x.waits, x.goes, ()) := fun g => rl_a q2 hx0 H g
      rw [hixa]
      simp only
      rw [show [V.sl 82 s6, .agg [.int .i64 x.o, .str ⟨x.k.toArray⟩, .bool x.only, .bool x.waits, .bool x.goes]] = [V.sl 82 s6, .agg (lnc x)] from rfl]
      rw [c40 n hs x (by omega) hn H, Option.bind_some]
      simp only
      cases hm : mayR m x with
      | false =>
        rw [Bool.not_false, cond_true, cond_false]
        exact ⟨s6, s9, H, rfl, hs, by simpa using h⟩
      | true =>
        rw [Bool.not_true, cond_false, cond_true, hixa]
        simp only
        rw [show [V.sl 82 s6, .agg [.int .i64 x.o, .str ⟨x.k.toArray⟩, .bool x.only, .bool x.waits, .bool x.goes]] = [V.sl 82 s6, .agg (lnc x)] from rfl]
        obtain ⟨sg, g1, g2⟩ := c41 (n + 2) hs x (by omega) (by omega) H
        rw [g1, Option.bind_some]
        have hixo : ∀ {β : Type} (g : Int → Option β), ((ixV 5 sq 0).bind fun p1 => (atO p1 0).bind fun p2 => (ldV (.flat (.int .i64)) H p2).bind g) = g x.o := fun g => rl_0 q2 hx0 H g
        simp only
        rw [hixo]
        obtain ⟨s', H', a1, a2, a3⟩ := h.push i1 (sz := 1) (by_ := 8) x.o (by decide) (by omega)
        have a1' : appD true H 1 8 3 s9 (.fz [[.int .i64 x.o]] (.ex 1)) = some (s', H') := a1
        rw [a1', Option.bind_some]
        have hlt := qR_lt hq
        have hmem : x ∈ m := (mem_qR.1 (by rw [hq]; exact List.mem_cons_self ..)).1
        have hgl := giveR_len' hmem
        obtain ⟨s4, t4, H4, b1, b2, b3⟩ := ih f g2 (by omega) (by omega) (by omega) (by omega) a2 (by rw [List.length_append, List.length_singleton]; omega)
        refine ⟨s4, t4, H4, b1, b2, ?_⟩
        rw [show ∀ r : List Int, acc ++ x.o :: r = acc ++ [x.o] ++ r from fun r => by simp]
        exact b3
theorem l221 (n : Nat) {s7 : VS} {ks : List Key} (hk : IsT s7 ks) (hkz : ks.length ≤ 1000) : ∀ (f i : Nat) {H : VH} {s6 s9 : VS} {m : List Ln} {acc : List Int}, IsL s6 m → m.length ≤ 1000 → m.length + 10 < n → Aq H 3 s9 (acc.map i1) → acc.length ≤ i * 1000 → i ≤ ks.length → ks.length < i + f →
    ∃ s' t' H', L22_1 (n + 3) f s6 s7 s9 (i : Int) H = some (.tup [.sl 82 s', .sl 3 t'], H') ∧ IsL s' (freeKR (ks.drop i) m).1 ∧ IsI t' (acc ++ (freeKR (ks.drop i) m).2) := by
  intro f
  induction f with
  | zero => intros; omega
  | succ f ih =>
    intro i H s6 s9 m acc hs hz hn h hl hi hm
    rw [L22_1_eq, isT_len hk]
    by_cases c : i < ks.length
    · obtain ⟨k, hx⟩ := get_of c
      have hdt : decide ((i : Int) < (ks.length : Int)) = true := decide_eq_true (by omega)
      rw [hdt, cond_true, drop_cons hx]
      have hq := qR_len m k
      obtain ⟨s', t', H', a1, a2, a3⟩ := l222 n hk hx f (qR m k).length (n + 3) hs hz hn (Nat.le_refl _) (by omega) h (by omega)
      obtain ⟨d1, d2⟩ := letR_len (qR m k).length m k
      rw [a1, inc_nat (by omega)]
      obtain ⟨s4, t4, H4, b1, b2, b3⟩ := ih (i + 1) a2 (by omega) (by omega) a3 (by rw [List.length_append]; omega) (by omega) (by omega)
      refine ⟨s4, t4, H4, b1, b2, ?_⟩
      show IsI t4 (acc ++ ((letR (qR m k).length m k).2 ++ _))
      rw [← List.append_assoc]
      exact b3
    · have hdt : decide ((i : Int) < (ks.length : Int)) = false := decide_eq_false (by omega)
      rw [hdt, cond_false, List.drop_eq_nil_of_le (by omega)]
      exact ⟨s6, s9, H, rfl, hs, by rw [show (freeKR [] m).2 = [] from rfl, List.append_nil]; exact h.isE⟩
theorem l220 (n : Nat) {s0 : VS} {m : List Ln} (hs : IsL s0 m) (o : Int) (hz : m.length ≤ 1000) (hn : m.length + 10 < n) : ∀ (f j : Nat) {H : VH} {s6 s7 : VS} {acc : List Ln} {ks : List Key}, Aq H 82 s6 (acc.map lnc) → Aq H 9 s7 (ks.map k1) → acc.length + ks.length + (m.drop j).length ≤ m.length → j ≤ m.length → m.length < j + f →
    ∃ s' t' H', L22_0 (n + 3) f s0 o s6 s7 (j : Int) H = some (.tup [.sl 82 s', .sl 3 t'], H') ∧ IsL s' (freeKR (riseS (ks ++ (ofO (m.drop j) o).map (·.k))) (acc ++ notO (m.drop j) o)).1 ∧ IsI t' (freeKR (riseS (ks ++ (ofO (m.drop j) o).map (·.k))) (acc ++ notO (m.drop j) o)).2 := by
  intro f
  induction f with
  | zero => intros; omega
  | succ f ih =>
    intro j H s6 s7 acc ks h6 h7 hl hj hm
    rw [L22_0_eq, hs.len, lns_len]
    by_cases c : j < m.length
    · obtain ⟨y, hy⟩ := get_of c
      rw [drop_cons hy, List.length_cons] at hl
      have hdt : decide ((j : Int) < (m.length : Int)) = true := decide_eq_true (by omega)
      rw [hdt, cond_true, rl_0 hs hy, inc_nat (by omega), drop_cons hy, beq_dec]
      cases e1 : decide (y.o = o) with
      | true =>
        have e2 : ofO (y :: m.drop (j + 1)) o = y :: ofO (m.drop (j + 1)) o := by unfold ofO; rw [flt_cons, e1]; rfl
        have e3 : notO (y :: m.drop (j + 1)) o = notO (m.drop (j + 1)) o := by unfold notO; rw [flt_cons, e1]; rfl
        rw [cond_true, rl_1 hs hy, e2, e3]
        obtain ⟨s', H', a1, a2, a3⟩ := h7.push k1 (sz := 1) (by_ := 16) y.k (by decide) (by omega)
        have a1' : appD true H 1 16 9 s7 (.fz [[.str ⟨y.k.toArray⟩]] (.ex 1)) = some (s', H') := a1
        rw [a1', Option.bind_some]
        obtain ⟨s4, t4, H4, b1, b2, b3⟩ := ih (j + 1) (h6.gx a3 (by decide)) a2 (by rw [List.length_append, List.length_singleton]; omega) (by omega) (by omega)
        rw [List.map_cons, show ∀ r : List Key, ks ++ y.k :: r = ks ++ [y.k] ++ r from fun r => by simp]
        exact ⟨s4, t4, H4, b1, b2, b3⟩
      | false =>
        have e2 : ofO (y :: m.drop (j + 1)) o = ofO (m.drop (j + 1)) o := by unfold ofO; rw [flt_cons, e1]; rfl
        have e3 : notO (y :: m.drop (j + 1)) o = y :: notO (m.drop (j + 1)) o := by unfold notO; rw [flt_cons, e1]; rfl
        rw [cond_false, rl_a hs hy, e2, e3]
        obtain ⟨s', H', a1, a2, a3⟩ := h6.push lnc (sz := 5) (by_ := 32) y (by decide) (by omega)
        have a1' : appD true H 5 32 82 s6 (.fz [[.int .i64 y.o, .str ⟨y.k.toArray⟩, .bool y.only, .bool y.waits, .bool y.goes]] (.ex 1)) = some (s', H') := a1
        simp only
        rw [a1', Option.bind_some]
        obtain ⟨s4, t4, H4, b1, b2, b3⟩ := ih (j + 1) a2 (h7.gx a3 (by decide)) (by rw [List.length_append, List.length_singleton]; omega) (by omega) (by omega)
        rw [show ∀ r : List Ln, acc ++ y :: r = acc ++ [y] ++ r from fun r => by simp]
        exact ⟨s4, t4, H4, b1, b2, b3⟩
    · have hdt : decide ((j : Int) < (m.length : Int)) = false := decide_eq_false (by omega)
      rw [List.drop_eq_nil_of_le (by omega)] at hl ⊢
      rw [List.length_nil] at hl
      rw [hdt, cond_false]
      obtain ⟨sk, a, b⟩ := c38 (n + 2) (s0 := s7) (l := ks) h7.isE (by omega) (by omega) H
      rw [a, Option.bind_some]
      have hle := riseS_len ks
      have h6' : IsL s6 acc := h6.isE
      obtain ⟨s4, t4, H4, c1, c2, c3⟩ := l221 n b (by omega) (n + 3) 0 (H := H) h6' (by omega) (by omega) (acc := []) .nil (by simp) (Nat.zero_le _) (by omega)
      refine ⟨s4, t4, H4, c1, ?_, ?_⟩
      · rw [List.drop_zero] at c2
        rw [show notO [] o = [] from rfl, show ofO [] o = [] from rfl, List.map_nil, List.append_nil, List.append_nil]; exact c2
      · rw [List.drop_zero, List.nil_append] at c3
        rw [show notO [] o = [] from rfl, show ofO [] o = [] from rfl, List.map_nil, List.append_nil, List.append_nil]; exact c3
theorem c22 (n : Nat) {s0 : VS} {m : List Ln} (hs : IsL s0 m) (o : Int) (hz : m.length ≤ 1000) (hn : m.length + 10 < n) (H : VH) : ∃ s' t', V.callD (vF P tab (n + 4)) P false (.tup [(.flat (.slice 82)), (.flat (.slice 3))]) 22 [.sl 82 s0, .int .i64 o] H = some ((s', t', ()), H) ∧ IsL s' (freeR m o).1 ∧ IsI t' (freeR m o).2 := by
  have hb : ∃ s' t' H', bodyV P tab (vF P tab (n + 3)) (n + 3) 22 [.sl 82 s0.strip, .int .i64 o] [] = some (.tup [.sl 82 s', .sl 3 t'], H') ∧ IsL s' (freeR m o).1 ∧ IsI t' (freeR m o).2 := by
    rw [f22_eq]
    exact l220 n (m := m) hs.strip o hz hn (n + 3) 0 (H := []) (acc := []) (ks := []) .nil .nil (by simp) (Nat.zero_le _) (by omega)
  obtain ⟨s', t', H', g1, g2, g3⟩ := hb
  have := vF_lone (H := H) (args := [.sl 82 s0, .int .i64 o]) rfl (by show (closedC (.sl 82 s0) && _) = true; rw [closed_slv 82 hs]; rfl) g1 (by show (closedC (.sl 82 s') && (closedC (.sl 3 t') && true)) = true; rw [closed_slv 82 g2, closed_slv 3 g3]; rfl)
  exact ⟨s'.strip, t'.strip, callD_some (.tup [.sl 82 s'.strip, .sl 3 t'.strip]) this (dec_ss 82 3 _ _), g2.strip, g3.strip⟩
end Go.Proofs.Ytgmgpandhaeniaa.R
