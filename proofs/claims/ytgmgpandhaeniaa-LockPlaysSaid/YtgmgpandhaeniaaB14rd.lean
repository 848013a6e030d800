import Derived.Test.YtgmgpandhaeniaaB14rc
set_option maxRecDepth 100000
set_option linter.unusedVariables false
set_option linter.unusedSimpArgs false
namespace Go.Proofs.Ytgmgpandhaeniaa.R
open Go.Proofs.Ytgmgpandhaeniaa.Sh Go.Proofs.Ytgmgpandhaeniaa.Sh.V Go.RowKit Go.Proofs.Ytgmgpandhaeniaa.Sh.Lk
theorem stays_stp {H : VH} {p : VP} {τ : V.FT} {x : τ.T} (h : ldV (.flat τ) H p = some x) (r : Held) : V.stays H ((p, τ, V.fenc τ x) :: r) = V.stays H r := by
  rw [V.stays_cons, h]
  simp only [V.same_self, Bool.true_and]
theorem stays_k (H : VH) (k : Key) : V.stays H (hj (heldOf (.fz [sk k]) [.str] [.str (bk k)]) []) = true := rfl
/-! ### What one holds -/
def k2 (p : Key × Bool) : List V := [sk p.1, .bool p.2]
def hlines (m : List Ln) (o : Int) (k : Key) : List (Key × Bool) := (m.filter (fun l => decide (l.o = o) && !l.waits && decide (l.k = k))).map fun l => (k, l.only)
theorem l462 (n m0 : Nat) {s0 s5 : VS} {m : List Ln} (hs : IsL s0 m) {ks : List Key} (hk : IsT s5 ks) (o : Int) {i : Nat} {k : Key} (hi : ks[i]? = some k) (hz : m.length < 100000) : ∀ (f j : Nat) {H : VH} {s7 : VS} {acc : List (Key × Bool)}, Aq H 54 s7 (acc.map k2) → acc.length + (m.drop j).length < 100000000 → j ≤ m.length → m.length < j + f →
    ∃ s' H', L46_2 n m0 f s0 o s5 s7 (i : Int) (j : Int) H = L46_1 n m0 s0 o s5 s' (IntKind.wrap .i64 ((i : Int) + 1)) H' ∧ Aq H' 54 s' ((acc ++ hlines (m.drop j) o k).map k2) := by
  intro f
  induction f with
  | zero => intros; omega
  | succ f ih =>
    intro j H s7 acc h hl hj hm
    rw [L46_2_eq, hs.len, lns_len]
    by_cases c : j < m.length
    · obtain ⟨y, hy⟩ := get_of c
      rw [drop_cons hy, List.length_cons] at hl
      have hdt : decide ((j : Int) < (m.length : Int)) = true := decide_eq_true (by omega)
      rw [hdt, cond_true, rl_0 hs hy, inc_nat (by omega), drop_cons hy, beq_dec]
      have skip : (decide (y.o = o) && !y.waits && decide (y.k = k)) = false → ∃ s' H', L46_2 n m0 f s0 o s5 s7 (i : Int) ((j + 1 : Nat) : Int) H = L46_1 n m0 s0 o s5 s' (IntKind.wrap .i64 ((i : Int) + 1)) H' ∧ Aq H' 54 s' ((acc ++ hlines (y :: m.drop (j + 1)) o k).map k2) := by
        intro e
        have e2 : hlines (y :: m.drop (j + 1)) o k = hlines (m.drop (j + 1)) o k := by unfold hlines; rw [flt_cons, e]; rfl
        rw [e2]
        exact ih (j + 1) h (by omega) (by omega) (by omega)
      cases e1 : decide (y.o = o) with
      | false => rw [cond_false]; exact skip (by rw [e1]; rfl)
      | true =>
        rw [cond_true, rl_3 hs hy]
        cases e2 : y.waits with
        | true => rw [Bool.not_true, cond_false]; exact skip (by rw [e2]; simp)
        | false =>
          rw [Bool.not_false, cond_true, rl_1 hs hy, isT_rd hk hi, strEq_iff]
          cases e3 : decide (y.k = k) with
          | false => rw [cond_false]; exact skip (by rw [e3]; simp)
          | true =>
            rw [cond_true, hk.ix (strs_get hi) 1, Option.bind_some, show ldV (.flat .str) H (.fz [sk k]) = some (bk k) from rfl, Option.bind_some, rl_2 hs hy, stays_k, cond_true, cond_true]
            obtain ⟨s', H', a1, a2, a3⟩ := h.push k2 (sz := 2) (by_ := 24) (k, y.only) (by decide) (by omega)
            have a1' : appD true H 2 24 54 s7 (.fz [[.str (bk k), .bool y.only]] (.ex 1)) = some (s', H') := a1
            rw [a1', Option.bind_some]
            simp only
            rw [stays_k, cond_true]
            obtain ⟨s4, H4, b1, b2⟩ := ih (j + 1) a2 (by rw [List.length_append, List.length_singleton]; omega) (by omega) (by omega)
            refine ⟨s4, H4, b1, ?_⟩
            have e4 : hlines (y :: m.drop (j + 1)) o k = (k, y.only) :: hlines (m.drop (j + 1)) o k := by unfold hlines; rw [flt_cons, e1, e2, e3]; rfl
            rw [e4, show acc ++ (k, y.only) :: hlines (m.drop (j + 1)) o k = acc ++ [(k, y.only)] ++ hlines (m.drop (j + 1)) o k by simp]
            exact b2
    · have hdt : decide ((j : Int) < (m.length : Int)) = false := decide_eq_false (by omega)
      rw [hdt, cond_false, List.drop_eq_nil_of_le (by omega)]
      exact ⟨s7, H, rfl, by simpa [hlines] using h⟩
theorem hlines_len (m : List Ln) (o : Int) (k : Key) : (hlines m o k).length ≤ m.length := by unfold hlines; rw [List.length_map]; exact List.length_filter_le _ _
theorem l461 (n : Nat) {s0 s5 : VS} {m : List Ln} (hs : IsL s0 m) {ks : List Key} (hk : IsT s5 ks) (o : Int) (hz : m.length ≤ 1000) (hkz : ks.length ≤ 1000) (hn : m.length < n) : ∀ (f i : Nat) {H : VH} {s7 : VS} {acc : List (Key × Bool)}, Aq H 54 s7 (acc.map k2) → acc.length ≤ i * 1000 → i ≤ ks.length → ks.length < i + f →
    ∃ s' H', L46_1 n f s0 o s5 s7 (i : Int) H = some (.sl 54 s', H') ∧ IsE s' ((acc ++ (ks.drop i).flatMap (hlines m o)).map k2) := by
  intro f
  induction f with
  | zero => intros; omega
  | succ f ih =>
    intro i H s7 acc h hl hi hm
    rw [L46_1_eq, isT_len hk]
    by_cases c : i < ks.length
    · obtain ⟨k, hx⟩ := get_of c
      have hdt : decide ((i : Int) < (ks.length : Int)) = true := decide_eq_true (by omega)
      rw [hdt, cond_true, drop_cons hx]
      have hle := hlines_len m o k
      obtain ⟨s', H', a1, a2⟩ := l462 n f hs hk o hx (by omega) n 0 h (by rw [List.drop_zero]; omega) (Nat.zero_le _) (by omega)
      rw [show ((0 : Nat) : Int) = 0 from rfl] at a1
      rw [a1, inc_nat (by omega)]
      rw [List.drop_zero] at a2
      obtain ⟨s4, H4, b1, b2⟩ := ih (i + 1) a2 (by rw [List.length_append]; omega) (by omega) (by omega)
      refine ⟨s4, H4, b1, ?_⟩
      rw [List.flatMap_cons, ← List.append_assoc]
      exact b2
    · have hdt : decide ((i : Int) < (ks.length : Int)) = false := decide_eq_false (by omega)
      rw [hdt, cond_false, List.drop_eq_nil_of_le (by omega)]
      exact ⟨s7, H, rfl, by simpa using h.isE⟩
theorem l460 (n : Nat) {s0 : VS} {m : List Ln} (hs : IsL s0 m) (o : Int) (hz : m.length ≤ 1000) (hn : m.length < n) : ∀ (f j : Nat) {H : VH} {s5 : VS} {acc : List Key}, Aq H 9 s5 (acc.map k1) → acc.length + (m.drop j).length ≤ m.length → j ≤ m.length → m.length < j + f →
    ∃ s' H', L46_0 (n + 1) f s0 o s5 (j : Int) H = some (.sl 54 s', H') ∧ IsE s' (((riseS (acc ++ ((m.drop j).filter (fun l => decide (l.o = o) && !l.waits)).map (·.k))).flatMap (hlines m o)).map k2) := by
  intro f
  induction f with
  | zero => intros; omega
  | succ f ih =>
    intro j H s5 acc h hl hj hm
    rw [L46_0_eq, hs.len, lns_len]
    by_cases c : j < m.length
    · obtain ⟨y, hy⟩ := get_of c
      rw [drop_cons hy, List.length_cons] at hl
      have hdt : decide ((j : Int) < (m.length : Int)) = true := decide_eq_true (by omega)
      rw [hdt, cond_true, rl_0 hs hy, inc_nat (by omega), drop_cons hy, beq_dec, flt_cons]
      cases e1 : decide (y.o = o) with
      | false => rw [cond_false, Bool.false_and, cond_false]; exact ih (j + 1) h (by omega) (by omega) (by omega)
      | true =>
        rw [cond_true, rl_3 hs hy, Bool.true_and]
        cases e2 : y.waits with
        | true => rw [Bool.not_true, cond_false, cond_false]; exact ih (j + 1) h (by omega) (by omega) (by omega)
        | false =>
          rw [Bool.not_false, cond_true, cond_true, rl_1 hs hy]
          obtain ⟨s', H', a1, a2, a3⟩ := h.push k1 (sz := 1) (by_ := 16) y.k (by decide) (by omega)
          have a1' : appD true H 1 16 9 s5 (.fz [[.str ⟨y.k.toArray⟩]] (.ex 1)) = some (s', H') := a1
          rw [a1', Option.bind_some]
          obtain ⟨s4, H4, b1, b2⟩ := ih (j + 1) a2 (by rw [List.length_append, List.length_singleton]; omega) (by omega) (by omega)
          refine ⟨s4, H4, b1, ?_⟩
          rw [List.map_cons, show ∀ r : List Key, acc ++ y.k :: r = acc ++ [y.k] ++ r from fun r => by simp]
          exact b2
    · have hdt : decide ((j : Int) < (m.length : Int)) = false := decide_eq_false (by omega)
      rw [List.drop_eq_nil_of_le (by omega)] at hl
      rw [hdt, cond_false, List.drop_eq_nil_of_le (by omega)]
      rw [List.length_nil] at hl
      obtain ⟨s', a, b⟩ := c38 n (s0 := s5) (l := acc) h.isE (by omega) (by omega) H
      rw [a, Option.bind_some]
      have hle := riseS_len acc
      obtain ⟨s4, H4, c1, c2⟩ := l461 (n + 1) hs b o hz (by omega) (by omega) (n + 1) 0 (H := H) (acc := []) .nil (by simp) (Nat.zero_le _) (by omega)
      refine ⟨s4, H4, c1, ?_⟩
      simpa using c2
theorem c46 (n : Nat) {s0 : VS} {m : List Ln} (hs : IsL s0 m) (o : Int) (hz : m.length ≤ 1000) (hn : m.length + 10 < n) (H : VH) : ∃ s', V.callD (vF P tab (n + 2)) P false (.one (.flat (.slice 54))) 46 [.sl 82 s0, .int .i64 o] H = some (s', H) ∧ IsE s' ((holdsR m o).map k2) := by
  have hb : ∃ s' H', bodyV P tab (vF P tab (n + 1)) (n + 1) 46 [.sl 82 s0.strip, .int .i64 o] [] = some (.sl 54 s', H') ∧ IsE s' ((holdsR m o).map k2) := by
    rw [f46_eq]
    obtain ⟨s', H', a, b⟩ := l460 n (m := m) hs.strip o hz (by omega) (n + 1) 0 (H := []) (acc := []) .nil (by simp) (Nat.zero_le _) (by omega)
    exact ⟨s', H', a, by rw [List.drop_zero, List.nil_append] at b; exact b⟩
  obtain ⟨s', H', g1, g2⟩ := hb
  obtain ⟨a, b⟩ := lone_E (H := H) (args := [.sl 82 s0, .int .i64 o]) rfl (by simp [closed_slv 82 hs]; rfl) g1 g2
  exact ⟨s'.strip, callD_sl a, b⟩
/-! ### For whom one waits -/
theorem l451 (n : Nat) {s9 : VS} {q : List Ln} (hq : IsL s9 q) (o : Int) (hz : q.length < 100000) : ∀ (f j : Nat) {H : VH} {s7 : VS} {acc : List Int}, Aq H 3 s7 (acc.map i1) → acc.length + (q.drop j).length < 900000 → acc.length + (q.drop j).length < n → j ≤ q.length → q.length < j + f →
    ∃ s' H', L45_1 (n + 1) f o s7 s9 (j : Int) H = some (.sl 3 s', H') ∧ IsI s' (riseI (acc ++ ((q.drop j).map (·.o)).takeWhile (fun a => !decide (a = o)))) := by
  intro f
  induction f with
  | zero => intros; omega
  | succ f ih =>
    intro j H s7 acc h hl hl2 hj hm
    have fin : ∃ s' H', ((V.callD (vF P tab (n + 1)) P false (.one (.flat (.slice 3))) 58 [.sl 3 s7] H).bind fun r8 => some (V.sl 3 r8.1, r8.2)) = some (.sl 3 s', H') ∧ IsI s' (riseI acc) := by
      obtain ⟨s', a, b⟩ := c58 n (s0 := s7) (l := acc) h.isE (by omega) (by omega) H
      rw [a, Option.bind_some]
      exact ⟨s', H, rfl, b⟩
    rw [L45_1_eq, hq.len, lns_len]
    by_cases c : j < q.length
    · obtain ⟨y, hy⟩ := get_of c
      rw [drop_cons hy, List.length_cons] at hl hl2
      have hdt : decide ((j : Int) < (q.length : Int)) = true := decide_eq_true (by omega)
      rw [hdt, cond_true, rl_0 hq hy, inc_nat (by omega), drop_cons hy, bne_dec, List.map_cons, List.takeWhile_cons]
      cases e1 : decide (y.o = o) with
      | true =>
        rw [Bool.not_true, cond_false]
        simp only [Bool.false_eq_true, if_false, List.append_nil]
        exact fin
      | false =>
        rw [Bool.not_false, cond_true, rl_0 hq hy]
        simp only [if_true]
        obtain ⟨s', H', a1, a2, a3⟩ := h.push i1 (sz := 1) (by_ := 8) y.o (by decide) (by omega)
        have a1' : appD true H 1 8 3 s7 (.fz [[.int .i64 y.o]] (.ex 1)) = some (s', H') := a1
        rw [a1', Option.bind_some]
        obtain ⟨s4, H4, b1, b2⟩ := ih (j + 1) a2 (by rw [List.length_append, List.length_singleton]; omega) (by rw [List.length_append, List.length_singleton]; omega) (by omega) (by omega)
        refine ⟨s4, H4, b1, ?_⟩
        rw [show ∀ r : List Int, acc ++ y.o :: r = acc ++ [y.o] ++ r from fun r => by simp]
        exact b2
    · have hdt : decide ((j : Int) < (q.length : Int)) = false := decide_eq_false (by omega)
      rw [hdt, cond_false, List.drop_eq_nil_of_le (by omega)]
      simp only [List.map_nil, List.takeWhile_nil, List.append_nil]
      exact fin
end Go.Proofs.Ytgmgpandhaeniaa.R
