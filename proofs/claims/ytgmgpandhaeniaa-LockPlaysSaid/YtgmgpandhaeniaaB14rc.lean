import Derived.Test.YtgmgpandhaeniaaB14rb
set_option maxRecDepth 100000
set_option linter.unusedVariables false
set_option linter.unusedSimpArgs false
namespace Go.Proofs.Ytgmgpandhaeniaa.R
open Go.Proofs.Ytgmgpandhaeniaa.Sh Go.Proofs.Ytgmgpandhaeniaa.Sh.V Go.RowKit Go.Proofs.Ytgmgpandhaeniaa.Sh.Lk
/-! ### give -/
theorem lnb0 {H : VH} {p : Nat} {T : TypeId} {x : Ln} (h : H[p]? = some (.row T (lnc x))) : ldV (.flat (.int .i64)) H (.ob p 0) = some x.o := by rw [ldb h]; exact fd_int .i64 _
theorem lnb1 {H : VH} {p : Nat} {T : TypeId} {x : Ln} (h : H[p]? = some (.row T (lnc x))) : ldV (.flat .str) H (.ob p 1) = some (bk x.k) := ldb h 1 .str
theorem lnb2 {H : VH} {p : Nat} {T : TypeId} {x : Ln} (h : H[p]? = some (.row T (lnc x))) : ldV (.flat .bool) H (.ob p 2) = some x.only := ldb h 2 .bool
theorem lnba {H : VH} {p : Nat} {T : TypeId} {x : Ln} (h : H[p]? = some (.row T (lnc x))) : ldV (.agg [.int .i64, .str, .bool, .bool, .bool]) H (.ob p 0) = some (x.o, bk x.k, x.only, x.waits, x.goes, ()) := by
  simp only [ldV, rowV_of h, Option.bind_some]
  rfl
theorem giveR_cons (y x : Ln) (r : List Ln) : giveR (y :: r) x = cond (hit x.o x.k y) (giveR r x) (y :: giveR r x) := by
  unfold giveR
  rw [flt_cons]
  cases hit x.o x.k y <;> rfl
theorem l41 (n : Nat) {s0 : VS} {m : List Ln} (hs : IsL s0 m) (x : Ln) (p : Nat) (hz : m.length < 100000) : ∀ (f j : Nat) {H : VH} {s5 : VS} {acc : List Ln}, H[p]? = some (.row (82 + boxK) (lnc x)) → Aq H 82 s5 (acc.map lnc) → acc.length + (m.drop j).length ≤ m.length → j ≤ m.length → m.length < j + f →
    ∃ s' H', L41_0 n f s0 p s5 (j : Int) H = some (.sl 82 s', H') ∧ IsL s' (acc ++ giveR (m.drop j) x) := by
  intro f
  induction f with
  | zero => intros; omega
  | succ f ih =>
    intro j H s5 acc hp h hl hj hm
    rw [L41_0_eq, hs.len, lns_len]
    by_cases c : j < m.length
    · obtain ⟨y, hy⟩ := get_of c
      rw [drop_cons hy, List.length_cons] at hl
      have hdt : decide ((j : Int) < (m.length : Int)) = true := decide_eq_true (by omega)
      rw [hdt, cond_true, rl_a hs hy, inc_nat (by omega), drop_cons hy, giveR_cons]
      obtain ⟨H1, a1, a2, a3, a4⟩ := box_new H (82 + boxK) (zs := [.int .i64 0, .str ⟨#[]⟩, .bool false, .bool false, .bool false]) (cs := lnc y) rfl rfl
      have a1' : stV (H ++ [.row (82 + boxK) [.int .i64 0, .str ⟨#[]⟩, .bool false, .bool false, .bool false]]) (.ob H.length 0) [.int .i64 y.o, .str ⟨y.k.toArray⟩, .bool y.only, .bool y.waits, .bool y.goes] = some H1 := a1
      simp only
      rw [a1', Option.bind_some, lnb0 a2, Option.bind_some, lnb0 ((a3 82).rx _ _ _ hp), Option.bind_some, beq_dec]
      have h1 := a4 82 _ _ h
      have hp1 := (a3 82).rx _ _ _ hp
      obtain ⟨s', H', b1, b2, b3⟩ := h1.push lnc (sz := 5) (by_ := 32) y (by decide) (by omega)
      have b1' : appD true H1 5 32 82 s5 (.fz [[.int .i64 y.o, .str (bk y.k), .bool y.only, .bool y.waits, .bool y.goes]] (.ex 1)) = some (s', H') := b1
      have keep : ∃ s4 H4, L41_0 n f s0 p s' ((j + 1 : Nat) : Int) H' = some (.sl 82 s4, H4) ∧ IsL s4 (acc ++ y :: giveR (m.drop (j + 1)) x) := by
        obtain ⟨s4, H4, c1, c2⟩ := ih (j + 1) (b3.rx _ _ _ hp1) b2 (by rw [List.length_append, List.length_singleton]; omega) (by omega) (by omega)
        refine ⟨s4, H4, c1, ?_⟩
        rw [show acc ++ y :: giveR (m.drop (j + 1)) x = acc ++ [y] ++ giveR (m.drop (j + 1)) x by simp]
        exact c2
      unfold hit
      cases e1 : decide (y.o = x.o) with
      | true =>
        rw [cond_true, lnb1 a2, Option.bind_some, lnb1 hp1, Option.bind_some, strEq_iff, Bool.true_and]
        cases e2 : decide (y.k = x.k) with
        | true =>
          rw [cond_true, cond_true]
          exact ih (j + 1) hp1 h1 (by omega) (by omega) (by omega)
        | false =>
          rw [cond_false, cond_false, lnba a2, Option.bind_some]
          simp only
          rw [b1', Option.bind_some]
          exact keep
      | false =>
        rw [cond_false, Bool.false_and, cond_false, lnba a2, Option.bind_some]
        simp only
        rw [b1', Option.bind_some]
        exact keep
    · have hdt : decide ((j : Int) < (m.length : Int)) = false := decide_eq_false (by omega)
      rw [List.drop_eq_nil_of_le (by omega)] at hl ⊢
      rw [hdt, cond_false, lnb0 hp, Option.bind_some, lnb1 hp, Option.bind_some, lnb2 hp, Option.bind_some]
      obtain ⟨s', H', b1, b2, b3⟩ := h.push lnc (sz := 5) (by_ := 32) (⟨x.o, x.k, x.only, false, false⟩ : Ln) (by decide) (by rw [List.length_nil] at hl; omega)
      have b1' : appD true H 5 32 82 s5 (.fz [[.int .i64 x.o, .str (bk x.k), .bool x.only, .bool false, .bool false]] (.ex 1)) = some (s', H') := b1
      rw [b1', Option.bind_some]
      exact ⟨s', H', rfl, b2.isE⟩
theorem c41 (n : Nat) {s0 : VS} {m : List Ln} (hs : IsL s0 m) (x : Ln) (hz : m.length < 100000) (hn : m.length + 10 < n) (H : VH) : ∃ s', V.callD (vF P tab (n + 1)) P false (.one (.flat (.slice 82))) 41 [.sl 82 s0, .agg (lnc x)] H = some (s', H) ∧ IsL s' (giveR m x) := by
  have hb : ∃ s' H', bodyV P tab (vF P tab n) n 41 [.sl 82 s0.strip, .agg (lnc x)] [] = some (.sl 82 s', H') ∧ IsL s' (giveR m x) := by
    show ∃ s' H', bodyV P tab (vF P tab n) n 41 [.sl 82 s0.strip, .agg [.int .i64 x.o, .str (bk x.k), .bool x.only, .bool x.waits, .bool x.goes]] [] = some (.sl 82 s', H') ∧ _
    rw [f41_eq]
    obtain ⟨s', H', a, b⟩ := l41 n (m := m) hs.strip x 0 hz n 0 (H := [.row (82 + boxK) (lnc x)]) (acc := []) rfl .nil (by simp) (Nat.zero_le _) (by omega)
    exact ⟨s', H', a, by simpa using b⟩
  obtain ⟨s', H', g1, g2⟩ := hb
  obtain ⟨a, b⟩ := lone_E (H := H) (args := [.sl 82 s0, .agg (lnc x)]) rfl (by simp [closed_slv 82 hs]; rfl) g1 g2
  exact ⟨s'.strip, callD_sl a, b⟩
/-! ### For what one waits -/
def wsr (w : Option Ln) : ByteArray × Bool × Bool := match w with | some l => (bk l.k, l.only, true) | none => (⟨#[]⟩, false, false)
theorem st2 {H : VH} {p : Nat} {T : TypeId} {u v : V} (h : H[p]? = some (.row T [u, v])) (a : ByteArray) (b : Bool) : stV H (.ob p 0) [.str a, .bool b] = some (H.set p (.row T [.str a, .bool b])) := by rw [st_row h (by simp) rfl]; rfl
theorem ld2 {H : VH} {p : Nat} {T : TypeId} {a : ByteArray} {b : Bool} (h : H[p]? = some (.row T [.str a, .bool b])) : ldV (.agg [.str, .bool]) H (.ob p 0) = some (a, b, ()) := by
  simp only [ldV, rowV_of h, Option.bind_some]
  rfl
theorem waitsR_cons (y : Ln) (r : List Ln) (o : Int) : waitsR (y :: r) o = cond (decide (y.o = o) && y.waits) (some y) (waitsR r o) := by
  unfold waitsR
  rw [List.find?_cons]
  cases decide (y.o = o) && y.waits <;> rfl
theorem l42 (n : Nat) {s0 : VS} {m : List Ln} (hs : IsL s0 m) (o : Int) {p : Nat} {H : VH} {u v : V} (hp : H[p]? = some (.row (54 + boxK) [u, v])) (hz : m.length < 100000) : ∀ (f j : Nat), j ≤ m.length → m.length < j + f →
    ∃ H', L42_0 n f s0 o p (j : Int) H = some (.tup [.agg [.str (wsr (waitsR (m.drop j) o)).1, .bool (wsr (waitsR (m.drop j) o)).2.1], .bool (wsr (waitsR (m.drop j) o)).2.2], H') := by
  intro f
  induction f with
  | zero => intros; omega
  | succ f ih =>
    intro j hj hm
    rw [L42_0_eq, hs.len, lns_len]
    by_cases c : j < m.length
    · obtain ⟨y, hy⟩ := get_of c
      have hdt : decide ((j : Int) < (m.length : Int)) = true := decide_eq_true (by omega)
      rw [hdt, cond_true, rl_0 hs hy, inc_nat (by omega), drop_cons hy, waitsR_cons, beq_dec]
      cases e1 : decide (y.o = o) with
      | false => rw [cond_false, Bool.false_and, cond_false]; exact ih (j + 1) (by omega) (by omega)
      | true =>
        rw [cond_true, rl_3 hs hy, Bool.true_and]
        cases e2 : y.waits with
        | false => rw [cond_false, cond_false]; exact ih (j + 1) (by omega) (by omega)
        | true =>
          rw [cond_true, cond_true, rl_1 hs hy, rl_2 hs hy, st2 hp, Option.bind_some, ld2 (List.getElem?_set_self (lt_of_ob hp)), Option.bind_some]
          exact ⟨_, rfl⟩
    · have hdt : decide ((j : Int) < (m.length : Int)) = false := decide_eq_false (by omega)
      rw [hdt, cond_false, List.drop_eq_nil_of_le (by omega), st2 hp, Option.bind_some, ld2 (List.getElem?_set_self (lt_of_ob hp)), Option.bind_some]
      exact ⟨_, rfl⟩
theorem c42 (n : Nat) {s0 : VS} {m : List Ln} (hs : IsL s0 m) (o : Int) (hz : m.length < 100000) (hn : m.length + 10 < n) (H : VH) : V.callD (vF P tab (n + 1)) P false (.tup [(.agg [.str, .bool]), (.flat .bool)]) 42 [.sl 82 s0, .int .i64 o] H = some (((((wsr (waitsR m o)).1, (wsr (waitsR m o)).2.1, ())), (wsr (waitsR m o)).2.2, ()), H) := by
  have hb : ∃ H', bodyV P tab (vF P tab n) n 42 [.sl 82 s0.strip, .int .i64 o] [] = some (.tup [.agg [.str (wsr (waitsR m o)).1, .bool (wsr (waitsR m o)).2.1], .bool (wsr (waitsR m o)).2.2], H') := by
    rw [f42_eq]
    exact l42 n (m := m) hs.strip o (p := 0) (H := [.row (54 + boxK) [.str ⟨#[]⟩, .bool false]]) rfl hz n 0 (Nat.zero_le _) (by omega)
  obtain ⟨H', g1⟩ := hb
  have := vF_lone (H := H) (args := [.sl 82 s0, .int .i64 o]) rfl (by simp [closed_slv 82 hs]; rfl) g1 rfl
  exact callD_some (.tup [.agg [.str (wsr (waitsR m o)).1, .bool (wsr (waitsR m o)).2.1], .bool (wsr (waitsR m o)).2.2]) this rfl
/-! ### Owners, keys -/
theorem l44 (n : Nat) {s0 : VS} {m : List Ln} (hs : IsL s0 m) (hz : m.length < 100000) : ∀ (f j : Nat) {H : VH} {s3 : VS} {acc : List Int}, Aq H 3 s3 (acc.map i1) → acc.length + (m.drop j).length ≤ m.length → j ≤ m.length → m.length < j + f →
    ∃ s' H', L44_0 n f s0 s3 (j : Int) H = some (.sl 3 s', H') ∧ IsI s' (acc ++ (m.drop j).map (·.o)) := by
  intro f
  induction f with
  | zero => intros; omega
  | succ f ih =>
    intro j H s3 acc h hl hj hm
    rw [L44_0_eq, hs.len, lns_len]
    by_cases c : j < m.length
    · obtain ⟨y, hy⟩ := get_of c
      rw [drop_cons hy, List.length_cons] at hl
      have hdt : decide ((j : Int) < (m.length : Int)) = true := decide_eq_true (by omega)
      rw [hdt, cond_true, rl_0 hs hy, inc_nat (by omega), drop_cons hy]
      obtain ⟨s', H', a1, a2, a3⟩ := h.push i1 (sz := 1) (by_ := 8) y.o (by decide) (by omega)
      have a1' : appD true H 1 8 3 s3 (.fz [[.int .i64 y.o]] (.ex 1)) = some (s', H') := a1
      rw [a1', Option.bind_some]
      obtain ⟨s4, H4, b1, b2⟩ := ih (j + 1) a2 (by rw [List.length_append, List.length_singleton]; omega) (by omega) (by omega)
      refine ⟨s4, H4, b1, ?_⟩
      rw [List.map_cons, show acc ++ y.o :: (m.drop (j + 1)).map (·.o) = acc ++ [y.o] ++ (m.drop (j + 1)).map (·.o) by simp]
      exact b2
    · have hdt : decide ((j : Int) < (m.length : Int)) = false := decide_eq_false (by omega)
      rw [hdt, cond_false, List.drop_eq_nil_of_le (by omega)]
      exact ⟨s3, H, rfl, by rw [List.map_nil, List.append_nil]; exact h.isE⟩
theorem c44 (n : Nat) {s0 : VS} {m : List Ln} (hs : IsL s0 m) (hz : m.length < 100000) (hn : m.length + 10 < n) (H : VH) : ∃ s', V.callD (vF P tab (n + 1)) P false (.one (.flat (.slice 3))) 44 [.sl 82 s0] H = some (s', H) ∧ IsI s' (m.map (·.o)) := by
  have hb : ∃ s' H', bodyV P tab (vF P tab n) n 44 [.sl 82 s0.strip] [] = some (.sl 3 s', H') ∧ IsI s' (m.map (·.o)) := by
    rw [f44_eq]
    obtain ⟨s', H', a, b⟩ := l44 n (m := m) hs.strip hz n 0 (H := []) (acc := []) .nil (by simp) (Nat.zero_le _) (by omega)
    exact ⟨s', H', a, by simpa using b⟩
  obtain ⟨s', H', g1, g2⟩ := hb
  obtain ⟨a, b⟩ := lone_E (H := H) (args := [.sl 82 s0]) rfl (by simp [closed_slv 82 hs]) g1 g2
  exact ⟨s'.strip, callD_sl a, b⟩
theorem l47 (n : Nat) {s0 : VS} {m : List Ln} (hs : IsL s0 m) (hz : m.length < 100000) (hn : m.length < n) : ∀ (f j : Nat) {H : VH} {s3 : VS} {acc : List Key}, Aq H 9 s3 (acc.map k1) → acc.length + (m.drop j).length ≤ m.length → j ≤ m.length → m.length < j + f →
    ∃ s' H', L47_0 (n + 1) f s0 s3 (j : Int) H = some (.sl 9 s', H') ∧ IsT s' (riseS (acc ++ (m.drop j).map (·.k))) := by
  intro f
  induction f with
  | zero => intros; omega
  | succ f ih =>
    intro j H s3 acc h hl hj hm
    rw [L47_0_eq, hs.len, lns_len]
    by_cases c : j < m.length
    · obtain ⟨y, hy⟩ := get_of c
      rw [drop_cons hy, List.length_cons] at hl
      have hdt : decide ((j : Int) < (m.length : Int)) = true := decide_eq_true (by omega)
      rw [hdt, cond_true, rl_1 hs hy, inc_nat (by omega), drop_cons hy]
      obtain ⟨s', H', a1, a2, a3⟩ := h.push k1 (sz := 1) (by_ := 16) y.k (by decide) (by omega)
      have a1' : appD true H 1 16 9 s3 (.fz [[.str ⟨y.k.toArray⟩]] (.ex 1)) = some (s', H') := a1
      rw [a1', Option.bind_some]
      obtain ⟨s4, H4, b1, b2⟩ := ih (j + 1) a2 (by rw [List.length_append, List.length_singleton]; omega) (by omega) (by omega)
      refine ⟨s4, H4, b1, ?_⟩
      rw [List.map_cons, show acc ++ y.k :: (m.drop (j + 1)).map (·.k) = acc ++ [y.k] ++ (m.drop (j + 1)).map (·.k) by simp]
      exact b2
    · have hdt : decide ((j : Int) < (m.length : Int)) = false := decide_eq_false (by omega)
      rw [List.drop_eq_nil_of_le (by omega)] at hl
      rw [hdt, cond_false, List.drop_eq_nil_of_le (by omega)]
      rw [List.length_nil] at hl
      obtain ⟨s', a, b⟩ := c38 n (s0 := s3) (l := acc) h.isE (by omega) (by omega) H
      rw [a, Option.bind_some]
      exact ⟨s', H, rfl, by simpa using b⟩
theorem c47 (n : Nat) {s0 : VS} {m : List Ln} (hs : IsL s0 m) (hz : m.length < 100000) (hn : m.length + 10 < n) (H : VH) : ∃ s', V.callD (vF P tab (n + 2)) P false (.one (.flat (.slice 9))) 47 [.sl 82 s0] H = some (s', H) ∧ IsT s' (keysR m) := by
  have hb : ∃ s' H', bodyV P tab (vF P tab (n + 1)) (n + 1) 47 [.sl 82 s0.strip] [] = some (.sl 9 s', H') ∧ IsT s' (keysR m) := by
    rw [f47_eq]
    obtain ⟨s', H', a, b⟩ := l47 n (m := m) hs.strip hz (by omega) (n + 1) 0 (H := []) (acc := []) .nil (by simp) (Nat.zero_le _) (by omega)
    exact ⟨s', H', a, by simpa [keysR] using b⟩
  obtain ⟨s', H', g1, g2⟩ := hb
  obtain ⟨a, b⟩ := lone_E (H := H) (args := [.sl 82 s0]) rfl (by simp [closed_slv 82 hs]) g1 g2
  exact ⟨s'.strip, callD_sl a, b⟩
end Go.Proofs.Ytgmgpandhaeniaa.R
