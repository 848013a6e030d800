import Derived.Test.YtgmgpandhaeniaaB14ra
set_option maxRecDepth 100000
set_option linter.unusedVariables false
set_option linter.unusedSimpArgs false
namespace Go.Proofs.Ytgmgpandhaeniaa.R
open Go.Proofs.Ytgmgpandhaeniaa.Sh Go.Proofs.Ytgmgpandhaeniaa.Sh.V Go.RowKit Go.Proofs.Ytgmgpandhaeniaa.Sh.Lk
/-! ### Texts, rising -/
theorem l38i (n m0 : Nat) {s0 s3 : VS} {l out : List Key} (hs : IsT s0 l) (ho : IsT s3 out) {i : Nat} {x : Key} (hx : l[i]? = some x) (hbl : out.length < 1000000) : ∀ (m k : Nat) {H : VH} {s5 : VS} {acc : List Key} {done : Bool}, Aq H 9 s5 (strs acc) → acc.length ≤ k + done.toNat → k ≤ out.length → out.length < k + m →
    ∃ s' H', L38_1 n m0 m s0 s3 (i : Int) s5 done (k : Int) H = L38_0 n m0 s0 s' (IntKind.wrap .i64 ((i : Int) + 1)) H' ∧ IsT s' (acc ++ if done = true then out.drop k else insR x (out.drop k)) := by
  intro m
  induction m with
  | zero => intros; omega
  | succ m ih =>
    intro k H s5 acc done h hal hk hm
    have hal2 : acc.length ≤ k + 1 := by cases done <;> simp at hal <;> omega
    have hal1 : done = false → acc.length ≤ k := fun e => by subst e; simpa using hal
    rw [L38_1_eq, isT_len ho]
    have app : ∀ {H : VH} {s5 : VS} {acc : List Key} (y : Key), Aq H 9 s5 (strs acc) → acc.length ≤ k + 2 → ∃ s' H', appD true H 1 16 9 s5 (.fz [[.str ⟨y.toArray⟩]] (.ex 1)) = some (s', H') ∧ Aq H' 9 s' (strs (acc ++ [y])) := by
      intro H s5 acc y h hal
      obtain ⟨s', H', g1, g2, _⟩ := h.appE (sz := 1) (by_ := 16) (x := .fz [[.str ⟨y.toArray⟩]] (.ex 1)) (.fz _ _) (by rw [strs_len]; simp only [bound, List.length_singleton]; omega) (by rw [strs_len]; simp only [bound, List.length_singleton]; omega)
      exact ⟨s', H', g1, by rw [strs_app]; exact g2⟩
    by_cases c : k < out.length
    · obtain ⟨o, hyo⟩ := get_of c
      obtain ⟨h1, h2⟩ := List.getElem?_eq_some_iff.1 hyo
      have hdt : decide ((k : Int) < (out.length : Int)) = true := decide_eq_true (by omega)
      rw [hdt, cond_true, List.drop_eq_getElem_cons h1, h2, inc_nat (by omega)]
      cases done with
      | true =>
        simp only [Bool.not_true, cond_false, cond_true]
        rw [isT_rd ho hyo]
        obtain ⟨s1, H1, g1, g2⟩ := app o h (by omega)
        rw [g1, Option.bind_some]
        obtain ⟨s', H', r1, r2⟩ := ih (k + 1) (done := true) g2 (by rw [List.length_append, List.length_singleton, Bool.toNat_true]; omega) (by omega) (by omega)
        refine ⟨s', H', r1, ?_⟩
        simp only [if_true] at r2 ⊢
        rw [List.append_assoc] at r2
        exact r2
      | false =>
        simp only [Bool.not_false, cond_false, cond_true]
        rw [isT_rd hs hx, isT_rd ho hyo, less_of]
        by_cases hlt : x < o
        · rw [decide_eq_true hlt, cond_true, isT_rd hs hx]
          have hal0 := hal1 rfl
          obtain ⟨s1, H1, g1, g2⟩ := app x h (by omega)
          rw [g1, Option.bind_some, isT_rd ho hyo]
          obtain ⟨s2, H2, g3, g4⟩ := app o g2 (by rw [List.length_append, List.length_singleton]; omega)
          simp only
          rw [g3, Option.bind_some]
          obtain ⟨s', H', r1, r2⟩ := ih (k + 1) (done := true) g4 (by simp only [List.length_append, List.length_singleton, Bool.toNat_true]; omega) (by omega) (by omega)
          refine ⟨s', H', r1, ?_⟩
          simp only [if_true] at r2
          simp only [Bool.false_eq_true, if_false, insR, if_pos hlt]
          simpa using r2
        · rw [decide_eq_false hlt, cond_false, isT_rd hs hx, isT_rd ho hyo, isT_rd ho hyo, strEq_iff]
          obtain ⟨s1, H1, g1, g2⟩ := app o h (by omega)
          rw [g1, Option.bind_some]
          obtain ⟨s', H', r1, r2⟩ := ih (k + 1) (done := decide (x = o)) g2 (by rw [List.length_append, List.length_singleton]; have := hal1 rfl; omega) (by omega) (by omega)
          refine ⟨s', H', r1, ?_⟩
          simp only [Bool.false_eq_true, if_false, insR, if_neg hlt]
          by_cases he : x = o
          · rw [if_pos he]
            simp only [he, decide_true, if_true] at r2
            simpa using r2
          · rw [if_neg he]
            simp only [he, decide_false, Bool.false_eq_true, if_false] at r2
            simpa using r2
    · have hdt : decide ((k : Int) < (out.length : Int)) = false := decide_eq_false (by omega)
      rw [hdt, cond_false, List.drop_eq_nil_of_le (by omega)]
      cases done with
      | true =>
        simp only [Bool.not_true, cond_false, if_true, List.append_nil]
        exact ⟨s5, H, rfl, h.isE⟩
      | false =>
        simp only [Bool.not_false, cond_true, Bool.false_eq_true, if_false, insR]
        rw [isT_rd hs hx]
        obtain ⟨s1, H1, g1, g2⟩ := app x h (by omega)
        rw [g1, Option.bind_some]
        exact ⟨s1, H1, rfl, g2.isE⟩
theorem l38 (n : Nat) {s0 : VS} {l : List Key} (hs : IsT s0 l) (hz : l.length < 900000) (hn : l.length < n) : ∀ (m i : Nat) {H : VH} {s3 : VS}, IsT s3 (riseS (l.take i)) → i ≤ l.length → l.length < i + m →
    ∃ s' H', L38_0 n m s0 s3 (i : Int) H = some (.sl 9 s', H') ∧ IsT s' (riseS l) := by
  intro m
  induction m with
  | zero => intros; omega
  | succ m ih =>
    intro i H s3 ho hi hm
    have hrl : (riseS (l.take i)).length ≤ i := by
      have h1 := riseS_len (l.take i)
      rw [List.length_take] at h1; omega
    rw [L38_0_eq, isT_len hs]
    by_cases c : i < l.length
    · obtain ⟨x, hx⟩ := get_of c
      obtain ⟨h1, h2⟩ := List.getElem?_eq_some_iff.1 hx
      have hdt : decide ((i : Int) < (l.length : Int)) = true := decide_eq_true (by omega)
      rw [hdt, cond_true]
      obtain ⟨s', H', g1, g2⟩ := l38i n m hs ho hx (by omega) n 0 (H := H) (acc := []) (done := false) .nil (Nat.zero_le _) (Nat.zero_le _) (by omega)
      rw [show ((0 : Nat) : Int) = 0 from rfl] at g1
      rw [g1, inc_nat (by omega)]
      refine ih (i + 1) ?_ (by omega) (by omega)
      have e : riseS (l.take (i + 1)) = insR x (riseS (l.take i)) := by
        rw [List.take_succ_eq_append_getElem h1, h2]
        unfold riseS
        rw [List.foldl_append]; rfl
      rw [e]
      simpa using g2
    · have : i = l.length := by omega
      subst this
      have hdt : decide ((l.length : Int) < (l.length : Int)) = false := decide_eq_false (by omega)
      rw [hdt, cond_false]
      rw [List.take_length] at ho
      exact ⟨s3, H, rfl, ho⟩
theorem e38 (n : Nat) {s0 : VS} {l : List Key} (hs : IsT s0 l) (hz : l.length < 900000) (hn : l.length < n) (H : VH) : ∃ s', vF P tab (n + 1) 38 [.sl 9 s0] H = some (.sl 9 s', H) ∧ IsT s' (riseS l) := by
  have hb : ∃ s' H', bodyV P tab (vF P tab n) n 38 [.sl 9 s0.strip] [] = some (.sl 9 s', H') ∧ IsT s' (riseS l) := by
    rw [f38_eq]
    exact l38 n hs.strip hz hn n 0 (by rw [List.take_zero]; exact .nil) (by omega) (by omega)
  obtain ⟨s', H', g1, g2⟩ := hb
  exact ⟨s'.strip, lone_E (H := H) rfl (by simp [closed_slv 9 hs]) g1 g2⟩
theorem c38 (n : Nat) {s0 : VS} {l : List Key} (hs : IsT s0 l) (hz : l.length < 900000) (hn : l.length < n) (H : VH) : ∃ s', V.callD (vF P tab (n + 1)) P false (.one (.flat (.slice 9))) 38 [.sl 9 s0] H = some (s', H) ∧ IsT s' (riseS l) := by
  obtain ⟨s', a, b⟩ := e38 n hs hz hn H
  exact ⟨s', callD_sl a, b⟩
theorem drop_cons {α : Type} {l : List α} {j : Nat} {y : α} (hy : l[j]? = some y) : l.drop j = y :: l.drop (j + 1) := by
  obtain ⟨hlt, he⟩ := List.getElem?_eq_some_iff.1 hy
  rw [List.drop_eq_getElem_cons hlt, he]
theorem flt_cons {α : Type} (p : α → Bool) (y : α) (r : List α) : (y :: r).filter p = cond (p y) (y :: r.filter p) (r.filter p) := by
  rw [List.filter_cons]; cases p y <;> rfl
abbrev bk (k : Key) : ByteArray := ⟨k.toArray⟩
/-! ### Queue -/
def selQ (p : Bool) (k : Key) (l : List Ln) : List Ln := l.filter (fun x => decide (x.k = k) && (x.waits && (x.goes == p)))
theorem l39i (n m0 : Nat) {s0 : VS} {m : List Ln} (hs : IsL s0 m) (k : Key) (q : Nat) (p : Bool) (hp : ((q : Int) == 0) = p) (hz : m.length < 100000) : ∀ (f j : Nat) {H : VH} {s5 : VS} {acc : List Ln}, Aq H 82 s5 (acc.map lnc) → acc.length + (m.drop j).length < 1000000 → j ≤ m.length → m.length < j + f →
    ∃ s' H', L39_1 n m0 f s0 (bk k) s5 (q : Int) (j : Int) H = L39_0 n m0 s0 (bk k) s' (IntKind.wrap .i64 ((q : Int) + 1)) H' ∧ Aq H' 82 s' ((acc ++ selQ p k (m.drop j)).map lnc) ∧ Gx 82 H H' := by
  intro f
  induction f with
  | zero => intros; omega
  | succ f ih =>
    intro j H s5 acc h hl hj hm
    rw [L39_1_eq, hs.len, lns_len]
    by_cases c : j < m.length
    · obtain ⟨x, hx⟩ := get_of c
      rw [drop_cons hx, List.length_cons] at hl
      have hdt : decide ((j : Int) < (m.length : Int)) = true := decide_eq_true (by omega)
      rw [hdt, cond_true, rl_1 hs hx, strEq_iff, inc_nat (by omega), drop_cons hx]
      have skip : (decide (x.k = k) && (x.waits && (x.goes == p))) = false → ∃ s' H', L39_1 n m0 f s0 (bk k) s5 (q : Int) ((j + 1 : Nat) : Int) H = L39_0 n m0 s0 (bk k) s' (IntKind.wrap .i64 ((q : Int) + 1)) H' ∧ Aq H' 82 s' ((acc ++ selQ p k (x :: m.drop (j + 1))).map lnc) ∧ Gx 82 H H' := by
        intro e
        have e2 : selQ p k (x :: m.drop (j + 1)) = selQ p k (m.drop (j + 1)) := by unfold selQ; rw [flt_cons, e]; rfl
        rw [e2]
        exact ih (j + 1) h (by omega) (by omega) (by omega)
      cases e1 : decide (x.k = k) with
      | false => rw [cond_false]; exact skip (by rw [e1]; rfl)
      | true =>
        rw [cond_true, rl_3 hs hx]
        cases e2 : x.waits with
        | false => rw [cond_false]; exact skip (by rw [e2]; simp)
        | true =>
          rw [cond_true, rl_4 hs hx, hp]
          cases e3 : x.goes == p with
          | false => rw [cond_false]; exact skip (by rw [e3]; simp)
          | true =>
            rw [cond_true, rl_a hs hx]
            obtain ⟨s', H', a1, a2, a3⟩ := h.push lnc (sz := 5) (by_ := 32) x (by decide) (by omega)
            have a1' : appD true H 5 32 82 s5 (.fz [[.int .i64 x.o, .str ⟨x.k.toArray⟩, .bool x.only, .bool x.waits, .bool x.goes]] (.ex 1)) = some (s', H') := a1
            simp only
            rw [a1', Option.bind_some]
            obtain ⟨s4, H4, b1, b2, b3⟩ := ih (j + 1) a2 (by rw [List.length_append, List.length_singleton]; omega) (by omega) (by omega)
            refine ⟨s4, H4, b1, ?_, a3.trans b3⟩
            have e4 : selQ p k (x :: m.drop (j + 1)) = x :: selQ p k (m.drop (j + 1)) := by unfold selQ; rw [flt_cons, e1, e2, e3]; rfl
            rw [e4, show acc ++ x :: selQ p k (m.drop (j + 1)) = acc ++ [x] ++ selQ p k (m.drop (j + 1)) by simp]
            exact b2
    · have hdt : decide ((j : Int) < (m.length : Int)) = false := decide_eq_false (by omega)
      rw [hdt, cond_false, List.drop_eq_nil_of_le (by omega)]
      exact ⟨s5, H, rfl, by simpa [selQ] using h, Gx.refl _ _⟩
theorem selQ_eq (m : List Ln) (k : Key) : selQ true k m ++ selQ false k m = qR m k := by
  unfold qR wq kl selQ
  rw [List.filter_filter, List.filter_filter]
  congr 1
  · refine List.filter_congr fun y _ => ?_
    cases decide (y.k = k) <;> cases y.waits <;> cases y.goes <;> rfl
  · refine List.filter_congr fun y _ => ?_
    cases decide (y.k = k) <;> cases y.waits <;> cases y.goes <;> rfl
theorem c39 (n : Nat) {s0 : VS} {m : List Ln} (hs : IsL s0 m) (k : Key) (hz : m.length < 100000) (hn : m.length + 10 < n) (H : VH) : ∃ s', V.callD (vF P tab (n + 1)) P false (.one (.flat (.slice 82))) 39 [.sl 82 s0, .str (bk k)] H = some (s', H) ∧ IsL s' (qR m k) := by
  have hb : ∃ s' H', bodyV P tab (vF P tab n) n 39 [.sl 82 s0.strip, .str (bk k)] [] = some (.sl 82 s', H') ∧ IsL s' (qR m k) := by
    rw [f39_eq]
    obtain ⟨n1, rfl⟩ : ∃ n1, n = n1 + 3 := ⟨n - 3, by omega⟩
    have hs' : IsL s0.strip m := hs.strip
    obtain ⟨s1, H1, a1, a2, a3⟩ := l39i (n1 + 3) (n1 + 2) hs' k 0 true rfl hz (n1 + 3) 0 (H := []) (acc := []) .nil (by simp; omega) (Nat.zero_le _) (by omega)
    have hle : (selQ true k m).length ≤ m.length := List.length_filter_le _ _
    obtain ⟨s2, H2, b1, b2, b3⟩ := l39i (n1 + 3) (n1 + 1) hs' k 1 false rfl hz (n1 + 3) 0 (H := H1) (acc := selQ true k m) (s5 := s1) (by simpa using a2) (by simp; omega) (Nat.zero_le _) (by omega)
    rw [L39_0_eq, show decide ((0 : Int) < 2) = true from rfl, cond_true]
    rw [show ((0 : Nat) : Int) = 0 from rfl] at a1
    rw [a1, show IntKind.wrap .i64 (0 + 1) = 1 from rfl, L39_0_eq, show decide ((1 : Int) < 2) = true from rfl, cond_true]
    rw [show ((1 : Nat) : Int) = 1 from rfl, show ((0 : Nat) : Int) = 0 from rfl] at b1
    rw [b1, show IntKind.wrap .i64 (1 + 1) = 2 from rfl, L39_0_eq, show decide ((2 : Int) < 2) = false from rfl, cond_false]
    refine ⟨s2, H2, rfl, ?_⟩
    rw [List.drop_zero, selQ_eq] at b2
    exact b2.isE
  obtain ⟨s', H', g1, g2⟩ := hb
  obtain ⟨x, y⟩ := lone_E (H := H) (args := [.sl 82 s0, .str (bk k)]) rfl (by simp [closed_slv 82 hs]; rfl) g1 g2
  exact ⟨s'.strip, callD_sl x, y⟩
/-! ### Who holds -/
theorem l43 (n : Nat) {s0 : VS} {m : List Ln} (hs : IsL s0 m) (k : Key) (hz : m.length < 100000) (hn : m.length < n) : ∀ (f j : Nat) {H : VH} {s6 : VS} {acc : List Int} {on : Bool}, Aq H 3 s6 (acc.map i1) → acc.length + (m.drop j).length ≤ m.length → j ≤ m.length → m.length < j + f →
    ∃ s' H', L43_0 (n + 1) f s0 (bk k) s6 on (j : Int) H = some (.tup [.sl 3 s', .bool (on || onlyR (m.drop j) k)], H') ∧ IsI s' (riseI (acc ++ hsR (m.drop j) k)) := by
  intro f
  induction f with
  | zero => intros; omega
  | succ f ih =>
    intro j H s6 acc on h hl hj hm
    rw [L43_0_eq, hs.len, lns_len]
    by_cases c : j < m.length
    · obtain ⟨x, hx⟩ := get_of c
      rw [drop_cons hx, List.length_cons] at hl
      have hdt : decide ((j : Int) < (m.length : Int)) = true := decide_eq_true (by omega)
      rw [hdt, cond_true, rl_1 hs hx, strEq_iff, inc_nat (by omega), drop_cons hx]
      have ek : ∀ b, hol (kl (x :: m.drop (j + 1)) k) = b → hol (kl (x :: m.drop (j + 1)) k) = b := fun _ h => h
      cases e1 : decide (x.k = k) with
      | false =>
        have e2 : kl (x :: m.drop (j + 1)) k = kl (m.drop (j + 1)) k := by unfold kl; rw [flt_cons, e1]; rfl
        have e3 : hsR (x :: m.drop (j + 1)) k = hsR (m.drop (j + 1)) k := by unfold hsR; rw [e2]
        have e4 : onlyR (x :: m.drop (j + 1)) k = onlyR (m.drop (j + 1)) k := by unfold onlyR; rw [e2]
        rw [cond_false, e3, e4]
        exact ih (j + 1) h (by omega) (by omega) (by omega)
      | true =>
        have e2 : kl (x :: m.drop (j + 1)) k = x :: kl (m.drop (j + 1)) k := by unfold kl; rw [flt_cons, e1]; rfl
        rw [cond_true, rl_3 hs hx]
        cases e5 : x.waits with
        | true =>
          have e3 : hsR (x :: m.drop (j + 1)) k = hsR (m.drop (j + 1)) k := by unfold hsR hol; rw [e2, flt_cons, e5]; rfl
          have e4 : onlyR (x :: m.drop (j + 1)) k = onlyR (m.drop (j + 1)) k := by unfold onlyR hol; rw [e2, flt_cons, e5]; rfl
          rw [Bool.not_true, cond_false, e3, e4]
          exact ih (j + 1) h (by omega) (by omega) (by omega)
        | false =>
          have e3 : hsR (x :: m.drop (j + 1)) k = x.o :: hsR (m.drop (j + 1)) k := by unfold hsR hol; rw [e2, flt_cons, e5]; rfl
          have e4 : onlyR (x :: m.drop (j + 1)) k = (x.only || onlyR (m.drop (j + 1)) k) := by unfold onlyR hol; rw [e2, flt_cons, e5]; rfl
          rw [Bool.not_false, cond_true, rl_0 hs hx, e3, e4]
          obtain ⟨s', H', a1, a2, a3⟩ := h.push i1 (sz := 1) (by_ := 8) x.o (by decide) (by omega)
          have a1' : appD true H 1 8 3 s6 (.fz [[.int .i64 x.o]] (.ex 1)) = some (s', H') := a1
          rw [a1', Option.bind_some]
          have fin : ∀ on', ∃ s4 H4, L43_0 (n + 1) f s0 (bk k) s' on' ((j + 1 : Nat) : Int) H' = some (.tup [.sl 3 s4, .bool (on' || onlyR (m.drop (j + 1)) k)], H4) ∧ IsI s4 (riseI (acc ++ x.o :: hsR (m.drop (j + 1)) k)) := fun on' => by
            obtain ⟨s4, H4, b1, b2⟩ := ih (j + 1) (on := on') a2 (by rw [List.length_append, List.length_singleton]; omega) (by omega) (by omega)
            refine ⟨s4, H4, b1, ?_⟩
            rw [show acc ++ x.o :: hsR (m.drop (j + 1)) k = acc ++ [x.o] ++ hsR (m.drop (j + 1)) k by simp]
            exact b2
          cases on with
          | true => rw [cond_true]; exact fin true
          | false =>
            rw [cond_false]
            simp only
            rw [rl_2 hs hx]
            have := fin x.only
            rw [Bool.false_or]
            exact this
    · have hdt : decide ((j : Int) < (m.length : Int)) = false := decide_eq_false (by omega)
      rw [hdt, cond_false, List.drop_eq_nil_of_le (by omega)]
      rw [List.drop_eq_nil_of_le (by omega), List.length_nil] at hl
      obtain ⟨s', a, b⟩ := c58 n (s0 := s6) (l := acc) h.isE (by omega) (by omega) H
      rw [a, Option.bind_some]
      refine ⟨s', H, ?_, by simpa [hsR, kl, hol] using b⟩
      simp [onlyR, kl, hol]
theorem c43 (n : Nat) {s0 : VS} {m : List Ln} (hs : IsL s0 m) (k : Key) (hz : m.length < 100000) (hn : m.length + 10 < n) (H : VH) : ∃ s', V.callD (vF P tab (n + 2)) P false (.tup [(.flat (.slice 3)), (.flat .bool)]) 43 [.sl 82 s0, .str (bk k)] H = some ((s', onlyR m k, ()), H) ∧ IsI s' (riseI (hsR m k)) := by
  have hb : ∃ s' H', bodyV P tab (vF P tab (n + 1)) (n + 1) 43 [.sl 82 s0.strip, .str (bk k)] [] = some (.tup [.sl 3 s', .bool (onlyR m k)], H') ∧ IsI s' (riseI (hsR m k)) := by
    rw [f43_eq]
    obtain ⟨s', H', a, b⟩ := l43 n (m := m) hs.strip k hz (by omega) (n + 1) 0 (H := []) (acc := []) (on := false) .nil (by simp) (Nat.zero_le _) (by omega)
    rw [List.drop_zero, Bool.false_or] at a
    exact ⟨s', H', a, by simpa using b⟩
  obtain ⟨s', H', g1, g2⟩ := hb
  have := vF_lone (H := H) (args := [.sl 82 s0, .str (bk k)]) rfl (by simp [closed_slv 82 hs]; rfl) g1 (by show (closedC (.sl 3 s') && _) = true; rw [closed_slv 3 g2]; rfl)
  exact ⟨s'.strip, callD_some (.tup [.sl 3 s'.strip, .bool (onlyR m k)]) this (dec_sb 3 _ _), g2.strip⟩
/-! ### May it hold now? -/
theorem ldb {H : VH} {p : Nat} {T : TypeId} {cs : List V} (h : H[p]? = some (.row T cs)) (off : Nat) (τ : V.FT) : ldV (.flat τ) H (.ob p off) = (cs[off]?).bind (V.fdec τ) := ld_row h τ
theorem c40 (n : Nat) {s0 : VS} {m : List Ln} (hs : IsL s0 m) (x : Ln) (hz : m.length < 100000) (hn : m.length + 10 < n) (H : VH) : V.callD (vF P tab (n + 3)) P false (.one (.flat .bool)) 40 [.sl 82 s0, .agg (lnc x)] H = some (mayR m x, H) := by
  refine callD_bool ?_
  refine vF_lone (r := .bool (mayR m x)) (H1 := [.row (82 + boxK) (lnc x)]) rfl (by simp [closed_slv 82 hs]; rfl) ?_ rfl
  show bodyV P tab (vF P tab (n + 2)) (n + 2) 40 [.sl 82 s0.strip, .agg [.int .i64 x.o, .str (bk x.k), .bool x.only, .bool x.waits, .bool x.goes]] [] = _
  rw [f40_eq]
  have hp : ([] ++ [VO.row (82 + boxK) (lnc x)] : VH)[([] : VH).length]? = some (.row (82 + boxK) (lnc x)) := rfl
  obtain ⟨s', a, b⟩ := c43 n (s0 := s0.strip) (m := m) hs.strip x.k hz hn [.row (82 + boxK) (lnc x)]
  have l1 : ldV (.flat .str) ([] ++ [VO.row (82 + boxK) (lnc x)] : VH) (.ob ([] : VH).length 1) = some (bk x.k) := ldb hp 1 .str
  have l4 : ldV (.flat .bool) [VO.row (82 + boxK) (lnc x)] (.ob ([] : VH).length 4) = some x.goes := ldb (H := [VO.row (82 + boxK) (lnc x)]) (p := 0) rfl 4 .bool
  have l2 : ldV (.flat .bool) [VO.row (82 + boxK) (lnc x)] (.ob ([] : VH).length 2) = some x.only := ldb (H := [VO.row (82 + boxK) (lnc x)]) (p := 0) rfl 2 .bool
  rw [show ([VO.row (82 + boxK) [.int .i64 x.o, .str (bk x.k), .bool x.only, .bool x.waits, .bool x.goes]] : VH) = [VO.row (82 + boxK) (lnc x)] from rfl, l1, Option.bind_some]
  rw [show ([] ++ [VO.row (82 + boxK) (lnc x)] : VH) = [VO.row (82 + boxK) (lnc x)] from rfl, a, Option.bind_some]
  simp only
  rw [l4, Option.bind_some, l2, Option.bind_some, isI_len b]
  unfold mayR
  have e1 : (((riseI (hsR m x.k)).length : Int) == 1) = decide ((riseI (hsR m x.k)).length = 1) := by rw [beq_dec]; exact decide_eq_decide.2 (by omega)
  have e0 : (((riseI (hsR m x.k)).length : Int) == 0) = decide ((riseI (hsR m x.k)).length = 0) := by rw [beq_dec]; exact decide_eq_decide.2 (by omega)
  rw [e1, e0]
  cases x.goes <;> cases x.only <;> rfl
end Go.Proofs.Ytgmgpandhaeniaa.R
