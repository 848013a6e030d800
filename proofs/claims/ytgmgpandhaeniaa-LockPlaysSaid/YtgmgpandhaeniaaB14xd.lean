import Derived.Test.YtgmgpandhaeniaaB14xc
set_option maxRecDepth 100000
set_option linter.unusedVariables false
set_option linter.unusedSimpArgs false
namespace Go.Proofs.Ytgmgpandhaeniaa
open Go.Proofs.Ytgmgpandhaeniaa.Sh Go.Proofs.Ytgmgpandhaeniaa.Sh.V Go.RowKit Go.Proofs.Ytgmgpandhaeniaa.Sh.Lk
/-! ### Waits -/
def wr (w : Option (Key × Bool)) : ByteArray × Bool × Bool := match w with | some (k, b) => (⟨k.toArray⟩, b, true) | none => (⟨#[]⟩, false, false)
abbrev NTY : TypeId := 28 + boxK
theorem ld_n {H : VH} {p : Nat} {a : ByteArray} {b : Bool} (h : H[p]? = some (.row NTY [.str a, .bool b])) : ldV (.agg [.str, .bool]) H (.ob p 0) = some (a, b, ()) := by
  simp only [ldV, rowV_of h, Option.bind_some]
  rfl
theorem stN {H : VH} {p : Nat} {a : ByteArray} {b : Bool} (h : H[p]? = some (.row NTY [.str a, .bool b])) (a' : ByteArray) (b' : Bool) : ∃ H', stV H (.ob p 0) [.str a', .bool b'] = some H' ∧ H'[p]? = some (.row NTY [.str a', .bool b']) ∧ Kp H H' [p] ∧ H'.length = H.length :=
  ⟨_, st_row h (by simp) rfl, by rw [set_at h]; rfl, Kp.set _ _ _, by simp⟩
theorem l20 (n : Nat) {s : VS} {q : List Wt} {p : Nat} {o : Int} (kk : Key) (ok : Bool) (hq2 : q.length < 2000) : ∀ (m c : Nat) {H0 H : VH}, Hr H WTY 3 s (wts q) → H[p]? = some (.row NTY [.str ⟨#[]⟩, .bool false]) → Kp H0 H [] → H0.length ≤ p → c ≤ q.length → q.length < c + m →
    ∃ H', L20_0 n m o p ⟨kk.toArray⟩ ok s (q.length : Int) (c : Int) H = some (.tup [.agg [.str (wr (cond ok ((findO o (q.drop c)).map fun w => (kk, w.only)) none)).1, .bool (wr (cond ok ((findO o (q.drop c)).map fun w => (kk, w.only)) none)).2.1], .bool (wr (cond ok ((findO o (q.drop c)).map fun w => (kk, w.only)) none)).2.2], H') ∧ Kp H0 H' [] := by
  intro m
  induction m with
  | zero => intros; omega
  | succ m ih =>
    intro c H0 H hs hp k0 hp0 hc hm
    rw [L20_0_eq]
    by_cases hcl : c < q.length
    · obtain ⟨w, hw⟩ := get_of hcl
      have hdt : decide ((c : Int) < (q.length : Int)) = true := decide_eq_true (by omega)
      rw [hdt, cond_true, rd_w hs hw]
      simp only
      obtain ⟨H1, b1, b2, b3, b4⟩ := new_w H w
      rw [b1, Option.bind_some, inc_nat (by omega)]
      have hp1 := b3.ob hp (by simp)
      have hs1 := hs.keep b3 (fun t _ => by simp)
      have k1 : Kp H0 H1 [] := k0.trans b3 (fun x hx _ => hx) (fun x hx _ => hx)
      obtain ⟨H', g1, g2⟩ := ih (c + 1) hs1 hp1 k1 hp0 (by omega) (by omega)
      rw [drop_of hw]
      unfold findO
      cases ok with
      | false =>
        rw [cond_false]
        exact ⟨H', g1, g2⟩
      | true =>
        rw [cond_true, ld_w0 b2, Option.bind_some]
        by_cases he : w.o = o
        · have e1 : ((w.o : Int) == o) = true := by simpa using he
          rw [e1, cond_true, ld_w1 b2, Option.bind_some]
          obtain ⟨H2, d1, d2, d3, d4⟩ := stN hp1 ⟨kk.toArray⟩ w.only
          rw [d1, Option.bind_some, ld_n d2, Option.bind_some, decide_eq_true he]
          exact ⟨H2, rfl, k1.trans d3 (fun x hx _ => hx) (fun x hx hlt => by simp at hx; omega)⟩
        · have e1 : ((w.o : Int) == o) = false := by simpa using he
          rw [e1, cond_false, decide_eq_false he]
          exact ⟨H', g1, g2⟩
    · have : c = q.length := by omega
      subst this
      have hdt : decide ((q.length : Int) < (q.length : Int)) = false := decide_eq_false (by omega)
      rw [hdt, cond_false, List.drop_eq_nil_of_le (Nat.le_refl _)]
      obtain ⟨H2, d1, d2, d3, d4⟩ := stN hp ⟨#[]⟩ false
      rw [d1, Option.bind_some, ld_n d2, Option.bind_some]
      refine ⟨H2, ?_, k0.trans d3 (fun x hx _ => hx) (fun x hx hlt => by simp at hx; omega)⟩
      cases ok <;> rfl
theorem p20 (n : Nat) (hn : 3000 ≤ n) {H : VH} {k : Nat} {F : List Nat} {t : Tb} (h : TO H k F t) (o : Int) (sz : ∀ key, (lkOf t key).q.length < 2000) :
    ∃ H', V.callD (vF P tab (n + 2)) P false (.tup [(.agg [.str, .bool]), (.flat .bool)]) 20 [.ptr (.ob k 0), .int .i64 o] H = some ((((wr (waitsP t o)).1, (wr (waitsP t o)).2.1, ()), (wr (waitsP t o)).2.2, ()), H') ∧ Kp H H' [] := by
  suffices hb : ∃ H', bodyV P tab (vF P tab (n + 1)) (n + 1) 20 [.ptr (.ob k 0), .int .i64 o] H = some (.tup [.agg [.str (wr (waitsP t o)).1, .bool (wr (waitsP t o)).2.1], .bool (wr (waitsP t o)).2.2], H') ∧ Kp H H' [] by
    obtain ⟨H', h1, h2⟩ := hb
    refine ⟨H', callD_some _ (by rw [vF_body rfl]; exact h1) ?_, h2⟩
    show V.decT _ _ = _
    simp only [V.decT, V.dec1, V.decs, V.fdec, Option.bind_some, Option.map_some]
  rw [f20_eq]
  obtain ⟨H1, e1⟩ : ∃ H1 : VH, H1 = H ++ [VO.row NTY [.str ⟨#[]⟩, .bool false]] := ⟨_, rfl⟩
  have hp1 : H1[H.length]? = some (.row NTY [.str ⟨#[]⟩, .bool false]) := by rw [e1]; exact app_last _ _
  have k1 : Kp H H1 [] := by rw [e1]; exact Kp.app _ _
  rw [← e1]
  simp only [VP.isNil, cond_false, nn_ob, atO_ob, Option.bind_some, Nat.zero_add]
  have h1 := h.kn k1
  obtain ⟨i, j, g1, g2, _⟩ := h1.find []
  rw [ld_t1 g1, Option.bind_some, look_w g2, Option.bind_some]
  unfold waitsP
  cases hw : getM t.ws o with
  | none =>
    simp only
    obtain ⟨s, q, H2, a1, a2, a3, a4, a5⟩ := p34 n h1 []
    rw [show (⟨#[]⟩ : ByteArray) = ⟨([] : Key).toArray⟩ from rfl, a1, Option.bind_some]
    simp only
    rw [a3.len, wts_len]
    obtain ⟨H', b1, b2⟩ := l20 (n + 1) (o := o) [] false (sz []) (n + 1) 0 (H0 := H) a3 (a4.ob hp1 (by simp)) (k1.trans a4 (fun x hx _ => hx) (fun x hx _ => hx)) (Nat.le_refl _) (Nat.zero_le _) (by have := sz []; omega)
    exact ⟨H', b1, b2⟩
  | some kk =>
    simp only
    obtain ⟨s, q, H2, a1, a2, a3, a4, a5⟩ := p34 n h1 kk
    rw [a1, Option.bind_some]
    simp only
    rw [a3.len, wts_len]
    obtain ⟨H', b1, b2⟩ := l20 (n + 1) (o := o) kk true (sz kk) (n + 1) 0 (H0 := H) a3 (a4.ob hp1 (by simp)) (k1.trans a4 (fun x hx _ => hx) (fun x hx _ => hx)) (Nat.le_refl _) (Nat.zero_le _) (by have := sz kk; omega)
    exact ⟨H', b1, b2⟩
/-! ### Compact -/
def compF : Int → List Int → List Int
  | _, [] => []
  | p, a :: r => cond (a == p) (compF a r) (a :: compF a r)
theorem dedup_comp : ∀ (r : List Int) (p : Int), dedupI (p :: r) = p :: compF p r
  | [], p => rfl
  | a :: r, p => by
    unfold dedupI compF
    by_cases h : p = a
    · subst h
      rw [decide_eq_true rfl, cond_true, dedup_comp r p]
      simp
    · have e : (a == p) = false := by simpa using fun e => h e.symm
      rw [decide_eq_false h, cond_false, dedup_comp r a, e, cond_false]
theorem cutD_any {H H' : VH} {e : TypeId} {sz : Nat} {s : VS} {es es' : List (List V)} (h : Hr H e sz s es) (h' : Hr H' e sz s es') (lo hi : Option Int) : cutD H' e sz s lo hi none = cutD H e sz s lo hi none := by
  unfold V.cutD
  rw [holdV_eq, holdV_eq]
  rcases h.2 with ⟨rfl, rfl⟩ | ⟨j, pre, post, rfl, hj⟩
  · rfl
  · rcases h'.2 with ⟨h1, _⟩ | ⟨j', pre', post', h1, hj'⟩
    · cases h1
    · injection h1 with h1
      subst h1
      unfold cutV
      simp only [hj, hj']
theorem dec_nat {i : Nat} (h0 : 1 ≤ i) (h : i < 9223372036854775807) : IntKind.wrap .i64 ((i : Int) - 1) = ((i - 1 : Nat) : Int) := by rw [i64_in (by omega)]; omega
theorem l371 (n m0 : Nat) {s s4 : VS} {N k0 : Nat} (hN : N < 2000) (hk0 : 1 ≤ k0) : ∀ (m k j : Nat) {H : VH} {es : List Int} {p : Int} {r : List Int}, Hr H 3 1 s (ints es) → cutD H 3 1 s (some (k0 : Int)) none none = some s4 → es.length = N → k0 ≤ k → k < j → j ≤ N → k0 + 1 ≤ j → N < j + m → es.drop (j - 1) = p :: r →
    ∃ s' H', L37_1 n m0 m s (k : Int) s4 ((j - k0 : Nat) : Int) H = some (.sl 3 s', H') ∧ Hr H' 3 1 s' (ints (es.take k ++ compF p r)) ∧ Kp H H' (hps s) ∧ hps s' = hps s := by
  intro m
  induction m with
  | zero => intros; omega
  | succ m ih =>
    intro k j H es p r hs hcut hl h1 h2 h3 h4 h5 hd
    have h4s : Hr H 3 1 s4 (ints (es.drop k0)) ∧ hps s4 = hps s := by
      obtain ⟨s', a1, a2, a3, _⟩ := hs.drop (c := k0) (by rw [ints_len]; omega)
      rw [hcut] at a1
      injection a1 with a1
      subst a1
      refine ⟨?_, a3⟩
      have : ints (es.drop k0) = (ints es).drop k0 := by simp [ints]
      rw [this]; exact a2
    rw [L37_1_eq, h4s.1.len, ints_len, List.length_drop, hl]
    by_cases hj : j < N
    · have hdt : decide ((((j - k0 : Nat) : Nat) : Int) < ((N - k0 : Nat) : Int)) = true := decide_eq_true (by omega)
      obtain ⟨a, ha⟩ : ∃ a, es[j]? = some a := get_of (by omega)
      have hp' : es[j - 1]? = some p := by
        have := congrArg (fun l : List Int => l[0]?) hd
        simpa using this
      have hr' : r = a :: es.drop (j + 1) := by
        have e1 : es.drop j = r := by
          have := congrArg (fun l : List Int => l.drop 1) hd
          simp only [List.drop_drop, List.drop_succ_cons, List.drop_zero] at this
          rwa [show j - 1 + 1 = j by omega] at this
        rw [← e1, drop_of ha]
      subst hr'
      have g1 : (es.drop k0)[j - k0]? = some a := by rw [List.getElem?_drop, show k0 + (j - k0) = j by omega]; exact ha
      have g2 : (es.drop k0)[j - k0 - 1]? = some p := by rw [List.getElem?_drop, show k0 + (j - k0 - 1) = j - 1 by omega]; exact hp'
      rw [hdt, cond_true, h4s.1.rd1 (τ := .int .i64) (ints_get g1) (fd_int .i64 a), dec_nat (by omega) (by omega), h4s.1.rd1 (τ := .int .i64) (ints_get g2) (fd_int .i64 p)]
      rw [inc_nat (by omega), inc_nat (by omega), show j - k0 + 1 = (j + 1) - k0 by omega]
      have hd2 : es.drop (j + 1 - 1) = a :: es.drop (j + 1) := by rw [show j + 1 - 1 = j by omega]; exact drop_of ha
      unfold compF
      by_cases hap : a = p
      · have e1 : ((a : Int) != p) = false := by simp [hap]
        have e2 : (a == p) = true := by simp [hap]
        rw [e1, cond_false, e2, cond_true]
        exact ih k (j + 1) hs hcut hl h1 (by omega) (by omega) (by omega) (by omega) hd2
      · have e1 : ((a : Int) != p) = true := by simpa using hap
        have e2 : (a == p) = false := by simpa using hap
        rw [e1, cond_true, h4s.1.rd1 (τ := .int .i64) (ints_get g1) (fd_int .i64 a), e2, cond_false]
        obtain ⟨H1, b1, b2, b3, b4⟩ := hs.set (i := k) (by rw [ints_len]; omega) (z := [ik a]) rfl rfl (fun h8 => L37_1 n m0 m s ((k + 1 : Nat) : Int) s4 ((j + 1 - k0 : Nat) : Int) h8)
        rw [b1]
        rw [← ints_set] at b2
        have hd3 : (es.set k a).drop (j + 1 - 1) = a :: es.drop (j + 1) := by rw [List.drop_set_of_lt (by omega)]; exact hd2
        obtain ⟨s', H', c1, c2, c3, c4⟩ := ih (k + 1) (j + 1) b2 (by rw [cutD_any hs b2]; exact hcut) (by rw [List.length_set]; exact hl) (by omega) (by omega) (by omega) (by omega) (by omega) hd3
        refine ⟨s', H', c1, ?_, b3.trans c3 (fun x hx _ => hx) (fun x hx _ => hx), c4⟩
        have e3 : (es.set k a).take (k + 1) ++ compF a (es.drop (j + 1)) = es.take k ++ a :: compF a (es.drop (j + 1)) := by
          rw [List.set_eq_take_append_cons_drop, if_pos (by omega)]
          rw [List.take_append, List.length_take, Nat.min_eq_left (by omega), show k + 1 - k = 1 by omega, List.take_of_length_le (by rw [List.length_take]; omega)]
          simp
        rw [e3] at c2
        exact c2
    · have hjN : j = N := by omega
      have hdt : decide ((((j - k0 : Nat) : Nat) : Int) < ((N - k0 : Nat) : Int)) = false := decide_eq_false (by omega)
      rw [hdt, cond_false]
      have hr' : r = [] := by
        have := congrArg List.length hd
        simp only [List.length_drop, List.length_cons] at this
        exact List.eq_nil_of_length_eq_zero (by omega)
      subst hr'
      obtain ⟨s2, a1, a2, a3, a4⟩ := hs.drop (c := k) (by rw [ints_len]; omega)
      rw [a1, Option.bind_some]
      obtain ⟨H1, es', b1, b2, b3, b4, b5, b6⟩ := hs.clear (c := k) (by rw [ints_len]; omega) a1 elem3 zero3 rfl (by decide) rfl
      rw [b1, Option.bind_some]
      obtain ⟨s3, c1, c2, c3⟩ := b2.take (c := k) (by rw [b3, ints_len]; omega)
      rw [c1, Option.bind_some]
      refine ⟨s3, H1, rfl, ?_, b5, c3⟩
      rw [b4, ← ints_take] at c2
      unfold compF
      rw [List.append_nil]; exact c2
theorem l370 (n : Nat) (hn : 3000 ≤ n) {H : VH} {s : VS} {l : List Int} (hs : Hr H 3 1 s (ints l)) (hl : l.length < 2000) : ∀ (m k : Nat) {p : Int} {r : List Int}, 1 ≤ k → k ≤ l.length → l.length < k + m → l.drop (k - 1) = p :: r →
    ∃ s' H', L37_0 n m s (k : Int) H = some (.sl 3 s', H') ∧ Hr H' 3 1 s' (ints (l.take k ++ compF p r)) ∧ Kp H H' (hps s) ∧ hps s' = hps s := by
  intro m
  induction m with
  | zero => intros; omega
  | succ m ih =>
    intro k p r h1 h2 h3 hd
    rw [L37_0_eq, hs.len, ints_len]
    by_cases hk : k < l.length
    · have hdt : decide ((k : Int) < (l.length : Int)) = true := decide_eq_true (by omega)
      obtain ⟨a, ha⟩ : ∃ a, l[k]? = some a := get_of (by omega)
      have hp' : l[k - 1]? = some p := by
        have := congrArg (fun l : List Int => l[0]?) hd
        simpa using this
      have hr' : r = a :: l.drop (k + 1) := by
        have e1 : l.drop k = r := by
          have := congrArg (fun l : List Int => l.drop 1) hd
          simp only [List.drop_drop, List.drop_succ_cons, List.drop_zero] at this
          rwa [show k - 1 + 1 = k by omega] at this
        rw [← e1, drop_of ha]
      subst hr'
      rw [hdt, cond_true, hs.rd1 (τ := .int .i64) (ints_get ha) (fd_int .i64 a), dec_nat h1 (by omega), hs.rd1 (τ := .int .i64) (ints_get hp') (fd_int .i64 p), inc_nat (by omega)]
      have hd2 : l.drop (k + 1 - 1) = a :: l.drop (k + 1) := by rw [show k + 1 - 1 = k by omega]; exact drop_of ha
      by_cases hap : a = p
      · have e1 : ((a : Int) == p) = true := by simp [hap]
        rw [e1, cond_true]
        obtain ⟨s4, c1, _⟩ := hs.drop (c := k) (by rw [ints_len]; omega)
        rw [c1, Option.bind_some]
        obtain ⟨s', H', q1, q2, q3, q4⟩ := l371 n m hl h1 n k (k + 1) hs c1 rfl (Nat.le_refl _) (by omega) (by omega) (Nat.le_refl _) (by omega) hd2
        rw [show k + 1 - k = 1 by omega] at q1
        refine ⟨s', H', q1, ?_, q3, q4⟩
        rw [compF, e1, cond_true]
        exact q2
      · have e1 : ((a : Int) == p) = false := by simpa using hap
        rw [e1, cond_false]
        obtain ⟨s', H', q1, q2, q3, q4⟩ := ih (k + 1) (by omega) (by omega) (by omega) hd2
        refine ⟨s', H', q1, ?_, q3, q4⟩
        rw [compF, e1, cond_false]
        have : l.take (k + 1) = l.take k ++ [a] := by rw [List.take_add_one, ha]; rfl
        rw [this, List.append_assoc] at q2
        exact q2
    · have hkl : k = l.length := by omega
      have hdt : decide ((k : Int) < (l.length : Int)) = false := decide_eq_false (by omega)
      rw [hdt, cond_false]
      have hr' : r = [] := by
        have := congrArg List.length hd
        simp only [List.length_drop, List.length_cons] at this
        exact List.eq_nil_of_length_eq_zero (by omega)
      subst hr'
      refine ⟨s, H, rfl, ?_, Kp.refl _ _, rfl⟩
      rw [hkl, List.take_length, compF, List.append_nil]; exact hs
theorem p37 (n : Nat) (hn : 3000 ≤ n) {H : VH} {s : VS} {l : List Int} (hs : Hr H 3 1 s (ints l)) (hl : l.length < 2000) :
    ∃ s' H', V.callD (vF P tab (n + 1)) P false (.one (.flat (.slice 3))) 37 [.sl 3 s] H = some (s', H') ∧ Hr H' 3 1 s' (ints (dedupI l)) ∧ Kp H H' (hps s) ∧ hps s' = hps s := by
  suffices hb : ∃ s' H', bodyV P tab (vF P tab n) n 37 [.sl 3 s] H = some (.sl 3 s', H') ∧ Hr H' 3 1 s' (ints (dedupI l)) ∧ Kp H H' (hps s) ∧ hps s' = hps s by
    obtain ⟨s', H', h1, h2⟩ := hb
    exact ⟨s', H', callD_sl (by rw [vF_body rfl]; exact h1), h2⟩
  rw [f37_eq, hs.len, ints_len]
  match l, hs, hl with
  | [], hs, _ => exact ⟨s, H, rfl, hs, Kp.refl _ _, rfl⟩
  | [a], hs, _ => exact ⟨s, H, rfl, hs, Kp.refl _ _, rfl⟩
  | a :: b :: l, hs, hl =>
    have hdt : decide ((((a :: b :: l).length : Nat) : Int) < 2) = false := decide_eq_false (by simp only [List.length_cons]; omega)
    rw [hdt, cond_false]
    obtain ⟨s', H', q1, q2, q3, q4⟩ := l370 n hn hs hl n 1 (Nat.le_refl _) (by simp) (by omega) rfl
    refine ⟨s', H', q1, ?_, q3, q4⟩
    rw [dedup_comp]
    exact q2
end Go.Proofs.Ytgmgpandhaeniaa
