import Derived.Test.YtaifjlpgggimaaaB13a
set_option linter.unusedVariables false
set_option linter.unusedSimpArgs false
namespace Go.Proofs.Ytaifjlpgggimaaa
open Go.Proofs.Ytaifjlpgggimaaa.Sh Go.Proofs.Ytaifjlpgggimaaa.Sh.V Go.RowKit
/-! ### The document's frames -/
theorem e11 (n : Nat) {H : VH} {a b : VS} {la lb : List UInt8} (ha : IsB a la) (hb : IsB b lb) (hl : la.length + lb.length < 10000000) : ∃ s', vF P tab (n + 1) 11 [.sl 5 a, .sl 5 b] H = some (.sl 5 s', H) ∧ IsB s' (la ++ lb) := by
  obtain ⟨s1, H1, g1, g2, _⟩ := (Ap.nil (H := []) (e := 5)).app (sz := 1) (by_ := 1) ha.strip (by rw [bs_len]; simp only [bound, List.length_nil]; omega) (by rw [bs_len]; simp only [bound, List.length_nil]; omega)
  obtain ⟨s2, H2, g3, g4, _⟩ := g2.app (sz := 1) (by_ := 1) hb.strip (by rw [List.nil_append, bs_len, bs_len]; simp only [bound]; omega) (by rw [List.nil_append, bs_len, bs_len]; simp only [bound]; omega)
  have h : bodyV P tab (vF P tab n) n 11 ([.sl 5 a, .sl 5 b].map stripC) [] = some (.sl 5 s2, H2) := by
    show bodyV P tab (vF P tab n) n 11 [.sl 5 a.strip, .sl 5 b.strip] [] = _
    rw [f11_eq, g1, Option.bind_some, g3, Option.bind_some]
  refine ⟨s2.strip, lone_E (H := H) rfl (by simp [closed_sl 5 ha, closed_sl 5 hb]) h ?_⟩
  rw [bs_app]
  exact g4.isE
theorem e20 (n : Nat) {H : VH} {a : VS} {la : List UInt8} (ha : IsB a la) (hl : la.length < 1000000) : ∃ s', vF P tab (n + 2) 20 [.sl 5 a] H = some (.sl 5 s', H) ∧ IsB s' (textI la) := by
  obtain ⟨s', g1, g2⟩ := e11 n (H := []) (a := .fz [[.int .u8 (IntKind.wrap .u8 ((la.length / 256 : Nat) : Int))], [.int .u8 (IntKind.wrap .u8 ((la.length % 256 : Nat) : Int))]] (.ex 2)) (la := [u8 ((la.length / 256 : Nat) : Int), u8 ((la.length % 256 : Nat) : Int)]) (by rw [bc_wrap, bc_wrap]; exact .fz _ _) ha.strip (by simp only [List.length_cons, List.length_nil]; omega)
  have h : bodyV P tab (vF P tab (n + 1)) (n + 1) 20 ([.sl 5 a].map stripC) [] = some (.sl 5 s', []) := by
    show bodyV P tab (vF P tab (n + 1)) (n + 1) 20 [.sl 5 a.strip] [] = _
    rw [f20_eq, ha.strip.len, bs_len, show (256 : Int) = ((256 : Nat) : Int) from rfl, quoI_nat (by decide) (by rw [i64_nat (by omega)]), Option.bind_some, remI_nat (by decide), Option.bind_some, callD_sl g1, Option.bind_some]
  refine ⟨s'.strip, lone_E (H := H) rfl (by simp [closed_sl 5 ha]) h ?_⟩
  rw [u8_mod] at g2
  exact g2
/-- Of none, one byte. -/
def fill (q : List UInt8) : List UInt8 := if q.length = 0 then [7] else q
theorem l18 (n : Nat) {s s1 : VS} {es : List (List V)} {ls : List (List UInt8)} {bad : List UInt8} (hs : IsE s es) (hp : PB es ls) (h1 : IsB s1 bad) (hc : ∀ x ∈ ls, x.length ≤ 200) (hn : ls.length ≤ 8) (hb : bad.length ≤ 1000) : ∀ (m i : Nat) {H : VH} {s5 : VS}, IsB s5 (frames ((ls.map fill).take i)) → i ≤ ls.length → ls.length < i + m →
    ∃ s' H', L18_0 (n + 2) m s s1 s5 (i : Int) H = some (.sl 5 s', H') ∧ IsB s' (frames (ls.map fill) ++ bad) := by
  have hfl : ∀ x ∈ ls.map fill, x.length ≤ 200 := by
    intro x hx
    obtain ⟨y, hy, rfl⟩ := List.mem_map.1 hx
    have := hc y hy
    unfold fill
    split
    · simp
    · exact this
  intro m
  induction m with
  | zero => intros; omega
  | succ m ih =>
    intro i H s5 h5 hi1 hi2
    rw [L18_0_eq, hs.len, hp.len]
    have hfr := frames_len (l := (ls.map fill).take i) (c := 200) (fun x hx => hfl x (List.mem_of_mem_take hx))
    rw [List.length_take, List.length_map] at hfr
    by_cases hi : i < ls.length
    · rw [decide_eq_true (by omega), cond_true]
      obtain ⟨x, hx⟩ := get_of hi
      obtain ⟨v, hv, hrd⟩ := rdB hs hp hx
      have hxc := hc x (List.mem_of_getElem? hx)
      rw [hrd, hv.len, bs_len]
      have hm : (ls.map fill)[i]? = some (fill x) := by rw [List.getElem?_map, hx]; rfl
      have next : ∀ {r : VS} {H9 : VH}, IsB r (frames ((ls.map fill).take i) ++ textI (fill x)) → ∃ s' H', L18_0 (n + 2) m s s1 r (IntKind.wrap .i64 ((i : Int) + 1)) H9 = some (.sl 5 s', H') ∧ IsB s' (frames (ls.map fill) ++ bad) := by
        intro r H9 h9
        rw [inc_nat (by omega)]
        exact ih (i + 1) (by rw [frames_take hm]; exact h9) (by omega) (by omega)
      by_cases h0 : x.length = 0
      · have hf : fill x = [7] := by unfold fill; rw [if_pos h0]
        rw [hf] at next
        rw [show (((x.length : Nat) : Int) == 0) = true by rw [h0]; rfl, cond_true]
        obtain ⟨s2, g1, g2⟩ := e20 n (H := H) (a := .fz [[.int .u8 7]] (.ex 1)) (la := [7]) (.fz _ _) (by simp)
        rw [callD_sl g1, Option.bind_some]
        obtain ⟨s3, g3, g4⟩ := e11 (n + 1) (H := H) h5 g2 (by rw [textI_len]; simp only [List.length_singleton]; omega)
        simp only
        rw [callD_sl g3, Option.bind_some]
        exact next g4
      · have hf : fill x = x := by unfold fill; rw [if_neg h0]
        rw [hf] at next
        rw [show (((x.length : Nat) : Int) == 0) = false by rw [beq_eq_false_iff_ne]; omega, cond_false]
        obtain ⟨s2, g1, g2⟩ := e20 n (H := H) hv (by omega)
        rw [callD_sl g1, Option.bind_some]
        obtain ⟨s3, g3, g4⟩ := e11 (n + 1) (H := H) h5 g2 (by rw [textI_len]; omega)
        simp only
        rw [callD_sl g3, Option.bind_some]
        exact next g4
    · rw [decide_eq_false (by omega), cond_false]
      have : i = ls.length := by omega
      subst this
      rw [List.take_of_length_le (by simp)] at h5
      have hfr2 := frames_len hfl
      rw [List.length_map] at hfr2
      obtain ⟨s3, g3, g4⟩ := e11 (n + 1) (H := H) h5 h1 (by omega)
      rw [callD_sl g3, Option.bind_some]
      exact ⟨s3, H, rfl, g4⟩
theorem e18 (n : Nat) {H : VH} {s s1 : VS} {es : List (List V)} {ls : List (List UInt8)} {bad : List UInt8} (hs : IsE s es) (hp : PB es ls) (h1 : IsB s1 bad) (hc : ∀ x ∈ ls, x.length ≤ 200) (hn : ls.length ≤ 8) (hb : bad.length ≤ 1000) :
    ∃ s', vF P tab (n + 13) 18 [.sl 25 s, .sl 5 s1] H = some (.sl 5 s', H) ∧ IsB s' (frames (ls.map fill) ++ bad) := by
  obtain ⟨s', H', g1, g2⟩ := l18 (n + 10) hs.strip hp h1.strip hc hn hb (n + 12) 0 (H := []) (s5 := .nil) .nil (by omega) (by omega)
  have h : bodyV P tab (vF P tab (n + 12)) (n + 12) 18 ([.sl 25 s, .sl 5 s1].map stripC) [] = some (.sl 5 s', H') := by
    show bodyV P tab (vF P tab (n + 12)) (n + 12) 18 [.sl 25 s.strip, .sl 5 s1.strip] [] = _
    rw [f18_eq]
    exact g1
  exact ⟨s'.strip, lone_E (H := H) rfl (by simp [closed_sl 25 hs, closed_sl 5 h1]) h g2⟩
theorem head2 {s0 : VS} {l : List UInt8} (hs : IsB s0 l) (h2 : 2 ≤ l.length) : ∃ a b : UInt8, hd l = a.toNat * 256 + b.toNat ∧ (∀ (H : VH) {β : Type} (f : Int → Option β), ((ixV 1 s0 0).bind fun p => (ldV (.flat (.int .u8)) H p).bind f) = f (a.toNat : Int)) ∧ (∀ (H : VH) {β : Type} (f : Int → Option β), ((ixV 1 s0 1).bind fun p => (ldV (.flat (.int .u8)) H p).bind f) = f (b.toNat : Int)) := by
  match l, h2 with
  | a :: b :: r, _ =>
    refine ⟨a, b, rfl, fun H β f => ?_, fun H β f => ?_⟩
    · exact hs.rd (i := 0) rfl H f
    · exact hs.rd (i := 1) rfl H f
theorem l19 (n : Nat) : ∀ (m : Nat) {H : VH} {l : List UInt8} {s0 s5 : VS} {es : List (List V)} {out : List (List UInt8)}, IsB s0 l → l.length < m → l.length + out.length < 900000 → Ap H 25 s5 es → PB es out →
    ∃ s' es' H', L19_0 n m s0 s5 H = some (.tup [.sl 25 s', .int .i64 ((pull l).2.1.length : Int), .bool (pull l).2.2], H') ∧ IsE s' es' ∧ PB es' (out ++ (pull l).1) := by
  intro m
  induction m with
  | zero => intros; omega
  | succ m ih =>
    intro H l s0 s5 es out hs hm hl ha hp
    rw [L19_0_eq, hs.len, bs_len, pull_eq]
    by_cases c1 : l.length < 2
    · rw [if_pos c1, decide_eq_false (by omega), cond_false]
      exact ⟨s5, es, H, rfl, ha.isE, by rw [List.append_nil]; exact hp⟩
    rw [if_neg c1, decide_eq_true (by omega), cond_true]
    obtain ⟨a, b, hd1, r0, r1⟩ := head2 hs (by omega)
    rw [r0, r1]
    have ha2 := a.toNat_lt
    have hb2 := b.toNat_lt
    have en : IntKind.wrap .i64 (IntKind.wrap .i64 (256 * IntKind.wrap .i64 (a.toNat : Int)) + IntKind.wrap .i64 (b.toNat : Int)) = ((hd l : Nat) : Int) := by
      rw [i64_nat (n := a.toNat) (by omega), i64_nat (n := b.toNat) (by omega), i64_in (x := 256 * (a.toNat : Int)) (by omega), i64_in (by omega)]; omega
    rw [en]
    have hd2 := hd_lt l
    by_cases c2 : hd l < 1
    · rw [decide_eq_true (by omega), cond_true, if_pos (.inl c2)]
      exact ⟨s5, es, H, rfl, ha.isE, by rw [List.append_nil]; exact hp⟩
    rw [decide_eq_false (by omega), cond_false]
    by_cases c3 : 2048 < hd l
    · rw [decide_eq_true (by omega), cond_true, if_pos (.inr c3)]
      exact ⟨s5, es, H, rfl, ha.isE, by rw [List.append_nil]; exact hp⟩
    rw [decide_eq_false (by omega), cond_false, if_neg (by omega), i64_in (x := ((l.length : Nat) : Int) - 2) (by omega), show (2 + ((hd l : Nat) : Int)) = ((2 + hd l : Nat) : Int) by omega, i64_nat (by omega)]
    by_cases c4 : l.length < 2 + hd l
    · rw [decide_eq_true (by omega), cond_true, if_pos c4]
      exact ⟨s5, es, H, rfl, ha.isE, by rw [List.append_nil]; exact hp⟩
    rw [decide_eq_false (by omega), cond_false, if_neg c4]
    obtain ⟨s2, t1, t2, _⟩ := hs.cut (lo := 2) (hi := 2 + hd l) (by omega) (by rw [bs_len]; omega) (lo' := some ((2 : Nat) : Int)) (hi' := some ((2 + hd l : Nat) : Int)) (mx' := none) (.inl rfl) (.inl rfl) (.inl rfl) H 5 1
    rw [show ((2 : Nat) : Int) = 2 from rfl] at t1
    rw [t1, Option.bind_some]
    rw [bs_take, bs_drop] at t2
    have e : (l.take (2 + hd l)).drop 2 = (l.drop 2).take (hd l) := by rw [List.drop_take]; congr 1; omega
    rw [e] at t2
    rw [if_pos (closed1_B t2)]
    have hpl := hp.len
    obtain ⟨s6, H2, q1, q2, _⟩ := ha.app (x := .fz [[.sl 5 s2.strip]] (.ex 1)) (sz := 1) (by_ := 24) (.fz _ _) (by simp only [bound, List.length_singleton]; omega) (by simp only [bound, List.length_singleton]; omega)
    rw [q1, Option.bind_some]
    obtain ⟨s4, u1, u2, _⟩ := hs.cut (lo := 2 + hd l) (hi := l.length) (by omega) (by rw [bs_len]; omega) (lo' := some ((2 + hd l : Nat) : Int)) (hi' := none) (mx' := none) (.inl rfl) (.inr ⟨rfl, by rw [bs_len]⟩) (.inl rfl) H2 5 1
    rw [u1, Option.bind_some]
    rw [List.take_of_length_le (by rw [bs_len]; exact Nat.le_refl _), bs_drop] at u2
    obtain ⟨s7, es7, H7, v1, v2, v3⟩ := ih u2 (by rw [List.length_drop]; omega) (by simp only [List.length_drop, List.length_append, List.length_singleton]; omega) q2 (hp.app (.cons t2.strip .nil))
    exact ⟨s7, es7, H7, v1, v2, by simpa using v3⟩
theorem e19 (n : Nat) {H : VH} {a : VS} {l : List UInt8} (ha : IsB a l) (hl : l.length < 800000) (hn : l.length < n) :
    ∃ s' es', vF P tab (n + 1) 19 [.sl 5 a] H = some (.tup [.sl 25 s', .int .i64 ((pull l).2.1.length : Int), .bool (pull l).2.2], H) ∧ IsE s' es' ∧ PB es' (pull l).1 := by
  obtain ⟨s', es', H', g1, g2, g3⟩ := l19 n n (H := []) (s5 := .nil) (out := []) ha.strip hn (by simp only [List.length_nil]; omega) .nil .nil
  have h : bodyV P tab (vF P tab n) n 19 ([.sl 5 a].map stripC) [] = some (.tup [.sl 25 s', .int .i64 ((pull l).2.1.length : Int), .bool (pull l).2.2], H') := by
    show bodyV P tab (vF P tab n) n 19 [.sl 5 a.strip] [] = _
    rw [f19_eq]
    exact g1
  have := vF_lone (H := H) (f := 19) rfl (by simp [closed_sl 5 ha]) h (by
    show (closedC (.sl 25 s') && true) = true
    rw [closed_sl 25 g2]; rfl)
  exact ⟨s'.strip, es', this, g2.strip, by simpa using g3⟩
theorem l10 (n : Nat) {H : VH} {s s1 : VS} {es : List (List V)} {ls : List (List UInt8)} {bad : List UInt8} (hs : IsE s es) (hp : PB es ls) (h1 : IsB s1 bad) (hl : ls.length ≤ maxLen) : ∀ (m i : Nat), i ≤ ls.length → ls.length < i + m → (∀ (k : Nat) x, k < i → ls[k]? = some x → x.length ≤ 200) →
    ∃ b, L10_0 n m s s1 (i : Int) H = some (.bool b, H) ∧ (b = true → ls.length ≤ 8 ∧ bad.length ≤ 100 ∧ ∀ x ∈ ls, x.length ≤ 200) := by
  have hm := maxLen_eq
  intro m
  induction m with
  | zero => intros; omega
  | succ m ih =>
    intro i hi1 hi2 h3
    rw [L10_0_eq, hs.len, hp.len]
    by_cases hi : i < ls.length
    · rw [decide_eq_true (by omega), cond_true]
      obtain ⟨x, hx⟩ := get_of hi
      obtain ⟨v, hv, hrd⟩ := rdB hs hp hx
      rw [hrd, hv.len, bs_len]
      by_cases h200 : 200 < x.length
      · rw [decide_eq_true (by omega), cond_true]
        exact ⟨false, rfl, fun h => by cases h⟩
      · rw [decide_eq_false (by omega), cond_false, inc_nat (by omega)]
        refine ih (i + 1) (by omega) (by omega) (fun k z hk hz => ?_)
        rcases Nat.lt_or_ge k i with h4 | h4
        · exact h3 k z h4 hz
        · have : k = i := by omega
          subst this
          rw [hx] at hz; injection hz with hz; subst hz; omega
    · rw [decide_eq_false (by omega), cond_false]
      by_cases h8 : ls.length ≤ 8
      · rw [decide_eq_true (by omega), cond_true, h1.len, bs_len]
        refine ⟨_, rfl, fun h => ⟨h8, by have := of_decide_eq_true h; omega, fun x hx => ?_⟩⟩
        obtain ⟨k, hk⟩ := List.getElem?_of_mem hx
        exact h3 k x (by have := (List.getElem?_eq_some_iff.1 hk).1; omega) hk
      · rw [decide_eq_false (by omega), cond_false]
        exact ⟨false, rfl, fun h => by cases h⟩
theorem e10 (n : Nat) {H : VH} {s s1 : VS} {es : List (List V)} {ls : List (List UInt8)} {bad : List UInt8} (hs : IsE s es) (hp : PB es ls) (h1 : IsB s1 bad) (hl : ls.length ≤ maxLen) (hn : ls.length < n) :
    ∃ b, vF P tab (n + 1) 10 [.sl 25 s, .sl 5 s1] H = some (.bool b, H) ∧ (b = true → ls.length ≤ 8 ∧ bad.length ≤ 100 ∧ ∀ x ∈ ls, x.length ≤ 200) := by
  obtain ⟨b, g1, g2⟩ := l10 n (H := []) hs.strip hp h1.strip hl n 0 (by omega) (by omega) (fun k x hk => by omega)
  refine ⟨b, vF_lone (r := .bool b) (H1 := []) rfl (by simp [closed_sl 25 hs, closed_sl 5 h1]) ?_ rfl, g2⟩
  show bodyV P tab (vF P tab n) n 10 [.sl 25 s.strip, .sl 5 s1.strip] [] = _
  rw [f10_eq]
  exact g1
theorem l14 (n : Nat) {H : VH} {s t : VS} {es ft : List (List V)} {ls lt : List (List UInt8)} (hs : IsE s es) (hp : PB es ls) (ht : IsE t ft) (hq : PB ft lt) (hl : ls.length = lt.length) (hb : ls.length < 1000000) (hx : ∀ x ∈ ls, x.length < n ∧ x.length < 1000000) :
    ∀ (m i : Nat), i ≤ ls.length → ls.length < i + m → L14_0 (n + 1) m s t (i : Int) H = some (.bool (decide (ls.drop i = lt.drop i)), H) := by
  have hm := maxLen_eq
  intro m
  induction m with
  | zero => intros; omega
  | succ m ih =>
    intro i h1 h2
    rw [L14_0_eq, hs.len, hp.len]
    by_cases hi : i < ls.length
    · rw [decide_eq_true (by omega), cond_true]
      obtain ⟨a, ha⟩ := get_of hi
      obtain ⟨b, hb'⟩ := get_of (l := lt) (i := i) (by omega)
      obtain ⟨v, hv, r1⟩ := rdB hs hp ha
      obtain ⟨w, hw, r2⟩ := rdB ht hq hb'
      obtain ⟨x1, x2⟩ := hx a (List.mem_of_getElem? ha)
      rw [r1, r2, callD_bool (e21 n hv hw (by omega) x1), Option.bind_some]
      have e1 : ls.drop i = a :: ls.drop (i + 1) := by rw [List.drop_eq_getElem_cons hi]; rw [List.getElem?_eq_getElem hi] at ha; injection ha with ha; rw [ha]
      have e2 : lt.drop i = b :: lt.drop (i + 1) := by
        have hi2 : i < lt.length := by omega
        rw [List.drop_eq_getElem_cons hi2]; rw [List.getElem?_eq_getElem hi2] at hb'; injection hb' with hb'; rw [hb']
      by_cases hab : a = b
      · subst hab
        simp only [decide_true, Bool.not_true, cond_false]
        rw [inc_nat (by omega), ih (i + 1) (by omega) (by omega), e1, e2]
        simp
      · rw [decide_eq_false hab, Bool.not_false, cond_true, e1, e2, decide_eq_false (by intro h; injection h with h; exact hab h)]
    · rw [decide_eq_false (by omega), cond_false, List.drop_eq_nil_of_le (by omega), List.drop_eq_nil_of_le (by omega)]
      simp
theorem e14 (n : Nat) {H : VH} {s t : VS} {es ft : List (List V)} {ls lt : List (List UInt8)} (hs : IsE s es) (hp : PB es ls) (ht : IsE t ft) (hq : PB ft lt) (hb : ls.length < 1000000) (hx : ∀ x ∈ ls, x.length < n ∧ x.length < 1000000) (hn : ls.length < n) :
    vF P tab (n + 2) 14 [.sl 25 s, .sl 25 t] H = some (.bool (decide (ls = lt)), H) := by
  refine vF_lone (r := .bool (decide (ls = lt))) (H1 := []) rfl (by simp [closed_sl 25 hs, closed_sl 25 ht]) ?_ rfl
  show bodyV P tab (vF P tab (n + 1)) (n + 1) 14 [.sl 25 s.strip, .sl 25 t.strip] [] = _
  rw [f14_eq, hs.strip.len, ht.strip.len, hp.len, hq.len]
  by_cases h : ls.length = lt.length
  · rw [h]
    simp only [bne_self_eq_false, cond_false]
    have := l14 n (H := []) hs.strip hp ht.strip hq h hb hx (n + 1) 0 (by omega) (by omega)
    simpa using this
  · have h1 : (((ls.length : Nat) : Int) != ((lt.length : Nat) : Int)) = true := by simp only [bne_iff_ne, ne_eq]; omega
    rw [h1, cond_true, decide_eq_false (by intro h2; exact h (by rw [h2]))]
theorem e9 (n : Nat) (H : VH) : vF P tab (n + 100) 9 [] H = some (.bool true, H) := by kernel_rfl
theorem c9 (n : Nat) (H : VH) : V.callD (vF P tab (n + 100)) P false (.one (.flat .bool)) 9 [] H = some (true, H) := callD_bool (e9 n H)
end Go.Proofs.Ytaifjlpgggimaaa
