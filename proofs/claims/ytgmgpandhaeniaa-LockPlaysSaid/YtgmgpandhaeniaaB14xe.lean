import Derived.Test.YtgmgpandhaeniaaB14xd
set_option maxRecDepth 100000
set_option linter.unusedVariables false
set_option linter.unusedSimpArgs false
namespace Go.Proofs.Ytgmgpandhaeniaa
open Go.Proofs.Ytgmgpandhaeniaa.Sh Go.Proofs.Ytgmgpandhaeniaa.Sh.V Go.RowKit Go.Proofs.Ytgmgpandhaeniaa.Sh.Lk
/-! ### Ahead -/
/-- A list that is new. -/
structure NL (H0 H : VH) (s : VS) (l : List Int) : Prop where
  k : Kp H0 H []
  r : Hr H 3 1 s (ints l)
  f : ∀ a ∈ hps s, H0.length ≤ a
  z : s = .nil ∨ l ≠ []
theorem NL.push {H0 H : VH} {s : VS} {l : List Int} (h : NL H0 H s l) (x : Int) (hl : l.length < 5000) : ∃ s' H', appD false (H ++ [.row 3 [.int .i64 x]]) 1 8 3 s (.hp H.length 0 1) = some (s', H') ∧ NL H0 H' s' (l ++ [x]) := by
  have k2 := Kp.app H [VO.row 3 [.int .i64 x]]
  have hone : slEs (H ++ [VO.row 3 [.int .i64 x]]) 3 1 (.hp H.length 0 1) = some [[.int .i64 x]] := new_one H 3 rfl rfl
  obtain ⟨s', H3, a1, a2, a3, a4⟩ := (h.r.keep k2 (fun t _ => by simp)).app (by_ := 8) (x := .hp H.length 0 1) (news := ints [x]) rfl hone (fun y hy => by rw [List.mem_singleton.1 hy]; rfl) (by rw [ints_len]; simp [ints, bound]; omega) (by rw [ints_len]; simp [ints, bound]; omega)
  rw [← ints_app] at a2
  refine ⟨s', H3, a1, (h.k.trans k2 (Z := []) (fun x hx _ => hx) (fun x hx _ => hx)).trans a3 (fun x hx _ => hx) (fun x hx hlt => by have := h.f x hx; omega), a2, fun a ha => ?_, .inr (by simp)⟩
  rcases a4 a ha with h1 | h1
  · exact h.f a h1
  · have := h.k.len
    have := k2.len
    omega
theorem l21a (n : Nat) {o : Int} {p b : Nat} {sh sq : VS} {hs : List Int} {only xo : Bool} {key : ByteArray} {H0 : VH} (h1 : Hr H0 3 1 sh (ints hs)) (hb : H0[b]? = some (.row LTY [.sl 3 sh, .bool xo, .sl WTY sq])) (hp : H0[p]? = some (.row NTY [.str key, .bool only])) (hl : hs.length < 2000) :
    ∀ (m c : Nat) {H : VH} {s8 : VS} {acc : List Int}, NL H0 H s8 acc → acc.length ≤ c → c ≤ hs.length → hs.length < c + m →
    ∃ H' s8', L21_0 n m o p (.ob b 0) s8 sh (hs.length : Int) (c : Int) H = L21_1 n n o s8' sq ((VS.len sq : Nat) : Int) 0 H' ∧ NL H0 H' s8' (acc ++ (hs.drop c).filter (fun h => h != o && (only || xo))) := by
  intro m
  induction m with
  | zero => intros; omega
  | succ m ih =>
    intro c H s8 acc hN hacc hc hm
    rw [L21_0_eq]
    have k0 := hN.k
    have hb' := k0.ob hb (by simp)
    by_cases hcl : c < hs.length
    · obtain ⟨y, hy⟩ := get_of hcl
      have hdt : decide ((c : Int) < (hs.length : Int)) = true := decide_eq_true (by omega)
      rw [hdt, cond_true, (h1.keep k0 (fun t _ => by simp)).rd1 (τ := .int .i64) (ints_get hy) (fd_int .i64 y), drop_of hy, List.filter_cons, inc_nat (by omega)]
      simp only [nn_ob, atO_ob, Option.bind_some, Nat.zero_add]
      have lo : ldV (.flat .bool) H (.ob p 1) = some only := by rw [ld_row (k0.ob hp (by simp))]; rfl
      have go := fun {H1 : VH} {s1 : VS} {acc1 : List Int} (h : NL H0 H1 s1 acc1) (hl : acc1.length ≤ c + 1) => ih (c + 1) h hl (by omega) (by omega)
      by_cases hyo : y = o
      · have e1 : ((y : Int) != o) = false := by simp [hyo]
        rw [e1, cond_false, Bool.false_and]
        simp only [Bool.false_eq_true, if_false]
        exact go hN (by omega)
      · have e1 : ((y : Int) != o) = true := by simpa using hyo
        rw [e1, cond_true, lo, Option.bind_some, Bool.true_and]
        obtain ⟨s', H', g1, g2⟩ := hN.push y (by omega)
        have take : ∃ H2 s2, ((appD false (H ++ [.row 3 [.int .i64 y]]) 1 8 3 s8 (.hp H.length 0 1)).bind fun r4 => (L21_0 n m o p (.ob b 0) r4.1 sh (hs.length : Int) ((c + 1 : Nat) : Int) r4.2)) = L21_1 n n o s2 sq ((VS.len sq : Nat) : Int) 0 H2 ∧ NL H0 H2 s2 (acc ++ y :: (hs.drop (c + 1)).filter (fun h => h != o && (only || xo))) := by
          rw [g1, Option.bind_some]
          obtain ⟨H2, s2, q1, q2⟩ := go g2 (by simp; omega)
          rw [List.append_assoc] at q2
          exact ⟨H2, s2, q1, q2⟩
        cases hon : only with
        | true =>
          rw [hon] at take
          rw [cond_true]
          simp only [Bool.true_or, if_true] at take ⊢
          exact take
        | false =>
          rw [hon] at take go
          rw [cond_false, ld_l1 hb', Option.bind_some]
          cases hxo : xo with
          | true =>
            rw [hxo] at take
            rw [cond_true]
            exact take
          | false =>
            rw [hxo] at go
            rw [cond_false]
            exact go hN (by omega)
    · have : c = hs.length := by omega
      subst this
      have hdt : decide ((hs.length : Int) < (hs.length : Int)) = false := decide_eq_false (by omega)
      rw [hdt, cond_false, List.drop_eq_nil_of_le (Nat.le_refl _)]
      simp only [nn_ob, atO_ob, Option.bind_some, Nat.zero_add]
      rw [ld_l2 hb', Option.bind_some]
      exact ⟨H, s8, rfl, by rw [List.filter_nil, List.append_nil]; exact hN⟩
theorem fin21 (n : Nat) (hn : 3000 ≤ n) {H0 H : VH} {s : VS} {l : List Int} (h : NL H0 H s l) (hl : l.length < 1900) :
    ∃ s' H', ((callD (vF P tab (n + 1)) P false (.tup []) 36 [.sl 3 s] H).bind fun r9 =>
      ((callD (vF P tab (n + 1)) P false (.one (.flat (.slice 3))) 37 [.sl 3 s] r9.2).bind fun r10 =>
        (some (V.sl 3 r10.1, r10.2)))) = some (.sl 3 s', H') ∧ Hr H' 3 1 s' (ints (dedupI (sortI l))) ∧ Kp H0 H' [] := by
  obtain ⟨H1, c1, c2, c3, c4⟩ := h.r.sort (e1 := 3) (by omega) h.z
  have hc : V.callD (vF P tab (n + 1)) P false (.tup []) 36 [.sl 3 s] H = some ((), H1) := by
    refine callD_unit ?_
    rw [vF_body rfl]
    exact c1
  rw [hc, Option.bind_some]
  simp only
  obtain ⟨s', H', d1, d2, d3, d4⟩ := p37 n hn c2 (by rw [sortI_len]; omega)
  rw [d1, Option.bind_some]
  refine ⟨s', H', rfl, d2, (h.k.trans c3 (Z := []) (fun x hx _ => hx) (fun x hx hlt => by have := h.f x hx; omega)).trans d3 (fun x hx _ => hx) (fun x hx hlt => by have := h.f x hx; omega)⟩
theorem l21b (n : Nat) (hn : 3000 ≤ n) {o : Int} {sq : VS} {q : List Wt} {H0 : VH} (h1 : Hr H0 WTY 3 sq (wts q)) (hq2 : q.length < 1900) :
    ∀ (m c : Nat) {H : VH} {s8 : VS} {acc : List Int}, NL H0 H s8 acc → acc.length + (q.length - c) < 1900 → c ≤ q.length → q.length < c + m →
    ∃ s' H', L21_1 (n + 1) m o s8 sq (q.length : Int) (c : Int) H = some (.sl 3 s', H') ∧ Hr H' 3 1 s' (ints (dedupI (sortI (acc ++ aheadQ o (q.drop c))))) ∧ Kp H0 H' [] := by
  intro m
  induction m with
  | zero => intros; omega
  | succ m ih =>
    intro c H s8 acc hN hacc hc hm
    rw [L21_1_eq]
    by_cases hcl : c < q.length
    · obtain ⟨w, hw⟩ := get_of hcl
      have hdt : decide ((c : Int) < (q.length : Int)) = true := decide_eq_true (by omega)
      rw [hdt, cond_true, rd_w (h1.keep hN.k (fun t _ => by simp)) hw, drop_of hw]
      simp only
      obtain ⟨H1, b1, b2, b3, b4⟩ := new_w H w
      rw [b1, Option.bind_some, ld_w0 b2, Option.bind_some]
      have hN1 : NL H0 H1 s8 acc := ⟨hN.k.trans b3 (fun x hx _ => hx) (fun x hx _ => hx), hN.r.keep b3 (fun t _ => by simp), hN.f, hN.z⟩
      unfold aheadQ
      by_cases he : w.o = o
      · have e1 : ((w.o : Int) == o) = true := by simpa using he
        rw [e1, cond_true, decide_eq_true he, cond_true, List.append_nil]
        exact fin21 n hn hN1 (by omega)
      · have e1 : ((w.o : Int) == o) = false := by simpa using he
        rw [e1, cond_false, decide_eq_false he, cond_false, Option.bind_some]
        obtain ⟨s', H', g1, g2⟩ := hN1.push w.o (by omega)
        rw [g1, Option.bind_some]
        simp only
        rw [inc_nat (by omega)]
        obtain ⟨s2, H2, q1, q2⟩ := ih (c + 1) g2 (by simp; omega) (by omega) (by omega)
        rw [List.append_assoc] at q2
        exact ⟨s2, H2, q1, q2⟩
    · have : c = q.length := by omega
      subst this
      have hdt : decide ((q.length : Int) < (q.length : Int)) = false := decide_eq_false (by omega)
      rw [hdt, cond_false, List.drop_eq_nil_of_le (Nat.le_refl _)]
      unfold aheadQ
      rw [List.append_nil]
      exact fin21 n hn hN (by omega)
theorem p21 (n : Nat) (hn : 3000 ≤ n) {H : VH} {k : Nat} {F : List Nat} {t : Tb} (h : TO H k F t) (o : Int) (sz : ∀ key, (lkOf t key).hs.length + (lkOf t key).q.length < 1900) :
    ∃ s' H', V.callD (vF P tab (n + 3)) P false (.one (.flat (.slice 3))) 21 [.ptr (.ob k 0), .int .i64 o] H = some (s', H') ∧ Hr H' 3 1 s' (ints (aheadP t o)) ∧ Kp H H' [] := by
  suffices hb : ∃ s' H', bodyV P tab (vF P tab (n + 2)) (n + 2) 21 [.ptr (.ob k 0), .int .i64 o] H = some (.sl 3 s', H') ∧ Hr H' 3 1 s' (ints (aheadP t o)) ∧ Kp H H' [] by
    obtain ⟨s', H', h1, h2⟩ := hb
    exact ⟨s', H', callD_sl (by rw [vF_body rfl]; exact h1), h2⟩
  rw [f21_eq]
  obtain ⟨H1, a1, a2⟩ := p20 n hn h o (fun key => by have := sz key; omega)
  rw [a1, Option.bind_some]
  simp only
  obtain ⟨H2, e2⟩ : ∃ H2 : VH, H2 = H1 ++ [VO.row NTY [.str ⟨#[]⟩, .bool false]] := ⟨_, rfl⟩
  have hp2 : H2[H1.length]? = some (.row NTY [.str ⟨#[]⟩, .bool false]) := by rw [e2]; exact app_last _ _
  have k2 : Kp H1 H2 [] := by rw [e2]; exact Kp.app _ _
  rw [← e2]
  obtain ⟨H3, b1, b2, b3, b4⟩ := stN hp2 (wr (waitsP t o)).1 (wr (waitsP t o)).2.1
  rw [b1, Option.bind_some]
  have k3 : Kp H H3 [] := (a2.trans k2 (Z := []) (fun x hx _ => hx) (fun x hx _ => hx)).trans b3 (fun x hx _ => hx) (fun x hx hlt => by simp at hx; have := a2.len; omega)
  have h3 := h.kn k3
  unfold aheadP
  cases hw : waitsP t o with
  | none =>
    rw [hw] at b2
    simp only [wr, Bool.not_false, cond_true]
    exact ⟨.nil, H3, rfl, Hr.nil _ _ _, k3⟩
  | some kw =>
    obtain ⟨kk, only⟩ := kw
    rw [hw] at b2
    simp only [wr, Bool.not_true, cond_false, nn_ob, atO_ob, Option.bind_some, Nat.zero_add] at b2 ⊢
    have hg : getM t.m kk ≠ none := by
      intro hn
      unfold waitsP at hw
      cases hws : getM t.ws o with
      | none => rw [hws] at hw; cases hw
      | some k2 =>
        rw [hws] at hw
        simp only [Option.map_eq_some_iff] at hw
        obtain ⟨w, hw1, hw2⟩ := hw
        injection hw2 with hw2 _
        subst hw2
        rw [lkOf_none hn] at hw1
        cases hw1
    obtain ⟨i, j, g1, g2, g3⟩ := h3.find kk
    rcases g3 with ⟨q1, _⟩ | ⟨l1, l2, b, Fb, x, q1, q2, q3, q4⟩
    · exact absurd q1 hg
    have ls : ldV (.flat .str) H3 (.ob H1.length 0) = some ⟨kk.toArray⟩ := by rw [ld_row b2]; rfl
    rw [ld_t0 g1, Option.bind_some, ls, Option.bind_some, look_l q2.hi, Option.bind_some, getM_mid (by rw [keys_kb]; exact q2.nk)]
    simp only [nn_ob, atO_ob, Option.bind_some, Nat.zero_add]
    obtain ⟨s, q, hb, hs, hq, hF⟩ := q2.lo
    have hsz := sz kk
    rw [lkOf_some q1] at hsz ⊢
    rw [ld_l0 hb, Option.bind_some, hs.len, ints_len]
    obtain ⟨H4, s8, c1, c2⟩ := l21a (n + 2) (o := o) hs hb b2 (by omega) (n + 2) 0 (H := H3) (s8 := .nil) (acc := []) ⟨Kp.refl _ _, Hr.nil _ _ _, fun a ha => (by cases ha), .inl rfl⟩ (Nat.le_refl _) (Nat.zero_le _) (by omega)
    rw [show ((0 : Nat) : Int) = 0 from rfl] at c1
    rw [c1, hq.len, wts_len]
    rw [List.nil_append, List.drop_zero] at c2
    have hfl := fl_len (fun h => h != o && (only || x.only)) x.hs
    obtain ⟨s', H', d1, d2, d3⟩ := l21b (n + 1) (by omega) (o := o) hq (by omega) (n + 2) 0 c2 (by omega) (Nat.zero_le _) (by omega)
    rw [show ((0 : Nat) : Int) = 0 from rfl] at d1
    rw [List.drop_zero] at d2
    exact ⟨s', H', d1, d2, k3.trans d3 (fun x hx _ => hx) (fun x hx _ => hx)⟩
/-! ### Two lists of numbers are alike -/
inductive RdI (H : VH) : VS → List Int → Prop
  | e {s : VS} {l : List Int} : IsE s (ints l) → RdI H s l
  | r {s : VS} {l : List Int} : Hr H 3 1 s (ints l) → RdI H s l
theorem RdI.len {H : VH} {s : VS} {l : List Int} (h : RdI H s l) : s.len = l.length := by
  cases h with
  | e h => rw [h.len, ints_len]
  | r h => rw [h.len, ints_len]
theorem RdI.rd {H : VH} {s : VS} {l : List Int} (h : RdI H s l) {i : Nat} {x : Int} (hx : l[i]? = some x) {β : Type} (f : Int → Option β) : ((ixV 1 s (i : Int)).bind fun p => (ldV (.flat (.int .i64)) H p).bind f) = f x := by
  cases h with
  | e h => exact isI_rd h hx H f
  | r h => exact h.rd1 (τ := .int .i64) (ints_get hx) (fd_int .i64 x) f
theorem l15 (n : Nat) {H : VH} {s t : VS} {a b : List Int} (hs : RdI H s a) (ht : RdI H t b) (hl : a.length = b.length) (hb : a.length < 100000) : ∀ (m i : Nat), i ≤ a.length → a.length < i + m → L15_0 n m s t (i : Int) H = some (.bool (decide (a.drop i = b.drop i)), H) := by
  intro m
  induction m with
  | zero => intros; omega
  | succ m ih =>
    intro i h1 h2
    rw [L15_0_eq, hs.len]
    by_cases hi : i < a.length
    · obtain ⟨x, hx⟩ := get_of hi
      obtain ⟨y, hy⟩ : ∃ y, b[i]? = some y := get_of (by omega)
      have hdt : decide ((i : Int) < (a.length : Int)) = true := decide_eq_true (by omega)
      rw [hdt, cond_true, hs.rd hx, ht.rd hy, inc_nat (by omega), drop_of hx, drop_of hy]
      by_cases hxy : x = y
      · subst hxy
        have : ((x : Int) != x) = false := by simp
        rw [this, cond_false, ih (i + 1) (by omega) (by omega)]
        have : decide (x :: a.drop (i + 1) = x :: b.drop (i + 1)) = decide (a.drop (i + 1) = b.drop (i + 1)) := decide_eq_decide.2 (by simp)
        rw [this]
      · have : ((x : Int) != y) = true := by simpa using hxy
        rw [this, cond_true]
        have : decide (x :: a.drop (i + 1) = y :: b.drop (i + 1)) = false := decide_eq_false (fun h => hxy (List.cons.inj h).1)
        rw [this]
    · have hdt : decide ((i : Int) < (a.length : Int)) = false := decide_eq_false (by omega)
      rw [hdt, cond_false, List.drop_eq_nil_of_le (by omega), List.drop_eq_nil_of_le (by omega)]
      rfl
theorem b15 (n : Nat) {H : VH} {s t : VS} {a b : List Int} (hs : RdI H s a) (ht : RdI H t b) (hb : a.length < 100000) (hn : a.length < n) : bodyV P tab (vF P tab n) n 15 [.sl 3 s, .sl 3 t] H = some (.bool (decide (a = b)), H) := by
  rw [f15_eq, hs.len, ht.len]
  by_cases hl : a.length = b.length
  · have : ((((a.length : Nat) : Int)) != ((b.length : Nat) : Int)) = false := by rw [hl]; simp
    rw [this, cond_false]
    have := l15 n hs ht hl hb n 0 (Nat.zero_le _) (by omega)
    simpa using this
  · have : ((((a.length : Nat) : Int)) != ((b.length : Nat) : Int)) = true := by
      have : ((a.length : Nat) : Int) ≠ (b.length : Int) := by omega
      simpa using this
    rw [this, cond_true]
    have : decide (a = b) = false := decide_eq_false (fun h => hl (by rw [h]))
    rw [this]
theorem RdI.strip {H : VH} {s : VS} {l : List Int} (h : RdI H s l) (hc : closedC (.sl 3 s) = true) : RdI [] s.strip l := by
  cases h with
  | e h => exact .e h.strip
  | r h =>
    rcases h.2 with ⟨rfl, h2⟩ | ⟨j, pre, post, rfl, _⟩
    · exact .e (by rw [h2]; exact .nil)
    · cases hc
/-- Ints: at lists that stay, or in objects. -/
theorem p15 (n : Nat) {H : VH} {s t : VS} {a b : List Int} (hs : RdI H s a) (ht : RdI H t b) (hb : a.length < 100000) (hn : a.length < n) : V.callD (vF P tab (n + 1)) P false (.one (.flat .bool)) 15 [.sl 3 s, .sl 3 t] H = some (decide (a = b), H) := by
  refine callD_bool ?_
  by_cases hc : ([V.sl 3 s, .sl 3 t].all closedC) = true
  · have hc' := hc
    simp only [List.all_cons, List.all_nil, Bool.and_true, Bool.and_eq_true] at hc'
    refine vF_lone (r := .bool (decide (a = b))) (H1 := []) rfl hc ?_ rfl
    exact b15 n (hs.strip hc'.1) (ht.strip hc'.2) hb hn
  · have hf : ([V.sl 3 s, .sl 3 t].all closedC) = false := by simpa using hc
    show V.alone true (tab.pur 15) [V.sl 3 s, .sl 3 t] H (bodyV P tab (vF P tab n) n 15) = _
    unfold V.alone
    rw [hf, show tab.pur 15 = false from rfl]
    exact b15 n hs ht hb hn
end Go.Proofs.Ytgmgpandhaeniaa
