import Derived.Test.YtcnigofmjffamaaDoorB11rb
import Derived.Test.YtcnigofmjffamaaDoorB11n
set_option maxRecDepth 100000
set_option linter.unusedVariables false
set_option linter.unusedSimpArgs false
namespace Go.Proofs.YtcnigofmjffamaaDoor
open Go.Proofs.YtcnigofmjffamaaDoor.Sh Go.Proofs.YtcnigofmjffamaaDoor.Sh.V Go.RowKit
/-! ### An element that is appended -/
theorem opRow (H : VH) (e : TypeId) (cs : List V) (hc : cs.map strip1 = cs) : slOp (H ++ [.row e cs]) e cs.length (.hp H.length 0 1) = some [cs] := by
  have hg : (H ++ [VO.row e cs])[H.length]? = some (.row e cs) := row_new _ _ _
  have hch : chunk cs.length 1 cs = [cs] := by simp [chunk]
  unfold slOp
  cases hh : cs.all closed1 with
  | true =>
    have : slEs (H ++ [.row e cs]) e cs.length (.hp H.length 0 1) = some [cs] := by
      show hpEs _ _ _ _ _ _ = _
      unfold hpEs
      rw [hg]
      simp only [Nat.one_mul, Nat.zero_add, List.drop_zero, List.take_length, hh, hc, hch]
      simp
    rw [this]
  | false =>
    have : slEs (H ++ [.row e cs]) e cs.length (.hp H.length 0 1) = none := by
      show hpEs _ _ _ _ _ _ = _
      unfold hpEs
      rw [hg]
      simp only [Nat.one_mul, Nat.zero_add, List.drop_zero, List.take_length, hh]
      simp
    rw [this]
    simp only [hg, Nat.one_mul, Nat.zero_add, List.drop_zero, List.take_length, hch]
    simp
theorem pushR {H : VH} {e : TypeId} {sz : Nat} {s : VS} {es : List (List V)} (h : Hr H e sz s es) {cs : List V} (hc : cs.map strip1 = cs) (hl : cs.length = sz) (by_ : Nat) (hb : by_ ≤ 1000) (hn : es.length < 1000000) :
    ∃ s' H', appD false (H ++ [.row e cs]) sz by_ e s (.hp H.length 0 1) = some (s', H') ∧ Hr H' e sz s' (es ++ [cs]) ∧ Kp H H' (hps s) ∧ (∀ t ∈ hps s', t ∈ hps s ∨ H.length ≤ t) := by
  have hb1 : (es.length + 1) * by_ ≤ (es.length + 1) * 1000 := Nat.mul_le_mul_left _ hb
  have ka : Kp H (H ++ [VO.row e cs]) [] := Kp.app _ _
  obtain ⟨s', H', a, b, c, d⟩ := (h.keep ka (fun t _ => by simp)).appO (by_ := by_) (x := .hp H.length 0 1) (news := [cs]) rfl (by rw [← hl]; exact opRow H e cs hc) (fun y hy => by rw [List.mem_singleton.1 hy]; exact hl) (by simp only [bound, List.length_singleton]; omega) (by simp only [bound, List.length_singleton]; omega)
  refine ⟨s', H', a, b, ka.trans c (fun x hx _ => by cases hx) (fun x hx _ => hx), fun t ht => (d t ht).imp id (fun h => ?_)⟩
  have := ka.len
  omega
theorem pushF {H0 H : VH} {k : Nat} {T : TypeId} {cs : List V} {f : Nat} {e : TypeId} {s : VS} {es : List (List V)} {v : V} {by_ : Nat} (hk : H0.length ≤ k) (kp : Kp H0 H []) (ob : H[k]? = some (.row T cs)) (hf : f < cs.length) (hT : T ≠ e) (h : Hr H e 1 s es) (fr : ∀ t ∈ hps s, H0.length ≤ t) (hv : strip1 v = v) (hb : by_ ≤ 1000) (hn : es.length < 1000000) :
    ∃ s' H1 H2, appD false (H ++ [.row e [v]]) 1 by_ e s (.hp H.length 0 1) = some (s', H1) ∧ stV H1 (.ob k f) [.sl e s'] = some H2 ∧ Kp H0 H2 [] ∧ H2[k]? = some (.row T (cs.set f (.sl e s'))) ∧ Hr H2 e 1 s' (es ++ [[v]]) ∧ (∀ t ∈ hps s', H0.length ≤ t) ∧ (∀ {e' : TypeId} {sz : Nat} {s2 : VS} {es2 : List (List V)}, e' ≠ e → e' ≠ T → Hr H e' sz s2 es2 → Hr H2 e' sz s2 es2) := by
  have no : ∀ {H : VH} {e : TypeId} {sz : Nat} {s : VS} {es : List (List V)} {T : TypeId} {cs : List V}, H[k]? = some (.row T cs) → T ≠ e → Hr H e sz s es → k ∉ hps s := fun ob hT h hm => by
    obtain ⟨_, cs', hc⟩ := h.lt k hm
    rw [ob] at hc
    injection hc with hc
    injection hc with hc _
    exact hT hc
  have hks := no ob hT h
  obtain ⟨s', H1, a, b, c, d⟩ := pushR h (cs := [v]) (by simp [hv]) rfl by_ hb hn
  have o1 := c.ob ob hks
  have hks' := no o1 hT b
  have kk : Kp H1 (H1.set k (.row T (putAllV cs f [.sl e s']))) [k] := Kp.set _ _ _
  refine ⟨s', H1, _, a, st_row o1 (by simp; omega) rfl, ?_, ?_, b.keep kk (fun t ht hm => ?_), fun t ht => (d t ht).elim (fr t) (fun h => by have := kp.len; omega), ?_⟩
  · exact (kp.trans c (fun x hx _ => hx) (fun x hx hlt => by have := fr x hx; omega)).trans kk (fun x hx _ => hx) (fun x hx hlt => by rw [List.mem_singleton] at hx; omega)
  · rw [List.getElem?_set_self (lt_of_ob o1)]; rfl
  · rw [List.mem_singleton] at hm; subst hm; exact hks' ht
  · intro e' sz s2 es2 h1 h2 hh
    have h3 := hh.keep c (fun t ht hm => hr_no h hh (Ne.symm h1) t ht hm)
    exact h3.keep kk (fun t ht hm => by
      rw [List.mem_singleton] at hm
      subst hm
      exact no o1 (Ne.symm h2) h3 ht)
theorem rem_ex (x : Int) {y : Int} (h : y ≠ 0) : ∃ z, remI x y = some z := by unfold remI; rw [if_neg h]; exact ⟨_, rfl⟩
theorem quo_ex (k : IntKind) (x : Int) {y : Int} (h : y ≠ 0) : ∃ z, quoI k x y = some z := by unfold quoI; rw [if_neg h]; exact ⟨_, rfl⟩
theorem hr_strip {H : VH} {e : TypeId} {sz : Nat} {s : VS} {es : List (List V)} (h : Hr H e sz s es) : s.strip = s := by
  rcases h.2 with ⟨rfl, _⟩ | ⟨j, pre, post, rfl, _⟩ <;> rfl
theorem ss_rep (j : Nat) : ss (List.replicate j [114]) ++ [[.str ⟨#[114]⟩]] = ss (List.replicate (j + 1) [114]) := by
  rw [List.replicate_succ']; simp [ss]
/-! ### The out that is built -/
structure OB (H0 H : VH) (k : Nat) (sr sn : VS) (a : Nat) (ns : List Int) : Prop where
  kp : Kp H0 H []
  ob : H[k]? = some (.row OT [.str ⟨#[110]⟩, .sl 5 .nil, .sl 9 sr, .sl 3 sn])
  r : Hr H 9 1 sr (ss (List.replicate a [114]))
  n : Hr H 3 1 sn (ns.map i1)
  fr : ∀ t ∈ hps sr, H0.length ≤ t
  fn : ∀ t ∈ hps sn, H0.length ≤ t
theorem l4r (n m0 : Nat) {c0 c1 c2 c3 k9 k : Nat} {i : Int} {H0 : VH} (hk : H0.length ≤ k) {Q : VRes → Prop} (hQ : ∀ H sr, OB H0 H k sr .nil (c1 % 20) [] → Q (L4_3 n m0 n c0 c1 c2 c3 k9 i k 0 H)) : ∀ (m j : Nat) {H : VH} {sr : VS}, OB H0 H k sr .nil j [] → j ≤ c1 % 20 → c1 % 20 < j + m → Q (L4_1 n m0 m c0 c1 c2 c3 k9 i k (j : Int) H) := by
  intro m
  induction m with
  | zero => intros; omega
  | succ m ih =>
    intro j H sr h hj hm
    rw [L4_1_eq, show (20 : Int) = ((20 : Nat) : Int) from rfl, remI_nat (by decide), Option.bind_some, i64_nat (by omega)]
    by_cases c : j < c1 % 20
    · rw [decide_eq_true (by omega), cond_true]
      have l2 : ldV (.flat (.slice 9)) H (.ob k 2) = some sr := by rw [ld_row h.ob]; exact fd_sl 9 sr
      rw [l2, Option.bind_some]
      obtain ⟨s', H1, H2, b1, b2, b3, b4, b5, b6, b7⟩ := pushF (f := 2) (v := .str ⟨#[114]⟩) (by_ := 16) hk h.kp h.ob (by simp) (by decide) h.r h.fr rfl (by omega) (by rw [ss_len]; simp; omega)
      rw [b1, Option.bind_some]
      simp only
      rw [b2, Option.bind_some, inc_nat (by omega)]
      exact ih (j + 1) ⟨b3, b4, by rw [← ss_rep]; exact b5, b7 (by decide) (by decide) h.n, b6, h.fn⟩ (by omega) (by omega)
    · rw [decide_eq_false (by omega), cond_false]
      have : j = c1 % 20 := by omega
      subst this
      exact hQ H sr h
noncomputable def fin4 (n m0 : Nat) (s0 s1 s2 s3 : Int) (s9 : Nat) (s10 : Int) (s11 : Nat) (h : VH) : VRes :=
  ((ldV (.flat (.slice 34)) h (.ob s9 5)).bind fun x12 =>
    ((ldV (.agg [.str, .slice 5, .slice 9, .slice 3]) h (.ob s11 0)).bind fun x13 =>
      ((appD false (h ++ [.row 34 [.str x13.1, .sl 5 x13.2.1, .sl 9 x13.2.2.1, .sl 3 x13.2.2.2.1]]) 4 88 34 x12 (.hp h.length 0 1)).bind fun r14 =>
        ((stV r14.2 (.ob s9 5) [.sl 34 r14.1]).bind fun h15 =>
          (L4_0 n m0 s0 s1 s2 s3 s9 (IntKind.wrap .i64 (s10 + 1)) h15)))))
theorem l4n (n m0 : Nat) {c0 c1 c2 c3 k9 k : Nat} {i : Nat} {H0 : VH} (hk : H0.length ≤ k) {a : Nat} {Q : VRes → Prop} (hQ : ∀ H sr sn ns, OB H0 H k sr sn a ns → ns.length ≤ 5 → Q (fin4 n m0 c0 c1 c2 c3 k9 i k H)) : ∀ (m j : Nat) {H : VH} {sr sn : VS} {ns : List Int}, OB H0 H k sr sn a ns → ns.length = j → j ≤ c2 % 6 → c2 % 6 < j + m → Q (L4_3 n m0 m c0 c1 c2 c3 k9 i k (j : Int) H) := by
  intro m
  induction m with
  | zero => intros; omega
  | succ m ih =>
    intro j H sr sn ns h hl hj hm
    rw [L4_3_eq, show (6 : Int) = ((6 : Nat) : Int) from rfl, remI_nat (by decide), Option.bind_some, i64_nat (by omega)]
    by_cases c : j < c2 % 6
    · rw [decide_eq_true (by omega), cond_true]
      by_cases hi : 0 < i
      · have hd : decide ((i : Int) > 0) = true := decide_eq_true (by omega)
        rw [hd, cond_true]
        have l3 : ∀ {H : VH} {c0 c1 c2 : V} {s : VS}, H[k]? = some (.row OT [c0, c1, c2, .sl 3 s]) → ldV (.flat (.slice 3)) H (.ob k 3) = some s := fun h => by rw [ld_row h]; exact fd_sl 3 _
        rw [l3 h.ob, Option.bind_some]
        obtain ⟨x3, e3⟩ := rem_ex (c3 : Int) (y := 3) (by decide)
        rw [e3, Option.bind_some]
        obtain ⟨x4, e4⟩ := quo_ex .i64 (IntKind.wrap .i64 x3) (y := 2) (by decide)
        rw [e4, Option.bind_some]
        obtain ⟨x5, e5⟩ := rem_ex (IntKind.wrap .i64 ((i : Int) + (IntKind.wrap .i64 (x4 * (j : Int))))) (y := 256) (by decide)
        rw [e5, Option.bind_some]
        obtain ⟨s', H1, H2, b1, b2, b3, b4, b5, b6, b7⟩ := pushF (f := 3) (v := .int .i64 x5) (by_ := 8) hk h.kp h.ob (by simp) (by decide) h.n h.fn rfl (by omega) (by rw [List.length_map]; omega)
        rw [b1, Option.bind_some]
        simp only
        rw [b2, Option.bind_some, Option.bind_some]
        have b5 : Hr H2 3 1 s' ((ns ++ [x5]).map i1) := by rw [List.map_append]; exact b5
        have b4 : H2[k]? = some (.row OT [.str ⟨#[110]⟩, .sl 5 .nil, .sl 9 sr, .sl 3 s']) := b4
        have hr2 := b7 (by decide) (by decide) h.r
        cases hz : (x3 == 0) with
        | false =>
          rw [cond_false, inc_nat (by omega)]
          exact ih (j + 1) ⟨b3, b4, hr2, b5, h.fr, b6⟩ (by simp; omega) (by omega) (by omega)
        | true =>
          rw [cond_true, l3 b4, Option.bind_some]
          obtain ⟨H3, g1, g2, g3, g4⟩ := Hr.set b5 (i := j) (by simp; omega) (z := [.int .i64 (IntKind.wrap .i64 ((i : Int) - 1))]) rfl rfl (fun h11 => L4_3 n m0 m c0 c1 c2 c3 k9 i k (IntKind.wrap .i64 ((j : Int) + 1)) h11)
          rw [g1, inc_nat (by omega)]
          have hkn : k ∉ hps s' := fun hm => by
            obtain ⟨_, cs', hc⟩ := b5.lt k hm
            rw [b4] at hc
            injection hc with hc
            injection hc with hc _
            revert hc; decide
          refine ih (j + 1) (ns := (ns ++ [x5]).set j (IntKind.wrap .i64 ((i : Int) - 1))) ⟨b3.trans g3 (fun x hx _ => hx) (fun x hx hlt => by have := b6 x hx; omega), g3.ob b4 hkn, hr2.keep g3 (fun t ht hm => hr_no b5 hr2 (by decide) t ht hm), ?_, h.fr, b6⟩ (by simp; omega) (by omega) (by omega)
          rw [List.map_set]
          exact g2
      · have hd : decide ((i : Int) > 0) = false := decide_eq_false (by omega)
        rw [hd, cond_false]
        exact hQ H sr sn ns h (by omega)
    · rw [decide_eq_false (by omega), cond_false]
      exact hQ H sr sn ns h (by omega)
/-! ### The request that is built -/
structure ST (H : VH) (k9 : Nat) (so : VS) (es : List (List V)) : Prop where
  ob : H[k9]? = some (.row QT [.int .u8 7, .str ⟨#[]⟩, .str ⟨#[]⟩, .sl 5 .nil, .sl 9 .nil, .sl 34 so])
  o : Hr H 34 4 so es
  e : ∀ y ∈ es, ∃ sr sn a ns, OO H y sr sn a ns
theorem OO.kp {H H' : VH} {X : List Nat} {y : List V} {sr sn : VS} {a : Nat} {ns : List Int} (h : OO H y sr sn a ns) (k : Kp H H' X) (hx : ∀ t ∈ X, ∀ cs, H[t]? ≠ some (.row 9 cs) ∧ H[t]? ≠ some (.row 3 cs)) : OO H' y sr sn a ns := by
  refine ⟨h.y, h.c, h.r.keep k (fun t ht hm => ?_), h.n.keep k (fun t ht hm => ?_), h.l⟩
  · obtain ⟨_, cs, hc⟩ := h.r.lt t ht
    exact (hx t hm cs).1 hc
  · obtain ⟨_, cs, hc⟩ := h.n.lt t ht
    exact (hx t hm cs).2 hc
theorem ST.kp {H H' : VH} {k9 : Nat} {so : VS} {es : List (List V)} (h : ST H k9 so es) (k : Kp H H' []) : ST H' k9 so es :=
  ⟨k.ob h.ob (by simp), h.o.keep k (fun t _ => by simp), fun y hy => by
    obtain ⟨sr, sn, a, ns, h⟩ := h.e y hy
    exact ⟨sr, sn, a, ns, h.rx (kp_rx k)⟩⟩
theorem fin4_eq (n m0 : Nat) {s0 s1 s2 s3 : Int} {k9 k i : Nat} {H0 H : VH} {so sr sn : VS} {es : List (List V)} {a : Nat} {ns : List Int} (hs : ST H0 k9 so es) (hi : es.length = i) (hi6 : i ≤ 6) (ha : a ≤ 19) (h : OB H0 H k sr sn a ns) (hns : ns.length ≤ 5) :
    ∃ so' H2 es', fin4 n m0 s0 s1 s2 s3 k9 i k H = L4_0 n m0 s0 s1 s2 s3 k9 ((i + 1 : Nat) : Int) H2 ∧ ST H2 k9 so' es' ∧ es'.length = i + 1 := by
  have hst := hs.kp h.kp
  unfold fin4
  have l5 : ldV (.flat (.slice 34)) H (.ob k9 5) = some so := by rw [ld_row hst.ob]; exact fd_sl 34 so
  have lo : ldV (.agg [.str, .slice 5, .slice 9, .slice 3]) H (.ob k 0) = some (⟨#[110]⟩, .nil, sr, sn, ()) := by
    simp only [ldV, rowV_of h.ob, Option.bind_some]
    have : takeN 0 [V.FT.str, V.FT.slice 5, V.FT.slice 9, V.FT.slice 3].length [V.str ⟨#[110]⟩, .sl 5 .nil, .sl 9 sr, .sl 3 sn] = some [.str ⟨#[110]⟩, .sl 5 .nil, .sl 9 sr, .sl 3 sn] := rfl
    rw [this, Option.bind_some]
    simp only [V.decs, fd_str, fd_sl, Option.bind_some, Option.map_some]
  rw [l5, Option.bind_some, lo, Option.bind_some]
  simp only
  obtain ⟨so', H1, b1, b2, b3, b4⟩ := pushR hst.o (cs := [.str ⟨#[110]⟩, .sl 5 .nil, .sl 9 sr, .sl 3 sn]) (by
    show [V.str ⟨#[110]⟩, .sl 5 VS.nil.strip, .sl 9 sr.strip, .sl 3 sn.strip] = _
    rw [hr_strip h.r, hr_strip h.n]; rfl) rfl 88 (by omega) (by omega)
  rw [b1, Option.bind_some]
  simp only
  have no : ∀ {H : VH} {e : TypeId} {sz : Nat} {s : VS} {es : List (List V)} {T : TypeId} {cs : List V}, H[k9]? = some (.row T cs) → T ≠ e → Hr H e sz s es → k9 ∉ hps s := fun ob hT h hm => by
    obtain ⟨_, cs', hc⟩ := h.lt k9 hm
    rw [ob] at hc
    injection hc with hc
    injection hc with hc _
    exact hT hc
  have o1 := b3.ob hst.ob (no hst.ob (by decide) hst.o)
  have hk1 := no o1 (by decide) b2
  have kk : Kp H1 (H1.set k9 (.row QT (putAllV [.int .u8 7, .str ⟨#[]⟩, .str ⟨#[]⟩, .sl 5 .nil, .sl 9 .nil, .sl 34 so] 5 [.sl 34 so']))) [k9] := Kp.set _ _ _
  rw [st_row o1 (by simp) rfl, Option.bind_some, inc_nat (by omega)]
  have t34 : ∀ t ∈ hps so, ∀ cs, H[t]? ≠ some (.row 9 cs) ∧ H[t]? ≠ some (.row 3 cs) := fun t ht cs => by
    obtain ⟨_, cs', hc⟩ := hst.o.lt t ht
    rw [hc]
    exact ⟨fun h => (by injection h with h; injection h with h _; revert h; decide), fun h => (by injection h with h; injection h with h _; revert h; decide)⟩
  have tk : ∀ t ∈ [k9], ∀ cs, H1[t]? ≠ some (.row 9 cs) ∧ H1[t]? ≠ some (.row 3 cs) := fun t ht cs => by
    rw [List.mem_singleton] at ht
    subst ht
    rw [o1]
    exact ⟨fun h => (by injection h with h; injection h with h _; revert h; decide), fun h => (by injection h with h; injection h with h _; revert h; decide)⟩
  refine ⟨so', _, es ++ [[.str ⟨#[110]⟩, .sl 5 .nil, .sl 9 sr, .sl 3 sn]], rfl, ⟨?_, b2.keep kk (fun t ht hm => ?_), fun y hy => ?_⟩, by simp [hi]⟩
  · rw [List.getElem?_set_self (lt_of_ob o1)]; rfl
  · rw [List.mem_singleton] at hm; subst hm; exact hk1 ht
  · rcases List.mem_append.1 hy with hy | hy
    · obtain ⟨sr, sn, a, ns, g⟩ := hst.e y hy
      exact ⟨sr, sn, a, ns, (g.kp b3 t34).kp kk tk⟩
    · rw [List.mem_singleton] at hy
      have g : OO H y sr sn a ns := ⟨hy, ha, h.r, h.n, hns⟩
      exact ⟨sr, sn, a, ns, (g.kp b3 t34).kp kk tk⟩
end Go.Proofs.YtcnigofmjffamaaDoor
