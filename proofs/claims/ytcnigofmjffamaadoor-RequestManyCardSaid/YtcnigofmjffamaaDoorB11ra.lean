import Derived.Test.YtcnigofmjffamaaDoorB11q
import Derived.Test.YtcnigofmjffamaaDoorB11y
import Derived.Test.YtcnigofmjffamaaDoorVd
set_option maxRecDepth 100000
set_option linter.unusedVariables false
set_option linter.unusedSimpArgs false
namespace Go.Proofs.YtcnigofmjffamaaDoor
open Go.Proofs.YtcnigofmjffamaaDoor.Sh Go.Proofs.YtcnigofmjffamaaDoor.Sh.V Go.RowKit
/-! ### Pieces of objects, read while lists of bytes grow -/
theorem hr_rx {H H' : VH} {e : TypeId} {sz : Nat} {s : VS} {es : List (List V)} (h : Hr H e sz s es) (r : Rx H H') : Hr H' e sz s es := by
  refine ⟨h.1, ?_⟩
  rcases h.2 with ⟨rfl, rfl⟩ | ⟨j, pre, post, rfl, hj⟩
  · exact .inl ⟨rfl, rfl⟩
  · exact .inr ⟨j, pre, post, rfl, r j _ _ hj⟩
theorem ab {H : VH} {s x : VS} {l r : List UInt8} (h : Aq H 5 s (bs l)) (hx : IsB x r) (hl : l.length + r.length < 1000000) : ∃ s' H', appD true H 1 1 5 s x = some (s', H') ∧ Aq H' 5 s' (bs (l ++ r)) ∧ Rx H H' ∧ Kp H H' (toks s) ∧ ∀ t ∈ toks s', t ∈ toks s ∨ H.length ≤ t := by
  obtain ⟨s', H', a, b, c, d⟩ := h.appE (sz := 1) (by_ := 1) hx (by rw [bs_len, bs_len]; simp only [bound]; omega) (by rw [bs_len, bs_len]; simp only [bound]; omega)
  refine ⟨s', H', a, ?_, (c.gx fun t ht => h.tok_at ht).rx, c, d⟩
  rw [bs_app]; exact b
theorem kp_rx {H H' : VH} (k : Kp H H' []) : Rx H H' := fun i T cs h => k.ob h (by simp)
theorem one_b (x : Int) : IsB (.fz [[.int .u8 (IntKind.wrap .u8 x)]] (.ex 1)) [u8 x] := by rw [bc_wrap]; exact .fz _ _
theorem hr_str {H : VH} {s : VS} {ls : List (List UInt8)} (h : Hr H 9 1 s (ss ls)) {i : Nat} {x : List UInt8} (hx : ls[i]? = some x) {β : Type} (f : ByteArray → Option β) : ((ixV 1 s (i : Int)).bind fun p => (ldV (.flat .str) H p).bind f) = f ⟨x.toArray⟩ := h.rd1 (i := i) (τ := .str) (v := .str ⟨x.toArray⟩) (by simp [ss, hx]) rfl f
theorem l41o (n : Nat) {H0 : VH} {s : VS} {ls : List (List UInt8)} (hl : szs ls < 100000) (hln : ls.length < 100000) : ∀ (m i : Nat) {H : VH} {s3 : VS}, Hr H 9 1 s (ss ls) → Kp H0 H [] → (∀ t ∈ toks s3, H0.length ≤ t) → Aq H 5 s3 (bs (u8 (ls.length : Int) :: ((ls.take i).map textI).flatten)) → i ≤ ls.length → ls.length < i + m →
    ∃ s' H', L41_0 (n + 2) m s s3 (i : Int) H = some (.sl 5 s', H') ∧ IsB s' (textsI ls) ∧ Kp H0 H' [] := by
  intro m
  induction m with
  | zero => intros; omega
  | succ m ih =>
    intro i H s3 hs hk ht h1 h2 h3
    rw [L41_0_eq, hs.len, ss_len]
    by_cases hi : i < ls.length
    · rw [decide_eq_true (by omega), cond_true]
      obtain ⟨x, hx⟩ := get_of hi
      rw [hr_str hs hx]
      have e0 : ((ls.take (i + 1)).map textI).flatten = ((ls.take i).map textI).flatten ++ textI x := by
        rw [List.take_add_one, hx]; simp
      have h6 := szs_take ls (i + 1)
      rw [e0, List.length_append] at h6
      have h7 := textI_len x
      obtain ⟨sx, k1, k2⟩ := e13 n x (by omega) H
      rw [callD_sl k1, Option.bind_some]
      obtain ⟨s2, H2, g1, g2, g3, g4, g5⟩ := ab h1 k2 (by simp only [List.length_cons]; omega)
      simp only
      rw [g1, Option.bind_some, inc_nat (by omega)]
      have hlen := hk.len
      exact ih (i + 1) (H := H2) (s3 := s2) (hr_rx hs g3) (hk.trans g4 (fun x hx _ => hx) (fun x hx hlt => by have := ht x hx; omega)) (fun t h => (g5 t h).elim (ht t) (fun h => by omega)) (by rw [e0, ← List.cons_append]; exact g2) (by omega) (by omega)
    · rw [decide_eq_false (by omega), cond_false]
      have : i = ls.length := by omega
      subst this
      rw [List.take_length] at h1
      exact ⟨s3, H, rfl, h1.isE, hk⟩
theorem c41 (n : Nat) {H : VH} {s : VS} {ls : List (List UInt8)} (hs : Hr H 9 1 s (ss ls)) (hl : szs ls < 90000) (hn : ls.length < 90000) (hn2 : ls.length < n) : ∃ s' H', V.callD (vF P tab (n + 3)) P false (.one (.flat (.slice 5))) 41 [.sl 9 s] H = some (s', H') ∧ IsB s' (textsI ls) ∧ Kp H H' [] := by
  rcases hs.2 with ⟨rfl, h0⟩ | ⟨j, pre, post, rfl, hj⟩
  · have : ls = [] := by cases ls with | nil => rfl | cons a b => cases h0
    subst this
    obtain ⟨s', a, b⟩ := e41 n (s := .nil) (ls := []) .nil (by simp [szs]) (by simp) (by simp; omega) H
    exact ⟨s', H, callD_sl a, b, Kp.refl _ _⟩
  · obtain ⟨s', H', a, b, c⟩ := l41o n (by omega) (by omega) (n + 2) 0 (H0 := H) (H := H) (s3 := .fz [[.int .u8 (IntKind.wrap .u8 (ls.length : Int))]] (.ex 1)) hs (Kp.refl _ _) (fun t ht => by cases ht) (by rw [bc_wrap]; exact .lit _) (by omega) (by omega)
    refine ⟨s', H', callD_sl ?_, b, c⟩
    rw [vF_open rfl rfl, f41_eq, hs.len, ss_len]
    rw [show ((0 : Nat) : Int) = 0 from rfl, ss_len] at a
    exact a
/-! ### Outs with pieces -/
structure OO (H : VH) (y : List V) (sr sn : VS) (a : Nat) (ns : List Int) : Prop where
  y : y = [.str ⟨#[110]⟩, .sl 5 .nil, .sl 9 sr, .sl 3 sn]
  c : a ≤ 19
  r : Hr H 9 1 sr (ss (List.replicate a [114]))
  n : Hr H 3 1 sn (ns.map i1)
  l : ns.length ≤ 5
theorem OO.rx {H H' : VH} {y : List V} {sr sn : VS} {a : Nat} {ns : List Int} (h : OO H y sr sn a ns) (r : Rx H H') : OO H' y sr sn a ns := ⟨h.y, h.c, hr_rx h.r r, hr_rx h.n r, h.l⟩
theorem szs_rep (a : Nat) : szs (List.replicate a [114]) = 3 * a := by
  induction a with
  | zero => rfl
  | succ a ih =>
    unfold szs at ih ⊢
    rw [List.replicate_succ, List.map_cons, List.flatten_cons, List.length_append, ih, textI_len]
    simp; omega
theorem l15i (n m0 : Nat) {k q : Nat} {i : Int} {c0 c1 c2 : V} {sn : VS} {ns : List Int} (hns : ns.length ≤ 5) {H0 : VH} {Q : VRes → Prop} (b : Nat) (hb : b < 90000) (hQ : ∀ H' s' acc', Rx H0 H' → Aq H' 5 s' (bs acc') → acc'.length ≤ b + 5 → Q (L15_0 n m0 k s' (IntKind.wrap .i64 (i + 1)) H')) :
    ∀ (m j : Nat) {H : VH} {s3 : VS} {acc : List UInt8}, Rx H0 H → Hr H 3 1 sn (ns.map i1) → H[q]? = some (.row OT [c0, c1, c2, .sl 3 sn]) → Aq H 5 s3 (bs acc) → acc.length ≤ b + j → j ≤ ns.length → ns.length < j + m → Q (L15_1 n m0 m k s3 i q (j : Int) H) := by
  intro m
  induction m with
  | zero => intros; omega
  | succ m ih =>
    intro j H s3 acc hr hn hq hA ha hj hm
    rw [L15_1_eq]
    have l3 : ldV (.flat (.slice 3)) H (.ob q 3) = some sn := by rw [ld_row hq]; exact fd_sl 3 sn
    rw [l3, Option.bind_some, hn.len, List.length_map]
    by_cases c : j < ns.length
    · rw [decide_eq_true (by omega), cond_true, Option.bind_some]
      obtain ⟨x, hx⟩ := get_of c
      rw [hn.rd1 (i := j) (τ := .int .i64) (v := .int .i64 x) (by simp [i1, hx]) (fd_int .i64 x)]
      obtain ⟨s2, H2, g1, g2, g3, _⟩ := ab hA (one_b x) (by simp only [List.length_singleton]; omega)
      rw [g1, Option.bind_some]
      simp only
      rw [inc_nat (by omega)]
      exact ih (j + 1) (hr.trans g3) (hr_rx hn g3) (g3 _ _ _ hq) g2 (by rw [List.length_append, List.length_singleton]; omega) (by omega) (by omega)
    · rw [decide_eq_false (by omega), cond_false]
      exact hQ H s3 acc hr hA (by omega)
theorem l15o (n : Nat) (hn : 5000 ≤ n) {k : Nat} {c0 c1 c2 c3 c4 : V} {so : VS} {es : List (List V)} (hes : es.length ≤ 6) : ∀ (m i : Nat) {H : VH} {s3 : VS} {acc : List UInt8}, H[k]? = some (.row QT [c0, c1, c2, c3, c4, .sl 34 so]) → Hr H 34 4 so es → (∀ y ∈ es, ∃ sr sn a ns, OO H y sr sn a ns) → Aq H 5 s3 (bs acc) → acc.length ≤ 100 + 100 * i → i ≤ es.length → es.length < i + m →
    ∃ s' H' l, L15_0 (n + 3) m k s3 (i : Int) H = some (.sl 5 s', H') ∧ IsB s' l ∧ l.length < 1000000 := by
  intro m
  induction m with
  | zero => intros; omega
  | succ m ih =>
    intro i H s3 acc ho hs hy hA ha hi hm
    rw [L15_0_eq]
    have l5 : ldV (.flat (.slice 34)) H (.ob k 5) = some so := by rw [ld_row ho]; exact fd_sl 34 so
    rw [l5, Option.bind_some, hs.len]
    by_cases c : i < es.length
    · rw [decide_eq_true (by omega), cond_true, Option.bind_some]
      obtain ⟨y, hyi⟩ := get_of c
      obtain ⟨sr, sn, a, ns, hoo⟩ := hy y (List.mem_of_getElem? hyi)
      have hy0 := hoo.y
      subst hy0
      rw [hs.rd hyi (l := [.str, .slice 5, .slice 9, .slice 3]) rfl (x := (⟨#[110]⟩, .nil, sr, sn, ())) (by simp only [V.decs, fd_str, fd_sl, Option.bind_some, Option.map_some])]
      obtain ⟨H1, a1, a2, a3, a4⟩ := box_new H OT (zs := [.str ⟨#[]⟩, .sl 5 .nil, .sl 9 .nil, .sl 3 .nil]) (cs := [.str ⟨#[110]⟩, .sl 5 .nil, .sl 9 sr, .sl 3 sn]) rfl rfl
      have r1 : Rx H H1 := (a3 5).rx
      obtain ⟨q, hq⟩ : ∃ q, q = H.length := ⟨_, rfl⟩
      simp only
      rw [a1, Option.bind_some]
      rw [← hq] at a2 ⊢
      have ld0 : ldV (.flat .str) H1 (.ob q 0) = some ⟨#[110]⟩ := by rw [ld_row a2]; rfl
      rw [ld0, Option.bind_some]
      obtain ⟨t, w1, w2⟩ := e13 (n + 1) [110] (by simp) H1
      have w1' : vF P tab (n + 3) 13 [.str ⟨#[110]⟩] H1 = some (.sl 5 t, H1) := w1
      rw [callD_sl w1', Option.bind_some]
      simp only
      obtain ⟨u1, H2, b1, b2, b3, _⟩ := ab (a4 _ _ _ hA) w2 (by rw [textI_len]; simp; omega)
      rw [b1, Option.bind_some]
      simp only
      have o2 := b3 _ _ _ a2
      have ld1 : ldV (.flat (.slice 5)) H2 (.ob q 1) = some .nil := by rw [ld_row o2]; exact fd_sl 5 .nil
      have st1 : strV H2 5 .nil = some ⟨([] : List UInt8).toArray⟩ := IsB.str (show IsB .nil [] from .nil) _ _
      rw [ld1, Option.bind_some, st1, Option.bind_some]
      obtain ⟨t', w3, w4⟩ := e13 (n + 1) [] (by simp) H2
      rw [callD_sl w3, Option.bind_some]
      simp only
      obtain ⟨u2, H3, d1, d2, d3, _⟩ := ab b2 w4 (by simp only [textI_len, List.length_append]; simp; omega)
      rw [d1, Option.bind_some]
      simp only
      have o3 := d3 _ _ _ o2
      have ld2 : ldV (.flat (.slice 9)) H3 (.ob q 2) = some sr := by rw [ld_row o3]; exact fd_sl 9 sr
      rw [ld2, Option.bind_some]
      have r3 : Rx H H3 := r1.trans (b3.trans d3)
      have ha19 := hoo.c
      have hz := szs_rep a
      obtain ⟨t2, H4, f1, f2, f3⟩ := c41 n (hoo.rx r3).r (by omega) (by simp; omega) (by simp; omega)
      rw [f1, Option.bind_some]
      simp only
      have t3 : (textsI (List.replicate a [114])).length = 1 + szs (List.replicate a [114]) := by show (_ :: _).length = _; rw [List.length_cons]; show szs (List.replicate a [114]) + 1 = _; omega
      have d2' := d2.keep f3 (fun t _ => by simp)
      obtain ⟨u3, H5, g1, g2, g3, _⟩ := ab d2' f2 (by simp only [textI_len, t3, List.length_append]; simp; omega)
      rw [g1, Option.bind_some]
      simp only
      have o5 := g3 _ _ _ (f3.ob o3 (by simp))
      have ld3 : ldV (.flat (.slice 3)) H5 (.ob q 3) = some sn := by rw [ld_row o5]; exact fd_sl 3 sn
      rw [ld3, Option.bind_some]
      obtain ⟨u4, H6, i1', i2, i3, _⟩ := ab g2 (one_b ((sn.len : Nat) : Int)) (by simp only [textI_len, t3, List.length_append]; simp; omega)
      rw [i1', Option.bind_some]
      simp only
      have r6 : Rx H H6 := r3.trans (Rx.trans (kp_rx f3) (g3.trans i3))
      rw [show (0 : Int) = ((0 : Nat) : Int) from rfl]
      refine l15i (n + 3) m (i := (i : Int)) hoo.l (H0 := H6) (Q := fun z : VRes => ∃ s' H' l, z = some (.sl 5 s', H') ∧ IsB s' l ∧ l.length < 1000000) (acc.length + 90) (by omega) ?_ (n + 3) 0 (Rx.refl _) (hr_rx hoo.n r6) (i3 _ _ _ o5) i2 (by simp only [textI_len, t3, List.length_append]; simp; omega) (by omega) (by have := hoo.l; omega)
      intro H' s' acc' hr' hA' hl'
      rw [inc_nat (by omega)]
      have r7 := r6.trans hr'
      exact ih (i + 1) (r7 _ _ _ ho) (hr_rx hs r7) (fun y hm => by
        obtain ⟨sr, sn, a, ns, h⟩ := hy y hm
        exact ⟨sr, sn, a, ns, h.rx r7⟩) hA' (by omega) (by omega) (by omega)
    · rw [decide_eq_false (by omega), cond_false]
      exact ⟨s3, H, acc, rfl, hA.isE, by omega⟩
end Go.Proofs.YtcnigofmjffamaaDoor
