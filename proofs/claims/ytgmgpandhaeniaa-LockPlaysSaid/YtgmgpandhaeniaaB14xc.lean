import Derived.Test.YtgmgpandhaeniaaB14xb
set_option maxRecDepth 100000
set_option linter.unusedVariables false
set_option linter.unusedSimpArgs false
namespace Go.Proofs.Ytgmgpandhaeniaa
open Go.Proofs.Ytgmgpandhaeniaa.Sh Go.Proofs.Ytgmgpandhaeniaa.Sh.V Go.RowKit Go.Proofs.Ytgmgpandhaeniaa.Sh.Lk
theorem p31 (n : Nat) {H : VH} {k : Nat} {F : List Nat} {t : Tb} (h : TO H k F t) (hl : t.m.length < 1000000) : ∃ s' H', V.callD (vF P tab (n + 2)) P false (.one (.flat (.slice 9))) 31 [.ptr (.ob k 0)] H = some (s', H') ∧ IsT s' (keysP t) ∧ Kp H H' [] := by
  obtain ⟨i, j, tl, h1, h2, h3, h4, h5, h6, rfl⟩ := h
  refine ⟨srtV (t.m.map (·.1)), _, callD_sl ?_, isT_srt _, Kp.app H [.row (59 + boxK) [.map (some i)]]⟩
  rw [vF_body rfl, f31_eq]
  simp only [VP.isNil, cond_false, nn_ob, atO_ob, Option.bind_some, Nat.zero_add]
  rw [ld_t0 h1, Option.bind_some]
  have hc : V.callD (vF P tab (n + 1)) P false (.one (.flat .any)) 51 [.map (some i)] H = some (.func (.func 63) [] [.ptr (.ob H.length 0)], H ++ [.row (59 + boxK) [.map (some i)]]) := by
    refine callD_some _ ?_ rfl
    rw [vF_body rfl, f51_eq]
  rw [hc, Option.bind_some]
  simp only
  have k1 := Kp.app H [VO.row (59 + boxK) [.map (some i)]]
  have hlen : (tl.map kb).length = t.m.length := by rw [h4, List.length_map, List.length_map]
  have hs : V.callD (vF P tab (n + 1)) P false (.one (.flat (.slice 9))) 50 [.func (.func 63) [] [.ptr (.ob H.length 0)]] (H ++ [.row (59 + boxK) [.map (some i)]]) = some (srtV ((tl.map kb).map (·.1)), H ++ [.row (59 + boxK) [.map (some i)]]) := by
    refine callD_sl ?_
    rw [vF_body rfl]
    exact sorted_str (enc := pv) (k1.ob h2 (by simp)) (app_last _ _) (by decide) (by rw [hlen]; omega) (its := [63]) (it := 63) (e := 9) rfl
  rw [hs, Option.bind_some]
  have : (tl.map kb).map (·.1) = t.m.map (·.1) := by rw [h4]; simp [kb, kx]
  rw [this]
theorem p13 (n : Nat) (hn : 3000 ≤ n) {H : VH} {k : Nat} {F : List Nat} {t : Tb} (h : TO H k F t) (o : Int) (hl : t.m.length ≤ 400) (hnd : (t.m.map (·.1)).Nodup) (hsz : ∀ p ∈ t.m, p.2.hs.length + p.2.q.length < 1990) :
    ∃ s' H' F', V.callD (vF P tab (n + 5)) P false (.one (.flat (.slice 3))) 13 [.ptr (.ob k 0), .int .i64 o] H = some (s', H') ∧ TO H' k F' (freeP t o).1 ∧ IsE s' (ints (freeP t o).2) := by
  obtain ⟨s1, H1, a1, a2, a3⟩ := p31 (n + 2) h (by omega)
  have hp : (keysP t).Perm (t.m.map (·.1)) := sortK_perm _
  have hkl : (keysP t).length ≤ 400 := by rw [hp.length_eq, List.length_map]; exact hl
  obtain ⟨s', H', F', b1, b2, b3⟩ := l13 n hn (o := o) a2 hkl (n + 4) 0 (h.kn a3) (s := .nil) (acc := []) .nil (Nat.zero_le _) (by omega) (Nat.zero_le _) (by rw [List.drop_zero]; exact hp.nodup_iff.2 hnd) (fun key hk => by
    rw [List.drop_zero] at hk
    exact mem_keys.1 (hp.mem_iff.1 hk)) hsz
  refine ⟨s', H', F', callD_sl ?_, ?_, ?_⟩
  · rw [vF_body rfl, f13_eq, a1, Option.bind_some]
    simp only
    rw [isT_len a2]
    exact b1
  · rw [List.drop_zero] at b2; exact b2
  · rw [List.drop_zero, List.nil_append] at b3; exact b3
theorem p14 (n : Nat) {H : VH} {k : Nat} {F : List Nat} {t : Tb} (h : TO H k F t) (hl : t.m.length < 1000000) : ∃ H', V.callD (vF P tab (n + 3)) P false (.one (.flat (.int .i64))) 14 [.ptr (.ob k 0)] H = some ((t.m.length : Int), H') ∧ Kp H H' [] := by
  obtain ⟨s1, H1, a1, a2, a3⟩ := p31 n h hl
  refine ⟨H1, callD_int ?_, a3⟩
  rw [vF_body rfl, f14_eq, a1, Option.bind_some]
  simp only
  rw [isT_len a2]
  have : (keysP t).length = t.m.length := by rw [keysP, sortK_len, List.length_map]
  rw [this]
theorem p11 (n : Nat) (H : VH) : ∃ k H' F, V.callD (vF P tab (n + 1)) P false (.one (.flat .ptr)) 11 [] H = some (.ob k 0, H') ∧ TO H' k F ⟨[], []⟩ := by
  refine ⟨H.length + 2, (H ++ [.map .str []]) ++ [.map (.int .i64) []] ++ [.row TTY [.map (some H.length), .map (some (H.length + 1))]], _, callD_ptr ?_, ⟨H.length, H.length + 1, [], ?_, ?_, ?_, rfl, (fun p hp => by cases hp), by simp [foot], rfl⟩⟩
  · rw [vF_body rfl, f11_eq]
    have e1 : List.length ((List.append (α := VO) (H ++ [.map .str []]) [.map (.int .i64) []]) : VH) = H.length + 2 := by
      show List.length ((H ++ [VO.map .str []]) ++ [VO.map (.int .i64) []]) = _
      simp
    have e2 : List.length ((H ++ [.map .str []]) : VH) = H.length + 1 := by simp
    rw [e1, e2]; rfl
  · rw [List.getElem?_append_right (by simp)]; simp
  · rw [List.append_assoc, List.append_assoc, List.getElem?_append_right (Nat.le_refl _)]; simp [ents]
  · rw [List.append_assoc, List.append_assoc, List.getElem?_append_right (by omega)]; simp [ents]
/-! ### see -/
theorem p34 (n : Nat) {H : VH} {k : Nat} {F : List Nat} {t : Tb} (h : TO H k F t) (key : Key) : ∃ s q H', V.callD (vF P tab (n + 1)) P false (.one (.agg [.slice 3, .bool, .slice 70])) 34 [.ptr (.ob k 0), .str ⟨key.toArray⟩] H = some ((s, (lkOf t key).only, q, ()), H') ∧ Hr H' 3 1 s (ints (lkOf t key).hs) ∧ Hr H' WTY 3 q (wts (lkOf t key).q) ∧ Kp H H' [] ∧ (∀ a, a ∈ hps s ∨ a ∈ hps q → a ∈ F) := by
  obtain ⟨i, j, g1, g2, g3⟩ := h.find key
  obtain ⟨H1, e1⟩ : ∃ H1 : VH, H1 = H ++ [VO.row LTY [.sl 3 .nil, .bool false, .sl WTY .nil]] := ⟨_, rfl⟩
  have hb1 : H1[H.length]? = some (.row LTY [.sl 3 .nil, .bool false, .sl WTY .nil]) := by rw [e1]; exact app_last _ _
  have k1 : Kp H H1 [] := by rw [e1]; exact Kp.app _ _
  have ldA : ∀ {H : VH} {b : Nat} {s q : VS} {o : Bool}, H[b]? = some (.row LTY [.sl 3 s, .bool o, .sl WTY q]) → ldV (.agg [.slice 3, .bool, .slice 70]) H (.ob b 0) = some (s, o, q, ()) := fun {H b s q o} hb => by
    simp only [ldV, rowV_of hb, Option.bind_some]
    have : takeN 0 [V.FT.slice 3, V.FT.bool, V.FT.slice 70].length [V.sl 3 s, .bool o, .sl WTY q] = some [.sl 3 s, .bool o, .sl WTY q] := rfl
    rw [this, Option.bind_some]
    simp only [V.decs, fd_sl, fd_bool, Option.bind_some, Option.map_some]
  have main : ∀ (s q : VS) (o : Bool), ∃ H', stV H1 (.ob H.length 0) [.sl 3 s, .bool o, .sl 70 q] = some H' ∧ ldV (.agg [.slice 3, .bool, .slice 70]) H' (.ob H.length 0) = some (s, o, q, ()) ∧ Kp H H' [] := by
    intro s q o
    refine ⟨_, st_row hb1 (by simp) rfl, ldA (by rw [set_at hb1]; rfl), ?_⟩
    refine ⟨by have := k1.len; simpa using this, fun i hi _ => ?_⟩
    rw [List.getElem?_set_ne (by omega)]
    exact k1.at_ i hi (by simp)
  suffices hbd : ∃ s q H', bodyV P tab (vF P tab n) n 34 [.ptr (.ob k 0), .str ⟨key.toArray⟩] H = some (.agg [.sl 3 s, .bool (lkOf t key).only, .sl 70 q], H') ∧ Hr H' 3 1 s (ints (lkOf t key).hs) ∧ Hr H' WTY 3 q (wts (lkOf t key).q) ∧ Kp H H' [] ∧ (∀ a, a ∈ hps s ∨ a ∈ hps q → a ∈ F) by
    obtain ⟨s, q, H', q1, q2⟩ := hbd
    refine ⟨s, q, H', callD_some (.agg [.sl 3 s, .bool (lkOf t key).only, .sl 70 q]) (by rw [vF_body rfl]; exact q1) ?_, q2⟩
    show V.decs [.slice 3, .bool, .slice 70] [.sl 3 s, .bool (lkOf t key).only, .sl 70 q] = _
    simp only [V.decs, fd_sl, fd_bool, Option.bind_some, Option.map_some]
  rw [f34_eq, show H ++ [VO.row (68 + boxK) [.sl 3 .nil, .bool false, .sl 70 .nil]] = H1 from e1.symm]
  simp only [VP.isNil, cond_false, nn_ob, atO_ob, Option.bind_some, Nat.zero_add]
  rw [ld_t0 (k1.ob g1 (by simp)), Option.bind_some]
  rcases g3 with ⟨q1, tl, q2, q3, _⟩ | ⟨l1, l2, b, Fb, x, q1, q2, q3, q4⟩
  · rw [look_l (k1.ob q2 (by simp)), Option.bind_some, q3, lkOf_none q1]
    simp only [VP.isNil, cond_true]
    obtain ⟨H', a1, a2, a3⟩ := main .nil .nil false
    rw [a1, Option.bind_some, a2, Option.bind_some]
    exact ⟨.nil, .nil, H', rfl, Hr.nil _ _ _, Hr.nil _ _ _, a3, fun a ha => by rcases ha with ha | ha <;> cases ha⟩
  · have f1 := q2.kn k1
    rw [look_l f1.hi, Option.bind_some, getM_mid (by rw [keys_kb]; exact q2.nk), lkOf_some q1]
    simp only [VP.isNil, cond_false, nn_ob, Option.bind_some]
    obtain ⟨s, q, hb, hs, hq, hF⟩ := q2.lo
    rw [look_l f1.hi, Option.bind_some, getM_mid (by rw [keys_kb]; exact q2.nk)]
    simp only [nn_ob, Option.bind_some]
    rw [ldA (k1.ob hb (by simp)), Option.bind_some]
    simp only
    obtain ⟨H', a1, a2, a3⟩ := main s q x.only
    rw [a1, Option.bind_some, a2, Option.bind_some]
    refine ⟨s, q, H', rfl, hs.keep a3 (fun t _ => by simp), hq.keep a3 (fun t _ => by simp), a3, fun a ha => (q4 a).2 (.inr ?_)⟩
    rw [hF]
    rcases ha with ha | ha
    · simp [ha]
    · simp [ha]
theorem p16 (n : Nat) {H : VH} {k : Nat} {F : List Nat} {t : Tb} (h : TO H k F t) (key : Key) : ∃ H', V.callD (vF P tab (n + 2)) P false (.one (.flat .bool)) 16 [.ptr (.ob k 0), .str ⟨key.toArray⟩] H = some ((lkOf t key).only, H') ∧ Kp H H' [] := by
  obtain ⟨s, q, H', a1, a2, a3, a4, a5⟩ := p34 n h key
  refine ⟨H', callD_bool ?_, a4⟩
  rw [vF_body rfl, f16_eq, a1, Option.bind_some]
/-- Numbers in an object, as they stand. -/
theorem hr_es {H : VH} {s : VS} {l : List Int} (h : Hr H 3 1 s (ints l)) : slEs H 3 1 s = some (ints l) := by
  rcases h.2 with ⟨rfl, h2⟩ | ⟨j, pre, post, rfl, hj⟩
  · rw [h2]; rfl
  · have hfl : (ints l).flatten = l.map ik := by
      clear h hj
      induction l with
      | nil => rfl
      | cons x l ih => show [ik x] ++ (ints l).flatten = _; rw [ih]; rfl
    show hpEs H 3 1 j pre.length (ints l).length = _
    unfold hpEs
    rw [hj]
    simp only [Nat.mul_one]
    have e1 : (List.drop pre.length (pre ++ ((ints l).flatten ++ post))).take (ints l).length = l.map ik := by
      rw [List.drop_left, hfl, ints_len]
      have := List.take_left (l₁ := l.map ik) (l₂ := post)
      rwa [List.length_map] at this
    rw [e1]
    have hcl : (l.map ik).all closed1 = true := by
      rw [List.all_eq_true]
      intro v hv
      obtain ⟨x, _, rfl⟩ := List.mem_map.1 hv
      rfl
    have hst : (l.map ik).map strip1 = l.map ik := by
      rw [List.map_map]; rfl
    rw [if_pos ⟨trivial, by simp [hfl, ints_len], hcl⟩, hst, ints_len]
    congr 1
    clear h hj e1 hcl hst hfl
    induction l with
    | nil => rfl
    | cons x l ih => show _ :: chunk 1 l.length (l.map ik) = _; rw [ih]; rfl
theorem p17 (n : Nat) {H : VH} {k : Nat} {F : List Nat} {t : Tb} (h : TO H k F t) (key : Key) (hl : (lkOf t key).hs.length < 2000) : ∃ s' H', V.callD (vF P tab (n + 2)) P false (.one (.flat (.slice 3))) 17 [.ptr (.ob k 0), .str ⟨key.toArray⟩] H = some (s', H') ∧ IsE s' (ints (lkOf t key).hs) ∧ Kp H H' [] := by
  obtain ⟨s, q, H1, a1, a2, a3, a4, a5⟩ := p34 n h key
  have hc : ∃ s' H', V.callD (vF P tab (n + 1)) P false (.one (.flat (.slice 3))) 35 [.sl 3 s] H1 = some (s', H') ∧ IsE s' (ints (lkOf t key).hs) ∧ Kp H1 H' [] := by
    by_cases hz : s.isNil = true
    · have : s = .nil := by cases s <;> first | rfl | cases hz
      subst this
      have h0 : ints (lkOf t key).hs = [] := by
        have := a2.len
        rw [show VS.len .nil = 0 from rfl] at this
        exact List.eq_nil_of_length_eq_zero this.symm
      refine ⟨.nil, H1, callD_sl ?_, by rw [h0]; exact .nil, Kp.refl _ _⟩
      rw [vF_body rfl, f35_eq]; rfl
    · have hz : s.isNil = false := by simpa using hz
      obtain ⟨s', H', b1, b2, b3, b4⟩ := (Aq.lit (H := H1) (e := 3) []).app (sz := 1) (by_ := 8) (x := s) (news := ints (lkOf t key).hs) a2.len (hr_es a2) (by rw [ints_len]; simp [bound]; omega) (by rw [ints_len]; simp [bound]; omega)
      refine ⟨s', H', callD_sl ?_, by have := b2.isE; rwa [List.nil_append] at this, b3.weak (fun x hx _ => by cases hx)⟩
      rw [vF_body rfl, f35_eq, hz, cond_false]
      rw [show (VS.fz [] (VC.ex 0)) = .fz [] (.ex ([] : List (List V)).length) from rfl, b1, Option.bind_some]
  obtain ⟨s', H', b1, b2, b3⟩ := hc
  refine ⟨s', H', callD_sl ?_, b2, a4.trans b3 (fun x hx _ => hx) (fun x hx _ => hx)⟩
  rw [vF_body rfl, f17_eq, a1, Option.bind_some]
  simp only
  rw [b1, Option.bind_some]
/-! ### Queue -/
theorem l18 (n : Nat) {s : VS} {q : List Wt} (hq2 : q.length < 2000) : ∀ (m c : Nat) {H0 H : VH} {s5 : VS}, Hr H WTY 3 s (wts q) → Ap H 3 s5 (ints ((q.take c).map (·.o))) → Kp H0 H [] → (∀ a ∈ toks s5, H0.length ≤ a) → c ≤ q.length → q.length < c + m →
    ∃ s' H', L18_0 n m s5 s (q.length : Int) (c : Int) H = some (.sl 3 s', H') ∧ IsE s' (ints (q.map (·.o))) ∧ Kp H0 H' [] := by
  intro m
  induction m with
  | zero => intros; omega
  | succ m ih =>
    intro c H0 H s5 hs hA k0 ht hc hm
    rw [L18_0_eq]
    by_cases hcl : c < q.length
    · obtain ⟨w, hw⟩ := get_of hcl
      have hdt : decide ((c : Int) < (q.length : Int)) = true := decide_eq_true (by omega)
      rw [hdt, cond_true, rd_w hs hw]
      simp only
      obtain ⟨H1, b1, b2, b3, b4⟩ := new_w H w
      rw [b1, Option.bind_some, ld_w0 b2, Option.bind_some]
      obtain ⟨s', H2, c1, c2, c3, c4⟩ := apI (hA.keep b3 (fun t _ => by simp)) (x := .fz [[.int .i64 w.o]] (.ex 1)) (r := [w.o]) (.fz _ _) (by simp; omega)
      rw [c1, Option.bind_some]
      simp only
      rw [inc_nat (by omega)]
      have k2 : Kp H0 H2 [] := (k0.trans b3 (Z := []) (fun x hx _ => hx) (fun x hx _ => hx)).trans c3 (fun x hx _ => hx) (fun x hx hlt => by have := ht x hx; omega)
      refine ih (c + 1) ((hs.keep b3 (fun t _ => by simp)).keep c3 (fun t ht' hm' => ?_)) ?_ k2 (fun a ha => ?_) (by omega) (by omega)
      · obtain ⟨_, cs, hcs⟩ := (hs.keep b3 (fun t _ => by simp)).lt t ht'
        obtain ⟨g, hg⟩ := ap_tok (hA.keep b3 (fun t _ => by simp)) hm'
        rw [hcs] at hg; injection hg with hg; cases hg
      · have : (q.take (c + 1)).map (·.o) = (q.take c).map (·.o) ++ [w.o] := by rw [List.take_add_one, hw]; simp
        rw [this]; exact c2
      · rcases c4 a ha with h | h
        · exact ht a h
        · have := k0.len; omega
    · have : c = q.length := by omega
      subst this
      have hdt : decide ((q.length : Int) < (q.length : Int)) = false := decide_eq_false (by omega)
      rw [hdt, cond_false]
      rw [List.take_length] at hA
      exact ⟨s5, H, rfl, hA.isE, k0⟩
theorem p18 (n : Nat) (hn : 3000 ≤ n) {H : VH} {k : Nat} {F : List Nat} {t : Tb} (h : TO H k F t) (key : Key) (hl : (lkOf t key).q.length < 2000) : ∃ s' H', V.callD (vF P tab (n + 2)) P false (.one (.flat (.slice 3))) 18 [.ptr (.ob k 0), .str ⟨key.toArray⟩] H = some (s', H') ∧ IsE s' (ints ((lkOf t key).q.map (·.o))) ∧ Kp H H' [] := by
  obtain ⟨s, q, H1, a1, a2, a3, a4, a5⟩ := p34 n h key
  obtain ⟨s', H', b1, b2, b3⟩ := l18 (n + 1) hl (n + 1) 0 (H0 := H1) a3 (s5 := .nil) .nil (Kp.refl _ _) (fun a ha => by cases ha) (Nat.zero_le _) (by omega)
  refine ⟨s', H', callD_sl ?_, b2, a4.trans b3 (fun x hx _ => hx) (fun x hx _ => hx)⟩
  rw [vF_body rfl, f18_eq, a1, Option.bind_some]
  simp only
  rw [a3.len, wts_len]
  exact b1
end Go.Proofs.Ytgmgpandhaeniaa
