import Derived.Test.YtgmgpandhaeniaaB14x
set_option maxRecDepth 100000
set_option linter.unusedVariables false
set_option linter.unusedSimpArgs false
namespace Go.Proofs.Ytgmgpandhaeniaa
open Go.Proofs.Ytgmgpandhaeniaa.Sh Go.Proofs.Ytgmgpandhaeniaa.Sh.V Go.RowKit Go.Proofs.Ytgmgpandhaeniaa.Sh.Lk
theorem atO_ob (i off n : Nat) : atO (.ob i off) n = some (.ob i (off + n)) := rfl
theorem nn_ob (i off : Nat) : nn (.ob i off) = some (.ob i off) := rfl
theorem ld_t0 {H : VH} {k i j : Nat} (h : H[k]? = some (.row TTY [.map (some i), .map (some j)])) : ldV (.flat .map) H (.ob k 0) = some (some i) := by rw [ld_row h]; rfl
theorem ld_t1 {H : VH} {k i j : Nat} (h : H[k]? = some (.row TTY [.map (some i), .map (some j)])) : ldV (.flat .map) H (.ob k 1) = some (some j) := by rw [ld_row h]; rfl
theorem look_l {H : VH} {i : Nat} {m : List (Key × Nat)} (hi : H[i]? = some (.map .str (ents sk pv m))) (key : Key) : V.lookD P 63 (.flat .ptr) H .str (some i) (.str ⟨key.toArray⟩) = some (match getM m key with | some b => (.ob b 0, true) | none => (.nil, false)) := by
  have := look_str (enc := pv) (P := P) (et := 63) (τ := .flat .ptr) hi (d := fun b => VP.ob b 0) (fun _ => rfl) (z := VP.nil) (by kernel_rfl) key
  refine this.trans ?_
  cases getM m key <;> rfl
theorem look_w {H : VH} {j : Nat} {m : List (Int × Key)} (hj : H[j]? = some (.map (.int .i64) (ents ik sk m))) (o : Int) : V.lookD P 9 (.flat .str) H (.int .i64) (some j) (.int .i64 o) = some (match getM m o with | some k => (⟨k.toArray⟩, true) | none => (⟨#[]⟩, false)) := by
  have := look_int (enc := fun k : Key => sk k) (P := P) (et := 9) (τ := .flat .str) hj (d := fun k => (⟨k.toArray⟩ : ByteArray)) (fun _ => rfl) (z := (⟨#[]⟩ : ByteArray)) (by kernel_rfl) o
  refine this.trans ?_
  cases getM m o <;> rfl
theorem lkOf_some {t : Tb} {key : Key} {x : Lk} (h : getM t.m key = some x) : lkOf t key = x := by unfold lkOf; rw [h]; rfl
theorem lkOf_none {t : Tb} {key : Key} (h : getM t.m key = none) : lkOf t key = lk0 := by unfold lkOf; rw [h]; rfl
theorem p26 (n : Nat) {H : VH} {k : Nat} {F : List Nat} {t : Tb} (h : TO H k F t) (key : Key) (hkl : key.length ≤ 9223372036854775807) (hml : t.m.length < 1000000) :
    ∃ b H' i j l1 l2 Fb, V.callD (vF P tab (n + 1)) P false (.one (.flat .ptr)) 26 [.ptr (.ob k 0), .str ⟨key.toArray⟩] H = some (.ob b 0, H') ∧ Foc H' k key b Fb (lkOf t key) i j l1 l2 t.ws ∧ mF l1 key (lkOf t key) l2 = putA t.m key (lkOf t key) ∧ Kp H H' F ∧ (∀ a, a ∈ frF k i j l1 l2 ∨ a ∈ Fb → a ∈ F ∨ H.length ≤ a) := by
  obtain ⟨i, j, h1, h2, h3⟩ := h.find key
  have main : ∃ b H' l1 l2 Fb, bodyV P tab (vF P tab n) n 26 [.ptr (.ob k 0), .str ⟨key.toArray⟩] H = some (.ptr (.ob b 0), H') ∧ Foc H' k key b Fb (lkOf t key) i j l1 l2 t.ws ∧ mF l1 key (lkOf t key) l2 = putA t.m key (lkOf t key) ∧ Kp H H' F ∧ (∀ a, a ∈ frF k i j l1 l2 ∨ a ∈ Fb → a ∈ F ∨ H.length ≤ a) := by
    rw [f26_eq]
    simp only [nn, atO, Option.bind_some, Nat.zero_add]
    rw [ld_t0 h1, Option.bind_some]
    rcases h3 with ⟨g1, tl, g2, g3, g4, g5, g6, g7, rfl⟩ | ⟨l1, l2, b, Fb, x, g1, g2, g3, g4⟩
    · rw [look_l g2, Option.bind_some, g3]
      simp only [VP.isNil, cond_true]
      obtain ⟨H1, e1⟩ : ∃ H1 : VH, H1 = H ++ [VO.row LTY [.sl 3 .nil, .bool false, .sl WTY .nil]] := ⟨_, rfl⟩
      have k1 : Kp H H1 [] := by rw [e1]; exact Kp.app _ _
      have hb1 : H1[H.length]? = some (.row LTY [.sl 3 .nil, .bool false, .sl WTY .nil]) := by rw [e1]; exact app_last _ _
      rw [show H ++ [VO.row (68 + boxK) [.sl 3 .nil, .bool false, .sl 70 .nil]] = H1 from e1.symm]
      have hk1 := k1.ob h1 (by simp)
      have hi1 := k1.ob g2 (by simp)
      have hj1 := k1.ob h2 (by simp)
      rw [ld_t0 hk1, Option.bind_some]
      have hlen : (tl.map kb).length < 9223372036854775807 := by
        have : t.m.length = tl.length := by rw [g4, List.length_map]
        rw [List.length_map]; omega
      have hput := put_str (enc := pv) hi1 hkl hlen H.length
      rw [putA_none g3] at hput
      rw [show V.ptr (.ob H.length 0) = pv H.length from rfl, hput, Option.bind_some]
      have k2 := Kp.set H1 i (.map .str (ents sk pv (tl.map kb ++ [(key, H.length)])))
      have hne : ∀ {a : Nat} {T cs}, H[a]? = some (.row T cs) → a ∉ [i] := fun {a T cs} ha => by
        simp
        rintro rfl
        rw [g2] at ha; injection ha with ha; cases ha
      have hij : j ∉ [i] := by
        simp
        rintro rfl
        rw [g2] at h2; injection h2 with h2; injection h2 with h2; cases h2
      have k12 : Kp H (H1.set i (.map .str (ents sk pv (tl.map kb ++ [(key, H.length)])))) [i] := k1.trans k2 (fun x hx _ => by cases hx) (fun x hx _ => hx)
      refine ⟨H.length, _, tl, [], [H.length], rfl, ?_, ?_, k12.weak (fun x hx _ => by simp at hx; simp [hx]), ?_⟩
      · rw [lkOf_none g1]
        refine ⟨k12.ob h1 (hne h1), ?_, k12.ob h2 hij, ?_, ?_, ?_, ?_, g5⟩
        · rw [set_at hi1]; rfl
        · intro p hp
          rw [List.append_nil] at hp
          exact (g6 p hp).keep k12 (fun a ha => by
            obtain ⟨T, cs, hc, _⟩ := (g6 p hp).ty a ha
            exact hne hc)
        · rw [List.append_nil]; exact g7
        · have hl2 : (H1.set i (.map .str (ents sk pv (tl.map kb ++ [(key, H.length)]))))[H.length]? = some (.row LTY [.sl 3 .nil, .bool false, .sl WTY .nil]) := k2.ob hb1 (by simp; have := lt_of_ob g2; omega)
          exact ⟨.nil, .nil, hl2, Hr.nil _ _ _, Hr.nil _ _ _, rfl⟩
        · intro a ha hm
          rw [List.mem_singleton] at ha
          subst ha
          rw [List.append_nil] at hm
          obtain ⟨p, hp, ht⟩ := mem_foot.1 hm
          have := (g6 p hp).lt _ ht
          omega
      · rw [lkOf_none g1, putA_none g1, g4]; rfl
      · rintro a (ha | ha)
        · unfold frF at ha
          rw [List.append_nil] at ha
          exact .inl ha
        · rw [List.mem_singleton] at ha; subst ha; exact .inr (Nat.le_refl _)
    · rw [look_l g2.hi, Option.bind_some, getM_mid (by rw [keys_kb]; exact g2.nk)]
      simp only [VP.isNil, cond_false]
      refine ⟨b, H, l1, l2, Fb, rfl, by rw [lkOf_some g1]; exact g2, ?_, Kp.refl _ _, fun a ha => .inl ((g4 a).2 ha)⟩
      rw [lkOf_some g1, putA_self g1, g3]
  obtain ⟨b, H', l1, l2, Fb, q1, q2⟩ := main
  exact ⟨b, H', i, j, l1, l2, Fb, callD_ptr (by rw [vF_body rfl]; exact q1), q2⟩
/-! ### wait -/
theorem rd_up {H : VH} {s : VS} {q : List Wt} (hs : Hr H WTY 3 s (wts q)) {i : Nat} {w : Wt} (hw : q[i]? = some w) {β : Type} (f : Bool → Option β) : ((ixV 3 s (i : Int)).bind fun p8 => ((atO p8 2).bind fun p9 => ((ldV (.flat .bool) H p9).bind f))) = f w.up := by
  obtain ⟨j, A, B, _, hj, hix, _⟩ := hs.at_ (wts_get hw)
  rw [hix, Option.bind_some]
  show ((ldV (.flat .bool) H (.ob j (A.length + 2))).bind f) = _
  rw [ld_row hj]
  have : (A ++ (wtc w ++ B))[A.length + 2]? = some (.bool w.up) := by
    rw [List.getElem?_append_right (by omega), Nat.add_sub_cancel_left]; rfl
  rw [this]; rfl
theorem p49 (n : Nat) {H : VH} {s sv : VS} {q : List Wt} (hs : Hr H WTY 3 s (wts q)) {a : Nat} (ha : a ≤ q.length) (w : Wt) (hv : Hr H WTY 3 sv [wtc w]) (hd : ∀ t ∈ hps sv, t ∉ hps s) (hl : q.length < 2000) : ∃ s' H', V.callD (vF P tab (n + 1)) P false (.one (.flat (.slice 70))) 49 [.sl 70 s, .int .i64 (a : Int), .sl 70 sv] H = some (s', H') ∧ Hr H' WTY 3 s' (wts (q.take a ++ w :: q.drop a)) ∧ Kp H H' (hps s) ∧ (∀ t ∈ hps s', t ∈ hps s ∨ H.length ≤ t) := by
  obtain ⟨s', H', h1, h2, h3, h4⟩ := hs.ins (i := a) (by rw [wts_len]; exact ha) hv hd (by rw [wts_len]; omega) 70 70
  refine ⟨s', H', callD_sl ?_, ?_, h3, h4⟩
  · rw [vF_body rfl]; exact h1
  · have : wts (q.take a ++ w :: q.drop a) = (wts q).take a ++ wtc w :: (wts q).drop a := by simp [wts]
    rw [this]; exact h2
/-- What comes behind the place. -/
theorem tl30 (n : Nat) {H : VH} {k b i j p : Nat} {key : Key} {Fb : List Nat} {x : Lk} {l1 l2 : List Ent} {ws : List (Int × Key)} (h : Foc H k key b Fb x i j l1 l2 ws) {w : Wt} (hp : H[p]? = some (.row (70 + boxK) (wtc w))) (hq : x.q.length < 2000) (hws : ws.length < 1000000) (ho : -9223372036854775808 ≤ w.o ∧ w.o ≤ 9223372036854775807) {a : Nat} (ha : a ≤ x.q.length) :
    ∃ H' Fb', ((ldV (.flat (.slice 70)) H (.ob b 2)).bind fun x26 =>
              ((ldV (.agg [.int .i64, .bool, .bool]) H (.ob p 0)).bind fun x27 =>
                  (cond (V.stays H (hj (heldOf (.ob b 2) [.slice 70] [.sl 70 x26]) []))
                    (cond (V.stays (H ++ [.row 70 [.int .i64 x27.1, .bool x27.2.1, .bool x27.2.2.1]]) (hj (heldOf (.ob b 2) [.slice 70] [.sl 70 x26]) []))
                      ((callD (vF P tab (n + 1)) P false (.one (.flat (.slice 70))) 49 [.sl 70 x26, .int .i64 (a : Int), .sl 70 (.hp H.length 0 1)] (H ++ [.row 70 [.int .i64 x27.1, .bool x27.2.1, .bool x27.2.2.1]])).bind fun r28 =>
                        ((stV r28.2 (.ob b 2) [.sl 70 r28.1]).bind fun h31 =>
                        ((ldV (.flat .map) h31 (.ob k 1)).bind fun x34 =>
                        ((ldV (.flat (.int .i64)) h31 (.ob p 0)).bind fun x35 =>
                        ((V.putD h31 (.int .i64) x34 (.int .i64 x35) (.str ⟨key.toArray⟩)).bind fun h36 =>
                        (some (V.tup [], h36)))))))
                      none)
                    none))) = some (.tup [], H') ∧ Foc H' k key b Fb' ⟨x.hs, x.only, x.q.take a ++ w :: x.q.drop a⟩ i j l1 l2 (putA ws w.o key) := by
  obtain ⟨H0, e0⟩ : ∃ H0 : VH, H0 = H ++ [VO.row 70 (wtc w)] := ⟨_, rfl⟩
  have k0 : Kp H H0 [] := by rw [e0]; exact Kp.app _ _
  have hv0 : Hr H0 WTY 3 (.hp H.length 0 1) [wtc w] := by
    rw [e0]
    have := Hr.new H 70 (sz := 3) [wtc w] (by simp [wtc])
    simpa using this
  obtain ⟨s, q, hb', hs', hqq', hF⟩ := h.lo
  rw [ld_l2 hb', Option.bind_some, ld_w hp, Option.bind_some, stays_s (ld_l2 hb'), cond_true]
  simp only
  rw [show H ++ [VO.row 70 [.int .i64 w.o, .bool w.only, .bool w.up]] = H0 from e0.symm, stays_s (ld_l2 (k0.ob hb' (by simp))), cond_true]
  have hb := k0.ob hb' (by simp)
  have hs := hs'.keep k0 (fun t _ => by simp)
  have hqq := hqq'.keep k0 (fun t _ => by simp)
  replace h := h.kn k0
  replace hp := k0.ob hp (by simp)
  obtain ⟨q', H1, a1, a2, a3, a4⟩ := p49 n hqq ha w hv0 (fun t ht hm => by
    have ht : t ∈ [H.length] := ht
    rw [List.mem_singleton] at ht
    subst ht
    have := (hqq'.lt _ hm).1
    omega) hq
  rw [a1, Option.bind_some]
  simp only
  have hb1 := a3.ob hb (hr_ne hqq hb (by decide))
  have hs1 := hs.keep a3 (hr_dis hqq hs (by decide))
  rw [st_l2 hb1, Option.bind_some]
  obtain ⟨H2, e2⟩ : ∃ H2 : VH, H2 = H1.set b (.row LTY [.sl 3 s, .bool x.only, .sl WTY q']) := ⟨_, rfl⟩
  rw [← e2]
  have k2 : Kp H1 H2 [b] := by rw [e2]; exact Kp.set _ _ _
  have hb2 : H2[b]? = some (.row LTY [.sl 3 s, .bool x.only, .sl WTY q']) := by rw [e2]; exact set_at hb1
  have hs2 := hs1.keep k2 (fun t ht => by simp; rintro rfl; exact hr_ne hs1 hb1 (by decide) ht)
  have hq2 := a2.keep k2 (fun t ht => by simp; rintro rfl; exact hr_ne a2 hb1 (by decide) ht)
  have kk : Kp H0 H2 Fb := by
    rw [hF]
    exact a3.trans k2 (fun x hx _ => by simp [hx]) (fun x hx _ => by simp at hx; simp [hx])
  have f2 : Foc H2 k key b (b :: (hps s ++ hps q')) ⟨x.hs, x.only, x.q.take a ++ w :: x.q.drop a⟩ i j l1 l2 ws := by
    refine h.op kk ⟨s, q', hb2, hs2, hq2, rfl⟩ (fun t ht => ?_)
    rw [hF]
    rcases List.mem_cons.1 ht with rfl | ht
    · simp
    · rcases List.mem_append.1 ht with ht | ht
      · simp [ht]
      · rcases a4 t ht with h | h
        · simp [h]
        · exact .inr h
  have hpb : p ≠ b := by rintro rfl; rw [hp] at hb; injection hb with hb; injection hb with hb; revert hb; decide
  have hp2 := k2.ob (a3.ob hp (fun hm => by
    obtain ⟨_, cs, hc⟩ := hqq.lt p hm
    rw [hp] at hc; injection hc with hc; injection hc with hc; revert hc; decide)) (by simpa using hpb)
  rw [ld_t1 f2.hk, Option.bind_some, ld_w0 hp2, Option.bind_some]
  have hput := put_int (enc := fun k : Key => sk k) f2.hj ho (by omega) key
  rw [hput, Option.bind_some]
  have k3 := Kp.set H2 j (.map (.int .i64) (ents ik sk (putA ws w.o key)))
  have hij : i ≠ j := fun e => by have := f2.hi; rw [e, f2.hj] at this; injection this with this; injection this with this; cases this
  have hne : ∀ {a : Nat} {T cs}, H2[a]? = some (.row T cs) → a ∉ [j] := fun {a T cs} ha => by
    simp
    rintro rfl
    have := f2.hj
    rw [this] at ha; injection ha with ha; cases ha
  refine ⟨_, _, rfl, k3.ob f2.hk (hne f2.hk), k3.ob f2.hi (by simpa using hij), set_at f2.hj, fun p hp => (f2.ho p hp).keep k3 (fun t ht => ?_), f2.nd, f2.lo.keep k3 (fun t ht => ?_), f2.ds, f2.nk⟩
  · obtain ⟨T, cs, hc, _⟩ := (f2.ho p hp).ty t ht
    exact hne hc
  · obtain ⟨T, cs, hc, _⟩ := f2.lo.ty t ht
    exact hne hc
theorem atP_drop (up : Bool) (q : List Wt) {i : Nat} {w : Wt} (hw : q[i]? = some w) : atP up (q.drop i) = cond (!up || w.up) (atP up (q.drop (i + 1)) + 1) 0 := by
  rw [drop_of hw]; rfl
theorem l30 (n : Nat) {H : VH} {k b i j p : Nat} {key : Key} {Fb : List Nat} {x : Lk} {l1 l2 : List Ent} {ws : List (Int × Key)} (h : Foc H k key b Fb x i j l1 l2 ws) {w : Wt} (hp : H[p]? = some (.row (70 + boxK) (wtc w))) (hq : x.q.length < 2000) (hws : ws.length < 1000000) (ho : -9223372036854775808 ≤ w.o ∧ w.o ≤ 9223372036854775807) :
    ∀ (m c : Nat), c ≤ x.q.length → x.q.length < c + m → atP w.up x.q = c + atP w.up (x.q.drop c) →
    ∃ H' Fb', L30_0 (n + 1) m (.ob k 0) ⟨key.toArray⟩ p (.ob b 0) (c : Int) H = some (.tup [], H') ∧ Foc H' k key b Fb' ⟨x.hs, x.only, Go.Proofs.Ytgmgpandhaeniaa.Sh.Lk.insP x.q w⟩ i j l1 l2 (putA ws w.o key) := by
  intro m
  induction m with
  | zero => intros; omega
  | succ m ih =>
    intro c h1 h2 h3
    rw [L30_0_eq]
    simp only [nn_ob, atO_ob, Option.bind_some, Nat.zero_add]
    obtain ⟨s, q, hb, hs, hqq, hF⟩ := h.lo
    rw [ld_l2 hb, Option.bind_some, hqq.len, wts_len]
    have fin : atP w.up x.q = c → ∃ H' Fb', ((ldV (.flat (.slice 70)) H (.ob b 2)).bind fun x26 =>
              ((ldV (.agg [.int .i64, .bool, .bool]) H (.ob p 0)).bind fun x27 =>
                  (cond (V.stays H (hj (heldOf (.ob b 2) [.slice 70] [.sl 70 x26]) []))
                    (cond (V.stays (H ++ [.row 70 [.int .i64 x27.1, .bool x27.2.1, .bool x27.2.2.1]]) (hj (heldOf (.ob b 2) [.slice 70] [.sl 70 x26]) []))
                      ((callD (vF P tab (n + 1)) P false (.one (.flat (.slice 70))) 49 [.sl 70 x26, .int .i64 (c : Int), .sl 70 (.hp H.length 0 1)] (H ++ [.row 70 [.int .i64 x27.1, .bool x27.2.1, .bool x27.2.2.1]])).bind fun r28 =>
                        ((stV r28.2 (.ob b 2) [.sl 70 r28.1]).bind fun h31 =>
                        ((ldV (.flat .map) h31 (.ob k 1)).bind fun x34 =>
                        ((ldV (.flat (.int .i64)) h31 (.ob p 0)).bind fun x35 =>
                        ((V.putD h31 (.int .i64) x34 (.int .i64 x35) (.str ⟨key.toArray⟩)).bind fun h36 =>
                        (some (V.tup [], h36)))))))
                      none)
                    none))) = some (.tup [], H') ∧ Foc H' k key b Fb' ⟨x.hs, x.only, Go.Proofs.Ytgmgpandhaeniaa.Sh.Lk.insP x.q w⟩ i j l1 l2 (putA ws w.o key) := fun he => by
      obtain ⟨H', Fb', g1, g2⟩ := tl30 n h hp hq hws ho h1
      refine ⟨H', Fb', g1, ?_⟩
      unfold Go.Proofs.Ytgmgpandhaeniaa.Sh.Lk.insP
      rw [he]; exact g2
    by_cases hc : c < x.q.length
    · obtain ⟨y, hy⟩ := get_of hc
      rw [decide_eq_true (by omega), cond_true, ld_w2 hp, Option.bind_some]
      rw [atP_drop _ _ hy] at h3
      have next : atP w.up x.q = c + (atP w.up (x.q.drop (c + 1)) + 1) → ∃ H' Fb', L30_0 (n + 1) m (.ob k 0) ⟨key.toArray⟩ p (.ob b 0) (IntKind.wrap .i64 ((c : Int) + 1)) H = some (.tup [], H') ∧ Foc H' k key b Fb' ⟨x.hs, x.only, Go.Proofs.Ytgmgpandhaeniaa.Sh.Lk.insP x.q w⟩ i j l1 l2 (putA ws w.o key) := fun he => by
        rw [inc_nat (by omega)]
        exact ih (c + 1) (by omega) (by omega) (by omega)
      cases hup : w.up with
      | false =>
        rw [hup] at h3 next
        rw [Bool.not_false, cond_true]
        exact next h3
      | true =>
        rw [hup] at h3 next fin
        rw [Bool.not_true, cond_false, Option.bind_some, rd_up hqq hy]
        cases hyu : y.up with
        | true =>
          rw [hyu] at h3
          rw [cond_true]
          exact next h3
        | false =>
          rw [hyu] at h3
          rw [cond_false, ← ld_l2 hb]
          exact fin h3
    · rw [decide_eq_false (by omega), cond_false, ← ld_l2 hb]
      have : c = x.q.length := by omega
      rw [this, List.drop_eq_nil_of_le (Nat.le_refl _)] at h3
      exact fin (by rw [h3, this]; rfl)
theorem p30 (n : Nat) (hn : 3000 ≤ n) {H : VH} {k : Nat} {F : List Nat} {t : Tb} (h : TO H k F t) {key : Key} {x : Lk} (hx : getM t.m key = some x) (w : Wt) (hkl : key.length ≤ 9223372036854775807) (hml : t.m.length < 1000000) (hq : x.q.length < 2000) (hws : t.ws.length < 1000000) (ho : -9223372036854775808 ≤ w.o ∧ w.o ≤ 9223372036854775807) :
    ∃ H' F', V.callD (vF P tab (n + 3)) P false (.tup []) 30 [.ptr (.ob k 0), .str ⟨key.toArray⟩, .agg (wtc w)] H = some ((), H') ∧ TO H' k F' ⟨putA t.m key ⟨x.hs, x.only, Go.Proofs.Ytgmgpandhaeniaa.Sh.Lk.insP x.q w⟩, putA t.ws w.o key⟩ := by
  have main : ∃ H' F', bodyV P tab (vF P tab (n + 2)) (n + 2) 30 [.ptr (.ob k 0), .str ⟨key.toArray⟩, .agg [.int .i64 w.o, .bool w.only, .bool w.up]] H = some (.tup [], H') ∧ TO H' k F' ⟨putA t.m key ⟨x.hs, x.only, Go.Proofs.Ytgmgpandhaeniaa.Sh.Lk.insP x.q w⟩, putA t.ws w.o key⟩ := by
    rw [f30_eq]
    obtain ⟨H1, e1⟩ : ∃ H1 : VH, H1 = H ++ [VO.row (70 + boxK) (wtc w)] := ⟨_, rfl⟩
    have hw1 : H1[H.length]? = some (.row (70 + boxK) (wtc w)) := by rw [e1]; exact app_last _ _
    have k1 : Kp H H1 [] := by rw [e1]; exact Kp.app _ _
    rw [show H ++ [VO.row (70 + boxK) [.int .i64 w.o, .bool w.only, .bool w.up]] = H1 from e1.symm]
    obtain ⟨b, H2, i, j, l1, l2, Fb, a1, a2, a3, a4, a5⟩ := p26 (n + 1) (h.kn k1) key hkl hml
    rw [a1, Option.bind_some]
    simp only
    rw [lkOf_some hx] at a2 a3
    have hw2 := a4.ob hw1 (fun hm => by have := h.lt _ hm; omega)
    obtain ⟨H', Fb', c1, c2⟩ := l30 (n + 1) a2 hw2 hq hws ho (n + 2) 0 (Nat.zero_le _) (by omega) (by simp)
    obtain ⟨F', d1, _⟩ := c2.to
    refine ⟨H', F', c1, ?_⟩
    have : mF l1 key ⟨x.hs, x.only, Go.Proofs.Ytgmgpandhaeniaa.Sh.Lk.insP x.q w⟩ l2 = putA t.m key ⟨x.hs, x.only, Go.Proofs.Ytgmgpandhaeniaa.Sh.Lk.insP x.q w⟩ := by
      rw [putA_self hx] at a3
      rw [← a3]
      unfold mF
      rw [putA_mid (by rw [keys_kx]; exact a2.nk)]
    rw [this] at d1
    exact d1
  obtain ⟨H', F', h1, h2⟩ := main
  exact ⟨H', F', callD_unit (by rw [vF_body rfl]; exact h1), h2⟩
end Go.Proofs.Ytgmgpandhaeniaa
