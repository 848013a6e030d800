import Derived.Test.YtgmgpandhaeniaaB14u
set_option maxRecDepth 100000
set_option linter.unusedVariables false
set_option linter.unusedSimpArgs false
namespace Go.Proofs.Ytgmgpandhaeniaa
open Go.Proofs.Ytgmgpandhaeniaa.Sh Go.Proofs.Ytgmgpandhaeniaa.Sh.V Go.RowKit Go.Proofs.Ytgmgpandhaeniaa.Sh.Lk
theorem hr_ne {H : VH} {e T : TypeId} {sz : Nat} {s : VS} {es : List (List V)} {b : Nat} {cs : List V} (h : Hr H e sz s es) (hb : H[b]? = some (.row T cs)) (hne : T ≠ e) : b ∉ hps s := fun hm => by
  obtain ⟨_, ds, hd⟩ := h.lt b hm
  rw [hb] at hd
  injection hd with hd
  injection hd with hd
  exact hne hd
theorem hr_dis {H : VH} {e e' : TypeId} {sz sz' : Nat} {s q : VS} {es es' : List (List V)} (h : Hr H e sz s es) (h' : Hr H e' sz' q es') (hne : e ≠ e') : ∀ t ∈ hps q, t ∉ hps s := fun t ht => by
  obtain ⟨_, ds, hd⟩ := h'.lt t ht
  exact hr_ne h hd (Ne.symm hne)
theorem ld_l0 {H : VH} {b : Nat} {s q : VS} {o : Bool} (h : H[b]? = some (.row LTY [.sl 3 s, .bool o, .sl WTY q])) : ldV (.flat (.slice 3)) H (.ob b 0) = some s := by rw [ld_row h]; exact fd_sl 3 s
theorem ld_l1 {H : VH} {b : Nat} {s q : VS} {o : Bool} (h : H[b]? = some (.row LTY [.sl 3 s, .bool o, .sl WTY q])) : ldV (.flat .bool) H (.ob b 1) = some o := by rw [ld_row h]; rfl
theorem ld_l2 {H : VH} {b : Nat} {s q : VS} {o : Bool} (h : H[b]? = some (.row LTY [.sl 3 s, .bool o, .sl WTY q])) : ldV (.flat (.slice 70)) H (.ob b 2) = some q := by rw [ld_row h]; exact fd_sl 70 q
theorem st_l0 {H : VH} {b : Nat} {s q : VS} {o : Bool} (h : H[b]? = some (.row LTY [.sl 3 s, .bool o, .sl WTY q])) (s' : VS) : stV H (.ob b 0) [.sl 3 s'] = some (H.set b (.row LTY [.sl 3 s', .bool o, .sl WTY q])) := by rw [st_row h (by simp) rfl]; rfl
theorem st_l1 {H : VH} {b : Nat} {s q : VS} {o : Bool} (h : H[b]? = some (.row LTY [.sl 3 s, .bool o, .sl WTY q])) (o' : Bool) : stV H (.ob b 1) [.bool o'] = some (H.set b (.row LTY [.sl 3 s, .bool o', .sl WTY q])) := by rw [st_row h (Nat.le_of_ble_eq_true rfl) rfl]; rfl
theorem st_l2 {H : VH} {b : Nat} {s q : VS} {o : Bool} (h : H[b]? = some (.row LTY [.sl 3 s, .bool o, .sl WTY q])) (q' : VS) : stV H (.ob b 2) [.sl 70 q'] = some (H.set b (.row LTY [.sl 3 s, .bool o, .sl WTY q'])) := by rw [st_row h (Nat.le_of_ble_eq_true rfl) rfl]; rfl
theorem set_at {H : VH} {b : Nat} {o o' : VO} (h : H[b]? = some o) : (H.set b o')[b]? = some o' := List.getElem?_set_self (lt_of_ob h)
theorem app_last (H : VH) (o : VO) : (H ++ [o])[H.length]? = some o := by simp
theorem beqI (a b : Nat) : (((a : Nat) : Int) == ((b : Nat) : Int)) = decide (a = b) := by
  by_cases h : a = b
  · subst h; simp
  · rw [decide_eq_false h]
    have : ((a : Nat) : Int) ≠ (b : Int) := by omega
    simpa using this
/-! ### may -/
theorem p28 (n : Nat) {H : VH} {b : Nat} {F : List Nat} {x : Lk} (h : LO H b F x) (w : Wt) : ∃ H', V.callD (vF P tab (n + 1)) P false (.one (.flat .bool)) 28 [.ptr (.ob b 0), .agg (wtc w)] H = some (mayP x w, H') ∧ Kp H H' [] := by
  refine ⟨_, callD_bool ?_, Kp.app H [.row (70 + boxK) (wtc w)]⟩
  rw [vF_body rfl]
  show bodyV P tab (vF P tab n) n 28 [.ptr (.ob b 0), .agg [.int .i64 w.o, .bool w.only, .bool w.up]] H = _
  rw [f28_eq]
  have h1 : (H ++ [VO.row (70 + boxK) (wtc w)])[H.length]? = some (.row (70 + boxK) (wtc w)) := app_last _ _
  obtain ⟨s, q, hb, hs, hq, rfl⟩ := h
  have h2 := (Kp.app H [.row (70 + boxK) (wtc w)]).ob hb (by simp)
  rw [show [VO.row (70 + boxK) [.int .i64 w.o, .bool w.only, .bool w.up]] = [VO.row (70 + boxK) (wtc w)] from rfl]
  simp only [nn, atO, Option.bind_some, Nat.zero_add]
  rw [ld_w2 h1, Option.bind_some, ld_w1 h1, Option.bind_some, ld_l0 h2, Option.bind_some, Option.bind_some, ld_l1 h2, Option.bind_some, hs.len, ints_len]
  unfold mayP
  have e1 : (((x.hs.length : Nat) : Int) == 1) = decide (x.hs.length = 1) := beqI _ 1
  have e0 : (((x.hs.length : Nat) : Int) == 0) = decide (x.hs.length = 0) := beqI _ 0
  rw [e1, e0]
  cases w.up <;> cases w.only <;> rfl
/-! ### give -/
theorem p29 (n : Nat) {H : VH} {b : Nat} {F : List Nat} {x : Lk} (h : LO H b F x) (w : Wt) (hl : x.hs.length < 2000) : ∃ H' F', V.callD (vF P tab (n + 2)) P false (.tup []) 29 [.ptr (.ob b 0), .agg (wtc w)] H = some ((), H') ∧ LO H' b F' (giveP x w) ∧ Kp H H' F ∧ (∀ t ∈ F', t ∈ F ∨ H.length ≤ t) := by
  have main : ∃ H' F', bodyV P tab (vF P tab (n + 1)) (n + 1) 29 [.ptr (.ob b 0), .agg [.int .i64 w.o, .bool w.only, .bool w.up]] H = some (.tup [], H') ∧ LO H' b F' (giveP x w) ∧ Kp H H' F ∧ (∀ t ∈ F', t ∈ F ∨ H.length ≤ t) := by
    rw [f29_eq]
    obtain ⟨s, q, hb, hs, hq, rfl⟩ := h
    obtain ⟨H1, e1⟩ : ∃ H1 : VH, H1 = H ++ [VO.row (70 + boxK) (wtc w)] := ⟨_, rfl⟩
    have hw1 : H1[H.length]? = some (.row (70 + boxK) (wtc w)) := by rw [e1]; exact app_last _ _
    have k1 : Kp H H1 [] := by rw [e1]; exact Kp.app _ _
    have hL1 : H1.length = H.length + 1 := by rw [e1]; simp
    rw [show H ++ [VO.row (70 + boxK) [.int .i64 w.o, .bool w.only, .bool w.up]] = H1 from e1.symm]
    have hb1 := k1.ob hb (by simp)
    have hs1 := hs.keep k1 (fun t _ => by simp)
    have hq1 := hq.keep k1 (fun t _ => by simp)
    simp only [nn, atO, Option.bind_some, Nat.zero_add]
    rw [ld_w2 hw1, Option.bind_some]
    cases hup : w.up with
    | false =>
      rw [Bool.not_false, cond_true, ld_l0 hb1, Option.bind_some, ld_w0 hw1, Option.bind_some, stays_s (ld_l0 hb1), cond_true]
      obtain ⟨H2, e2⟩ : ∃ H2 : VH, H2 = List.append (α := VO) H1 [VO.row 3 [.int .i64 w.o]] := ⟨_, rfl⟩
      rw [← e2]
      have e2' : H2 = H1 ++ [VO.row 3 [.int .i64 w.o]] := e2
      have k2 : Kp H1 H2 [] := by rw [e2']; exact Kp.app _ _
      have hb2 := k2.ob hb1 (by simp)
      rw [stays_s (ld_l0 hb2), cond_true]
      have hone : slEs H2 3 1 (.hp H1.length 0 1) = some [[.int .i64 w.o]] := by rw [e2']; exact new_one H1 3 rfl rfl
      obtain ⟨s', H3, a1, a2, a3, a4⟩ := (hs1.keep k2 (fun t _ => by simp)).app (by_ := 8) (x := .hp H1.length 0 1) (news := ints [w.o]) rfl hone (fun y hy => by rw [List.mem_singleton.1 hy]; rfl) (by rw [ints_len]; simp [ints, bound]; omega) (by rw [ints_len]; simp [ints, bound]; omega)
      rw [a1, Option.bind_some]
      rw [← ints_app] at a2
      simp only
      have hb3 := a3.ob hb2 (hr_ne (hs1.keep k2 (fun t _ => by simp)) hb2 (by decide))
      have hq3 := (hq1.keep k2 (fun t _ => by simp)).keep a3 (hr_dis (hs1.keep k2 (fun t _ => by simp)) (hq1.keep k2 (fun t _ => by simp)) (by decide))
      rw [st_l0 hb3, Option.bind_some]
      obtain ⟨H4, e4⟩ : ∃ H4 : VH, H4 = H3.set b (.row LTY [.sl 3 s', .bool x.only, .sl WTY q]) := ⟨_, rfl⟩
      rw [← e4]
      have hb4 : H4[b]? = some (.row LTY [.sl 3 s', .bool x.only, .sl WTY q]) := by rw [e4]; exact set_at hb3
      have k4 : Kp H3 H4 [b] := by rw [e4]; exact Kp.set _ _ _
      have hs4 := a2.keep k4 (fun t ht => by simp; rintro rfl; exact hr_ne a2 hb3 (by decide) ht)
      have hq4 := hq3.keep k4 (fun t ht => by simp; rintro rfl; exact hr_ne hq3 hb3 (by decide) ht)
      rw [ld_l0 hb4, Option.bind_some]
      obtain ⟨H5, c1, c2, c3, c4⟩ := hs4.sort (e1 := 3) (by simp; omega) (.inr (by simp))
      have hc : V.callD (vF P tab (n + 1)) P false (.tup []) 36 [.sl 3 s'] H4 = some ((), H5) := by
        refine callD_unit ?_
        rw [vF_body rfl]
        exact c1
      rw [hc, Option.bind_some]
      simp only
      have hb5 := c3.ob hb4 (hr_ne hs4 hb4 (by decide))
      have hq5 := hq4.keep c3 (hr_dis hs4 hq4 (by decide))
      have hw5 : H5[H.length]? = some (.row (70 + boxK) (wtc w)) := by
        have q1 := k2.ob hw1 (by simp)
        have q2 := a3.ob q1 (hr_ne (hs1.keep k2 (fun t _ => by simp)) q1 (by decide))
        have q3 := k4.ob q2 (by simp; have := lt_of_ob hb; omega)
        exact c3.ob q3 (hr_ne hs4 q3 (by decide))
      rw [ld_w1 hw5, Option.bind_some, st_l1 hb5, Option.bind_some]
      have k6 : Kp H5 (H5.set b (.row LTY [.sl 3 s', .bool w.only, .sl WTY q])) [b] := Kp.set _ _ _
      have kk : Kp H (H5.set b (.row LTY [.sl 3 s', .bool w.only, .sl WTY q])) (b :: (hps s ++ hps q)) := by
        have z1 : Kp H H3 (b :: (hps s ++ hps q)) := ((k1.trans k2 (Z := []) (fun x hx _ => hx) (fun x hx _ => hx)).trans a3 (fun x hx _ => by cases hx) (fun x hx _ => by simp [hx]))
        have z2 : Kp H H4 (b :: (hps s ++ hps q)) := z1.trans k4 (fun x hx _ => hx) (fun x hx _ => by simp at hx; simp [hx])
        have z3 : Kp H H5 (b :: (hps s ++ hps q)) := z2.trans c3 (fun x hx _ => hx) (fun x hx hlt => by
          rcases a4 x hx with h | h
          · simp [h]
          · exact absurd hlt (by have := k1.len; have := k2.len; omega))
        exact z3.trans k6 (fun x hx _ => hx) (fun x hx _ => by simp at hx; simp [hx])
      refine ⟨_, _, rfl, ⟨s', q, set_at hb5, ?_, hq5.keep k6 (fun t ht => by simp; rintro rfl; exact hr_ne hq5 hb5 (by decide) ht), rfl⟩, kk, fun t ht => ?_⟩
      · have := c2.keep k6 (fun t ht => by simp; rintro rfl; exact hr_ne c2 hb5 (by decide) ht)
        unfold giveP
        rw [hup]
        exact this
      · rcases List.mem_cons.1 ht with rfl | ht
        · simp
        · rcases List.mem_append.1 ht with ht | ht
          · rcases a4 t ht with h | h
            · simp [h]
            · exact .inr (by have := k1.len; have := k2.len; omega)
          · simp [ht]
    | true =>
      rw [Bool.not_true, cond_false, ld_w1 hw1, Option.bind_some, st_l1 hb1, Option.bind_some]
      have k6 : Kp H1 (H1.set b (.row LTY [.sl 3 s, .bool w.only, .sl WTY q])) [b] := Kp.set _ _ _
      refine ⟨_, _, rfl, ⟨s, q, set_at hb1, ?_, hq1.keep k6 (fun t ht => by simp; rintro rfl; exact hr_ne hq1 hb1 (by decide) ht), rfl⟩, k1.trans k6 (fun x hx _ => by cases hx) (fun x hx _ => by simp at hx; simp [hx]), fun t ht => .inl ht⟩
      have := hs1.keep k6 (fun t ht => by simp; rintro rfl; exact hr_ne hs1 hb1 (by decide) ht)
      unfold giveP
      rw [hup]
      exact this
  obtain ⟨H', F', h1, h2⟩ := main
  exact ⟨H', F', callD_unit (by rw [vF_body rfl]; exact h1), h2⟩
end Go.Proofs.Ytgmgpandhaeniaa
