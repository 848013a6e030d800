import Derived.Test.YtibdinelkpbhaaaEq
set_option maxRecDepth 100000
set_option linter.unusedVariables false
set_option linter.unusedSimpArgs false
namespace Go.Proofs.Ytibdinelkpbhaaa
open Go.Proofs.Ytibdinelkpbhaaa.Sh Go.Proofs.Ytibdinelkpbhaaa.Sh.V Go.RowKit Go.Proofs.Ytibdinelkpbhaaa.Sh.Lk
theorem stays_step {H : VH} {p : VP} {τ : V.FT} {x : τ.T} (h : ldV (.flat τ) H p = some x) (r : Held) : V.stays H ((p, τ, V.fenc τ x) :: r) = V.stays H r := by
  rw [V.stays_cons, h]
  simp only [V.same_self, Bool.true_and]
theorem stays_s {H : VH} {i off : Nat} {e : TypeId} {x : VS} (h : ldV (.flat (.slice e)) H (.ob i off) = some x) : V.stays H (hj (heldOf (.ob i off) [.slice e] [.sl e x]) []) = true := stays_step (τ := .slice e) h []
/-! ### Waiters, locks, tables in the heap -/
abbrev WTY : TypeId := 66
abbrev LTY : TypeId := 64 + boxK
abbrev TTY : TypeId := 58 + boxK
def wtc (w : Wt) : List V := [.int .i64 w.o, .bool w.only, .bool w.up]
def wts (q : List Wt) : List (List V) := q.map wtc
theorem wts_len (q : List Wt) : (wts q).length = q.length := by simp [wts]
theorem wts_get {q : List Wt} {i : Nat} {w : Wt} (h : q[i]? = some w) : (wts q)[i]? = some (wtc w) := by simp [wts, h]
theorem dec_w (w : Wt) : V.decs [.int .i64, .bool, .bool] (wtc w) = some (w.o, w.only, w.up, ()) := rfl
/-- A lock in the object b. -/
def LO (H : VH) (b : Nat) (F : List Nat) (x : Lk) : Prop := ∃ s q, H[b]? = some (.row LTY [.sl 3 s, .bool x.only, .sl WTY q]) ∧ Hr H 3 1 s (ints x.hs) ∧ Hr H WTY 3 q (wts x.q) ∧ F = b :: (hps s ++ hps q)
theorem LO.ty {H : VH} {b : Nat} {F : List Nat} {x : Lk} (h : LO H b F x) : ∀ t ∈ F, ∃ T cs, H[t]? = some (.row T cs) ∧ (T = LTY ∨ T = 3 ∨ T = WTY) := by
  obtain ⟨s, q, h1, h2, h3, rfl⟩ := h
  intro t ht
  rcases List.mem_cons.1 ht with rfl | ht
  · exact ⟨_, _, h1, .inl rfl⟩
  · rcases List.mem_append.1 ht with ht | ht
    · obtain ⟨_, cs, hc⟩ := h2.lt t ht
      exact ⟨_, cs, hc, .inr (.inl rfl)⟩
    · obtain ⟨_, cs, hc⟩ := h3.lt t ht
      exact ⟨_, cs, hc, .inr (.inr rfl)⟩
theorem LO.lt {H : VH} {b : Nat} {F : List Nat} {x : Lk} (h : LO H b F x) : ∀ t ∈ F, t < H.length := fun t ht => by
  obtain ⟨T, cs, h1, _⟩ := h.ty t ht
  exact lt_of_ob h1
theorem LO.keep {H H' : VH} {X : List Nat} {b : Nat} {F : List Nat} {x : Lk} (h : LO H b F x) (k : Kp H H' X) (hx : ∀ t ∈ F, t ∉ X) : LO H' b F x := by
  obtain ⟨s, q, h1, h2, h3, rfl⟩ := h
  exact ⟨s, q, k.ob h1 (hx b (List.mem_cons_self ..)), h2.keep k (fun t ht => hx t (List.mem_cons_of_mem _ (List.mem_append_left _ ht))), h3.keep k (fun t ht => hx t (List.mem_cons_of_mem _ (List.mem_append_right _ ht))), rfl⟩
theorem LO.kn {H H' : VH} {b : Nat} {F : List Nat} {x : Lk} (h : LO H b F x) (k : Kp H H' []) : LO H' b F x := h.keep k (fun t _ => by simp)
/-! ### Is a number in a list? -/
theorem l48 (n : Nat) {H : VH} {s : VS} {l : List Int} (hs : Hr H 3 1 s (ints l)) (x : Int) (hl : l.length < 100000) : ∀ (m j : Nat), j ≤ l.length → l.length < j + m →
    ∃ r : Int, L45_0 n m s x (l.length : Int) (j : Int) H = some (.int .i64 r, H) ∧ (decide (r ≥ 0) = (l.drop j).contains x) := by
  intro m
  induction m with
  | zero => intro j h1 h2; omega
  | succ m ih =>
    intro j h1 h2
    rw [L45_0_eq]
    by_cases hj : j < l.length
    · obtain ⟨y, hy⟩ := get_of hj
      obtain ⟨hlt, he⟩ := List.getElem?_eq_some_iff.1 hy
      have hd : l.drop j = y :: l.drop (j + 1) := by rw [List.drop_eq_getElem_cons hlt, he]
      rw [decide_eq_true (by omega), cond_true, hs.rd1 (τ := .int .i64) (ints_get hy) (fd_int .i64 y), inc_nat (by omega), hd]
      by_cases hxy : x = y
      · subst hxy
        have : ((x : Int) == x) = true := by simp
        rw [this, cond_true]
        refine ⟨_, rfl, ?_⟩
        rw [decide_eq_true (by omega), List.contains_cons]
        simp
      · have : ((x : Int) == y) = false := by simpa using hxy
        rw [this, cond_false]
        obtain ⟨r, g1, g2⟩ := ih (j + 1) (by omega) (by omega)
        refine ⟨r, g1, ?_⟩
        rw [g2, List.contains_cons, this, Bool.false_or]
    · rw [decide_eq_false (by omega), cond_false]
      refine ⟨-1, rfl, ?_⟩
      rw [List.drop_eq_nil_of_le (by omega)]; rfl
theorem p27 (n : Nat) (hn : 3000 ≤ n) {H : VH} {s : VS} {l : List Int} (hs : Hr H 3 1 s (ints l)) (x : Int) (hl : l.length < 2000) :
    V.callD (vF P tab (n + 2)) P false (.one (.flat .bool)) 25 [.sl 3 s, .int .i64 x] H = some (l.contains x, H) := by
  refine callD_bool ?_
  obtain ⟨r, h1, h2⟩ := l48 n hs x (by omega) n 0 (Nat.zero_le _) (by omega)
  have hc : V.callD (vF P tab (n + 1)) P false (.one (.flat (.int .i64))) 45 [.sl 3 s, .int .i64 x] H = some (r, H) := by
    refine callD_int ?_
    rw [vF_body rfl, f45_eq, hs.len, ints_len]
    exact h1
  rw [vF_body rfl, f25_eq, hc, Option.bind_some]
  simp only
  rw [h2, List.drop_zero]
/-! ### Numbers that go -/
theorem drop_of {α : Type} {l : List α} {j : Nat} {y : α} (hy : l[j]? = some y) : l.drop j = y :: l.drop (j + 1) := by
  obtain ⟨hlt, he⟩ := List.getElem?_eq_some_iff.1 hy
  rw [List.drop_eq_getElem_cons hlt, he]
theorem ints_set (l : List Int) (i : Nat) (x : Int) : ints (l.set i x) = (ints l).set i [ik x] := by simp [ints, List.map_set]
theorem ints_take (l : List Int) (i : Nat) : ints (l.take i) = (ints l).take i := by simp [ints]
theorem elem3 : elemOf? P 29 = some 3 := by kernel_rfl
theorem zero3 : zeroV P 3 = some [.int .i64 0] := by kernel_rfl
/-! ### Waiters that go -/
theorem rd_w {H : VH} {s : VS} {q : List Wt} (hs : Hr H WTY 3 s (wts q)) {i : Nat} {w : Wt} (hw : q[i]? = some w) {β : Type} (f : V.aggT [.int .i64, .bool, .bool] → Option β) : ((ixV 3 s (i : Int)).bind fun p => (ldV (.agg [.int .i64, .bool, .bool]) H p).bind f) = f (w.o, w.only, w.up, ()) := hs.rd (wts_get hw) rfl (dec_w w) f
theorem wts_set (l : List Wt) (i : Nat) (x : Wt) : wts (l.set i x) = (wts l).set i (wtc x) := by simp [wts, List.map_set]
theorem wts_take (l : List Wt) (i : Nat) : wts (l.take i) = (wts l).take i := by simp [wts]
theorem wts_drop (l : List Wt) (i : Nat) : wts (l.drop i) = (wts l).drop i := by simp [wts]
/-- A copy in a new object. -/
theorem new_w (H : VH) (w : Wt) : ∃ H', stV (H ++ [.row (66 + boxK) [.int .i64 0, .bool false, .bool false]]) (.ob H.length 0) [.int .i64 w.o, .bool w.only, .bool w.up] = some H' ∧ H'[H.length]? = some (.row (66 + boxK) (wtc w)) ∧ Kp H H' [] ∧ H'.length = H.length + 1 := by
  have h0 : (H ++ [VO.row (66 + boxK) [.int .i64 0, .bool false, .bool false]])[H.length]? = some (.row (66 + boxK) [.int .i64 0, .bool false, .bool false]) := by simp
  refine ⟨_, st_row h0 (by simp) rfl, ?_, ?_, by simp⟩
  · rw [List.getElem?_set_self (by simp)]; rfl
  · exact ⟨by simp, fun i hi _ => by rw [List.getElem?_set_ne (by omega), List.getElem?_append_left hi]⟩
theorem ld_w {H : VH} {i : Nat} {w : Wt} {T : TypeId} (h : H[i]? = some (.row T (wtc w))) : ldV (.agg [.int .i64, .bool, .bool]) H (.ob i 0) = some (w.o, w.only, w.up, ()) := by
  simp only [ldV, rowV_of h, Option.bind_some]
  have : takeN 0 [V.FT.int .i64, V.FT.bool, V.FT.bool].length (wtc w) = some (wtc w) := rfl
  rw [this, Option.bind_some, dec_w]
theorem ld_w0 {H : VH} {i : Nat} {w : Wt} {T : TypeId} (h : H[i]? = some (.row T (wtc w))) : ldV (.flat (.int .i64)) H (.ob i 0) = some w.o := by rw [ld_row h]; exact fd_int .i64 _
theorem ld_w1 {H : VH} {i : Nat} {w : Wt} {T : TypeId} (h : H[i]? = some (.row T (wtc w))) : ldV (.flat .bool) H (.ob i 1) = some w.only := by rw [ld_row h]; rfl
theorem ld_w2 {H : VH} {i : Nat} {w : Wt} {T : TypeId} (h : H[i]? = some (.row T (wtc w))) : ldV (.flat .bool) H (.ob i 2) = some w.up := by rw [ld_row h]; rfl
theorem hr_ne {H : VH} {e T : TypeId} {sz : Nat} {s : VS} {es : List (List V)} {b : Nat} {cs : List V} (h : Hr H e sz s es) (hb : H[b]? = some (.row T cs)) (hne : T ≠ e) : b ∉ hps s := fun hm => by
  obtain ⟨_, ds, hd⟩ := h.lt b hm
  rw [hb] at hd
  injection hd with hd
  injection hd with hd
  exact hne hd
theorem hr_dis {H : VH} {e e' : TypeId} {sz sz' : Nat} {s q : VS} {es es' : List (List V)} (h : Hr H e sz s es) (h' : Hr H e' sz' q es') (hne : e ≠ e') : ∀ t ∈ hps q, t ∉ hps s := fun t ht => by
  obtain ⟨_, ds, hd⟩ := h'.lt t ht
  exact hr_ne h hd (Ne.symm hne)
theorem ld_l0 {H : VH} {b : Nat} {s q : VS} {o : Bool} (h : H[b]? = some (.row LTY [.sl 3 s, .bool o, .sl WTY q])) : ldV (.flat (.slice 3)) H (.ob b 0) = some s := by rw [ld_row h]; exact fd_sl 3 s
theorem ld_l1 {H : VH} {b : Nat} {s q : VS} {o : Bool} (h : H[b]? = some (.row LTY [.sl 3 s, .bool o, .sl WTY q])) : ldV (.flat .bool) H (.ob b 1) = some o := by rw [ld_row h]; rfl
theorem ld_l2 {H : VH} {b : Nat} {s q : VS} {o : Bool} (h : H[b]? = some (.row LTY [.sl 3 s, .bool o, .sl WTY q])) : ldV (.flat (.slice 66)) H (.ob b 2) = some q := by rw [ld_row h]; exact fd_sl 70 q
theorem st_l0 {H : VH} {b : Nat} {s q : VS} {o : Bool} (h : H[b]? = some (.row LTY [.sl 3 s, .bool o, .sl WTY q])) (s' : VS) : stV H (.ob b 0) [.sl 3 s'] = some (H.set b (.row LTY [.sl 3 s', .bool o, .sl WTY q])) := by rw [st_row h (by simp) rfl]; rfl
theorem st_l1 {H : VH} {b : Nat} {s q : VS} {o : Bool} (h : H[b]? = some (.row LTY [.sl 3 s, .bool o, .sl WTY q])) (o' : Bool) : stV H (.ob b 1) [.bool o'] = some (H.set b (.row LTY [.sl 3 s, .bool o', .sl WTY q])) := by rw [st_row h (Nat.le_of_ble_eq_true rfl) rfl]; rfl
theorem st_l2 {H : VH} {b : Nat} {s q : VS} {o : Bool} (h : H[b]? = some (.row LTY [.sl 3 s, .bool o, .sl WTY q])) (q' : VS) : stV H (.ob b 2) [.sl 66 q'] = some (H.set b (.row LTY [.sl 3 s, .bool o, .sl WTY q'])) := by rw [st_row h (Nat.le_of_ble_eq_true rfl) rfl]; rfl
theorem set_at {H : VH} {b : Nat} {o o' : VO} (h : H[b]? = some o) : (H.set b o')[b]? = some o' := List.getElem?_set_self (lt_of_ob h)
theorem app_last (H : VH) (o : VO) : (H ++ [o])[H.length]? = some o := by simp
theorem beqI (a b : Nat) : (((a : Nat) : Int) == ((b : Nat) : Int)) = decide (a = b) := by
  by_cases h : a = b
  · subst h; simp
  · rw [decide_eq_false h]
    have : ((a : Nat) : Int) ≠ (b : Int) := by omega
    simpa using this
/-! ### may -/
theorem p28 (n : Nat) {H : VH} {b : Nat} {F : List Nat} {x : Lk} (h : LO H b F x) (w : Wt) : ∃ H', V.callD (vF P tab (n + 1)) P false (.one (.flat .bool)) 26 [.ptr (.ob b 0), .agg (wtc w)] H = some (mayP x w, H') ∧ Kp H H' [] := by
  refine ⟨_, callD_bool ?_, Kp.app H [.row (66 + boxK) (wtc w)]⟩
  rw [vF_body rfl]
  show bodyV P tab (vF P tab n) n 26 [.ptr (.ob b 0), .agg [.int .i64 w.o, .bool w.only, .bool w.up]] H = _
  rw [f26_eq]
  have h1 : (H ++ [VO.row (66 + boxK) (wtc w)])[H.length]? = some (.row (66 + boxK) (wtc w)) := app_last _ _
  obtain ⟨s, q, hb, hs, hq, rfl⟩ := h
  have h2 := (Kp.app H [.row (66 + boxK) (wtc w)]).ob hb (by simp)
  rw [show [VO.row (66 + boxK) [.int .i64 w.o, .bool w.only, .bool w.up]] = [VO.row (66 + boxK) (wtc w)] from rfl]
  simp only [nn, atO, Option.bind_some, Nat.zero_add]
  rw [ld_w2 h1, Option.bind_some, ld_w1 h1, Option.bind_some, ld_l0 h2, Option.bind_some, Option.bind_some, ld_l1 h2, Option.bind_some, hs.len, ints_len]
  unfold mayP
  have e1 : (((x.hs.length : Nat) : Int) == 1) = decide (x.hs.length = 1) := beqI _ 1
  have e0 : (((x.hs.length : Nat) : Int) == 0) = decide (x.hs.length = 0) := beqI _ 0
  rw [e1, e0]
  cases w.up <;> cases w.only <;> rfl
/-! ### give -/
theorem p29 (n : Nat) {H : VH} {b : Nat} {F : List Nat} {x : Lk} (h : LO H b F x) (w : Wt) (hl : x.hs.length < 2000) : ∃ H' F', V.callD (vF P tab (n + 2)) P false (.tup []) 27 [.ptr (.ob b 0), .agg (wtc w)] H = some ((), H') ∧ LO H' b F' (giveP x w) ∧ Kp H H' F ∧ (∀ t ∈ F', t ∈ F ∨ H.length ≤ t) := by
  have main : ∃ H' F', bodyV P tab (vF P tab (n + 1)) (n + 1) 27 [.ptr (.ob b 0), .agg [.int .i64 w.o, .bool w.only, .bool w.up]] H = some (.tup [], H') ∧ LO H' b F' (giveP x w) ∧ Kp H H' F ∧ (∀ t ∈ F', t ∈ F ∨ H.length ≤ t) := by
    rw [f27_eq]
    obtain ⟨s, q, hb, hs, hq, rfl⟩ := h
    obtain ⟨H1, e1⟩ : ∃ H1 : VH, H1 = H ++ [VO.row (66 + boxK) (wtc w)] := ⟨_, rfl⟩
    have hw1 : H1[H.length]? = some (.row (66 + boxK) (wtc w)) := by rw [e1]; exact app_last _ _
    have k1 : Kp H H1 [] := by rw [e1]; exact Kp.app _ _
    have hL1 : H1.length = H.length + 1 := by rw [e1]; simp
    rw [show H ++ [VO.row (66 + boxK) [.int .i64 w.o, .bool w.only, .bool w.up]] = H1 from e1.symm]
    have hb1 := k1.ob hb (by simp)
    have hs1 := hs.keep k1 (fun t _ => by simp)
    have hq1 := hq.keep k1 (fun t _ => by simp)
    simp only [nn, atO, Option.bind_some, Nat.zero_add]
    rw [ld_w2 hw1, Option.bind_some]
    cases hup : w.up with
    | false =>
      rw [Bool.not_false, cond_true, ld_l0 hb1, Option.bind_some, ld_w0 hw1, Option.bind_some, stays_s (ld_l0 hb1), cond_true]
      obtain ⟨H2, e2⟩ : ∃ H2 : VH, H2 = List.append (α := VO) H1 [VO.row 3 [.int .i64 w.o]] := ⟨_, rfl⟩
      rw [← e2]
      have e2' : H2 = H1 ++ [VO.row 3 [.int .i64 w.o]] := e2
      have k2 : Kp H1 H2 [] := by rw [e2']; exact Kp.app _ _
      have hb2 := k2.ob hb1 (by simp)
      rw [stays_s (ld_l0 hb2), cond_true]
      have hone : slEs H2 3 1 (.hp H1.length 0 1) = some [[.int .i64 w.o]] := by rw [e2']; exact new_one H1 3 rfl rfl
      obtain ⟨s', H3, a1, a2, a3, a4⟩ := (hs1.keep k2 (fun t _ => by simp)).app (by_ := 8) (x := .hp H1.length 0 1) (news := ints [w.o]) rfl hone (fun y hy => by rw [List.mem_singleton.1 hy]; rfl) (by rw [ints_len]; simp [ints, bound]; omega) (by rw [ints_len]; simp [ints, bound]; omega)
      rw [a1, Option.bind_some]
      rw [← ints_app] at a2
      simp only
      have hb3 := a3.ob hb2 (hr_ne (hs1.keep k2 (fun t _ => by simp)) hb2 (by decide))
      have hq3 := (hq1.keep k2 (fun t _ => by simp)).keep a3 (hr_dis (hs1.keep k2 (fun t _ => by simp)) (hq1.keep k2 (fun t _ => by simp)) (by decide))
      rw [st_l0 hb3, Option.bind_some]
      obtain ⟨H4, e4⟩ : ∃ H4 : VH, H4 = H3.set b (.row LTY [.sl 3 s', .bool x.only, .sl WTY q]) := ⟨_, rfl⟩
      rw [← e4]
      have hb4 : H4[b]? = some (.row LTY [.sl 3 s', .bool x.only, .sl WTY q]) := by rw [e4]; exact set_at hb3
      have k4 : Kp H3 H4 [b] := by rw [e4]; exact Kp.set _ _ _
      have hs4 := a2.keep k4 (fun t ht => by simp; rintro rfl; exact hr_ne a2 hb3 (by decide) ht)
      have hq4 := hq3.keep k4 (fun t ht => by simp; rintro rfl; exact hr_ne hq3 hb3 (by decide) ht)
      rw [ld_l0 hb4, Option.bind_some]
      obtain ⟨H5, c1, c2, c3, c4⟩ := hs4.sort (e1 := 3) (by simp; omega) (.inr (by simp))
      have hc : V.callD (vF P tab (n + 1)) P false (.tup []) 31 [.sl 3 s'] H4 = some ((), H5) := by
        refine callD_unit ?_
        rw [vF_body rfl]
        exact c1
      rw [hc, Option.bind_some]
      simp only
      have hb5 := c3.ob hb4 (hr_ne hs4 hb4 (by decide))
      have hq5 := hq4.keep c3 (hr_dis hs4 hq4 (by decide))
      have hw5 : H5[H.length]? = some (.row (66 + boxK) (wtc w)) := by
        have q1 := k2.ob hw1 (by simp)
        have q2 := a3.ob q1 (hr_ne (hs1.keep k2 (fun t _ => by simp)) q1 (by decide))
        have q3 := k4.ob q2 (by simp; have := lt_of_ob hb; omega)
        exact c3.ob q3 (hr_ne hs4 q3 (by decide))
      rw [ld_w1 hw5, Option.bind_some, st_l1 hb5, Option.bind_some]
      have k6 : Kp H5 (H5.set b (.row LTY [.sl 3 s', .bool w.only, .sl WTY q])) [b] := Kp.set _ _ _
      have kk : Kp H (H5.set b (.row LTY [.sl 3 s', .bool w.only, .sl WTY q])) (b :: (hps s ++ hps q)) := by
        have z1 : Kp H H3 (b :: (hps s ++ hps q)) := ((k1.trans k2 (Z := []) (fun x hx _ => hx) (fun x hx _ => hx)).trans a3 (fun x hx _ => by cases hx) (fun x hx _ => by simp [hx]))
        have z2 : Kp H H4 (b :: (hps s ++ hps q)) := z1.trans k4 (fun x hx _ => hx) (fun x hx _ => by simp at hx; simp [hx])
        have z3 : Kp H H5 (b :: (hps s ++ hps q)) := z2.trans c3 (fun x hx _ => hx) (fun x hx hlt => by
          rcases a4 x hx with h | h
          · simp [h]
          · exact absurd hlt (by have := k1.len; have := k2.len; omega))
        exact z3.trans k6 (fun x hx _ => hx) (fun x hx _ => by simp at hx; simp [hx])
      refine ⟨_, _, rfl, ⟨s', q, set_at hb5, ?_, hq5.keep k6 (fun t ht => by simp; rintro rfl; exact hr_ne hq5 hb5 (by decide) ht), rfl⟩, kk, fun t ht => ?_⟩
      · have := c2.keep k6 (fun t ht => by simp; rintro rfl; exact hr_ne c2 hb5 (by decide) ht)
        unfold giveP
        rw [hup]
        exact this
      · rcases List.mem_cons.1 ht with rfl | ht
        · simp
        · rcases List.mem_append.1 ht with ht | ht
          · rcases a4 t ht with h | h
            · simp [h]
            · exact .inr (by have := k1.len; have := k2.len; omega)
          · simp [ht]
    | true =>
      rw [Bool.not_true, cond_false, ld_w1 hw1, Option.bind_some, st_l1 hb1, Option.bind_some]
      have k6 : Kp H1 (H1.set b (.row LTY [.sl 3 s, .bool w.only, .sl WTY q])) [b] := Kp.set _ _ _
      refine ⟨_, _, rfl, ⟨s, q, set_at hb1, ?_, hq1.keep k6 (fun t ht => by simp; rintro rfl; exact hr_ne hq1 hb1 (by decide) ht), rfl⟩, k1.trans k6 (fun x hx _ => by cases hx) (fun x hx _ => by simp at hx; simp [hx]), fun t ht => .inl ht⟩
      have := hs1.keep k6 (fun t ht => by simp; rintro rfl; exact hr_ne hs1 hb1 (by decide) ht)
      unfold giveP
      rw [hup]
      exact this
  obtain ⟨H', F', h1, h2⟩ := main
  exact ⟨H', F', callD_unit (by rw [vF_body rfl]; exact h1), h2⟩
theorem w2 (a b : Nat) (h : a + b < 100000) : IntKind.wrap .i64 (((a : Nat) : Int) + ((b : Nat) : Int)) = ((a + b : Nat) : Int) := by rw [i64_in (by omega)]; omega
theorem ltI (a b : Nat) : decide (((a : Nat) : Int) < ((b : Nat) : Int)) = decide (a < b) := decide_eq_decide.2 (by omega)
theorem fl_len {α : Type} (p : α → Bool) (l : List α) : (l.filter p).length ≤ l.length := List.length_filter_le _ _
/-! ### The table -/
structure Ent where
  k : Key
  b : Nat
  F : List Nat
  x : Lk
def pv (b : Nat) : V := .ptr (.ob b 0)
def kb (p : Ent) : Key × Nat := (p.k, p.b)
def kx (p : Ent) : Key × Lk := (p.k, p.x)
def foot (l : List Ent) : List Nat := l.flatMap (·.F)
theorem foot_app (a b : List Ent) : foot (a ++ b) = foot a ++ foot b := by simp [foot]
theorem mem_foot {l : List Ent} {t : Nat} : t ∈ foot l ↔ ∃ p ∈ l, t ∈ p.F := by simp [foot]
def TO (H : VH) (k : Nat) (F : List Nat) (t : Tb) : Prop := ∃ (i j : Nat) (tl : List Ent), H[k]? = some (.row TTY [.map (some i), .map (some j)]) ∧ H[i]? = some (.map .str (ents sk pv (tl.map kb))) ∧ H[j]? = some (.map (.int .i64) (ents ik sk t.ws)) ∧
  t.m = tl.map kx ∧ (∀ p ∈ tl, LO H p.b p.F p.x) ∧ (foot tl).Nodup ∧ F = k :: i :: j :: foot tl
theorem hps_nd (s : VS) : (hps s).Nodup := by cases s <;> simp [hps]
theorem LO.nd {H : VH} {b : Nat} {F : List Nat} {x : Lk} (h : LO H b F x) : F.Nodup := by
  obtain ⟨s, q, h1, h2, h3, rfl⟩ := h
  rw [List.nodup_cons, List.nodup_append]
  refine ⟨fun hm => ?_, hps_nd _, hps_nd _, fun a ha c hc e => ?_⟩
  · rcases List.mem_append.1 hm with hm | hm
    · exact hr_ne h2 h1 (by decide) hm
    · exact hr_ne h3 h1 (by decide) hm
  · subst e
    exact hr_dis h2 h3 (by decide) a hc ha
/-! ### Lists of pairs -/
section
variable {A : Type}
theorem getM_mid {m1 m2 : List (Key × A)} {k : Key} {a : A} (h : k ∉ m1.map (·.1)) : getM (m1 ++ (k, a) :: m2) k = some a := by
  induction m1 with
  | nil => simp [getM]
  | cons p m ih =>
    obtain ⟨k0, a0⟩ := p
    simp only [List.map_cons, List.mem_cons, not_or] at h
    rw [List.cons_append, getM_cons, if_neg h.1, ih h.2]
theorem putA_mid {m1 m2 : List (Key × A)} {k : Key} {a : A} (h : k ∉ m1.map (·.1)) (a' : A) : putA (m1 ++ (k, a) :: m2) k a' = m1 ++ (k, a') :: m2 := by
  induction m1 with
  | nil => simp [putA]
  | cons p m ih =>
    obtain ⟨k0, a0⟩ := p
    simp only [List.map_cons, List.mem_cons, not_or] at h
    rw [List.cons_append, putA, if_neg h.1, ih h.2, List.cons_append]
theorem cutA_mid {m1 m2 : List (Key × A)} {k : Key} {a : A} (h : k ∉ m1.map (·.1)) : cutA (m1 ++ (k, a) :: m2) k = m1 ++ m2 := by
  induction m1 with
  | nil => simp [cutA]
  | cons p m ih =>
    obtain ⟨k0, a0⟩ := p
    simp only [List.map_cons, List.mem_cons, not_or] at h
    rw [List.cons_append, cutA, if_neg h.1, ih h.2, List.cons_append]
theorem putA_none {m : List (Key × A)} {k : Key} (h : getM m k = none) (a : A) : putA m k a = m ++ [(k, a)] := by
  induction m with
  | nil => rfl
  | cons p m ih =>
    obtain ⟨k0, a0⟩ := p
    rw [getM_cons] at h
    by_cases h1 : k = k0
    · rw [if_pos h1] at h; cases h
    · rw [if_neg h1] at h
      rw [putA, if_neg h1, ih h, List.cons_append]
theorem putA_self {m : List (Key × A)} {k : Key} {a : A} (h : getM m k = some a) : putA m k a = m := by
  induction m with
  | nil => cases h
  | cons p m ih =>
    obtain ⟨k0, a0⟩ := p
    rw [getM_cons] at h
    by_cases h1 : k = k0
    · rw [if_pos h1] at h; injection h with h; subst h h1; rw [putA, if_pos rfl]
    · rw [if_neg h1] at h
      rw [putA, if_neg h1, ih h]
end
theorem ent_find (k : Key) : ∀ tl : List Ent, (getM (tl.map kx) k = none ∧ getM (tl.map kb) k = none ∧ k ∉ tl.map (·.k)) ∨ ∃ l1 p l2, tl = l1 ++ p :: l2 ∧ p.k = k ∧ k ∉ l1.map (·.k)
  | [] => .inl ⟨rfl, rfl, by simp⟩
  | p :: tl => by
    by_cases h : k = p.k
    · exact .inr ⟨[], p, tl, rfl, h.symm, by simp⟩
    · rcases ent_find k tl with ⟨a, b, c⟩ | ⟨l1, q, l2, a, b, c⟩
      · refine .inl ⟨?_, ?_, ?_⟩
        · rw [List.map_cons]; show getM ((p.k, p.x) :: _) k = _; rw [getM_cons, if_neg h]; exact a
        · rw [List.map_cons]; show getM ((p.k, p.b) :: _) k = _; rw [getM_cons, if_neg h]; exact b
        · simp [h]; intro x hx e; exact c (by rw [← e]; exact List.mem_map_of_mem hx)
      · refine .inr ⟨p :: l1, q, l2, by rw [a]; rfl, b, ?_⟩
        simp only [List.map_cons, List.mem_cons, not_or]
        exact ⟨h, c⟩
theorem keys_kx (l : List Ent) : (l.map kx).map (·.1) = l.map (·.k) := by simp [kx]
theorem keys_kb (l : List Ent) : (l.map kb).map (·.1) = l.map (·.k) := by simp [kb]
/-! ### One lock of a table, and the rest -/
def frF (k i j : Nat) (l1 l2 : List Ent) : List Nat := k :: i :: j :: foot (l1 ++ l2)
structure Foc (H : VH) (k : Nat) (key : Key) (b : Nat) (Fb : List Nat) (x : Lk) (i j : Nat) (l1 l2 : List Ent) (ws : List (Int × Key)) : Prop where
  hk : H[k]? = some (.row TTY [.map (some i), .map (some j)])
  hi : H[i]? = some (.map .str (ents sk pv (l1.map kb ++ (key, b) :: l2.map kb)))
  hj : H[j]? = some (.map (.int .i64) (ents ik sk ws))
  ho : ∀ p ∈ l1 ++ l2, LO H p.b p.F p.x
  nd : (foot (l1 ++ l2)).Nodup
  lo : LO H b Fb x
  ds : ∀ t ∈ Fb, t ∉ foot (l1 ++ l2)
  nk : key ∉ l1.map (·.k)
def mF (l1 : List Ent) (key : Key) (x : Lk) (l2 : List Ent) : List (Key × Lk) := l1.map kx ++ (key, x) :: l2.map kx
section
variable {H H' : VH} {k b i j : Nat} {key : Key} {Fb Fb' : List Nat} {x x' : Lk} {l1 l2 : List Ent} {ws : List (Int × Key)}
theorem Foc.ft (h : Foc H k key b Fb x i j l1 l2 ws) : ∀ t ∈ foot (l1 ++ l2), ∃ T cs, H[t]? = some (.row T cs) ∧ (T = LTY ∨ T = 3 ∨ T = WTY) := fun t ht => by
  obtain ⟨p, hp, ht⟩ := mem_foot.1 ht
  exact (h.ho p hp).ty t ht
theorem Foc.fr (h : Foc H k key b Fb x i j l1 l2 ws) : ∀ t ∈ Fb, t ∉ frF k i j l1 l2 := fun t ht hm => by
  obtain ⟨T, cs, h1, h2⟩ := h.lo.ty t ht
  unfold frF at hm
  rcases List.mem_cons.1 hm with rfl | hm
  · rw [h.hk] at h1; injection h1 with h1; injection h1 with h1; subst h1; revert h2; decide
  · rcases List.mem_cons.1 hm with rfl | hm
    · rw [h.hi] at h1; injection h1 with h1; cases h1
    · rcases List.mem_cons.1 hm with rfl | hm
      · rw [h.hj] at h1; injection h1 with h1; cases h1
      · exact h.ds t ht hm
theorem Foc.lt (h : Foc H k key b Fb x i j l1 l2 ws) : ∀ t ∈ frF k i j l1 l2, t < H.length := fun t hm => by
  unfold frF at hm
  rcases List.mem_cons.1 hm with rfl | hm
  · exact lt_of_ob h.hk
  · rcases List.mem_cons.1 hm with rfl | hm
    · exact lt_of_ob h.hi
    · rcases List.mem_cons.1 hm with rfl | hm
      · exact lt_of_ob h.hj
      · obtain ⟨T, cs, h1, _⟩ := h.ft t hm
        exact lt_of_ob h1
/-- The lock is another one. -/
theorem Foc.op (h : Foc H k key b Fb x i j l1 l2 ws) (kp : Kp H H' Fb) (lo : LO H' b Fb' x') (hn : ∀ t ∈ Fb', t ∈ Fb ∨ H.length ≤ t) : Foc H' k key b Fb' x' i j l1 l2 ws := by
  have hfr := h.fr
  have hlt := h.lt
  have hne : ∀ t ∈ frF k i j l1 l2, t ∉ Fb := fun t ht hm => hfr t hm ht
  refine ⟨kp.ob h.hk (hne k (by simp [frF])), kp.ob h.hi (hne i (by simp [frF])), kp.ob h.hj (hne j (by simp [frF])), fun p hp => (h.ho p hp).keep kp (fun t ht => hne t ?_), h.nd, lo, fun t ht hm => ?_, h.nk⟩
  · unfold frF
    exact List.mem_cons_of_mem _ (List.mem_cons_of_mem _ (List.mem_cons_of_mem _ (mem_foot.2 ⟨p, hp, ht⟩)))
  · have hm' : t ∈ frF k i j l1 l2 := by unfold frF; exact List.mem_cons_of_mem _ (List.mem_cons_of_mem _ (List.mem_cons_of_mem _ hm))
    rcases hn t ht with h1 | h1
    · exact hne t hm' h1
    · have := hlt t hm'; omega
theorem Foc.kn (h : Foc H k key b Fb x i j l1 l2 ws) (kp : Kp H H' []) : Foc H' k key b Fb x i j l1 l2 ws :=
  h.op (kp.weak fun x hx _ => by cases hx) (h.lo.kn kp) (fun t ht => .inl ht)
theorem foot_mid (l1 l2 : List Ent) (p : Ent) (t : Nat) : t ∈ foot (l1 ++ p :: l2) ↔ t ∈ foot (l1 ++ l2) ∨ t ∈ p.F := by
  simp only [mem_foot, List.mem_append, List.mem_cons]
  constructor
  · rintro ⟨q, h | rfl | h, ht⟩
    · exact .inl ⟨q, .inl h, ht⟩
    · exact .inr ht
    · exact .inl ⟨q, .inr h, ht⟩
  · rintro (⟨q, h | h, ht⟩ | ht)
    · exact ⟨q, .inl h, ht⟩
    · exact ⟨q, .inr (.inr h), ht⟩
    · exact ⟨p, .inr (.inl rfl), ht⟩
theorem foot_perm (l1 l2 : List Ent) (p : Ent) : (foot (l1 ++ p :: l2)).Perm (p.F ++ foot (l1 ++ l2)) := by
  simp only [foot, List.flatMap_append, List.flatMap_cons]
  rw [← List.append_assoc, ← List.append_assoc]
  exact (List.perm_append_comm).append_right _
theorem Foc.to (h : Foc H k key b Fb x i j l1 l2 ws) : ∃ F', TO H k F' ⟨mF l1 key x l2, ws⟩ ∧ ∀ t, t ∈ F' ↔ t ∈ frF k i j l1 l2 ∨ t ∈ Fb := by
  refine ⟨_, ⟨i, j, l1 ++ ⟨key, b, Fb, x⟩ :: l2, h.hk, ?_, h.hj, ?_, ?_, ?_, rfl⟩, fun t => ?_⟩
  · rw [List.map_append, List.map_cons]; exact h.hi
  · rw [List.map_append, List.map_cons]; rfl
  · intro p hp
    rcases List.mem_append.1 hp with hp | hp
    · exact h.ho p (List.mem_append_left _ hp)
    · rcases List.mem_cons.1 hp with rfl | hp
      · exact h.lo
      · exact h.ho p (List.mem_append_right _ hp)
  · rw [(foot_perm l1 l2 _).nodup_iff, List.nodup_append]
    exact ⟨h.lo.nd, h.nd, fun a ha c hc e => h.ds a ha (e ▸ hc)⟩
  · simp only [frF, List.mem_cons, foot_mid]
    constructor
    · rintro (h | h | h | h | h) <;> simp [h]
    · rintro ((h | h | h | h) | h) <;> simp [h]
/-- The lock goes. -/
theorem Foc.cut (h : Foc H k key b Fb x i j l1 l2 ws) : ∃ F', TO (H.set i (.map .str (ents sk pv (l1.map kb ++ l2.map kb)))) k F' ⟨l1.map kx ++ l2.map kx, ws⟩ ∧ ∀ t ∈ F', t ∈ frF k i j l1 l2 := by
  have hik : i ≠ k := fun e => by have := h.hi; rw [e, h.hk] at this; injection this with this; cases this
  have hij : i ≠ j := fun e => by have := h.hi; rw [e, h.hj] at this; injection this with this; injection this with this; cases this
  have kp := Kp.set H i (.map .str (ents sk pv (l1.map kb ++ l2.map kb)))
  refine ⟨_, ⟨i, j, l1 ++ l2, kp.ob h.hk (by simp; exact fun e => hik e.symm), by rw [set_at h.hi, List.map_append], kp.ob h.hj (by simp; exact fun e => hij e.symm), by rw [List.map_append], fun p hp => (h.ho p hp).keep kp (fun t ht => ?_), h.nd, rfl⟩, fun t ht => ht⟩
  simp
  rintro rfl
  obtain ⟨T, cs, h1, _⟩ := (h.ho p hp).ty t ht
  rw [h.hi] at h1; injection h1 with h1; cases h1
end
theorem TO.lt {H : VH} {k : Nat} {F : List Nat} {t : Tb} (h : TO H k F t) : ∀ a ∈ F, a < H.length := by
  obtain ⟨i, j, tl, h1, h2, h3, h4, h5, h6, rfl⟩ := h
  intro a ha
  rcases List.mem_cons.1 ha with rfl | ha
  · exact lt_of_ob h1
  · rcases List.mem_cons.1 ha with rfl | ha
    · exact lt_of_ob h2
    · rcases List.mem_cons.1 ha with rfl | ha
      · exact lt_of_ob h3
      · obtain ⟨p, hp, ht⟩ := mem_foot.1 ha
        exact (h5 p hp).lt a ht
theorem TO.keep {H H' : VH} {X : List Nat} {k : Nat} {F : List Nat} {t : Tb} (h : TO H k F t) (kp : Kp H H' X) (hx : ∀ a ∈ F, a ∉ X) : TO H' k F t := by
  obtain ⟨i, j, tl, h1, h2, h3, h4, h5, h6, rfl⟩ := h
  exact ⟨i, j, tl, kp.ob h1 (hx k (by simp)), kp.ob h2 (hx i (by simp)), kp.ob h3 (hx j (by simp)), h4, fun p hp => (h5 p hp).keep kp (fun t ht => hx t (List.mem_cons_of_mem _ (List.mem_cons_of_mem _ (List.mem_cons_of_mem _ (mem_foot.2 ⟨p, hp, ht⟩))))), h6, rfl⟩
theorem TO.kn {H H' : VH} {k : Nat} {F : List Nat} {t : Tb} (h : TO H k F t) (kp : Kp H H' []) : TO H' k F t := h.keep kp (fun a _ => by simp)
/-- What is found of a key. -/
theorem TO.find {H : VH} {k : Nat} {F : List Nat} {t : Tb} (h : TO H k F t) (key : Key) : ∃ i j : Nat, H[k]? = some (.row TTY [.map (some i), .map (some j)]) ∧ H[j]? = some (.map (.int .i64) (ents ik sk t.ws)) ∧
    ((getM t.m key = none ∧ ∃ tl : List Ent, H[i]? = some (.map .str (ents sk pv (tl.map kb))) ∧ getM (tl.map kb) key = none ∧ t.m = tl.map kx ∧ key ∉ tl.map (·.k) ∧ (∀ p ∈ tl, LO H p.b p.F p.x) ∧ (foot tl).Nodup ∧ F = k :: i :: j :: foot tl) ∨
     ∃ l1 l2 b Fb x, getM t.m key = some x ∧ Foc H k key b Fb x i j l1 l2 t.ws ∧ t.m = mF l1 key x l2 ∧ ∀ a, a ∈ F ↔ a ∈ frF k i j l1 l2 ∨ a ∈ Fb) := by
  obtain ⟨i, j, tl, h1, h2, h3, h4, h5, h6, rfl⟩ := h
  refine ⟨i, j, h1, h3, ?_⟩
  rcases ent_find key tl with ⟨a, b, c⟩ | ⟨l1, p, l2, rfl, hk, hn⟩
  · exact .inl ⟨by rw [h4]; exact a, tl, h2, b, h4, c, h5, h6, rfl⟩
  · obtain ⟨pk, pb, pF, px⟩ := p
    simp only at hk
    subst hk
    rw [(foot_perm l1 l2 _).nodup_iff, List.nodup_append] at h6
    have hm : t.m = mF l1 pk px l2 := by rw [h4, List.map_append, List.map_cons]; rfl
    refine .inr ⟨l1, l2, pb, pF, px, ?_, ⟨h1, by rw [h2, List.map_append, List.map_cons]; rfl, h3, fun p hp => h5 p ?_, h6.2.1, h5 ⟨pk, pb, pF, px⟩ (by simp), fun a ha hm => h6.2.2 a ha a hm rfl, hn⟩, hm, fun a => ?_⟩
    · rw [hm]; exact getM_mid (by rw [keys_kx]; exact hn)
    · rcases List.mem_append.1 hp with hp | hp
      · exact List.mem_append_left _ hp
      · exact List.mem_append_right _ (List.mem_cons_of_mem _ hp)
    · simp only [frF, List.mem_cons, foot_mid]
      constructor
      · rintro (h | h | h | h | h) <;> simp [h]
      · rintro ((h | h | h | h) | h) <;> simp [h]
theorem atO_ob (i off n : Nat) : atO (.ob i off) n = some (.ob i (off + n)) := rfl
theorem nn_ob (i off : Nat) : nn (.ob i off) = some (.ob i off) := rfl
theorem ld_t0 {H : VH} {k i j : Nat} (h : H[k]? = some (.row TTY [.map (some i), .map (some j)])) : ldV (.flat .map) H (.ob k 0) = some (some i) := by rw [ld_row h]; rfl
theorem ld_t1 {H : VH} {k i j : Nat} (h : H[k]? = some (.row TTY [.map (some i), .map (some j)])) : ldV (.flat .map) H (.ob k 1) = some (some j) := by rw [ld_row h]; rfl
theorem look_l {H : VH} {i : Nat} {m : List (Key × Nat)} (hi : H[i]? = some (.map .str (ents sk pv m))) (key : Key) : V.lookD P 59 (.flat .ptr) H .str (some i) (.str ⟨key.toArray⟩) = some (match getM m key with | some b => (.ob b 0, true) | none => (.nil, false)) := by
  have := look_str (enc := pv) (P := P) (et := 59) (τ := .flat .ptr) hi (d := fun b => VP.ob b 0) (fun _ => rfl) (z := VP.nil) (by kernel_rfl) key
  refine this.trans ?_
  cases getM m key <;> rfl
theorem look_w {H : VH} {j : Nat} {m : List (Int × Key)} (hj : H[j]? = some (.map (.int .i64) (ents ik sk m))) (o : Int) : V.lookD P 9 (.flat .str) H (.int .i64) (some j) (.int .i64 o) = some (match getM m o with | some k => (⟨k.toArray⟩, true) | none => (⟨#[]⟩, false)) := by
  have := look_int (enc := fun k : Key => sk k) (P := P) (et := 9) (τ := .flat .str) hj (d := fun k => (⟨k.toArray⟩ : ByteArray)) (fun _ => rfl) (z := (⟨#[]⟩ : ByteArray)) (by kernel_rfl) o
  refine this.trans ?_
  cases getM m o <;> rfl
theorem lkOf_some {t : Tb} {key : Key} {x : Lk} (h : getM t.m key = some x) : lkOf t key = x := by unfold lkOf; rw [h]; rfl
theorem lkOf_none {t : Tb} {key : Key} (h : getM t.m key = none) : lkOf t key = lk0 := by unfold lkOf; rw [h]; rfl
theorem p26 (n : Nat) {H : VH} {k : Nat} {F : List Nat} {t : Tb} (h : TO H k F t) (key : Key) (hkl : key.length ≤ 9223372036854775807) (hml : t.m.length < 1000000) :
    ∃ b H' i j l1 l2 Fb, V.callD (vF P tab (n + 1)) P false (.one (.flat .ptr)) 24 [.ptr (.ob k 0), .str ⟨key.toArray⟩] H = some (.ob b 0, H') ∧ Foc H' k key b Fb (lkOf t key) i j l1 l2 t.ws ∧ mF l1 key (lkOf t key) l2 = putA t.m key (lkOf t key) ∧ Kp H H' F ∧ (∀ a, a ∈ frF k i j l1 l2 ∨ a ∈ Fb → a ∈ F ∨ H.length ≤ a) := by
  obtain ⟨i, j, h1, h2, h3⟩ := h.find key
  have main : ∃ b H' l1 l2 Fb, bodyV P tab (vF P tab n) n 24 [.ptr (.ob k 0), .str ⟨key.toArray⟩] H = some (.ptr (.ob b 0), H') ∧ Foc H' k key b Fb (lkOf t key) i j l1 l2 t.ws ∧ mF l1 key (lkOf t key) l2 = putA t.m key (lkOf t key) ∧ Kp H H' F ∧ (∀ a, a ∈ frF k i j l1 l2 ∨ a ∈ Fb → a ∈ F ∨ H.length ≤ a) := by
    rw [f24_eq]
    simp only [nn, atO, Option.bind_some, Nat.zero_add]
    rw [ld_t0 h1, Option.bind_some]
    rcases h3 with ⟨g1, tl, g2, g3, g4, g5, g6, g7, rfl⟩ | ⟨l1, l2, b, Fb, x, g1, g2, g3, g4⟩
    · rw [look_l g2, Option.bind_some, g3]
      simp only [VP.isNil, cond_true]
      obtain ⟨H1, e1⟩ : ∃ H1 : VH, H1 = H ++ [VO.row LTY [.sl 3 .nil, .bool false, .sl WTY .nil]] := ⟨_, rfl⟩
      have k1 : Kp H H1 [] := by rw [e1]; exact Kp.app _ _
      have hb1 : H1[H.length]? = some (.row LTY [.sl 3 .nil, .bool false, .sl WTY .nil]) := by rw [e1]; exact app_last _ _
      rw [show H ++ [VO.row (64 + boxK) [.sl 3 .nil, .bool false, .sl 66 .nil]] = H1 from e1.symm]
      have hk1 := k1.ob h1 (by simp)
      have hi1 := k1.ob g2 (by simp)
      have hj1 := k1.ob h2 (by simp)
      rw [ld_t0 hk1, Option.bind_some]
      have hlen : (tl.map kb).length < 9223372036854775807 := by
        have : t.m.length = tl.length := by rw [g4, List.length_map]
        rw [List.length_map]; omega
      have hput := put_str (enc := pv) hi1 hkl hlen H.length
      rw [putA_none g3] at hput
      rw [show V.ptr (.ob H.length 0) = pv H.length from rfl, hput, Option.bind_some]
      have k2 := Kp.set H1 i (.map .str (ents sk pv (tl.map kb ++ [(key, H.length)])))
      have hne : ∀ {a : Nat} {T cs}, H[a]? = some (.row T cs) → a ∉ [i] := fun {a T cs} ha => by
        simp
        rintro rfl
        rw [g2] at ha; injection ha with ha; cases ha
      have hij : j ∉ [i] := by
        simp
        rintro rfl
        rw [g2] at h2; injection h2 with h2; injection h2 with h2; cases h2
      have k12 : Kp H (H1.set i (.map .str (ents sk pv (tl.map kb ++ [(key, H.length)])))) [i] := k1.trans k2 (fun x hx _ => by cases hx) (fun x hx _ => hx)
      refine ⟨H.length, _, tl, [], [H.length], rfl, ?_, ?_, k12.weak (fun x hx _ => by simp at hx; simp [hx]), ?_⟩
      · rw [lkOf_none g1]
        refine ⟨k12.ob h1 (hne h1), ?_, k12.ob h2 hij, ?_, ?_, ?_, ?_, g5⟩
        · rw [set_at hi1]; rfl
        · intro p hp
          rw [List.append_nil] at hp
          exact (g6 p hp).keep k12 (fun a ha => by
            obtain ⟨T, cs, hc, _⟩ := (g6 p hp).ty a ha
            exact hne hc)
        · rw [List.append_nil]; exact g7
        · have hl2 : (H1.set i (.map .str (ents sk pv (tl.map kb ++ [(key, H.length)]))))[H.length]? = some (.row LTY [.sl 3 .nil, .bool false, .sl WTY .nil]) := k2.ob hb1 (by simp; have := lt_of_ob g2; omega)
          exact ⟨.nil, .nil, hl2, Hr.nil _ _ _, Hr.nil _ _ _, rfl⟩
        · intro a ha hm
          rw [List.mem_singleton] at ha
          subst ha
          rw [List.append_nil] at hm
          obtain ⟨p, hp, ht⟩ := mem_foot.1 hm
          have := (g6 p hp).lt _ ht
          omega
      · rw [lkOf_none g1, putA_none g1, g4]; rfl
      · rintro a (ha | ha)
        · unfold frF at ha
          rw [List.append_nil] at ha
          exact .inl ha
        · rw [List.mem_singleton] at ha; subst ha; exact .inr (Nat.le_refl _)
    · rw [look_l g2.hi, Option.bind_some, getM_mid (by rw [keys_kb]; exact g2.nk)]
      simp only [VP.isNil, cond_false]
      refine ⟨b, H, l1, l2, Fb, rfl, by rw [lkOf_some g1]; exact g2, ?_, Kp.refl _ _, fun a ha => .inl ((g4 a).2 ha)⟩
      rw [lkOf_some g1, putA_self g1, g3]
  obtain ⟨b, H', l1, l2, Fb, q1, q2⟩ := main
  exact ⟨b, H', i, j, l1, l2, Fb, callD_ptr (by rw [vF_body rfl]; exact q1), q2⟩
/-! ### wait -/
theorem rd_up {H : VH} {s : VS} {q : List Wt} (hs : Hr H WTY 3 s (wts q)) {i : Nat} {w : Wt} (hw : q[i]? = some w) {β : Type} (f : Bool → Option β) : ((ixV 3 s (i : Int)).bind fun p8 => ((atO p8 2).bind fun p9 => ((ldV (.flat .bool) H p9).bind f))) = f w.up := by
  obtain ⟨j, A, B, _, hj, hix, _⟩ := hs.at_ (wts_get hw)
  rw [hix, Option.bind_some]
  show ((ldV (.flat .bool) H (.ob j (A.length + 2))).bind f) = _
  rw [ld_row hj]
  have : (A ++ (wtc w ++ B))[A.length + 2]? = some (.bool w.up) := by
    rw [List.getElem?_append_right (by omega), Nat.add_sub_cancel_left]; rfl
  rw [this]; rfl
theorem p49 (n : Nat) {H : VH} {s sv : VS} {q : List Wt} (hs : Hr H WTY 3 s (wts q)) {a : Nat} (ha : a ≤ q.length) (w : Wt) (hv : Hr H WTY 3 sv [wtc w]) (hd : ∀ t ∈ hps sv, t ∉ hps s) (hl : q.length < 2000) : ∃ s' H', V.callD (vF P tab (n + 1)) P false (.one (.flat (.slice 66))) 46 [.sl 66 s, .int .i64 (a : Int), .sl 66 sv] H = some (s', H') ∧ Hr H' WTY 3 s' (wts (q.take a ++ w :: q.drop a)) ∧ Kp H H' (hps s) ∧ (∀ t ∈ hps s', t ∈ hps s ∨ H.length ≤ t) := by
  obtain ⟨s', H', h1, h2, h3, h4⟩ := hs.ins (i := a) (by rw [wts_len]; exact ha) hv hd (by rw [wts_len]; omega) 66 66
  refine ⟨s', H', callD_sl ?_, ?_, h3, h4⟩
  · rw [vF_body rfl]; exact h1
  · have : wts (q.take a ++ w :: q.drop a) = (wts q).take a ++ wtc w :: (wts q).drop a := by simp [wts]
    rw [this]; exact h2
/-- What comes behind the place. -/
theorem TO.tok {H : VH} {k : Nat} {F : List Nat} {t : Tb} (h : TO H k F t) {a : Nat} {e : TypeId} {g : Nat} (ha : H[a]? = some (.tok e g)) : a ∉ F := by
  obtain ⟨i, j, tl, h1, h2, h3, h4, h5, h6, rfl⟩ := h
  intro hm
  rcases List.mem_cons.1 hm with rfl | hm
  · rw [h1] at ha; injection ha with ha; cases ha
  · rcases List.mem_cons.1 hm with rfl | hm
    · rw [h2] at ha; injection ha with ha; cases ha
    · rcases List.mem_cons.1 hm with rfl | hm
      · rw [h3] at ha; injection ha with ha; cases ha
      · obtain ⟨p, hp, ht⟩ := mem_foot.1 hm
        obtain ⟨T, cs, hc, _⟩ := (h5 p hp).ty a ht
        rw [hc] at ha; injection ha with ha; cases ha
/-- Tokens stay. -/
def TP (H H' : VH) : Prop := ∀ (a : Nat) (e : TypeId) (g : Nat), H[a]? = some (.tok e g) → H'[a]? = some (.tok e g)
theorem TP.trans {H H1 H2 : VH} (a : TP H H1) (b : TP H1 H2) : TP H H2 := fun i e g h => b i e g (a i e g h)
theorem kp_tp {H H' : VH} {X : List Nat} (k : Kp H H' X) (hx : ∀ a e g, H[a]? = some (.tok e g) → a ∉ X) : TP H H' := fun a e g h => k.ob h (hx a e g h)
theorem tp0 {H H' : VH} (k : Kp H H' []) : TP H H' := kp_tp k (fun a e g _ => by simp)
theorem tpL {H H' : VH} {b : Nat} {F : List Nat} {x : Lk} (lo : LO H b F x) (k : Kp H H' F) : TP H H' := kp_tp k (fun a e g h hm => by
  obtain ⟨T, cs, hc, _⟩ := lo.ty a hm
  rw [hc] at h; injection h with h; cases h)
theorem tpT {H H' : VH} {k : Nat} {F : List Nat} {t : Tb} (h : TO H k F t) (kp : Kp H H' F) : TP H H' := kp_tp kp (fun a e g ha => h.tok ha)
theorem tl30 (n : Nat) {H : VH} {k b i j p : Nat} {key : Key} {Fb : List Nat} {x : Lk} {l1 l2 : List Ent} {ws : List (Int × Key)} (h : Foc H k key b Fb x i j l1 l2 ws) {w : Wt} (hp : H[p]? = some (.row (66 + boxK) (wtc w))) (hq : x.q.length < 2000) (hws : ws.length < 1000000) (ho : -9223372036854775808 ≤ w.o ∧ w.o ≤ 9223372036854775807) {a : Nat} (ha : a ≤ x.q.length) :
    ∃ H' Fb', ((ldV (.flat (.slice 66)) H (.ob b 2)).bind fun x26 =>
              ((ldV (.agg [.int .i64, .bool, .bool]) H (.ob p 0)).bind fun x27 =>
                  (cond (V.stays H (hj (heldOf (.ob b 2) [.slice 66] [.sl 66 x26]) []))
                    (cond (V.stays (H ++ [.row 66 [.int .i64 x27.1, .bool x27.2.1, .bool x27.2.2.1]]) (hj (heldOf (.ob b 2) [.slice 66] [.sl 66 x26]) []))
                      ((callD (vF P tab (n + 1)) P false (.one (.flat (.slice 66))) 46 [.sl 66 x26, .int .i64 (a : Int), .sl 66 (.hp H.length 0 1)] (H ++ [.row 66 [.int .i64 x27.1, .bool x27.2.1, .bool x27.2.2.1]])).bind fun r28 =>
                        ((stV r28.2 (.ob b 2) [.sl 66 r28.1]).bind fun h31 =>
                        ((ldV (.flat .map) h31 (.ob k 1)).bind fun x34 =>
                        ((ldV (.flat (.int .i64)) h31 (.ob p 0)).bind fun x35 =>
                        ((V.putD h31 (.int .i64) x34 (.int .i64 x35) (.str ⟨key.toArray⟩)).bind fun h36 =>
                        (some (V.tup [], h36)))))))
                      none)
                    none))) = some (.tup [], H') ∧ Foc H' k key b Fb' ⟨x.hs, x.only, x.q.take a ++ w :: x.q.drop a⟩ i j l1 l2 (putA ws w.o key) ∧ TP H H' := by
  obtain ⟨H0, e0⟩ : ∃ H0 : VH, H0 = H ++ [VO.row 66 (wtc w)] := ⟨_, rfl⟩
  have k0 : Kp H H0 [] := by rw [e0]; exact Kp.app _ _
  have hv0 : Hr H0 WTY 3 (.hp H.length 0 1) [wtc w] := by
    rw [e0]
    have := Hr.new H 66 (sz := 3) [wtc w] (by simp [wtc])
    simpa using this
  obtain ⟨s, q, hb', hs', hqq', hF⟩ := h.lo
  rw [ld_l2 hb', Option.bind_some, ld_w hp, Option.bind_some, stays_s (ld_l2 hb'), cond_true]
  simp only
  rw [show H ++ [VO.row 66 [.int .i64 w.o, .bool w.only, .bool w.up]] = H0 from e0.symm, stays_s (ld_l2 (k0.ob hb' (by simp))), cond_true]
  have hb := k0.ob hb' (by simp)
  have hs := hs'.keep k0 (fun t _ => by simp)
  have hqq := hqq'.keep k0 (fun t _ => by simp)
  replace h := h.kn k0
  replace hp := k0.ob hp (by simp)
  have t0 := tp0 k0
  obtain ⟨q', H1, a1, a2, a3, a4⟩ := p49 n hqq ha w hv0 (fun t ht hm => by
    have ht : t ∈ [H.length] := ht
    rw [List.mem_singleton] at ht
    subst ht
    have := (hqq'.lt _ hm).1
    omega) hq
  rw [a1, Option.bind_some]
  simp only
  have hb1 := a3.ob hb (hr_ne hqq hb (by decide))
  have hs1 := hs.keep a3 (hr_dis hqq hs (by decide))
  rw [st_l2 hb1, Option.bind_some]
  obtain ⟨H2, e2⟩ : ∃ H2 : VH, H2 = H1.set b (.row LTY [.sl 3 s, .bool x.only, .sl WTY q']) := ⟨_, rfl⟩
  rw [← e2]
  have k2 : Kp H1 H2 [b] := by rw [e2]; exact Kp.set _ _ _
  have hb2 : H2[b]? = some (.row LTY [.sl 3 s, .bool x.only, .sl WTY q']) := by rw [e2]; exact set_at hb1
  have hs2 := hs1.keep k2 (fun t ht => by simp; rintro rfl; exact hr_ne hs1 hb1 (by decide) ht)
  have hq2 := a2.keep k2 (fun t ht => by simp; rintro rfl; exact hr_ne a2 hb1 (by decide) ht)
  have kk : Kp H0 H2 Fb := by
    rw [hF]
    exact a3.trans k2 (fun x hx _ => by simp [hx]) (fun x hx _ => by simp at hx; simp [hx])
  have f2 : Foc H2 k key b (b :: (hps s ++ hps q')) ⟨x.hs, x.only, x.q.take a ++ w :: x.q.drop a⟩ i j l1 l2 ws := by
    refine h.op kk ⟨s, q', hb2, hs2, hq2, rfl⟩ (fun t ht => ?_)
    rw [hF]
    rcases List.mem_cons.1 ht with rfl | ht
    · simp
    · rcases List.mem_append.1 ht with ht | ht
      · simp [ht]
      · rcases a4 t ht with h | h
        · simp [h]
        · exact .inr h
  have hpb : p ≠ b := by rintro rfl; rw [hp] at hb; injection hb with hb; injection hb with hb; revert hb; decide
  have hp2 := k2.ob (a3.ob hp (fun hm => by
    obtain ⟨_, cs, hc⟩ := hqq.lt p hm
    rw [hp] at hc; injection hc with hc; injection hc with hc; revert hc; decide)) (by simpa using hpb)
  rw [ld_t1 f2.hk, Option.bind_some, ld_w0 hp2, Option.bind_some]
  have hput := put_int (enc := fun k : Key => sk k) f2.hj ho (by omega) key
  rw [hput, Option.bind_some]
  have k3 := Kp.set H2 j (.map (.int .i64) (ents ik sk (putA ws w.o key)))
  have hij : i ≠ j := fun e => by have := f2.hi; rw [e, f2.hj] at this; injection this with this; injection this with this; cases this
  have hne : ∀ {a : Nat} {T cs}, H2[a]? = some (.row T cs) → a ∉ [j] := fun {a T cs} ha => by
    simp
    rintro rfl
    have := f2.hj
    rw [this] at ha; injection ha with ha; cases ha
  refine ⟨_, _, rfl, ⟨k3.ob f2.hk (hne f2.hk), k3.ob f2.hi (by simpa using hij), set_at f2.hj, fun p hp => (f2.ho p hp).keep k3 (fun t ht => ?_), f2.nd, f2.lo.keep k3 (fun t ht => ?_), f2.ds, f2.nk⟩, (t0.trans (tpL h.lo kk)).trans (kp_tp k3 (fun a e g ha hm => by
    rw [List.mem_singleton.1 hm, f2.hj] at ha; injection ha with ha; cases ha))⟩
  · obtain ⟨T, cs, hc, _⟩ := (f2.ho p hp).ty t ht
    exact hne hc
  · obtain ⟨T, cs, hc, _⟩ := f2.lo.ty t ht
    exact hne hc
theorem atP_drop (up : Bool) (q : List Wt) {i : Nat} {w : Wt} (hw : q[i]? = some w) : atP up (q.drop i) = cond (!up || w.up) (atP up (q.drop (i + 1)) + 1) 0 := by
  rw [drop_of hw]; rfl
theorem l30 (n : Nat) {H : VH} {k b i j p : Nat} {key : Key} {Fb : List Nat} {x : Lk} {l1 l2 : List Ent} {ws : List (Int × Key)} (h : Foc H k key b Fb x i j l1 l2 ws) {w : Wt} (hp : H[p]? = some (.row (66 + boxK) (wtc w))) (hq : x.q.length < 2000) (hws : ws.length < 1000000) (ho : -9223372036854775808 ≤ w.o ∧ w.o ≤ 9223372036854775807) :
    ∀ (m c : Nat), c ≤ x.q.length → x.q.length < c + m → atP w.up x.q = c + atP w.up (x.q.drop c) →
    ∃ H' Fb', L28_0 (n + 1) m (.ob k 0) ⟨key.toArray⟩ p (.ob b 0) (c : Int) H = some (.tup [], H') ∧ Foc H' k key b Fb' ⟨x.hs, x.only, Go.Proofs.Ytibdinelkpbhaaa.Sh.Lk.insP x.q w⟩ i j l1 l2 (putA ws w.o key) ∧ TP H H' := by
  intro m
  induction m with
  | zero => intros; omega
  | succ m ih =>
    intro c h1 h2 h3
    rw [L28_0_eq]
    simp only [nn_ob, atO_ob, Option.bind_some, Nat.zero_add]
    obtain ⟨s, q, hb, hs, hqq, hF⟩ := h.lo
    rw [ld_l2 hb, Option.bind_some, hqq.len, wts_len]
    have fin : atP w.up x.q = c → ∃ H' Fb', ((ldV (.flat (.slice 66)) H (.ob b 2)).bind fun x26 =>
              ((ldV (.agg [.int .i64, .bool, .bool]) H (.ob p 0)).bind fun x27 =>
                  (cond (V.stays H (hj (heldOf (.ob b 2) [.slice 66] [.sl 66 x26]) []))
                    (cond (V.stays (H ++ [.row 66 [.int .i64 x27.1, .bool x27.2.1, .bool x27.2.2.1]]) (hj (heldOf (.ob b 2) [.slice 66] [.sl 66 x26]) []))
                      ((callD (vF P tab (n + 1)) P false (.one (.flat (.slice 66))) 46 [.sl 66 x26, .int .i64 (c : Int), .sl 66 (.hp H.length 0 1)] (H ++ [.row 66 [.int .i64 x27.1, .bool x27.2.1, .bool x27.2.2.1]])).bind fun r28 =>
                        ((stV r28.2 (.ob b 2) [.sl 66 r28.1]).bind fun h31 =>
                        ((ldV (.flat .map) h31 (.ob k 1)).bind fun x34 =>
                        ((ldV (.flat (.int .i64)) h31 (.ob p 0)).bind fun x35 =>
                        ((V.putD h31 (.int .i64) x34 (.int .i64 x35) (.str ⟨key.toArray⟩)).bind fun h36 =>
                        (some (V.tup [], h36)))))))
                      none)
                    none))) = some (.tup [], H') ∧ Foc H' k key b Fb' ⟨x.hs, x.only, Go.Proofs.Ytibdinelkpbhaaa.Sh.Lk.insP x.q w⟩ i j l1 l2 (putA ws w.o key) ∧ TP H H' := fun he => by
      obtain ⟨H', Fb', g1, g2⟩ := tl30 n h hp hq hws ho h1
      refine ⟨H', Fb', g1, ?_⟩
      unfold Go.Proofs.Ytibdinelkpbhaaa.Sh.Lk.insP
      rw [he]; exact g2
    by_cases hc : c < x.q.length
    · obtain ⟨y, hy⟩ := get_of hc
      rw [decide_eq_true (by omega), cond_true, ld_w2 hp, Option.bind_some]
      rw [atP_drop _ _ hy] at h3
      have next : atP w.up x.q = c + (atP w.up (x.q.drop (c + 1)) + 1) → ∃ H' Fb', L28_0 (n + 1) m (.ob k 0) ⟨key.toArray⟩ p (.ob b 0) (IntKind.wrap .i64 ((c : Int) + 1)) H = some (.tup [], H') ∧ Foc H' k key b Fb' ⟨x.hs, x.only, Go.Proofs.Ytibdinelkpbhaaa.Sh.Lk.insP x.q w⟩ i j l1 l2 (putA ws w.o key) ∧ TP H H' := fun he => by
        rw [inc_nat (by omega)]
        exact ih (c + 1) (by omega) (by omega) (by omega)
      cases hup : w.up with
      | false =>
        rw [hup] at h3 next
        rw [Bool.not_false, cond_true]
        exact next h3
      | true =>
        rw [hup] at h3 next fin
        rw [Bool.not_true, cond_false, Option.bind_some, rd_up hqq hy]
        cases hyu : y.up with
        | true =>
          rw [hyu] at h3
          rw [cond_true]
          exact next h3
        | false =>
          rw [hyu] at h3
          rw [cond_false, ← ld_l2 hb]
          exact fin h3
    · rw [decide_eq_false (by omega), cond_false, ← ld_l2 hb]
      have : c = x.q.length := by omega
      rw [this, List.drop_eq_nil_of_le (Nat.le_refl _)] at h3
      exact fin (by rw [h3, this]; rfl)
theorem p30 (n : Nat) (hn : 3000 ≤ n) {H : VH} {k : Nat} {F : List Nat} {t : Tb} (h : TO H k F t) {key : Key} {x : Lk} (hx : getM t.m key = some x) (w : Wt) (hkl : key.length ≤ 9223372036854775807) (hml : t.m.length < 1000000) (hq : x.q.length < 2000) (hws : t.ws.length < 1000000) (ho : -9223372036854775808 ≤ w.o ∧ w.o ≤ 9223372036854775807) :
    ∃ H' F', V.callD (vF P tab (n + 3)) P false (.tup []) 28 [.ptr (.ob k 0), .str ⟨key.toArray⟩, .agg (wtc w)] H = some ((), H') ∧ TO H' k F' ⟨putA t.m key ⟨x.hs, x.only, Go.Proofs.Ytibdinelkpbhaaa.Sh.Lk.insP x.q w⟩, putA t.ws w.o key⟩ ∧ TP H H' := by
  have main : ∃ H' F', bodyV P tab (vF P tab (n + 2)) (n + 2) 28 [.ptr (.ob k 0), .str ⟨key.toArray⟩, .agg [.int .i64 w.o, .bool w.only, .bool w.up]] H = some (.tup [], H') ∧ TO H' k F' ⟨putA t.m key ⟨x.hs, x.only, Go.Proofs.Ytibdinelkpbhaaa.Sh.Lk.insP x.q w⟩, putA t.ws w.o key⟩ ∧ TP H H' := by
    rw [f28_eq]
    obtain ⟨H1, e1⟩ : ∃ H1 : VH, H1 = H ++ [VO.row (66 + boxK) (wtc w)] := ⟨_, rfl⟩
    have hw1 : H1[H.length]? = some (.row (66 + boxK) (wtc w)) := by rw [e1]; exact app_last _ _
    have k1 : Kp H H1 [] := by rw [e1]; exact Kp.app _ _
    rw [show H ++ [VO.row (66 + boxK) [.int .i64 w.o, .bool w.only, .bool w.up]] = H1 from e1.symm]
    obtain ⟨b, H2, i, j, l1, l2, Fb, a1, a2, a3, a4, a5⟩ := p26 (n + 1) (h.kn k1) key hkl hml
    rw [a1, Option.bind_some]
    simp only
    rw [lkOf_some hx] at a2 a3
    have hw2 := a4.ob hw1 (fun hm => by have := h.lt _ hm; omega)
    obtain ⟨H', Fb', c1, c2, c3⟩ := l30 (n + 1) a2 hw2 hq hws ho (n + 2) 0 (Nat.zero_le _) (by omega) (by simp)
    obtain ⟨F', d1, _⟩ := c2.to
    refine ⟨H', F', c1, ?_, ((tp0 k1).trans (tpT (h.kn k1) a4)).trans c3⟩
    have : mF l1 key ⟨x.hs, x.only, Go.Proofs.Ytibdinelkpbhaaa.Sh.Lk.insP x.q w⟩ l2 = putA t.m key ⟨x.hs, x.only, Go.Proofs.Ytibdinelkpbhaaa.Sh.Lk.insP x.q w⟩ := by
      rw [putA_self hx] at a3
      rw [← a3]
      unfold mF
      rw [putA_mid (by rw [keys_kx]; exact a2.nk)]
    rw [this] at d1
    exact d1
  obtain ⟨H', F', h1, h2⟩ := main
  exact ⟨H', F', callD_unit (by rw [vF_body rfl]; exact h1), h2⟩
/-! ### Ask -/
theorem putA_put {A : Type} (m : List (Key × A)) (k : Key) (a a' : A) : putA (putA m k a) k a' = putA m k a' := by
  induction m with
  | nil => simp [putA]
  | cons p m ih =>
    obtain ⟨k0, a0⟩ := p
    by_cases h : k = k0
    · subst h; simp [putA]
    · rw [putA, if_neg h, putA, if_neg h, putA, if_neg h, ih]
theorem mF_put {l1 l2 : List Ent} {key : Key} {x : Lk} {m : List (Key × Lk)} (h : mF l1 key x l2 = putA m key x) (hn : key ∉ l1.map (·.k)) (x' : Lk) : mF l1 key x' l2 = putA m key x' := by
  rw [← putA_put m key x x', ← h]
  unfold mF
  rw [putA_mid (by rw [keys_kx]; exact hn)]
structure SZ (t : Tb) : Prop where
  m : t.m.length < 1000000
  w : t.ws.length < 1000000
  l : ∀ k x, getM t.m k = some x → x.hs.length < 2000 ∧ x.q.length < 2000
theorem SZ.of {t : Tb} (h : SZ t) (k : Key) : (lkOf t k).hs.length < 2000 ∧ (lkOf t k).q.length < 2000 := by
  unfold lkOf
  cases hg : getM t.m k with
  | none => exact ⟨by simp [lk0], by simp [lk0]⟩
  | some x => exact h.l k x hg
theorem tl12 (n : Nat) (hn : 3000 ≤ n) {H : VH} {k b i j p : Nat} {key : Key} {Fb : List Nat} {x : Lk} {l1 l2 : List Ent} {ws : List (Int × Key)} {m : List (Key × Lk)} (h : Foc H k key b Fb x i j l1 l2 ws) (hm : mF l1 key x l2 = putA m key x) (o : Int) (only has : Bool)
    (hp : H[p]? = some (.row (28 + boxK) [.str ⟨key.toArray⟩, .bool only])) (hs : x.hs.length < 2000) (hq : x.q.length < 2000) (hws : ws.length < 1000000) (hml : m.length < 900000) (ho : -9223372036854775808 ≤ o ∧ o ≤ 9223372036854775807) (hkl : key.length ≤ 9223372036854775807) :
    ∃ H' F', ((ldV (.flat .bool) H (.ob p 1)).bind fun x15 =>
                        ((stV (H ++ [.row (66 + boxK) [.int .i64 0, .bool false, .bool false]]) (.ob H.length 0) [.int .i64 o, .bool x15, .bool has]).bind fun h16 =>
                        ((ldV (.agg [.int .i64, .bool, .bool]) h16 (.ob H.length 0)).bind fun x17 =>
                        ((callD (vF P tab (n + 3)) P false (.one (.flat .bool)) 26 [.ptr (.ob b 0), .agg [.int .i64 x17.1, .bool x17.2.1, .bool x17.2.2.1]] h16).bind fun r18 =>
                        (cond r18.1
                        (cond has
                        ((ldV (.agg [.int .i64, .bool, .bool]) r18.2 (.ob H.length 0)).bind fun x19 =>
                        ((callD (vF P tab (n + 3)) P false (.tup []) 27 [.ptr (.ob b 0), .agg [.int .i64 x19.1, .bool x19.2.1, .bool x19.2.2.1]] r18.2).bind fun r20 =>
                        (some (V.bool true, r20.2))))
                        ((ldV (.flat (.slice 66)) r18.2 (.ob b 2)).bind fun x23 =>
                        (cond ((((VS.len x23 : Nat) : Int) : Int) == 0)
                        ((ldV (.agg [.int .i64, .bool, .bool]) r18.2 (.ob H.length 0)).bind fun x24 =>
                        ((callD (vF P tab (n + 3)) P false (.tup []) 27 [.ptr (.ob b 0), .agg [.int .i64 x24.1, .bool x24.2.1, .bool x24.2.2.1]] r18.2).bind fun r25 =>
                        (some (V.bool true, r25.2))))
                        ((ldV (.flat .str) r18.2 (.ob p 0)).bind fun x26 =>
                        ((ldV (.agg [.int .i64, .bool, .bool]) r18.2 (.ob H.length 0)).bind fun x27 =>
                        ((callD (vF P tab (n + 3)) P false (.tup []) 28 [.ptr (.ob k 0), .str x26, .agg [.int .i64 x27.1, .bool x27.2.1, .bool x27.2.2.1]] r18.2).bind fun r28 =>
                        (some (V.bool false, r28.2))))))))
                        ((ldV (.flat .str) r18.2 (.ob p 0)).bind fun x29 =>
                        ((ldV (.agg [.int .i64, .bool, .bool]) r18.2 (.ob H.length 0)).bind fun x30 =>
                        ((callD (vF P tab (n + 3)) P false (.tup []) 28 [.ptr (.ob k 0), .str x29, .agg [.int .i64 x30.1, .bool x30.2.1, .bool x30.2.2.1]] r18.2).bind fun r31 =>
                        (some (V.bool false, r31.2))))))))))
      = some (.bool (mayP x ⟨o, only, has⟩ && (has || x.q.isEmpty)), H') ∧
      TO H' k F' (cond (mayP x ⟨o, only, has⟩ && (has || x.q.isEmpty)) ⟨putA m key (giveP x ⟨o, only, has⟩), ws⟩ ⟨putA m key ⟨x.hs, x.only, Go.Proofs.Ytibdinelkpbhaaa.Sh.Lk.insP x.q ⟨o, only, has⟩⟩, putA ws o key⟩) ∧ TP H H' := by
  obtain ⟨w, hw⟩ : ∃ w : Wt, w = ⟨o, only, has⟩ := ⟨_, rfl⟩
  have lp : ldV (.flat .bool) H (.ob p 1) = some only := by rw [ld_row hp]; rfl
  rw [lp, Option.bind_some]
  obtain ⟨H1, a1, a2, a3, a4⟩ := new_w H w
  rw [hw] at a1
  simp only at a1
  rw [a1, Option.bind_some, ld_w a2, Option.bind_some, ← hw]
  simp only
  rw [show V.agg [.int .i64 w.o, .bool w.only, .bool w.up] = .agg (wtc w) from rfl]
  have f1 := h.kn a3
  obtain ⟨H2, b1, b2⟩ := p28 (n + 2) f1.lo w
  rw [b1, Option.bind_some]
  simp only
  have f2 := f1.kn b2
  have tp2 : TP H H2 := (tp0 a3).trans (tp0 b2)
  have hw2 := b2.ob a2 (by simp)
  have hp2 := b2.ob (a3.ob hp (by simp)) (by simp)
  have lk : ldV (.flat .str) H2 (.ob p 0) = some ⟨key.toArray⟩ := by rw [ld_row hp2]; rfl
  rw [lk, Option.bind_some, ld_w hw2, Option.bind_some]
  simp only
  have hml2 : (putA m key x).length < 1000000 := by have := (len_put m key x).2; omega
  have waits : ∃ H' F', ((callD (vF P tab (n + 3)) P false (.tup []) 28 [.ptr (.ob k 0), .str ⟨key.toArray⟩, .agg (wtc w)] H2).bind fun r31 => some (V.bool false, r31.2)) = some (.bool false, H') ∧ TO H' k F' ⟨putA m key ⟨x.hs, x.only, Go.Proofs.Ytibdinelkpbhaaa.Sh.Lk.insP x.q w⟩, putA ws o key⟩ ∧ TP H H' := by
    obtain ⟨F2, c1, _⟩ := f2.to
    have hg : getM (mF l1 key x l2) key = some x := getM_mid (by rw [keys_kx]; exact h.nk)
    obtain ⟨H', F', d1, d2, d3⟩ := p30 n hn c1 hg w hkl (by simp only; rw [hm]; exact hml2) hq hws (by rw [hw]; exact ho)
    refine ⟨H', F', by rw [d1]; rfl, ?_, tp2.trans d3⟩
    have e : putA (mF l1 key x l2) key ⟨x.hs, x.only, Go.Proofs.Ytibdinelkpbhaaa.Sh.Lk.insP x.q w⟩ = putA m key ⟨x.hs, x.only, Go.Proofs.Ytibdinelkpbhaaa.Sh.Lk.insP x.q w⟩ := by rw [hm, putA_put]
    rw [e] at d2
    have : w.o = o := by rw [hw]
    rw [this] at d2
    exact d2
  have gives : ∃ H' F', ((callD (vF P tab (n + 3)) P false (.tup []) 27 [.ptr (.ob b 0), .agg (wtc w)] H2).bind fun r31 => some (V.bool true, r31.2)) = some (.bool true, H') ∧ TO H' k F' ⟨putA m key (giveP x w), ws⟩ ∧ TP H H' := by
    obtain ⟨H', Fb', d1, d2, d3, d4⟩ := p29 (n + 1) f2.lo w hs
    obtain ⟨F', e1, _⟩ := (f2.op d3 d2 d4).to
    rw [mF_put hm h.nk] at e1
    exact ⟨H', F', by rw [d1]; rfl, e1, tp2.trans (tpL f2.lo d3)⟩
  cases hmay : mayP x w with
  | false =>
    rw [cond_false]
    exact waits
  | true =>
    rw [cond_true]
    cases hhas : has with
    | true =>
      rw [cond_true]
      exact gives
    | false =>
      rw [cond_false]
      obtain ⟨s, q, hb, _, hqq, _⟩ := f2.lo
      rw [ld_l2 hb, Option.bind_some, hqq.len, wts_len]
      have e0 : (((x.q.length : Nat) : Int) == 0) = x.q.isEmpty := by
        rw [show (0 : Int) = ((0 : Nat) : Int) from rfl, beqI]
        cases x.q <;> simp
      rw [e0]
      cases hqe : x.q.isEmpty with
      | true => rw [cond_true]; exact gives
      | false => rw [cond_false]; exact waits
theorem p12 (n : Nat) (hn : 3000 ≤ n) {H : VH} {k : Nat} {F : List Nat} {t : Tb} (h : TO H k F t) (sz : SZ t) (hml : t.m.length < 900000) (o : Int) (key : Key) (only : Bool) (ho : -9223372036854775808 ≤ o ∧ o ≤ 9223372036854775807) (hkl : key.length ≤ 9223372036854775807) :
    ∃ H' F', V.callD (vF P tab (n + 4)) P false (.one (.flat .bool)) 11 [.ptr (.ob k 0), .int .i64 o, .agg [.str ⟨key.toArray⟩, .bool only]] H = some ((askP t o key only).2, H') ∧ TO H' k F' (askP t o key only).1 ∧ TP H H' := by
  have main : ∃ H' F', bodyV P tab (vF P tab (n + 3)) (n + 3) 11 [.ptr (.ob k 0), .int .i64 o, .agg [.str ⟨key.toArray⟩, .bool only]] H = some (.bool (askP t o key only).2, H') ∧ TO H' k F' (askP t o key only).1 ∧ TP H H' := by
    rw [f11_eq]
    obtain ⟨H1, e1⟩ : ∃ H1 : VH, H1 = H ++ [VO.row (28 + boxK) [.str ⟨key.toArray⟩, .bool only]] := ⟨_, rfl⟩
    have hp1 : H1[H.length]? = some (.row (28 + boxK) [.str ⟨key.toArray⟩, .bool only]) := by rw [e1]; exact app_last _ _
    have k1 : Kp H H1 [] := by rw [e1]; exact Kp.app _ _
    rw [← e1]
    have h1 := h.kn k1
    obtain ⟨i, j, g1, g2, _⟩ := h1.find key
    have lk : ldV (.flat .str) H1 (.ob H.length 0) = some ⟨key.toArray⟩ := by rw [ld_row hp1]; rfl
    simp only [VP.isNil, cond_false, nn_ob, atO_ob, Option.bind_some, Nat.zero_add]
    rw [ld_t1 g1, Option.bind_some, look_w g2, Option.bind_some]
    unfold askP
    cases hw : getM t.ws o with
    | some kk =>
      simp only [cond_true]
      exact ⟨H1, F, rfl, h1, tp0 k1⟩
    | none =>
      simp only [cond_false]
      rw [lk, Option.bind_some]
      obtain ⟨b, H2, i, j, l1, l2, Fb, a1, a2, a3, a4, a5⟩ := p26 (n + 2) h1 key hkl sz.m
      have tpH : TP H H2 := (tp0 k1).trans (tpT h1 a4)
      rw [a1, Option.bind_some]
      simp only [nn_ob, atO_ob, Option.bind_some, Nat.zero_add]
      have hp2 := a4.ob hp1 (fun hm => by have := h.lt _ hm; omega)
      obtain ⟨x, hx⟩ : ∃ x, x = lkOf t key := ⟨_, rfl⟩
      obtain ⟨z1, z2⟩ := sz.of key
      rw [← hx] at a2 a3 z1 z2 ⊢
      obtain ⟨s, q, hb, hs, hqq, hF⟩ := a2.lo
      rw [ld_l0 hb, Option.bind_some, p27 (n + 1) (by omega) hs o z1, Option.bind_some]
      simp only
      have lo1 : ldV (.flat .bool) H2 (.ob H.length 1) = some only := by rw [ld_row hp2]; rfl
      have tl := fun has => tl12 n hn a2 a3 o only has hp2 z1 z2 sz.w hml ho hkl
      cases hc : x.hs.contains o with
      | true =>
        rw [cond_true, ld_l1 hb, Option.bind_some]
        obtain ⟨F2, c1, _⟩ := a2.to
        rw [a3] at c1
        cases hxo : x.only with
        | true =>
          rw [cond_true]
          exact ⟨H2, F2, rfl, c1, tpH⟩
        | false =>
          rw [cond_false]
          cases hon : only with
          | false =>
            rw [hon] at lo1
            rw [lo1, Option.bind_some]
            simp only [Bool.not_false, cond_true]
            exact ⟨H2, F2, rfl, c1, tpH⟩
          | true =>
            rw [hon] at lo1 tl
            rw [lo1, Option.bind_some]
            simp only [Bool.not_true, cond_false, Bool.or_false, Bool.and_false]
            obtain ⟨H', F', q1, q2, q3⟩ := tl true
            rw [lo1] at q1
            refine ⟨H', F', q1.trans ?_, ?_, tpH.trans q3⟩
            · cases (mayP x ⟨o, true, true⟩) <;> rfl
            · rw [hxo] at q2
              cases hmm : (mayP x ⟨o, true, true⟩) <;> rw [hmm] at q2 <;> exact q2
      | false =>
        rw [cond_false]
        obtain ⟨H', F', q1, q2, q3⟩ := tl false
        refine ⟨H', F', q1.trans ?_, ?_, tpH.trans q3⟩
        · simp only [Bool.false_and, cond_false, Bool.false_or]
          cases (mayP x ⟨o, only, false⟩ && x.q.isEmpty) <;> rfl
        · simp only [Bool.false_and, cond_false, Bool.false_or] at q2 ⊢
          cases hmm : (mayP x ⟨o, only, false⟩ && x.q.isEmpty) <;> rw [hmm] at q2 <;> exact q2
  obtain ⟨H', F', h1, h2⟩ := main
  exact ⟨H', F', callD_bool (by rw [vF_body rfl]; exact h1), h2⟩
/-! ### let -/
theorem Foc.tok {H : VH} {k b i j : Nat} {key : Key} {Fb : List Nat} {x : Lk} {l1 l2 : List Ent} {ws : List (Int × Key)} (h : Foc H k key b Fb x i j l1 l2 ws) {t : Nat} {e : TypeId} {g : Nat} (ht : H[t]? = some (.tok e g)) : t ∉ frF k i j l1 l2 ∧ t ∉ Fb := by
  constructor
  · intro hm
    unfold frF at hm
    rcases List.mem_cons.1 hm with rfl | hm
    · rw [h.hk] at ht; injection ht with ht; cases ht
    · rcases List.mem_cons.1 hm with rfl | hm
      · rw [h.hi] at ht; injection ht with ht; cases ht
      · rcases List.mem_cons.1 hm with rfl | hm
        · rw [h.hj] at ht; injection ht with ht; cases ht
        · obtain ⟨T, cs, h1, _⟩ := h.ft t hm
          rw [h1] at ht; injection ht with ht; cases ht
  · intro hm
    obtain ⟨T, cs, h1, _⟩ := h.lo.ty t hm
    rw [h1] at ht; injection ht with ht; cases ht
theorem ap_tok {H : VH} {e : TypeId} {s : VS} {es : List (List V)} (h : Ap H e s es) {t : Nat} (ht : t ∈ toks s) : ∃ g, H[t]? = some (.tok e g) := h.aq.tok_at ht
theorem apI {H : VH} {s x : VS} {l r : List Int} (h : Ap H 3 s (ints l)) (hx : IsE x (ints r)) (hb : l.length + r.length < 1000000) :
    ∃ s' H', appD true H 1 8 3 s x = some (s', H') ∧ Ap H' 3 s' (ints (l ++ r)) ∧ Kp H H' (toks s) ∧ (∀ t ∈ toks s', t ∈ toks s ∨ H.length ≤ t) := by
  obtain ⟨s', H', h1, h2, h3, h4, _⟩ := h.app (sz := 1) (by_ := 8) (x := x) (news := ints r) hx (by rw [ints_len, ints_len]; simp [bound]; omega) (by rw [ints_len, ints_len]; simp [bound]; omega)
  rw [← ints_app] at h2
  exact ⟨s', H', h1, h2, h3, h4⟩
theorem rd_wh {H : VH} {s : VS} {q : List Wt} {w : Wt} (hs : Hr H WTY 3 s (wts (w :: q))) {β : Type} (f : V.aggT [.int .i64, .bool, .bool] → Option β) : ((ixV 3 s 0).bind fun p => (ldV (.agg [.int .i64, .bool, .bool]) H p).bind f) = f (w.o, w.only, w.up, ()) := rd_w hs (i := 0) rfl f
theorem letP_len : ∀ (q : List Wt) (hs : List Int) (only : Bool) (ws : List (Int × Key)), (letP q hs only ws).2.2.length ≤ q.length
  | [], _, _, _ => Nat.le_refl _
  | w :: q, hs, only, ws => by
    unfold letP
    cases mayP ⟨hs, only, w :: q⟩ w with
    | false => simp
    | true =>
      have := letP_len q (giveP ⟨hs, only, q⟩ w).hs w.only (cutA ws w.o)
      simp only [cond_true, List.length_cons]
      omega
/-! ### Free -/
theorem tlF {H : VH} {k b i j : Nat} {key : Key} {l1 l2 : List Ent} {Fb : List Nat} {x z : Lk} {ws : List (Int × Key)} (h : Foc H k key b Fb z i j l1 l2 ws) (hsz : z.hs.length + z.q.length < 2000) (K : VH → VRes) :
    ∃ H' F', ((ldV (.flat (.slice 3)) H (.ob b 0)).bind fun x22 => ((ldV (.flat (.slice 66)) H (.ob b 2)).bind fun x25 =>
        (cond (((IntKind.wrap .i64 (((VS.len x22 : Nat) : Int) + ((VS.len x25 : Nat) : Int))) : Int) == 0)
          ((ldV (.flat .map) H (.ob k 0)).bind fun x28 => ((V.cutMD H .str x28 (.str ⟨key.toArray⟩)).bind fun h29 => K h29)) (K H)))) = K H' ∧
      TO H' k F' ⟨freeM (mF l1 key x l2) key z, ws⟩ ∧ Kp H H' [i] := by
  obtain ⟨s, q, hb, hs, hq, hF⟩ := h.lo
  rw [ld_l0 hb, Option.bind_some, ld_l2 hb, Option.bind_some, hs.len, hq.len, ints_len, wts_len, w2 _ _ (by omega)]
  have e0 : (((z.hs.length + z.q.length : Nat) : Int) == 0) = decide (z.hs.length + z.q.length = 0) := beqI _ 0
  rw [e0]
  unfold freeM
  cases hd : decide (z.hs.length + z.q.length = 0) with
  | true =>
    rw [cond_true, ld_t0 h.hk, Option.bind_some]
    have hcut := cut_str (enc := pv) h.hi key
    rw [cutA_mid (by rw [keys_kb]; exact h.nk)] at hcut
    rw [hcut, Option.bind_some]
    obtain ⟨F', h1, _⟩ := h.cut
    refine ⟨_, F', rfl, ?_, Kp.set _ _ _⟩
    rw [cond_true]
    unfold mF
    rw [cutA_mid (by rw [keys_kx]; exact h.nk)]
    exact h1
  | false =>
    rw [cond_false]
    obtain ⟨F', h1, _⟩ := h.to
    refine ⟨_, F', rfl, ?_, Kp.refl _ _⟩
    rw [cond_false]
    unfold mF at h1 ⊢
    rw [putA_mid (by rw [keys_kx]; exact h.nk)]
    exact h1
theorem getM_mem {A : Type} {m : List (Key × A)} {k : Key} {a : A} (h : getM m k = some a) : (k, a) ∈ m := by
  induction m with
  | nil => cases h
  | cons p m ih =>
    obtain ⟨k0, a0⟩ := p
    rw [getM_cons] at h
    by_cases h1 : k = k0
    · rw [if_pos h1] at h; injection h with h; subst h h1; exact List.mem_cons_self ..
    · rw [if_neg h1] at h; exact List.mem_cons_of_mem _ (ih h)
theorem mem_put {A : Type} {m : List (Key × A)} {k : Key} {a : A} {p : Key × A} (h : p ∈ putA m k a) : p = (k, a) ∨ p ∈ m := by
  induction m with
  | nil => exact .inl (List.mem_singleton.1 h)
  | cons q m ih =>
    obtain ⟨k0, a0⟩ := q
    unfold putA at h
    split at h
    · rcases List.mem_cons.1 h with h | h
      · exact .inl h
      · exact .inr (List.mem_cons_of_mem _ h)
    · rcases List.mem_cons.1 h with h | h
      · exact .inr (h ▸ List.mem_cons_self ..)
      · rcases ih h with h | h
        · exact .inl h
        · exact .inr (List.mem_cons_of_mem _ h)
theorem getM_cut_ne {A : Type} {m : List (Key × A)} {k k' : Key} (h : k' ≠ k) : getM (cutA m k) k' = getM m k' := by
  induction m with
  | nil => rfl
  | cons p m ih =>
    obtain ⟨k0, a0⟩ := p
    by_cases h1 : k = k0
    · subst h1
      rw [cutA, if_pos rfl, getM_cons, if_neg h]
    · rw [cutA, if_neg h1, getM_cons, getM_cons, ih]
theorem getM_freeM {m : List (Key × Lk)} {k k' : Key} {x : Lk} (h : k' ≠ k) : getM (freeM m k x) k' = getM m k' := by
  unfold freeM
  cases decide (x.hs.length + x.q.length = 0) with
  | true => exact getM_cut_ne h
  | false => rw [cond_false, getM_put, if_neg h]
theorem leaveP_len (x : Lk) (o : Int) : (leaveP x o).hs.length ≤ x.hs.length ∧ (leaveP x o).q.length ≤ x.q.length := ⟨fl_len _ _, fl_len _ _⟩
theorem letP_sz : ∀ (q : List Wt) (hs : List Int) (only : Bool) (ws : List (Int × Key)), (letP q hs only ws).1.hs.length + (letP q hs only ws).1.q.length ≤ hs.length + q.length
  | [], _, _, _ => Nat.le_refl _
  | w :: q, hs, only, ws => by
    unfold letP
    cases mayP ⟨hs, only, w :: q⟩ w with
    | false => simp
    | true =>
      have := letP_sz q (giveP ⟨hs, only, q⟩ w).hs w.only (cutA ws w.o)
      have h2 : (giveP ⟨hs, only, q⟩ w).hs.length ≤ hs.length + 1 := by
        unfold giveP
        cases w.up with
        | true => simp
        | false => simp [sortI_len]
      simp only [cond_true, List.length_cons]
      omega
theorem freeZ_sz (o : Int) (x : Lk) (ws : List (Int × Key)) : (freeZ o x ws).1.hs.length + (freeZ o x ws).1.q.length ≤ x.hs.length + x.q.length ∧ (freeZ o x ws).2.2.length ≤ x.q.length := by
  have h1 := leaveP_len x o
  unfold freeZ
  cases decide ((leaveP x o).hs.length + (leaveP x o).q.length < x.hs.length + x.q.length) with
  | true =>
    have h2 := letP_sz (leaveP x o).q (leaveP x o).hs (leaveP x o).only ws
    have h3 := letP_len (leaveP x o).q (leaveP x o).hs (leaveP x o).only ws
    simp only [cond_true]
    omega
  | false => simp only [cond_false, List.length_nil]; omega
theorem p11 (n : Nat) (H : VH) : ∃ k H' F, V.callD (vF P tab (n + 1)) P false (.one (.flat .ptr)) 10 [] H = some (.ob k 0, H') ∧ TO H' k F ⟨[], []⟩ := by
  refine ⟨H.length + 2, (H ++ [.map .str []]) ++ [.map (.int .i64) []] ++ [.row TTY [.map (some H.length), .map (some (H.length + 1))]], _, callD_ptr ?_, ⟨H.length, H.length + 1, [], ?_, ?_, ?_, rfl, (fun p hp => by cases hp), by simp [foot], rfl⟩⟩
  · rw [vF_body rfl, f10_eq]
    have e1 : List.length ((List.append (α := VO) (H ++ [.map .str []]) [.map (.int .i64) []]) : VH) = H.length + 2 := by
      show List.length ((H ++ [VO.map .str []]) ++ [VO.map (.int .i64) []]) = _
      simp
    have e2 : List.length ((H ++ [.map .str []]) : VH) = H.length + 1 := by simp
    rw [e1, e2]; rfl
  · rw [List.getElem?_append_right (by simp)]; simp
  · rw [List.append_assoc, List.append_assoc, List.getElem?_append_right (Nat.le_refl _)]; simp [ents]
  · rw [List.append_assoc, List.append_assoc, List.getElem?_append_right (by omega)]; simp [ents]
/-! ### see -/
theorem p34 (n : Nat) {H : VH} {k : Nat} {F : List Nat} {t : Tb} (h : TO H k F t) (key : Key) : ∃ s q H', V.callD (vF P tab (n + 1)) P false (.one (.agg [.slice 3, .bool, .slice 66])) 44 [.ptr (.ob k 0), .str ⟨key.toArray⟩] H = some ((s, (lkOf t key).only, q, ()), H') ∧ Hr H' 3 1 s (ints (lkOf t key).hs) ∧ Hr H' WTY 3 q (wts (lkOf t key).q) ∧ Kp H H' [] ∧ (∀ a, a ∈ hps s ∨ a ∈ hps q → a ∈ F) := by
  obtain ⟨i, j, g1, g2, g3⟩ := h.find key
  obtain ⟨H1, e1⟩ : ∃ H1 : VH, H1 = H ++ [VO.row LTY [.sl 3 .nil, .bool false, .sl WTY .nil]] := ⟨_, rfl⟩
  have hb1 : H1[H.length]? = some (.row LTY [.sl 3 .nil, .bool false, .sl WTY .nil]) := by rw [e1]; exact app_last _ _
  have k1 : Kp H H1 [] := by rw [e1]; exact Kp.app _ _
  have ldA : ∀ {H : VH} {b : Nat} {s q : VS} {o : Bool}, H[b]? = some (.row LTY [.sl 3 s, .bool o, .sl WTY q]) → ldV (.agg [.slice 3, .bool, .slice 66]) H (.ob b 0) = some (s, o, q, ()) := fun {H b s q o} hb => by
    simp only [ldV, rowV_of hb, Option.bind_some]
    have : takeN 0 [V.FT.slice 3, V.FT.bool, V.FT.slice 66].length [V.sl 3 s, .bool o, .sl WTY q] = some [.sl 3 s, .bool o, .sl WTY q] := rfl
    rw [this, Option.bind_some]
    simp only [V.decs, fd_sl, fd_bool, Option.bind_some, Option.map_some]
  have main : ∀ (s q : VS) (o : Bool), ∃ H', stV H1 (.ob H.length 0) [.sl 3 s, .bool o, .sl 66 q] = some H' ∧ ldV (.agg [.slice 3, .bool, .slice 66]) H' (.ob H.length 0) = some (s, o, q, ()) ∧ Kp H H' [] := by
    intro s q o
    refine ⟨_, st_row hb1 (by simp) rfl, ldA (by rw [set_at hb1]; rfl), ?_⟩
    refine ⟨by have := k1.len; simpa using this, fun i hi _ => ?_⟩
    rw [List.getElem?_set_ne (by omega)]
    exact k1.at_ i hi (by simp)
  suffices hbd : ∃ s q H', bodyV P tab (vF P tab n) n 44 [.ptr (.ob k 0), .str ⟨key.toArray⟩] H = some (.agg [.sl 3 s, .bool (lkOf t key).only, .sl 66 q], H') ∧ Hr H' 3 1 s (ints (lkOf t key).hs) ∧ Hr H' WTY 3 q (wts (lkOf t key).q) ∧ Kp H H' [] ∧ (∀ a, a ∈ hps s ∨ a ∈ hps q → a ∈ F) by
    obtain ⟨s, q, H', q1, q2⟩ := hbd
    refine ⟨s, q, H', callD_some (.agg [.sl 3 s, .bool (lkOf t key).only, .sl 66 q]) (by rw [vF_body rfl]; exact q1) ?_, q2⟩
    show V.decs [.slice 3, .bool, .slice 66] [.sl 3 s, .bool (lkOf t key).only, .sl 66 q] = _
    simp only [V.decs, fd_sl, fd_bool, Option.bind_some, Option.map_some]
  rw [f44_eq, show H ++ [VO.row (64 + boxK) [.sl 3 .nil, .bool false, .sl 66 .nil]] = H1 from e1.symm]
  simp only [VP.isNil, cond_false, nn_ob, atO_ob, Option.bind_some, Nat.zero_add]
  rw [ld_t0 (k1.ob g1 (by simp)), Option.bind_some]
  rcases g3 with ⟨q1, tl, q2, q3, _⟩ | ⟨l1, l2, b, Fb, x, q1, q2, q3, q4⟩
  · rw [look_l (k1.ob q2 (by simp)), Option.bind_some, q3, lkOf_none q1]
    simp only [VP.isNil, cond_true]
    obtain ⟨H', a1, a2, a3⟩ := main .nil .nil false
    rw [a1, Option.bind_some, a2, Option.bind_some]
    exact ⟨.nil, .nil, H', rfl, Hr.nil _ _ _, Hr.nil _ _ _, a3, fun a ha => by rcases ha with ha | ha <;> cases ha⟩
  · have f1 := q2.kn k1
    rw [look_l f1.hi, Option.bind_some, getM_mid (by rw [keys_kb]; exact q2.nk), lkOf_some q1]
    simp only [VP.isNil, cond_false, nn_ob, Option.bind_some]
    obtain ⟨s, q, hb, hs, hq, hF⟩ := q2.lo
    rw [look_l f1.hi, Option.bind_some, getM_mid (by rw [keys_kb]; exact q2.nk)]
    simp only [nn_ob, Option.bind_some]
    rw [ldA (k1.ob hb (by simp)), Option.bind_some]
    simp only
    obtain ⟨H', a1, a2, a3⟩ := main s q x.only
    rw [a1, Option.bind_some, a2, Option.bind_some]
    refine ⟨s, q, H', rfl, hs.keep a3 (fun t _ => by simp), hq.keep a3 (fun t _ => by simp), a3, fun a ha => (q4 a).2 (.inr ?_)⟩
    rw [hF]
    rcases ha with ha | ha
    · simp [ha]
    · simp [ha]
/-- Numbers in an object, as they stand. -/
theorem hr_es {H : VH} {s : VS} {l : List Int} (h : Hr H 3 1 s (ints l)) : slEs H 3 1 s = some (ints l) := by
  rcases h.2 with ⟨rfl, h2⟩ | ⟨j, pre, post, rfl, hj⟩
  · rw [h2]; rfl
  · have hfl : (ints l).flatten = l.map ik := by
      clear h hj
      induction l with
      | nil => rfl
      | cons x l ih => show [ik x] ++ (ints l).flatten = _; rw [ih]; rfl
    show hpEs H 3 1 j pre.length (ints l).length = _
    unfold hpEs
    rw [hj]
    simp only [Nat.mul_one]
    have e1 : (List.drop pre.length (pre ++ ((ints l).flatten ++ post))).take (ints l).length = l.map ik := by
      rw [List.drop_left, hfl, ints_len]
      have := List.take_left (l₁ := l.map ik) (l₂ := post)
      rwa [List.length_map] at this
    rw [e1]
    have hcl : (l.map ik).all closed1 = true := by
      rw [List.all_eq_true]
      intro v hv
      obtain ⟨x, _, rfl⟩ := List.mem_map.1 hv
      rfl
    have hst : (l.map ik).map strip1 = l.map ik := by
      rw [List.map_map]; rfl
    rw [if_pos ⟨trivial, by simp [hfl, ints_len], hcl⟩, hst, ints_len]
    congr 1
    clear h hj e1 hcl hst hfl
    induction l with
    | nil => rfl
    | cons x l ih => show _ :: chunk 1 l.length (l.map ik) = _; rw [ih]; rfl
/-! ### Queue -/
/-! ### Waits -/
def wr (w : Option (Key × Bool)) : ByteArray × Bool × Bool := match w with | some (k, b) => (⟨k.toArray⟩, b, true) | none => (⟨#[]⟩, false, false)
abbrev NTY : TypeId := 28 + boxK
theorem ld_n {H : VH} {p : Nat} {a : ByteArray} {b : Bool} (h : H[p]? = some (.row NTY [.str a, .bool b])) : ldV (.agg [.str, .bool]) H (.ob p 0) = some (a, b, ()) := by
  simp only [ldV, rowV_of h, Option.bind_some]
  rfl
theorem stN {H : VH} {p : Nat} {a : ByteArray} {b : Bool} (h : H[p]? = some (.row NTY [.str a, .bool b])) (a' : ByteArray) (b' : Bool) : ∃ H', stV H (.ob p 0) [.str a', .bool b'] = some H' ∧ H'[p]? = some (.row NTY [.str a', .bool b']) ∧ Kp H H' [p] ∧ H'.length = H.length :=
  ⟨_, st_row h (by simp) rfl, by rw [set_at h]; rfl, Kp.set _ _ _, by simp⟩
theorem l20 (n : Nat) {s : VS} {q : List Wt} {p : Nat} {o : Int} (kk : Key) (ok : Bool) (hq2 : q.length < 2000) : ∀ (m c : Nat) {H0 H : VH}, Hr H WTY 3 s (wts q) → H[p]? = some (.row NTY [.str ⟨#[]⟩, .bool false]) → Kp H0 H [] → H0.length ≤ p → c ≤ q.length → q.length < c + m →
    ∃ H', L23_0 n m o p ⟨kk.toArray⟩ ok s (q.length : Int) (c : Int) H = some (.tup [.agg [.str (wr (cond ok ((findO o (q.drop c)).map fun w => (kk, w.only)) none)).1, .bool (wr (cond ok ((findO o (q.drop c)).map fun w => (kk, w.only)) none)).2.1], .bool (wr (cond ok ((findO o (q.drop c)).map fun w => (kk, w.only)) none)).2.2], H') ∧ Kp H0 H' [] := by
  intro m
  induction m with
  | zero => intros; omega
  | succ m ih =>
    intro c H0 H hs hp k0 hp0 hc hm
    rw [L23_0_eq]
    by_cases hcl : c < q.length
    · obtain ⟨w, hw⟩ := get_of hcl
      have hdt : decide ((c : Int) < (q.length : Int)) = true := decide_eq_true (by omega)
      rw [hdt, cond_true, rd_w hs hw]
      simp only
      obtain ⟨H1, b1, b2, b3, b4⟩ := new_w H w
      rw [b1, Option.bind_some, inc_nat (by omega)]
      have hp1 := b3.ob hp (by simp)
      have hs1 := hs.keep b3 (fun t _ => by simp)
      have k1 : Kp H0 H1 [] := k0.trans b3 (fun x hx _ => hx) (fun x hx _ => hx)
      obtain ⟨H', g1, g2⟩ := ih (c + 1) hs1 hp1 k1 hp0 (by omega) (by omega)
      rw [drop_of hw]
      unfold findO
      cases ok with
      | false =>
        rw [cond_false]
        exact ⟨H', g1, g2⟩
      | true =>
        rw [cond_true, ld_w0 b2, Option.bind_some]
        by_cases he : w.o = o
        · have e1 : ((w.o : Int) == o) = true := by simpa using he
          rw [e1, cond_true, ld_w1 b2, Option.bind_some]
          obtain ⟨H2, d1, d2, d3, d4⟩ := stN hp1 ⟨kk.toArray⟩ w.only
          rw [d1, Option.bind_some, ld_n d2, Option.bind_some, decide_eq_true he]
          exact ⟨H2, rfl, k1.trans d3 (fun x hx _ => hx) (fun x hx hlt => by simp at hx; omega)⟩
        · have e1 : ((w.o : Int) == o) = false := by simpa using he
          rw [e1, cond_false, decide_eq_false he]
          exact ⟨H', g1, g2⟩
    · have : c = q.length := by omega
      subst this
      have hdt : decide ((q.length : Int) < (q.length : Int)) = false := decide_eq_false (by omega)
      rw [hdt, cond_false, List.drop_eq_nil_of_le (Nat.le_refl _)]
      obtain ⟨H2, d1, d2, d3, d4⟩ := stN hp ⟨#[]⟩ false
      rw [d1, Option.bind_some, ld_n d2, Option.bind_some]
      refine ⟨H2, ?_, k0.trans d3 (fun x hx _ => hx) (fun x hx hlt => by simp at hx; omega)⟩
      cases ok <;> rfl
theorem p20 (n : Nat) (hn : 3000 ≤ n) {H : VH} {k : Nat} {F : List Nat} {t : Tb} (h : TO H k F t) (o : Int) (sz : ∀ key, (lkOf t key).q.length < 2000) :
    ∃ H', V.callD (vF P tab (n + 2)) P false (.tup [(.agg [.str, .bool]), (.flat .bool)]) 23 [.ptr (.ob k 0), .int .i64 o] H = some ((((wr (waitsP t o)).1, (wr (waitsP t o)).2.1, ()), (wr (waitsP t o)).2.2, ()), H') ∧ Kp H H' [] := by
  suffices hb : ∃ H', bodyV P tab (vF P tab (n + 1)) (n + 1) 23 [.ptr (.ob k 0), .int .i64 o] H = some (.tup [.agg [.str (wr (waitsP t o)).1, .bool (wr (waitsP t o)).2.1], .bool (wr (waitsP t o)).2.2], H') ∧ Kp H H' [] by
    obtain ⟨H', h1, h2⟩ := hb
    refine ⟨H', callD_some _ (by rw [vF_body rfl]; exact h1) ?_, h2⟩
    show V.decT _ _ = _
    simp only [V.decT, V.dec1, V.decs, V.fdec, Option.bind_some, Option.map_some]
  rw [f23_eq]
  obtain ⟨H1, e1⟩ : ∃ H1 : VH, H1 = H ++ [VO.row NTY [.str ⟨#[]⟩, .bool false]] := ⟨_, rfl⟩
  have hp1 : H1[H.length]? = some (.row NTY [.str ⟨#[]⟩, .bool false]) := by rw [e1]; exact app_last _ _
  have k1 : Kp H H1 [] := by rw [e1]; exact Kp.app _ _
  rw [← e1]
  simp only [VP.isNil, cond_false, nn_ob, atO_ob, Option.bind_some, Nat.zero_add]
  have h1 := h.kn k1
  obtain ⟨i, j, g1, g2, _⟩ := h1.find []
  rw [ld_t1 g1, Option.bind_some, look_w g2, Option.bind_some]
  unfold waitsP
  cases hw : getM t.ws o with
  | none =>
    simp only
    obtain ⟨s, q, H2, a1, a2, a3, a4, a5⟩ := p34 n h1 []
    rw [show (⟨#[]⟩ : ByteArray) = ⟨([] : Key).toArray⟩ from rfl, a1, Option.bind_some]
    simp only
    rw [a3.len, wts_len]
    obtain ⟨H', b1, b2⟩ := l20 (n + 1) (o := o) [] false (sz []) (n + 1) 0 (H0 := H) a3 (a4.ob hp1 (by simp)) (k1.trans a4 (fun x hx _ => hx) (fun x hx _ => hx)) (Nat.le_refl _) (Nat.zero_le _) (by have := sz []; omega)
    exact ⟨H', b1, b2⟩
  | some kk =>
    simp only
    obtain ⟨s, q, H2, a1, a2, a3, a4, a5⟩ := p34 n h1 kk
    rw [a1, Option.bind_some]
    simp only
    rw [a3.len, wts_len]
    obtain ⟨H', b1, b2⟩ := l20 (n + 1) (o := o) kk true (sz kk) (n + 1) 0 (H0 := H) a3 (a4.ob hp1 (by simp)) (k1.trans a4 (fun x hx _ => hx) (fun x hx _ => hx)) (Nat.le_refl _) (Nat.zero_le _) (by have := sz kk; omega)
    exact ⟨H', b1, b2⟩
/-! ### Compact -/
def compF : Int → List Int → List Int
  | _, [] => []
  | p, a :: r => cond (a == p) (compF a r) (a :: compF a r)
theorem dedup_comp : ∀ (r : List Int) (p : Int), dedupI (p :: r) = p :: compF p r
  | [], p => rfl
  | a :: r, p => by
    unfold dedupI compF
    by_cases h : p = a
    · subst h
      rw [decide_eq_true rfl, cond_true, dedup_comp r p]
      simp
    · have e : (a == p) = false := by simpa using fun e => h e.symm
      rw [decide_eq_false h, cond_false, dedup_comp r a, e, cond_false]
theorem cutD_any {H H' : VH} {e : TypeId} {sz : Nat} {s : VS} {es es' : List (List V)} (h : Hr H e sz s es) (h' : Hr H' e sz s es') (lo hi : Option Int) : cutD H' e sz s lo hi none = cutD H e sz s lo hi none := by
  unfold V.cutD
  rw [holdV_eq, holdV_eq]
  rcases h.2 with ⟨rfl, rfl⟩ | ⟨j, pre, post, rfl, hj⟩
  · rfl
  · rcases h'.2 with ⟨h1, _⟩ | ⟨j', pre', post', h1, hj'⟩
    · cases h1
    · injection h1 with h1
      subst h1
      unfold cutV
      simp only [hj, hj']
theorem dec_nat {i : Nat} (h0 : 1 ≤ i) (h : i < 9223372036854775807) : IntKind.wrap .i64 ((i : Int) - 1) = ((i - 1 : Nat) : Int) := by rw [i64_in (by omega)]; omega
theorem l371 (n m0 : Nat) {s s4 : VS} {N k0 : Nat} (hN : N < 2000) (hk0 : 1 ≤ k0) : ∀ (m k j : Nat) {H : VH} {es : List Int} {p : Int} {r : List Int}, Hr H 3 1 s (ints es) → cutD H 3 1 s (some (k0 : Int)) none none = some s4 → es.length = N → k0 ≤ k → k < j → j ≤ N → k0 + 1 ≤ j → N < j + m → es.drop (j - 1) = p :: r →
    ∃ s' H', L32_1 n m0 m s (k : Int) s4 ((j - k0 : Nat) : Int) H = some (.sl 3 s', H') ∧ Hr H' 3 1 s' (ints (es.take k ++ compF p r)) ∧ Kp H H' (hps s) ∧ hps s' = hps s := by
  intro m
  induction m with
  | zero => intros; omega
  | succ m ih =>
    intro k j H es p r hs hcut hl h1 h2 h3 h4 h5 hd
    have h4s : Hr H 3 1 s4 (ints (es.drop k0)) ∧ hps s4 = hps s := by
      obtain ⟨s', a1, a2, a3, _⟩ := hs.drop (c := k0) (by rw [ints_len]; omega)
      rw [hcut] at a1
      injection a1 with a1
      subst a1
      refine ⟨?_, a3⟩
      have : ints (es.drop k0) = (ints es).drop k0 := by simp [ints]
      rw [this]; exact a2
    rw [L32_1_eq, h4s.1.len, ints_len, List.length_drop, hl]
    by_cases hj : j < N
    · have hdt : decide ((((j - k0 : Nat) : Nat) : Int) < ((N - k0 : Nat) : Int)) = true := decide_eq_true (by omega)
      obtain ⟨a, ha⟩ : ∃ a, es[j]? = some a := get_of (by omega)
      have hp' : es[j - 1]? = some p := by
        have := congrArg (fun l : List Int => l[0]?) hd
        simpa using this
      have hr' : r = a :: es.drop (j + 1) := by
        have e1 : es.drop j = r := by
          have := congrArg (fun l : List Int => l.drop 1) hd
          simp only [List.drop_drop, List.drop_succ_cons, List.drop_zero] at this
          rwa [show j - 1 + 1 = j by omega] at this
        rw [← e1, drop_of ha]
      subst hr'
      have g1 : (es.drop k0)[j - k0]? = some a := by rw [List.getElem?_drop, show k0 + (j - k0) = j by omega]; exact ha
      have g2 : (es.drop k0)[j - k0 - 1]? = some p := by rw [List.getElem?_drop, show k0 + (j - k0 - 1) = j - 1 by omega]; exact hp'
      rw [hdt, cond_true, h4s.1.rd1 (τ := .int .i64) (ints_get g1) (fd_int .i64 a), dec_nat (by omega) (by omega), h4s.1.rd1 (τ := .int .i64) (ints_get g2) (fd_int .i64 p)]
      rw [inc_nat (by omega), inc_nat (by omega), show j - k0 + 1 = (j + 1) - k0 by omega]
      have hd2 : es.drop (j + 1 - 1) = a :: es.drop (j + 1) := by rw [show j + 1 - 1 = j by omega]; exact drop_of ha
      unfold compF
      by_cases hap : a = p
      · have e1 : ((a : Int) != p) = false := by simp [hap]
        have e2 : (a == p) = true := by simp [hap]
        rw [e1, cond_false, e2, cond_true]
        exact ih k (j + 1) hs hcut hl h1 (by omega) (by omega) (by omega) (by omega) hd2
      · have e1 : ((a : Int) != p) = true := by simpa using hap
        have e2 : (a == p) = false := by simpa using hap
        rw [e1, cond_true, h4s.1.rd1 (τ := .int .i64) (ints_get g1) (fd_int .i64 a), e2, cond_false]
        obtain ⟨H1, b1, b2, b3, b4⟩ := hs.set (i := k) (by rw [ints_len]; omega) (z := [ik a]) rfl rfl (fun h8 => L32_1 n m0 m s ((k + 1 : Nat) : Int) s4 ((j + 1 - k0 : Nat) : Int) h8)
        rw [b1]
        rw [← ints_set] at b2
        have hd3 : (es.set k a).drop (j + 1 - 1) = a :: es.drop (j + 1) := by rw [List.drop_set_of_lt (by omega)]; exact hd2
        obtain ⟨s', H', c1, c2, c3, c4⟩ := ih (k + 1) (j + 1) b2 (by rw [cutD_any hs b2]; exact hcut) (by rw [List.length_set]; exact hl) (by omega) (by omega) (by omega) (by omega) (by omega) hd3
        refine ⟨s', H', c1, ?_, b3.trans c3 (fun x hx _ => hx) (fun x hx _ => hx), c4⟩
        have e3 : (es.set k a).take (k + 1) ++ compF a (es.drop (j + 1)) = es.take k ++ a :: compF a (es.drop (j + 1)) := by
          rw [List.set_eq_take_append_cons_drop, if_pos (by omega)]
          rw [List.take_append, List.length_take, Nat.min_eq_left (by omega), show k + 1 - k = 1 by omega, List.take_of_length_le (by rw [List.length_take]; omega)]
          simp
        rw [e3] at c2
        exact c2
    · have hjN : j = N := by omega
      have hdt : decide ((((j - k0 : Nat) : Nat) : Int) < ((N - k0 : Nat) : Int)) = false := decide_eq_false (by omega)
      rw [hdt, cond_false]
      have hr' : r = [] := by
        have := congrArg List.length hd
        simp only [List.length_drop, List.length_cons] at this
        exact List.eq_nil_of_length_eq_zero (by omega)
      subst hr'
      obtain ⟨s2, a1, a2, a3, a4⟩ := hs.drop (c := k) (by rw [ints_len]; omega)
      rw [a1, Option.bind_some]
      obtain ⟨H1, es', b1, b2, b3, b4, b5, b6⟩ := hs.clear (c := k) (by rw [ints_len]; omega) a1 elem3 zero3 rfl (by decide) rfl
      rw [b1, Option.bind_some]
      obtain ⟨s3, c1, c2, c3⟩ := b2.take (c := k) (by rw [b3, ints_len]; omega)
      rw [c1, Option.bind_some]
      refine ⟨s3, H1, rfl, ?_, b5, c3⟩
      rw [b4, ← ints_take] at c2
      unfold compF
      rw [List.append_nil]; exact c2
theorem l370 (n : Nat) (hn : 3000 ≤ n) {H : VH} {s : VS} {l : List Int} (hs : Hr H 3 1 s (ints l)) (hl : l.length < 2000) : ∀ (m k : Nat) {p : Int} {r : List Int}, 1 ≤ k → k ≤ l.length → l.length < k + m → l.drop (k - 1) = p :: r →
    ∃ s' H', L32_0 n m s (k : Int) H = some (.sl 3 s', H') ∧ Hr H' 3 1 s' (ints (l.take k ++ compF p r)) ∧ Kp H H' (hps s) ∧ hps s' = hps s := by
  intro m
  induction m with
  | zero => intros; omega
  | succ m ih =>
    intro k p r h1 h2 h3 hd
    rw [L32_0_eq, hs.len, ints_len]
    by_cases hk : k < l.length
    · have hdt : decide ((k : Int) < (l.length : Int)) = true := decide_eq_true (by omega)
      obtain ⟨a, ha⟩ : ∃ a, l[k]? = some a := get_of (by omega)
      have hp' : l[k - 1]? = some p := by
        have := congrArg (fun l : List Int => l[0]?) hd
        simpa using this
      have hr' : r = a :: l.drop (k + 1) := by
        have e1 : l.drop k = r := by
          have := congrArg (fun l : List Int => l.drop 1) hd
          simp only [List.drop_drop, List.drop_succ_cons, List.drop_zero] at this
          rwa [show k - 1 + 1 = k by omega] at this
        rw [← e1, drop_of ha]
      subst hr'
      rw [hdt, cond_true, hs.rd1 (τ := .int .i64) (ints_get ha) (fd_int .i64 a), dec_nat h1 (by omega), hs.rd1 (τ := .int .i64) (ints_get hp') (fd_int .i64 p), inc_nat (by omega)]
      have hd2 : l.drop (k + 1 - 1) = a :: l.drop (k + 1) := by rw [show k + 1 - 1 = k by omega]; exact drop_of ha
      by_cases hap : a = p
      · have e1 : ((a : Int) == p) = true := by simp [hap]
        rw [e1, cond_true]
        obtain ⟨s4, c1, _⟩ := hs.drop (c := k) (by rw [ints_len]; omega)
        rw [c1, Option.bind_some]
        obtain ⟨s', H', q1, q2, q3, q4⟩ := l371 n m hl h1 n k (k + 1) hs c1 rfl (Nat.le_refl _) (by omega) (by omega) (Nat.le_refl _) (by omega) hd2
        rw [show k + 1 - k = 1 by omega] at q1
        refine ⟨s', H', q1, ?_, q3, q4⟩
        rw [compF, e1, cond_true]
        exact q2
      · have e1 : ((a : Int) == p) = false := by simpa using hap
        rw [e1, cond_false]
        obtain ⟨s', H', q1, q2, q3, q4⟩ := ih (k + 1) (by omega) (by omega) (by omega) hd2
        refine ⟨s', H', q1, ?_, q3, q4⟩
        rw [compF, e1, cond_false]
        have : l.take (k + 1) = l.take k ++ [a] := by rw [List.take_add_one, ha]; rfl
        rw [this, List.append_assoc] at q2
        exact q2
    · have hkl : k = l.length := by omega
      have hdt : decide ((k : Int) < (l.length : Int)) = false := decide_eq_false (by omega)
      rw [hdt, cond_false]
      have hr' : r = [] := by
        have := congrArg List.length hd
        simp only [List.length_drop, List.length_cons] at this
        exact List.eq_nil_of_length_eq_zero (by omega)
      subst hr'
      refine ⟨s, H, rfl, ?_, Kp.refl _ _, rfl⟩
      rw [hkl, List.take_length, compF, List.append_nil]; exact hs
theorem p37 (n : Nat) (hn : 3000 ≤ n) {H : VH} {s : VS} {l : List Int} (hs : Hr H 3 1 s (ints l)) (hl : l.length < 2000) :
    ∃ s' H', V.callD (vF P tab (n + 1)) P false (.one (.flat (.slice 3))) 32 [.sl 3 s] H = some (s', H') ∧ Hr H' 3 1 s' (ints (dedupI l)) ∧ Kp H H' (hps s) ∧ hps s' = hps s := by
  suffices hb : ∃ s' H', bodyV P tab (vF P tab n) n 32 [.sl 3 s] H = some (.sl 3 s', H') ∧ Hr H' 3 1 s' (ints (dedupI l)) ∧ Kp H H' (hps s) ∧ hps s' = hps s by
    obtain ⟨s', H', h1, h2⟩ := hb
    exact ⟨s', H', callD_sl (by rw [vF_body rfl]; exact h1), h2⟩
  rw [f32_eq, hs.len, ints_len]
  match l, hs, hl with
  | [], hs, _ => exact ⟨s, H, rfl, hs, Kp.refl _ _, rfl⟩
  | [a], hs, _ => exact ⟨s, H, rfl, hs, Kp.refl _ _, rfl⟩
  | a :: b :: l, hs, hl =>
    have hdt : decide ((((a :: b :: l).length : Nat) : Int) < 2) = false := decide_eq_false (by simp only [List.length_cons]; omega)
    rw [hdt, cond_false]
    obtain ⟨s', H', q1, q2, q3, q4⟩ := l370 n hn hs hl n 1 (Nat.le_refl _) (by simp) (by omega) rfl
    refine ⟨s', H', q1, ?_, q3, q4⟩
    rw [dedup_comp]
    exact q2
/-! ### Ahead -/
/-- A list that is new. -/
structure NL (H0 H : VH) (s : VS) (l : List Int) : Prop where
  k : Kp H0 H []
  r : Hr H 3 1 s (ints l)
  f : ∀ a ∈ hps s, H0.length ≤ a
  z : s = .nil ∨ l ≠ []
theorem NL.push {H0 H : VH} {s : VS} {l : List Int} (h : NL H0 H s l) (x : Int) (hl : l.length < 5000) : ∃ s' H', appD false (H ++ [.row 3 [.int .i64 x]]) 1 8 3 s (.hp H.length 0 1) = some (s', H') ∧ NL H0 H' s' (l ++ [x]) := by
  have k2 := Kp.app H [VO.row 3 [.int .i64 x]]
  have hone : slEs (H ++ [VO.row 3 [.int .i64 x]]) 3 1 (.hp H.length 0 1) = some [[.int .i64 x]] := new_one H 3 rfl rfl
  obtain ⟨s', H3, a1, a2, a3, a4⟩ := (h.r.keep k2 (fun t _ => by simp)).app (by_ := 8) (x := .hp H.length 0 1) (news := ints [x]) rfl hone (fun y hy => by rw [List.mem_singleton.1 hy]; rfl) (by rw [ints_len]; simp [ints, bound]; omega) (by rw [ints_len]; simp [ints, bound]; omega)
  rw [← ints_app] at a2
  refine ⟨s', H3, a1, (h.k.trans k2 (Z := []) (fun x hx _ => hx) (fun x hx _ => hx)).trans a3 (fun x hx _ => hx) (fun x hx hlt => by have := h.f x hx; omega), a2, fun a ha => ?_, .inr (by simp)⟩
  rcases a4 a ha with h1 | h1
  · exact h.f a h1
  · have := h.k.len
    have := k2.len
    omega
theorem l21a (n : Nat) {o : Int} {p b : Nat} {sh sq : VS} {hs : List Int} {only xo : Bool} {key : ByteArray} {H0 : VH} (h1 : Hr H0 3 1 sh (ints hs)) (hb : H0[b]? = some (.row LTY [.sl 3 sh, .bool xo, .sl WTY sq])) (hp : H0[p]? = some (.row NTY [.str key, .bool only])) (hl : hs.length < 2000) :
    ∀ (m c : Nat) {H : VH} {s8 : VS} {acc : List Int}, NL H0 H s8 acc → acc.length ≤ c → c ≤ hs.length → hs.length < c + m →
    ∃ H' s8', L17_0 n m o p (.ob b 0) s8 sh (hs.length : Int) (c : Int) H = L17_1 n n o s8' sq ((VS.len sq : Nat) : Int) 0 H' ∧ NL H0 H' s8' (acc ++ (hs.drop c).filter (fun h => h != o && (only || xo))) := by
  intro m
  induction m with
  | zero => intros; omega
  | succ m ih =>
    intro c H s8 acc hN hacc hc hm
    rw [L17_0_eq]
    have k0 := hN.k
    have hb' := k0.ob hb (by simp)
    by_cases hcl : c < hs.length
    · obtain ⟨y, hy⟩ := get_of hcl
      have hdt : decide ((c : Int) < (hs.length : Int)) = true := decide_eq_true (by omega)
      rw [hdt, cond_true, (h1.keep k0 (fun t _ => by simp)).rd1 (τ := .int .i64) (ints_get hy) (fd_int .i64 y), drop_of hy, List.filter_cons, inc_nat (by omega)]
      simp only [nn_ob, atO_ob, Option.bind_some, Nat.zero_add]
      have lo : ldV (.flat .bool) H (.ob p 1) = some only := by rw [ld_row (k0.ob hp (by simp))]; rfl
      have go := fun {H1 : VH} {s1 : VS} {acc1 : List Int} (h : NL H0 H1 s1 acc1) (hl : acc1.length ≤ c + 1) => ih (c + 1) h hl (by omega) (by omega)
      by_cases hyo : y = o
      · have e1 : ((y : Int) != o) = false := by simp [hyo]
        rw [e1, cond_false, Bool.false_and]
        simp only [Bool.false_eq_true, if_false]
        exact go hN (by omega)
      · have e1 : ((y : Int) != o) = true := by simpa using hyo
        rw [e1, cond_true, lo, Option.bind_some, Bool.true_and]
        obtain ⟨s', H', g1, g2⟩ := hN.push y (by omega)
        have take : ∃ H2 s2, ((appD false (H ++ [.row 3 [.int .i64 y]]) 1 8 3 s8 (.hp H.length 0 1)).bind fun r4 => (L17_0 n m o p (.ob b 0) r4.1 sh (hs.length : Int) ((c + 1 : Nat) : Int) r4.2)) = L17_1 n n o s2 sq ((VS.len sq : Nat) : Int) 0 H2 ∧ NL H0 H2 s2 (acc ++ y :: (hs.drop (c + 1)).filter (fun h => h != o && (only || xo))) := by
          rw [g1, Option.bind_some]
          obtain ⟨H2, s2, q1, q2⟩ := go g2 (by simp; omega)
          rw [List.append_assoc] at q2
          exact ⟨H2, s2, q1, q2⟩
        cases hon : only with
        | true =>
          rw [hon] at take
          rw [cond_true]
          simp only [Bool.true_or, if_true] at take ⊢
          exact take
        | false =>
          rw [hon] at take go
          rw [cond_false, ld_l1 hb', Option.bind_some]
          cases hxo : xo with
          | true =>
            rw [hxo] at take
            rw [cond_true]
            exact take
          | false =>
            rw [hxo] at go
            rw [cond_false]
            exact go hN (by omega)
    · have : c = hs.length := by omega
      subst this
      have hdt : decide ((hs.length : Int) < (hs.length : Int)) = false := decide_eq_false (by omega)
      rw [hdt, cond_false, List.drop_eq_nil_of_le (Nat.le_refl _)]
      simp only [nn_ob, atO_ob, Option.bind_some, Nat.zero_add]
      rw [ld_l2 hb', Option.bind_some]
      exact ⟨H, s8, rfl, by rw [List.filter_nil, List.append_nil]; exact hN⟩
theorem fin21 (n : Nat) (hn : 3000 ≤ n) {H0 H : VH} {s : VS} {l : List Int} (h : NL H0 H s l) (hl : l.length < 1900) :
    ∃ s' H', ((callD (vF P tab (n + 1)) P false (.tup []) 31 [.sl 3 s] H).bind fun r9 =>
      ((callD (vF P tab (n + 1)) P false (.one (.flat (.slice 3))) 32 [.sl 3 s] r9.2).bind fun r10 =>
        (some (V.sl 3 r10.1, r10.2)))) = some (.sl 3 s', H') ∧ Hr H' 3 1 s' (ints (dedupI (sortI l))) ∧ Kp H0 H' [] ∧ ∀ t ∈ hps s', H0.length ≤ t := by
  obtain ⟨H1, c1, c2, c3, c4⟩ := h.r.sort (e1 := 3) (by omega) h.z
  have hc : V.callD (vF P tab (n + 1)) P false (.tup []) 31 [.sl 3 s] H = some ((), H1) := by
    refine callD_unit ?_
    rw [vF_body rfl]
    exact c1
  rw [hc, Option.bind_some]
  simp only
  obtain ⟨s', H', d1, d2, d3, d4⟩ := p37 n hn c2 (by rw [sortI_len]; omega)
  rw [d1, Option.bind_some]
  refine ⟨s', H', rfl, d2, (h.k.trans c3 (Z := []) (fun x hx _ => hx) (fun x hx hlt => by have := h.f x hx; omega)).trans d3 (fun x hx _ => hx) (fun x hx hlt => by have := h.f x hx; omega), fun t ht => h.f t (by rw [← d4]; exact ht)⟩
theorem l21b (n : Nat) (hn : 3000 ≤ n) {o : Int} {sq : VS} {q : List Wt} {H0 : VH} (h1 : Hr H0 WTY 3 sq (wts q)) (hq2 : q.length < 1900) :
    ∀ (m c : Nat) {H : VH} {s8 : VS} {acc : List Int}, NL H0 H s8 acc → acc.length + (q.length - c) < 1900 → c ≤ q.length → q.length < c + m →
    ∃ s' H', L17_1 (n + 1) m o s8 sq (q.length : Int) (c : Int) H = some (.sl 3 s', H') ∧ Hr H' 3 1 s' (ints (dedupI (sortI (acc ++ aheadQ o (q.drop c))))) ∧ Kp H0 H' [] ∧ ∀ t ∈ hps s', H0.length ≤ t := by
  intro m
  induction m with
  | zero => intros; omega
  | succ m ih =>
    intro c H s8 acc hN hacc hc hm
    rw [L17_1_eq]
    by_cases hcl : c < q.length
    · obtain ⟨w, hw⟩ := get_of hcl
      have hdt : decide ((c : Int) < (q.length : Int)) = true := decide_eq_true (by omega)
      rw [hdt, cond_true, rd_w (h1.keep hN.k (fun t _ => by simp)) hw, drop_of hw]
      simp only
      obtain ⟨H1, b1, b2, b3, b4⟩ := new_w H w
      rw [b1, Option.bind_some, ld_w0 b2, Option.bind_some]
      have hN1 : NL H0 H1 s8 acc := ⟨hN.k.trans b3 (fun x hx _ => hx) (fun x hx _ => hx), hN.r.keep b3 (fun t _ => by simp), hN.f, hN.z⟩
      unfold aheadQ
      by_cases he : w.o = o
      · have e1 : ((w.o : Int) == o) = true := by simpa using he
        rw [e1, cond_true, decide_eq_true he, cond_true, List.append_nil]
        exact fin21 n hn hN1 (by omega)
      · have e1 : ((w.o : Int) == o) = false := by simpa using he
        rw [e1, cond_false, decide_eq_false he, cond_false, Option.bind_some]
        obtain ⟨s', H', g1, g2⟩ := hN1.push w.o (by omega)
        rw [g1, Option.bind_some]
        simp only
        rw [inc_nat (by omega)]
        obtain ⟨s2, H2, q1, q2⟩ := ih (c + 1) g2 (by simp; omega) (by omega) (by omega)
        rw [List.append_assoc] at q2
        exact ⟨s2, H2, q1, q2⟩
    · have : c = q.length := by omega
      subst this
      have hdt : decide ((q.length : Int) < (q.length : Int)) = false := decide_eq_false (by omega)
      rw [hdt, cond_false, List.drop_eq_nil_of_le (Nat.le_refl _)]
      unfold aheadQ
      rw [List.append_nil]
      exact fin21 n hn hN (by omega)
theorem p21 (n : Nat) (hn : 3000 ≤ n) {H : VH} {k : Nat} {F : List Nat} {t : Tb} (h : TO H k F t) (o : Int) (sz : ∀ key, (lkOf t key).hs.length + (lkOf t key).q.length < 1900) :
    ∃ s' H', V.callD (vF P tab (n + 3)) P false (.one (.flat (.slice 3))) 17 [.ptr (.ob k 0), .int .i64 o] H = some (s', H') ∧ Hr H' 3 1 s' (ints (aheadP t o)) ∧ Kp H H' [] ∧ ∀ t ∈ hps s', H.length ≤ t := by
  suffices hb : ∃ s' H', bodyV P tab (vF P tab (n + 2)) (n + 2) 17 [.ptr (.ob k 0), .int .i64 o] H = some (.sl 3 s', H') ∧ Hr H' 3 1 s' (ints (aheadP t o)) ∧ Kp H H' [] ∧ ∀ t ∈ hps s', H.length ≤ t by
    obtain ⟨s', H', h1, h2⟩ := hb
    exact ⟨s', H', callD_sl (by rw [vF_body rfl]; exact h1), h2⟩
  rw [f17_eq]
  obtain ⟨H1, a1, a2⟩ := p20 n hn h o (fun key => by have := sz key; omega)
  rw [a1, Option.bind_some]
  simp only
  obtain ⟨H2, e2⟩ : ∃ H2 : VH, H2 = H1 ++ [VO.row NTY [.str ⟨#[]⟩, .bool false]] := ⟨_, rfl⟩
  have hp2 : H2[H1.length]? = some (.row NTY [.str ⟨#[]⟩, .bool false]) := by rw [e2]; exact app_last _ _
  have k2 : Kp H1 H2 [] := by rw [e2]; exact Kp.app _ _
  rw [← e2]
  obtain ⟨H3, b1, b2, b3, b4⟩ := stN hp2 (wr (waitsP t o)).1 (wr (waitsP t o)).2.1
  rw [b1, Option.bind_some]
  have k3 : Kp H H3 [] := (a2.trans k2 (Z := []) (fun x hx _ => hx) (fun x hx _ => hx)).trans b3 (fun x hx _ => hx) (fun x hx hlt => by simp at hx; have := a2.len; omega)
  have h3 := h.kn k3
  unfold aheadP
  cases hw : waitsP t o with
  | none =>
    rw [hw] at b2
    simp only [wr, Bool.not_false, cond_true]
    exact ⟨.nil, H3, rfl, Hr.nil _ _ _, k3, fun t ht => (by cases ht)⟩
  | some kw =>
    obtain ⟨kk, only⟩ := kw
    rw [hw] at b2
    simp only [wr, Bool.not_true, cond_false, nn_ob, atO_ob, Option.bind_some, Nat.zero_add] at b2 ⊢
    have hg : getM t.m kk ≠ none := by
      intro hn
      unfold waitsP at hw
      cases hws : getM t.ws o with
      | none => rw [hws] at hw; cases hw
      | some k2 =>
        rw [hws] at hw
        simp only [Option.map_eq_some_iff] at hw
        obtain ⟨w, hw1, hw2⟩ := hw
        injection hw2 with hw2 _
        subst hw2
        rw [lkOf_none hn] at hw1
        cases hw1
    obtain ⟨i, j, g1, g2, g3⟩ := h3.find kk
    rcases g3 with ⟨q1, _⟩ | ⟨l1, l2, b, Fb, x, q1, q2, q3, q4⟩
    · exact absurd q1 hg
    have ls : ldV (.flat .str) H3 (.ob H1.length 0) = some ⟨kk.toArray⟩ := by rw [ld_row b2]; rfl
    rw [ld_t0 g1, Option.bind_some, ls, Option.bind_some, look_l q2.hi, Option.bind_some, getM_mid (by rw [keys_kb]; exact q2.nk)]
    simp only [nn_ob, atO_ob, Option.bind_some, Nat.zero_add]
    obtain ⟨s, q, hb, hs, hq, hF⟩ := q2.lo
    have hsz := sz kk
    rw [lkOf_some q1] at hsz ⊢
    rw [ld_l0 hb, Option.bind_some, hs.len, ints_len]
    obtain ⟨H4, s8, c1, c2⟩ := l21a (n + 2) (o := o) hs hb b2 (by omega) (n + 2) 0 (H := H3) (s8 := .nil) (acc := []) ⟨Kp.refl _ _, Hr.nil _ _ _, fun a ha => (by cases ha), .inl rfl⟩ (Nat.le_refl _) (Nat.zero_le _) (by omega)
    rw [show ((0 : Nat) : Int) = 0 from rfl] at c1
    rw [c1, hq.len, wts_len]
    rw [List.nil_append, List.drop_zero] at c2
    have hfl := fl_len (fun h => h != o && (only || x.only)) x.hs
    obtain ⟨s', H', d1, d2, d3⟩ := l21b (n + 1) (by omega) (o := o) hq (by omega) (n + 2) 0 c2 (by omega) (Nat.zero_le _) (by omega)
    rw [show ((0 : Nat) : Int) = 0 from rfl] at d1
    rw [List.drop_zero] at d2
    exact ⟨s', H', d1, d2, k3.trans d3.1 (fun x hx _ => hx) (fun x hx _ => hx), fun t ht => Nat.le_trans k3.len (d3.2 t ht)⟩
/-! ### Two lists of numbers are alike -/
inductive RdI (H : VH) : VS → List Int → Prop
  | e {s : VS} {l : List Int} : IsE s (ints l) → RdI H s l
  | r {s : VS} {l : List Int} : Hr H 3 1 s (ints l) → RdI H s l
theorem RdI.len {H : VH} {s : VS} {l : List Int} (h : RdI H s l) : s.len = l.length := by
  cases h with
  | e h => rw [h.len, ints_len]
  | r h => rw [h.len, ints_len]
theorem RdI.rd {H : VH} {s : VS} {l : List Int} (h : RdI H s l) {i : Nat} {x : Int} (hx : l[i]? = some x) {β : Type} (f : Int → Option β) : ((ixV 1 s (i : Int)).bind fun p => (ldV (.flat (.int .i64)) H p).bind f) = f x := by
  cases h with
  | e h => exact isI_rd h hx H f
  | r h => exact h.rd1 (τ := .int .i64) (ints_get hx) (fd_int .i64 x) f
theorem l15 (n : Nat) {H : VH} {s t : VS} {a b : List Int} (hs : RdI H s a) (ht : RdI H t b) (hl : a.length = b.length) (hb : a.length < 100000) : ∀ (m i : Nat), i ≤ a.length → a.length < i + m → L14_0 n m s t (i : Int) H = some (.bool (decide (a.drop i = b.drop i)), H) := by
  intro m
  induction m with
  | zero => intros; omega
  | succ m ih =>
    intro i h1 h2
    rw [L14_0_eq, hs.len]
    by_cases hi : i < a.length
    · obtain ⟨x, hx⟩ := get_of hi
      obtain ⟨y, hy⟩ : ∃ y, b[i]? = some y := get_of (by omega)
      have hdt : decide ((i : Int) < (a.length : Int)) = true := decide_eq_true (by omega)
      rw [hdt, cond_true, hs.rd hx, ht.rd hy, inc_nat (by omega), drop_of hx, drop_of hy]
      by_cases hxy : x = y
      · subst hxy
        have : ((x : Int) != x) = false := by simp
        rw [this, cond_false, ih (i + 1) (by omega) (by omega)]
        have : decide (x :: a.drop (i + 1) = x :: b.drop (i + 1)) = decide (a.drop (i + 1) = b.drop (i + 1)) := decide_eq_decide.2 (by simp)
        rw [this]
      · have : ((x : Int) != y) = true := by simpa using hxy
        rw [this, cond_true]
        have : decide (x :: a.drop (i + 1) = y :: b.drop (i + 1)) = false := decide_eq_false (fun h => hxy (List.cons.inj h).1)
        rw [this]
    · have hdt : decide ((i : Int) < (a.length : Int)) = false := decide_eq_false (by omega)
      rw [hdt, cond_false, List.drop_eq_nil_of_le (by omega), List.drop_eq_nil_of_le (by omega)]
      rfl
theorem b15 (n : Nat) {H : VH} {s t : VS} {a b : List Int} (hs : RdI H s a) (ht : RdI H t b) (hb : a.length < 100000) (hn : a.length < n) : bodyV P tab (vF P tab n) n 14 [.sl 3 s, .sl 3 t] H = some (.bool (decide (a = b)), H) := by
  rw [f14_eq, hs.len, ht.len]
  by_cases hl : a.length = b.length
  · have : ((((a.length : Nat) : Int)) != ((b.length : Nat) : Int)) = false := by rw [hl]; simp
    rw [this, cond_false]
    have := l15 n hs ht hl hb n 0 (Nat.zero_le _) (by omega)
    simpa using this
  · have : ((((a.length : Nat) : Int)) != ((b.length : Nat) : Int)) = true := by
      have : ((a.length : Nat) : Int) ≠ (b.length : Int) := by omega
      simpa using this
    rw [this, cond_true]
    have : decide (a = b) = false := decide_eq_false (fun h => hl (by rw [h]))
    rw [this]
theorem RdI.strip {H : VH} {s : VS} {l : List Int} (h : RdI H s l) (hc : closedC (.sl 3 s) = true) : RdI [] s.strip l := by
  cases h with
  | e h => exact .e h.strip
  | r h =>
    rcases h.2 with ⟨rfl, h2⟩ | ⟨j, pre, post, rfl, _⟩
    · exact .e (by rw [h2]; exact .nil)
    · cases hc
/-- Ints: at lists that stay, or in objects. -/
theorem p15 (n : Nat) {H : VH} {s t : VS} {a b : List Int} (hs : RdI H s a) (ht : RdI H t b) (hb : a.length < 100000) (hn : a.length < n) : V.callD (vF P tab (n + 1)) P false (.one (.flat .bool)) 14 [.sl 3 s, .sl 3 t] H = some (decide (a = b), H) := by
  refine callD_bool ?_
  by_cases hc : ([V.sl 3 s, .sl 3 t].all closedC) = true
  · have hc' := hc
    simp only [List.all_cons, List.all_nil, Bool.and_true, Bool.and_eq_true] at hc'
    refine vF_lone (r := .bool (decide (a = b))) (H1 := []) rfl hc ?_ rfl
    exact b15 n (hs.strip hc'.1) (ht.strip hc'.2) hb hn
  · have hf : ([V.sl 3 s, .sl 3 t].all closedC) = false := by simpa using hc
    show V.alone true (tab.pur 14) [V.sl 3 s, .sl 3 t] H (bodyV P tab (vF P tab n) n 14) = _
    unfold V.alone
    rw [hf, show tab.pur 14 = false from rfl]
    exact b15 n hs ht hb hn
end Go.Proofs.Ytibdinelkpbhaaa
