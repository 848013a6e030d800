import Derived.Test.YtgmgpandhaeniaaB14z
set_option maxRecDepth 100000
set_option linter.unusedVariables false
set_option linter.unusedSimpArgs false
namespace Go.Proofs.Ytgmgpandhaeniaa
open Go.Proofs.Ytgmgpandhaeniaa.Sh Go.Proofs.Ytgmgpandhaeniaa.Sh.V Go.RowKit Go.Proofs.Ytgmgpandhaeniaa.Sh.Lk
/-! ### let -/
theorem Foc.tok {H : VH} {k b i j : Nat} {key : Key} {Fb : List Nat} {x : Lk} {l1 l2 : List Ent} {ws : List (Int × Key)} (h : Foc H k key b Fb x i j l1 l2 ws) {t : Nat} {e : TypeId} {g : Nat} (ht : H[t]? = some (.tok e g)) : t ∉ frF k i j l1 l2 ∧ t ∉ Fb := by
  constructor
  · intro hm
    unfold frF at hm
    rcases List.mem_cons.1 hm with rfl | hm
    · rw [h.hk] at ht; injection ht with ht; cases ht
    · rcases List.mem_cons.1 hm with rfl | hm
      · rw [h.hi] at ht; injection ht with ht; cases ht
      · rcases List.mem_cons.1 hm with rfl | hm
        · rw [h.hj] at ht; injection ht with ht; cases ht
        · obtain ⟨T, cs, h1, _⟩ := h.ft t hm
          rw [h1] at ht; injection ht with ht; cases ht
  · intro hm
    obtain ⟨T, cs, h1, _⟩ := h.lo.ty t hm
    rw [h1] at ht; injection ht with ht; cases ht
theorem ap_tok {H : VH} {e : TypeId} {s : VS} {es : List (List V)} (h : Ap H e s es) {t : Nat} (ht : t ∈ toks s) : ∃ g, H[t]? = some (.tok e g) := h.aq.tok_at ht
theorem apI {H : VH} {s x : VS} {l r : List Int} (h : Ap H 3 s (ints l)) (hx : IsE x (ints r)) (hb : l.length + r.length < 1000000) :
    ∃ s' H', appD true H 1 8 3 s x = some (s', H') ∧ Ap H' 3 s' (ints (l ++ r)) ∧ Kp H H' (toks s) ∧ (∀ t ∈ toks s', t ∈ toks s ∨ H.length ≤ t) := by
  obtain ⟨s', H', h1, h2, h3, h4, _⟩ := h.app (sz := 1) (by_ := 8) (x := x) (news := ints r) hx (by rw [ints_len, ints_len]; simp [bound]; omega) (by rw [ints_len, ints_len]; simp [bound]; omega)
  rw [← ints_app] at h2
  exact ⟨s', H', h1, h2, h3, h4⟩
theorem rd_wh {H : VH} {s : VS} {q : List Wt} {w : Wt} (hs : Hr H WTY 3 s (wts (w :: q))) {β : Type} (f : V.aggT [.int .i64, .bool, .bool] → Option β) : ((ixV 3 s 0).bind fun p => (ldV (.agg [.int .i64, .bool, .bool]) H p).bind f) = f (w.o, w.only, w.up, ()) := rd_w hs (i := 0) rfl f
theorem letP_len : ∀ (q : List Wt) (hs : List Int) (only : Bool) (ws : List (Int × Key)), (letP q hs only ws).2.2.length ≤ q.length
  | [], _, _, _ => Nat.le_refl _
  | w :: q, hs, only, ws => by
    unfold letP
    cases mayP ⟨hs, only, w :: q⟩ w with
    | false => simp
    | true =>
      have := letP_len q (giveP ⟨hs, only, q⟩ w).hs w.only (cutA ws w.o)
      simp only [cond_true, List.length_cons]
      omega
theorem l33 (n : Nat) {k b i j : Nat} {key : Key} {l1 l2 : List Ent} : ∀ (m : Nat) {H : VH} {Fb : List Nat} {x : Lk} {ws : List (Int × Key)} {s : VS} {acc : List Int}, Foc H k key b Fb x i j l1 l2 ws → Ap H 3 s (ints acc) → x.q.length < m → x.hs.length + x.q.length < 1990 → acc.length + x.q.length < 900000 →
    ∃ s' H' Fb', L33_0 (n + 2) m (.ob k 0) (.ob b 0) s H = some (.sl 3 s', H') ∧ Foc H' k key b Fb' (letP x.q x.hs x.only ws).1 i j l1 l2 (letP x.q x.hs x.only ws).2.1 ∧ Ap H' 3 s' (ints (acc ++ (letP x.q x.hs x.only ws).2.2)) ∧ Kp H H' (j :: (Fb ++ toks s)) ∧ (∀ t ∈ Fb', t ∈ Fb ∨ H.length ≤ t) ∧ (∀ t ∈ toks s', t ∈ toks s ∨ H.length ≤ t) := by
  intro m
  induction m with
  | zero => intros; omega
  | succ m ih =>
    intro H Fb x ws s acc h hA hm hsz hacc
    rw [L33_0_eq]
    simp only [nn_ob, atO_ob, Option.bind_some, Nat.zero_add]
    obtain ⟨xh, xo, xq⟩ := x
    obtain ⟨sh, sq, hb, hsh, hsq, hF⟩ := h.lo
    simp only at hm hsz hacc
    rw [ld_l2 hb, Option.bind_some, hsq.len, wts_len]
    cases xq with
    | nil =>
      have : decide ((([] : List Wt).length : Int) > 0) = false := rfl
      simp only
      rw [this, cond_false]
      refine ⟨s, H, Fb, rfl, h, ?_, Kp.refl _ _, fun t ht => .inl ht, fun t ht => .inl ht⟩
      simpa [letP] using hA
    | cons w q =>
      have : decide ((((w :: q).length : Nat) : Int) > 0) = true := decide_eq_true (by simp only [List.length_cons]; omega)
      simp only
      rw [this, cond_true, Option.bind_some]
      rw [rd_wh hsq]
      simp only
      rw [show V.agg [.int .i64 w.o, .bool w.only, .bool w.up] = .agg (wtc w) from rfl]
      obtain ⟨H1, a1, a2⟩ := p28 (n + 1) h.lo w
      rw [a1, Option.bind_some]
      have f1 := h.kn a2
      unfold letP
      cases hmay : mayP ⟨xh, xo, w :: q⟩ w with
      | false =>
        simp only [cond_false]
        refine ⟨s, H1, Fb, rfl, f1, ?_, a2.weak (fun x hx _ => by cases hx), fun t ht => .inl ht, fun t ht => .inl ht⟩
        rw [List.append_nil]
        exact hA.keep a2 (fun t _ => by simp)
      | true =>
        simp only [cond_true]
        have hb1 := a2.ob hb (by simp)
        have hsq1 := hsq.keep a2 (fun t _ => by simp)
        have hsh1 := hsh.keep a2 (fun t _ => by simp)
        rw [ld_l2 hb1, Option.bind_some, rd_wh hsq1]
        simp only
        obtain ⟨H2, b1, b2, b3, b4⟩ := new_w H1 w
        rw [b1, Option.bind_some]
        have hb2 := b3.ob hb1 (by simp)
        have hsq2 := hsq1.keep b3 (fun t _ => by simp)
        have hsh2 := hsh1.keep b3 (fun t _ => by simp)
        rw [ld_l2 hb2, Option.bind_some]
        obtain ⟨sq', c1, c2, c3, _⟩ := hsq2.drop (c := 1) (by simp [wts])
        rw [show ((1 : Nat) : Int) = 1 from rfl] at c1
        rw [c1, Option.bind_some, st_l2 hb2, Option.bind_some]
        rw [← wts_drop] at c2
        simp only [List.drop_succ_cons, List.drop_zero] at c2
        obtain ⟨H3, e3⟩ : ∃ H3 : VH, H3 = H2.set b (.row LTY [.sl 3 sh, .bool xo, .sl WTY sq']) := ⟨_, rfl⟩
        rw [← e3]
        have k3 : Kp H2 H3 [b] := by rw [e3]; exact Kp.set _ _ _
        have hb3 : H3[b]? = some (.row LTY [.sl 3 sh, .bool xo, .sl WTY sq']) := by rw [e3]; exact set_at hb2
        have hsh3 := hsh2.keep k3 (fun t ht => by simp; rintro rfl; exact hr_ne hsh2 hb2 (by decide) ht)
        have hsq3 := c2.keep k3 (fun t ht => by simp; rintro rfl; exact hr_ne c2 hb2 (by decide) ht)
        have k03 : Kp H H3 Fb := by
          rw [hF]
          exact (a2.trans b3 (Z := []) (fun x hx _ => hx) (fun x hx _ => hx)).trans k3 (fun x hx _ => by cases hx) (fun x hx _ => by simp at hx; simp [hx])
        have f3 : Foc H3 k key b Fb ⟨xh, xo, q⟩ i j l1 l2 ws := h.op k03 ⟨sh, sq', hb3, hsh3, hsq3, by rw [hF, c3]⟩ (fun t ht => .inl ht)
        have hw3 := k3.ob b2 (by simp; have := lt_of_ob hb1; omega)
        rw [ld_w hw3, Option.bind_some]
        simp only
        rw [show V.agg [.int .i64 w.o, .bool w.only, .bool w.up] = .agg (wtc w) from rfl]
        obtain ⟨H4, Fb4, d1, d2, d3, d4⟩ := p29 n f3.lo w (by simp only; simp only [List.length_cons] at hsz; omega)
        rw [d1, Option.bind_some]
        simp only
        have f4 := f3.op d3 d2 d4
        have hw4 := d3.ob hw3 (fun hm => by
          have hlt := k03.len
          rw [hF] at hm
          have := h.lo.lt H1.length (by rw [hF]; exact hm)
          have := a2.len
          omega)
        rw [ld_t1 f4.hk, Option.bind_some, ld_w0 hw4, Option.bind_some]
        have hcut := cut_int (enc := fun k : Key => sk k) f4.hj w.o
        rw [hcut, Option.bind_some]
        have k5 := Kp.set H4 j (.map (.int .i64) (ents ik sk (cutA ws w.o)))
        obtain ⟨H5, e5⟩ : ∃ H5 : VH, H5 = H4.set j (.map (.int .i64) (ents ik sk (cutA ws w.o))) := ⟨_, rfl⟩
        rw [← e5] at k5 ⊢
        have hij : i ≠ j := fun e => by have := f4.hi; rw [e, f4.hj] at this; injection this with this; injection this with this; cases this
        have hne : ∀ {a : Nat} {T cs}, H4[a]? = some (.row T cs) → a ∉ [j] := fun {a T cs} ha => by
          simp
          rintro rfl
          have := f4.hj
          rw [this] at ha; injection ha with ha; cases ha
        have f5 : Foc H5 k key b Fb4 (giveP ⟨xh, xo, q⟩ w) i j l1 l2 (cutA ws w.o) := by
          refine ⟨k5.ob f4.hk (hne f4.hk), k5.ob f4.hi (by simpa using hij), by rw [e5]; exact set_at f4.hj, fun p hp => (f4.ho p hp).keep k5 (fun t ht => ?_), f4.nd, f4.lo.keep k5 (fun t ht => ?_), f4.ds, f4.nk⟩
          · obtain ⟨T, cs, hc, _⟩ := (f4.ho p hp).ty t ht
            exact hne hc
          · obtain ⟨T, cs, hc, _⟩ := f4.lo.ty t ht
            exact hne hc
        have hw5 := k5.ob hw4 (hne hw4)
        rw [ld_w0 hw5, Option.bind_some]
        have k05 : Kp H H5 (j :: Fb) := (k03.trans d3 (Z := Fb) (fun x hx _ => hx) (fun x hx _ => hx)).trans k5 (fun x hx _ => by simp [hx]) (fun x hx _ => by simp at hx; simp [hx])
        have htn : ∀ t ∈ toks s, t ∉ j :: Fb := fun t ht hm => by
          obtain ⟨g, hg⟩ := ap_tok hA ht
          obtain ⟨q1, q2⟩ := h.tok hg
          rcases List.mem_cons.1 hm with rfl | hm
          · exact q1 (by simp [frF])
          · exact q2 hm
        have hA5 : Ap H5 3 s (ints acc) := hA.keep k05 htn
        obtain ⟨s6, H6, g1, g2, g3, g4⟩ := apI hA5 (x := .fz [[.int .i64 w.o]] (.ex 1)) (r := [w.o]) (.fz _ _) (by simp only [List.length_cons] at hacc; simp; omega)
        rw [g1, Option.bind_some]
        simp only
        have htn5 : ∀ t ∈ toks s, t ∉ frF k i j l1 l2 ∧ t ∉ Fb4 := fun t ht => by
          obtain ⟨g, hg⟩ := ap_tok hA5 ht
          exact f5.tok hg
        have f6 : Foc H6 k key b Fb4 (giveP ⟨xh, xo, q⟩ w) i j l1 l2 (cutA ws w.o) := by
          have hne6 : ∀ {a : Nat}, a ∈ frF k i j l1 l2 → a ∉ toks s := fun ha hm => (htn5 _ hm).1 ha
          refine ⟨g3.ob f5.hk (hne6 (by simp [frF])), g3.ob f5.hi (hne6 (by simp [frF])), g3.ob f5.hj (hne6 (by simp [frF])), fun p hp => (f5.ho p hp).keep g3 (fun t ht => hne6 ?_), f5.nd, f5.lo.keep g3 (fun t ht hm => (htn5 t hm).2 ht), f5.ds, f5.nk⟩
          unfold frF
          exact List.mem_cons_of_mem _ (List.mem_cons_of_mem _ (List.mem_cons_of_mem _ (mem_foot.2 ⟨p, hp, ht⟩)))
        have hhl : (giveP ⟨xh, xo, q⟩ w).hs.length ≤ xh.length + 1 := by
          unfold giveP
          cases w.up with
          | true => simp
          | false => simp [sortI_len]
        simp only [List.length_cons] at hm hsz hacc
        obtain ⟨s', H', Fb', q1, q2, q3, q4, q5, q6⟩ := ih f6 g2 (by show q.length < m; omega) (by show _ + q.length < 1990; omega) (by show _ + q.length < 900000; simp; omega)
        refine ⟨s', H', Fb', q1, q2, ?_, ?_, ?_, ?_⟩
        · rw [List.append_assoc] at q3
          exact q3
        · refine (k05.trans g3 (Z := j :: (Fb ++ toks s)) (fun x hx _ => ?_) (fun x hx _ => by simp [hx])).trans q4 (fun x hx _ => hx) (fun x hx hlt => ?_)
          · rcases List.mem_cons.1 hx with rfl | hx
            · simp
            · simp [hx]
          · rcases List.mem_cons.1 hx with rfl | hx
            · simp
            · rcases List.mem_append.1 hx with hx | hx
              · rcases d4 x hx with h | h
                · simp [h]
                · have := k03.len; omega
              · rcases g4 x hx with h | h
                · simp [h]
                · have := k05.len; omega
        · intro t ht
          rcases q5 t ht with h | h
          · rcases d4 t h with h | h
            · exact .inl h
            · exact .inr (by have := k03.len; omega)
          · exact .inr (by have := k05.len; have := g3.len; omega)
        · intro t ht
          rcases q6 t ht with h | h
          · rcases g4 t h with h | h
            · exact .inl h
            · exact .inr (by have := k05.len; omega)
          · exact .inr (by have := k05.len; have := g3.len; omega)
theorem p33 (n : Nat) (hn : 3000 ≤ n) {H : VH} {k b i j : Nat} {key : Key} {l1 l2 : List Ent} {Fb : List Nat} {x : Lk} {ws : List (Int × Key)} (h : Foc H k key b Fb x i j l1 l2 ws) (hsz : x.hs.length + x.q.length < 1990) :
    ∃ s' H' Fb', V.callD (vF P tab (n + 3)) P false (.one (.flat (.slice 3))) 33 [.ptr (.ob k 0), .ptr (.ob b 0)] H = some (s', H') ∧ Foc H' k key b Fb' (letP x.q x.hs x.only ws).1 i j l1 l2 (letP x.q x.hs x.only ws).2.1 ∧ IsE s' (ints (letP x.q x.hs x.only ws).2.2) ∧ Kp H H' (j :: Fb) ∧ (∀ t ∈ Fb', t ∈ Fb ∨ H.length ≤ t) := by
  obtain ⟨s', H', Fb', q1, q2, q3, q4, q5, q6⟩ := l33 n (n + 2) h (s := .nil) (acc := []) .nil (by omega) hsz (by simp; omega)
  refine ⟨s', H', Fb', callD_sl ?_, q2, ?_, ?_, q5⟩
  · rw [vF_body rfl, f33_eq]; exact q1
  · rw [List.nil_append] at q3; exact q3.isE
  · simpa [toks] using q4
end Go.Proofs.Ytgmgpandhaeniaa
