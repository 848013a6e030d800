import Derived.Test.YtgmgpandhaeniaaB14xa
set_option maxRecDepth 100000
set_option linter.unusedVariables false
set_option linter.unusedSimpArgs false
namespace Go.Proofs.Ytgmgpandhaeniaa
open Go.Proofs.Ytgmgpandhaeniaa.Sh Go.Proofs.Ytgmgpandhaeniaa.Sh.V Go.RowKit Go.Proofs.Ytgmgpandhaeniaa.Sh.Lk
/-! ### Free -/
theorem TO.tok {H : VH} {k : Nat} {F : List Nat} {t : Tb} (h : TO H k F t) {a : Nat} {e : TypeId} {g : Nat} (ha : H[a]? = some (.tok e g)) : a ∉ F := by
  obtain ⟨i, j, tl, h1, h2, h3, h4, h5, h6, rfl⟩ := h
  intro hm
  rcases List.mem_cons.1 hm with rfl | hm
  · rw [h1] at ha; injection ha with ha; cases ha
  · rcases List.mem_cons.1 hm with rfl | hm
    · rw [h2] at ha; injection ha with ha; cases ha
    · rcases List.mem_cons.1 hm with rfl | hm
      · rw [h3] at ha; injection ha with ha; cases ha
      · obtain ⟨p, hp, ht⟩ := mem_foot.1 hm
        obtain ⟨T, cs, hc, _⟩ := (h5 p hp).ty a ht
        rw [hc] at ha; injection ha with ha; cases ha
theorem tlF {H : VH} {k b i j : Nat} {key : Key} {l1 l2 : List Ent} {Fb : List Nat} {x z : Lk} {ws : List (Int × Key)} (h : Foc H k key b Fb z i j l1 l2 ws) (hsz : z.hs.length + z.q.length < 2000) (K : VH → VRes) :
    ∃ H' F', ((ldV (.flat (.slice 3)) H (.ob b 0)).bind fun x22 => ((ldV (.flat (.slice 70)) H (.ob b 2)).bind fun x25 =>
        (cond (((IntKind.wrap .i64 (((VS.len x22 : Nat) : Int) + ((VS.len x25 : Nat) : Int))) : Int) == 0)
          ((ldV (.flat .map) H (.ob k 0)).bind fun x28 => ((V.cutMD H .str x28 (.str ⟨key.toArray⟩)).bind fun h29 => K h29)) (K H)))) = K H' ∧
      TO H' k F' ⟨freeM (mF l1 key x l2) key z, ws⟩ ∧ Kp H H' [i] := by
  obtain ⟨s, q, hb, hs, hq, hF⟩ := h.lo
  rw [ld_l0 hb, Option.bind_some, ld_l2 hb, Option.bind_some, hs.len, hq.len, ints_len, wts_len, w2 _ _ (by omega)]
  have e0 : (((z.hs.length + z.q.length : Nat) : Int) == 0) = decide (z.hs.length + z.q.length = 0) := beqI _ 0
  rw [e0]
  unfold freeM
  cases hd : decide (z.hs.length + z.q.length = 0) with
  | true =>
    rw [cond_true, ld_t0 h.hk, Option.bind_some]
    have hcut := cut_str (enc := pv) h.hi key
    rw [cutA_mid (by rw [keys_kb]; exact h.nk)] at hcut
    rw [hcut, Option.bind_some]
    obtain ⟨F', h1, _⟩ := h.cut
    refine ⟨_, F', rfl, ?_, Kp.set _ _ _⟩
    rw [cond_true]
    unfold mF
    rw [cutA_mid (by rw [keys_kx]; exact h.nk)]
    exact h1
  | false =>
    rw [cond_false]
    obtain ⟨F', h1, _⟩ := h.to
    refine ⟨_, F', rfl, ?_, Kp.refl _ _⟩
    rw [cond_false]
    unfold mF at h1 ⊢
    rw [putA_mid (by rw [keys_kx]; exact h.nk)]
    exact h1
theorem getM_mem {A : Type} {m : List (Key × A)} {k : Key} {a : A} (h : getM m k = some a) : (k, a) ∈ m := by
  induction m with
  | nil => cases h
  | cons p m ih =>
    obtain ⟨k0, a0⟩ := p
    rw [getM_cons] at h
    by_cases h1 : k = k0
    · rw [if_pos h1] at h; injection h with h; subst h h1; exact List.mem_cons_self ..
    · rw [if_neg h1] at h; exact List.mem_cons_of_mem _ (ih h)
theorem mem_put {A : Type} {m : List (Key × A)} {k : Key} {a : A} {p : Key × A} (h : p ∈ putA m k a) : p = (k, a) ∨ p ∈ m := by
  induction m with
  | nil => exact .inl (List.mem_singleton.1 h)
  | cons q m ih =>
    obtain ⟨k0, a0⟩ := q
    unfold putA at h
    split at h
    · rcases List.mem_cons.1 h with h | h
      · exact .inl h
      · exact .inr (List.mem_cons_of_mem _ h)
    · rcases List.mem_cons.1 h with h | h
      · exact .inr (h ▸ List.mem_cons_self ..)
      · rcases ih h with h | h
        · exact .inl h
        · exact .inr (List.mem_cons_of_mem _ h)
theorem getM_cut_ne {A : Type} {m : List (Key × A)} {k k' : Key} (h : k' ≠ k) : getM (cutA m k) k' = getM m k' := by
  induction m with
  | nil => rfl
  | cons p m ih =>
    obtain ⟨k0, a0⟩ := p
    by_cases h1 : k = k0
    · subst h1
      rw [cutA, if_pos rfl, getM_cons, if_neg h]
    · rw [cutA, if_neg h1, getM_cons, getM_cons, ih]
theorem getM_freeM {m : List (Key × Lk)} {k k' : Key} {x : Lk} (h : k' ≠ k) : getM (freeM m k x) k' = getM m k' := by
  unfold freeM
  cases decide (x.hs.length + x.q.length = 0) with
  | true => exact getM_cut_ne h
  | false => rw [cond_false, getM_put, if_neg h]
theorem leaveP_len (x : Lk) (o : Int) : (leaveP x o).hs.length ≤ x.hs.length ∧ (leaveP x o).q.length ≤ x.q.length := ⟨fl_len _ _, fl_len _ _⟩
theorem letP_sz : ∀ (q : List Wt) (hs : List Int) (only : Bool) (ws : List (Int × Key)), (letP q hs only ws).1.hs.length + (letP q hs only ws).1.q.length ≤ hs.length + q.length
  | [], _, _, _ => Nat.le_refl _
  | w :: q, hs, only, ws => by
    unfold letP
    cases mayP ⟨hs, only, w :: q⟩ w with
    | false => simp
    | true =>
      have := letP_sz q (giveP ⟨hs, only, q⟩ w).hs w.only (cutA ws w.o)
      have h2 : (giveP ⟨hs, only, q⟩ w).hs.length ≤ hs.length + 1 := by
        unfold giveP
        cases w.up with
        | true => simp
        | false => simp [sortI_len]
      simp only [cond_true, List.length_cons]
      omega
theorem freeZ_sz (o : Int) (x : Lk) (ws : List (Int × Key)) : (freeZ o x ws).1.hs.length + (freeZ o x ws).1.q.length ≤ x.hs.length + x.q.length ∧ (freeZ o x ws).2.2.length ≤ x.q.length := by
  have h1 := leaveP_len x o
  unfold freeZ
  cases decide ((leaveP x o).hs.length + (leaveP x o).q.length < x.hs.length + x.q.length) with
  | true =>
    have h2 := letP_sz (leaveP x o).q (leaveP x o).hs (leaveP x o).only ws
    have h3 := letP_len (leaveP x o).q (leaveP x o).hs (leaveP x o).only ws
    simp only [cond_true]
    omega
  | false => simp only [cond_false, List.length_nil]; omega
theorem l13 (n : Nat) (hn : 3000 ≤ n) {k : Nat} {o : Int} {s10 : VS} {ks : List Key} (hks : IsT s10 ks) (hk4 : ks.length ≤ 400) : ∀ (m c : Nat) {H : VH} {F : List Nat} {t : Tb} {s : VS} {acc : List Int}, TO H k F t → Ap H 3 s (ints acc) → c ≤ ks.length → ks.length < c + m → acc.length ≤ 2000 * c → (ks.drop c).Nodup → (∀ key ∈ ks.drop c, getM t.m key ≠ none) → (∀ p ∈ t.m, p.2.hs.length + p.2.q.length < 1990) →
    ∃ s' H' F', L13_0 (n + 4) m (.ob k 0) o s s10 (ks.length : Int) (c : Int) H = some (.sl 3 s', H') ∧ TO H' k F' ⟨(freeK o (ks.drop c) t).1.m, cutA (freeK o (ks.drop c) t).1.ws o⟩ ∧ IsE s' (ints (acc ++ (freeK o (ks.drop c) t).2)) := by
  intro m
  induction m with
  | zero => intros; omega
  | succ m ih =>
    intro c H F t s acc h hA hc hm hacc hnd hall hsz
    rw [L13_0_eq]
    by_cases hcl : c < ks.length
    · obtain ⟨key, hkey⟩ := get_of hcl
      have hdt : decide ((c : Int) < (ks.length : Int)) = true := decide_eq_true (by omega)
      rw [hdt, cond_true, isT_rd hks hkey]
      rw [drop_of hkey] at hnd hall ⊢
      rw [List.nodup_cons] at hnd
      simp only [nn_ob, atO_ob, Option.bind_some, Nat.zero_add]
      obtain ⟨i, j, g1, g2, g3⟩ := h.find key
      rcases g3 with ⟨q1, _⟩ | ⟨l1, l2, b, Fb, x, q1, q2, q3, q4⟩
      · exact absurd q1 (hall key (List.mem_cons_self ..))
      rw [ld_t0 g1, Option.bind_some, look_l q2.hi, Option.bind_some, getM_mid (by rw [keys_kb]; exact q2.nk)]
      simp only [nn_ob, atO_ob, Option.bind_some, Nat.zero_add]
      have hx : x.hs.length + x.q.length < 1990 := hsz _ (getM_mem q1)
      obtain ⟨H1, a1, a2, a3⟩ := p32 n hn q2.lo o (by omega) (by omega)
      rw [a1, Option.bind_some]
      simp only
      have f1 := q2.op a3 a2 (fun t ht => .inl ht)
      have hlv := leaveP_len x o
      have hFb : ∀ a ∈ Fb, a ∈ F := fun a ha => (q4 a).2 (.inr ha)
      have hiF : i ∈ F := (q4 i).2 (.inl (by simp [frF]))
      have hjF : j ∈ F := (q4 j).2 (.inl (by simp [frF]))
      have tokF : ∀ a ∈ toks s, a ∉ F := fun a ha => by
        obtain ⟨g, hg⟩ := ap_tok hA ha
        exact h.tok hg
      have hA1 : Ap H1 3 s (ints acc) := hA.keep a3 (fun a ha hm => tokF a ha (hFb a hm))
      rw [inc_nat (by omega)]
      unfold freeK
      rw [lkOf_some q1]
      have hfz := freeZ_sz o x t.ws
      -- what comes behind
      have rest : ∀ {H3 : VH} {F3 : List Nat} {s3 : VS} {acc3 : List Int}, TO H3 k F3 ⟨freeM t.m key (freeZ o x t.ws).1, (freeZ o x t.ws).2.1⟩ → Ap H3 3 s3 (ints acc3) → acc3 = acc ++ (freeZ o x t.ws).2.2 →
          ∃ s' H' F', L13_0 (n + 4) m (.ob k 0) o s3 s10 (ks.length : Int) ((c + 1 : Nat) : Int) H3 = some (.sl 3 s', H') ∧ TO H' k F' ⟨(freeK o (ks.drop (c + 1)) ⟨freeM t.m key (freeZ o x t.ws).1, (freeZ o x t.ws).2.1⟩).1.m, cutA (freeK o (ks.drop (c + 1)) ⟨freeM t.m key (freeZ o x t.ws).1, (freeZ o x t.ws).2.1⟩).1.ws o⟩ ∧ IsE s' (ints (acc ++ ((freeZ o x t.ws).2.2 ++ (freeK o (ks.drop (c + 1)) ⟨freeM t.m key (freeZ o x t.ws).1, (freeZ o x t.ws).2.1⟩).2))) := by
        intro H3 F3 s3 acc3 b1 b2 b3
        subst b3
        have hne : ∀ k' ∈ ks.drop (c + 1), k' ≠ key := fun k' hk' e => hnd.1 (e ▸ hk')
        obtain ⟨s', H', F', c1, c2, c3⟩ := ih (c + 1) b1 b2 (by omega) (by omega) (by simp only [List.length_append]; omega) hnd.2 (fun k' hk' => by
          show getM (freeM t.m key _) k' ≠ none
          rw [getM_freeM (hne k' hk')]
          exact hall k' (List.mem_cons_of_mem _ hk')) (fun p hp => by
          have hp : p ∈ freeM t.m key (freeZ o x t.ws).1 := hp
          unfold freeM at hp
          cases hd : decide ((freeZ o x t.ws).1.hs.length + (freeZ o x t.ws).1.q.length = 0) with
          | true =>
            rw [hd, cond_true] at hp
            exact hsz p ((cut_sub _ _).mem hp)
          | false =>
            rw [hd, cond_false] at hp
            rcases mem_put hp with rfl | hp
            · show (freeZ o x t.ws).1.hs.length + (freeZ o x t.ws).1.q.length < 1990
              omega
            · exact hsz p hp)
        refine ⟨s', H', F', c1, c2, ?_⟩
        rw [List.append_assoc] at c3
        exact c3
      cases hch : decide ((leaveP x o).hs.length + (leaveP x o).q.length < x.hs.length + x.q.length) with
      | true =>
        rw [cond_true]
        obtain ⟨s2, H2, Fb2, b1, b2, b3, b4, b5⟩ := p33 (n + 1) (by omega) f1 (by omega)
        rw [b1, Option.bind_some]
        simp only
        have hz : freeZ o x t.ws = letP (leaveP x o).q (leaveP x o).hs (leaveP x o).only t.ws := by unfold freeZ; rw [hch]; rfl
        have hA2 : Ap H2 3 s (ints acc) := hA1.keep b4 (fun a ha hm => by
          rcases List.mem_cons.1 hm with rfl | hm
          · exact tokF _ ha hjF
          · exact tokF _ ha (hFb _ hm))
        rw [← hz] at b2 b3
        obtain ⟨s3, H3, c1, c2, c3, c4⟩ := apI hA2 b3 (by omega)
        rw [c1, Option.bind_some]
        simp only
        have tok3 : ∀ a ∈ toks s, a ∉ frF k i j l1 l2 ∧ a ∉ Fb2 := fun a ha => by
          obtain ⟨g, hg⟩ := ap_tok hA2 ha
          exact b2.tok hg
        have f3 : Foc H3 k key b Fb2 (freeZ o x t.ws).1 i j l1 l2 (freeZ o x t.ws).2.1 := by
          have hne6 : ∀ {a : Nat}, a ∈ frF k i j l1 l2 → a ∉ toks s := fun ha hm => (tok3 _ hm).1 ha
          refine ⟨c3.ob b2.hk (hne6 (by simp [frF])), c3.ob b2.hi (hne6 (by simp [frF])), c3.ob b2.hj (hne6 (by simp [frF])), fun p hp => (b2.ho p hp).keep c3 (fun t ht => hne6 ?_), b2.nd, b2.lo.keep c3 (fun t ht hm => (tok3 t hm).2 ht), b2.ds, b2.nk⟩
          unfold frF
          exact List.mem_cons_of_mem _ (List.mem_cons_of_mem _ (List.mem_cons_of_mem _ (mem_foot.2 ⟨p, hp, ht⟩)))
        obtain ⟨H4, F4, d1, d2, d3⟩ := tlF (x := x) f3 (by omega) (fun h19 => L13_0 (n + 4) m (.ob k 0) o s3 s10 (ks.length : Int) ((c + 1 : Nat) : Int) h19)
        rw [d1]
        rw [← q3] at d2
        refine rest d2 (c2.keep d3 (fun a ha hm => ?_)) rfl
        obtain ⟨g, hg⟩ := ap_tok c2 ha
        rw [List.mem_singleton] at hm
        subst hm
        exact (f3.tok hg).1 (by simp [frF])
      | false =>
        rw [cond_false]
        have hz : freeZ o x t.ws = (leaveP x o, t.ws, []) := by unfold freeZ; rw [hch]; rfl
        have f3 : Foc H1 k key b Fb (freeZ o x t.ws).1 i j l1 l2 (freeZ o x t.ws).2.1 := by rw [hz]; exact f1
        obtain ⟨H4, F4, d1, d2, d3⟩ := tlF (x := x) f3 (by omega) (fun h19 => L13_0 (n + 4) m (.ob k 0) o s s10 (ks.length : Int) ((c + 1 : Nat) : Int) h19)
        rw [d1]
        rw [← q3] at d2
        refine rest d2 (hA1.keep d3 (fun a ha hm => ?_)) (by rw [hz, List.append_nil])
        rw [List.mem_singleton] at hm
        subst hm
        exact tokF _ ha hiF
    · have : c = ks.length := by omega
      subst this
      have hdt : decide ((ks.length : Int) < (ks.length : Int)) = false := decide_eq_false (by omega)
      rw [hdt, cond_false, List.drop_eq_nil_of_le (Nat.le_refl _)]
      simp only [VP.isNil, Bool.not_false, cond_true, nn_ob, atO_ob, Option.bind_some, Nat.zero_add]
      obtain ⟨i, j, tl, g1, g2, g3, g4, g5, g6, rfl⟩ := h
      rw [ld_t1 g1, Option.bind_some]
      have hcut := cut_int (enc := fun k : Key => sk k) g3 o
      rw [hcut, Option.bind_some]
      have k5 := Kp.set H j (.map (.int .i64) (ents ik sk (cutA t.ws o)))
      have hij : i ≠ j := fun e => by rw [e, g3] at g2; injection g2 with g2; injection g2 with g2; cases g2
      have hne : ∀ {a : Nat} {T cs}, H[a]? = some (.row T cs) → a ∉ [j] := fun {a T cs} ha => by
        simp
        rintro rfl
        rw [g3] at ha; injection ha with ha; cases ha
      refine ⟨s, _, _, rfl, ⟨i, j, tl, k5.ob g1 (hne g1), k5.ob g2 (by simpa using hij), set_at g3, g4, fun p hp => (g5 p hp).keep k5 (fun a ha => ?_), g6, rfl⟩, ?_⟩
      · obtain ⟨T, cs, hc, _⟩ := (g5 p hp).ty a ha
        exact hne hc
      · unfold freeK
        rw [List.append_nil]; exact hA.isE
end Go.Proofs.Ytgmgpandhaeniaa
