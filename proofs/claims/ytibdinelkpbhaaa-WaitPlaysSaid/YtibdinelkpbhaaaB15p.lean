import Derived.Test.YtibdinelkpbhaaaB15o
import Derived.Test.YtibdinelkpbhaaaVd
set_option maxRecDepth 100000
set_option linter.unusedVariables false
set_option linter.unusedSimpArgs false
namespace Go.Proofs.Ytibdinelkpbhaaa
open Go.Proofs.Ytibdinelkpbhaaa.Sh Go.Proofs.Ytibdinelkpbhaaa.Sh.V Go.RowKit Go.Proofs.Ytibdinelkpbhaaa.Sh.Lk
/-! ### Edges of Free and of Ask -/
theorem freeK_ed (o : Int) : ∀ (ks : List Key) {t : Tb}, IT t → ∀ k a b, EdL (lkOf (freeK o ks t).1 k) a b → EdL (lkOf t k) a b
  | [], t, _, k, a, b, h => h
  | k0 :: ks, t, hi, k, a, b, h => by
    obtain ⟨r1, r2, r3, r4⟩ := free_il (hi.l k0) hi.w o
    have e : ∀ k', lkOf ⟨freeM t.m k0 (freeZ o (lkOf t k0) t.ws).1, (freeZ o (lkOf t k0) t.ws).2.1⟩ k' = (if k' = k0 then (if (freeZ o (lkOf t k0) t.ws).1.hs.length + (freeZ o (lkOf t k0) t.ws).1.q.length = 0 then lk0 else (freeZ o (lkOf t k0) t.ws).1) else lkOf t k') := fun k' => lkOf_freeM hi.m _ k0 _ k'
    have hi1 : IT ⟨freeM t.m k0 (freeZ o (lkOf t k0) t.ws).1, (freeZ o (lkOf t k0) t.ws).2.1⟩ := by
      refine ⟨fun k' => ?_, nodup_freeM hi.m _ _, r2⟩
      rw [e]
      by_cases h1 : k' = k0
      · rw [if_pos h1, h1]
        split
        · exact IL.zero _ _
        · exact r1
      · rw [if_neg h1]
        exact (hi.l k').ws (fun w hw => r4 _ _ h1 ((hi.l k').c w hw))
    have h := freeK_ed o ks hi1 k a b h
    rw [e] at h
    by_cases h1 : k = k0
    · rw [if_pos h1] at h
      split at h
      · obtain ⟨w, hw, _⟩ := h; cases hw
      · rw [h1]; exact freeZ_ed (hi.l k0) o a b h
    · rw [if_neg h1] at h; exact h
theorem free_ed {t : Tb} (hi : IT t) (o a b : Int) (h : b ∈ aheadP (freeP t o).1 a) : b ∈ aheadP t a := by
  obtain ⟨k, hk⟩ := (ahead_iff (hi.free o) a b).1 h
  exact (ahead_iff hi a b).2 ⟨k, freeK_ed o (keysP t) hi k a b hk⟩
theorem aheadQ_ins {a : Int} {w : Wt} (hw : w.o ≠ a) : ∀ (q1 q2 : List Wt), ∀ b ∈ aheadQ a (q1 ++ w :: q2), b ≠ w.o → b ∈ aheadQ a (q1 ++ q2)
  | [], q2, b, h, hb => by
    rw [List.nil_append, aheadQ, decide_eq_false hw, cond_false] at h
    rcases List.mem_cons.1 h with h | h
    · exact absurd h hb
    · exact h
  | y :: q1, q2, b, h, hb => by
    rw [List.cons_append, aheadQ] at h ⊢
    by_cases hy : y.o = a
    · rw [decide_eq_true hy, cond_true] at h; cases h
    · rw [decide_eq_false hy, cond_false] at h ⊢
      rcases List.mem_cons.1 h with h | h
      · rw [h]; exact List.mem_cons_self ..
      · exact List.mem_cons_of_mem _ (aheadQ_ins hw q1 q2 b h hb)
/-- Edges of others are as before. -/
theorem ask_ed {t : Tb} (hi : IT t) (o : Int) (k : Key) (only : Bool) (a b : Int) (ha : a ≠ o) (hb : b ≠ o) (h : b ∈ aheadP (askP t o k only).1 a) : b ∈ aheadP t a := by
  obtain ⟨k', hk⟩ := (ahead_iff (hi.ask o k only) a b).1 h
  refine (ahead_iff hi a b).2 ⟨k', ?_⟩
  have hl := hi.l k
  unfold askP at hk
  cases hg : getM t.ws o with
  | some _ => rw [hg] at hk; exact hk
  | none =>
    rw [hg] at hk
    simp only at hk
    cases hcc : ((lkOf t k).hs.contains o && ((lkOf t k).only || !only)) with
    | true =>
      rw [hcc, cond_true] at hk
      have hk : EdL (lkOf ⟨putA t.m k (lkOf t k), t.ws⟩ k') a b := hk
      rw [lkOf_put] at hk
      split at hk
      · rename_i e; rw [e]; exact hk
      · exact hk
    | false =>
      rw [hcc, cond_false] at hk
      cases hc : (mayP (lkOf t k) ⟨o, only, (lkOf t k).hs.contains o⟩ && ((lkOf t k).hs.contains o || (lkOf t k).q.isEmpty)) with
      | true =>
        rw [hc, cond_true] at hk
        rw [Bool.and_eq_true] at hc
        have hk : EdL (lkOf ⟨putA t.m k (giveP (lkOf t k) ⟨o, only, (lkOf t k).hs.contains o⟩), t.ws⟩ k') a b := hk
        rw [lkOf_put] at hk
        split at hk
        · rename_i e
          rw [e]
          obtain ⟨w, h1, h2, h3⟩ := hk
          refine ⟨w, h1, h2, ?_⟩
          rcases h3 with ⟨m1, m2, m3⟩ | h3
          · have hbs : b ∈ (lkOf t k).hs := by
              rcases give_mem m1 with h | h
              · exact h
              · exact absurd h hb
            refine .inl ⟨hbs, m2, ?_⟩
            rcases m3 with m3 | m3
            · exact .inl m3
            · have hcm : (lkOf t k).hs.contains o = true → o ∈ (lkOf t k).hs := fun h => by simpa using h
              exact absurd (may_only (q := (lkOf t k).q) hc.1 (fun hu => hcm hu) m3 b hbs) hb
          · exact .inr h3
        · exact hk
      | false =>
        rw [hc, cond_false] at hk
        have hk : EdL (lkOf ⟨putA t.m k ⟨(lkOf t k).hs, (lkOf t k).only, Go.Proofs.Ytibdinelkpbhaaa.Sh.Lk.insP (lkOf t k).q ⟨o, only, (lkOf t k).hs.contains o⟩⟩, putA t.ws o k⟩ k') a b := hk
        rw [lkOf_put] at hk
        split at hk
        · rename_i e
          rw [e]
          obtain ⟨w, h1, h2, h3⟩ := hk
          have hw : w ∈ (lkOf t k).q := by
            rcases mem_insP.1 h1 with h | h
            · rw [h] at h2; exact absurd h2.symm ha
            · exact h
          refine ⟨w, hw, h2, ?_⟩
          rcases h3 with h3 | h3
          · exact .inl h3
          · have := aheadQ_ins (w := ⟨o, only, (lkOf t k).hs.contains o⟩) (fun e => ha e.symm) _ _ b h3 hb
            rw [List.take_append_drop] at this
            exact .inr this
        · exact hk
/-- Who is granted what it asks for doesn't wait. -/
theorem ask_yes {t : Tb} (hi : IT t) (o : Int) (k : Key) (only : Bool) (hy : (askP t o k only).2 = true) (b : Int) : b ∉ aheadP (askP t o k only).1 o := fun hm => by
  have hws : getM (askP t o k only).1.ws o = none := by
    unfold askP at hy ⊢
    cases hg : getM t.ws o with
    | some _ => rw [hg] at hy; cases hy
    | none =>
      rw [hg] at hy
      simp only at hy ⊢
      cases hcc : ((lkOf t k).hs.contains o && ((lkOf t k).only || !only)) with
      | true => exact hg
      | false =>
        rw [hcc, cond_false] at hy
        simp only [cond_false]
        cases hc : (mayP (lkOf t k) ⟨o, only, (lkOf t k).hs.contains o⟩ && ((lkOf t k).hs.contains o || (lkOf t k).q.isEmpty)) with
        | true => exact hg
        | false => rw [hc] at hy; cases hy
  unfold aheadP waitsP at hm
  rw [hws] at hm
  cases hm
/-! ### No rings -/
def Acy (t : Tb) : Prop := ∀ a, ¬ Pa t a a
/-- All rings go through o. -/
def Cyo (o : Int) (t : Tb) : Prop := ∃ t0, Acy t0 ∧ ∀ a b, a ≠ o → b ≠ o → b ∈ aheadP t a → b ∈ aheadP t0 a
theorem Pa.avoid {t t0 : Tb} {o : Int} (he : ∀ a b, a ≠ o → b ≠ o → b ∈ aheadP t a → b ∈ aheadP t0 a) {a c : Int} (h : Pa t a c) (ha : a ≠ o) (hc : c ≠ o) : Pa t0 a c ∨ (Pa t a o ∧ Pa t o c) := by
  induction h with
  | one h => exact .inl (.one (he _ _ ha hc h))
  | @more a b c h h' ih =>
    by_cases hb : b = o
    · subst hb; exact .inr ⟨.one h, h'⟩
    · rcases ih hb hc with h1 | ⟨h1, h2⟩
      · exact .inl (.more (he _ _ ha hb h) h1)
      · exact .inr ⟨.more h h1, h2⟩
theorem Cyo.acy {o : Int} {t : Tb} (h : Cyo o t) (ho : ¬ Pa t o o) : Acy t := fun a hp => by
  obtain ⟨t0, h1, h2⟩ := h
  by_cases ha : a = o
  · rw [ha] at hp; exact ho hp
  · rcases Pa.avoid h2 hp ha ha with h | ⟨h, h'⟩
    · exact h1 a h
    · exact ho (h'.trans h)
theorem Pa.mono {t t' : Tb} (he : ∀ a b, b ∈ aheadP t a → b ∈ aheadP t' a) {a c : Int} (h : Pa t a c) : Pa t' a c := by
  induction h with
  | one h => exact .one (he _ _ h)
  | more h _ ih => exact .more (he _ _ h) ih
theorem Acy.free {t : Tb} (hi : IT t) (h : Acy t) (o : Int) : Acy (freeP t o).1 := fun a hp => h a (hp.mono (fun a b => free_ed hi o a b))
theorem Cyo.free {t : Tb} {o : Int} (hi : IT t) (h : Cyo o t) (v : Int) : Cyo o (freeP t v).1 := by
  obtain ⟨t0, h1, h2⟩ := h
  exact ⟨t0, h1, fun a b ha hb hm => h2 a b ha hb (free_ed hi v a b hm)⟩
theorem Acy.ask {t : Tb} (hi : IT t) (h : Acy t) (o : Int) (k : Key) (only : Bool) : Cyo o (askP t o k only).1 := ⟨t, h, fun a b ha hb hm => ask_ed hi o k only a b ha hb hm⟩
theorem Pa.first {t : Tb} {a c : Int} (h : Pa t a c) : ∃ b, b ∈ aheadP t a := by
  cases h with
  | one h => exact ⟨_, h⟩
  | more h _ => exact ⟨_, h⟩
theorem Acy.yes {t : Tb} (hi : IT t) (h : Acy t) (o : Int) (k : Key) (only : Bool) (hy : (askP t o k only).2 = true) : Acy (askP t o k only).1 :=
  (h.ask hi o k only).acy (fun hp => by
    obtain ⟨b, hb⟩ := hp.first
    exact ask_yes hi o k only hy b hb)
end Go.Proofs.Ytibdinelkpbhaaa
