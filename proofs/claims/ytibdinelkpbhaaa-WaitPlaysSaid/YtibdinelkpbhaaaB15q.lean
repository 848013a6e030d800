import Derived.Test.YtibdinelkpbhaaaB15p
set_option maxRecDepth 100000
set_option linter.unusedVariables false
set_option linter.unusedSimpArgs false
namespace Go.Proofs.Ytibdinelkpbhaaa
open Go.Proofs.Ytibdinelkpbhaaa.Sh Go.Proofs.Ytibdinelkpbhaaa.Sh.V Go.RowKit Go.Proofs.Ytibdinelkpbhaaa.Sh.Lk
/-! ### Owners below six -/
def S6 : List Int := [0, 1, 2, 3, 4, 5]
theorem aheadQ_mem {a : Int} : ∀ {q : List Wt} {b : Int}, b ∈ aheadQ a q → ∃ w ∈ q, w.o = b
  | y :: q, b, h => by
    rw [aheadQ] at h
    by_cases hy : y.o = a
    · rw [decide_eq_true hy, cond_true] at h; cases h
    · rw [decide_eq_false hy, cond_false] at h
      rcases List.mem_cons.1 h with h | h
      · exact ⟨y, List.mem_cons_self .., h.symm⟩
      · obtain ⟨w, h1, h2⟩ := aheadQ_mem h
        exact ⟨w, List.mem_cons_of_mem _ h1, h2⟩
theorem ahead_S {S : List Int} {t : Tb} (hi : IT t) (hx : XT S t) (a b : Int) (h : b ∈ aheadP t a) : b ∈ S := by
  obtain ⟨k, w, h1, h2, h3⟩ := (ahead_iff hi a b).1 h
  rcases h3 with ⟨m1, _, _⟩ | h3
  · exact (hx k).sh b m1
  · obtain ⟨z, z1, z2⟩ := aheadQ_mem h3
    rw [← z2]; exact (hx k).sq z z1
theorem reach_S {t : Tb} (hi : IT t) (hx : XT S6 t) (o : Int) : ∃ R, reachO t 1000 [] (aheadP t o) = some R := by
  have hl : ∀ a, (aheadP t a).length ≤ S6.length := fun a => nodup_len (ahead_nd t a) (fun b hb => ahead_S hi hx a b hb)
  refine reachO_total (S := S6) (by simp [S6]) (fun a _ => ⟨fun b hb => ahead_S hi hx a b hb, hl a⟩) 1000 .nil (fun a ha => (by cases ha)) (fun a ha => ahead_S hi hx o a ha) ?_ (by omega)
  have := hl o
  simp only [S6, List.length_cons, List.length_nil] at this ⊢
  omega
noncomputable def rS (t : Tb) (o : Int) : List Int := (reachO t 1000 [] (aheadP t o)).getD []
theorem rS_eq {t : Tb} (hi : IT t) (hx : XT S6 t) (o : Int) : reachO t 1000 [] (aheadP t o) = some (rS t o) := by
  obtain ⟨R, hR⟩ := reach_S hi hx o
  unfold rS
  rw [hR]; rfl
/-- Who waits has somebody ahead. -/
theorem waits_ahead {S : List Int} {t : Tb} (hi : IT t) (hx : XT S t) {a : Int} {kw : Key × Bool} (h : waitsP t a = some kw) : ∃ b, b ∈ aheadP t a := by
  unfold waitsP at h
  cases hg : getM t.ws a with
  | none => rw [hg] at h; cases h
  | some k =>
    rw [hg] at h
    simp only [Option.map_eq_some_iff] at h
    obtain ⟨w, h1, _⟩ := h
    obtain ⟨g1, g2⟩ := findO_o h1
    have xl := hx k
    cases hq : (lkOf t k).q with
    | nil => rw [hq] at g1; cases g1
    | cons y r =>
      by_cases hy : y.o = a
      · have hwy : w = y := same_o (hi.l k).n g1 (by rw [hq]; exact List.mem_cons_self ..) (by rw [g2, hy])
        have hm := xl.hd y r hq
        rw [← hwy] at hm
        -- somebody holds it
        have : ∃ b ∈ (lkOf t k).hs, b ≠ a ∧ (w.only = true ∨ (lkOf t k).only = true) := by
          unfold mayP at hm
          cases hu : w.up with
          | true =>
            rw [hu, cond_true] at hm
            have hm := of_decide_eq_false hm
            have ho := (hi.l k).d w g1 hu
            have hnd := xl.nd
            have honly := xl.uo w g1 hu
            rw [g2] at ho
            cases hh : (lkOf t k).hs with
            | nil => rw [hh] at ho; cases ho
            | cons c r2 =>
              cases r2 with
              | nil => rw [hh] at hm; exact absurd rfl hm
              | cons d r3 =>
                rw [hh, List.nodup_cons] at hnd
                by_cases hc : c = a
                · exact ⟨d, by simp, fun e => hnd.1 (by rw [hc, ← e]; exact List.mem_cons_self ..), .inl honly⟩
                · exact ⟨c, by simp, hc, .inl honly⟩
          | false =>
            rw [hu, cond_false] at hm
            have hno := xl.nu w g1 hu
            rw [g2] at hno
            cases ho : w.only with
            | true =>
              rw [ho, cond_true] at hm
              have hm := of_decide_eq_false hm
              cases hh : (lkOf t k).hs with
              | nil => rw [hh] at hm; exact absurd rfl hm
              | cons c r2 =>
                rw [hh] at hno
                exact ⟨c, by simp, fun e => hno (by rw [← e]; exact List.mem_cons_self ..), .inl rfl⟩
            | false =>
              rw [ho, cond_false] at hm
              have hx1 : (lkOf t k).only = true := by simpa using hm
              have hl := (hi.l k).a hx1
              cases hh : (lkOf t k).hs with
              | nil => rw [hh] at hl; cases hl
              | cons c r2 =>
                rw [hh] at hno
                exact ⟨c, by simp, fun e => hno (by rw [← e]; exact List.mem_cons_self ..), .inr hx1⟩
        obtain ⟨b, b1, b2, b3⟩ := this
        exact ⟨b, (ahead_iff hi a b).2 ⟨k, w, g1, g2, .inl ⟨b1, b2, b3⟩⟩⟩
      · refine ⟨y.o, (ahead_iff hi a y.o).2 ⟨k, w, g1, g2, .inr ?_⟩⟩
        rw [hq, aheadQ, decide_eq_false hy, cond_false]
        exact List.mem_cons_self ..
/-- Not all wait. -/
theorem some_go {t : Tb} (hi : IT t) (hx : XT S6 t) (hac : Acy t) : ∃ a ∈ S6, waitsP t a = none := by
  refine Classical.byContradiction fun hno => ?_
  have hall : ∀ a ∈ S6, ∃ b ∈ S6, b ∈ aheadP t a := fun a ha => by
    cases hw : waitsP t a with
    | none => exact absurd ⟨a, ha, hw⟩ hno
    | some kw =>
      obtain ⟨b, hb⟩ := waits_ahead hi hx hw
      exact ⟨b, ahead_S hi hx a b hb, hb⟩
  have descend : ∀ (n : Nat) (a : Int), a ∈ S6 → ((S6.filter fun z => (rS t a).contains z).length = n) → False := by
    intro n
    induction n using Nat.strongRecOn with
    | ind n ih =>
      intro a ha hn
      obtain ⟨b, hb, hab⟩ := hall a ha
      have ia := reach_iff (rS_eq hi hx a)
      have ib := reach_iff (rS_eq hi hx b)
      have hlt : (S6.filter fun z => (rS t b).contains z).length < (S6.filter fun z => (rS t a).contains z).length := by
        have hbn : b ∉ S6.filter fun z => (rS t b).contains z := fun h => by
          have := (List.mem_filter.1 h).2
          exact hac b ((ib b).1 (by simpa using this))
        have hnd : (b :: S6.filter fun z => (rS t b).contains z).Nodup := by
          rw [List.nodup_cons]
          exact ⟨hbn, List.Nodup.sublist List.filter_sublist (by decide)⟩
        have := nodup_len (S := S6.filter fun z => (rS t a).contains z) hnd (fun z hz => by
          rcases List.mem_cons.1 hz with rfl | hz
          · exact List.mem_filter.2 ⟨hb, by simpa using (ia _).2 (.one hab)⟩
          · obtain ⟨z1, z2⟩ := List.mem_filter.1 hz
            exact List.mem_filter.2 ⟨z1, by simpa using (ia z).2 (.more hab ((ib z).1 (by simpa using z2)))⟩)
        rw [List.length_cons] at this
        omega
      exact ih _ (by omega) b hb rfl
  exact descend _ 0 (by simp [S6]) rfl
end Go.Proofs.Ytibdinelkpbhaaa
