import Derived.Test.YtibdinelkpbhaaaB15d
import Derived.Test.YtibdinelkpbhaaaVd
set_option maxRecDepth 100000
set_option linter.unusedVariables false
set_option linter.unusedSimpArgs false
namespace Go.Proofs.Ytibdinelkpbhaaa
open Go.Proofs.Ytibdinelkpbhaaa.Sh Go.Proofs.Ytibdinelkpbhaaa.Sh.V Go.RowKit Go.Proofs.Ytibdinelkpbhaaa.Sh.Lk
/-! ### Reach, as a graph -/
/-- A waits for b, through any number of others. -/
inductive Pa (t : Tb) : Int → Int → Prop
  | one {a b : Int} : b ∈ aheadP t a → Pa t a b
  | more {a b c : Int} : b ∈ aheadP t a → Pa t b c → Pa t a c
theorem Pa.trans {t : Tb} {a b c : Int} (h : Pa t a b) (h' : Pa t b c) : Pa t a c := by
  induction h with
  | one h => exact .more h h'
  | more h _ ih => exact .more h (ih h')
theorem Pa.snoc {t : Tb} {a b c : Int} (h : Pa t a b) (h' : c ∈ aheadP t b) : Pa t a c := h.trans (.one h')
theorem reachO_sound {t : Tb} {Q : Int → Prop} (hQ : ∀ a b, Q a → b ∈ aheadP t a → Q b) : ∀ (m : Nat) {l todo R : List Int}, reachO t m l todo = some R → (∀ z ∈ l, Q z) → (∀ z ∈ todo, Q z) → ∀ z ∈ R, Q z
  | 0, l, todo, R, h, _, _ => by cases h
  | m + 1, l, [], R, h, hl, _ => by injection h with h; subst h; exact hl
  | m + 1, l, o :: r, R, h, hl, ht => by
    rw [reachO] at h
    cases hg : decide (l.length + r.length + (aheadP t o).length < 1800) with
    | false => rw [hg] at h; cases h
    | true =>
      rw [hg, cond_true] at h
      have ho := ht o (List.mem_cons_self ..)
      have hr : ∀ z ∈ r, Q z := fun z hz => ht z (List.mem_cons_of_mem _ hz)
      cases hc : l.contains o with
      | true => rw [hc, cond_true] at h; exact reachO_sound hQ m h hl hr
      | false =>
        rw [hc, cond_false] at h
        refine reachO_sound hQ m h (fun z hz => ?_) (fun z hz => ?_)
        · rcases List.mem_append.1 hz with hz | hz
          · exact hl z hz
          · rw [List.mem_singleton.1 hz]; exact ho
        · rcases List.mem_append.1 hz with hz | hz
          · exact hr z hz
          · exact hQ o z ho hz
theorem reachO_full {t : Tb} : ∀ (m : Nat) {l todo R : List Int}, reachO t m l todo = some R → (∀ a ∈ l, ∀ b ∈ aheadP t a, b ∈ l ∨ b ∈ todo) → (∀ a ∈ l, a ∈ R) ∧ (∀ a ∈ todo, a ∈ R) ∧ (∀ a ∈ R, ∀ b ∈ aheadP t a, b ∈ R)
  | 0, l, todo, R, h, _ => by cases h
  | m + 1, l, [], R, h, hl => by
    injection h with h
    subst h
    exact ⟨fun a ha => ha, fun a ha => (by cases ha), fun a ha b hb => (hl a ha b hb).elim id (fun h => by cases h)⟩
  | m + 1, l, o :: r, R, h, hl => by
    rw [reachO] at h
    cases hg : decide (l.length + r.length + (aheadP t o).length < 1800) with
    | false => rw [hg] at h; cases h
    | true =>
      rw [hg, cond_true] at h
      cases hc : l.contains o with
      | true =>
        rw [hc, cond_true] at h
        have ho : o ∈ l := by simpa using hc
        obtain ⟨r1, r2, r3⟩ := reachO_full m h (fun a ha b hb => by
          rcases hl a ha b hb with h1 | h1
          · exact .inl h1
          · rcases List.mem_cons.1 h1 with rfl | h1
            · exact .inl ho
            · exact .inr h1)
        refine ⟨r1, fun a ha => ?_, r3⟩
        rcases List.mem_cons.1 ha with rfl | ha
        · exact r1 _ ho
        · exact r2 a ha
      | false =>
        rw [hc, cond_false] at h
        obtain ⟨r1, r2, r3⟩ := reachO_full m h (fun a ha b hb => by
          rcases List.mem_append.1 ha with ha | ha
          · rcases hl a ha b hb with h1 | h1
            · exact .inl (List.mem_append_left _ h1)
            · rcases List.mem_cons.1 h1 with rfl | h1
              · exact .inl (List.mem_append_right _ (List.mem_singleton.2 rfl))
              · exact .inr (List.mem_append_left _ h1)
          · rw [List.mem_singleton.1 ha] at hb
            exact .inr (List.mem_append_right _ hb))
        refine ⟨fun a ha => r1 a (List.mem_append_left _ ha), fun a ha => ?_, r3⟩
        rcases List.mem_cons.1 ha with rfl | ha
        · exact r1 _ (List.mem_append_right _ (List.mem_singleton.2 rfl))
        · exact r2 a (List.mem_append_left _ ha)
theorem nodup_len {S : List Int} : ∀ {l : List Int}, l.Nodup → (∀ a ∈ l, a ∈ S) → l.length ≤ S.length := by
  intro l
  induction l generalizing S with
  | nil => intros; exact Nat.zero_le _
  | cons x l ih =>
    intro hn hs
    rw [List.nodup_cons] at hn
    have hx := hs x (List.mem_cons_self ..)
    have h1 := ih (S := S.erase x) hn.2 (fun a ha => (List.mem_erase_of_ne (fun e => hn.1 (by rw [← e]; exact ha))).2 (hs a (List.mem_cons_of_mem _ ha)))
    have h2 := List.length_erase_of_mem hx
    have h3 := List.length_pos_of_mem hx
    rw [List.length_cons]
    omega
theorem reachO_total {t : Tb} {S : List Int} (hS : S.length ≤ 10) (hA : ∀ a ∈ S, (∀ b ∈ aheadP t a, b ∈ S) ∧ (aheadP t a).length ≤ S.length) : ∀ (m : Nat) {l todo : List Int}, l.Nodup → (∀ a ∈ l, a ∈ S) → (∀ a ∈ todo, a ∈ S) → todo.length + (S.length + 1) * (S.length - l.length) < m → m ≤ 1000 → ∃ R, reachO t m l todo = some R
  | 0, l, todo, _, _, _, h, _ => by omega
  | m + 1, l, [], _, _, _, _, _ => ⟨l, rfl⟩
  | m + 1, l, o :: r, hn, hl, ht, hm, hm2 => by
    have hlen := nodup_len hn hl
    obtain ⟨a1, a2⟩ := hA o (ht o (List.mem_cons_self ..))
    have hr : ∀ a ∈ r, a ∈ S := fun a ha => ht a (List.mem_cons_of_mem _ ha)
    rw [List.length_cons] at hm
    rw [reachO, decide_eq_true (by omega), cond_true]
    cases hc : l.contains o with
    | true => rw [cond_true]; exact reachO_total hS hA m hn hl hr (by omega) (by omega)
    | false =>
      rw [cond_false]
      have ho : o ∉ l := fun h => by
        have : l.contains o = true := by simpa using h
        rw [hc] at this; cases this
      have hn' : (l ++ [o]).Nodup := by
        rw [List.nodup_append]
        exact ⟨hn, by simp, fun a ha b hb e => by rw [List.mem_singleton.1 hb] at e; exact ho (e ▸ ha)⟩
      have hl' : ∀ a ∈ l ++ [o], a ∈ S := fun a ha => by
        rcases List.mem_append.1 ha with ha | ha
        · exact hl a ha
        · rw [List.mem_singleton.1 ha]; exact ht o (List.mem_cons_self ..)
      have hlen' := nodup_len hn' hl'
      rw [List.length_append, List.length_singleton] at hlen'
      refine reachO_total hS hA m hn' hl' (fun a ha => ?_) ?_ (by omega)
      · rcases List.mem_append.1 ha with ha | ha
        · exact hr a ha
        · exact a1 a ha
      · rw [List.length_append, List.length_append, List.length_singleton]
        obtain ⟨d, hd⟩ : ∃ d, S.length - l.length = d + 1 := ⟨S.length - l.length - 1, by omega⟩
        rw [hd, Nat.mul_add, Nat.mul_one] at hm
        rw [show S.length - (l.length + 1) = d by omega]
        omega
theorem reach_iff {t : Tb} {o : Int} {R : List Int} (h : reachO t 1000 [] (aheadP t o) = some R) (z : Int) : z ∈ R ↔ Pa t o z := by
  constructor
  · exact reachO_sound (Q := Pa t o) (fun a b ha hb => ha.snoc hb) 1000 h (fun z hz => by cases hz) (fun z hz => .one hz) z
  · intro hp
    obtain ⟨_, r2, r3⟩ := reachO_full 1000 h (fun a ha => by cases ha)
    have : ∀ {a b : Int}, Pa t a b → (∀ c ∈ aheadP t a, c ∈ R) → b ∈ R := by
      intro a b hab
      induction hab with
      | one hb => exact fun hc => hc _ hb
      | more hb _ ih => exact fun hc => ih (r3 _ (hc _ hb))
    exact this hp r2
/-- Nobody is stuck just where no road leads back. -/
theorem stuck_nil {t : Tb} {o : Int} {R : Int → List Int} (h0 : reachO t 1000 [] (aheadP t o) = some (R o)) (h : ∀ x ∈ R o, reachO t 1000 [] (aheadP t x) = some (R x)) : (sortI (R o)).filter (stq R o) = [] ↔ ¬ Pa t o o := by
  rw [List.filter_eq_nil_iff]
  constructor
  · intro hf hp
    have ho : o ∈ R o := (reach_iff h0 o).2 hp
    refine hf o (mem_sortI.2 ho) ?_
    unfold stq
    have : o ∈ sortI (R o) := mem_sortI.2 ho
    simpa using this
  · intro hp x hx hq
    have hx := mem_sortI.1 hx
    unfold stq at hq
    have hq : o ∈ R x := mem_sortI.1 (by simpa using hq)
    exact hp (((reach_iff h0 x).1 hx).trans ((reach_iff (h x hx) o).1 hq))
theorem stuck_mem {t : Tb} {o : Int} {R : Int → List Int} (h0 : reachO t 1000 [] (aheadP t o) = some (R o)) (h : ∀ x ∈ R o, reachO t 1000 [] (aheadP t x) = some (R x)) (x : Int) : x ∈ (sortI (R o)).filter (stq R o) ↔ Pa t o x ∧ Pa t x o := by
  rw [List.mem_filter, mem_sortI, reach_iff h0]
  constructor
  · rintro ⟨h1, h2⟩
    unfold stq at h2
    exact ⟨h1, (reach_iff (h x ((reach_iff h0 x).2 h1)) o).1 (mem_sortI.1 (by simpa using h2))⟩
  · rintro ⟨h1, h2⟩
    refine ⟨h1, ?_⟩
    unfold stq
    have : o ∈ sortI (R x) := mem_sortI.2 ((reach_iff (h x ((reach_iff h0 x).2 h1)) o).2 h2)
    simpa using this
end Go.Proofs.Ytibdinelkpbhaaa
