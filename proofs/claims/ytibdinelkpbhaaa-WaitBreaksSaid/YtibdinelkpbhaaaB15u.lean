import Derived.Test.YtibdinelkpbhaaaB15q
set_option maxRecDepth 100000
set_option linter.unusedVariables false
set_option linter.unusedSimpArgs false
namespace Go.Proofs.Ytibdinelkpbhaaa
open Go.Proofs.Ytibdinelkpbhaaa.Sh Go.Proofs.Ytibdinelkpbhaaa.Sh.V Go.RowKit Go.Proofs.Ytibdinelkpbhaaa.Sh.Lk
/-! ### Free: who waits -/
theorem let_q : ∀ (q : List Wt) (hs : List Int) (only : Bool) (ws : List (Int × Key)), ∀ w ∈ (letP q hs only ws).1.q, w ∈ q
  | [], hs, only, ws, w, h => h
  | y :: q, hs, only, ws, w, h => by
    rw [letP_cons] at h
    cases hm : mayP ⟨hs, only, y :: q⟩ y with
    | false => rw [hm] at h; exact h
    | true =>
      rw [hm] at h
      exact List.mem_cons_of_mem _ (let_q q _ _ _ w h)
theorem freeZ_q (o : Int) (x : Lk) (ws : List (Int × Key)) : ∀ w ∈ (freeZ o x ws).1.q, w ∈ x.q := fun w h => by
  unfold freeZ at h
  cases hd : decide ((leaveP x o).hs.length + (leaveP x o).q.length < x.hs.length + x.q.length) with
  | true => rw [hd, cond_true] at h; exact (List.mem_filter.1 (let_q _ _ _ _ w h)).1
  | false => rw [hd, cond_false] at h; exact (List.mem_filter.1 h).1
theorem freeK_q (o : Int) : ∀ (ks : List Key) {t : Tb}, (t.m.map (·.1)).Nodup → ∀ k, ∀ w ∈ (lkOf (freeK o ks t).1 k).q, w ∈ (lkOf t k).q
  | [], t, _, k, w, h => h
  | k0 :: ks, t, hm, k, w, h => by
    have h := freeK_q o ks (t := ⟨freeM t.m k0 (freeZ o (lkOf t k0) t.ws).1, (freeZ o (lkOf t k0) t.ws).2.1⟩) (nodup_freeM hm _ _) k w h
    have e := lkOf_freeM hm (freeZ o (lkOf t k0) t.ws).2.1 k0 (freeZ o (lkOf t k0) t.ws).1 k
    have h : w ∈ (lkOf ⟨freeM t.m k0 (freeZ o (lkOf t k0) t.ws).1, (freeZ o (lkOf t k0) t.ws).2.1⟩ k).q := h
    rw [e] at h
    by_cases h1 : k = k0
    · rw [if_pos h1] at h
      split at h
      · cases h
      · rw [h1]; exact freeZ_q o _ _ w h
    · rw [if_neg h1] at h; exact h
theorem free_q {t : Tb} (hi : IT t) (o : Int) (k : Key) (w : Wt) (h : w ∈ (lkOf (freeP t o).1 k).q) : w ∈ (lkOf t k).q ∧ w.o ≠ o :=
  ⟨freeK_q o (keysP t) hi.m k w h, (IT.freeK o (keysP t) hi (free_keys t o)).2 k w h⟩
theorem waits_iff {t : Tb} (hi : IT t) (a : Int) : (waitsP t a).isSome = true ↔ ∃ k, ∃ w ∈ (lkOf t k).q, w.o = a := by
  constructor
  · intro h
    unfold waitsP at h
    cases hg : getM t.ws a with
    | none => rw [hg] at h; cases h
    | some k =>
      rw [hg] at h
      simp only [Option.isSome_map] at h
      obtain ⟨w, hw⟩ := Option.isSome_iff_exists.1 h
      obtain ⟨g1, g2⟩ := findO_o hw
      exact ⟨k, w, g1, g2⟩
  · rintro ⟨k, w, g1, g2⟩
    obtain ⟨only, h⟩ := hi.waits g1
    rw [← g2, h]; rfl
theorem free_waits {t : Tb} (hi : IT t) (o a : Int) (h : (waitsP (freeP t o).1 a).isSome = true) : (waitsP t a).isSome = true ∧ a ≠ o := by
  obtain ⟨k, w, h1, h2⟩ := (waits_iff (hi.free o) a).1 h
  obtain ⟨g1, g2⟩ := free_q hi o k w h1
  exact ⟨(waits_iff hi a).2 ⟨k, w, g1, h2⟩, by rw [← h2]; exact g2⟩
def wc (t : Tb) : Nat := (S6.filter fun a => (waitsP t a).isSome).length
theorem wc_le (t : Tb) : wc t ≤ 6 := List.length_filter_le _ S6
theorem wc_free {t : Tb} (hi : IT t) {v : Int} (hv : v ∈ S6) (hw : (waitsP t v).isSome = true) : wc (freeP t v).1 < wc t := by
  have hnd : (v :: S6.filter fun a => (waitsP (freeP t v).1 a).isSome).Nodup := by
    rw [List.nodup_cons]
    refine ⟨fun h => ?_, List.Nodup.sublist List.filter_sublist (by decide)⟩
    exact (free_waits hi v v (List.mem_filter.1 h).2).2 rfl
  have := nodup_len (S := S6.filter fun a => (waitsP t a).isSome) hnd (fun z hz => by
    rcases List.mem_cons.1 hz with rfl | hz
    · exact List.mem_filter.2 ⟨hv, hw⟩
    · obtain ⟨z1, z2⟩ := List.mem_filter.1 hz
      exact List.mem_filter.2 ⟨z1, (free_waits hi v z z2).1⟩)
  rw [List.length_cons] at this
  exact this
theorem ahead_waits {t : Tb} {a b : Int} (h : b ∈ aheadP t a) : (waitsP t a).isSome = true := by
  unfold aheadP at h
  cases hw : waitsP t a with
  | none => rw [hw] at h; cases h
  | some _ => rfl
/-- How many of the first j wait. -/
def cw (t : Tb) : Nat → Nat
  | 0 => 0
  | j + 1 => cw t j + cond (waitsP t ((j : Nat) : Int)).isSome 1 0
theorem cw_le (t : Tb) : ∀ j, cw t j ≤ j
  | 0 => Nat.le_refl _
  | j + 1 => by
    have := cw_le t j
    rw [cw]
    cases (waitsP t ((j : Nat) : Int)).isSome <;> simp <;> omega
theorem cw_lt {t : Tb} {i : Nat} (h : waitsP t ((i : Nat) : Int) = none) : ∀ j, i < j → cw t j < j
  | 0, hi => by omega
  | j + 1, hi => by
    rw [cw]
    by_cases e : i = j
    · subst e
      have := cw_le t i
      rw [h]
      show cw t i + 0 < i + 1
      omega
    · have := cw_lt h j (by omega)
      cases (waitsP t ((j : Nat) : Int)).isSome <;> simp <;> omega
theorem cw_6 {t : Tb} (hi : IT t) (hx : XT S6 t) (hac : Acy t) : cw t 6 ≠ 6 := by
  obtain ⟨a, ha, hw⟩ := some_go hi hx hac
  have : ∃ i : Nat, i < 6 ∧ a = (i : Int) := by
    simp only [S6, List.mem_cons, List.not_mem_nil, or_false] at ha
    exact ⟨a.toNat, by omega, by omega⟩
  obtain ⟨i, h1, rfl⟩ := this
  have := cw_lt hw 6 h1
  omega
end Go.Proofs.Ytibdinelkpbhaaa
