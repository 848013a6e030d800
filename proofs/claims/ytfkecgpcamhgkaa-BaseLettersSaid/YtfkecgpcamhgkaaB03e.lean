import Derived.Test.YtfkecgpcamhgkaaB03d
set_option linter.unusedVariables false
namespace Go.Proofs.Ytfkecgpcamhgkaa
open Go.Proofs.Ytfkecgpcamhgkaa.Sh Go.RowKit
theorem e16 (n : Nat) {h : Heap} {a b : Sl} {la lb : List UInt8} (ha : slCells h 1 a = some (bcs la)) (hb : slCells h 1 b = some (bcs lb)) (hl : la.length + lb.length < 1000000) :
    ∃ s h', eF P tab (n + 1) 16 [.slice a.a a.n a.c, .slice b.a b.n b.c] h = some (.slice s.a s.n s.c, h') ∧ Own h' 1 5 s (bcs (la ++ lb)) ∧ Kp h h' [] ∧ (∀ x ∈ ids s, h.length ≤ x) ∧ s.n = la.length + lb.length := by
  have hna : a.n = la.length := by have := slCells_len ha; rw [bcs_len] at this; omega
  have hnb : b.n = lb.length := by have := slCells_len hb; rw [bcs_len] at this; omega
  rw [eF_body rfl rfl, f16_eq]
  obtain ⟨s1, h1, q1, o1, k1, n1, i1⟩ := app_own (by_ := 1) (Own.nil h 1 5) ha (by simp only [bound]; omega) (by simp only [bound]; omega)
  have i1' : ∀ x ∈ ids s1, h.length ≤ x := fun x hx => (i1 x hx).resolve_left (fun e => by cases e)
  have k1' : Kp h h1 [] := k1.weak (fun x hx _ => by cases hx)
  rw [q1, Option.bind_some]
  have hb' := k1'.cells hb (fun x _ e => by cases e)
  simp only [Nat.zero_add] at n1
  obtain ⟨s2, h2, q2, o2, k2, n2, i2⟩ := app_own (by_ := 1) o1 hb' (by simp only [bound]; omega) (by simp only [bound]; omega)
  simp only
  rw [q2, Option.bind_some]
  have hlen := k1'.len
  refine ⟨s2, h2, rfl, ?_, k1'.trans k2 (fun x hx => hx) (fun y hy h3 => by have := i1' y hy; omega), fun x hx => ?_, by omega⟩
  · rw [bcs_app]; simpa using o2
  · rcases i2 x hx with h3 | h3
    · exact i1' x h3
    · omega
/-! ### Other bytes, other letters -/
theorem lt_inj {a b : Nat} (ha : a < 32) (hb : b < 32) (h : lt a = lt b) : a = b := by
  have : ∀ a b : Fin 32, lt a.1 = lt b.1 → a = b := by decide +kernel
  have := this ⟨a, ha⟩ ⟨b, hb⟩ h
  simpa using this
theorem bits_of_dg (l m : List UInt8) (i : Nat) (h : dg l i = dg m i) : ∀ k, k < 5 → bitAt l (i + k) = bitAt m (i + k) := by
  have a0 := bitAt_lt l i
  have a1 := bitAt_lt l (i + 1)
  have a2 := bitAt_lt l (i + 2)
  have a3 := bitAt_lt l (i + 3)
  have a4 := bitAt_lt l (i + 4)
  have b0 := bitAt_lt m i
  have b1 := bitAt_lt m (i + 1)
  have b2 := bitAt_lt m (i + 2)
  have b3 := bitAt_lt m (i + 3)
  have b4 := bitAt_lt m (i + 4)
  unfold dg at h
  intro k hk
  have : k = 0 ∨ k = 1 ∨ k = 2 ∨ k = 3 ∨ k = 4 := by omega
  rcases this with rfl | rfl | rfl | rfl | rfl
  · simp only [Nat.add_zero]; omega
  · omega
  · omega
  · omega
  · omega
theorem byte_of_bits {a b : UInt8} (h : ∀ s, s < 8 → a.toNat / 2 ^ s % 2 = b.toNat / 2 ^ s % 2) : a = b := by
  have ha := a.toNat_lt
  have hb := b.toNat_lt
  have h0 := h 0 (by omega)
  have h1 := h 1 (by omega)
  have h2 := h 2 (by omega)
  have h3 := h 3 (by omega)
  have h4 := h 4 (by omega)
  have h5 := h 5 (by omega)
  have h6 := h 6 (by omega)
  have h7 := h 7 (by omega)
  simp only [Nat.reducePow] at *
  exact UInt8.toNat.inj (by omega)
theorem text_len (l : List UInt8) : (text l).length = (8 * l.length + 4) / 5 := texts_len _ _
theorem text_get {l : List UInt8} {j : Nat} (hj : 5 * j < 8 * l.length) : (text l)[j]? = some (lt (dg l (5 * j))) := by
  unfold text texts
  rw [List.getElem?_map, List.getElem?_range (by omega)]
  rfl
theorem text_inj {l m : List UInt8} (hlen : l.length = m.length) (h : text l = text m) : l = m := by
  have hbit : ∀ i, i < 8 * l.length → bitAt l i = bitAt m i := by
    intro i hi
    have h1 := text_get (l := l) (j := i / 5) (by omega)
    have h2 := text_get (l := m) (j := i / 5) (by omega)
    rw [h, h2] at h1
    injection h1 with h1
    have := bits_of_dg l m (5 * (i / 5)) (lt_inj (dg_lt _ _) (dg_lt _ _) h1.symm) (i % 5) (by omega)
    rwa [show 5 * (i / 5) + i % 5 = i by omega] at this
  refine List.ext_getElem hlen fun k hk hk' => ?_
  refine byte_of_bits fun s hs => ?_
  have := hbit (8 * k + (7 - s)) (by omega)
  unfold bitAt at this
  rw [show (8 * k + (7 - s)) / 8 = k by omega, show 7 - (8 * k + (7 - s)) % 8 = s by omega, List.getElem?_eq_getElem hk, List.getElem?_eq_getElem hk'] at this
  exact this
end Go.Proofs.Ytfkecgpcamhgkaa
