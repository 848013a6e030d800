import Derived.Test.YtfkecgpcamhgkaaB03h
import Derived.Test.YtfkecgpcamhgkaaB03g
set_option linter.unusedVariables false
namespace Go.Proofs.Ytfkecgpcamhgkaa
theorem bitK_zero (ks : List Nat) (i : Nat) (h : 5 * ks.length ≤ i) : bitK ks i = 0 := by
  unfold bitK
  rw [List.getElem?_eq_none (by omega)]
theorem bit_byK (ks : List Nat) (j s : Nat) (hs : s < 8) : byK ks j / 2 ^ (7 - s) % 2 = bitK ks (j + s) := by
  have h0 := bitK_lt ks j
  have h1 := bitK_lt ks (j + 1)
  have h2 := bitK_lt ks (j + 2)
  have h3 := bitK_lt ks (j + 3)
  have h4 := bitK_lt ks (j + 4)
  have h5 := bitK_lt ks (j + 5)
  have h6 := bitK_lt ks (j + 6)
  have h7 := bitK_lt ks (j + 7)
  unfold byK
  have : s = 0 ∨ s = 1 ∨ s = 2 ∨ s = 3 ∨ s = 4 ∨ s = 5 ∨ s = 6 ∨ s = 7 := by omega
  rcases this with rfl | rfl | rfl | rfl | rfl | rfl | rfl | rfl <;> simp only [Nat.reducePow, Nat.reduceSub, Nat.add_zero] <;> omega
/-- The bits of what was read are the letters' bits. -/
theorem bitAt_outs (ks : List Nat) (n i : Nat) (h : i < 8 * n) : bitAt (outs ks n) i = bitK ks i := by
  unfold bitAt
  rw [outs_get ks (show i / 8 < n by omega)]
  simp only
  have hb := byK_lt ks (8 * (i / 8))
  have e : (UInt8.ofNat (byK ks (8 * (i / 8)))).toNat = byK ks (8 * (i / 8)) := by rw [UInt8.toNat_ofNat']; omega
  rw [e, bit_byK ks _ (i % 8) (by omega)]
  congr 1
  omega
theorem five_bits (k : Nat) (h : k < 32) : 2 * (2 * (2 * (2 * (k / 2 ^ 4 % 2) + k / 2 ^ 3 % 2) + k / 2 ^ 2 % 2) + k / 2 ^ 1 % 2) + k / 2 ^ 0 % 2 = k := by
  simp only [Nat.reducePow]
  omega
theorem bitK_at {ks : List Nat} {j k t : Nat} (h : ks[j]? = some k) (ht : t < 5) : bitK ks (5 * j + t) = k / 2 ^ (4 - t) % 2 := by
  unfold bitK
  rw [show (5 * j + t) / 5 = j by omega, h, show (5 * j + t) % 5 = t by omega]
/-- When the bytes that were read are the text again. -/
theorem text_outs {s : List UInt8} {ks : List Nat} (hv : vals s = some ks) : text (outs ks (5 * s.length / 8)) = s ↔ (5 * s.length - 8 * (5 * s.length / 8) ≤ 4 ∧ ∀ i, 8 * (5 * s.length / 8) ≤ i → i < 5 * s.length → bitK ks i = 0) := by
  obtain ⟨M, hM⟩ : ∃ M, M = 5 * s.length / 8 := ⟨_, rfl⟩
  rw [← hM]
  have hks := vals_len hv
  have hbit : ∀ i, i < 8 * M → bitAt (outs ks M) i = bitK ks i := fun i h => bitAt_outs ks M i h
  have hz : ∀ i, 8 * M ≤ i → bitAt (outs ks M) i = 0 := fun i h => bitAt_zero _ _ (by rw [outs_len]; exact h)
  constructor
  · intro h
    have hl : (8 * M + 4) / 5 = s.length := by have := congrArg List.length h; rw [text_len, outs_len] at this; exact this
    refine ⟨by omega, fun i h1 h2 => ?_⟩
    have hj : i / 5 < s.length := by omega
    have hc : s[i / 5]? = some s[i / 5] := List.getElem?_eq_getElem hj
    obtain ⟨k, hk1, hk2⟩ := vals_get hv hc
    have hg := text_get (l := outs ks M) (j := i / 5) (by rw [outs_len]; omega)
    rw [h, hc] at hg
    injection hg with hg
    rw [hg, vl_of (dg_lt _ _)] at hk2
    injection hk2 with hk2
    have hb := bits_of_k ks (outs ks M) (i / 5) k hk1 hk2
    have := hb (i % 5) (by omega)
    rw [show 5 * (i / 5) + i % 5 = i by omega] at this
    rw [← this]
    exact hz i h1
  · rintro ⟨h1, h2⟩
    have hall : ∀ i, bitAt (outs ks M) i = bitK ks i := by
      intro i
      by_cases h3 : i < 8 * M
      · exact hbit i h3
      · rw [hz i (by omega)]
        by_cases h4 : i < 5 * s.length
        · rw [h2 i (by omega) h4]
        · rw [bitK_zero ks i (by omega)]
    refine List.ext_getElem? fun j => ?_
    by_cases hj : j < s.length
    · rw [text_get (by rw [outs_len]; omega)]
      have hc : s[j]? = some s[j] := List.getElem?_eq_getElem hj
      obtain ⟨k, hk1, hk2⟩ := vals_get hv hc
      obtain ⟨hk3, hk4⟩ := vl_lt hk2
      rw [hc, ← hk4]
      congr 2
      unfold dg
      rw [hall, hall, hall, hall, hall]
      have e0 := bitK_at hk1 (t := 0) (by omega)
      rw [Nat.add_zero] at e0
      rw [e0, bitK_at hk1 (t := 1) (by omega), bitK_at hk1 (t := 2) (by omega), bitK_at hk1 (t := 3) (by omega), bitK_at hk1 (t := 4) (by omega)]
      exact five_bits k hk3
    · rw [List.getElem?_eq_none (by rw [text_len, outs_len]; omega), List.getElem?_eq_none (by omega)]
where
  bits_of_k (ks : List Nat) (o : List UInt8) (j k : Nat) (hk1 : ks[j]? = some k) (hk2 : dg o (5 * j) = k) : ∀ t, t < 5 → bitAt o (5 * j + t) = bitK ks (5 * j + t) := by
    intro t ht
    rw [bitK_at hk1 ht, ← hk2]
    have a0 := bitAt_lt o (5 * j)
    have a1 := bitAt_lt o (5 * j + 1)
    have a2 := bitAt_lt o (5 * j + 2)
    have a3 := bitAt_lt o (5 * j + 3)
    have a4 := bitAt_lt o (5 * j + 4)
    unfold dg
    have : t = 0 ∨ t = 1 ∨ t = 2 ∨ t = 3 ∨ t = 4 := by omega
    rcases this with rfl | rfl | rfl | rfl | rfl <;> simp only [Nat.reducePow, Nat.reduceSub, Nat.add_zero] <;> omega
/-- What bytes come to as letters is read as they were. -/
theorem vals_text (l : List UInt8) : vals (text l) = some ((List.range ((8 * l.length + 4) / 5)).map fun j => dg l (5 * j)) := by
  unfold text texts
  generalize (8 * l.length + 4) / 5 = n
  induction n with
  | zero => rfl
  | succ n ih => rw [List.range_succ, List.map_append, List.map_append, List.map_cons, List.map_nil, vals_snoc, ih, Option.bind_some, vl_of (dg_lt _ _)]; rfl
theorem outs_text (l : List UInt8) {ks : List Nat} (h : vals (text l) = some ks) : outs ks (5 * (text l).length / 8) = l ∧ text (outs ks (5 * (text l).length / 8)) = text l := by
  have hl := text_len l
  have hM : 5 * (text l).length / 8 = l.length := by rw [hl]; omega
  rw [hM]
  rw [vals_text] at h
  injection h with h
  have hb : ∀ i, i < 8 * l.length → bitK ks i = bitAt l i := by
    intro i hi
    have hk : ks[i / 5]? = some (dg l (5 * (i / 5))) := by
      rw [← h, List.getElem?_map, List.getElem?_range (by omega)]
      rfl
    have := text_outs.bits_of_k ks l (i / 5) _ hk rfl (i % 5) (by omega)
    rw [show 5 * (i / 5) + i % 5 = i by omega] at this
    exact this.symm
  have e : outs ks l.length = l := by
    refine List.ext_getElem (outs_len _ _) fun k hk hk' => ?_
    refine byte_of_bits fun s hs => ?_
    have h1 := bitAt_outs ks l.length (8 * k + (7 - s)) (by omega)
    rw [hb _ (by omega)] at h1
    unfold bitAt at h1
    rw [show (8 * k + (7 - s)) / 8 = k by omega, show 7 - (8 * k + (7 - s)) % 8 = s by omega, List.getElem?_eq_getElem hk, List.getElem?_eq_getElem hk'] at h1
    exact h1
  rw [e]
  exact ⟨rfl, rfl⟩
end Go.Proofs.Ytfkecgpcamhgkaa
