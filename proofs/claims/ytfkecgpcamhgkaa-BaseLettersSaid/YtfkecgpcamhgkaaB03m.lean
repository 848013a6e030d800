import Derived.Test.YtfkecgpcamhgkaaSh
set_option linter.unusedVariables false
namespace Go.Proofs.Ytfkecgpcamhgkaa
/-! ### Letters of five bits: plain numbers -/
def letters : List UInt8 := [48, 49, 50, 51, 52, 53, 54, 55, 56, 57, 97, 98, 99, 100, 102, 103, 104, 105, 106, 107, 108, 109, 110, 112, 113, 114, 115, 118, 119, 120, 121, 122]
def lt (d : Nat) : UInt8 := letters.getD d 0
/-- The number that bytes are, the first one foremost. -/
def num (l : List UInt8) : Nat := l.foldl (fun v b => v * 256 + b.toNat) 0
theorem num_snoc (l : List UInt8) (b : UInt8) : num (l ++ [b]) = num l * 256 + b.toNat := by simp [num, List.foldl_append]
theorem num_take {l : List UInt8} {k : Nat} {b : UInt8} (h : l[k]? = some b) : num (l.take (k + 1)) = num (l.take k) * 256 + b.toNat := by
  rw [List.take_add_one, h]
  exact num_snoc _ _
def bitAt (l : List UInt8) (i : Nat) : Nat := match l[i / 8]? with | none => 0 | some b => b.toNat / 2 ^ (7 - i % 8) % 2
def dg (l : List UInt8) (i : Nat) : Nat := 2 * (2 * (2 * (2 * bitAt l i + bitAt l (i + 1)) + bitAt l (i + 2)) + bitAt l (i + 3)) + bitAt l (i + 4)
theorem bitAt_lt (l : List UInt8) (i : Nat) : bitAt l i < 2 := by
  unfold bitAt
  split
  · omega
  · exact Nat.mod_lt _ (by omega)
theorem dg_lt (l : List UInt8) (i : Nat) : dg l i < 32 := by
  have h0 := bitAt_lt l i
  have h1 := bitAt_lt l (i + 1)
  have h2 := bitAt_lt l (i + 2)
  have h3 := bitAt_lt l (i + 3)
  have h4 := bitAt_lt l (i + 4)
  unfold dg
  omega
def texts (l : List UInt8) (n : Nat) : List UInt8 := (List.range n).map fun j => lt (dg l (5 * j))
def text (l : List UInt8) : List UInt8 := texts l ((8 * l.length + 4) / 5)
theorem texts_succ (l : List UInt8) (n : Nat) : texts l (n + 1) = texts l n ++ [lt (dg l (5 * n))] := by simp [texts, List.range_succ]
theorem texts_len (l : List UInt8) (n : Nat) : (texts l n).length = n := by simp [texts]
theorem bitAt_num (l : List UInt8) : ∀ (k i : Nat), i < 8 * k → k ≤ l.length → bitAt l i = num (l.take k) / 2 ^ (8 * k - 1 - i) % 2 := by
  intro k
  induction k with
  | zero => intro i hi; omega
  | succ k ih =>
    intro i hi hk
    have hlt : k < l.length := by omega
    have hb : l[k]? = some l[k] := List.getElem?_eq_getElem hlt
    rw [num_take hb]
    have hb2 := l[k].toNat_lt
    by_cases h : i < 8 * k
    · rw [ih i h (by omega)]
      have e : 8 * (k + 1) - 1 - i = 8 + (8 * k - 1 - i) := by omega
      rw [e, Nat.pow_add, ← Nat.div_div_eq_div_mul]
      congr 2
      omega
    · have hd : i / 8 = k := by omega
      have hm : i % 8 = i - 8 * k := by omega
      unfold bitAt
      rw [hd, hb]
      simp only
      rw [hm]
      obtain ⟨s, hs, e1, e2⟩ : ∃ s, s < 8 ∧ 7 - (i - 8 * k) = s ∧ 8 * (k + 1) - 1 - i = s := ⟨_, by omega, rfl, by omega⟩
      rw [e1, e2]
      have : s = 0 ∨ s = 1 ∨ s = 2 ∨ s = 3 ∨ s = 4 ∨ s = 5 ∨ s = 6 ∨ s = 7 := by omega
      rcases this with rfl | rfl | rfl | rfl | rfl | rfl | rfl | rfl <;> simp only [Nat.reducePow] <;> omega
theorem dg_num (l : List UInt8) (k i : Nat) (hi : i + 5 ≤ 8 * k) (hk : k ≤ l.length) : dg l i = num (l.take k) / 2 ^ (8 * k - 5 - i) % 32 := by
  unfold dg
  rw [bitAt_num l k i (by omega) hk, bitAt_num l k (i + 1) (by omega) hk, bitAt_num l k (i + 2) (by omega) hk, bitAt_num l k (i + 3) (by omega) hk, bitAt_num l k (i + 4) (by omega) hk]
  obtain ⟨s, hs⟩ : ∃ s, 8 * k - 5 - i = s := ⟨_, rfl⟩
  rw [hs, show 8 * k - 1 - i = s + 4 by omega, show 8 * k - 1 - (i + 1) = s + 3 by omega, show 8 * k - 1 - (i + 2) = s + 2 by omega, show 8 * k - 1 - (i + 3) = s + 1 by omega, show 8 * k - 1 - (i + 4) = s by omega]
  generalize num (l.take k) = v
  rw [Nat.pow_add, Nat.pow_add, Nat.pow_add, Nat.pow_add, ← Nat.div_div_eq_div_mul, ← Nat.div_div_eq_div_mul, ← Nat.div_div_eq_div_mul, ← Nat.div_div_eq_div_mul]
  generalize v / 2 ^ s = y
  omega
theorem bitAt_zero (l : List UInt8) (i : Nat) (h : 8 * l.length ≤ i) : bitAt l i = 0 := by
  unfold bitAt
  rw [List.getElem?_eq_none (by omega)]
/-- The last letter: what is left, and noughts. -/
theorem dg_last (l : List UInt8) (i n : Nat) (hn : 8 * l.length = i + n) (h0 : 0 < n) (h5 : n < 5) : dg l i = num l * 2 ^ (5 - n) % 32 := by
  have hb : ∀ j, j < n → bitAt l (i + j) = num l / 2 ^ (n - 1 - j) % 2 := by
    intro j hj
    rw [bitAt_num l l.length (i + j) (by omega) (Nat.le_refl _), List.take_length]
    congr 3
    omega
  have hz : ∀ j, n ≤ j → bitAt l (i + j) = 0 := fun j hj => bitAt_zero l _ (by omega)
  unfold dg
  have : n = 1 ∨ n = 2 ∨ n = 3 ∨ n = 4 := by omega
  have h00 := hb 0 h0
  rw [Nat.add_zero] at h00
  rw [h00]
  rcases this with rfl | rfl | rfl | rfl
  · rw [hz 1 (by omega), hz 2 (by omega), hz 3 (by omega), hz 4 (by omega)]; simp only [Nat.reducePow, Nat.reduceSub]; omega
  · rw [hb 1 (by omega), hz 2 (by omega), hz 3 (by omega), hz 4 (by omega)]; simp only [Nat.reducePow, Nat.reduceSub]; omega
  · rw [hb 1 (by omega), hb 2 (by omega), hz 3 (by omega), hz 4 (by omega)]; simp only [Nat.reducePow, Nat.reduceSub]; omega
  · rw [hb 1 (by omega), hb 2 (by omega), hb 3 (by omega), hz 4 (by omega)]; simp only [Nat.reducePow, Nat.reduceSub]; omega
end Go.Proofs.Ytfkecgpcamhgkaa
