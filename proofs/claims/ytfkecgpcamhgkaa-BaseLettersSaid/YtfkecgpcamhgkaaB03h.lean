import Derived.Test.YtfkecgpcamhgkaaB03m
set_option linter.unusedVariables false
namespace Go.Proofs.Ytfkecgpcamhgkaa
/-! ### Letters read: plain numbers -/
/-- A letter's five bits. -/
def vl (c : UInt8) : Option Nat := letters.findIdx? (· == c)
theorem vl_lt {c : UInt8} {k : Nat} (h : vl c = some k) : k < 32 ∧ lt k = c := by
  unfold vl at h
  rw [List.findIdx?_eq_some_iff_getElem] at h
  obtain ⟨h1, h2, _⟩ := h
  refine ⟨h1, ?_⟩
  unfold lt
  rw [List.getD_eq_getElem?_getD, List.getElem?_eq_getElem h1]
  simpa using h2
theorem vl_some : ∀ k : Fin 32, vl (lt k.1) = some k.1 := by decide +kernel
theorem vl_of {k : Nat} (h : k < 32) : vl (lt k) = some k := vl_some ⟨k, h⟩
def vals : List UInt8 → Option (List Nat)
  | [] => some []
  | c :: s => (vl c).bind fun k => (vals s).map fun ks => k :: ks
theorem vals_snoc (s : List UInt8) (c : UInt8) : vals (s ++ [c]) = (vals s).bind fun ks => (vl c).map fun k => ks ++ [k] := by
  induction s with
  | nil => simp only [List.nil_append, vals, Option.bind_some]; cases vl c <;> rfl
  | cons d s ih =>
    simp only [List.cons_append, vals, ih]
    cases vl d <;> cases vals s <;> cases vl c <;> rfl
theorem vals_len {s : List UInt8} {ks : List Nat} (h : vals s = some ks) : ks.length = s.length := by
  induction s generalizing ks with
  | nil => simp [vals] at h; subst h; rfl
  | cons c s ih =>
    simp only [vals, Option.bind_eq_some_iff, Option.map_eq_some_iff] at h
    obtain ⟨k, _, ks', h2, rfl⟩ := h
    simp [ih h2]
theorem vals_get {s : List UInt8} {ks : List Nat} (h : vals s = some ks) {i : Nat} {c : UInt8} (hc : s[i]? = some c) : ∃ k, ks[i]? = some k ∧ vl c = some k := by
  induction s generalizing ks i with
  | nil => simp at hc
  | cons d s ih =>
    simp only [vals, Option.bind_eq_some_iff, Option.map_eq_some_iff] at h
    obtain ⟨k, h1, ks', h2, rfl⟩ := h
    cases i with
    | zero => simp at hc; subst hc; exact ⟨k, rfl, h1⟩
    | succ i => exact ih h2 hc
theorem vals_take {s : List UInt8} {i : Nat} {c : UInt8} (hc : s[i]? = some c) : vals (s.take (i + 1)) = (vals (s.take i)).bind fun ks => (vl c).map fun k => ks ++ [k] := by
  rw [List.take_add_one, hc]
  exact vals_snoc _ _
/-- If the first ones are none, all are none. -/
theorem vals_none {s : List UInt8} {i : Nat} (h : vals (s.take i) = none) : vals s = none := by
  induction s generalizing i with
  | nil => simp [vals] at h
  | cons c s ih =>
    cases i with
    | zero => simp [vals] at h
    | succ i =>
      simp only [List.take_succ_cons, vals] at h ⊢
      cases hv : vl c with
      | none => rfl
      | some k =>
        rw [hv] at h
        simp only [Option.bind_some, Option.map_eq_none_iff] at h ⊢
        exact ih h
def numK (ks : List Nat) : Nat := ks.foldl (fun v k => v * 32 + k) 0
theorem numK_snoc (ks : List Nat) (k : Nat) : numK (ks ++ [k]) = numK ks * 32 + k := by simp [numK, List.foldl_append]
def bitK (ks : List Nat) (i : Nat) : Nat := match ks[i / 5]? with | none => 0 | some k => k / 2 ^ (4 - i % 5) % 2
theorem bitK_lt (ks : List Nat) (i : Nat) : bitK ks i < 2 := by
  unfold bitK
  split
  · omega
  · exact Nat.mod_lt _ (by omega)
def byK (ks : List Nat) (i : Nat) : Nat :=
  2 * (2 * (2 * (2 * (2 * (2 * (2 * bitK ks i + bitK ks (i + 1)) + bitK ks (i + 2)) + bitK ks (i + 3)) + bitK ks (i + 4)) + bitK ks (i + 5)) + bitK ks (i + 6)) + bitK ks (i + 7)
theorem byK_lt (ks : List Nat) (i : Nat) : byK ks i < 256 := by
  have h0 := bitK_lt ks i
  have h1 := bitK_lt ks (i + 1)
  have h2 := bitK_lt ks (i + 2)
  have h3 := bitK_lt ks (i + 3)
  have h4 := bitK_lt ks (i + 4)
  have h5 := bitK_lt ks (i + 5)
  have h6 := bitK_lt ks (i + 6)
  have h7 := bitK_lt ks (i + 7)
  unfold byK
  omega
def outs (ks : List Nat) (n : Nat) : List UInt8 := (List.range n).map fun j => UInt8.ofNat (byK ks (8 * j))
theorem outs_succ (ks : List Nat) (n : Nat) : outs ks (n + 1) = outs ks n ++ [UInt8.ofNat (byK ks (8 * n))] := by simp [outs, List.range_succ]
theorem outs_len (ks : List Nat) (n : Nat) : (outs ks n).length = n := by simp [outs]
theorem outs_get (ks : List Nat) {n j : Nat} (h : j < n) : (outs ks n)[j]? = some (UInt8.ofNat (byK ks (8 * j))) := by
  unfold outs
  rw [List.getElem?_map, List.getElem?_range h]
  rfl
theorem numK_take {ks : List Nat} {k i : Nat} (h : ks[i]? = some k) : numK (ks.take (i + 1)) = numK (ks.take i) * 32 + k := by
  rw [List.take_add_one, h]
  exact numK_snoc _ _
theorem bitK_num (ks : List Nat) (h32 : ∀ k ∈ ks, k < 32) : ∀ (n i : Nat), i < 5 * n → n ≤ ks.length → bitK ks i = numK (ks.take n) / 2 ^ (5 * n - 1 - i) % 2 := by
  intro n
  induction n with
  | zero => intro i hi; omega
  | succ n ih =>
    intro i hi hk
    have hlt : n < ks.length := by omega
    have hb : ks[n]? = some ks[n] := List.getElem?_eq_getElem hlt
    rw [numK_take hb]
    have hb2 := h32 ks[n] (List.getElem_mem hlt)
    by_cases h : i < 5 * n
    · rw [ih i h (by omega)]
      have e : 5 * (n + 1) - 1 - i = 5 + (5 * n - 1 - i) := by omega
      rw [e, Nat.pow_add, ← Nat.div_div_eq_div_mul]
      have : (numK (ks.take n) * 32 + ks[n]) / 2 ^ 5 = numK (ks.take n) := by simp only [Nat.reducePow]; omega
      rw [this]
    · have hd : i / 5 = n := by omega
      have hm : i % 5 = i - 5 * n := by omega
      unfold bitK
      rw [hd, hb]
      simp only
      rw [hm]
      obtain ⟨s, hs, e1, e2⟩ : ∃ s, s < 5 ∧ 4 - (i - 5 * n) = s ∧ 5 * (n + 1) - 1 - i = s := ⟨_, by omega, rfl, by omega⟩
      rw [e1, e2]
      have : s = 0 ∨ s = 1 ∨ s = 2 ∨ s = 3 ∨ s = 4 := by omega
      rcases this with rfl | rfl | rfl | rfl | rfl <;> simp only [Nat.reducePow] <;> omega
theorem byK_num (ks : List Nat) (h32 : ∀ k ∈ ks, k < 32) (n i : Nat) (hi : i + 8 ≤ 5 * n) (hn : n ≤ ks.length) : byK ks i = numK (ks.take n) / 2 ^ (5 * n - 8 - i) % 256 := by
  unfold byK
  rw [bitK_num ks h32 n i (by omega) hn, bitK_num ks h32 n (i + 1) (by omega) hn, bitK_num ks h32 n (i + 2) (by omega) hn, bitK_num ks h32 n (i + 3) (by omega) hn,
    bitK_num ks h32 n (i + 4) (by omega) hn, bitK_num ks h32 n (i + 5) (by omega) hn, bitK_num ks h32 n (i + 6) (by omega) hn, bitK_num ks h32 n (i + 7) (by omega) hn]
  obtain ⟨s, hs⟩ : ∃ s, 5 * n - 8 - i = s := ⟨_, rfl⟩
  rw [hs, show 5 * n - 1 - i = s + 7 by omega, show 5 * n - 1 - (i + 1) = s + 6 by omega, show 5 * n - 1 - (i + 2) = s + 5 by omega, show 5 * n - 1 - (i + 3) = s + 4 by omega,
    show 5 * n - 1 - (i + 4) = s + 3 by omega, show 5 * n - 1 - (i + 5) = s + 2 by omega, show 5 * n - 1 - (i + 6) = s + 1 by omega, show 5 * n - 1 - (i + 7) = s by omega]
  generalize numK (ks.take n) = v
  simp only [Nat.pow_add, ← Nat.div_div_eq_div_mul]
  generalize v / 2 ^ s = y
  omega
end Go.Proofs.Ytfkecgpcamhgkaa
