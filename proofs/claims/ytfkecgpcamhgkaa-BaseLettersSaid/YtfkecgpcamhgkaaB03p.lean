import Derived.Test.YtfkecgpcamhgkaaB03o
set_option linter.unusedVariables false
namespace Go.Proofs.Ytfkecgpcamhgkaa
open Go.Proofs.Ytfkecgpcamhgkaa.Sh Go.RowKit
/-! ### BaseReads, BaseLetters -/
theorem c15 (n : Nat) (h : Heap) {s : List UInt8} (hl : s.length < 400) : ∃ h' o, Kp h h' [] ∧ (∀ x ∈ ids o, h.length ≤ x) ∧ slCells h' 1 o = some (bcs ((readB s).getD [])) ∧ (readB s = none → o = ⟨none, 0, 0⟩) ∧
    callD (eF P tab (n + 2001)) (.tup [(.flat .slice), (.flat (.int .i64))]) 15 [.string ⟨s.toArray⟩] h = some ((o, (match readB s with | some _ => 0 | none => 2), ()), h') := by
  obtain ⟨h', o, h1, h2, h3, h4, h5⟩ := e15 n h hl
  exact ⟨h', o, h1, h2, h3, h4, callD_some _ h5 rfl⟩
theorem readB_len {s l : List UInt8} (h : readB s = some l) : l.length = 5 * s.length / 8 ∧ text l = s := by
  unfold readB at h
  cases hv : vals s with
  | none => rw [hv] at h; cases h
  | some ks =>
    rw [hv, Option.bind_some] at h
    split at h
    · rename_i he
      injection h with h
      subst h
      exact ⟨outs_len _ _, he⟩
    · cases h
set_option maxRecDepth 100000 in
theorem reads_ok (s : List UInt8) (h : Heap) : ∃ h', eF P tab 3002 4 [.string ⟨s.toArray⟩] h = some (.bool true, h') := by
  rw [eF_body rfl rfl, f4_eq, two' 2001, Option.bind_some]
  simp only [Bool.not_true, cond_false]
  rw [two' 2001]
  have hsz : ((⟨s.toArray⟩ : ByteArray).size : Int) = (s.length : Int) := by simp [ByteArray.size]
  rw [hsz]
  simp only [Option.bind_some]
  by_cases h1 : s.length > 200
  · rw [decide_eq_true (by omega), cond_true]
    exact ⟨_, rfl⟩
  rw [decide_eq_false (by omega), cond_false]
  obtain ⟨k1, o1, kp1, i1, c1, z1, g1⟩ := c11 2000 h (s := s) (by omega)
  rw [g1, Option.bind_some]
  simp only
  obtain ⟨k2, o2, kp2, i2, c2, z2, g2⟩ := c15 1000 k1 (s := s) (by omega)
  rw [g2, Option.bind_some]
  simp only [BEq.rfl, cond_true]
  have c1' := kp2.cells c1 (fun x _ e => by cases e)
  have hlen : ((readB s).getD []).length < 300 := by
    cases hr : readB s with
    | none => simp
    | some l => have := (readB_len hr).1; simp only [Option.getD_some]; omega
  rw [c14 3000 c1' c2 (by omega) (by omega), Option.bind_some]
  simp only [decide_true, cond_true]
  cases hr : readB s with
  | none => exact ⟨_, rfl⟩
  | some l =>
    obtain ⟨hl, ht⟩ := readB_len hr
    rw [hr, Option.getD_some] at c1'
    rw [show ((0 : Int) != 0) = false from rfl, cond_false]
    obtain ⟨k3, g3, kp3⟩ := c10 2001 c1' (by omega)
    rw [g3, Option.bind_some]
    simp only
    rw [ht, strEq_iff, decide_eq_true rfl]
    exact ⟨_, rfl⟩
theorem reads_walk (a0 : ByteArray) (w : World) (w0 : a0.size ≤ 140737488351232) : Calls Try.prog 4 #[.string a0] w fun e w' => e = .returned (.bool true) ∧ Below w.heap.size w w' := by
  obtain ⟨h', hq⟩ := reads_ok a0.data.toList []
  rw [show (⟨a0.data.toList.toArray⟩ : ByteArray) = a0 by simp] at hq
  exact walk_of tabOK (args' := [.string a0]) (Sim.start w) (.cons (.string _) .nil) hq
/-! .. each letter -/
theorem known_loop (n : Nat) (c : UInt8) (e : Int) (h : Heap) (he : ((e == 0) = true) ↔ (vl c).isSome = true) : ∀ (m i : Nat) (b : Bool), i ≤ 32 → 32 < i + m → (b = true ↔ ∃ j, j < i ∧ letters[j]? = some c) →
    L5_0 n m (c.toNat : Int) e b (i : Int) h = some (.bool true, h) := by
  intro m
  induction m with
  | zero => intros; omega
  | succ m ih =>
    intro i b h1 h2 hb
    rw [L5_0_eq]
    have e4 : i < 32 → IntKind.wrap .i64 ((i : Int) + 1) = ((i + 1 : Nat) : Int) := fun h => by rw [IntWalk.i64_in _ (by omega)]; rfl
    by_cases hi : i < 32
    · rw [decide_eq_true (by omega), cond_true, e4 hi]
      cases b with
      | true =>
        rw [cond_true]
        refine ih (i + 1) true (by omega) (by omega) ⟨fun _ => ?_, fun _ => rfl⟩
        obtain ⟨j, h3, h4⟩ := hb.1 rfl
        exact ⟨j, by omega, h4⟩
      | false =>
        rw [cond_false]
        obtain ⟨x, hx⟩ : ∃ x, letters[i]? = some x := ⟨_, List.getElem?_eq_getElem (show i < letters.length from hi)⟩
        have := ixS_of (l := letters) hx
        rw [show (⟨letters.toArray⟩ : ByteArray) = ⟨#[48, 49, 50, 51, 52, 53, 54, 55, 56, 57, 97, 98, 99, 100, 102, 103, 104, 105, 106, 107, 108, 109, 110, 112, 113, 114, 115, 118, 119, 120, 121, 122]⟩ from rfl] at this
        rw [this, Option.bind_some]
        refine ih (i + 1) _ (by omega) (by omega) ⟨fun h3 => ⟨i, by omega, ?_⟩, fun ⟨j, h3, h4⟩ => ?_⟩
        · rw [beq_iff_eq] at h3
          rw [hx]; congr 1; exact UInt8.toNat_inj.1 (by omega)
        · rcases Nat.lt_or_ge j i with h5 | h5
          · exact absurd (hb.2 ⟨j, h5, h4⟩) (by simp)
          · have : j = i := by omega
            subst this
            rw [hx] at h4
            injection h4 with h4
            rw [h4]; simp
    · rw [decide_eq_false (by omega), cond_false]
      have h32 : i = 32 := by omega
      subst h32
      have hk : b = true ↔ (vl c).isSome = true := by
        rw [hb]
        constructor
        · rintro ⟨j, hj, h4⟩
          have : lt j = c := by unfold lt; rw [List.getD_eq_getElem?_getD, h4]; rfl
          rw [← this, vl_of hj]; rfl
        · intro h3
          obtain ⟨k, hk⟩ := Option.isSome_iff_exists.1 h3
          obtain ⟨h4, h5⟩ := vl_lt hk
          refine ⟨k, h4, ?_⟩
          have hlt : k < letters.length := h4
          rw [List.getElem?_eq_getElem hlt]
          congr 1
          unfold lt at h5
          rw [List.getD_eq_getElem?_getD, List.getElem?_eq_getElem hlt] at h5
          exact h5
      have : (b == (e == 0)) = true := by
        cases b <;> cases hz : (e == 0) <;> simp_all
      rw [this]
end Go.Proofs.Ytfkecgpcamhgkaa
