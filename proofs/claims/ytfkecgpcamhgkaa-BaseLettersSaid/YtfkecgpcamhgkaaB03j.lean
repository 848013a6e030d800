import Derived.Test.YtfkecgpcamhgkaaB03i
set_option linter.unusedVariables false
namespace Go.Proofs.Ytfkecgpcamhgkaa
open Go.Proofs.Ytfkecgpcamhgkaa.Sh Go.RowKit
def vlZ (c : UInt8) : Int := match vl c with | some k => (k : Int) | none => -1
theorem ext25_all : ∀ c : Fin 256, (pvD P (.int .i64) (ext25 #[.string LT, .int .u8 ((c.1 : Nat) : Int)]) : Option Int) = some (vlZ (UInt8.ofNat c.1)) := by decide +kernel
theorem e19 (n : Nat) (c : UInt8) (h : Heap) : eF P tab (n + 2) 19 [.string LT, .int .u8 (c.toNat : Int)] h = some (.int .i64 (vlZ c), h) := by
  rw [eF_body rfl rfl, f19_eq]
  have h1 := ext25_all ⟨c.toNat, by have := c.toNat_lt; omega⟩
  simp only [UInt8.ofNat_toNat] at h1
  have h2 : eF P tab (n + 1) 23 [.string LT, .int .u8 (c.toNat : Int)] h = some (.int .i64 (vlZ c), h) := by
    rw [eF_body rfl rfl, f23_eq, h1]
    rfl
  rw [callD_some (τ := .one (.flat (.int .i64))) (x := vlZ c) _ h2 rfl]
  rfl
theorem c19 (n : Nat) (c : UInt8) (h : Heap) : callD (eF P tab (n + 2)) (.one (.flat (.int .i64))) 19 [.string LT, .int .u8 (c.toNat : Int)] h = some (vlZ c, h) := callD_some _ (e19 n c h) rfl
theorem value_loop (n : Nat) (c : UInt8) (h : Heap) : ∀ (m i : Nat), i ≤ 32 → 32 < i + m → (∀ j b, j < i → letters[j]? = some b → b ≠ c) → L21_0 n m (c.toNat : Int) (i : Int) h = some (.int .i64 (vlZ c), h) := by
  intro m
  induction m with
  | zero => intro i h1 h2; omega
  | succ m ih =>
    intro i h1 h2 h3
    rw [L21_0_eq]
    by_cases hi : i < 32
    · rw [decide_eq_true (by omega), cond_true]
      have hlen : letters.length = 32 := rfl
      obtain ⟨d, hb⟩ : ∃ d, letters[i]? = some d := ⟨_, List.getElem?_eq_getElem (by omega)⟩
      rw [show (⟨#[48, 49, 50, 51, 52, 53, 54, 55, 56, 57, 97, 98, 99, 100, 102, 103, 104, 105, 106, 107, 108, 109, 110, 112, 113, 114, 115, 118, 119, 120, 121, 122]⟩ : ByteArray) = ⟨letters.toArray⟩ from rfl, ixS_of hb, Option.bind_some]
      by_cases hc : d = c
      · rw [show (((d.toNat : Nat) : Int) == (c.toNat : Int)) = true by rw [beq_iff_eq, hc], cond_true]
        have : vl c = some i := by
          unfold vl
          rw [List.findIdx?_eq_some_iff_getElem]
          have hlt := (List.getElem?_eq_some_iff.1 hb).1
          refine ⟨hlt, ?_, fun j hj => ?_⟩
          · have := (List.getElem?_eq_some_iff.1 hb).2
            rw [this, hc]
            simp
          · have := h3 j _ hj (List.getElem?_eq_getElem (by omega))
            simpa using this
        unfold vlZ
        rw [this]
      · have hne : ((d.toNat : Nat) : Int) ≠ (c.toNat : Int) := fun e => hc (UInt8.toNat.inj (by omega))
        rw [show (((d.toNat : Nat) : Int) == (c.toNat : Int)) = false by rw [beq_eq_false_iff_ne]; exact hne, cond_false]
        have e1 : IntKind.wrap .i64 ((i : Int) + 1) = ((i + 1 : Nat) : Int) := by rw [IntWalk.i64_in _ (by omega)]; rfl
        rw [e1]
        refine ih (i + 1) (by omega) (by omega) fun j b hj hjb => ?_
        by_cases hji : j = i
        · subst hji
          rw [hb] at hjb
          injection hjb with hjb
          rw [← hjb]; exact hc
        · exact h3 j b (by omega) hjb
    · rw [decide_eq_false (by omega), cond_false]
      have : vl c = none := by
        unfold vl
        rw [List.findIdx?_eq_none_iff]
        intro b hb
        obtain ⟨j, hj, he⟩ := List.getElem_of_mem hb
        have hlen : letters.length = 32 := rfl
        have := h3 j b (by omega) (by rw [List.getElem?_eq_getElem hj, he])
        simpa using this
      unfold vlZ
      rw [this]
theorem c21 (n : Nat) (c : UInt8) (h : Heap) : callD (eF P tab (n + 41)) (.one (.flat (.int .i64))) 21 [.int .u8 (c.toNat : Int)] h = some (vlZ c, h) := by
  refine callD_some (.int .i64 (vlZ c)) ?_ rfl
  rw [eF_body rfl rfl, f21_eq]
  exact value_loop _ c h (n + 40) 0 (by omega) (by omega) (fun j b hj => by omega)
end Go.Proofs.Ytfkecgpcamhgkaa
