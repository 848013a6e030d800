import Derived.Test.YthodknboobgfpaaB04g
set_option linter.unusedVariables false
set_option linter.unusedSimpArgs false
namespace Go.Proofs.Ythodknboobgfpaa
open Go.Proofs.Ythodknboobgfpaa.Sh Go.Proofs.Ythodknboobgfpaa.Sh.V Go.RowKit
theorem textsL_len : ∀ (n : Nat) (l : List UInt8) (f : Bool) (acc : List (List UInt8)), (textsL n l f acc).1.length ≤ acc.length + n := by
  intro n
  induction n with
  | zero => intro l f acc; unfold textsL; split <;> simp
  | succ n ih =>
    intro l f acc
    unfold textsL
    split
    · simp
    · split
      · simp
      · refine Nat.le_trans (ih _ _ _) ?_
        simp only [List.length_append, List.length_cons, List.length_nil]; omega
theorem textsS_len (most : Nat) (l : List UInt8) (f : Bool) : (textsS most l f).1.length < 256 := by
  have := numA1 (takeS_len 1 l f)
  unfold textsS
  split
  · have := textsL_len (numA 0 (takeS 1 l f).1) [] true []
    simp only [List.length_nil] at this; omega
  · have := textsL_len (numA 0 (takeS 1 l f).1) (takeS 1 l f).2.1 (takeS 1 l f).2.2 []
    simp only [List.length_nil] at this; omega
theorem rdP {s : VS} {l : List UInt8} (h : IsB s l) {i : Nat} {b : UInt8} (hb : l[i]? = some b) {H : VH} {β : Type} (f : VP → Int → Option β) : ((ixV 1 s (i : Int)).bind fun p => (ldV (.flat (.int .u8)) H p).bind (f p)) = f (.fz (bc b)) (b.toNat : Int) := by
  rw [h.ix (y := bc b) (by simp [bs, hb]) 1, Option.bind_some]
  rfl
theorem stays_fz (H : VH) (c1 c2 : List V) (t1 t2 : List V.FT) (v1 v2 : List V) : V.stays H (heldOf (.fz c1) t1 v1 ++ (heldOf (.fz c2) t2 v2 ++ [])) = true := by
  unfold heldOf
  exact stays_nil H
theorem l4 (n : Nat) (hn : 300 ≤ n) {s1 : VS} {l1 : List UInt8} (hs : IsB s1 l1) (hl1 : l1.length ≤ 40) {kr ki : Nat} (hne : kr ≠ ki) : ∀ (m i : Nat) {H : VH} {l : List UInt8} {f : Bool}, RS RT H kr l f → RS IT H ki l f → (f = true → l = []) → i ≤ l1.length → l1.length < i + m →
    ∃ H', L4_0 (n + 60) m s1 (.ob kr 0) ki (i : Int) H = some (.bool true, H') := by
  intro m
  induction m with
  | zero => intros; omega
  | succ m ih =>
    intro i H l f hr hi hf h1 h2
    rw [L4_0_eq, hs.len, bs_len]
    by_cases hii : i < l1.length
    · rw [decide_eq_true (by omega), cond_true]
      obtain ⟨b, hb⟩ : ∃ b, l1[i]? = some b := ⟨_, List.getElem?_eq_getElem hii⟩
      have hb2 := b.toNat_lt
      have e3 : IntKind.wrap .i64 ((i : Int) + 1) = ((i + 1 : Nat) : Int) := by rw [i64_in (by omega)]; rfl
      rw [hs.rd hb, show (5 : Int) = ((5 : Nat) : Int) from rfl, remI_nat (by decide), Option.bind_some]
      have next : ∀ {H2 : VH} {l2 : List UInt8} {f2 : Bool}, RS RT H2 kr l2 f2 → RS IT H2 ki l2 f2 → (f2 = true → l2 = []) → ∃ H', L4_0 (n + 60) m s1 (.ob kr 0) ki (IntKind.wrap .i64 ((i : Int) + 1)) H2 = some (.bool true, H') := by
        intro H2 l2 f2 a b c
        rw [e3]
        exact ih (i + 1) a b c (by omega) (by omega)
      by_cases c0 : b.toNat % 5 = 0
      · rw [show (((b.toNat % 5 : Nat) : Int) == 0) = true by rw [c0]; rfl, cond_true]
        obtain ⟨H1, g1, g2, g3, g4⟩ := e15 (n + 56) hr (by omega)
        obtain ⟨H2, g5, g6, g7, g8⟩ := e17 (n + 58) (hi.keep g3 (by simpa using fun h => hne h.symm)) hf (c := 1) (by omega) (by omega)
        rw [show ((1 : Nat) : Int) = 1 from rfl] at g5
        rw [callD_int g1, Option.bind_some]
        simp only
        rw [callD_int g5, Option.bind_some]
        simp only
        rw [wrap_u8_nat (numA1 (takeS_len 1 l f))]
        simp only [BEq.rfl, Bool.not_true, cond_false]
        rw [tail4 n m s1 (i : Int) (g2.keep g7 (by simpa using hne)) g6 (takeS_inv 1 hf)]
        exact next (g2.keep g7 (by simpa using hne)) g6 (takeS_inv 1 hf)
      rw [show (((b.toNat % 5 : Nat) : Int) == 0) = false by rw [beq_eq_false_iff_ne]; omega, cond_false]
      by_cases c1 : b.toNat % 5 = 1
      · rw [show (((b.toNat % 5 : Nat) : Int) == 1) = true by rw [c1]; rfl, cond_true]
        obtain ⟨H1, g1, g2, g3, g4⟩ := e18 (n + 56) hr (by omega)
        obtain ⟨H2, g5, g6, g7, g8⟩ := e17 (n + 58) (hi.keep g3 (by simpa using fun h => hne h.symm)) hf (c := 2) (by omega) (by omega)
        rw [show ((2 : Nat) : Int) = 2 from rfl] at g5
        have := numA2 (takeS_len 2 l f)
        rw [callD_int g1, Option.bind_some]
        simp only
        rw [callD_int g5, Option.bind_some]
        simp only
        rw [i64_nat (by omega)]
        simp only [BEq.rfl, Bool.not_true, cond_false]
        rw [tail4 n m s1 (i : Int) (g2.keep g7 (by simpa using hne)) g6 (takeS_inv 2 hf)]
        exact next (g2.keep g7 (by simpa using hne)) g6 (takeS_inv 2 hf)
      rw [show (((b.toNat % 5 : Nat) : Int) == 1) = false by rw [beq_eq_false_iff_ne]; omega, cond_false]
      by_cases c2 : b.toNat % 5 = 2
      · rw [show (((b.toNat % 5 : Nat) : Int) == 2) = true by rw [c2]; rfl, cond_true]
        obtain ⟨H1, g1, g2, g3, g4⟩ := e19 (n + 56) hr (by omega)
        obtain ⟨H2, g5, g6, g7, g8⟩ := e17 (n + 58) (hi.keep g3 (by simpa using fun h => hne h.symm)) hf (c := 8) (by omega) (by omega)
        rw [show ((8 : Nat) : Int) = 8 from rfl] at g5
        rw [callD_int g1, Option.bind_some]
        simp only
        rw [callD_int g5, Option.bind_some]
        simp only [BEq.rfl, Bool.not_true, cond_false]
        rw [tail4 n m s1 (i : Int) (g2.keep g7 (by simpa using hne)) g6 (takeS_inv 8 hf)]
        exact next (g2.keep g7 (by simpa using hne)) g6 (takeS_inv 8 hf)
      rw [show (((b.toNat % 5 : Nat) : Int) == 2) = false by rw [beq_eq_false_iff_ne]; omega, cond_false]
      by_cases c3 : b.toNat % 5 = 3
      · rw [show (((b.toNat % 5 : Nat) : Int) == 3) = true by rw [c3]; rfl, cond_true]
        obtain ⟨H1, g1, g2, g3, g4⟩ := e20 (n + 55) hr (by omega)
        obtain ⟨H2, g5, g6, g7, g8⟩ := e21 (n + 57) (hi.keep g3 (by simpa using fun h => hne h.symm)) hf (by omega)
        rw [callD_str g1, Option.bind_some]
        simp only
        rw [callD_str g5, Option.bind_some]
        simp only
        rw [strEq_iff]
        simp only [decide_true, Bool.not_true, cond_false]
        rw [tail4 n m s1 (i : Int) (g2.keep g7 (by simpa using hne)) g6 (textS_inv hf)]
        exact next (g2.keep g7 (by simpa using hne)) g6 (textS_inv hf)
      rw [show (((b.toNat % 5 : Nat) : Int) == 3) = false by rw [beq_eq_false_iff_ne]; omega, cond_false]
      have hq : quoI .u8 (b.toNat : Int) ((5 : Nat) : Int) = some ((b.toNat / 5 : Nat) : Int) := quoI_nat (by decide) (wrap_u8_nat (by omega))
      rw [rdP hs hb, hq, Option.bind_some, rdP hs hb, hq, Option.bind_some, i64_nat (by omega)]
      obtain ⟨t1, H1, g1, g1e, g2, g3⟩ := e23 (n + 54) hr (by omega) (b.toNat / 5)
      obtain ⟨t2, H2, g5, g5e, g6, g6f, g7⟩ := e24 (n + 56) (hi.keep g3 (by simpa using fun h => hne h.symm)) hf (by omega) (b.toNat / 5)
      have hlen := textsS_len (b.toNat / 5) l f
      rw [callD_sl g1, Option.bind_some, stays_fz, cond_true, callD_sl g5, Option.bind_some, stays_fz, cond_true]
      rw [callD_bool (e22 (n + 59) g1e g5e (by omega) (by omega)), Option.bind_some, stays_fz, cond_true, Bool.not_true, cond_false]
      rw [tail4 n m s1 (i : Int) (g2.keep g7 (by simpa using hne)) g6 g6f]
      exact next (g2.keep g7 (by simpa using hne)) g6 g6f
    · rw [decide_eq_false (by omega), cond_false]
      exact ⟨H, rfl⟩
/-- WireReads. -/
theorem wireReads (n : Nat) (hn : 300 ≤ n) {s0 s1 : VS} {l0 l1 : List UInt8} (h0 : IsB s0 l0) (h1 : IsB s1 l1) (H : VH) : ∃ H', vF P tab (n + 61) 4 [.sl 5 s0, .sl 5 s1] H = some (.bool true, H') := by
  rw [vF_body rfl, f4_eq, c9 n H, Option.bind_some]
  simp only [Bool.not_true, cond_false]
  rw [h0.len, h1.len, bs_len, bs_len]
  by_cases c0 : 200 < l0.length
  · rw [decide_eq_true (by omega), cond_true, c9 n H, Option.bind_some]
    exact ⟨H, rfl⟩
  rw [decide_eq_false (by omega), cond_false]
  by_cases c1 : 40 < l1.length
  · rw [decide_eq_true (by omega), cond_true, c9 n H, Option.bind_some]
    exact ⟨H, rfl⟩
  rw [decide_eq_false (by omega), cond_false]
  obtain ⟨k, H1, g1, g2, g3, g4, g5⟩ := e14 (n + 58) (Rd.ofB H h0) (by omega)
  rw [callD_ptr g1, Option.bind_some]
  simp only
  refine l4 n hn h1 (by omega) (by omega) (n + 60) 0 (l := l0) (f := false) (g2.keep (Kp.app _ _) (by simp)) ⟨s0, by simp, h0⟩ (fun h => by cases h) (by omega) (by omega)
end Go.Proofs.Ythodknboobgfpaa
