import Derived.Test.YtmpobijkbmljdaaB05bc
set_option maxRecDepth 100000
set_option linter.unusedVariables false
set_option linter.unusedSimpArgs false
namespace Go.Proofs.Ytmpobijkbmljdaa
open Go.Proofs.Ytmpobijkbmljdaa.Sh Go.Proofs.Ytmpobijkbmljdaa.Sh.V Go.RowKit
/-! ### The document's At -/
def ResN (D : Nat) (o : Option Nd) (cs : List V) (b : Bool) : Prop :=
  match o with
  | some y => b = true ∧ NC D y cs
  | none => b = false ∧ cs = cellsN 0 .nil .nil .nil false 0 []
theorem ext_l (l : List UInt8) (a b : Nat) : (⟨l.toArray⟩ : ByteArray).extract a b = ⟨((l.take b).drop a).toArray⟩ := by
  apply ByteArray.ext
  rw [ByteArray.data_extract]
  simp [List.extract_toArray, List.drop_take]
theorem cutS_to (l : List UInt8) (i : Nat) (hi : i ≤ l.length) : cutS ⟨l.toArray⟩ none (some (i : Int)) = some ⟨(l.take i).toArray⟩ := by
  have hz : (⟨l.toArray⟩ : ByteArray).size = l.length := by simp [ByteArray.size]
  have h1 : bd l.length (some (i : Int)) l.length = some i := by
    show inB _ _ = _
    unfold inB
    rw [if_pos ⟨by omega, by omega⟩]
    simp
  unfold cutS
  rw [hz, h1, Option.bind_some]
  show some ((⟨l.toArray⟩ : ByteArray).extract 0 i) = _
  rw [ext_l, List.drop_zero]
theorem cutS_from (l : List UInt8) (i : Nat) (hi : i ≤ l.length) : cutS ⟨l.toArray⟩ (some (i : Int)) none = some ⟨(l.drop i).toArray⟩ := by
  have hz : (⟨l.toArray⟩ : ByteArray).size = l.length := by simp [ByteArray.size]
  have h1 : bd 0 (some (i : Int)) l.length = some i := by
    show inB _ _ = _
    unfold inB
    rw [if_pos ⟨by omega, by omega⟩]
    simp
  unfold cutS
  rw [hz]
  show ((bd 0 (some (i : Int)) l.length).bind fun a => some ((⟨l.toArray⟩ : ByteArray).extract a l.length)) = _
  rw [h1, Option.bind_some, ext_l, List.take_length]
/-- What cutP1 is. -/
theorem cutP1_is : ∀ l : List UInt8, (∀ (k : Nat) b, k < (cutP1 l).1.length → l[k]? = some b → b ≠ 47) ∧ (cutP1 l).1 = l.take (cutP1 l).1.length ∧ (cutP1 l).1.length ≤ l.length ∧ ((cutP1 l).2.2 = true → l[(cutP1 l).1.length]? = some 47 ∧ (cutP1 l).2.1 = l.drop ((cutP1 l).1.length + 1)) ∧ ((cutP1 l).2.2 = false → (cutP1 l).1.length = l.length ∧ (cutP1 l).2.1 = [])
  | [] => ⟨fun k b h _ => (by simp [cutP1] at h), rfl, Nat.le_refl _, fun h => (by cases h), fun _ => ⟨rfl, rfl⟩⟩
  | b :: l => by
    obtain ⟨h1, h2, h3, h4, h5⟩ := cutP1_is l
    by_cases hb : b = 47
    · have e : cutP1 (b :: l) = ([], l, true) := by rw [cutP1, if_pos hb]
      rw [e]
      exact ⟨fun k b' h _ => (by simp at h), rfl, by simp, fun _ => ⟨by simp [hb], rfl⟩, fun h => (by cases h)⟩
    · have e : cutP1 (b :: l) = (b :: (cutP1 l).1, (cutP1 l).2) := by rw [cutP1, if_neg hb]
      rw [e]
      refine ⟨fun k b' h hk => ?_, ?_, ?_, fun h => ?_, fun h => ?_⟩
      · cases k with
        | zero => simp only [List.getElem?_cons_zero, Option.some.injEq] at hk; subst hk; exact hb
        | succ k => exact h1 k b' (by simpa using h) (by simpa using hk)
      · simp only [List.length_cons, List.take_succ_cons]
        rw [← h2]
      · simp only [List.length_cons]; omega
      · obtain ⟨a1, a2⟩ := h4 h
        exact ⟨by simp only [List.length_cons, List.getElem?_cons_succ]; exact a1, by simp only [List.length_cons, List.drop_succ_cons]; exact a2⟩
      · obtain ⟨a1, a2⟩ := h5 h
        exact ⟨by simp only [List.length_cons]; omega, a2⟩
theorem finT {H : VH} {i : Nat} {cs0 : List V} (h0 : H[i]? = some (.row NT cs0)) (hl : cs0.length = 7) (k : Nat) (s1 s2 s3 : VS) (run : Bool) (st : Nat) (tg : List UInt8) (b : Bool) : ∃ H', ((stV H (.ob i 0) [.int .u8 (k : Int), .sl 9 s1, .sl 27 s2, .sl 5 s3, .bool run, .flt .f64 st, .str ⟨tg.toArray⟩]).bind fun h9 => (((ldV AGN h9 (.ob i 0)).bind fun x10 => some (V.tup [.agg [.int .u8 x10.1, .sl 9 x10.2.1, .sl 27 x10.2.2.1, .sl 5 x10.2.2.2.1, .bool x10.2.2.2.2.1, .flt .f64 x10.2.2.2.2.2.1, .str x10.2.2.2.2.2.2.1], .bool b], h9)))) = some (.tup [.agg (cellsN k s1 s2 s3 run st tg), .bool b], H') := by
  rw [st_row h0 (by simp [hl]) rfl, Option.bind_some]
  have h2 : (H.set i (.row NT (putAllV cs0 0 [.int .u8 (k : Int), .sl 9 s1, .sl 27 s2, .sl 5 s3, .bool run, .flt .f64 st, .str ⟨tg.toArray⟩])))[i]? = some (.row NT (cellsN k s1 s2 s3 run st tg)) := by
    rw [List.getElem?_set_self (lt_of_ob h0)]
    match cs0, hl with
    | [c1, c2, c3, c4, c5, c6, c7], _ => rfl
  rw [na h2, Option.bind_some]
  exact ⟨_, rfl⟩
end Go.Proofs.Ytmpobijkbmljdaa
