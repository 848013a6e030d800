import Derived.Test.YthodknboobgfpaaB04d
set_option linter.unusedVariables false
set_option linter.unusedSimpArgs false
namespace Go.Proofs.Ythodknboobgfpaa
open Go.Proofs.Ythodknboobgfpaa.Sh Go.Proofs.Ythodknboobgfpaa.Sh.V Go.RowKit
def bcs (l : List UInt8) : List V := l.map fun b => .int .u8 (b.toNat : Int)
@[simp] theorem bcs_len (l : List UInt8) : (bcs l).length = l.length := by simp [bcs]
theorem bs_flat (l : List UInt8) : (bs l).flatten = bcs l := by
  induction l with
  | nil => rfl
  | cons b l ih => show bc b ++ (bs l).flatten = _; rw [ih]; rfl
theorem chunk_bcs (l : List UInt8) : chunk 1 l.length (bcs l) = bs l := by
  induction l with
  | nil => rfl
  | cons b l ih => show (bcs (b :: l)).take 1 :: chunk 1 l.length ((bcs (b :: l)).drop 1) = _; rw [show (bcs (b :: l)).drop 1 = bcs l from rfl, ih]; rfl
theorem strip_bcs (l : List UInt8) : (bcs l).map strip1 = bcs l := by
  induction l with
  | nil => rfl
  | cons b l ih => show strip1 _ :: (bcs l).map strip1 = _; rw [ih]; rfl
theorem closed_bcs (l : List UInt8) : (bcs l).all closed1 = true := by
  induction l with
  | nil => rfl
  | cons b l ih => show (closed1 _ && (bcs l).all closed1) = _; rw [ih]; rfl
theorem hp_bcs {H : VH} {i : Nat} {l : List UInt8} (h : H[i]? = some (.row 5 (bcs l))) : hpEs H 5 1 i 0 l.length = some (bs l) := by
  unfold hpEs
  rw [h]
  simp only [List.drop_zero, Nat.zero_add, Nat.mul_one, bcs_len, true_and, Nat.le_refl]
  rw [List.take_of_length_le (by simp), closed_bcs, if_pos rfl, strip_bcs, chunk_bcs]
/-- Bytes in an object that may be written. -/
def IsH (H : VH) (s : VS) (l : List UInt8) : Prop := (s = .nil ∧ l = []) ∨ ∃ i, s = .hp i 0 l.length ∧ H[i]? = some (.row 5 (bcs l))
/-- Bytes that can be read, as long as nothing is written. -/
structure Rd (H : VH) (s : VS) (l : List UInt8) : Prop where
  len : s.len = l.length
  isNil : s.isNil = true → l = []
  es : ∀ {H' : VH} {X : List Nat}, Kp H H' X → (∀ x ∈ X, H.length ≤ x) → slEs H' 5 1 s = some (bs l)
theorem Rd.ofB (H : VH) {s : VS} {l : List UInt8} (h : IsB s l) : Rd H s l :=
  ⟨by rw [h.len, bs_len], fun hn => (by have := (h.isNil hn).2; cases l with | nil => rfl | cons => cases this), fun _ _ => h.es _ _ _⟩
theorem Rd.ofH {H : VH} {s : VS} {l : List UInt8} (h : IsH H s l) : Rd H s l := by
  rcases h with ⟨rfl, rfl⟩ | ⟨i, rfl, hi⟩
  · exact ⟨rfl, fun _ => rfl, fun _ _ => rfl⟩
  · refine ⟨rfl, fun h => (by cases h), fun k hx => ?_⟩
    have := lt_of_ob hi
    exact hp_bcs (k.ob hi (fun h => by have := hx _ h; omega))
theorem IsH.keep {H H' : VH} {X : List Nat} {s : VS} {l : List UInt8} (h : IsH H s l) (k : Kp H H' X) (hx : ∀ i, s = .hp i 0 l.length → i ∉ X) : IsH H' s l := by
  rcases h with ⟨rfl, rfl⟩ | ⟨i, rfl, hi⟩
  · exact .inl ⟨rfl, rfl⟩
  · exact .inr ⟨i, rfl, k.ob hi (hx i rfl)⟩
theorem e38 (n : Nat) {H : VH} {s : VS} {l : List UInt8} (h : Rd H s l) (hl : l.length < 1000000) :
    ∃ s' H', vF P tab (n + 1) 38 [.sl 5 s] H = some (.sl 5 s', H') ∧ IsH H' s' l ∧ (∀ i, s' = .hp i 0 l.length → H.length ≤ i) ∧ Kp H H' [] := by
  rw [vF_body rfl, f38_eq]
  cases hn : s.isNil with
  | true =>
    have := h.isNil hn; subst this
    exact ⟨.nil, H, rfl, .inl ⟨rfl, rfl⟩, fun i hi => (by cases hi), Kp.refl _ _⟩
  | false =>
    rw [cond_false]
    have k1 : Kp H (H ++ [.row 5 []]) [] := Kp.app _ _
    unfold V.appD
    rw [holdV_eq, show VS.len (.hp H.length 0 0) = 0 from rfl, h.len, if_pos (by simp only [bound]; omega), h.es k1 (fun _ h => by cases h), Option.bind_some, cond_false]
    unfold appH
    rw [bs_len]
    by_cases h0 : l.length = 0
    · have : l = [] := List.eq_nil_of_length_eq_zero h0
      subst this
      rw [List.length_nil, if_pos (Eq.refl 0)]
      exact ⟨_, _, rfl, .inr ⟨H.length, rfl, by simp [bcs]⟩, fun i hi => by cases hi; exact Nat.le_refl _, k1⟩
    · rw [if_neg h0]
      have : (H ++ [VO.row 5 []])[H.length]? = some (.row 5 []) := by simp
      simp only [this]
      rw [if_pos (by simp)]
      simp only [List.drop_nil, List.nil_append, Nat.zero_add, bs_flat, List.length_append, List.length_cons, List.length_nil]
      refine ⟨_, _, rfl, .inr ⟨H.length + 1, rfl, ?_⟩, fun i hi => by cases hi; omega, ?_⟩
      · rw [List.getElem?_append_right (by simp)]; simp
      · exact (k1.trans ((Kp.set _ H.length .dead).trans (Kp.app _ _) (fun x hx _ => hx) (fun y hy _ => by cases hy)) (fun x hx _ => hx) (fun y hy hl => by rw [List.mem_singleton] at hy; omega))
theorem cells5 : P.cellsOf 5 = 1 := by kernel_rfl
/-- A call whose result stays from now on. -/
theorem callD_frz {call : FuncId → List V → VH → VRes} {f : FuncId} {args : List V} {H H' : VH} {s : VS} {l : List UInt8} (hc : call f args H = some (.sl 5 s, H')) (h : IsH H' s l) :
    ∃ s' H'', callD call P true (.one (.flat (.slice 5))) f args H = some (s', H'') ∧ IsB s' l ∧ (∃ X, Kp H' H'' X ∧ ∀ x ∈ X, s = .hp x 0 l.length) := by
  unfold V.callD
  rw [hc, Option.bind_some]
  rcases h with ⟨rfl, rfl⟩ | ⟨i, rfl, hi⟩
  · refine ⟨.nil, H', ?_, .nil, [], Kp.refl _ _, fun x hx => (by cases hx)⟩
    show ((V.fdec (.slice 5) (.sl 5 .nil)).map fun x => (x, H')) = _
    rw [fd_sl]; rfl
  · refine ⟨.fz (bs l) .no, H'.set i .dead, ?_, .fz _ _, [i], Kp.set _ _ _, fun x hx => by rw [List.mem_singleton] at hx; rw [hx]⟩
    have : V.freeze P true (.sl 5 (.hp i 0 l.length)) H' = some (.sl 5 (.fz (bs l) .no), H'.set i .dead) := by
      show ((hpEs H' 5 (P.cellsOf 5) i 0 l.length).map fun es => (V.sl 5 (.fz es .no), H'.set i .dead)) = _
      rw [cells5, hp_bcs hi]; rfl
    rw [this, Option.bind_some]
    show ((V.fdec (.slice 5) (.sl 5 (.fz (bs l) .no))).map fun x => (x, H'.set i .dead)) = _
    rw [fd_sl]; rfl
theorem e14 (n : Nat) {H : VH} {s : VS} {l : List UInt8} (h : Rd H s l) (hl : l.length < 1000000) :
    ∃ k H', vF P tab (n + 2) 14 [.sl 5 s] H = some (.ptr (.ob k 0), H') ∧ RS RT H' k l false ∧ H.length ≤ k ∧ Kp H H' [] ∧ H'.length = k + 1 := by
  obtain ⟨s', H1, g1, g2, g3, g4⟩ := e38 n h hl
  obtain ⟨s2, H2, g5, g6, X, g7, g8⟩ := callD_frz g1 g2
  rw [vF_body rfl, f14_eq, g5, Option.bind_some]
  have k2 : Kp H H2 [] := g4.trans g7 (fun x hx _ => hx) (fun y hy hl => by have := g3 y (g8 y hy); omega)
  have hlen := k2.len
  refine ⟨H2.length, _, rfl, ⟨s2, by simp, g6⟩, hlen, k2.trans (Kp.app _ _) (fun x hx _ => hx) (fun y hy _ => hy), by simp⟩
end Go.Proofs.Ythodknboobgfpaa
