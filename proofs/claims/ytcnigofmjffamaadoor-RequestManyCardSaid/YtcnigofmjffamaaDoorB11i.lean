import Derived.Test.YtcnigofmjffamaaDoorB11h
set_option maxRecDepth 100000
set_option linter.unusedVariables false
set_option linter.unusedSimpArgs false
namespace Go.Proofs.YtcnigofmjffamaaDoor
open Go.Proofs.YtcnigofmjffamaaDoor.Sh Go.Proofs.YtcnigofmjffamaaDoor.Sh.V Go.RowKit
theorem l56 (n : Nat) {H : VH} {s t : VS} {ls : List Nat} (hs : IsE s (ns ls)) (ht : IsE t (ns ls)) (hl : ls.length < 1000000) : ∀ (m i : Nat), i ≤ ls.length → ls.length < i + m → L56_0 n m s t (i : Int) H = some (.bool true, H) := by
  intro m
  induction m with
  | zero => intro i h1 h2; omega
  | succ m ih =>
    intro i h1 h2
    rw [L56_0_eq, hs.len, ns_len]
    by_cases hi : i < ls.length
    · rw [decide_eq_true (by omega), cond_true]
      obtain ⟨l, hb⟩ : ∃ b, ls[i]? = some b := ⟨_, List.getElem?_eq_getElem hi⟩
      rw [rdN hs hb, rdN ht hb]
      have hne : ((l : Int) != (l : Int)) = false := by simp
      rw [hne, cond_false, inc_nat (by omega)]
      exact ih (i + 1) (by omega) (by omega)
    · rw [decide_eq_false (by omega), cond_false]
theorem e56 (n : Nat) {H : VH} {s t : VS} {ls : List Nat} (hs : IsE s (ns ls)) (ht : IsE t (ns ls)) (hl : ls.length < 1000000) (hn : ls.length < n) : vF P tab (n + 1) 56 [.sl 3 s, .sl 3 t] H = some (.bool true, H) := by
  refine vF_lone (r := .bool true) (H1 := []) rfl (by simp [closed_sl 3 hs, closed_sl 3 ht]) ?_ rfl
  show bodyV P tab (vF P tab n) n 56 [.sl 3 s.strip, .sl 3 t.strip] [] = _
  rw [f56_eq, hs.strip.len, ht.strip.len]
  have hne : (((ns ls).length : Int) != ((ns ls).length : Int)) = false := by simp
  rw [hne, cond_false]
  exact l56 n hs.strip ht.strip hl n 0 (by omega) (by omega)
/-! ### Sizes -/
def POok (o : PO) : Prop := o.arc.length < 65536 ∧ o.refs.length < 512 ∧ o.needs.length < 300
def PRok (r : PR) : Prop := r.body.length < 65536 ∧ r.refs.length < 512 ∧ r.outs.length ≤ 4 ∧ ∀ o ∈ r.outs, POok o
theorem TX_len (s : RdS) : (TX s).1.length < 65536 := by
  have h := numA2 (takeS_len 2 s.1 s.2)
  have h2 := takeS_len (numA 0 (takeS 2 s.1 s.2).1) (takeS 2 s.1 s.2).2.1 (takeS 2 s.1 s.2).2.2
  show (takeS _ _ _).1.length < _
  omega
theorem textsL_le : ∀ (n : Nat) (l : List UInt8) (f : Bool) (acc : List (List UInt8)), (textsL n l f acc).1.length ≤ acc.length + n
  | 0, l, f, acc => by unfold textsL; split <;> simp
  | n + 1, l, f, acc => by
    unfold textsL
    split
    · simp
    · split
      · simp
      · have := textsL_le n (textS l f).2.1 false (acc ++ [(textS l f).1])
        simp at this ⊢; omega
theorem TS_len (m : Nat) (s : RdS) : (TS m s).1.length < 512 := by
  have h := numA1 (takeS_len 1 s.1 s.2)
  show (textsS m s.1 s.2).1.length < 512
  unfold textsS
  split
  · have := textsL_le (numA 0 (takeS 1 s.1 s.2).1) [] true []; simp at this ⊢; omega
  · have := textsL_le (numA 0 (takeS 1 s.1 s.2).1) (takeS 1 s.1 s.2).2.1 (takeS 1 s.1 s.2).2.2 []; simp at this ⊢; omega
theorem outS_ok (i : Nat) (s : RdS) : POok (outS i s).1 := by
  unfold outS
  simp only
  split
  · exact ⟨TX_len _, TS_len _ _, by simp⟩
  · rename_i h
    exact ⟨TX_len _, TS_len _ _, by simp only [needsS_len]; simp; omega⟩
theorem outsL_ok : ∀ (n i : Nat) (s : RdS) (acc l : List PO), (outsL n i s acc).1 = some l → (∀ o ∈ acc, POok o) → (∀ o ∈ l, POok o) ∧ l.length = acc.length + n
  | 0, i, s, acc, l, h, ha => by injection h with h; subst h; exact ⟨ha, rfl⟩
  | n + 1, i, s, acc, l, h, ha => by
    unfold outsL at h
    split at h
    · have := outsL_ok n (i + 1) _ _ l h (fun o ho => by
        rcases List.mem_append.1 ho with h | h
        · exact ha o h
        · rw [List.mem_singleton.1 h]; exact outS_ok _ _)
      exact ⟨this.1, by rw [this.2]; simp; omega⟩
    · cases h
theorem PR0_ok : PRok PR0 := ⟨by decide, by decide, by decide, fun o h => by cases h⟩
theorem finP_ok {r : PR} (h : PRok r) (s : RdS) : PRok (finP r s).1 := by
  unfold finP; split
  · exact h
  · exact PR0_ok
theorem decP_ok (l : List UInt8) : PRok (decP l).1 := by
  unfold decP
  split
  · exact PR0_ok
  · unfold bodyP
    split
    · exact finP_ok ⟨TX_len _, TS_len _ _, by simp, fun o h => by cases h⟩ _
    · split
      · exact finP_ok ⟨by simp, by simp, by simp, fun o h => by cases h⟩ _
      · split
        · split
          · exact PR0_ok
          · rename_i lo ho
            refine finP_ok ?_ _
            unfold outsS at ho
            split at ho
            · cases ho
            · rename_i hq
              have := outsL_ok _ _ _ _ lo ho (fun o h => by cases h)
              exact ⟨by simp, by simp, by rw [this.2]; simp; omega, this.1⟩
        · split
          · exact PR0_ok
          · exact finP_ok ⟨by simp, by simp, by simp, fun o h => by cases h⟩ _
end Go.Proofs.YtcnigofmjffamaaDoor
