import Derived.Test.YthodknboobgfpaaB04f
set_option linter.unusedVariables false
set_option linter.unusedSimpArgs false
namespace Go.Proofs.Ythodknboobgfpaa
open Go.Proofs.Ythodknboobgfpaa.Sh Go.Proofs.Ythodknboobgfpaa.Sh.V Go.RowKit
theorem rdS {s : VS} {ls : List (List UInt8)} (h : IsE s (ss ls)) {i : Nat} {l : List UInt8} (hb : ls[i]? = some l) (H : VH) {β : Type} (f : ByteArray → Option β) : ((ixV 1 s (i : Int)).bind fun p => (ldV (.flat .str) H p).bind f) = f ⟨l.toArray⟩ := by
  rw [h.ix (y := [.str ⟨l.toArray⟩]) (by simp [ss, hb]) 1, Option.bind_some]
  rfl
theorem l22 (n : Nat) {H : VH} {s t : VS} {ls : List (List UInt8)} (hs : IsE s (ss ls)) (ht : IsE t (ss ls)) (hl : ls.length < 1000000) : ∀ (m i : Nat), i ≤ ls.length → ls.length < i + m → L22_0 n m s t (i : Int) H = some (.bool true, H) := by
  intro m
  induction m with
  | zero => intro i h1 h2; omega
  | succ m ih =>
    intro i h1 h2
    rw [L22_0_eq, hs.len, ss_len]
    by_cases hi : i < ls.length
    · rw [decide_eq_true (by omega), cond_true]
      obtain ⟨l, hb⟩ : ∃ b, ls[i]? = some b := ⟨_, List.getElem?_eq_getElem hi⟩
      rw [rdS hs hb, rdS ht hb, strEq_iff]
      simp only [decide_true, Bool.not_true, cond_false]
      have e3 : IntKind.wrap .i64 ((i : Int) + 1) = ((i + 1 : Nat) : Int) := by rw [i64_in (by omega)]; rfl
      rw [e3]
      exact ih (i + 1) (by omega) (by omega)
    · rw [decide_eq_false (by omega), cond_false]
theorem closed_sl (e : TypeId) {s : VS} {es : List (List V)} (hs : IsE s es) : closedC (.sl e s) = true := by
  cases hs <;> rfl
theorem e22 (n : Nat) {H : VH} {s t : VS} {ls : List (List UInt8)} (hs : IsE s (ss ls)) (ht : IsE t (ss ls)) (hl : ls.length < 1000000) (hn : ls.length < n) : vF P tab (n + 1) 22 [.sl 9 s, .sl 9 t] H = some (.bool true, H) := by
  refine vF_lone (r := .bool true) (H1 := []) rfl (by simp [closed_sl 9 hs, closed_sl 9 ht]) ?_ rfl
  show bodyV P tab (vF P tab n) n 22 [.sl 9 s.strip, .sl 9 t.strip] [] = _
  rw [f22_eq, hs.strip.len, ht.strip.len]
  simp only [bne_self_eq_false, cond_false]
  exact l22 n hs.strip ht.strip hl n 0 (by omega) (by omega)
theorem stays_nil (H : VH) : V.stays H [] = true := rfl
theorem stays_flag {T : TypeId} {H : VH} {k : Nat} {l : List UInt8} {f : Bool} (h : RS T H k l f) : V.stays H [(.ob k 1, .bool, .bool f)] = true := by
  unfold V.stays
  rw [h.flag]
  simp only [V.fenc, same_self, stays_nil, Bool.and_true]
theorem stays_both {T : TypeId} {H : VH} {k : Nat} {l : List UInt8} {f : Bool} (h : RS T H k l f) {s : VS} (hs : ldV (.flat (.slice 5)) H (.ob k 0) = some s) : V.stays H [(.ob k 0, .slice 5, .sl 5 s), (.ob k 1, .bool, .bool f)] = true := by
  unfold V.stays
  rw [hs, stays_flag h]
  simp only [V.fenc, same_self, Bool.and_true]
theorem tail4 (n m : Nat) (s1 : VS) (s7 : Int) {H : VH} {kr ki : Nat} {l : List UInt8} {f : Bool} (hr : RS RT H kr l f) (hi : RS IT H ki l f) (hf : f = true → l = []) :
  ((ldV (.flat .bool) H (.ob ki 1)).bind fun x6 =>
    ((V.callD (vF P tab (n + 60)) P false (.one (.flat .bool)) 25 [.ptr (.ob kr 0)] H).bind fun r7 =>
    (cond (V.stays r7.2 [(.ob ki 1, .bool, .bool x6)])
    (cond (r7.1 == x6)
    (some (.bool false, r7.2))
    ((ldV (.flat (.slice 5)) r7.2 (.ob ki 0)).bind fun x8 =>
    ((V.callD (vF P tab (n + 60)) P false (.one (.flat (.int .i64))) 26 [.ptr (.ob kr 0)] r7.2).bind fun r9 =>
    (cond (V.stays r9.2 [(.ob ki 0, .slice 5, .sl 5 x8), (.ob ki 1, .bool, .bool x6)])
    (cond ((r9.1 : Int) != ((VS.len x8 : Nat) : Int))
    (some (.bool false, r9.2))
    ((V.callD (vF P tab (n + 60)) P false (.one (.flat (.int .i64))) 16 [.ptr (.ob kr 0)] r9.2).bind fun r10 =>
    (cond (V.stays r10.2 [(.ob ki 0, .slice 5, .sl 5 x8), (.ob ki 1, .bool, .bool x6)])
    ((V.callD (vF P tab (n + 60)) P false (.one (.flat .bool)) 27 [.ptr (.ob ki 0)] r10.2).bind fun r11 =>
    (cond (V.stays r11.2 [(.ob ki 0, .slice 5, .sl 5 x8), (.ob ki 1, .bool, .bool x6)])
    (cond (!(((r10.1 : Int) == 0) == r11.1))
    (some (.bool false, r11.2))
    (L4_0 (n + 60) m s1 (.ob kr 0) ki (IntKind.wrap .i64 (s7 + 1)) r11.2))
    none))
    none)))
    none))))
    none))) = L4_0 (n + 60) m s1 (.ob kr 0) ki (IntKind.wrap .i64 (s7 + 1)) H := by
  obtain ⟨s, g1, g2⟩ := hi.left
  rw [hi.flag, Option.bind_some, callD_bool (e25 (n + 59) hr), Option.bind_some]
  simp only
  rw [stays_flag hi, cond_true, show ((!f) == f) = false by cases f <;> rfl, cond_false, g1, Option.bind_some, callD_int (e26 (n + 59) hr), Option.bind_some]
  simp only
  rw [stays_both hi g1, cond_true, g2.len, bs_len]
  simp only [bne_self_eq_false, cond_false]
  rw [callD_int (e16 (n + 58) hr), Option.bind_some]
  simp only
  rw [stays_both hi g1, cond_true, callD_bool (e27 (n + 59) hi hf), Option.bind_some]
  simp only
  rw [stays_both hi g1, cond_true]
  have : (((endS l f : Int) == 0) == (endS l f == 0)) = true := by unfold endS; split <;> rfl
  rw [this]
  rfl
end Go.Proofs.Ythodknboobgfpaa
