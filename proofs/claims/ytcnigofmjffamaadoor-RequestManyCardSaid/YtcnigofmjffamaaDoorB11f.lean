import Derived.Test.YtcnigofmjffamaaDoorB11e
set_option maxRecDepth 100000
set_option linter.unusedVariables false
set_option linter.unusedSimpArgs false
namespace Go.Proofs.YtcnigofmjffamaaDoor
open Go.Proofs.YtcnigofmjffamaaDoor.Sh Go.Proofs.YtcnigofmjffamaaDoor.Sh.V Go.RowKit
/-! ### The reference's decoding -/
def RI (H : VH) (k : Nat) (s : RdS) : Prop := RS IT H k s.1 s.2 ∧ (s.2 = true → s.1 = [])
theorem RI.keep {H H' : VH} {X : List Nat} {k : Nat} {s : RdS} (h : RI H k s) (kp : Kp H H' X) (hx : k ∉ X) : RI H' k s := ⟨h.1.keep kp hx, h.2⟩
theorem p68 (n : Nat) {H : VH} {k : Nat} {s : RdS} (h : RI H k s) (hn : 300 ≤ n) : ∃ H', V.callD (vF P tab (n + 2)) P false (.one (.flat (.int .u64))) 68 [.ptr (.ob k 0), .int .i64 1] H = some (((T1 s).1 : Int), H') ∧ RI H' k (T1 s).2 ∧ Kp H H' [k] ∧ H'.length = H.length := by
  obtain ⟨H', h1, h2, h3⟩ := e68 n h.1 h.2 (c := 1) (by omega) (by omega)
  exact ⟨H', callD_int h1, ⟨h2, takeS_inv 1 h.2⟩, h3⟩
theorem p70 (n : Nat) {H : VH} {k : Nat} {s : RdS} (h : RI H k s) (hn : 300 ≤ n) : ∃ H', V.callD (vF P tab (n + 3)) P false (.one (.flat .str)) 70 [.ptr (.ob k 0)] H = some (⟨(TX s).1.toArray⟩, H') ∧ RI H' k (TX s).2 ∧ Kp H H' [k] ∧ H'.length = H.length := by
  obtain ⟨H', h1, h2, h3⟩ := e70 n h.1 h.2 hn
  exact ⟨H', callD_str h1, ⟨h2, textS_inv h.2⟩, h3⟩
theorem p71 (n : Nat) {H : VH} {k : Nat} {s : RdS} (h : RI H k s) (hn : 300 ≤ n) : ∃ s' H', V.callD (vF P tab (n + 4)) P false (.one (.flat (.slice 9))) 71 [.ptr (.ob k 0), .int .i64 16] H = some (s', H') ∧ IsE s' (ss (TS 16 s).1) ∧ RI H' k (TS 16 s).2 ∧ Kp H H' [k] := by
  obtain ⟨s', H', h1, h2, h3, h4, h5⟩ := e71 n h.1 h.2 hn 16
  exact ⟨s', H', callD_sl h1, h2, ⟨h3, h4⟩, h5⟩
theorem p72 (n : Nat) {H : VH} {k : Nat} {s : RdS} (h : RI H k s) : V.callD (vF P tab (n + 1)) P false (.one (.flat .bool)) 72 [.ptr (.ob k 0)] H = some (endS s.1 s.2 == 0, H) := callD_bool (e72 n h.1 h.2)
theorem needsS_pre : ∀ (n : Nat) (s : RdS) (acc : List Nat), ∃ t, (needsS n s acc).1 = acc ++ t
  | 0, s, acc => ⟨[], by simp [needsS]⟩
  | n + 1, s, acc => by
    obtain ⟨t, h⟩ := needsS_pre n (T1 s).2 (acc ++ [(T1 s).1])
    exact ⟨(T1 s).1 :: t, by show (needsS n _ _).1 = _; rw [h]; simp⟩
theorem zero14 {H : VH} {i : Nat} {cs0 : List V} (hl : cs0.length = 6) (hi : H[i]? = some (.row QT cs0)) (e : Int) :
    ∃ H', ((stV H (.ob i 0) [.int .u8 0, .str ⟨#[]⟩, .str ⟨#[]⟩, .sl 5 .nil, .sl 9 .nil, .sl 34 .nil]).bind fun h45 =>
        (((ldV AG6 h45 (.ob i 0)).bind fun x46 =>
        some (V.tup [.agg [.int .u8 x46.1, .str x46.2.1, .str x46.2.2.1, .sl 5 x46.2.2.2.1, .sl 9 x46.2.2.2.2.1, .sl 34 x46.2.2.2.2.2.1], .int .i64 e], h45)))) = some (.tup [.agg Z6, .int .i64 e], H') :=
  put14 hl hi e 0 ⟨#[]⟩ ⟨#[]⟩ .nil .nil .nil
theorem l311 (n : Nat) (hn : 500 ≤ n) {H0 : VH} {k i j o idx : Nat} {cc : Int} {nm : List UInt8} {s1 s2 : VS} (c : Nat) (hc : c < 300) (m0 : Nat)
    (hk : k < H0.length) (hi : i < H0.length) (ho : o < H0.length) (d1 : i ≠ k) (d2 : i ≠ o) (d3 : k ≠ o) {cs0 : List V} (hl0 : cs0.length = 6) :
    ∀ (m jj : Nat) {H : VH} {s : RdS} {sv : VS} {acc : List Nat}, RI H k s → H[i]? = some (.row QT cs0) → H[o]? = some (.row OT [.str ⟨nm.toArray⟩, .sl 5 s1, .sl 9 s2, .sl 3 sv]) →
      Ap H 3 sv (ns acc) → (∀ t ∈ toks sv, H0.length ≤ t) → Kp H0 H [k, o] → acc.length = jj → jj ≤ c → c < jj + m → acc.all (fun x => decide (x < idx)) = true →
      ((needsS (c - jj) s acc).1.all (fun x => decide (x < idx)) = false ∧ ∃ H', L31_1 (n + 14) m0 m i k j cc (idx : Int) o (c : Int) (jj : Int) H = some (.tup [.agg Z6, .int .i64 2], H')) ∨
      ((needsS (c - jj) s acc).1.all (fun x => decide (x < idx)) = true ∧ ∃ m' sv' H', L31_1 (n + 14) m0 m i k j cc (idx : Int) o (c : Int) (jj : Int) H = L31_1 (n + 14) m0 (m' + 1) i k j cc (idx : Int) o (c : Int) (c : Int) H' ∧
        RI H' k (needsS (c - jj) s acc).2 ∧ H'[o]? = some (.row OT [.str ⟨nm.toArray⟩, .sl 5 s1, .sl 9 s2, .sl 3 sv']) ∧ IsE sv' (ns (needsS (c - jj) s acc).1) ∧ Kp H0 H' [k, o]) := by
  intro m
  induction m with
  | zero => intro jj H s sv acc _ _ _ _ _ _ _ a b; omega
  | succ m ih =>
    intro jj H s sv acc hR hI hO hA hT hK ha hj1 hj2 hall
    by_cases hj : jj < c
    · rw [L31_1_eq, decide_eq_true (by omega), cond_true]
      obtain ⟨H1, g1, g2, g3, g4⟩ := p68 (n + 12) hR (by omega)
      rw [g1, Option.bind_some]
      have hO1 := g3.ob hO (by simp [Ne.symm d3])
      have hI1 := g3.ob hI (by simp [d1])
      have tk : ∀ t ∈ toks sv, t ≠ k ∧ t ≠ i ∧ t ≠ o := fun t ht => by have := hT t ht; omega
      have hA1 := hA.keep g3 (fun t ht => by simp [(tk t ht).1])
      simp only
      have hlt := T1_lt s
      have hw : IntKind.wrap .i64 (((T1 s).1 : Nat) : Int) = ((T1 s).1 : Int) := i64_nat (by omega)
      rw [hw]
      have e1 : c - jj = (c - (jj + 1)) + 1 := by omega
      have e2 : needsS (c - jj) s acc = needsS (c - (jj + 1)) (T1 s).2 (acc ++ [(T1 s).1]) := by rw [e1]; rfl
      rw [e2]
      by_cases hx : idx ≤ (T1 s).1
      · left
        rw [decide_eq_true (by omega), cond_true]
        obtain ⟨t, ht⟩ := needsS_pre (c - (jj + 1)) (T1 s).2 (acc ++ [(T1 s).1])
        refine ⟨by rw [ht]; simp; intro _ h; omega, zero14 hl0 hI1 2⟩
      · rw [decide_eq_false (by omega), cond_false, ld_o3 hO1, Option.bind_some]
        obtain ⟨s', H2, f1, f2, f3, f4, _⟩ := hA1.app (sz := 1) (by_ := 8) (x := .fz [[.int .i64 ((T1 s).1 : Int)]] (.ex 1)) (news := [[.int .i64 ((T1 s).1 : Int)]]) (.fz _ _) (by simp [bound]; omega) (by simp [bound]; omega)
        rw [f1, Option.bind_some]
        have hO2 := f3.ob hO1 (fun h => (tk o h).2.2 rfl)
        have hI2 := f3.ob hI1 (fun h => (tk i h).2.1 rfl)
        have hR2 : RI H2 k (T1 s).2 := g2.keep f3 (fun h => (tk k h).1 rfl)
        simp only
        rw [st_row hO2 (by simp) rfl, Option.bind_some, inc_nat (by omega)]
        have h2l := lt_of_ob hO2
        have hle : H0.length ≤ H1.length := by have := hK.len; omega
        have tk2 : ∀ t ∈ toks s', H0.length ≤ t := fun t ht => by
          rcases f4 t ht with h | h
          · exact hT t h
          · omega
        have kset := Kp.set H2 o (.row OT (putAllV [.str ⟨nm.toArray⟩, .sl 5 s1, .sl 9 s2, .sl 3 sv] 3 [.sl 3 s']))
        have hn1 : ns acc ++ [[.int .i64 ((T1 s).1 : Int)]] = ns (acc ++ [(T1 s).1]) := by simp [ns]
        rw [hn1] at f2
        have kp1 : Kp H0 H1 [k, o] := hK.trans g3 (fun x hx _ => hx) (fun y hy _ => by simp at hy; simp [hy])
        have kp2 : Kp H0 H2 [k, o] := kp1.trans f3 (fun x hx _ => hx) (fun y hy hl => by have := hT y hy; omega)
        have kp3 := kp2.trans kset (Z := [k, o]) (fun x hx _ => hx) (fun y hy _ => by simp at hy; simp [hy])
        have hall2 : (acc ++ [(T1 s).1]).all (fun x => decide (x < idx)) = true := by
          rw [List.all_append, hall]; simp; omega
        exact ih (jj + 1) (hR2.keep kset (by simp [d3])) (kset.ob hI2 (by simp [d2])) (by rw [List.getElem?_set_self h2l]; rfl) (f2.keep kset (fun t ht => by have := tk2 t ht; simp; omega)) tk2 kp3 (by simp [ha]) (by omega) (by omega) hall2
    · have hjc : jj = c := by omega
      subst hjc
      rw [Nat.sub_self]
      have e0 : needsS 0 s acc = (acc, s) := rfl
      rw [e0]
      exact Or.inr ⟨hall, m, sv, H, rfl, hR, hO, hA.isE, hK⟩
end Go.Proofs.YtcnigofmjffamaaDoor
