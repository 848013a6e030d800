import Derived.Test.YtmpobijkbmljdaaB05bi
set_option maxRecDepth 100000
set_option linter.unusedVariables false
set_option linter.unusedSimpArgs false
namespace Go.Proofs.Ytmpobijkbmljdaa
open Go.Proofs.Ytmpobijkbmljdaa.Sh Go.Proofs.Ytmpobijkbmljdaa.Sh.V Go.RowKit
/-! ### The program's At -/
theorem cutP1_len (p : List UInt8) (hp : p ≠ []) : (cutP1 p).2.1.length < p.length := by
  obtain ⟨c1, c2, c3, c4, c5⟩ := cutP1_is p
  have hpl : 0 < p.length := by cases p with | nil => exact absurd rfl hp | cons a b => simp
  cases h : (cutP1 p).2.2 with
  | true => rw [(c4 h).2, List.length_drop]; omega
  | false => rw [(c5 h).2]; exact hpl
theorem cutP1_no2 {p : List UInt8} (h : (cutP1 p).2.2 = false) : (cutP1 p).2.1 = [] := ((cutP1_is p).2.2.2.2 h).2
theorem l29 (n D : Nat) (hn : 20000 ≤ n) : ∀ (m d : Nat), d ≤ D → ∀ {x : Nd} {cs cs0 : List V} (p : List UInt8) {K : VH}, NC d x cs → Good d x → p.length < 200 → p.length < m → K[0]? = some (.row NT cs) → K[1]? = some (.row NT cs0) → cs0.length = 7 → ∃ H' k u1 u2 u3 run st tg b, L29_0 (n + 3) m ⟨p.toArray⟩ 0 1 K = some (.tup [.agg (cellsN k u1 u2 u3 run st tg), .bool b], H') ∧ ResN D (atN d x p) (cellsN k u1 u2 u3 run st tg) b := by
  intro m
  induction m with
  | zero => intros; omega
  | succ m ih =>
    intro d hdD x cs cs0 p K h hg hp hm h0 h1 hcs
    cases d with
    | zero => exact h.elim
    | succ d =>
      obtain ⟨k, names, kids, data, run, st, tg⟩ := x
      have h' := h
      obtain ⟨s1, s2, s3, es, rfl, a1, a2, a3, a4, a5, a6, a7, a8⟩ := h
      obtain ⟨hr, hlen, hgt, hgk⟩ := hg
      have hs0 : strEq ⟨p.toArray⟩ ⟨#[]⟩ = decide (p = []) := strEq_iff p []
      rw [L29_0_eq, hs0]
      by_cases hp0 : p = []
      · rw [decide_eq_true hp0, Bool.not_true, cond_false, na h0, Option.bind_some]
        simp only
        obtain ⟨H', hfin⟩ := finT h1 hcs k s1 s2 s3 run st tg true
        refine ⟨H', k, s1, s2, s3, run, st, tg, true, hfin, ?_⟩
        rw [hp0, atN_nil]
        exact ⟨rfl, h'.le hdD⟩
      · rw [decide_eq_false hp0, Bool.not_false, cond_true, c48 n p (by omega), Option.bind_some]
        simp only
        rw [n1 h0, Option.bind_some]
        obtain ⟨i, b, b1, b2, b3⟩ := c49 n (show IsE s1 (names.map fun l => [V.str ⟨l.toArray⟩]) from a1) hr (by omega) (by omega) (cutP1 p).1 K
        rw [b1, Option.bind_some]
        simp only
        rw [atN_cut hp0]
        have zero : ∀ e : Bool, ∃ H' k u1 u2 u3 run st tg b, ((stV K (.ob 1 0) [.int .u8 0, .sl 9 .nil, .sl 27 .nil, .sl 5 .nil, .bool false, .flt .f64 0, .str ⟨#[]⟩]).bind fun h4 => (((ldV AGN h4 (.ob 1 0)).bind fun x5 => some (V.tup [.agg [.int .u8 x5.1, .sl 9 x5.2.1, .sl 27 x5.2.2.1, .sl 5 x5.2.2.2.1, .bool x5.2.2.2.2.1, .flt .f64 x5.2.2.2.2.2.1, .str x5.2.2.2.2.2.2.1], .bool false], h4)))) = some (.tup [.agg (cellsN k u1 u2 u3 run st tg), .bool b], H') ∧ ResN D none (cellsN k u1 u2 u3 run st tg) b := fun e => by
          obtain ⟨H', hfin⟩ := finT h1 hcs 0 .nil .nil .nil false 0 [] false
          exact ⟨H', 0, .nil, .nil, .nil, false, 0, [], false, hfin, rfl, rfl⟩
        cases b with
        | false =>
          rw [Bool.not_false, cond_true]
          have hl : look names kids (cutP1 p).1 = none := look_none (b3 rfl)
          have e : (if (cutP1 p).2.2 = true ∧ (cutP1 p).2.1 = [] then none else restN d (cutP1 p).2.1 (look (namesN (.mk k names kids data run st tg)) (kidsN (.mk k names kids data run st tg)) (cutP1 p).1)) = none := by
            show (if _ then none else restN d _ (look names kids _)) = none
            rw [hl]; split <;> rfl
          rw [e]
          exact zero true
        | true =>
          rw [Bool.not_true, cond_false]
          have hi := b2 rfl
          have hil := (List.getElem?_eq_some_iff.1 hi).1
          obtain ⟨y, ey⟩ := get_of (l := kids) (i := i) (by omega)
          obtain ⟨cc, g1, g2⟩ := a3.get ey
          have hl : look (namesN (.mk k names kids data run st tg)) (kidsN (.mk k names kids data run st tg)) (cutP1 p).1 = some y := look_at hr hi ey
          rw [hl]
          have hgy := hgk y (List.mem_of_getElem? ey)
          have next : ¬ ((cutP1 p).2.2 = true ∧ (cutP1 p).2.1 = []) → ∃ H' k u1 u2 u3 run st tg b, ((ldV (.flat (.slice 27)) K (.ob 0 2)).bind fun x8 => ((ixV 7 x8 (i : Int)).bind fun p9 => ((ldV AGN K p9).bind fun x10 => ((stV K (.ob 0 0) [.int .u8 x10.1, .sl 9 x10.2.1, .sl 27 x10.2.2.1, .sl 5 x10.2.2.2.1, .bool x10.2.2.2.2.1, .flt .f64 x10.2.2.2.2.2.1, .str x10.2.2.2.2.2.2.1]).bind fun h11 => (L29_0 (n + 3) m ⟨(cutP1 p).2.1.toArray⟩ 0 1 h11))))) = some (.tup [.agg (cellsN k u1 u2 u3 run st tg), .bool b], H') ∧ ResN D (if (cutP1 p).2.2 = true ∧ (cutP1 p).2.1 = [] then none else restN d (cutP1 p).2.1 (some y)) (cellsN k u1 u2 u3 run st tg) b := fun hne => by
            rw [if_neg hne, n2 h0, Option.bind_some]
            cases d with
            | zero => exact g2.elim
            | succ d =>
              obtain ⟨k2, names2, kids2, data2, run2, st2, tg2⟩ := y
              have g2' := g2
              obtain ⟨v1, v2, v3, es2, rfl, _⟩ := g2
              rw [rdN a2 g1]
              simp only
              rw [st_row h0 (by simp [cellsN]) rfl, Option.bind_some]
              have hlt := cutP1_len p hp0
              refine ih (d + 1) (by omega) (cs := cellsN k2 v1 v2 v3 run2 st2 tg2) (cs0 := cs0) (cutP1 p).2.1 g2' hgy (by omega) (by omega) ?_ ?_ hcs
              · rw [List.getElem?_set_self (lt_of_ob h0)]; rfl
              · rw [List.getElem?_set_ne (by omega)]; exact h1
          cases hmore : (cutP1 p).2.2 with
          | true =>
            rw [cond_true]
            have hs1 : strEq ⟨(cutP1 p).2.1.toArray⟩ ⟨#[]⟩ = decide ((cutP1 p).2.1 = []) := strEq_iff _ []
            rw [hs1]
            by_cases hre : (cutP1 p).2.1 = []
            · rw [decide_eq_true hre, cond_true, if_pos ⟨rfl, hre⟩]
              exact zero true
            · rw [decide_eq_false hre, cond_false]
              have := next (fun h => hre h.2)
              rw [hmore] at this
              exact this
          | false =>
            rw [cond_false]
            have := next (fun h => by rw [hmore] at h; cases h.1)
            rw [hmore] at this
            exact this
end Go.Proofs.Ytmpobijkbmljdaa
