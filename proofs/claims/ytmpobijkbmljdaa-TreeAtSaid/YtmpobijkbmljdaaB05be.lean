import Derived.Test.YtmpobijkbmljdaaB05bd
set_option maxRecDepth 100000
set_option linter.unusedVariables false
set_option linter.unusedSimpArgs false
namespace Go.Proofs.Ytmpobijkbmljdaa
open Go.Proofs.Ytmpobijkbmljdaa.Sh Go.Proofs.Ytmpobijkbmljdaa.Sh.V Go.RowKit
theorem NC.le {d D : Nat} (hd : d ≤ D) {x : Nd} {cs : List V} (h : NC d x cs) : NC D x cs := by
  have := h.ups (D - d)
  rwa [show d + (D - d) = D by omega] at this
def restN (d : Nat) (r : List UInt8) : Option Nd → Option Nd
  | none => none
  | some y => atN d y r
theorem look_step {names : List (List UInt8)} {kids : List Nd} {t n : List UInt8} {y : Nd} {i : Nat} (h1 : names[i]? = some n) (h2 : kids[i]? = some y) : look (names.drop i) (kids.drop i) t = if n = t then some y else look (names.drop (i + 1)) (kids.drop (i + 1)) t := by
  obtain ⟨a1, a2⟩ := List.getElem?_eq_some_iff.1 h1
  obtain ⟨b1, b2⟩ := List.getElem?_eq_some_iff.1 h2
  rw [List.drop_eq_getElem_cons a1, List.drop_eq_getElem_cons b1, a2, b2, look]
theorem l30b (n D d : Nat) (hdD : d ≤ D)
    (rc : ∀ {y : Nd} {cs : List V} (q : List UInt8) (H : VH), NC d y cs → Good d y → q.length < 200 → ∃ k u1 u2 u3 run st tg b, V.callD (vF P tab n) P false (.tup [AGN, (.flat .bool)]) 30 [.agg cs, .str ⟨q.toArray⟩] H = some ((aggN k u1 u2 u3 run st tg, b, ()), H) ∧ ResN D (atN d y q) (cellsN k u1 u2 u3 run st tg) b)
    {K : VH} {k : Nat} {s1 s2 s3 : VS} {run : Bool} {st : Nat} {tg : List UInt8} {cs0 : List V} (h0 : K[0]? = some (.row NT (cellsN k s1 s2 s3 run st tg))) (h1 : K[1]? = some (.row NT cs0)) (hcs : cs0.length = 7) {names : List (List UInt8)} {kids : List Nd} {es : List (List V)} (hs1 : IsE s1 (ss names)) (hs2 : IsE s2 es) (hk : F2 (NC d) kids es) (hlen : names.length = kids.length) (hgk : ∀ y ∈ kids, Good d y) (hb : names.length < 10000) {p : List UInt8} (hp : p.length < 200) :
    ∀ (m i : Nat), i ≤ names.length → names.length < i + m → ∃ H' k u1 u2 u3 run st tg b, L30_1 n m ⟨p.toArray⟩ 0 1 ((cutP1 p).1.length : Int) (i : Int) K = some (.tup [.agg (cellsN k u1 u2 u3 run st tg), .bool b], H') ∧ ResN D (restN d (cutP1 p).2.1 (look (names.drop i) (kids.drop i) (cutP1 p).1)) (cellsN k u1 u2 u3 run st tg) b := by
  obtain ⟨c1, c2, c3, c4, c5⟩ := cutP1_is p
  have hz : (((⟨p.toArray⟩ : ByteArray).size : Nat) : Int) = (p.length : Int) := by simp [ByteArray.size]
  intro m
  induction m with
  | zero => intros; omega
  | succ m ih =>
    intro i hi hm
    rw [L30_1_eq, n1 h0, Option.bind_some, hs1.len, ss_len]
    by_cases c : i < names.length
    · have hd : decide ((i : Int) < (names.length : Int)) = true := decide_eq_true (by omega)
      obtain ⟨nm, en⟩ := get_of c
      obtain ⟨y, ey⟩ := get_of (l := kids) (i := i) (by omega)
      obtain ⟨cc, g1, g2⟩ := hk.get ey
      rw [hd, cond_true, Option.bind_some, rdS hs1 en, cutS_to p _ c3, Option.bind_some, ← c2, strEq_iff, look_step en ey]
      by_cases he : nm = (cutP1 p).1
      · rw [decide_eq_true he, cond_true, if_pos he, hz, n2 h0, Option.bind_some, Option.bind_some]
        cases d with
        | zero => exact g2.elim
        | succ d =>
          obtain ⟨k2, names2, kids2, data2, run2, st2, tg2⟩ := y
          have g2' := g2
          obtain ⟨v1, v2, v3, es2, rfl, _⟩ := g2
          have ix2 : ixV 7 s2 (i : Int) = some (.fz (cellsN k2 v1 v2 v3 run2 st2 tg2)) := hs2.ix g1 7
          by_cases hl : (cutP1 p).1.length = p.length
          · have hf : (cutP1 p).2.2 = false := by
              cases h : (cutP1 p).2.2 with
              | false => rfl
              | true =>
                have := (List.getElem?_eq_some_iff.1 (c4 h).1).1
                omega
            rw [show (((cutP1 p).1.length : Int) == (p.length : Int)) = true by rw [hl]; simp, cond_true, ix2, Option.bind_some, ld_fzn, Option.bind_some]
            obtain ⟨H', hfin⟩ := finT h1 hcs k2 v1 v2 v3 run2 st2 tg2 true
            refine ⟨H', k2, v1, v2, v3, run2, st2, tg2, true, hfin, ?_⟩
            rw [(c5 hf).2]
            show ResN D (atN (d + 1) _ []) _ _
            rw [atN_nil]
            exact ⟨rfl, g2'.le hdD⟩
          · have hf : (cutP1 p).2.2 = true := by
              cases h : (cutP1 p).2.2 with
              | true => rfl
              | false => exact absurd (c5 h).1 hl
            obtain ⟨e1, e2⟩ := c4 hf
            have hlt := (List.getElem?_eq_some_iff.1 e1).1
            rw [show (((cutP1 p).1.length : Int) == (p.length : Int)) = false by rw [beq_eq_false_iff_ne]; omega, cond_false, ix2, Option.bind_some, ld_fzn, Option.bind_some, inc_nat (by omega), cutS_from p _ (by omega), Option.bind_some, ← e2]
            obtain ⟨q, u1, u2, u3, qr, qs, qt, b, r1, r2⟩ := rc (cutP1 p).2.1 K g2' (hgk _ (List.mem_of_getElem? ey)) (by rw [e2, List.length_drop]; omega)
            have r1' : V.callD (vF P tab n) P false (.tup [AGN, (.flat .bool)]) 30 [.agg [.int .u8 (k2 : Int), .sl 9 v1, .sl 27 v2, .sl 5 v3, .bool run2, .flt .f64 st2, .str ⟨tg2.toArray⟩], .str ⟨(cutP1 p).2.1.toArray⟩] K = some ((aggN q u1 u2 u3 qr qs qt, b, ()), K) := r1
            simp only
            rw [r1', Option.bind_some]
            unfold aggN
            simp only
            have hst : V.stays K [(.ob 0 2, .slice 27, .sl 27 s2)] = true := by
              rw [nst h0 (.inr (.inr (.inl rfl)))]; rfl
            rw [hst, cond_true]
            obtain ⟨H', hfin⟩ := finT h1 hcs q u1 u2 u3 qr qs qt b
            exact ⟨H', q, u1, u2, u3, qr, qs, qt, b, hfin, r2⟩
      · rw [decide_eq_false he, cond_false, if_neg he, inc_nat (by omega)]
        exact ih (i + 1) (by omega) (by omega)
    · have hd : decide ((i : Int) < (names.length : Int)) = false := decide_eq_false (by omega)
      rw [hd, cond_false]
      obtain ⟨H', hfin⟩ := finT h1 hcs 0 .nil .nil .nil false 0 [] false
      refine ⟨H', 0, .nil, .nil, .nil, false, 0, [], false, hfin, ?_⟩
      rw [List.drop_eq_nil_of_le (by omega)]
      show ResN D (restN d _ (look [] _ _)) _ _
      unfold look
      exact ⟨rfl, rfl⟩
end Go.Proofs.Ytmpobijkbmljdaa
