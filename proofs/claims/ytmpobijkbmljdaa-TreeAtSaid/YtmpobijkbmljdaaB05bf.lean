import Derived.Test.YtmpobijkbmljdaaB05be
set_option maxRecDepth 100000
set_option linter.unusedVariables false
set_option linter.unusedSimpArgs false
namespace Go.Proofs.Ytmpobijkbmljdaa
open Go.Proofs.Ytmpobijkbmljdaa.Sh Go.Proofs.Ytmpobijkbmljdaa.Sh.V Go.RowKit
theorem l30a (n D d : Nat) (hn : 20000 ≤ n) (hdD : d ≤ D)
    (rc : ∀ {y : Nd} {cs : List V} (q : List UInt8) (H : VH), NC d y cs → Good d y → q.length < 200 → ∃ k u1 u2 u3 run st tg b, V.callD (vF P tab n) P false (.tup [AGN, (.flat .bool)]) 30 [.agg cs, .str ⟨q.toArray⟩] H = some ((aggN k u1 u2 u3 run st tg, b, ()), H) ∧ ResN D (atN d y q) (cellsN k u1 u2 u3 run st tg) b)
    {K : VH} {k : Nat} {s1 s2 s3 : VS} {run : Bool} {st : Nat} {tg : List UInt8} {cs0 : List V} (h0 : K[0]? = some (.row NT (cellsN k s1 s2 s3 run st tg))) (h1 : K[1]? = some (.row NT cs0)) (hcs : cs0.length = 7) {names : List (List UInt8)} {kids : List Nd} {es : List (List V)} (hs1 : IsE s1 (ss names)) (hs2 : IsE s2 es) (hk : F2 (NC d) kids es) (hlen : names.length = kids.length) (hgk : ∀ y ∈ kids, Good d y) (hb : names.length < 10000) {p : List UInt8} (hp : p.length < 200) (hp0 : 0 < p.length) :
    ∀ (m i : Nat), i ≤ (cutP1 p).1.length → p.length < i + m → ∃ H' k u1 u2 u3 run st tg b, L30_0 n m ⟨p.toArray⟩ 0 1 (i : Int) K = some (.tup [.agg (cellsN k u1 u2 u3 run st tg), .bool b], H') ∧ ResN D (if (cutP1 p).2.2 = true ∧ (cutP1 p).2.1 = [] then none else restN d (cutP1 p).2.1 (look names kids (cutP1 p).1)) (cellsN k u1 u2 u3 run st tg) b := by
  obtain ⟨c1, c2, c3, c4, c5⟩ := cutP1_is p
  have hz : (((⟨p.toArray⟩ : ByteArray).size : Nat) : Int) = (p.length : Int) := by simp [ByteArray.size]
  have ew : IntKind.wrap .i64 ((p.length : Int) - 1) = ((p.length - 1 : Nat) : Int) := by rw [i64_in (by omega)]; omega
  have go := l30b n D d hdD rc h0 h1 hcs hs1 hs2 hk hlen hgk hb hp n 0 (by omega) (by omega)
  rw [List.drop_zero, List.drop_zero, show ((0 : Nat) : Int) = 0 from rfl] at go
  intro m
  induction m with
  | zero => intros; omega
  | succ m ih =>
    intro i hi hm
    rw [L30_0_eq, hz, ew]
    by_cases c : i < p.length
    · have hd : decide ((i : Int) < (p.length : Int)) = true := decide_eq_true (by omega)
      obtain ⟨b, hbb⟩ := get_of c
      rw [hd, cond_true, ixS_of hbb, Option.bind_some]
      by_cases hlt : i < (cutP1 p).1.length
      · have hne := c1 i b hlt hbb
        have : ((b.toNat : Int) != 47) = true := by
          simp only [bne_iff_ne, ne_eq]
          intro h
          exact hne (UInt8.toNat_inj.1 (show b.toNat = (47 : UInt8).toNat by rw [show (47 : UInt8).toNat = 47 from rfl]; omega))
        rw [this, cond_true, inc_nat (by omega)]
        exact ih (i + 1) (by omega) (by omega)
      · have hie : i = (cutP1 p).1.length := by omega
        have hf : (cutP1 p).2.2 = true := by
          cases h : (cutP1 p).2.2 with
          | true => rfl
          | false => have := (c5 h).1; omega
        obtain ⟨e1, e2⟩ := c4 hf
        subst hie
        rw [e1] at hbb
        injection hbb with hbb
        subst hbb
        rw [show ((((47 : UInt8).toNat : Nat) : Int) != 47) = false from rfl, cond_false]
        by_cases hl : (cutP1 p).1.length = p.length - 1
        · rw [show (((cutP1 p).1.length : Int) == ((p.length - 1 : Nat) : Int)) = true by rw [hl]; simp, cond_true]
          obtain ⟨H', hfin⟩ := finT h1 hcs 0 .nil .nil .nil false 0 [] false
          refine ⟨H', 0, .nil, .nil, .nil, false, 0, [], false, hfin, ?_⟩
          rw [if_pos ⟨hf, by rw [e2]; exact List.drop_eq_nil_of_le (by omega)⟩]
          exact ⟨rfl, rfl⟩
        · rw [show (((cutP1 p).1.length : Int) == ((p.length - 1 : Nat) : Int)) = false by rw [beq_eq_false_iff_ne]; omega, cond_false, if_neg (fun h => by
            have := congrArg List.length h.2
            rw [e2, List.length_drop, List.length_nil] at this
            omega)]
          exact go
    · have hd : decide ((i : Int) < (p.length : Int)) = false := decide_eq_false (by omega)
      have hie : i = (cutP1 p).1.length := by omega
      have hf : (cutP1 p).2.2 = false := by
        cases h : (cutP1 p).2.2 with
        | false => rfl
        | true => have := (List.getElem?_eq_some_iff.1 (c4 h).1).1; omega
      subst hie
      rw [hd, cond_false, show (((cutP1 p).1.length : Int) == ((p.length - 1 : Nat) : Int)) = false by rw [beq_eq_false_iff_ne]; omega, cond_false, if_neg (fun h => by rw [hf] at h; cases h.1)]
      exact go
theorem atN_cut {d : Nat} {x : Nd} {p : List UInt8} (hp : p ≠ []) : atN (d + 1) x p = if (cutP1 p).2.2 = true ∧ (cutP1 p).2.1 = [] then none else restN d (cutP1 p).2.1 (look (namesN x) (kidsN x) (cutP1 p).1) := by
  cases p with
  | nil => exact absurd rfl hp
  | cons b p =>
    rw [atN]
    cases look (namesN x) (kidsN x) (cutP1 (b :: p)).1 with
    | none => simp [restN]
    | some y => rfl
theorem ResN.strip {D : Nat} {o : Option Nd} {k : Nat} {u1 u2 u3 : VS} {run : Bool} {st : Nat} {tg : List UInt8} {b : Bool} (h : ResN D o (cellsN k u1 u2 u3 run st tg) b) : ResN D o (cellsN k u1.strip u2.strip u3.strip run st tg) b ∧ (cellsN k u1 u2 u3 run st tg).all closed1 = true := by
  cases o with
  | some y => exact ⟨⟨h.1, h.2.strip⟩, h.2.cl⟩
  | none =>
    obtain ⟨h1, h2⟩ := h
    have h2' := h2
    simp only [cellsN, List.cons.injEq, V.int.injEq, V.sl.injEq, V.bool.injEq, V.flt.injEq, true_and, and_true] at h2
    obtain ⟨a1, a2, a3, a4, a5, a6, a7⟩ := h2
    subst a2 a3 a4
    refine ⟨⟨h1, h2'⟩, ?_⟩
    rw [h2']; rfl
theorem e30 (n D : Nat) (hn : 20000 ≤ n) : ∀ (d : Nat), d ≤ D → ∀ {x : Nd} {cs : List V} (p : List UInt8) (H : VH), NC d x cs → Good d x → p.length < 200 → ∃ k u1 u2 u3 run st tg b, V.callD (vF P tab (n + d)) P false (.tup [AGN, (.flat .bool)]) 30 [.agg cs, .str ⟨p.toArray⟩] H = some ((aggN k u1 u2 u3 run st tg, b, ()), H) ∧ ResN D (atN d x p) (cellsN k u1 u2 u3 run st tg) b := by
  intro d
  induction d with
  | zero => intro _ x cs p H h; exact h.elim
  | succ d ih =>
    intro hdD x cs p H h hg hp
    have hm : ∃ H' k u1 u2 u3 run st tg b, bodyV P tab (vF P tab (n + d)) (n + d) 30 [.agg (cs.map strip1), .str ⟨p.toArray⟩] [] = some (.tup [.agg (cellsN k u1 u2 u3 run st tg), .bool b], H') ∧ ResN D (atN (d + 1) x p) (cellsN k u1 u2 u3 run st tg) b := by
      have g := h.strip
      generalize cs.map strip1 = cs1 at g
      obtain ⟨k, names, kids, data, run, st, tg⟩ := x
      have g' := g
      obtain ⟨s1, s2, s3, es, rfl, a1, a2, a3, a4, a5, a6, a7, a8⟩ := g
      obtain ⟨hr, hlen, hgt, hgk⟩ := hg
      show ∃ H' k' u1 u2 u3 run' st' tg' b, bodyV P tab (vF P tab (n + d)) (n + d) 30 [.agg [.int .u8 (k : Int), .sl 9 s1, .sl 27 s2, .sl 5 s3, .bool run, .flt .f64 st, .str ⟨tg.toArray⟩], .str ⟨p.toArray⟩] [] = some (.tup [.agg (cellsN k' u1 u2 u3 run' st' tg'), .bool b], H') ∧ ResN D (atN (d + 1) (.mk k names kids data run st tg) p) (cellsN k' u1 u2 u3 run' st' tg') b
      rw [f30_eq]
      obtain ⟨K, hK⟩ : ∃ K : VH, K = [.row NT (cellsN k s1 s2 s3 run st tg), .row NT ZN] := ⟨_, rfl⟩
      have eK : (List.append (α := VO) ([] ++ [.row (27 + boxK) [.int .u8 (k : Int), .sl 9 s1, .sl 27 s2, .sl 5 s3, .bool run, .flt .f64 st, .str ⟨tg.toArray⟩]]) [.row (27 + boxK) [.int .u8 0, .sl 9 .nil, .sl 27 .nil, .sl 5 .nil, .bool false, .flt .f64 0, .str ⟨#[]⟩]]) = K := hK.symm
      have e0 : List.length ([] : VH) = 0 := rfl
      have e1 : (List.length (([] ++ [.row (27 + boxK) [.int .u8 (k : Int), .sl 9 s1, .sl 27 s2, .sl 5 s3, .bool run, .flt .f64 st, .str ⟨tg.toArray⟩]]) : VH)) = 1 := rfl
      rw [eK, e1]
      simp only [e0]
      have h0 : K[0]? = some (.row NT (cellsN k s1 s2 s3 run st tg)) := by rw [hK]; rfl
      have h1 : K[1]? = some (.row NT ZN) := by rw [hK]; rfl
      have hs0 : strEq ⟨p.toArray⟩ ⟨#[]⟩ = decide (p = []) := strEq_iff p []
      rw [hs0]
      by_cases hp0 : p = []
      · rw [decide_eq_true hp0, cond_true, na h0, Option.bind_some]
        simp only
        obtain ⟨H', hfin⟩ := finT h1 rfl k s1 s2 s3 run st tg true
        refine ⟨H', k, s1, s2, s3, run, st, tg, true, hfin, ?_⟩
        rw [hp0, atN_nil]
        exact ⟨rfl, g'.le hdD⟩
      · rw [decide_eq_false hp0, cond_false]
        have hpl : 0 < p.length := by cases p with | nil => exact absurd rfl hp0 | cons a b => simp
        have := l30a (n + d) D d (by omega) (by omega) (fun q H h1 h2 h3 => ih (by omega) q H h1 h2 h3) h0 h1 rfl a1 a2 a3 hlen hgk (by omega) hp hpl (n + d) 0 (by omega) (by omega)
        rw [atN_cut hp0]
        rw [show ((0 : Nat) : Int) = 0 from rfl] at this
        exact this
    obtain ⟨H', k, u1, u2, u3, run, st, tg, b, h1, h2⟩ := hm
    obtain ⟨h3, h4⟩ := h2.strip
    refine ⟨k, u1.strip, u2.strip, u3.strip, run, st, tg, b, callD_some (.tup [.agg (cellsN k u1.strip u2.strip u3.strip run st tg), .bool b]) (vF_lone (n := n + d) (r := .tup [.agg (cellsN k u1 u2 u3 run st tg), .bool b]) (H1 := H') rfl ?_ h1 ?_) rfl, h3⟩
    · show (cs.all closed1 && _) = true
      rw [h.cl]; rfl
    · show ((cellsN k u1 u2 u3 run st tg).all closed1 && _) = true
      rw [h4]; rfl
end Go.Proofs.Ytmpobijkbmljdaa
