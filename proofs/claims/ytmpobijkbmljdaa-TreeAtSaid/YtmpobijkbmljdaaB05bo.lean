import Derived.Test.YtmpobijkbmljdaaB05bn
set_option maxRecDepth 100000
set_option linter.unusedVariables false
set_option linter.unusedSimpArgs false
namespace Go.Proofs.Ytmpobijkbmljdaa
open Go.Proofs.Ytmpobijkbmljdaa.Sh Go.Proofs.Ytmpobijkbmljdaa.Sh.V Go.RowKit
theorem l80 {n : Nat} {i0 k : Nat} {s1 s2 s3 : VS} {run : Bool} {st : Nat} {tg : List UInt8} {names : List (List UInt8)} {kids : List Nd} {es : List (List V)} {x : Nd} (hN : namesN x = names) (hK : kidsN x = kids) (hc : NC 8 x (cellsN k s1 s2 s3 run st tg)) (hs1 : IsE s1 (ss names)) (hs2 : IsE s2 es) (hr : RiseL names) (hgt : ∀ t ∈ names, GoodT t) (hk : F2 (NC 7) kids es) (hlen : names.length = kids.length) (hgk : ∀ y ∈ kids, Good 7 y) (hb : names.length < 10000) (hn : 20000 ≤ n)
    (hAt : ∀ (p : List UInt8) (H : VH), p.length < 200 → ∃ k' u1 u2 u3 run' st' tg' b, V.callD (vF P tab n) P false (.tup [AGN, (.flat .bool)]) 29 [.agg (cellsN k s1 s2 s3 run st tg), .str ⟨p.toArray⟩] H = some ((aggN k' u1 u2 u3 run' st' tg', b, ()), H) ∧ ResN 8 (atN 8 x p) (cellsN k' u1 u2 u3 run' st' tg') b)
    (hS : ∀ {y : Nd} {c1 c2 : List V} (H : VH), NC 8 y c1 → NC 8 y c2 → V.callD (vF P tab n) P false (.one (.flat .bool)) 22 [.agg c1, .agg c2] H = some (true, H)) :
    ∀ (m i : Nat) (H : VH), H[i0]? = some (.row NT (cellsN k s1 s2 s3 run st tg)) → i ≤ names.length → names.length < i + m → ∃ H', L8_0 n m i0 (i : Int) H = some (.bool true, H') := by
  have hcl := hc.cl
  intro m
  induction m with
  | zero => intros; omega
  | succ m ih =>
    intro i H h0 hin hm
    rw [L8_0_eq, n1 h0, Option.bind_some, hs1.len, ss_len]
    by_cases c : i < names.length
    · have hd : decide ((i : Int) < (names.length : Int)) = true := decide_eq_true (by omega)
      obtain ⟨nm, en⟩ := get_of c
      obtain ⟨y, ek⟩ := get_of (l := kids) (i := i) (by omega)
      obtain ⟨yc, ec, g2⟩ := hk.get ek
      have hgy := hgk y (List.mem_of_getElem? ek)
      have hnm := hgt nm (List.mem_of_getElem? en)
      have len1 := hnm.2.2
      have ixn : ixV 1 s1 (i : Int) = some (.fz [.str ⟨nm.toArray⟩]) := hs1.ix (by simp [ss, en]) 1
      obtain ⟨k2, names2, kids2, data2, run2, st2, tg2⟩ := y
      have g2' := g2
      obtain ⟨v1, v2, v3, es2, rfl, q1, q2, q3, q4, q5, q6, q7, q8⟩ := g2
      have ixk : ixV 7 s2 (i : Int) = some (.fz (cellsN k2 v1 v2 v3 run2 st2 tg2)) := hs2.ix ec 7
      have stl : ∀ {K : VH}, K[i0]? = some (.row NT (cellsN k s1 s2 s3 run st tg)) → ∀ L : Held, (∀ z ∈ L, Nh i0 k s1 s2 s3 run st tg z) → V.stays K L = true := by
        intro K g L
        induction L with
        | nil => intro _; rfl
        | cons z L ih => intro hL; rw [nst g (hL z (List.mem_cons_self ..)), ih (fun y hy => hL y (List.mem_cons_of_mem _ hy))]
      have sl : ∀ {K : VH}, K[i0]? = some (.row NT (cellsN k s1 s2 s3 run st tg)) → (K ++ [VO.slot])[i0]? = some (.row NT (cellsN k s1 s2 s3 run st tg)) := fun g => by rw [List.getElem?_append_left (lt_of_ob g)]; exact g
      have h0s := sl h0
      rw [hd, cond_true, na h0s, Option.bind_some, n1 h0s, Option.bind_some, ixn, Option.bind_some, ld_fzs, Option.bind_some]
      refine cex (Q := fun z : VRes => ∃ H', z = some (.bool true, H')) (cl29 hcl _) ?_
      obtain ⟨k', u1, u2, u3, run', st', tg', b, r1, r2⟩ := hAt nm [] (by omega)
      obtain ⟨hb1, hz⟩ := at_some r2 (atN_one (d := 7) (by rw [hN]; exact hr) (by rw [hN]; exact en) (by rw [hK]; exact ek) hnm)
      subst hb1
      have r1' : V.callD (vF P tab n) P false (.tup [AGN, (.flat .bool)]) 29 [.agg [.int .u8 (k : Int), .sl 9 s1, .sl 27 s2, .sl 5 s3, .bool run, .flt .f64 st, .str ⟨tg.toArray⟩], .str ⟨nm.toArray⟩] [] = some ((aggN k' u1 u2 u3 run' st' tg', true, ()), []) := r1
      rw [r1', Option.bind_some]
      unfold aggN
      simp only
      refine cex (Q := fun z : VRes => ∃ H', z = some (.bool true, H')) (stl h0s _ (by simp [hj, heldOf, Nh])) ?_
      obtain ⟨H7, H2, f0, f1, f2, f3⟩ := slotB H k' u1 u2 u3 run' st' tg'
      rw [f0, Option.bind_some, f1, Option.bind_some]
      have h02 := f3 _ _ h0
      have h02s := sl h02
      rw [na h02s, Option.bind_some, n1 h02s, Option.bind_some, ixn, Option.bind_some, ld_fzs, Option.bind_some, catS_of nm [47] (by simp; omega), Option.bind_some]
      refine cex (Q := fun z : VRes => ∃ H', z = some (.bool true, H')) (cl29 hcl _) ?_
      obtain ⟨k3, w1, w2, w3, run3, st3, tg3, b3, t1, t2⟩ := hAt (nm ++ [47]) [] (by simp; omega)
      have hb3 := at_none t2 (atN_end (d := 7) hnm)
      subst hb3
      have t1' : V.callD (vF P tab n) P false (.tup [AGN, (.flat .bool)]) 29 [.agg [.int .u8 (k : Int), .sl 9 s1, .sl 27 s2, .sl 5 s3, .bool run, .flt .f64 st, .str ⟨tg.toArray⟩], .str ⟨(nm ++ [47]).toArray⟩] [] = some ((aggN k3 w1 w2 w3 run3 st3 tg3, false, ()), []) := t1
      rw [t1', Option.bind_some]
      unfold aggN
      simp only
      refine cex (Q := fun z : VRes => ∃ H', z = some (.bool true, H')) (stl h02s _ (by simp [hj, heldOf, Nh])) ?_
      obtain ⟨H8, H3, f4, f5, f6, f7⟩ := slotB H2 k3 w1 w2 w3 run3 st3 tg3
      rw [f4, Option.bind_some, f5, Option.bind_some, Bool.not_true, cond_false, cond_false, na (f7 _ _ f2), Option.bind_some, n2 (f7 _ _ h02), Option.bind_some, ixk, Option.bind_some, ld_fzn, Option.bind_some]
      simp only
      have hs := hS H3 hz (g2'.le (D := 8) (by omega))
      have hs' : V.callD (vF P tab n) P false (.one (.flat .bool)) 22 [.agg [.int .u8 (k' : Int), .sl 9 u1, .sl 27 u2, .sl 5 u3, .bool run', .flt .f64 st', .str ⟨tg'.toArray⟩], .agg [.int .u8 (k2 : Int), .sl 9 v1, .sl 27 v2, .sl 5 v3, .bool run2, .flt .f64 st2, .str ⟨tg2.toArray⟩]] H3 = some (true, H3) := hs
      rw [hs', Option.bind_some]
      simp only [Bool.not_true, cond_false]
      rw [show (0 : Int) = ((0 : Nat) : Int) from rfl]
      exact l81 hN hK hcl hs1 hs2 hr hgt hAt hS (by omega) en ek ec q1 q2 q3 hgy q5 (Q := fun z : VRes => ∃ H', z = some (.bool true, H')) (fun H h => ih (i + 1) H h (by omega) (by omega)) n 0 H3 (f7 _ _ h02) (by omega) (by omega)
    · have hd : decide ((i : Int) < (names.length : Int)) = false := decide_eq_false (by omega)
      rw [hd, cond_false, na h0, Option.bind_some]
      simp only
      obtain ⟨k', u1, u2, u3, run', st', tg', b, r1, r2⟩ := hAt [] H (by simp)
      obtain ⟨hb1, hz⟩ := at_some r2 (atN_nil 8 x)
      subst hb1
      have r1' : V.callD (vF P tab n) P false (.tup [AGN, (.flat .bool)]) 29 [.agg [.int .u8 (k : Int), .sl 9 s1, .sl 27 s2, .sl 5 s3, .bool run, .flt .f64 st, .str ⟨tg.toArray⟩], .str ⟨#[]⟩] H = some ((aggN k' u1 u2 u3 run' st' tg', true, ()), H) := r1
      rw [r1', Option.bind_some]
      unfold aggN
      simp only
      obtain ⟨H1, a1, a2, a3⟩ := bxD H k' u1 u2 u3 run' st' tg'
      rw [a1, Option.bind_some, cond_true, na a2, Option.bind_some, na (a3.ob h0 (by simp)), Option.bind_some]
      simp only
      have hs := hS H1 hz hc
      have hs' : V.callD (vF P tab n) P false (.one (.flat .bool)) 22 [.agg [.int .u8 (k' : Int), .sl 9 u1, .sl 27 u2, .sl 5 u3, .bool run', .flt .f64 st', .str ⟨tg'.toArray⟩], .agg [.int .u8 (k : Int), .sl 9 s1, .sl 27 s2, .sl 5 s3, .bool run, .flt .f64 st, .str ⟨tg.toArray⟩]] H1 = some (true, H1) := hs
      rw [hs', Option.bind_some]
      exact ⟨_, rfl⟩
end Go.Proofs.Ytmpobijkbmljdaa
