import Derived.Test.YtmpobijkbmljdaaB05bm
set_option maxRecDepth 100000
set_option linter.unusedVariables false
set_option linter.unusedSimpArgs false
namespace Go.Proofs.Ytmpobijkbmljdaa
open Go.Proofs.Ytmpobijkbmljdaa.Sh Go.Proofs.Ytmpobijkbmljdaa.Sh.V Go.RowKit
theorem slotB (H : VH) (k : Nat) (s1 s2 s3 : VS) (run : Bool) (st : Nat) (tg : List UInt8) : ∃ H7 H', slotD (H ++ [.slot]) H.length (27 + boxK) [.int .u8 0, .sl 9 .nil, .sl 27 .nil, .sl 5 .nil, .bool false, .flt .f64 0, .str ⟨#[]⟩] = some H7 ∧ stV H7 (.ob H.length 0) [.int .u8 (k : Int), .sl 9 s1, .sl 27 s2, .sl 5 s3, .bool run, .flt .f64 st, .str ⟨tg.toArray⟩] = some H' ∧ H'[H.length]? = some (.row NT (cellsN k s1 s2 s3 run st tg)) ∧ (∀ (i : Nat) c, H[i]? = some c → H'[i]? = some c) := by
  have hs : (H ++ [VO.slot])[H.length]? = some .slot := by simp
  have h2 : ((H ++ [VO.slot]).set H.length (.row NT ZN))[H.length]? = some (.row NT ZN) := by rw [List.getElem?_set_self (by simp)]
  refine ⟨_, _, slotD_of hs _ _, st_row h2 (by simp) rfl, ?_, fun i c h => ?_⟩
  · rw [List.getElem?_set_self (by simp)]; rfl
  · have hi := (List.getElem?_eq_some_iff.1 h).1
    rw [List.getElem?_set_ne (by omega), List.getElem?_set_ne (by omega), List.getElem?_append_left hi]
    exact h
theorem cl29 {cs : List V} (h : cs.all closed1 = true) (a : ByteArray) : (List.all [V.agg cs, .str a] closedC && true) = true := by
  show ((cs.all closed1 && (true && true)) && true) = true
  rw [h]; rfl
section
variable {n : Nat} {i0 k : Nat} {s1 s2 s3 : VS} {run : Bool} {st : Nat} {tg : List UInt8} {names : List (List UInt8)} {kids : List Nd} {data : List UInt8} {es : List (List V)}
theorem l81 {x : Nd} (hN : namesN x = names) (hK : kidsN x = kids) (hcl : (cellsN k s1 s2 s3 run st tg).all closed1 = true) (hs1 : IsE s1 (ss names)) (hs2 : IsE s2 es) (hr : RiseL names) (hgt : ∀ t ∈ names, GoodT t)
    (hAt : ∀ (p : List UInt8) (H : VH), p.length < 200 → ∃ k' u1 u2 u3 run' st' tg' b, V.callD (vF P tab n) P false (.tup [AGN, (.flat .bool)]) 29 [.agg (cellsN k s1 s2 s3 run st tg), .str ⟨p.toArray⟩] H = some ((aggN k' u1 u2 u3 run' st' tg', b, ()), H) ∧ ResN 8 (atN 8 x p) (cellsN k' u1 u2 u3 run' st' tg') b)
    (hS : ∀ {y : Nd} {c1 c2 : List V} (H : VH), NC 8 y c1 → NC 8 y c2 → V.callD (vF P tab n) P false (.one (.flat .bool)) 22 [.agg c1, .agg c2] H = some (true, H))
    {i m0 : Nat} (hi9 : i < 100000) {nm : List UInt8} {k2 : Nat} {v1 v2 v3 : VS} {run2 : Bool} {st2 : Nat} {tg2 : List UInt8} {names2 : List (List UInt8)} {kids2 : List Nd} {data2 : List UInt8} {es2 : List (List V)} (en : names[i]? = some nm) (ek : kids[i]? = some (.mk k2 names2 kids2 data2 run2 st2 tg2)) (ec : es[i]? = some (cellsN k2 v1 v2 v3 run2 st2 tg2)) (hv1 : IsE v1 (ss names2)) (hv2 : IsE v2 es2) (hk2 : F2 (NC 6) kids2 es2) (hg2 : Good 7 (.mk k2 names2 kids2 data2 run2 st2 tg2)) (hb2 : names2.length < 10000) {Q : VRes → Prop}
    (hQ : ∀ H : VH, H[i0]? = some (.row NT (cellsN k s1 s2 s3 run st tg)) → Q (L8_0 n m0 i0 ((i + 1 : Nat) : Int) H)) :
    ∀ (m j : Nat) (H : VH), H[i0]? = some (.row NT (cellsN k s1 s2 s3 run st tg)) → j ≤ names2.length → names2.length < j + m → Q (L8_1 n m0 m i0 (i : Int) (j : Int) H) := by
  have hnm := hgt nm (List.mem_of_getElem? en)
  obtain ⟨hr2, hl2, hgt2, _⟩ := hg2
  have ixn : ixV 1 s1 (i : Int) = some (.fz [.str ⟨nm.toArray⟩]) := hs1.ix (by simp [ss, en]) 1
  have ixk : ixV 7 s2 (i : Int) = some (.fz (cellsN k2 v1 v2 v3 run2 st2 tg2)) := hs2.ix ec 7
  intro m
  induction m with
  | zero => intros; omega
  | succ m ih =>
    intro j H h0 hjn hm
    rw [L8_1_eq, n2 h0, Option.bind_some, ixk, Option.bind_some, at1, Option.bind_some, ld9, Option.bind_some, hv1.len, ss_len]
    by_cases c : j < names2.length
    · have hd : decide ((j : Int) < (names2.length : Int)) = true := decide_eq_true (by omega)
      obtain ⟨m2, em⟩ := get_of c
      obtain ⟨z, ez⟩ := get_of (l := kids2) (i := j) (by omega)
      obtain ⟨zc, g1, g2⟩ := hk2.get ez
      have hm2 := hgt2 m2 (List.mem_of_getElem? em)
      have h0s : (H ++ [VO.slot])[i0]? = some (.row NT (cellsN k s1 s2 s3 run st tg)) := by rw [List.getElem?_append_left (lt_of_ob h0)]; exact h0
      have ixm : ixV 1 v1 (j : Int) = some (.fz [.str ⟨m2.toArray⟩]) := hv1.ix (by simp [ss, em]) 1
      have len1 := hnm.2.2
      have len2 := hm2.2.2
      rw [hd, cond_true, na h0s, Option.bind_some, n1 h0s, Option.bind_some, ixn, Option.bind_some, ld_fzs, Option.bind_some, catS_of nm [47] (by simp; omega), Option.bind_some, n2 h0s, Option.bind_some, ixk, Option.bind_some, at1, Option.bind_some, ld9, Option.bind_some, ixm, Option.bind_some, ld_fzs, Option.bind_some, catS_of (nm ++ [47]) m2 (by simp; omega), Option.bind_some]
      have hst : ∀ L : Held, (∀ z ∈ L, Nh i0 k s1 s2 s3 run st tg z) → V.stays (H ++ [.slot]) L = true := by
        intro L
        induction L with
        | nil => intro _; rfl
        | cons z L ih => intro hL; rw [nst h0s (hL z (List.mem_cons_self ..)), ih (fun y hy => hL y (List.mem_cons_of_mem _ hy))]
      refine cex (Q := Q) (cl29 hcl _) ?_
      obtain ⟨k', u1, u2, u3, run', st', tg', b, r1, r2⟩ := hAt (nm ++ [47] ++ m2) [] (by simp; omega)
      have ho : atN 8 x (nm ++ [47] ++ m2) = some z := by
        rw [show nm ++ [47] ++ m2 = nm ++ 47 :: m2 by simp, atN_two (d := 7) (by rw [hN]; exact hr) (by rw [hN]; exact en) (by rw [hK]; exact ek) hnm hm2.1]
        exact atN_one (d := 6) hr2 em ez hm2
      obtain ⟨hb, hz⟩ := at_some r2 ho
      subst hb
      have r1' : V.callD (vF P tab n) P false (.tup [AGN, (.flat .bool)]) 29 [.agg [.int .u8 (k : Int), .sl 9 s1, .sl 27 s2, .sl 5 s3, .bool run, .flt .f64 st, .str ⟨tg.toArray⟩], .str ⟨(nm ++ [47] ++ m2).toArray⟩] [] = some ((aggN k' u1 u2 u3 run' st' tg', true, ()), []) := r1
      rw [r1', Option.bind_some]
      unfold aggN
      simp only
      refine cex (Q := Q) (hst _ (by simp [hj, heldOf, Nh])) ?_
      obtain ⟨H7, H2, f0, f1, f2, f3⟩ := slotB H k' u1 u2 u3 run' st' tg'
      rw [f0, Option.bind_some, f1, Option.bind_some]
      have h02 := f3 _ _ h0
      cases hz6 : z with
      | mk k3 n3' kd3 dt3 rn3 st3 tg3 =>
        rw [hz6] at g2 hz
        have g2' := g2
        obtain ⟨w1, w2, w3, es3, rfl, _⟩ := g2
        have ixz : ixV 7 v2 (j : Int) = some (.fz (cellsN k3 w1 w2 w3 rn3 st3 tg3)) := hv2.ix g1 7
        rw [Bool.not_true, cond_false, na f2, Option.bind_some, n2 h02, Option.bind_some, ixk, Option.bind_some, at2, Option.bind_some, ld27, Option.bind_some, ixz, Option.bind_some, ld_fzn, Option.bind_some]
        simp only
        have hs := hS H2 hz (g2'.le (D := 8) (by omega))
        have hs' : V.callD (vF P tab n) P false (.one (.flat .bool)) 22 [.agg [.int .u8 (k' : Int), .sl 9 u1, .sl 27 u2, .sl 5 u3, .bool run', .flt .f64 st', .str ⟨tg'.toArray⟩], .agg [.int .u8 (k3 : Int), .sl 9 w1, .sl 27 w2, .sl 5 w3, .bool rn3, .flt .f64 st3, .str ⟨tg3.toArray⟩]] H2 = some (true, H2) := hs
        rw [hs', Option.bind_some]
        simp only [Bool.not_true, cond_false]
        rw [inc_nat (by omega)]
        exact ih (j + 1) H2 h02 (by omega) (by omega)
    · have hd : decide ((j : Int) < (names2.length : Int)) = false := decide_eq_false (by omega)
      rw [hd, cond_false, inc_nat (by omega)]
      exact hQ H h0
end
end Go.Proofs.Ytmpobijkbmljdaa
