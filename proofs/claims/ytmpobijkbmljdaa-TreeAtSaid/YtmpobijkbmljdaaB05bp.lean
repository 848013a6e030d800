import Derived.Test.YtmpobijkbmljdaaB05bo
set_option maxRecDepth 100000
set_option linter.unusedVariables false
set_option linter.unusedSimpArgs false
namespace Go.Proofs.Ytmpobijkbmljdaa
open Go.Proofs.Ytmpobijkbmljdaa.Sh Go.Proofs.Ytmpobijkbmljdaa.Sh.V Go.RowKit
theorem leaf_c (n : Nat) (H : VH) {β : Type} (f : Bool × VH → Option β) : ((V.callD (vF P tab (n + 60)) P false (.one (.flat .bool)) 9 [] H).bind f) = f (true, H) := by rw [callD_bool (leaf_ok n H)]; rfl
theorem two_res {o : Option Nd} {c1 c2 : List V} {b1 b2 : Bool} (h1 : ResN 8 o c1 b1) (h2 : ResN 8 o c2 b2) : b1 = b2 ∧ ∃ y, NC 8 y c1 ∧ NC 8 y c2 := by
  cases o with
  | some y => exact ⟨h1.1.trans h2.1.symm, y, h1.2, h2.2⟩
  | none =>
    refine ⟨h1.1.trans h2.1.symm, .mk 0 [] [] [] false 0 [], ?_⟩
    have z : NC (0 + 1) (.mk 0 [] [] [] false 0 []) (cellsN 0 .nil .nil .nil false 0 []) := ⟨.nil, .nil, .nil, [], rfl, .nil, .nil, .nil, .nil, by simp, by simp, by simp, by decide⟩
    rw [h1.2, h2.2]
    exact ⟨z.ups 7, z.ups 7⟩
theorem treeAt_law (us : List V) (h : HasAs P [35, 9] us) : ∃ n H', vF P tab n 8 us [] = some (.bool true, H') := by
  match us, h with
  | [u0, u1], ⟨h0, h1, _⟩ =>
    obtain ⟨d0, s, es, rfl, i1, i2, i3⟩ := hasA_sl (e := 55) (by kernel_rfl) h0
    obtain ⟨p, rfl, _⟩ := hasA_str (by kernel_rfl) h1
    obtain ⟨N, hN, hN1⟩ : ∃ N, 30000 ≤ N ∧ es.length < N := ⟨30000 + es.length, by omega, by omega⟩
    refine ⟨N + 101, ?_⟩
    rw [vF_body rfl, f8_eq, leaf_c (N + 40)]
    simp only [Bool.not_true, cond_false]
    obtain ⟨b1, e1, e2⟩ := c19 (N + 99) i1 (fun y hy => mw_of (i3 y hy).1) (by omega) i2 []
    rw [e1, Option.bind_some]
    cases b1 with
    | false => simp only [Bool.not_false, cond_true]; rw [leaf_c (N + 40)]; exact ⟨_, rfl⟩
    | true =>
      simp only [Bool.not_true, cond_false]
      have z1 : (((⟨p.toArray⟩ : ByteArray).size : Nat) : Int) = (p.length : Int) := by simp [ByteArray.size]
      rw [z1]
      by_cases hp : 60 < p.length
      · rw [decide_eq_true (by omega), cond_true, leaf_c (N + 40)]
        exact ⟨_, rfl⟩
      have hd : decide ((p.length : Int) > 60) = false := decide_eq_false (by omega)
      rw [hd, cond_false]
      obtain ⟨nd, k, p1, p2, p3, run, st, tg, g1, g2, g3⟩ := c20 (N + 91) (by omega) i1 (e2 rfl).1 []
      rw [g1, Option.bind_some]
      unfold aggN
      simp only
      obtain ⟨H1, a1, a2, a3⟩ := bxD [] k p1 p2 p3 run st tg
      have e0 : List.length ([] : VH) = 0 := rfl
      rw [a1, Option.bind_some]
      rw [e0] at a2
      simp only [e0]
      rw [na a2, Option.bind_some]
      simp only
      have hAt : ∀ (p : List UInt8) (H : VH), p.length < 200 → ∃ k' u1 u2 u3 run' st' tg' b, V.callD (vF P tab (N + 100)) P false (.tup [AGN, (.flat .bool)]) 29 [.agg (cellsN k p1 p2 p3 run st tg), .str ⟨p.toArray⟩] H = some ((aggN k' u1 u2 u3 run' st' tg', b, ()), H) ∧ ResN 8 (atN 8 nd p) (cellsN k' u1 u2 u3 run' st' tg') b := fun p H hp => e29 (N + 96) 8 (by omega) (Nat.le_refl 8) p H g2 g3 hp
      have hS : ∀ {y : Nd} {c1 c2 : List V} (H : VH), NC 8 y c1 → NC 8 y c2 → V.callD (vF P tab (N + 100)) P false (.one (.flat .bool)) 22 [.agg c1, .agg c2] H = some (true, H) := fun {y c1 c2} H q1 q2 => by
        have := callD_bool (P := P) (e22 (N + 92) (by omega) 8 H q1 q2)
        rw [sameN_refl] at this
        exact this
      obtain ⟨k', u1, u2, u3, run', st', tg', b, r1, r2⟩ := hAt p H1 (by omega)
      have r1' : V.callD (vF P tab (N + 100)) P false (.tup [AGN, (.flat .bool)]) 29 [.agg [.int .u8 (k : Int), .sl 9 p1, .sl 27 p2, .sl 5 p3, .bool run, .flt .f64 st, .str ⟨tg.toArray⟩], .str ⟨p.toArray⟩] H1 = some ((aggN k' u1 u2 u3 run' st' tg', b, ()), H1) := r1
      rw [r1', Option.bind_some]
      unfold aggN
      simp only
      obtain ⟨H2, b1, b2, b3⟩ := bxD H1 k' u1 u2 u3 run' st' tg'
      rw [b1, Option.bind_some]
      have a22 := b3.ob a2 (by simp)
      rw [na a22, Option.bind_some]
      simp only
      obtain ⟨k3, w1, w2, w3, run3, st3, tg3, b', t1, t2⟩ := e30 (N + 92) 8 (by omega) 8 (Nat.le_refl 8) p H2 g2 g3 (by omega)
      have t1' : V.callD (vF P tab (N + 100)) P false (.tup [AGN, (.flat .bool)]) 30 [.agg [.int .u8 (k : Int), .sl 9 p1, .sl 27 p2, .sl 5 p3, .bool run, .flt .f64 st, .str ⟨tg.toArray⟩], .str ⟨p.toArray⟩] H2 = some ((aggN k3 w1 w2 w3 run3 st3 tg3, b', ()), H2) := t1
      rw [t1', Option.bind_some]
      unfold aggN
      simp only
      obtain ⟨H3, c1, c2, c3⟩ := bxD H2 k3 w1 w2 w3 run3 st3 tg3
      rw [c1, Option.bind_some]
      obtain ⟨hbb, y, hy1, hy2⟩ := two_res r2 t2
      subst hbb
      rw [show (b == b) = true from beq_self_eq_true b, Bool.not_true, cond_false, na (c3.ob b2 (by simp)), Option.bind_some, na c2, Option.bind_some]
      simp only
      have hs := hS H3 hy1 hy2
      have hs' : V.callD (vF P tab (N + 100)) P false (.one (.flat .bool)) 22 [.agg [.int .u8 (k' : Int), .sl 9 u1, .sl 27 u2, .sl 5 u3, .bool run', .flt .f64 st', .str ⟨tg'.toArray⟩], .agg [.int .u8 (k3 : Int), .sl 9 w1, .sl 27 w2, .sl 5 w3, .bool run3, .flt .f64 st3, .str ⟨tg3.toArray⟩]] H3 = some (true, H3) := hs
      rw [hs', Option.bind_some]
      simp only [Bool.not_true, cond_false]
      obtain ⟨kk, names, kids, data, rn, sst, ttg⟩ := nd
      have g2' := g2
      obtain ⟨s1, s2, s3, es2, ecells, q1, q2, q3, q4, q5, q6, q7, q8⟩ := g2
      obtain ⟨hr, hlen, hgt, hgk⟩ := g3
      simp only [cellsN, List.cons.injEq, V.int.injEq, V.sl.injEq, V.bool.injEq, V.flt.injEq, V.str.injEq, true_and, and_true] at ecells
      obtain ⟨_, f1, f2, f3, _⟩ := ecells
      subst f1 f2 f3
      rw [show (0 : Int) = ((0 : Nat) : Int) from rfl]
      exact l80 (n := N + 100) (names := names) (kids := kids) rfl rfl g2' q1 q2 hr hgt q3 hlen hgk q5 (by omega) hAt hS (N + 100) 0 H3 (c3.ob a22 (by simp)) (by omega) (by omega)
end Go.Proofs.Ytmpobijkbmljdaa
