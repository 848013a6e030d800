import Derived.Test.YtmpobijkbmljdaaB05bj
set_option maxRecDepth 100000
set_option linter.unusedVariables false
set_option linter.unusedSimpArgs false
namespace Go.Proofs.Ytmpobijkbmljdaa
open Go.Proofs.Ytmpobijkbmljdaa.Sh Go.Proofs.Ytmpobijkbmljdaa.Sh.V Go.RowKit
theorem e29 (n D : Nat) (hn : 20000 ≤ n) {d : Nat} (hdD : d ≤ D) {x : Nd} {cs : List V} (p : List UInt8) (H : VH) (h : NC d x cs) (hg : Good d x) (hp : p.length < 200) : ∃ k u1 u2 u3 run st tg b, V.callD (vF P tab (n + 4)) P false (.tup [AGN, (.flat .bool)]) 29 [.agg cs, .str ⟨p.toArray⟩] H = some ((aggN k u1 u2 u3 run st tg, b, ()), H) ∧ ResN D (atN d x p) (cellsN k u1 u2 u3 run st tg) b := by
  have hm : ∃ H' k u1 u2 u3 run st tg b, bodyV P tab (vF P tab (n + 3)) (n + 3) 29 [.agg (cs.map strip1), .str ⟨p.toArray⟩] [] = some (.tup [.agg (cellsN k u1 u2 u3 run st tg), .bool b], H') ∧ ResN D (atN d x p) (cellsN k u1 u2 u3 run st tg) b := by
    have g := h.strip
    generalize cs.map strip1 = cs1 at g
    cases d with
    | zero => exact g.elim
    | succ d =>
      obtain ⟨k, names, kids, data, run, st, tg⟩ := x
      have g' := g
      obtain ⟨s1, s2, s3, es, rfl, _⟩ := g
      show ∃ H' k' u1 u2 u3 run' st' tg' b, bodyV P tab (vF P tab (n + 3)) (n + 3) 29 [.agg [.int .u8 (k : Int), .sl 9 s1, .sl 27 s2, .sl 5 s3, .bool run, .flt .f64 st, .str ⟨tg.toArray⟩], .str ⟨p.toArray⟩] [] = some (.tup [.agg (cellsN k' u1 u2 u3 run' st' tg'), .bool b], H') ∧ ResN D (atN (d + 1) (.mk k names kids data run st tg) p) (cellsN k' u1 u2 u3 run' st' tg') b
      rw [f29_eq]
      obtain ⟨K, hK⟩ : ∃ K : VH, K = [.row NT (cellsN k s1 s2 s3 run st tg), .row NT ZN] := ⟨_, rfl⟩
      have eK : (List.append (α := VO) ([] ++ [.row (27 + boxK) [.int .u8 (k : Int), .sl 9 s1, .sl 27 s2, .sl 5 s3, .bool run, .flt .f64 st, .str ⟨tg.toArray⟩]]) [.row (27 + boxK) [.int .u8 0, .sl 9 .nil, .sl 27 .nil, .sl 5 .nil, .bool false, .flt .f64 0, .str ⟨#[]⟩]]) = K := hK.symm
      have e0 : List.length ([] : VH) = 0 := rfl
      have e1 : (List.length (([] ++ [.row (27 + boxK) [.int .u8 (k : Int), .sl 9 s1, .sl 27 s2, .sl 5 s3, .bool run, .flt .f64 st, .str ⟨tg.toArray⟩]]) : VH)) = 1 := rfl
      rw [eK, e1]
      simp only [e0]
      have h0 : K[0]? = some (.row NT (cellsN k s1 s2 s3 run st tg)) := by rw [hK]; rfl
      have h1 : K[1]? = some (.row NT ZN) := by rw [hK]; rfl
      exact l29 n D hn (n + 3) (d + 1) hdD p g' hg hp (by omega) h0 h1 rfl
  obtain ⟨H', k, u1, u2, u3, run, st, tg, b, h1, h2⟩ := hm
  obtain ⟨h3, h4⟩ := h2.strip
  refine ⟨k, u1.strip, u2.strip, u3.strip, run, st, tg, b, callD_some (.tup [.agg (cellsN k u1.strip u2.strip u3.strip run st tg), .bool b]) (vF_lone (n := n + 3) (r := .tup [.agg (cellsN k u1 u2 u3 run st tg), .bool b]) (H1 := H') rfl ?_ h1 ?_) rfl, h3⟩
  · show (cs.all closed1 && _) = true
    rw [h.cl]; rfl
  · show ((cellsN k u1 u2 u3 run st tg).all closed1 && _) = true
    rw [h4]; rfl
end Go.Proofs.Ytmpobijkbmljdaa
