import Derived.Test.YtmpobijkbmljdaaB05x
set_option maxRecDepth 100000
set_option linter.unusedVariables false
set_option linter.unusedSimpArgs false
namespace Go.Proofs.Ytmpobijkbmljdaa
open Go.Proofs.Ytmpobijkbmljdaa.Sh Go.Proofs.Ytmpobijkbmljdaa.Sh.V Go.RowKit
theorem leaf_c (n : Nat) (H : VH) {β : Type} (f : Bool × VH → Option β) : ((V.callD (vF P tab (n + 60)) P false (.one (.flat .bool)) 9 [] H).bind f) = f (true, H) := by rw [callD_bool (leaf_ok n H)]; rfl
theorem same1 (x y : Nat) : sameN (0 + 1) (.mk 2 [] [] [] false x []) (.mk 2 [] [] [] false y []) = decide (canonB x = canonB y) := by
  unfold sameN
  cases decide (canonB x = canonB y) <;> rfl
theorem fileN {x : Nat} (hx : x < 18446744073709551616) : NC (0 + 1) (.mk 2 [] [] [] false x []) (cellsN 2 .nil .nil .nil false x []) := ⟨.nil, .nil, .nil, [], rfl, .nil, .nil, .nil, .nil, by simp, by simp, by simp, hx⟩
theorem treeSame_law (us : List V) (h : HasAs P [35, 35, 40, 40] us) : ∃ n H', vF P tab n 6 us [] = some (.bool true, H') := by
  match us, h with
  | [u0, u1, u2, u3], ⟨h0, h1, h2, h3, _⟩ =>
    obtain ⟨d0, s, es, rfl, i1, i2, i3⟩ := hasA_sl (e := 55) (by kernel_rfl) h0
    obtain ⟨d1, t, fs, rfl, j1, j2, j3⟩ := hasA_sl (e := 55) (by kernel_rfl) h1
    obtain ⟨x, rfl, hx⟩ := hasA_int (k := .u64) (by kernel_rfl) h2
    obtain ⟨y, rfl, hy⟩ := hasA_int (k := .u64) (by kernel_rfl) h3
    obtain ⟨x1, x2⟩ := wf_u64 hx
    obtain ⟨y1, y2⟩ := wf_u64 hy
    obtain ⟨x, rfl⟩ : ∃ k : Nat, x = (k : Int) := ⟨x.toNat, by omega⟩
    obtain ⟨y, rfl⟩ : ∃ k : Nat, y = (k : Int) := ⟨y.toNat, by omega⟩
    obtain ⟨N, hN, hN1, hN2⟩ : ∃ N, 30000 ≤ N ∧ es.length < N ∧ fs.length < N := ⟨30000 + es.length + fs.length, by omega, by omega, by omega⟩
    refine ⟨N + 101, ?_⟩
    rw [vF_body rfl, f6_eq, leaf_c (N + 40)]
    simp only [Bool.not_true, cond_false]
    obtain ⟨b1, e1, e2⟩ := c19 (N + 99) i1 (fun y hy => mw_of (i3 y hy).1) (by omega) i2 []
    rw [e1, Option.bind_some]
    cases b1 with
    | false => simp only [Bool.not_false, cond_true]; rw [leaf_c (N + 40)]; exact ⟨_, rfl⟩
    | true =>
      simp only [Bool.not_true, cond_false]
      obtain ⟨b2, e3, e4⟩ := c19 (N + 99) j1 (fun y hy => mw_of (j3 y hy).1) (by omega) j2 []
      rw [e3, Option.bind_some]
      cases b2 with
      | false => simp only [Bool.not_false, cond_true]; rw [leaf_c (N + 40)]; exact ⟨_, rfl⟩
      | true =>
        simp only [Bool.not_true, cond_false]
        obtain ⟨nd, k, p1, p2, p3, run, st, tg, g1, g2⟩ := c20 (N + 91) (by omega) i1 (e2 rfl).1 []
        obtain ⟨md, k', q1, q2, q3, run', st', tg', g3, g4⟩ := c20 (N + 91) (by omega) j1 (e4 rfl).1 []
        rw [g1, Option.bind_some, g3, Option.bind_some]
        unfold aggN
        simp only
        have hx := fileN (x := x) (by omega)
        have hy := fileN (x := y) (by omega)
        obtain ⟨K, hK⟩ : ∃ K : VH, K = [.row NT (cellsN k p1 p2 p3 run st tg), .row NT (cellsN k' q1 q2 q3 run' st' tg'), .row NT (cellsN 2 .nil .nil .nil false x []), .row NT (cellsN 2 .nil .nil .nil false y [])] := ⟨_, rfl⟩
        have l0 : List.length ([] : VH) = 0 := rfl
        have l1 : (List.length (([] ++ [.row (27 + boxK) [.int .u8 0, .sl 9 .nil, .sl 27 .nil, .sl 5 .nil, .bool false, .flt .f64 0, .str ⟨#[]⟩]]) : VH)) = 1 := rfl
        have s1 : stV (List.append (α := VO) ([] ++ [.row (27 + boxK) [.int .u8 0, .sl 9 .nil, .sl 27 .nil, .sl 5 .nil, .bool false, .flt .f64 0, .str ⟨#[]⟩]]) [.row (27 + boxK) [.int .u8 0, .sl 9 .nil, .sl 27 .nil, .sl 5 .nil, .bool false, .flt .f64 0, .str ⟨#[]⟩]]) (.ob (List.length ([] : VH)) 0) [.int .u8 (k : Int), .sl 9 p1, .sl 27 p2, .sl 5 p3, .bool run, .flt .f64 st, .str ⟨tg.toArray⟩] = some [.row NT (cellsN k p1 p2 p3 run st tg), .row NT ZN] := rfl
        have s2 : stV [.row NT (cellsN k p1 p2 p3 run st tg), .row NT ZN] (.ob 1 0) [.int .u8 (k' : Int), .sl 9 q1, .sl 27 q2, .sl 5 q3, .bool run', .flt .f64 st', .str ⟨tg'.toArray⟩] = some [.row NT (cellsN k p1 p2 p3 run st tg), .row NT (cellsN k' q1 q2 q3 run' st' tg')] := rfl
        obtain ⟨K2, hK2⟩ : ∃ K2 : VH, K2 = [.row NT (cellsN k p1 p2 p3 run st tg), .row NT (cellsN k' q1 q2 q3 run' st' tg')] := ⟨_, rfl⟩
        have l2 : K2.length = 2 := by rw [hK2]; rfl
        have l3 : (List.length ((K2 ++ [.row (27 + boxK) [.int .u8 0, .sl 9 .nil, .sl 27 .nil, .sl 5 .nil, .bool false, .flt .f64 0, .str ⟨#[]⟩]]) : VH)) = 3 := by rw [hK2]; rfl
        have s3 : ∃ K3, stV (List.append (α := VO) (K2 ++ [.row (27 + boxK) [.int .u8 0, .sl 9 .nil, .sl 27 .nil, .sl 5 .nil, .bool false, .flt .f64 0, .str ⟨#[]⟩]]) [.row (27 + boxK) [.int .u8 0, .sl 9 .nil, .sl 27 .nil, .sl 5 .nil, .bool false, .flt .f64 0, .str ⟨#[]⟩]]) (.ob 2 0) [.int .u8 2, .sl 9 .nil, .sl 27 .nil, .sl 5 .nil, .bool false, .flt .f64 x, .str ⟨#[]⟩] = some K3 ∧ stV K3 (.ob 3 0) [.int .u8 2, .sl 9 .nil, .sl 27 .nil, .sl 5 .nil, .bool false, .flt .f64 y, .str ⟨#[]⟩] = some K := by
          rw [hK2, hK]
          exact ⟨_, rfl, rfl⟩
        obtain ⟨K3, s3, s4⟩ := s3
        rw [s1, Option.bind_some, l1, s2, Option.bind_some, ← hK2, ofbits, Option.bind_some, ofbits, Option.bind_some, l2, s3, Option.bind_some, l3, s4, Option.bind_some]
        simp only [l0]
        have k0 : K[0]? = some (.row NT (cellsN k p1 p2 p3 run st tg)) := by rw [hK]; rfl
        have k1 : K[1]? = some (.row NT (cellsN k' q1 q2 q3 run' st' tg')) := by rw [hK]; rfl
        have k2 : K[2]? = some (.row NT (cellsN 2 .nil .nil .nil false x [])) := by rw [hK]; rfl
        have k3 : K[3]? = some (.row NT (cellsN 2 .nil .nil .nil false y [])) := by rw [hK]; rfl
        have stl : ∀ L : Held, (∀ z ∈ L, Nh 0 k p1 p2 p3 run st tg z ∨ Nh 1 k' q1 q2 q3 run' st' tg' z ∨ Nh 2 2 .nil .nil .nil false x [] z ∨ Nh 3 2 .nil .nil .nil false y [] z) → V.stays K L = true := by
          intro L
          induction L with
          | nil => intro _; rfl
          | cons z L ih =>
            intro hL
            rcases hL z (List.mem_cons_self ..) with h | h | h | h
            · rw [nst k0 h, ih (fun y hy => hL y (List.mem_cons_of_mem _ hy))]
            · rw [nst k1 h, ih (fun y hy => hL y (List.mem_cons_of_mem _ hy))]
            · rw [nst k2 h, ih (fun y hy => hL y (List.mem_cons_of_mem _ hy))]
            · rw [nst k3 h, ih (fun y hy => hL y (List.mem_cons_of_mem _ hy))]
        clear hK hK2 s1 s2 s3 s4 l0 l1 l2 l3 g1 g3 e1 e3
        have v1 := e21 (N + 74) (by omega) 8 K g2 g4
        rw [show N + 74 + 10 + 2 * 8 = N + 100 by omega] at v1
        have v2 := e22 (N + 92) (by omega) 8 K g2 g4
        rw [show N + 92 + 8 = N + 100 by omega] at v2
        have v3 := e21 (N + 88) (by omega) (0 + 1) K hx hy
        rw [show N + 88 + 10 + 2 * (0 + 1) = N + 100 by omega, same1] at v3
        generalize sameN 8 nd md = R at v1 v2
        have v1' : V.callD (vF P tab (N + 100)) P false (.one (.flat .bool)) 21 [.agg [.int .u8 (k : Int), .sl 9 p1, .sl 27 p2, .sl 5 p3, .bool run, .flt .f64 st, .str ⟨tg.toArray⟩], .agg [.int .u8 (k' : Int), .sl 9 q1, .sl 27 q2, .sl 5 q3, .bool run', .flt .f64 st', .str ⟨tg'.toArray⟩]] K = some (R, K) := callD_bool v1
        have v2' : V.callD (vF P tab (N + 100)) P false (.one (.flat .bool)) 22 [.agg [.int .u8 (k : Int), .sl 9 p1, .sl 27 p2, .sl 5 p3, .bool run, .flt .f64 st, .str ⟨tg.toArray⟩], .agg [.int .u8 (k' : Int), .sl 9 q1, .sl 27 q2, .sl 5 q3, .bool run', .flt .f64 st', .str ⟨tg'.toArray⟩]] K = some (R, K) := callD_bool v2
        have v3' : V.callD (vF P tab (N + 100)) P false (.one (.flat .bool)) 21 [.agg [.int .u8 ((2 : Nat) : Int), .sl 9 .nil, .sl 27 .nil, .sl 5 .nil, .bool false, .flt .f64 x, .str ⟨([] : List UInt8).toArray⟩], .agg [.int .u8 ((2 : Nat) : Int), .sl 9 .nil, .sl 27 .nil, .sl 5 .nil, .bool false, .flt .f64 y, .str ⟨([] : List UInt8).toArray⟩]] K = some (decide (canonB x = canonB y), K) := callD_bool v3
        rw [na k0, Option.bind_some, na k1, Option.bind_some]
        simp only [Option.bind_some]
        rw [v1', Option.bind_some]
        simp only
        refine cex (Q := fun z : VRes => ∃ H', z = some (.bool true, H')) (stl _ (by simp [Nh])) ?_
        rw [v2', Option.bind_some]
        simp only
        refine cex (Q := fun z : VRes => ∃ H', z = some (.bool true, H')) (stl _ (by simp [Nh])) ?_
        rw [beq_self_eq_true, cond_true, na k2, Option.bind_some, na k3, Option.bind_some, n5 k2, Option.bind_some, n5 k3, Option.bind_some]
        simp only
        rw [v3', Option.bind_some]
        simp only
        refine cex (Q := fun z : VRes => ∃ H', z = some (.bool true, H')) (stl _ (by simp [Nh])) ?_
        rw [c24 (N + 99) (by omega) K, Option.bind_some]
        simp only
        refine cex (Q := fun z : VRes => ∃ H', z = some (.bool true, H')) (stl _ (by simp [Nh])) ?_
        rw [c24 (N + 99) (by omega) K, Option.bind_some]
        simp only
        refine cex (Q := fun z : VRes => ∃ H', z = some (.bool true, H')) (stl _ (by simp [Nh])) ?_
        refine ⟨K, ?_⟩
        have : (decide (canonB x = canonB y) == (((canonB x : Nat) : Int) == ((canonB y : Nat) : Int))) = true := by
          by_cases hc : canonB x = canonB y
          · rw [hc]; simp
          · rw [decide_eq_false hc, show (((canonB x : Nat) : Int) == ((canonB y : Nat) : Int)) = false by rw [beq_eq_false_iff_ne]; omega]; rfl
        rw [this]
end Go.Proofs.Ytmpobijkbmljdaa
