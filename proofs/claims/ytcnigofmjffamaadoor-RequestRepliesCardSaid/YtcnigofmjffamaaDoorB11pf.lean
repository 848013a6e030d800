import Derived.Test.YtcnigofmjffamaaDoorB11pe
import Derived.Test.YtcnigofmjffamaaDoorB11n
set_option maxRecDepth 100000
set_option linter.unusedVariables false
set_option linter.unusedSimpArgs false
namespace Go.Proofs.YtcnigofmjffamaaDoor
open Go.Proofs.YtcnigofmjffamaaDoor.Sh Go.Proofs.YtcnigofmjffamaaDoor.Sh.V Go.RowKit
theorem cells5 : P.cellsOf 5 = 1 := by kernel_rfl
theorem bxN (H : VH) (r : PP) (s1 s2 : VS) : ∃ H', stV (H ++ [.row (66 + boxK) [.int .i64 0, .bool false, .int .i64 0, .flt .f64 0, .sl 5 .nil, .sl 9 .nil]]) (.ob H.length 0) [.int .i64 r.e, .bool r.is, .int .i64 r.n, .flt .f64 r.st, .sl 5 s1, .sl 9 s2] = some H' ∧ H'[H.length]? = some (.row YT (cellsP r s1 s2)) ∧ Kp H H' [] ∧ H'.length = H.length + 1 := by
  obtain ⟨H', a, b, _, _⟩ := box_new H YT (zs := Z6y) (cs := cellsP r s1 s2) rfl rfl
  refine ⟨H', a, b, box_kp H YT (zs := Z6y) (cs := cellsP r s1 s2) rfl rfl a, ?_⟩
  have hp : (H ++ [VO.row YT Z6y])[H.length]? = some (.row YT Z6y) := by simp
  have a' : stV (H ++ [VO.row YT Z6y]) (.ob H.length 0) (cellsP r s1 s2) = some H' := a
  rw [st_row hp (by simp [cellsP]) rfl] at a'
  injection a' with a'
  rw [← a']; simp
theorem szs_le : ∀ (ls : List (List UInt8)), (∀ y ∈ ls, y.length ≤ 60) → szs ls ≤ 62 * ls.length
  | [], _ => by simp [szs]
  | y :: ls, h => by
    have := szs_le ls (fun z hz => h z (List.mem_cons_of_mem _ hz))
    have h1 := h y (List.mem_cons_self ..)
    have h2 := textI_len y
    unfold szs at this ⊢
    simp only [List.map_cons, List.flatten_cons, List.length_append, List.length_cons]
    omega
theorem encY_len (r : PP) : (encY r).length = 12 + (2 + r.sum.length) + (1 + szs r.paths) := by
  unfold encY
  simp only [List.length_append, wideI_len, numI_len, List.length_singleton, List.length_nil, textI_len, textsI_len]
theorem l9t (N : Nat) (hN : 100000 ≤ N) {r : PP} {k0 k2 : Nat} (he : r.e = (k0 : Int)) (h0 : k0 < 256) (hn : r.n = (k2 : Int)) (h2 : k2 < 65536) (h3 : r.st < 18446744073709551616) {s4 s5 s6 : VS} {p : List UInt8} (g4 : IsB s4 r.sum) (g5 : IsE s5 (ss r.paths)) (g6 : IsB s6 p) (l4 : r.sum.length ≤ 60) (l5 : r.paths.length ≤ 8) (l6 : p.length ≤ 200) (hp : ∀ y ∈ r.paths, y.length ≤ 60) :
    ∃ H', L9_0 (N + 100) 1 r.e r.is r.n (r.st : Int) s4 s5 s6 (r.paths.length : Int) [] = some (.bool true, H') := by
  have hd : decide ((r.paths.length : Int) < (r.paths.length : Int)) = false := decide_eq_false (by omega)
  have we : IntKind.wrap .i64 r.e = r.e := by rw [he]; exact i64_nat (by omega)
  have wn : IntKind.wrap .i64 r.n = r.n := by rw [hn]; exact i64_nat (by omega)
  have hz := szs_le r.paths hp
  have okr : OkY r := ⟨by omega, by omega, by omega, h3⟩
  have fr : FitY r := ⟨by omega, by omega, h3⟩
  have hel := encY_len r
  have hdec : decY (encY r) = (keepY r, 0) := decY_encY he h0 hn h2 h3 (by omega) (fun y hy => by have := hp y hy; omega) (by omega)
  have hk := decY_fit (encY r)
  rw [hdec] at hk
  simp only at hk
  rw [L9_0_eq, g5.len, ss_len, hd, cond_false, ofbits, Option.bind_some, we, wn]
  obtain ⟨H1, a1, a2, a3, a4⟩ := bxN [] r s4 s5
  rw [a1, Option.bind_some]
  have e0 : List.length ([] : VH) = 0 := rfl
  rw [e0] at a2 a4
  simp only [e0]
  rw [ya a2, Option.bind_some]
  simp only
  obtain ⟨s, b1, b2⟩ := e25y (N + 20) (by omega) okr g4 g5 H1
  have b1' : vF P tab (N + 100) 25 [.agg [.int .i64 r.e, .bool r.is, .int .i64 r.n, .flt .f64 r.st, .sl 5 s4, .sl 9 s5]] H1 = some (.sl 5 s, H1) := b1
  rw [callD_sl b1', Option.bind_some]
  simp only
  obtain ⟨t1, t2, c1, c2, c3⟩ := c26 (N + 85) (by omega) b2 (by omega) H1
  rw [c1, Option.bind_some]
  simp only
  rw [hdec] at c2 c3 ⊢
  simp only at c2 c3 ⊢
  obtain ⟨H2, d1, d2, d3, d4⟩ := bxN H1 (keepY r) t1 t2
  rw [d1, Option.bind_some]
  have a2' := d3.ob a2 (by simp)
  rw [ya a2', Option.bind_some]
  simp only
  obtain ⟨s', H3', f1, f2, f3, f4⟩ := e27y (N + 20) (by omega) okr g4 g5 H2
  obtain ⟨s2, H3, q1, q2, q3⟩ := callD_frzR cells5 f1 f2
  have q1' : V.callD (vF P tab (N + 100)) P true (.one (.flat (.slice 5))) 27 [.agg [.int .i64 r.e, .bool r.is, .int .i64 r.n, .flt .f64 r.st, .sl 5 s4, .sl 9 s5]] H2 = some (s2, H3) := q1
  have x0 : H3[0]? = some (.row YT (cellsP r s4 s5)) := q3.ob (f3.ob a2' (by simp)) (fun hm => by have := f4 _ hm; omega)
  have x1 : H3[H1.length]? = some (.row YT (cellsP (keepY r) t1 t2)) := q3.ob (f3.ob d2 (by simp)) (fun hm => by have := f4 _ hm; omega)
  have hl3 : H2.length ≤ H3.length := by
    have := f3.len; have := q3.len; omega
  obtain ⟨i, hi⟩ : ∃ i, i = H1.length := ⟨_, rfl⟩
  rw [← hi] at x1 d4 ⊢
  rw [q1', Option.bind_some]
  simp only
  rw [callD_bool (e18 (N + 99) b2 q2 (by rw [maxLen_eq]; omega) (by omega)), Option.bind_some]
  simp only [decide_true, Bool.not_true, cond_false]
  rw [show (((0 : Nat) : Int) != 0) = false from rfl, cond_false, ya x1, Option.bind_some, ya x0, Option.bind_some]
  simp only
  have u28 := callD_bool (P := P) (e28y (N + 95) hk c2 c3 g4 g5 (by omega) H3)
  have u29 := callD_bool (P := P) (e29y (N + 95) hk fr c2 c3 g4 g5 (by omega) H3)
  rw [sameY_keep] at u28 u29
  have u28' : V.callD (vF P tab (N + 100)) P false (.one (.flat .bool)) 28 [.agg [.int .i64 (keepY r).e, .bool (keepY r).is, .int .i64 (keepY r).n, .flt .f64 (keepY r).st, .sl 5 t1, .sl 9 t2], .agg [.int .i64 r.e, .bool r.is, .int .i64 r.n, .flt .f64 r.st, .sl 5 s4, .sl 9 s5]] H3 = some (true, H3) := u28
  have u29' : V.callD (vF P tab (N + 100)) P false (.one (.flat .bool)) 29 [.agg [.int .i64 (keepY r).e, .bool (keepY r).is, .int .i64 (keepY r).n, .flt .f64 (keepY r).st, .sl 5 t1, .sl 9 t2], .agg [.int .i64 r.e, .bool r.is, .int .i64 r.n, .flt .f64 r.st, .sl 5 s4, .sl 9 s5]] H3 = some (true, H3) := u29
  rw [u28', Option.bind_some]
  simp only [Bool.not_true, cond_false]
  rw [ya x1, Option.bind_some, ya x0, Option.bind_some]
  simp only
  rw [u29', Option.bind_some]
  simp only [Bool.not_true, cond_false]
  -- any bytes
  have fy := decY_fit p
  obtain ⟨v1, v2, w1, w2, w3⟩ := c26 (N + 85) (by omega) g6 (by omega) H3
  rw [w1, Option.bind_some]
  simp only
  obtain ⟨H4, m1, m2, m3, m4⟩ := bxN H3 (decY p).1 v1 v2
  rw [m1, Option.bind_some]
  obtain ⟨z1, z2, k1, k2', k3⟩ := c30 (N + 85) (by omega) g6 (by omega) H4
  rw [k1, Option.bind_some]
  simp only
  obtain ⟨H5, o1, o2, o3, o4⟩ := bxN H4 (decY p).1 z1 z2
  rw [o1, Option.bind_some]
  have y0' : H5[0]? = some (.row YT (cellsP r s4 s5)) := o3.ob (m3.ob x0 (by simp)) (by simp)
  have yj : H5[H3.length]? = some (.row YT (cellsP (decY p).1 v1 v2)) := o3.ob m2 (by simp)
  obtain ⟨j, hj⟩ : ∃ j, j = H3.length := ⟨_, rfl⟩
  obtain ⟨q, hq⟩ : ∃ q, q = H4.length := ⟨_, rfl⟩
  rw [← hj] at yj ⊢
  rw [← hq] at o2 ⊢
  obtain ⟨g, hg⟩ : ∃ g, g = (decY p).1 := ⟨_, rfl⟩
  rw [← hg] at fy w2 w3 k2' k3 o2 yj
  clear m1 m2 o1 w1 k1 q1 q1' u28 u29 u28' u29' hdec hk d1 d2 a1 b1 b1'
  rw [show ((((decY p).2 : Nat) : Int) == ((decY p).2 : Nat)) = true from beq_self_eq_true _, cond_true, ya yj, Option.bind_some, ya o2, Option.bind_some]
  simp only
  have st : ∀ L : Held, (∀ x ∈ L, Yh 0 r s4 s5 x ∨ Yh j g v1 v2 x ∨ Yh q g z1 z2 x) → V.stays H5 L = true := by
    intro L
    induction L with
    | nil => intro _; rfl
    | cons x L ih =>
      intro hL
      rcases hL x (List.mem_cons_self ..) with h | h | h
      · rw [yst y0' h, ih (fun y hy => hL y (List.mem_cons_of_mem _ hy))]
      · rw [yst yj h, ih (fun y hy => hL y (List.mem_cons_of_mem _ hy))]
      · rw [yst o2 h, ih (fun y hy => hL y (List.mem_cons_of_mem _ hy))]
  have t1' := callD_bool (P := P) (e29y (N + 95) fy fy w2 w3 k2' k3 (by omega) H5)
  rw [sameY_self] at t1'
  have t1'' : V.callD (vF P tab (N + 100)) P false (.one (.flat .bool)) 29 [.agg [.int .i64 g.e, .bool g.is, .int .i64 g.n, .flt .f64 g.st, .sl 5 v1, .sl 9 v2], .agg [.int .i64 g.e, .bool g.is, .int .i64 g.n, .flt .f64 g.st, .sl 5 z1, .sl 9 z2]] H5 = some (true, H5) := t1'
  have t2' : V.callD (vF P tab (N + 100)) P false (.one (.flat .bool)) 28 [.agg [.int .i64 g.e, .bool g.is, .int .i64 g.n, .flt .f64 g.st, .sl 5 v1, .sl 9 v2], .agg [.int .i64 r.e, .bool r.is, .int .i64 r.n, .flt .f64 r.st, .sl 5 s4, .sl 9 s5]] H5 = some (sameY g r, H5) := callD_bool (e28y (N + 95) fy w2 w3 g4 g5 (by omega) H5)
  have t3' : V.callD (vF P tab (N + 100)) P false (.one (.flat .bool)) 29 [.agg [.int .i64 g.e, .bool g.is, .int .i64 g.n, .flt .f64 g.st, .sl 5 z1, .sl 9 z2], .agg [.int .i64 r.e, .bool r.is, .int .i64 r.n, .flt .f64 r.st, .sl 5 s4, .sl 9 s5]] H5 = some (sameY g r, H5) := callD_bool (e29y (N + 95) fy fr k2' k3 g4 g5 (by omega) H5)
  refine cex (Q := fun z : VRes => ∃ H', z = some (.bool true, H')) (st _ (by simp [Yh])) ?_
  rw [t1'', Option.bind_some]
  simp only [cond_true]
  rw [ya yj, Option.bind_some, ya y0', Option.bind_some, ya o2, Option.bind_some]
  simp only [Option.bind_some]
  rw [t2', Option.bind_some]
  simp only
  refine cex (Q := fun z : VRes => ∃ H', z = some (.bool true, H')) (st _ (by simp [Yh])) ?_
  rw [t3', Option.bind_some]
  simp only
  refine cex (Q := fun z : VRes => ∃ H', z = some (.bool true, H')) (st _ (by simp [Yh])) ?_
  exact ⟨H5, by rw [beq_self_eq_true]⟩
theorem l9q (n : Nat) {Q : VRes → Prop} {s0 : Int} {s1 : Bool} {s2 s3 : Int} {s4 s5 s6 : VS} {paths : List (List UInt8)} (g5 : IsE s5 (ss paths)) (hl : paths.length < 1000) (H : VH) (hT : Q (some (.bool true, H))) (hr : (∀ y ∈ paths, y.length ≤ 60) → Q (L9_0 n 1 s0 s1 s2 s3 s4 s5 s6 (paths.length : Int) H)) :
    ∀ m i, i ≤ paths.length → paths.length < i + m → (∀ y ∈ paths.take i, y.length ≤ 60) → Q (L9_0 n m s0 s1 s2 s3 s4 s5 s6 (i : Int) H) := by
  intro m
  induction m with
  | zero => intro i h1 h2; omega
  | succ m ih =>
    intro i h1 h2 h3
    by_cases hi : i < paths.length
    · rw [L9_0_eq, g5.len, ss_len]
      have hdt : decide ((i : Int) < (paths.length : Int)) = true := decide_eq_true (by omega)
      obtain ⟨x, hx⟩ : ∃ x, paths[i]? = some x := ⟨_, List.getElem?_eq_getElem hi⟩
      rw [hdt, cond_true, rdS g5 hx]
      have z1 : (((⟨x.toArray⟩ : ByteArray).size : Nat) : Int) = (x.length : Int) := by simp [ByteArray.size]
      rw [z1]
      by_cases hc : 60 < x.length
      · have hd : decide ((x.length : Int) > 60) = true := decide_eq_true (by omega)
        rw [hd, cond_true]; exact hT
      · have hd : decide ((x.length : Int) > 60) = false := decide_eq_false (by omega)
        rw [hd, cond_false, inc_nat (by omega)]
        refine ih (i + 1) (by omega) (by omega) (fun y hy => ?_)
        rw [List.take_add_one, hx] at hy
        rcases List.mem_append.1 hy with h | h
        · exact h3 y h
        · have : y = x := by simpa using h
          rw [this]; omega
    · have hi : i = paths.length := by omega
      subst hi
      have hd : decide ((paths.length : Int) < (paths.length : Int)) = false := decide_eq_false (by omega)
      rw [List.take_length] at h3
      have := hr h3
      rw [L9_0_eq, g5.len, ss_len, hd, cond_false] at this ⊢
      exact this
theorem requestReplies_law (us : List V) (h : HasAs P [5, 4, 60, 62, 22, 28, 22] us) : ∃ n H', vF P tab n 9 us [] = some (.bool true, H') := by
  match us, h with
  | [u0, u1, u2, u3, u4, u5, u6], ⟨h0, h1, h2, h3, h4, h5, h6, _⟩ =>
    obtain ⟨x0, rfl, hx0⟩ := hasA_int (k := .u8) (by kernel_rfl) h0
    obtain ⟨b, rfl⟩ := hasA_bool (by kernel_rfl) h1
    obtain ⟨x2, rfl, hx2⟩ := hasA_int (k := .u16) (by kernel_rfl) h2
    obtain ⟨x3, rfl, hx3⟩ := hasA_int (k := .u64) (by kernel_rfl) h3
    obtain ⟨s4, sum, rfl, g4, _⟩ := hasA_bytes (e := 5) (by kernel_rfl) (by kernel_rfl) h4
    obtain ⟨s5, paths, rfl, g5, _⟩ := hasA_texts (e := 9) (by kernel_rfl) (by kernel_rfl) h5
    obtain ⟨s6, p, rfl, g6, _⟩ := hasA_bytes (e := 5) (by kernel_rfl) (by kernel_rfl) h6
    obtain ⟨y1, y2⟩ := wf_u8 hx0
    obtain ⟨k0, rfl⟩ : ∃ k : Nat, x0 = (k : Int) := ⟨x0.toNat, by omega⟩
    obtain ⟨y3, y4⟩ := wf_u16 hx2
    obtain ⟨k2, rfl⟩ : ∃ k : Nat, x2 = (k : Int) := ⟨x2.toNat, by omega⟩
    obtain ⟨y5, y6⟩ := wf_u64 hx3
    obtain ⟨k3, rfl⟩ : ∃ k : Nat, x3 = (k : Int) := ⟨x3.toNat, by omega⟩
    obtain ⟨N, hN⟩ : ∃ N, 100000 ≤ N := ⟨100000, Nat.le_refl _⟩
    refine ⟨N + 101, ?_⟩
    rw [vF_body rfl, f9_eq, callD_bool (lone_ok (N + 40) []), Option.bind_some]
    simp only [Bool.not_true, cond_false]
    have z4 : s4.len = sum.length := by rw [g4.len]; simp
    have z6 : s6.len = p.length := by rw [g6.len]; simp
    have g5 : IsE s5 (ss paths) := g5
    have z5 : s5.len = paths.length := by rw [g5.len, ss_len]
    rw [z4, z5, z6]
    by_cases b1 : 60 < sum.length
    · rw [decide_eq_true (by omega), cond_true, callD_bool (lone_ok (N + 40) []), Option.bind_some]
      exact ⟨_, rfl⟩
    have d1 : decide ((sum.length : Int) > 60) = false := decide_eq_false (by omega)
    rw [d1, cond_false]
    by_cases b2 : 8 < paths.length
    · have d2 : decide ((paths.length : Int) > 8) = true := decide_eq_true (by omega)
      rw [d2, cond_true, callD_bool (lone_ok (N + 40) []), Option.bind_some]
      exact ⟨_, rfl⟩
    have d2 : decide ((paths.length : Int) > 8) = false := decide_eq_false (by omega)
    rw [d2, cond_false]
    by_cases b3 : 200 < p.length
    · have d3 : decide ((p.length : Int) > 200) = true := decide_eq_true (by omega)
      rw [d3, cond_true, callD_bool (lone_ok (N + 40) []), Option.bind_some]
      exact ⟨_, rfl⟩
    have d3 : decide ((p.length : Int) > 200) = false := decide_eq_false (by omega)
    rw [d3, cond_false]
    refine l9q (N + 100) (Q := fun z : VRes => ∃ H', z = some (.bool true, H')) g5 (by omega) [] ⟨_, rfl⟩ ?_ (N + 100) 0 (by omega) (by omega) (by simp)
    intro hp
    exact l9t N hN (r := ⟨(k0 : Int), b, (k2 : Int), k3, sum, paths⟩) rfl (by omega) rfl (by omega) (by simp only; omega) g4 g5 g6 (by simp only; omega) (by simp only; omega) (by omega) hp
end Go.Proofs.YtcnigofmjffamaaDoor
