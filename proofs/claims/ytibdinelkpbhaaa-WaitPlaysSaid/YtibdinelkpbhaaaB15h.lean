import Derived.Test.YtibdinelkpbhaaaB15g
set_option maxRecDepth 100000
set_option linter.unusedVariables false
set_option linter.unusedSimpArgs false
namespace Go.Proofs.Ytibdinelkpbhaaa
open Go.Proofs.Ytibdinelkpbhaaa.Sh Go.Proofs.Ytibdinelkpbhaaa.Sh.V Go.RowKit Go.Proofs.Ytibdinelkpbhaaa.Sh.Lk
/-! ### Acts -/
structure Ac where
  o : Nat
  k : Nat
  d : Nat
def Ac.cells (a : Ac) : List V := [.int .u8 (a.o : Int), .int .u8 (a.k : Int), .int .u8 (a.d : Int)]
def Ac.ok (a : Ac) : Prop := a.o < 256 ∧ a.k < 256 ∧ a.d < 256
theorem ac_cells {d : Nat} {y : List V} (h : HasT P d 39 y) : ∃ x : Ac, x.ok ∧ y = x.cells := by
  obtain ⟨d', _, hl, hf⟩ := hasT_sh [(5, 0, 1), (5, 1, 1), (5, 2, 1)] (sz := 3) (by kernel_rfl) (by kernel_rfl) (by simp) h
  obtain ⟨a, h0, w0⟩ := hasT_int (k := .u8) (by kernel_rfl) (hf (5, 0, 1) (by simp))
  obtain ⟨s, h1, w1⟩ := hasT_int (k := .u8) (by kernel_rfl) (hf (5, 1, 1) (by simp))
  obtain ⟨b, h2, w2⟩ := hasT_int (k := .u8) (by kernel_rfl) (hf (5, 2, 1) (by simp))
  match y, hl with
  | [y0, y1, y2], _ =>
    simp only [List.drop_zero, List.drop_succ_cons, List.take_succ_cons, List.take_zero, List.cons.injEq, and_true] at h0 h1 h2
    subst h0 h1 h2
    obtain ⟨p1, p2⟩ := wf_u8 w0
    obtain ⟨p3, p4⟩ := wf_u8 w1
    obtain ⟨p5, p6⟩ := wf_u8 w2
    refine ⟨⟨a.toNat, s.toNat, b.toNat⟩, ⟨by simp only; omega, by simp only; omega, by simp only; omega⟩, ?_⟩
    unfold Ac.cells
    simp only
    rw [Int.toNat_of_nonneg p1, Int.toNat_of_nonneg p3, Int.toNat_of_nonneg p5]
def kbA (j : Nat) : ByteArray := ⟨#[UInt8.ofNat (97 + j)]⟩
theorem e16 (n : Nat) {a : Ac} (ha : a.ok) (H : VH) : vF P tab (n + 1) 16 [.agg a.cells] H = some (.tup [.str (kbA (a.k % 4)), .bool (decide (a.d / 4 % 2 = 0))], H) := by
  have hb : ∃ H', bodyV P tab (vF P tab n) n 16 [.agg a.cells] [] = some (.tup [.str (kbA (a.k % 4)), .bool (decide (a.d / 4 % 2 = 0))], H') := by
    show ∃ H', bodyV P tab (vF P tab n) n 16 [.agg [.int .u8 (a.o : Int), .int .u8 (a.k : Int), .int .u8 (a.d : Int)]] [] = _
    obtain ⟨h1, h2, h3⟩ := ha
    rw [f16_eq]
    have hrow : ([] ++ [VO.row (39 + boxK) [.int .u8 (a.o : Int), .int .u8 (a.k : Int), .int .u8 (a.d : Int)]] : VH)[0]? = some (.row (39 + boxK) [.int .u8 (a.o : Int), .int .u8 (a.k : Int), .int .u8 (a.d : Int)]) := rfl
    simp only [List.length_nil]
    rw [ld_row hrow, ld_row hrow]
    show ∃ H', (Option.bind (V.fdec (.int .u8) (.int .u8 (a.k : Int))) _) = _
    rw [fd_int, Option.bind_some, show (4 : Int) = ((4 : Nat) : Int) from rfl, remI_nat (by decide), Option.bind_some]
    have hw : IntKind.wrap .u8 (97 + ((a.k % 4 : Nat) : Int)) = (((UInt8.ofNat (97 + a.k % 4)).toNat : Nat) : Int) := by
      have e : (97 : Int) + ((a.k % 4 : Nat) : Int) = ((97 + a.k % 4 : Nat) : Int) := by omega
      rw [e, wrap_u8_nat (by omega), UInt8.toNat_ofNat']
      congr 1; omega
    rw [hw]
    have hB : IsB (.fz [[.int .u8 (((UInt8.ofNat (97 + a.k % 4)).toNat : Nat) : Int)]] (.ex 1)) [UInt8.ofNat (97 + a.k % 4)] := IsE.fz (bs [UInt8.ofNat (97 + a.k % 4)]) _
    rw [hB.str, Option.bind_some]
    show ∃ H', (Option.bind (V.fdec (.int .u8) (.int .u8 (a.d : Int))) _) = _
    rw [fd_int, Option.bind_some, quoI_nat (by decide) (by rw [wrap_u8_nat (by omega)]), Option.bind_some, show (2 : Int) = ((2 : Nat) : Int) from rfl, remI_nat (by decide), Option.bind_some]
    have e : ((((a.d / 4 % 2 : Nat) : Int)) == 0) = decide (a.d / 4 % 2 = 0) := by
      by_cases h : a.d / 4 % 2 = 0
      · rw [h]; rfl
      · rw [decide_eq_false h, beq_eq_false_iff_ne]; omega
    rw [e]
    exact ⟨_, rfl⟩
  obtain ⟨H', h⟩ := hb
  exact vF_lone (r := .tup [.str (kbA (a.k % 4)), .bool (decide (a.d / 4 % 2 = 0))]) (H1 := H') rfl rfl h rfl
theorem c16 (n : Nat) {a : Ac} (ha : a.ok) (H : VH) : callD (vF P tab (n + 1)) P false (.tup [(.flat .str), (.flat .bool)]) 16 [.agg [.int .u8 (a.o : Int), .int .u8 (a.k : Int), .int .u8 (a.d : Int)]] H = some ((kbA (a.k % 4), decide (a.d / 4 % 2 = 0), ()), H) := callD_some _ (e16 n ha H) rfl
def actE (l : List Ac) : List (List V) := l.map Ac.cells
theorem actE_len (l : List Ac) : (actE l).length = l.length := by simp [actE]
theorem rd_act {s : VS} {l : List Ac} (h : IsE s (actE l)) {i : Nat} {x : Ac} (hx : l[i]? = some x) : ixV 3 s (i : Int) = some (.fz x.cells) := h.ix (by simp [actE, hx]) 3
theorem at_a0 (x : Ac) : atO (.fz x.cells) 0 = some (.fz x.cells) := rfl
theorem at_a2 (x : Ac) : atO (.fz x.cells) 2 = some (.fz [.int .u8 (x.d : Int)]) := rfl
theorem ld_a0 (x : Ac) (H : VH) : ldV (.flat (.int .u8)) H (.fz x.cells) = some (x.o : Int) := rfl
theorem ld_a2 (x : Ac) (H : VH) : ldV (.flat (.int .u8)) H (.fz [.int .u8 (x.d : Int)]) = some (x.d : Int) := rfl
theorem ld_aa (x : Ac) (H : VH) : ldV (.agg [.int .u8, .int .u8, .int .u8]) H (.fz x.cells) = some ((x.o : Int), (x.k : Int), (x.d : Int), ()) := rfl
/-! ### Tables that are none -/
theorem p23n (n : Nat) (H : VH) (o : Int) : ∃ H', V.callD (vF P tab (n + 1)) P false (.tup [(.agg [.str, .bool]), (.flat .bool)]) 23 [.ptr .nil, .int .i64 o] H = some (((⟨#[]⟩, false, ()), false, ()), H') ∧ Kp H H' [] := by
  obtain ⟨H1, e1⟩ : ∃ H1 : VH, H1 = H ++ [VO.row NTY [.str ⟨#[]⟩, .bool false]] := ⟨_, rfl⟩
  have hp1 : H1[H.length]? = some (.row NTY [.str ⟨#[]⟩, .bool false]) := by rw [e1]; exact app_last _ _
  have k1 : Kp H H1 [] := by rw [e1]; exact Kp.app _ _
  obtain ⟨H2, d1, d2, d3, d4⟩ := stN hp1 ⟨#[]⟩ false
  have hb : bodyV P tab (vF P tab n) n 23 [.ptr .nil, .int .i64 o] H = some (.tup [.agg [.str ⟨#[]⟩, .bool false], .bool false], H2) := by
    rw [f23_eq, ← e1]
    simp only [VP.isNil, cond_true]
    rw [d1, Option.bind_some, ld_n d2, Option.bind_some]
  exact ⟨H2, callD_some _ (by rw [vF_body rfl]; exact hb) rfl, k1.trans d3 (fun x hx _ => hx) (fun x hx hlt => by rw [List.mem_singleton] at hx; omega)⟩
theorem p17n (n : Nat) (H : VH) (o : Int) : ∃ H', V.callD (vF P tab (n + 2)) P false (.one (.flat (.slice 3))) 17 [.ptr .nil, .int .i64 o] H = some (.nil, H') ∧ Kp H H' [] := by
  obtain ⟨H0, a1, a2⟩ := p23n n H o
  obtain ⟨H1, e1⟩ : ∃ H1 : VH, H1 = H0 ++ [VO.row NTY [.str ⟨#[]⟩, .bool false]] := ⟨_, rfl⟩
  have hp1 : H1[H0.length]? = some (.row NTY [.str ⟨#[]⟩, .bool false]) := by rw [e1]; exact app_last _ _
  have k1 : Kp H0 H1 [] := by rw [e1]; exact Kp.app _ _
  obtain ⟨H2, d1, d2, d3, d4⟩ := stN hp1 ⟨#[]⟩ false
  have k2 : Kp H0 H2 [] := k1.trans d3 (fun x hx _ => hx) (fun x hx hlt => by rw [List.mem_singleton] at hx; omega)
  refine ⟨H2, callD_sl ?_, a2.trans k2 (fun x hx _ => hx) (fun x hx _ => hx)⟩
  rw [vF_body rfl, f17_eq, a1, Option.bind_some]
  simp only
  rw [← e1, d1, Option.bind_some]
  rfl
theorem pRn (n : Nat) (H : VH) (o : Int) : ∃ H', V.callD (vF P tab (n + 5)) P false (.one (.flat (.slice 3))) 15 [.ptr .nil, .int .i64 o] H = some (.nil, H') ∧ Kp H H' [] := by
  obtain ⟨H1, a1, a2⟩ := p17n (n + 2) H o
  obtain ⟨H2, c1, c2, c3, c4⟩ := (Hr.nil H1 3 1).sort (e1 := 3) (l := []) (by simp) (.inl rfl)
  have hc : V.callD (vF P tab (n + 4)) P false (.tup []) 31 [.sl 3 .nil] H1 = some ((), H2) := by
    refine callD_unit ?_
    rw [vF_body rfl]
    exact c1
  refine ⟨H2, callD_sl ?_, a2.trans c3 (fun x hx _ => hx) (fun x hx _ => hx)⟩
  rw [vF_body rfl, f15_eq, a1, Option.bind_some]
  simp only
  rw [L15_0_eq, show decide ((((VS.len .nil : Nat) : Int) : Int) > 0) = false from rfl, cond_false, hc, Option.bind_some]
theorem pSn (n : Nat) (H : VH) (o : Int) : ∃ H', V.callD (vF P tab (n + 7)) P false (.one (.flat (.slice 3))) 12 [.ptr .nil, .int .i64 o] H = some (.nil, H') ∧ Kp H H' [] := by
  obtain ⟨H1, e1⟩ : ∃ H1 : VH, H1 = H ++ [VO.row (23 + boxK) [.ptr .nil]] := ⟨_, rfl⟩
  obtain ⟨H2, e2⟩ : ∃ H2 : VH, H2 = H1 ++ [VO.row (3 + boxK) [.int .i64 o]] := ⟨_, rfl⟩
  have k1 : Kp H H1 [] := by rw [e1]; exact Kp.app _ _
  have k2 : Kp H1 H2 [] := by rw [e2]; exact Kp.app _ _
  have k12 : Kp H H2 [] := k1.trans k2 (fun x hx _ => hx) (fun x hx _ => hx)
  have hp1 : H1[H.length]? = some (.row (23 + boxK) [.ptr .nil]) := by rw [e1]; exact app_last _ _
  have hp2 : H2[H.length]? = some (.row (23 + boxK) [.ptr .nil]) := k2.ob hp1 (by simp)
  have ha2 : H2[H1.length]? = some (.row (3 + boxK) [.int .i64 o]) := by rw [e2]; exact app_last _ _
  have lp : ldV (.flat .ptr) H2 (.ob H.length 0) = some .nil := by rw [ld_row hp2]; rfl
  have la : ldV (.flat (.int .i64)) H2 (.ob H1.length 0) = some o := by rw [ld_row ha2]; exact fd_int .i64 o
  obtain ⟨H3, a1, a2⟩ := pRn (n + 1) H2 o
  have hx : V.callD (vF P tab (n + 5)) P false (.one (.flat (.int .i64))) 47 [.sl 3 .nil, .func (.func 30) [] [.ptr (.ob H.length 0), .ptr (.ob H1.length 0)]] H3 = some (-1, H3) := by
    refine callD_int ?_
    rw [vF_body rfl, f47_eq, L47_0_eq, show decide ((0 : Int) < ((VS.len .nil : Nat) : Int)) = false from rfl, cond_false]
  have hd : V.callD (vF P tab (n + 6)) P false (.one (.flat (.slice 3))) 29 [.sl 3 .nil, .func (.func 30) [] [.ptr (.ob H.length 0), .ptr (.ob H1.length 0)]] H3 = some (.nil, H3) := by
    refine callD_sl ?_
    rw [vF_body rfl, f29_eq, hx, Option.bind_some]
    rfl
  refine ⟨H3, callD_sl ?_, k12.trans a2 (fun x hx _ => hx) (fun x hx _ => hx)⟩
  rw [vF_body rfl, f12_eq]
  show ((ldV (.flat .ptr) ((H ++ [VO.row (23 + boxK) [.ptr .nil]]) ++ [VO.row (3 + boxK) [.int .i64 o]]) (.ob H.length 0)).bind fun x1 =>
    ((ldV (.flat (.int .i64)) ((H ++ [VO.row (23 + boxK) [.ptr .nil]]) ++ [VO.row (3 + boxK) [.int .i64 o]]) (.ob (List.length ((H ++ [.row (23 + boxK) [.ptr .nil]]) : VH)) 0)).bind fun x2 =>
      ((V.callD (vF P tab (n + 6)) P false (.one (.flat (.slice 3))) 15 [.ptr x1, .int .i64 x2] ((H ++ [VO.row (23 + boxK) [.ptr .nil]]) ++ [VO.row (3 + boxK) [.int .i64 o]])).bind fun r3 =>
        ((V.callD (vF P tab (n + 6)) P false (.one (.flat (.slice 3))) 29 [.sl 3 r3.1, .func (.func 30) [] [.ptr (.ob H.length 0), .ptr (.ob (List.length ((H ++ [.row (23 + boxK) [.ptr .nil]]) : VH)) 0)]] r3.2).bind fun r4 =>
          (some (V.sl 3 r4.1, r4.2)))))) = _
  rw [← e1, ← e2, lp, Option.bind_some, la, Option.bind_some, a1, Option.bind_some]
  simp only
  rw [hd, Option.bind_some]
theorem pVn (n : Nat) (H : VH) (o : Int) : ∃ H', V.callD (vF P tab (n + 8)) P false (.tup [(.flat (.int .i64)), (.flat .bool)]) 13 [.ptr .nil, .int .i64 o] H = some ((0, false, ()), H') ∧ Kp H H' [] := by
  obtain ⟨H1, a1, a2⟩ := pSn n H o
  have hb : bodyV P tab (vF P tab (n + 7)) (n + 7) 13 [.ptr .nil, .int .i64 o] H = some (.tup [.int .i64 0, .bool false], H1) := by
    rw [f13_eq, a1, Option.bind_some]
    rfl
  exact ⟨H1, callD_some _ (by rw [vF_body rfl]; exact hb) rfl, a2⟩
/-! ### WaitNone -/
structure IN (t : Tb) : Prop where
  w : t.ws = []
  l : ∀ k, (lkOf t k).only = false ∧ (lkOf t k).q = []
theorem IN.ask {t : Tb} (h : IN t) (o : Int) (k : Key) : IN (askP t o k false).1 := by
  obtain ⟨h1, h2⟩ := h.l k
  unfold askP
  rw [h.w]
  show IN (cond ((lkOf t k).hs.contains o && ((lkOf t k).only || !false)) (⟨putA t.m k (lkOf t k), []⟩, true)
      (cond (mayP (lkOf t k) ⟨o, false, (lkOf t k).hs.contains o⟩ && ((lkOf t k).hs.contains o || (lkOf t k).q.isEmpty)) (⟨putA t.m k (giveP (lkOf t k) ⟨o, false, (lkOf t k).hs.contains o⟩), []⟩, true)
         (⟨putA t.m k ⟨(lkOf t k).hs, (lkOf t k).only, Go.Proofs.Ytibdinelkpbhaaa.Sh.Lk.insP (lkOf t k).q ⟨o, false, (lkOf t k).hs.contains o⟩⟩, putA [] o k⟩, false))).1
  have hl : ∀ (x : Lk), x.only = false → x.q = [] → IN ⟨putA t.m k x, []⟩ := fun x e1 e2 => ⟨rfl, fun k' => by
    rw [lkOf_put]
    split
    · exact ⟨e1, e2⟩
    · exact h.l k'⟩
  cases hc : (lkOf t k).hs.contains o with
  | true =>
    rw [h1]
    simp only [Bool.not_false, Bool.or_true, Bool.and_true, cond_true]
    exact hl _ h1 h2
  | false =>
    have hm : mayP (lkOf t k) ⟨o, false, false⟩ = true := by
      unfold mayP
      rw [h1]; rfl
    rw [hm, h2]
    simp only [Bool.false_and, cond_false, Bool.false_or, List.isEmpty_nil, Bool.and_true, cond_true]
    refine hl _ rfl ?_
    show (lkOf t k).q = []
    exact h2
theorem IN.zero : IN ⟨[], []⟩ := ⟨rfl, fun k => ⟨rfl, rfl⟩⟩
theorem IN.ahead {t : Tb} (h : IN t) (o : Int) : aheadP t o = [] := by
  unfold aheadP waitsP
  rw [h.w]
  rfl
theorem l40n (n : Nat) (hn : 3000 ≤ n) {s0 : Int} {s1 : VS} {A : List Ac} (hs : IsE s1 (actE A)) (hA : A.length ≤ 20) (hok : ∀ x ∈ A, x.ok) {k : Nat} : ∀ (m c : Nat) {H : VH} {F : List Nat} {t : Tb}, c ≤ A.length → A.length < c + m → TO H k F t → IN t → NB c t →
    ∃ H', L4_0 (n + 10) m s0 s1 (.ob k 0) (c : Int) H = some (.bool true, H') := by
  intro m
  induction m with
  | zero => intros; omega
  | succ m ih =>
    intro c H F t hc hm h hI hN
    rw [L4_0_eq, hs.len, actE_len]
    by_cases hcl : c < A.length
    · obtain ⟨x, hx⟩ := get_of hcl
      have hdt : decide ((c : Int) < (A.length : Int)) = true := decide_eq_true (by omega)
      have hxo := hok x (List.mem_of_getElem? hx)
      have hw : IntKind.wrap .i64 (x.o : Int) = (x.o : Int) := i64_nat (by have := hxo.1; omega)
      obtain ⟨H1, F1, a1, a2, a3⟩ := ask_n n hn h hN (by omega) (x.o : Int) (kJ (x.k % 4)) false (by have := hxo.1; omega) (kJ_len _)
      rw [hdt, cond_true, rd_act hs hx, Option.bind_some, ld_aa, Option.bind_some]
      simp only
      rw [c16 (n + 9) hxo H, Option.bind_some, Option.bind_some, at_a0, Option.bind_some, ld_a0, Option.bind_some, hw]
      simp only
      rw [show kbA (x.k % 4) = ⟨(kJ (x.k % 4)).toArray⟩ from rfl, a1, Option.bind_some]
      simp only
      rw [inc_nat (by omega)]
      exact ih (c + 1) (by omega) (by omega) a2 (hI.ask _ _) a3
    · have hdt : decide ((c : Int) < (A.length : Int)) = false := decide_eq_false (by omega)
      have sz := nb_s2 hN (by omega)
      have hR : ∀ x, reachO t 1000 [] (aheadP t x) = some ((fun _ => []) x : List Int) := fun x => by rw [hI.ahead]; rfl
      obtain ⟨H1, a1, a2⟩ := pV n hn h sz s0 (R := fun _ => []) (hR s0) (fun x _ => hR x)
      obtain ⟨H2, b1, b2⟩ := pVn (n + 2) H1 s0
      obtain ⟨s3, H3, c1, c2, c3, _⟩ := pR (n + 5) (by omega) ((h.kn a2).kn b2) sz s0 (hR s0)
      obtain ⟨H4, d1, d2⟩ := pSn (n + 3) H3 s0
      obtain ⟨H5, e1, e2⟩ := pRn (n + 5) H4 s0
      have hl3 : s3.len = 0 := by rw [c2.len]; rfl
      rw [hdt, cond_false, a1, Option.bind_some]
      simp only
      rw [b1, Option.bind_some]
      simp only
      rw [show (!(lastO ((sortI ([] : List Int)).filter (stq (fun _ => []) s0))).2) = true from rfl, cond_true, Bool.not_false, cond_true, c1, Option.bind_some]
      simp only
      rw [d1, Option.bind_some]
      simp only
      rw [e1, Option.bind_some]
      simp only
      rw [hl3]
      exact ⟨H5, rfl⟩
theorem waitNone_law (us : List V) (h : HasAs P [3, 35] us) : ∃ n H', vF P tab n 4 us [] = some (.bool true, H') := by
  match us, h with
  | [u0, u1], ⟨h0, h1, _⟩ =>
    obtain ⟨x, rfl, hx⟩ := hasA_int (k := .i64) (by kernel_rfl) h0
    obtain ⟨d, s, es, rfl, hs, hl, hes⟩ := hasA_sl (e := 39) (by kernel_rfl) h1
    obtain ⟨A, rfl, hA0⟩ := lst_of (f := Ac.cells) (Q := Ac.ok) (es := es) (fun y hy => ac_cells (hes y hy).1)
    have hs : IsE s (actE A) := hs
    obtain ⟨N, hN⟩ : ∃ N, 3000 ≤ N := ⟨3000, Nat.le_refl _⟩
    refine ⟨N + 66, ?_⟩
    rw [vF_body rfl, f4_eq, c_rings (N + 5), show (!(true, ([] : VH)).1) = false from rfl, cond_false, hs.len, actE_len]
    by_cases hA : 20 < A.length
    · have hd : decide ((A.length : Int) > 20) = true := decide_eq_true (by omega)
      rw [hd, cond_true, c_rings (N + 5)]
      exact ⟨_, rfl⟩
    · have hd : decide ((A.length : Int) > 20) = false := decide_eq_false (by omega)
      rw [hd, cond_false]
      obtain ⟨k, H1, F1, a1, a2⟩ := p11 (N + 64) []
      rw [a1, Option.bind_some]
      obtain ⟨H', b1⟩ := l40n (N + 55) (by omega) (s0 := x) hs (by omega) hA0 (N + 65) 0 (Nat.zero_le _) (by omega) a2 IN.zero NB.zero
      rw [show ((0 : Nat) : Int) = 0 from rfl] at b1
      exact ⟨H', b1⟩
end Go.Proofs.Ytibdinelkpbhaaa
