import Derived.Test.YtgmgpandhaeniaaB14ya
import Derived.Test.YtgmgpandhaeniaaVd
set_option maxRecDepth 100000
set_option linter.unusedVariables false
set_option linter.unusedSimpArgs false
namespace Go.Proofs.Ytgmgpandhaeniaa
open Go.Proofs.Ytgmgpandhaeniaa.Sh Go.Proofs.Ytgmgpandhaeniaa.Sh.V Go.RowKit Go.Proofs.Ytgmgpandhaeniaa.Sh.Lk
/-! ### Acts -/
structure Ac where
  o : Nat
  k : Nat
  d : Nat
def Ac.cells (a : Ac) : List V := [.int .u8 (a.o : Int), .int .u8 (a.k : Int), .int .u8 (a.d : Int)]
def Ac.ok (a : Ac) : Prop := a.o < 256 ∧ a.k < 256 ∧ a.d < 256
theorem ac_cells {d : Nat} {y : List V} (h : HasT P d 39 y) : ∃ x : Ac, x.ok ∧ y = x.cells := by
  obtain ⟨d', _, hl, hf⟩ := hasT_sh [(5, 0, 1), (5, 1, 1), (5, 2, 1)] (sz := 3) (by kernel_rfl) (by kernel_rfl) (by simp) h
  obtain ⟨a, h0, w0⟩ := hasT_int (k := .u8) (by kernel_rfl) (hf (5, 0, 1) (by simp))
  obtain ⟨s, h1, w1⟩ := hasT_int (k := .u8) (by kernel_rfl) (hf (5, 1, 1) (by simp))
  obtain ⟨b, h2, w2⟩ := hasT_int (k := .u8) (by kernel_rfl) (hf (5, 2, 1) (by simp))
  match y, hl with
  | [y0, y1, y2], _ =>
    simp only [List.drop_zero, List.drop_succ_cons, List.take_succ_cons, List.take_zero, List.cons.injEq, and_true] at h0 h1 h2
    subst h0 h1 h2
    obtain ⟨p1, p2⟩ := wf_u8 w0
    obtain ⟨p3, p4⟩ := wf_u8 w1
    obtain ⟨p5, p6⟩ := wf_u8 w2
    refine ⟨⟨a.toNat, s.toNat, b.toNat⟩, ⟨by simp only; omega, by simp only; omega, by simp only; omega⟩, ?_⟩
    unfold Ac.cells
    simp only
    rw [Int.toNat_of_nonneg p1, Int.toNat_of_nonneg p3, Int.toNat_of_nonneg p5]
def kbA (j : Nat) : ByteArray := ⟨#[UInt8.ofNat (97 + j)]⟩
theorem e19 (n : Nat) {a : Ac} (ha : a.ok) (H : VH) : vF P tab (n + 1) 19 [.agg a.cells] H = some (.tup [.str (kbA (a.k % 4)), .bool (decide (a.d / 4 % 2 = 0))], H) := by
  have hb : ∃ H', bodyV P tab (vF P tab n) n 19 [.agg a.cells] [] = some (.tup [.str (kbA (a.k % 4)), .bool (decide (a.d / 4 % 2 = 0))], H') := by
    show ∃ H', bodyV P tab (vF P tab n) n 19 [.agg [.int .u8 (a.o : Int), .int .u8 (a.k : Int), .int .u8 (a.d : Int)]] [] = _
    obtain ⟨h1, h2, h3⟩ := ha
    rw [f19_eq]
    have hrow : ([] ++ [VO.row (39 + boxK) [.int .u8 (a.o : Int), .int .u8 (a.k : Int), .int .u8 (a.d : Int)]] : VH)[0]? = some (.row (39 + boxK) [.int .u8 (a.o : Int), .int .u8 (a.k : Int), .int .u8 (a.d : Int)]) := rfl
    simp only [List.length_nil]
    rw [ld_row hrow, ld_row hrow]
    show ∃ H', (Option.bind (V.fdec (.int .u8) (.int .u8 (a.k : Int))) _) = _
    rw [fd_int, Option.bind_some, show (4 : Int) = ((4 : Nat) : Int) from rfl, remI_nat (by decide), Option.bind_some]
    have hw : IntKind.wrap .u8 (97 + ((a.k % 4 : Nat) : Int)) = (((UInt8.ofNat (97 + a.k % 4)).toNat : Nat) : Int) := by
      have e : (97 : Int) + ((a.k % 4 : Nat) : Int) = ((97 + a.k % 4 : Nat) : Int) := by omega
      rw [e, wrap_u8_nat (by omega), UInt8.toNat_ofNat']
      congr 1; omega
    rw [hw]
    have hB : IsB (.fz [[.int .u8 (((UInt8.ofNat (97 + a.k % 4)).toNat : Nat) : Int)]] (.ex 1)) [UInt8.ofNat (97 + a.k % 4)] := IsE.fz (bs [UInt8.ofNat (97 + a.k % 4)]) _
    rw [hB.str, Option.bind_some]
    show ∃ H', (Option.bind (V.fdec (.int .u8) (.int .u8 (a.d : Int))) _) = _
    rw [fd_int, Option.bind_some, quoI_nat (by decide) (by rw [wrap_u8_nat (by omega)]), Option.bind_some, show (2 : Int) = ((2 : Nat) : Int) from rfl, remI_nat (by decide), Option.bind_some]
    have e : ((((a.d / 4 % 2 : Nat) : Int)) == 0) = decide (a.d / 4 % 2 = 0) := by
      by_cases h : a.d / 4 % 2 = 0
      · rw [h]; rfl
      · rw [decide_eq_false h, beq_eq_false_iff_ne]; omega
    rw [e]
    exact ⟨_, rfl⟩
  obtain ⟨H', h⟩ := hb
  exact vF_lone (r := .tup [.str (kbA (a.k % 4)), .bool (decide (a.d / 4 % 2 = 0))]) (H1 := H') rfl rfl h rfl
theorem c19 (n : Nat) {a : Ac} (ha : a.ok) (H : VH) : callD (vF P tab (n + 1)) P false (.tup [(.flat .str), (.flat .bool)]) 19 [.agg [.int .u8 (a.o : Int), .int .u8 (a.k : Int), .int .u8 (a.d : Int)]] H = some ((kbA (a.k % 4), decide (a.d / 4 % 2 = 0), ()), H) := callD_some _ (e19 n ha H) rfl
def actE (l : List Ac) : List (List V) := l.map Ac.cells
theorem actE_len (l : List Ac) : (actE l).length = l.length := by simp [actE]
theorem rd_act {s : VS} {l : List Ac} (h : IsE s (actE l)) {i : Nat} {x : Ac} (hx : l[i]? = some x) : ixV 3 s (i : Int) = some (.fz x.cells) := h.ix (by simp [actE, hx]) 3
theorem at_a0 (x : Ac) : atO (.fz x.cells) 0 = some (.fz x.cells) := rfl
theorem at_a2 (x : Ac) : atO (.fz x.cells) 2 = some (.fz [.int .u8 (x.d : Int)]) := rfl
theorem ld_a0 (x : Ac) (H : VH) : ldV (.flat (.int .u8)) H (.fz x.cells) = some (x.o : Int) := rfl
theorem ld_a2 (x : Ac) (H : VH) : ldV (.flat (.int .u8)) H (.fz [.int .u8 (x.d : Int)]) = some (x.d : Int) := rfl
theorem ld_aa (x : Ac) (H : VH) : ldV (.agg [.int .u8, .int .u8, .int .u8]) H (.fz x.cells) = some ((x.o : Int), (x.k : Int), (x.d : Int), ()) := rfl
def kJ (j : Nat) : Key := [UInt8.ofNat (97 + j)]
theorem strK (H : VH) : ∀ (j : Nat), j < 4 → strV H 5 (.fz [[.int .u8 (IntKind.wrap .u8 (IntKind.wrap .i64 (97 + (j : Int))))]] (.ex 1)) = some ⟨(kJ j).toArray⟩
  | 0, _ => rfl
  | 1, _ => rfl
  | 2, _ => rfl
  | 3, _ => rfl
  | _ + 4, h => by omega
theorem la52 (n : Nat) (hn : 3000 ≤ n) {s0 s11 : VS} {k m0 m1 i j : Nat} {t : Tb} {N : Nat} (hI : IT t) (hN : NB N t) (hN2 : N ≤ 390) (hs : IsE s11 (ints ((lkOf t (kJ j)).q.map (·.o)))) : ∀ (m c : Nat) {H : VH} {F : List Nat}, TO H k F t → c ≤ (lkOf t (kJ j)).q.length → (lkOf t (kJ j)).q.length < c + m →
    ∃ H', L5_2 (n + 5) m0 m1 m s0 (.ob k 0) (i : Int) (j : Int) ⟨(kJ j).toArray⟩ s11 (c : Int) H = L5_1 (n + 5) m0 m1 s0 (.ob k 0) (i : Int) (IntKind.wrap .i64 ((j : Int) + 1)) H' ∧ Kp H H' [] := by
  intro m
  induction m with
  | zero => intros; omega
  | succ m ih =>
    intro c H F h hc hm
    rw [L5_2_eq, hs.len, ints_len, List.length_map]
    by_cases hcl : c < (lkOf t (kJ j)).q.length
    · obtain ⟨w, hw⟩ := get_of hcl
      have hdt : decide ((c : Int) < ((lkOf t (kJ j)).q.length : Int)) = true := decide_eq_true (by omega)
      obtain ⟨only, hwt⟩ := hI.waits (List.mem_of_getElem? hw)
      obtain ⟨H1, a1, a2⟩ := p20 (n + 3) (by omega) h w.o (fun key => by have := hN.of key; omega)
      rw [hdt, cond_true, isI_rd hs (x := w.o) (by rw [List.getElem?_map, hw]; rfl), a1, Option.bind_some, hwt]
      simp only [wr]
      obtain ⟨H2, e2⟩ : ∃ H2 : VH, H2 = H1 ++ [VO.row (28 + boxK) [.str ⟨#[]⟩, .bool false]] := ⟨_, rfl⟩
      have hp : H2[H1.length]? = some (.row NTY [.str ⟨#[]⟩, .bool false]) := by rw [e2]; exact app_last _ _
      have k2 : Kp H1 H2 [] := by rw [e2]; exact Kp.app _ _
      rw [← e2]
      obtain ⟨H3, b1, b2, b3, b4⟩ := stN hp ⟨(kJ j).toArray⟩ only
      have k3 : Kp H1 H3 [] := k2.trans b3 (fun x hx _ => hx) (fun x hx hlt => by
        rw [List.mem_singleton] at hx
        omega)
      have k4 : Kp H H3 [] := a2.trans k3 (fun x hx _ => hx) (fun x hx _ => hx)
      rw [b1, Option.bind_some]
      have hl : ldV (.flat .str) H3 (.ob H1.length 0) = some ⟨(kJ j).toArray⟩ := by rw [ld_row b2]; rfl
      rw [show (!true) = false from rfl, cond_false, hl, Option.bind_some, strEq_self, show (!true) = false from rfl, cond_false, inc_nat (by have := hN.of (kJ j); omega)]
      obtain ⟨H', c1, c2⟩ := ih (c + 1) (h.kn k4) (by omega) (by omega)
      exact ⟨H', c1, k4.trans c2 (fun x hx _ => hx) (fun x hx _ => hx)⟩
    · have hdt : decide ((c : Int) < ((lkOf t (kJ j)).q.length : Int)) = false := decide_eq_false (by omega)
      rw [hdt, cond_false]
      exact ⟨H, rfl, Kp.refl _ _⟩
theorem la51 (n : Nat) (hn : 3000 ≤ n) {s0 : VS} {k m0 i : Nat} {t : Tb} {N : Nat} (hI : IT t) (hN : NB N t) (hN2 : N ≤ 390) : ∀ (m j : Nat) {H : VH} {F : List Nat}, TO H k F t → j ≤ 4 → 4 < j + m →
    ∃ H', L5_1 (n + 5) m0 m s0 (.ob k 0) (i : Int) (j : Int) H = L5_0 (n + 5) m0 s0 (.ob k 0) (IntKind.wrap .i64 ((i : Int) + 1)) H' ∧ Kp H H' [] := by
  intro m
  induction m with
  | zero => intros; omega
  | succ m ih =>
    intro j H F h hj hm
    rw [L5_1_eq]
    by_cases hjl : j < 4
    · have hdt : decide ((j : Int) < 4) = true := decide_eq_true (by omega)
      have hof := hN.of (kJ j)
      obtain ⟨s1, H1, a1, a2, a3⟩ := p17 (n + 3) h (kJ j) (by omega)
      obtain ⟨s2, H2, b1, b2, b3⟩ := p18 (n + 3) (by omega) (h.kn a3) (kJ j) (by omega)
      obtain ⟨H3, c1, c2⟩ := p16 (n + 3) ((h.kn a3).kn b3) (kJ j)
      have k3 : Kp H H3 [] := (a3.trans b3 (fun x hx _ => hx) (fun x hx _ => hx)).trans c2 (fun x hx _ => hx) (fun x hx _ => hx)
      have hl1 : s1.len = (lkOf t (kJ j)).hs.length := by rw [a2.len, ints_len]
      have hl2 : s2.len = (lkOf t (kJ j)).q.length := by rw [b2.len, ints_len, List.length_map]
      obtain ⟨H4, d1, d2⟩ := la52 n hn (s0 := s0) (m0 := m0) (m1 := m) (i := i) hI hN hN2 b2 (n + 5) 0 (h.kn k3) (Nat.zero_le _) (by omega)
      rw [show ((0 : Nat) : Int) = 0 from rfl] at d1
      have hnx : ∃ H', L5_1 (n + 5) m0 m s0 (.ob k 0) (i : Int) (IntKind.wrap .i64 ((j : Int) + 1)) H4 = L5_0 (n + 5) m0 s0 (.ob k 0) (IntKind.wrap .i64 ((i : Int) + 1)) H' ∧ Kp H H' [] := by
        rw [inc_nat (by omega)]
        have k4 : Kp H H4 [] := k3.trans d2 (fun x hx _ => hx) (fun x hx _ => hx)
        obtain ⟨H', e1, e2⟩ := ih (j + 1) (h.kn k4) (by omega) (by omega)
        exact ⟨H', e1, k4.trans e2 (fun x hx _ => hx) (fun x hx _ => hx)⟩
      rw [hdt, cond_true, strK H j hjl, Option.bind_some, a1, Option.bind_some]
      simp only
      rw [b1, Option.bind_some]
      simp only
      rw [c1, Option.bind_some]
      simp only
      rw [hl1, hl2, d1]
      have hIk := hI.l (kJ j)
      have hz : (cond ((((lkOf t (kJ j)).hs.length : Nat) : Int) == 0) (cond (decide ((((lkOf t (kJ j)).q.length : Nat) : Int) > 0)) (some (V.bool false, H3)) (L5_1 (n + 5) m0 m s0 (.ob k 0) (i : Int) (IntKind.wrap .i64 ((j : Int) + 1)) H4)) (L5_1 (n + 5) m0 m s0 (.ob k 0) (i : Int) (IntKind.wrap .i64 ((j : Int) + 1)) H4)) = L5_1 (n + 5) m0 m s0 (.ob k 0) (i : Int) (IntKind.wrap .i64 ((j : Int) + 1)) H4 := by
        rw [show (0 : Int) = ((0 : Nat) : Int) from rfl, beqI]
        by_cases h0 : (lkOf t (kJ j)).hs.length = 0
        · have hq := hIk.b (List.eq_nil_of_length_eq_zero h0)
          rw [decide_eq_true h0, cond_true, hq]
          rfl
        · rw [decide_eq_false h0, cond_false]
      rw [hz]
      cases ho : (lkOf t (kJ j)).only with
      | false => rw [cond_false]; exact hnx
      | true =>
        rw [cond_true, hIk.a ho, show ((((1 : Nat) : Int)) != 1) = false from rfl, cond_false]
        exact hnx
    · have hdt : decide ((j : Int) < 4) = false := decide_eq_false (by omega)
      rw [hdt, cond_false]
      exact ⟨H, rfl, Kp.refl _ _⟩
theorem kbA_key (j : Nat) : kbA j = ⟨(kJ j).toArray⟩ := rfl
theorem la50 (n : Nat) (hn : 3000 ≤ n) {s0 : VS} {A : List Ac} (hs0 : IsE s0 (actE A)) (hA : A.length ≤ 100) (hok : ∀ x ∈ A, x.ok) {k : Nat} : ∀ (m c : Nat) {H : VH} {F : List Nat} {t : Tb}, c ≤ A.length → A.length < c + m → TO H k F t → IT t → NB c t →
    ∃ H', L5_0 (n + 5) m s0 (.ob k 0) (c : Int) H = some (.bool true, H') := by
  intro m
  induction m with
  | zero => intros; omega
  | succ m ih =>
    intro c H F t hc hm h hI hN
    rw [L5_0_eq, hs0.len, actE_len]
    by_cases hcl : c < A.length
    · obtain ⟨x, hx⟩ := get_of hcl
      have hdt : decide ((c : Int) < (A.length : Int)) = true := decide_eq_true (by omega)
      have hxo := hok x (List.mem_of_getElem? hx)
      have r6 : remI (x.o : Int) 6 = some ((x.o % 6 : Nat) : Int) := remI_nat (y := 6) (by decide)
      have r4 : remI (x.d : Int) 4 = some ((x.d % 4 : Nat) : Int) := remI_nat (y := 4) (by decide)
      have hw : IntKind.wrap .i64 ((x.o % 6 : Nat) : Int) = ((x.o % 6 : Nat) : Int) := i64_nat (by omega)
      rw [hdt, cond_true, rd_act hs0 hx, Option.bind_some, at_a0, Option.bind_some, ld_a0, Option.bind_some, r6, Option.bind_some, Option.bind_some, ld_aa, Option.bind_some]
      simp only
      rw [c19 (n + 4) hxo H, Option.bind_some, Option.bind_some, at_a2, Option.bind_some, ld_a2, Option.bind_some, r4, Option.bind_some, hw]
      -- on to the next
      have on : ∀ {H1 : VH} {F1 : List Nat} {t1 : Tb}, TO H1 k F1 t1 → IT t1 → NB (c + 1) t1 → ∃ H', L5_1 (n + 5) m (n + 5) s0 (.ob k 0) (c : Int) 0 H1 = some (.bool true, H') := by
        intro H1 F1 t1 g1 g2 g3
        obtain ⟨H2, a1, a2⟩ := la51 n hn (s0 := s0) (m0 := m) (i := c) g2 g3 (by omega) (n + 5) 0 g1 (by omega) (by omega)
        rw [show ((0 : Nat) : Int) = 0 from rfl] at a1
        rw [a1, inc_nat (by omega)]
        exact ih (c + 1) (by omega) (by omega) (g1.kn a2) g2 g3
      cases hd : (((x.d % 4 : Nat) : Int) == 3) with
      | true =>
        obtain ⟨s', H1, F1, a1, a2, a3, a4⟩ := free_n n hn h hN (by omega) ((x.o % 6 : Nat) : Int)
        rw [cond_true, a1, Option.bind_some]
        exact on a2 (hI.free _) (a4.mono (by omega))
      | false =>
        obtain ⟨H1, F1, a1, a2, a3⟩ := ask_n n hn h hN (by omega) ((x.o % 6 : Nat) : Int) (kJ (x.k % 4)) (decide (x.d / 4 % 2 = 0)) (by omega) (by simp [kJ])
        rw [cond_false, kbA_key, a1, Option.bind_some]
        exact on a2 (hI.ask _ _ _) a3
    · have hdt : decide ((c : Int) < (A.length : Int)) = false := decide_eq_false (by omega)
      rw [hdt, cond_false]
      exact ⟨H, rfl⟩
theorem lockAlone_law (us : List V) (h : HasAs P [37] us) : ∃ n H', vF P tab n 5 us [] = some (.bool true, H') := by
  match us, h with
  | [u0], ⟨h0, _⟩ =>
    obtain ⟨d, s, es, rfl, hs, hl, hes⟩ := hasA_sl (e := 39) (by kernel_rfl) h0
    obtain ⟨A, rfl, hA0⟩ := lst_of (f := Ac.cells) (Q := Ac.ok) (es := es) (fun y hy => ac_cells (hes y hy).1)
    have hs : IsE s (actE A) := hs
    obtain ⟨N, hN⟩ : ∃ N, 3000 ≤ N := ⟨3000, Nat.le_refl _⟩
    refine ⟨N + 66, ?_⟩
    rw [vF_body rfl, f5_eq, c_lets (N + 5), show (!(true, ([] : VH)).1) = false from rfl, cond_false, hs.len, actE_len]
    by_cases hA : 100 < A.length
    · have hd : decide ((A.length : Int) > 100) = true := decide_eq_true (by omega)
      rw [hd, cond_true, c_lets (N + 5)]
      exact ⟨_, rfl⟩
    · have hd : decide ((A.length : Int) > 100) = false := decide_eq_false (by omega)
      rw [hd, cond_false]
      obtain ⟨k, H1, F1, a1, a2⟩ := p11 (N + 64) []
      rw [a1, Option.bind_some]
      obtain ⟨H', b1⟩ := la50 (N + 60) (by omega) hs (by omega) hA0 (N + 65) 0 (Nat.zero_le _) (by omega) a2 IT.zero NB.zero
      rw [show ((0 : Nat) : Int) = 0 from rfl] at b1
      exact ⟨H', b1⟩
end Go.Proofs.Ytgmgpandhaeniaa
