import Derived.Test.YtgmgpandhaeniaaB14rf
import Derived.Test.YtgmgpandhaeniaaB14yb
set_option maxRecDepth 100000
set_option linter.unusedVariables false
set_option linter.unusedSimpArgs false
namespace Go.Proofs.Ytgmgpandhaeniaa.R
open Go.Proofs.Ytgmgpandhaeniaa.Sh Go.Proofs.Ytgmgpandhaeniaa.Sh.V Go.RowKit Go.Proofs.Ytgmgpandhaeniaa.Sh.Lk
/-! ### What one holds, in the program -/
theorem l25 (n : Nat) (hn : 3000 ≤ n) {H0 : VH} {k : Nat} {F : List Nat} {t : Tb} (h0 : TO H0 k F t) (o : Int) (sz : ∀ key, (lkOf t key).hs.length < 2000) {s10 : VS} {ks : List Key} (hk : IsT s10 ks) (hkz : ks.length < 100000) (hks : ∀ key ∈ ks, getM t.m key ≠ none) : ∀ (f i : Nat) {H : VH} {s5 : VS} {acc : List (Key × Bool)}, Kp H0 H [] → Aq H 28 s5 (acc.map k2) → (∀ a ∈ toks s5, H0.length ≤ a) → acc.length + (ks.drop i).length ≤ ks.length → i ≤ ks.length → ks.length < i + f →
    ∃ s' H', L25_0 (n + 2) f (.ob k 0) o s5 s10 (ks.length : Int) (i : Int) H = some (.sl 28 s', H') ∧ IsE s' ((acc ++ ((ks.drop i).filter (fun key => (lkOf t key).hs.contains o)).map fun key => (key, (lkOf t key).only)).map k2) ∧ Kp H0 H' [] := by
  intro f
  induction f with
  | zero => intros; omega
  | succ f ih =>
    intro i H s5 acc k0 hA ht hl hi hm
    rw [L25_0_eq]
    by_cases c : i < ks.length
    · obtain ⟨key, hx⟩ := get_of c
      rw [drop_cons hx, List.length_cons] at hl
      have hdt : decide ((i : Int) < (ks.length : Int)) = true := decide_eq_true (by omega)
      rw [hdt, cond_true, isT_rd hk hx, inc_nat (by omega), drop_cons hx, flt_cons]
      have h1 := h0.kn k0
      obtain ⟨i2, j2, g1, g2, g3⟩ := h1.find key
      rcases g3 with ⟨q1, _⟩ | ⟨l1, l2, b, Fb, x, q1, q2, q3, q4⟩
      · exact absurd q1 (hks key (get_mem hx))
      obtain ⟨s, q, hb, hs, hq, hF⟩ := q2.lo
      have hsz := sz key
      rw [lkOf_some q1] at hsz ⊢
      rw [nn_ob, Option.bind_some, atO_ob, Option.bind_some]
      simp only [Nat.zero_add]
      rw [ld_t0 g1, Option.bind_some, look_l q2.hi, Option.bind_some, getM_mid (by rw [keys_kb]; exact q2.nk)]
      simp only [nn_ob, atO_ob, Option.bind_some, Nat.zero_add]
      rw [ld_l0 hb, Option.bind_some, p27 n hn hs o hsz, Option.bind_some]
      simp only
      cases hc : x.hs.contains o with
      | false =>
        rw [cond_false, cond_false]
        exact ih (i + 1) k0 hA ht (by omega) (by omega) (by omega)
      | true =>
        rw [cond_true, cond_true, ld_l1 hb, Option.bind_some]
        obtain ⟨s', H2, c1, c2, c3, c4⟩ := hA.appE (sz := 2) (by_ := 24) (x := .fz [k2 (key, x.only)] (.ex 1)) (.fz _ _) (by rw [List.length_map]; simp only [bound, List.length_singleton]; omega) (by rw [List.length_map]; simp only [bound, List.length_singleton]; omega)
        have c1' : appD true H 2 24 28 s5 (.fz [[.str ⟨key.toArray⟩, .bool x.only]] (.ex 1)) = some (s', H2) := c1
        rw [c1', Option.bind_some]
        obtain ⟨s4, H4, d1, d2, d3⟩ := ih (i + 1) (H := H2) (s5 := s') (acc := acc ++ [(key, x.only)]) (k0.trans c3 (fun x hx _ => hx) (fun x hx hlt => by have := ht x hx; omega)) (by rw [List.map_append]; exact c2) (fun a ha => by
          rcases c4 a ha with h | h
          · exact ht a h
          · have := k0.len; omega) (by rw [List.length_append, List.length_singleton]; omega) (by omega) (by omega)
        refine ⟨s4, H4, d1, ?_, d3⟩
        rw [List.map_cons, lkOf_some q1, show ∀ r : List (Key × Bool), acc ++ (key, x.only) :: r = acc ++ [(key, x.only)] ++ r from fun r => by simp]
        exact d2
    · have hdt : decide ((i : Int) < (ks.length : Int)) = false := decide_eq_false (by omega)
      rw [hdt, cond_false, List.drop_eq_nil_of_le (by omega)]
      exact ⟨s5, H, rfl, by simpa using hA.isE, k0⟩
theorem p25 (n : Nat) (hn : 3000 ≤ n) {H : VH} {k : Nat} {F : List Nat} {t : Tb} (h : TO H k F t) (o : Int) (sz : ∀ key, (lkOf t key).hs.length < 2000) (hl : t.m.length < 3000) : ∃ s' H', V.callD (vF P tab (n + 3)) P false (.one (.flat (.slice 28))) 25 [.ptr (.ob k 0), .int .i64 o] H = some (s', H') ∧ IsE s' ((holdsP t o).map k2) ∧ Kp H H' [] := by
  obtain ⟨s1, H1, a1, a2, a3⟩ := p31 n h (by omega)
  have hkl : (keysP t).length = t.m.length := by unfold keysP; rw [sortK_len, List.length_map]
  obtain ⟨s', H', b1, b2, b3⟩ := l25 n hn (h.kn a3) o sz a2 (by omega) (fun key hk => by
    have : key ∈ t.m.map (·.1) := (sortK_perm _).mem_iff.1 hk
    exact mem_keys.1 this) (n + 2) 0 (s5 := .nil) (acc := []) (Kp.refl _ _) .nil (fun a ha => by cases ha) (by simp) (Nat.zero_le _) (by omega)
  refine ⟨s', H', callD_sl ?_, ?_, a3.trans b3 (fun x hx _ => hx) (fun x hx _ => hx)⟩
  · rw [vF_body rfl, f25_eq, a1, Option.bind_some]
    simp only
    rw [isT_len a2]
    exact b1
  · rw [List.drop_zero, List.nil_append] at b2
    exact b2
/-! ### Are a program's locks the document's? -/
theorem beq_self (b : Bool) : (b == b) = true := by cases b <;> rfl
theorem wr_wsr (w : Option Ln) : wr (w.map fun l => (l.k, l.only)) = wsr w := by cases w <;> rfl
abbrev KP (H H' : VH) : Prop := Kp H H' []
theorem KP.tr {H H1 H2 : VH} (a : KP H H1) (b : KP H1 H2) : KP H H2 := a.trans b (fun x hx _ => hx) (fun x hx _ => hx)
theorem rd_k0 {s : VS} {l : List (Key × Bool)} (h : IsE s (l.map k2)) {i : Nat} {x : Key × Bool} (hx : l[i]? = some x) (H : VH) {β : Type} (f : ByteArray → Option β) : ((ixV 2 s (i : Int)).bind fun p1 => (atO p1 0).bind fun p2 => (ldV (.flat .str) H p2).bind f) = f (bk x.1) := by
  rw [h.ix (y := k2 x) (by simp [hx]) 2, Option.bind_some]; rfl
theorem rd_k1 {s : VS} {l : List (Key × Bool)} (h : IsE s (l.map k2)) {i : Nat} {x : Key × Bool} (hx : l[i]? = some x) (H : VH) {β : Type} (f : Bool → Option β) : ((ixV 2 s (i : Int)).bind fun p1 => (atO p1 1).bind fun p2 => (ldV (.flat .bool) H p2).bind f) = f x.2 := by
  rw [h.ix (y := k2 x) (by simp [hx]) 2, Option.bind_some]; rfl
theorem l242 (n m0 : Nat) {s0 : VP} {s1 : VS} {s9 : Int} {s14 s15 : VS} {l : List (Key × Bool)} (ha : IsE s14 (l.map k2)) (hb : IsE s15 (l.map k2)) (hl : l.length < 1000000) (H : VH) : ∀ (f i : Nat), i ≤ l.length → l.length < i + f →
    L24_2 n m0 f s0 s1 s9 s14 s15 (i : Int) H = L24_1 n m0 s0 s1 (IntKind.wrap .i64 (s9 + 1)) H := by
  intro f
  induction f with
  | zero => intros; omega
  | succ f ih =>
    intro i hi hm
    rw [L24_2_eq, ha.len, List.length_map]
    by_cases c : i < l.length
    · obtain ⟨x, hx⟩ := get_of c
      have hdt : decide ((i : Int) < (l.length : Int)) = true := decide_eq_true (by omega)
      rw [hdt, cond_true, rd_k0 ha hx, rd_k0 hb hx, strEq_self, Bool.not_true, cond_false, rd_k1 ha hx, rd_k1 hb hx, beq_self, Bool.not_true, cond_false, inc_nat (by omega)]
      exact ih (i + 1) (by omega) (by omega)
    · have hdt : decide ((i : Int) < (l.length : Int)) = false := decide_eq_false (by omega)
      rw [hdt, cond_false]
section
variable {t : Tb} {m : List Ln} {S : List Int}
theorem l241 (n : Nat) (hn : 3000 ≤ n) {k : Nat} {F : List Nat} (r : Rel t m) (hi : IT t) (hx : XT S t) {N : Nat} (hN : NB N t) (hN2 : N ≤ 390) {s1 : VS} (hs : IsL s1 m) (hz : m.length ≤ 900) : ∀ (f c : Nat) {H : VH}, TO H k F t → c ≤ 7 → 7 < c + f →
    ∃ H', L24_1 (n + 4) f (.ob k 0) s1 (c : Int) H = some (.bool true, H') ∧ KP H H' := by
  intro f
  induction f with
  | zero => intros; omega
  | succ f ih =>
    intro c H h hc hm
    rw [L24_1_eq]
    have hsz : ∀ key, (lkOf t key).hs.length + (lkOf t key).q.length ≤ 390 := fun key => by have := hN.of key; omega
    by_cases hcl : c < 7
    · have hdt : decide ((c : Int) < 7) = true := decide_eq_true (by omega)
      obtain ⟨H1, a1, a2⟩ := p20 (n + 2) (by omega) h (c : Int) (fun key => by have := hsz key; omega)
      rw [hdt, cond_true, a1, Option.bind_some]
      simp only
      obtain ⟨H2, e2⟩ : ∃ H2 : VH, H2 = H1 ++ [VO.row NTY [.str ⟨#[]⟩, .bool false]] := ⟨_, rfl⟩
      have hp2 : H2[H1.length]? = some (.row NTY [.str ⟨#[]⟩, .bool false]) := by rw [e2]; exact app_last _ _
      have k2' : Kp H1 H2 [] := by rw [e2]; exact Kp.app _ _
      rw [← e2]
      obtain ⟨H3, b1, b2, b3, b4⟩ := stN hp2 (wr (waitsP t (c : Int))).1 (wr (waitsP t (c : Int))).2.1
      rw [b1, Option.bind_some, c42 (n + 3) hs (c : Int) (by omega) (by omega) H3, Option.bind_some]
      have k3 : KP H H3 := (KP.tr a2 k2').trans b3 (fun x hx _ => hx) (fun x hx hlt => by simp at hx; have := a2.len; omega)
      have hw : wr (waitsP t (c : Int)) = wsr (waitsR m (c : Int)) := by rw [r.waits hi, wr_wsr]
      rw [hw] at b2 ⊢
      obtain ⟨H4, d1, d2, d3, d4⟩ := box_new H3 (54 + boxK) (zs := [.str ⟨#[]⟩, .bool false]) (cs := [.str (wsr (waitsR m (c : Int))).1, .bool (wsr (waitsR m (c : Int))).2.1]) rfl rfl
      simp only
      rw [d1, Option.bind_some, beq_self, Bool.not_true, cond_false]
      have k4 : KP H3 H4 := box_kp H3 _ (zs := [.str ⟨#[]⟩, .bool false]) (cs := [.str (wsr (waitsR m (c : Int))).1, .bool (wsr (waitsR m (c : Int))).2.1]) rfl rfl d1
      have b2' := k4.ob b2 (by simp)
      rw [nb0 b2', Option.bind_some, nb0 d2, Option.bind_some, strEq_self, Bool.not_true, cond_false, nb1 b2', Option.bind_some, nb1 d2, Option.bind_some, beq_self, Bool.not_true, cond_false]
      have h4 := h.kn (KP.tr k3 k4)
      obtain ⟨s9, H5, f1, f2, f3⟩ := p21 (n + 1) (by omega) h4 (c : Int) (fun key => by have := hsz key; omega)
      rw [f1, Option.bind_some]
      simp only
      obtain ⟨s10, g1, g2⟩ := c45 (n + 2) hs (c : Int) (by omega) (by omega) H5
      rw [g1, Option.bind_some]
      simp only
      have hal : (aheadP t (c : Int)).length < 3000 := by
        have e : ∀ l : List Int, (dedupI l).length ≤ l.length := by
          intro l
          induction l with
          | nil => exact Nat.le_refl _
          | cons a l ih =>
            cases l with
            | nil => exact Nat.le_refl _
            | cons b l =>
              show (cond (decide (a = b)) (dedupI (b :: l)) (a :: dedupI (b :: l))).length ≤ _
              cases decide (a = b) <;> simp only [cond_true, cond_false, List.length_cons] at ih ⊢ <;> omega
        unfold aheadP
        cases hwp : waitsP t (c : Int) with
        | none => simp
        | some kw =>
          obtain ⟨kk, oo⟩ := kw
          simp only
          have h1 := e (sortI ((lkOf t kk).hs.filter (fun h => h != (c : Int) && (oo || (lkOf t kk).only)) ++ aheadQ (c : Int) (lkOf t kk).q))
          rw [sortI_len, List.length_append] at h1
          have h2 := flen (fun h => h != (c : Int) && (oo || (lkOf t kk).only)) (lkOf t kk).hs
          have h3 : (aheadQ (c : Int) (lkOf t kk).q).length ≤ (lkOf t kk).q.length := by
            rw [aheadQ_take]
            refine Nat.le_trans (List.takeWhile_sublist _).length_le ?_
            rw [List.length_map]; exact Nat.le_refl _
          have := hsz kk
          omega
      rw [p15 (n + 3) (RdI.r f2) (RdI.e g2) (by omega) (by omega), Option.bind_some, r.ahead hi hx, decide_eq_true rfl, Bool.not_true, cond_false]
      have h5 := h4.kn f3
      obtain ⟨s12, H6, u1, u2, u3⟩ := p25 (n + 1) (by omega) h5 (c : Int) (fun key => by have := hsz key; omega) (by have := hN.m; omega)
      rw [u1, Option.bind_some]
      simp only
      obtain ⟨s13, v1, v2⟩ := c46 (n + 2) hs (c : Int) (by omega) (by omega) H6
      rw [v1, Option.bind_some]
      simp only
      rw [r.holds hi hx] at u2
      have e0 : ((((VS.len s12 : Nat) : Int)) != ((VS.len s13 : Nat) : Int)) = false := by rw [u2.len, v2.len]; simp
      rw [e0, cond_false]
      have hll : (holdsR m (c : Int)).length < 1000000 := by
        rw [← r.holds hi hx]
        unfold holdsP
        rw [List.length_map]
        refine Nat.lt_of_le_of_lt (List.length_filter_le _ _) ?_
        unfold keysP
        rw [sortK_len, List.length_map]
        have := hN.m; omega
      have hl2 : (holdsR m (c : Int)).length < n + 4 := by
        rw [← r.holds hi hx]
        unfold holdsP
        rw [List.length_map]
        refine Nat.lt_of_le_of_lt (List.length_filter_le _ _) ?_
        unfold keysP
        rw [sortK_len, List.length_map]
        have := hN.m; omega
      have := l242 (n + 4) f (s0 := .ob k 0) (s1 := s1) (s9 := (c : Int)) u2 v2 hll H6 (n + 4) 0 (Nat.zero_le _) (by omega)
      rw [show ((0 : Nat) : Int) = 0 from rfl] at this
      rw [this, inc_nat (by omega)]
      have k6 : KP H H6 := KP.tr (KP.tr k3 k4) (KP.tr f3 u3)
      obtain ⟨H', w1, w2⟩ := ih (c + 1) (h.kn k6) (by omega) (by omega)
      exact ⟨H', w1, KP.tr k6 w2⟩
    · have hdt : decide ((c : Int) < 7) = false := decide_eq_false (by omega)
      rw [hdt, cond_false]
      obtain ⟨H1, a1, a2⟩ := p14 (n + 1) h (by have := hN.m; omega)
      rw [a1, Option.bind_some]
      obtain ⟨s', b1, b2⟩ := c47 (n + 2) hs (by omega) (by omega) H1
      simp only
      rw [b1, Option.bind_some]
      simp only
      rw [isT_len b2, r.len hi]
      have e0 : ((((keysR m).length : Nat) : Int) == (((keysR m).length : Nat) : Int)) = true := by simp
      rw [e0]
      exact ⟨H1, rfl, a2⟩
end
end Go.Proofs.Ytgmgpandhaeniaa.R
