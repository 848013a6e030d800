import Derived.Test.YtgmgpandhaeniaaB14y
set_option maxRecDepth 100000
set_option linter.unusedVariables false
set_option linter.unusedSimpArgs false
namespace Go.Proofs.Ytgmgpandhaeniaa
open Go.Proofs.Ytgmgpandhaeniaa.Sh Go.Proofs.Ytgmgpandhaeniaa.Sh.V Go.RowKit Go.Proofs.Ytgmgpandhaeniaa.Sh.Lk
/-! ### Ask -/
theorem putA_put {A : Type} (m : List (Key × A)) (k : Key) (a a' : A) : putA (putA m k a) k a' = putA m k a' := by
  induction m with
  | nil => simp [putA]
  | cons p m ih =>
    obtain ⟨k0, a0⟩ := p
    by_cases h : k = k0
    · subst h; simp [putA]
    · rw [putA, if_neg h, putA, if_neg h, putA, if_neg h, ih]
theorem mF_put {l1 l2 : List Ent} {key : Key} {x : Lk} {m : List (Key × Lk)} (h : mF l1 key x l2 = putA m key x) (hn : key ∉ l1.map (·.k)) (x' : Lk) : mF l1 key x' l2 = putA m key x' := by
  rw [← putA_put m key x x', ← h]
  unfold mF
  rw [putA_mid (by rw [keys_kx]; exact hn)]
structure SZ (t : Tb) : Prop where
  m : t.m.length < 1000000
  w : t.ws.length < 1000000
  l : ∀ k x, getM t.m k = some x → x.hs.length < 2000 ∧ x.q.length < 2000
theorem SZ.of {t : Tb} (h : SZ t) (k : Key) : (lkOf t k).hs.length < 2000 ∧ (lkOf t k).q.length < 2000 := by
  unfold lkOf
  cases hg : getM t.m k with
  | none => exact ⟨by simp [lk0], by simp [lk0]⟩
  | some x => exact h.l k x hg
theorem tl12 (n : Nat) (hn : 3000 ≤ n) {H : VH} {k b i j p : Nat} {key : Key} {Fb : List Nat} {x : Lk} {l1 l2 : List Ent} {ws : List (Int × Key)} {m : List (Key × Lk)} (h : Foc H k key b Fb x i j l1 l2 ws) (hm : mF l1 key x l2 = putA m key x) (o : Int) (only has : Bool)
    (hp : H[p]? = some (.row (28 + boxK) [.str ⟨key.toArray⟩, .bool only])) (hs : x.hs.length < 2000) (hq : x.q.length < 2000) (hws : ws.length < 1000000) (hml : m.length < 900000) (ho : -9223372036854775808 ≤ o ∧ o ≤ 9223372036854775807) (hkl : key.length ≤ 9223372036854775807) :
    ∃ H' F', ((ldV (.flat .bool) H (.ob p 1)).bind fun x15 =>
                        ((stV (H ++ [.row (70 + boxK) [.int .i64 0, .bool false, .bool false]]) (.ob H.length 0) [.int .i64 o, .bool x15, .bool has]).bind fun h16 =>
                        ((ldV (.agg [.int .i64, .bool, .bool]) h16 (.ob H.length 0)).bind fun x17 =>
                        ((callD (vF P tab (n + 3)) P false (.one (.flat .bool)) 28 [.ptr (.ob b 0), .agg [.int .i64 x17.1, .bool x17.2.1, .bool x17.2.2.1]] h16).bind fun r18 =>
                        (cond r18.1
                        (cond has
                        ((ldV (.agg [.int .i64, .bool, .bool]) r18.2 (.ob H.length 0)).bind fun x19 =>
                        ((callD (vF P tab (n + 3)) P false (.tup []) 29 [.ptr (.ob b 0), .agg [.int .i64 x19.1, .bool x19.2.1, .bool x19.2.2.1]] r18.2).bind fun r20 =>
                        (some (V.bool true, r20.2))))
                        ((ldV (.flat (.slice 70)) r18.2 (.ob b 2)).bind fun x23 =>
                        (cond ((((VS.len x23 : Nat) : Int) : Int) == 0)
                        ((ldV (.agg [.int .i64, .bool, .bool]) r18.2 (.ob H.length 0)).bind fun x24 =>
                        ((callD (vF P tab (n + 3)) P false (.tup []) 29 [.ptr (.ob b 0), .agg [.int .i64 x24.1, .bool x24.2.1, .bool x24.2.2.1]] r18.2).bind fun r25 =>
                        (some (V.bool true, r25.2))))
                        ((ldV (.flat .str) r18.2 (.ob p 0)).bind fun x26 =>
                        ((ldV (.agg [.int .i64, .bool, .bool]) r18.2 (.ob H.length 0)).bind fun x27 =>
                        ((callD (vF P tab (n + 3)) P false (.tup []) 30 [.ptr (.ob k 0), .str x26, .agg [.int .i64 x27.1, .bool x27.2.1, .bool x27.2.2.1]] r18.2).bind fun r28 =>
                        (some (V.bool false, r28.2))))))))
                        ((ldV (.flat .str) r18.2 (.ob p 0)).bind fun x29 =>
                        ((ldV (.agg [.int .i64, .bool, .bool]) r18.2 (.ob H.length 0)).bind fun x30 =>
                        ((callD (vF P tab (n + 3)) P false (.tup []) 30 [.ptr (.ob k 0), .str x29, .agg [.int .i64 x30.1, .bool x30.2.1, .bool x30.2.2.1]] r18.2).bind fun r31 =>
                        (some (V.bool false, r31.2))))))))))
      = some (.bool (mayP x ⟨o, only, has⟩ && (has || x.q.isEmpty)), H') ∧
      TO H' k F' (cond (mayP x ⟨o, only, has⟩ && (has || x.q.isEmpty)) ⟨putA m key (giveP x ⟨o, only, has⟩), ws⟩ ⟨putA m key ⟨x.hs, x.only, Go.Proofs.Ytgmgpandhaeniaa.Sh.Lk.insP x.q ⟨o, only, has⟩⟩, putA ws o key⟩) := by
  obtain ⟨w, hw⟩ : ∃ w : Wt, w = ⟨o, only, has⟩ := ⟨_, rfl⟩
  have lp : ldV (.flat .bool) H (.ob p 1) = some only := by rw [ld_row hp]; rfl
  rw [lp, Option.bind_some]
  obtain ⟨H1, a1, a2, a3, a4⟩ := new_w H w
  rw [hw] at a1
  simp only at a1
  rw [a1, Option.bind_some, ld_w a2, Option.bind_some, ← hw]
  simp only
  rw [show V.agg [.int .i64 w.o, .bool w.only, .bool w.up] = .agg (wtc w) from rfl]
  have f1 := h.kn a3
  obtain ⟨H2, b1, b2⟩ := p28 (n + 2) f1.lo w
  rw [b1, Option.bind_some]
  simp only
  have f2 := f1.kn b2
  have hw2 := b2.ob a2 (by simp)
  have hp2 := b2.ob (a3.ob hp (by simp)) (by simp)
  have lk : ldV (.flat .str) H2 (.ob p 0) = some ⟨key.toArray⟩ := by rw [ld_row hp2]; rfl
  rw [lk, Option.bind_some, ld_w hw2, Option.bind_some]
  simp only
  have hml2 : (putA m key x).length < 1000000 := by have := (len_put m key x).2; omega
  have waits : ∃ H' F', ((callD (vF P tab (n + 3)) P false (.tup []) 30 [.ptr (.ob k 0), .str ⟨key.toArray⟩, .agg (wtc w)] H2).bind fun r31 => some (V.bool false, r31.2)) = some (.bool false, H') ∧ TO H' k F' ⟨putA m key ⟨x.hs, x.only, Go.Proofs.Ytgmgpandhaeniaa.Sh.Lk.insP x.q w⟩, putA ws o key⟩ := by
    obtain ⟨F2, c1, _⟩ := f2.to
    have hg : getM (mF l1 key x l2) key = some x := getM_mid (by rw [keys_kx]; exact h.nk)
    obtain ⟨H', F', d1, d2⟩ := p30 n hn c1 hg w hkl (by simp only; rw [hm]; exact hml2) hq hws (by rw [hw]; exact ho)
    refine ⟨H', F', by rw [d1]; rfl, ?_⟩
    have e : putA (mF l1 key x l2) key ⟨x.hs, x.only, Go.Proofs.Ytgmgpandhaeniaa.Sh.Lk.insP x.q w⟩ = putA m key ⟨x.hs, x.only, Go.Proofs.Ytgmgpandhaeniaa.Sh.Lk.insP x.q w⟩ := by rw [hm, putA_put]
    rw [e] at d2
    have : w.o = o := by rw [hw]
    rw [this] at d2
    exact d2
  have gives : ∃ H' F', ((callD (vF P tab (n + 3)) P false (.tup []) 29 [.ptr (.ob b 0), .agg (wtc w)] H2).bind fun r31 => some (V.bool true, r31.2)) = some (.bool true, H') ∧ TO H' k F' ⟨putA m key (giveP x w), ws⟩ := by
    obtain ⟨H', Fb', d1, d2, d3, d4⟩ := p29 (n + 1) f2.lo w hs
    obtain ⟨F', e1, _⟩ := (f2.op d3 d2 d4).to
    rw [mF_put hm h.nk] at e1
    exact ⟨H', F', by rw [d1]; rfl, e1⟩
  cases hmay : mayP x w with
  | false =>
    rw [cond_false]
    exact waits
  | true =>
    rw [cond_true]
    cases hhas : has with
    | true =>
      rw [cond_true]
      exact gives
    | false =>
      rw [cond_false]
      obtain ⟨s, q, hb, _, hqq, _⟩ := f2.lo
      rw [ld_l2 hb, Option.bind_some, hqq.len, wts_len]
      have e0 : (((x.q.length : Nat) : Int) == 0) = x.q.isEmpty := by
        rw [show (0 : Int) = ((0 : Nat) : Int) from rfl, beqI]
        cases x.q <;> simp
      rw [e0]
      cases hqe : x.q.isEmpty with
      | true => rw [cond_true]; exact gives
      | false => rw [cond_false]; exact waits
theorem p12 (n : Nat) (hn : 3000 ≤ n) {H : VH} {k : Nat} {F : List Nat} {t : Tb} (h : TO H k F t) (sz : SZ t) (hml : t.m.length < 900000) (o : Int) (key : Key) (only : Bool) (ho : -9223372036854775808 ≤ o ∧ o ≤ 9223372036854775807) (hkl : key.length ≤ 9223372036854775807) :
    ∃ H' F', V.callD (vF P tab (n + 4)) P false (.one (.flat .bool)) 12 [.ptr (.ob k 0), .int .i64 o, .agg [.str ⟨key.toArray⟩, .bool only]] H = some ((askP t o key only).2, H') ∧ TO H' k F' (askP t o key only).1 := by
  have main : ∃ H' F', bodyV P tab (vF P tab (n + 3)) (n + 3) 12 [.ptr (.ob k 0), .int .i64 o, .agg [.str ⟨key.toArray⟩, .bool only]] H = some (.bool (askP t o key only).2, H') ∧ TO H' k F' (askP t o key only).1 := by
    rw [f12_eq]
    obtain ⟨H1, e1⟩ : ∃ H1 : VH, H1 = H ++ [VO.row (28 + boxK) [.str ⟨key.toArray⟩, .bool only]] := ⟨_, rfl⟩
    have hp1 : H1[H.length]? = some (.row (28 + boxK) [.str ⟨key.toArray⟩, .bool only]) := by rw [e1]; exact app_last _ _
    have k1 : Kp H H1 [] := by rw [e1]; exact Kp.app _ _
    rw [← e1]
    have h1 := h.kn k1
    obtain ⟨i, j, g1, g2, _⟩ := h1.find key
    have lk : ldV (.flat .str) H1 (.ob H.length 0) = some ⟨key.toArray⟩ := by rw [ld_row hp1]; rfl
    simp only [VP.isNil, cond_false, nn_ob, atO_ob, Option.bind_some, Nat.zero_add]
    rw [ld_t1 g1, Option.bind_some, look_w g2, Option.bind_some]
    unfold askP
    cases hw : getM t.ws o with
    | some kk =>
      simp only [cond_true]
      exact ⟨H1, F, rfl, h1⟩
    | none =>
      simp only [cond_false]
      rw [lk, Option.bind_some]
      obtain ⟨b, H2, i, j, l1, l2, Fb, a1, a2, a3, a4, a5⟩ := p26 (n + 2) h1 key hkl sz.m
      rw [a1, Option.bind_some]
      simp only [nn_ob, atO_ob, Option.bind_some, Nat.zero_add]
      have hp2 := a4.ob hp1 (fun hm => by have := h.lt _ hm; omega)
      obtain ⟨x, hx⟩ : ∃ x, x = lkOf t key := ⟨_, rfl⟩
      obtain ⟨z1, z2⟩ := sz.of key
      rw [← hx] at a2 a3 z1 z2 ⊢
      obtain ⟨s, q, hb, hs, hqq, hF⟩ := a2.lo
      rw [ld_l0 hb, Option.bind_some, p27 (n + 1) (by omega) hs o z1, Option.bind_some]
      simp only
      have lo1 : ldV (.flat .bool) H2 (.ob H.length 1) = some only := by rw [ld_row hp2]; rfl
      have tl := fun has => tl12 n hn a2 a3 o only has hp2 z1 z2 sz.w hml ho hkl
      cases hc : x.hs.contains o with
      | true =>
        rw [cond_true, ld_l1 hb, Option.bind_some]
        obtain ⟨F2, c1, _⟩ := a2.to
        rw [a3] at c1
        cases hxo : x.only with
        | true =>
          rw [cond_true]
          exact ⟨H2, F2, rfl, c1⟩
        | false =>
          rw [cond_false]
          cases hon : only with
          | false =>
            rw [hon] at lo1
            rw [lo1, Option.bind_some]
            simp only [Bool.not_false, cond_true]
            exact ⟨H2, F2, rfl, c1⟩
          | true =>
            rw [hon] at lo1 tl
            rw [lo1, Option.bind_some]
            simp only [Bool.not_true, cond_false, Bool.or_false, Bool.and_false]
            obtain ⟨H', F', q1, q2⟩ := tl true
            rw [lo1] at q1
            refine ⟨H', F', q1.trans ?_, ?_⟩
            · cases (mayP x ⟨o, true, true⟩) <;> rfl
            · rw [hxo] at q2
              cases hmm : (mayP x ⟨o, true, true⟩) <;> rw [hmm] at q2 <;> exact q2
      | false =>
        rw [cond_false]
        obtain ⟨H', F', q1, q2⟩ := tl false
        refine ⟨H', F', q1.trans ?_, ?_⟩
        · simp only [Bool.false_and, cond_false, Bool.false_or]
          cases (mayP x ⟨o, only, false⟩ && x.q.isEmpty) <;> rfl
        · simp only [Bool.false_and, cond_false, Bool.false_or] at q2 ⊢
          cases hmm : (mayP x ⟨o, only, false⟩ && x.q.isEmpty) <;> rw [hmm] at q2 <;> exact q2
  obtain ⟨H', F', h1, h2⟩ := main
  exact ⟨H', F', callD_bool (by rw [vF_body rfl]; exact h1), h2⟩
end Go.Proofs.Ytgmgpandhaeniaa
