import Derived.Test.YtfneikjincmhpaaB18h
import Derived.Test.YtfneikjincmhpaaVc
set_option maxRecDepth 100000
set_option linter.unusedVariables false
set_option linter.unusedSimpArgs false
namespace Go.Proofs.Ytfneikjincmhpaa
open Go.Proofs.Ytfneikjincmhpaa.Sh Go.Proofs.Ytfneikjincmhpaa.Sh.V Go.RowKit
/-! ### SessionPlays -/
theorem stays_stp {H : VH} {p : VP} {τ : V.FT} {x : τ.T} (h : ldV (.flat τ) H p = some x) (r : Held) : V.stays H ((p, τ, V.fenc τ x) :: r) = V.stays H r := by
  rw [V.stays_cons, h]
  simp only [V.same_self, Bool.true_and]
theorem stays2 {H : VH} {q : Nat} {x : VS} {y : Int} (h1 : ldV (.flat (.slice 22)) H (.ob q 3) = some x) (h2 : ldV (.flat (.int .i64)) H (.ob q 2) = some y) : V.stays H [(.ob q 3, .slice 22, .sl 22 x), (.ob q 2, .int .i64, .int .i64 y)] = true :=
  (stays_stp (τ := .slice 22) h1 _).trans (stays_int h2)
theorem actB_len (d : Nat) (p : List UInt8) (c : Nat) (hp : p.length ≤ 60) : (actB d p c).length ≤ 124 := by
  have ha : (actP p c).length ≤ 60 := by
    unfold actP
    split
    · rw [List.length_singleton]; omega
    · exact hp
  unfold actB
  split
  · rw [textI_len]; decide
  · split
    · rw [textI_len]; decide
    · split
      · omega
      · split
        · refine Nat.le_trans (List.length_take_le _ _) ?_
          have := Nat.mod_lt c (show 0 < (actP p c).length + 2 by omega)
          omega
        · split
          · rw [List.length_append, textI_len]; omega
          · rw [textI_len]; omega
theorem paysS_out : ∀ (xs : List (List UInt8)) (s : PS), (paysS xs s).out.length ≤ s.out.length + 17 * xs.length
  | [], s => by simp [paysS]
  | x :: xs, s => by
    have h1 := paysS_out xs (payS x s)
    have h2 := payS_out x s
    show (paysS xs (payS x s)).out.length ≤ _
    rw [List.length_cons]; omega
theorem paysS_st : ∀ (xs : List (List UInt8)) (s : PS), s.st ≤ 2 → (paysS xs s).st ≤ 2
  | [], s, h => h
  | x :: xs, s, h => paysS_st xs (payS x s) (payS_st h x)
theorem paysS_q4 : ∀ (xs : List (List UInt8)) (s : PS), s.q.length ≤ 4 → (paysS xs s).q.length ≤ 4
  | [], s, h => h
  | x :: xs, s, h => paysS_q4 xs (payS x s) (payS_q4 x h)
theorem delS_out (xs : List (List UInt8)) (l : List UInt8) (b : Bool) (s : PS) : (delS (xs, l, b) s).out.length ≤ s.out.length + 17 * (xs.length + 1) := by
  unfold delS
  have := paysS_out xs s
  simp only
  split
  · show (faultS 3 _).out.length ≤ _
    unfold faultS
    simp only [List.length_append, ans_len]; omega
  · omega
theorem delS_st (xs : List (List UInt8)) (l : List UInt8) (b : Bool) (s : PS) (h : s.st ≤ 2) : (delS (xs, l, b) s).st ≤ 2 := by
  unfold delS
  simp only
  split
  · exact Nat.le_refl _
  · exact paysS_st xs s h
theorem delS_q4 (xs : List (List UInt8)) (l : List UInt8) (b : Bool) (s : PS) (h : s.q.length ≤ 4) : (delS (xs, l, b) s).q.length ≤ 4 := by
  unfold delS
  simp only
  split
  · exact paysS_q4 xs s h
  · exact paysS_q4 xs s h
theorem delS_left (xs : List (List UInt8)) (l l' : List UInt8) (b : Bool) (s : PS) : delS (xs, l, b) s = delS (xs, l', b) s := rfl
theorem delS_broken (xs : List (List UInt8)) (l : List UInt8) (s : PS) (h : (delS (xs, l, true) s).st < 2) : False := by
  unfold delS at h
  simp only [true_and] at h
  split at h
  · simp [faultS] at h
  · omega
theorem payS_mem (y : List UInt8) (s : PS) : ∀ x ∈ (payS y s).q, x ∈ s.q ∨ x = y := by
  intro x hx
  unfold payS faultS at hx
  split at hx
  · split at hx <;> exact .inl hx
  · split at hx
    · split at hx
      · exact .inl hx
      · rcases List.mem_append.1 hx with hx | hx
        · exact .inl hx
        · exact .inr (List.mem_singleton.1 hx)
    · exact .inl hx
theorem paysS_mem : ∀ (ys : List (List UInt8)) (s : PS), ∀ x ∈ (paysS ys s).q, x ∈ s.q ∨ x ∈ ys
  | [], s, x, hx => .inl hx
  | y :: ys, s, x, hx => by
    rcases paysS_mem ys (payS y s) x hx with h | h
    · rcases payS_mem y s x h with h | h
      · exact .inl h
      · exact .inr (h ▸ List.mem_cons_self ..)
    · exact .inr (List.mem_cons_of_mem _ h)
theorem delS_mem (ys : List (List UInt8)) (l : List UInt8) (b : Bool) (s : PS) : ∀ x ∈ (delS (ys, l, b) s).q, x ∈ s.q ∨ x ∈ ys := by
  intro x hx
  unfold delS at hx
  simp only at hx
  split at hx
  · exact paysS_mem ys s x hx
  · exact paysS_mem ys s x hx
/-- Program and document, in one state. -/
structure SI (H : VH) (k ks q : Nat) (T : List Nat) (c : Nat) (acc : List UInt8) (tk : Nat) (l : List UInt8) (b : Bool) (s : PS) : Prop where
  p : SesP H k ks T l b s
  r : Ref H q acc tk s
  dk : q ≠ k
  ds : q ≠ ks
  dT : q ∉ T
  q4 : s.q.length ≤ 4
  s3 : s.st ≤ 3
  ql : ∀ x ∈ s.q, x.length ≤ 10000
  st : s.st < 2 → b = false ∧ l = (pull acc).2.1 ∧ (pull acc).2.2 = false ∧ tk = (pull acc).1.length
  al : acc.length ≤ 7 + 124 * c
  ol : s.out.length ≤ 17 * ((pull acc).1.length + 2 * c + 2)
section
variable {H : VH} {k ks q : Nat} {T : List Nat} {c : Nat} {acc : List UInt8} {tk : Nat} {l : List UInt8} {b : Bool} {s : PS}
theorem SI.qlt (h : SI H k ks q T c acc tk l b s) : q < H.length := h.r.lt
theorem nq {T T' : List Nat} (h : q ∉ T) (hq : q < H.length) (t : TN H T T') : q ∉ T' := fun hm => by
  rcases t q hm with h1 | h1
  · exact h h1
  · omega
theorem SI.ses {H' : VH} {T' : List Nat} (h : SI H k ks q T c acc tk l b s) (kp : Kp H H' (k :: ks :: T)) (tn : TN H T T') : Ref H' q acc tk s ∧ q ∉ T' :=
  ⟨h.r.keep kp (by simp only [List.mem_cons, not_or]; exact ⟨h.dk, h.ds, h.dT⟩), nq h.dT h.qlt tn⟩
theorem ses_ref {H H' : VH} {k ks q : Nat} {T : List Nat} {st : Nat} {l : List UInt8} {b : Bool} {queue : List (List UInt8)} {out : List UInt8} (h : Ses H k ks T st l b queue out) (kp : Kp H H' [q]) (dk : q ≠ k) (ds : q ≠ ks) (dT : q ∉ T) : Ses H' k ks T st l b queue out :=
  h.keep kp (by simpa using fun e => dk e.symm) (by simpa using fun e => ds e.symm) (fun t ht => by
    rw [List.mem_singleton]
    rintro rfl
    exact dT ht)
theorem tail6 (M m i : Nat) (s0 : VS) (h : SI H k ks q T c acc tk l b s) (hi : i < 1000000) :
    ((ldV (.flat (.int .i64)) H (.ob q 2)).bind fun x8 =>
      ((callD (vF P tab (M + 30000)) P false (.one (.flat (.int .u8))) 16 [.ptr (.ob k 0)] H).bind fun r9 =>
        (cond (V.stays r9.2 [(.ob q 2, .int .i64, .int .i64 x8)])
          (cond (((IntKind.wrap .i64 r9.1) : Int) != x8)
            (some (.bool false, r9.2))
            ((ldV (.flat (.slice 22)) r9.2 (.ob q 3)).bind fun x10 =>
              ((callD (vF P tab (M + 30000)) P false (.one (.flat (.int .i64))) 20 [.ptr (.ob k 0)] r9.2).bind fun r11 =>
                (cond (V.stays r11.2 [(.ob q 3, .slice 22, .sl 22 x10), (.ob q 2, .int .i64, .int .i64 x8)])
                  (cond ((r11.1 : Int) != ((VS.len x10 : Nat) : Int))
                    (some (.bool false, r11.2))
                    (L6_0 (M + 30000) m s0 (.ob k 0) q (IntKind.wrap .i64 ((i : Int) + 1)) r11.2))
                  none))))
          none))) = L6_0 (M + 30000) m s0 (.ob k 0) q ((i + 1 : Nat) : Int) H := by
  obtain ⟨qs, qes, o1, o2, o3⟩ := rl_q h.r
  have hw : IntKind.wrap .i64 ((s.st : Nat) : Int) = ((s.st : Nat) : Int) := i64_nat (by have := h.s3; omega)
  rw [rl_st h.r, Option.bind_some, callD_int (e16s (M + 29999) h.p), Option.bind_some]
  simp only
  rw [stays_int (rl_st h.r), cond_true, hw]
  rw [show (((s.st : Nat) : Int) != ((s.st : Nat) : Int)) = false by simp, cond_false, o1, Option.bind_some, callD_int (e20s (M + 29999) h.p), Option.bind_some]
  simp only
  rw [stays2 o1 (rl_st h.r), cond_true, o2.len, o3.len, show (((s.q.length : Nat) : Int) != ((s.q.length : Nat) : Int)) = false by simp, cond_false, inc_nat (by omega)]
theorem c26r (n : Nat) (h : Ref H q acc tk s) : ∃ r H', callD (vF P tab (n + 1)) P false (.tup [(.flat (.slice 5)), (.flat .bool)]) 26 [.ptr (.ob q 0)] H = some ((r, decide (s.q ≠ []), ()), H') ∧ IsB r (s.q.headD []) ∧ Ref H' q acc tk ⟨s.st, s.q.tail, s.out, s.n⟩ ∧ Kp H H' [q] := by
  obtain ⟨r, H', a, b⟩ := e26r n h
  exact ⟨r, H', callD_some _ a rfl, b⟩
theorem SI.mk2 (h : SI H k ks q T c acc tk l b s) {H2 : VH} {T2 : List Nat} {s2 : PS} (p : SesP H2 k ks T2 l b s2) (r : Ref H2 q acc tk s2) (dT : q ∉ T2) (q4 : s2.q.length ≤ 4) (s3 : s2.st ≤ 3) (ql : ∀ x ∈ s2.q, x.length ≤ 10000) (st : s2.st < 2 → s.st < 2) (ol : s2.out.length ≤ s.out.length + 17) : SI H2 k ks q T2 (c + 1) acc tk l b s2 :=
  ⟨p, r, h.dk, h.ds, dT, q4, s3, ql, fun hs => h.st (st hs), by have := h.al; omega, by have := h.ol; omega⟩
theorem at_c0 (a : Ac) : atO (.fz a.cells) 0 = some (.fz a.cells) := rfl
theorem at_c2 (a : Ac) : atO (.fz a.cells) 2 = some (.fz [.int .u8 (a.c : Int)]) := rfl
theorem ld_c0 (a : Ac) (H : VH) : ldV (.flat (.int .u8)) H (.fz a.cells) = some (a.d : Int) := rfl
theorem ld_c2 (a : Ac) (H : VH) : ldV (.flat (.int .u8)) H (.fz [.int .u8 (a.c : Int)]) = some (a.c : Int) := rfl
theorem ld_ca (a : Ac) (H : VH) : ldV (.agg [.int .u8, .slice 5, .int .u8]) H (.fz a.cells) = some ((a.d : Int), a.v, (a.c : Int), ()) := by
  show (V.decs [.int .u8, .slice 5, .int .u8] a.cells) = _
  rfl
theorem st_f1 (H : VH) (cs : List V) (l1 : List V.FT) (v1 : List V) : V.stays H (hj (heldOf (.fz cs) l1 v1) []) = true := rfl
theorem st_f2 (H : VH) (cs ds : List V) (l1 l2 : List V.FT) (v1 v2 : List V) : V.stays H (hj (heldOf (.fz cs) l1 v1) (hj (heldOf (.fz ds) l2 v2) [])) = true := rfl
theorem out_le (h : SI H k ks q T c acc tk l b s) (hc : c ≤ 61) : acc.length ≤ 7571 ∧ s.out.length ≤ 135000 := by
  have h1 := h.al
  have h2 := h.ol
  have h3 := (pull_left _ acc (Nat.le_refl _)).2
  omega
theorem bneI (a : Int) : (a != a) = false := by simp
theorem beqB (a : Bool) : (a == a) = true := by cases a <;> rfl
theorem SI.deliver (M : Nat) (h : SI H k ks q T c acc tk l b s) (hc : c ≤ 61) (hst : s.st < 2) {v : VS} {p : List UInt8} (hv : IsB v p) (hp : p.length ≤ 124) :
    ∃ (x : Int) (H1 : VH), callD (vF P tab (M + 30000)) P false (.one (.flat (.int .i64))) 12 [.ptr (.ob k 0), .sl 5 v] H = some (x, H1) ∧ ∀ {w : VS} {H1' : VH}, Kp H1 H1' [] → IsB w p → ∃ (H2 : VH) (T2 : List Nat) (s2 : PS) (l2 : List UInt8) (b2 : Bool) (acc2 : List UInt8) (tk2 : Nat), callD (vF P tab (M + 30000)) P false (.one (.flat (.int .i64))) 25 [.ptr (.ob q 0), .sl 5 w] H1' = some (x, H2) ∧
      SI H2 k ks q T2 (c + 1) acc2 tk2 l2 b2 s2 := by
  obtain ⟨hb, hl, hbr, htk⟩ := h.st hst
  subst hb
  obtain ⟨o1, o2⟩ := out_le h hc
  have hll : l.length ≤ acc.length := by rw [hl]; exact (pull_left _ acc (Nat.le_refl _)).1
  have hal := h.al
  obtain ⟨H1, T1, a1, a2, a3, a4⟩ := e12s M h.p hst hv (by omega) (by omega) (by have := h.q4; omega)
  obtain ⟨r1, d1⟩ := h.ses a3 a4
  have hpa := pull_app _ acc p (Nat.le_refl _)
  rw [if_neg (by rw [hbr]; simp), ← hl] at hpa
  have hf : feedS l p false = pull (l ++ p) := rfl
  have hdrop : (pull (acc ++ p)).1.drop tk = (pull (l ++ p)).1 := by rw [hpa, htk]; simp
  have hbr2 : (pull (acc ++ p)).2.2 = (pull (l ++ p)).2.2 := by rw [hpa]
  have hlen : (pull (acc ++ p)).1.length = tk + (pull (l ++ p)).1.length := by rw [hpa, htk]; simp
  have hdel : delS (feedS l p false) s = delS ((pull (l ++ p)).1, [], (pull (l ++ p)).2.2) s := by rw [hf]; exact delS_left _ _ _ _ _
  rw [hdel] at a1 a2
  rw [hf] at a2
  refine ⟨_, H1, callD_int a1, fun {w} {H1'} k1 hw => ?_⟩
  have r1 := r1.keep k1 (by simp)
  have a2 : SesP H1' _ _ _ _ _ _ := Ses.kn a2 k1
  obtain ⟨H2, b1, b2, b3⟩ := e25r M r1 hst hw (by omega) h.q4 (by omega) (by omega)
  rw [hdrop, hbr2] at b1 b2
  refine ⟨H2, T1, _, _, _, acc ++ p, _, callD_int b1, ⟨ses_ref a2 b3 h.dk h.ds d1, b2, h.dk, h.ds, d1, delS_q4 _ _ _ _ h.q4, by have := delS_st (pull (l ++ p)).1 [] (pull (l ++ p)).2.2 s (by omega); omega, fun x hx => ?_, fun hs2 => ⟨?_, ?_, ?_, rfl⟩, ?_, ?_⟩⟩
  · rcases delS_mem _ _ _ _ x hx with hx | hx
    · exact h.ql x hx
    · have := pull_mem _ (l ++ p) (Nat.le_refl _) x hx
      rw [List.length_append] at this
      omega
  · cases hx : (pull (l ++ p)).2.2 with
    | false => rfl
    | true => rw [hx] at hs2; exact absurd (delS_broken _ _ _ hs2) (fun f => f)
  · rw [hpa]
  · rw [hbr2]
    cases hx : (pull (l ++ p)).2.2 with
    | false => rfl
    | true => rw [hx] at hs2; exact absurd (delS_broken _ _ _ hs2) (fun f => f)
  · rw [List.length_append]; omega
  · have h1 := delS_out (pull (l ++ p)).1 [] (pull (l ++ p)).2.2 s
    have h2 := h.ol
    rw [hlen, htk]
    omega
theorem lp (M : Nat) (hM : 200000 ≤ M) {s0 : VS} {xs : List Ac} (hs : IsE s0 (acs xs)) (hok : ∀ x ∈ xs, x.ok) (hl : xs.length ≤ 60) (h60 : ∀ a ∈ xs, a.p.length ≤ 60) {k ks q g : Nat} (hg : g ≤ 1) : ∀ (f c : Nat) {H : VH} {T : List Nat} {acc : List UInt8} {tk : Nat} {l : List UInt8} {b : Bool} {s : PS}, SI H k ks q T (c + g) acc tk l b s → c ≤ xs.length → xs.length < c + f →
    ∃ H', L6_0 (M + 30000) f s0 (.ob k 0) q (c : Int) H = some (.bool true, H') := by
  intro f
  induction f with
  | zero => intros; omega
  | succ f ih =>
    intro c H T acc tk l b s h hc hm
    obtain ⟨o1, o2⟩ := out_le h (by omega)
    have hq4 := h.q4
    rw [L6_0_eq, hs.len, acs_len]
    by_cases hcl : c < xs.length
    · obtain ⟨a, ha⟩ := get_of hcl
      have hmem := List.mem_of_getElem? ha
      obtain ⟨av, ad, ac⟩ := hok a hmem
      have hdt : decide ((c : Int) < (xs.length : Int)) = true := decide_eq_true (by omega)
      have r8 : remI (a.d : Int) 8 = some ((a.d % 8 : Nat) : Int) := remI_nat (y := 8) (by decide)
      have r16 : remI (a.d : Int) 16 = some ((a.d % 16 : Nat) : Int) := remI_nat (y := 16) (by decide)
      have r11 : remI (a.c : Int) 11 = some ((a.c % 11 : Nat) : Int) := remI_nat (y := 11) (by decide)
      rw [hdt, cond_true, hs.ix (acs_get ha) 3, Option.bind_some, at_c0, Option.bind_some, ld_c0, Option.bind_some, r8, Option.bind_some]
      cases c6 : (((a.d % 8 : Nat) : Int) == 6) with
      | true =>
        obtain ⟨sp, H1, T1, a1, a2, a3, a4, a5⟩ := e21s (M + 29998) h.p
        obtain ⟨r1, d1⟩ := h.ses a4 a5
        obtain ⟨sr, H2, b1, b2, b3, b4⟩ := c26r (M + 29999) r1
        have hlen : (s.q.headD []).length ≤ 10000 := by
          cases hq : s.q with
          | nil => simp
          | cons x r => exact h.ql x (by rw [hq]; exact List.mem_cons_self ..)
        rw [cond_true, callD_next a1, Option.bind_some]
        simp only
        rw [b1, Option.bind_some]
        simp only
        rw [beqB, Bool.not_true, cond_false, callD_bool (e17 (M + 29999) a2 b2 (by rw [maxLen_eq]; omega) (by omega)), Option.bind_some, decide_eq_true rfl]
        simp only
        rw [Bool.not_true, cond_false]
        have h2 : SI H2 k ks q T1 (c + g + 1) acc tk l b ⟨s.st, s.q.tail, s.out, s.n⟩ := h.mk2 (ses_ref a3 b4 h.dk h.ds d1) b3 d1 (by simp only [List.length_tail]; omega) h.s3 (fun x hx => h.ql x (List.mem_of_mem_tail hx)) (fun hs => hs) (by simp only; omega)
        rw [tail6 M f c s0 h2 (by omega)]
        exact ih (c + 1) (by rw [show c + 1 + g = c + g + 1 by omega]; exact h2) (by omega) (by omega)
      | false =>
        rw [cond_false]
        cases c7 : (((a.d % 8 : Nat) : Int) == 7) with
        | true =>
          rw [cond_true, Option.bind_some, at_c0, Option.bind_some, ld_c0, Option.bind_some]
          by_cases hab : 248 ≤ a.d
          · have hd : decide ((a.d : Int) ≥ 248) = true := decide_eq_true (by omega)
            obtain ⟨H1, T1, a1, a2, a3, a4⟩ := e27s (M + 29999) h.p
            obtain ⟨r1, d1⟩ := h.ses a3 a4
            obtain ⟨H2, b1, b2, b3⟩ := e28r (M + 29999) r1
            rw [hd, cond_true, callD_unit a1, Option.bind_some]
            simp only
            rw [callD_unit b1, Option.bind_some]
            simp only
            have h2 : SI H2 k ks q T1 (c + g + 1) acc tk l b ⟨3, [], s.out, s.n⟩ := h.mk2 (ses_ref a2 b3 h.dk h.ds d1) b2 d1 (Nat.zero_le _) (Nat.le_refl _) (fun x hx => by cases hx) (fun hs => by simp at hs) (by simp only; omega)
            rw [tail6 M f c s0 h2 (by omega)]
            exact ih (c + 1) (by rw [show c + 1 + g = c + g + 1 by omega]; exact h2) (by omega) (by omega)
          · have hd : decide ((a.d : Int) ≥ 248) = false := decide_eq_false (by omega)
            rw [hd, cond_false, Option.bind_some, at_c0, Option.bind_some, ld_c0, Option.bind_some, r16, Option.bind_some]
            cases c16 : (((a.d % 16 : Nat) : Int) == 7) with
            | true =>
              rw [cond_true, Option.bind_some, at_c2, Option.bind_some, ld_c2, Option.bind_some, r11, Option.bind_some, Option.bind_some, at_c2, Option.bind_some, ld_c2, Option.bind_some, st_f2, cond_true, i64_nat (by omega), i64_nat (by omega)]
              obtain ⟨H0, b1, b2, b3, b4⟩ := box_new H (36 + boxK) (zs := [.int .i64 0, .bool false, .int .i64 0, .flt .f64 0, .sl 5 .nil, .sl 9 .nil]) (cs := [.int .i64 ((a.c % 11 : Nat) : Int), .bool false, .int .i64 (a.c : Int), .flt .f64 0, .sl 5 .nil, .sl 9 .nil]) rfl rfl
              have k0 := box_kp H (36 + boxK) (zs := [.int .i64 0, .bool false, .int .i64 0, .flt .f64 0, .sl 5 .nil, .sl 9 .nil]) (cs := [.int .i64 ((a.c % 11 : Nat) : Int), .bool false, .int .i64 (a.c : Int), .flt .f64 0, .sl 5 .nil, .sl 9 .nil]) rfl rfl b1
              have ldR : ∀ {K : VH}, K[H.length]? = some (.row (36 + boxK) [.int .i64 ((a.c % 11 : Nat) : Int), .bool false, .int .i64 (a.c : Int), .flt .f64 0, .sl 5 .nil, .sl 9 .nil]) → ldV (.agg [.int .i64, .bool, .int .i64, .flt .f64, .slice 5, .slice 9]) K (.ob H.length 0) = some (((a.c % 11 : Nat) : Int), false, (a.c : Int), 0, .nil, .nil, ()) := fun hK => by
                simp only [ldV, rowV_of hK, Option.bind_some]
                rfl
              have hses0 : SesP H0 k ks T l b s := h.p.keep k0 (by simp) (by simp) (by simp)
              have href0 : Ref H0 q acc tk s := h.r.keep k0 (by simp)
              obtain ⟨H1, T1, d1, d2, d3, d4⟩ := e29s (M + 29918) ((a.c % 11 : Nat) : Int) (a.c : Int) hses0 (by omega)
              have hq0 : q < H0.length := href0.lt
              have dT1 : q ∉ T1 := nq h.dT hq0 d4
              have href1 : Ref H1 q acc tk s := href0.keep d3 (by simp only [List.mem_cons, not_or]; exact ⟨h.dk, h.ds, h.dT⟩)
              have hbl := lt_of_ob b2
              obtain ⟨l1, l2, l3, l4⟩ := h.p.lt
              have hnot : H.length ∉ k :: ks :: T := by
                simp only [List.mem_cons, not_or]
                exact ⟨by omega, by omega, fun hm => by have := (l4 _ hm).1; omega⟩
              obtain ⟨H2, e1, e2, e3⟩ := e30r (M + 29938) ((a.c % 11 : Nat) : Int) (a.c : Int) href1 (by omega)
              rw [b1, Option.bind_some, ldR b2, Option.bind_some]
              simp only
              rw [callD_unit d1, Option.bind_some]
              simp only
              rw [ldR (d3.ob b2 hnot), Option.bind_some]
              simp only
              rw [callD_unit e1, Option.bind_some]
              simp only
              have h2 : SI H2 k ks q T1 (c + g + 1) acc tk l b (ansS ((a.c % 11 : Nat) : Int) (a.c : Int) s) := h.mk2 (ses_ref d2 e3 h.dk h.ds dT1) e2 dT1 hq4 h.s3 h.ql (fun hs => hs) (by
                unfold ansS
                simp only
                split
                · omega
                · rw [List.length_append, ans_len]; omega)
              rw [tail6 M f c s0 h2 (by omega)]
              exact ih (c + 1) (by rw [show c + 1 + g = c + g + 1 by omega]; exact h2) (by omega) (by omega)
            | false =>
              rw [cond_false]
              obtain ⟨sp, H1, T1, a1, a2, a3, a4, a5⟩ := e18s (M + 29999) h.p
              obtain ⟨r1, d1⟩ := h.ses a4 a5
              obtain ⟨sr, H2, b1, b2, b3, b4⟩ := e31r (M + 29999) r1
              rw [callD_sl a1, Option.bind_some]
              simp only
              rw [callD_sl b1, Option.bind_some]
              simp only
              rw [callD_bool (e17 (M + 29999) a2 b2 (by rw [maxLen_eq]; omega) (by omega)), Option.bind_some, decide_eq_true rfl]
              simp only
              rw [Bool.not_true, cond_false]
              have h2 : SI H2 k ks q T1 (c + g + 1) acc tk l b ⟨s.st, s.q, [], s.n⟩ := h.mk2 (ses_ref a3 b4 h.dk h.ds d1) b3 d1 hq4 h.s3 h.ql (fun hs => hs) (by simp)
              rw [tail6 M f c s0 h2 (by omega)]
              exact ih (c + 1) (by rw [show c + 1 + g = c + g + 1 by omega]; exact h2) (by omega) (by omega)
        | false =>
          rw [cond_false, Option.bind_some, ld_ca, Option.bind_some, Option.bind_some, ld_ca, Option.bind_some]
          simp only
          obtain ⟨s1, g1, g2⟩ := e19 (M + 29997) (hok a hmem) (h60 a hmem) H
          unfold Ac.cells at g1
          rw [callD_sl g1, Option.bind_some]
          simp only
          rw [st_f1, cond_true]
          have hpl := actB_len a.d a.p a.c (h60 a hmem)
          by_cases hst : s.st < 2
          · obtain ⟨x, H1, d1, dd⟩ := h.deliver M (by omega) hst g2 hpl
            obtain ⟨s3, u1, u2⟩ := e19 (M + 29997) (hok a hmem) (h60 a hmem) H1
            unfold Ac.cells at u1
            obtain ⟨H2, T2, s2, l2, b2, acc2, tk2, d2, d3⟩ := dd (Kp.refl _ _) u2
            rw [d1, Option.bind_some]
            simp only
            rw [st_f2, cond_true, callD_sl u1, Option.bind_some]
            simp only
            rw [st_f1, cond_true, d2, Option.bind_some]
            simp only
            rw [st_f2, cond_true, bneI, cond_false, tail6 M f c s0 d3 (by omega)]
            exact ih (c + 1) (by rw [show c + 1 + g = c + g + 1 by omega]; exact d3) (by omega) (by omega)
          · rw [callD_int (e12d (M + 29998) (p := actB a.d a.p a.c) h.p (by omega)), Option.bind_some]
            simp only
            rw [st_f2, cond_true]
            obtain ⟨s3, u1, u2⟩ := e19 (M + 29997) (hok a hmem) (h60 a hmem) H
            unfold Ac.cells at u1
            rw [callD_sl u1, Option.bind_some]
            simp only
            rw [st_f1, cond_true, callD_int (e25d (M + 29999) h.r (by omega)), Option.bind_some]
            simp only
            rw [st_f2, cond_true, bneI, cond_false]
            have h2 : SI H k ks q T (c + g + 1) acc tk l b s := h.mk2 h.p h.r h.dT hq4 h.s3 h.ql (fun hs => hs) (by omega)
            rw [tail6 M f c s0 h2 (by omega)]
            exact ih (c + 1) (by rw [show c + 1 + g = c + g + 1 by omega]; exact h2) (by omega) (by omega)
    · have hdt : decide ((c : Int) < (xs.length : Int)) = false := decide_eq_false (by omega)
      rw [hdt, cond_false]
      obtain ⟨sp, H1, T1, a1, a2, a3, a4, a5⟩ := e18s (M + 29999) h.p
      obtain ⟨r1, d1⟩ := h.ses a4 a5
      obtain ⟨sr, H2, b1, b2, b3, b4⟩ := e31r (M + 29999) r1
      rw [callD_sl a1, Option.bind_some]
      simp only
      rw [callD_sl b1, Option.bind_some]
      simp only
      rw [callD_bool (e17 (M + 29999) a2 b2 (by rw [maxLen_eq]; omega) (by omega)), Option.bind_some, decide_eq_true rfl]
      simp only
      rw [cond_true]
      obtain ⟨sp2, H3, T3, f1, f2, f3, f4, f5⟩ := e18s (M + 29999) (ses_ref a3 b4 h.dk h.ds d1)
      rw [callD_sl f1, Option.bind_some]
      simp only
      rw [f2.len]
      exact ⟨H3, rfl⟩
end
theorem ref_new (H : VH) : Ref (H ++ [.row (57 + boxK) [.sl 5 .nil, .int .i64 0, .int .i64 0, .sl 22 .nil, .sl 5 .nil]]) H.length [] 0 s00 :=
  ⟨.nil, .nil, .nil, [], by simp, .nil, .nil, .nil, .nil⟩
theorem sessionPlays (M : Nat) (hM : 200000 ≤ M) {s0 : VS} {xs : List Ac} (hs : IsE s0 (acs xs)) (hok : ∀ x ∈ xs, x.ok) (hl : xs.length ≤ maxLen) (hn : xs.length < M) (greet : Bool) (H : VH) : ∃ H', vF P tab (M + 30001) 6 [.sl 42 s0, .bool greet] H = some (.bool true, H') := by
  rw [vF_body rfl, f6_eq, callD_bool (e9 (M - 2) H |> fun h => by rw [show M + 30000 = M - 2 + 30002 by omega]; exact h), Option.bind_some]
  simp only [Bool.not_true, cond_false]
  rw [callD_bool (e10 (M + 29999) hs hok hl (by omega)), Option.bind_some]
  simp only
  cases hsm : smallB xs with
  | false =>
    rw [Bool.not_false, cond_true, callD_bool (e9 (M - 2) H |> fun h => by rw [show M + 30000 = M - 2 + 30002 by omega]; exact h), Option.bind_some]
    exact ⟨H, rfl⟩
  | true =>
    obtain ⟨h1, h2⟩ := small_ok hsm
    rw [Bool.not_true, cond_false]
    obtain ⟨H1, a1, a2, a3⟩ := e11s (M + 29998) H
    rw [callD_ptr a1, Option.bind_some]
    simp only
    obtain ⟨H2, e2⟩ : ∃ H2 : VH, H2 = H1 ++ [VO.row (57 + boxK) [.sl 5 .nil, .int .i64 0, .int .i64 0, .sl 22 .nil, .sl 5 .nil]] := ⟨_, rfl⟩
    have k2 : Kp H1 H2 [] := by rw [e2]; exact Kp.app _ _
    have r2 : Ref H2 H1.length [] 0 s00 := by rw [e2]; exact ref_new H1
    have p2 : SesP H2 (H.length + 1) H.length [] [] false s00 := a2.kn k2
    obtain ⟨l1, l2, _, _⟩ := a2.lt
    have i2 : SI H2 (H.length + 1) H.length H1.length [] 0 [] 0 [] false s00 := ⟨p2, r2, by omega, by omega, by simp, by decide, by decide, fun x hx => (by cases hx), fun _ => ⟨rfl, rfl, rfl, rfl⟩, by decide, by decide⟩
    rw [← e2]
    cases greet with
    | false =>
      rw [cond_false]
      obtain ⟨H', g⟩ := lp M hM hs hok h1 h2 (g := 0) (by omega) (M + 30000) 0 i2 (Nat.zero_le _) (by omega)
      rw [show ((0 : Nat) : Int) = 0 from rfl] at g
      exact ⟨H', g⟩
    | true =>
      rw [cond_true]
      obtain ⟨s2, H3, d1, d2, d3⟩ := hello_frame (M + 29998) H2
      have hif : True ∧ isRowV (List.append (α := VO) H2 [.row 5 [.int .u8 104, .int .u8 101, .int .u8 108, .int .u8 108, .int .u8 111]]) (List.length H2) 5 = true ∧ 5 < boxK := hello_if H2
      rw [if_pos hif]
      have d1' : vF P tab (M + 30000) 14 [.sl 5 (.hp (List.length H2) 0 5)] (List.append (α := VO) H2 [.row 5 [.int .u8 104, .int .u8 101, .int .u8 108, .int .u8 108, .int .u8 111]]) = some (.sl 5 s2, H3) := d1
      rw [callD_sl d1', Option.bind_some]
      simp only
      have i3 : SI H3 (H.length + 1) H.length H1.length [] 0 [] 0 [] false s00 := ⟨p2.kn d3, r2.keep d3 (by simp), by omega, by omega, by simp, by decide, by decide, fun x hx => (by cases hx), fun _ => ⟨rfl, rfl, rfl, rfl⟩, by decide, by decide⟩
      obtain ⟨x, H4, f1, ff⟩ := i3.deliver M (by omega) (by decide) d2 (by decide)
      rw [f1, Option.bind_some]
      simp only
      obtain ⟨s4, H5, g1, g2, g3⟩ := hello_frame (M + 29998) H4
      obtain ⟨H6, T6, s6, l6, b6, acc6, tk6, q1, q2⟩ := ff g3 g2
      rw [if_pos (hello_if H4), callD_sl g1, Option.bind_some]
      simp only
      rw [q1, Option.bind_some]
      obtain ⟨H', g⟩ := lp M hM hs hok h1 h2 (g := 1) (by omega) (M + 30000) 0 q2 (Nat.zero_le _) (by omega)
      rw [show ((0 : Nat) : Int) = 0 from rfl] at g
      exact ⟨H', g⟩
theorem sessionPlays_law (us : List V) (h : HasAs P [23, 4] us) : ∃ n H', vF P tab n 6 us [] = some (.bool true, H') := by
  match us, h with
  | [u0, u1], ⟨h0, h1, _⟩ =>
    obtain ⟨s2, xs, rfl, i2, i3, i4⟩ := acts_of h0
    obtain ⟨b, rfl⟩ := hasA_bool (by kernel_rfl) h1
    obtain ⟨M, hM⟩ : ∃ M, 200000 + xs.length < M := ⟨200000 + xs.length + 1, by omega⟩
    exact ⟨_, sessionPlays M (by omega) i2 i3 i4 (by omega) b []⟩
end Go.Proofs.Ytfneikjincmhpaa
