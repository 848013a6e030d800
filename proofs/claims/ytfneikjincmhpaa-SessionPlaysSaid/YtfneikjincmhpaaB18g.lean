import Derived.Test.YtfneikjincmhpaaB18e
set_option maxRecDepth 100000
set_option linter.unusedVariables false
set_option linter.unusedSimpArgs false
namespace Go.Proofs.Ytfneikjincmhpaa
open Go.Proofs.Ytfneikjincmhpaa.Sh Go.Proofs.Ytfneikjincmhpaa.Sh.V Go.RowKit
/-! ### SessionBusy -/
abbrev Rq : V := .agg [.int .i64 8, .bool false, .int .i64 0, .flt .f64 0, .sl 5 (.fz [] .no), .sl 9 .nil]
theorem b23 (n : Nat) : (bodyV P tab (vF P tab (n + 299)) (n + 299) 23 [.sl 5 (.fz (bs (encR 8 0)) .no)] []).map (·.1) = some (.tup [Rq, .int .i64 0]) := by kernel_rfl
theorem b23x (n m : Nat) : (bodyV P tab (vF P tab (n + 299)) (n + 299) 23 [.sl 5 (.fz (bs (encR 8 0)) (.ex m))] []).map (·.1) = some (.tup [Rq, .int .i64 0]) := by kernel_rfl
theorem strip_eq {s : VS} {es : List (List V)} (h : IsE s es) (h0 : es ≠ []) : s.strip = .fz es .no ∨ ∃ m, s.strip = .fz es (.ex m) := by
  cases h with
  | nil => exact absurd rfl h0
  | fz _ c =>
    cases c with
    | no => exact .inl rfl
    | ex m => exact .inr ⟨m, rfl⟩
    | tok t g => exact .inl rfl
theorem e23 (n : Nat) {v : VS} (hv : IsB v (encR 8 0)) (H : VH) : vF P tab (n + 300) 23 [.sl 5 v] H = some (.tup [Rq, .int .i64 0], H) := by
  have h : (bodyV P tab (vF P tab (n + 299)) (n + 299) 23 [.sl 5 v.strip] []).map (·.1) = some (.tup [Rq, .int .i64 0]) := by
    rcases strip_eq hv (by decide) with h | ⟨m, h⟩
    · rw [h]; exact b23 n
    · rw [h]; exact b23x n m
  cases hb : bodyV P tab (vF P tab (n + 299)) (n + 299) 23 [.sl 5 v.strip] [] with
  | none => rw [hb] at h; cases h
  | some r =>
    rw [hb] at h
    obtain ⟨r1, r2⟩ := r
    have h1 : r1 = .tup [Rq, .int .i64 0] := by simpa using h
    subst h1
    exact vF_lone (n := n + 299) (f := 23) (r := .tup [Rq, .int .i64 0]) rfl (by simp [closed_sl 5 hv]) (H1 := r2) hb rfl
theorem e24 (n : Nat) (H : VH) : vF P tab (n + 300) 24 [Rq, Rp 8 0] H = some (.bool true, H) := by kernel_rfl
def ones (q : Nat) : List (List UInt8) := (List.range q).map fun (j : Nat) => [u8 (j : Int)]
theorem ones_len (q : Nat) : (ones q).length = q := by simp [ones]
theorem ones_succ (q : Nat) : ones (q + 1) = ones q ++ [[u8 (q : Int)]] := by simp [ones, List.range_succ]
theorem ones_get {q i : Nat} (h : i < q) : (ones q)[i]? = some [u8 (i : Int)] := by simp [ones, h]
def reps (j : Nat) : List (List UInt8) := List.replicate j (encR 8 0)
theorem reps_succ (j : Nat) : frames (reps (j + 1)) = frames (reps j) ++ ans 8 0 := by
  unfold reps
  rw [List.replicate_succ', frames_app, frames_one]
  rfl
def SB (i : Nat) : PS := ⟨1, ones (min i 4), frames (reps (i - 4)), i - 4⟩
theorem SB_succ (i : Nat) : payS [u8 (i : Int)] (SB i) = SB (i + 1) := by
  by_cases h : 4 ≤ i
  · have e1 : min i 4 = 4 := by omega
    have e2 : min (i + 1) 4 = 4 := by omega
    have e3 : i + 1 - 4 = i - 4 + 1 := by omega
    unfold SB
    rw [e1, e2, e3, reps_succ]
    unfold payS
    rw [if_neg (show ¬ (1 = 0) by decide), if_pos rfl, if_pos (by rw [ones_len]; exact Nat.le_refl _)]
  · have e1 : min i 4 = i := by omega
    have e2 : min (i + 1) 4 = i + 1 := by omega
    have e3 : i + 1 - 4 = 0 := by omega
    have e4 : i - 4 = 0 := by omega
    unfold SB
    rw [e1, e2, e3, e4, ones_succ]
    unfold payS
    rw [if_neg (show ¬ (1 = 0) by decide), if_pos rfl, if_neg (by rw [ones_len]; exact h)]
theorem reps_len (j : Nat) : (frames (reps j)).length = 17 * j := by
  induction j with
  | zero => rfl
  | succ j ih => rw [reps_succ, List.length_append, ih, ans_len]; omega
theorem reps_pull (j : Nat) : pull (frames (reps j)) = (reps j, [], false) := by
  have := pull_frames (reps j) [] (fun x hx => by rw [(List.mem_replicate.1 hx).2, encR_len]; decide)
  rw [List.append_nil, pull_nil, List.append_nil] at this
  exact this
theorem bc_one (i : Nat) (h : i < 256) : bcs [u8 (i : Int)] = [.int .u8 (i : Int)] := by
  show [V.int .u8 (((u8 (i : Int)).toNat : Nat) : Int)] = _
  rw [u8_ofNat, UInt8.toNat_ofNat', show i % 256 % 2 ^ 8 = i by omega]
theorem e17h (n : Nat) {H : VH} {s : VS} {x : UInt8} {i : Nat} (hs : IsB s [x]) (hi : H[i]? = some (.row 5 [.int .u8 (x.toNat : Int)])) : vF P tab (n + 3) 17 [.sl 5 s, .sl 5 (.hp i 0 1)] H = some (.bool true, H) := by
  rw [vF_open rfl (by simp [closedC, closed1, basic]), f17_eq, hs.len]
  rw [show ((((bs [x]).length : Nat) : Int) != (((VS.hp i 0 1).len : Nat) : Int)) = false from rfl, cond_false]
  show L17_0 (n + 2) (n + 1 + 1) s (.hp i 0 1) 0 H = _
  rw [L17_0_eq, hs.len]
  rw [show decide ((0 : Int) < (((bs [x]).length : Nat) : Int)) = true from rfl, cond_true]
  rw [show (0 : Int) = ((0 : Nat) : Int) from rfl, hs.ix (i := 0) (y := bc x) rfl 1, Option.bind_some]
  rw [show ldV (.flat (.int .u8)) H (.fz (bc x)) = some (x.toNat : Int) from rfl, Option.bind_some]
  rw [show ixV 1 (.hp i 0 1) ((0 : Nat) : Int) = some (.ob i 0) from rfl, Option.bind_some, ld_row hi]
  simp only [List.getElem?_cons_zero, Option.bind_some, fd_int]
  rw [bne_self_eq_false, cond_false, show IntKind.wrap .i64 (((0 : Nat) : Int) + 1) = 1 from rfl, L17_0_eq, hs.len]
  rfl
theorem q52 (n : Nat) {k ks K t j : Nat} {l : List UInt8} (hj : j = K - 4) (hK : K ≤ 19) : ∀ (m i : Nat) {H : VH} {T : List Nat} {out : List UInt8}, Ses H k ks T 1 l false ((ones (min K 4)).drop i) out → i ≤ t % 6 → t % 6 < i + m →
    ∃ H', L5_2 (n + 30003) m (t : Int) (.ob k 0) (K : Int) (j : Int) (j : Int) (j : Int) (i : Int) H = some (.bool true, H') := by
  intro m
  induction m with
  | zero => intros; omega
  | succ m ih =>
    intro i H T out h hi hm
    rw [L5_2_eq, show (6 : Int) = ((6 : Nat) : Int) from rfl, remI_nat (by decide), Option.bind_some, i64_nat (by omega)]
    by_cases c : i < t % 6
    · have hdt : decide ((i : Int) < ((t % 6 : Nat) : Int)) = true := decide_eq_true (by omega)
      obtain ⟨s', H1, T1, g1, g2, g3, g4, g5⟩ := e21s (n + 30001) h
      rw [hdt, cond_true, callD_next g1, Option.bind_some]
      simp only
      rw [show (K : Int) - (j : Int) = ((min K 4 : Nat) : Int) by omega, i64_nat (by omega), List.tail_drop] at *
      by_cases c2 : i < min K 4
      · have hx : (ones (min K 4)).drop i = [u8 (i : Int)] :: (ones (min K 4)).drop (i + 1) := by
          have hg := ones_get c2
          obtain ⟨h1, h2⟩ := List.getElem?_eq_some_iff.1 hg
          rw [List.drop_eq_getElem_cons h1, h2]
        have hne : decide ((ones (min K 4)).drop i ≠ []) = true := decide_eq_true (by rw [hx]; simp)
        have hd2 : decide ((i : Int) < ((min K 4 : Nat) : Int)) = true := decide_eq_true (by omega)
        rw [hne, hd2]
        simp only [beq_self_eq_true, Bool.not_true, cond_false, cond_true]
        rw [hx] at g2
        simp only [List.headD_cons] at g2
        have hw : IntKind.wrap .u8 (i : Int) = (((u8 (i : Int)).toNat : Nat) : Int) := wrap_u8 _
        rw [hw]
        have hrow : (H1 ++ [VO.row 5 [.int .u8 (((u8 (i : Int)).toNat : Nat) : Int)]])[H1.length]? = some (.row 5 [.int .u8 (((u8 (i : Int)).toNat : Nat) : Int)]) := by simp
        rw [callD_bool (e17h (n + 30000) g2 hrow), Option.bind_some]
        simp only [Bool.not_true, cond_false]
        rw [inc_nat (by omega)]
        exact ih (i + 1) (g3.kn (Kp.app _ _)) (by omega) (by omega)
      · have hx : (ones (min K 4)).drop i = [] := by rw [List.drop_eq_nil_iff, ones_len]; omega
        have hne : decide ((ones (min K 4)).drop i ≠ []) = false := decide_eq_false (by rw [hx]; simp)
        have hd2 : decide ((i : Int) < ((min K 4 : Nat) : Int)) = false := decide_eq_false (by omega)
        rw [hne, hd2]
        simp only [beq_self_eq_true, Bool.not_true, cond_false]
        rw [inc_nat (by omega)]
        exact ih (i + 1) g3 (by omega) (by omega)
    · have hdt : decide ((i : Int) < ((t % 6 : Nat) : Int)) = false := decide_eq_false (by omega)
      rw [hdt, cond_false, beq_self_eq_true, cond_true]
      exact ⟨H, rfl⟩
theorem q51 (n : Nat) {k ks K t j : Nat} {l : List UInt8} (hj : j = K - 4) (hK : K ≤ 19) {s : VS} {es : List (List V)} (hs : IsE s es) (hp : PB es (reps j)) : ∀ (m i : Nat) {H : VH} {T : List Nat} {out : List UInt8}, Ses H k ks T 1 l false (ones (min K 4)) out → i ≤ j → j < i + m →
    ∃ H', L5_1 (n + 30003) m (t : Int) (.ob k 0) (K : Int) (j : Int) (j : Int) (i : Int) s (i : Int) H = some (.bool true, H') := by
  intro m
  induction m with
  | zero => intros; omega
  | succ m ih =>
    intro i H T out h hi hm
    have hrl : (reps j).length = j := by simp [reps]
    rw [L5_1_eq, hs.len, hp.len, hrl]
    by_cases c : i < j
    · have hdt : decide ((i : Int) < (j : Int)) = true := decide_eq_true (by omega)
      have hx : (reps j)[i]? = some (encR 8 0) := by simp [reps, c]
      obtain ⟨v, hv, hrd⟩ := rdB hs hp hx
      rw [hdt, cond_true, hrd, callD_some (τ := .tup [(.agg [.int .i64, .bool, .int .i64, .flt .f64, .slice 5, .slice 9]), (.flat (.int .i64))]) (x := ((8, false, 0, 0, .fz [] .no, .nil, ()), 0, ())) _ (e23 (n + 29703) hv H) rfl, Option.bind_some]
      simp only
      have hR : (H ++ [VO.row (36 + boxK) [.int .i64 0, .bool false, .int .i64 0, .flt .f64 0, .sl 5 .nil, .sl 9 .nil]])[H.length]? = some (.row (36 + boxK) [.int .i64 0, .bool false, .int .i64 0, .flt .f64 0, .sl 5 .nil, .sl 9 .nil]) := by simp
      rw [st_row hR (by simp) rfl, Option.bind_some]
      rw [show ((0 : Int) != 0) = false from rfl, cond_false]
      have hR2 : ((H ++ [VO.row (36 + boxK) [.int .i64 0, .bool false, .int .i64 0, .flt .f64 0, .sl 5 .nil, .sl 9 .nil]]).set H.length (.row (36 + boxK) (putAllV [.int .i64 0, .bool false, .int .i64 0, .flt .f64 0, .sl 5 .nil, .sl 9 .nil] 0 [.int .i64 8, .bool false, .int .i64 0, .flt .f64 0, .sl 5 (.fz [] .no), .sl 9 .nil])))[H.length]? = some (.row (36 + boxK) [.int .i64 8, .bool false, .int .i64 0, .flt .f64 0, .sl 5 (.fz [] .no), .sl 9 .nil]) := by
        rw [List.getElem?_set_self (by simp)]; rfl
      have hld : ldV (.agg [.int .i64, .bool, .int .i64, .flt .f64, .slice 5, .slice 9]) ((H ++ [VO.row (36 + boxK) [.int .i64 0, .bool false, .int .i64 0, .flt .f64 0, .sl 5 .nil, .sl 9 .nil]]).set H.length (.row (36 + boxK) (putAllV [.int .i64 0, .bool false, .int .i64 0, .flt .f64 0, .sl 5 .nil, .sl 9 .nil] 0 [.int .i64 8, .bool false, .int .i64 0, .flt .f64 0, .sl 5 (.fz [] .no), .sl 9 .nil]))) (.ob H.length 0) = some (8, false, 0, 0, .fz [] .no, .nil, ()) := by
        simp only [ldV, rowV_of hR2, Option.bind_some]
        rfl
      rw [hld, Option.bind_some]
      simp only
      rw [callD_bool (e24 (n + 29703) _), Option.bind_some]
      simp only [Bool.not_true, cond_false]
      rw [inc_nat (by omega)]
      exact ih (i + 1) (h.kn ((Kp.app H _).trans (Kp.set _ H.length _) (fun x hx _ => hx) (fun y hy hl => by rw [List.mem_singleton] at hy; omega))) (by omega) (by omega)
    · have : i = j := by omega
      subst this
      have hdt : decide ((i : Int) < (i : Int)) = false := decide_eq_false (by omega)
      rw [hdt, cond_false]
      exact q52 n hj hK (n + 30003) 0 (by rw [List.drop_zero]; exact h) (by omega) (by omega)
theorem q50 (n : Nat) {k ks K t : Nat} (hK : K ≤ 19) : ∀ (m i : Nat) {H : VH} {T : List Nat}, SesP H k ks T [] false (SB i) → i ≤ K → K < i + m →
    ∃ H', L5_0 (n + 30003) m (t : Int) (.ob k 0) (K : Int) ((i - 4 : Nat) : Int) (i : Int) H = some (.bool true, H') := by
  intro m
  induction m with
  | zero => intros; omega
  | succ m ih =>
    intro i H T h hi hm
    rw [L5_0_eq]
    by_cases c : i < K
    · have hdt : decide ((i : Int) < (K : Int)) = true := decide_eq_true (by omega)
      rw [hdt, cond_true, wrap_u8]
      obtain ⟨r1, r2⟩ : Rd (H ++ [.row 5 [.int .u8 (((u8 (i : Int)).toNat : Nat) : Int)]]) (.hp H.length 0 1) [u8 (i : Int)] ∧ Kp H (H ++ [.row 5 [.int .u8 (((u8 (i : Int)).toNat : Nat) : Int)]]) [] := new_rd H [u8 (i : Int)]
      obtain ⟨s1, H1, g1, g2, g3⟩ := fr14 (n + 30001) r1 (by simp)
      have k1 : Kp H H1 [] := r2.trans g3 (fun x hx _ => hx) (fun y hy _ => hy)
      rw [callD_sl g1, Option.bind_some]
      simp only
      have hf : feedS [] (textI [u8 (i : Int)]) false = ([[u8 (i : Int)]], [], false) := by
        unfold feedS
        rw [if_neg (by simp), List.nil_append]
        have := pull_text [u8 (i : Int)] [] (by simp) (by simp)
        rw [List.append_nil, pull_nil] at this
        exact this
      have hdel : delS ([[u8 (i : Int)]], [], false) (SB i) = SB (i + 1) := by
        unfold delS
        simp only
        rw [if_neg (by simp)]
        exact SB_succ i
      obtain ⟨H2, T2, q1, q2, _, _⟩ := dlv (n + 3) (s := SB i) (h.kn k1) (show 1 < 2 by decide) g2 (by rw [textI_len]; simp only [List.length_cons, List.length_nil]; omega) (by show (frames (reps (i - 4))).length < _; rw [reps_len]; omega) (by show (ones (min i 4)).length < _; rw [ones_len]; omega) hf hdel
      rw [callD_int q1, Option.bind_some]
      simp only
      rw [show ((i - 4 : Nat) : Int) + (((SB (i + 1)).n : Int) - ((SB i).n : Int)) = ((i + 1 - 4 : Nat) : Int) by
        show ((i - 4 : Nat) : Int) + (((i + 1 - 4 : Nat) : Int) - ((i - 4 : Nat) : Int)) = ((i + 1 - 4 : Nat) : Int)
        omega, i64_nat (by omega), inc_nat (by omega)]
      exact ih (i + 1) q2 (by omega) (by omega)
    · have : i = K := by omega
      subst this
      have hdt : decide ((i : Int) < (i : Int)) = false := decide_eq_false (by omega)
      rw [hdt, cond_false]
      obtain ⟨s5, H5, T5, u1, u2, u3, u4, u5⟩ := e18s (n + 30002) h
      have u2' : IsB s5 (frames (reps (i - 4))) := u2
      obtain ⟨s6, es6, w1, w2, w3⟩ := e22 (n + 30002) (H := H5) u2' (by rw [reps_len]; omega) (by rw [reps_len]; omega)
      rw [reps_pull] at w1 w3
      have w1' := callD_some (τ := .tup [(.flat (.slice 22)), (.flat (.int .i64)), (.flat .bool)]) (x := (s6, ((0 : Nat) : Int), false, ())) (P := P) _ w1 (by rfl)
      rw [i64_in (by omega)]
      by_cases c4 : i < 4
      · have hd : decide ((i : Int) - 4 < 0) = true := decide_eq_true (by omega)
        rw [hd, cond_true, callD_sl u1, Option.bind_some]
        simp only
        rw [w1', Option.bind_some]
        have := q51 n (t := t) (j := i - 4) rfl hK w2 w3 (n + 30003) 0 u3 (by omega) (by omega)
        rw [show ((i - 4 : Nat) : Int) = 0 by omega] at this ⊢
        exact this
      · have hd : decide ((i : Int) - 4 < 0) = false := decide_eq_false (by omega)
        rw [hd, cond_false, callD_sl u1, Option.bind_some]
        simp only
        rw [w1', Option.bind_some, show (i : Int) - 4 = ((i - 4 : Nat) : Int) by omega]
        exact q51 n (t := t) (j := i - 4) rfl hK w2 w3 (n + 30003) 0 u3 (by omega) (by omega)
theorem sessionBusy (n : Nat) (a t : Nat) (H : VH) : ∃ H', vF P tab (n + 30010) 5 [.int .u8 (a : Int), .int .u8 (t : Int)] H = some (.bool true, H') := by
  rw [vF_body rfl, f5_eq, callD_bool (e9 (n + 7) H), Option.bind_some]
  simp only [Bool.not_true, cond_false]
  obtain ⟨H1, a1, a2, a3⟩ := e11s (n + 30007) H
  rw [callD_ptr a1, Option.bind_some]
  simp only
  rw [if_pos (hello_if H1)]
  obtain ⟨s, H2, b1, b2, b3⟩ := hello_frame (n + 30007) H1
  rw [callD_sl b1, Option.bind_some]
  simp only
  obtain ⟨H3, T3, c1, c2, c3, c4⟩ := greeted (n + 9) (a2.kn b3) b2
  rw [callD_int c1, Option.bind_some, show (20 : Int) = ((20 : Nat) : Int) from rfl, remI_nat (by decide), Option.bind_some, i64_nat (by omega)]
  exact q50 (n + 6) (K := a % 20) (by omega) (n + 30009) 0 c2 (by omega) (by omega)
theorem sessionBusy_law (us : List V) (h : HasAs P [5, 5] us) : ∃ n H', vF P tab n 5 us [] = some (.bool true, H') := by
  match us, h with
  | [u0, u1], ⟨h0, h1, _⟩ =>
    obtain ⟨x, rfl, hx⟩ := hasA_int (k := .u8) (by kernel_rfl) h0
    obtain ⟨y, rfl, hy⟩ := hasA_int (k := .u8) (by kernel_rfl) h1
    obtain ⟨x1, x2⟩ := wf_u8 hx
    obtain ⟨y1, y2⟩ := wf_u8 hy
    obtain ⟨a, rfl⟩ : ∃ a : Nat, x = (a : Int) := ⟨x.toNat, by omega⟩
    obtain ⟨g, rfl⟩ : ∃ g : Nat, y = (g : Int) := ⟨y.toNat, by omega⟩
    exact ⟨_, sessionBusy 0 a g []⟩
end Go.Proofs.Ytfneikjincmhpaa
