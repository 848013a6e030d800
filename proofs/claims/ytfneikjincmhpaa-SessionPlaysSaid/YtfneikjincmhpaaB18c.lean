import Derived.Test.YtfneikjincmhpaaB18b
set_option maxRecDepth 100000
set_option linter.unusedVariables false
set_option linter.unusedSimpArgs false
namespace Go.Proofs.Ytfneikjincmhpaa
open Go.Proofs.Ytfneikjincmhpaa.Sh Go.Proofs.Ytfneikjincmhpaa.Sh.V Go.RowKit
/-! ### Greeting -/
theorem Ses.kn {H H' : VH} {k ks : Nat} {T : List Nat} {st : Nat} {l : List UInt8} {b : Bool} {queue : List (List UInt8)} {out : List UInt8} (h : Ses H k ks T st l b queue out) (kp : Kp H H' []) : Ses H' k ks T st l b queue out := h.keep kp (by simp) (by simp) (by simp)
theorem new_hello (H : VH) : Rd (H ++ [.row 5 [.int .u8 104, .int .u8 101, .int .u8 108, .int .u8 108, .int .u8 111]]) (.hp H.length 0 5) hello ∧ Kp H (H ++ [.row 5 [.int .u8 104, .int .u8 101, .int .u8 108, .int .u8 108, .int .u8 111]]) [] := new_rd H hello
theorem hello_if (H : VH) : True ∧ isRowV (H ++ [.row 5 [.int .u8 104, .int .u8 101, .int .u8 108, .int .u8 108, .int .u8 111]]) H.length 5 = true ∧ 5 < boxK := ⟨trivial, by unfold isRowV; simp, by decide⟩
theorem hello_frame (n : Nat) (H : VH) : ∃ s' H', vF P tab (n + 2) 14 [.sl 5 (.hp H.length 0 5)] (H ++ [.row 5 [.int .u8 104, .int .u8 101, .int .u8 108, .int .u8 108, .int .u8 111]]) = some (.sl 5 s', H') ∧ IsB s' (textI hello) ∧ Kp H H' [] := by
  obtain ⟨h1, h2⟩ := new_hello H
  obtain ⟨s', H', g1, g2, g3⟩ := fr14 n h1 (by decide)
  exact ⟨s', H', g1, g2, h2.trans g3 (fun x hx _ => hx) (fun y hy _ => hy)⟩
section
variable {H : VH} {k ks : Nat} {T : List Nat} {l : List UInt8} {b : Bool}
theorem dlv (n : Nat) {s s' : PS} {v : VS} {p l' : List UInt8} {xs : List (List UInt8)} {b' : Bool} (h : SesP H k ks T l b s) (hst : s.st < 2) (hv : IsB v p) (hl : l.length + p.length < 20000) (ho : s.out.length < 400000) (hq : s.q.length < 700000) (hf : feedS l p b = (xs, l', b')) (hd : delS (xs, l', b') s = s') :
    ∃ H' T', vF P tab (n + 30000) 12 [.ptr (.ob k 0), .sl 5 v] H = some (.int .i64 ((s'.n : Int) - (s.n : Int)), H') ∧ SesP H' k ks T' l' b' s' ∧ Kp H H' (k :: ks :: T) ∧ TN H T T' := by
  have := e12s n h hst hv hl ho hq
  rw [hf, hd] at this
  exact this
theorem feed_hello : feedS [] (textI hello) false = ([hello], [], false) := by decide
theorem greeted (n : Nat) {v : VS} (h : Ses H k ks T 0 [] false [] []) (hv : IsB v (textI hello)) : ∃ H' T', vF P tab (n + 30000) 12 [.ptr (.ob k 0), .sl 5 v] H = some (.int .i64 0, H') ∧ Ses H' k ks T' 1 [] false [] [] ∧ Kp H H' (k :: ks :: T) ∧ TN H T T' :=
  dlv n (s := ⟨0, [], [], 0⟩) (s' := ⟨1, [], [], 0⟩) h (by decide) hv (by decide) (by decide) (by decide) feed_hello rfl
end
theorem b9 (n : Nat) (H : VH) : ∃ H', bodyV P tab (vF P tab (n + 30001)) (n + 30001) 9 [] H = some (.bool true, H') := by
  rw [f9_eq]
  obtain ⟨H1, a1, a2, a3⟩ := e11s (n + 29999) H
  rw [callD_ptr a1, Option.bind_some]
  simp only
  rw [if_pos (hello_if H1)]
  obtain ⟨s, H2, b1, b2, b3⟩ := hello_frame (n + 29999) H1
  rw [callD_sl b1, Option.bind_some]
  obtain ⟨H3, T3, c1, c2, c3, c4⟩ := greeted (n + 1) (a2.kn b3) b2
  simp only
  rw [callD_int c1, Option.bind_some]
  simp only
  rw [show ((0 : Int) == 0) = true from rfl, cond_true, callD_int (e16s (n + 30000) c2), Option.bind_some]
  simp only
  rw [show (((1 : Nat) : Int) == 1) = true from rfl, cond_true, callD_int (e20s (n + 30000) c2), Option.bind_some]
  exact ⟨H3, rfl⟩
theorem e9 (n : Nat) (H : VH) : vF P tab (n + 30002) 9 [] H = some (.bool true, H) := by
  obtain ⟨H1, h⟩ := b9 n []
  exact vF_lone (r := .bool true) rfl rfl h rfl
/-! ### SessionNil -/
theorem n16 (n : Nat) (H : VH) : vF P tab (n + 1) 16 [.ptr .nil] H = some (.int .u8 3, H) := by kernel_rfl
theorem n20 (n : Nat) (H : VH) : vF P tab (n + 1) 20 [.ptr .nil] H = some (.int .i64 0, H) := by kernel_rfl
theorem n18 (n : Nat) (H : VH) : vF P tab (n + 1) 18 [.ptr .nil] H = some (.sl 5 .nil, H) := by kernel_rfl
theorem n27 (n : Nat) (H : VH) : vF P tab (n + 1) 27 [.ptr .nil] H = some (.tup [], H) := by kernel_rfl
theorem n21 (n : Nat) (H : VH) : vF P tab (n + 2) 21 [.ptr .nil] H = some (.tup [.sl 5 .nil, .bool false], H) := by
  rw [vF_body rfl, f21_eq, callD_int (n20 n H), Option.bind_some]
  rfl
theorem n12 (n : Nat) (v : VS) (H : VH) : vF P tab (n + 2) 12 [.ptr .nil, .sl 5 v] H = some (.int .i64 0, H) := by
  rw [vF_body rfl, f12_eq, callD_int (n16 n H), Option.bind_some]
  rfl
theorem n29 (n : Nat) (a c : Int) (H : VH) : vF P tab (n + 2) 29 [.ptr .nil, Rp a c] H = some (.tup [], H ++ [.row (36 + boxK) [.int .i64 a, .bool false, .int .i64 c, .flt .f64 0, .sl 5 .nil, .sl 9 .nil]]) := by
  rw [vF_body rfl, f29_eq, callD_int (n16 n _), Option.bind_some]
  rfl
theorem callD_next {n : Nat} {p : VP} {H H' : VH} {s : VS} {b : Bool} (h : vF P tab n 21 [.ptr p] H = some (.tup [.sl 5 s, .bool b], H')) : callD (vF P tab n) P false (.tup [(.flat (.slice 5)), (.flat .bool)]) 21 [.ptr p] H = some ((s, b, ()), H') := callD_some _ h rfl
theorem sessionNil (n : Nat) (s : VS) (a : Int) (H : VH) : ∃ H', vF P tab (n + 30010) 8 [.sl 5 s, .int .u8 a] H = some (.bool true, H') := by
  rw [vF_body rfl, f8_eq]
  cases decide ((((VS.len s : Nat) : Int) : Int) > 100) with
  | true =>
    rw [cond_true, callD_bool (e9 (n + 7) H), Option.bind_some]
    exact ⟨_, rfl⟩
  | false =>
    rw [cond_false, callD_unit (n29 (n + 30007) _ 0 H), Option.bind_some]
    simp only
    rw [callD_unit (n27 (n + 30008) _), Option.bind_some]
    simp only
    rw [callD_next (n21 (n + 30007) _), Option.bind_some]
    simp only
    rw [callD_bool (e9 (n + 7) _), Option.bind_some]
    simp only [cond_true]
    rw [callD_int (n12 (n + 30007) s _), Option.bind_some]
    simp only
    rw [show ((0 : Int) == 0) = true from rfl, cond_true]
    simp only [Bool.not_false, cond_true]
    rw [callD_sl (n18 (n + 30008) _), Option.bind_some]
    simp only
    rw [show ((((VS.nil.len : Nat) : Int)) == 0) = true from rfl, cond_true, callD_int (n16 (n + 30008) _), Option.bind_some]
    simp only
    rw [show ((3 : Int) == 3) = true from rfl, cond_true, callD_int (n20 (n + 30008) _), Option.bind_some]
    exact ⟨_, rfl⟩
theorem sessionNil_law (us : List V) (h : HasAs P [22, 5] us) : ∃ n H', vF P tab n 8 us [] = some (.bool true, H') := by
  match us, h with
  | [u0, u1], ⟨h0, h1, _⟩ =>
    obtain ⟨s, l, rfl, _, _⟩ := hasA_bytes (e := 5) (by kernel_rfl) (by kernel_rfl) h0
    obtain ⟨x, rfl, _⟩ := hasA_int (k := .u8) (by kernel_rfl) h1
    exact ⟨_, sessionNil 0 s x []⟩
/-! ### SessionBreaks -/
theorem paysS_q : ∀ (xs q : List (List UInt8)) (o : List UInt8) (n : Nat), q.length + xs.length ≤ 4 → paysS xs ⟨1, q, o, n⟩ = ⟨1, q ++ xs, o, n⟩ := by
  intro xs
  induction xs with
  | nil => intro q o n _; rw [List.append_nil]; rfl
  | cons x xs ih =>
    intro q o n h
    rw [List.length_cons] at h
    have e : paysS (x :: xs) ⟨1, q, o, n⟩ = paysS xs (payS x ⟨1, q, o, n⟩) := rfl
    have e2 : payS x ⟨1, q, o, n⟩ = ⟨1, q ++ [x], o, n⟩ := by
      simp [payS, show ¬ 4 ≤ q.length by omega]
    rw [e, e2, ih _ _ _ (by rw [List.length_append, List.length_singleton]; omega), List.append_assoc]
    rfl
theorem paysS_hello (xs : List (List UInt8)) (h : xs.length ≤ 4) : paysS (hello :: xs) ⟨0, [], [], 0⟩ = ⟨1, xs, [], 0⟩ := by
  have e : paysS (hello :: xs) ⟨0, [], [], 0⟩ = paysS xs ⟨1, [], [], 0⟩ := by
    show paysS xs (payS hello ⟨0, [], [], 0⟩) = _
    rw [show payS hello ⟨0, [], [], 0⟩ = ⟨1, [], [], 0⟩ from rfl]
  rw [e, paysS_q xs [] [] 0 (by simpa using h)]
  rfl
def parts (i : Nat) : List (List UInt8) := (List.range i).map fun (j : Nat) => [1, u8 (j : Int)]
theorem parts_len (i : Nat) : (parts i).length = i := by simp [parts]
theorem parts_succ (i : Nat) : parts (i + 1) = parts i ++ [[1, u8 (i : Int)]] := by simp [parts, List.range_succ]
theorem frames_app (a b : List (List UInt8)) : frames (a ++ b) = frames a ++ frames b := by simp [frames]
theorem frames_one (x : List UInt8) : frames [x] = textI x := by simp [frames]
theorem pull_bad {a : Nat} (ha : a < 65536) (hg : a = 0 ∨ 2048 < a) : pull [u8 ((a / 256 : Nat) : Int), u8 (a : Int)] = ([], [], true) := by
  rw [pull_eq]
  have hh : hd [u8 ((a / 256 : Nat) : Int), u8 (a : Int)] = a := by
    show (u8 ((a / 256 : Nat) : Int)).toNat * 256 + (u8 (a : Int)).toNat = a
    rw [u8_ofNat, u8_ofNat]
    simp only [UInt8.toNat_ofNat']
    omega
  rw [hh, if_neg (by simp), if_pos (by omega)]
theorem parts_mem {i : Nat} {x : List UInt8} (h : x ∈ parts i) : x.length = 2 := by
  simp only [parts, List.mem_map] at h
  obtain ⟨j, _, rfl⟩ := h
  rfl
theorem feed_parts {K a : Nat} (ha : a < 65536) (hg : a = 0 ∨ 2048 < a) : feedS [] (frames (hello :: parts K) ++ [u8 ((a / 256 : Nat) : Int), u8 (a : Int)]) false = (hello :: parts K, [], true) := by
  unfold feedS
  rw [if_neg (by simp), List.nil_append, pull_frames _ _ (fun x hx => by
    rcases List.mem_cons.1 hx with rfl | hx
    · decide
    · rw [parts_mem hx]; decide), pull_bad ha hg, List.append_nil]
theorem frames_parts (K : Nat) : (frames (hello :: parts K)).length = 7 + 4 * K := by
  induction K with
  | zero => rfl
  | succ K ih => rw [parts_succ, ← List.cons_append, frames_app, List.length_append, ih, frames_one]; show 7 + 4 * K + 4 = _; omega
theorem l7 (n : Nat) {k ks K a : Nat} (hK : K ≤ 4) (ha : a < 65536) (hg : a = 0 ∨ 2048 < a) (gone : Bool) : ∀ (m i : Nat) {H : VH} {T : List Nat} {s : VS}, Ses H k ks T 0 [] false [] [] → IsB s (frames (hello :: parts i)) → i ≤ K → K < i + m →
    ∃ H', L7_0 (n + 30003) m (a : Int) gone (.ob k 0) s (K : Int) (i : Int) H = some (.bool true, H') := by
  intro m
  induction m with
  | zero => intros; omega
  | succ m ih =>
    intro i H T s h hs hi hm
    rw [L7_0_eq]
    by_cases c : i < K
    · rw [decide_eq_true (by omega), cond_true, wrap_u8, inc_nat (by omega)]
      obtain ⟨r1, r2⟩ : Rd (H ++ [.row 5 [.int .u8 1, .int .u8 (((u8 (i : Int)).toNat : Nat) : Int)]]) (.hp H.length 0 2) [1, u8 (i : Int)] ∧ Kp H (H ++ [.row 5 [.int .u8 1, .int .u8 (((u8 (i : Int)).toNat : Nat) : Int)]]) [] := new_rd H [1, u8 (i : Int)]
      obtain ⟨s1, H1, g1, g2, g3⟩ := fr14 (n + 30001) r1 (by simp)
      have k1 : Kp H H1 [] := r2.trans g3 (fun x hx _ => hx) (fun y hy _ => hy)
      rw [callD_sl g1, Option.bind_some]
      obtain ⟨s2, H2, q1, q2, q3⟩ := j13 (n + 30002) (H := H1) (Rd.ofB H1 hs) (Rd.ofB H1 g2) (by rw [frames_parts, textI_len]; simp only [List.length_cons, List.length_nil]; omega)
      simp only
      rw [callD_sl q1, Option.bind_some]
      refine ih (i + 1) ((h.kn k1).kn q3) ?_ (by omega) (by omega)
      rw [parts_succ, ← List.cons_append, frames_app, frames_one]
      exact q2
    · have : i = K := by omega
      subst this
      rw [decide_eq_false (by omega), cond_false, show (8 : Int) = ((8 : Nat) : Int) from rfl, shrI_nat (by decide), Option.bind_some, wrap_u8, wrap_u8]
      obtain ⟨r1, r2⟩ : Rd (H ++ [.row 5 [.int .u8 (((u8 ((a / 2 ^ 8 : Nat) : Int)).toNat : Nat) : Int), .int .u8 (((u8 (a : Int)).toNat : Nat) : Int)]]) (.hp H.length 0 2) [u8 ((a / 2 ^ 8 : Nat) : Int), u8 (a : Int)] ∧ Kp H (H ++ [.row 5 [.int .u8 (((u8 ((a / 2 ^ 8 : Nat) : Int)).toNat : Nat) : Int), .int .u8 (((u8 (a : Int)).toNat : Nat) : Int)]]) [] := new_rd H [u8 ((a / 2 ^ 8 : Nat) : Int), u8 (a : Int)]
      obtain ⟨s1, H1, g1, g2, g3⟩ := j13 (n + 30002) (Rd.ofB _ hs) r1 (by rw [frames_parts]; simp only [List.length_cons, List.length_nil]; omega)
      have k1 : Kp H H1 [] := r2.trans g3 (fun x hx _ => hx) (fun y hy _ => hy)
      rw [callD_sl g1, Option.bind_some]
      have hdel : delS (hello :: parts i, [], true) ⟨0, [], [], 0⟩ = ⟨2, parts i, ans 3 0, 0⟩ := by
        unfold delS
        simp only
        rw [paysS_hello _ (by rw [parts_len]; omega), if_pos ⟨trivial, (show 1 < 2 by decide)⟩]
        rfl
      obtain ⟨H2, T2, q1, q2, q3, q4⟩ := dlv (n + 3) (s := ⟨0, [], [], 0⟩) (h.kn k1) (by decide) g2 (by simp only [List.length_append, frames_parts, List.length_cons, List.length_nil]; omega) (by decide) (by decide) (feed_parts ha hg) hdel
      simp only
      rw [callD_int q1, Option.bind_some]
      simp only
      obtain ⟨s3, d1, d2⟩ := e15r (n + 29943) 3 0 H2
      rw [callD_sl d1, Option.bind_some]
      simp only
      obtain ⟨s4, H4, d3, d4, d5⟩ := fr14 (n + 30001) (H := H2) (Rd.ofB H2 d2) (by decide)
      rw [callD_sl d3, Option.bind_some]
      simp only
      have h4 := q2.kn d5
      simp only at h4
      rw [callD_int (e16s (n + 30002) h4), Option.bind_some]
      simp only
      rw [show ((((2 : Nat) : Int)) != 2) = false from rfl, cond_false, callD_int (e20s (n + 30002) h4), Option.bind_some]
      simp only
      rw [parts_len, bne_self_eq_false, cond_false]
      obtain ⟨s5, H5, T5, u1, u2, u3, u4, u5⟩ := e18s (n + 30002) h4
      rw [callD_sl u1, Option.bind_some]
      simp only
      rw [callD_bool (e17 (n + 30002) u2 d4 (by rw [ans_len, maxLen_eq]; omega) (by rw [ans_len]; omega)), Option.bind_some]
      simp only
      rw [show decide (ans 3 0 = textI (encR 3 0)) = true from decide_eq_true rfl]
      simp only [Bool.not_true, cond_false]
      cases gone with
      | true =>
        simp only [cond_true]
        obtain ⟨H6, T6, v1, v2, v3, v4⟩ := e27s (n + 30002) u3
        rw [callD_unit v1, Option.bind_some]
        simp only
        obtain ⟨H7, T7, w1, w2, w3, w4⟩ := e29s (n + 29921) 0 0 v2 (by decide)
        rw [if_pos rfl] at w2
        rw [callD_unit w1, Option.bind_some]
        simp only
        obtain ⟨s8, H8, T8, x1, x2, x3, x4, x5⟩ := e21s (n + 30001) w2
        rw [callD_next x1, Option.bind_some]
        simp only
        rw [callD_int (e16s (n + 30002) x3), Option.bind_some]
        simp only
        rw [show ((((3 : Nat) : Int)) == 3) = true from rfl, cond_true, callD_int (e20s (n + 30002) x3), Option.bind_some]
        simp only
        rw [show ((((([] : List (List UInt8)).tail.length : Nat) : Int)) == 0) = true from rfl, cond_true]
        rw [show (!decide (([] : List (List UInt8)) ≠ [])) = true by simp, cond_true]
        obtain ⟨s9, H9, T9, y1, y2, y3, y4, y5⟩ := e18s (n + 30002) x3
        rw [callD_sl y1, Option.bind_some]
        simp only
        rw [y2.len]
        exact ⟨_, rfl⟩
      | false =>
        simp only [cond_false]
        obtain ⟨s8, H8, T8, x1, x2, x3, x4, x5⟩ := e21s (n + 30001) u3
        rw [callD_next x1, Option.bind_some]
        simp only
        refine ⟨H8, ?_⟩
        have : (decide (parts i ≠ []) == decide ((i : Int) > 0)) = true := by
          rw [beq_iff_eq, decide_eq_decide, ← List.length_pos_iff, parts_len]
          omega
        rw [this]
theorem sessionBreaks (n : Nat) {a g : Nat} (hg : g < 65536) (gone : Bool) (H : VH) : ∃ H', vF P tab (n + 30010) 7 [.int .u8 (a : Int), .int .u16 (g : Int), .bool gone] H = some (.bool true, H') := by
  rw [vF_body rfl, f7_eq, callD_bool (e9 (n + 7) H), Option.bind_some]
  simp only [Bool.not_true, cond_false]
  obtain ⟨H1, a1, a2, a3⟩ := e11s (n + 30007) H
  obtain ⟨s, H2, b1, b2, b3⟩ := hello_frame (n + 30007) H1
  have main : ∀ c : Nat, c < 65536 → (c = 0 ∨ 2048 < c) → ∃ H', (callD (vF P tab (n + 30009)) P false (.one (.flat .ptr)) 11 [] H).bind (fun r2 =>
            (if True ∧ isRowV (r2.2 ++ [.row 5 [.int .u8 104, .int .u8 101, .int .u8 108, .int .u8 108, .int .u8 111]]) r2.2.length 5 = true ∧ 5 < boxK then
              ((callD (vF P tab (n + 30009)) P false (.one (.flat (.slice 5))) 14 [.sl 5 (.hp r2.2.length 0 5)] (r2.2 ++ [.row 5 [.int .u8 104, .int .u8 101, .int .u8 108, .int .u8 108, .int .u8 111]])).bind fun r3 =>
                ((remI (a : Int) 5).bind fun x4 =>
                  (L7_0 (n + 30009) (n + 30009) (c : Int) gone r2.1 r3.1 (IntKind.wrap .i64 x4) 0 r3.2)))
              else none)) = some (.bool true, H') := by
    intro c c1 c2
    rw [callD_ptr a1, Option.bind_some]
    simp only
    rw [if_pos (hello_if H1), callD_sl b1, Option.bind_some, show (5 : Int) = ((5 : Nat) : Int) from rfl, remI_nat (by decide), Option.bind_some, i64_nat (by omega)]
    exact l7 (n + 6) (K := a % 5) (by omega) c1 c2 gone (n + 30009) 0 (a2.kn b3) (by show IsB s (frames (hello :: parts 0)); rw [show frames (hello :: parts 0) = textI hello from rfl]; exact b2) (by omega) (by omega)
  by_cases c1 : 1 ≤ g
  · rw [decide_eq_true (by omega), cond_true]
    by_cases c2 : g ≤ 2048
    · rw [decide_eq_true (by omega), cond_true]
      exact main 2049 (by decide) (.inr (by decide))
    · rw [decide_eq_false (by omega), cond_false]
      exact main g hg (.inr (by omega))
  · rw [decide_eq_false (by omega), cond_false]
    exact main g hg (.inl (by omega))
theorem sessionBreaks_law (us : List V) (h : HasAs P [5, 65, 4] us) : ∃ n H', vF P tab n 7 us [] = some (.bool true, H') := by
  match us, h with
  | [u0, u1, u2], ⟨h0, h1, h2, _⟩ =>
    obtain ⟨x, rfl, hx⟩ := hasA_int (k := .u8) (by kernel_rfl) h0
    obtain ⟨y, rfl, hy⟩ := hasA_int (k := .u16) (by kernel_rfl) h1
    obtain ⟨z, rfl⟩ := hasA_bool (by kernel_rfl) h2
    obtain ⟨x1, x2⟩ := wf_u8 hx
    obtain ⟨y1, y2⟩ := wf_u16 hy
    obtain ⟨a, rfl⟩ : ∃ a : Nat, x = (a : Int) := ⟨x.toNat, by omega⟩
    obtain ⟨g, rfl⟩ : ∃ g : Nat, y = (g : Int) := ⟨y.toNat, by omega⟩
    exact ⟨_, sessionBreaks 0 (by omega) z []⟩
end Go.Proofs.Ytfneikjincmhpaa
