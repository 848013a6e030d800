import Derived.Test.YtibdinelkpbhaaaB15f
import Derived.Test.YtibdinelkpbhaaaB15k
import Derived.Test.YtibdinelkpbhaaaB15m
set_option maxRecDepth 100000
set_option linter.unusedVariables false
set_option linter.unusedSimpArgs false
namespace Go.Proofs.Ytibdinelkpbhaaa
open Go.Proofs.Ytibdinelkpbhaaa.Sh Go.Proofs.Ytibdinelkpbhaaa.Sh.V Go.RowKit Go.Proofs.Ytibdinelkpbhaaa.Sh.Lk
/-! ### WaitUp -/
theorem kA_eq : (⟨#[97]⟩ : ByteArray) = ⟨kA.toArray⟩ := rfl
theorem kA_len : kA.length ≤ 9223372036854775807 := by simp [kA]
theorem free_n (n : Nat) (hn : 3000 ≤ n) {H : VH} {k : Nat} {F : List Nat} {t : Tb} {N : Nat} (h : TO H k F t) (hN : NB N t) (hN2 : N ≤ 390) (o : Int) :
    ∃ s' H' F', V.callD (vF P tab (n + 10)) P false (.one (.flat (.slice 3))) 18 [.ptr (.ob k 0), .int .i64 o] H = some (s', H') ∧ TO H' k F' (freeP t o).1 ∧ IsE s' (ints (freeP t o).2) ∧ NB N (freeP t o).1 := by
  obtain ⟨s', H', F', h1, h2, h3⟩ := p13 (n + 5) (by omega) h o (by have := hN.m; omega) hN.nd (fun p hp => by have := hN.l p hp; omega)
  exact ⟨s', H', F', h1, h2, h3, hN.free o⟩
def R4 (x y z : Int) : List Int := if z = x then [y] else []
def R5 (x y z : Int) : List Int := if z = y then [x, y] else [y, x]
theorem tlU (n : Nat) (hn : 3000 ≤ n) {kp : Nat} {x y : Int} (h0 : 0 ≤ x) (h1 : x < y) (h2 : y < 1000) (more : Bool) {H : VH} {F : List Nat} (h : TO H kp F (stU [x, y] false (qM more) (wsM more))) (hN : NB 3 (stU [x, y] false (qM more) (wsM more))) :
    ∃ H', ((V.callD (vF P tab (n + 10)) P false (.one (.flat .bool)) 11 [.ptr (.ob kp 0), .int .i64 x, .agg [.str ⟨#[97]⟩, .bool true]] H).bind fun r12 =>
                ((V.callD (vF P tab (n + 10)) P false (.one (.flat (.slice 3))) 12 [.ptr (.ob kp 0), .int .i64 x] r12.2).bind fun r13 =>
                  ((V.callD (vF P tab (n + 10)) P false (.one (.flat .bool)) 11 [.ptr (.ob kp 0), .int .i64 y, .agg [.str ⟨#[97]⟩, .bool true]] r13.2).bind fun r14 =>
                    ((V.callD (vF P tab (n + 10)) P false (.tup [(.flat (.int .i64)), (.flat .bool)]) 13 [.ptr (.ob kp 0), .int .i64 y] r14.2).bind fun r15 =>
                      (cond (!r12.1)
                        (cond ((((VS.len r13.1 : Nat) : Int) : Int) == 0)
                        (cond (!r14.1)
                        (cond r15.1.2.1
                        (cond ((r15.1.1 : Int) == y)
                        ((V.callD (vF P tab (n + 10)) P false (.one (.flat (.slice 3))) 18 [.ptr (.ob kp 0), .int .i64 y] r15.2).bind fun r16 =>
                        ((V.callD (vF P tab (n + 10)) P false (.one (.flat .bool)) 14 [.sl 3 r16.1, .sl 3 (.fz [[.int .i64 x]] (.ex 1))] r16.2).bind fun r17 =>
                        (some (V.bool r17.1, r17.2))))
                        (some (V.bool false, r15.2)))
                        (some (V.bool false, r15.2)))
                        (some (V.bool false, r15.2)))
                        (some (V.bool false, r15.2)))
                        (some (V.bool false, r15.2))))))) = some (V.bool true, H') := by
  have hxy : x ≠ y := by omega
  obtain ⟨H1, F1, a1, a2, a3⟩ := ask_n n hn h hN (by omega) x kA true (by omega) kA_len
  rw [u4 h1 h2 more] at a1 a2 a3
  have e4x := a4x h1 h2 more
  have e4y := a4y h1 h2 more
  have hRx : reachO (stU [x, y] false (⟨x, true, true⟩ :: qM more) (wsM more ++ [(x, kA)])) 1000 [] (aheadP (stU [x, y] false (⟨x, true, true⟩ :: qM more) (wsM more ++ [(x, kA)])) x) = some (R4 x y x) := by
    rw [e4x, r4x h1 h2 more]; unfold R4; rw [if_pos rfl]
  have hRy : ∀ z ∈ R4 x y x, reachO (stU [x, y] false (⟨x, true, true⟩ :: qM more) (wsM more ++ [(x, kA)])) 1000 [] (aheadP (stU [x, y] false (⟨x, true, true⟩ :: qM more) (wsM more ++ [(x, kA)])) z) = some (R4 x y z) := fun z hz => by
    unfold R4 at hz
    rw [if_pos rfl, List.mem_singleton] at hz
    subst hz
    rw [e4y]; unfold R4; rw [if_neg (fun e => hxy e.symm)]; rfl
  obtain ⟨s2, H2, b1, b2, b3⟩ := pS (n + 1) (by omega) a2 (nb_s2 a3 (by omega)) x hRx hRy
  have hl2 : s2.len = 0 := by
    have hq : stq (R4 x y) x y = false := by
      unfold stq R4
      rw [if_neg (fun e => hxy e.symm)]; rfl
    rw [b2.len, ints_len]
    unfold R4
    rw [if_pos rfl]
    show (List.filter _ [y]).length = 0
    rw [List.filter_cons]
    rw [show stq (fun z => if z = x then [y] else []) x y = false from hq]
    rfl
  obtain ⟨H3, F3, c1, c2, c3⟩ := ask_n n hn (a2.kn b3) a3 (by omega) y kA true (by omega) kA_len
  rw [u5 h1 h2 more] at c1 c2 c3
  have e5x := a5x h1 h2 more
  have e5y := a5y h1 h2 more
  have hSy : reachO (stU [x, y] false (⟨x, true, true⟩ :: ⟨y, true, true⟩ :: qM more) (wsM more ++ [(x, kA)] ++ [(y, kA)])) 1000 [] (aheadP (stU [x, y] false (⟨x, true, true⟩ :: ⟨y, true, true⟩ :: qM more) (wsM more ++ [(x, kA)] ++ [(y, kA)])) y) = some (R5 x y y) := by
    have := r5 h1 h2 (fun e => hxy e.symm) e5y e5x
    rw [e5y, this]; unfold R5; rw [if_pos rfl]
  have hSx : reachO (stU [x, y] false (⟨x, true, true⟩ :: ⟨y, true, true⟩ :: qM more) (wsM more ++ [(x, kA)] ++ [(y, kA)])) 1000 [] (aheadP (stU [x, y] false (⟨x, true, true⟩ :: ⟨y, true, true⟩ :: qM more) (wsM more ++ [(x, kA)] ++ [(y, kA)])) x) = some (R5 x y x) := by
    have := r5 h1 h2 hxy e5x e5y
    rw [e5x, this]; unfold R5; rw [if_neg hxy]
  have hSz : ∀ z ∈ R5 x y y, reachO (stU [x, y] false (⟨x, true, true⟩ :: ⟨y, true, true⟩ :: qM more) (wsM more ++ [(x, kA)] ++ [(y, kA)])) 1000 [] (aheadP (stU [x, y] false (⟨x, true, true⟩ :: ⟨y, true, true⟩ :: qM more) (wsM more ++ [(x, kA)] ++ [(y, kA)])) z) = some (R5 x y z) := fun z hz => by
    unfold R5 at hz
    rw [if_pos rfl] at hz
    simp only [List.mem_cons, List.not_mem_nil, or_false] at hz
    rcases hz with rfl | rfl
    · exact hSx
    · exact hSy
  obtain ⟨H4, d1, d2⟩ := pV n hn c2 (nb_s2 c3 (by omega)) y hSy hSz
  have hlast : lastO ((sortI (R5 x y y)).filter (stq (R5 x y) y)) = (y, true) := by
    have s1 : sortI [x, y] = [x, y] := sortI_id (by simp; omega)
    have q1 : stq (R5 x y) y x = true := by
      unfold stq
      rw [show R5 x y x = [y, x] from if_neg hxy]
      have : y ∈ sortI [y, x] := mem_sortI.2 (by simp)
      simpa using this
    have q2 : stq (R5 x y) y y = true := by
      unfold stq
      rw [show R5 x y y = [x, y] from if_pos rfl, s1]
      simp
    rw [show R5 x y y = [x, y] from if_pos rfl, s1, List.filter_cons, if_pos q1, List.filter_cons, if_pos q2]
    rfl
  obtain ⟨s5, H5, F5, g1, g2, g3, g4⟩ := free_n n hn (c2.kn d2) c3 (by omega) y
  rw [f5 h1 h2 more] at g3
  rw [kA_eq, a1, Option.bind_some]
  simp only
  rw [b1, Option.bind_some]
  simp only
  rw [c1, Option.bind_some]
  simp only
  rw [d1, Option.bind_some, hl2, hlast]
  simp only
  rw [Bool.not_false, cond_true, show ((((0 : Nat) : Int)) == 0) = true from rfl, cond_true, cond_true, cond_true, beq_self_eq_true, cond_true, g1, Option.bind_some]
  simp only
  rw [p15 (n + 9) (RdI.e g3) (RdI.e (show IsE (.fz [[.int .i64 x]] (.ex 1)) (ints [x]) from .fz _ _)) (by simp) (by simp), Option.bind_some]
  simp only [decide_true]
  exact ⟨_, rfl⟩
theorem waitUp_law (us : List V) (h : HasAs P [5, 5, 4] us) : ∃ n H', vF P tab n 8 us [] = some (.bool true, H') := by
  match us, h with
  | [u0, u1, u2], ⟨h0, h1, h2, _⟩ =>
    obtain ⟨x, rfl, hx⟩ := hasA_int (k := .u8) (by kernel_rfl) h0
    obtain ⟨b, rfl, hb⟩ := hasA_int (k := .u8) (by kernel_rfl) h1
    obtain ⟨more, rfl⟩ := hasA_bool (by kernel_rfl) h2
    obtain ⟨x1, x2⟩ := wf_u8 hx
    obtain ⟨b1, b2⟩ := wf_u8 hb
    obtain ⟨N, hN⟩ : ∃ N, 3000 ≤ N := ⟨3000, Nat.le_refl _⟩
    refine ⟨N + 66, ?_⟩
    have w1 : IntKind.wrap .i64 x = x := i64_in (by omega)
    have w2 : IntKind.wrap .i64 b = b := i64_in (by omega)
    have w3 : IntKind.wrap .i64 (x + 1) = x + 1 := i64_in (by omega)
    have w4 : IntKind.wrap .i64 (x + 1 + b) = x + 1 + b := i64_in (by omega)
    obtain ⟨k, H1, F1, a1, a2⟩ := p11 (N + 64) []
    rw [vF_body rfl, f8_eq, c_rings (N + 5), show (!(true, ([] : VH)).1) = false from rfl, cond_false, a1, Option.bind_some, w1, w2, w3, w4, kA_eq]
    obtain ⟨y, hy⟩ : ∃ y, y = x + 1 + b := ⟨_, rfl⟩
    rw [← hy]
    have g1 : x < y := by omega
    have g2 : y < 1000 := by omega
    obtain ⟨H2, F2, c1, c2, c3⟩ := ask_n (N + 55) (by omega) a2 NB.zero (by omega) x kA false (by omega) kA_len
    rw [u1 g1 g2] at c2 c3
    rw [c1, Option.bind_some]
    obtain ⟨H3, F3, d1, d2, d3⟩ := ask_n (N + 55) (by omega) c2 c3 (by omega) y kA false (by omega) kA_len
    rw [u2 g1 g2] at d2 d3
    rw [d1, Option.bind_some]
    cases more with
    | false =>
      rw [cond_false]
      exact tlU (N + 55) (by omega) x1 g1 g2 false d2 (d3.mono (by omega))
    | true =>
      rw [cond_true]
      obtain ⟨H4, F4, e1, e2, e3⟩ := ask_n (N + 55) (by omega) d2 d3 (by omega) 1000 kA true (by omega) kA_len
      rw [u3 g1 g2] at e2 e3
      rw [e1, Option.bind_some]
      exact tlU (N + 55) (by omega) x1 g1 g2 true e2 (e3.mono (by omega))
end Go.Proofs.Ytibdinelkpbhaaa
