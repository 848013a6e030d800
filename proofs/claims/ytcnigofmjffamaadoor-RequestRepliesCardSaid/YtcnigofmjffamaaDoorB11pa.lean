import Derived.Test.YtcnigofmjffamaaDoorB11y
import Derived.Test.YtcnigofmjffamaaDoorB11i
import Derived.Test.YtcnigofmjffamaaDoorVd
set_option maxRecDepth 100000
set_option linter.unusedVariables false
set_option linter.unusedSimpArgs false
namespace Go.Proofs.YtcnigofmjffamaaDoor
open Go.Proofs.YtcnigofmjffamaaDoor.Sh Go.Proofs.YtcnigofmjffamaaDoor.Sh.V Go.RowKit
/-! ### Replies -/
structure PP where
  e : Int
  is : Bool
  n : Int
  st : Nat
  sum : List UInt8
  paths : List (List UInt8)
def cellsP (r : PP) (s1 s2 : VS) : List V := [.int .i64 r.e, .bool r.is, .int .i64 r.n, .flt .f64 r.st, .sl 5 s1, .sl 9 s2]
abbrev YT : TypeId := 66 + boxK
abbrev AGP : V.Ty1 := .agg [.int .i64, .bool, .int .i64, .flt .f64, .slice 5, .slice 9]
theorem fd_flt (k : FloatKind) (x : Nat) : V.fdec (.flt k) (.flt k x) = some x := if_pos rfl
section
variable {H : VH} {i : Nat} {r : PP} {s1 s2 : VS}
theorem y0 (h : H[i]? = some (.row YT (cellsP r s1 s2))) : ldV (.flat (.int .i64)) H (.ob i 0) = some r.e := by rw [ld_row h]; exact fd_int .i64 _
theorem y1 (h : H[i]? = some (.row YT (cellsP r s1 s2))) : ldV (.flat .bool) H (.ob i 1) = some r.is := by rw [ld_row h]; rfl
theorem y2 (h : H[i]? = some (.row YT (cellsP r s1 s2))) : ldV (.flat (.int .i64)) H (.ob i 2) = some r.n := by rw [ld_row h]; exact fd_int .i64 _
theorem y3 (h : H[i]? = some (.row YT (cellsP r s1 s2))) : ldV (.flat (.flt .f64)) H (.ob i 3) = some r.st := by rw [ld_row h]; exact fd_flt .f64 _
theorem y4 (h : H[i]? = some (.row YT (cellsP r s1 s2))) : ldV (.flat (.slice 5)) H (.ob i 4) = some s1 := by rw [ld_row h]; exact fd_sl 5 _
theorem y5 (h : H[i]? = some (.row YT (cellsP r s1 s2))) : ldV (.flat (.slice 9)) H (.ob i 5) = some s2 := by rw [ld_row h]; exact fd_sl 9 _
theorem ya (h : H[i]? = some (.row YT (cellsP r s1 s2))) : ldV AGP H (.ob i 0) = some (r.e, r.is, r.n, r.st, s1, s2, ()) := by
  simp only [ldV, rowV_of h, Option.bind_some]
  rfl
/-- What was read there stays. -/
def Yh (i : Nat) (r : PP) (s1 s2 : VS) (x : VP × V.FT × V) : Prop :=
  x = (.ob i 0, .int .i64, .int .i64 r.e) ∨ x = (.ob i 1, .bool, .bool r.is) ∨ x = (.ob i 2, .int .i64, .int .i64 r.n) ∨ x = (.ob i 3, .flt .f64, .flt .f64 r.st) ∨ x = (.ob i 4, .slice 5, .sl 5 s1) ∨ x = (.ob i 5, .slice 9, .sl 9 s2)
theorem yst (h : H[i]? = some (.row YT (cellsP r s1 s2))) {x : VP × V.FT × V} (hx : Yh i r s1 s2 x) (L : Held) : V.stays H (x :: L) = V.stays H L := by
  obtain ⟨p, τ, v⟩ := x
  rw [stays_cons]
  rcases hx with h1 | h1 | h1 | h1 | h1 | h1 <;> (
    injection h1 with h1 h2
    injection h2 with h2 h3
    subst h1 h2 h3)
  · rw [y0 h]; simp only [V.fenc, same_self, Bool.true_and]
  · rw [y1 h]; simp only [V.fenc, same_self, Bool.true_and]
  · rw [y2 h]; simp only [V.fenc, same_self, Bool.true_and]
  · rw [y3 h]; simp only [V.fenc, same_self, Bool.true_and]
  · rw [y4 h]; simp only [V.fenc, same_self, Bool.true_and]
  · rw [y5 h]; simp only [V.fenc, same_self, Bool.true_and]
theorem ysts (h : H[i]? = some (.row YT (cellsP r s1 s2))) : ∀ L : Held, (∀ x ∈ L, Yh i r s1 s2 x) → V.stays H L = true
  | [], _ => rfl
  | x :: L, hL => by rw [yst h (hL x (List.mem_cons_self ..)), ysts h L (fun y hy => hL y (List.mem_cons_of_mem _ hy))]
end
theorem held_B {s : VS} {l : List UInt8} (h : IsB s l) (H : VH) : heldStr H s = [] := by
  have h : IsE s (bs l) := h
  generalize bs l = es at h
  cases h <;> rfl
theorem cex {α : Type} {Q : α → Prop} {b : Bool} {A B : α} (hb : b = true) (h : Q A) : Q (cond b A B) := by subst hb; exact h
def encY (r : PP) : List UInt8 := [] ++ [u8 r.e] ++ [u8 (cond r.is 1 0)] ++ numI r.n ++ wideI (canonB r.st) ++ textI r.sum ++ textsI r.paths
structure OkY (r : PP) : Prop where
  sum : r.sum.length < 60000
  paths : szs r.paths < 60000
  np : r.paths.length < 60000
  st : r.st < 18446744073709551616
theorem wideI_len (x : Nat) : (wideI x).length = 8 := by simp [wideI, wideN]
theorem numI_len (x : Int) : (numI x).length = 2 := rfl
theorem textsI_len (l : List (List UInt8)) : (textsI l).length = 1 + szs l := by unfold textsI szs; rw [List.length_cons]; omega
theorem b25 (n : Nat) (hn : 60000 ≤ n) {r : PP} (hr : OkY r) {s1 s2 : VS} (h1 : IsB s1 r.sum) (h2 : IsE s2 (ss r.paths)) : ∃ s H', bodyV P tab (vF P tab (n + 79)) (n + 79) 25 [.agg (cellsP r s1 s2)] [] = some (.sl 5 s, H') ∧ IsB s (encY r) := by
  obtain ⟨o1, o2, o3, o4⟩ := hr
  show ∃ s H', bodyV P tab (vF P tab (n + 79)) (n + 79) 25 [.agg [.int .i64 r.e, .bool r.is, .int .i64 r.n, .flt .f64 r.st, .sl 5 s1, .sl 9 s2]] [] = some (.sl 5 s, H') ∧ _
  rw [f25_eq]
  have eR : [VO.row (66 + boxK) [.int .i64 r.e, .bool r.is, .int .i64 r.n, .flt .f64 r.st, .sl 5 s1, .sl 9 s2]] = [VO.row YT (cellsP r s1 s2)] := rfl
  rw [eR]
  obtain ⟨H1, hH1⟩ : ∃ H1 : VH, H1 = List.append (α := VO) ([] ++ [VO.row YT (cellsP r s1 s2)]) [.row (86 + boxK) [.sl 5 .nil]] := ⟨_, rfl⟩
  have h00 : ([] ++ [VO.row YT (cellsP r s1 s2)] : VH)[0]? = some (.row YT (cellsP r s1 s2)) := rfl
  rw [← hH1, show ldV (.flat .bool) ([] ++ [VO.row YT (cellsP r s1 s2)] : VH) (.ob (List.length ([] : VH)) 1) = some r.is from y1 h00, Option.bind_some, show List.length ([] ++ [VO.row YT (cellsP r s1 s2)] : VH) = 1 from rfl]
  have h0 : H1[0]? = some (.row YT (cellsP r s1 s2)) := by rw [hH1]; rfl
  have hw : WS H1 1 [] [] := ⟨.nil, by rw [hH1]; rfl, .nil, rfl⟩
  have hlen : H1.length = 2 := by rw [hH1]; rfl
  clear hH1
  have e0 : List.length ([] : VH) = 0 := rfl
  simp only [e0]
  have hyl : ∀ {H' : VH}, H'[0]? = some (.row YT (cellsP r s1 s2)) → ∀ L : Held, (∀ x ∈ L, Yh 0 r s1 s2 x) → V.stays H' L = true := fun h L => ysts h L
  have keep : ∀ {H2 H3 : VH} {T : List Nat}, H2[0]? = some (.row YT (cellsP r s1 s2)) → Kp H2 H3 (1 :: T) → (∀ t ∈ T, 2 ≤ t) → H3[0]? = some (.row YT (cellsP r s1 s2)) := fun h kp ht => kp.ob h (fun hm => by
    rcases List.mem_cons.1 hm with h1 | h1
    · cases h1
    · have := ht _ h1; omega)
  have tn : ∀ {H2 : VH} {T T2 : List Nat}, 2 ≤ H2.length → (∀ t ∈ T, 2 ≤ t) → (∀ t ∈ T2, t ∈ T ∨ H2.length ≤ t) → ∀ t ∈ T2, 2 ≤ t := fun h2 h h3 t ht => by
    rcases h3 t ht with h4 | h4
    · exact h t h4
    · omega
  -- the parts, one behind the other
  obtain ⟨H2, T2, a1, a2, a3, a4⟩ := e43 (n + 77) hw r.e (by simp)
  have r2 := keep h0 a3 (by simp)
  have t2 := tn (by omega) (by simp) a4
  have l2 := a3.len
  have hb : ∃ H3 T3, (∀ b : Bool, r.is = b → vF P tab (n + 79) 43 [.ptr (.ob 1 0), .int .u8 (cond b 1 0)] H2 = some (.ptr (.ob 1 0), H3)) ∧ WS H3 1 T3 ([] ++ [u8 r.e] ++ [u8 (cond r.is 1 0)]) ∧ Kp H2 H3 (1 :: T2) ∧ (∀ t ∈ T3, t ∈ T2 ∨ H2.length ≤ t) := by
    obtain ⟨H3, T3, b1, b2, b3, b4⟩ := e43 (n + 77) a2 (cond r.is 1 0) (by simp)
    refine ⟨H3, T3, fun b hb => ?_, b2, b3, b4⟩
    rw [← hb]
    rw [← b1]
    cases r.is <;> rfl
  obtain ⟨H3, T3, b1, b2, b3, b4⟩ := hb
  have r3 := keep r2 b3 t2
  have t3 := tn (by omega) t2 b4
  have l3 := b3.len
  obtain ⟨H4, T4, c1, c2, c3, c4⟩ := e57 (n + 77) b2 r.n (by simp)
  have r4 := keep r3 c3 t3
  have t4 := tn (by omega) t3 c4
  have l4 := c3.len
  obtain ⟨H5, T5, d1, d2, d3, d4⟩ := e58 (n + 59) c2 (canonB r.st) (by simp [numI])
  have r5 := keep r4 d3 t4
  have t5 := tn (by omega) t4 d4
  have l5 := d3.len
  have g5 : ([] ++ [u8 r.e] ++ [u8 (cond r.is 1 0)] ++ numI r.n ++ wideI (canonB r.st)).length = 12 := by
    simp only [List.length_append, wideI_len, numI_len, List.length_singleton, List.length_nil]
  obtain ⟨H6, T6, f1, f2, f3, f4⟩ := e44 (n + 76) d2 r.sum (by rw [g5]; omega)
  have r6 := keep r5 f3 t5
  have t6 := tn (by omega) t5 f4
  have l6 := f3.len
  have g6 : ([] ++ [u8 r.e] ++ [u8 (cond r.is 1 0)] ++ numI r.n ++ wideI (canonB r.st) ++ textI r.sum).length = 14 + r.sum.length := by
    rw [List.length_append, g5, textI_len]; omega
  obtain ⟨H7, T7, q1, q2, q3, q4⟩ := e45 (n + 75) f2 h2 (by rw [g6]; omega) (by omega)
  have r7 := keep r6 q3 t6
  obtain ⟨s8, H8, k1, k2, k3⟩ := e46 (n + 77) q2 (by rw [List.length_append, g6, textsI_len]; omega)
  have r8 := k3.ob r7 (by simp)
  have hh := held_B h1 H1
  cases hb : r.is with
  | true =>
    have b1 : vF P tab (n + 79) 43 [.ptr (.ob 1 0), .int .u8 1] H2 = some (.ptr (.ob 1 0), H3) := b1 true hb
    rw [cond_true, y0 h0, Option.bind_some, y2 h0, Option.bind_some, y3 h0, Option.bind_some, y4 h0, Option.bind_some, h1.str, Option.bind_some, y5 h0, Option.bind_some, hh, callD_ptr a1, Option.bind_some]
    simp only
    refine cex (Q := fun z : VRes => ∃ s H', z = some (.sl 5 s, H') ∧ IsB s (encY r)) (hyl r2 _ (by simp [hj, Yh])) ?_
    rw [callD_ptr b1, Option.bind_some]
    simp only
    refine cex (Q := fun z : VRes => ∃ s H', z = some (.sl 5 s, H') ∧ IsB s (encY r)) (hyl r3 _ (by simp [hj, Yh])) ?_
    rw [callD_ptr c1, Option.bind_some]
    simp only
    refine cex (Q := fun z : VRes => ∃ s H', z = some (.sl 5 s, H') ∧ IsB s (encY r)) (hyl r4 _ (by simp [hj, Yh])) ?_
    rw [c59, Option.bind_some]
    simp only
    refine cex (Q := fun z : VRes => ∃ s H', z = some (.sl 5 s, H') ∧ IsB s (encY r)) (hyl r4 _ (by simp [hj, Yh])) ?_
    rw [callD_ptr d1, Option.bind_some]
    simp only
    refine cex (Q := fun z : VRes => ∃ s H', z = some (.sl 5 s, H') ∧ IsB s (encY r)) (hyl r5 _ (by simp [hj, Yh])) ?_
    rw [callD_ptr f1, Option.bind_some]
    simp only
    refine cex (Q := fun z : VRes => ∃ s H', z = some (.sl 5 s, H') ∧ IsB s (encY r)) (hyl r6 _ (by simp [hj, Yh])) ?_
    rw [callD_ptr q1, Option.bind_some]
    simp only
    refine cex (Q := fun z : VRes => ∃ s H', z = some (.sl 5 s, H') ∧ IsB s (encY r)) (hyl r7 _ (by simp [hj, Yh])) ?_
    rw [callD_sl k1, Option.bind_some]
    simp only
    refine cex (Q := fun z : VRes => ∃ s H', z = some (.sl 5 s, H') ∧ IsB s (encY r)) (hyl r8 _ (by simp [hj, Yh])) ?_
    exact ⟨s8, H8, rfl, k2⟩
  | false =>
    have b1 : vF P tab (n + 79) 43 [.ptr (.ob 1 0), .int .u8 0] H2 = some (.ptr (.ob 1 0), H3) := b1 false hb
    rw [cond_false, y0 h0, Option.bind_some, y2 h0, Option.bind_some, y3 h0, Option.bind_some, y4 h0, Option.bind_some, h1.str, Option.bind_some, y5 h0, Option.bind_some, hh, callD_ptr a1, Option.bind_some]
    simp only
    refine cex (Q := fun z : VRes => ∃ s H', z = some (.sl 5 s, H') ∧ IsB s (encY r)) (hyl r2 _ (by simp [hj, Yh])) ?_
    rw [callD_ptr b1, Option.bind_some]
    simp only
    refine cex (Q := fun z : VRes => ∃ s H', z = some (.sl 5 s, H') ∧ IsB s (encY r)) (hyl r3 _ (by simp [hj, Yh])) ?_
    rw [callD_ptr c1, Option.bind_some]
    simp only
    refine cex (Q := fun z : VRes => ∃ s H', z = some (.sl 5 s, H') ∧ IsB s (encY r)) (hyl r4 _ (by simp [hj, Yh])) ?_
    rw [c59, Option.bind_some]
    simp only
    refine cex (Q := fun z : VRes => ∃ s H', z = some (.sl 5 s, H') ∧ IsB s (encY r)) (hyl r4 _ (by simp [hj, Yh])) ?_
    rw [callD_ptr d1, Option.bind_some]
    simp only
    refine cex (Q := fun z : VRes => ∃ s H', z = some (.sl 5 s, H') ∧ IsB s (encY r)) (hyl r5 _ (by simp [hj, Yh])) ?_
    rw [callD_ptr f1, Option.bind_some]
    simp only
    refine cex (Q := fun z : VRes => ∃ s H', z = some (.sl 5 s, H') ∧ IsB s (encY r)) (hyl r6 _ (by simp [hj, Yh])) ?_
    rw [callD_ptr q1, Option.bind_some]
    simp only
    refine cex (Q := fun z : VRes => ∃ s H', z = some (.sl 5 s, H') ∧ IsB s (encY r)) (hyl r7 _ (by simp [hj, Yh])) ?_
    rw [callD_sl k1, Option.bind_some]
    simp only
    refine cex (Q := fun z : VRes => ∃ s H', z = some (.sl 5 s, H') ∧ IsB s (encY r)) (hyl r8 _ (by simp [hj, Yh])) ?_
    exact ⟨s8, H8, rfl, k2⟩
theorem closed_Y (r : PP) {s1 s2 : VS} (h1 : IsB s1 r.sum) (h2 : IsE s2 (ss r.paths)) : [V.agg (cellsP r s1 s2)].all closedC = true := by
  have a := h1.closed 5
  have b := h2.closed 9
  have c : (cellsP r s1 s2).all closed1 = true := by
    unfold cellsP
    simp only [List.all_cons, List.all_nil, a, b, Bool.and_true]
    rfl
  show ((cellsP r s1 s2).all closed1 && true) = true
  rw [c]; rfl
theorem e25y (n : Nat) (hn : 60000 ≤ n) {r : PP} (hr : OkY r) {s1 s2 : VS} (h1 : IsB s1 r.sum) (h2 : IsE s2 (ss r.paths)) (H : VH) : ∃ s, vF P tab (n + 80) 25 [.agg (cellsP r s1 s2)] H = some (.sl 5 s, H) ∧ IsB s (encY r) := by
  obtain ⟨s, H', a, b⟩ := b25 n hn hr h1.strip h2.strip
  obtain ⟨x, y⟩ := lone_E (H := H) (args := [.agg (cellsP r s1 s2)]) rfl (closed_Y r h1 h2) a b
  exact ⟨s.strip, x, y⟩
end Go.Proofs.YtcnigofmjffamaaDoor
