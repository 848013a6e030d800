import Derived.Test.YtmpobijkbmljdaaB05w
set_option maxRecDepth 100000
set_option linter.unusedVariables false
set_option linter.unusedSimpArgs false
namespace Go.Proofs.Ytmpobijkbmljdaa
open Go.Proofs.Ytmpobijkbmljdaa.Sh Go.Proofs.Ytmpobijkbmljdaa.Sh.V Go.RowKit
/-! ### Nodes in plain Lean -/
inductive Nd where
  | mk (k : Nat) (names : List (List UInt8)) (kids : List Nd) (data : List UInt8) (run : Bool) (st : Nat) (tg : List UInt8)
inductive F2 {A B : Type} (R : A → B → Prop) : List A → List B → Prop
  | nil : F2 R [] []
  | cons {a b l m} : R a b → F2 R l m → F2 R (a :: l) (b :: m)
section
variable {A B : Type} {R : A → B → Prop}
theorem F2.len {l : List A} {m : List B} (h : F2 R l m) : l.length = m.length := by
  induction h with
  | nil => rfl
  | cons _ _ ih => simp [ih]
theorem F2.get {l : List A} {m : List B} (h : F2 R l m) {i : Nat} {a : A} (ha : l[i]? = some a) : ∃ b, m[i]? = some b ∧ R a b := by
  induction h generalizing i with
  | nil => simp at ha
  | cons r _ ih =>
    cases i with
    | zero => simp only [List.getElem?_cons_zero, Option.some.injEq] at ha; subst ha; exact ⟨_, rfl, r⟩
    | succ i => simp only [List.getElem?_cons_succ] at ha ⊢; exact ih ha
theorem F2.app {l l' : List A} {m m' : List B} (h : F2 R l m) (h' : F2 R l' m') : F2 R (l ++ l') (m ++ m') := by
  induction h with
  | nil => exact h'
  | cons r _ ih => exact .cons r ih
theorem F2.imp {R' : A → B → Prop} (f : ∀ a b, R a b → R' a b) {l : List A} {m : List B} (h : F2 R l m) : F2 R' l m := by
  induction h with
  | nil => exact .nil
  | cons r _ ih => exact .cons (f _ _ r) ih
end
def all2 {A : Type} (f : A → A → Bool) : List A → List A → Bool
  | a :: l, b :: m => cond (f a b) (all2 f l m) false
  | _, _ => true
theorem all2_step {A : Type} {f : A → A → Bool} {l m : List A} {i : Nat} {a b : A} (ha : l[i]? = some a) (hb : m[i]? = some b) : all2 f (l.drop i) (m.drop i) = cond (f a b) (all2 f (l.drop (i + 1)) (m.drop (i + 1))) false := by
  obtain ⟨h1, h2⟩ := List.getElem?_eq_some_iff.1 ha
  obtain ⟨h3, h4⟩ := List.getElem?_eq_some_iff.1 hb
  rw [List.drop_eq_getElem_cons h1, List.drop_eq_getElem_cons h3, h2, h4]
  rfl
def sameN : Nat → Nd → Nd → Bool
  | 0, _, _ => true
  | d + 1, .mk k1 n1 c1 d1 r1 s1 t1, .mk k2 n2 c2 d2 r2 s2 t2 =>
    cond (decide (k1 = k2)) (cond (r1 == r2) (cond (decide (t1 = t2)) (cond (decide (canonB s1 = canonB s2)) (cond (decide (d1 = d2)) (cond (decide (n1 = n2)) (cond (decide (c1.length = c2.length)) (all2 (sameN d) c1 c2) false) false) false) false) false) false) false
def cellsN (k : Nat) (s1 s2 s3 : VS) (run : Bool) (st : Nat) (tg : List UInt8) : List V := [.int .u8 (k : Int), .sl 9 s1, .sl 27 s2, .sl 5 s3, .bool run, .flt .f64 st, .str ⟨tg.toArray⟩]
def NC : Nat → Nd → List V → Prop
  | 0, _, _ => False
  | d + 1, .mk k names kids data run st tg, cs => ∃ s1 s2 s3 es, cs = cellsN k s1 s2 s3 run st tg ∧ IsE s1 (ss names) ∧ IsE s2 es ∧ F2 (NC d) kids es ∧ IsB s3 data ∧ names.length < 10000 ∧ kids.length < 10000 ∧ data.length < 10000 ∧ st < 18446744073709551616
theorem NC.strip {d : Nat} {x : Nd} {cs : List V} (h : NC d x cs) : NC d x (cs.map strip1) := by
  cases d with
  | zero => exact h
  | succ d =>
    obtain ⟨k, names, kids, data, run, st, tg⟩ := x
    obtain ⟨s1, s2, s3, es, rfl, a, b, c, e, r⟩ := h
    exact ⟨s1.strip, s2.strip, s3.strip, es, rfl, a.strip, b.strip, c, e.strip, r⟩
theorem NC.cl {d : Nat} {x : Nd} {cs : List V} (h : NC d x cs) : cs.all closed1 = true := by
  cases d with
  | zero => exact h.elim
  | succ d =>
    obtain ⟨k, names, kids, data, run, st, tg⟩ := x
    obtain ⟨s1, s2, s3, es, rfl, a, b, c, e, r⟩ := h
    have x1 := a.closed 9
    have x2 := b.closed 27
    have x3 := e.closed 5
    unfold cellsN
    simp only [List.all_cons, List.all_nil, x1, x2, x3, Bool.and_true]
    rfl
theorem NC.up {d : Nat} : ∀ {x : Nd} {cs : List V}, NC d x cs → NC (d + 1) x cs := by
  induction d with
  | zero => intro x cs h; exact h.elim
  | succ d ih =>
    intro x cs h
    obtain ⟨k, names, kids, data, run, st, tg⟩ := x
    obtain ⟨s1, s2, s3, es, e0, a, b, c, e, r⟩ := h
    exact ⟨s1, s2, s3, es, e0, a, b, c.imp (fun _ _ h => ih h), e, r⟩
/-! ### A node in a box -/
abbrev NT : TypeId := 27 + boxK
abbrev AGN : V.Ty1 := .agg [.int .u8, .slice 9, .slice 27, .slice 5, .bool, .flt .f64, .str]
theorem fd_flt (k : FloatKind) (x : Nat) : V.fdec (.flt k) (.flt k x) = some x := if_pos rfl
section
variable {H : VH} {i : Nat} {k : Nat} {s1 s2 s3 : VS} {run : Bool} {st : Nat} {tg : List UInt8}
theorem n0 (h : H[i]? = some (.row NT (cellsN k s1 s2 s3 run st tg))) : ldV (.flat (.int .u8)) H (.ob i 0) = some (k : Int) := by rw [ld_row h]; exact fd_int .u8 _
theorem n1 (h : H[i]? = some (.row NT (cellsN k s1 s2 s3 run st tg))) : ldV (.flat (.slice 9)) H (.ob i 1) = some s1 := by rw [ld_row h]; exact fd_sl 9 _
theorem n2 (h : H[i]? = some (.row NT (cellsN k s1 s2 s3 run st tg))) : ldV (.flat (.slice 27)) H (.ob i 2) = some s2 := by rw [ld_row h]; exact fd_sl 27 _
theorem n3 (h : H[i]? = some (.row NT (cellsN k s1 s2 s3 run st tg))) : ldV (.flat (.slice 5)) H (.ob i 3) = some s3 := by rw [ld_row h]; exact fd_sl 5 _
theorem n4 (h : H[i]? = some (.row NT (cellsN k s1 s2 s3 run st tg))) : ldV (.flat .bool) H (.ob i 4) = some run := by rw [ld_row h]; rfl
theorem n5 (h : H[i]? = some (.row NT (cellsN k s1 s2 s3 run st tg))) : ldV (.flat (.flt .f64)) H (.ob i 5) = some st := by rw [ld_row h]; exact fd_flt .f64 _
theorem n6 (h : H[i]? = some (.row NT (cellsN k s1 s2 s3 run st tg))) : ldV (.flat .str) H (.ob i 6) = some ⟨tg.toArray⟩ := by rw [ld_row h]; rfl
theorem na (h : H[i]? = some (.row NT (cellsN k s1 s2 s3 run st tg))) : ldV AGN H (.ob i 0) = some ((k : Int), s1, s2, s3, run, st, ⟨tg.toArray⟩, ()) := by
  simp only [ldV, rowV_of h, Option.bind_some]
  rfl
end
/-- A node out of a list. -/
theorem rdN {s : VS} {es : List (List V)} (hs : IsE s es) {i k : Nat} {s1 s2 s3 : VS} {run : Bool} {st : Nat} {tg : List UInt8} (hy : es[i]? = some (cellsN k s1 s2 s3 run st tg)) (H : VH) {β : Type} (f : aggT [.int .u8, .slice 9, .slice 27, .slice 5, .bool, .flt .f64, .str] → Option β) : ((ixV 7 s (i : Int)).bind fun p => (ldV AGN H p).bind f) = f ((k : Int), s1, s2, s3, run, st, ⟨tg.toArray⟩, ()) := by
  rw [hs.ix hy, Option.bind_some]
  rfl
theorem bxD (H : VH) (k : Nat) (s1 s2 s3 : VS) (run : Bool) (st : Nat) (tg : List UInt8) : ∃ H', stV (H ++ [.row (27 + boxK) [.int .u8 0, .sl 9 .nil, .sl 27 .nil, .sl 5 .nil, .bool false, .flt .f64 0, .str ⟨#[]⟩]]) (.ob H.length 0) [.int .u8 (k : Int), .sl 9 s1, .sl 27 s2, .sl 5 s3, .bool run, .flt .f64 st, .str ⟨tg.toArray⟩] = some H' ∧ H'[H.length]? = some (.row NT (cellsN k s1 s2 s3 run st tg)) ∧ Kp H H' [] := by
  obtain ⟨H', a, b, _, _⟩ := box_new H NT (zs := [.int .u8 0, .sl 9 .nil, .sl 27 .nil, .sl 5 .nil, .bool false, .flt .f64 0, .str ⟨#[]⟩]) (cs := cellsN k s1 s2 s3 run st tg) rfl rfl
  exact ⟨H', a, b, box_kp H NT (zs := [.int .u8 0, .sl 9 .nil, .sl 27 .nil, .sl 5 .nil, .bool false, .flt .f64 0, .str ⟨#[]⟩]) (cs := cellsN k s1 s2 s3 run st tg) rfl rfl a⟩
theorem dyn21 (n : Nat) (a b : List V) (H : VH) : dynD P (env tab (vF P tab n) 41) 4 (some (.func (.func 21) [] [])) [.agg a, .agg b] H = V.callD (vF P tab n) P false (.one (.flat .bool)) 21 [.agg a, .agg b] H := by kernel_rfl
/-! ### Are two nodes alike? the program's way -/
theorem l41 (n d : Nat) (ih : ∀ {x y : Nd} {c1 c2 : List V} (H : VH), NC d x c1 → NC d y c2 → vF P tab n 21 [.agg c1, .agg c2] H = some (.bool (sameN d x y), H)) {s t : VS} {es fs : List (List V)} (hs : IsE s es) (ht : IsE t fs) {xs ys : List Nd} (hx : F2 (NC d) xs es) (hy : F2 (NC d) ys fs) (hl : xs.length = ys.length) (hb : xs.length < 10000) : ∀ (m i : Nat) (H : VH), i ≤ xs.length → xs.length < i + m → ∃ H', L41_0 n m t (.func (.func 21) [] []) s (xs.length : Int) (i : Int) H = some (.bool (all2 (sameN d) (xs.drop i) (ys.drop i)), H') := by
  intro m
  induction m with
  | zero => intros; omega
  | succ m ihm =>
    intro i H hi hm
    rw [L41_0_eq]
    by_cases c : i < xs.length
    · have hd : decide ((i : Int) < (xs.length : Int)) = true := decide_eq_true (by omega)
      obtain ⟨x, ex⟩ := get_of c
      obtain ⟨y, ey⟩ := get_of (l := ys) (i := i) (by omega)
      obtain ⟨c1, g1, g2⟩ := hx.get ex
      obtain ⟨c2, g3, g4⟩ := hy.get ey
      rw [hd, cond_true, all2_step ex ey]
      cases d with
      | zero => exact g2.elim
      | succ d =>
        obtain ⟨k, names, kids, data, run, st, tg⟩ := x
        obtain ⟨k', names', kids', data', run', st', tg'⟩ := y
        have g2' := g2
        have g4' := g4
        obtain ⟨s1, s2, s3, es1, rfl, _⟩ := g2
        obtain ⟨t1, t2, t3, fs1, rfl, _⟩ := g4
        rw [rdN hs g1]
        simp only
        obtain ⟨H1, a1, a2, a3⟩ := bxD H k s1 s2 s3 run st tg
        rw [a1, Option.bind_some, rdN ht g3]
        simp only
        obtain ⟨H2, b1, b2, b3⟩ := bxD H1 k' t1 t2 t3 run' st' tg'
        rw [b1, Option.bind_some, na (b3.ob a2 (by simp)), Option.bind_some, na b2, Option.bind_some]
        simp only
        have hc := ih H2 g2' g4'
        have hc' : V.callD (vF P tab n) P false (.one (.flat .bool)) 21 [.agg [.int .u8 (k : Int), .sl 9 s1, .sl 27 s2, .sl 5 s3, .bool run, .flt .f64 st, .str ⟨tg.toArray⟩], .agg [.int .u8 (k' : Int), .sl 9 t1, .sl 27 t2, .sl 5 t3, .bool run', .flt .f64 st', .str ⟨tg'.toArray⟩]] H2 = some (sameN (d + 1) (.mk k names kids data run st tg) (.mk k' names' kids' data' run' st' tg'), H2) := callD_bool hc
        rw [dyn21, hc']
        show ∃ H', cond (!(sameN (d + 1) (.mk k names kids data run st tg) (.mk k' names' kids' data' run' st' tg'))) (some (V.bool false, H2)) (L41_0 n m t (.func (.func 21) [] []) s (xs.length : Int) (IntKind.wrap .i64 ((i : Int) + 1)) H2) = _
        cases sameN (d + 1) (.mk k names kids data run st tg) (.mk k' names' kids' data' run' st' tg') with
        | false => exact ⟨H2, rfl⟩
        | true =>
          rw [Bool.not_true, cond_false, cond_true, inc_nat (by omega)]
          exact ihm (i + 1) H2 (by omega) (by omega)
    · have hd : decide ((i : Int) < (xs.length : Int)) = false := decide_eq_false (by omega)
      rw [hd, cond_false, List.drop_eq_nil_of_le (by omega), List.drop_eq_nil_of_le (by omega)]
      exact ⟨H, rfl⟩
theorem c41 (n d : Nat) (hn : 10000 ≤ n) (ih : ∀ {x y : Nd} {c1 c2 : List V} (H : VH), NC d x c1 → NC d y c2 → vF P tab n 21 [.agg c1, .agg c2] H = some (.bool (sameN d x y), H)) {s t : VS} {es fs : List (List V)} (hs : IsE s es) (ht : IsE t fs) {xs ys : List Nd} (hx : F2 (NC d) xs es) (hy : F2 (NC d) ys fs) (hb : xs.length < 10000) (H : VH) :
    V.callD (vF P tab (n + 1)) P false (.one (.flat .bool)) 41 [.sl 27 s, .sl 27 t, .func (.func 21) [] []] H = some (cond (decide (xs.length = ys.length)) (all2 (sameN d) xs ys) false, H) := by
  have hm : ∃ H', bodyV P tab (vF P tab n) n 41 [.sl 27 s.strip, .sl 27 t.strip, .func (.func 21) [] []] [] = some (.bool (cond (decide (xs.length = ys.length)) (all2 (sameN d) xs ys) false), H') := by
    rw [f41_eq, hs.strip.len, ht.strip.len, ← hx.len, ← hy.len]
    by_cases h : xs.length = ys.length
    · have h1 : ((((xs.length : Nat) : Int)) != ((ys.length : Nat) : Int)) = false := by rw [h]; simp
      rw [h1, cond_false, decide_eq_true h, cond_true]
      obtain ⟨H', g⟩ := l41 n d ih hs.strip ht.strip hx hy h hb n 0 [] (by omega) (by omega)
      rw [show ((0 : Nat) : Int) = 0 from rfl] at g
      exact ⟨H', g⟩
    · have h1 : ((((xs.length : Nat) : Int)) != ((ys.length : Nat) : Int)) = true := by simp only [bne_iff_ne, ne_eq]; omega
      rw [h1, cond_true, decide_eq_false h, cond_false]
      exact ⟨[], rfl⟩
  obtain ⟨H', hm⟩ := hm
  refine callD_bool (vF_lone (r := .bool _) (H1 := H') rfl ?_ hm rfl)
  have a := closed_sl 27 hs
  have b := closed_sl 27 ht
  simp only [List.all_cons, List.all_nil, a, b, Bool.and_true]
  rfl
theorem cl2 {d : Nat} {x y : Nd} {c1 c2 : List V} (h1 : NC d x c1) (h2 : NC d y c2) : [V.agg c1, .agg c2].all closedC = true := by
  show (c1.all closed1 && (c2.all closed1 && true)) = true
  rw [h1.cl, h2.cl]; rfl
theorem e21 (n : Nat) (hn : 10000 ≤ n) : ∀ (d : Nat) {x y : Nd} {c1 c2 : List V} (H : VH), NC d x c1 → NC d y c2 → vF P tab (n + 10 + 2 * d) 21 [.agg c1, .agg c2] H = some (.bool (sameN d x y), H) := by
  intro d
  induction d with
  | zero => intro x y c1 c2 H h; exact h.elim
  | succ d ih =>
    intro x y c1 c2 H h1 h2
    have hm : ∃ H', bodyV P tab (vF P tab (n + 11 + 2 * d)) (n + 11 + 2 * d) 21 [.agg (c1.map strip1), .agg (c2.map strip1)] [] = some (.bool (sameN (d + 1) x y), H') := by
      have g1 := h1.strip
      have g2 := h2.strip
      generalize c1.map strip1 = c1 at g1
      generalize c2.map strip1 = c2 at g2
      obtain ⟨k, names, kids, data, run, st, tg⟩ := x
      obtain ⟨k', names', kids', data', run', st', tg'⟩ := y
      obtain ⟨s1, s2, s3, es, rfl, a1, a2, a3, a4, a5, a6, a7, a8⟩ := g1
      obtain ⟨t1, t2, t3, fs, rfl, b1, b2, b3, b4, b5, b6, b7, b8⟩ := g2
      show ∃ H', bodyV P tab (vF P tab (n + 11 + 2 * d)) (n + 11 + 2 * d) 21 [.agg [.int .u8 (k : Int), .sl 9 s1, .sl 27 s2, .sl 5 s3, .bool run, .flt .f64 st, .str ⟨tg.toArray⟩], .agg [.int .u8 (k' : Int), .sl 9 t1, .sl 27 t2, .sl 5 t3, .bool run', .flt .f64 st', .str ⟨tg'.toArray⟩]] [] = _
      obtain ⟨M, hM⟩ : ∃ M, M + 3 = n + 11 + 2 * d := ⟨n + 8 + 2 * d, by omega⟩
      have hM2 : n + 10 + 2 * d = M + 2 := by omega
      rw [hM2] at ih
      rw [← hM]
      rw [f21_eq]
      obtain ⟨K, hK⟩ : ∃ K : VH, K = [.row NT (cellsN k s1 s2 s3 run st tg), .row NT (cellsN k' t1 t2 t3 run' st' tg')] := ⟨_, rfl⟩
      have eK : (List.append (α := VO) ([] ++ [.row (27 + boxK) [.int .u8 (k : Int), .sl 9 s1, .sl 27 s2, .sl 5 s3, .bool run, .flt .f64 st, .str ⟨tg.toArray⟩]]) [.row (27 + boxK) [.int .u8 (k' : Int), .sl 9 t1, .sl 27 t2, .sl 5 t3, .bool run', .flt .f64 st', .str ⟨tg'.toArray⟩]]) = K := hK.symm
      have e0 : List.length ([] : VH) = 0 := rfl
      have e1 : (List.length (([] ++ [.row (27 + boxK) [.int .u8 (k : Int), .sl 9 s1, .sl 27 s2, .sl 5 s3, .bool run, .flt .f64 st, .str ⟨tg.toArray⟩]]) : VH)) = 1 := rfl
      rw [eK, e1]
      simp only [e0]
      have h0 : K[0]? = some (.row NT (cellsN k s1 s2 s3 run st tg)) := by rw [hK]; rfl
      have h1 : K[1]? = some (.row NT (cellsN k' t1 t2 t3 run' st' tg')) := by rw [hK]; rfl
      refine ⟨K, ?_⟩
      rw [n0 h0, Option.bind_some, n0 h1, Option.bind_some]
      unfold sameN
      have ek : (((k : Nat) : Int) == ((k' : Nat) : Int)) = decide (k = k') := by
        by_cases h : k = k'
        · rw [h]; simp
        · rw [decide_eq_false h]; simp; omega
      rw [ek]
      cases decide (k = k') with
      | false => rfl
      | true =>
        rw [cond_true, cond_true, n4 h0, Option.bind_some, n4 h1, Option.bind_some]
        cases (run == run') with
        | false => rfl
        | true =>
          rw [cond_true, cond_true, n6 h0, Option.bind_some, n6 h1, Option.bind_some, strEq_iff]
          cases decide (tg = tg') with
          | false => rfl
          | true =>
            rw [cond_true, cond_true, n5 h0, Option.bind_some, n5 h1, Option.bind_some, callD_bool (e38 M st st' K), Option.bind_some]
            simp only
            cases decide (canonB st = canonB st') with
            | false => rfl
            | true =>
              rw [cond_true, cond_true, n3 h0, Option.bind_some, n3 h1, Option.bind_some, c66d (M + 2) a4 b4, Option.bind_some]
              simp only
              cases decide (data = data') with
              | false => rfl
              | true =>
                rw [cond_true, cond_true, n1 h0, Option.bind_some, n1 h1, Option.bind_some, c67d (M + 2) a1 b1 (by omega) (by omega), Option.bind_some]
                simp only
                cases decide (names = names') with
                | false => rfl
                | true =>
                  rw [cond_true, cond_true, n2 h0, Option.bind_some, n2 h1, Option.bind_some, c41 (M + 2) d (by omega) (fun H a b => ih H a b) a2 b2 a3 b3 (by omega), Option.bind_some]
    obtain ⟨H', hm⟩ := hm
    rw [show n + 10 + 2 * (d + 1) = (n + 11 + 2 * d) + 1 by omega]
    refine (vF_lone (n := n + 11 + 2 * d) (args := [.agg c1, .agg c2]) (r := .bool (sameN (d + 1) x y)) (H1 := H') rfl (cl2 h1 h2) hm rfl).trans rfl
end Go.Proofs.Ytmpobijkbmljdaa
