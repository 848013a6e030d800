import Derived.Test.YtmpobijkbmljdaaB05n
set_option maxRecDepth 100000
set_option linter.unusedVariables false
set_option linter.unusedSimpArgs false
namespace Go.Proofs.Ytmpobijkbmljdaa
open Go.Proofs.Ytmpobijkbmljdaa.Sh Go.Proofs.Ytmpobijkbmljdaa.Sh.V Go.RowKit
/-! ### Are two nodes alike? the document's way -/
def Nh (i k : Nat) (s1 s2 s3 : VS) (run : Bool) (st : Nat) (tg : List UInt8) (x : VP × V.FT × V) : Prop :=
  x = (.ob i 0, .int .u8, .int .u8 (k : Int)) ∨ x = (.ob i 1, .slice 9, .sl 9 s1) ∨ x = (.ob i 2, .slice 27, .sl 27 s2) ∨ x = (.ob i 3, .slice 5, .sl 5 s3) ∨ x = (.ob i 4, .bool, .bool run) ∨ x = (.ob i 5, .flt .f64, .flt .f64 st) ∨ x = (.ob i 6, .str, .str ⟨tg.toArray⟩)
theorem nst {H : VH} {i k : Nat} {s1 s2 s3 : VS} {run : Bool} {st : Nat} {tg : List UInt8} (h : H[i]? = some (.row NT (cellsN k s1 s2 s3 run st tg))) {x : VP × V.FT × V} (hx : Nh i k s1 s2 s3 run st tg x) (L : Held) : V.stays H (x :: L) = V.stays H L := by
  obtain ⟨p, τ, v⟩ := x
  rw [stays_cons]
  rcases hx with h1 | h1 | h1 | h1 | h1 | h1 | h1 <;> (
    injection h1 with h1 h2
    injection h2 with h2 h3
    subst h1 h2 h3)
  · rw [n0 h]; simp only [V.fenc, same_self, Bool.true_and]
  · rw [n1 h]; simp only [V.fenc, same_self, Bool.true_and]
  · rw [n2 h]; simp only [V.fenc, same_self, Bool.true_and]
  · rw [n3 h]; simp only [V.fenc, same_self, Bool.true_and]
  · rw [n4 h]; simp only [V.fenc, same_self, Bool.true_and]
  · rw [n5 h]; simp only [V.fenc, same_self, Bool.true_and]
  · rw [n6 h]; simp only [V.fenc, same_self, Bool.true_and]
theorem cex {α : Type} {Q : α → Prop} {b : Bool} {A B : α} (hb : b = true) (h : Q A) : Q (cond b A B) := by subst hb; exact h
theorem l22 (n d : Nat) (ih : ∀ {x y : Nd} {c1 c2 : List V} (H : VH), NC d x c1 → NC d y c2 → vF P tab n 22 [.agg c1, .agg c2] H = some (.bool (sameN d x y), H)) {K : VH} {i0 i1 k k' : Nat} {s1 s2 s3 t1 t2 t3 : VS} {run run' : Bool} {st st' : Nat} {tg tg' : List UInt8} (h0 : K[i0]? = some (.row NT (cellsN k s1 s2 s3 run st tg))) (h1 : K[i1]? = some (.row NT (cellsN k' t1 t2 t3 run' st' tg'))) {es fs : List (List V)} (hs : IsE s2 es) (ht : IsE t2 fs) {xs ys : List Nd} (hx : F2 (NC d) xs es) (hy : F2 (NC d) ys fs) (hl : xs.length = ys.length) (hb : xs.length < 10000) : ∀ (m i : Nat), i ≤ xs.length → xs.length < i + m → L22_0 n m i0 i1 (i : Int) K = some (.bool (all2 (sameN d) (xs.drop i) (ys.drop i)), K) := by
  intro m
  induction m with
  | zero => intros; omega
  | succ m ihm =>
    intro i hi hm
    rw [L22_0_eq, n2 h0, Option.bind_some, hs.len, ← hx.len]
    by_cases c : i < xs.length
    · have hd : decide ((i : Int) < (xs.length : Int)) = true := decide_eq_true (by omega)
      obtain ⟨x, ex⟩ := get_of c
      obtain ⟨y, ey⟩ := get_of (l := ys) (i := i) (by omega)
      obtain ⟨c1, g1, g2⟩ := hx.get ex
      obtain ⟨c2, g3, g4⟩ := hy.get ey
      rw [hd, cond_true, all2_step ex ey, Option.bind_some]
      cases d with
      | zero => exact g2.elim
      | succ d =>
        obtain ⟨k2, names, kids, data, run2, st2, tg2⟩ := x
        obtain ⟨k3, names', kids', data', run3, st3, tg3⟩ := y
        have g2' := g2
        have g4' := g4
        obtain ⟨u1, u2, u3, es1, rfl, _⟩ := g2
        obtain ⟨v1, v2, v3, fs1, rfl, _⟩ := g4
        rw [rdN hs g1, n2 h1, Option.bind_some, rdN ht g3]
        simp only
        have hc := ih K g2' g4'
        have hc' : V.callD (vF P tab n) P false (.one (.flat .bool)) 22 [.agg [.int .u8 (k2 : Int), .sl 9 u1, .sl 27 u2, .sl 5 u3, .bool run2, .flt .f64 st2, .str ⟨tg2.toArray⟩], .agg [.int .u8 (k3 : Int), .sl 9 v1, .sl 27 v2, .sl 5 v3, .bool run3, .flt .f64 st3, .str ⟨tg3.toArray⟩]] K = some (sameN (d + 1) (.mk k2 names kids data run2 st2 tg2) (.mk k3 names' kids' data' run3 st3 tg3), K) := callD_bool hc
        rw [hc', Option.bind_some]
        simp only
        cases sameN (d + 1) (.mk k2 names kids data run2 st2 tg2) (.mk k3 names' kids' data' run3 st3 tg3) with
        | false => rfl
        | true =>
          rw [Bool.not_true, cond_false, cond_true, inc_nat (by omega)]
          exact ihm (i + 1) (by omega) (by omega)
    · have hd : decide ((i : Int) < (xs.length : Int)) = false := decide_eq_false (by omega)
      rw [hd, cond_false, List.drop_eq_nil_of_le (by omega), List.drop_eq_nil_of_le (by omega)]
      rfl
theorem nat_ne (a b : Nat) : (((a : Nat) : Int) != ((b : Nat) : Int)) = !decide (a = b) := by
  by_cases h : a = b
  · rw [h]; simp
  · rw [decide_eq_false h]; simp only [Bool.not_false, bne_iff_ne, ne_eq]; omega
theorem e22 (n : Nat) (hn : 20000 ≤ n) : ∀ (d : Nat) {x y : Nd} {c1 c2 : List V} (H : VH), NC d x c1 → NC d y c2 → vF P tab (n + d) 22 [.agg c1, .agg c2] H = some (.bool (sameN d x y), H) := by
  intro d
  induction d with
  | zero => intro x y c1 c2 H h; exact h.elim
  | succ d ih =>
    intro x y c1 c2 H h1 h2
    have hm : bodyV P tab (vF P tab (n + d)) (n + d) 22 [.agg (c1.map strip1), .agg (c2.map strip1)] [] = some (.bool (sameN (d + 1) x y), [.row NT (c1.map strip1), .row NT (c2.map strip1)]) := by
      have g1 := h1.strip
      have g2 := h2.strip
      generalize c1.map strip1 = c1 at g1
      generalize c2.map strip1 = c2 at g2
      obtain ⟨k, names, kids, data, run, st, tg⟩ := x
      obtain ⟨k', names', kids', data', run', st', tg'⟩ := y
      obtain ⟨s1, s2, s3, es, rfl, a1, a2, a3, a4, a5, a6, a7, a8⟩ := g1
      obtain ⟨t1, t2, t3, fs, rfl, b1, b2, b3, b4, b5, b6, b7, b8⟩ := g2
      show bodyV P tab (vF P tab (n + d)) (n + d) 22 [.agg [.int .u8 (k : Int), .sl 9 s1, .sl 27 s2, .sl 5 s3, .bool run, .flt .f64 st, .str ⟨tg.toArray⟩], .agg [.int .u8 (k' : Int), .sl 9 t1, .sl 27 t2, .sl 5 t3, .bool run', .flt .f64 st', .str ⟨tg'.toArray⟩]] [] = _
      obtain ⟨M, hM⟩ : ∃ M, M + 2 = n + d := ⟨n + d - 2, by omega⟩
      rw [← hM] at ih ⊢
      rw [f22_eq]
      obtain ⟨K, hK⟩ : ∃ K : VH, K = [.row NT (cellsN k s1 s2 s3 run st tg), .row NT (cellsN k' t1 t2 t3 run' st' tg')] := ⟨_, rfl⟩
      have eK : (List.append (α := VO) ([] ++ [.row (27 + boxK) [.int .u8 (k : Int), .sl 9 s1, .sl 27 s2, .sl 5 s3, .bool run, .flt .f64 st, .str ⟨tg.toArray⟩]]) [.row (27 + boxK) [.int .u8 (k' : Int), .sl 9 t1, .sl 27 t2, .sl 5 t3, .bool run', .flt .f64 st', .str ⟨tg'.toArray⟩]]) = K := hK.symm
      have e0 : List.length ([] : VH) = 0 := rfl
      have e1 : (List.length (([] ++ [.row (27 + boxK) [.int .u8 (k : Int), .sl 9 s1, .sl 27 s2, .sl 5 s3, .bool run, .flt .f64 st, .str ⟨tg.toArray⟩]]) : VH)) = 1 := rfl
      rw [eK, e1, ← hK]
      simp only [e0]
      have h0 : K[0]? = some (.row NT (cellsN k s1 s2 s3 run st tg)) := by rw [hK]; rfl
      have h1 : K[1]? = some (.row NT (cellsN k' t1 t2 t3 run' st' tg')) := by rw [hK]; rfl
      have stl : ∀ L : Held, (∀ x ∈ L, Nh 0 k s1 s2 s3 run st tg x ∨ Nh 1 k' t1 t2 t3 run' st' tg' x) → V.stays K L = true := by
        intro L
        induction L with
        | nil => intro _; rfl
        | cons x L ih =>
          intro hL
          rcases hL x (List.mem_cons_self ..) with h | h
          · rw [nst h0 h, ih (fun y hy => hL y (List.mem_cons_of_mem _ hy))]
          · rw [nst h1 h, ih (fun y hy => hL y (List.mem_cons_of_mem _ hy))]
      clear hK eK e1 e0
      rw [n0 h0, Option.bind_some, n0 h1, Option.bind_some]
      generalize hR : sameN (d + 1) (.mk k names kids data run st tg) (.mk k' names' kids' data' run' st' tg') = R
      refine cex (Q := fun z : VRes => z = some (.bool R, K)) (stl _ (by simp [Nh])) ?_
      rw [← hR]
      unfold sameN
      rw [nat_ne]
      cases decide (k = k') with
      | false => rfl
      | true =>
        rw [Bool.not_true, cond_false, cond_true, n4 h0, Option.bind_some, n4 h1, Option.bind_some]
        refine cex (Q := fun z : VRes => z = some (.bool _, K)) (stl _ (by simp [Nh])) ?_
        cases (run == run') with
        | false => rfl
        | true =>
          rw [Bool.not_true, cond_false, cond_true, n6 h0, Option.bind_some, n6 h1, Option.bind_some]
          refine cex (Q := fun z : VRes => z = some (.bool _, K)) (stl _ (by simp [Nh])) ?_
          rw [strEq_iff]
          cases decide (tg = tg') with
          | false => rfl
          | true =>
            rw [Bool.not_true, cond_false, cond_true, n5 h0, Option.bind_some, n5 h1, Option.bind_some, c24 (M + 1) a8 K, Option.bind_some]
            simp only
            refine cex (Q := fun z : VRes => z = some (.bool _, K)) (stl _ (by simp [Nh])) ?_
            rw [c24 (M + 1) b8 K, Option.bind_some]
            simp only
            refine cex (Q := fun z : VRes => z = some (.bool _, K)) (stl _ (by simp [Nh])) ?_
            rw [nat_ne]
            cases decide (canonB st = canonB st') with
            | false => rfl
            | true =>
              rw [Bool.not_true, cond_false, cond_true, n3 h0, Option.bind_some, n3 h1, Option.bind_some]
              refine cex (Q := fun z : VRes => z = some (.bool _, K)) (stl _ (by simp [Nh])) ?_
              rw [callD_bool (e42 (M + 1) a4 b4 (by rw [maxLen_eq]; omega) (by omega)), Option.bind_some]
              simp only
              refine cex (Q := fun z : VRes => z = some (.bool _, K)) (stl _ (by simp [Nh])) ?_
              cases decide (data = data') with
              | false => rfl
              | true =>
                rw [Bool.not_true, cond_false, cond_true, n1 h0, Option.bind_some, n1 h1, Option.bind_some]
                refine cex (Q := fun z : VRes => z = some (.bool _, K)) (stl _ (by simp [Nh])) ?_
                rw [c55d (M + 1) a1 b1 (by omega) (by omega), Option.bind_some]
                simp only
                refine cex (Q := fun z : VRes => z = some (.bool _, K)) (stl _ (by simp [Nh])) ?_
                cases decide (names = names') with
                | false => rfl
                | true =>
                  rw [Bool.not_true, cond_false, cond_true, n2 h0, Option.bind_some, n2 h1, Option.bind_some]
                  refine cex (Q := fun z : VRes => z = some (.bool _, K)) (stl _ (by simp [Nh])) ?_
                  rw [a2.len, b2.len, ← a3.len, ← b3.len, nat_ne]
                  by_cases hl : kids.length = kids'.length
                  · rw [decide_eq_true hl, Bool.not_true, cond_false, cond_true]
                    exact l22 (M + 2) d (fun H a b => ih H a b) h0 h1 a2 b2 a3 b3 hl (by omega) (M + 2) 0 (by omega) (by omega)
                  · rw [decide_eq_false hl]
                    rfl
    rw [show n + (d + 1) = (n + d) + 1 by omega]
    refine (vF_lone (n := n + d) (args := [.agg c1, .agg c2]) (r := .bool (sameN (d + 1) x y)) rfl (cl2 h1 h2) hm rfl).trans rfl
end Go.Proofs.Ytmpobijkbmljdaa
