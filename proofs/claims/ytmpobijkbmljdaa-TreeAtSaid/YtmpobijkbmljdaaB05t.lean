import Derived.Test.YtmpobijkbmljdaaB05s
import Derived.Test.YtmpobijkbmljdaaVc
set_option maxRecDepth 100000
set_option linter.unusedVariables false
set_option linter.unusedSimpArgs false
namespace Go.Proofs.Ytmpobijkbmljdaa
open Go.Proofs.Ytmpobijkbmljdaa.Sh Go.Proofs.Ytmpobijkbmljdaa.Sh.V Go.RowKit
/-! ### A tree of a list -/
structure MV (y : List V) : Prop where
  ex : ∃ (up kind name : Nat) (s : VS) (data : List UInt8) (run : Bool) (st : Nat), y = [.int .u8 (up : Int), .int .u8 (kind : Int), .int .u8 (name : Int), .sl 5 s, .bool run, .flt .f64 st] ∧ IsB s data ∧ data.length ≤ 200 ∧ st < 18446744073709551616 ∧ name < 256
theorem cat116 (l : List UInt8) (h : l.length < 1000000) : catS ⟨#[116]⟩ ⟨l.toArray⟩ = some ⟨(116 :: l).toArray⟩ := by
  unfold catS
  rw [if_pos (by simp [ByteArray.size]; omega)]
  apply congrArg some
  apply ByteArray.ext
  simp
theorem NC.ups {d : Nat} {x : Nd} {cs : List V} (h : NC d x cs) : ∀ g, NC (d + g) x cs
  | 0 => h
  | g + 1 => (NC.ups h g).up
theorem fin0 {H : VH} {i : Nat} {cs0 : List V} (h0 : H[i]? = some (.row NT cs0)) (hl : cs0.length = 7) (k : Nat) (s1 s2 s3 : VS) (run : Bool) (st : Nat) (tg : List UInt8) : ∃ H', ((stV H (.ob i 0) [.int .u8 (k : Int), .sl 9 s1, .sl 27 s2, .sl 5 s3, .bool run, .flt .f64 st, .str ⟨tg.toArray⟩]).bind fun h9 => (((ldV AGN h9 (.ob i 0)).bind fun x10 => some (V.agg [.int .u8 x10.1, .sl 9 x10.2.1, .sl 27 x10.2.2.1, .sl 5 x10.2.2.2.1, .bool x10.2.2.2.2.1, .flt .f64 x10.2.2.2.2.2.1, .str x10.2.2.2.2.2.2.1], h9)))) = some (.agg (cellsN k s1 s2 s3 run st tg), H') := by
  rw [st_row h0 (by simp [hl]) rfl, Option.bind_some]
  have h2 : (H.set i (.row NT (putAllV cs0 0 [.int .u8 (k : Int), .sl 9 s1, .sl 27 s2, .sl 5 s3, .bool run, .flt .f64 st, .str ⟨tg.toArray⟩])))[i]? = some (.row NT (cellsN k s1 s2 s3 run st tg)) := by
    rw [List.getElem?_set_self (lt_of_ob h0)]
    match cs0, hl with
    | [c1, c2, c3, c4, c5, c6, c7], _ => rfl
  rw [na h2, Option.bind_some]
  exact ⟨_, rfl⟩
/-! ### Rising names -/
def RiseL (l : List (List UInt8)) : Prop := ∀ (i j : Nat) a b, i < j → l[i]? = some a → l[j]? = some b → a < b
theorem RiseL.nil : RiseL [] := fun i j a b _ h => by simp at h
theorem RiseL.snoc {l : List (List UInt8)} (h : RiseL l) {x : List UInt8} (hx : ∀ a ∈ l, a < x) : RiseL (l ++ [x]) := fun i j a b hij ha hb => by
  by_cases h1 : j < l.length
  · rw [List.getElem?_append_left h1] at hb
    rw [List.getElem?_append_left (by omega)] at ha
    exact h i j a b hij ha hb
  · rw [List.getElem?_append_right (by omega)] at hb
    have hj0 : j - l.length = 0 := by
      have := (List.getElem?_eq_some_iff.1 hb).1
      simp at this; omega
    rw [hj0] at hb
    simp at hb
    subst hb
    rw [List.getElem?_append_left (by omega)] at ha
    exact hx a (List.mem_of_getElem? ha)
def GoodT (l : List UInt8) : Prop := l ≠ [] ∧ (47 : UInt8) ∉ l ∧ l.length ≤ 2
theorem c56 (n : Nat) (k : Nat) (hk : k < 256) (H : VH) : ∃ l : List UInt8, V.callD (vF P tab (n + 1)) P false (.one (.flat .str)) 56 [.int .u8 (k : Int)] H = some (⟨l.toArray⟩, H) ∧ GoodT l := by
  have h : ∃ l : List UInt8, bodyV P tab (vF P tab n) n 56 [.int .u8 (k : Int)] [] = some (.str ⟨l.toArray⟩, []) ∧ GoodT l := by
    rw [f56_eq, show (26 : Int) = ((26 : Nat) : Int) from rfl, remI_nat (by decide), Option.bind_some, quoI_nat (by decide) (wrap_u8_nat (by omega)), Option.bind_some, bc_wrap, bc_wrap, IsB.str (show IsB (.fz [bc (u8 (97 + ((k % 26 : Nat) : Int))), bc (u8 (97 + ((k / 26 : Nat) : Int)))] (.ex 2)) [u8 (97 + ((k % 26 : Nat) : Int)), u8 (97 + ((k / 26 : Nat) : Int))] from .fz _ _), Option.bind_some]
    refine ⟨_, rfl, by simp, fun h => ?_, by simp⟩
    have key : ∀ x : Nat, x < 30 → (47 : UInt8) ≠ u8 (97 + (x : Int)) := by decide
    simp only [List.mem_cons, List.not_mem_nil, or_false] at h
    rcases h with h | h
    · exact key (k % 26) (by omega) h
    · exact key (k / 26) (by omega) h
  obtain ⟨l, h, hg⟩ := h
  exact ⟨l, callD_some _ (vF_lone (r := .str ⟨l.toArray⟩) (H1 := []) rfl rfl h rfl) rfl, hg⟩
/-- What a tree that is made is like. -/
def Good : Nat → Nd → Prop
  | 0, _ => True
  | d + 1, .mk _ names kids _ _ _ _ => RiseL names ∧ names.length = kids.length ∧ (∀ x ∈ names, GoodT x) ∧ ∀ y ∈ kids, Good d y
/-- A name and a node behind the others. -/
theorem two {H : VH} {s12 s13 : VS} {ns : List (List UInt8)} {fs : List (List V)} (h1 : Aq H 9 s12 (ss ns)) (h2 : Aq H 27 s13 fs) (hn : ns.length < 10000) (hf : fs.length < 10000) (nm : List UInt8) (k : Nat) (u1 u2 u3 : VS) (run : Bool) (st : Nat) (tg : List UInt8) :
    ∃ r1 H1 r2 H2, appD true H 1 16 9 s12 (.fz [[.str ⟨nm.toArray⟩]] (.ex 1)) = some (r1, H1) ∧ appD true H1 7 112 27 s13 (.fz [[.int .u8 (k : Int), .sl 9 (VS.strip u1), .sl 27 (VS.strip u2), .sl 5 (VS.strip u3), .bool run, .flt .f64 st, .str ⟨tg.toArray⟩]] (.ex 1)) = some (r2, H2) ∧ Rx H H1 ∧ Rx H H2 ∧ Aq H2 9 r1 (ss (ns ++ [nm])) ∧ Aq H2 27 r2 (fs ++ [cellsN k u1.strip u2.strip u3.strip run st tg]) := by
  obtain ⟨r1, H1, a1, a2, a3, _⟩ := h1.appE (sz := 1) (by_ := 16) (x := .fz [[.str ⟨nm.toArray⟩]] (.ex 1)) (.fz _ _) (by simp only [ss_len, bound, List.length_singleton]; omega) (by simp only [ss_len, bound, List.length_singleton]; omega)
  have g1 := a3.gx fun t ht => h1.tok_at ht
  obtain ⟨r2, H2, b1, b2, b3, _⟩ := (h2.gx g1 (by decide)).appE (sz := 7) (by_ := 112) (x := .fz [[.int .u8 (k : Int), .sl 9 (VS.strip u1), .sl 27 (VS.strip u2), .sl 5 (VS.strip u3), .bool run, .flt .f64 st, .str ⟨tg.toArray⟩]] (.ex 1)) (.fz _ _) (by simp only [bound, List.length_singleton]; omega) (by simp only [bound, List.length_singleton]; omega)
  have g2 := b3.gx fun t ht => (h2.gx g1 (by decide)).tok_at ht
  refine ⟨r1, H1, r2, H2, a1, b1, g1.rx, g1.rx.trans g2.rx, ?_, b2⟩
  have := a2.gx g2 (by decide)
  unfold ss at this ⊢
  rw [List.map_append]
  exact this
theorem clN {d : Nat} {x : Nd} {k : Nat} {u1 u2 u3 : VS} {run : Bool} {st : Nat} {tg : List UInt8} (h : NC d x (cellsN k u1 u2 u3 run st tg)) : List.all [V.int .u8 (k : Int), .sl 9 u1, .sl 27 u2, .sl 5 u3, .bool run, .flt .f64 st, .str ⟨tg.toArray⟩] closed1 = true := h.cl
theorem ld_fzs (H : VH) (l : List UInt8) : ldV (.flat .str) H (.fz [.str ⟨l.toArray⟩]) = some ⟨l.toArray⟩ := rfl
theorem ld_fzn (H : VH) (k : Nat) (s1 s2 s3 : VS) (run : Bool) (st : Nat) (tg : List UInt8) : ldV AGN H (.fz (cellsN k s1 s2 s3 run st tg)) = some ((k : Int), s1, s2, s3, run, st, ⟨tg.toArray⟩, ()) := rfl
theorem mem_snoc {α : Type} {P : α → Prop} {l : List α} {x : α} (h : ∀ a ∈ l, P a) (hx : P x) : ∀ a ∈ l ++ [x], P a := fun a ha => by
  rcases List.mem_append.1 ha with h1 | h1
  · exact h a h1
  · rw [List.mem_singleton.1 h1]; exact hx
theorem lt_of_not {a b : List UInt8} (h1 : ¬ a < b) (h2 : ¬ a = b) : b < a := by
  rcases List.le_total a b with h | h
  · rcases List.le_iff_lt_or_eq.1 h with h | h
    · exact absurd h h1
    · exact absurd h h2
  · rcases List.le_iff_lt_or_eq.1 h with h | h
    · exact h
    · exact absurd h.symm h2
theorem l37i (n m0 d : Nat) {s0 : VS} {at_ deep : Int} {i0 k8 k11 : Nat} {i : Int} {tt : List UInt8} {s1 s2 : VS} {names : List (List UInt8)} {kids : List Nd} {es : List (List V)} (hs1 : IsE s1 (ss names)) (hs2 : IsE s2 es) (hk : F2 (NC d) kids es) (hlen : names.length = kids.length) (hb : names.length < 5000) (hr : RiseL names) {kid : Nd} (hgk : ∀ y ∈ kids, Good d y) (hgd : Good d kid) {k : Nat} {u1 u2 u3 : VS} {run : Bool} {st : Nat} {tg : List UInt8} (hkid : NC d kid (cellsN k u1 u2 u3 run st tg)) {cs0 : List V} {Q : VRes → Prop}
    (hQ : ∀ H s12 s13 ns fs kk, H[i0]? = some (.row NT cs0) → H[k8]? = some (.row NT (cellsN 1 s1 s2 .nil false 0 [])) → Aq H 9 s12 (ss ns) → Aq H 27 s13 fs → F2 (NC d) kk fs → ns.length = kk.length → ns.length ≤ names.length + 1 → RiseL ns → (∀ x ∈ ns, x = tt ∨ x ∈ names) → (∀ y ∈ kk, Good d y) → Q ((stV H (.ob k8 1) [.sl 9 s12]).bind fun h40 => ((stV h40 (.ob k8 2) [.sl 27 s13]).bind fun h41 => (L37_0 n m0 s0 at_ deep i0 k8 (IntKind.wrap .i64 (i + 1)) h41)))) :
    ∀ (m j : Nat) {H : VH} {s12 s13 : VS} {b : Bool} {ns : List (List UInt8)} {fs : List (List V)} {kk : List Nd}, H[i0]? = some (.row NT cs0) → H[k8]? = some (.row NT (cellsN 1 s1 s2 .nil false 0 [])) → H[k11]? = some (.row NT (cellsN k u1 u2 u3 run st tg)) → Aq H 9 s12 (ss ns) → Aq H 27 s13 fs → F2 (NC d) kk fs → ns.length = kk.length → ns.length ≤ j + (cond b 1 0) → RiseL ns → (∀ x ∈ ns, ∀ (q : Nat) y, j ≤ q → names[q]? = some y → x < y) → (b = false → ∀ x ∈ ns, x < tt) → (∀ x ∈ ns, x = tt ∨ x ∈ names) → (∀ y ∈ kk, Good d y) → j ≤ names.length → names.length < j + m → Q (L37_1 n m0 m s0 at_ deep i0 k8 i ⟨tt.toArray⟩ k11 s12 s13 b (j : Int) H) := by
  intro m
  induction m with
  | zero => intros; omega
  | succ m ih =>
    intro j H s12 s13 b ns fs kk h0 h8 h11 hA hB hF hl1 hl2 hri hup hlt hin hgg hjn hm
    have hff := hF.len
    rw [L37_1_eq]
    have stl : ∀ {K : VH}, K[k8]? = some (.row NT (cellsN 1 s1 s2 .nil false 0 [])) → K[k11]? = some (.row NT (cellsN k u1 u2 u3 run st tg)) → ∀ L : Held, (∀ x ∈ L, Nh k8 1 s1 s2 .nil false 0 [] x ∨ Nh k11 k u1 u2 u3 run st tg x) → V.stays K L = true := by
      intro K g8 g11 L
      induction L with
      | nil => intro _; rfl
      | cons x L ih =>
        intro hL
        rcases hL x (List.mem_cons_self ..) with h | h
        · rw [nst g8 h, ih (fun y hy => hL y (List.mem_cons_of_mem _ hy))]
        · rw [nst g11 h, ih (fun y hy => hL y (List.mem_cons_of_mem _ hy))]
    rw [n1 h8, Option.bind_some, hs1.len, ss_len]
    by_cases c : j < names.length
    · have hd : decide ((j : Int) < (names.length : Int)) = true := decide_eq_true (by omega)
      rw [hd, cond_true]
      obtain ⟨nm, en⟩ := get_of c
      have hnm : nm ∈ names := List.mem_of_getElem? en
      have upn : ∀ (q : Nat) y, j + 1 ≤ q → names[q]? = some y → nm < y := fun q y hq hy => hr j q nm y (by omega) en hy
      have up1 : ∀ x ∈ ns, ∀ (q : Nat) y, j + 1 ≤ q → names[q]? = some y → x < y := fun x hx q y hq hy => hup x hx q y (by omega) hy
      have ltn : ∀ x ∈ ns, x < nm := fun x hx => hup x hx j nm (Nat.le_refl _) en
      obtain ⟨kd, ek⟩ := get_of (l := kids) (i := j) (by omega)
      obtain ⟨cc, g1, g2⟩ := hk.get ek
      have hgn := hgk kd (List.mem_of_getElem? ek)
      have ix1 : ixV 1 s1 (j : Int) = some (.fz [.str ⟨nm.toArray⟩]) := hs1.ix (by simp [ss, en]) 1
      have ix2 : ixV 7 s2 (j : Int) = some (.fz cc) := hs2.ix g1 7
      cases d with
      | zero => exact g2.elim
      | succ d =>
        obtain ⟨k2, names2, kids2, data2, run2, st2, tg2⟩ := kd
        have g2' := g2
        obtain ⟨v1, v2, v3, es2, rfl, _⟩ := g2
        cases b with
        | true =>
          rw [Bool.not_true, cond_false, Option.bind_some, ix1, Option.bind_some, ld_fzs, Option.bind_some, n2 h8, Option.bind_some, ix2, Option.bind_some, ld_fzn, Option.bind_some]
          simp only
          rw [if_pos (clN g2')]
          obtain ⟨r1, H1, r2, H2, a1, a2, a3, a4, a5, a6⟩ := two hA hB (by simp at hl2; omega) (by simp at hl2; omega) nm k2 v1 v2 v3 run2 st2 tg2
          rw [a1, Option.bind_some]
          simp only
          refine cex (Q := Q) (stl (a3 _ _ _ h8) (a3 _ _ _ h11) _ (by simp [hj, heldOf, Nh])) ?_
          rw [a2, Option.bind_some]
          simp only
          refine cex (Q := Q) (stl (a4 _ _ _ h8) (a4 _ _ _ h11) _ (by simp [hj, heldOf, Nh])) ?_
          rw [inc_nat (by omega)]
          exact ih (j + 1) (a4 _ _ _ h0) (a4 _ _ _ h8) (a4 _ _ _ h11) a5 a6 (hF.app (.cons g2'.strip .nil)) (by simp [hl1]) (by simp at hl2 ⊢; omega) (hri.snoc ltn) (mem_snoc up1 upn) (fun h => by cases h) (mem_snoc hin (.inr hnm)) (mem_snoc hgg hgn) (by omega) (by omega)
        | false =>
          rw [Bool.not_false, cond_true, Option.bind_some, ix1, Option.bind_some, ld_fzs, Option.bind_some]
          cases hc : (strLt ⟨tt.toArray⟩ ⟨nm.toArray⟩ || strEq ⟨tt.toArray⟩ ⟨nm.toArray⟩) with
          | true =>
            rw [cond_true, na h11, Option.bind_some]
            simp only
            rw [if_pos (clN hkid)]
            obtain ⟨r1, H1, r2, H2, a1, a2, a3, a4, a5, a6⟩ := two hA hB (by simp at hl2; omega) (by simp at hl2; omega) tt k u1 u2 u3 run st tg
            rw [a1, Option.bind_some]
            simp only
            refine cex (Q := Q) (stl (a3 _ _ _ h8) (a3 _ _ _ h11) _ (by simp [hj, heldOf, Nh])) ?_
            rw [a2, Option.bind_some]
            simp only
            refine cex (Q := Q) (stl (a4 _ _ _ h8) (a4 _ _ _ h11) _ (by simp [hj, heldOf, Nh])) ?_
            rw [n1 (a4 _ _ _ h8), Option.bind_some, ix1, Option.bind_some, ld_fzs, Option.bind_some]
            have hF2 : F2 (NC (d + 1)) (kk ++ [kid]) (fs ++ [cellsN k u1.strip u2.strip u3.strip run st tg]) := hF.app (.cons hkid.strip .nil)
            cases hc2 : strEq ⟨tt.toArray⟩ ⟨nm.toArray⟩ with
            | true =>
              rw [cond_true, inc_nat (by omega)]
              have he : tt = nm := by rw [strEq_iff] at hc2; exact of_decide_eq_true hc2
              exact ih (j + 1) (a4 _ _ _ h0) (a4 _ _ _ h8) (a4 _ _ _ h11) a5 a6 hF2 (by simp [hl1]) (by simp at hl2 ⊢; omega) (hri.snoc (hlt rfl)) (mem_snoc up1 (he ▸ upn)) (fun h => by cases h) (mem_snoc hin (.inl rfl)) (mem_snoc hgg hgd) (by omega) (by omega)
            | false =>
              rw [cond_false, Option.bind_some, ix1, Option.bind_some, ld_fzs, Option.bind_some, n2 (a4 _ _ _ h8), Option.bind_some, ix2, Option.bind_some, ld_fzn, Option.bind_some]
              simp only
              rw [if_pos (clN g2')]
              obtain ⟨r3, H3, r4, H4, b1, b2, b3, b4, b5, b6⟩ := two a5 a6 (by simp at hl2 ⊢; omega) (by simp at hl2 ⊢; omega) nm k2 v1 v2 v3 run2 st2 tg2
              rw [b1, Option.bind_some]
              simp only
              have c3 := a4.trans b3
              have c4 := a4.trans b4
              refine cex (Q := Q) (stl (c3 _ _ _ h8) (c3 _ _ _ h11) _ (by simp [hj, heldOf, Nh])) ?_
              rw [b2, Option.bind_some]
              simp only
              refine cex (Q := Q) (stl (c4 _ _ _ h8) (c4 _ _ _ h11) _ (by simp [hj, heldOf, Nh])) ?_
              rw [inc_nat (by omega)]
              have htn : tt < nm := by
                rw [less_of, hc2, Bool.or_false] at hc
                exact of_decide_eq_true hc
              exact ih (j + 1) (c4 _ _ _ h0) (c4 _ _ _ h8) (c4 _ _ _ h11) b5 b6 (hF2.app (.cons g2'.strip .nil)) (by simp [hl1]) (by simp at hl2 ⊢; omega) ((hri.snoc (hlt rfl)).snoc (mem_snoc ltn htn)) (mem_snoc (mem_snoc up1 (fun q y hq hy => List.lt_trans htn (upn q y hq hy))) upn) (fun h => by cases h) (mem_snoc (mem_snoc hin (.inl rfl)) (.inr hnm)) (mem_snoc (mem_snoc hgg hgd) hgn) (by omega) (by omega)
          | false =>
            rw [cond_false, Option.bind_some, ix1, Option.bind_some, ld_fzs, Option.bind_some, n2 h8, Option.bind_some, ix2, Option.bind_some, ld_fzn, Option.bind_some]
            simp only
            rw [if_pos (clN g2')]
            obtain ⟨r1, H1, r2, H2, a1, a2, a3, a4, a5, a6⟩ := two hA hB (by simp at hl2; omega) (by simp at hl2; omega) nm k2 v1 v2 v3 run2 st2 tg2
            rw [a1, Option.bind_some]
            simp only
            refine cex (Q := Q) (stl (a3 _ _ _ h8) (a3 _ _ _ h11) _ (by simp [hj, heldOf, Nh])) ?_
            rw [a2, Option.bind_some]
            simp only
            refine cex (Q := Q) (stl (a4 _ _ _ h8) (a4 _ _ _ h11) _ (by simp [hj, heldOf, Nh])) ?_
            rw [inc_nat (by omega)]
            have hnt : nm < tt := by
              rw [less_of, strEq_iff] at hc
              have h1 : ¬ tt < nm := fun h => by rw [decide_eq_true h] at hc; cases hc
              have h2 : ¬ tt = nm := fun h => by rw [decide_eq_true h, Bool.or_true] at hc; cases hc
              exact lt_of_not h1 h2
            exact ih (j + 1) (a4 _ _ _ h0) (a4 _ _ _ h8) (a4 _ _ _ h11) a5 a6 (hF.app (.cons g2'.strip .nil)) (by simp [hl1]) (by simp at hl2 ⊢; omega) (hri.snoc ltn) (mem_snoc up1 upn) (fun _ => mem_snoc (hlt rfl) hnt) (mem_snoc hin (.inr hnm)) (mem_snoc hgg hgn) (by omega) (by omega)
    · have hd : decide ((j : Int) < (names.length : Int)) = false := decide_eq_false (by omega)
      rw [hd, cond_false]
      cases b with
      | true =>
        rw [Bool.not_true, cond_false]
        exact hQ H s12 s13 ns fs kk h0 h8 hA hB hF hl1 (by simp at hl2; omega) hri hin hgg
      | false =>
        rw [Bool.not_false, cond_true, na h11, Option.bind_some]
        simp only
        rw [if_pos (clN hkid)]
        obtain ⟨r1, H1, r2, H2, a1, a2, a3, a4, a5, a6⟩ := two hA hB (by simp at hl2; omega) (by simp at hl2; omega) tt k u1 u2 u3 run st tg
        rw [a1, Option.bind_some]
        simp only
        refine cex (Q := Q) (stl (a3 _ _ _ h8) (a3 _ _ _ h11) _ (by simp [hj, heldOf, Nh])) ?_
        rw [a2, Option.bind_some]
        simp only
        refine cex (Q := Q) (stl (a4 _ _ _ h8) (a4 _ _ _ h11) _ (by simp [hj, heldOf, Nh])) ?_
        exact hQ H2 r1 r2 (ns ++ [tt]) _ (kk ++ [kid]) (a4 _ _ _ h0) (a4 _ _ _ h8) a5 a6 (hF.app (.cons hkid.strip .nil)) (by simp [hl1]) (by simp at hl2 ⊢; omega) (hri.snoc (hlt rfl)) (mem_snoc hin (.inl rfl)) (mem_snoc hgg hgd)
end Go.Proofs.Ytmpobijkbmljdaa
