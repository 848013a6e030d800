import Derived.Test.YtmpobijkbmljdaaB05t
set_option maxRecDepth 100000
set_option linter.unusedVariables false
set_option linter.unusedSimpArgs false
namespace Go.Proofs.Ytmpobijkbmljdaa
open Go.Proofs.Ytmpobijkbmljdaa.Sh Go.Proofs.Ytmpobijkbmljdaa.Sh.V Go.RowKit
theorem rdUp (H : VH) (a b c : Int) (s : VS) (run : Bool) (st : Nat) {β : Type} (f : Int → Option β) : ((atO (.fz [.int .u8 a, .int .u8 b, .int .u8 c, .sl 5 s, .bool run, .flt .f64 st]) 0).bind fun p2 => (ldV (.flat (.int .u8)) H p2).bind f) = f a := rfl
theorem rdNm (H : VH) (a b c : Int) (s : VS) (run : Bool) (st : Nat) {β : Type} (f : Int → Option β) : ((atO (.fz [.int .u8 a, .int .u8 b, .int .u8 c, .sl 5 s, .bool run, .flt .f64 st]) 2).bind fun p2 => (ldV (.flat (.int .u8)) H p2).bind f) = f c := rfl
theorem rem_ex (x : Int) {y : Int} (h : y ≠ 0) : ∃ z, remI x y = some z := by unfold remI; rw [if_neg h]; exact ⟨_, rfl⟩
abbrev AgT : Type := aggT [.int .u8, .slice 9, .slice 27, .slice 5, .bool, .flt .f64, .str]
def aggN (k : Nat) (u1 u2 u3 : VS) (run : Bool) (st : Nat) (tg : List UInt8) : AgT := ((k : Int), u1, u2, u3, run, st, ⟨tg.toArray⟩, ())
theorem l37o (n d : Nat) (hn : 200 ≤ n) {at_ : Int} {deep : Nat} (hdp : deep < 100) {s : VS} {es : List (List V)} (hs : IsE s es) (hm : ∀ y ∈ es, MV y) (hl : es.length ≤ 40)
    (rc : ∀ (i : Nat), i < es.length → ∀ H : VH, ∃ nd k u1 u2 u3 run st tg, V.callD (vF P tab n) P false (.one AGN) 37 [.sl 55 s, .int .i64 (i : Int), .int .i64 ((deep + 1 : Nat) : Int)] H = some (aggN k u1 u2 u3 run st tg, H) ∧ NC d nd (cellsN k u1 u2 u3 run st tg) ∧ Good d nd) {k8 : Nat} (hk8 : k8 ≠ 0) {cs0 : List V} (hcs : cs0.length = 7) :
    ∀ (m i : Nat) {H : VH} {s1 s2 : VS} {names : List (List UInt8)} {kids : List Nd} {fs : List (List V)}, H[0]? = some (.row NT cs0) → H[k8]? = some (.row NT (cellsN 1 s1 s2 .nil false 0 [])) → IsE s1 (ss names) → IsE s2 fs → F2 (NC d) kids fs → names.length = kids.length → RiseL names → (∀ x ∈ names, GoodT x) → (∀ y ∈ kids, Good d y) → names.length ≤ i → 1 ≤ i → i ≤ es.length → es.length < i + m →
      ∃ H' nd k u1 u2 u3 run st tg, L37_0 n m s at_ (deep : Int) 0 k8 (i : Int) H = some (.agg (cellsN k u1 u2 u3 run st tg), H') ∧ NC (d + 1) nd (cellsN k u1 u2 u3 run st tg) ∧ Good (d + 1) nd := by
  intro m
  induction m with
  | zero => intros; omega
  | succ m ih =>
    intro i H s1 s2 names kids fs h0 h8 hs1 hs2 hk hlen hri hgt hgk hln hi1 hi hmm
    rw [L37_0_eq, hs.len]
    by_cases c : i < es.length
    · have hd : decide ((i : Int) < (es.length : Int)) = true := decide_eq_true (by omega)
      obtain ⟨y, ey⟩ := get_of c
      obtain ⟨up, kind, name, sd, data, run0, st0, rfl, _, _, _, hnb⟩ := (hm y (List.mem_of_getElem? ey)).ex
      rw [hd, cond_true, hs.ix ey, Option.bind_some, rdUp]
      obtain ⟨z, hz⟩ := rem_ex (IntKind.wrap .i64 (up : Int)) (y := (i : Int)) (by omega)
      rw [hz, Option.bind_some]
      cases (z != at_) with
      | true =>
        rw [cond_true, inc_nat (by omega)]
        exact ih (i + 1) h0 h8 hs1 hs2 hk hlen hri hgt hgk (by omega) (by omega) (by omega) (by omega)
      | false =>
        rw [cond_false, Option.bind_some, rdNm]
        obtain ⟨n', rfl⟩ : ∃ n', n = n' + 1 := ⟨n - 1, by omega⟩
        obtain ⟨tt, ht, htg⟩ := c56 n' name hnb H
        rw [ht, Option.bind_some]
        simp only
        obtain ⟨nd, k, u1, u2, u3, run, st, tg, hr1, hr2, hr3⟩ := rc i c H
        rw [inc_nat (by omega), hr1, Option.bind_some]
        obtain ⟨H1, a1, a2, a3⟩ := bxD H k u1 u2 u3 run st tg
        show ∃ H' nd k5 u1' u2' u3' run' st' tg', ((stV (H ++ [.row (27 + boxK) [.int .u8 0, .sl 9 .nil, .sl 27 .nil, .sl 5 .nil, .bool false, .flt .f64 0, .str ⟨#[]⟩]]) (.ob H.length 0) [.int .u8 (k : Int), .sl 9 u1, .sl 27 u2, .sl 5 u3, .bool run, .flt .f64 st, .str ⟨tg.toArray⟩]).bind fun h10 => L37_1 (n' + 1) m (n' + 1) s at_ (deep : Int) 0 k8 (i : Int) ⟨tt.toArray⟩ H.length .nil .nil false 0 h10) = some (.agg (cellsN k5 u1' u2' u3' run' st' tg'), H') ∧ NC (d + 1) nd (cellsN k5 u1' u2' u3' run' st' tg') ∧ Good (d + 1) nd
        rw [a1, Option.bind_some, show (0 : Int) = ((0 : Nat) : Int) from rfl]
        refine l37i (n' + 1) m d (H := H1) (i0 := 0) (k8 := k8) (k11 := H.length) (i := (i : Int)) (tt := tt) (s1 := s1) (s2 := s2) (names := names) (kids := kids) (es := fs) hs1 hs2 hk hlen (by omega) hri hgk hr3 hr2 (cs0 := cs0) (Q := fun z : VRes => ∃ H' nd k5 u1' u2' u3' run' st' tg', z = some (.agg (cellsN k5 u1' u2' u3' run' st' tg'), H') ∧ NC (d + 1) nd (cellsN k5 u1' u2' u3' run' st' tg') ∧ Good (d + 1) nd) ?_ (n' + 1) 0 (ns := []) (fs := []) (kk := []) (a3.ob h0 (by simp)) (a3.ob h8 (by simp)) a2 .nil .nil .nil rfl (by simp) RiseL.nil (fun x hx => by cases hx) (fun _ x hx => by cases hx) (fun x hx => by cases hx) (fun x hx => by cases hx) (by omega) (by omega)
        intro H2 s12 s13 ns gs kk g0 g8 gA gB gF gl1 gl2 gr gin gg
        rw [st_row g8 (by simp [cellsN]) rfl, Option.bind_some]
        have g8' : (H2.set k8 (.row NT (putAllV (cellsN 1 s1 s2 .nil false 0 []) 1 [.sl 9 s12])))[k8]? = some (.row NT (cellsN 1 s12 s2 .nil false 0 [])) := by
          rw [List.getElem?_set_self (lt_of_ob g8)]; rfl
        rw [st_row g8' (by simp [cellsN]) rfl, Option.bind_some, inc_nat (by omega)]
        refine ih (i + 1) (s1 := s12) (s2 := s13) ?_ ?_ gA.isE gB.isE gF gl1 gr (fun x hx => (gin x hx).elim (fun h => h ▸ htg) (hgt x)) gg (by omega) (by omega) (by omega) (by omega)
        · rw [List.getElem?_set_ne hk8, List.getElem?_set_ne hk8]; exact g0
        · rw [List.getElem?_set_self (lt_of_ob g8')]; rfl
    · have hd : decide ((i : Int) < (es.length : Int)) = false := decide_eq_false (by omega)
      rw [hd, cond_false, na h8, Option.bind_some]
      simp only
      obtain ⟨H', hf⟩ := fin0 h0 hcs 1 s1 s2 .nil false 0 []
      refine ⟨H', .mk 1 names kids [] false 0 [], 1, s1, s2, .nil, false, 0, [], hf, ⟨s1, s2, .nil, fs, rfl, hs1, hs2, hk, .nil, by omega, by omega, by simp, by decide⟩, hri, hlen, hgt, hgk⟩
end Go.Proofs.Ytmpobijkbmljdaa
