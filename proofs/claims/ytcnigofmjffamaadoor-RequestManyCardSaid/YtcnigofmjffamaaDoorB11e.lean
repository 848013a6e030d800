import Derived.Test.YtcnigofmjffamaaDoorB11d
set_option maxRecDepth 100000
set_option linter.unusedVariables false
set_option linter.unusedSimpArgs false
namespace Go.Proofs.YtcnigofmjffamaaDoor
open Go.Proofs.YtcnigofmjffamaaDoor.Sh Go.Proofs.YtcnigofmjffamaaDoor.Sh.V Go.RowKit
/-! ### A request, decoded -/
structure PR where
  kind : Nat
  root : List UInt8
  path : List UInt8
  body : List UInt8
  refs : List (List UInt8)
  outs : List PO
def PR0 : PR := ⟨0, [], [], [], [], []⟩
def ReqV (cs : List V) (r : PR) : Prop := ∃ s3 s4 s5 es, cs = [.int .u8 (r.kind : Int), .str ⟨r.root.toArray⟩, .str ⟨r.path.toArray⟩, .sl 5 s3, .sl 9 s4, .sl 34 s5] ∧ IsB s3 r.body ∧ IsE s4 (ss r.refs) ∧ IsE s5 es ∧ OutsV es r.outs
def finP (r : PR) (s : RdS) : PR × Nat := if endS s.1 s.2 = 0 then (r, 0) else (PR0, 2)
def pathedP (k : Nat) : Bool := decide (2 ≤ k ∧ k ≤ 6 ∨ 8 ≤ k ∧ k ≤ 10)
def bodyP (a : Nat × RdS) : PR × Nat :=
  if a.1 = 1 then
    finP ⟨1, (TX a.2).1, [], (TX (TX a.2).2).1, (TS 16 (TX (TX a.2).2).2).1, []⟩ (TS 16 (TX (TX a.2).2).2).2
  else if pathedP a.1 = true then finP ⟨a.1, [], (TX a.2).1, [], [], []⟩ (TX a.2).2
  else if a.1 = 7 then
    match (outsS a.2).1 with
    | none => (PR0, 2)
    | some l => finP ⟨7, [], [], [], [], l⟩ (outsS a.2).2
  else if nameOf a.1 = [] then (PR0, 2)
  else finP ⟨a.1, [], [], [], [], []⟩ a.2
def decP (l : List UInt8) : PR × Nat := if 2048 < l.length then (PR0, 3) else bodyP (T1 (l, false))
abbrev QT : TypeId := 31 + boxK
abbrev Z6 : List V := [.int .u8 0, .str ⟨#[]⟩, .str ⟨#[]⟩, .sl 5 .nil, .sl 9 .nil, .sl 34 .nil]
abbrev AG6 : V.Ty1 := .agg [.int .u8, .str, .str, .slice 5, .slice 9, .slice 34]
theorem ReqV.zero : ReqV Z6 PR0 := ⟨.nil, .nil, .nil, [], rfl, .nil, .nil, .nil, .nil⟩
theorem ld_q {H : VH} {r : Nat} {k : Int} {a b : ByteArray} {s3 s4 s5 : VS} (h : H[r]? = some (.row QT [.int .u8 k, .str a, .str b, .sl 5 s3, .sl 9 s4, .sl 34 s5])) : ldV AG6 H (.ob r 0) = some (k, a, b, s3, s4, s5, ()) := by
  simp only [ldV, rowV_of h, Option.bind_some]
  have : takeN 0 [V.FT.int .u8, V.FT.str, V.FT.str, V.FT.slice 5, V.FT.slice 9, V.FT.slice 34].length [.int .u8 k, .str a, .str b, .sl 5 s3, .sl 9 s4, .sl 34 s5] = some [.int .u8 k, .str a, .str b, .sl 5 s3, .sl 9 s4, .sl 34 s5] := rfl
  rw [this, Option.bind_some]
  simp only [V.decs, fd_int, fd_str, fd_sl, Option.bind_some, Option.map_some]
/-- The answer through the result's own place. -/
theorem put14 {H : VH} {i : Nat} {cs0 : List V} (hl : cs0.length = 6) (hi : H[i]? = some (.row QT cs0)) (e : Int) (k : Int) (a b : ByteArray) (s3 s4 s5 : VS) :
    ∃ H', ((stV H (.ob i 0) [.int .u8 k, .str a, .str b, .sl 5 s3, .sl 9 s4, .sl 34 s5]).bind fun h45 =>
        (((ldV AG6 h45 (.ob i 0)).bind fun x46 =>
        some (V.tup [.agg [.int .u8 x46.1, .str x46.2.1, .str x46.2.2.1, .sl 5 x46.2.2.2.1, .sl 9 x46.2.2.2.2.1, .sl 34 x46.2.2.2.2.2.1], .int .i64 e], h45)))) = some (.tup [.agg [.int .u8 k, .str a, .str b, .sl 5 s3, .sl 9 s4, .sl 34 s5], .int .i64 e], H') := by
  rw [st_row hi (by simp [hl]) rfl, Option.bind_some]
  have h2 : (H.set i (.row QT (putAllV cs0 0 [.int .u8 k, .str a, .str b, .sl 5 s3, .sl 9 s4, .sl 34 s5])))[i]? = some (.row QT [.int .u8 k, .str a, .str b, .sl 5 s3, .sl 9 s4, .sl 34 s5]) := by
    rw [List.getElem?_set_self (lt_of_ob hi)]
    match cs0, hl with
    | [c1, c2, c3, c4, c5, c6], _ => rfl
  rw [ld_q h2, Option.bind_some]
  exact ⟨_, rfl⟩
noncomputable def tl14 (n k i j : Nat) (H : VH) : VRes :=
  (callD (vF P tab n) P false (.one (.flat (.int .i64))) 40 [.ptr (.ob k 0)] H).bind fun r44 =>
    (cond ((r44.1 : Int) != 0)
      ((stV r44.2 (.ob i 0) [.int .u8 0, .str ⟨#[]⟩, .str ⟨#[]⟩, .sl 5 .nil, .sl 9 .nil, .sl 34 .nil]).bind fun h45 =>
        (((ldV AG6 h45 (.ob i 0)).bind fun x46 =>
        some (.tup [.agg [.int .u8 x46.1, .str x46.2.1, .str x46.2.2.1, .sl 5 x46.2.2.2.1, .sl 9 x46.2.2.2.2.1, .sl 34 x46.2.2.2.2.2.1], .int .i64 2], h45))))
      ((ldV AG6 r44.2 (.ob j 0)).bind fun x47 =>
        ((stV r44.2 (.ob i 0) [.int .u8 x47.1, .str x47.2.1, .str x47.2.2.1, .sl 5 x47.2.2.2.1, .sl 9 x47.2.2.2.2.1, .sl 34 x47.2.2.2.2.2.1]).bind fun h48 =>
        (((ldV AG6 h48 (.ob i 0)).bind fun x49 =>
        some (.tup [.agg [.int .u8 x49.1, .str x49.2.1, .str x49.2.2.1, .sl 5 x49.2.2.2.1, .sl 9 x49.2.2.2.2.1, .sl 34 x49.2.2.2.2.2.1], .int .i64 0], h48))))))
theorem fin14 (n : Nat) {H : VH} {k i j : Nat} {s : RdS} {cs cs0 : List V} {r : PR} (hl : cs0.length = 6) (hi : H[i]? = some (.row QT cs0)) (hj : H[j]? = some (.row QT cs)) (hV : ReqV cs r) (hR : RP H k s) :
    ∃ cs' H', tl14 (n + 2) k i j H = some (.tup [.agg cs', .int .i64 ((finP r s).2 : Int)], H') ∧ ReqV cs' (finP r s).1 := by
  unfold tl14
  rw [p40 n hR, Option.bind_some]
  obtain ⟨s3, s4, s5, es, rfl, h3, h4, h5, h6⟩ := hV
  simp only
  unfold finP
  by_cases he : endS s.1 s.2 = 0
  · rw [if_pos he, he]
    rw [show (((0 : Nat) : Int) != 0) = false from rfl, cond_false, ld_q hj, Option.bind_some]
    obtain ⟨H', h⟩ := put14 hl hi 0 (r.kind : Int) ⟨r.root.toArray⟩ ⟨r.path.toArray⟩ s3 s4 s5
    exact ⟨_, H', h, s3, s4, s5, es, rfl, h3, h4, h5, h6⟩
  · rw [if_neg he]
    have : ((endS s.1 s.2 : Int) != 0) = true := by simp; omega
    rw [this, cond_true]
    obtain ⟨H', h⟩ := put14 hl hi 2 0 ⟨#[]⟩ ⟨#[]⟩ .nil .nil .nil
    exact ⟨_, H', h, ReqV.zero⟩
theorem p16 (n : Nat) {H : VH} {k : Nat} (hk : k < 256) : V.callD (vF P tab (n + 1)) P false (.one (.flat .str)) 16 [.int .u8 (k : Int)] H = some (⟨(nameOf k).toArray⟩, H) := by
  refine callD_str ?_
  refine vF_lone (r := .str ⟨(nameOf k).toArray⟩) (H1 := []) rfl rfl ?_ rfl
  show kindP [.int .u8 (Int.ofNat k)] [] = _
  unfold kindP
  simp only [if_pos hk]
theorem p38 (n : Nat) {H : VH} {k : Nat} (hk : k < 256) : V.callD (vF P tab (n + 1)) P false (.one (.flat .bool)) 38 [.int .u8 (k : Int)] H = some (pathedP k, H) := by
  refine callD_bool ?_
  refine vF_lone (r := .bool (pathedP k)) (H1 := []) rfl rfl ?_ rfl
  show bodyV P tab (vF P tab n) n 38 [.int .u8 (k : Int)] [] = _
  rw [f38_eq]
  unfold pathedP
  by_cases a : 2 ≤ k
  · rw [decide_eq_true (by omega), cond_true]
    by_cases b : k ≤ 6
    · rw [decide_eq_true (by omega), cond_true, decide_eq_true (by omega)]
    · rw [decide_eq_false (by omega), cond_false]
      by_cases c : 8 ≤ k
      · rw [decide_eq_true (by omega), cond_true]
        have : decide ((k : Int) ≤ 10) = decide (2 ≤ k ∧ k ≤ 6 ∨ 8 ≤ k ∧ k ≤ 10) := decide_eq_decide.2 (by omega)
        rw [this]
      · rw [decide_eq_false (by omega), cond_false, decide_eq_false (by omega)]
  · rw [decide_eq_false (by omega), cond_false, decide_eq_false (by omega), cond_false, decide_eq_false (by omega)]

theorem strEq_nil (l : List UInt8) : strEq ⟨l.toArray⟩ ⟨#[]⟩ = decide (l = []) := by
  exact strEq_iff l []
theorem stQ {H : VH} {j : Nat} {cs : List V} (h : H[j]? = some (.row QT cs)) (off : Nat) (v : V) (hl : off + 1 ≤ cs.length) (h1 : onesV [v] = true) : ∃ H', stV H (.ob j off) [v] = some H' ∧ H'[j]? = some (.row QT (putAllV cs off [v])) ∧ Kp H H' [j] :=
  ⟨_, st_row h hl h1, by rw [List.getElem?_set_self (lt_of_ob h)], Kp.set _ _ _⟩
theorem ifp {α : Type} {c : Prop} [Decidable c] {a b : α} (h : c) : (if c then a else b) = a := if_pos h
/-- Decode: the run from the empty heap. -/
theorem b14 (n : Nat) (hn : 500 ≤ n) {s : VS} {l : List UInt8} (hs : IsB s l) (hl : l.length < 1000000) :
    ∃ cs H', bodyV P tab (vF P tab (n + 14)) (n + 14) 14 [.sl 5 s] [] = some (.tup [.agg cs, .int .i64 ((decP l).2 : Int)], H') ∧ ReqV cs (decP l).1 := by
  rw [f14_eq]
  have hlen : s.len = l.length := by rw [hs.len]; simp
  rw [hlen]
  unfold decP
  simp only [List.nil_append, List.length_nil]
  have hi0 : ([VO.row QT Z6] : VH)[0]? = some (.row QT Z6) := rfl
  by_cases hb : 2048 < l.length
  · rw [if_pos hb, decide_eq_true (by omega), cond_true]
    obtain ⟨H', h⟩ := put14 (cs0 := Z6) rfl hi0 3 0 ⟨#[]⟩ ⟨#[]⟩ .nil .nil .nil
    exact ⟨_, H', h, ReqV.zero⟩
  · rw [if_neg hb, decide_eq_false (by omega), cond_false]
    obtain ⟨k, H1, a1, a2, a3, a4⟩ := e33 (n + 12) (H := [VO.row QT Z6]) hs (by omega)
    rw [callD_ptr a1, Option.bind_some]
    simp only
    have hi1 : H1[0]? = some (.row QT Z6) := a4.ob hi0 (by simp)
    have hk0 : 0 ≠ k := by have : ([VO.row QT Z6] : VH).length = 1 := rfl; omega
    obtain ⟨H2, b1, b2, b3, b4⟩ := p34 (n + 10) (s := (l, false)) a2 (by omega)
    rw [b1, Option.bind_some]
    simp only
    have hi2 : H2[0]? = some (.row QT Z6) := b3.ob hi1 (by simpa using hk0)
    obtain ⟨a, ha⟩ : ∃ a : Nat × RdS, a = T1 (l, false) := ⟨_, rfl⟩
    have hlt : a.1 < 256 := by rw [ha]; exact T1_lt _
    rw [← ha] at b2 ⊢
    have hQ0 : (H2 ++ [VO.row QT Z6])[H2.length]? = some (.row QT Z6) := by simp
    have hk2 : k < H2.length := by obtain ⟨_, h, _⟩ := b2; exact lt_of_ob h
    rw [st_row hQ0 (by simp) rfl, Option.bind_some]
    obtain ⟨H3, hH3⟩ : ∃ H3 : VH, H3 = List.set (H2 ++ [VO.row QT Z6]) H2.length (.row QT (putAllV Z6 0 [.int .u8 (a.1 : Int), .str ⟨#[]⟩, .str ⟨#[]⟩, .sl 5 .nil, .sl 9 .nil, .sl 34 .nil])) := ⟨_, rfl⟩
    rw [← hH3]
    obtain ⟨j, hj⟩ : ∃ j, j = H2.length := ⟨_, rfl⟩
    rw [← hj]
    have k3 : Kp H2 H3 [] := by
      rw [hH3]
      exact ⟨by simp, fun i hi _ => by rw [List.getElem?_set_ne (by omega), List.getElem?_append_left hi]⟩
    have hQ3 : H3[j]? = some (.row QT [.int .u8 (a.1 : Int), .str ⟨#[]⟩, .str ⟨#[]⟩, .sl 5 .nil, .sl 9 .nil, .sl 34 .nil]) := by
      rw [hH3, hj, List.getElem?_set_self (by simp)]; rfl
    have hR3 := b2.keep k3 (by simp)
    have hi3 : H3[0]? = some (.row QT Z6) := k3.ob hi2 (by simp)
    have hjk : j ≠ k := by omega
    have hj0 : j ≠ 0 := by have := lt_of_ob hi2; omega
    have ldk : ldV (.flat (.int .u8)) H3 (.ob j 0) = some (a.1 : Int) := by rw [ld_row hQ3]; rfl
    rw [ldk, Option.bind_some]
    unfold bodyP
    have n0 : 0 ∉ [j] := by simp; omega
    have n1 : k ∉ [j] := by simp; omega
    have n2 : j ∉ [k] := by simp; omega
    have n3 : 0 ∉ [k] := by simp; omega
    by_cases h1 : a.1 = 1
    · rw [if_pos h1]
      have hq : ((a.1 : Int) == 1) = true := by rw [h1]; rfl
      rw [hq, cond_true]
      obtain ⟨H4, c1, c2, c3, _⟩ := p35 (n + 9) hR3 (by omega)
      rw [c1, Option.bind_some]
      simp only
      obtain ⟨s3, H5, d1, d2, d3, d4, _⟩ := p36 (n + 8) c2 (by omega)
      rw [d1, Option.bind_some]
      simp only
      obtain ⟨s4, H6, e1, e2, e3, e4⟩ := p37 (n + 8) d3 (by omega) 16
      rw [show ((16 : Nat) : Int) = 16 from rfl] at e1
      rw [e1, Option.bind_some]
      simp only
      have k6 : Kp H3 H6 [k] := (c3.trans d4 (fun x hx _ => hx) (fun x hx _ => hx)).trans e4 (fun x hx _ => hx) (fun x hx _ => hx)
      obtain ⟨H7, f1, f2, f3⟩ := stQ (k6.ob hQ3 n2) 1 (.str ⟨(TX a.2).1.toArray⟩) (by simp) rfl
      rw [f1, Option.bind_some]
      obtain ⟨H8, g1, g2, g3⟩ := stQ f2 3 (.sl 5 s3) (Nat.le_of_ble_eq_true rfl) rfl
      rw [g1, Option.bind_some]
      obtain ⟨H9, i1, i2, i3⟩ := stQ g2 4 (.sl 9 s4) (Nat.le_of_ble_eq_true rfl) rfl
      rw [i1, Option.bind_some]
      refine fin14 (n + 12) (cs0 := Z6) (r := ⟨1, (TX a.2).1, [], (TX (TX a.2).2).1, (TS 16 (TX (TX a.2).2).2).1, []⟩) rfl (i3.ob (g3.ob (f3.ob (k6.ob hi3 n3) n0) n0) n0) i2 ⟨s3, s4, .nil, [], ?_, d2, e2, .nil, .nil⟩ (((e3.keep f3 n1).keep g3 n1).keep i3 n1)
      show _ = _
      rw [h1]; rfl
    · rw [if_neg h1]
      have hq : ((a.1 : Int) == 1) = false := by simp; omega
      rw [hq, cond_false, Option.bind_some, p38 (n + 13) hlt, Option.bind_some]
      simp only
      cases hp : pathedP a.1 with
      | true =>
        rw [if_pos rfl, cond_true]
        obtain ⟨H4, c1, c2, c3, _⟩ := p35 (n + 9) hR3 (by omega)
        rw [c1, Option.bind_some]
        simp only
        obtain ⟨H7, f1, f2, f3⟩ := stQ (c3.ob hQ3 n2) 2 (.str ⟨(TX a.2).1.toArray⟩) (by simp) rfl
        rw [f1, Option.bind_some]
        exact fin14 (n + 12) (cs0 := Z6) (r := ⟨a.1, [], (TX a.2).1, [], [], []⟩) rfl (f3.ob (c3.ob hi3 n3) n0) f2 ⟨.nil, .nil, .nil, [], rfl, .nil, .nil, .nil, .nil⟩ (c2.keep f3 n1)
      | false =>
        rw [if_neg (by simp), cond_false, ldk, Option.bind_some]
        by_cases h7 : a.1 = 7
        · rw [if_pos h7]
          have hq : ((a.1 : Int) == 7) = true := by rw [h7]; rfl
          rw [hq, cond_true]
          obtain ⟨s5, H4, c1, c2, c3, c4⟩ := e39 (n + 2) (by omega) hR3
          rw [c1, Option.bind_some]
          simp only
          obtain ⟨H7, f1, f2, f3⟩ := stQ (c4.ob hQ3 n2) 5 (.sl 34 s5) (by simp) rfl
          rw [f1, Option.bind_some]
          cases ho : (outsS a.2).1 with
          | none =>
            simp only [Option.isSome_none, Bool.not_false, cond_true]
            obtain ⟨H', h⟩ := put14 (cs0 := Z6) rfl (f3.ob (c4.ob hi3 n3) n0) 2 0 ⟨#[]⟩ ⟨#[]⟩ .nil .nil .nil
            exact ⟨_, H', h, ReqV.zero⟩
          | some lo =>
            simp only [Option.isSome_some, Bool.not_true, cond_false]
            obtain ⟨es, g1, g2⟩ := c2 lo ho
            refine fin14 (n + 12) (cs0 := Z6) (r := ⟨7, [], [], [], [], lo⟩) rfl (f3.ob (c4.ob hi3 n3) n0) f2 ⟨.nil, .nil, s5, es, ?_, .nil, .nil, g1, g2⟩ (c3.keep f3 n1)
            rw [h7]; rfl
        · rw [if_neg h7]
          have hq : ((a.1 : Int) == 7) = false := by simp; omega
          rw [hq, cond_false, Option.bind_some, p16 (n + 13) hlt, Option.bind_some]
          simp only
          rw [strEq_nil, Bool.not_not]
          by_cases hm : nameOf a.1 = []
          · rw [if_pos hm, decide_eq_true hm, cond_true]
            obtain ⟨H', h⟩ := put14 (cs0 := Z6) rfl hi3 2 0 ⟨#[]⟩ ⟨#[]⟩ .nil .nil .nil
            exact ⟨_, H', h, ReqV.zero⟩
          · rw [if_neg hm, decide_eq_false hm, cond_false]
            exact fin14 (n + 12) (cs0 := Z6) (r := ⟨a.1, [], [], [], [], []⟩) rfl hi3 hQ3 ⟨.nil, .nil, .nil, [], rfl, .nil, .nil, .nil, .nil⟩ hR3
end Go.Proofs.YtcnigofmjffamaaDoor
