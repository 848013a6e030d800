import Derived.Test.YtcnigofmjffamaaDoorB11w
import Derived.Test.YtcnigofmjffamaaDoorB11r
set_option maxRecDepth 100000
set_option linter.unusedVariables false
set_option linter.unusedSimpArgs false
namespace Go.Proofs.YtcnigofmjffamaaDoor
open Go.Proofs.YtcnigofmjffamaaDoor.Sh Go.Proofs.YtcnigofmjffamaaDoor.Sh.V Go.RowKit
/-! ### What a reader tells, with what is left behind it -/
abbrev RdS := List UInt8 × Bool
def T1 (s : RdS) : Nat × RdS := (numA 0 (takeS 1 s.1 s.2).1, (takeS 1 s.1 s.2).2)
def TX (s : RdS) : List UInt8 × RdS := ((textS s.1 s.2).1, (textS s.1 s.2).2)
def TS (m : Nat) (s : RdS) : List (List UInt8) × RdS := ((textsS m s.1 s.2).1, (textsS m s.1 s.2).2)
abbrev RP (H : VH) (k : Nat) (s : RdS) : Prop := RS RT H k s.1 s.2
theorem T1_lt (s : RdS) : (T1 s).1 < 256 := numA1 (takeS_len 1 s.1 s.2)
theorem p34 (n : Nat) {H : VH} {k : Nat} {s : RdS} (h : RP H k s) (hn : 300 ≤ n) : ∃ H', V.callD (vF P tab (n + 4)) P false (.one (.flat (.int .u8))) 34 [.ptr (.ob k 0)] H = some (((T1 s).1 : Int), H') ∧ RP H' k (T1 s).2 ∧ Kp H H' [k] ∧ H'.length = H.length := by
  obtain ⟨H', h1, h2⟩ := e34 n h hn
  exact ⟨H', callD_int h1, h2⟩
theorem p35 (n : Nat) {H : VH} {k : Nat} {s : RdS} (h : RP H k s) (hn : 300 ≤ n) : ∃ H', V.callD (vF P tab (n + 5)) P false (.one (.flat .str)) 35 [.ptr (.ob k 0)] H = some (⟨(TX s).1.toArray⟩, H') ∧ RP H' k (TX s).2 ∧ Kp H H' [k] ∧ H'.length = H.length := by
  obtain ⟨H', h1, h2⟩ := e35 n h hn
  exact ⟨H', callD_str h1, h2⟩
theorem p36 (n : Nat) {H : VH} {k : Nat} {s : RdS} (h : RP H k s) (hn : 300 ≤ n) : ∃ s' H', V.callD (vF P tab (n + 6)) P false (.one (.flat (.slice 5))) 36 [.ptr (.ob k 0)] H = some (s', H') ∧ IsB s' (TX s).1 ∧ RP H' k (TX s).2 ∧ Kp H H' [k] ∧ H'.length = H.length := by
  obtain ⟨H', h1, h2⟩ := p35 n h hn
  refine ⟨.fz (bytesE ⟨(TX s).1.toArray⟩) .no, H', callD_sl ?_, .fz _ _, h2⟩
  rw [vF_body rfl, f36_eq, h1, Option.bind_some]
theorem p37 (n : Nat) {H : VH} {k : Nat} {s : RdS} (h : RP H k s) (hn : 300 ≤ n) (most : Nat) : ∃ s' H', V.callD (vF P tab (n + 6)) P false (.one (.flat (.slice 9))) 37 [.ptr (.ob k 0), .int .i64 (most : Int)] H = some (s', H') ∧ IsE s' (ss (TS most s).1) ∧ RP H' k (TS most s).2 ∧ Kp H H' [k] := by
  obtain ⟨s', H', h1, h2⟩ := e37 n h hn most
  exact ⟨s', H', callD_sl h1, h2⟩
theorem p40 (n : Nat) {H : VH} {k : Nat} {s : RdS} (h : RP H k s) : V.callD (vF P tab (n + 2)) P false (.one (.flat (.int .i64))) 40 [.ptr (.ob k 0)] H = some ((endS s.1 s.2 : Int), H) := callD_int (e40 n h)
/-! ### An output -/
structure PO where
  name : List UInt8
  arc : List UInt8
  refs : List (List UInt8)
  needs : List Nat
def ns (l : List Nat) : List (List V) := l.map fun (x : Nat) => [.int .i64 (x : Int)]
@[simp] theorem ns_len (l : List Nat) : (ns l).length = l.length := by simp [ns]
def OutV (cs : List V) (o : PO) : Prop := ∃ s1 s2 s3, cs = [.str ⟨o.name.toArray⟩, .sl 5 s1, .sl 9 s2, .sl 3 s3] ∧ IsB s1 o.arc ∧ IsE s2 (ss o.refs) ∧ IsE s3 (ns o.needs)
def needsS : Nat → RdS → List Nat → List Nat × RdS
  | 0, s, acc => (acc, s)
  | n + 1, s, acc => needsS n (T1 s).2 (acc ++ [(T1 s).1])
def outS (i : Nat) (s : RdS) : PO × Bool × RdS :=
  let a := TX s
  let b := TX a.2
  let c := TS 16 b.2
  let d := T1 c.2
  if 4 ≤ d.1 then (⟨a.1, b.1, c.1, []⟩, false, d.2) else
    let e := needsS d.1 d.2 []
    (⟨a.1, b.1, c.1, e.1⟩, e.1.all (fun x => decide (x < i)), e.2)
theorem rdN {s : VS} {l : List Nat} (h : IsE s (ns l)) {i : Nat} {a : Nat} (ha : l[i]? = some a) (H : VH) {β : Type} (f : Int → Option β) : ((ixV 1 s (i : Int)).bind fun p => (ldV (.flat (.int .i64)) H p).bind f) = f (a : Int) := by
  rw [h.ix (y := [.int .i64 (a : Int)]) (by simp [ns, ha]) 1, Option.bind_some]; rfl
/-- slices.ContainsFunc: is one not below i? -/
theorem l104 (n : Nat) {H : VH} {p i : Nat} (hp : H[p]? = some (.row (3 + boxK) [.int .i64 (i : Int)])) {s : VS} {l : List Nat} (hs : IsE s (ns l)) (hl : l.length < 1000) : ∀ (m j : Nat), j ≤ l.length → l.length < j + m →
    ∃ r : Int, L104_0 (n + 1) m s (.ob p 0) (l.length : Int) (j : Int) H = some (.int .i64 r, H) ∧ (decide (r ≥ 0) = (l.drop j).any (fun x => decide (i ≤ x))) := by
  intro m
  induction m with
  | zero => intro j h1 h2; omega
  | succ m ih =>
    intro j h1 h2
    rw [L104_0_eq]
    by_cases hj : j < l.length
    · obtain ⟨x, hx⟩ : ∃ x, l[j]? = some x := ⟨_, List.getElem?_eq_getElem hj⟩
      have hc : V.callD (vF P tab (n + 1)) P false (.one (.flat .bool)) 94 [.int .i64 (x : Int), .ptr (.ob p 0)] H = some (decide ((x : Int) ≥ (i : Int)), H) := by
        refine callD_bool ?_
        rw [vF_body rfl, f94_eq, ld_row hp]; rfl
      rw [decide_eq_true (by omega), cond_true, rdN hs hx, hc, Option.bind_some, inc_nat (by omega)]
      obtain ⟨hlt, he⟩ := List.getElem?_eq_some_iff.1 hx
      have hd : l.drop j = x :: l.drop (j + 1) := by rw [List.drop_eq_getElem_cons hlt, he]
      by_cases hle : i ≤ x
      · have : decide ((x : Int) ≥ (i : Int)) = true := decide_eq_true (by omega)
        simp only [this, cond_true]
        refine ⟨_, rfl, ?_⟩
        rw [hd, List.any_cons, decide_eq_true hle, decide_eq_true (by omega)]; rfl
      · have : decide ((x : Int) ≥ (i : Int)) = false := decide_eq_false (by omega)
        simp only [this, cond_false]
        obtain ⟨r, g1, g2⟩ := ih (j + 1) (by omega) (by omega)
        refine ⟨r, g1, ?_⟩
        rw [hd, List.any_cons, decide_eq_false hle, Bool.false_or, g2]
    · rw [decide_eq_false (by omega), cond_false]
      refine ⟨-1, rfl, ?_⟩
      rw [List.drop_eq_nil_of_le (by omega)]; rfl
theorem p93 (n : Nat) (hn : 300 ≤ n) {H : VH} {p i : Nat} (hp : H[p]? = some (.row (3 + boxK) [.int .i64 (i : Int)])) {s : VS} {l : List Nat} (hs : IsE s (ns l)) (hl : l.length < 300) :
    V.callD (vF P tab (n + 3)) P false (.one (.flat .bool)) 93 [.sl 3 s, .func (.func 94) [] [.ptr (.ob p 0)]] H = some (l.any (fun x => decide (i ≤ x)), H) := by
  refine callD_bool ?_
  obtain ⟨r, h1, h2⟩ := l104 n hp hs (by omega) (n + 1) 0 (Nat.zero_le _) (by omega)
  have hc : V.callD (vF P tab (n + 2)) P false (.one (.flat (.int .i64))) 104 [.sl 3 s, .func (.func 94) [] [.ptr (.ob p 0)]] H = some (r, H) := by
    refine callD_int ?_
    rw [vF_body rfl, f104_eq, hs.len, ns_len]
    exact h1
  rw [vF_body rfl, f93_eq, hc, Option.bind_some]
  simp only
  rw [h2, List.drop_zero]
theorem needsS_len : ∀ (n : Nat) (s : RdS) (acc : List Nat), (needsS n s acc).1.length = acc.length + n
  | 0, s, acc => rfl
  | n + 1, s, acc => by
    show (needsS n (T1 s).2 (acc ++ [(T1 s).1])).1.length = _
    rw [needsS_len n]; simp; omega
theorem stays_step {H : VH} {p : VP} {τ : V.FT} {x : τ.T} (h : ldV (.flat τ) H p = some x) (r : Held) : V.stays H ((p, τ, V.fenc τ x) :: r) = V.stays H r := by
  rw [V.stays_cons, h]
  simp only [V.same_self, Bool.true_and]
theorem stays_c_str {H : VH} {p : VP} {x : ByteArray} (h : ldV (.flat .str) H p = some x) (r : Held) : V.stays H ((p, .str, .str x) :: r) = V.stays H r := stays_step (τ := .str) h r
theorem stays_c_sl {H : VH} {p : VP} {e : TypeId} {x : VS} (h : ldV (.flat (.slice e)) H p = some x) (r : Held) : V.stays H ((p, .slice e, .sl e x) :: r) = V.stays H r := stays_step (τ := .slice e) h r
theorem stays_c_int {H : VH} {p : VP} {k : IntKind} {x : Int} (h : ldV (.flat (.int k)) H p = some x) (r : Held) : V.stays H ((p, .int k, .int k x) :: r) = V.stays H r := stays_step (τ := .int k) h r
abbrev OT : TypeId := 34 + boxK
/-- An output's cells, in an object. -/
theorem ld_o0 {H : VH} {r : Nat} {a : ByteArray} {s1 s2 s3 : VS} (h : H[r]? = some (.row OT [.str a, .sl 5 s1, .sl 9 s2, .sl 3 s3])) : ldV (.flat .str) H (.ob r 0) = some a := by rw [ld_row h]; rfl
theorem ld_o1 {H : VH} {r : Nat} {a : ByteArray} {s1 s2 s3 : VS} (h : H[r]? = some (.row OT [.str a, .sl 5 s1, .sl 9 s2, .sl 3 s3])) : ldV (.flat (.slice 5)) H (.ob r 1) = some s1 := by rw [ld_row h]; exact fd_sl 5 s1
theorem ld_o2 {H : VH} {r : Nat} {a : ByteArray} {s1 s2 s3 : VS} (h : H[r]? = some (.row OT [.str a, .sl 5 s1, .sl 9 s2, .sl 3 s3])) : ldV (.flat (.slice 9)) H (.ob r 2) = some s2 := by rw [ld_row h]; exact fd_sl 9 s2
theorem ld_o3 {H : VH} {r : Nat} {a : ByteArray} {s1 s2 s3 : VS} (h : H[r]? = some (.row OT [.str a, .sl 5 s1, .sl 9 s2, .sl 3 s3])) : ldV (.flat (.slice 3)) H (.ob r 3) = some s3 := by rw [ld_row h]; exact fd_sl 3 s3
theorem ld_o {H : VH} {r : Nat} {a : ByteArray} {s1 s2 s3 : VS} (h : H[r]? = some (.row OT [.str a, .sl 5 s1, .sl 9 s2, .sl 3 s3])) : ldV (.agg [.str, .slice 5, .slice 9, .slice 3]) H (.ob r 0) = some (a, s1, s2, s3, ()) := by
  simp only [ldV, rowV_of h, Option.bind_some]
  have : takeN 0 [V.FT.str, V.FT.slice 5, V.FT.slice 9, V.FT.slice 3].length [.str a, .sl 5 s1, .sl 9 s2, .sl 3 s3] = some [.str a, .sl 5 s1, .sl 9 s2, .sl 3 s3] := rfl
  rw [this, Option.bind_some]
  simp only [V.decs, fd_str, fd_sl, Option.bind_some, Option.map_some]
theorem l78 (n : Nat) (hn : 300 ≤ n) {H0 : VH} {k p q r i : Nat} {nm : List UInt8} {s1 s2 : VS} {arc : List UInt8} {refs : List (List UInt8)} (h1 : IsB s1 arc) (h2 : IsE s2 (ss refs)) (c : Nat) (hc : c < 300)
    (hk : k < H0.length) (hp : p < H0.length) (hq : q < H0.length) (hr : r < H0.length) (d1 : k ≠ p ∧ k ≠ q ∧ k ≠ r ∧ p ≠ q ∧ p ≠ r ∧ q ≠ r) {z : List V} (hz : z.length = 4) :
    ∀ (m j : Nat) {H : VH} {s : RdS} {s5 : VS} {acc : List Nat}, RP H k s → H[p]? = some (.row (3 + boxK) [.int .i64 (i : Int)]) → H[q]? = some (.row OT z) → H[r]? = some (.row OT [.str ⟨nm.toArray⟩, .sl 5 s1, .sl 9 s2, .sl 3 s5]) →
      Ap H 3 s5 (ns acc) → (∀ t ∈ toks s5, H0.length ≤ t) → Kp H0 H [k, q, r] → acc.length = j → j ≤ c → c < j + m →
      ∃ cs H', L78_0 (n + 10) m (.ob k 0) p q r (c : Int) (j : Int) H = some (.tup [.agg cs, .bool ((needsS (c - j) s acc).1.all (fun x => decide (x < i)))], H') ∧ OutV cs ⟨nm, arc, refs, (needsS (c - j) s acc).1⟩ ∧ RP H' k (needsS (c - j) s acc).2 ∧ Kp H0 H' [k, q, r] := by
  intro m
  induction m with
  | zero => intro j H s s5 acc _ _ _ _ _ _ _ _ a b; omega
  | succ m ih =>
    intro j H s s5 acc hR hP hQ hO hA hT hK ha hj1 hj2
    obtain ⟨dkp, dkq, dkr, dpq, dpr, dqr⟩ := d1
    rw [L78_0_eq]
    by_cases hj : j < c
    · rw [decide_eq_true (by omega), cond_true, ld_o3 hO, Option.bind_some]
      obtain ⟨H1, g1, g2, g3, g4⟩ := p34 (n + 6) hR (by omega)
      rw [g1, Option.bind_some]
      have hO1 := g3.ob hO (by simp [Ne.symm dkr])
      have hP1 := g3.ob hP (by simp [Ne.symm dkp])
      have hQ1 := g3.ob hQ (by simp [Ne.symm dkq])
      have tk : ∀ t ∈ toks s5, t ≠ k ∧ t ≠ p ∧ t ≠ q ∧ t ≠ r := fun t ht => by have := hT t ht; omega
      have hA1 := hA.keep g3 (fun t ht => by simp [(tk t ht).1])
      have hst : V.stays H1 [(.ob r 3, .slice 3, .sl 3 s5)] = true := by rw [stays_c_sl (ld_o3 hO1)]; rfl
      simp only
      rw [hst, cond_true, cond_true]
      have hlt := T1_lt s
      have hw : IntKind.wrap .i64 (((T1 s).1 : Nat) : Int) = ((T1 s).1 : Int) := i64_nat (by omega)
      rw [hw]
      obtain ⟨s', H2, f1, f2, f3, f4, _⟩ := hA1.app (sz := 1) (by_ := 8) (x := .fz [[.int .i64 ((T1 s).1 : Int)]] (.ex 1)) (news := [[.int .i64 ((T1 s).1 : Int)]]) (.fz _ _) (by simp [bound]; omega) (by simp [bound]; omega)
      rw [f1, Option.bind_some]
      have hO2 := f3.ob hO1 (fun h => (tk r h).2.2.2 rfl)
      have hP2 := f3.ob hP1 (fun h => (tk p h).2.1 rfl)
      have hQ2 := f3.ob hQ1 (fun h => (tk q h).2.2.1 rfl)
      have hR2 : RP H2 k (T1 s).2 := g2.keep f3 (fun h => (tk k h).1 rfl)
      simp only
      rw [st_row hO2 (by simp) rfl, Option.bind_some, inc_nat (by omega)]
      have h2l := lt_of_ob hO2
      have hle : H0.length ≤ H1.length := by have := hK.len; omega
      have tk2 : ∀ t ∈ toks s', H0.length ≤ t := fun t ht => by
        rcases f4 t ht with h | h
        · exact hT t h
        · omega
      have kset := Kp.set H2 r (.row OT (putAllV [.str ⟨nm.toArray⟩, .sl 5 s1, .sl 9 s2, .sl 3 s5] 3 [.sl 3 s']))
      have hn1 : ns acc ++ [[.int .i64 ((T1 s).1 : Int)]] = ns (acc ++ [(T1 s).1]) := by simp [ns]
      rw [hn1] at f2
      have e1 : c - j = (c - (j + 1)) + 1 := by omega
      rw [e1]
      have kp1 : Kp H0 H1 [k, q, r] := hK.trans g3 (fun x hx _ => hx) (fun y hy _ => by simp at hy; simp [hy])
      have kp2 : Kp H0 H2 [k, q, r] := kp1.trans f3 (fun x hx _ => hx) (fun y hy hl => by have := hT y hy; omega)
      have kp3 := kp2.trans kset (Z := [k, q, r]) (fun x hx _ => hx) (fun y hy _ => by simp at hy; simp [hy])
      exact ih (j + 1) (hR2.keep kset (by simp [dkr])) (kset.ob hP2 (by simp [dpr])) (kset.ob hQ2 (by simp [dqr])) (by rw [List.getElem?_set_self h2l]; rfl) (f2.keep kset (fun t ht => by have := tk2 t ht; simp; omega)) tk2 kp3 (by simp [ha]) (by omega) (by omega)
    · have hjc : j = c := by omega
      subst hjc
      rw [decide_eq_false (by omega), cond_false, Nat.sub_self]
      have e0 : needsS 0 s acc = (acc, s) := rfl
      rw [e0]
      rw [ld_o hO, Option.bind_some, ld_o3 hO, Option.bind_some, p93 (n + 7) (by omega) hP hA.isE (by omega), Option.bind_some]
      simp only
      rw [stays_c_str (ld_o0 hO), stays_c_sl (ld_o1 hO), stays_c_sl (ld_o2 hO), stays_c_sl (ld_o3 hO), V.stays_nil, cond_true]
      rw [st_row hQ (by simp [hz]) rfl, Option.bind_some]
      have hql := lt_of_ob hQ
      have kset := Kp.set H q (.row OT (putAllV z 0 [.str ⟨nm.toArray⟩, .sl 5 s1, .sl 9 s2, .sl 3 s5]))
      have hO3 := kset.ob hO (by simp [Ne.symm dqr])
      rw [stays_c_sl (ld_o3 hO3), V.stays_nil, cond_true]
      have hz2 : putAllV z 0 [.str ⟨nm.toArray⟩, .sl 5 s1, .sl 9 s2, .sl 3 s5] = [.str ⟨nm.toArray⟩, .sl 5 s1, .sl 9 s2, .sl 3 s5] := by
        match z, hz with
        | [a, b, c, d], _ => rfl
      have hQ3 : (List.set H q (.row OT (putAllV z 0 [.str ⟨nm.toArray⟩, .sl 5 s1, .sl 9 s2, .sl 3 s5])))[q]? = some (.row OT [.str ⟨nm.toArray⟩, .sl 5 s1, .sl 9 s2, .sl 3 s5]) := by rw [List.getElem?_set_self hql, hz2]
      rw [ld_o hQ3, Option.bind_some]
      have hb : (!acc.any (fun x => decide (i ≤ x))) = acc.all (fun x => decide (x < i)) := by
        rw [List.not_any_eq_all_not]
        congr 1
        funext x
        by_cases h : i ≤ x
        · rw [decide_eq_true h, decide_eq_false (by omega)]; rfl
        · rw [decide_eq_false h, decide_eq_true (by omega)]; rfl
      simp only
      rw [hb]
      exact ⟨_, _, rfl, ⟨s1, s2, s5, rfl, h1, h2, hA.isE⟩, hR.keep kset (by simp [dkq]), hK.trans kset (fun x hx _ => hx) (fun y hy _ => by simp at hy; simp [hy])⟩
theorem e78 (n : Nat) (hn : 400 ≤ n) {H : VH} {k : Nat} {s : RdS} (hR : RP H k s) (i : Nat) :
    ∃ cs H', vF P tab (n + 11) 78 [.ptr (.ob k 0), .int .i64 (i : Int)] H = some (.tup [.agg cs, .bool (outS i s).2.1], H') ∧ OutV cs (outS i s).1 ∧ RP H' k (outS i s).2.2 ∧ Kp H H' [k] := by
  rw [vF_body rfl, f78_eq]
  have hkl : k < H.length := by obtain ⟨_, h, _⟩ := hR; exact lt_of_ob h
  obtain ⟨H1, hH1⟩ : ∃ H1 : VH, H1 = List.append (α := VO) (H ++ [.row (3 + boxK) [.int .i64 (i : Int)]]) [.row OT [.str ⟨#[]⟩, .sl 5 .nil, .sl 9 .nil, .sl 3 .nil]] := ⟨_, rfl⟩
  rw [← hH1]
  have hH1' : H1 = H ++ [.row (3 + boxK) [.int .i64 (i : Int)], .row OT [.str ⟨#[]⟩, .sl 5 .nil, .sl 9 .nil, .sl 3 .nil]] := by rw [hH1]; show (H ++ [_]) ++ [_] = _; simp
  have hq0 : List.length ((H ++ [.row (3 + boxK) [.int .i64 (i : Int)]]) : VH) = H.length + 1 := by simp
  rw [hq0]
  have k1 : Kp H H1 [] := by rw [hH1']; exact Kp.app _ _
  have hP1 : H1[H.length]? = some (.row (3 + boxK) [.int .i64 (i : Int)]) := by rw [hH1']; simp
  have hQ1 : H1[H.length + 1]? = some (.row OT [.str ⟨#[]⟩, .sl 5 .nil, .sl 9 .nil, .sl 3 .nil]) := by rw [hH1']; simp
  have hR1 : RP H1 k s := hR.keep k1 (by simp)
  obtain ⟨H2, a1, a2, a3, _⟩ := p35 (n + 5) hR1 (by omega)
  rw [a1, Option.bind_some]
  obtain ⟨sb, H3, b1, b2, b3, b4, _⟩ := p36 (n + 4) a2 (by omega)
  simp only
  rw [b1, Option.bind_some]
  obtain ⟨sc, H4, c1, c2, c3, c4⟩ := p37 (n + 4) b3 (by omega) 16
  simp only
  rw [show ((16 : Nat) : Int) = 16 from rfl] at c1
  rw [c1, Option.bind_some]
  have k4 : Kp H1 H4 [k] := (a3.trans b4 (fun x hx _ => hx) (fun y hy _ => hy)).trans c4 (fun x hx _ => hx) (fun y hy _ => hy)
  have hlen1 : H1.length = H.length + 2 := by rw [hH1']; simp
  have hP4 := k4.ob hP1 (by simp; omega)
  have hQ4 := k4.ob hQ1 (by simp; omega)
  have hl4 := k4.len
  simp only
  -- the output's own variable
  have hO5 : (H4 ++ [VO.row OT [.str ⟨#[]⟩, .sl 5 .nil, .sl 9 .nil, .sl 3 .nil]])[H4.length]? = some (.row OT [.str ⟨#[]⟩, .sl 5 .nil, .sl 9 .nil, .sl 3 .nil]) := by simp
  rw [st_row hO5 (by simp) rfl, Option.bind_some]
  obtain ⟨H5, hH5⟩ : ∃ H5 : VH, H5 = List.set (H4 ++ [VO.row OT [.str ⟨#[]⟩, .sl 5 .nil, .sl 9 .nil, .sl 3 .nil]]) H4.length (.row OT (putAllV [.str ⟨#[]⟩, .sl 5 .nil, .sl 9 .nil, .sl 3 .nil] 0 [.str ⟨(TX s).1.toArray⟩, .sl 5 sb, .sl 9 sc, .sl 3 .nil])) := ⟨_, rfl⟩
  rw [← hH5]
  have k5 : Kp H4 H5 [] := by
    rw [hH5]
    exact ⟨by simp, fun j hj _ => by rw [List.getElem?_set_ne (by omega), List.getElem?_append_left hj]⟩
  have hO : H5[H4.length]? = some (.row OT [.str ⟨(TX s).1.toArray⟩, .sl 5 sb, .sl 9 sc, .sl 3 .nil]) := by
    rw [hH5, List.getElem?_set_self (by simp)]; rfl
  have hl5 : H5.length = H4.length + 1 := by rw [hH5]; simp
  obtain ⟨H6, d1, d2, d3, d4⟩ := p34 (n + 6) (c3.keep k5 (by simp)) (by omega)
  rw [d1, Option.bind_some]
  have hP6 := d3.ob (k5.ob hP4 (by simp)) (by simp; omega)
  have hQ6 := d3.ob (k5.ob hQ4 (by simp)) (by simp; omega)
  have hO6 := d3.ob hO (by simp; omega)
  have hlt := T1_lt (TS 16 (TX (TX s).2).2).2
  have hw : IntKind.wrap .i64 (((T1 (TS 16 (TX (TX s).2).2).2).1 : Nat) : Int) = ((T1 (TS 16 (TX (TX s).2).2).2).1 : Int) := i64_nat (by omega)
  have k6 : Kp H H6 [k] := ((k1.trans k4 (Z := [k]) (fun x hx _ => by cases hx) (fun y hy _ => hy)).trans k5 (Z := [k]) (fun x hx _ => hx) (fun y hy _ => by cases hy)).trans d3 (fun x hx _ => hx) (fun y hy _ => hy)
  simp only
  rw [hw]
  by_cases h4 : 4 ≤ (T1 (TS 16 (TX (TX s).2).2).2).1
  · have e : outS i s = (⟨(TX s).1, (TX (TX s).2).1, (TS 16 (TX (TX s).2).2).1, []⟩, false, (T1 (TS 16 (TX (TX s).2).2).2).2) := by unfold outS; simp only; rw [if_pos h4]
    rw [e, decide_eq_true (by omega), cond_true, ld_o hO6, Option.bind_some]
    simp only
    rw [st_row hQ6 (by simp) rfl, Option.bind_some]
    have hQ7 : (List.set H6 (H.length + 1) (.row OT (putAllV [.str ⟨#[]⟩, .sl 5 .nil, .sl 9 .nil, .sl 3 .nil] 0 [.str ⟨(TX s).1.toArray⟩, .sl 5 sb, .sl 9 sc, .sl 3 .nil])))[H.length + 1]? = some (.row OT [.str ⟨(TX s).1.toArray⟩, .sl 5 sb, .sl 9 sc, .sl 3 .nil]) := by
      rw [List.getElem?_set_self (lt_of_ob hQ6)]; rfl
    rw [ld_o hQ7, Option.bind_some]
    have kset := Kp.set H6 (H.length + 1) (.row OT (putAllV [.str ⟨#[]⟩, .sl 5 .nil, .sl 9 .nil, .sl 3 .nil] 0 [.str ⟨(TX s).1.toArray⟩, .sl 5 sb, .sl 9 sc, .sl 3 .nil]))
    exact ⟨_, _, rfl, ⟨sb, sc, .nil, rfl, b2, c2, .nil⟩, d2.keep kset (by simp; omega), k6.trans kset (fun x hx _ => hx) (fun y hy hl => by simp at hy; omega)⟩
  · have e : outS i s = (⟨(TX s).1, (TX (TX s).2).1, (TS 16 (TX (TX s).2).2).1, (needsS (T1 (TS 16 (TX (TX s).2).2).2).1 (T1 (TS 16 (TX (TX s).2).2).2).2 []).1⟩, (needsS (T1 (TS 16 (TX (TX s).2).2).2).1 (T1 (TS 16 (TX (TX s).2).2).2).2 []).1.all (fun x => decide (x < i)), (needsS (T1 (TS 16 (TX (TX s).2).2).2).1 (T1 (TS 16 (TX (TX s).2).2).2).2 []).2) := by unfold outS; simp only; rw [if_neg h4]
    rw [e, decide_eq_false (by omega), cond_false]
    obtain ⟨cs, H7, f1, f2, f3, f4⟩ := l78 n (by omega) (H0 := H6) (k := k) (p := H.length) (q := H.length + 1) (r := H4.length) (i := i) (nm := (TX s).1) b2 c2 (T1 (TS 16 (TX (TX s).2).2).2).1 (by omega) (by have := k6.len; omega) (lt_of_ob hP6) (lt_of_ob hQ6) (lt_of_ob hO6)
      ⟨by omega, by omega, by omega, by omega, by omega, by omega⟩ (z := [.str ⟨#[]⟩, .sl 5 .nil, .sl 9 .nil, .sl 3 .nil]) rfl (n + 10) 0 d2 hP6 hQ6 hO6 (show Ap H6 3 .nil (ns []) from .nil) (fun t ht => by cases ht) (Kp.refl _ _) rfl (by omega) (by omega)
    rw [Nat.sub_zero] at f1 f2 f3
    exact ⟨cs, H7, f1, f2, f3, k6.trans f4 (fun x hx _ => hx) (fun y hy hl => by simp at hy ⊢; omega)⟩
/-! ### Outputs -/
def outsL : Nat → Nat → RdS → List PO → Option (List PO) × RdS
  | 0, _, s, acc => (some acc, s)
  | n + 1, i, s, acc => if (outS i s).2.1 = true then outsL n (i + 1) (outS i s).2.2 (acc ++ [(outS i s).1]) else (none, (outS i s).2.2)
def outsS (s : RdS) : Option (List PO) × RdS := if (T1 s).1 < 1 ∨ 4 < (T1 s).1 then (none, (T1 s).2) else outsL (T1 s).1 0 (T1 s).2 []
/-- Outputs, as elements. -/
inductive OutsV : List (List V) → List PO → Prop
  | nil : OutsV [] []
  | cons {c o l m} : OutV c o → OutsV l m → OutsV (c :: l) (o :: m)
theorem OutsV.snoc {c : List V} {o : PO} : ∀ {l m}, OutsV l m → OutV c o → OutsV (l ++ [c]) (m ++ [o])
  | _, _, .nil, h => .cons h .nil
  | _, _, .cons a b, h => .cons a (b.snoc h)
theorem OutsV.len {l : List (List V)} {m : List PO} (h : OutsV l m) : l.length = m.length := by induction h with | nil => rfl | cons _ _ ih => simp [ih]
theorem OutV.strip {s1 s2 s3 : VS} {a : ByteArray} {o : PO} (h : OutV [.str a, .sl 5 s1, .sl 9 s2, .sl 3 s3] o) : OutV [.str a, .sl 5 s1.strip, .sl 9 s2.strip, .sl 3 s3.strip] o := by
  obtain ⟨t1, t2, t3, e, h1, h2, h3⟩ := h
  injection e with e1 e; injection e with e2 e; injection e with e3 e; injection e with e4 e
  injection e1 with e1; injection e2 with _ e2; injection e3 with _ e3; injection e4 with _ e4
  subst e1 e2 e3 e4
  exact ⟨_, _, _, rfl, h1.strip, h2.strip, h3.strip⟩
theorem OutV.form {cs : List V} {o : PO} (h : OutV cs o) : ∃ s1 s2 s3, cs = [.str ⟨o.name.toArray⟩, .sl 5 s1, .sl 9 s2, .sl 3 s3] ∧ List.all [V.str ⟨o.name.toArray⟩, .sl 5 s1, .sl 9 s2, .sl 3 s3] closed1 = true := by
  obtain ⟨t1, t2, t3, e, h1, h2, h3⟩ := h
  refine ⟨t1, t2, t3, e, ?_⟩
  have e1 := h1.closed 5
  have e2 := h2.closed 9
  have e3 := h3.closed 3
  simp only [List.all_cons, List.all_nil, e1, e2, e3]; rfl
theorem l39 (n : Nat) (hn : 500 ≤ n) {H0 : VH} {k : Nat} (hk : k < H0.length) (c : Nat) (hc : c ≤ 4) : ∀ (m j : Nat) {H : VH} {s : RdS} {s5 : VS} {es : List (List V)} {acc : List PO}, RP H k s → Ap H 34 s5 es → OutsV es acc → (∀ t ∈ toks s5, H0.length ≤ t) → Kp H0 H [k] → acc.length = j → j ≤ c → c < j + m →
    ∃ s' H', L39_0 (n + 11) m (.ob k 0) s5 (c : Int) (j : Int) H = some (.tup [.sl 34 s', .bool (outsL (c - j) j s acc).1.isSome], H') ∧ (∀ l, (outsL (c - j) j s acc).1 = some l → ∃ es', IsE s' es' ∧ OutsV es' l) ∧ RP H' k (outsL (c - j) j s acc).2 ∧ Kp H0 H' [k] := by
  intro m
  induction m with
  | zero => intro j H s s5 es acc _ _ _ _ _ _ a b; omega
  | succ m ih =>
    intro j H s s5 es acc hR hA hV hT hK ha hj1 hj2
    rw [L39_0_eq]
    by_cases hj : j < c
    · rw [decide_eq_true (by omega), cond_true]
      obtain ⟨cs, H1, g1, g2, g3, g4⟩ := e78 n (by omega) hR j
      obtain ⟨s1, s2, s3, rfl, hcl⟩ := g2.form
      have hcd : V.callD (vF P tab (n + 11)) P false (.tup [(.agg [.str, .slice 5, .slice 9, .slice 3]), (.flat .bool)]) 78 [.ptr (.ob k 0), .int .i64 (j : Int)] H = some (((⟨(outS j s).1.name.toArray⟩, s1, s2, s3, ()), (outS j s).2.1, ()), H1) := by
        refine callD_some _ g1 ?_
        show (V.decT _ _) = _
        simp only [V.decT, V.dec1, V.decs, fd_str, fd_sl, fd_bool, Option.bind_some, Option.map_some]
      rw [hcd, Option.bind_some]
      simp only
      have hO5 : (H1 ++ [VO.row OT [.str ⟨#[]⟩, .sl 5 .nil, .sl 9 .nil, .sl 3 .nil]])[H1.length]? = some (.row OT [.str ⟨#[]⟩, .sl 5 .nil, .sl 9 .nil, .sl 3 .nil]) := by simp
      rw [st_row hO5 (by simp) rfl, Option.bind_some]
      obtain ⟨H5, hH5⟩ : ∃ H5 : VH, H5 = List.set (H1 ++ [VO.row OT [.str ⟨#[]⟩, .sl 5 .nil, .sl 9 .nil, .sl 3 .nil]]) H1.length (.row OT (putAllV [.str ⟨#[]⟩, .sl 5 .nil, .sl 9 .nil, .sl 3 .nil] 0 [.str ⟨(outS j s).1.name.toArray⟩, .sl 5 s1, .sl 9 s2, .sl 3 s3])) := ⟨_, rfl⟩
      rw [← hH5]
      have k5 : Kp H1 H5 [] := by
        rw [hH5]
        exact ⟨by simp, fun j hj _ => by rw [List.getElem?_set_ne (by omega), List.getElem?_append_left hj]⟩
      have hO : H5[H1.length]? = some (.row OT [.str ⟨(outS j s).1.name.toArray⟩, .sl 5 s1, .sl 9 s2, .sl 3 s3]) := by
        rw [hH5, List.getElem?_set_self (by simp)]; rfl
      have kp5 : Kp H0 H5 [k] := (hK.trans g4 (fun x hx _ => hx) (fun y hy _ => hy)).trans k5 (fun x hx _ => hx) (fun y hy _ => by cases hy)
      have hR5 := g3.keep k5 (by simp)
      have e1 : c - j = (c - (j + 1)) + 1 := by omega
      cases hok : (outS j s).2.1 with
      | false =>
        have e2 : outsL (c - j) j s acc = (none, (outS j s).2.2) := by rw [e1]; unfold outsL; rw [hok]; rfl
        rw [e2]
        exact ⟨.nil, H5, rfl, (fun l h => by cases h), hR5, kp5⟩
      | true =>
        have e2 : outsL (c - j) j s acc = outsL (c - (j + 1)) (j + 1) (outS j s).2.2 (acc ++ [(outS j s).1]) := by rw [e1]; show (if (outS j s).2.1 = true then _ else _) = _; rw [hok]; rfl
        rw [e2]
        simp only [Bool.not_true, cond_false]
        rw [ld_o hO, Option.bind_some]
        simp only
        rw [if_pos hcl]
        have tk : ∀ t ∈ toks s5, t ≠ k := fun t ht => by have := hT t ht; omega
        have hA5 := (hA.keep g4 (fun t ht => by simp [tk t ht])).keep k5 (fun t ht => by simp)
        have hlen := hV.len
        obtain ⟨s', H6, f1, f2, f3, f4, _⟩ := hA5.app (sz := 4) (by_ := 88) (x := .fz [[.str ⟨(outS j s).1.name.toArray⟩, .sl 5 s1.strip, .sl 9 s2.strip, .sl 3 s3.strip]] (.ex 1)) (news := [[.str ⟨(outS j s).1.name.toArray⟩, .sl 5 s1.strip, .sl 9 s2.strip, .sl 3 s3.strip]]) (.fz _ _) (by simp [bound]; omega) (by simp [bound]; omega)
        rw [f1, Option.bind_some, inc_nat (by omega)]
        have kp6 : Kp H0 H6 [k] := kp5.trans f3 (fun x hx _ => hx) (fun y hy hl => by have := hT y hy; omega)
        exact ih (j + 1) (hR5.keep f3 (fun h => tk k h rfl)) f2 (hV.snoc g2.strip) (fun t ht => by
          rcases f4 t ht with h | h
          · exact hT t h
          · have := kp5.len; omega) kp6 (by simp [ha]) (by omega) (by omega)
    · have hjc : j = c := by omega
      subst hjc
      rw [decide_eq_false (by omega), cond_false, Nat.sub_self]
      have e0 : outsL 0 j s acc = (some acc, s) := rfl
      rw [e0]
      exact ⟨s5, H, rfl, (fun l h => by injection h with h; subst h; exact ⟨es, hA.isE, hV⟩), hR, hK⟩
theorem e39 (n : Nat) (hn : 500 ≤ n) {H : VH} {k : Nat} {s : RdS} (hR : RP H k s) :
    ∃ s' H', V.callD (vF P tab (n + 12)) P false (.tup [(.flat (.slice 34)), (.flat .bool)]) 39 [.ptr (.ob k 0)] H = some ((s', (outsS s).1.isSome, ()), H') ∧ (∀ l, (outsS s).1 = some l → ∃ es', IsE s' es' ∧ OutsV es' l) ∧ RP H' k (outsS s).2 ∧ Kp H H' [k] := by
  have hkl : k < H.length := by obtain ⟨_, h, _⟩ := hR; exact lt_of_ob h
  obtain ⟨H1, g1, g2, g3, g4⟩ := p34 (n + 7) hR (by omega)
  have hlt := T1_lt s
  have hw : IntKind.wrap .i64 (((T1 s).1 : Nat) : Int) = ((T1 s).1 : Int) := i64_nat (by omega)
  have fin : ∀ {s' : VS} {b : Bool} {H' : VH}, bodyV P tab (vF P tab (n + 11)) (n + 11) 39 [.ptr (.ob k 0)] H = some (.tup [.sl 34 s', .bool b], H') → V.callD (vF P tab (n + 12)) P false (.tup [(.flat (.slice 34)), (.flat .bool)]) 39 [.ptr (.ob k 0)] H = some ((s', b, ()), H') := by
    intro s' b H' h
    refine callD_some _ (show vF P tab (n + 12) 39 _ H = _ from by rw [vF_body rfl]; exact h) ?_
    show (V.decT _ _) = _
    simp only [V.decT, V.dec1, V.fdec, atE, if_true, fd_sl, fd_bool, Option.bind_some, Option.map_some]
  by_cases hb : (T1 s).1 < 1 ∨ 4 < (T1 s).1
  · have e : outsS s = (none, (T1 s).2) := if_pos hb
    rw [e]
    refine ⟨.nil, H1, fin ?_, (fun l h => by cases h), g2, g3⟩
    rw [f39_eq, g1, Option.bind_some]
    simp only
    rw [hw]
    rcases hb with h | h
    · rw [decide_eq_true (by omega)]; rfl
    · rw [decide_eq_false (by omega), decide_eq_true (by omega)]; rfl
  · have e : outsS s = outsL (T1 s).1 0 (T1 s).2 [] := if_neg hb
    rw [e]
    obtain ⟨s', H2, f1, f2, f3, f4⟩ := l39 n hn (H0 := H1) (k := k) (by omega) (T1 s).1 (by omega) (n + 11) 0 g2 (show Ap H1 34 .nil [] from .nil) .nil (fun t ht => by cases ht) (Kp.refl _ _) rfl (by omega) (by omega)
    rw [Nat.sub_zero] at f1 f2 f3
    refine ⟨s', H2, fin ?_, f2, f3, g3.trans f4 (fun x hx _ => hx) (fun y hy _ => hy)⟩
    rw [f39_eq, g1, Option.bind_some]
    simp only
    rw [hw, decide_eq_false (by omega), decide_eq_false (by omega)]
    exact f1
end Go.Proofs.YtcnigofmjffamaaDoor
