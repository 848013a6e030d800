import Derived.Test.YtcnigofmjffamaaDoorB11o
set_option maxRecDepth 100000
set_option linter.unusedVariables false
set_option linter.unusedSimpArgs false
namespace Go.Proofs.YtcnigofmjffamaaDoor
open Go.Proofs.YtcnigofmjffamaaDoor.Sh Go.Proofs.YtcnigofmjffamaaDoor.Sh.V Go.RowKit
def outI (o : PO) : List UInt8 := textI o.name ++ (textI o.arc ++ (textsI o.refs ++ (b1 o.needs.length :: o.needs.map b1)))
structure Small (o : PO) : Prop where
  a : o.name.length < 70000
  b : o.arc.length < 70000
  c : szs o.refs < 70000
  d : o.refs.length < 512
  e : o.needs.length < 300
theorem l150 (n : Nat) (hn : 70000 ≤ n) {B : Nat} {p : Nat} (hpB : p < B) {k0 k1 k2 k3 k4 : V} {sp : VS} {ep : List (List V)} {l : List PO} (hp : IsE sp ep) (hv : OutsV ep l) (hl : l.length ≤ 4) (hs : ∀ o ∈ l, Small o) :
    ∀ (m j : Nat) {H : VH} {s : VS} {acc : List UInt8}, H[p]? = some (.row QT [k0, k1, k2, k3, k4, .sl 34 sp]) → Ap H 5 s (bs acc) → (∀ t ∈ toks s, B ≤ t) → B ≤ H.length → acc.length < 1000 + j * 213000 → j ≤ l.length → l.length < j + m →
      ∃ s' H', L15_0 (n + 10) m p s (j : Int) H = some (.sl 5 s', H') ∧ Ap H' 5 s' (bs (acc ++ ((l.drop j).map outI).flatten)) := by
  intro m
  induction m with
  | zero => intro j H s acc _ _ _ _ _ a b; omega
  | succ m ih =>
    intro j H s acc hP hA hT hB hsz h1 h2
    have ld5 : ldV (.flat (.slice 34)) H (.ob p 5) = some sp := by rw [ld_row hP]; exact fd_sl 34 sp
    rw [L15_0_eq, ld5, Option.bind_some, hp.len, hv.len]
    by_cases hj : j < l.length
    · rw [decide_eq_true (by omega), cond_true, Option.bind_some]
      obtain ⟨o, ho⟩ := get_of hj
      obtain ⟨c, hc1, hc2⟩ := hv.at ho
      obtain ⟨a1, a2, a3, rfl, a5, a6, a7⟩ := hc2
      obtain ⟨z1, z2, z3, z4, z5⟩ := hs o (List.mem_of_getElem? ho)
      rw [hp.ix hc1 4, Option.bind_some, ld_fz, Option.bind_some]
      have r0 : (H ++ [VO.row OT [.str ⟨#[]⟩, .sl 5 .nil, .sl 9 .nil, .sl 3 .nil]])[H.length]? = some (.row OT [.str ⟨#[]⟩, .sl 5 .nil, .sl 9 .nil, .sl 3 .nil]) := by simp
      simp only
      rw [st_row r0 (by simp) rfl, Option.bind_some]
      obtain ⟨q, hq⟩ : ∃ q, q = H.length := ⟨_, rfl⟩
      obtain ⟨H1, e1⟩ : ∃ H1 : VH, H1 = List.set (H ++ [VO.row OT [.str ⟨#[]⟩, .sl 5 .nil, .sl 9 .nil, .sl 3 .nil]]) H.length (.row OT (putAllV [.str ⟨#[]⟩, .sl 5 .nil, .sl 9 .nil, .sl 3 .nil] 0 [.str ⟨o.name.toArray⟩, .sl 5 a1, .sl 9 a2, .sl 3 a3])) := ⟨_, rfl⟩
      rw [← e1, ← hq]
      have kA : Kp H H1 [] := by
        rw [e1]; exact ⟨by simp, fun i hi _ => by rw [List.getElem?_set_ne (by omega), List.getElem?_append_left hi]⟩
      have hO1 : H1[q]? = some (.row OT [.str ⟨o.name.toArray⟩, .sl 5 a1, .sl 9 a2, .sl 3 a3]) := by rw [e1, hq, List.getElem?_set_self (by simp)]; rfl
      have hA1 := hA.keep kA (fun t ht => by simp)
      have tq : ∀ t ∈ toks s, t < q := fun t ht => by rw [hq]; obtain ⟨_, hg⟩ := hA.tok_at ht; exact lt_of_ob hg
      have hP1 := kA.ob hP (by simp)
      have hl1 := lt_of_ob hO1
      rw [ld_o0 hO1, Option.bind_some]
      obtain ⟨s1, b1', b2⟩ := e13 (n + 8) o.name (by omega) H1
      rw [callD_sl b1', Option.bind_some]
      simp only
      have t1 := textI_len o.name
      have t2 := textI_len o.arc
      have t3 : (textsI o.refs).length = 1 + szs o.refs := by show (_ :: _).length = _; rw [List.length_cons]; show szs o.refs + 1 = _; omega
      have hj4 : j ≤ 3 := by omega
      obtain ⟨u1, H2, c1, c2, c3, c4⟩ := apB hA1 b2 (by omega)
      rw [c1, Option.bind_some]
      simp only
      have tk1 : ∀ t ∈ toks u1, B ≤ t ∧ t ≠ q := fun t ht => by
        rcases c4 t ht with h | h
        · have := hT t h; have := tq t h; omega
        · have := kA.len; omega
      have hO2 := c3.ob hO1 (fun h => by have := tq q h; omega)
      have hP2 := c3.ob hP1 (fun h => by have := hT p h; omega)
      rw [ld_o1 hO2, Option.bind_some, a5.str, Option.bind_some]
      obtain ⟨s2, d1, d2⟩ := e13 (n + 8) o.arc (by omega) H2
      rw [callD_sl d1, Option.bind_some]
      simp only
      obtain ⟨u2, H3, f1, f2, f3, f4⟩ := apB c2 d2 (by simp; omega)
      rw [f1, Option.bind_some]
      simp only
      have hl2 := c3.len
      have tk2 : ∀ t ∈ toks u2, B ≤ t ∧ t ≠ q := fun t ht => by
        rcases f4 t ht with h | h
        · exact tk1 t h
        · omega
      have hO3 := f3.ob hO2 (fun h => (tk1 q h).2 rfl)
      have hP3 := f3.ob hP2 (fun h => by have := (tk1 p h).1; omega)
      rw [ld_o2 hO3, Option.bind_some]
      obtain ⟨s3, g1, g2⟩ := e41 (n + 7) a6 (by omega) (by omega) (by omega) H3
      rw [callD_sl g1, Option.bind_some]
      simp only
      obtain ⟨u3, H4, i1, i2, i3, i4⟩ := apB f2 g2 (by simp; omega)
      rw [i1, Option.bind_some]
      simp only
      have hl3 := f3.len
      have tk3 : ∀ t ∈ toks u3, B ≤ t ∧ t ≠ q := fun t ht => by
        rcases i4 t ht with h | h
        · exact tk2 t h
        · omega
      have hO4 := i3.ob hO3 (fun h => (tk2 q h).2 rfl)
      have hP4 := i3.ob hP3 (fun h => by have := (tk2 p h).1; omega)
      rw [ld_o3 hO4, Option.bind_some, a7.len, ns_len, bs_b1]
      obtain ⟨u4, H5, k1', k2', k3', k4'⟩ := apB i2 (show IsB (.fz (bs [b1 o.needs.length]) (.ex 1)) [b1 o.needs.length] from .fz _ _) (by simp; omega)
      rw [k1', Option.bind_some]
      simp only
      have hl4 := i3.len
      have hl5 := k3'.len
      have hlA := kA.len
      have tk4 : ∀ t ∈ toks u4, B ≤ t ∧ t ≠ q := fun t ht => by
        rcases k4' t ht with h | h
        · exact tk3 t h
        · omega
      have hO5 := k3'.ob hO4 (fun h => (tk3 q h).2 rfl)
      have hP5 := k3'.ob hP4 (fun h => by have := (tk3 p h).1; omega)
      obtain ⟨u5, H6, m1, m2, m3, m4, m5⟩ := l151 (n + 10) (B := B) (p := p) (s4 := (j : Int)) m a7 (by omega) (n + 10) 0 hO5 k2' tk4 (by omega) (by simp; omega) (by omega) (by omega)
      have m1' : L15_1 (n + 10) m (n + 10) p u4 (j : Int) q 0 H5 = L15_0 (n + 10) m p u5 (IntKind.wrap .i64 ((j : Int) + 1)) H6 := m1
      rw [m1', inc_nat (by omega)]
      have hP6 : H6[p]? = some (.row QT [k0, k1, k2, k3, k4, .sl 34 sp]) := by rw [m4 p hpB]; exact hP5
      have e2 : l.drop j = o :: l.drop (j + 1) := by
        rw [List.drop_eq_getElem_cons hj]; rw [List.getElem?_eq_getElem hj] at ho; injection ho with ho; rw [ho]
      have hacc : (((acc ++ textI o.name) ++ textI o.arc) ++ textsI o.refs) ++ [b1 o.needs.length] ++ (o.needs.drop 0).map b1 = acc ++ outI o := by simp [outI]
      rw [hacc] at m2
      have hol : (outI o).length < 213000 := by
        unfold outI
        simp only [List.length_append, List.length_cons, List.length_map, t1, t2, t3]
        omega
      obtain ⟨s', H', n1, n2⟩ := ih (j + 1) hP6 m2 (fun t ht => (m3 t ht).1) (by omega) (by simp; omega) (by omega) (by omega)
      refine ⟨s', H', n1, ?_⟩
      rw [e2, List.map_cons, List.flatten_cons]
      rw [List.append_assoc] at n2
      exact n2
    · rw [decide_eq_false (by omega), cond_false, List.drop_eq_nil_of_le (by omega)]
      exact ⟨s, H, rfl, by simpa using hA⟩
end Go.Proofs.YtcnigofmjffamaaDoor
