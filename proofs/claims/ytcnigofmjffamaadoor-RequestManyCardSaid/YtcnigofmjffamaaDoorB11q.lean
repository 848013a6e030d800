import Derived.Test.YtcnigofmjffamaaDoorB11p
set_option maxRecDepth 100000
set_option linter.unusedVariables false
set_option linter.unusedSimpArgs false
namespace Go.Proofs.YtcnigofmjffamaaDoor
open Go.Proofs.YtcnigofmjffamaaDoor.Sh Go.Proofs.YtcnigofmjffamaaDoor.Sh.V Go.RowKit
def encP (r : PR) : List UInt8 :=
  [b1 r.kind] ++ ((if r.kind = 1 then textI r.root ++ (textI r.body ++ textsI r.refs) else []) ++ ((if pathedP r.kind = true then textI r.path else []) ++ (if r.kind = 7 then b1 r.outs.length :: (r.outs.map outI).flatten else [])))
structure SmallR (r : PR) : Prop where
  k : r.kind < 256
  a : r.root.length < 300
  b : r.body.length < 300
  c : szs r.refs < 300
  d : r.refs.length < 512
  p : r.path.length < 300
  o : r.outs.length ≤ 4
  q : ∀ o ∈ r.outs, Small o
theorem tl15 (n : Nat) (hn : 70000 ≤ n) {r : PR} (hr : SmallR r) {k1 k2 k3 k4 : V} {sp : VS} {ep : List (List V)} (hp : IsE sp ep) (hv : OutsV ep r.outs) {H : VH} {s : VS} {acc : List UInt8} (h0 : H[0]? = some (.row QT [.int .u8 (r.kind : Int), k1, k2, k3, k4, .sl 34 sp])) (hA : Ap H 5 s (bs acc)) (hT : ∀ t ∈ toks s, 1 ≤ t) (hsz : acc.length < 999) :
    ∃ s' H', ((ldV (.flat (.int .u8)) H (.ob 0 0)).bind fun x32 =>
                (cond ((x32 : Int) == 7)
                  ((ldV (.flat (.slice 34)) H (.ob 0 5)).bind fun x33 =>
                    ((appD true H 1 1 5 s (.fz [[.int .u8 (IntKind.wrap .u8 ((VS.len x33 : Nat) : Int))]] (.ex 1))).bind fun r34 =>
                      (L15_0 (n + 10) (n + 10) 0 r34.1 0 r34.2)))
                  (some (.sl 5 s, H)))) = some (.sl 5 s', H') ∧ Ap H' 5 s' (bs (acc ++ (if r.kind = 7 then b1 r.outs.length :: (r.outs.map outI).flatten else []))) := by
  have l0 : ldV (.flat (.int .u8)) H (.ob 0 0) = some (r.kind : Int) := by rw [ld_row h0]; exact fd_int .u8 _
  have l5 : ldV (.flat (.slice 34)) H (.ob 0 5) = some sp := by rw [ld_row h0]; exact fd_sl 34 sp
  rw [l0, Option.bind_some]
  by_cases h7 : r.kind = 7
  · have hq : ((r.kind : Int) == 7) = true := by rw [h7]; rfl
    rw [hq, cond_true, l5, Option.bind_some, hp.len, hv.len, bs_b1, if_pos h7]
    obtain ⟨u, H1, c1, c2, c3, c4⟩ := apB hA (show IsB (.fz (bs [b1 r.outs.length]) (.ex 1)) [b1 r.outs.length] from .fz _ _) (by simp; omega)
    rw [c1, Option.bind_some]
    have hl := lt_of_ob h0
    have hP := c3.ob h0 (fun h => by have := hT 0 h; omega)
    obtain ⟨s', H', d1, d2⟩ := l150 n hn (B := 1) (p := 0) (by omega) hp hv hr.o hr.q (n + 10) 0 hP c2 (fun t ht => by
      rcases c4 t ht with h | h
      · exact hT t h
      · omega) (by have := c3.len; omega) (by simp; omega) (by omega) (by have := hr.o; omega)
    refine ⟨s', H', d1, ?_⟩
    rw [List.append_assoc] at d2
    exact d2
  · have hq : ((r.kind : Int) == 7) = false := by simp; omega
    rw [hq, cond_false, if_neg h7, List.append_nil]
    exact ⟨s, H, rfl, hA⟩
theorem b15 (n : Nat) (hn : 70000 ≤ n) {r : PR} (hr : SmallR r) {s3 s4 s5 : VS} (hq : RQ r s3 s4 s5) :
    ∃ s' H', bodyV P tab (vF P tab (n + 10)) (n + 10) 15 [.agg [.int .u8 (r.kind : Int), .str ⟨r.root.toArray⟩, .str ⟨r.path.toArray⟩, .sl 5 s3, .sl 9 s4, .sl 34 s5]] [] = some (.sl 5 s', H') ∧ IsB s' (encP r) := by
  rw [f15_eq]
  simp only [List.nil_append, List.length_nil]
  obtain ⟨es, o1, o2⟩ := hq.o
  obtain ⟨H1, e1⟩ : ∃ H1 : VH, H1 = [VO.row QT [.int .u8 (r.kind : Int), .str ⟨r.root.toArray⟩, .str ⟨r.path.toArray⟩, .sl 5 s3, .sl 9 s4, .sl 34 s5]] := ⟨_, rfl⟩
  have h0 : H1[0]? = some (.row QT [.int .u8 (r.kind : Int), .str ⟨r.root.toArray⟩, .str ⟨r.path.toArray⟩, .sl 5 s3, .sl 9 s4, .sl 34 s5]) := by rw [e1]; rfl
  rw [← e1]
  have l0 : ∀ {H : VH}, H[0]? = some (.row QT [.int .u8 (r.kind : Int), .str ⟨r.root.toArray⟩, .str ⟨r.path.toArray⟩, .sl 5 s3, .sl 9 s4, .sl 34 s5]) → ldV (.flat (.int .u8)) H (.ob 0 0) = some (r.kind : Int) := fun h => by rw [ld_row h]; exact fd_int .u8 _
  rw [l0 h0, Option.bind_some, Option.bind_some]
  have hk := hr.k
  have hb : ([[.int .u8 (r.kind : Int)]] : List (List V)) = bs [b1 r.kind] := by rw [← bs_b1, wrap_u8_nat hk]
  rw [hb]
  have hA : Ap H1 5 (.fz (bs [b1 r.kind]) (.ex 1)) (bs [b1 r.kind]) := .lit _
  unfold encP
  by_cases h1 : r.kind = 1
  · have hq1 : ((r.kind : Int) == 1) = true := by rw [h1]; rfl
    rw [hq1, cond_true, if_pos h1]
    have l1 : ldV (.flat .str) H1 (.ob 0 1) = some ⟨r.root.toArray⟩ := by rw [ld_row h0]; rfl
    rw [l1, Option.bind_some]
    have ha := hr.a; have hbb := hr.b; have hc := hr.c; have hd := hr.d
    have hL1 : H1.length = 1 := by rw [e1]; rfl
    obtain ⟨t, w1, w2⟩ := e13 (n + 8) r.root (by omega) H1
    rw [callD_sl w1, Option.bind_some]
    simp only
    have t1 := textI_len r.root
    have t2 := textI_len r.body
    have t3 : (textsI r.refs).length = 1 + szs r.refs := by show (_ :: _).length = _; rw [List.length_cons]; show szs r.refs + 1 = _; omega
    obtain ⟨u1, H2, c1, c2, c3, c4⟩ := apB hA w2 (by simp; omega)
    rw [c1, Option.bind_some]
    simp only
    have hP2 := c3.ob h0 (fun h => by cases h)
    have k1 : ∀ t ∈ toks u1, 1 ≤ t := fun t ht => by
      rcases c4 t ht with h | h
      · cases h
      · omega
    have l3 : ldV (.flat (.slice 5)) H2 (.ob 0 3) = some s3 := by rw [ld_row hP2]; exact fd_sl 5 s3
    rw [l3, Option.bind_some, hq.b.str, Option.bind_some]
    obtain ⟨t', d1, d2⟩ := e13 (n + 8) r.body (by omega) H2
    rw [callD_sl d1, Option.bind_some]
    simp only
    obtain ⟨u2, H3, f1, f2, f3, f4⟩ := apB c2 d2 (by simp; omega)
    rw [f1, Option.bind_some]
    simp only
    have hP3 := f3.ob hP2 (fun h => by have := k1 0 h; omega)
    have hL2 := c3.len
    have hL3 := f3.len
    have k2 : ∀ t ∈ toks u2, 1 ≤ t := fun t ht => by
      rcases f4 t ht with h | h
      · exact k1 t h
      · omega
    have l4 : ldV (.flat (.slice 9)) H3 (.ob 0 4) = some s4 := by rw [ld_row hP3]; exact fd_sl 9 s4
    rw [l4, Option.bind_some]
    obtain ⟨t'', g1, g2⟩ := e41 (n + 7) hq.f (by omega) (by omega) (by omega) H3
    rw [callD_sl g1, Option.bind_some]
    simp only
    obtain ⟨u3, H4, i1, i2, i3, i4⟩ := apB f2 g2 (by simp; omega)
    rw [i1, Option.bind_some]
    simp only
    have hP4 := i3.ob hP3 (fun h => by have := k2 0 h; omega)
    have k3 : ∀ t ∈ toks u3, 1 ≤ t := fun t ht => by
      rcases i4 t ht with h | h
      · exact k2 t h
      · omega
    have hpf : pathedP r.kind = false := by rw [h1]; rfl
    rw [l0 hP4, Option.bind_some, p42 (n + 9) hk, Option.bind_some]
    simp only
    rw [hpf, cond_false, if_neg (by simp), List.nil_append]
    obtain ⟨s', H', m1, m2⟩ := tl15 n hn hr o1 o2 hP4 i2 k3 (by simp; omega)
    have hacc : ((([b1 r.kind] ++ textI r.root) ++ textI r.body) ++ textsI r.refs) ++ (if r.kind = 7 then b1 r.outs.length :: (r.outs.map outI).flatten else []) = [b1 r.kind] ++ ((textI r.root ++ (textI r.body ++ textsI r.refs)) ++ (if r.kind = 7 then b1 r.outs.length :: (r.outs.map outI).flatten else [])) := by simp only [List.append_assoc]
    rw [hacc] at m2
    exact ⟨s', H', m1, m2.isE⟩
  · have hq1 : ((r.kind : Int) == 1) = false := by simp; omega
    rw [hq1, cond_false, Option.bind_some, p42 (n + 9) hk, Option.bind_some, if_neg h1, List.nil_append]
    simp only
    cases hp : pathedP r.kind with
    | true =>
      rw [if_pos rfl, cond_true]
      have l2 : ldV (.flat .str) H1 (.ob 0 2) = some ⟨r.path.toArray⟩ := by rw [ld_row h0]; rfl
      rw [l2, Option.bind_some]
      have hrp := hr.p
      obtain ⟨t, w1, w2⟩ := e13 (n + 8) r.path (by omega) H1
      rw [callD_sl w1, Option.bind_some]
      simp only
      have htl := textI_len r.path
      obtain ⟨u, H2, c1, c2, c3, c4⟩ := apB hA w2 (by simp; omega)
      rw [c1, Option.bind_some]
      simp only
      have hP := c3.ob h0 (fun h => by cases h)
      obtain ⟨s', H', d1, d2⟩ := tl15 n hn hr o1 o2 hP c2 (fun t ht => by
        rcases c4 t ht with h | h
        · cases h
        · have : H1.length = 1 := by rw [e1]; rfl
          omega) (by simp; omega)
      rw [List.append_assoc] at d2
      exact ⟨s', H', d1, d2.isE⟩
    | false =>
      rw [if_neg (by simp), cond_false, List.nil_append]
      obtain ⟨s', H', d1, d2⟩ := tl15 n hn hr o1 o2 h0 hA (fun t ht => by cases ht) (by simp)
      exact ⟨s', H', d1, d2.isE⟩
end Go.Proofs.YtcnigofmjffamaaDoor
