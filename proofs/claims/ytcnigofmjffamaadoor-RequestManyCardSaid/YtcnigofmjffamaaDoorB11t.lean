import Derived.Test.YtcnigofmjffamaaDoorB11s
set_option maxRecDepth 100000
set_option linter.unusedVariables false
set_option linter.unusedSimpArgs false
namespace Go.Proofs.YtcnigofmjffamaaDoor
open Go.Proofs.YtcnigofmjffamaaDoor.Sh Go.Proofs.YtcnigofmjffamaaDoor.Sh.V Go.RowKit
theorem c46 (n : Nat) {H : VH} {k : Nat} {T : List Nat} {l : List UInt8} (hw : WS H k T l) (hl : l.length < 900000) : ∃ s' H', ((V.callD (vF P tab (n + 2)) P false (.one (.flat (.slice 5))) 46 [.ptr (.ob k 0)] H).bind fun r11 => some (V.sl 5 r11.1, r11.2)) = some (.sl 5 s', H') ∧ IsB s' l := by
  obtain ⟨s', H', h1, h2, _⟩ := e46 n hw (by omega)
  exact ⟨s', H', by rw [callD_sl h1]; rfl, h2⟩
/-- Encode, but for kind 7 (its loop is L17_0). -/
theorem b17 (n : Nat) (hn : 70000 ≤ n) {r : PR} (hr : SmallR r) (h7 : r.kind ≠ 7) {s3 s4 s5 : VS} (hq : RQ r s3 s4 s5) :
    ∃ s' H', bodyV P tab (vF P tab (n + 10)) (n + 10) 17 [.agg [.int .u8 (r.kind : Int), .str ⟨r.root.toArray⟩, .str ⟨r.path.toArray⟩, .sl 5 s3, .sl 9 s4, .sl 34 s5]] [] = some (.sl 5 s', H') ∧ IsB s' (encP r) := by
  rw [f17_eq]
  obtain ⟨H1, e1⟩ : ∃ H1 : VH, H1 = [VO.row QT [.int .u8 (r.kind : Int), .str ⟨r.root.toArray⟩, .str ⟨r.path.toArray⟩, .sl 5 s3, .sl 9 s4, .sl 34 s5], .row (86 + boxK) [.sl 5 .nil]] := ⟨_, rfl⟩
  have hH1 : List.append (α := VO) (([] : VH) ++ [.row (31 + boxK) [.int .u8 (r.kind : Int), .str ⟨r.root.toArray⟩, .str ⟨r.path.toArray⟩, .sl 5 s3, .sl 9 s4, .sl 34 s5]]) [.row (86 + boxK) [.sl 5 .nil]] = H1 := by rw [e1]; rfl
  rw [hH1]
  have hz : List.length (([] ++ [.row (31 + boxK) [.int .u8 (r.kind : Int), .str ⟨r.root.toArray⟩, .str ⟨r.path.toArray⟩, .sl 5 s3, .sl 9 s4, .sl 34 s5]]) : VH) = 1 := rfl
  rw [hz]
  have hz0 : List.length ([] : VH) = 0 := rfl
  rw [hz0]
  have h0 : H1[0]? = some (.row QT [.int .u8 (r.kind : Int), .str ⟨r.root.toArray⟩, .str ⟨r.path.toArray⟩, .sl 5 s3, .sl 9 s4, .sl 34 s5]) := by rw [e1]; rfl
  have l0 : ∀ {H : VH}, H[0]? = some (.row QT [.int .u8 (r.kind : Int), .str ⟨r.root.toArray⟩, .str ⟨r.path.toArray⟩, .sl 5 s3, .sl 9 s4, .sl 34 s5]) → ldV (.flat (.int .u8)) H (.ob 0 0) = some (r.kind : Int) := fun h => by rw [ld_row h]; exact fd_int .u8 _
  have hk := hr.k
  have hw : WS H1 1 [] [] := ⟨.nil, by rw [e1]; rfl, .nil, rfl⟩
  have hL1 : H1.length = 2 := by rw [e1]; rfl
  rw [l0 h0, Option.bind_some]
  obtain ⟨H2, T2, a1, a2, a3, a4⟩ := c43 (n + 8) hw r.kind (by simp)
  rw [wrap_u8_nat hk] at a1
  rw [a1, Option.bind_some]
  simp only
  have n0 : ∀ {H H' : VH} {T : List Nat} {o : VO}, Kp H H' (1 :: T) → (∀ t ∈ T, 2 ≤ t) → H[0]? = some o → H'[0]? = some o := fun k ht h => k.ob h (by simp; intro h; have := ht 0 h; omega)
  have h2 := n0 a3 (fun t ht => by cases ht) h0
  have t2 : ∀ t ∈ T2, 2 ≤ t := fun t ht => by
    rcases a4 t ht with h | h
    · cases h
    · omega
  have hL2 := a3.len
  rw [l0 h2, Option.bind_some]
  rw [List.nil_append] at a2
  unfold encP
  rw [if_neg h7, List.append_nil]
  by_cases h1 : r.kind = 1
  · have hq1 : ((r.kind : Int) == 1) = true := by rw [h1]; rfl
    have hpf : pathedP r.kind = false := by rw [h1]; rfl
    rw [hq1, cond_true, if_pos h1, hpf, if_neg (by simp), List.append_nil]
    have ha := hr.a; have hbb := hr.b; have hc := hr.c; have hd := hr.d
    have l1 : ∀ {H : VH}, H[0]? = some (.row QT [.int .u8 (r.kind : Int), .str ⟨r.root.toArray⟩, .str ⟨r.path.toArray⟩, .sl 5 s3, .sl 9 s4, .sl 34 s5]) → ldV (.flat .str) H (.ob 0 1) = some ⟨r.root.toArray⟩ := fun h => by rw [ld_row h]; rfl
    have l3 : ∀ {H : VH}, H[0]? = some (.row QT [.int .u8 (r.kind : Int), .str ⟨r.root.toArray⟩, .str ⟨r.path.toArray⟩, .sl 5 s3, .sl 9 s4, .sl 34 s5]) → ldV (.flat (.slice 5)) H (.ob 0 3) = some s3 := fun h => by rw [ld_row h]; exact fd_sl 5 s3
    have l4 : ∀ {H : VH}, H[0]? = some (.row QT [.int .u8 (r.kind : Int), .str ⟨r.root.toArray⟩, .str ⟨r.path.toArray⟩, .sl 5 s3, .sl 9 s4, .sl 34 s5]) → ldV (.flat (.slice 9)) H (.ob 0 4) = some s4 := fun h => by rw [ld_row h]; exact fd_sl 9 s4
    rw [l1 h2, Option.bind_some, l3 h2, Option.bind_some, hq.b.str, Option.bind_some, l4 h2, Option.bind_some]
    rw [heldStr_B hq.b]
    simp only [hj_nil, hj_one]
    obtain ⟨H3, T3, b1', b2, b3, b4⟩ := c44 (n + 7) a2 r.root (by simp; omega)
    rw [b1', Option.bind_some]
    simp only
    have h3 := n0 b3 t2 h2
    have t3 : ∀ t ∈ T3, 2 ≤ t := fun t ht => by
      rcases b4 t ht with h | h
      · exact t2 t h
      · omega
    rw [stays_c_sl (l4 h3), stays_c_sl (l3 h3), V.stays_nil, cond_true]
    have q1 := textI_len r.root
    have q2 := textI_len r.body
    obtain ⟨H4, T4, c1, c2, c3, c4⟩ := c44 (n + 7) b2 r.body (by simp; omega)
    rw [c1, Option.bind_some]
    simp only
    have h4 := n0 c3 t3 h3
    have hL3 := b3.len
    have hL4 := c3.len
    have t4 : ∀ t ∈ T4, 2 ≤ t := fun t ht => by
      rcases c4 t ht with h | h
      · exact t3 t h
      · omega
    rw [stays_c_sl (l4 h4), stays_c_sl (l3 h4), stays_c_str (l1 h4), V.stays_nil, cond_true]
    obtain ⟨H5, T5, d1, d2, d3, d4⟩ := c45 (n + 6) c2 hq.f (by simp; omega) (by omega)
    rw [d1, Option.bind_some]
    simp only
    have h5 := n0 d3 t4 h4
    rw [stays_c_sl (l3 h5), stays_c_str (l1 h5), V.stays_nil, cond_true]
    have q3 : (textsI r.refs).length = 1 + szs r.refs := by show (_ :: _).length = _; rw [List.length_cons]; show szs r.refs + 1 = _; omega
    obtain ⟨s', H', m1, m2⟩ := c46 (n + 8) d2 (by simp; omega)
    refine ⟨s', H', m1, ?_⟩
    have hacc : (([b1 r.kind] ++ textI r.root) ++ textI r.body) ++ textsI r.refs = [b1 r.kind] ++ (textI r.root ++ (textI r.body ++ textsI r.refs)) := by simp only [List.append_assoc]
    rw [hacc] at m2
    exact m2
  · have hq1 : ((r.kind : Int) == 1) = false := by simp; omega
    rw [hq1, cond_false, Option.bind_some, p38 (n + 9) hk, Option.bind_some, if_neg h1, List.nil_append]
    simp only
    cases hp : pathedP r.kind with
    | true =>
      have hrp := hr.p
      rw [if_pos rfl, cond_true]
      have l2 : ldV (.flat .str) H2 (.ob 0 2) = some ⟨r.path.toArray⟩ := by rw [ld_row h2]; rfl
      rw [l2, Option.bind_some]
      obtain ⟨H3, T3, b1', b2, b3, b4⟩ := c44 (n + 7) a2 r.path (by simp; omega)
      rw [b1', Option.bind_some]
      simp only
      have t1 := textI_len r.path
      exact c46 (n + 8) b2 (by simp; omega)
    | false =>
      have hq7 : ((r.kind : Int) == 7) = false := by simp; omega
      rw [if_neg (by simp), cond_false, List.append_nil, l0 h2, Option.bind_some, hq7, cond_false]
      exact c46 (n + 8) a2 (by simp)
end Go.Proofs.YtcnigofmjffamaaDoor
