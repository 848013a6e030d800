import Derived.Test.YtcnigofmjffamaaDoorB11v
set_option maxRecDepth 100000
set_option linter.unusedVariables false
set_option linter.unusedSimpArgs false
namespace Go.Proofs.YtcnigofmjffamaaDoor
open Go.Proofs.YtcnigofmjffamaaDoor.Sh Go.Proofs.YtcnigofmjffamaaDoor.Sh.V Go.RowKit
/-- Encode, kind 7. -/
theorem b17_7 (n : Nat) (hn : 70000 ≤ n) {r : PR} (hr : SmallR r) (h7 : r.kind = 7) {s3 s4 s5 : VS} (hq : RQ r s3 s4 s5) :
    ∃ s' H', bodyV P tab (vF P tab (n + 10)) (n + 10) 17 [.agg [.int .u8 (r.kind : Int), .str ⟨r.root.toArray⟩, .str ⟨r.path.toArray⟩, .sl 5 s3, .sl 9 s4, .sl 34 s5]] [] = some (.sl 5 s', H') ∧ IsB s' (encP r) := by
  rw [f17_eq]
  obtain ⟨H1, e1⟩ : ∃ H1 : VH, H1 = [VO.row QT [.int .u8 (r.kind : Int), .str ⟨r.root.toArray⟩, .str ⟨r.path.toArray⟩, .sl 5 s3, .sl 9 s4, .sl 34 s5], .row (86 + boxK) [.sl 5 .nil]] := ⟨_, rfl⟩
  have hH1 : List.append (α := VO) (([] : VH) ++ [.row (31 + boxK) [.int .u8 (r.kind : Int), .str ⟨r.root.toArray⟩, .str ⟨r.path.toArray⟩, .sl 5 s3, .sl 9 s4, .sl 34 s5]]) [.row (86 + boxK) [.sl 5 .nil]] = H1 := by rw [e1]; rfl
  rw [hH1]
  have hz : List.length (([] ++ [.row (31 + boxK) [.int .u8 (r.kind : Int), .str ⟨r.root.toArray⟩, .str ⟨r.path.toArray⟩, .sl 5 s3, .sl 9 s4, .sl 34 s5]]) : VH) = 1 := rfl
  rw [hz]
  have hz0 : List.length ([] : VH) = 0 := rfl
  rw [hz0]
  have h0 : H1[0]? = some (.row QT [.int .u8 (r.kind : Int), .str ⟨r.root.toArray⟩, .str ⟨r.path.toArray⟩, .sl 5 s3, .sl 9 s4, .sl 34 s5]) := by rw [e1]; rfl
  have l0 : ∀ {H : VH}, H[0]? = some (.row QT [.int .u8 (r.kind : Int), .str ⟨r.root.toArray⟩, .str ⟨r.path.toArray⟩, .sl 5 s3, .sl 9 s4, .sl 34 s5]) → ldV (.flat (.int .u8)) H (.ob 0 0) = some (r.kind : Int) := fun h => by rw [ld_row h]; exact fd_int .u8 _
  have hk := hr.k
  have hw : WS H1 1 [] [] := ⟨.nil, by rw [e1]; rfl, .nil, rfl⟩
  have hL1 : H1.length = 2 := by rw [e1]; rfl
  rw [l0 h0, Option.bind_some]
  obtain ⟨H2, T2, a1, a2, a3, a4⟩ := c43 (n + 8) hw r.kind (by simp)
  rw [wrap_u8_nat hk] at a1
  rw [a1, Option.bind_some]
  simp only
  have n0 : ∀ {H H' : VH} {T : List Nat} {o : VO}, Kp H H' (1 :: T) → (∀ t ∈ T, 2 ≤ t) → H[0]? = some o → H'[0]? = some o := fun k ht h => k.ob h (by simp; intro h; have := ht 0 h; omega)
  have h2 := n0 a3 (fun t ht => by cases ht) h0
  have t2 : ∀ t ∈ T2, 2 ≤ t := fun t ht => by
    rcases a4 t ht with h | h
    · cases h
    · omega
  have hL2 := a3.len
  rw [l0 h2, Option.bind_some]
  rw [List.nil_append] at a2
  have h1 : r.kind ≠ 1 := by omega
  have hpf : pathedP r.kind = false := by rw [h7]; rfl
  unfold encP
  rw [if_neg h1, hpf, if_neg (by simp), if_pos h7, List.nil_append, List.nil_append]
  have hq1 : ((r.kind : Int) == 1) = false := by simp; omega
  have hq7 : ((r.kind : Int) == 7) = true := by rw [h7]; rfl
  rw [hq1, cond_false, Option.bind_some, p38 (n + 9) hk, Option.bind_some]
  simp only
  rw [hpf, cond_false, l0 h2, Option.bind_some, hq7, cond_true]
  obtain ⟨es, o1, o2⟩ := hq.o
  have l5 : ∀ {H : VH}, H[0]? = some (.row QT [.int .u8 (r.kind : Int), .str ⟨r.root.toArray⟩, .str ⟨r.path.toArray⟩, .sl 5 s3, .sl 9 s4, .sl 34 s5]) → ldV (.flat (.slice 34)) H (.ob 0 5) = some s5 := fun h => by rw [ld_row h]; exact fd_sl 34 s5
  rw [l5 h2, Option.bind_some, o1.len, o2.len]
  obtain ⟨H3, T3, b1', b2, b3, b4⟩ := c43 (n + 8) a2 r.outs.length (by simp)
  rw [b1', Option.bind_some]
  simp only
  have h3 := n0 b3 t2 h2
  rw [l5 h3, Option.bind_some, o1.len, o2.len]
  have hL3 := b3.len
  obtain ⟨s', H', m1, m2⟩ := l170 n hn (B := 2) (k := 1) (by omega) o1 o2 hr.o hr.q (n + 10) 0 b2 (fun t ht => ⟨by
    rcases b4 t ht with h | h
    · exact t2 t h
    · omega, by obtain ⟨s, _, g2, rfl⟩ := b2; obtain ⟨_, hg⟩ := g2.tok_at ht; exact lt_of_ob hg⟩) (by omega) (by simp) (by omega) (by have := hr.o; omega)
  refine ⟨s', H', m1, ?_⟩
  rw [List.append_assoc] at m2
  exact m2
end Go.Proofs.YtcnigofmjffamaaDoor
