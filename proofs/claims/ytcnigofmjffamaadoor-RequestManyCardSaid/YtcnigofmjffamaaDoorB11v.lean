import Derived.Test.YtcnigofmjffamaaDoorB11u
set_option maxRecDepth 100000
set_option linter.unusedVariables false
set_option linter.unusedSimpArgs false
namespace Go.Proofs.YtcnigofmjffamaaDoor
open Go.Proofs.YtcnigofmjffamaaDoor.Sh Go.Proofs.YtcnigofmjffamaaDoor.Sh.V Go.RowKit
theorem hj_two (a b : VP × V.FT × V) (c : Held) : V.hj [a, b] c = a :: b :: c := rfl
theorem l170 (n : Nat) (hn : 70000 ≤ n) {B k : Nat} (hkB : k < B) {sp : VS} {ep : List (List V)} {l : List PO} (hp : IsE sp ep) (hv : OutsV ep l) (hl : l.length ≤ 4) (hs : ∀ o ∈ l, Small o) :
    ∀ (m j : Nat) {H : VH} {T : List Nat} {acc : List UInt8}, WS H k T acc → (∀ t ∈ T, B ≤ t ∧ t < H.length) → B ≤ H.length → acc.length < 1000 + j * 213000 → j ≤ l.length → l.length < j + m →
      ∃ s' H', L17_0 (n + 10) m k sp (l.length : Int) (j : Int) H = some (.sl 5 s', H') ∧ IsB s' (acc ++ ((l.drop j).map outI).flatten) := by
  intro m
  induction m with
  | zero => intro j H T acc _ _ _ _ a b; omega
  | succ m ih =>
    intro j H T acc hw hT hB hsz h1 h2
    rw [L17_0_eq]
    by_cases hj : j < l.length
    · rw [decide_eq_true (by omega), cond_true]
      obtain ⟨o, ho⟩ := get_of hj
      obtain ⟨c, hc1, hc2⟩ := hv.at ho
      obtain ⟨a1, a2, a3, rfl, a5, a6, a7⟩ := hc2
      obtain ⟨z1, z2, z3, z4, z5⟩ := hs o (List.mem_of_getElem? ho)
      rw [hp.ix hc1 4, Option.bind_some, ld_fz, Option.bind_some]
      have r0 : (H ++ [VO.row OT [.str ⟨#[]⟩, .sl 5 .nil, .sl 9 .nil, .sl 3 .nil]])[H.length]? = some (.row OT [.str ⟨#[]⟩, .sl 5 .nil, .sl 9 .nil, .sl 3 .nil]) := by simp
      simp only
      rw [st_row r0 (by simp) rfl, Option.bind_some]
      obtain ⟨q, hq⟩ : ∃ q, q = H.length := ⟨_, rfl⟩
      obtain ⟨H1, e1⟩ : ∃ H1 : VH, H1 = List.set (H ++ [VO.row OT [.str ⟨#[]⟩, .sl 5 .nil, .sl 9 .nil, .sl 3 .nil]]) H.length (.row OT (putAllV [.str ⟨#[]⟩, .sl 5 .nil, .sl 9 .nil, .sl 3 .nil] 0 [.str ⟨o.name.toArray⟩, .sl 5 a1, .sl 9 a2, .sl 3 a3])) := ⟨_, rfl⟩
      rw [← e1, ← hq]
      have kA : Kp H H1 [] := by
        rw [e1]; exact ⟨by simp, fun i hi _ => by rw [List.getElem?_set_ne (by omega), List.getElem?_append_left hi]⟩
      have hO1 : H1[q]? = some (.row OT [.str ⟨o.name.toArray⟩, .sl 5 a1, .sl 9 a2, .sl 3 a3]) := by rw [e1, hq, List.getElem?_set_self (by simp)]; rfl
      have hw1 := hw.keep kA (by simp) (fun t ht => by simp)
      rw [ld_o0 hO1, Option.bind_some, ld_o1 hO1, Option.bind_some, a5.str, Option.bind_some, ld_o2 hO1, Option.bind_some, ld_o3 hO1, Option.bind_some, heldStr_B a5]
      simp only [hj_nil, hj_one, hj_two]
      have hl1 := lt_of_ob hO1
      have hlA := kA.len
      have hj4 : j ≤ 3 := by omega
      have t1 := textI_len o.name
      have t2 := textI_len o.arc
      have t3 : (textsI o.refs).length = 1 + szs o.refs := by show (_ :: _).length = _; rw [List.length_cons]; show szs o.refs + 1 = _; omega
      have hkl : k < H.length := by omega
      have nq : ∀ {H' H'' : VH} {T' : List Nat} {c : VO}, Kp H' H'' (k :: T') → (∀ t ∈ T', B ≤ t ∧ t ≠ q) → H'[q]? = some c → H''[q]? = some c := fun kp ht h => kp.ob h (fun hm => by
        rcases List.mem_cons.1 hm with h | h
        · omega
        · exact (ht q h).2 rfl)
      have tk0 : ∀ t ∈ T, B ≤ t ∧ t ≠ q := fun t ht => by have := hT t ht; omega
      obtain ⟨H2, T2, b1', b2, b3, b4⟩ := c44 (n + 7) hw1 o.name (by omega)
      rw [b1', Option.bind_some]
      simp only
      have hl2 := b3.len
      have tk2 : ∀ t ∈ T2, B ≤ t ∧ t ≠ q := fun t ht => by
        rcases b4 t ht with h | h
        · exact tk0 t h
        · omega
      have hO2 := nq b3 tk0 hO1
      rw [stays_c_sl (ld_o3 hO2), stays_c_sl (ld_o2 hO2), stays_c_sl (ld_o1 hO2), V.stays_nil, cond_true]
      obtain ⟨H3, T3, c1, c2, c3, c4⟩ := c44 (n + 7) b2 o.arc (by simp; omega)
      rw [c1, Option.bind_some]
      simp only
      have hl3 := c3.len
      have tk3 : ∀ t ∈ T3, B ≤ t ∧ t ≠ q := fun t ht => by
        rcases c4 t ht with h | h
        · exact tk2 t h
        · omega
      have hO3 := nq c3 tk2 hO2
      rw [stays_c_sl (ld_o3 hO3), stays_c_sl (ld_o2 hO3), stays_c_sl (ld_o1 hO3), stays_c_str (ld_o0 hO3), V.stays_nil, cond_true]
      obtain ⟨H4, T4, d1, d2, d3, d4⟩ := c45 (n + 6) c2 a6 (by simp; omega) (by omega)
      rw [d1, Option.bind_some]
      simp only
      have hl4 := d3.len
      have tk4 : ∀ t ∈ T4, B ≤ t ∧ t ≠ q := fun t ht => by
        rcases d4 t ht with h | h
        · exact tk3 t h
        · omega
      have hO4 := nq d3 tk3 hO3
      rw [stays_c_sl (ld_o3 hO4), stays_c_sl (ld_o1 hO4), stays_c_str (ld_o0 hO4), V.stays_nil, cond_true, a7.len, ns_len]
      obtain ⟨H5, T5, f1, f2, f3, f4⟩ := c43 (n + 8) d2 o.needs.length (by simp; omega)
      rw [f1, Option.bind_some]
      simp only
      have hl5 := f3.len
      have tk5 : ∀ t ∈ T5, B ≤ t ∧ t ≠ q := fun t ht => by
        rcases f4 t ht with h | h
        · exact tk4 t h
        · omega
      have hO5 := nq f3 tk4 hO4
      rw [stays_c_sl (ld_o3 hO5), stays_c_sl (ld_o2 hO5), stays_c_sl (ld_o1 hO5), stays_c_str (ld_o0 hO5), V.stays_nil, cond_true, ld_o3 hO5, Option.bind_some, a7.len, ns_len]
      obtain ⟨T6, H6, m1, m2, m3, m4, m5⟩ := l171 n m (B := B) (k := k) (s48 := sp) (s49 := (l.length : Int)) (s50 := (j : Int)) a7 (by omega) (n + 10) 0 f2 (fun t ht => (tk5 t ht).1) (by omega) (by simp; omega) (by omega) (by omega)
      have m1' : L17_1 (n + 10) m (n + 10) k sp (l.length : Int) (j : Int) a3 (o.needs.length : Int) 0 H5 = L17_0 (n + 10) m k sp (l.length : Int) (IntKind.wrap .i64 ((j : Int) + 1)) H6 := m1
      rw [m1', inc_nat (by omega)]
      have e2 : l.drop j = o :: l.drop (j + 1) := by
        rw [List.drop_eq_getElem_cons hj]; rw [List.getElem?_eq_getElem hj] at ho; injection ho with ho; rw [ho]
      have hacc : (((acc ++ textI o.name) ++ textI o.arc) ++ textsI o.refs) ++ [b1 o.needs.length] ++ (o.needs.drop 0).map b1 = acc ++ outI o := by simp [outI]
      rw [hacc] at m2
      have hol : (outI o).length < 213000 := by
        unfold outI
        simp only [List.length_append, List.length_cons, List.length_map, t1, t2, t3]
        omega
      have tk6 : ∀ t ∈ T6, B ≤ t ∧ t < H6.length := fun t ht => ⟨m3 t ht, by obtain ⟨s, _, g2, rfl⟩ := m2; obtain ⟨_, hg⟩ := g2.tok_at ht; exact lt_of_ob hg⟩
      obtain ⟨s', H', n1, n2⟩ := ih (j + 1) m2 tk6 (by omega) (by simp; omega) (by omega) (by omega)
      refine ⟨s', H', n1, ?_⟩
      rw [e2, List.map_cons, List.flatten_cons]
      rw [List.append_assoc] at n2
      exact n2
    · rw [decide_eq_false (by omega), cond_false, List.drop_eq_nil_of_le (by omega)]
      obtain ⟨s', H', m1, m2⟩ := c46 (n + 8) hw (by omega)
      exact ⟨s', H', m1, by simpa using m2⟩
end Go.Proofs.YtcnigofmjffamaaDoor
