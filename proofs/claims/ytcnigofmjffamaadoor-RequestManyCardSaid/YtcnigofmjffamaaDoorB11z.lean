import Derived.Test.YtcnigofmjffamaaDoorB11y
set_option maxRecDepth 100000
set_option linter.unusedVariables false
set_option linter.unusedSimpArgs false
namespace Go.Proofs.YtcnigofmjffamaaDoor
open Go.Proofs.YtcnigofmjffamaaDoor.Sh Go.Proofs.YtcnigofmjffamaaDoor.Sh.V Go.RowKit
theorem enc_any {f : FuncId} (hf : tab.lone f = true) (n : Nat) {r : PR} (hb : ∀ {s3 s4 s5 : VS}, RQ r s3 s4 s5 → ∃ s' H', bodyV P tab (vF P tab (n + 10)) (n + 10) f [.agg [.int .u8 (r.kind : Int), .str ⟨r.root.toArray⟩, .str ⟨r.path.toArray⟩, .sl 5 s3, .sl 9 s4, .sl 34 s5]] [] = some (.sl 5 s', H') ∧ IsB s' (encP r)) {s3 s4 s5 : VS} (hq : RQ r s3 s4 s5) (H : VH) :
    ∃ s', V.callD (vF P tab (n + 11)) P false (.one (.flat (.slice 5))) f [.agg [.int .u8 (r.kind : Int), .str ⟨r.root.toArray⟩, .str ⟨r.path.toArray⟩, .sl 5 s3, .sl 9 s4, .sl 34 s5]] H = some (s', H) ∧ IsB s' (encP r) := by
  obtain ⟨s', H', h1, h2⟩ := hb hq.strip
  refine ⟨s'.strip, callD_sl ?_, h2.strip⟩
  refine vF_lone (n := n + 10) (r := .sl 5 s') (H1 := H') hf ?_ h1 (closed_sl 5 h2)
  have := hq.cl (r.kind : Int) ⟨r.root.toArray⟩ ⟨r.path.toArray⟩
  show (List.all _ closed1 && true) = true
  rw [this]; rfl
theorem e17 (n : Nat) (hn : 70000 ≤ n) {r : PR} (hr : SmallR r) {s3 s4 s5 : VS} (hq : RQ r s3 s4 s5) (H : VH) :
    ∃ s', V.callD (vF P tab (n + 11)) P false (.one (.flat (.slice 5))) 17 [.agg [.int .u8 (r.kind : Int), .str ⟨r.root.toArray⟩, .str ⟨r.path.toArray⟩, .sl 5 s3, .sl 9 s4, .sl 34 s5]] H = some (s', H) ∧ IsB s' (encP r) :=
  enc_any rfl n (fun hq => by
    by_cases h7 : r.kind = 7
    · exact b17_7 n hn hr h7 hq
    · exact b17 n hn hr h7 hq) hq H
theorem e15 (n : Nat) (hn : 70000 ≤ n) {r : PR} (hr : SmallR r) {s3 s4 s5 : VS} (hq : RQ r s3 s4 s5) (H : VH) :
    ∃ s', V.callD (vF P tab (n + 11)) P false (.one (.flat (.slice 5))) 15 [.agg [.int .u8 (r.kind : Int), .str ⟨r.root.toArray⟩, .str ⟨r.path.toArray⟩, .sl 5 s3, .sl 9 s4, .sl 34 s5]] H = some (s', H) ∧ IsB s' (encP r) :=
  enc_any rfl n (fun hq => b15 n hn hr hq) hq H
theorem strEq_comm (a b : List UInt8) : strEq ⟨a.toArray⟩ ⟨b.toArray⟩ = strEq ⟨b.toArray⟩ ⟨a.toArray⟩ := by
  rw [strEq_iff, strEq_iff]; exact decide_eq_decide.2 ⟨Eq.symm, Eq.symm⟩
theorem requestFields_law (us : List V) (h : HasAs P [5, 9, 9, 22] us) : ∃ n H', vF P tab n 6 us [] = some (.bool true, H') := by
  match us, h with
  | [u0, u1, u2, u3], ⟨h0, h1, h2, h3, _⟩ =>
    obtain ⟨x, rfl, hx⟩ := hasA_int (k := .u8) (by kernel_rfl) h0
    obtain ⟨path, rfl, _⟩ := hasA_str (by kernel_rfl) h1
    obtain ⟨name, rfl, _⟩ := hasA_str (by kernel_rfl) h2
    obtain ⟨s, p, rfl, g1, g2⟩ := hasA_bytes (e := 5) (by kernel_rfl) (by kernel_rfl) h3
    obtain ⟨x1, x2⟩ := wf_u8 hx
    obtain ⟨k, rfl⟩ : ∃ k : Nat, x = (k : Int) := ⟨x.toNat, by omega⟩
    obtain ⟨N, hN⟩ : ∃ N, 70000 ≤ N := ⟨70000, Nat.le_refl _⟩
    refine ⟨N + 62, ?_⟩
    rw [vF_body rfl, f6_eq, callD_bool (lone_ok (N + 1) []), Option.bind_some]
    simp only [Bool.not_true, cond_false]
    have z1 : (((⟨path.toArray⟩ : ByteArray).size : Nat) : Int) = (path.length : Int) := by simp [ByteArray.size]
    have z2 : (((⟨name.toArray⟩ : ByteArray).size : Nat) : Int) = (name.length : Int) := by simp [ByteArray.size]
    have z3 : s.len = p.length := by rw [g1.len]; simp
    rw [z1, z2, z3]
    by_cases b1 : 60 < path.length
    · rw [decide_eq_true (by omega), cond_true, callD_bool (lone_ok (N + 1) []), Option.bind_some]
      exact ⟨_, rfl⟩
    have d1 : decide ((path.length : Int) > 60) = false := decide_eq_false (by omega)
    rw [d1, cond_false]
    by_cases b2 : 60 < name.length
    · have d2 : decide ((name.length : Int) > 60) = true := decide_eq_true (by omega)
      rw [d2, cond_true, callD_bool (lone_ok (N + 1) []), Option.bind_some]
      exact ⟨_, rfl⟩
    have d2 : decide ((name.length : Int) > 60) = false := decide_eq_false (by omega)
    rw [d2, cond_false]
    by_cases b3 : 100 < p.length
    · have d3 : decide ((p.length : Int) > 100) = true := decide_eq_true (by omega)
      rw [d3, cond_true, callD_bool (lone_ok (N + 1) []), Option.bind_some]
      exact ⟨_, rfl⟩
    have d3 : decide ((p.length : Int) > 100) = false := decide_eq_false (by omega)
    rw [d3, cond_false, show (12 : Int) = ((12 : Nat) : Int) from rfl, remI_nat (by decide), Option.bind_some]
    have hcl : List.all [V.str ⟨name.toArray⟩, .sl 5 s, .sl 9 .nil, .sl 3 .nil] closed1 = true := by
      have e1 := g1.closed 5
      simp only [List.all_cons, List.all_nil, e1]; rfl
    rw [if_pos hcl]
    have hw : IntKind.wrap .u8 (1 + ((k % 12 : Nat) : Int)) = ((1 + k % 12 : Nat) : Int) := by
      have : (1 + ((k % 12 : Nat) : Int)) = ((1 + k % 12 : Nat) : Int) := by omega
      rw [this]; exact wrap_u8_nat (by omega)
    rw [hw]
    obtain ⟨c, hc⟩ : ∃ c, c = 1 + k % 12 := ⟨_, rfl⟩
    rw [← hc]
    have hc12 : 1 ≤ c ∧ c ≤ 12 := by omega
    obtain ⟨r, hr⟩ : ∃ r : PR, r = ⟨c, name, path, p, [path], [⟨name, p, [], []⟩]⟩ := ⟨_, rfl⟩
    have hq : RQ r s (.fz [[.str ⟨path.toArray⟩]] (.ex 1)) (.fz [[.str ⟨name.toArray⟩, .sl 5 s.strip, .sl 9 .nil, .sl 3 .nil]] (.ex 1)) := by
      subst hr
      exact ⟨g1, .fz _ _, _, .fz _ _, .cons ⟨_, _, _, rfl, g1.strip, .nil, .nil⟩ .nil⟩
    have hz : szs [path] = 2 + path.length := by simp [szs, textI_len]
    have hsm : SmallR r := by
      subst hr
      refine ⟨by simp only; omega, by simp only; omega, by simp only; omega, ?_, by simp, by simp only; omega, by simp, ?_⟩
      · simp only; rw [hz]; omega
      · intro o ho
        rw [List.mem_singleton] at ho
        subst ho
        exact ⟨by simp only; omega, by simp only; omega, by simp [szs], by simp, by simp⟩
    have hfi : FineR r := by
      subst hr
      refine ⟨by simp only; omega, by simp only; omega, by simp only; omega, by simp only; omega, ?_, by simp, fun _ => ⟨by simp, by simp, ?_⟩⟩
      · intro y hy
        rw [List.mem_singleton] at hy
        subst hy; omega
      · intro j o ho
        cases j with
        | zero =>
          injection ho with ho
          subst ho
          exact ⟨by simp only; omega, by simp only; omega, (fun y hy => by cases hy), by simp, by simp, (fun y hy => by cases hy)⟩
        | succ j => cases ho
    have hel : (encP r).length ≤ 2048 := by
      subst hr
      have q1 := textI_len name
      have q2 := textI_len p
      have q3 := textI_len path
      unfold encP
      simp only [List.length_append, List.length_singleton]
      have w1 : (if c = 1 then textI name ++ (textI p ++ textsI [path]) else []).length ≤ 300 := by
        split
        · have : (textsI [path]).length = 1 + szs [path] := by show (_ :: _).length = _; rw [List.length_cons]; show szs [path] + 1 = _; omega
          simp only [List.length_append]; omega
        · simp
      have w2 : (if pathedP c = true then textI path else []).length ≤ 100 := by
        split
        · omega
        · simp
      have w3 : (if c = 7 then Go.Proofs.YtcnigofmjffamaaDoor.b1 1 :: (([⟨name, p, [], []⟩] : List PO).map outI).flatten else []).length ≤ 300 := by
        split
        · simp [outI, textsI, q1, q2]; omega
        · simp
      omega
    have hd := decP_encP hfi hel
    have r0 : (([] : VH) ++ [VO.row QT Z6])[([] : VH).length]? = some (.row QT Z6) := rfl
    rw [st_row r0 (by simp) rfl, Option.bind_some]
    obtain ⟨H1, e1⟩ : ∃ H1 : VH, H1 = List.set (([] : VH) ++ [VO.row QT Z6]) ([] : VH).length (.row QT (putAllV Z6 0 [.int .u8 (c : Int), .str ⟨name.toArray⟩, .str ⟨path.toArray⟩, .sl 5 s, .sl 9 (.fz [[.str ⟨path.toArray⟩]] (.ex 1)), .sl 34 (.fz [[.str ⟨name.toArray⟩, .sl 5 s.strip, .sl 9 .nil, .sl 3 .nil]] (.ex 1))])) := ⟨_, rfl⟩
    rw [← e1]
    have hA : H1[0]? = some (.row QT [.int .u8 (c : Int), .str ⟨name.toArray⟩, .str ⟨path.toArray⟩, .sl 5 s, .sl 9 (.fz [[.str ⟨path.toArray⟩]] (.ex 1)), .sl 34 (.fz [[.str ⟨name.toArray⟩, .sl 5 s.strip, .sl 9 .nil, .sl 3 .nil]] (.ex 1))]) := by rw [e1]; rfl
    have hL : H1.length = 1 := by rw [e1]; rfl
    have hl0 : ([] : VH).length = 0 := rfl
    rw [hl0, ld_q hA, Option.bind_some]
    simp only
    obtain ⟨s1, a1, a2⟩ := e17 (N + 50) (by omega) hsm hq H1
    have hk1 : (r.kind : Int) = (c : Int) := by rw [hr]
    have hk2 : r.root = name := by rw [hr]
    have hk3 : r.path = path := by rw [hr]
    rw [hk1, hk2, hk3] at a1
    rw [a1, Option.bind_some]
    simp only
    obtain ⟨t3, t4, t5, c1, c2⟩ := lone14 14 rfl (N + 46) (fun hs hl => b14 (N + 46) (by omega) hs hl) a2 (by omega) H1
    rw [c1, Option.bind_some]
    simp only
    rw [hd] at c2 ⊢
    simp only at c2 ⊢
    have r1 : (H1 ++ [VO.row QT Z6])[H1.length]? = some (.row QT Z6) := by simp
    rw [st_row r1 (by simp) rfl, Option.bind_some]
    obtain ⟨H2, e2⟩ : ∃ H2 : VH, H2 = List.set (H1 ++ [VO.row QT Z6]) H1.length (.row QT (putAllV Z6 0 [.int .u8 ((keepR r).kind : Int), .str ⟨(keepR r).root.toArray⟩, .str ⟨(keepR r).path.toArray⟩, .sl 5 t3, .sl 9 t4, .sl 34 t5])) := ⟨_, rfl⟩
    rw [← e2]
    have hB : H2[H1.length]? = some (.row QT [.int .u8 ((keepR r).kind : Int), .str ⟨(keepR r).root.toArray⟩, .str ⟨(keepR r).path.toArray⟩, .sl 5 t3, .sl 9 t4, .sl 34 t5]) := by rw [e2, List.getElem?_set_self (by simp)]; rfl
    have hC : H2[0]? = some (.row QT [.int .u8 (c : Int), .str ⟨name.toArray⟩, .str ⟨path.toArray⟩, .sl 5 s, .sl 9 (.fz [[.str ⟨path.toArray⟩]] (.ex 1)), .sl 34 (.fz [[.str ⟨name.toArray⟩, .sl 5 s.strip, .sl 9 .nil, .sl 3 .nil]] (.ex 1))]) := by rw [e2, List.getElem?_set_ne (by omega), List.getElem?_append_left (by omega)]; exact hA
    rw [show (((0 : Nat) : Int) != 0) = false from rfl, cond_false, ld_q hC, Option.bind_some]
    simp only
    obtain ⟨s2, f1, f2⟩ := e15 (N + 50) (by omega) hsm hq H2
    rw [hk1, hk2, hk3] at f1
    rw [f1, Option.bind_some]
    simp only
    rw [callD_bool (e18 (N + 60) a2 f2 (by rw [maxLen_eq]; omega) (by omega)), Option.bind_some]
    simp only [decide_true, Bool.not_true, cond_false]
    obtain ⟨q, hqq⟩ : ∃ q, q = H1.length := ⟨_, rfl⟩
    rw [← hqq] at hB ⊢
    have l0 : ldV (.flat (.int .u8)) H2 (.ob q 0) = some ((keepR r).kind : Int) := by rw [ld_row hB]; exact fd_int .u8 _
    have l1 : ldV (.flat .str) H2 (.ob q 1) = some ⟨(keepR r).root.toArray⟩ := by rw [ld_row hB]; rfl
    have l2 : ldV (.flat .str) H2 (.ob q 2) = some ⟨(keepR r).path.toArray⟩ := by rw [ld_row hB]; rfl
    have l3 : ldV (.flat (.slice 5)) H2 (.ob q 3) = some t3 := by rw [ld_row hB]; exact fd_sl 5 t3
    have l4 : ldV (.flat (.slice 9)) H2 (.ob q 4) = some t4 := by rw [ld_row hB]; exact fd_sl 9 t4
    have l5 : ldV (.flat (.slice 34)) H2 (.ob q 5) = some t5 := by rw [ld_row hB]; exact fd_sl 34 t5
    have l0' : ldV (.flat (.int .u8)) H2 (.ob 0 0) = some (c : Int) := by rw [ld_row hC]; exact fd_int .u8 _
    obtain ⟨es, o1, o2⟩ := c2.o
    have n3 : t3.len = (keepR r).body.length := by rw [c2.b.len]; simp
    have n4 : t4.len = (keepR r).refs.length := by rw [c2.f.len, ss_len]
    have n5 : t5.len = (keepR r).outs.length := by rw [o1.len, o2.len]
    simp only [l0, l1, l2, l3, l4, l5, l0', n3, n4, n5, Option.bind_some]
    clear l0 l1 l2 l3 l4 l5 l0' n3 n4 n5 c2 o1 o2 hB hC c1 f1 f2 a1 a2 hd e2 e1 hq hsm hfi hel hw
    have hcc : c = 1 ∨ c = 2 ∨ c = 3 ∨ c = 4 ∨ c = 5 ∨ c = 6 ∨ c = 7 ∨ c = 8 ∨ c = 9 ∨ c = 10 ∨ c = 11 ∨ c = 12 := by omega
    have hs1 := strEq_comm [] name
    have hs2 := strEq_comm [] path
    have hs3 : strEq ⟨name.toArray⟩ ⟨name.toArray⟩ = true := strEq_self _
    have hs4 : strEq ⟨path.toArray⟩ ⟨path.toArray⟩ = true := strEq_self _
    have hs5 : (⟨([] : List UInt8).toArray⟩ : ByteArray) = ⟨#[]⟩ := rfl
    rw [hs5] at hs1 hs2
    rcases hcc with h | h | h | h | h | h | h | h | h | h | h | h <;> subst h <;> subst hr <;> simp [keepR, pathedP, hs1, hs2, hs3, hs4]
end Go.Proofs.YtcnigofmjffamaaDoor
