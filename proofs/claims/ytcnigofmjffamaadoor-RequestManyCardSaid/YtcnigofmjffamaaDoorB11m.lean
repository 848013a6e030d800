import Derived.Test.YtcnigofmjffamaaDoorB11j
set_option maxRecDepth 100000
set_option linter.unusedVariables false
set_option linter.unusedSimpArgs false
namespace Go.Proofs.YtcnigofmjffamaaDoor
open Go.Proofs.YtcnigofmjffamaaDoor.Sh Go.Proofs.YtcnigofmjffamaaDoor.Sh.V Go.RowKit
/-- What a request's cells are. -/
structure RQ (r : PR) (s3 s4 s5 : VS) : Prop where
  b : IsB s3 r.body
  f : IsE s4 (ss r.refs)
  o : ∃ es, IsE s5 es ∧ OutsV es r.outs
theorem RQ.strip {r : PR} {s3 s4 s5 : VS} (h : RQ r s3 s4 s5) : RQ r s3.strip s4.strip s5.strip := ⟨h.b.strip, h.f.strip, h.o.elim fun es h => ⟨es, h.1.strip, h.2⟩⟩
theorem ReqV.rq {cs : List V} {r : PR} (h : ReqV cs r) : ∃ s3 s4 s5, cs = [.int .u8 (r.kind : Int), .str ⟨r.root.toArray⟩, .str ⟨r.path.toArray⟩, .sl 5 s3, .sl 9 s4, .sl 34 s5] ∧ RQ r s3 s4 s5 := by
  obtain ⟨s3, s4, s5, es, rfl, h1, h2, h3, h4⟩ := h
  exact ⟨s3, s4, s5, rfl, h1, h2, es, h3, h4⟩
theorem RQ.cl {r : PR} {s3 s4 s5 : VS} (h : RQ r s3 s4 s5) (k : Int) (a b : ByteArray) : List.all [V.int .u8 k, .str a, .str b, .sl 5 s3, .sl 9 s4, .sl 34 s5] closed1 = true := by
  obtain ⟨es, h3, _⟩ := h.o
  have e1 := h.b.closed 5
  have e2 := h.f.closed 9
  have e3 := h3.closed 34
  simp only [List.all_cons, List.all_nil, e1, e2, e3]; rfl
theorem lone14 (f : FuncId) (hf : tab.lone f = true) (n : Nat) (hb : ∀ {s : VS} {l : List UInt8}, IsB s l → l.length < 1000000 → ∃ cs H', bodyV P tab (vF P tab (n + 14)) (n + 14) f [.sl 5 s] [] = some (.tup [.agg cs, .int .i64 ((decP l).2 : Int)], H') ∧ ReqV cs (decP l).1) {s : VS} {l : List UInt8} (hs : IsB s l) (hl : l.length < 1000000) (H : VH) :
    ∃ s3 s4 s5, V.callD (vF P tab (n + 15)) P false (.tup [(.agg [.int .u8, .str, .str, .slice 5, .slice 9, .slice 34]), (.flat (.int .i64))]) f [.sl 5 s] H = some (((((decP l).1.kind : Int), ⟨(decP l).1.root.toArray⟩, ⟨(decP l).1.path.toArray⟩, s3, s4, s5, ()), ((decP l).2 : Int), ()), H) ∧ RQ (decP l).1 s3 s4 s5 := by
  obtain ⟨cs, H', h1, h2⟩ := hb hs.strip hl
  obtain ⟨s3, s4, s5, rfl, h3⟩ := h2.rq
  refine ⟨s3.strip, s4.strip, s5.strip, ?_, h3.strip⟩
  refine callD_some (.tup [.agg [.int .u8 ((decP l).1.kind : Int), .str ⟨(decP l).1.root.toArray⟩, .str ⟨(decP l).1.path.toArray⟩, .sl 5 s3.strip, .sl 9 s4.strip, .sl 34 s5.strip], .int .i64 ((decP l).2 : Int)]) ?_ ?_
  · have hc := h3.cl ((decP l).1.kind : Int) ⟨(decP l).1.root.toArray⟩ ⟨(decP l).1.path.toArray⟩
    refine vF_lone (n := n + 14) (args := [.sl 5 s]) (r := .tup [.agg [.int .u8 ((decP l).1.kind : Int), .str ⟨(decP l).1.root.toArray⟩, .str ⟨(decP l).1.path.toArray⟩, .sl 5 s3, .sl 9 s4, .sl 34 s5], .int .i64 ((decP l).2 : Int)]) (H1 := H') hf (by simp [closed_sl 5 hs]) h1 ?_
    show (List.all _ closed1 && true) = true
    rw [hc]; rfl
  · show (V.decT _ _) = _
    simp only [V.decT, V.dec1, V.decs, V.fdec, fd_str, fd_sl, fd_bool, fd_int, atE, if_true, Option.bind_some, Option.map_some]
theorem e23 (n : Nat) (hn : 70000 ≤ n) {r : PR} (hok : PRok r) {s3 s4 s5 t3 t4 t5 : VS} (h : RQ r s3 s4 s5) (h' : RQ r t3 t4 t5) (H : VH) :
    V.callD (vF P tab (n + 2)) P false (.one (.flat .bool)) 23 [.agg [.int .u8 (r.kind : Int), .str ⟨r.root.toArray⟩, .str ⟨r.path.toArray⟩, .sl 5 s3, .sl 9 s4, .sl 34 s5], .agg [.int .u8 (r.kind : Int), .str ⟨r.root.toArray⟩, .str ⟨r.path.toArray⟩, .sl 5 t3, .sl 9 t4, .sl 34 t5]] H = some (true, H) := by
  refine callD_bool ?_
  have c1 := h.cl (r.kind : Int) ⟨r.root.toArray⟩ ⟨r.path.toArray⟩
  have c2 := h'.cl (r.kind : Int) ⟨r.root.toArray⟩ ⟨r.path.toArray⟩
  have main : ∀ {s3 s4 s5 t3 t4 t5 : VS}, RQ r s3 s4 s5 → RQ r t3 t4 t5 → ∃ H1, bodyV P tab (vF P tab (n + 1)) (n + 1) 23 [.agg [.int .u8 (r.kind : Int), .str ⟨r.root.toArray⟩, .str ⟨r.path.toArray⟩, .sl 5 s3, .sl 9 s4, .sl 34 s5], .agg [.int .u8 (r.kind : Int), .str ⟨r.root.toArray⟩, .str ⟨r.path.toArray⟩, .sl 5 t3, .sl 9 t4, .sl 34 t5]] [] = some (.bool true, H1) := by
    intro s3 s4 s5 t3 t4 t5 h h'
    rw [f23_eq]
    obtain ⟨H1, hH1⟩ : ∃ H1 : VH, H1 = [VO.row QT [.int .u8 (r.kind : Int), .str ⟨r.root.toArray⟩, .str ⟨r.path.toArray⟩, .sl 5 s3, .sl 9 s4, .sl 34 s5], .row QT [.int .u8 (r.kind : Int), .str ⟨r.root.toArray⟩, .str ⟨r.path.toArray⟩, .sl 5 t3, .sl 9 t4, .sl 34 t5]] := ⟨_, rfl⟩
    have hH1' : List.append (α := VO) (([] : VH) ++ [.row (31 + boxK) [.int .u8 (r.kind : Int), .str ⟨r.root.toArray⟩, .str ⟨r.path.toArray⟩, .sl 5 s3, .sl 9 s4, .sl 34 s5]]) [.row (31 + boxK) [.int .u8 (r.kind : Int), .str ⟨r.root.toArray⟩, .str ⟨r.path.toArray⟩, .sl 5 t3, .sl 9 t4, .sl 34 t5]] = H1 := by rw [hH1]; rfl
    rw [hH1']
    have hz : List.length (([] ++ [.row (31 + boxK) [.int .u8 (r.kind : Int), .str ⟨r.root.toArray⟩, .str ⟨r.path.toArray⟩, .sl 5 s3, .sl 9 s4, .sl 34 s5]]) : VH) = 1 := rfl
    rw [hz]
    have hz0 : List.length ([] : VH) = 0 := rfl
    rw [hz0]
    have r0 : H1[0]? = some (.row QT [.int .u8 (r.kind : Int), .str ⟨r.root.toArray⟩, .str ⟨r.path.toArray⟩, .sl 5 s3, .sl 9 s4, .sl 34 s5]) := by rw [hH1]; rfl
    have r1 : H1[1]? = some (.row QT [.int .u8 (r.kind : Int), .str ⟨r.root.toArray⟩, .str ⟨r.path.toArray⟩, .sl 5 t3, .sl 9 t4, .sl 34 t5]) := by rw [hH1]; rfl
    have a0 : ldV (.flat (.int .u8)) H1 (.ob 0 0) = some (r.kind : Int) := by rw [ld_row r0]; rfl
    have b0 : ldV (.flat (.int .u8)) H1 (.ob 1 0) = some (r.kind : Int) := by rw [ld_row r1]; rfl
    have a1 : ldV (.flat .str) H1 (.ob 0 1) = some ⟨r.root.toArray⟩ := by rw [ld_row r0]; rfl
    have b1 : ldV (.flat .str) H1 (.ob 1 1) = some ⟨r.root.toArray⟩ := by rw [ld_row r1]; rfl
    have a2 : ldV (.flat .str) H1 (.ob 0 2) = some ⟨r.path.toArray⟩ := by rw [ld_row r0]; rfl
    have b2 : ldV (.flat .str) H1 (.ob 1 2) = some ⟨r.path.toArray⟩ := by rw [ld_row r1]; rfl
    have a3 : ldV (.flat (.slice 5)) H1 (.ob 0 3) = some s3 := by rw [ld_row r0]; exact fd_sl 5 s3
    have b3 : ldV (.flat (.slice 5)) H1 (.ob 1 3) = some t3 := by rw [ld_row r1]; exact fd_sl 5 t3
    have a4 : ldV (.flat (.slice 9)) H1 (.ob 0 4) = some s4 := by rw [ld_row r0]; exact fd_sl 9 s4
    have b4 : ldV (.flat (.slice 9)) H1 (.ob 1 4) = some t4 := by rw [ld_row r1]; exact fd_sl 9 t4
    have a5 : ldV (.flat (.slice 34)) H1 (.ob 0 5) = some s5 := by rw [ld_row r0]; exact fd_sl 34 s5
    have b5 : ldV (.flat (.slice 34)) H1 (.ob 1 5) = some t5 := by rw [ld_row r1]; exact fd_sl 34 t5
    obtain ⟨k1, k2, k3, k4⟩ := hok
    rw [a0, Option.bind_some, b0, Option.bind_some]
    have hne : ((r.kind : Int) != (r.kind : Int)) = false := by simp
    rw [hne, cond_false, a1, Option.bind_some, b1, Option.bind_some, strEq_self, Bool.not_true, cond_false, a2, Option.bind_some, b2, Option.bind_some, strEq_self, Bool.not_true, cond_false]
    rw [a3, Option.bind_some, b3, Option.bind_some, callD_bool (e18 n h.b h'.b (by rw [maxLen_eq]; omega) (by omega)), Option.bind_some]
    simp only [decide_true, Bool.not_true, cond_false]
    rw [a4, Option.bind_some, b4, Option.bind_some, callD_bool (e55 n h.f h'.f (by omega) (by omega)), Option.bind_some]
    simp only [Bool.not_true, cond_false]
    obtain ⟨es, o1, o2⟩ := h.o
    obtain ⟨es', o3, o4⟩ := h'.o
    rw [a5, Option.bind_some, b5, Option.bind_some]
    have hne2 : (((s5.len : Nat) : Int) != ((t5.len : Nat) : Int)) = false := by rw [o1.len, o3.len, o2.len, o4.len]; simp
    rw [hne2, cond_false]
    exact l230 n hn k3 k4 o1 o3 o2 o4 (n + 1) 0 a5 b5 (fun H' k => by
      have r0' := k.ob r0 (by simp)
      have r1' := k.ob r1 (by simp)
      exact ⟨by rw [ld_row r0']; exact fd_sl 34 s5, by rw [ld_row r1']; exact fd_sl 34 t5⟩) (by omega) (by omega)
  obtain ⟨H1, hm⟩ := main h.strip h'.strip
  exact vF_lone (n := n + 1) (r := .bool true) (H1 := H1) rfl (by
    show (List.all _ closed1 && (List.all _ closed1 && true)) = true
    rw [c1, c2]; rfl) hm rfl
end Go.Proofs.YtcnigofmjffamaaDoor
