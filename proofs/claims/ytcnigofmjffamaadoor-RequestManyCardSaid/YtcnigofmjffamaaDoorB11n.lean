import Derived.Test.YtcnigofmjffamaaDoorB11m
set_option maxRecDepth 100000
set_option linter.unusedVariables false
set_option linter.unusedSimpArgs false
namespace Go.Proofs.YtcnigofmjffamaaDoor
open Go.Proofs.YtcnigofmjffamaaDoor.Sh Go.Proofs.YtcnigofmjffamaaDoor.Sh.V Go.RowKit
theorem e11 (n : Nat) (hn : 70000 ≤ n) {s : VS} {l : List UInt8} (hs : IsB s l) (hl : l.length < 1000000) (H : VH) : V.callD (vF P tab (n + 16)) P false (.one (.flat .bool)) 11 [.sl 5 s] H = some (true, H) := by
  refine callD_bool ?_
  have main : ∀ {s : VS}, IsB s l → ∃ H1, bodyV P tab (vF P tab (n + 15)) (n + 15) 11 [.sl 5 s] [] = some (.bool true, H1) := by
    intro s hs
    rw [f11_eq]
    obtain ⟨s3, s4, s5, h1, h2⟩ := lone14 14 rfl n (fun hs hl => b14 n (by omega) hs hl) hs hl []
    rw [h1, Option.bind_some]
    simp only [List.nil_append, List.length_nil]
    have r0 : ([VO.row QT Z6] : VH)[0]? = some (.row QT Z6) := rfl
    rw [st_row r0 (by simp) rfl, Option.bind_some]
    obtain ⟨H1, e1⟩ : ∃ H1 : VH, H1 = List.set [VO.row QT Z6] 0 (.row QT (putAllV Z6 0 [.int .u8 ((decP l).1.kind : Int), .str ⟨(decP l).1.root.toArray⟩, .str ⟨(decP l).1.path.toArray⟩, .sl 5 s3, .sl 9 s4, .sl 34 s5])) := ⟨_, rfl⟩
    rw [← e1]
    have hA : H1[0]? = some (.row QT [.int .u8 ((decP l).1.kind : Int), .str ⟨(decP l).1.root.toArray⟩, .str ⟨(decP l).1.path.toArray⟩, .sl 5 s3, .sl 9 s4, .sl 34 s5]) := by rw [e1]; rfl
    have hL : H1.length = 1 := by rw [e1]; rfl
    obtain ⟨t3, t4, t5, h3, h4⟩ := lone14 31 rfl n (fun hs hl => b31 n (by omega) hs hl) hs hl H1
    rw [h3, Option.bind_some]
    simp only
    rw [hL]
    have r1 : (H1 ++ [VO.row QT Z6])[1]? = some (.row QT Z6) := by rw [List.getElem?_append_right (by omega), hL]; rfl
    rw [st_row r1 (by simp) rfl, Option.bind_some]
    obtain ⟨H2, e2⟩ : ∃ H2 : VH, H2 = List.set (H1 ++ [VO.row QT Z6]) 1 (.row QT (putAllV Z6 0 [.int .u8 ((decP l).1.kind : Int), .str ⟨(decP l).1.root.toArray⟩, .str ⟨(decP l).1.path.toArray⟩, .sl 5 t3, .sl 9 t4, .sl 34 t5])) := ⟨_, rfl⟩
    rw [← e2]
    have hB : H2[1]? = some (.row QT [.int .u8 ((decP l).1.kind : Int), .str ⟨(decP l).1.root.toArray⟩, .str ⟨(decP l).1.path.toArray⟩, .sl 5 t3, .sl 9 t4, .sl 34 t5]) := by rw [e2, List.getElem?_set_self (by simp; omega)]; rfl
    have hC : H2[0]? = some (.row QT [.int .u8 ((decP l).1.kind : Int), .str ⟨(decP l).1.root.toArray⟩, .str ⟨(decP l).1.path.toArray⟩, .sl 5 s3, .sl 9 s4, .sl 34 s5]) := by rw [e2, List.getElem?_set_ne (by omega), List.getElem?_append_left (by omega)]; exact hA
    have hq : (((decP l).2 : Int) == ((decP l).2 : Int)) = true := by simp
    rw [hq, cond_true, ld_q hC, Option.bind_some, ld_q hB, Option.bind_some]
    simp only
    rw [e23 (n + 13) (by omega) (decP_ok l) h2 h4 H2, Option.bind_some]
    exact ⟨_, rfl⟩
  obtain ⟨H1, hm⟩ := main hs.strip
  exact vF_lone (n := n + 15) (r := .bool true) (H1 := H1) rfl (by simp [closed_sl 5 hs]) hm rfl
theorem e12 (n : Nat) {s t : VS} {l r : List UInt8} (hs : IsB s l) (ht : IsB t r) (hl : l.length + r.length < 1000000) (H : VH) : ∃ u, V.callD (vF P tab (n + 1)) P false (.one (.flat (.slice 5))) 12 [.sl 5 s, .sl 5 t] H = some (u, H) ∧ IsB u (l ++ r) := by
  have b1 : (bs l).length = l.length := by simp
  have b2 : (bs r).length = r.length := by simp
  obtain ⟨s1, H1, f1, f2, _⟩ := (show Ap ([] : VH) 5 .nil [] from .nil).app (sz := 1) (by_ := 1) (show IsE s.strip (bs l) from hs.strip) (by simp [bound]; omega) (by simp [bound]; omega)
  obtain ⟨s2, H2, g1, g2, _⟩ := f2.app (sz := 1) (by_ := 1) (show IsE t.strip (bs r) from ht.strip) (by simp [bound]; omega) (by simp [bound]; omega)
  have h : bodyV P tab (vF P tab n) n 12 ([.sl 5 s, .sl 5 t].map stripC) [] = some (.sl 5 s2, H2) := by
    show bodyV P tab (vF P tab n) n 12 [.sl 5 s.strip, .sl 5 t.strip] [] = _
    rw [f12_eq, f1, Option.bind_some]
    simp only
    rw [g1, Option.bind_some]
  refine ⟨s2.strip, callD_sl (vF_lone (n := n) (r := .sl 5 s2) (H1 := H2) rfl (by simp [closed_sl 5 hs, closed_sl 5 ht]) h (closed_sl 5 g2.isE)), ?_⟩
  have := g2.isE.strip
  rw [List.nil_append, ← bs_app] at this
  exact this
theorem isB1 (k : Nat) (hk : k < 256) (c : VC) : IsB (.fz [[.int .u8 (k : Int)]] c) [UInt8.ofNat k] := by
  have : bs [UInt8.ofNat k] = [[.int .u8 (k : Int)]] := by
    show [[V.int .u8 ((UInt8.ofNat k).toNat : Int)]] = _
    have h : (UInt8.ofNat k).toNat = k := by simp; omega
    rw [h]
  show IsE _ (bs _)
  rw [this]
  exact .fz _ _
theorem requestReads_law (us : List V) (h : HasAs P [22, 5] us) : ∃ n H', vF P tab n 3 us [] = some (.bool true, H') := by
  match us, h with
  | [u0, u1], ⟨h0, h1, _⟩ =>
    obtain ⟨s, l, rfl, g1, g2⟩ := hasA_bytes (e := 5) (by kernel_rfl) (by kernel_rfl) h0
    obtain ⟨x, rfl, hx⟩ := hasA_int (k := .u8) (by kernel_rfl) h1
    obtain ⟨x1, x2⟩ := wf_u8 hx
    obtain ⟨k, rfl⟩ : ∃ k : Nat, x = (k : Int) := ⟨x.toNat, by omega⟩
    obtain ⟨N, hN⟩ : ∃ N, 70000 ≤ N := ⟨70000, Nat.le_refl _⟩
    refine ⟨N + 62, ?_⟩
    rw [vF_body rfl, f3_eq, callD_bool (lone_ok (N + 1) []), Option.bind_some]
    simp only [Bool.not_true, cond_false]
    have hlen : s.len = l.length := by rw [g1.len]; simp
    rw [hlen]
    by_cases hb : 300 < l.length
    · have hd : decide ((l.length : Int) > 300) = true := decide_eq_true (by omega)
      rw [hd, cond_true, callD_bool (lone_ok (N + 1) []), Option.bind_some]
      exact ⟨_, rfl⟩
    · have hd : decide ((l.length : Int) > 300) = false := decide_eq_false (by omega)
      rw [hd, cond_false, e11 (N + 45) (by omega) g1 (by omega) [], Option.bind_some]
      simp only [cond_true]
      rw [show (14 : Int) = ((14 : Nat) : Int) from rfl, remI_nat (by decide), Option.bind_some]
      obtain ⟨u, q1, q2⟩ := e12 (N + 60) (isB1 (k % 14) (by omega) (.ex 1)) g1 (by simp; omega) []
      rw [q1, Option.bind_some]
      simp only
      rw [e11 (N + 45) (by omega) q2 (by simp; omega) [], Option.bind_some]
      simp only [cond_true]
      rw [show (9 : Int) = ((9 : Nat) : Int) from rfl, remI_nat (by decide), Option.bind_some, g1.str, Option.bind_some]
      obtain ⟨t, w1, w2⟩ := e13 (N + 59) l (by omega) []
      rw [callD_sl w1, Option.bind_some]
      simp only
      have hw : IntKind.wrap .u8 (2 + ((k % 9 : Nat) : Int)) = ((2 + k % 9 : Nat) : Int) := by
        have : (2 + ((k % 9 : Nat) : Int)) = ((2 + k % 9 : Nat) : Int) := by omega
        rw [this]; exact wrap_u8_nat (by omega)
      rw [hw]
      have htl := textI_len l
      obtain ⟨v, y1, y2⟩ := e12 (N + 60) (isB1 (2 + k % 9) (by omega) (.ex 1)) w2 (by simp; omega) []
      rw [y1, Option.bind_some]
      simp only
      rw [e11 (N + 45) (by omega) y2 (by simp; omega) [], Option.bind_some]
      exact ⟨_, rfl⟩
end Go.Proofs.YtcnigofmjffamaaDoor
