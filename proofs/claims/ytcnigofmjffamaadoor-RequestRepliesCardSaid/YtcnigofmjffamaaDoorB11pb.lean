import Derived.Test.YtcnigofmjffamaaDoorB11pa
set_option maxRecDepth 100000
set_option linter.unusedVariables false
set_option linter.unusedSimpArgs false
namespace Go.Proofs.YtcnigofmjffamaaDoor
open Go.Proofs.YtcnigofmjffamaaDoor.Sh Go.Proofs.YtcnigofmjffamaaDoor.Sh.V Go.RowKit
/-! ### The document's EncodeReply -/
theorem e27y (n : Nat) (hn : 60000 ≤ n) {r : PP} (hr : OkY r) {s1 s2 : VS} (h1 : IsB s1 r.sum) (h2 : IsE s2 (ss r.paths)) (H : VH) : ∃ s' H', vF P tab (n + 80) 27 [.agg (cellsP r s1 s2)] H = some (.sl 5 s', H') ∧ Go.Proofs.YtcnigofmjffamaaDoor.Sh.V.HB H' s' (encY r) ∧ Kp H H' [] ∧ ∀ t ∈ hps s', H.length ≤ t := by
  obtain ⟨o1, o2, o3, o4⟩ := hr
  rw [vF_body rfl]
  show ∃ s' H', bodyV P tab (vF P tab (n + 79)) (n + 79) 27 [.agg [.int .i64 r.e, .bool r.is, .int .i64 r.n, .flt .f64 r.st, .sl 5 s1, .sl 9 s2]] H = some (.sl 5 s', H') ∧ _
  rw [f27_eq]
  have eR : [VO.row (66 + boxK) [.int .i64 r.e, .bool r.is, .int .i64 r.n, .flt .f64 r.st, .sl 5 s1, .sl 9 s2]] = [VO.row YT (cellsP r s1 s2)] := rfl
  rw [eR]
  obtain ⟨H0, hH0⟩ : ∃ H0 : VH, H0 = H ++ [VO.row YT (cellsP r s1 s2)] := ⟨_, rfl⟩
  have b0 : H0[H.length]? = some (.row YT (cellsP r s1 s2)) := by rw [hH0]; simp
  have k0 : Kp H H0 [] := by rw [hH0]; exact Kp.app _ _
  have hl0 : H0.length = H.length + 1 := by rw [hH0]; simp
  rw [← hH0, y0 b0, Option.bind_some]
  obtain ⟨H1, hH1⟩ : ∃ H1 : VH, H1 = List.append (α := VO) H0 [.row 5 [.int .u8 (IntKind.wrap .u8 r.e), .int .u8 0]] := ⟨_, rfl⟩
  have k1 : Kp H0 H1 [] := by rw [hH1]; exact Kp.app _ _
  have ih1 : Go.Proofs.YtcnigofmjffamaaDoor.Sh.V.HB H1 (.hp H0.length 0 2) [u8 r.e, 0] := by
    have e : (bs [u8 r.e, 0]).flatten = [.int .u8 (IntKind.wrap .u8 r.e), .int .u8 0] := by
      show bc (u8 r.e) ++ (bc 0 ++ []) = _
      rw [← bc_wrap]; rfl
    have := Hr.new H0 5 (sz := 1) (bs [u8 r.e, 0]) (fun y hy => by
      obtain ⟨z, _, rfl⟩ := List.mem_map.1 hy
      rfl)
    rw [e] at this
    rw [hH1]
    exact this
  have b1 := k1.ob b0 (by simp)
  rw [← hH1, y1 b1, Option.bind_some]
  have lit : ∀ (b : Bool), r.is = b → ∃ H2, (cond b (((ixV 1 (.hp H0.length 0 2) 1).bind fun p3 => (stV H1 p3 [.int .u8 1]).bind fun h4 => some h4) = some H2) (H2 = H1)) ∧ Go.Proofs.YtcnigofmjffamaaDoor.Sh.V.HB H2 (.hp H0.length 0 2) [u8 r.e, u8 (cond b 1 0)] ∧ Kp H1 H2 [H0.length] := by
    intro b hb
    cases b with
    | false => exact ⟨H1, rfl, ih1, Kp.refl _ _⟩
    | true =>
      obtain ⟨H2, a1, a2, a3, a4⟩ := Hr.set ih1 (i := 1) (by simp) (z := [.int .u8 1]) rfl rfl (fun h4 => some h4)
      exact ⟨H2, a1, a2, a3⟩
  obtain ⟨H2, g1, g2, g3⟩ := lit r.is rfl
  have hbne : H.length ∉ [H0.length] := by rw [List.mem_singleton]; omega
  have b2 := g3.ob b1 hbne
  have f2 : ∀ t ∈ hps (VS.hp H0.length 0 2), H.length < t := fun t ht => by
    rw [show hps (VS.hp H0.length 0 2) = [H0.length] from rfl, List.mem_singleton] at ht; omega
  have step : ∀ {K : VH} {s x : VS} {l q : List UInt8}, Go.Proofs.YtcnigofmjffamaaDoor.Sh.V.HB K s l → (∀ t ∈ hps s, H.length < t) → K[H.length]? = some (.row YT (cellsP r s1 s2)) → H.length < K.length → IsB x q → l.length + q.length < 1000000 →
      ∃ s' K', appD false K 1 1 5 s x = some (s', K') ∧ Go.Proofs.YtcnigofmjffamaaDoor.Sh.V.HB K' s' (l ++ q) ∧ K'[H.length]? = some (.row YT (cellsP r s1 s2)) ∧ (∀ t ∈ hps s', H.length < t) ∧ Kp K K' (hps s) := by
    intro K s x l q hs hf hb hk hx hl
    obtain ⟨s', K', a1, a2, a3, a4⟩ := hb_app hs (RB.b hx) hl
    refine ⟨s', K', a1, a2, a3.ob hb (fun hm => by have := hf _ hm; omega), fun t ht => ?_, a3⟩
    rcases a4 t ht with h | h
    · exact hf t h
    · omega
  have hlen := lt_of_ob b2
  obtain ⟨s3, H3, p1, p2, p3, p4, p5⟩ := step g2 f2 b2 hlen (x := .fz (bs (numI r.n)) (.ex 2)) (.fz _ _) (by rw [numI_len]; simp)
  obtain ⟨sw, w1, w2⟩ := e63 (n + 59) (canonB r.st) (canonB_lt o4) H3
  obtain ⟨s4, H4, q1, q2, q3, q4, q5⟩ := step p2 p4 p3 (lt_of_ob p3) w2 (by rw [wideI_len]; simp [numI_len])
  obtain ⟨st, t1, t2⟩ := e13 (n + 77) r.sum (by omega) H4
  obtain ⟨s5, H5, v1, v2, v3, v4, v5⟩ := step q2 q4 q3 (lt_of_ob q3) t2 (by rw [textI_len]; simp [numI_len, wideI_len]; omega)
  obtain ⟨sx, x1, x2⟩ := e41 (n + 76) h2 (by omega) (by omega) (by omega) H5
  obtain ⟨s6, H6, z1, z2, z3, z4, z5⟩ := step v2 v4 v3 (lt_of_ob v3) x2 (by rw [textsI_len]; simp [numI_len, wideI_len, textI_len]; omega)
  have hk : ∀ {K K' : VH} {s : VS}, Kp H K [] → Kp K K' (hps s) → (∀ t ∈ hps s, H.length < t) → Kp H K' [] := fun a b hf => a.trans b (fun x hx _ => hx) (fun x hx hlt => by have := hf x hx; omega)
  have kk2 : Kp H H2 [] := (k0.trans k1 (Z := []) (fun x hx _ => hx) (fun x hx _ => hx)).trans g3 (fun x hx _ => hx) (fun x hx hlt => by rw [List.mem_singleton] at hx; omega)
  have kk6 := hk (hk (hk (hk kk2 p5 f2) q5 p4) v5 q4) z5 v4
  have efin : [u8 r.e, u8 (cond r.is 1 0)] ++ numI r.n ++ wideI (canonB r.st) ++ textI r.sum ++ textsI r.paths = encY r := rfl
  rw [efin] at z2
  have e32' : ∀ K, callD (vF P tab (n + 79)) P false (.one (.flat (.slice 5))) 32 [.int .i64 r.n] K = some (.fz (bs (numI r.n)) (.ex 2), K) := fun K => callD_sl (e32 (n + 78) r.n K)
  have e64' : ∀ K, callD (vF P tab (n + 79)) P false (.one (.flat (.int .u64))) 64 [.flt .f64 r.st] K = some ((canonB r.st : Int), K) := fun K => c64 (n + 78) o4 K
  cases hb : r.is with
  | true =>
    rw [hb] at g1
    simp only [cond_true] at g1
    have g1' : ∀ {β : Type} (f : VH → Option β), ((ixV 1 (.hp H0.length 0 2) 1).bind fun p3 => (stV H1 p3 [.int .u8 1]).bind f) = f H2 := by
      intro β f
      cases hix : ixV 1 (.hp H0.length 0 2) 1 with
      | none => rw [hix] at g1; cases g1
      | some p =>
        rw [hix, Option.bind_some] at g1
        rw [Option.bind_some]
        cases hst : stV H1 p [.int .u8 1] with
        | none => rw [hst] at g1; cases g1
        | some h4 =>
          rw [hst, Option.bind_some] at g1
          rw [Option.bind_some, Option.some.inj g1]
    rw [cond_true, g1', y2 b2, Option.bind_some, e32', Option.bind_some]
    simp only
    rw [p1, Option.bind_some]
    simp only
    rw [y3 p3, Option.bind_some, e64', Option.bind_some]
    simp only
    rw [callD_sl w1, Option.bind_some]
    simp only
    rw [q1, Option.bind_some]
    simp only
    rw [y4 q3, Option.bind_some, h1.str, Option.bind_some, callD_sl t1, Option.bind_some]
    simp only
    rw [v1, Option.bind_some]
    simp only
    rw [y5 v3, Option.bind_some, callD_sl x1, Option.bind_some]
    simp only
    rw [z1, Option.bind_some]
    exact ⟨s6, H6, rfl, z2, kk6, fun t ht => by have := z4 t ht; omega⟩
  | false =>
    rw [hb] at g1
    simp only [cond_false] at g1
    subst g1
    rw [cond_false, y2 b2, Option.bind_some, e32', Option.bind_some]
    simp only
    rw [p1, Option.bind_some]
    simp only
    rw [y3 p3, Option.bind_some, e64', Option.bind_some]
    simp only
    rw [callD_sl w1, Option.bind_some]
    simp only
    rw [q1, Option.bind_some]
    simp only
    rw [y4 q3, Option.bind_some, h1.str, Option.bind_some, callD_sl t1, Option.bind_some]
    simp only
    rw [v1, Option.bind_some]
    simp only
    rw [y5 v3, Option.bind_some, callD_sl x1, Option.bind_some]
    simp only
    rw [z1, Option.bind_some]
    exact ⟨s6, H6, rfl, z2, kk6, fun t ht => by have := z4 t ht; omega⟩
end Go.Proofs.YtcnigofmjffamaaDoor
