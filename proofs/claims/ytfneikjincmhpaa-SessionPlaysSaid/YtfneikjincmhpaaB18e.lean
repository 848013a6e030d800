import Derived.Test.YtfneikjincmhpaaB18d
set_option maxRecDepth 100000
set_option linter.unusedVariables false
set_option linter.unusedSimpArgs false
namespace Go.Proofs.Ytfneikjincmhpaa
open Go.Proofs.Ytfneikjincmhpaa.Sh Go.Proofs.Ytfneikjincmhpaa.Sh.V Go.RowKit
/-! ### Acts -/
structure Ac where
  d : Nat
  p : List UInt8
  c : Nat
  v : VS
def Ac.ok (a : Ac) : Prop := IsB a.v a.p ∧ a.d < 256 ∧ a.c < 256
def Ac.cells (a : Ac) : List V := [.int .u8 (a.d : Int), .sl 5 a.v, .int .u8 (a.c : Int)]
def acs (xs : List Ac) : List (List V) := xs.map Ac.cells
theorem acs_len (xs : List Ac) : (acs xs).length = xs.length := by simp [acs]
theorem acs_get {xs : List Ac} {i : Nat} {a : Ac} (h : xs[i]? = some a) : (acs xs)[i]? = some a.cells := by simp [acs, h]
theorem ac_of {d : Nat} {y : List V} (h : HasT P d 42 y) : ∃ x : Ac, x.ok ∧ y = x.cells := by
  obtain ⟨d', _, hl, hf⟩ := hasT_sh [(5, 0, 1), (22, 1, 1), (5, 2, 1)] (sz := 3) (by kernel_rfl) (by kernel_rfl) (by simp) h
  obtain ⟨a, h0, w0⟩ := hasT_int (k := .u8) (by kernel_rfl) (hf (5, 0, 1) (by simp))
  obtain ⟨v, l, h1, w1, _⟩ := hasT_bytes (e := 5) (by kernel_rfl) (by kernel_rfl) (hf (22, 1, 1) (by simp))
  obtain ⟨b, h2, w2⟩ := hasT_int (k := .u8) (by kernel_rfl) (hf (5, 2, 1) (by simp))
  match y, hl with
  | [y0, y1, y2], _ =>
    simp only [List.drop_zero, List.drop_succ_cons, List.take_succ_cons, List.take_zero, List.cons.injEq, and_true] at h0 h1 h2
    subst h0 h1 h2
    obtain ⟨p1, p2⟩ := wf_u8 w0
    obtain ⟨p3, p4⟩ := wf_u8 w2
    refine ⟨⟨a.toNat, l, b.toNat, v⟩, ⟨w1, by simp only; omega, by simp only; omega⟩, ?_⟩
    unfold Ac.cells
    simp only
    rw [Int.toNat_of_nonneg p1, Int.toNat_of_nonneg p3]
theorem acts_of {v : V} (h : HasA P 23 v) : ∃ (s : VS) (l : List Ac), v = .sl 42 s ∧ IsE s (acs l) ∧ (∀ x ∈ l, x.ok) ∧ l.length ≤ maxLen := by
  obtain ⟨d, s, es, h1, h2, h3, h4⟩ := hasA_sl (e := 42) (by kernel_rfl) h
  obtain ⟨l, rfl, h5⟩ := lst_of (f := Ac.cells) (Q := Ac.ok) (es := es) (fun y hy => ac_of (h4 y hy).1)
  exact ⟨s, l, h1, h2, h5, by simpa using h3⟩
def fits (a : Ac) : Bool := decide (a.p.length ≤ 60)
def smallB (xs : List Ac) : Bool := xs.all fits && decide (xs.length ≤ 60)
theorem l10 (n : Nat) {s : VS} {xs : List Ac} (hs : IsE s (acs xs)) (hok : ∀ x ∈ xs, x.ok) (hl : xs.length ≤ maxLen) (H : VH) : ∀ (m i : Nat), i ≤ xs.length → xs.length < i + m → L10_0 n m s (i : Int) H = some (.bool ((xs.drop i).all fits && decide (xs.length ≤ 60)), H) := by
  have hm := maxLen_eq
  intro m
  induction m with
  | zero => intros; omega
  | succ m ih =>
    intro i h1 h2
    rw [L10_0_eq, hs.len, acs_len]
    by_cases hi : i < xs.length
    · obtain ⟨a, ha⟩ := get_of hi
      obtain ⟨h4, h5⟩ := List.getElem?_eq_some_iff.1 ha
      have hdt : decide ((i : Int) < (xs.length : Int)) = true := decide_eq_true (by omega)
      obtain ⟨o1, _, _⟩ := hok a (List.mem_of_getElem? ha)
      rw [hdt, cond_true, hs.ix (acs_get ha) 3, Option.bind_some, show atO (.fz a.cells) 1 = some (.fz [.sl 5 a.v, .int .u8 (a.c : Int)]) from rfl, Option.bind_some, show ldV (.flat (.slice 5)) H (.fz [.sl 5 a.v, .int .u8 (a.c : Int)]) = some a.v from fd_sl 5 a.v, Option.bind_some, o1.len, bs_len, List.drop_eq_getElem_cons hi, h5, List.all_cons]
      by_cases h6 : 60 < a.p.length
      · have hd : decide ((a.p.length : Int) > 60) = true := decide_eq_true (by omega)
        rw [hd, cond_true, show fits a = false from decide_eq_false (by omega), Bool.false_and, Bool.false_and]
      · have hd : decide ((a.p.length : Int) > 60) = false := decide_eq_false (by omega)
        rw [hd, cond_false, show fits a = true from decide_eq_true (by omega), Bool.true_and, inc_nat (by omega)]
        exact ih (i + 1) (by omega) (by omega)
    · have : i = xs.length := by omega
      subst this
      have hdt : decide ((xs.length : Int) < (xs.length : Int)) = false := decide_eq_false (by omega)
      rw [hdt, cond_false, List.drop_length, List.all_nil, Bool.true_and]
      have : decide ((xs.length : Int) ≤ 60) = decide (xs.length ≤ 60) := by rw [decide_eq_decide]; omega
      rw [this]
theorem e10 (n : Nat) {H : VH} {s : VS} {xs : List Ac} (hs : IsE s (acs xs)) (hok : ∀ x ∈ xs, x.ok) (hl : xs.length ≤ maxLen) (hn : xs.length < n) : vF P tab (n + 1) 10 [.sl 42 s] H = some (.bool (smallB xs), H) := by
  refine vF_lone (r := .bool (smallB xs)) (H1 := []) rfl (by simp [closed_sl 42 hs]) ?_ rfl
  show bodyV P tab (vF P tab n) n 10 [.sl 42 s.strip] [] = _
  rw [f10_eq]
  have := l10 n hs.strip hok hl [] n 0 (by omega) (by omega)
  rw [List.drop_zero] at this
  exact this
theorem small_ok {xs : List Ac} (h : smallB xs = true) : xs.length ≤ 60 ∧ ∀ a ∈ xs, a.p.length ≤ 60 := by
  unfold smallB at h
  rw [Bool.and_eq_true, List.all_eq_true] at h
  exact ⟨of_decide_eq_true h.2, fun a ha => of_decide_eq_true (h.1 a ha)⟩
def actP (p : List UInt8) (c : Nat) : List UInt8 := if p.length = 0 then [u8 (c : Int)] else p
def actB (d : Nat) (p : List UInt8) (c : Nat) : List UInt8 :=
  if d % 16 = 0 then textI hello else if d % 16 = 1 then textI hello else if d % 16 = 2 then p
  else if d % 16 = 3 then (textI (actP p c)).take (c % ((actP p c).length + 2))
  else if d % 16 = 4 then textI (actP p c) ++ textI (actP p c) else textI (actP p c)
theorem nat_beqT {a c : Nat} (h : a = c) : (((a : Nat) : Int) == ((c : Nat) : Int)) = true := by rw [h]; exact beq_self_eq_true _
abbrev AR (d : Nat) (v : VS) (c : Nat) : VO := .row (42 + boxK) [.int .u8 (d : Int), .sl 5 v, .int .u8 (c : Int)]
noncomputable def act2 (n : Nat) (HH : VH) (w : VS) : VRes :=
  ((ldV (.flat (.int .u8)) HH (.ob 0 0)).bind fun x16 =>
        ((remI x16 16).bind fun x17 =>
          (cond ((x17 : Int) == 0)
            (if 22 = 22 ∧ isRowV (List.append (α := VO) HH [.row 5 [.int .u8 104, .int .u8 101, .int .u8 108, .int .u8 108, .int .u8 111]]) (List.length HH) 5 = true ∧ 5 < boxK then
              ((callD (vF P tab n) P false (.one (.flat (.slice 5))) 14 [.sl 5 (.hp (List.length HH) 0 5)] (List.append (α := VO) HH [.row 5 [.int .u8 104, .int .u8 101, .int .u8 108, .int .u8 108, .int .u8 111]])).bind fun r18 =>
                (some (.sl 5 r18.1, r18.2)))
              else none)
            (cond ((x17 : Int) == 1)
              (if 22 = 22 ∧ isRowV (List.append (α := VO) HH [.row 5 [.int .u8 104, .int .u8 101, .int .u8 108, .int .u8 108, .int .u8 111]]) (List.length HH) 5 = true ∧ 5 < boxK then
                ((callD (vF P tab n) P false (.one (.flat (.slice 5))) 14 [.sl 5 (.hp (List.length HH) 0 5)] (List.append (α := VO) HH [.row 5 [.int .u8 104, .int .u8 101, .int .u8 108, .int .u8 108, .int .u8 111]])).bind fun r19 =>
                  (some (.sl 5 r19.1, r19.2)))
                else none)
              (cond ((x17 : Int) == 2)
                ((ldV (.flat (.slice 5)) HH (.ob 0 1)).bind fun x20 =>
                  (some (.sl 5 x20, HH)))
                (cond ((x17 : Int) == 3)
                  ((ldV (.flat (.int .u8)) HH (.ob 0 2)).bind fun x21 =>
                    ((remI (IntKind.wrap .i64 x21) (IntKind.wrap .i64 (((VS.len w : Nat) : Int) + 2))).bind fun x22 =>
                      ((callD (vF P tab n) P false (.one (.flat (.slice 5))) 14 [.sl 5 w] HH).bind fun r23 =>
                        (cond (V.stays r23.2 [(.ob 0 2, .int .u8, .int .u8 x21)])
                        ((cutD [] 5 1 r23.1 none (some x22) none).bind fun z24 =>
                        (some (.sl 5 z24, r23.2)))
                        none))))
                  (cond ((x17 : Int) == 4)
                    ((callD (vF P tab n) P false (.one (.flat (.slice 5))) 14 [.sl 5 w] HH).bind fun r25 =>
                      ((callD (vF P tab n) P false (.one (.flat (.slice 5))) 14 [.sl 5 w] r25.2).bind fun r26 =>
                        ((callD (vF P tab n) P false (.one (.flat (.slice 5))) 13 [.sl 5 r25.1, .sl 5 r26.1] r26.2).bind fun r27 =>
                        (some (.sl 5 r27.1, r27.2)))))
                    ((callD (vF P tab n) P false (.one (.flat (.slice 5))) 14 [.sl 5 w] HH).bind fun r28 =>
                      (some (.sl 5 r28.1, r28.2))))))))))
theorem act2_ok (n : Nat) {HH : VH} {w v : VS} {p : List UInt8} {d c : Nat} (h0 : HH[0]? = some (AR d v c)) (hw : Rd HH w (actP p c)) (hv : IsB v p) (hp : p.length ≤ 100) (hc : c < 256) :
    ∃ s H', act2 (n + 2) HH w = some (.sl 5 s, H') ∧ IsB s (actB d p c) := by
  have hq : (actP p c).length ≤ 100 := by
    unfold actP
    split
    · simp
    · exact hp
  unfold act2 actB
  rw [ld_row h0]
  simp only [List.getElem?_cons_zero, Option.bind_some, fd_int]
  rw [show (16 : Int) = ((16 : Nat) : Int) from rfl, remI_nat (by decide), Option.bind_some]
  obtain ⟨s1, H1, g1', g2, g3⟩ := hello_frame n HH
  have hif : True ∧ isRowV (List.append (α := VO) HH [.row 5 [.int .u8 104, .int .u8 101, .int .u8 108, .int .u8 108, .int .u8 111]]) (List.length HH) 5 = true ∧ 5 < boxK := hello_if HH
  have g1 : vF P tab (n + 2) 14 [.sl 5 (.hp (List.length HH) 0 5)] (List.append (α := VO) HH [.row 5 [.int .u8 104, .int .u8 101, .int .u8 108, .int .u8 108, .int .u8 111]]) = some (.sl 5 s1, H1) := g1'
  by_cases c0 : d % 16 = 0
  · rw [show (((d % 16 : Nat) : Int) == 0) = true from nat_beqT (c := 0) c0, cond_true, if_pos c0]
    rw [if_pos hif, callD_sl g1, Option.bind_some]
    exact ⟨s1, H1, rfl, g2⟩
  rw [show (((d % 16 : Nat) : Int) == 0) = false from nat_beq (c := 0) c0, cond_false, if_neg c0]
  by_cases c1 : d % 16 = 1
  · rw [show (((d % 16 : Nat) : Int) == 1) = true from nat_beqT (c := 1) c1, cond_true, if_pos c1]
    rw [if_pos hif, callD_sl g1, Option.bind_some]
    exact ⟨s1, H1, rfl, g2⟩
  rw [show (((d % 16 : Nat) : Int) == 1) = false from nat_beq (c := 1) c1, cond_false, if_neg c1]
  by_cases c2 : d % 16 = 2
  · rw [show (((d % 16 : Nat) : Int) == 2) = true from nat_beqT (c := 2) c2, cond_true, if_pos c2, ld_row h0]
    exact ⟨v, HH, rfl, hv⟩
  rw [show (((d % 16 : Nat) : Int) == 2) = false from nat_beq (c := 2) c2, cond_false, if_neg c2]
  obtain ⟨s2, H2, q1, q2, q3⟩ := fr14 n hw (by omega)
  by_cases c3 : d % 16 = 3
  · rw [show (((d % 16 : Nat) : Int) == 3) = true from nat_beqT (c := 3) c3, cond_true, if_pos c3, ld_row h0]
    simp only [List.getElem?_cons_succ, List.getElem?_cons_zero, Option.bind_some, fd_int]
    rw [hw.len, show (((actP p c).length : Nat) : Int) + 2 = (((actP p c).length + 2 : Nat) : Int) from rfl, i64_nat (by omega), i64_nat (by omega), remI_nat (by omega), Option.bind_some, callD_sl q1, Option.bind_some]
    simp only
    have h2 := q3.ob h0 (by simp)
    rw [stays_int (by rw [ld_row h2]; rfl), cond_true]
    have hlt : c % ((actP p c).length + 2) < (actP p c).length + 2 := Nat.mod_lt _ (by omega)
    obtain ⟨z, u1, u2, _⟩ := q2.cut (lo := 0) (hi := c % ((actP p c).length + 2)) (by omega) (by rw [bs_len, textI_len]; omega) (lo' := none) (hi' := some ((c % ((actP p c).length + 2) : Nat) : Int)) (mx' := none) (.inr ⟨rfl, rfl⟩) (.inl rfl) (.inl rfl) [] 5 1
    rw [u1, Option.bind_some]
    refine ⟨z, H2, rfl, ?_⟩
    unfold bs at u2
    rw [List.drop_zero, ← List.map_take] at u2
    exact u2
  rw [show (((d % 16 : Nat) : Int) == 3) = false from nat_beq (c := 3) c3, cond_false, if_neg c3]
  by_cases c4 : d % 16 = 4
  · rw [show (((d % 16 : Nat) : Int) == 4) = true from nat_beqT (c := 4) c4, cond_true, if_pos c4, callD_sl q1, Option.bind_some]
    simp only
    obtain ⟨s3, H3, r1, r2, r3⟩ := fr14 n (hw.keep q3 (by simp)) (by omega)
    rw [callD_sl r1, Option.bind_some]
    simp only
    obtain ⟨s4, H4, t1, t2, t3⟩ := j13 (n + 1) (H := H3) (Rd.ofB H3 q2) (Rd.ofB H3 r2) (by rw [textI_len]; omega)
    rw [callD_sl t1, Option.bind_some]
    exact ⟨s4, H4, rfl, t2⟩
  rw [show (((d % 16 : Nat) : Int) == 4) = false from nat_beq (c := 4) c4, cond_false, if_neg c4, callD_sl q1, Option.bind_some]
  exact ⟨s2, H2, rfl, q2⟩
theorem b19 (n : Nat) {d : Nat} {v : VS} {p : List UInt8} {c : Nat} (hv : IsB v p) (hp : p.length ≤ 100) (hc : c < 256) : ∃ s H', bodyV P tab (vF P tab (n + 2)) (n + 2) 19 [.agg [.int .u8 (d : Int), .sl 5 v, .int .u8 (c : Int)]] [] = some (.sl 5 s, H') ∧ IsB s (actB d p c) := by
  rw [f19_eq]
  obtain ⟨H0, hH0⟩ : ∃ H0 : VH, H0 = [] ++ [AR d v c] := ⟨_, rfl⟩
  have h0 : H0[0]? = some (AR d v c) := by rw [hH0]; rfl
  have hl : H0.length = 1 := by rw [hH0]; rfl
  rw [← hH0]
  clear hH0
  rw [show ldV (.flat (.slice 5)) H0 (.ob (List.length ([] : VH)) 1) = some v by rw [List.length_nil, ld_row h0]; exact fd_sl 5 v, Option.bind_some, hv.len, bs_len]
  by_cases c0 : p.length = 0
  · rw [show (((p.length : Nat) : Int) == 0) = true from nat_beqT (c := 0) c0, cond_true]
    rw [show ldV (.flat (.int .u8)) H0 (.ob (List.length ([] : VH)) 2) = some (c : Int) by rw [List.length_nil, ld_row h0]; rfl, Option.bind_some]
    obtain ⟨r1, r2⟩ := new_rd H0 [u8 (c : Int)]
    have e : bcs [u8 (c : Int)] = [.int .u8 (c : Int)] := by
      show [V.int .u8 (((u8 (c : Int)).toNat : Nat) : Int)] = _
      rw [u8_ofNat, UInt8.toNat_ofNat', show c % 256 % 2 ^ 8 = c by omega]
    rw [e] at r1 r2
    have h1 := r2.ob h0 (by simp)
    exact act2_ok n (HH := H0 ++ [.row 5 [.int .u8 (c : Int)]]) (w := .hp H0.length 0 1) h1 (by unfold actP; rw [if_pos c0]; exact r1) hv hp hc
  · rw [show (((p.length : Nat) : Int) == 0) = false from nat_beq (c := 0) c0, cond_false]
    have t := act2_ok n (HH := H0) (w := v) h0 (by unfold actP; rw [if_neg c0]; exact Rd.ofB H0 hv) hv hp hc
    unfold act2 at t
    rw [show ldV (.flat (.slice 5)) H0 (.ob 0 1) = some v by rw [ld_row h0]; exact fd_sl 5 v, hv.len, bs_len] at t
    exact t
theorem e19 (n : Nat) {a : Ac} (ha : a.ok) (hp : a.p.length ≤ 60) (H : VH) : ∃ s, vF P tab (n + 3) 19 [.agg a.cells] H = some (.sl 5 s, H) ∧ IsB s (actB a.d a.p a.c) := by
  obtain ⟨h1, h2, h3⟩ := ha
  obtain ⟨s, H', g1, g2⟩ := b19 n (d := a.d) h1.strip (by omega) h3
  exact ⟨s.strip, lone_E (H := H) rfl (by
    have := closed_sl 5 h1
    simp [closedC] at this
    simp [Ac.cells, closedC]
    exact ⟨rfl, this, rfl⟩) g1 g2⟩
theorem rd_act {s : VS} {xs : List Ac} (hs : IsE s (acs xs)) {i : Nat} {a : Ac} (ha : xs[i]? = some a) (H : VH) {β : Type} (f : Int × VS × Int × Unit → Option β) : ((ixV 3 s (i : Int)).bind fun p => (ldV (.agg [.int .u8, .slice 5, .int .u8]) H p).bind f) = f ((a.d : Int), a.v, (a.c : Int), ()) := by
  rw [hs.ix (acs_get ha) 3, Option.bind_some]
  rfl
/-! ### SessionGreets -/
theorem g3 (n : Nat) {k ks : Nat} {s : VS} {xs : List Ac} (hs : IsE s (acs xs)) (hok : ∀ x ∈ xs, x.ok) (hl : xs.length ≤ 60) (h60 : ∀ a ∈ xs, a.p.length ≤ 60) : ∀ (m i : Nat) {H : VH} {T : List Nat} {l : List UInt8}, Ses H k ks T 2 l false [] [] → i ≤ xs.length → xs.length < i + m →
    ∃ H', L3_0 (n + 30003) m s (.ob k 0) (i : Int) H = some (.bool true, H') := by
  intro m
  induction m with
  | zero => intros; omega
  | succ m ih =>
    intro i H T l h hi hm
    rw [L3_0_eq, hs.len, acs_len]
    by_cases c : i < xs.length
    · obtain ⟨a, ha⟩ := get_of c
      have hmem := List.mem_of_getElem? ha
      have hdt : decide ((i : Int) < (xs.length : Int)) = true := decide_eq_true (by omega)
      rw [hdt, cond_true, rd_act hs ha]
      obtain ⟨s1, g1, g2⟩ := e19 (n + 30000) (hok a hmem) (h60 a hmem) H
      unfold Ac.cells at g1
      simp only
      rw [callD_sl g1, Option.bind_some]
      simp only
      rw [callD_int (e12d (n + 30001) (s := ⟨2, [], [], 0⟩) (p := []) h (Nat.le_refl _)), Option.bind_some]
      simp only
      rw [show ((0 : Int) != 0) = false from rfl, cond_false, callD_int (e20s (n + 30002) h), Option.bind_some]
      simp only
      rw [show (((([] : List (List UInt8)).length : Nat) : Int) != 0) = false from rfl, cond_false]
      obtain ⟨s5, H5, T5, u1, u2, u3, u4, u5⟩ := e18s (n + 30002) h
      rw [callD_sl u1, Option.bind_some]
      simp only
      rw [u2.len, show ((((bs ([] : List UInt8)).length : Nat) : Int) != 0) = false from rfl, cond_false, inc_nat (by omega)]
      exact ih (i + 1) u3 (by omega) (by omega)
    · have hdt : decide ((i : Int) < (xs.length : Int)) = false := decide_eq_false (by omega)
      rw [hdt, cond_false, callD_int (e16s (n + 30002) h), Option.bind_some]
      exact ⟨H, rfl⟩
theorem sessionGreets (n : Nat) {v s : VS} {p : List UInt8} {xs : List Ac} (hv : IsB v p) (hs : IsE s (acs xs)) (hok : ∀ x ∈ xs, x.ok) (hl : xs.length ≤ maxLen) (hn : xs.length < n) (H : VH) : ∃ H', vF P tab (n + 30010) 3 [.sl 5 v, .sl 42 s] H = some (.bool true, H') := by
  rw [vF_body rfl, f3_eq, callD_bool (e9 (n + 7) H), Option.bind_some]
  simp only [Bool.not_true, cond_false]
  rw [hv.len, bs_len]
  by_cases c1 : 100 < p.length
  · have hdt : decide ((p.length : Int) > 100) = true := decide_eq_true (by omega)
    rw [hdt, cond_true, callD_bool (e9 (n + 7) H), Option.bind_some]
    exact ⟨H, rfl⟩
  have hdt : decide ((p.length : Int) > 100) = false := decide_eq_false (by omega)
  rw [hdt, cond_false]
  by_cases c0 : p.length = 0
  · rw [show (((p.length : Nat) : Int) == 0) = true from nat_beqT (c := 0) c0, cond_true, callD_bool (e9 (n + 7) H), Option.bind_some]
    exact ⟨H, rfl⟩
  rw [show (((p.length : Nat) : Int) == 0) = false from nat_beq (c := 0) c0, cond_false, hv.str, Option.bind_some]
  have hx : strEq ⟨p.toArray⟩ ⟨#[104, 101, 108, 108, 111]⟩ = decide (p = hello) := strEq_iff p hello
  rw [hx]
  by_cases ch : p = hello
  · rw [decide_eq_true ch, cond_true, callD_bool (e9 (n + 7) H), Option.bind_some]
    exact ⟨H, rfl⟩
  rw [decide_eq_false ch, cond_false, callD_bool (e10 (n + 30008) hs hok hl (by omega)), Option.bind_some]
  simp only
  cases hsm : smallB xs with
  | false =>
    simp only [Bool.not_false, cond_true]
    rw [callD_bool (e9 (n + 7) H), Option.bind_some]
    exact ⟨H, rfl⟩
  | true =>
    obtain ⟨h1, h2⟩ := small_ok hsm
    simp only [Bool.not_true, cond_false]
    obtain ⟨H1, a1, a2, a3⟩ := e11s (n + 30007) H
    rw [callD_ptr a1, Option.bind_some]
    simp only
    obtain ⟨s1, b1, b2⟩ := e14 (n + 30007) (H := H1) hv (by omega)
    rw [callD_sl b1, Option.bind_some]
    simp only
    rw [if_pos (hello_if H1)]
    obtain ⟨s2, H2, d1, d2, d3⟩ := hello_frame (n + 30007) H1
    rw [callD_sl d1, Option.bind_some]
    simp only
    obtain ⟨s3, q1, q2⟩ := e13 (n + 30008) (H := H2) b2 d2 (by rw [textI_len, textI_len]; show _ + (2 + 5) < _; omega)
    rw [callD_sl q1, Option.bind_some]
    simp only
    have hf : feedS [] (textI p ++ textI hello) false = ([p, hello], [], false) := by
      unfold feedS
      rw [if_neg (by simp), List.nil_append]
      have := pull_frames [p, hello] [] (fun x hx => by
        rcases List.mem_cons.1 hx with rfl | hx
        · omega
        · rw [List.mem_singleton] at hx; rw [hx]; decide)
      rw [List.append_nil, pull_nil, List.append_nil] at this
      rw [← this]
      simp [frames]
    have hdel : delS ([p, hello], [], false) ⟨0, [], [], 0⟩ = ⟨2, [], ans 10 0, 0⟩ := by
      unfold delS
      simp only
      rw [if_neg (by simp)]
      show payS hello (payS p ⟨0, [], [], 0⟩) = _
      have e : payS p ⟨0, [], [], 0⟩ = ⟨2, [], ans 10 0, 0⟩ := by
        unfold payS
        rw [if_pos rfl, if_neg ch]
        rfl
      rw [e, payS_deaf (Nat.le_refl _)]
    obtain ⟨H4, T4, r1, r2, _, _⟩ := dlv (n + 9) (s := ⟨0, [], [], 0⟩) (a2.kn d3) (by decide) q2 (by rw [List.length_append, textI_len, textI_len]; show 0 + (_ + (2 + 5)) < _; omega) (by decide) (by decide) hf hdel
    rw [callD_int r1, Option.bind_some]
    simp only
    obtain ⟨s5, t1, t2⟩ := e15r (n + 29949) 10 0 H4
    rw [callD_sl t1, Option.bind_some]
    simp only
    obtain ⟨s6, t3, t4⟩ := e14 (n + 30007) (H := H4) t2 (by decide)
    rw [callD_sl t3, Option.bind_some]
    simp only
    rw [callD_int (e16s (n + 30008) r2), Option.bind_some]
    simp only
    rw [show ((((2 : Nat) : Int)) != 2) = false from rfl, cond_false]
    obtain ⟨s7, H5, T5, u1, u2, u3, u4, u5⟩ := e18s (n + 30008) r2
    rw [callD_sl u1, Option.bind_some]
    simp only
    rw [callD_bool (e17 (n + 30008) u2 t4 (by rw [ans_len, maxLen_eq]; omega) (by rw [ans_len]; omega)), Option.bind_some]
    simp only
    rw [show decide (ans 10 0 = textI (encR 10 0)) = true from decide_eq_true rfl]
    simp only [Bool.not_true, cond_false]
    exact g3 (n + 6) hs hok h1 h2 (n + 30009) 0 u3 (by omega) (by omega)
theorem sessionGreets_law (us : List V) (h : HasAs P [22, 23] us) : ∃ n H', vF P tab n 3 us [] = some (.bool true, H') := by
  match us, h with
  | [u0, u1], ⟨h0, h1, _⟩ =>
    obtain ⟨s, l, rfl, i1, _⟩ := hasA_bytes (e := 5) (by kernel_rfl) (by kernel_rfl) h0
    obtain ⟨s2, xs, rfl, i2, i3, i4⟩ := acts_of h1
    exact ⟨_, sessionGreets (xs.length + 1) i1 i2 i3 i4 (by omega) []⟩
end Go.Proofs.Ytfneikjincmhpaa
