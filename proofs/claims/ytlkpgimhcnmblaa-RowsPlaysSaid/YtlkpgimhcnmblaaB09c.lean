import Derived.Test.YtlkpgimhcnmblaaB09b
set_option maxRecDepth 100000
set_option linter.unusedVariables false
set_option linter.unusedSimpArgs false
namespace Go.Proofs.Ytlkpgimhcnmblaa
open Go.Proofs.Ytlkpgimhcnmblaa.Sh Go.Proofs.Ytlkpgimhcnmblaa.Sh.V Go.RowKit
/-! ### The example; acts -/
theorem e9 (n : Nat) (H : VH) : vF P tab (n + 40) 9 [] H = some (.bool true, H) := by kernel_rfl
structure Ac where
  d : Nat
  k : Key
  v : Int
def Ac.ok (a : Ac) : Prop := a.d < 256 ∧ a.k.length ≤ 9223372036854775807 ∧ -9223372036854775808 ≤ a.v ∧ a.v ≤ 9223372036854775807
def Ac.cells (a : Ac) : List V := [.int .u8 (a.d : Int), sk a.k, .int .i64 a.v]
def acs (xs : List Ac) : List (List V) := xs.map Ac.cells
theorem acs_len (xs : List Ac) : (acs xs).length = xs.length := by simp [acs]
theorem acs_get {xs : List Ac} {i : Nat} {a : Ac} (h : xs[i]? = some a) : (acs xs)[i]? = some a.cells := by simp [acs, h]
theorem ac_of {d : Nat} {y : List V} (h : HasT P d 29 y) : ∃ x : Ac, x.ok ∧ y = x.cells := by
  obtain ⟨d', _, hl, hf⟩ := hasT_sh [(5, 0, 1), (9, 1, 1), (3, 2, 1)] (sz := 3) (by kernel_rfl) (by kernel_rfl) (by simp) h
  obtain ⟨a, h0, w0⟩ := hasT_int (k := .u8) (by kernel_rfl) (hf (5, 0, 1) (by simp))
  obtain ⟨s, h1, w1⟩ := hasT_str (by kernel_rfl) (hf (9, 1, 1) (by simp))
  obtain ⟨b, h2, w2⟩ := hasT_int (k := .i64) (by kernel_rfl) (hf (3, 2, 1) (by simp))
  match y, hl with
  | [y0, y1, y2], _ =>
    simp only [List.drop_zero, List.drop_succ_cons, List.take_succ_cons, List.take_zero, List.cons.injEq, and_true] at h0 h1 h2
    subst h0 h1 h2
    obtain ⟨p1, p2⟩ := wf_u8 w0
    obtain ⟨p3, p4⟩ := wf_i64 w2
    have hsz : s.data.toList.length = s.size := Array.length_toList
    have hm := maxLen_eq
    rw [hm] at w1
    refine ⟨⟨a.toNat, s.data.toList, b⟩, ⟨by simp only; omega, by simp only; omega, p3, p4⟩, ?_⟩
    unfold Ac.cells
    simp only
    rw [Int.toNat_of_nonneg p1]
theorem acts_of {v : V} (h : HasA P 22 v) : ∃ (s : VS) (l : List Ac), v = .sl 29 s ∧ IsE s (acs l) ∧ (∀ x ∈ l, x.ok) ∧ l.length ≤ maxLen := by
  obtain ⟨d, s, es, h1, h2, h3, h4⟩ := hasA_sl (e := 29) (by kernel_rfl) h
  obtain ⟨l, rfl, h5⟩ := lst_of (f := Ac.cells) (Q := Ac.ok) (es := es) (fun y hy => ac_of (h4 y hy).1)
  exact ⟨s, l, h1, h2, h5, by simpa using h3⟩
def keyS (a : Ac) (near : Bool) : Key := if near = true then [UInt8.ofNat (97 + a.d / 8 % 5)] else a.k
theorem keyS_len {a : Ac} (h : a.ok) (near : Bool) : (keyS a near).length ≤ 9223372036854775807 := by
  unfold keyS
  split
  · simp
  · exact h.2.1
theorem e12 (n : Nat) {a : Ac} (ha : a.ok) (near : Bool) (H : VH) : vF P tab (n + 2) 12 [.agg a.cells, .bool near] H = some (sk (keyS a near), H) := by
  have hb : ∃ H', bodyV P tab (vF P tab (n + 1)) (n + 1) 12 [.agg a.cells, .bool near] [] = some (sk (keyS a near), H') := by
    show ∃ H', bodyV P tab (vF P tab (n + 1)) (n + 1) 12 [.agg [.int .u8 (a.d : Int), .str ⟨a.k.toArray⟩, .int .i64 a.v], .bool near] [] = _
    rw [f12_eq]
    have hrow : ([] ++ [VO.row (29 + boxK) [.int .u8 (a.d : Int), .str ⟨a.k.toArray⟩, .int .i64 a.v]] : VH)[0]? = some (.row (29 + boxK) [.int .u8 (a.d : Int), .str ⟨a.k.toArray⟩, .int .i64 a.v]) := rfl
    simp only [List.length_nil]
    rw [ld_row hrow, ld_row hrow]
    cases near with
    | true =>
      rw [cond_true]
      show ∃ H', (Option.bind (V.fdec (.int .u8) (.int .u8 (a.d : Int))) _) = _
      obtain ⟨h1, _⟩ := ha
      rw [fd_int, Option.bind_some, show (8 : Int) = ((8 : Nat) : Int) from rfl, quoI_nat (by decide) (by rw [wrap_u8_nat (by omega)]), Option.bind_some, show (5 : Int) = ((5 : Nat) : Int) from rfl, remI_nat (by decide), Option.bind_some]
      have hw : IntKind.wrap .u8 (97 + ((a.d / 8 % 5 : Nat) : Int)) = (((UInt8.ofNat (97 + a.d / 8 % 5)).toNat : Nat) : Int) := by
        have e : (97 : Int) + ((a.d / 8 % 5 : Nat) : Int) = ((97 + a.d / 8 % 5 : Nat) : Int) := by omega
        rw [e, wrap_u8_nat (by omega), UInt8.toNat_ofNat']
        congr 1; omega
      rw [hw]
      have hB : IsB (.fz [[.int .u8 (((UInt8.ofNat (97 + a.d / 8 % 5)).toNat : Nat) : Int)]] (.ex 1)) [UInt8.ofNat (97 + a.d / 8 % 5)] := IsE.fz (bs [UInt8.ofNat (97 + a.d / 8 % 5)]) _
      rw [hB.str, Option.bind_some]
      exact ⟨_, rfl⟩
    | false =>
      rw [cond_false]
      exact ⟨_, rfl⟩
  obtain ⟨H', h⟩ := hb
  exact vF_lone (r := sk (keyS a near)) (H1 := H') rfl rfl h rfl
theorem c12 (n : Nat) {a : Ac} (ha : a.ok) (near : Bool) (H : VH) : callD (vF P tab (n + 2)) P false (.one (.flat .str)) 12 [.agg [.int .u8 (a.d : Int), .str ⟨a.k.toArray⟩, .int .i64 a.v], .bool near] H = some (⟨(keyS a near).toArray⟩, H) := callD_str (e12 n ha near H)
theorem ix_act {s : VS} {xs : List Ac} (hs : IsE s (acs xs)) {i : Nat} {a : Ac} (ha : xs[i]? = some a) : ixV 3 s (i : Int) = some (.fz a.cells) := hs.ix (acs_get ha) 3
theorem ld_act (a : Ac) (H : VH) : ldV (.agg [.int .u8, .str, .int .i64]) H (.fz a.cells) = some ((a.d : Int), ⟨a.k.toArray⟩, a.v, ()) := rfl
theorem ld_d (a : Ac) (H : VH) : ldV (.flat (.int .u8)) H (.fz a.cells) = some (a.d : Int) := rfl
theorem at_0 (a : Ac) : atO (.fz a.cells) 0 = some (.fz a.cells) := rfl
theorem at_k (a : Ac) : atO (.fz a.cells) 1 = some (.fz [sk a.k, .int .i64 a.v]) := rfl
theorem at_v (a : Ac) : atO (.fz a.cells) 2 = some (.fz [.int .i64 a.v]) := rfl
theorem ld_k (a : Ac) (H : VH) : ldV (.flat .str) H (.fz [sk a.k, .int .i64 a.v]) = some ⟨a.k.toArray⟩ := rfl
theorem ld_v (a : Ac) (H : VH) : ldV (.flat (.int .i64)) H (.fz [.int .i64 a.v]) = some a.v := rfl
theorem held_fzp (cs : List V) (l : List V.FT) (vs : List V) : heldOf (.fz cs) l vs = [] := rfl
theorem stays_hn (H : VH) : V.stays H (hj [] []) = true := rfl
theorem stays_hn2 (H : VH) : V.stays H (hj [] (hj [] [])) = true := rfl
/-! ### What can be undone -/
namespace S
/-- From one table to another, step by step. -/
inductive Jd (m0 : List (Key × ByteArray)) : List JE → List (Key × ByteArray) → Prop
  | nil : Jd m0 [] m0
  | set {jr m} (k : Key) (a : ByteArray) : Jd m0 jr m → Jd m0 (jr ++ [je m k]) (putA m k a)
  | cut {jr m} (k : Key) : Jd m0 jr m → Jd m0 (jr ++ [je m k]) (cutA m k)
def Nd (m : List (Key × ByteArray)) : Prop := (m.map (·.1)).Nodup
def Eqv (m m' : List (Key × ByteArray)) : Prop := ∀ key, getM m key = getM m' key
theorem un1_nd {m : List (Key × ByteArray)} (h : Nd m) (x : JE) : Nd (un1 m x) := by
  unfold un1
  split
  · exact nodup_put h _ _
  · exact nodup_cut h _
theorem un1_get {m' m : List (Key × ByteArray)} (h : Nd m') (k key : Key) : getM (un1 m' (je m k)) key = if key = k then getM m k else getM m' key := by
  unfold un1 je
  simp only
  cases hg : getM m k with
  | none =>
    rw [if_neg (by simp)]
    exact getM_cut h k key
  | some a =>
    rw [if_pos (by rfl), getM_put]
    rfl
theorem Jd.undo {m0 : List (Key × ByteArray)} (h0 : Nd m0) {jr : List JE} {m : List (Key × ByteArray)} (h : Jd m0 jr m) : Nd m ∧ ∀ m', Nd m' → Eqv m' m → Nd (jr.reverse.foldl un1 m') ∧ Eqv (jr.reverse.foldl un1 m') m0 := by
  induction h with
  | nil => exact ⟨h0, fun m' h1 h2 => ⟨h1, h2⟩⟩
  | set k a _ ih =>
    refine ⟨nodup_put ih.1 k a, fun m' h1 h2 => ?_⟩
    rw [List.reverse_append]
    refine ih.2 _ (un1_nd h1 _) (fun key => ?_)
    rw [un1_get h1]
    by_cases e : key = k
    · rw [if_pos e, e]
    · rw [if_neg e, h2, getM_put, if_neg e]
  | cut k _ ih =>
    refine ⟨nodup_cut ih.1 k, fun m' h1 h2 => ?_⟩
    rw [List.reverse_append]
    refine ih.2 _ (un1_nd h1 _) (fun key => ?_)
    rw [un1_get h1]
    by_cases e : key = k
    · rw [if_pos e, e]
    · rw [if_neg e, h2, getM_cut ih.1, if_neg e]
theorem Eqv.keys {m m' : List (Key × ByteArray)} (h : Nd m) (h' : Nd m') (e : Eqv m m') : sortK (m.map (·.1)) = sortK (m'.map (·.1)) ∧ m.length = m'.length := by
  have := keys_same h h' e
  exact ⟨sortK_congr this, by simpa using this.length_eq⟩
end S
namespace I
/-- From one table to another, step by step. -/
inductive Jd (m0 : List (Key × Int)) : List JE → List (Key × Int) → Prop
  | nil : Jd m0 [] m0
  | set {jr m} (k : Key) (a : Int) : Jd m0 jr m → Jd m0 (jr ++ [je m k]) (putA m k a)
  | cut {jr m} (k : Key) : Jd m0 jr m → Jd m0 (jr ++ [je m k]) (cutA m k)
def Nd (m : List (Key × Int)) : Prop := (m.map (·.1)).Nodup
def Eqv (m m' : List (Key × Int)) : Prop := ∀ key, getM m key = getM m' key
theorem un1_nd {m : List (Key × Int)} (h : Nd m) (x : JE) : Nd (un1 m x) := by
  unfold un1
  split
  · exact nodup_put h _ _
  · exact nodup_cut h _
theorem un1_get {m' m : List (Key × Int)} (h : Nd m') (k key : Key) : getM (un1 m' (je m k)) key = if key = k then getM m k else getM m' key := by
  unfold un1 je
  simp only
  cases hg : getM m k with
  | none =>
    rw [if_neg (by simp)]
    exact getM_cut h k key
  | some a =>
    rw [if_pos (by rfl), getM_put]
    rfl
theorem Jd.undo {m0 : List (Key × Int)} (h0 : Nd m0) {jr : List JE} {m : List (Key × Int)} (h : Jd m0 jr m) : Nd m ∧ ∀ m', Nd m' → Eqv m' m → Nd (jr.reverse.foldl un1 m') ∧ Eqv (jr.reverse.foldl un1 m') m0 := by
  induction h with
  | nil => exact ⟨h0, fun m' h1 h2 => ⟨h1, h2⟩⟩
  | set k a _ ih =>
    refine ⟨nodup_put ih.1 k a, fun m' h1 h2 => ?_⟩
    rw [List.reverse_append]
    refine ih.2 _ (un1_nd h1 _) (fun key => ?_)
    rw [un1_get h1]
    by_cases e : key = k
    · rw [if_pos e, e]
    · rw [if_neg e, h2, getM_put, if_neg e]
  | cut k _ ih =>
    refine ⟨nodup_cut ih.1 k, fun m' h1 h2 => ?_⟩
    rw [List.reverse_append]
    refine ih.2 _ (un1_nd h1 _) (fun key => ?_)
    rw [un1_get h1]
    by_cases e : key = k
    · rw [if_pos e, e]
    · rw [if_neg e, h2, getM_cut ih.1, if_neg e]
theorem Eqv.keys {m m' : List (Key × Int)} (h : Nd m) (h' : Nd m') (e : Eqv m m') : sortK (m.map (·.1)) = sortK (m'.map (·.1)) ∧ m.length = m'.length := by
  have := keys_same h h' e
  exact ⟨sortK_congr this, by simpa using this.length_eq⟩
end I
end Go.Proofs.Ytlkpgimhcnmblaa
