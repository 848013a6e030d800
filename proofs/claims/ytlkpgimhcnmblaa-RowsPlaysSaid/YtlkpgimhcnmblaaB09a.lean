import Derived.Test.YtlkpgimhcnmblaaB09s
import Derived.Test.YtlkpgimhcnmblaaVc
set_option maxRecDepth 100000
set_option linter.unusedVariables false
set_option linter.unusedSimpArgs false
namespace Go.Proofs.Ytlkpgimhcnmblaa
open Go.Proofs.Ytlkpgimhcnmblaa.Sh Go.Proofs.Ytlkpgimhcnmblaa.Sh.V Go.RowKit
theorem tabOK : VOK P tab := mkVp_ok (mkV_ok (by kernel_rfl) (by kernel_rfl) (by
  intro f hf
  have : (reach.all fun f => okCode P noteOf f) = true := by kernel_rfl
  exact List.all_eq_true.1 this f hf) (fun f hf => by cases hf)) (fun x hx => by
  rw [List.mem_singleton.1 hx]
  exact prim35)
/-- Objects of one's own are old ones or new ones. -/
def TN (H : VH) (T T' : List Nat) : Prop := ∀ t ∈ T', t ∈ T ∨ H.length ≤ t
theorem TN.refl (H : VH) (T : List Nat) : TN H T T := fun t h => .inl h
theorem TN.trans {H H1 : VH} {X T T1 T2 : List Nat} (a : TN H T T1) (kp : Kp H H1 X) (b : TN H1 T1 T2) : TN H T T2 := fun t ht => by
  have := kp.len
  rcases b t ht with h | h
  · exact a t h
  · exact .inr (by omega)
/-! ### A table of texts -/
namespace S
abbrev TT : TypeId := 65 + boxK
abbrev WT : TypeId := 72
abbrev enc : ByteArray → V := fun a => .str a
abbrev zr : ByteArray := ⟨#[]⟩
abbrev JE := Key × ByteArray × Bool
def jc (x : JE) : List V := [sk x.1, enc x.2.1, .bool x.2.2]
def je (m : List (Key × ByteArray)) (k : Key) : JE := (k, (getM m k).getD zr, (getM m k).isSome)
/-- A table: its objects; what there is; what was done. -/
def TB (H : VH) (k i : Nat) (T : List Nat) (m : List (Key × ByteArray)) (jr : List JE) : Prop :=
  ∃ js, H[k]? = some (.row TT [.map (some i), .sl WT js]) ∧ H[i]? = some (.map .str (ents sk enc m)) ∧ Hq H WT 3 js (jr.map jc) ∧ T = k :: i :: hps js
section
variable {H : VH} {k i : Nat} {T : List Nat} {m : List (Key × ByteArray)} {jr : List JE}
theorem TB.keep {H' : VH} {X : List Nat} (h : TB H k i T m jr) (kp : Kp H H' X) (hT : ∀ t ∈ T, t ∉ X) : TB H' k i T m jr := by
  obtain ⟨js, h1, h2, h3, rfl⟩ := h
  exact ⟨js, kp.ob h1 (hT k (by simp)), kp.ob h2 (hT i (by simp)), h3.keep kp (fun t ht => hT t (by simp [ht])), rfl⟩
theorem TB.lt (h : TB H k i T m jr) : ∀ t ∈ T, t < H.length := by
  obtain ⟨js, h1, h2, h3, rfl⟩ := h
  intro t ht
  rcases List.mem_cons.1 ht with rfl | ht
  · exact lt_of_ob h1
  rcases List.mem_cons.1 ht with rfl | ht
  · exact lt_of_ob h2
  · exact (h3.lt t ht).1
theorem TB.kn {H' : VH} (h : TB H k i T m jr) (kp : Kp H H' []) : TB H' k i T m jr := h.keep kp (fun _ _ => by simp)
theorem ld_map (h : TB H k i T m jr) : ldV (.flat .map) H (.ob k 0) = some (some i) := by
  obtain ⟨js, h1, _⟩ := h
  rw [ld_row h1]; rfl
theorem ld_js (h : TB H k i T m jr) : ∃ js, ldV (.flat (.slice WT)) H (.ob k 1) = some js ∧ Hq H WT 3 js (jr.map jc) ∧ T = k :: i :: hps js ∧ H[k]? = some (.row TT [.map (some i), .sl WT js]) := by
  obtain ⟨js, h1, h2, h3, h4⟩ := h
  exact ⟨js, by rw [ld_row h1]; exact fd_sl WT js, h3, h4, h1⟩
theorem hp_ne (h : TB H k i T m jr) {js : VS} (h3 : Hq H WT 3 js (jr.map jc)) : ∀ t ∈ hps js, t ≠ k ∧ t ≠ i := by
  obtain ⟨_, h1, h2, _⟩ := h
  intro t ht
  obtain ⟨_, cs, hcs⟩ := h3.lt t ht
  refine ⟨fun he => ?_, fun he => ?_⟩
  · subst he; rw [h1] at hcs; injection hcs with hcs; injection hcs with hcs; revert hcs; decide
  · subst he; rw [h2] at hcs; cases hcs
theorem e14 (n : Nat) (h : TB H k i T m jr) (key : Key) : vF P tab (n + 1) 14 [.ptr (.ob k 0), sk key] H = some (.tup [enc ((getM m key).getD zr), .bool (getM m key).isSome], H) := by
  rw [vF_body rfl, f14_eq]
  simp only [VP.isNil, cond_false, nn, atO, Option.bind_some, Nat.zero_add]
  rw [ld_map h, Option.bind_some]
  obtain ⟨_, _, h2, _⟩ := h
  rw [look_str (enc := enc) (τ := .flat .str) (d := fun a => a) h2 (fun a => rfl) (z := zr) (by kernel_rfl) key, Option.bind_some]
  cases getM m key <;> rfl
theorem c14 (n : Nat) (h : TB H k i T m jr) (key : Key) : callD (vF P tab (n + 1)) P false (.tup [(.flat .str), (.flat .bool)]) 14 [.ptr (.ob k 0), sk key] H = some (((getM m key).getD zr, (getM m key).isSome, ()), H) := callD_some _ (e14 n h key) rfl
theorem e15 (n : Nat) (h : TB H k i T m jr) : vF P tab (n + 1) 15 [.ptr (.ob k 0)] H = some (.int .i64 (jr.length : Int), H) := by
  obtain ⟨js, h1, h2, _⟩ := ld_js h
  rw [vF_body rfl, f15_eq]
  simp only [VP.isNil, cond_false, nn, atO, Option.bind_some, Nat.zero_add]
  rw [h1, Option.bind_some, h2.len, List.length_map]
theorem e10 (n : Nat) (H : VH) : ∃ H' T', vF P tab (n + 1) 10 [] H = some (.ptr (.ob (H.length + 1) 0), H') ∧ TB H' (H.length + 1) H.length T' [] [] ∧ Kp H H' [] ∧ (∀ t ∈ T', H.length ≤ t) := by
  rw [vF_body rfl, f10_eq]
  have hl : (H ++ [VO.map .str []]).length = H.length + 1 := by simp
  simp only [hl]
  refine ⟨_, _, rfl, ⟨.nil, ?_, ?_, Hq.nil _ _ _, rfl⟩, ?_, ?_⟩
  · show ((H ++ [VO.map .str []]) ++ [_])[_]? = _
    rw [List.getElem?_append_right (by simp), hl, Nat.sub_self]; rfl
  · show ((H ++ [VO.map .str []]) ++ [_])[_]? = _
    rw [List.getElem?_append_left (by simp)]; simp [ents]
  · exact (Kp.app H _).trans (Kp.app _ _) (fun x hx _ => hx) (fun y hy _ => hy)
  · intro t ht
    rcases List.mem_cons.1 ht with rfl | ht
    · omega
    rcases List.mem_cons.1 ht with rfl | ht
    · exact Nat.le_refl _
    · cases ht
theorem e34 (n : Nat) (h : TB H k i T m jr) (key : Key) (hj : jr.length < 1000000) : ∃ H' T', vF P tab (n + 2) 34 [.ptr (.ob k 0), sk key] H = some (.bool (getM m key).isSome, H') ∧ TB H' k i T' m (jr ++ [je m key]) ∧ Kp H H' T ∧ TN H T T' := by
  rw [vF_body rfl, f34_eq, c14 n h key, Option.bind_some]
  simp only [nn, atO, Option.bind_some, Nat.zero_add]
  obtain ⟨js, h1, h2, rfl, h4⟩ := ld_js h
  rw [h1, Option.bind_some]
  obtain ⟨H0, hH0⟩ : ∃ H0 : VH, H0 = H ++ [.row 72 [sk key, enc ((getM m key).getD zr), .bool (getM m key).isSome]] := ⟨_, rfl⟩
  have kp0 : Kp H H0 [] := by rw [hH0]; exact Kp.app _ _
  have hx : slEs H0 WT 3 (.hp H.length 0 1) = some [jc (je m key)] := by rw [hH0]; exact new_one H WT rfl rfl
  rw [← hH0]
  obtain ⟨s', H1, g1, g2, g3, g4⟩ := (h2.keep kp0 (by simp)).app (by_ := 40) (x := .hp H.length 0 1) rfl hx (fun y hy => by rw [List.mem_singleton] at hy; subst hy; rfl) (by rw [List.length_map]; simp only [bound, List.length_singleton]; omega) (by rw [List.length_map]; simp only [bound, List.length_singleton]; omega)
  rw [g1, Option.bind_some]
  have hne := hp_ne h h2
  have hk1 : H1[k]? = some (.row TT [.map (some i), .sl WT js]) := g3.ob (kp0.ob h4 (by simp)) (fun hm => (hne k hm).1 rfl)
  obtain ⟨_, _, hi0, _⟩ := h
  have hi1 : H1[i]? = some (.map .str (ents sk enc m)) := g3.ob (kp0.ob hi0 (by simp)) (fun hm => (hne i hm).2 rfl)
  have hkl := lt_of_ob h4
  have hil := lt_of_ob hi0
  have hki : k ≠ i := fun he => by subst he; rw [h4] at hi0; cases hi0
  simp only
  rw [st_row hk1 (by simp) rfl, Option.bind_some]
  have hs'ne : ∀ t ∈ hps s', t ≠ k := fun t ht => by
    rcases g4 t ht with h5 | h5
    · exact (hne t h5).1
    · have := kp0.len; omega
  refine ⟨_, _, rfl, ⟨s', ?_, ?_, ?_, rfl⟩, ?_, ?_⟩
  · rw [List.getElem?_set_self (lt_of_ob hk1)]; rfl
  · rw [List.getElem?_set_ne hki]; exact hi1
  · rw [List.map_append]
    exact g2.keep (Kp.set H1 k _) (fun t ht hm => hs'ne t ht (List.mem_singleton.1 hm))
  · refine (kp0.trans g3 (Z := k :: i :: hps js) (fun x hx _ => by cases hx) (fun y hy _ => by simp [hy])).trans (Kp.set H1 k _) (fun x hx _ => hx) (fun y hy _ => ?_)
    rw [List.mem_singleton] at hy; subst hy; simp
  · intro t ht
    rcases List.mem_cons.1 ht with rfl | ht
    · exact .inl (by simp)
    rcases List.mem_cons.1 ht with rfl | ht
    · exact .inl (by simp)
    · rcases g4 t ht with h5 | h5
      · exact .inl (by simp [h5])
      · have := kp0.len; exact .inr (by omega)
/-- The map turns. -/
theorem to_map (h : TB H k i T m jr) (m' : List (Key × ByteArray)) : TB (H.set i (.map .str (ents sk enc m'))) k i T m' jr ∧ Kp H (H.set i (.map .str (ents sk enc m'))) T := by
  have h0 := h
  obtain ⟨js, h1, h2, h3, rfl⟩ := h
  have hki : i ≠ k := fun he => by subst he; rw [h1] at h2; cases h2
  refine ⟨⟨js, by rw [List.getElem?_set_ne hki]; exact h1, by rw [List.getElem?_set_self (lt_of_ob h2)], h3.keep (Kp.set H i _) (fun t ht hm => (hp_ne h0 h3 t ht).2 (List.mem_singleton.1 hm)), rfl⟩, (Kp.set H i _).weak (fun x hx _ => ?_)⟩
  rw [List.mem_singleton] at hx; subst hx; simp
theorem kpT {H1 H2 : VH} {T1 : List Nat} (a : Kp H H1 T) (b : Kp H1 H2 T1) (h : TN H T T1) : Kp H H2 T :=
  a.trans b (fun x hx _ => hx) (fun y hy hl => by
    rcases h y hy with h1 | h1
    · exact h1
    · omega)
theorem e11 (n : Nat) (h : TB H k i T m jr) {key : Key} (a : ByteArray) (hk : key.length ≤ 9223372036854775807) (hm : m.length < 1000000) (hj : jr.length < 1000000) :
    ∃ H' T', vF P tab (n + 3) 11 [.ptr (.ob k 0), sk key, enc a] H = some (.tup [], H') ∧ TB H' k i T' (putA m key a) (jr ++ [je m key]) ∧ Kp H H' T ∧ TN H T T' := by
  obtain ⟨H1, T1, a1, a2, a3, a4⟩ := e34 n h key hj
  rw [vF_body rfl, f11_eq]
  simp only [VP.isNil, Bool.not_false, cond_true, nn, atO, Option.bind_some, Nat.zero_add]
  rw [callD_bool a1, Option.bind_some]
  simp only
  rw [ld_map a2, Option.bind_some, put_str (enc := enc) a2.choose_spec.2.1 hk (by omega) a, Option.bind_some]
  obtain ⟨t1, t2⟩ := to_map a2 (putA m key a)
  exact ⟨_, T1, rfl, t1, kpT a3 t2 a4, a4⟩
theorem e16 (n : Nat) (h : TB H k i T m jr) (key : Key) (hj : jr.length < 1000000) :
    ∃ H' T', vF P tab (n + 3) 16 [.ptr (.ob k 0), sk key] H = some (.bool (getM m key).isSome, H') ∧ TB H' k i T' (cutA m key) (if (getM m key).isSome = true then jr ++ [je m key] else jr) ∧ Kp H H' T ∧ TN H T T' := by
  rw [vF_body rfl, f16_eq, c14 (n + 1) h key, Option.bind_some]
  simp only
  cases hg : getM m key with
  | none =>
    have hcut : cutA m key = m := by
      rcases findV_ents (enc := enc) vkeq_sk key m with ⟨_, _, _, h4⟩ | ⟨_, _, h1, _⟩
      · exact h4
      · rw [hg] at h1; cases h1
    simp only [Option.isSome_none, Bool.not_false, cond_true, Bool.false_eq_true, if_false]
    exact ⟨H, T, rfl, by rw [hcut]; exact h, Kp.refl _ _, TN.refl _ _⟩
  | some a =>
    obtain ⟨H1, T1, a1, a2, a3, a4⟩ := e34 n h key hj
    simp only [Option.isSome_some, Bool.not_true, cond_false, if_true]
    rw [callD_bool a1, Option.bind_some]
    simp only [nn, atO, Option.bind_some, Nat.zero_add]
    rw [ld_map a2, Option.bind_some, cut_str (enc := enc) a2.choose_spec.2.1, Option.bind_some]
    obtain ⟨t1, t2⟩ := to_map a2 (cutA m key)
    exact ⟨_, T1, rfl, t1, kpT a3 t2 a4, a4⟩
theorem v36 (n : Nat) (H : VH) (mm : Option Nat) : vF P tab (n + 1) 36 [.map mm] H = some (.func (.func 43) [] [.ptr (.ob H.length 0)], H ++ [.row (62 + boxK) [.map mm]]) := by
  rw [vF_body rfl, f36_eq]
theorem e13 (n : Nat) (h : TB H k i T m jr) (hm : m.length < 1000000) : ∃ s H', vF P tab (n + 2) 13 [.ptr (.ob k 0)] H = some (.sl 9 s, H') ∧ IsT s (sortK (m.map (·.1))) ∧ Kp H H' [] := by
  rw [vF_body rfl, f13_eq]
  simp only [VP.isNil, cond_false, nn, atO, Option.bind_some, Nat.zero_add]
  rw [ld_map h, Option.bind_some, callD_some (τ := .one (.flat .any)) _ (v36 n H (some i)) rfl, Option.bind_some]
  simp only
  obtain ⟨_, _, h2, _⟩ := h
  have kp0 : Kp H (H ++ [.row (62 + boxK) [.map (some i)]]) [] := Kp.app _ _
  have hs := sorted_str (enc := enc) (kp0.ob h2 (by simp)) (k := H.length) (T := 62 + boxK) (by simp) (Nat.le_add_left _ _) (by omega) (its := [43, 44]) (it := 43) (e := 9) rfl
  have hv : vF P tab (n + 1) 35 [.func (.func 43) [] [.ptr (.ob H.length 0)]] (H ++ [.row (62 + boxK) [.map (some i)]]) = some (.sl 9 (srtV (m.map (·.1))), H ++ [.row (62 + boxK) [.map (some i)]]) := by
    rw [vF_body rfl]
    exact hs
  rw [callD_sl hv, Option.bind_some]
  exact ⟨_, _, rfl, isT_srt _, kp0⟩
/-- One thing is undone. -/
def un1 (m : List (Key × ByteArray)) (x : JE) : List (Key × ByteArray) := if x.2.2 = true then putA m x.1 x.2.1 else cutA m x.1
theorem un1_len (m : List (Key × ByteArray)) (x : JE) : (un1 m x).length ≤ m.length + 1 := by
  unfold un1
  split
  · exact (len_put m _ _).2
  · exact Nat.le_succ_of_le (len_cut m _)
theorem cutI {a : Nat} : IntKind.wrap .i64 (((a + 1 : Nat) : Int) - 1) = (a : Int) ∨ ¬ a < 1000000 := by
  by_cases h : a < 1000000
  · left; rw [i64_in (by omega)]; omega
  · exact .inr h
theorem decs_jc (x : JE) : decs [.str, .str, .bool] (jc x) = some (⟨x.1.toArray⟩, x.2.1, x.2.2, ()) := rfl
theorem l17 (n : Nat) {c : Int} {c0 : Nat} (hc : (if 0 > c then 0 else c) = (c0 : Int)) : ∀ (q m0 : Nat) {H : VH} {T : List Nat} {m : List (Key × ByteArray)} {jr : List JE}, TB H k i T m jr → jr.length - c0 = q → q < m0 → m.length + jr.length < 1000000 → (∀ x ∈ jr, x.1.length ≤ 9223372036854775807) →
    ∃ H' T', L17_0 (n + 1) m0 (.ob k 0) c H = some (.tup [], H') ∧ TB H' k i T' ((jr.drop c0).reverse.foldl un1 m) (jr.take c0) ∧ Kp H H' T ∧ TN H T T' := by
  intro q
  induction q with
  | zero =>
    intro m0 H T m jr h hq hm hb hk
    cases m0 with
    | zero => omega
    | succ m0 =>
      rw [L17_0_eq, callD_int (e15 n h), Option.bind_some]
      simp only
      rw [hc]
      have hd : decide ((jr.length : Int) > (c0 : Int)) = false := decide_eq_false (by omega)
      rw [hd, cond_false]
      refine ⟨H, T, rfl, ?_, Kp.refl _ _, TN.refl _ _⟩
      rw [List.drop_eq_nil_of_le (by omega), List.take_of_length_le (by omega)]
      exact h
  | succ q ih =>
    intro m0 H T m jr h hq hm hb hk
    cases m0 with
    | zero => omega
    | succ m0 =>
      rw [L17_0_eq, callD_int (e15 n h), Option.bind_some]
      simp only
      rw [hc]
      have hd : decide ((jr.length : Int) > (c0 : Int)) = true := decide_eq_true (by omega)
      rw [hd, cond_true]
      obtain ⟨jr', x, rfl⟩ : ∃ jr' x, jr = jr' ++ [x] := by
        rcases List.eq_nil_or_concat jr with h0 | ⟨l, y, h0⟩
        · subst h0; simp at hq
        · exact ⟨l, y, by rw [h0, List.concat_eq_append]⟩
      have hlen : (jr' ++ [x]).length = jr'.length + 1 := by simp
      rw [hlen] at hq hb
      have hw : IntKind.wrap .i64 (((jr'.length + 1 : Nat) : Int) - 1) = (jr'.length : Int) := by rw [i64_in (by omega)]; omega
      simp only [nn, atO, Option.bind_some, Nat.zero_add]
      obtain ⟨js, h1, h2, rfl, h4⟩ := ld_js h
      have hget : ((jr' ++ [x]).map jc)[jr'.length]? = some (jc x) := by simp
      rw [h1, Option.bind_some, Option.bind_some, h2.len, List.length_map, hlen, hw, h2.rd (l := [.str, .str, .bool]) hget rfl (decs_jc x)]
      obtain ⟨H0, hH0⟩ : ∃ H0 : VH, H0 = H ++ [.row (72 + boxK) [.str ⟨#[]⟩, .str ⟨#[]⟩, .bool false]] := ⟨_, rfl⟩
      rw [← hH0]
      have kp0 : Kp H H0 [] := by rw [hH0]; exact Kp.app _ _
      have hx0 : H0[H.length]? = some (.row (72 + boxK) [.str ⟨#[]⟩, .str ⟨#[]⟩, .bool false]) := by rw [hH0]; simp
      rw [st_row hx0 (by simp) rfl, Option.bind_some]
      have hkl := lt_of_ob h4
      obtain ⟨H1, hH1⟩ : ∃ H1 : VH, H1 = H0.set H.length (.row (72 + boxK) (jc x)) := ⟨_, rfl⟩
      have hH1' : H0.set H.length (.row (72 + boxK) (putAllV [.str ⟨#[]⟩, .str ⟨#[]⟩, .bool false] 0 [sk x.1, enc x.2.1, .bool x.2.2])) = H1 := by rw [hH1]; rfl
      rw [hH1']
      have kp1 : Kp H H1 [] := by
        rw [hH1]
        exact kp0.trans (Kp.set H0 H.length _) (fun x hx _ => hx) (fun y hy hl => by rw [List.mem_singleton] at hy; omega)
      have t1 := h.kn kp1
      obtain ⟨js2, b1, b2, b3, b4⟩ := ld_js t1
      have hjs : js2 = js := by
        have := kp1.ob h4 (by simp)
        rw [this] at b4
        injection b4 with b4; injection b4 with _ b4; injection b4 with _ b4; injection b4 with b4 _; injection b4 with _ b4; exact b4.symm
      subst hjs
      rw [b1, Option.bind_some]
      obtain ⟨s', d1, d2, d3⟩ := b2.cut (c := jr'.length) (by simp)
      rw [d1, Option.bind_some, st_row b4 (by simp) rfl, Option.bind_some]
      obtain ⟨H2, hH2⟩ : ∃ H2 : VH, H2 = H1.set k (.row TT [.map (some i), .sl WT s']) := ⟨_, rfl⟩
      have hH2' : H1.set k (.row TT (putAllV [.map (some i), .sl WT js2] 1 [.sl 72 s'])) = H2 := by rw [hH2]; rfl
      rw [hH2']
      have hne := hp_ne t1 b2
      have hi1 : H1[i]? = some (.map .str (ents sk enc m)) := t1.choose_spec.2.1
      have hki : k ≠ i := fun he => by subst he; rw [b4] at hi1; cases hi1
      have t2 : TB H2 k i (k :: i :: hps js2) m jr' := by
        refine ⟨s', ?_, ?_, ?_, by rw [d3]⟩
        · rw [hH2, List.getElem?_set_self (lt_of_ob b4)]
        · rw [hH2, List.getElem?_set_ne hki]; exact hi1
        · have : ((jr' ++ [x]).map jc).take jr'.length = jr'.map jc := by rw [← List.map_take]; simp
          rw [this] at d2
          rw [hH2]
          exact d2.keep (Kp.set H1 k _) (fun t ht hm => (hne t (by rw [d3] at ht; exact ht)).1 (List.mem_singleton.1 hm))
      have kp2 : Kp H H2 (k :: i :: hps js2) := by
        rw [hH2]
        exact kp1.trans (Kp.set H1 k _) (fun x hx _ => by cases hx) (fun y hy _ => by rw [List.mem_singleton] at hy; subst hy; simp)
      have hlN : H1[H.length]? = some (.row (72 + boxK) (jc x)) := by rw [hH1, List.getElem?_set_self (by rw [hH0]; simp)]
      have hx2 : H2[H.length]? = some (.row (72 + boxK) (jc x)) := by
        rw [hH2, List.getElem?_set_ne (by omega)]; exact hlN
      rw [ld_row hx2, ld_row hx2, ld_row hx2]
      have f0 : ((jc x)[0]?).bind (V.fdec .str) = some (⟨x.1.toArray⟩ : ByteArray) := rfl
      have f1 : ((jc x)[1]?).bind (V.fdec .str) = some x.2.1 := rfl
      have f2 : ((jc x)[2]?).bind (V.fdec .bool) = some x.2.2 := rfl
      rw [f2, Option.bind_some, f0, f1]
      have hxk : x.1.length ≤ 9223372036854775807 := hk x (by simp)
      have fin : ∀ {H3 : VH}, TB H3 k i (k :: i :: hps js2) (un1 m x) jr' → Kp H2 H3 (k :: i :: hps js2) →
          ∃ H' T', L17_0 (n + 1) m0 (.ob k 0) c H3 = some (.tup [], H') ∧ TB H' k i T' (((jr' ++ [x]).drop c0).reverse.foldl un1 m) ((jr' ++ [x]).take c0) ∧ Kp H H' (k :: i :: hps js2) ∧ TN H (k :: i :: hps js2) T' := by
        intro H3 t3 k3
        have ul := un1_len m x
        obtain ⟨H', T', r1, r2, r3, r4⟩ := ih m0 t3 (by omega) (by omega) (by omega) (fun y hy => hk y (by simp [hy]))
        have e1 : (jr' ++ [x]).drop c0 = jr'.drop c0 ++ [x] := List.drop_append_of_le_length (by omega)
        have e2 : (jr' ++ [x]).take c0 = jr'.take c0 := List.take_append_of_le_length (by omega)
        have k4 : Kp H H3 (k :: i :: hps js2) := kp2.trans k3 (fun x hx _ => hx) (fun y hy _ => hy)
        have hl4 := k4.len
        refine ⟨H', T', r1, ?_, k4.trans r3 (fun x hx _ => hx) (fun y hy _ => hy), fun t ht => ?_⟩
        · rw [e1, e2, List.reverse_append]; exact r2
        · rcases r4 t ht with h5 | h5
          · exact .inl h5
          · exact .inr (by omega)
      have hi2 : H2[i]? = some (.map .str (ents sk enc m)) := t2.choose_spec.2.1
      cases hb2 : x.2.2 with
      | true =>
        rw [cond_true, ld_map t2, Option.bind_some, Option.bind_some, Option.bind_some, put_str (enc := enc) hi2 hxk (by omega) x.2.1, Option.bind_some]
        obtain ⟨t3, k3⟩ := to_map t2 (putA m x.1 x.2.1)
        have e3 : un1 m x = putA m x.1 x.2.1 := if_pos hb2
        exact fin (by rw [e3]; exact t3) k3
      | false =>
        rw [cond_false, ld_map t2, Option.bind_some, Option.bind_some, cut_str (enc := enc) hi2, Option.bind_some]
        obtain ⟨t3, k3⟩ := to_map t2 (cutA m x.1)
        have e3 : un1 m x = cutA m x.1 := if_neg (by rw [hb2]; decide)
        exact fin (by rw [e3]; exact t3) k3
theorem e17 (n : Nat) {c : Int} {c0 : Nat} (hc : (if 0 > c then 0 else c) = (c0 : Int)) (h : TB H k i T m jr) (hn : jr.length ≤ n) (hb : m.length + jr.length < 1000000) (hk : ∀ x ∈ jr, x.1.length ≤ 9223372036854775807) :
    ∃ H' T', vF P tab (n + 2) 17 [.ptr (.ob k 0), .int .i64 c] H = some (.tup [], H') ∧ TB H' k i T' ((jr.drop c0).reverse.foldl un1 m) (jr.take c0) ∧ Kp H H' T ∧ TN H T T' := by
  rw [vF_body rfl, f17_eq]
  exact l17 n hc _ (n + 1) h rfl (by omega) hb hk
end
end S
/-! ### A table of numbers -/
namespace I
abbrev TT : TypeId := 76 + boxK
abbrev WT : TypeId := 79
abbrev enc : Int → V := fun a => .int .i64 a
abbrev zr : Int := 0
abbrev JE := Key × Int × Bool
def jc (x : JE) : List V := [sk x.1, enc x.2.1, .bool x.2.2]
def je (m : List (Key × Int)) (k : Key) : JE := (k, (getM m k).getD zr, (getM m k).isSome)
/-- A table: its objects; what there is; what was done. -/
def TB (H : VH) (k i : Nat) (T : List Nat) (m : List (Key × Int)) (jr : List JE) : Prop :=
  ∃ js, H[k]? = some (.row TT [.map (some i), .sl WT js]) ∧ H[i]? = some (.map .str (ents sk enc m)) ∧ Hq H WT 3 js (jr.map jc) ∧ T = k :: i :: hps js
section
variable {H : VH} {k i : Nat} {T : List Nat} {m : List (Key × Int)} {jr : List JE}
theorem TB.keep {H' : VH} {X : List Nat} (h : TB H k i T m jr) (kp : Kp H H' X) (hT : ∀ t ∈ T, t ∉ X) : TB H' k i T m jr := by
  obtain ⟨js, h1, h2, h3, rfl⟩ := h
  exact ⟨js, kp.ob h1 (hT k (by simp)), kp.ob h2 (hT i (by simp)), h3.keep kp (fun t ht => hT t (by simp [ht])), rfl⟩
theorem TB.lt (h : TB H k i T m jr) : ∀ t ∈ T, t < H.length := by
  obtain ⟨js, h1, h2, h3, rfl⟩ := h
  intro t ht
  rcases List.mem_cons.1 ht with rfl | ht
  · exact lt_of_ob h1
  rcases List.mem_cons.1 ht with rfl | ht
  · exact lt_of_ob h2
  · exact (h3.lt t ht).1
theorem TB.kn {H' : VH} (h : TB H k i T m jr) (kp : Kp H H' []) : TB H' k i T m jr := h.keep kp (fun _ _ => by simp)
theorem ld_map (h : TB H k i T m jr) : ldV (.flat .map) H (.ob k 0) = some (some i) := by
  obtain ⟨js, h1, _⟩ := h
  rw [ld_row h1]; rfl
theorem ld_js (h : TB H k i T m jr) : ∃ js, ldV (.flat (.slice WT)) H (.ob k 1) = some js ∧ Hq H WT 3 js (jr.map jc) ∧ T = k :: i :: hps js ∧ H[k]? = some (.row TT [.map (some i), .sl WT js]) := by
  obtain ⟨js, h1, h2, h3, h4⟩ := h
  exact ⟨js, by rw [ld_row h1]; exact fd_sl WT js, h3, h4, h1⟩
theorem hp_ne (h : TB H k i T m jr) {js : VS} (h3 : Hq H WT 3 js (jr.map jc)) : ∀ t ∈ hps js, t ≠ k ∧ t ≠ i := by
  obtain ⟨_, h1, h2, _⟩ := h
  intro t ht
  obtain ⟨_, cs, hcs⟩ := h3.lt t ht
  refine ⟨fun he => ?_, fun he => ?_⟩
  · subst he; rw [h1] at hcs; injection hcs with hcs; injection hcs with hcs; revert hcs; decide
  · subst he; rw [h2] at hcs; cases hcs
theorem e31 (n : Nat) (h : TB H k i T m jr) (key : Key) : vF P tab (n + 1) 31 [.ptr (.ob k 0), sk key] H = some (.tup [enc ((getM m key).getD zr), .bool (getM m key).isSome], H) := by
  rw [vF_body rfl, f31_eq]
  simp only [VP.isNil, cond_false, nn, atO, Option.bind_some, Nat.zero_add]
  rw [ld_map h, Option.bind_some]
  obtain ⟨_, _, h2, _⟩ := h
  rw [look_str (enc := enc) (τ := .flat (.int .i64)) (d := fun a => a) h2 (fun a => fd_int .i64 a) (z := zr) (by kernel_rfl) key, Option.bind_some]
  cases getM m key <;> rfl
theorem c31 (n : Nat) (h : TB H k i T m jr) (key : Key) : callD (vF P tab (n + 1)) P false (.tup [(.flat (.int .i64)), (.flat .bool)]) 31 [.ptr (.ob k 0), sk key] H = some (((getM m key).getD zr, (getM m key).isSome, ()), H) := callD_some _ (e31 n h key) rfl
theorem e23 (n : Nat) (h : TB H k i T m jr) : vF P tab (n + 1) 23 [.ptr (.ob k 0)] H = some (.int .i64 (jr.length : Int), H) := by
  obtain ⟨js, h1, h2, _⟩ := ld_js h
  rw [vF_body rfl, f23_eq]
  simp only [VP.isNil, cond_false, nn, atO, Option.bind_some, Nat.zero_add]
  rw [h1, Option.bind_some, h2.len, List.length_map]
theorem e19 (n : Nat) (H : VH) : ∃ H' T', vF P tab (n + 1) 19 [] H = some (.ptr (.ob (H.length + 1) 0), H') ∧ TB H' (H.length + 1) H.length T' [] [] ∧ Kp H H' [] ∧ (∀ t ∈ T', H.length ≤ t) := by
  rw [vF_body rfl, f19_eq]
  have hl : (H ++ [VO.map .str []]).length = H.length + 1 := by simp
  simp only [hl]
  refine ⟨_, _, rfl, ⟨.nil, ?_, ?_, Hq.nil _ _ _, rfl⟩, ?_, ?_⟩
  · show ((H ++ [VO.map .str []]) ++ [_])[_]? = _
    rw [List.getElem?_append_right (by simp), hl, Nat.sub_self]; rfl
  · show ((H ++ [VO.map .str []]) ++ [_])[_]? = _
    rw [List.getElem?_append_left (by simp)]; simp [ents]
  · exact (Kp.app H _).trans (Kp.app _ _) (fun x hx _ => hx) (fun y hy _ => hy)
  · intro t ht
    rcases List.mem_cons.1 ht with rfl | ht
    · omega
    rcases List.mem_cons.1 ht with rfl | ht
    · exact Nat.le_refl _
    · cases ht
theorem e37 (n : Nat) (h : TB H k i T m jr) (key : Key) (hj : jr.length < 1000000) : ∃ H' T', vF P tab (n + 2) 37 [.ptr (.ob k 0), sk key] H = some (.bool (getM m key).isSome, H') ∧ TB H' k i T' m (jr ++ [je m key]) ∧ Kp H H' T ∧ TN H T T' := by
  rw [vF_body rfl, f37_eq, c31 n h key, Option.bind_some]
  simp only [nn, atO, Option.bind_some, Nat.zero_add]
  obtain ⟨js, h1, h2, rfl, h4⟩ := ld_js h
  rw [h1, Option.bind_some]
  obtain ⟨H0, hH0⟩ : ∃ H0 : VH, H0 = H ++ [.row 79 [sk key, enc ((getM m key).getD zr), .bool (getM m key).isSome]] := ⟨_, rfl⟩
  have kp0 : Kp H H0 [] := by rw [hH0]; exact Kp.app _ _
  have hx : slEs H0 WT 3 (.hp H.length 0 1) = some [jc (je m key)] := by rw [hH0]; exact new_one H WT rfl rfl
  rw [← hH0]
  obtain ⟨s', H1, g1, g2, g3, g4⟩ := (h2.keep kp0 (by simp)).app (by_ := 32) (x := .hp H.length 0 1) rfl hx (fun y hy => by rw [List.mem_singleton] at hy; subst hy; rfl) (by rw [List.length_map]; simp only [bound, List.length_singleton]; omega) (by rw [List.length_map]; simp only [bound, List.length_singleton]; omega)
  rw [g1, Option.bind_some]
  have hne := hp_ne h h2
  have hk1 : H1[k]? = some (.row TT [.map (some i), .sl WT js]) := g3.ob (kp0.ob h4 (by simp)) (fun hm => (hne k hm).1 rfl)
  obtain ⟨_, _, hi0, _⟩ := h
  have hi1 : H1[i]? = some (.map .str (ents sk enc m)) := g3.ob (kp0.ob hi0 (by simp)) (fun hm => (hne i hm).2 rfl)
  have hkl := lt_of_ob h4
  have hil := lt_of_ob hi0
  have hki : k ≠ i := fun he => by subst he; rw [h4] at hi0; cases hi0
  simp only
  rw [st_row hk1 (by simp) rfl, Option.bind_some]
  have hs'ne : ∀ t ∈ hps s', t ≠ k := fun t ht => by
    rcases g4 t ht with h5 | h5
    · exact (hne t h5).1
    · have := kp0.len; omega
  refine ⟨_, _, rfl, ⟨s', ?_, ?_, ?_, rfl⟩, ?_, ?_⟩
  · rw [List.getElem?_set_self (lt_of_ob hk1)]; rfl
  · rw [List.getElem?_set_ne hki]; exact hi1
  · rw [List.map_append]
    exact g2.keep (Kp.set H1 k _) (fun t ht hm => hs'ne t ht (List.mem_singleton.1 hm))
  · refine (kp0.trans g3 (Z := k :: i :: hps js) (fun x hx _ => by cases hx) (fun y hy _ => by simp [hy])).trans (Kp.set H1 k _) (fun x hx _ => hx) (fun y hy _ => ?_)
    rw [List.mem_singleton] at hy; subst hy; simp
  · intro t ht
    rcases List.mem_cons.1 ht with rfl | ht
    · exact .inl (by simp)
    rcases List.mem_cons.1 ht with rfl | ht
    · exact .inl (by simp)
    · rcases g4 t ht with h5 | h5
      · exact .inl (by simp [h5])
      · have := kp0.len; exact .inr (by omega)
/-- The map turns. -/
theorem to_map (h : TB H k i T m jr) (m' : List (Key × Int)) : TB (H.set i (.map .str (ents sk enc m'))) k i T m' jr ∧ Kp H (H.set i (.map .str (ents sk enc m'))) T := by
  have h0 := h
  obtain ⟨js, h1, h2, h3, rfl⟩ := h
  have hki : i ≠ k := fun he => by subst he; rw [h1] at h2; cases h2
  refine ⟨⟨js, by rw [List.getElem?_set_ne hki]; exact h1, by rw [List.getElem?_set_self (lt_of_ob h2)], h3.keep (Kp.set H i _) (fun t ht hm => (hp_ne h0 h3 t ht).2 (List.mem_singleton.1 hm)), rfl⟩, (Kp.set H i _).weak (fun x hx _ => ?_)⟩
  rw [List.mem_singleton] at hx; subst hx; simp
theorem kpT {H1 H2 : VH} {T1 : List Nat} (a : Kp H H1 T) (b : Kp H1 H2 T1) (h : TN H T T1) : Kp H H2 T :=
  a.trans b (fun x hx _ => hx) (fun y hy hl => by
    rcases h y hy with h1 | h1
    · exact h1
    · omega)
theorem e20 (n : Nat) (h : TB H k i T m jr) {key : Key} (a : Int) (hk : key.length ≤ 9223372036854775807) (hm : m.length < 1000000) (hj : jr.length < 1000000) :
    ∃ H' T', vF P tab (n + 3) 20 [.ptr (.ob k 0), sk key, enc a] H = some (.tup [], H') ∧ TB H' k i T' (putA m key a) (jr ++ [je m key]) ∧ Kp H H' T ∧ TN H T T' := by
  obtain ⟨H1, T1, a1, a2, a3, a4⟩ := e37 n h key hj
  rw [vF_body rfl, f20_eq]
  simp only [VP.isNil, Bool.not_false, cond_true, nn, atO, Option.bind_some, Nat.zero_add]
  rw [callD_bool a1, Option.bind_some]
  simp only
  rw [ld_map a2, Option.bind_some, put_str (enc := enc) a2.choose_spec.2.1 hk (by omega) a, Option.bind_some]
  obtain ⟨t1, t2⟩ := to_map a2 (putA m key a)
  exact ⟨_, T1, rfl, t1, kpT a3 t2 a4, a4⟩
theorem e24 (n : Nat) (h : TB H k i T m jr) (key : Key) (hj : jr.length < 1000000) :
    ∃ H' T', vF P tab (n + 3) 24 [.ptr (.ob k 0), sk key] H = some (.bool (getM m key).isSome, H') ∧ TB H' k i T' (cutA m key) (if (getM m key).isSome = true then jr ++ [je m key] else jr) ∧ Kp H H' T ∧ TN H T T' := by
  rw [vF_body rfl, f24_eq, c31 (n + 1) h key, Option.bind_some]
  simp only
  cases hg : getM m key with
  | none =>
    have hcut : cutA m key = m := by
      rcases findV_ents (enc := enc) vkeq_sk key m with ⟨_, _, _, h4⟩ | ⟨_, _, h1, _⟩
      · exact h4
      · rw [hg] at h1; cases h1
    simp only [Option.isSome_none, Bool.not_false, cond_true, Bool.false_eq_true, if_false]
    exact ⟨H, T, rfl, by rw [hcut]; exact h, Kp.refl _ _, TN.refl _ _⟩
  | some a =>
    obtain ⟨H1, T1, a1, a2, a3, a4⟩ := e37 n h key hj
    simp only [Option.isSome_some, Bool.not_true, cond_false, if_true]
    rw [callD_bool a1, Option.bind_some]
    simp only [nn, atO, Option.bind_some, Nat.zero_add]
    rw [ld_map a2, Option.bind_some, cut_str (enc := enc) a2.choose_spec.2.1, Option.bind_some]
    obtain ⟨t1, t2⟩ := to_map a2 (cutA m key)
    exact ⟨_, T1, rfl, t1, kpT a3 t2 a4, a4⟩
theorem v38 (n : Nat) (H : VH) (mm : Option Nat) : vF P tab (n + 1) 38 [.map mm] H = some (.func (.func 44) [] [.ptr (.ob H.length 0)], H ++ [.row (73 + boxK) [.map mm]]) := by
  rw [vF_body rfl, f38_eq]
theorem e21 (n : Nat) (h : TB H k i T m jr) (hm : m.length < 1000000) : ∃ s H', vF P tab (n + 2) 21 [.ptr (.ob k 0)] H = some (.sl 9 s, H') ∧ IsT s (sortK (m.map (·.1))) ∧ Kp H H' [] := by
  rw [vF_body rfl, f21_eq]
  simp only [VP.isNil, cond_false, nn, atO, Option.bind_some, Nat.zero_add]
  rw [ld_map h, Option.bind_some, callD_some (τ := .one (.flat .any)) _ (v38 n H (some i)) rfl, Option.bind_some]
  simp only
  obtain ⟨_, _, h2, _⟩ := h
  have kp0 : Kp H (H ++ [.row (73 + boxK) [.map (some i)]]) [] := Kp.app _ _
  have hs := sorted_str (enc := enc) (kp0.ob h2 (by simp)) (k := H.length) (T := 73 + boxK) (by simp) (Nat.le_add_left _ _) (by omega) (its := [43, 44]) (it := 44) (e := 9) rfl
  have hv : vF P tab (n + 1) 35 [.func (.func 44) [] [.ptr (.ob H.length 0)]] (H ++ [.row (73 + boxK) [.map (some i)]]) = some (.sl 9 (srtV (m.map (·.1))), H ++ [.row (73 + boxK) [.map (some i)]]) := by
    rw [vF_body rfl]
    exact hs
  rw [callD_sl hv, Option.bind_some]
  exact ⟨_, _, rfl, isT_srt _, kp0⟩
/-- One thing is undone. -/
def un1 (m : List (Key × Int)) (x : JE) : List (Key × Int) := if x.2.2 = true then putA m x.1 x.2.1 else cutA m x.1
theorem un1_len (m : List (Key × Int)) (x : JE) : (un1 m x).length ≤ m.length + 1 := by
  unfold un1
  split
  · exact (len_put m _ _).2
  · exact Nat.le_succ_of_le (len_cut m _)
theorem cutI {a : Nat} : IntKind.wrap .i64 (((a + 1 : Nat) : Int) - 1) = (a : Int) ∨ ¬ a < 1000000 := by
  by_cases h : a < 1000000
  · left; rw [i64_in (by omega)]; omega
  · exact .inr h
theorem decs_jc (x : JE) : decs [.str, .int .i64, .bool] (jc x) = some (⟨x.1.toArray⟩, x.2.1, x.2.2, ()) := rfl
theorem l25 (n : Nat) {c : Int} {c0 : Nat} (hc : (if 0 > c then 0 else c) = (c0 : Int)) : ∀ (q m0 : Nat) {H : VH} {T : List Nat} {m : List (Key × Int)} {jr : List JE}, TB H k i T m jr → jr.length - c0 = q → q < m0 → m.length + jr.length < 1000000 → (∀ x ∈ jr, x.1.length ≤ 9223372036854775807) →
    ∃ H' T', L25_0 (n + 1) m0 (.ob k 0) c H = some (.tup [], H') ∧ TB H' k i T' ((jr.drop c0).reverse.foldl un1 m) (jr.take c0) ∧ Kp H H' T ∧ TN H T T' := by
  intro q
  induction q with
  | zero =>
    intro m0 H T m jr h hq hm hb hk
    cases m0 with
    | zero => omega
    | succ m0 =>
      rw [L25_0_eq, callD_int (e23 n h), Option.bind_some]
      simp only
      rw [hc]
      have hd : decide ((jr.length : Int) > (c0 : Int)) = false := decide_eq_false (by omega)
      rw [hd, cond_false]
      refine ⟨H, T, rfl, ?_, Kp.refl _ _, TN.refl _ _⟩
      rw [List.drop_eq_nil_of_le (by omega), List.take_of_length_le (by omega)]
      exact h
  | succ q ih =>
    intro m0 H T m jr h hq hm hb hk
    cases m0 with
    | zero => omega
    | succ m0 =>
      rw [L25_0_eq, callD_int (e23 n h), Option.bind_some]
      simp only
      rw [hc]
      have hd : decide ((jr.length : Int) > (c0 : Int)) = true := decide_eq_true (by omega)
      rw [hd, cond_true]
      obtain ⟨jr', x, rfl⟩ : ∃ jr' x, jr = jr' ++ [x] := by
        rcases List.eq_nil_or_concat jr with h0 | ⟨l, y, h0⟩
        · subst h0; simp at hq
        · exact ⟨l, y, by rw [h0, List.concat_eq_append]⟩
      have hlen : (jr' ++ [x]).length = jr'.length + 1 := by simp
      rw [hlen] at hq hb
      have hw : IntKind.wrap .i64 (((jr'.length + 1 : Nat) : Int) - 1) = (jr'.length : Int) := by rw [i64_in (by omega)]; omega
      simp only [nn, atO, Option.bind_some, Nat.zero_add]
      obtain ⟨js, h1, h2, rfl, h4⟩ := ld_js h
      have hget : ((jr' ++ [x]).map jc)[jr'.length]? = some (jc x) := by simp
      rw [h1, Option.bind_some, Option.bind_some, h2.len, List.length_map, hlen, hw, h2.rd (l := [.str, .int .i64, .bool]) hget rfl (decs_jc x)]
      obtain ⟨H0, hH0⟩ : ∃ H0 : VH, H0 = H ++ [.row (79 + boxK) [.str ⟨#[]⟩, .int .i64 0, .bool false]] := ⟨_, rfl⟩
      rw [← hH0]
      have kp0 : Kp H H0 [] := by rw [hH0]; exact Kp.app _ _
      have hx0 : H0[H.length]? = some (.row (79 + boxK) [.str ⟨#[]⟩, .int .i64 0, .bool false]) := by rw [hH0]; simp
      rw [st_row hx0 (by simp) rfl, Option.bind_some]
      have hkl := lt_of_ob h4
      obtain ⟨H1, hH1⟩ : ∃ H1 : VH, H1 = H0.set H.length (.row (79 + boxK) (jc x)) := ⟨_, rfl⟩
      have hH1' : H0.set H.length (.row (79 + boxK) (putAllV [.str ⟨#[]⟩, .int .i64 0, .bool false] 0 [sk x.1, enc x.2.1, .bool x.2.2])) = H1 := by rw [hH1]; rfl
      rw [hH1']
      have kp1 : Kp H H1 [] := by
        rw [hH1]
        exact kp0.trans (Kp.set H0 H.length _) (fun x hx _ => hx) (fun y hy hl => by rw [List.mem_singleton] at hy; omega)
      have t1 := h.kn kp1
      obtain ⟨js2, b1, b2, b3, b4⟩ := ld_js t1
      have hjs : js2 = js := by
        have := kp1.ob h4 (by simp)
        rw [this] at b4
        injection b4 with b4; injection b4 with _ b4; injection b4 with _ b4; injection b4 with b4 _; injection b4 with _ b4; exact b4.symm
      subst hjs
      rw [b1, Option.bind_some]
      obtain ⟨s', d1, d2, d3⟩ := b2.cut (c := jr'.length) (by simp)
      rw [d1, Option.bind_some, st_row b4 (by simp) rfl, Option.bind_some]
      obtain ⟨H2, hH2⟩ : ∃ H2 : VH, H2 = H1.set k (.row TT [.map (some i), .sl WT s']) := ⟨_, rfl⟩
      have hH2' : H1.set k (.row TT (putAllV [.map (some i), .sl WT js2] 1 [.sl 79 s'])) = H2 := by rw [hH2]; rfl
      rw [hH2']
      have hne := hp_ne t1 b2
      have hi1 : H1[i]? = some (.map .str (ents sk enc m)) := t1.choose_spec.2.1
      have hki : k ≠ i := fun he => by subst he; rw [b4] at hi1; cases hi1
      have t2 : TB H2 k i (k :: i :: hps js2) m jr' := by
        refine ⟨s', ?_, ?_, ?_, by rw [d3]⟩
        · rw [hH2, List.getElem?_set_self (lt_of_ob b4)]
        · rw [hH2, List.getElem?_set_ne hki]; exact hi1
        · have : ((jr' ++ [x]).map jc).take jr'.length = jr'.map jc := by rw [← List.map_take]; simp
          rw [this] at d2
          rw [hH2]
          exact d2.keep (Kp.set H1 k _) (fun t ht hm => (hne t (by rw [d3] at ht; exact ht)).1 (List.mem_singleton.1 hm))
      have kp2 : Kp H H2 (k :: i :: hps js2) := by
        rw [hH2]
        exact kp1.trans (Kp.set H1 k _) (fun x hx _ => by cases hx) (fun y hy _ => by rw [List.mem_singleton] at hy; subst hy; simp)
      have hlN : H1[H.length]? = some (.row (79 + boxK) (jc x)) := by rw [hH1, List.getElem?_set_self (by rw [hH0]; simp)]
      have hx2 : H2[H.length]? = some (.row (79 + boxK) (jc x)) := by
        rw [hH2, List.getElem?_set_ne (by omega)]; exact hlN
      rw [ld_row hx2, ld_row hx2, ld_row hx2]
      have f0 : ((jc x)[0]?).bind (V.fdec .str) = some (⟨x.1.toArray⟩ : ByteArray) := rfl
      have f1 : ((jc x)[1]?).bind (V.fdec (.int .i64)) = some x.2.1 := fd_int .i64 x.2.1
      have f2 : ((jc x)[2]?).bind (V.fdec .bool) = some x.2.2 := rfl
      rw [f2, Option.bind_some, f0, f1]
      have hxk : x.1.length ≤ 9223372036854775807 := hk x (by simp)
      have fin : ∀ {H3 : VH}, TB H3 k i (k :: i :: hps js2) (un1 m x) jr' → Kp H2 H3 (k :: i :: hps js2) →
          ∃ H' T', L25_0 (n + 1) m0 (.ob k 0) c H3 = some (.tup [], H') ∧ TB H' k i T' (((jr' ++ [x]).drop c0).reverse.foldl un1 m) ((jr' ++ [x]).take c0) ∧ Kp H H' (k :: i :: hps js2) ∧ TN H (k :: i :: hps js2) T' := by
        intro H3 t3 k3
        have ul := un1_len m x
        obtain ⟨H', T', r1, r2, r3, r4⟩ := ih m0 t3 (by omega) (by omega) (by omega) (fun y hy => hk y (by simp [hy]))
        have e1 : (jr' ++ [x]).drop c0 = jr'.drop c0 ++ [x] := List.drop_append_of_le_length (by omega)
        have e2 : (jr' ++ [x]).take c0 = jr'.take c0 := List.take_append_of_le_length (by omega)
        have k4 : Kp H H3 (k :: i :: hps js2) := kp2.trans k3 (fun x hx _ => hx) (fun y hy _ => hy)
        have hl4 := k4.len
        refine ⟨H', T', r1, ?_, k4.trans r3 (fun x hx _ => hx) (fun y hy _ => hy), fun t ht => ?_⟩
        · rw [e1, e2, List.reverse_append]; exact r2
        · rcases r4 t ht with h5 | h5
          · exact .inl h5
          · exact .inr (by omega)
      have hi2 : H2[i]? = some (.map .str (ents sk enc m)) := t2.choose_spec.2.1
      cases hb2 : x.2.2 with
      | true =>
        rw [cond_true, ld_map t2, Option.bind_some, Option.bind_some, Option.bind_some, put_str (enc := enc) hi2 hxk (by omega) x.2.1, Option.bind_some]
        obtain ⟨t3, k3⟩ := to_map t2 (putA m x.1 x.2.1)
        have e3 : un1 m x = putA m x.1 x.2.1 := if_pos hb2
        exact fin (by rw [e3]; exact t3) k3
      | false =>
        rw [cond_false, ld_map t2, Option.bind_some, Option.bind_some, cut_str (enc := enc) hi2, Option.bind_some]
        obtain ⟨t3, k3⟩ := to_map t2 (cutA m x.1)
        have e3 : un1 m x = cutA m x.1 := if_neg (by rw [hb2]; decide)
        exact fin (by rw [e3]; exact t3) k3
theorem e25 (n : Nat) {c : Int} {c0 : Nat} (hc : (if 0 > c then 0 else c) = (c0 : Int)) (h : TB H k i T m jr) (hn : jr.length ≤ n) (hb : m.length + jr.length < 1000000) (hk : ∀ x ∈ jr, x.1.length ≤ 9223372036854775807) :
    ∃ H' T', vF P tab (n + 2) 25 [.ptr (.ob k 0), .int .i64 c] H = some (.tup [], H') ∧ TB H' k i T' ((jr.drop c0).reverse.foldl un1 m) (jr.take c0) ∧ Kp H H' T ∧ TN H T T' := by
  rw [vF_body rfl, f25_eq]
  exact l25 n hc _ (n + 1) h rfl (by omega) hb hk
end
end I
end Go.Proofs.Ytlkpgimhcnmblaa
