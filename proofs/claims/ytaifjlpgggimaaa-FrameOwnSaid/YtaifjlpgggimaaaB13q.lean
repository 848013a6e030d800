import Derived.Test.YtaifjlpgggimaaaB13o
set_option maxRecDepth 100000
set_option linter.unusedVariables false
set_option linter.unusedSimpArgs false
namespace Go.Proofs.Ytaifjlpgggimaaa
open Go.Proofs.Ytaifjlpgggimaaa.Sh Go.Proofs.Ytaifjlpgggimaaa.Sh.V Go.RowKit
theorem hd_num (m : Nat) (h : m < 65536) (r : List UInt8) : hd (numI (m : Int) ++ r) = m := by
  show ((u8 ((m : Int) / 256)).toNat * 256 + (u8 (m : Int)).toNat) = m
  unfold u8
  simp only [UInt8.toNat_ofNat']
  omega
theorem numI_len (x : Int) : (numI x).length = 2 := rfl
/-! ### Feed -/
theorem feed (n : Nat) {H : VH} {k : Nat} {sp x : VS} {l r : List UInt8} (h : SO H k sp l) (hx : ∀ {H' : VH}, Kp H H' [] → RB H' x r) (hl : l.length + r.length < 5000) :
    ∃ s6 H9, vF P tab (n + 2) 15 [.ptr (.ob k 0), .sl 5 x] H = L15_0 (n + 1) (n + 1) (.ob k 0) .nil H9 ∧ SO H9 k s6 (l ++ r) ∧ Kp H H9 [k] ∧ ∀ t ∈ hps s6, H.length ≤ t := by
  obtain ⟨c, H1, a1, a2, a3, a4⟩ := e24h n h.b (by omega)
  obtain ⟨s6, H2, b1, b2, b3, b4⟩ := hb_app a2 (hx a3) (by omega)
  have f6 : ∀ t ∈ hps s6, H.length ≤ t := fun t ht => by
    rcases b4 t ht with h1 | h1
    · exact a4 t h1
    · have := a3.len; omega
  have k2 : Kp H H2 [] := a3.trans b3 (fun x hx _ => hx) (fun x hx hlt => by have := a4 x hx; omega)
  have ho := k2.ob h.o (by simp)
  refine ⟨s6, H2.set k (.row ST [.sl 5 s6, .bool false]), ?_, ⟨List.getElem?_set_self (lt_of_ob ho), b2.keep (Kp.set _ _ _) (fun t ht => ?_)⟩, k2.trans (Kp.set _ _ _) (fun x hx _ => by cases hx) (fun x hx _ => hx), f6⟩
  · rw [vF_body rfl, f15_eq, callD_bool (e17h n h), Option.bind_some]
    simp only [VP.isNil, Bool.not_false, cond_true, cond_false, nn, atO, Option.bind_some, Nat.zero_add]
    rw [ld_s0 h, Option.bind_some, callD_sl a1, Option.bind_some]
    simp only
    rw [b1, Option.bind_some, st_row ho (by simp) rfl, Option.bind_some]
    rfl
  · rw [List.mem_singleton]
    rintro rfl
    have := f6 t ht
    have := lt_of_ob h.o
    omega
theorem feed1 (n : Nat) (hn : 310 ≤ n) {H : VH} {k : Nat} {sp x : VS} {l r : List UInt8} (h : SO H k sp l) (hx : ∀ {H' : VH}, Kp H H' [] → RB H' x r) {m : Nat} {z : List UInt8} (e : l ++ r = numI (m : Int) ++ z) (hm : 1 ≤ m) (hm2 : m ≤ 2048) (hz : z.length < m) :
    ∃ sp' H', vF P tab (n + 2) 15 [.ptr (.ob k 0), .sl 5 x] H = some (.sl 25 .nil, H') ∧ SO H' k sp' (l ++ r) ∧ Kp H H' [k] ∧ ∀ t ∈ hps sp', H.length ≤ t := by
  have hlen : (l ++ r).length = 2 + z.length := by rw [e, List.length_append, numI_len]
  obtain ⟨s6, H9, a1, a2, a3, a4⟩ := feed n h hx (by rw [← List.length_append]; omega)
  have hh : hd (l ++ r) = m := by rw [e]; exact hd_num m (by omega) z
  obtain ⟨g1, _⟩ := nx (n - 4) (by omega) a2 (by omega) (by omega) (by omega) (by omega)
  obtain ⟨H1, b1, b2⟩ := g1 (by omega)
  rw [show n - 4 + 5 = n + 1 by omega] at b1
  refine ⟨s6, H1, ?_, a2.keep b2 (by simp) (fun t _ => by simp), a3.trans b2 (fun x hx _ => hx) (fun x hx _ => by cases hx), a4⟩
  rw [a1, L15_0_eq]
  simp only [VP.isNil, Bool.not_false, cond_true]
  rw [callD_some (τ := .tup [(.flat (.slice 5)), (.flat .bool)]) (x := (.nil, false, ())) _ b1 rfl, Option.bind_some]
  rfl
theorem feed2 (n : Nat) (hn : 310 ≤ n) {H : VH} {k : Nat} {sp x : VS} {l r q : List UInt8} (h : SO H k sp l) (hx : ∀ {H' : VH}, Kp H H' [] → RB H' x r) (e : l ++ r = textI q) (hm : 1 ≤ q.length) (hm2 : q.length ≤ 2048) :
    ∃ s' sq sp' H', vF P tab (n + 2) 15 [.ptr (.ob k 0), .sl 5 x] H = some (.sl 25 s', H') ∧ Hr H' 25 1 s' [[.sl 5 sq]] ∧ HB H' sq q ∧ SO H' k sp' [] ∧ Kp H H' [k] ∧ (∀ t ∈ hps sq, H.length ≤ t) ∧ (∀ t ∈ hps sp', H.length ≤ t) ∧ (∀ t ∈ hps sq, t ∉ hps sp') ∧ ∀ t ∈ hps s', H.length ≤ t := by
  have hlen : (l ++ r).length = 2 + q.length := by rw [e, textI_len]
  obtain ⟨s6, H9, a1, a2, a3, a4⟩ := feed n h hx (by rw [← List.length_append]; omega)
  have hh : hd (l ++ r) = q.length := by rw [e]; exact hd_num q.length (by omega) q
  obtain ⟨_, g2⟩ := nx (n - 4) (by omega) a2 (by omega) (by omega) (by omega) (by omega)
  obtain ⟨sq, sp', H1, b1, b2, b3, b4, b5, b6⟩ := g2 (by omega)
  rw [show n - 4 + 5 = n + 1 by omega] at b1
  have eq : ((l ++ r).take (2 + hd (l ++ r))).drop 2 = q := by
    rw [hh, List.take_of_length_le (by omega), e]
    rfl
  have en : (l ++ r).drop (2 + hd (l ++ r)) = [] := List.drop_eq_nil_of_le (by omega)
  rw [eq] at b2
  rw [en] at b3
  obtain ⟨H2, e2⟩ : ∃ H2 : VH, H2 = H1 ++ [VO.row 25 [.sl 5 sq]] := ⟨_, rfl⟩
  have k2 : Kp H1 H2 [] := by rw [e2]; exact Kp.app _ _
  have hsq : ∃ j pre, sq = .hp j pre q.length := by
    rcases b2.2 with ⟨_, h0⟩ | ⟨j, pre, post, h0, _⟩
    · have := congrArg List.length h0
      rw [bs_len] at this
      simp at this
      rw [this] at hm
      simp at hm
    · exact ⟨j, pre.length, by rw [h0, bs_len]⟩
  have hop : slOp H2 25 1 (.hp H1.length 0 1) = some [[.sl 5 sq]] := by
    obtain ⟨j, pre, rfl⟩ := hsq
    have hg : H2[H1.length]? = some (.row 25 [.sl 5 (.hp j pre q.length)]) := by rw [e2]; simp
    have h1 : slEs H2 25 1 (.hp H1.length 0 1) = none := by
      show hpEs H2 25 1 H1.length 0 1 = none
      unfold hpEs
      rw [hg]
      rfl
    unfold slOp
    rw [h1]
    simp only [hg]
    rfl
  obtain ⟨s', H3, c1, c2, c3, c4⟩ := (Hr.nil H2 25 1).appO (by_ := 24) (x := .hp H1.length 0 1) (news := [[.sl 5 sq]]) rfl hop (fun y hy => by rw [List.mem_singleton.1 hy]; rfl) (by simp [bound]) (by simp [bound])
  have k3 : Kp H1 H3 [] := k2.trans c3 (fun x hx _ => hx) (fun x hx _ => hx)
  have l3 := b3.keep k3 (by simp) (fun t _ => by simp)
  have kk : Kp H H3 [k] := (a3.trans b5 (Z := [k]) (fun x hx _ => hx) (fun x hx _ => hx)).trans k3 (fun x hx _ => hx) (fun x hx _ => by cases hx)
  refine ⟨s', sq, sp', H3, ?_, c2, b2.keep k3 (fun t _ => by simp), l3, kk, fun t ht => ?_, fun t ht => ?_, fun t ht hm => ?_, fun t ht => ?_⟩
  · rw [a1, L15_0_eq]
    simp only [VP.isNil, Bool.not_false, cond_true]
    rw [callD_some (τ := .tup [(.flat (.slice 5)), (.flat .bool)]) (x := (sq, true, ())) _ b1 (dec_sb 5 sq true), Option.bind_some]
    simp only
    rw [Bool.not_true, cond_false, ← e2, c1, Option.bind_some]
    simp only
    obtain ⟨N, rfl⟩ : ∃ N, n = N + 1 := ⟨n - 1, by omega⟩
    rw [L15_0_eq]
    simp only [VP.isNil, Bool.not_false, cond_true]
    rw [callD_some (τ := .tup [(.flat (.slice 5)), (.flat .bool)]) (x := (.nil, false, ())) _ (n1 (N + 1) l3 (by simp)) rfl, Option.bind_some]
    rfl
  · have := b6 t ht
    have := a3.len
    omega
  · rw [b4] at ht; exact a4 t ht
  · rw [b4] at hm
    have h1 := b6 t ht
    have := (a2.b.lt t hm).1
    omega
  · rcases c4 t ht with h | h
    · cases h
    · have h1 := k2.len
      have h2 := b5.len
      have h3 := a3.len
      omega
/-! ### Bytes -/
theorem l21h (n : Nat) {H : VH} {s t : VS} {l : List UInt8} (hs : HB H s l) (ht : IsB t l) (hb : l.length < 100000) : ∀ (m i : Nat), i ≤ l.length → l.length < i + m → L21_0 n m s t (i : Int) H = some (.bool true, H) := by
  intro m
  induction m with
  | zero => intros; omega
  | succ m ih =>
    intro i hi hm
    rw [L21_0_eq, hs.len, bs_len]
    by_cases c : i < l.length
    · obtain ⟨y, hy⟩ := get_of c
      have hdt : decide ((i : Int) < (l.length : Int)) = true := decide_eq_true (by omega)
      rw [hdt, cond_true, hs.rd1 (τ := .int .u8) (v := .int .u8 (y.toNat : Int)) (by simp [bs, hy, bc]) (fd_int .u8 _), ht.rd hy]
      rw [show (((y.toNat : Nat) : Int) != ((y.toNat : Nat) : Int)) = false by simp, cond_false, inc_nat (by omega)]
      exact ih (i + 1) (by omega) (by omega)
    · have hdt : decide ((i : Int) < (l.length : Int)) = false := decide_eq_false (by omega)
      rw [hdt, cond_false]
theorem e21h (n : Nat) {H : VH} {s t : VS} {l : List UInt8} (hs : HB H s l) (hne : l ≠ []) (ht : IsB t l) (hb : l.length < 100000) (hn : l.length < n) : vF P tab (n + 1) 21 [.sl 5 s, .sl 5 t] H = some (.bool true, H) := by
  have hopen : ([V.sl 5 s, .sl 5 t].all closedC) = false := by
    rcases hs.2 with ⟨_, h0⟩ | ⟨j, pre, post, rfl, _⟩
    · exact absurd (by cases l with | nil => rfl | cons => cases h0) hne
    · rfl
  rw [vF_open rfl hopen, f21_eq, hs.len, ht.len, show ((((bs l).length : Nat) : Int) != (((bs l).length : Nat) : Int)) = false by simp, cond_false]
  exact l21h n hs ht hb n 0 (Nat.zero_le _) (by omega)
end Go.Proofs.Ytaifjlpgggimaaa
