import Derived.Test.YtfkecgpcamhgkaaB03n
set_option linter.unusedVariables false
namespace Go.Proofs.Ytfkecgpcamhgkaa
open Go.Proofs.Ytfkecgpcamhgkaa.Sh Go.RowKit
/-! ### The document's Bytes -/
def bis (l : List Nat) : List Value := l.map fun (b : Nat) => .int .i64 (b : Int)
theorem bis_len (l : List Nat) : (bis l).length = l.length := by simp [bis]
theorem bis_app (a b : List Nat) : bis (a ++ b) = bis a ++ bis b := by simp [bis]
def bitsN (ks : List Nat) (n : Nat) : List Nat := (List.range n).map (bitK ks)
theorem bitsN_succ (ks : List Nat) (n : Nat) : bitsN ks (n + 1) = bitsN ks n ++ [bitK ks n] := by simp [bitsN, List.range_succ]
theorem bitsN_len (ks : List Nat) (n : Nat) : (bitsN ks n).length = n := by simp [bitsN]
theorem bitsN_app (ks : List Nat) (k n : Nat) (h : n ≤ 5 * ks.length) : bitsN (ks ++ [k]) n = bitsN ks n := by
  unfold bitsN
  refine List.map_congr_left (fun i hi => ?_)
  rw [List.mem_range] at hi
  exact bitK_app ks k i (by omega)
theorem bitsN_get {ks : List Nat} {n i : Nat} (h : i < n) : (bitsN ks n)[i]? = some (bitK ks i) := by
  unfold bitsN
  rw [List.getElem?_map, List.getElem?_range h]
  rfl
theorem new1 (h : Heap) (e : TypeId) (v : Value) : slCells (h ++ [.row true e [v]]) 1 ⟨some ⟨h.length, 0, none⟩, 1, 0⟩ = some [v] := by
  unfold slCells
  simp [cellsAt, rowOf]
theorem bits_inner (n m0 : Nat) {h0 : Heap} {s : List UInt8} (hl : s.length < 400) {ks : List Nat} {k i : Nat} (hk : k < 32) (hks : ks.length = i) (hi : i < s.length) {R : Res → Prop}
    (next : ∀ h' o', Kp h0 h' [] → (∀ x ∈ ids o', h0.length ≤ x) → Own h' 1 3 o' (bis (bitsN (ks ++ [k]) (5 * (i + 1)))) → R (L15_0 n m0 ⟨s.toArray⟩ o'.a o'.n o'.c ((i + 1 : Nat) : Int) h')) :
    ∀ (m t : Nat) (h : Heap) (o : Sl), Kp h0 h [] → (∀ x ∈ ids o, h0.length ≤ x) → Own h 1 3 o (bis (bitsN (ks ++ [k]) (5 * i + t))) → t ≤ 5 → 5 < t + m → R (L15_1 n m0 m ⟨s.toArray⟩ o.a o.n o.c (i : Int) (k : Int) (4 - (t : Int)) h) := by
  intro m
  induction m with
  | zero => intros; omega
  | succ m ih =>
    intro t h o kp hids ho h1 h2
    rw [L15_1_eq]
    have hon : o.n = 5 * i + t := by have := ho.len; rw [bis_len, bitsN_len] at this; omega
    by_cases ht : t < 5
    · rw [decide_eq_true (by omega), cond_true, show (4 - (t : Int)) = ((4 - t : Nat) : Int) by omega, shrI_nat (k := .i64) (by show 4 - t ≤ 64; omega), Option.bind_some, show (2 : Int) = ((2 : Nat) : Int) from rfl, remI_nat (by decide), Option.bind_some]
      have hb : bitK (ks ++ [k]) (5 * i + t) = k / 2 ^ (4 - t) % 2 := bitK_at (j := i) (by rw [List.getElem?_append_right (by omega), hks, Nat.sub_self]; rfl) ht
      have ka : Kp h (h ++ [.row true 3 [.int .i64 ((k / 2 ^ (4 - t) % 2 : Nat) : Int)]]) [] := Kp.app _ _
      obtain ⟨o', h2', ha, ho2, hk2, hn2, hi2⟩ := app_own (by_ := 8) (ho.keep ka (fun x _ e => by cases e)) (new1 h 3 (.int .i64 ((k / 2 ^ (4 - t) % 2 : Nat) : Int))) (by simp only [bound]; omega) (by simp only [bound]; omega)
      rw [ha, Option.bind_some, IntWalk.i64_in _ (by omega), show ((4 - t : Nat) : Int) - 1 = 4 - ((t + 1 : Nat) : Int) by omega]
      have hlen := kp.len
      refine ih (t + 1) h2' o' ((kp.trans ka (fun x hx => hx) (fun y hy => by cases hy)).trans hk2 (fun x hx => hx) (fun y hy h3 => by have := hids y hy; omega)) (fun x hx => ?_) ?_ (by omega) (by omega)
      · rcases hi2 x hx with h3 | h3
        · exact hids x h3
        · simp at h3; omega
      · rw [show 5 * i + (t + 1) = (5 * i + t) + 1 by omega, bitsN_succ, bis_app, hb]
        exact ho2
    · rw [decide_eq_false (by omega), cond_false]
      have : t = 5 := by omega
      subst this
      have e2 : IntKind.wrap .i64 ((i : Int) + 1) = ((i + 1 : Nat) : Int) := by rw [IntWalk.i64_in _ (by omega)]; rfl
      rw [e2]
      exact next h o kp hids (by rw [show 5 * (i + 1) = 5 * i + 5 by omega]; exact ho)
/-- So many bits as a number. -/
def bk (ks : List Nat) (i : Nat) : Nat → Nat
  | 0 => 0
  | t + 1 => 2 * bk ks i t + bitK ks (i + t)
theorem bk_lt (ks : List Nat) (i t : Nat) : bk ks i t < 2 ^ t := by
  induction t with
  | zero => simp [bk]
  | succ t ih => have := bitK_lt ks (i + t); simp only [bk]; omega
theorem bk8 (ks : List Nat) (i : Nat) : bk ks i 8 = byK ks i := by simp [bk, byK]
theorem rdBit {h : Heap} {s : Sl} {l : List Nat} (hc : slCells h 1 s = some (bis l)) (hn : s.n = l.length) {i : Nat} {b : Nat} (hb : l[i]? = some b) {β : Type} (f : Int → Option β) : ((ixA s 1 (i : Int)).bind fun p => (ld1 (.flat (.int .i64)) h p).bind f) = f (b : Int) := by
  have hlt := (List.getElem?_eq_some_iff.1 hb).1
  obtain ⟨p, v, h1, h2, h3⟩ := ixld (i := (i : Int)) hc (by omega) (by omega)
  rw [h1, Option.bind_some, h3]
  rw [Int.toNat_natCast] at h2
  have : v = .int .i64 (b : Int) := by
    unfold bis at h2
    rw [List.getElem?_map, hb] at h2
    injection h2 with h2
    exact h2.symm
  subst this
  rfl
theorem cut_own {h : Heap} {e : TypeId} {s : Sl} {cs : List Value} (o : Own h 1 e s cs) {l : Nat} (hl : l ≤ s.n) : ∃ s', cutD h 1 e s (some (l : Int)) none none = some s' ∧ s'.n = s.n - l ∧ slCells h 1 s' = some (cs.drop l) := by
  obtain ⟨hlen, hc, hr⟩ := o
  obtain ⟨sa, sn, sc⟩ := s
  simp only at hc hl hlen hr
  subst hc
  have b2 : bd 0 (some (l : Int)) sn = some l := by simp only [bd, inB]; rw [if_pos ⟨by omega, by omega⟩, Int.toNat_natCast]
  rcases hr with ⟨rfl, rfl, rfl⟩ | ⟨k, rfl, hk⟩
  · have : l = 0 := by omega
    subst this
    exact ⟨⟨none, 0, 0⟩, by unfold cutD; rw [hold_eq]; rfl, rfl, rfl⟩
  · refine ⟨⟨some (at_ ⟨k, 0, none⟩ (l * 1)), sn - l, 0⟩, ?_, rfl, ?_⟩
    · unfold cutD
      rw [hold_eq]
      simp only [capOf, hk, ne_eq, not_true_eq_false, if_false, if_true, Option.bind_some, bd]
      rw [show inB (l : Int) sn = some l from b2]
      rfl
    · unfold slCells
      simp only
      by_cases h0 : sn - l = 0
      · rw [if_pos h0, List.drop_eq_nil_of_le (by omega)]
      · rw [if_neg h0]
        simp only [cellsAt, rowOf, at_, hk, Option.bind_some, Nat.zero_add]
        rw [if_pos (by omega), List.take_of_length_le (by rw [List.length_drop]; omega), Nat.mul_one]
theorem rest_loop (n : Nat) {h0 h : Heap} (kp : Kp h0 h []) {s : List UInt8} {ks : List Nat} (hv : vals s = some ks) (hl : s.length < 400) {o8 o12 : Sl} {j r : Nat} (hj : j = 5 * s.length / 8) (h8 : Own h 1 5 o8 (bcs (outs ks j))) (hids : ∀ x ∈ ids o8, h0.length ≤ x)
    (h12 : slCells h 1 o12 = some (bis ((bitsN ks (5 * s.length)).drop (8 * j)))) (hn : o12.n = r) (hr : r = 5 * s.length - 8 * j) :
    ∀ (m t : Nat), t ≤ r → r < t + m → (∀ i, 8 * j ≤ i → i < 8 * j + t → bitK ks i = 0) → Told h0 (readB s) (L15_4 n m o8.a o8.n o8.c o12.a o12.n o12.c (t : Int) h) := by
  have hto := text_outs hv
  have hrb : readB s = if text (outs ks (5 * s.length / 8)) = s then some (outs ks (5 * s.length / 8)) else none := by unfold readB; rw [hv]; rfl
  rw [← hj] at hto hrb
  intro m
  induction m with
  | zero => intros; omega
  | succ m ih =>
    intro t h1 h2 hz
    rw [L15_4_eq]
    subst hn
    by_cases ht : t < o12.n
    · rw [decide_eq_true (by omega), cond_true]
      have hb : ((bitsN ks (5 * s.length)).drop (8 * j))[t]? = some (bitK ks (8 * j + t)) := by
        rw [List.getElem?_drop]
        exact bitsN_get (by omega)
      have hr := rdBit h12 (by rw [List.length_drop, bitsN_len]; omega) hb (f := fun x2 => (cond ((x2 : Int) != 0) (some (Value.tuple ⟨[.slice none 0 0, .int .i64 2]⟩, h)) (L15_4 n m o8.a o8.n o8.c o12.a o12.n o12.c (IntKind.wrap .i64 ((t : Int) + 1)) h)))
      rw [show (⟨o12.a, o12.n, o12.c⟩ : Sl) = o12 from rfl, hr]
      by_cases h0 : bitK ks (8 * j + t) = 0
      · rw [h0, show (((0 : Nat) : Int) != 0) = false from rfl, cond_false]
        have e2 : IntKind.wrap .i64 ((t : Int) + 1) = ((t + 1 : Nat) : Int) := by rw [IntWalk.i64_in _ (by omega)]; rfl
        rw [e2]
        refine ih (t + 1) (by omega) (by omega) (fun i hi1 hi2 => ?_)
        rcases Nat.lt_or_ge i (8 * j + t) with h3 | h3
        · exact hz i hi1 h3
        · have : i = 8 * j + t := by omega
          rw [this]; exact h0
      · have hne : (((bitK ks (8 * j + t) : Nat) : Int) != 0) = true := by simp only [bne_iff_ne, ne_eq]; omega
        rw [hne, cond_true, hrb, if_neg (fun he => h0 ((hto.1 he).2 (8 * j + t) (by omega) (by omega)))]
        exact Told.none' kp
    · rw [decide_eq_false (by omega), cond_false]
      by_cases h4 : 4 < o12.n
      · rw [decide_eq_true (by omega), cond_true, hrb, if_neg (fun he => by have := (hto.1 he).1; omega)]
        exact Told.none' kp
      · rw [decide_eq_false (by omega), cond_false, hrb, if_pos (hto.2 ⟨by omega, fun i hi1 hi2 => hz i hi1 (by omega)⟩)]
        exact ⟨h, o8, kp, hids, h8.cells, (fun e => by cases e), rfl⟩
theorem byte_inner (n m0 : Nat) {h0 h : Heap} {ks : List Nat} {o4 o8 : Sl} {c j : Nat} (hc : c < 2000) (h4 : slCells h 1 o4 = some (bis (bitsN ks c))) (hn4 : o4.n = c) (hj : 8 * j + 8 ≤ c) {R : Res → Prop}
    (next : ∀ h' o', appD (h ++ [.row true 5 [.int .u8 ((UInt8.ofNat (byK ks (8 * j))).toNat : Int)]]) 1 1 5 o8 ⟨some ⟨h.length, 0, none⟩, 1, 0⟩ = some (o', h') → R (L15_2 n m0 o4.a o4.n o4.c o'.a o'.n o'.c ((8 * (j + 1) : Nat) : Int) h'))
    (hap : ∃ o' h', appD (h ++ [.row true 5 [.int .u8 ((UInt8.ofNat (byK ks (8 * j))).toNat : Int)]]) 1 1 5 o8 ⟨some ⟨h.length, 0, none⟩, 1, 0⟩ = some (o', h')) :
    ∀ (m t : Nat), t ≤ 8 → 8 < t + m → R (L15_3 n m0 m o4.a o4.n o4.c o8.a o8.n o8.c ((8 * j : Nat) : Int) (bk ks (8 * j) t : Int) (t : Int) h) := by
  intro m
  induction m with
  | zero => intros; omega
  | succ m ih =>
    intro t h1 h2
    rw [L15_3_eq]
    have hlt := bk_lt ks (8 * j) t
    have h2t : 2 ^ t ≤ 2 ^ 8 := Nat.pow_le_pow_right (by omega) h1
    by_cases ht : t < 8
    · rw [decide_eq_true (by omega), cond_true]
      have e1 : IntKind.wrap .i64 (((8 * j : Nat) : Int) + (t : Int)) = ((8 * j + t : Nat) : Int) := by rw [IntWalk.i64_in _ (by omega)]; omega
      rw [e1]
      have hr := rdBit h4 (by rw [bitsN_len]; exact hn4) (bitsN_get (ks := ks) (n := c) (i := 8 * j + t) (by omega)) (f := fun x2 => (L15_3 n m0 m o4.a o4.n o4.c o8.a o8.n o8.c ((8 * j : Nat) : Int) (IntKind.wrap .i64 ((IntKind.wrap .i64 (2 * (bk ks (8 * j) t : Int))) + x2)) (IntKind.wrap .i64 ((t : Int) + 1)) h))
      rw [show (⟨o4.a, o4.n, o4.c⟩ : Sl) = o4 from rfl, hr]
      have hb := bitK_lt ks (8 * j + t)
      have e3 : IntKind.wrap .i64 (IntKind.wrap .i64 (2 * (bk ks (8 * j) t : Int)) + (bitK ks (8 * j + t) : Int)) = (bk ks (8 * j) (t + 1) : Int) := by
        rw [IntWalk.i64_in (2 * (bk ks (8 * j) t : Int)) (by omega), IntWalk.i64_in _ (by omega)]; simp only [bk]; omega
      have e4 : IntKind.wrap .i64 ((t : Int) + 1) = ((t + 1 : Nat) : Int) := by rw [IntWalk.i64_in _ (by omega)]; rfl
      rw [e3, e4]
      exact ih (t + 1) (by omega) (by omega)
    · rw [decide_eq_false (by omega), cond_false]
      have : t = 8 := by omega
      subst this
      have hw : IntKind.wrap .u8 (bk ks (8 * j) 8 : Int) = ((UInt8.ofNat (byK ks (8 * j))).toNat : Int) := by
        rw [bk8, IntKind.wrap_u8, UInt8.toNat_ofNat']; omega
      rw [hw]
      obtain ⟨o', h', ha⟩ := hap
      rw [show (⟨o8.a, o8.n, o8.c⟩ : Sl) = o8 from rfl, ha, Option.bind_some]
      have e5 : IntKind.wrap .i64 (((8 * j : Nat) : Int) + 8) = ((8 * (j + 1) : Nat) : Int) := by rw [IntWalk.i64_in _ (by omega)]; omega
      rw [e5]
      exact next h' o' ha
theorem bytes_outer (n : Nat) {h0 : Heap} {s : List UInt8} {ks : List Nat} (hv : vals s = some ks) (hl : s.length < 400) {o4 : Sl} (hid4 : ∀ x ∈ ids o4, h0.length ≤ x) :
    ∀ (m j : Nat) (h : Heap) (o8 : Sl), Kp h0 h [] → Own h 1 3 o4 (bis (bitsN ks (5 * s.length))) → Own h 1 5 o8 (bcs (outs ks j)) → (∀ x ∈ ids o8, h0.length ≤ x) → (∀ x ∈ ids o4, x ∉ ids o8) → 8 * j ≤ 5 * s.length → 5 * s.length < 8 * (j + m) →
      Told h0 (readB s) (L15_2 (n + 2000) m o4.a o4.n o4.c o8.a o8.n o8.c ((8 * j : Nat) : Int) h) := by
  intro m
  induction m with
  | zero => intros; omega
  | succ m ih =>
    intro j h o8 kp h4 h8 hid8 hdis h1 h2
    rw [L15_2_eq]
    have hn4 : o4.n = 5 * s.length := by have := h4.len; rw [bis_len, bitsN_len] at this; omega
    have hn8 : o8.n = j := by have := h8.len; rw [bcs_len, outs_len] at this; omega
    have e1 : IntKind.wrap .i64 (((8 * j : Nat) : Int) + 8) = ((8 * j + 8 : Nat) : Int) := by rw [IntWalk.i64_in _ (by omega)]; omega
    rw [e1]
    by_cases hc : 8 * j + 8 ≤ 5 * s.length
    · rw [decide_eq_true (by omega), cond_true]
      have ka : Kp h (h ++ [.row true 5 [.int .u8 ((UInt8.ofNat (byK ks (8 * j))).toNat : Int)]]) [] := Kp.app _ _
      obtain ⟨o', h2', ha, ho2, hk2, hn2, hi2⟩ := app_own (by_ := 1) (h8.keep ka (fun x _ e => by cases e)) (new1 h 5 (.int .u8 ((UInt8.ofNat (byK ks (8 * j))).toNat : Int))) (by simp only [bound]; omega) (by simp only [bound]; omega)
      have hlen := kp.len
      have := byte_inner (n + 2000) m (h0 := h0) (ks := ks) (o4 := o4) (o8 := o8) (c := 5 * s.length) (j := j) (by omega) h4.cells hn4 hc (R := Told h0 (readB s)) (fun h' o'' he => by
        rw [ha] at he
        injection he with he
        injection he with he1 he2
        subst he1 he2
        have h4' := (h4.keep ka (fun x _ e => by cases e)).keep hk2 hdis
        have hlt4 : ∀ x ∈ ids o4, x < h.length := by
          intro x hx
          obtain ⟨_, _, hr⟩ := h4
          rcases hr with ⟨h3, _⟩ | ⟨k, h3, hk⟩
          · simp [ids, h3] at hx
          · simp [ids, h3] at hx; subst hx; exact lt_of_ob hk
        refine ih (j + 1) h2' o' ((kp.trans ka (fun x hx => hx) (fun y hy => by cases hy)).trans hk2 (fun x hx => hx) (fun y hy h3 => by have := hid8 y hy; omega)) h4' (by rw [outs_succ, bcs_app]; exact ho2) (fun x hx => ?_) (fun x hx h5 => ?_) (by omega) (by omega)
        · rcases hi2 x hx with h3 | h3
          · exact hid8 x h3
          · simp at h3; omega
        · rcases hi2 x h5 with h3 | h3
          · exact hdis x hx h3
          · have := hlt4 x hx; simp at h3; omega) ⟨o', h2', ha⟩ (n + 2000) 0 (by omega) (by omega)
      exact this
    · rw [decide_eq_false (by omega), cond_false]
      have hj : j = 5 * s.length / 8 := by omega
      have e2 : IntKind.wrap .i64 (((o8.n : Nat) : Int) * 8) = ((8 * j : Nat) : Int) := by rw [hn8, IntWalk.i64_in _ (by omega)]; omega
      rw [e2]
      obtain ⟨o12, hc1, hc2, hc3⟩ := cut_own h4 (l := 8 * j) (by omega)
      rw [show (⟨o4.a, o4.n, o4.c⟩ : Sl) = o4 from rfl, hc1, Option.bind_some]
      have hd : (bis (bitsN ks (5 * s.length))).drop (8 * j) = bis ((bitsN ks (5 * s.length)).drop (8 * j)) := by simp [bis, List.map_drop]
      rw [hd] at hc3
      exact rest_loop (n + 2000) kp hv hl hj h8 hid8 hc3 rfl (by omega) (n + 2000) 0 (by omega) (by omega) (fun i hi1 hi2 => by omega)
theorem bits_outer (n : Nat) {h0 : Heap} {s : List UInt8} (hl : s.length < 400) :
    ∀ (m i : Nat) (h : Heap) (o : Sl) (ks : List Nat), vals (s.take i) = some ks → Kp h0 h [] → (∀ x ∈ ids o, h0.length ≤ x) → Own h 1 3 o (bis (bitsN ks (5 * i))) → i ≤ s.length → s.length < i + m →
      Told h0 (readB s) (L15_0 (n + 2000) m ⟨s.toArray⟩ o.a o.n o.c (i : Int) h) := by
  intro m
  induction m with
  | zero => intros; omega
  | succ m ih =>
    intro i h o ks hv kp hids ho h1 h2
    rw [L15_0_eq]
    have hsz : ((⟨s.toArray⟩ : ByteArray).size : Int) = (s.length : Int) := by simp [ByteArray.size]
    rw [hsz]
    have hkl := vals_len hv
    have hil : (s.take i).length = i := by rw [List.length_take]; omega
    by_cases hc : i < s.length
    · rw [decide_eq_true (by omega), cond_true]
      obtain ⟨c, hci⟩ : ∃ c, s[i]? = some c := ⟨_, List.getElem?_eq_getElem hc⟩
      rw [ixS_of hci, Option.bind_some, c21 (n + 1959), Option.bind_some]
      simp only
      cases hvc : vl c with
      | none =>
        have hz : vlZ c = -1 := by unfold vlZ; rw [hvc]
        rw [hz, show decide ((-1 : Int) < 0) = true from rfl, cond_true, readB_none (vals_none (i := i + 1) (by rw [vals_take hci, hv, hvc]; rfl))]
        exact Told.none' kp
      | some k =>
        have hz : vlZ c = (k : Int) := by unfold vlZ; rw [hvc]
        have h32 := (vl_lt hvc).1
        have hd : decide ((k : Int) < 0) = false := decide_eq_false (by omega)
        rw [hz, hd, cond_false]
        have hv' : vals (s.take (i + 1)) = some (ks ++ [k]) := by rw [vals_take hci, hv, hvc]; rfl
        have := bits_inner (n + 2000) m (h0 := h0) hl (ks := ks) (k := k) (i := i) h32 (by omega) hc (R := Told h0 (readB s)) (fun h' o' k1 k2 k3 => ih (i + 1) h' o' (ks ++ [k]) hv' k1 k2 k3 (by omega) (by omega)) (n + 2000) 0 h o kp hids (by rw [Nat.add_zero, bitsN_app ks k (5 * i) (by omega)]; exact ho) (by omega) (by omega)
        rw [show (4 - ((0 : Nat) : Int)) = 4 from rfl] at this
        exact this
    · rw [decide_eq_false (by omega), cond_false]
      have hi : i = s.length := by omega
      subst hi
      rw [List.take_length] at hv
      exact bytes_outer n hv hl hids (n + 2000) 0 h ⟨none, 0, 0⟩ kp ho (Own.nil _ _ _) (fun x hx => by cases hx) (fun x _ hx => by cases hx) (by omega) (by omega)
set_option maxRecDepth 100000 in
theorem e15 (n : Nat) (h : Heap) {s : List UInt8} (hl : s.length < 400) : Told h (readB s) (eF P tab (n + 2001) 15 [.string ⟨s.toArray⟩] h) := by
  rw [eF_body rfl rfl, f15_eq]
  exact bits_outer n hl (n + 2000) 0 h ⟨none, 0, 0⟩ [] rfl (Kp.refl _ _) (fun x hx => by cases hx) (Own.nil _ _ _) (by omega) (by omega)
end Go.Proofs.Ytfkecgpcamhgkaa
