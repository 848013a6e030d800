import Derived.Test.YtfkecgpcamhgkaaB03b
import Derived.Test.YtfkecgpcamhgkaaB03m
set_option linter.unusedVariables false
namespace Go.Proofs.Ytfkecgpcamhgkaa
open Go.Proofs.Ytfkecgpcamhgkaa.Sh Go.RowKit
abbrev LT : ByteArray := ⟨#[48, 49, 50, 51, 52, 53, 54, 55, 56, 57, 97, 98, 99, 100, 102, 103, 104, 105, 106, 107, 108, 109, 110, 112, 113, 114, 115, 118, 119, 120, 121, 122]⟩
theorem letter {d : Nat} (hd : d < 32) : ixS LT (d : Int) = some ((lt d).toNat : Int) := by
  refine ixS_of (l := letters) ?_
  unfold lt
  have : d < letters.length := hd
  rw [List.getD_eq_getElem?_getD, List.getElem?_eq_getElem this]
  rfl
theorem and31 {x : Nat} (hx : x < 18446744073709551616) : bitI .and .u64 (x : Int) 31 = ((x % 32 : Nat) : Int) := by
  have := bitI_and hx (y := 31) (by decide)
  rw [show ((31 : Nat) : Int) = 31 from rfl] at this
  rw [this, show (31 : Nat) = 2 ^ 5 - 1 from rfl, Nat.and_two_pow_sub_one_eq_mod]
theorem shl8 (bits : Nat) : shlI .u64 (bits : Int) 8 = some ((bits * 256 % 18446744073709551616 : Nat) : Int) := by
  have := shlI_u64 (x := bits) (k := 8) (by omega)
  simpa using this
theorem or8 (bits : Nat) {b : Nat} (hb : b < 256) : bitI .or .u64 ((bits * 256 % 18446744073709551616 : Nat) : Int) (IntKind.wrap .u64 (b : Int)) = ((bits * 256 % 18446744073709551616 + b : Nat) : Int) := by
  rw [wrap_u64_nat (by omega), bitI_or (by omega) (by omega)]
  have e : bits * 256 % 18446744073709551616 = (bits % 72057594037927936) * 2 ^ 8 := by omega
  rw [e, or_add (by simpa using hb)]
/-- A call of WriteByte. -/
theorem c17 (n : Nat) {h : Heap} {p : Nat} {s : Sl} {l : List UInt8} (hb : Bld h p s l) (b : UInt8) (hl : l.length < 100000000) :
    ∃ h' s', callD (eF P tab (n + 2)) (.one (.flat .any)) 17 [.pointer (some ⟨p, 0, none⟩), .int .u8 (b.toNat : Int)] h = some (.nilIface, h') ∧ Bld h' p s' (l ++ [b]) ∧ Kp h h' (p :: ids s) ∧ (∀ i ∈ ids s', i ∈ ids s ∨ h.length ≤ i) := by
  obtain ⟨h', s', h1, h2, h3, h4⟩ := e17 n hb b hl
  exact ⟨h', s', callD_some _ h1 rfl, h2, h3, h4⟩
/-- Where 'Text' stands: i bytes are read, j letters are written. -/
structure TAt (h0 h : Heap) (l : List UInt8) (p : Nat) (s : Sl) (i j bits nb : Nat) : Prop where
  kp : Kp h0 h []
  hp : h0.length ≤ p
  hs : ∀ x ∈ ids s, h0.length ≤ x
  hb : Bld h p s (texts l j)
  hi : i ≤ l.length
  hn : nb + 5 * j = 8 * i
  hlt : bits < 18446744073709551616
  hv : bits % 4096 = num (l.take i) % 4096
theorem TAt.read {h0 h : Heap} {l : List UInt8} {p : Nat} {s : Sl} {i j bits nb : Nat} (t : TAt h0 h l p s i j bits nb) {b : UInt8} (hb : l[i]? = some b) :
    TAt h0 h l p s (i + 1) j (bits * 256 % 18446744073709551616 + b.toNat) (nb + 8) := by
  have hlt := (List.getElem?_eq_some_iff.1 hb).1
  have hb256 := b.toNat_lt
  have hn := t.hn
  refine ⟨t.kp, t.hp, t.hs, t.hb, by omega, by omega, by omega, ?_⟩
  rw [num_take hb]
  have := t.hv
  omega
def Done (h0 : Heap) (l : List UInt8) (r : Res) : Prop := ∃ h', r = some (.string ⟨(text l).toArray⟩, h') ∧ Kp h0 h' []
theorem TAt.write {h0 h : Heap} {l : List UInt8} {p : Nat} {s : Sl} {i j bits nb : Nat} (t : TAt h0 h l p s i j bits nb) (hj : j < 10000000) {d : Nat} (hd : d = dg l (5 * j)) (n : Nat) :
    ∃ h' s', callD (eF P tab (n + 2)) (.one (.flat .any)) 17 [.pointer (some ⟨p, 0, none⟩), .int .u8 ((lt d).toNat : Int)] h = some (.nilIface, h') ∧ Kp h0 h' [] ∧ (∀ x ∈ ids s', h0.length ≤ x) ∧ Bld h' p s' (texts l (j + 1)) := by
  obtain ⟨h', s', h1, h2, h3, h4⟩ := c17 n t.hb (lt d) (by rw [texts_len]; omega)
  refine ⟨h', s', h1, t.kp.trans h3 (fun x hx => hx) (fun y hy hy2 => ?_), fun x hx => ?_, ?_⟩
  · have := t.hp
    rcases List.mem_cons.1 hy with rfl | hy
    · omega
    · have := t.hs y hy; omega
  · have := t.kp.len
    rcases h4 x hx with h5 | h5
    · exact t.hs x h5
    · omega
  · rw [texts_succ, ← hd]; exact h2
theorem text_inner (n m0 : Nat) {h0 : Heap} {l : List UInt8} (hl : l.length < 1000000) (sa : Option Addr) (sc : Nat) (p i : Nat)
    (next : ∀ h s j bits nb, TAt h0 h l p s (i + 1) j bits nb → nb < 5 → Done h0 l (L10_0 (n + 10) m0 ⟨p, 0, none⟩ (bits : Int) (nb : Int) sa l.length sc (l.length : Int) (((i + 1 : Nat)) : Int) h)) :
    ∀ (m : Nat) (h : Heap) (s : Sl) (j bits nb : Nat), TAt h0 h l p s (i + 1) j bits nb → nb < 13 → nb < 5 * m → Done h0 l (L10_1 (n + 10) m0 m ⟨p, 0, none⟩ (bits : Int) (nb : Int) sa l.length sc (l.length : Int) (i : Int) h) := by
  intro m
  induction m with
  | zero => intro h s j bits nb t h1 h2; omega
  | succ m ih =>
    intro h s j bits nb t h13 h2
    have hnb := t.hn
    have hi := t.hi
    rw [L10_1_eq]
    by_cases hc : nb < 5
    · rw [decide_eq_false (by omega), cond_false]
      have e1 : IntKind.wrap .i64 ((i : Int) + 1) = ((i + 1 : Nat) : Int) := by rw [IntWalk.i64_in _ (by omega)]; rfl
      rw [e1]
      exact next h s j bits nb t hc
    · rw [decide_eq_true (by omega), cond_true]
      have e1 : IntKind.wrap .i64 ((nb : Int) - 5) = ((nb - 5 : Nat) : Int) := by rw [IntWalk.i64_in _ (by omega)]; omega
      rw [e1, shrI_nat (k := .u64) (by rw [bits_u64]; omega)]
      simp only [Option.bind_some]
      have hlt := t.hlt
      have hdiv : bits / 2 ^ (nb - 5) < 18446744073709551616 := Nat.lt_of_le_of_lt (Nat.div_le_self _ _) hlt
      rw [and31 hdiv]
      have hd : bits / 2 ^ (nb - 5) % 32 = dg l (5 * j) := by
        rw [dg_num l (i + 1) (5 * j) (by omega) hi]
        have e2 : 8 * (i + 1) - 5 - 5 * j = nb - 5 := by omega
        rw [e2]
        have hb := t.hv
        revert hb
        generalize num (l.take (i + 1)) = v
        intro hb
        have : nb - 5 = 0 ∨ nb - 5 = 1 ∨ nb - 5 = 2 ∨ nb - 5 = 3 ∨ nb - 5 = 4 ∨ nb - 5 = 5 ∨ nb - 5 = 6 ∨ nb - 5 = 7 := by omega
        rcases this with e | e | e | e | e | e | e | e <;> rw [e] <;> simp only [Nat.reducePow] <;> omega
      have hd32 : bits / 2 ^ (nb - 5) % 32 < 32 := Nat.mod_lt _ (by decide)
      rw [letter hd32, Option.bind_some]
      obtain ⟨h', s', hcall, hk, hs, hbld⟩ := t.write (by omega) hd (n + 8)
      rw [hcall, Option.bind_some]
      exact ih h' s' (j + 1) bits (nb - 5) ⟨hk, t.hp, hs, hbld, t.hi, by omega, t.hlt, t.hv⟩ (by omega) (by omega)
theorem text_outer (n : Nat) {h0 : Heap} {l : List UInt8} (hl : l.length < 1000000) (sl : Sl) (hsl : sl.n = l.length) (hcs : slCells h0 1 sl = some (bcs l)) (p : Nat) :
    ∀ (m : Nat) (h : Heap) (s : Sl) (i j bits nb : Nat), TAt h0 h l p s i j bits nb → nb < 5 → l.length < i + m → Done h0 l (L10_0 (n + 10) m ⟨p, 0, none⟩ (bits : Int) (nb : Int) sl.a l.length sl.c (l.length : Int) (i : Int) h) := by
  intro m
  induction m with
  | zero => intro h s i j bits nb t h5 h2; have := t.hi; omega
  | succ m ih =>
    intro h s i j bits nb t h5 h2
    have hnb := t.hn
    have hi := t.hi
    have hlt := t.hlt
    rw [L10_0_eq]
    by_cases hc : i < l.length
    · rw [decide_eq_true (by omega), cond_true]
      have hcs2 := t.kp.cells hcs (fun x _ e => by cases e)
      have hb : l[i]? = some l[i] := List.getElem?_eq_getElem hc
      obtain ⟨q, h1, h3⟩ := rd_byte hcs2 hb
      have hb256 := l[i].toNat_lt
      have h1 : ixA ⟨sl.a, l.length, sl.c⟩ 1 (i : Int) = some q := by rw [← hsl]; exact h1
      rw [h1, Option.bind_some, h3, Option.bind_some]
      rw [shl8, Option.bind_some, or8 bits hb256]
      have e1 : IntKind.wrap .i64 ((nb : Int) + 8) = ((nb + 8 : Nat) : Int) := by rw [IntWalk.i64_in _ (by omega)]; rfl
      rw [e1]
      exact text_inner n m hl sl.a sl.c p i (fun h s j bits nb t h5 => ih h s (i + 1) j bits nb t h5 (by omega)) (n + 10) h s j _ (nb + 8) (t.read hb) (by omega) (by omega)
    · rw [decide_eq_false (by omega), cond_false]
      have hil : i = l.length := by omega
      subst hil
      have fin : ∀ h s, Kp h0 h [] → (∀ x ∈ ids s, h0.length ≤ x) → Bld h p s (text l) →
          Done h0 l ((callD (eF P tab (n + 10)) (.one (.flat .str)) 18 [.pointer (some ⟨p, 0, none⟩)] h).bind fun r8 => (some (.string r8.1, r8.2))) := by
        intro h s hk hs hb
        obtain ⟨h', h1, h2⟩ := e18 (n + 9) hb (by unfold text; rw [texts_len]; omega)
        rw [callD_some (τ := .one (.flat .str)) (x := (⟨(text l).toArray⟩ : ByteArray)) _ h1 rfl, Option.bind_some]
        exact ⟨h', rfl, hk.trans h2 (fun x hx => hx) (fun y hy h3 => by have := hs y hy; omega)⟩
      by_cases h0' : 0 < nb
      · rw [decide_eq_true (by omega), cond_true]
        have e1 : IntKind.wrap .i64 (5 - (nb : Int)) = ((5 - nb : Nat) : Int) := by rw [IntWalk.i64_in _ (by omega)]; omega
        rw [e1, shlI_u64 (by omega), Option.bind_some, and31 (Nat.mod_lt _ (by decide))]
        have hd : bits * 2 ^ (5 - nb) % 18446744073709551616 % 32 = dg l (5 * j) := by
          rw [dg_last l (5 * j) nb (by omega) h0' h5]
          have hb := t.hv
          rw [List.take_length] at hb
          revert hb
          generalize num l = v
          intro hb
          have : 5 - nb = 1 ∨ 5 - nb = 2 ∨ 5 - nb = 3 ∨ 5 - nb = 4 := by omega
          rcases this with e | e | e | e <;> rw [e] <;> simp only [Nat.reducePow] <;> omega
        have hd32 : bits * 2 ^ (5 - nb) % 18446744073709551616 % 32 < 32 := Nat.mod_lt _ (by decide)
        rw [letter hd32, Option.bind_some]
        obtain ⟨h', s', hcall, hk, hs, hbld⟩ := t.write (by omega) hd (n + 8)
        rw [hcall, Option.bind_some]
        refine fin h' s' hk hs ?_
        have : text l = texts l (j + 1) := by unfold text; congr 1; omega
        rw [this]
        exact hbld
      · rw [decide_eq_false (by omega), cond_false]
        refine fin h s t.kp t.hs ?_
        have : text l = texts l j := by unfold text; congr 1; omega
        rw [this]
        exact t.hb
/-- 'base.Text'. -/
theorem e10 (n : Nat) {h : Heap} {s : Sl} {l : List UInt8} (hcs : slCells h 1 s = some (bcs l)) (hl : l.length < 1000000) (hn : l.length < n) :
    ∃ h', eF P tab (n + 11) 10 [.slice s.a s.n s.c] h = some (.string ⟨(text l).toArray⟩, h') ∧ Kp h h' [] := by
  have hsn : s.n = l.length := by have := slCells_len hcs; rw [bcs_len] at this; omega
  rw [eF_body rfl rfl, f10_eq, hsn]
  refine text_outer n hl s hsn hcs h.length (n + 10) _ ⟨none, 0, 0⟩ 0 0 0 0 ⟨Kp.app _ _, Nat.le_refl _, (fun x hx => by cases hx), ⟨⟨none, by simp, .inl rfl⟩, Own.nil _ _ _, (fun hx => by cases hx), .inl rfl⟩, by omega, by omega, by decide, by simp [num]⟩ (by omega) (by omega)
end Go.Proofs.Ytfkecgpcamhgkaa
