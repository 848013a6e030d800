import Derived.Test.YthodknboobgfpaaB04h
set_option linter.unusedVariables false
set_option linter.unusedSimpArgs false
namespace Go.Proofs.Ythodknboobgfpaa
open Go.Proofs.Ythodknboobgfpaa.Sh Go.Proofs.Ythodknboobgfpaa.Sh.V Go.RowKit
def num2 (n : Nat) : List UInt8 := [UInt8.ofNat (n / 256), UInt8.ofNat n]
theorem num2_bs {n : Nat} (_h : n < 65536) : bs (num2 n) = [[.int .u8 (IntKind.wrap .u8 ((n / 256 : Nat) : Int))], [.int .u8 (IntKind.wrap .u8 ((n % 256 : Nat) : Int))]] := by
  simp only [num2, bs, bc, List.map_cons, List.map_nil]
  rw [wrap_u8_mod, wrap_u8_mod]
  simp
theorem num2_num {n : Nat} (h : n < 65536) : numA 0 (num2 n) = n := by
  simp [num2, numA]; omega
theorem e34 (k : Nat) (H : VH) {n : Nat} (h : n < 65536) : vF P tab (k + 1) 34 [.int .i64 (n : Int)] H = some (.sl 5 (.fz (bs (num2 n)) (.ex 2)), H) := by
  refine vF_lone (r := .sl 5 (.fz (bs (num2 n)) (.ex 2))) (H1 := []) rfl (by rfl) ?_ rfl
  show bodyV P tab (vF P tab k) k 34 [.int .i64 (n : Int)] [] = _
  rw [f34_eq, wrap_u64_nat (by omega), show (65536 : Int) = ((65536 : Nat) : Int) from rfl, remI_nat (by decide), Option.bind_some]
  rw [show (256 : Int) = ((256 : Nat) : Int) from rfl, quoI_nat (by decide) (wrap_u64_nat (by omega)), Option.bind_some, remI_nat (by decide), Option.bind_some, num2_bs h]
  rw [Nat.mod_eq_of_lt h]
def textB (a : List UInt8) : List UInt8 := num2 a.length ++ a
theorem size_of (a : List UInt8) : (⟨a.toArray⟩ : ByteArray).size = a.length := by simp [ByteArray.size]
theorem e28 (k : Nat) (H : VH) {a : List UInt8} (h : a.length < 65536) : ∃ s, vF P tab (k + 2) 28 [.str ⟨a.toArray⟩] H = some (.sl 5 s, H) ∧ IsB s (textB a) := by
  have c34 : V.callD (vF P tab (k + 1)) P false (.one (.flat (.slice 5))) 34 [.int .i64 (((⟨a.toArray⟩ : ByteArray).size : Nat) : Int)] [] = some (.fz (bs (num2 a.length)) (.ex 2), []) := by
    rw [size_of]; exact callD_sl (e34 k [] h)
  obtain ⟨s, H1, g1, g2, _⟩ := (Ap.lit (H := []) (e := 5) (bs (num2 a.length))).app (sz := 1) (by_ := 1) (x := .fz (bytesE ⟨a.toArray⟩) .no) (.fz _ _) (by simp only [bytesE_of, bs_len, num2, List.length_cons, List.length_nil, bound]; omega) (by simp only [bytesE_of, bs_len, num2, List.length_cons, List.length_nil, bound]; omega)
  rw [bs_len, show (num2 a.length).length = 2 from rfl] at g1
  refine ⟨s.strip, ?_, ?_⟩
  · refine vF_lone (r := .sl 5 s) (H1 := H1) rfl (by rfl) ?_ (closed_sl 5 g2.isE)
    show bodyV P tab (vF P tab (k + 1)) (k + 1) 28 [.str ⟨a.toArray⟩] [] = _
    rw [f28_eq, c34, Option.bind_some, g1, Option.bind_some]
  · have := g2.isE.strip
    rwa [bytesE_of, ← bs_app] at this
theorem textS_cut {a : List UInt8} (h : a.length < 65536) {x : Nat} (hx : x < (textB a).length) : textS ((textB a).take x) false = ([], [], true) := by
  have hl : (textB a).length = a.length + 2 := by simp [textB, num2]
  unfold textS
  by_cases h2 : x < 2
  · have : takeS 2 ((textB a).take x) false = ([], [], true) := by
      unfold takeS
      rw [if_neg (by simp), if_pos (by rw [List.length_take]; omega)]
    rw [this]; rfl
  · have e : takeS 2 ((textB a).take x) false = (num2 a.length, a.take (x - 2), false) := by
      unfold takeS
      rw [if_neg (by simp), if_neg (by rw [List.length_take]; omega)]
      obtain ⟨y, rfl⟩ : ∃ y, x = y + 2 := ⟨x - 2, by omega⟩
      simp [textB, num2]
    rw [e]
    simp only
    rw [num2_num h]
    unfold takeS
    rw [if_neg (by simp), if_pos (by rw [List.length_take]; omega)]
theorem takeS_fail (c : Nat) (l : List UInt8) : takeS c l true = ([], l, true) := rfl
theorem takeS_nil {c : Nat} (hc : 0 < c) (f : Bool) : takeS c [] f = ([], [], true) := by
  unfold takeS
  cases f <;> simp [hc]
/-- WireCut. -/
theorem wireCut (n : Nat) (hn : 300 ≤ n) (a : List UInt8) (x : UInt16) (H : VH) : ∃ H', vF P tab (n + 61) 5 [.str ⟨a.toArray⟩, .int .u16 (x.toNat : Int)] H = some (.bool true, H') := by
  rw [vF_body rfl, f5_eq, c9 n H, Option.bind_some]
  simp only [Bool.not_true, cond_false]
  rw [size_of]
  by_cases c0 : 200 < a.length
  · rw [decide_eq_true (by omega), cond_true, c9 n H, Option.bind_some]
    exact ⟨H, rfl⟩
  rw [decide_eq_false (by omega), cond_false]
  obtain ⟨s, g1, g2⟩ := e28 (n + 58) H (a := a) (by omega)
  have hl : (textB a).length = a.length + 2 := by simp [textB, num2]
  have hx := x.toNat_lt
  have hm : x.toNat % (textB a).length < (textB a).length := Nat.mod_lt _ (by omega)
  rw [callD_sl g1, Option.bind_some]
  simp only
  rw [g2.len, bs_len, i64_nat (by omega), remI_nat (by omega), Option.bind_some]
  obtain ⟨s1, q1, q2, _⟩ := g2.cut (lo := 0) (hi := x.toNat % (textB a).length) (Nat.zero_le _) (by rw [bs_len]; omega) (lo' := none) (hi' := some ((x.toNat % (textB a).length : Nat) : Int)) (mx' := none) (.inr ⟨rfl, rfl⟩) (.inl rfl) (.inl rfl) H 5 1
  rw [List.drop_zero, bs_take] at q2
  rw [q1, Option.bind_some]
  obtain ⟨k, H1, r1, r2, r3, r4, r5⟩ := e14 (n + 58) (Rd.ofB H q2) (by rw [List.length_take]; omega)
  rw [callD_ptr r1, Option.bind_some]
  simp only
  obtain ⟨H2, t1, t2, t3, t4⟩ := e20 (n + 55) r2 (by omega)
  rw [textS_cut (by omega) hm] at t1 t2
  rw [callD_str t1, Option.bind_some]
  simp only
  rw [show (⟨#[]⟩ : ByteArray) = ⟨([] : List UInt8).toArray⟩ from rfl, strEq_iff]
  simp only [decide_true, cond_true]
  rw [callD_bool (e25 (n + 59) t2), Option.bind_some]
  simp only [Bool.not_true, Bool.not_false, cond_true]
  rw [callD_int (e26 (n + 59) t2), Option.bind_some]
  simp only [List.length_nil]
  rw [show (((0 : Nat) : Int) == 0) = true from rfl, cond_true]
  obtain ⟨H3, u1, u2, _⟩ := e15 (n + 56) t2 (by omega)
  rw [takeS_fail] at u1 u2
  rw [callD_int u1, Option.bind_some]
  simp only
  rw [show (((numA 0 [] : Nat) : Int) == 0) = true from rfl, cond_true]
  obtain ⟨H4, v1, v2, _⟩ := e18 (n + 56) u2 (by omega)
  rw [takeS_fail] at v1 v2
  rw [callD_int v1, Option.bind_some]
  simp only
  rw [show (((numA 0 [] : Nat) : Int) == 0) = true from rfl, cond_true]
  obtain ⟨H5, w1, w2, _⟩ := e19 (n + 56) v2 (by omega)
  rw [takeS_fail] at w1 w2
  rw [callD_int w1, Option.bind_some]
  simp only
  rw [show (((numA 0 [] : Nat) : Int) == 0) = true from rfl, cond_true]
  obtain ⟨s6, H6, y1, y2, y3, y4⟩ := e23 (n + 54) w2 (by omega) 9
  rw [show textsS 9 [] true = ([], [], true) from rfl] at y2 y3
  rw [show ((9 : Nat) : Int) = 9 from rfl] at y1
  rw [callD_sl y1, Option.bind_some]
  simp only
  rw [y2.len, ss_len]
  simp only [List.length_nil]
  rw [show (((0 : Nat) : Int) == 0) = true from rfl, cond_true]
  rw [callD_int (e16 (n + 58) y3), Option.bind_some]
  exact ⟨H6, rfl⟩
end Go.Proofs.Ythodknboobgfpaa
