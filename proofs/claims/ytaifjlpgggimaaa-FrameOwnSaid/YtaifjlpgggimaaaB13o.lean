import Derived.Test.YtaifjlpgggimaaaB13w
import Derived.Test.YtaifjlpgggimaaaVd
import Derived.Test.YtaifjlpgggimaaaVc
set_option maxRecDepth 100000
set_option linter.unusedVariables false
set_option linter.unusedSimpArgs false
namespace Go.Proofs.Ytaifjlpgggimaaa
open Go.Proofs.Ytaifjlpgggimaaa.Sh Go.Proofs.Ytaifjlpgggimaaa.Sh.V Go.RowKit
/-! ### Bytes in objects, written -/
abbrev HB (H : VH) (s : VS) (l : List UInt8) : Prop := Hr H 5 1 s (bs l)
theorem hb_es {H : VH} {s : VS} {l : List UInt8} (h : HB H s l) : slEs H 5 1 s = some (bs l) := by
  rcases h.2 with ⟨rfl, h2⟩ | ⟨j, pre, post, rfl, hj⟩
  · rw [h2]; rfl
  · show hpEs H 5 1 j pre.length (bs l).length = _
    unfold hpEs
    rw [hj]
    simp only [Nat.mul_one]
    have e1 : (List.drop pre.length (pre ++ ((bs l).flatten ++ post))).take (bs l).length = bcs l := by
      rw [List.drop_left, bs_flat, bs_len]
      have := List.take_left (l₁ := bcs l) (l₂ := post)
      rwa [show (bcs l).length = l.length by simp [bcs]] at this
    rw [e1, if_pos ⟨trivial, by simp [bs_flat, bcs], closed_bcs l⟩, strip_bcs, bs_len, chunk_bcs]
/-- What can be read as bytes. -/
structure RB (H : VH) (x : VS) (r : List UInt8) : Prop where
  len : x.len = r.length
  es : slEs H 5 1 x = some (bs r)
theorem RB.b {H : VH} {x : VS} {r : List UInt8} (h : IsB x r) : RB H x r := ⟨by rw [h.len, bs_len], h.es H 5 1⟩
theorem RB.h {H : VH} {x : VS} {r : List UInt8} (h : HB H x r) : RB H x r := ⟨by rw [h.len, bs_len], hb_es h⟩
theorem hb_app {H : VH} {s x : VS} {l r : List UInt8} (h : HB H s l) (hx : RB H x r) (hl : l.length + r.length < 1000000) :
    ∃ s' H', appD false H 1 1 5 s x = some (s', H') ∧ HB H' s' (l ++ r) ∧ Kp H H' (hps s) ∧ (∀ t ∈ hps s', t ∈ hps s ∨ H.length ≤ t) := by
  obtain ⟨s', H', a, b, c, d⟩ := h.app (by_ := 1) (x := x) (news := bs r) (by rw [hx.len, bs_len]) hx.es (fun y hy => by
    obtain ⟨z, _, rfl⟩ := List.mem_map.1 hy
    rfl) (by rw [bs_len, bs_len]; simp only [bound]; omega) (by rw [bs_len, bs_len]; simp only [bound]; omega)
  exact ⟨s', H', a, by show Hr H' 5 1 s' (bs (l ++ r)); rw [bs_app]; exact b, c, d⟩
theorem hb_cut {H : VH} {s : VS} {l : List UInt8} (h : HB H s l) {lo hi : Nat} (h1 : lo ≤ hi) (h2 : hi ≤ l.length) : ∃ s', cutD H 5 1 s (some (lo : Int)) (some (hi : Int)) none = some s' ∧ HB H s' ((l.take hi).drop lo) ∧ hps s' = hps s := by
  unfold V.cutD
  rw [holdV_eq]
  have hbd : ∀ (c N d : Nat), c ≤ N → bd d (some (c : Int)) N = some c := fun c N d hc => by
    show inB _ _ = _
    unfold inB
    rw [if_pos ⟨by omega, by omega⟩]; simp
  rcases h.2 with ⟨rfl, h0⟩ | ⟨j, pre, post, rfl, hj⟩
  · have hl : l = [] := by cases l with | nil => rfl | cons => cases h0
    subst hl
    have e1 : hi = 0 := by simpa using h2
    subst e1
    have e2 : lo = 0 := by omega
    subst e2
    exact ⟨.nil, rfl, h, rfl⟩
  · rw [bs_len] at *
    refine ⟨.hp j (pre.length + lo) (hi - lo), ?_, ⟨fun y hy => ?_, .inr ⟨j, pre ++ bcs (l.take lo), bcs (l.drop hi) ++ post, ?_, ?_⟩⟩, rfl⟩
    · unfold cutV
      simp only [hj]
      rw [if_pos trivial, hbd hi l.length _ h2]
      simp only [Option.bind_some]
      rw [hbd lo hi _ h1]
      simp
    · obtain ⟨z, _, rfl⟩ := List.mem_map.1 hy
      rfl
    · have : (bcs (l.take lo)).length = lo := by simp [bcs]; omega
      rw [List.length_append, this, bs_len, List.length_drop, List.length_take, Nat.min_eq_left h2]
    · rw [hj, bs_flat, bs_flat]
      have : bcs l = bcs (l.take lo) ++ (bcs ((l.take hi).drop lo) ++ bcs (l.drop hi)) := by
        simp only [bcs, ← List.map_append]
        congr 1
        rw [← List.append_assoc]
        have e : l.take lo ++ (l.take hi).drop lo = l.take hi := by
          have := List.take_append_drop lo (l.take hi)
          rwa [List.take_take, Nat.min_eq_left h1] at this
        rw [e, List.take_append_drop]
      rw [this]
      simp only [List.append_assoc]
theorem hb_take {H : VH} {s : VS} {l : List UInt8} (h : HB H s l) {c : Nat} (hc : c ≤ l.length) : ∃ s', cutD H 5 1 s none (some (c : Int)) none = some s' ∧ HB H s' (l.take c) ∧ hps s' = hps s := by
  obtain ⟨s', a, b, d⟩ := Hr.take h (c := c) (by rw [bs_len]; exact hc)
  exact ⟨s', a, by show Hr H 5 1 s' (bs (l.take c)); rw [← bs_take]; exact b, d⟩
theorem hb_drop {H : VH} {s : VS} {l : List UInt8} (h : HB H s l) {c : Nat} (hc : c ≤ l.length) : ∃ s', cutD H 5 1 s (some (c : Int)) none none = some s' ∧ HB H s' (l.drop c) ∧ hps s' = hps s := by
  obtain ⟨s', a, b, d, _⟩ := Hr.drop h (c := c) (by rw [bs_len]; exact hc)
  exact ⟨s', a, by show Hr H 5 1 s' (bs (l.drop c)); rw [← bs_drop]; exact b, d⟩
theorem callD_frzR {call : FuncId → List V → VH → VRes} {f : FuncId} {args : List V} {H H' : VH} {s : VS} {l : List UInt8} (hc : call f args H = some (.sl 5 s, H')) (h : HB H' s l) :
    ∃ s' H'', callD call P true (.one (.flat (.slice 5))) f args H = some (s', H'') ∧ IsB s' l ∧ Kp H' H'' (hps s) := by
  unfold V.callD
  rw [hc, Option.bind_some]
  have hes := hb_es h
  rcases h.2 with ⟨rfl, h0⟩ | ⟨i, pre, post, rfl, hi⟩
  · have hl : l = [] := by cases l with | nil => rfl | cons => cases h0
    subst hl
    refine ⟨.nil, H', ?_, .nil, Kp.refl _ _⟩
    show ((V.fdec (.slice 5) (.sl 5 .nil)).map fun x => (x, H')) = _
    rw [fd_sl]; rfl
  · refine ⟨.fz (bs l) .no, H'.set i .dead, ?_, .fz _ _, Kp.set _ _ _⟩
    have : V.freeze P true (.sl 5 (.hp i pre.length (bs l).length)) H' = some (.sl 5 (.fz (bs l) .no), H'.set i .dead) := by
      show ((hpEs H' 5 (P.cellsOf 5) i pre.length (bs l).length).map fun es => (V.sl 5 (.fz es .no), H'.set i .dead)) = _
      rw [cells5, show hpEs H' 5 1 i pre.length (bs l).length = some (bs l) from hes]; rfl
    rw [this, Option.bind_some]
    show ((V.fdec (.slice 5) (.sl 5 (.fz (bs l) .no))).map fun x => (x, H'.set i .dead)) = _
    rw [fd_sl]; rfl
/-! ### Join, Clone, NewReader -/
theorem u8_mod (n : Nat) : u8 ((n % 256 : Nat) : Int) = u8 (n : Int) := by unfold u8; congr 1; omega
theorem e11h (n : Nat) {H : VH} {a b : VS} {la lb : List UInt8} (ha : IsB a la) (hb : IsB b lb) (hl : la.length + lb.length < 1000000) : ∃ s' H', vF P tab (n + 1) 11 [.sl 5 a, .sl 5 b] H = some (.sl 5 s', H') ∧ HB H' s' (la ++ lb) ∧ Kp H H' [] ∧ ∀ t ∈ hps s', H.length ≤ t := by
  obtain ⟨s1, H1, a1, a2, a3, a4⟩ := hb_app (l := []) (Hr.nil H 5 1) (RB.b ha) (by simp; omega)
  rw [List.nil_append] at a2
  obtain ⟨s2, H2, b1, b2, b3, b4⟩ := hb_app a2 (RB.b hb) hl
  have f1 : ∀ t ∈ hps s1, H.length ≤ t := fun t ht => by
    rcases a4 t ht with h | h
    · cases h
    · exact h
  refine ⟨s2, H2, ?_, b2, a3.trans b3 (fun x hx _ => hx) (fun x hx hlt => by have := f1 x hx; omega), fun t ht => ?_⟩
  · rw [vF_body rfl, f11_eq, a1, Option.bind_some]
    simp only
    rw [b1, Option.bind_some]
  · rcases b4 t ht with h | h
    · exact f1 t h
    · have := a3.len; omega
theorem e20h (n : Nat) {H : VH} {a : VS} {la : List UInt8} (ha : IsB a la) (hl : la.length < 900000) : ∃ s', vF P tab (n + 2) 20 [.sl 5 a] H = some (.sl 5 s', H) ∧ IsB s' (textI la) := by
  have hh : ∃ s' H', bodyV P tab (vF P tab (n + 1)) (n + 1) 20 [.sl 5 a.strip] [] = some (.sl 5 s', H') ∧ IsB s' (textI la) := by
    have hp : IsB (.fz [[.int .u8 (IntKind.wrap .u8 ((la.length / 256 : Nat) : Int))], [.int .u8 (IntKind.wrap .u8 ((la.length % 256 : Nat) : Int))]] (.ex 2)) [u8 ((la.length / 256 : Nat) : Int), u8 ((la.length % 256 : Nat) : Int)] := by
      rw [bc_wrap, bc_wrap]; exact .fz _ _
    obtain ⟨s1, H1, g1, g2, g3, g4⟩ := e11h n (H := []) hp ha.strip (by simp only [List.length_cons, List.length_nil]; omega)
    obtain ⟨s2, H2, q1, q2, q3⟩ := callD_frzR g1 g2
    rw [f20_eq, ha.strip.len, bs_len, show (256 : Int) = ((256 : Nat) : Int) from rfl, quoI_nat (by decide) (by rw [i64_nat (by omega)]), Option.bind_some, remI_nat (by decide), Option.bind_some, q1, Option.bind_some]
    refine ⟨s2, H2, rfl, ?_⟩
    rw [u8_mod] at q2
    exact q2
  obtain ⟨s', H', g1, g2⟩ := hh
  obtain ⟨x, y⟩ := lone_E (H := H) (args := [.sl 5 a]) rfl (by simp [closed_sl 5 ha]) g1 g2
  exact ⟨s'.strip, x, y⟩
theorem e24h (n : Nat) {H : VH} {x : VS} {l : List UInt8} (h : HB H x l) (hl : l.length < 900000) : ∃ s' H', vF P tab (n + 1) 24 [.sl 5 x] H = some (.sl 5 s', H') ∧ HB H' s' l ∧ Kp H H' [] ∧ ∀ t ∈ hps s', H.length ≤ t := by
  rw [vF_body rfl, f24_eq]
  cases hn : x.isNil with
  | true =>
    rw [cond_true]
    rcases h.2 with ⟨rfl, h0⟩ | ⟨j, pre, post, rfl, hj⟩
    · have hl : l = [] := by cases l with | nil => rfl | cons => cases h0
      subst hl
      exact ⟨.nil, H, rfl, Hr.nil _ _ _, Kp.refl _ _, fun t ht => by cases ht⟩
    · cases hn
  | false =>
    rw [cond_false]
    have k0 : Kp H (H ++ [VO.row 5 []]) [] := Kp.app _ _
    have hz : HB (H ++ [VO.row 5 []]) (.hp H.length 0 0) [] := Hr.new H 5 (sz := 1) [] (fun y hy => by cases hy)
    obtain ⟨s', H', a1, a2, a3, a4⟩ := hb_app hz (RB.h (h.keep k0 (fun t _ => by simp))) (by simp; omega)
    rw [a1, Option.bind_some]
    rw [List.nil_append] at a2
    refine ⟨s', H', rfl, a2, k0.trans a3 (fun x hx _ => hx) (fun x hx hlt => ?_), fun t ht => ?_⟩
    · rw [show hps (.hp H.length 0 0) = [H.length] from rfl, List.mem_singleton] at hx; omega
    · rcases a4 t ht with h | h
      · rw [show hps (.hp H.length 0 0) = [H.length] from rfl, List.mem_singleton] at h; omega
      · have := k0.len; omega
theorem e28h (n : Nat) {H : VH} {x : VS} {l : List UInt8} (h : HB H x l) (hl : l.length < 900000) :
    ∃ k H', vF P tab (n + 2) 28 [.sl 5 x] H = some (.ptr (.ob k 0), H') ∧ RS RT H' k l false ∧ H.length ≤ k ∧ Kp H H' [] := by
  obtain ⟨s', H1, g1, g2, g3, g4⟩ := e24h n h hl
  obtain ⟨s2, H2, q1, q2, q3⟩ := callD_frzR g1 g2
  have k2 : Kp H H2 [] := g3.trans q3 (fun x hx _ => hx) (fun x hx hlt => by have := g4 x hx; omega)
  rw [vF_body rfl, f28_eq, q1, Option.bind_some]
  exact ⟨H2.length, _, rfl, ⟨s2, by simp, q2⟩, k2.len, k2.trans (Kp.app _ _) (fun x hx _ => hx) (fun y hy _ => hy)⟩
/-! ### The stream -/
abbrev ST : TypeId := 50 + boxK
def hd (l : List UInt8) : Nat := (l.getD 0 0).toNat * 256 + (l.getD 1 0).toNat
theorem takeS_two {l : List UInt8} (h : 2 ≤ l.length) : numA 0 (takeS 2 (l.take 2) false).1 = hd l := by
  match l, h with
  | a :: b :: r, _ =>
    show (0 * 256 % 18446744073709551616 + a.toNat) * 256 % 18446744073709551616 + b.toNat = a.toNat * 256 + b.toNat
    have := a.toNat_lt
    omega
/-- A stream whose bytes lie in an object. -/
structure SO (H : VH) (k : Nat) (sp : VS) (l : List UInt8) : Prop where
  o : H[k]? = some (.row ST [.sl 5 sp, .bool false])
  b : HB H sp l
theorem SO.nk {H : VH} {k : Nat} {sp : VS} {l : List UInt8} (h : SO H k sp l) : k ∉ hps sp := fun hm => by
  obtain ⟨_, cs, hc⟩ := h.b.lt k hm
  rw [h.o] at hc
  injection hc with hc
  injection hc with hc _
  revert hc; decide
theorem SO.keep {H H' : VH} {X : List Nat} {k : Nat} {sp : VS} {l : List UInt8} (h : SO H k sp l) (kp : Kp H H' X) (hk : k ∉ X) (hs : ∀ t ∈ hps sp, t ∉ X) : SO H' k sp l := ⟨kp.ob h.o hk, h.b.keep kp hs⟩
theorem ld_s0 {H : VH} {k : Nat} {sp : VS} {l : List UInt8} (h : SO H k sp l) : ldV (.flat (.slice 5)) H (.ob k 0) = some sp := by rw [ld_row h.o]; exact fd_sl 5 sp
theorem e17h (n : Nat) {H : VH} {k : Nat} {sp : VS} {l : List UInt8} (h : SO H k sp l) : vF P tab (n + 1) 17 [.ptr (.ob k 0)] H = some (.bool false, H) := by
  rw [vF_body rfl, f17_eq]
  simp only [VP.isNil, Bool.not_false, cond_true, nn, atO, Option.bind_some]
  rw [ld_row h.o]
  rfl
theorem n1 (n : Nat) {H : VH} {k : Nat} {sp : VS} {l : List UInt8} (h : SO H k sp l) (hl : l.length < 2) : vF P tab (n + 1) 25 [.ptr (.ob k 0)] H = some (.tup [.sl 5 .nil, .bool false], H) := by
  rw [vF_body rfl, f25_eq]
  simp only [nn, atO, Option.bind_some, Nat.zero_add]
  rw [ld_s0 h, Option.bind_some, h.b.len, bs_len, decide_eq_true (by omega), cond_true]
theorem nx (n : Nat) (hn : 300 ≤ n) {H : VH} {k : Nat} {sp : VS} {l : List UInt8} (h : SO H k sp l) (hl : 2 ≤ l.length) (hl2 : l.length < 5000) (h1 : 1 ≤ hd l) (h2 : hd l ≤ 2048) :
    (l.length < 2 + hd l → ∃ H', vF P tab (n + 5) 25 [.ptr (.ob k 0)] H = some (.tup [.sl 5 .nil, .bool false], H') ∧ Kp H H' []) ∧
    (2 + hd l ≤ l.length → ∃ sq sp' H', vF P tab (n + 5) 25 [.ptr (.ob k 0)] H = some (.tup [.sl 5 sq, .bool true], H') ∧ HB H' sq ((l.take (2 + hd l)).drop 2) ∧ SO H' k sp' (l.drop (2 + hd l)) ∧ hps sp' = hps sp ∧ Kp H H' [k] ∧ ∀ t ∈ hps sq, H.length ≤ t) := by
  have hk := lt_of_ob h.o
  obtain ⟨z7, a1, a2, a3⟩ := hb_take h.b (c := 2) hl
  obtain ⟨kr, H1, q1, q2, q3, q4⟩ := e28h (n + 2) a2 (by rw [List.length_take]; omega)
  obtain ⟨H2, q5, q6, q7, q8⟩ := e29 n q2 hn
  have k2 : Kp H H2 [] := q4.trans q7 (fun x hx _ => hx) (fun y hy hl => by rw [List.mem_singleton] at hy; omega)
  have h3 := h.keep k2 (by simp) (fun t _ => by simp)
  have e0 : (((hd l : Nat) : Int) == 0) = false := by rw [beq_eq_false_iff_ne]; omega
  have e1 : decide (((hd l : Nat) : Int) > 2048) = false := decide_eq_false (by omega)
  rw [show ((2 : Nat) : Int) = 2 from rfl] at a1
  have head : ∀ (r : VRes), (cond (decide (((l.length : Nat) : Int) < IntKind.wrap .i64 (2 + ((hd l : Nat) : Int)))) (some (V.tup [.sl 5 .nil, .bool false], H2))
        ((cutD H2 5 1 sp (some 2) (some (IntKind.wrap .i64 (2 + ((hd l : Nat) : Int)))) none).bind fun z28 =>
          ((callD (vF P tab (n + 4)) P false (.one (.flat (.slice 5))) 24 [.sl 5 z28] H2).bind fun r29 =>
            ((ldV (.flat (.slice 5)) r29.2 (.ob k 0)).bind fun x32 =>
              ((cutD r29.2 5 1 x32 (some (IntKind.wrap .i64 (2 + ((hd l : Nat) : Int)))) none none).bind fun z33 =>
                ((stV r29.2 (.ob k 0) [.sl 5 z33]).bind fun h36 => some (V.tup [.sl 5 r29.1, .bool true], h36))))))) = r → vF P tab (n + 5) 25 [.ptr (.ob k 0)] H = r := by
    intro r hr
    rw [vF_body rfl, f25_eq]
    simp only [nn, atO, Option.bind_some, Nat.zero_add]
    rw [ld_s0 h, Option.bind_some, h.b.len, bs_len, decide_eq_false (by omega), cond_false, Option.bind_some, a1, Option.bind_some, callD_ptr q1, Option.bind_some]
    simp only
    rw [callD_int q5, Option.bind_some, takeS_two hl]
    simp only
    rw [e0, cond_false, e1, cond_false, ld_s0 h3, Option.bind_some, h3.b.len, bs_len, Option.bind_some]
    exact hr
  have ew : IntKind.wrap .i64 (2 + ((hd l : Nat) : Int)) = ((2 + hd l : Nat) : Int) := by
    rw [show (2 + ((hd l : Nat) : Int)) = ((2 + hd l : Nat) : Int) by omega, i64_nat (by omega)]
  rw [ew] at head
  constructor
  · intro hlt
    refine ⟨H2, head _ ?_, k2⟩
    rw [decide_eq_true (by omega), cond_true]
  · intro hge
    obtain ⟨z28, b1, b2, b3⟩ := hb_cut h3.b (lo := 2) (hi := 2 + hd l) (by omega) hge
    obtain ⟨sq, H3, c1, c2, c3, c4⟩ := e24h (n + 3) b2 (by rw [List.length_drop, List.length_take]; omega)
    have h4 := h3.keep c3 (by simp) (fun t _ => by simp)
    obtain ⟨z33, d1, d2, d3⟩ := hb_drop h4.b hge
    have k5 : Kp H3 (H3.set k (.row ST [.sl 5 z33, .bool false])) [k] := Kp.set _ _ _
    refine ⟨sq, z33, H3.set k (.row ST [.sl 5 z33, .bool false]), head _ ?_, ?_, ⟨?_, ?_⟩, d3, ?_, fun t ht => ?_⟩
    · rw [show (2 : Int) = ((2 : Nat) : Int) from rfl]
      rw [decide_eq_false (by omega), cond_false, b1, Option.bind_some, callD_sl c1, Option.bind_some]
      simp only
      rw [ld_s0 h4, Option.bind_some, d1, Option.bind_some, st_row h4.o (by simp) rfl, Option.bind_some]
      rfl
    · refine c2.keep k5 (fun t ht => ?_)
      rw [List.mem_singleton]
      rintro rfl
      have := c4 t ht
      have := k2.len
      omega
    · exact List.getElem?_set_self (lt_of_ob h4.o)
    · exact d2.keep k5 (fun t ht => by rw [List.mem_singleton]; rintro rfl; rw [d3] at ht; exact h4.nk ht)
    · exact (k2.trans c3 (Z := []) (fun x hx _ => hx) (fun x hx _ => hx)).trans k5 (fun x hx _ => by cases hx) (fun x hx _ => hx)
    · have := c4 t ht
      have := k2.len
      omega
end Go.Proofs.Ytaifjlpgggimaaa
