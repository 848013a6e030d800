/- The machine of values: words about heaps, arguments, maps, lists. -/
import Derived.Test.YtmpobijkbmljdaaVb
import Derived.Laws.Bits64
import Derived.IntWalk
import Derived.Laws.Strings
import Derived.Below
import Derived.ChangeArms
import Derived.WideShapes
import Derived.DataElems
import Derived.Sort.KeysCollected
set_option linter.unusedVariables false
set_option linter.unusedSimpArgs false
namespace Go.Proofs.Ytmpobijkbmljdaa.Sh.V
open Go.Proofs.Ytmpobijkbmljdaa.Sh

/-! ### Whole numbers -/
theorem i64_in {x : Int} (h : -9223372036854775808 ≤ x ∧ x ≤ 9223372036854775807) : IntKind.wrap .i64 x = x := IntWalk.i64_in x h
theorem i64_nat {n : Nat} (h : n ≤ 9223372036854775807) : IntKind.wrap .i64 (n : Int) = (n : Int) := IntWalk.i64_in _ (by omega)
theorem wrap_u64_nat {n : Nat} (h : n < 18446744073709551616) : IntKind.u64.wrap (n : Int) = n := by rw [IntKind.wrap_u64]; omega
theorem wrap_u8_nat {n : Nat} (h : n < 256) : IntKind.u8.wrap (n : Int) = n := by rw [IntKind.wrap_u8]; omega
theorem wrap_u8_mod (n : Nat) : IntKind.u8.wrap (n : Int) = ((n % 256 : Nat) : Int) := by rw [IntKind.wrap_u8]; omega
theorem ofInt_nat (w n : Nat) : BitVec.ofInt w (n : Int) = BitVec.ofNat w n := by simp
theorem bitI_and {x y : Nat} (hx : x < 18446744073709551616) (hy : y < 18446744073709551616) : bitI .and .u64 (x : Int) (y : Int) = ((x &&& y : Nat) : Int) := by
  show IntKind.u64.wrap ((BitVec.ofInt 64 (x : Int) &&& BitVec.ofInt 64 (y : Int) : BitVec 64).toNat : Int) = _
  rw [ofInt_nat, ofInt_nat, BitVec.toNat_and, BitVec.toNat_ofNat, BitVec.toNat_ofNat, Nat.mod_eq_of_lt hx, Nat.mod_eq_of_lt hy]
  exact wrap_u64_nat (Nat.lt_of_le_of_lt Nat.and_le_left hx)
theorem bitI_or {x y : Nat} (hx : x < 18446744073709551616) (hy : y < 18446744073709551616) : bitI .or .u64 (x : Int) (y : Int) = ((x ||| y : Nat) : Int) := by
  show IntKind.u64.wrap ((BitVec.ofInt 64 (x : Int) ||| BitVec.ofInt 64 (y : Int) : BitVec 64).toNat : Int) = _
  rw [ofInt_nat, ofInt_nat, BitVec.toNat_or, BitVec.toNat_ofNat, BitVec.toNat_ofNat, Nat.mod_eq_of_lt hx, Nat.mod_eq_of_lt hy]
  exact wrap_u64_nat (Nat.or_lt_two_pow (n := 64) hx hy)
theorem or_add {x y k : Nat} (hy : y < 2 ^ k) : (x * 2 ^ k) ||| y = x * 2 ^ k + y := by
  rw [Nat.mul_comm x, Nat.two_pow_add_eq_or_of_lt hy]
theorem shlI_u64 {x k : Nat} (hk : k ≤ 64) : shlI .u64 (x : Int) (k : Int) = some (((x * 2 ^ k) % 18446744073709551616 : Nat) : Int) := by
  unfold shlI
  rw [if_neg (by omega), Int.toNat_natCast, show IntKind.u64.bits = 64 from rfl, Nat.min_eq_left hk, IntKind.wrap_u64]
  congr 1
theorem shrI_nat {k : IntKind} {x s : Nat} (hs : s ≤ k.bits) : shrI k (x : Int) (s : Int) = some ((x / 2 ^ s : Nat) : Int) := by
  unfold shrI
  rw [if_neg (by omega), Int.toNat_natCast, Nat.min_eq_left hs]
  congr 1
  rw [Int.fdiv_eq_ediv_of_nonneg _ (by exact Int.le_of_lt (Int.pow_pos (by decide)))]
  exact (Int.natCast_ediv _ _).symm ▸ (by simp)
theorem quoI_nat {k : IntKind} {x y : Nat} (hy : y ≠ 0) (hw : k.wrap ((x / y : Nat) : Int) = ((x / y : Nat) : Int)) : quoI k (x : Int) (y : Int) = some ((x / y : Nat) : Int) := by
  unfold quoI
  rw [if_neg (by omega), Int.tdiv_eq_ediv_of_nonneg (by omega)]
  congr 1
theorem remI_nat {x y : Nat} (hy : y ≠ 0) : remI (x : Int) (y : Int) = some ((x % y : Nat) : Int) := by
  unfold remI
  rw [if_neg (by omega), Int.tmod_eq_emod_of_nonneg (by omega)]
  congr 1
/-! ### Heaps -/
/-- What there was stays, but for the named ones. -/
structure Kp (H H' : VH) (X : List Nat) : Prop where
  len : H.length ≤ H'.length
  at_ : ∀ i, i < H.length → i ∉ X → H'[i]? = H[i]?
theorem Kp.refl (H : VH) (X : List Nat) : Kp H H X := ⟨Nat.le_refl _, fun _ _ _ => rfl⟩
theorem Kp.app (H : VH) (l : List VO) : Kp H (H ++ l) [] := ⟨by simp, fun i hi _ => by rw [List.getElem?_append_left hi]⟩
theorem Kp.set (H : VH) (k : Nat) (o : VO) : Kp H (H.set k o) [k] := ⟨by simp, fun i _ hx => by rw [List.getElem?_set_ne (fun e => hx (by simp [e]))]⟩
theorem Kp.trans {H H1 H2 : VH} {X Y Z : List Nat} (a : Kp H H1 X) (b : Kp H1 H2 Y) (hx : ∀ x ∈ X, x < H.length → x ∈ Z) (hy : ∀ y ∈ Y, y < H.length → y ∈ Z) : Kp H H2 Z :=
  ⟨Nat.le_trans a.len b.len, fun i hi hz => by
    rw [b.at_ i (Nat.lt_of_lt_of_le hi a.len) (fun h => hz (hy i h hi)), a.at_ i hi (fun h => hz (hx i h hi))]⟩
theorem Kp.weak {H H1 : VH} {X Z : List Nat} (a : Kp H H1 X) (hx : ∀ x ∈ X, x < H.length → x ∈ Z) : Kp H H1 Z :=
  ⟨a.len, fun i hi hz => a.at_ i hi (fun h => hz (hx i h hi))⟩
theorem Kp.ob {H H' : VH} {X : List Nat} (a : Kp H H' X) {i : Nat} {o : VO} (hi : H[i]? = some o) (hx : i ∉ X) : H'[i]? = some o := by
  rw [a.at_ i (List.getElem?_eq_some_iff.1 hi).1 hx]; exact hi
theorem lt_of_ob {H : VH} {i : Nat} {o : VO} (hi : H[i]? = some o) : i < H.length := (List.getElem?_eq_some_iff.1 hi).1
theorem rowV_of {H : VH} {i : Nat} {e : TypeId} {cs : List V} (h : H[i]? = some (.row e cs)) : rowV H i = some cs := by unfold rowV; rw [h]
theorem ld_row {H : VH} {i off : Nat} {e : TypeId} {cs : List V} (h : H[i]? = some (.row e cs)) (τ : FT) : ldV (.flat τ) H (.ob i off) = (cs[off]?).bind (fdec τ) := by
  simp only [ldV, rowV_of h, Option.bind_some]
theorem st_row {H : VH} {i off : Nat} {e : TypeId} {cs vs : List V} (h : H[i]? = some (.row e cs)) (hl : off + vs.length ≤ cs.length) (h1 : onesV vs = true) : stV H (.ob i off) vs = some (H.set i (.row e (putAllV cs off vs))) := by
  simp only [stV, h]; rw [if_pos ⟨hl, h1⟩]
theorem fd_sl (e : TypeId) (s : VS) : fdec (.slice e) (.sl e s) = some s := if_pos rfl
theorem fd_nil (e e' : TypeId) : fdec (.slice e) (.sl e' .nil) = some .nil := by
  show atE e e' .nil = _
  unfold atE
  split <;> rfl
theorem fd_int (k : IntKind) (x : Int) : fdec (.int k) (.int k x) = some x := if_pos rfl
theorem fd_bool (b : Bool) : fdec .bool (.bool b) = some b := rfl
theorem fd_str (s : ByteArray) : fdec .str (.str s) = some s := rfl
theorem fd_ptr (p : VP) : fdec .ptr (.ptr p) = some p := rfl
theorem callD_int {P : Program} {call : FuncId → List V → VH → VRes} {k : IntKind} {f : FuncId} {args : List V} {H H' : VH} {x : Int} (hc : call f args H = some (.int k x, H')) : callD call P false (.one (.flat (.int k))) f args H = some (x, H') := callD_some _ hc (fd_int k x)
theorem callD_bool {P : Program} {call : FuncId → List V → VH → VRes} {f : FuncId} {args : List V} {H H' : VH} {x : Bool} (hc : call f args H = some (.bool x, H')) : callD call P false (.one (.flat .bool)) f args H = some (x, H') := callD_some _ hc rfl
theorem callD_str {P : Program} {call : FuncId → List V → VH → VRes} {f : FuncId} {args : List V} {H H' : VH} {x : ByteArray} (hc : call f args H = some (.str x, H')) : callD call P false (.one (.flat .str)) f args H = some (x, H') := callD_some _ hc rfl
theorem callD_sl {P : Program} {call : FuncId → List V → VH → VRes} {e : TypeId} {f : FuncId} {args : List V} {H H' : VH} {x : VS} (hc : call f args H = some (.sl e x, H')) : callD call P false (.one (.flat (.slice e))) f args H = some (x, H') := callD_some _ hc (fd_sl e x)
theorem callD_ptr {P : Program} {call : FuncId → List V → VH → VRes} {f : FuncId} {args : List V} {H H' : VH} {x : VP} (hc : call f args H = some (.ptr x, H')) : callD call P false (.one (.flat .ptr)) f args H = some (x, H') := callD_some _ hc rfl
theorem callD_unit {P : Program} {call : FuncId → List V → VH → VRes} {f : FuncId} {args : List V} {H H' : VH} (hc : call f args H = some (.tup [], H')) : callD call P false (.tup []) f args H = some ((), H') := callD_some _ hc rfl
/-! ### Slices whose elements stay -/
inductive IsE : VS → List (List V) → Prop
  | nil : IsE .nil []
  | fz (es : List (List V)) (c : VC) : IsE (.fz es c) es
theorem IsE.len {s : VS} {es : List (List V)} (h : IsE s es) : s.len = es.length := by cases h <;> rfl
theorem IsE.es {s : VS} {es : List (List V)} (h : IsE s es) (H : VH) (e : TypeId) (sz : Nat) : slEs H e sz s = some es := by cases h <;> rfl
theorem IsE.ix {s : VS} {es : List (List V)} (h : IsE s es) {i : Nat} {y : List V} (hy : es[i]? = some y) (sz : Nat) : ixV sz s (i : Int) = some (.fz y) := by
  cases h with
  | nil => simp at hy
  | fz =>
    simp only [ixV]
    rw [if_pos (by omega), Int.toNat_natCast, hy]
    rfl
theorem IsE.strip {s : VS} {es : List (List V)} (h : IsE s es) : IsE s.strip es := by
  cases h with
  | nil => exact .nil
  | fz es c => cases c <;> exact .fz _ _
theorem IsE.closed {s : VS} {es : List (List V)} (h : IsE s es) (e : TypeId) : closed1 (.sl e s) = true := by cases h <;> rfl
theorem IsE.isNil {s : VS} {es : List (List V)} (h : IsE s es) (hn : s.isNil = true) : s = .nil ∧ es = [] := by cases h with | nil => exact ⟨rfl, rfl⟩ | fz => cases hn
/-- A piece. -/
theorem IsE.cut {s : VS} {es : List (List V)} (h : IsE s es) {lo hi : Nat} (h1 : lo ≤ hi) (h2 : hi ≤ es.length) {lo' hi' mx' : Option Int} (e1 : lo' = some (lo : Int) ∨ lo' = none ∧ lo = 0) (e2 : hi' = some (hi : Int) ∨ hi' = none ∧ hi = es.length)
    (e3 : mx' = none ∨ mx' = some (hi : Int) ∧ hi' = some (hi : Int)) (H : VH) (e : TypeId) (sz : Nat) : ∃ s', cutD H e sz s lo' hi' mx' = some s' ∧ IsE s' ((es.take hi).drop lo) ∧ (s = .nil → s' = .nil) ∧ (mx' = some (hi : Int) → s = .nil ∨ s' = .fz ((es.take hi).drop lo) (.ex (hi - lo))) := by
  unfold cutD
  rw [holdV_eq]
  have b1 : ∀ m : Nat, hi ≤ m → bd es.length hi' m = some hi ∨ (hi' = none ∧ hi = es.length) := by
    intro m hm
    rcases e2 with rfl | ⟨rfl, rfl⟩
    · left; simp only [bd, inB]; rw [if_pos ⟨by omega, by omega⟩, Int.toNat_natCast]
    · right; exact ⟨rfl, rfl⟩
  have b1' : ∀ m : Nat, hi ≤ m → bd es.length hi' m = some hi := by
    intro m hm
    rcases b1 m hm with h0 | ⟨h0, h3⟩
    · exact h0
    · rw [h0, h3]; rfl
  have b2 : bd 0 lo' hi = some lo := by
    rcases e1 with rfl | ⟨rfl, rfl⟩
    · simp only [bd, inB]; rw [if_pos ⟨by omega, by omega⟩, Int.toNat_natCast]
    · rfl
  cases h with
  | nil =>
    simp only [List.length_nil] at h2 b1'
    have h0 : hi = 0 := by omega
    have h3 : lo = 0 := by omega
    subst h0 h3
    refine ⟨.nil, ?_, by simpa using IsE.nil, fun _ => rfl, fun _ => .inl rfl⟩
    have b3 : bd 0 mx' 0 = some 0 := by
      rcases e3 with rfl | ⟨rfl, _⟩
      · rfl
      · rfl
    simp only [cutV]
    rw [b3, Option.bind_some, b1' 0 (Nat.le_refl _), Option.bind_some, b2, Option.bind_some]
  | fz es c =>
    rcases e3 with rfl | ⟨rfl, e4⟩
    · refine ⟨.fz ((es.take hi).drop lo) (capCut c lo hi es.length), ?_, .fz _ _, (fun h => by cases h), (fun h => by cases h)⟩
      simp only [cutV]
      rw [b1' es.length h2, Option.bind_some, b2, Option.bind_some]
    · refine ⟨.fz ((es.take hi).drop lo) (.ex (hi - lo)), ?_, .fz _ _, (fun h => by cases h), fun _ => .inr rfl⟩
      simp only [cutV]
      have b4 : inB (hi : Int) es.length = some hi := by unfold inB; rw [if_pos ⟨by omega, by omega⟩, Int.toNat_natCast]
      rw [b4, Option.bind_some, b1' hi (Nat.le_refl _), Option.bind_some, b2, Option.bind_some]
/-- May be appended to. -/
inductive Ap (H : VH) (e : TypeId) : VS → List (List V) → Prop
  | nil : Ap H e .nil []
  | lit (es : List (List V)) : Ap H e (.fz es (.ex es.length)) es
  | tok (es : List (List V)) (t : Nat) : H[t]? = some (.tok e es.length) → Ap H e (.fz es (.tok t es.length)) es
def toks : VS → List Nat
  | .fz _ (.tok t _) => [t]
  | _ => []
theorem Ap.isE {H : VH} {e : TypeId} {s : VS} {es : List (List V)} (h : Ap H e s es) : IsE s es := by cases h <;> constructor
theorem Ap.keep {H H' : VH} {X : List Nat} {e : TypeId} {s : VS} {es : List (List V)} (h : Ap H e s es) (k : Kp H H' X) (hx : ∀ t ∈ toks s, t ∉ X) : Ap H' e s es := by
  cases h with
  | nil => exact .nil
  | lit es => exact .lit es
  | tok es t ht => exact .tok es t (k.ob ht (hx t (by simp [toks])))
theorem Ap.app {H : VH} {sz by_ : Nat} {e : TypeId} {s x : VS} {es news : List (List V)} (h : Ap H e s es) (hx : IsE x news) (hb : (((es.length + news.length) * by_ : Nat) : Int) ≤ bound) (h63 : ((es.length + news.length : Nat) : Int) ≤ bound) :
    ∃ s' H', appD true H sz by_ e s x = some (s', H') ∧ Ap H' e s' (es ++ news) ∧ Kp H H' (toks s) ∧ (∀ t ∈ toks s', t ∈ toks s ∨ H.length ≤ t) ∧ (news = [] → s' = s ∧ H' = H) := by
  have hl : appD true H sz by_ e s x = appW H e sz s news := by
    unfold appD
    rw [holdV_eq, h.isE.len, hx.len, if_pos ⟨hb, h63⟩, hx.es, Option.bind_some]
    rfl
  rw [hl]
  unfold appW
  by_cases hm : news.length = 0
  · have : news = [] := List.eq_nil_of_length_eq_zero hm
    subst this
    rw [if_pos hm]
    exact ⟨s, H, rfl, by simpa using h, Kp.refl _ _, fun t ht => .inl ht, fun _ => ⟨rfl, rfl⟩⟩
  · rw [if_neg hm]
    have hne : news ≠ [] := fun e => hm (by rw [e]; rfl)
    cases h with
    | nil =>
      refine ⟨_, _, rfl, .tok _ H.length (by simp), (Kp.app H _).weak (fun x hx => by cases hx), fun t ht => .inr ?_, fun e => absurd e hne⟩
      simp [toks] at ht; omega
    | lit es =>
      simp only
      rw [if_pos (by omega)]
      have := Ap.tok (H := H ++ [.tok e (es ++ news).length]) (e := e) (es ++ news) H.length (by simp)
      rw [List.length_append] at this
      refine ⟨_, _, rfl, this, (Kp.app H _).weak (fun x hx => by cases hx), fun t ht => .inr ?_, fun e => absurd e hne⟩
      simp [toks] at ht; omega
    | tok es t ht =>
      simp only [ht, and_self, if_true]
      have htl := lt_of_ob ht
      have := Ap.tok (H := H.set t (.tok e (es ++ news).length)) (e := e) (es ++ news) t (by rw [List.getElem?_set_self htl])
      rw [List.length_append] at this
      exact ⟨_, _, rfl, this, Kp.set _ _ _, fun t ht => .inl ht, fun e => absurd e hne⟩
/-! ### Bytes -/
def bc (b : UInt8) : List V := [.int .u8 (b.toNat : Int)]
def bs (l : List UInt8) : List (List V) := l.map bc
@[simp] theorem bs_len (l : List UInt8) : (bs l).length = l.length := by simp [bs]
theorem bs_app (a b : List UInt8) : bs (a ++ b) = bs a ++ bs b := by simp [bs]
theorem bs_take (l : List UInt8) (n : Nat) : (bs l).take n = bs (l.take n) := by simp [bs, List.map_take]
theorem bs_drop (l : List UInt8) (n : Nat) : (bs l).drop n = bs (l.drop n) := by simp [bs, List.map_drop]
theorem bytesE_bs (s : ByteArray) : bytesE s = bs s.data.toList := rfl
theorem bytesE_of (l : List UInt8) : bytesE ⟨l.toArray⟩ = bs l := rfl
theorem bytesOf_bs (l : List UInt8) : bytesOfE (bs l) = some l := by
  induction l with
  | nil => rfl
  | cons b l ih =>
    show ((bytesOfE (bs l)).map fun l => UInt8.ofNat ((b.toNat : Int)).toNat :: l) = _
    rw [ih]
    simp
abbrev IsB (s : VS) (l : List UInt8) : Prop := IsE s (bs l)
theorem IsE.str {s : VS} {es : List (List V)} (h : IsE s es) (H : VH) (e : TypeId) : strV H e s = (bytesOfE es).map fun l => ⟨l.toArray⟩ := by
  cases h <;> rfl
theorem IsB.str {s : VS} {l : List UInt8} (h : IsB s l) (H : VH) (e : TypeId) : strV H e s = some ⟨l.toArray⟩ := by
  rw [IsE.str h, bytesOf_bs]
  rfl
theorem IsB.rd {s : VS} {l : List UInt8} (h : IsB s l) {i : Nat} {b : UInt8} (hb : l[i]? = some b) (H : VH) {β : Type} (f : Int → Option β) : ((ixV 1 s (i : Int)).bind fun p => (ldV (.flat (.int .u8)) H p).bind f) = f (b.toNat : Int) := by
  rw [h.ix (y := bc b) (by simp [bs, hb]) 1, Option.bind_some]
  rfl
theorem ixS_of {l : List UInt8} {i : Nat} {b : UInt8} (hi : l[i]? = some b) : ixS ⟨l.toArray⟩ (i : Int) = some (b.toNat : Int) := by
  unfold ixS
  have hlt := (List.getElem?_eq_some_iff.1 hi).1
  have he := (List.getElem?_eq_some_iff.1 hi).2
  have hs : i < (⟨l.toArray⟩ : ByteArray).size := by simpa [ByteArray.size] using hlt
  rw [if_pos (Int.natCast_nonneg i), Int.toNat_natCast, getElem?_pos (⟨l.toArray⟩ : ByteArray) i hs, Option.map_some]
  congr 2
  rw [← he]
  rfl
theorem strEq_iff (x y : List UInt8) : strEq ⟨x.toArray⟩ ⟨y.toArray⟩ = decide (x = y) := by
  unfold strEq
  rw [Go.ByteArray.toList_mk, Go.ByteArray.toList_mk]
  by_cases h : x = y
  · subst h; simp
  · rw [decide_eq_false h]; simpa using h
theorem strEq_self (x : ByteArray) : strEq x x = true := by unfold strEq; simp
theorem str_data (s : ByteArray) : s = ⟨s.data.toList.toArray⟩ := by cases s; simp
theorem size_of (l : List UInt8) : (⟨l.toArray⟩ : ByteArray).size = l.length := by simp [ByteArray.size]
end Go.Proofs.Ytmpobijkbmljdaa.Sh.V
namespace Go.Proofs.Ytmpobijkbmljdaa.Sh
open Go.RowKit
/-! ### Arguments that are handed in -/
def Ob.ro : Ob → Bool
  | .dead => true
  | .row rw _ _ => !rw
  | _ => false
theorem Sim.addRo {P : Program} {B : Nat} {w0 : World} {S : List Loc} {h : Heap} {w : World} (hs : Sim P B w0 S h w) (hown : ∀ o ∈ h, o.ro = true) (L : Loc) (o : Ob) (ho : o.ro = true) (hn : ObIs P B (S ++ [L]) w L o) :
    Sim P B w0 (S ++ [L]) (h ++ [o]) w ∧ ∀ x ∈ h ++ [o], x.ro = true := by
  have hall : ∀ x ∈ h ++ [o], x.ro = true := by
    intro x hx
    rcases List.mem_append.1 hx with h1 | h1
    · exact hown x h1
    · rw [List.mem_singleton.1 h1]; exact ho
  refine ⟨⟨by simp [hs.len], hs.below, hs.size, ?_, ?_, ?_⟩, hall⟩
  · intro j u M hj hM
    rcases Nat.lt_or_ge j h.length with hlt | hge
    · rw [List.getElem?_append_left hlt] at hj
      rw [List.getElem?_append_left (by rw [hs.len]; exact hlt)] at hM
      exact (hs.ob j u M hj hM).mono ⟨_, rfl⟩
    · rw [List.getElem?_append_right hge] at hj
      rw [List.getElem?_append_right (by rw [hs.len]; exact hge)] at hM
      have h0 : j - h.length = 0 := by
        rcases Nat.eq_zero_or_pos (j - h.length) with h0 | h0
        · exact h0
        · rw [List.getElem?_eq_none (by simp; omega)] at hj; cases hj
      rw [hs.len] at hM
      rw [h0] at hj hM
      simp at hj hM
      subst hj hM
      exact hn
  · intro i j oi oj L' M hij hi hj hoi
    have := hall oi (List.mem_of_getElem? hi)
    cases oi with
    | dead => cases hoi
    | row rw e cs => cases rw with
      | false => cases hoi
      | true => cases this
    | app e cs => cases this
    | map es => cases this
  · intro i j e cs oj L' M hij hi
    have := hall _ (List.mem_of_getElem? hi)
    cases this
end Go.Proofs.Ytmpobijkbmljdaa.Sh
namespace Go.Proofs.Ytmpobijkbmljdaa.Sh.V
open Go.Proofs.Ytmpobijkbmljdaa.Sh Go.RowKit
section
variable (P : Program) (w : World)
mutual
/-- A value in the world, all of it read only. -/
inductive IsIn : V → Value → Prop
  | bool (b) : IsIn (.bool b) (.bool b)
  | int (k n) : IsIn (.int k n) (.int k n)
  | flt (k n) : IsIn (.flt k n) (.float k n)
  | str (s) : IsIn (.str s) (.string s)
  | ptrNil : IsIn (.ptr .nil) (.pointer none)
  | nilFunc : IsIn .nilFunc .nilFunc
  | nilIface : IsIn .nilIface .nilIface
  | mapNil : IsIn (.map none) (.map none)
  | slNil (e) : IsIn (.sl e .nil) (.slice none 0 0)
  | slEm (e a) : IsIn (.sl e (.fz [] (.ex 0))) (.slice (some a) 0 0)
  | sl {e es cap b off ys} : cap ≠ 0 → es.length ≤ cap → b < w.heap.size → (∀ y ∈ es, y.length = P.cellsOf e) → (∀ (j : Nat) (y : Value), ys[j]? = some y → w.cell? ⟨b, off + j, none⟩ = some y) → IsIns es.flatten ys →
      IsIn (.sl e (.fz es (.ex cap))) (.slice (some ⟨b, off, none⟩) es.length cap)
inductive IsIns : List V → List Value → Prop
  | nil : IsIns [] []
  | cons {v v' l l'} : IsIn v v' → IsIns l l' → IsIns (v :: l) (v' :: l')
end
end
theorem IsIns.length {P : Program} {w : World} {l : List V} {l' : List Value} (h : IsIns P w l l') : l.length = l'.length := by
  induction l generalizing l' with
  | nil => cases h; rfl
  | cons v l ih => cases h with | cons _ b => simp [ih b]
/-- The shadow's heap alone. -/
abbrev cxh (h : Heap) : Cx := ⟨[], [], h, fun _ => False⟩
theorem cxh_le (h : Heap) (o : List Ob) (hr : ∀ x ∈ h, x.ro = true) : Le (cxh h) (cxh (h ++ o)) where
  X := rfl
  len := Nat.le_refl _
  hlen := by simp
  pers k e ys h1 h2 := by
    have hk : k < h.length := by
      rcases Nat.lt_or_ge k h.length with hl | hl
      · exact hl
      · unfold rowT at h2; simp only [List.getElem?_eq_none hl] at h2; cases h2
    refine ⟨h1, ?_⟩
    unfold rowT at h2 ⊢
    simp only at h2 ⊢
    rw [List.getElem?_append_left hk]
    exact h2
  frame k h1 h2 := ⟨by simp only; rw [List.getElem?_append_left h1], by rintro ⟨i, o, hi, _⟩; simp at hi⟩
  ids i k h1 := h1
  toks t e g' h1 h2 := by simp at h1
theorem pure_of {P : Program} {w : World} {v : V} {v' : Value} (h : IsIn P w v v') : pure1 v = true := by cases h <;> rfl
theorem pures_of {P : Program} {w : World} {l : List V} {l' : List Value} (h : IsIns P w l l') : ∀ v ∈ l, pure1 v = true := by
  induction l generalizing l' with
  | nil => intro v hv; cases hv
  | cons v l ih =>
    cases h with
    | cons a b =>
      intro x hx
      rcases List.mem_cons.1 hx with rfl | hx
      · exact pure_of a
      · exact ih b x hx
end Go.Proofs.Ytmpobijkbmljdaa.Sh.V
namespace Go.Proofs.Ytmpobijkbmljdaa.Sh.V
open Go.Proofs.Ytmpobijkbmljdaa.Sh Go.RowKit
theorem one_of {P : Program} {c : Cx} {v : V} {v1 : Value} (h : VR P c v v1) (hp : pure1 v = true) : v1.oneCell' = true := by
  cases h <;> first | rfl | (simp [pure1, basicP] at hp)
theorem ones_of {P : Program} {c : Cx} {l : List V} {l1 : List Value} (h : VRs P c l l1) (hp : ∀ v ∈ l, pure1 v = true) : ones l1 = true := by
  induction l generalizing l1 with
  | nil => cases h; rfl
  | cons v l ih =>
    cases h with
    | cons a b =>
      simp only [ones, List.all_cons, Bool.and_eq_true]
      exact ⟨one_of a (hp _ (List.mem_cons_self ..)), ih b (fun v hv => hp v (List.mem_cons_of_mem _ hv))⟩
theorem rels_at {S : List Loc} {l l' : List Value} (h : VRels S l l') {j : Nat} {v : Value} (hj : l[j]? = some v) : ∃ v', l'[j]? = some v' ∧ VRel S v v' := by
  induction l generalizing l' j with
  | nil => simp at hj
  | cons x l ih =>
    cases h with
    | cons a b =>
      cases j with
      | zero => simp at hj; subst hj; exact ⟨_, rfl, a⟩
      | succ j => simp at hj; simpa using ih b hj
mutual
theorem Sim.in1 {P : Program} {B : Nat} {w0 w : World} : ∀ {v : V} {v' : Value}, IsIn P w v v' → ∀ {S : List Loc} {h : Heap}, Sim P B w0 S h w → (∀ o ∈ h, o.ro = true) →
    ∃ S' o v1, S <+: S' ∧ Sim P B w0 S' (h ++ o) w ∧ (∀ x ∈ h ++ o, x.ro = true) ∧ VR P (cxh (h ++ o)) v v1 ∧ VRel S' v1 v'
  | _, _, .bool b, S, h, hs, ho => ⟨S, [], _, List.prefix_refl _, by simpa using hs, by simpa using ho, .bool b, .bool b⟩
  | _, _, .int k n, S, h, hs, ho => ⟨S, [], _, List.prefix_refl _, by simpa using hs, by simpa using ho, .int k n, .int k n⟩
  | _, _, .flt k n, S, h, hs, ho => ⟨S, [], _, List.prefix_refl _, by simpa using hs, by simpa using ho, .flt k n, .float k n⟩
  | _, _, .str s, S, h, hs, ho => ⟨S, [], _, List.prefix_refl _, by simpa using hs, by simpa using ho, .str s, .string s⟩
  | _, _, .ptrNil, S, h, hs, ho => ⟨S, [], _, List.prefix_refl _, by simpa using hs, by simpa using ho, .ptrNil, .ptrNil⟩
  | _, _, .nilFunc, S, h, hs, ho => ⟨S, [], _, List.prefix_refl _, by simpa using hs, by simpa using ho, .nilFunc, .nilFunc⟩
  | _, _, .nilIface, S, h, hs, ho => ⟨S, [], _, List.prefix_refl _, by simpa using hs, by simpa using ho, .nilIface, .nilIface⟩
  | _, _, .mapNil, S, h, hs, ho => ⟨S, [], _, List.prefix_refl _, by simpa using hs, by simpa using ho, .mapNil, .mapNil⟩
  | _, _, .slNil e, S, h, hs, ho => ⟨S, [], _, List.prefix_refl _, by simpa using hs, by simpa using ho, .slNil, .sliceNil⟩
  | _, _, .slEm e a, S, h, hs, ho => by
    obtain ⟨h1, h2⟩ := hs.addRo ho ⟨a.block, 0, 0, 1⟩ .dead rfl trivial
    refine ⟨_, [.dead], .slice (some ⟨h.length, 0, none⟩) 0 1, ⟨_, rfl⟩, h1, h2, .slEm (by decide) (.inr ⟨0, rfl, rfl⟩), ?_⟩
    have := VRel.slice (S := S ++ [⟨a.block, 0, 0, 1⟩]) (i := S.length) (o := 0) (n := 0) (c := 1) (c' := 0) (a := a) (L := ⟨a.block, 0, 0, 1⟩) (by simp) (Nat.le_refl _) rfl (fun h => absurd rfl h) (fun h => by cases h) (fun _ => rfl)
    rw [hs.len] at this
    exact this
  | _, _, .sl (e := e) (es := es) (cap := cap) (b := b) (off := off) (ys := ys) c0 hc hb hy hcell hin, S, h, hs, ho => by
    obtain ⟨S1, o1, vs1, p1, g1, g2, g3, g4⟩ := Sim.ins hin hs ho
    have hl := g3.length
    have hone := ones_of g3 (pures_of hin)
    obtain ⟨h1, h2⟩ := g1.addRo g2 ⟨b, off, vs1.length, P.cellsOf e⟩ (.row false e vs1) rfl (by
      refine ⟨rfl, hone, hb, Nat.le_refl _, ?_, fun h => by cases h⟩
      intro j v hj
      obtain ⟨v', hv, hr⟩ := rels_at g4 hj
      exact ⟨v', hcell j v' hv, hr.mono ⟨_, rfl⟩⟩)
    have hk : (h ++ o1 ++ [Ob.row false e vs1])[(h ++ o1).length]? = some (.row false e vs1) := by simp
    refine ⟨S1 ++ [⟨b, off, vs1.length, P.cellsOf e⟩], o1 ++ [.row false e vs1], .slice (some ⟨(h ++ o1).length, 0, none⟩) es.length (cap + 1), p1.trans ⟨_, rfl⟩, by rw [← List.append_assoc]; exact h1, by rw [← List.append_assoc]; exact h2, ?_, ?_⟩
    · rw [← List.append_assoc]
      refine .slFz (k := (h ++ o1).length) (ys := vs1) (by unfold rowT; simp only; rw [hk]) ⟨fun h => h, fun i o hi => by simp at hi⟩ (by omega) ?_ (pures_of hin) hy ⟨rfl, hc⟩ (fun _ => by omega)
      rw [List.drop_zero, List.take_of_length_le (by omega)]
      exact g3.mono (cxh_le _ _ g2)
    · have := VRel.slice (S := S1 ++ [⟨b, off, vs1.length, P.cellsOf e⟩]) (i := S1.length) (o := 0) (n := es.length) (c := cap + 1) (c' := cap) (a := ⟨b, off, none⟩) (L := ⟨b, off, vs1.length, P.cellsOf e⟩) (by simp) hc rfl (fun _ => rfl) (fun h => by cases h) (fun _ => rfl)
      rw [g1.len] at this
      exact this
theorem Sim.ins {P : Program} {B : Nat} {w0 w : World} : ∀ {l : List V} {l' : List Value}, IsIns P w l l' → ∀ {S : List Loc} {h : Heap}, Sim P B w0 S h w → (∀ o ∈ h, o.ro = true) →
    ∃ S' o l1, S <+: S' ∧ Sim P B w0 S' (h ++ o) w ∧ (∀ x ∈ h ++ o, x.ro = true) ∧ VRs P (cxh (h ++ o)) l l1 ∧ VRels S' l1 l'
  | _, _, .nil, S, h, hs, ho => ⟨S, [], [], List.prefix_refl _, by simpa using hs, by simpa using ho, .nil, .nil⟩
  | _, _, .cons a b, S, h, hs, ho => by
    obtain ⟨S1, o1, v1, p1, g1, g2, g3, g4⟩ := Sim.in1 a hs ho
    obtain ⟨S2, o2, l1, p2, q1, q2, q3, q4⟩ := Sim.ins b g1 g2
    refine ⟨S2, o1 ++ o2, v1 :: l1, p1.trans p2, by rw [← List.append_assoc]; exact q1, by rw [← List.append_assoc]; exact q2, ?_, .cons (g4.mono p2) q4⟩
    rw [← List.append_assoc]
    exact .cons (g3.mono (cxh_le _ _ g2)) q3
end
end Go.Proofs.Ytmpobijkbmljdaa.Sh.V
namespace Go.Proofs.Ytmpobijkbmljdaa.Sh.V
open Go.Proofs.Ytmpobijkbmljdaa.Sh Go.RowKit Go.WideShapes
/-! ### What a law is handed: from its reading to values -/
/-- Cells of a type: numbers in their ranges, texts that are not too long, slices of such. -/
def HasT (P : Program) : Nat → TypeId → List V → Prop
  | 0, _, _ => False
  | d + 1, t, cs =>
    match P.underlying t with
    | some .bool => ∃ b, cs = [.bool b]
    | some (.int k) => ∃ n, cs = [.int k n] ∧ (Lit.int k n).wf = true
    | some (.float k) => ∃ n, cs = [.flt k n] ∧ (Lit.float k n).wf = true
    | some .string => ∃ s, cs = [.str s] ∧ s.size ≤ maxLen
    | some (.slice e) => cs = [.sl e .nil] ∨ ∃ es k, cs = [.sl e (.fz es (.ex k))] ∧ es.length ≤ k ∧ k ≤ maxLen ∧ ∀ y ∈ es, HasT P d e y ∧ y.length = P.cellsOf e
    | some (.struct fs) => cs.length = P.cellsOf t ∧ ∀ (i : Nat) (f : Field), fs[i]? = some f → HasT P d f.type ((cs.drop f.offset).take (P.cellsOf f.type))
    | _ => False
def amongT : List Nat → Nat → Bool
  | [], _ => false
  | a :: l, f => cond (Nat.beq a f) true (amongT l f)
def laidF (P : Program) : List Field → Nat → Nat → Bool
  | [], off, tot => Nat.beq off tot
  | f :: r, off, tot => Nat.beq f.offset off && laidF P r (off + P.cellsOf f.type) tot
def plainTys (P : Program) (ts : List TypeId) : Bool := ts.all fun t =>
  match P.underlying t with
  | some .bool | some (.int _) | some (.float _) | some .string => true
  | some (.slice e) => amongT ts e && Nat.ble 1 (P.cellsOf e)
  | some (.struct fs) => fs.toList.all (fun f => amongT ts f.type) && laidF P fs.toList 0 (P.cellsOf t)
  | _ => false
theorem amongT_mem : ∀ {l : List Nat} {f : Nat}, amongT l f = true → f ∈ l
  | a :: l, f, h => by
    unfold amongT at h
    cases hb : Nat.beq a f with
    | true => rw [Nat.eq_of_beq_eq_true hb]; exact List.mem_cons_self ..
    | false => rw [hb] at h; exact List.mem_cons_of_mem _ (amongT_mem h)
theorem IsIns.app {P : Program} {w : World} {l1 l2 : List V} {m1 m2 : List Value} (h1 : IsIns P w l1 m1) (h2 : IsIns P w l2 m2) : IsIns P w (l1 ++ l2) (m1 ++ m2) := by
  induction l1 generalizing m1 with
  | nil => cases h1; exact h2
  | cons v l ih => cases h1 with | cons a b => exact .cons a (ih b)
theorem fields_in {P : Program} {w : World} {Q : TypeId → List V → Prop} {cs : List Value} {tot : Nat} (hl : cs.length = tot) : ∀ (fs : List Field) (off : Nat), laidF P fs off tot = true →
    (∀ f ∈ fs, ∃ l, IsIns P w l ((cs.drop f.offset).take (P.cellsOf f.type)) ∧ Q f.type l) →
    off ≤ tot ∧ ∃ l, IsIns P w l (cs.drop off) ∧ ∀ f ∈ fs, off ≤ f.offset ∧ Q f.type ((l.drop (f.offset - off)).take (P.cellsOf f.type)) := by
  intro fs
  induction fs with
  | nil =>
    intro off h _
    have h0 : off = tot := Nat.eq_of_beq_eq_true h
    refine ⟨by omega, [], ?_, fun f hf => by cases hf⟩
    rw [List.drop_eq_nil_of_le (by omega)]
    exact .nil
  | cons f r ih =>
    intro off h hq
    unfold laidF at h
    rw [Bool.and_eq_true] at h
    have h0 : f.offset = off := Nat.eq_of_beq_eq_true h.1
    obtain ⟨ho, l2, g1, g2⟩ := ih _ h.2 (fun f hf => hq f (List.mem_cons_of_mem _ hf))
    obtain ⟨l1, g3, g4⟩ := hq f (List.mem_cons_self ..)
    rw [h0] at g3
    have hlen := g3.length
    rw [List.length_take, List.length_drop] at hlen
    have hl1 : l1.length = P.cellsOf f.type := by omega
    have e : cs.drop off = (cs.drop off).take (P.cellsOf f.type) ++ cs.drop (off + P.cellsOf f.type) := by
      rw [← List.drop_drop, List.take_append_drop]
    refine ⟨by omega, l1 ++ l2, by rw [e]; exact g3.app g1, ?_⟩
    intro x hx
    rcases List.mem_cons.1 hx with rfl | hx
    · refine ⟨by omega, ?_⟩
      rw [h0, Nat.sub_self, List.drop_zero, ← hl1, List.take_left]
      exact g4
    · obtain ⟨g5, g6⟩ := g2 x hx
      refine ⟨by omega, ?_⟩
      rw [show x.offset - off = l1.length + (x.offset - (off + P.cellsOf f.type)) by omega, ← List.drop_drop, List.drop_left]
      exact g6
theorem elems_in {P : Program} {w : World} {base : Nat} {a : Addr} {sz : Nat} {Q : List V → Prop} : ∀ (n : Nat), (∀ i, i < n → ∃ cs l, w.cells? base (a.add (i * sz)) sz = some cs ∧ IsIns P w l cs ∧ Q l) →
    ∃ (es : List (List V)) (ys : List Value), es.length = n ∧ ys.length = n * sz ∧ IsIns P w es.flatten ys ∧ (∀ y ∈ es, Q y ∧ y.length = sz) ∧ ∀ j, j < n * sz → w.cell? (a.add j) = ys[j]? := by
  intro n
  induction n with
  | zero => intro _; exact ⟨[], [], rfl, by simp, .nil, (fun y hy => by cases hy), fun j hj => by omega⟩
  | succ n ih =>
    intro h
    obtain ⟨es, ys, h1, h2, h3, h4, h5⟩ := ih (fun i hi => h i (by omega))
    obtain ⟨cs, l, g1, g2, g3⟩ := h n (by omega)
    obtain ⟨_, g4, g5⟩ := World.cells?_some g1
    have hl := g2.length
    have e1 : (n + 1) * sz = n * sz + sz := by rw [Nat.add_mul, Nat.one_mul]
    refine ⟨es ++ [l], ys ++ cs, by simp [h1], by rw [List.length_append, h2, g4, e1], ?_, ?_, ?_⟩
    · rw [List.flatten_append]
      refine h3.app ?_
      simpa using g2
    · intro y hy
      rcases List.mem_append.1 hy with hy | hy
      · exact h4 y hy
      · rw [List.mem_singleton.1 hy]; exact ⟨g3, by omega⟩
    · intro j hj
      rcases Nat.lt_or_ge j (n * sz) with hlt | hge
      · rw [h5 j hlt, List.getElem?_append_left (by omega)]
      · rw [List.getElem?_append_right (by omega), h2, ← g5 (j - n * sz) (by omega)]
        rw [Addr.add_add, show n * sz + (j - n * sz) = j by omega]
theorem spot_of {w : World} {a : Addr} {v : Value} (h : w.cell? a = some v) : a.spot = none ∧ a.block < w.heap.size := by
  refine ⟨?_, ?_⟩
  · unfold World.cell? at h
    split at h
    · split at h
      · cases h
      · rename_i hsp; simpa using hsp
    · cases h
  · rcases Nat.lt_or_ge a.block w.heap.size with hlt | hge
    · exact hlt
    · unfold World.cell? at h
      simp only [Array.getElem?_eq_none hge] at h
      cases h
theorem trod_float {H : Type} {enc : TypeId × Value → H} {P : Program} {w : World} {base : Nat} {spare : Nat → Bool} {held : Bool} {fuel : Nat} {t : TypeId} {cs : List Value} {x : DataW H × List MemPlace} {k : FloatKind}
    (ht : P.underlying t = some (.float k)) (h : DataW.trod enc P w base spare held fuel t cs = some x) : ∃ n, cs = [.float k n] ∧ (Lit.float k n).wf = true := by
  cases fuel with
  | zero => simp [DataW.trod] at h
  | succ n =>
    unfold DataW.trod at h
    rw [ht] at h
    split at h <;> simp_all
theorem trod_in {H : Type} {enc : TypeId × Value → H} {P : Program} {w : World} {base : Nat} {held : Bool} {ts : List TypeId} (hts : plainTys P ts = true) : ∀ (fuel : Nat) (t : TypeId) (cs : List Value) (x : DataW H × List MemPlace),
    t ∈ ts → DataW.trod enc P w base (fun _ => true) held fuel t cs = some x → ∃ l, IsIns P w l cs ∧ HasT P fuel t l := by
  intro fuel
  induction fuel with
  | zero => intro t cs x _ h; simp [DataW.trod] at h
  | succ n ih =>
    intro t cs x ht h
    have hk := List.all_eq_true.1 hts t ht
    unfold HasT
    split at hk
    · rename_i hu
      obtain ⟨b, rfl, _⟩ := DataW.trod_bool hu h
      exact ⟨[.bool b], .cons (.bool b) .nil, by first | exact (⟨b, rfl⟩) | (rw [hu]; exact (⟨b, rfl⟩))⟩
    · rename_i k hu
      obtain ⟨b, rfl, _, hw⟩ := DataW.trod_int hu h
      exact ⟨[.int k b], .cons (.int k b) .nil, by first | exact (⟨b, rfl, hw⟩) | (rw [hu]; exact (⟨b, rfl, hw⟩))⟩
    · rename_i k hu
      obtain ⟨b, rfl, hw⟩ := trod_float hu h
      exact ⟨[.flt k b], .cons (.flt k b) .nil, by first | exact (⟨b, rfl, hw⟩) | (rw [hu]; exact (⟨b, rfl, hw⟩))⟩
    · rename_i hu
      obtain ⟨b, rfl, _, hw⟩ := DataW.trod_string hu h
      exact ⟨[.str b], .cons (.str b) .nil, by first | exact (⟨b, rfl, hw⟩) | (rw [hu]; exact (⟨b, rfl, hw⟩))⟩
    · rename_i e hu
      rw [Bool.and_eq_true] at hk
      have hsz : 1 ≤ P.cellsOf e := Nat.le_of_ble_eq_true hk.2
      have he := amongT_mem hk.1
      rcases DataW.trod_slice hu h with ⟨rfl, _⟩ | ⟨a, len, cap, elems, rest, m, hm, rfl, _, hb, hl, hmax, hlen, hel, hsp, _⟩
      · exact ⟨[.sl e .nil], .cons (.slNil e) .nil, by first | exact (.inl rfl) | (rw [hu]; exact (.inl rfl))⟩
      · have hm' : m = n := by omega
        subst hm'
        obtain ⟨hrl, hr⟩ := hsp rfl
        have each : ∀ i, i < cap → ∃ cs l, w.cells? base (a.add (i * P.cellsOf e)) (P.cellsOf e) = some cs ∧ IsIns P w l cs ∧ HasT P m e l := by
          intro i hi
          have : ∃ y, (w.cells? base (a.add (i * P.cellsOf e)) (P.cellsOf e)).bind (DataW.trod enc P w base (fun _ => true) held m e) = some y := by
            rcases Nat.lt_or_ge i len with hlt | hge
            · rw [hel i hlt]
              exact ⟨_, List.getElem?_eq_getElem (by omega)⟩
            · have := hr (i - len) (by omega)
              rw [show len + (i - len) = i by omega] at this
              rw [this]
              exact ⟨_, List.getElem?_eq_getElem (by omega)⟩
          obtain ⟨y, hy⟩ := this
          rw [Option.bind_eq_some_iff] at hy
          obtain ⟨cs, h1, h2⟩ := hy
          obtain ⟨l, h3, h4⟩ := ih e cs y he h2
          exact ⟨cs, l, h1, h3, h4⟩
        rcases Nat.eq_zero_or_pos cap with h0 | h0
        · subst h0
          have : len = 0 := by omega
          subst this
          exact ⟨[.sl e (.fz [] (.ex 0))], .cons (.slEm e a) .nil, by first | exact (.inr ⟨[], 0, rfl, Nat.le_refl _, Nat.zero_le _, fun y hy => by cases hy⟩) | (rw [hu]; exact (.inr ⟨[], 0, rfl, Nat.le_refl _, Nat.zero_le _, fun y hy => by cases hy⟩))⟩
        · obtain ⟨es, ys, g1, g2, g3, g4, g5⟩ := elems_in (base := base) (a := a) (sz := P.cellsOf e) (Q := HasT P m e) len (fun i hi => each i (by omega))
          obtain ⟨c0, l0, k1, _, _⟩ := each 0 h0
          obtain ⟨_, k2, k3⟩ := World.cells?_some k1
          have k4 := k3 0 (by omega)
          obtain ⟨v0, hv0⟩ : ∃ v, c0[0]? = some v := ⟨_, List.getElem?_eq_getElem (by omega)⟩
          rw [hv0] at k4
          obtain ⟨k5, k6⟩ := spot_of k4
          obtain ⟨b, off, sp⟩ := a
          simp only [Addr.add, Nat.zero_mul, if_true] at k5 k6
          subst k5
          subst g1
          refine ⟨[.sl e (.fz es (.ex cap))], .cons (.sl (by omega) hl k6 (fun y hy => (g4 y hy).2) ?_ g3) .nil, by first | exact (.inr ⟨es, cap, rfl, hl, hmax, g4⟩) | (rw [hu]; exact (.inr ⟨es, cap, rfl, hl, hmax, g4⟩))⟩
          intro j y hj
          have hjl := (List.getElem?_eq_some_iff.1 hj).1
          rw [← hj, ← g5 j (by omega), Addr.add_lit]
    · rename_i fs hu
      rw [Bool.and_eq_true] at hk
      obtain ⟨xs, m, hm, _, hlen, hxl, hx⟩ := DataW.trod_struct hu h
      have hm' : m = n := by omega
      subst hm'
      obtain ⟨_, l, g1, g2⟩ := fields_in (w := w) (Q := HasT P m) hlen fs.toList 0 hk.2 (fun f hf => by
        obtain ⟨i, hi⟩ := List.getElem?_of_mem hf
        have hi' : fs[i]? = some f := by simpa using hi
        have h1 := hx i f hi'
        have hil : i < fs.size := (Array.getElem?_eq_some_iff.1 hi').1
        obtain ⟨y, hy⟩ : ∃ y, xs[i]? = some y := ⟨_, List.getElem?_eq_getElem (by omega)⟩
        rw [hy] at h1
        exact ih _ _ _ (amongT_mem (List.all_eq_true.1 hk.1 f hf)) h1)
      rw [List.drop_zero] at g1
      refine ⟨l, g1, ?_⟩
      try rw [hu]
      refine ⟨by rw [g1.length, hlen], fun i f hf => ?_⟩
      have := (g2 f (by simpa using List.mem_of_getElem? (by simpa using hf : fs.toList[i]? = some f))).2
      simpa using this
    · cases hk
/-! ### Arguments -/
inductive IsArg (P : Program) (w : World) : V → Value → Prop
  | one {v v'} : IsIn P w v v' → IsArg P w v v'
  | agg {l l'} : IsIns P w l l' → IsArg P w (.agg l) (.agg ⟨l'⟩)
inductive IsArgs (P : Program) (w : World) : List V → List Value → Prop
  | nil : IsArgs P w [] []
  | cons {v v' l l'} : IsArg P w v v' → IsArgs P w l l' → IsArgs P w (v :: l) (v' :: l')
def isAgg (P : Program) (t : TypeId) : Bool :=
  match P.underlying t with
  | some (.struct _) => true
  | _ => false
/-- An argument of a type. -/
def HasA (P : Program) (t : TypeId) (v : V) : Prop := ∃ d, cond (isAgg P t) (∃ l, v = .agg l ∧ HasT P d t l) (HasT P d t [v])
def HasAs (P : Program) : List TypeId → List V → Prop
  | [], [] => True
  | t :: ts, v :: vs => HasA P t v ∧ HasAs P ts vs
  | _, _ => False
theorem arg_in {H : Type} {enc : TypeId × Value → H} {P : Program} {w : World} {base : Nat} {held : Bool} {ts : List TypeId} (hts : plainTys P ts = true) {t : TypeId} (ht : amongT ts t = true) {v : Value} {d : DataW H} {p : List MemPlace} {r : Reach} {b0 : Nat}
    (hok : Value.okWide P w r b0 t v) (h : DataW.Trod enc P w base (fun _ => true) held t v d p) : ∃ u, IsArg P w u v ∧ HasA P t u := by
  obtain ⟨fuel, hf⟩ := h
  have hm := amongT_mem ht
  obtain ⟨l, h1, h2⟩ := trod_in hts fuel t _ _ hm hf
  have hk := List.all_eq_true.1 hts t hm
  have one : v.cells.toList = [v] → isAgg P t = false → ∃ u, IsArg P w u v ∧ HasA P t u := by
    intro h3 h4
    rw [h3] at h1
    cases h1 with
    | cons a b =>
      cases b
      refine ⟨_, .one a, fuel, ?_⟩
      rw [h4]
      exact h2
  split at hk
  · rename_i hu; obtain ⟨_, rfl⟩ := okWide_bool hu hok; exact one rfl (by simp [isAgg, hu])
  · rename_i hu; obtain ⟨_, rfl⟩ := okWide_int hu hok; exact one rfl (by simp [isAgg, hu])
  · rename_i hu
    have h3 := hok
    simp only [Value.okWide, hu, Cell.okWide] at h3
    cases v <;> simp [Cell.ok, hu] at h3
    exact one rfl (by simp [isAgg, hu])
  · rename_i hu; obtain ⟨_, rfl⟩ := okWide_string hu hok; exact one rfl (by simp [isAgg, hu])
  · rename_i hu; obtain ⟨_, _, _, rfl⟩ := okWide_slice hu hok; exact one rfl (by simp [isAgg, hu])
  · rename_i hu
    have h3 := hok
    simp only [Value.okWide, hu] at h3
    obtain ⟨cs, rfl, _⟩ := h3
    refine ⟨.agg l, .agg h1, fuel, ?_⟩
    rw [show isAgg P t = true by simp [isAgg, hu]]
    exact ⟨l, rfl, h2⟩
  · cases hk
theorem Sim.inA {P : Program} {B : Nat} {w0 w : World} {v : V} {v' : Value} (hi : IsArg P w v v') {S : List Loc} {h : Heap} (hs : Sim P B w0 S h w) (ho : ∀ o ∈ h, o.ro = true) :
    ∃ S' o v1, S <+: S' ∧ Sim P B w0 S' (h ++ o) w ∧ (∀ x ∈ h ++ o, x.ro = true) ∧ VR P (cxh (h ++ o)) v v1 ∧ VRel S' v1 v' := by
  cases hi with
  | one a => exact Sim.in1 a hs ho
  | agg a =>
    obtain ⟨S', o, l1, g1, g2, g3, g4, g5⟩ := Sim.ins a hs ho
    exact ⟨S', o, _, g1, g2, g3, .agg g4, .agg g5⟩
theorem Sim.inAs {P : Program} {B : Nat} {w0 w : World} {l : List V} {l' : List Value} (hi : IsArgs P w l l') : ∀ {S : List Loc} {h : Heap}, Sim P B w0 S h w → (∀ o ∈ h, o.ro = true) →
    ∃ S' o l1, S <+: S' ∧ Sim P B w0 S' (h ++ o) w ∧ (∀ x ∈ h ++ o, x.ro = true) ∧ VRs P (cxh (h ++ o)) l l1 ∧ VRels S' l1 l' := by
  induction hi with
  | nil => intro S h hs ho; exact ⟨S, [], [], List.prefix_refl _, by simpa using hs, by simpa using ho, .nil, .nil⟩
  | cons a b ih =>
    intro S h hs ho
    obtain ⟨S1, o1, v1, p1, g1, g2, g3, g4⟩ := Sim.inA a hs ho
    obtain ⟨S2, o2, l1, p2, q1, q2, q3, q4⟩ := ih g1 g2
    refine ⟨S2, o1 ++ o2, v1 :: l1, p1.trans p2, by rw [← List.append_assoc]; exact q1, by rw [← List.append_assoc]; exact q2, ?_, .cons (g4.mono p2) q4⟩
    rw [← List.append_assoc]
    exact .cons (g3.mono (cxh_le _ _ g2)) q3
/-- From the machine of values to the machine: the call of a law that is handed anything. -/
theorem walk_anyG {G : Nat → World → Prop} {P : Program} {T : VTab} (hT : VOKg G P T) {f : FuncId} {us : List V} {vs : List Value} {w : World} (hG : G w.heap.size w) (hin : IsArgs P w us vs) (hq : ∃ n H', vF P T n f us [] = some (.bool true, H')) :
    Calls P f vs.toArray w fun e w' => e = .returned (.bool true) ∧ Below w.heap.size w w' := by
  obtain ⟨n, H', hq⟩ := hq
  obtain ⟨S', o, l1, _, g1, g2, g3, g4⟩ := Sim.inAs hin (Sim.start w) (fun o ho => by cases ho)
  exact walk_ofG hT g1 hG (H' := H') g3 g4 hq
theorem walk_any {P : Program} {T : VTab} (hT : VOK P T) {f : FuncId} {us : List V} {vs : List Value} {w : World} (hin : IsArgs P w us vs) (hq : ∃ n H', vF P T n f us [] = some (.bool true, H')) :
    Calls P f vs.toArray w fun e w' => e = .returned (.bool true) ∧ Below w.heap.size w w' := walk_anyG (G := fun _ _ => True) hT trivial hin hq
/-! ### What an argument looks like -/
theorem lst_of {α β : Type} {f : α → β} {Q : α → Prop} {es : List β} (h : ∀ y ∈ es, ∃ x, Q x ∧ y = f x) : ∃ l : List α, es = l.map f ∧ ∀ x ∈ l, Q x := by
  induction es with
  | nil => exact ⟨[], rfl, fun x hx => by cases hx⟩
  | cons y es ih =>
    obtain ⟨x, h1, rfl⟩ := h y (List.mem_cons_self ..)
    obtain ⟨l, rfl, h2⟩ := ih (fun y hy => h y (List.mem_cons_of_mem _ hy))
    exact ⟨x :: l, rfl, fun z hz => by rcases List.mem_cons.1 hz with rfl | hz; exact h1; exact h2 z hz⟩
theorem hasT_bool {P : Program} {d : Nat} {t : TypeId} {cs : List V} (hu : P.underlying t = some .bool) (h : HasT P d t cs) : ∃ b, cs = [.bool b] := by
  cases d with
  | zero => cases h
  | succ d => unfold HasT at h; rw [hu] at h; exact h
theorem hasT_int {P : Program} {d : Nat} {t : TypeId} {k : IntKind} {cs : List V} (hu : P.underlying t = some (.int k)) (h : HasT P d t cs) : ∃ n, cs = [.int k n] ∧ (Lit.int k n).wf = true := by
  cases d with
  | zero => cases h
  | succ d => unfold HasT at h; rw [hu] at h; exact h
theorem hasT_flt {P : Program} {d : Nat} {t : TypeId} {k : FloatKind} {cs : List V} (hu : P.underlying t = some (.float k)) (h : HasT P d t cs) : ∃ n, cs = [.flt k n] ∧ (Lit.float k n).wf = true := by
  cases d with
  | zero => cases h
  | succ d => unfold HasT at h; rw [hu] at h; exact h
theorem hasT_str {P : Program} {d : Nat} {t : TypeId} {cs : List V} (hu : P.underlying t = some .string) (h : HasT P d t cs) : ∃ s, cs = [.str s] ∧ s.size ≤ maxLen := by
  cases d with
  | zero => cases h
  | succ d => unfold HasT at h; rw [hu] at h; exact h
theorem hasT_sl {P : Program} {d : Nat} {t e : TypeId} {cs : List V} (hu : P.underlying t = some (.slice e)) (h : HasT P d t cs) : ∃ d' s es, d = d' + 1 ∧ cs = [.sl e s] ∧ IsE s es ∧ es.length ≤ maxLen ∧ ∀ y ∈ es, HasT P d' e y ∧ y.length = P.cellsOf e := by
  cases d with
  | zero => cases h
  | succ d =>
    unfold HasT at h
    rw [hu] at h
    rcases h with h | ⟨es, k, rfl, h1, h2, h3⟩
    · exact ⟨d, .nil, [], rfl, h, .nil, Nat.zero_le _, fun y hy => by cases hy⟩
    · exact ⟨d, _, es, rfl, rfl, .fz _ _, Nat.le_trans h1 h2, h3⟩
theorem hasT_struct {P : Program} {d : Nat} {t : TypeId} {fs : Array Field} {cs : List V} (hu : P.underlying t = some (.struct fs)) (h : HasT P d t cs) : ∃ d', d = d' + 1 ∧ cs.length = P.cellsOf t ∧ ∀ (i : Nat) (f : Field), fs[i]? = some f → HasT P d' f.type ((cs.drop f.offset).take (P.cellsOf f.type)) := by
  cases d with
  | zero => cases h
  | succ d => unfold HasT at h; rw [hu] at h; exact ⟨d, rfl, h⟩
theorem u8_wf {n : Int} (h : (Lit.int .u8 n).wf = true) : n = ((UInt8.ofNat n.toNat).toNat : Int) := by
  obtain ⟨h1, h2⟩ := wf_u8 h
  rw [UInt8.toNat_ofNat']
  omega
theorem hasT_bytes {P : Program} {d : Nat} {t e : TypeId} {cs : List V} (hu : P.underlying t = some (.slice e)) (he : P.underlying e = some (.int .u8)) (h : HasT P d t cs) : ∃ s l, cs = [.sl e s] ∧ IsB s l ∧ l.length ≤ maxLen := by
  obtain ⟨d', s, es, rfl, h1, h2, h3, h4⟩ := hasT_sl hu h
  obtain ⟨l, rfl, _⟩ := lst_of (f := bc) (Q := fun _ => True) (es := es) (fun y hy => by
    obtain ⟨n, rfl, hw⟩ := hasT_int he (h4 y hy).1
    exact ⟨UInt8.ofNat n.toNat, trivial, by unfold bc; rw [← u8_wf hw]⟩)
  exact ⟨s, l, h1, h2, by simpa using h3⟩
theorem data_len (n : ByteArray) : n.data.toList.length = n.size := Array.length_toList
/-- Texts as elements. -/
def tc (s : List UInt8) : List V := [.str ⟨s.toArray⟩]
theorem hasT_texts {P : Program} {d : Nat} {t e : TypeId} {cs : List V} (hu : P.underlying t = some (.slice e)) (he : P.underlying e = some .string) (h : HasT P d t cs) : ∃ (s : VS) (l : List (List UInt8)), cs = [.sl e s] ∧ IsE s (l.map tc) ∧ l.length ≤ maxLen ∧ ∀ x ∈ l, x.length ≤ maxLen := by
  obtain ⟨d', s, es, rfl, h1, h2, h3, h4⟩ := hasT_sl hu h
  obtain ⟨l, rfl, h5⟩ := lst_of (f := tc) (Q := fun x => x.length ≤ maxLen) (es := es) (fun y hy => by
    obtain ⟨n, rfl, hw⟩ := hasT_str he (h4 y hy).1
    exact ⟨n.data.toList, by rw [data_len]; exact hw, by simp [tc]⟩)
  exact ⟨s, l, h1, h2, by simpa using h3, h5⟩
theorem hasA_one {P : Program} {t : TypeId} {v : V} (hu : isAgg P t = false) (h : HasA P t v) : ∃ d, HasT P d t [v] := by
  obtain ⟨d, h⟩ := h
  rw [hu] at h
  exact ⟨d, h⟩
theorem hasA_agg {P : Program} {t : TypeId} {v : V} (hu : isAgg P t = true) (h : HasA P t v) : ∃ d l, v = .agg l ∧ HasT P d t l := by
  obtain ⟨d, h⟩ := h
  rw [hu] at h
  exact ⟨d, h⟩
theorem hasA_int {P : Program} {t : TypeId} {k : IntKind} {v : V} (hu : P.underlying t = some (.int k)) (h : HasA P t v) : ∃ n, v = .int k n ∧ (Lit.int k n).wf = true := by
  obtain ⟨d, h⟩ := hasA_one (by simp [isAgg, hu]) h
  obtain ⟨n, h1, h2⟩ := hasT_int hu h
  injection h1 with h1
  exact ⟨n, h1, h2⟩
theorem hasA_bool {P : Program} {t : TypeId} {v : V} (hu : P.underlying t = some .bool) (h : HasA P t v) : ∃ b, v = .bool b := by
  obtain ⟨d, h⟩ := hasA_one (by simp [isAgg, hu]) h
  obtain ⟨n, h1⟩ := hasT_bool hu h
  injection h1 with h1
  exact ⟨n, h1⟩
theorem hasA_str {P : Program} {t : TypeId} {v : V} (hu : P.underlying t = some .string) (h : HasA P t v) : ∃ l : List UInt8, v = .str ⟨l.toArray⟩ ∧ l.length ≤ maxLen := by
  obtain ⟨d, h⟩ := hasA_one (by simp [isAgg, hu]) h
  obtain ⟨n, h1, h2⟩ := hasT_str hu h
  injection h1 with h1
  exact ⟨n.data.toList, by simpa using h1, by rw [data_len]; exact h2⟩
theorem hasA_bytes {P : Program} {t e : TypeId} {v : V} (hu : P.underlying t = some (.slice e)) (he : P.underlying e = some (.int .u8)) (h : HasA P t v) : ∃ s l, v = .sl e s ∧ IsB s l ∧ l.length ≤ maxLen := by
  obtain ⟨d, h⟩ := hasA_one (by simp [isAgg, hu]) h
  obtain ⟨s, l, h1, h2⟩ := hasT_bytes hu he h
  injection h1 with h1
  exact ⟨s, l, h1, h2⟩
theorem hasA_texts {P : Program} {t e : TypeId} {v : V} (hu : P.underlying t = some (.slice e)) (he : P.underlying e = some .string) (h : HasA P t v) : ∃ (s : VS) (l : List (List UInt8)), v = .sl e s ∧ IsE s (l.map tc) ∧ l.length ≤ maxLen ∧ ∀ x ∈ l, x.length ≤ maxLen := by
  obtain ⟨d, h⟩ := hasA_one (by simp [isAgg, hu]) h
  obtain ⟨s, l, h1, h2⟩ := hasT_texts hu he h
  injection h1 with h1
  exact ⟨s, l, h1, h2⟩
theorem hasA_sl {P : Program} {t e : TypeId} {v : V} (hu : P.underlying t = some (.slice e)) (h : HasA P t v) : ∃ d s es, v = .sl e s ∧ IsE s es ∧ es.length ≤ maxLen ∧ ∀ y ∈ es, HasT P d e y ∧ y.length = P.cellsOf e := by
  obtain ⟨d, h⟩ := hasA_one (by simp [isAgg, hu]) h
  obtain ⟨d', s, es, _, h1, h2⟩ := hasT_sl hu h
  injection h1 with h1
  exact ⟨d', s, es, h1, h2⟩
end Go.Proofs.Ytmpobijkbmljdaa.Sh.V
namespace Go.Proofs.Ytmpobijkbmljdaa.Sh.V
open Go.Proofs.Ytmpobijkbmljdaa.Sh
/-! ### More words about bytes and appending -/
def u8 (x : Int) : UInt8 := UInt8.ofNat (x % 256).toNat
theorem wrap_u8 (x : Int) : IntKind.wrap .u8 x = ((u8 x).toNat : Int) := by
  unfold u8
  rw [IntKind.wrap_u8, UInt8.toNat_ofNat']
  omega
theorem u8_nat (n : Nat) : (u8 (n : Int)).toNat = n % 256 := by
  unfold u8
  rw [UInt8.toNat_ofNat']
  omega
theorem u8_self (b : UInt8) : u8 (b.toNat : Int) = b := by
  apply UInt8.toNat_inj.1
  rw [u8_nat, Nat.mod_eq_of_lt b.toNat_lt]
theorem bc_wrap (x : Int) : [V.int .u8 (IntKind.wrap .u8 x)] = bc (u8 x) := by rw [wrap_u8]; rfl
theorem Ap.tok_at {H : VH} {e : TypeId} {s : VS} {es : List (List V)} (h : Ap H e s es) {t : Nat} (ht : t ∈ toks s) : ∃ g, H[t]? = some (.tok e g) := by
  cases h with
  | nil => cases ht
  | lit => cases ht
  | tok t' g' h1 => simp [toks] at ht; subst ht; exact ⟨_, h1⟩
/-- A lone call that tells a slice. -/
theorem lone_E {P : Program} {T : VTab} {n : Nat} {f : FuncId} {args : List V} {H H1 : VH} {e : TypeId} {s : VS} {es : List (List V)} (h : T.lone f = true) (h1 : args.all closedC = true) (h2 : bodyV P T (vF P T n) n f (args.map stripC) [] = some (.sl e s, H1)) (h3 : IsE s es) :
    vF P T (n + 1) f args H = some (.sl e s.strip, H) ∧ IsE s.strip es := by
  refine ⟨?_, h3.strip⟩
  have := vF_lone (H := H) h h1 h2 (by show closed1 (.sl e s) = true; exact h3.closed e)
  exact this
theorem closedC_sl {s : VS} {es : List (List V)} (h : IsE s es) (e : TypeId) : closedC (.sl e s) = true := h.closed e
theorem stays_one {H : VH} {p : VP} {τ : FT} {x : τ.T} (h : ldV (.flat τ) H p = some x) : V.stays H [(p, τ, fenc τ x)] = true := by
  unfold V.stays
  rw [h]
  simp only [same_self, Bool.true_and]
  rfl
theorem stays_int {H : VH} {p : VP} {k : IntKind} {x : Int} (h : ldV (.flat (.int k)) H p = some x) : V.stays H [(p, .int k, .int k x)] = true := stays_one (τ := .int k) h
theorem stays_str {H : VH} {p : VP} {x : ByteArray} (h : ldV (.flat .str) H p = some x) : V.stays H [(p, .str, .str x)] = true := stays_one (τ := .str) h
theorem stays_sl {H : VH} {p : VP} {e : TypeId} {x : VS} (h : ldV (.flat (.slice e)) H p = some x) : V.stays H [(p, .slice e, .sl e x)] = true := stays_one (τ := .slice e) h
theorem stays_bool {H : VH} {p : VP} {x : Bool} (h : ldV (.flat .bool) H p = some x) : V.stays H [(p, .bool, .bool x)] = true := stays_one (τ := .bool) h
theorem inc_nat {i : Nat} (h : i < 9223372036854775807) : IntKind.wrap .i64 ((i : Int) + 1) = ((i + 1 : Nat) : Int) := by rw [i64_in (by omega)]; rfl
theorem get_of {α : Type} {l : List α} {i : Nat} (h : i < l.length) : ∃ b, l[i]? = some b := ⟨_, List.getElem?_eq_getElem h⟩
theorem maxLen_eq : maxLen = 9223372036854775807 := by kernel_rfl
/-- A struct's fields: types, places, sizes. -/
def shapeOf (P : Program) (t : TypeId) : List (TypeId × Nat × Nat) :=
  match P.underlying t with
  | some (.struct fs) => fs.toList.map fun f => (f.type, f.offset, P.cellsOf f.type)
  | _ => []
theorem hasT_sh {P : Program} {d : Nat} {t : TypeId} {cs : List V} (sh : List (TypeId × Nat × Nat)) {sz : Nat} (hu : shapeOf P t = sh) (hz : P.cellsOf t = sz) (h0 : sh ≠ []) (h : HasT P d t cs) : ∃ d', d = d' + 1 ∧ cs.length = sz ∧ ∀ x ∈ sh, HasT P d' x.1 ((cs.drop x.2.1).take x.2.2) := by
  subst hu hz
  unfold shapeOf at h0 ⊢
  cases hc : P.underlying t with
  | none => rw [hc] at h0; exact absurd rfl h0
  | some k =>
    cases k with
    | struct fs =>
      obtain ⟨d', h1, h2, h3⟩ := hasT_struct hc h
      refine ⟨d', h1, h2, fun x hx => ?_⟩
      simp only [List.mem_map] at hx
      obtain ⟨f, hf, rfl⟩ := hx
      obtain ⟨i, hi⟩ := List.getElem?_of_mem hf
      exact h3 i f (by simpa using hi)
    | _ => rw [hc] at h0; exact absurd rfl h0
theorem wrap_low (x : Int) : IntKind.wrap .i64 x % 65536 = x % 65536 := by rw [IntKind.wrap_i64]; omega
/-- A lone function that is handed an object runs as any other. -/
theorem vF_open {P : Program} {T : VTab} {n : Nat} {f : FuncId} {args : List V} {H : VH} (h : T.lone f = true) (h1 : args.all closedC = false) (h2 : T.pur f = false := by rfl) : vF P T (n + 1) f args H = bodyV P T (vF P T n) n f args H := by
  show alone (T.lone f) (T.pur f) args H (bodyV P T (vF P T n) n f) = _
  unfold alone
  rw [h, h1, h2]
  rfl
end Go.Proofs.Ytmpobijkbmljdaa.Sh.V
namespace Go.Proofs.Ytmpobijkbmljdaa.Sh.V
open Go.Proofs.Ytmpobijkbmljdaa.Sh
/-! ### Bytes in objects; slices of bytes as elements; readers and writers -/
def bcs (l : List UInt8) : List V := l.map fun b => .int .u8 (b.toNat : Int)
@[simp] theorem bcs_len (l : List UInt8) : (bcs l).length = l.length := by simp [bcs]
theorem bs_flat (l : List UInt8) : (bs l).flatten = bcs l := by
  induction l with
  | nil => rfl
  | cons b l ih => show bc b ++ (bs l).flatten = _; rw [ih]; rfl
theorem chunk_bcs (l : List UInt8) : chunk 1 l.length (bcs l) = bs l := by
  induction l with
  | nil => rfl
  | cons b l ih => show (bcs (b :: l)).take 1 :: chunk 1 l.length ((bcs (b :: l)).drop 1) = _; rw [show (bcs (b :: l)).drop 1 = bcs l from rfl, ih]; rfl
theorem strip_bcs (l : List UInt8) : (bcs l).map strip1 = bcs l := by
  induction l with
  | nil => rfl
  | cons b l ih => show strip1 _ :: (bcs l).map strip1 = _; rw [ih]; rfl
theorem closed_bcs (l : List UInt8) : (bcs l).all closed1 = true := by
  induction l with
  | nil => rfl
  | cons b l ih => show (closed1 _ && (bcs l).all closed1) = _; rw [ih]; rfl
theorem hp_bcs {H : VH} {i : Nat} {l : List UInt8} (h : H[i]? = some (.row 5 (bcs l))) : hpEs H 5 1 i 0 l.length = some (bs l) := by
  unfold hpEs
  rw [h]
  simp only [List.drop_zero, Nat.zero_add, Nat.mul_one, bcs_len, true_and, Nat.le_refl]
  rw [List.take_of_length_le (by simp), closed_bcs, if_pos rfl, strip_bcs, chunk_bcs]
/-- Bytes in an object that may be written. -/
def IsH (H : VH) (s : VS) (l : List UInt8) : Prop := (s = .nil ∧ l = []) ∨ ∃ i, s = .hp i 0 l.length ∧ H[i]? = some (.row 5 (bcs l))
/-- Bytes that can be read, as long as nothing is written. -/
structure Rd (H : VH) (s : VS) (l : List UInt8) : Prop where
  len : s.len = l.length
  isNil : s.isNil = true → l = []
  es : ∀ {H' : VH} {X : List Nat}, Kp H H' X → (∀ x ∈ X, H.length ≤ x) → slEs H' 5 1 s = some (bs l)
  str : ∀ {H' : VH} {X : List Nat}, Kp H H' X → (∀ x ∈ X, H.length ≤ x) → strV H' 5 s = some ⟨l.toArray⟩
theorem isH_str {H : VH} {s : VS} {l : List UInt8} (h : IsH H s l) : strV H 5 s = some ⟨l.toArray⟩ := by
  rcases h with ⟨rfl, rfl⟩ | ⟨j, rfl, hj⟩
  · rfl
  · unfold strV
    simp only
    by_cases h0 : l.length = 0
    · rw [if_pos h0, List.eq_nil_of_length_eq_zero h0]
    · rw [if_neg h0]
      unfold hpCells takeN
      rw [rowV_of hj, Option.bind_some, bcs_len, if_pos (by omega), Option.bind_some, List.drop_zero, List.take_of_length_le (by rw [bcs_len]; exact Nat.le_refl _)]
      have : (bcs l).map (fun v => [v]) = bs l := by unfold bcs bs; rw [List.map_map]; rfl
      rw [this, bytesOf_bs]
      rfl
theorem IsH.keep {H H' : VH} {X : List Nat} {s : VS} {l : List UInt8} (h : IsH H s l) (k : Kp H H' X) (hx : ∀ i, s = .hp i 0 l.length → i ∉ X) : IsH H' s l := by
  rcases h with ⟨rfl, rfl⟩ | ⟨i, rfl, hi⟩
  · exact .inl ⟨rfl, rfl⟩
  · exact .inr ⟨i, rfl, k.ob hi (hx i rfl)⟩
theorem IsH.lt {H : VH} {s : VS} {l : List UInt8} (h : IsH H s l) {i n : Nat} (hs : s = .hp i 0 n) : i < H.length := by
  rcases h with ⟨h1, _⟩ | ⟨j, h1, hj⟩
  · rw [h1] at hs; cases hs
  · rw [h1] at hs; injection hs with hs; subst hs; exact lt_of_ob hj
theorem Rd.ofB (H : VH) {s : VS} {l : List UInt8} (h : IsB s l) : Rd H s l :=
  ⟨by rw [h.len, bs_len], fun hn => (by have := (h.isNil hn).2; cases l with | nil => rfl | cons => cases this), fun _ _ => h.es _ _ _, fun _ _ => h.str _ _⟩
theorem Rd.ofH {H : VH} {s : VS} {l : List UInt8} (h : IsH H s l) : Rd H s l := by
  refine ⟨?_, ?_, ?_, ?_⟩
  · rcases h with ⟨rfl, rfl⟩ | ⟨i, rfl, _⟩ <;> rfl
  · rcases h with ⟨rfl, rfl⟩ | ⟨i, rfl, _⟩
    · intro _; rfl
    · intro h; cases h
  · intro H' X k hx
    have h' := h.keep k (fun i hi hm => by have := hx i hm; have := h.lt hi; omega)
    rcases h' with ⟨rfl, rfl⟩ | ⟨i, rfl, hi⟩
    · rfl
    · exact hp_bcs hi
  · intro H' X k hx
    exact isH_str (h.keep k (fun i hi hm => by have := hx i hm; have := h.lt hi; omega))
theorem Rd.keep {H H' : VH} {X : List Nat} {s : VS} {l : List UInt8} (h : Rd H s l) (k : Kp H H' X) (hx : ∀ x ∈ X, H.length ≤ x) : Rd H' s l :=
  ⟨h.len, h.isNil, fun {H2} {Y} k2 hy => h.es (X := X ++ Y) (k.trans k2 (fun x hx _ => List.mem_append_left _ hx) (fun y hy _ => List.mem_append_right _ hy)) (fun x hx2 => (List.mem_append.1 hx2).elim (hx x) (fun h2 => Nat.le_trans k.len (hy x h2))),
    fun {H2} {Y} k2 hy => h.str (X := X ++ Y) (k.trans k2 (fun x hx _ => List.mem_append_left _ hx) (fun y hy _ => List.mem_append_right _ hy)) (fun x hx2 => (List.mem_append.1 hx2).elim (hx x) (fun h2 => Nat.le_trans k.len (hy x h2)))⟩
theorem Rd.isB {H : VH} {s : VS} {l : List UInt8} (h : Rd H s l) (hc : closedC (.sl 5 s) = true) : IsB s l := by
  have h1 := h.es (Kp.refl H []) (fun x hx => by cases hx)
  cases s with
  | nil =>
    have h1 : some [] = some (bs l) := h1
    injection h1 with h1
    show IsE .nil (bs l)
    rw [← h1]; exact .nil
  | fz es c =>
    have h1 : some es = some (bs l) := h1
    injection h1 with h1
    show IsE (.fz es c) (bs l)
    rw [← h1]; exact .fz _ _
  | hp i off n => cases hc
theorem isH_len {H : VH} {s : VS} {l : List UInt8} (h : IsH H s l) : s.len = l.length := by
  rcases h with ⟨rfl, rfl⟩ | ⟨i, rfl, _⟩ <;> rfl
theorem isH_set {H : VH} {s : VS} {l : List UInt8} (h : IsH H s l) {i : Nat} (hi : i < l.length) (b : UInt8) : ∃ j, s = .hp j 0 l.length ∧ ixV 1 s (i : Int) = some (.ob j i) ∧ ∃ H', stV H (.ob j i) [.int .u8 (b.toNat : Int)] = some H' ∧ IsH H' s (l.set i b) ∧ Kp H H' [j] := by
  rcases h with ⟨rfl, rfl⟩ | ⟨j, rfl, hj⟩
  · simp at hi
  · refine ⟨j, rfl, ?_, _, st_row hj (by rw [bcs_len]; simp only [List.length_singleton]; omega) rfl, .inr ⟨j, by rw [List.length_set], ?_⟩, Kp.set _ _ _⟩
    · simp only [ixV]
      rw [if_pos (by omega), Int.toNat_natCast, Nat.zero_add, Nat.mul_one]
    · rw [List.getElem?_set_self (lt_of_ob hj)]
      simp only [putAllV, bcs, List.map_set]
theorem isH_rd {H : VH} {s : VS} {l : List UInt8} (h : IsH H s l) {i : Nat} {b : UInt8} (hb : l[i]? = some b) {β : Type} (f : Int → Option β) : ((ixV 1 s (i : Int)).bind fun p => (ldV (.flat (.int .u8)) H p).bind f) = f (b.toNat : Int) := by
  rcases h with ⟨rfl, rfl⟩ | ⟨j, rfl, hj⟩
  · simp at hb
  · have hlt := (List.getElem?_eq_some_iff.1 hb).1
    simp only [ixV]
    rw [if_pos (by omega), Option.bind_some, ld_row hj, Int.toNat_natCast, Nat.zero_add, Nat.mul_one]
    have : (bcs l)[i]? = some (.int .u8 (b.toNat : Int)) := by unfold bcs; rw [List.getElem?_map, hb]; rfl
    rw [this, Option.bind_some]
    show (V.fdec (.int .u8) (.int .u8 (b.toNat : Int))).bind f = _
    rw [fd_int]
    rfl
theorem rep_bytes (k : Nat) : repV k [.int .u8 0] = bcs (List.replicate k 0) := by
  induction k with
  | zero => rfl
  | succ k ih => rw [repV, ih, List.replicate_succ', bcs, bcs, List.map_append]; rfl
theorem stays_ints {H : VH} {i : Nat} {e : TypeId} {cs : List V} (hr : H[i]? = some (.row e cs)) : ∀ (n off : Nat), off + n ≤ cs.length → (∀ v ∈ (cs.drop off).take n, ∃ m, v = .int .u8 m) → V.stays H (heldFrom i off (List.replicate n (.int .u8)) ((cs.drop off).take n)) = true
  | 0, off, _, _ => rfl
  | n + 1, off, hl, hv => by
    have hlt : off < cs.length := by omega
    rw [List.drop_eq_getElem_cons hlt, List.take_succ_cons] at hv ⊢
    obtain ⟨m, hm⟩ := hv _ (List.mem_cons_self ..)
    have ih := stays_ints hr n (off + 1) (by omega) (fun v h => hv v (List.mem_cons_of_mem _ h))
    rw [List.replicate_succ]
    show V.stays H ((.ob i off, .int .u8, cs[off]) :: heldFrom i (off + 1) (List.replicate n (.int .u8)) ((cs.drop (off + 1)).take n)) = true
    unfold V.stays
    rw [ih, ld_row hr, List.getElem?_eq_getElem hlt, Option.bind_some, hm, fd_int]
    simp only [V.fenc, same_self, Bool.and_true]
theorem stays_isH {H H' : VH} {s : VS} {l : List UInt8} (h : IsH H s l) (h' : IsH H' s l) : V.stays H' (heldStr H s) = true := by
  rcases h with ⟨rfl, rfl⟩ | ⟨j, rfl, hj⟩
  · rfl
  · rcases h' with ⟨h1, _⟩ | ⟨j', h1, hj'⟩
    · cases h1
    · injection h1 with h1
      subst h1
      have hc : hpCells H j 0 l.length = some (((bcs l).drop 0).take l.length) := by
        unfold hpCells takeN
        rw [rowV_of hj, Option.bind_some, bcs_len, if_pos (by omega)]
      rw [heldStr_hp hc]
      refine stays_ints hj' l.length 0 (by rw [bcs_len]; omega) (fun v hv => ?_)
      have hv := List.mem_of_mem_take hv
      rw [List.drop_zero] at hv
      obtain ⟨b, _, rfl⟩ := List.mem_map.1 hv
      exact ⟨_, rfl⟩
theorem stays_cons (H : VH) (p : VP) (τ : FT) (v : V) (r : Held) : V.stays H ((p, τ, v) :: r) = ((match ldV (.flat τ) H p with | some x => same v (fenc τ x) | none => false) && V.stays H r) := by
  rw [V.stays]; rfl
theorem stays_app {H : VH} : ∀ (a b : Held), V.stays H (a ++ b) = (V.stays H a && V.stays H b)
  | [], b => rfl
  | (p, τ, v) :: a, b => by
    rw [List.cons_append, stays_cons, stays_cons, stays_app a b, Bool.and_assoc]
def hj (a b : Held) : Held := a ++ b
theorem stays_hj (H : VH) (a b : Held) : V.stays H (hj a b) = (V.stays H a && V.stays H b) := stays_app a b
theorem stays_nil (H : VH) : V.stays H [] = true := rfl
theorem held_fz {es : List (List V)} {c : VC} (H : VH) : heldStr H (.fz es c) = [] := rfl
theorem heldStr_B {s : VS} {es : List (List V)} (h : IsE s es) (H : VH) : heldStr H s = [] := by cases h <;> rfl
/-- May be appended to, also what was cut at its head. -/
inductive Aq (H : VH) (e : TypeId) : VS → List (List V) → Prop
  | nil : Aq H e .nil []
  | lit (es : List (List V)) : Aq H e (.fz es (.ex es.length)) es
  | tok (es : List (List V)) (t g : Nat) : H[t]? = some (.tok e g) → Aq H e (.fz es (.tok t g)) es
theorem Ap.aq {H : VH} {e : TypeId} {s : VS} {es : List (List V)} (h : Ap H e s es) : Aq H e s es := by
  cases h with
  | nil => exact .nil
  | lit es => exact .lit es
  | tok es t h => exact .tok es t _ h
theorem Aq.isE {H : VH} {e : TypeId} {s : VS} {es : List (List V)} (h : Aq H e s es) : IsE s es := by cases h <;> constructor
theorem Aq.keep {H H' : VH} {X : List Nat} {e : TypeId} {s : VS} {es : List (List V)} (h : Aq H e s es) (k : Kp H H' X) (hx : ∀ t ∈ toks s, t ∉ X) : Aq H' e s es := by
  cases h with
  | nil => exact .nil
  | lit es => exact .lit es
  | tok es t g ht => exact .tok es t g (k.ob ht (hx t (by simp [toks])))
theorem Aq.tok_at {H : VH} {e : TypeId} {s : VS} {es : List (List V)} (h : Aq H e s es) {t : Nat} (ht : t ∈ toks s) : ∃ g, H[t]? = some (.tok e g) := by
  cases h with
  | nil => cases ht
  | lit => cases ht
  | tok t' g' h1 => simp [toks] at ht; subst ht; exact ⟨_, by assumption⟩
/-- Appending what can be read. -/
theorem Aq.app {H : VH} {sz by_ : Nat} {e : TypeId} {s x : VS} {es news : List (List V)} (h : Aq H e s es) (hx : x.len = news.length) (hxs : slEs H e sz x = some news) (hb : (((es.length + news.length) * by_ : Nat) : Int) ≤ bound) (h63 : ((es.length + news.length : Nat) : Int) ≤ bound) :
    ∃ s' H', appD true H sz by_ e s x = some (s', H') ∧ Aq H' e s' (es ++ news) ∧ Kp H H' (toks s) ∧ (∀ t ∈ toks s', t ∈ toks s ∨ H.length ≤ t) := by
  have hl : appD true H sz by_ e s x = appW H e sz s news := by
    unfold appD
    rw [holdV_eq, h.isE.len, hx, if_pos ⟨hb, h63⟩, hxs, Option.bind_some]
    rfl
  rw [hl]
  unfold appW
  by_cases hm : news.length = 0
  · have : news = [] := List.eq_nil_of_length_eq_zero hm
    subst this
    rw [if_pos hm]
    exact ⟨s, H, rfl, by simpa using h, Kp.refl _ _, fun t ht => .inl ht⟩
  · rw [if_neg hm]
    cases h with
    | nil =>
      refine ⟨_, _, rfl, .tok _ H.length _ (by simp), (Kp.app H _).weak (fun x hx => by cases hx), fun t ht => .inr ?_⟩
      simp [toks] at ht; omega
    | lit es =>
      simp only
      rw [if_pos (by omega)]
      refine ⟨_, _, rfl, .tok _ H.length _ (by simp), (Kp.app H _).weak (fun x hx => by cases hx), fun t ht => .inr ?_⟩
      simp [toks] at ht; omega
    | tok es t g ht =>
      simp only [ht, and_self, if_true]
      have htl := lt_of_ob ht
      exact ⟨_, _, rfl, .tok _ t _ (by rw [List.getElem?_set_self htl]), Kp.set _ _ _, fun t ht => .inl ht⟩
theorem Aq.appE {H : VH} {sz by_ : Nat} {e : TypeId} {s x : VS} {es news : List (List V)} (h : Aq H e s es) (hx : IsE x news) (hb : (((es.length + news.length) * by_ : Nat) : Int) ≤ bound) (h63 : ((es.length + news.length : Nat) : Int) ≤ bound) :
    ∃ s' H', appD true H sz by_ e s x = some (s', H') ∧ Aq H' e s' (es ++ news) ∧ Kp H H' (toks s) ∧ (∀ t ∈ toks s', t ∈ toks s ∨ H.length ≤ t) := h.app hx.len (hx.es H e sz) hb h63
/-- What is left of it behind the first. -/
theorem Aq.tail {H : VH} {e : TypeId} {sz : Nat} {s : VS} {y : List V} {es : List (List V)} (h : Aq H e s (y :: es)) : ∃ s', cutD H e sz s (some 1) none none = some s' ∧ Aq H e s' es ∧ (∀ t ∈ toks s', t ∈ toks s) := by
  have cut : ∀ c, cutD H e sz (.fz (y :: es) c) (some 1) none none = some (.fz es (capCut c 1 (y :: es).length (y :: es).length)) := by
    intro c
    unfold cutD
    rw [holdV_eq]
    simp only [cutV, bd, Option.bind_some]
    rw [show inB 1 (y :: es).length = some 1 by unfold inB; rw [if_pos ⟨by omega, by simp only [List.length_cons]; omega⟩]; rfl]
    simp only [Option.bind_some, List.take_length, List.drop_succ_cons, List.drop_zero]
  cases h with
  | lit =>
    refine ⟨_, cut _, ?_, fun t ht => by cases ht⟩
    simp only [capCut, List.length_cons, Nat.add_sub_cancel]
    exact .lit es
  | tok _ t g ht =>
    refine ⟨_, cut _, ?_, fun t ht => ?_⟩
    · simp only [capCut, if_true]
      exact .tok es t g ht
    · simpa [capCut, toks] using ht
end Go.Proofs.Ytmpobijkbmljdaa.Sh.V
namespace Go.Proofs.Ytmpobijkbmljdaa.Sh.V
open Go.Proofs.Ytmpobijkbmljdaa.Sh Go.RowKit
/-! ### Keys, sorted -/
theorem less_iff : ∀ (x y : List UInt8), Op.bytesLess x y = true ↔ x < y
  | [], [] => by simp [Op.bytesLess]
  | _ :: _, [] => by simp [Op.bytesLess]
  | [], _ :: _ => by simp [Op.bytesLess]
  | a :: x, b :: y => by
    rw [List.cons_lt_cons_iff]
    simp only [Op.bytesLess, Bool.or_eq_true, decide_eq_true_eq, Bool.and_eq_true, beq_iff_eq, less_iff x y]
theorem less_le (x y : List UInt8) : Op.bytesLess x y = false ↔ y ≤ x := by
  rw [← Bool.not_eq_true, less_iff]
  exact Iff.rfl
def insK (k : List UInt8) : List (List UInt8) → List (List UInt8)
  | [] => [k]
  | y :: l => cond (Op.bytesLess y k) (y :: insK k l) (k :: y :: l)
def sortK : List (List UInt8) → List (List UInt8)
  | [] => []
  | k :: l => insK k (sortK l)
theorem insK_perm (k : List UInt8) : ∀ l, (insK k l).Perm (k :: l)
  | [] => .refl _
  | y :: l => by
    unfold insK
    cases Op.bytesLess y k with
    | true => exact ((insK_perm k l).cons y).trans (List.Perm.swap _ _ _)
    | false => exact .refl _
theorem sortK_perm : ∀ l, (sortK l).Perm l
  | [] => .refl _
  | k :: l => (insK_perm k _).trans ((sortK_perm l).cons k)
theorem le_tr {x y z : List UInt8} (h1 : x ≤ y) (h2 : y ≤ z) : x ≤ z := List.le_trans h1 h2
theorem insK_sorted (k : List UInt8) : ∀ l, l.Pairwise (fun a b => a ≤ b) → (insK k l).Pairwise (fun a b => a ≤ b)
  | [], _ => by simp [insK]
  | y :: l, h => by
    rw [List.pairwise_cons] at h
    unfold insK
    cases hb : Op.bytesLess y k with
    | true =>
      have hyk : y ≤ k := List.le_of_lt ((less_iff y k).1 hb)
      rw [cond_true, List.pairwise_cons]
      refine ⟨fun z hz => ?_, insK_sorted k l h.2⟩
      rcases List.mem_cons.1 ((insK_perm k l).mem_iff.1 hz) with rfl | hz
      · exact hyk
      · exact h.1 z hz
    | false =>
      have hky : k ≤ y := (less_le y k).1 hb
      rw [cond_false, List.pairwise_cons]
      refine ⟨fun z hz => ?_, List.pairwise_cons.2 h⟩
      rcases List.mem_cons.1 hz with rfl | hz
      · exact hky
      · exact le_tr hky (h.1 z hz)
theorem sortK_sorted : ∀ l, (sortK l).Pairwise (fun a b => a ≤ b)
  | [] => .nil
  | k :: l => insK_sorted k _ (sortK_sorted l)
theorem le_anti {x y : List UInt8} (h1 : x ≤ y) (h2 : y ≤ x) : x = y := List.le_antisymm h1 h2
theorem merge_eq {ss ks : List (List UInt8)} (h : ss.Perm ks) : ss.mergeSort (fun x y => decide (x ≤ y)) = sortK ks := by
  refine List.Perm.eq_of_pairwise (le := fun a b => a ≤ b) (fun a b _ _ h1 h2 => le_anti h1 h2) ?_ (sortK_sorted ks) ((List.mergeSort_perm ss _).trans (h.trans (sortK_perm ks).symm))
  have := List.pairwise_mergeSort (le := fun x y : List UInt8 => decide (x ≤ y)) (fun a b c h1 h2 => by
    simp only [decide_eq_true_eq] at h1 h2 ⊢; exact le_tr h1 h2) (fun a b => by
    simp only [Bool.or_eq_true, decide_eq_true_eq]; exact List.le_total a b) ss
  exact this.imp fun h => by simpa using h
def keysS : List (V × V) → Option (List (List UInt8))
  | [] => some []
  | (.str s, _) :: r => (keysS r).map fun l => s.data.toList :: l
  | _ :: _ => none
def strs (l : List (List UInt8)) : List (List V) := l.map fun b => [.str ⟨b.toArray⟩]
def srtV (ks : List (List UInt8)) : VS :=
  match ks with
  | [] => .nil
  | ks => .fz (strs (sortK ks)) .no
/-- slices.Sorted over maps.Keys. -/
def sortedP (its : List FuncId) (e : TypeId) (args : List V) (H : VH) : VRes :=
  match args with
  | [.func (.func g) [] [.ptr (.ob i 0)]] =>
    if among its g = true then
      (match H[i]? with
      | some (.row T [.map m]) => if boxK ≤ T then (entriesV H .str m).bind fun es => (keysS es).bind fun ks => if ks.length * 16 ≤ 140737488355328 then some (.sl e (srtV ks), H) else none else none
      | _ => none)
    else none
  | _ => none
/-- What the kit's contracts tell. -/
def R1 : Value → Option (DataW Unit × List MemPlace) := fun _ => some (.lit (.bool true), [])
structure SrtOK (P : Program) (g it : FuncId) (kt : TypeId) : Prop where
  body : ∃ fn s, P.funcs[g]? = some fn ∧ fn.body = some s
  str : P.underlying kt = some .string
  one : P.cellsOf kt = 1
  box : kt < boxK
  full : ∀ (w : World) (gb b nn : Nat) (D0 : DataW Unit), gb < w.heap.size → w.cell? ⟨gb, 0, none⟩ = some (.map (some b)) → w.ownsMap P kt R1 b nn D0 → Maps.size D0 ≤ maxLen → Maps.size D0 * 16 ≤ 140737488355328 →
    Calls P g #[.func (.func it) #[] #[.pointer (some ⟨gb, 0, none⟩)]] w fun e w' => ∃ (v : Value) (ss : List (List UInt8)), e = .returned v ∧ ss.Perm (Go.strKeys D0) ∧
      w'.ownsRow w.heap.size kt 1 v ss.length ((ss.mergeSort (fun x y => decide (x ≤ y))).map Proofs.encStr) ∧ (v = .slice none 0 0 ↔ ss = []) ∧ Below w.heap.size w w'
  nil : ∀ (w : World) (gb : Nat), gb < w.heap.size → w.cell? ⟨gb, 0, none⟩ = some (.map none) →
    Calls P g #[.func (.func it) #[] #[.pointer (some ⟨gb, 0, none⟩)]] w fun e w' => e = .returned (.slice none 0 0) ∧ Below w.heap.size w w'
section
variable {G : Nat → World → Prop} {P : Program} {B : Nat} {w0 : World} {c : Cx} {S : List Loc} {w : World}
theorem MR.keysS {S : List Loc} {q : KK} : ∀ {es : List (V × V)} {es' : List (Value × Value)} {es'' : List MapEntry} {ks : List (List UInt8)}, MR P c es es' → MRel S es' es'' → keysS es = some ks → es''.map (fun x => x.key) = ks.map fun b => .string ⟨b.toArray⟩
  | _, _, _, ks, .nil, .nil, h => by simp only [V.keysS, Option.some.injEq] at h; subst h; rfl
  | (k, v) :: es, (k', v') :: es', e :: es'', ks, .cons a b d, .cons a' b' d', h => by
    unfold V.keysS at h
    split at h
    · rename_i heq; cases heq
    · rename_i s v1 r heq
      injection heq with h1 h2
      injection h1 with h1 h3
      subst h1 h2 h3
      rw [Option.map_eq_some_iff] at h
      obtain ⟨l, hl, rfl⟩ := h
      simp only [toP, Option.some.injEq] at a
      subst a
      rw [List.map_cons, List.map_cons, a', MR.keysS (q := q) d d' hl]
    · cases h
theorem sortedP_some {its : List FuncId} {e : TypeId} {args : List V} {H : VH} {r : V × VH} (h : sortedP its e args H = some r) :
    ∃ it i T m es ks, it ∈ its ∧ args = [.func (.func it) [] [.ptr (.ob i 0)]] ∧ H[i]? = some (.row T [.map m]) ∧ boxK ≤ T ∧ entriesV H .str m = some es ∧ keysS es = some ks ∧ ks.length * 16 ≤ 140737488355328 ∧ r = (.sl e (srtV ks), H) := by
  unfold sortedP at h
  split at h
  · rename_i f i
    have h' := ite_some h
    clear h
    obtain ⟨hin, h⟩ := h'
    cases hi : H[i]? with
    | none => rw [hi] at h; cases h
    | some o =>
      rw [hi] at h
      cases o with
      | dead => cases h
      | slot => cases h
      | tok _ _ => cases h
      | map _ _ => cases h
      | row T cs =>
        split at h
        · rename_i T2 m heq
          injection heq with heq
          injection heq with e1 e2
          subst e1 e2
          have h' := ite_some h
          clear h
          obtain ⟨h1, h⟩ := h'
          simp only [Option.bind_eq_some_iff] at h
          obtain ⟨es, hes, ks, hks, h⟩ := h
          have h' := ite_some h
          clear h
          obtain ⟨h2, h⟩ := h'
          injection h with h
          exact ⟨f, i, T, m, es, ks, among_mem hin, rfl, hi, h1, hes, hks, h2, h.symm⟩
        · cases h
  · cases h
theorem sorted_ok {g : FuncId} {its : List FuncId} {kt : TypeId} (hks : ∀ it ∈ its, SrtOK P g it kt) : PrimOKg G P g (sortedP its kt) := by
  intro args c v H' hq B w0 S w args' hs hargs
  obtain ⟨it, i, T, m, es, ks, hin, rfl, hi, hbx, hes, hks1, hlen, hr0⟩ := sortedP_some hq
  have hk := hks it hin
  clear hks
  have hks := hks1
  clear hks1
  refine ⟨hk.body, ?_⟩
  obtain ⟨us, ha1, ha2⟩ := hargs
  injection hr0 with e1 e2
  subst e1 e2
  cases ha1 with
  | cons x1 x2 =>
    cases x2
    cases ha2 with
    | cons y1 y2 =>
      cases y2
      cases x1 with
      | func z1 z2 =>
        cases z1
        cases z2 with
        | cons z3 z4 =>
          cases z4
          cases z3 with
          | ptrOb hh =>
            rename_i k
            obtain ⟨hσ, _⟩ := hh
            obtain ⟨l1, l2, rfl, r1, r2⟩ := y1.inv_func
            cases r1
            cases r2 with
            | cons r3 r4 =>
              cases r4
              obtain ⟨k', o', L, hadr, hL, rfl⟩ := r3.inv_ptr
              injection hadr with h5 h6
              subst h5 h6
              obtain ⟨ys, hy1, hy2⟩ := hs.v.row hi hσ
              cases hy2 with
              | cons q1 q2 =>
                cases q2
                rename_i m'
                obtain ⟨mm, rfl⟩ := map_form q1
                have hr : RowIs P B S w L true T [.map mm] := hs.s.ob k _ L hy1 hL
                obtain ⟨hB, C, fr, _, _, hC, hbox⟩ := hr.own rfl
                obtain ⟨hL0, _⟩ := hbox hbx
                obtain ⟨v', hcell, hrel⟩ := hr.cell 0 _ rfl
                rw [hL0] at hcell
                rw [Nat.zero_add] at hcell
                rw [hL0, Nat.zero_add]
                obtain ⟨m2, es', hm2, hent, hmr, hsome⟩ := entries_sim hs.v q1 hes
                injection hm2 with hm2
                subst hm2
                cases m with
                | none =>
                  cases q1
                  cases hrel
                  simp only [entriesV, Option.some.injEq] at hes
                  subst hes
                  simp only [keysS, Option.some.injEq] at hks
                  subst hks
                  refine (hk.nil w L.b hr.lt hcell).mono ?_
                  rintro e w' ⟨rfl, hb⟩
                  exact ⟨c, _, S, rfl, rfl, Le.refl c, List.prefix_refl _, ⟨hs.v, hs.s.under hb, hs.g⟩, .slice none 0 0, .slNil, .sliceNil⟩
                | some j =>
                  obtain ⟨k2, rfl, hσ2, hj, hh2⟩ := hsome j rfl
                  cases hrel with
                  | map hL2 =>
                    rename_i L2
                    have hmi : MapIs B S w L2 .str es' := hs.s.ob k2 _ L2 hh2 hL2
                    obtain ⟨es'', clock, hb, hst, hmr2⟩ := hmi.map
                    have hkeys := MR.keysS (q := .str) hmr hmr2 hks
                    have hok := hmr2.keys hmi.keys
                    have hsz : es''.size = es'.length := by have := hmr2.length; simpa using this.symm
                    have hml : maxLen = 9223372036854775807 := by decide
                    have hread : ∀ x ∈ es''.toList, ∃ s : ByteArray, x.key = .string s ∧ s.size ≤ maxLen := by
                      intro x hx
                      have := hok x hx
                      cases hkx : x.key <;> rw [hkx] at this <;> simp [keyOK] at this
                      exact ⟨_, rfl, by rw [hml]; exact this⟩
                    have hkeyOf : ∀ {x : MapEntry}, x ∈ es''.toList → ∃ s : ByteArray, x.key = .string s ∧ WideElems.rd P kt R1 x = some (.string s.data.toList, .lit (.bool true)) := by
                      intro x hx
                      obtain ⟨s, h1, h2⟩ := hread x hx
                      refine ⟨s, h1, ?_⟩
                      have hko := WideMaps.keyOf_string_mk hk.str h2
                      unfold WideElems.rd
                      rw [h1, hko]
                      rfl
                    have hfit : WideElems.Fit P kt R1 es'' clock := ⟨by rw [hsz, hml]; exact hmi.size, hst, fun x hx => by obtain ⟨s, _, h⟩ := hkeyOf hx; exact ⟨_, h⟩⟩
                    obtain ⟨D0, hD0⟩ : ∃ D0 : DataW Unit, D0 = .map ((es''.toList.map (WideElems.rg P kt R1)).foldr DataW.insert []) := ⟨_, rfl⟩
                    have hown : w.ownsMap P kt R1 L2.b es''.size D0 := ⟨es'', clock, hb, hfit, Nat.le_refl _, hD0⟩
                    have hsize : Maps.size D0 = es''.size := by rw [hD0]; simp [Maps.size, length_sorted]
                    have hkl : ks.length = es''.size := by
                      have := congrArg List.length hkeys
                      simpa using this.symm
                    have hperm : (Go.strKeys D0).Perm ks := by
                      rw [hD0]
                      refine (((WideShapes.sorted_perm _).map (fun p => Go.strOf p.1))).trans ?_
                      have : (es''.toList.map (WideElems.rg P kt R1)).map (fun p => Go.strOf p.1) = ks := by
                        have h1 : ∀ x ∈ es''.toList, Proofs.encStr (Go.strOf (WideElems.rg P kt R1 x).1) = x.key := by
                          intro x hx
                          obtain ⟨s, h1, h2⟩ := hkeyOf hx
                          rw [WideElems.rg_of h2, h1]
                          simp [Go.strOf, Proofs.encStr]
                        have h2 : ((es''.toList.map (WideElems.rg P kt R1)).map (fun p => Go.strOf p.1)).map Proofs.encStr = ks.map Proofs.encStr := by
                          rw [List.map_map, List.map_map]
                          refine Eq.trans ?_ hkeys
                          exact List.map_congr_left fun x hx => h1 x hx
                        exact (List.map_inj_right (fun a b hab => Go.encStr_inj hab)).1 h2
                      rw [this]
                    refine (hk.full w L.b L2.b es''.size D0 hr.lt hcell hown (by rw [hsize]; exact hfit.size) (by rw [hsize, ← hkl]; exact hlen)).mono ?_
                    rintro e w' ⟨v, ss, rfl, hss, hrow, hnil, hbel⟩
                    have hms := merge_eq (hss.trans hperm)
                    have hsl : ss.length = ks.length := (hss.trans hperm).length_eq
                    rw [hms] at hrow
                    rcases hrow.2 with ⟨rfl, hz⟩ | ⟨gb, cap, cur, rfl, hbase, hgb, n1, n2, n3, n4⟩
                    · have h0 : ss = [] := List.eq_nil_of_length_eq_zero hz
                      have hk0 : ks = [] := List.eq_nil_of_length_eq_zero (by omega)
                      subst hk0
                      exact ⟨c, _, S, rfl, rfl, Le.refl c, List.prefix_refl _, ⟨hs.v, hs.s.under hbel, hs.g⟩, .slice none 0 0, .slNil, .sliceNil⟩
                    · have hne : ks ≠ [] := by
                        intro h0
                        have : ss = [] := List.eq_nil_of_length_eq_zero (by rw [hsl, h0]; rfl)
                        have := hnil.2 this
                        cases this
                      have hsv : srtV ks = .fz (strs (sortK ks)) .no := by
                        cases ks with
                        | nil => exact absurd rfl hne
                        | cons _ _ => rfl
                      have hlk : (sortK ks).length = ks.length := (sortK_perm ks).length_eq
                      obtain ⟨cs, hcs⟩ : ∃ cs : List Value, cs = (sortK ks).map Proofs.encStr := ⟨_, rfl⟩
                      have hcl : cs.length = ks.length := by rw [hcs, List.length_map, hlk]
                      rw [← hcs] at n4
                      have hub : unbox kt = kt := unbox_lt hk.box
                      have hcapl : cs.length ≤ cur.size := by rw [n3, hcl]; omega
                      have hs2 : Sim P B w0 (S ++ [⟨gb, 0, cur.size, P.cellsOf kt⟩]) (c.h ++ [.row true kt cs]) w' := by
                        refine hs.s.add ⟨gb, 0, cur.size, P.cellsOf kt⟩ _ (fun k hk' _ => hbel.block k hk') hbel.size hbel.os hbel.tape hbel.output (Nat.le_trans hs.s.size hbase) (fun j u M hj hl hM => ?_) ?_
                        · have := (hs.s.ob j u M hj hM).lt hl
                          show M.b ≠ gb
                          omega
                        · refine ⟨rfl, ?_, (Array.getElem?_eq_some_iff.1 hgb).1, hcapl, ?_, fun _ => ⟨Nat.le_trans hs.s.size hbase, cur, (0, 0), by rw [hub]; exact hgb, .inr rfl, by simp, fun h => absurd h (Nat.not_le.2 hk.box)⟩⟩
                          · rw [hcs]
                            unfold ones
                            rw [List.all_eq_true]
                            intro x hx
                            obtain ⟨b, _, rfl⟩ := List.mem_map.1 hx
                            rfl
                          · intro p u hu
                            have hpl := (List.getElem?_eq_some_iff.1 hu).1
                            refine ⟨u, ?_, ?_⟩
                            · simp only [World.cell?, hgb, Option.isSome_none, Bool.false_eq_true, if_false, Nat.zero_add]
                              have h6 := congrArg (fun l : List Value => l[p]?) n4
                              simp only [Nat.mul_one] at h6
                              rw [List.getElem?_take_of_lt (by omega), hu] at h6
                              simpa using h6
                            · rw [hcs] at hu
                              have := List.mem_of_getElem? hu
                              obtain ⟨b, _, rfl⟩ := List.mem_map.1 this
                              exact .string _
                      have hflat : (strs (sortK ks)).flatten = (sortK ks).map fun b => .str ⟨b.toArray⟩ := by
                        unfold strs
                        induction sortK ks with
                        | nil => rfl
                        | cons x l ih => simp only [List.map_cons, List.flatten_cons, ih, List.singleton_append]
                      have hvr : VRs P c (strs (sortK ks)).flatten cs := by
                        rw [hflat, hcs]
                        induction sortK ks with
                        | nil => exact .nil
                        | cons x l ih => exact .cons (.str _) ih
                      obtain ⟨a1, a2, a3⟩ := new_fz hs.v (e := kt) (es := strs (sortK ks)) (cs := cs) (b := .row true kt cs) (rowT_row_last _ _ _ _) hvr (by
                        intro u hu
                        rw [hflat] at hu
                        obtain ⟨b, _, rfl⟩ := List.mem_map.1 hu
                        rfl) (by
                        intro y hy
                        unfold strs at hy
                        obtain ⟨b, _, rfl⟩ := List.mem_map.1 hy
                        rw [hk.one]; rfl) (cap := .no) (x := 0) (.inl rfl) (fun h => absurd rfl h)
                      have hsn : (strs (sortK ks)).length = ss.length := by unfold strs; rw [List.length_map, hlk, hsl]
                      refine ⟨⟨c.σ, c.H, c.h ++ [.row true kt cs], c.X⟩, _, S ++ [⟨gb, 0, cur.size, P.cellsOf kt⟩], rfl, rfl, a1, ⟨_, rfl⟩, ⟨a2, hs2, hs.g⟩, _, by rw [hsv]; exact a3, ?_⟩
                      rw [hsn, ← hs.s.len]
                      exact .slice (L := ⟨gb, 0, cur.size, P.cellsOf kt⟩) (by simp) n1 rfl (fun _ => rfl) (fun _ => by simp only; rw [n3, hk.one]; omega) (fun h => absurd rfl h)
end
end Go.Proofs.Ytmpobijkbmljdaa.Sh.V
namespace Go.Proofs.Ytmpobijkbmljdaa.Sh.V
open Go.Proofs.Ytmpobijkbmljdaa.Sh
/-! ### Maps as lists of pairs -/
section
variable {K A : Type} [DecidableEq K]
def ents (ke : K → V) (enc : A → V) (m : List (K × A)) : List (V × V) := m.map fun p => (ke p.1, enc p.2)
def getM : List (K × A) → K → Option A
  | [], _ => none
  | (k', a) :: r, k => if k = k' then some a else getM r k
def putA : List (K × A) → K → A → List (K × A)
  | [], k, a => [(k, a)]
  | (k', a') :: r, k, a => if k = k' then (k, a) :: r else (k', a') :: putA r k a
def cutA : List (K × A) → K → List (K × A)
  | [], _ => []
  | (k', a') :: r, k => if k = k' then r else (k', a') :: cutA r k
theorem getM_cons (k0 : K) (a0 : A) (r : List (K × A)) (k : K) : getM ((k0, a0) :: r) k = if k = k0 then some a0 else getM r k := rfl
omit [DecidableEq K] in
theorem ents_len (ke : K → V) (enc : A → V) (m : List (K × A)) : (ents ke enc m).length = m.length := by simp [ents]
section
variable {ke : K → V} {enc : A → V} (hk : ∀ a b, vkeq (ke a) (ke b) = decide (a = b))
include hk
theorem findV_ents (k : K) : ∀ (m : List (K × A)), (getM m k = none ∧ findV (ke k) (ents ke enc m) = none ∧ putA m k = (fun a => m ++ [(k, a)]) ∧ cutA m k = m) ∨
    ∃ j a, getM m k = some a ∧ findV (ke k) (ents ke enc m) = some (j, enc a) ∧ (∀ a', putA m k a' = m.set j (k, a')) ∧ cutA m k = m.eraseIdx j
  | [] => .inl ⟨rfl, rfl, rfl, rfl⟩
  | (k', a') :: r => by
    have hf : findV (ke k) (ents ke enc ((k', a') :: r)) = cond (decide (k = k')) (some (0, enc a')) ((findV (ke k) (ents ke enc r)).map fun p => (p.1 + 1, p.2)) := by
      show cond (vkeq (ke k) (ke k')) _ _ = _
      rw [hk]; rfl
    rw [hf]
    by_cases h : k = k'
    · refine .inr ⟨0, a', ?_, ?_, ?_, ?_⟩
      · unfold getM; rw [if_pos h]
      · rw [decide_eq_true h]; rfl
      · intro a; unfold putA; rw [if_pos h]; rfl
      · unfold cutA; rw [if_pos h]; rfl
    · rw [decide_eq_false h, cond_false]
      rcases findV_ents k r with ⟨h1, h2, h3, h4⟩ | ⟨j, a, h1, h2, h3, h4⟩
      · refine .inl ⟨?_, ?_, ?_, ?_⟩
        · unfold getM; rw [if_neg h]; exact h1
        · rw [h2]; rfl
        · funext a; unfold putA; rw [if_neg h, h3]; rfl
        · unfold cutA; rw [if_neg h, h4]
      · refine .inr ⟨j + 1, a, ?_, ?_, ?_, ?_⟩
        · unfold getM; rw [if_neg h]; exact h1
        · rw [h2]; rfl
        · intro a2; unfold putA; rw [if_neg h, h3]; rfl
        · unfold cutA; rw [if_neg h, h4]; rfl
theorem put_ents (k : K) (a : A) (m : List (K × A)) : putMV (ke k) (enc a) (ents ke enc m) = ents ke enc (putA m k a) := by
  unfold putMV
  rcases findV_ents hk k m with ⟨_, h2, h3, _⟩ | ⟨j, b, _, h2, h3, _⟩
  · rw [h2, h3]; simp [ents]
  · rw [h2, h3]; simp [ents, List.map_set]
theorem cut_ents (k : K) (m : List (K × A)) : cutMV (ke k) (ents ke enc m) = ents ke enc (cutA m k) := by
  unfold cutMV
  rcases findV_ents (enc := enc) hk k m with ⟨_, h2, _, h4⟩ | ⟨j, b, _, h2, _, h4⟩
  · rw [h2, h4]
  · rw [h2, h4]; simp only [ents, ChangeMaps.map_eraseIdx]
end
/-! ### What stands in them -/
theorem getM_put (m : List (K × A)) (k : K) (a : A) (k' : K) : getM (putA m k a) k' = if k' = k then some a else getM m k' := by
  induction m with
  | nil => unfold putA getM; split <;> rfl
  | cons p m ih =>
    obtain ⟨k0, a0⟩ := p
    unfold putA
    by_cases h : k = k0
    · rw [if_pos h]
      unfold getM
      subst h
      split <;> rfl
    · rw [if_neg h]
      unfold getM
      rw [ih]
      by_cases h1 : k' = k0
      · rw [if_pos h1, if_pos h1, if_neg]
        subst h1
        exact fun e => h e.symm
      · rw [if_neg h1, if_neg h1]
theorem getM_none {m : List (K × A)} {k : K} (h : k ∉ m.map (·.1)) : getM m k = none := by
  induction m with
  | nil => rfl
  | cons p m ih =>
    obtain ⟨k0, a0⟩ := p
    simp only [List.map_cons, List.mem_cons, not_or] at h
    unfold getM
    rw [if_neg h.1]
    exact ih h.2
theorem mem_keys {m : List (K × A)} {k : K} : k ∈ m.map (·.1) ↔ getM m k ≠ none := by
  induction m with
  | nil => simp [getM]
  | cons p m ih =>
    obtain ⟨k0, a0⟩ := p
    simp only [List.map_cons, List.mem_cons]
    unfold getM
    by_cases h : k = k0
    · rw [if_pos h]; simp [h]
    · rw [if_neg h]; simp [h, ih]
theorem getM_cut {m : List (K × A)} (hn : (m.map (·.1)).Nodup) (k k' : K) : getM (cutA m k) k' = if k' = k then none else getM m k' := by
  induction m with
  | nil => unfold cutA getM; split <;> rfl
  | cons p m ih =>
    obtain ⟨k0, a0⟩ := p
    simp only [List.map_cons, List.nodup_cons] at hn
    unfold cutA
    by_cases h : k = k0
    · rw [if_pos h]
      subst h
      rw [getM_cons]
      by_cases h1 : k' = k
      · rw [if_pos h1]; subst h1; exact getM_none hn.1
      · rw [if_neg h1, if_neg h1]
    · rw [if_neg h]
      unfold getM
      rw [ih hn.2]
      by_cases h1 : k' = k0
      · rw [if_pos h1, if_pos h1, if_neg]
        subst h1
        exact fun e => h e.symm
      · rw [if_neg h1, if_neg h1]
theorem keys_put (m : List (K × A)) (k : K) (a : A) : (putA m k a).map (·.1) = if k ∈ m.map (·.1) then m.map (·.1) else m.map (·.1) ++ [k] := by
  induction m with
  | nil => rfl
  | cons p m ih =>
    obtain ⟨k0, a0⟩ := p
    unfold putA
    by_cases h : k = k0
    · rw [if_pos h]; subst h; simp
    · rw [if_neg h, List.map_cons, ih]
      simp only [List.map_cons, List.mem_cons, h, false_or]
      split <;> rfl
theorem nodup_put {m : List (K × A)} (hn : (m.map (·.1)).Nodup) (k : K) (a : A) : ((putA m k a).map (·.1)).Nodup := by
  rw [keys_put]
  split
  · exact hn
  · rename_i h
    rw [List.nodup_append]
    refine ⟨hn, by simp, fun x hx y hy => ?_⟩
    rw [List.mem_singleton] at hy
    subst hy
    exact fun e => h (e ▸ hx)
theorem cut_sub (m : List (K × A)) (k : K) : (cutA m k).Sublist m := by
  induction m with
  | nil => exact .slnil
  | cons p m ih =>
    obtain ⟨k0, a0⟩ := p
    unfold cutA
    split
    · exact List.sublist_cons_self _ _
    · exact ih.cons_cons _
theorem nodup_cut {m : List (K × A)} (hn : (m.map (·.1)).Nodup) (k : K) : ((cutA m k).map (·.1)).Nodup := hn.sublist ((cut_sub m k).map _)
theorem len_put (m : List (K × A)) (k : K) (a : A) : m.length ≤ (putA m k a).length ∧ (putA m k a).length ≤ m.length + 1 := by
  have h := congrArg List.length (keys_put m k a)
  simp only [List.length_map] at h
  split at h
  · rw [List.length_map] at h; omega
  · rw [List.length_append, List.length_map, List.length_singleton] at h; omega
theorem len_cut (m : List (K × A)) (k : K) : (cutA m k).length ≤ m.length := (cut_sub m k).length_le
theorem keys_same {m m' : List (K × A)} (hn : (m.map (·.1)).Nodup) (hn' : (m'.map (·.1)).Nodup) (h : ∀ k, getM m k = getM m' k) : (m.map (·.1)).Perm (m'.map (·.1)) :=
  (List.perm_ext_iff_of_nodup hn hn').2 fun k => by rw [mem_keys, mem_keys, h]
end
/-! ### At the heap -/
abbrev Key := List UInt8
abbrev sk (k : Key) : V := .str ⟨k.toArray⟩
theorem vkeq_sk (a b : Key) : vkeq (sk a) (sk b) = decide (a = b) := by
  show ((⟨a.toArray⟩ : ByteArray) == ⟨b.toArray⟩) = _
  cases h : ((⟨a.toArray⟩ : ByteArray) == ⟨b.toArray⟩) with
  | true =>
    have := (MapKept.bytes_beq _ _).1 h
    injection this with this
    have : a = b := by simpa using this
    rw [decide_eq_true this]
  | false =>
    have : a ≠ b := by
      rintro rfl
      rw [(MapKept.bytes_beq _ _).2 rfl] at h
      cases h
    rw [decide_eq_false this]
abbrev ik (n : Int) : V := .int .i64 n
theorem vkeq_ik (a b : Int) : vkeq (ik a) (ik b) = decide (a = b) := by
  show (a == b) = _
  rw [Bool.eq_iff_iff]; simp
theorem keysS_ents {A : Type} (enc : A → V) (m : List (Key × A)) : keysS (ents sk enc m) = some (m.map (·.1)) := by
  induction m with
  | nil => rfl
  | cons p m ih =>
    show (keysS (ents sk enc m)).map _ = _
    rw [ih]
    simp
theorem entries_of {H : VH} {i : Nat} {q : KK} {es : List (V × V)} (hi : H[i]? = some (.map q es)) : entriesV H q (some i) = some es := by
  unfold entriesV
  simp only [hi]
  have : KK.is q q = true := by cases q <;> simp [KK.is]
  rw [this]; rfl
section
variable {A : Type} {enc : A → V} {H : VH} {i : Nat}
theorem look_str {m : List (Key × A)} (hi : H[i]? = some (.map .str (ents sk enc m))) {P : Program} {et : TypeId} {τ : Ty1} {d : A → τ.T} (hd : ∀ a, dec1 τ (enc a) = some (d a)) {z : τ.T} (hz : zeroT P et τ = some z) (k : Key) :
    lookD P et τ H .str (some i) (sk k) = some (match getM m k with | some a => (d a, true) | none => (z, false)) := by
  unfold lookD
  rw [entries_of hi, Option.bind_some, if_pos (show keyV .str (sk k) = true from rfl)]
  rcases findV_ents (enc := enc) vkeq_sk k m with ⟨h1, h2, _⟩ | ⟨j, a, h1, h2, _⟩
  · rw [h1, h2, hz]; rfl
  · rw [h1, h2]; simp only; rw [hd]; rfl
theorem put_str {m : List (Key × A)} (hi : H[i]? = some (.map .str (ents sk enc m))) {k : Key} (hk : k.length ≤ 9223372036854775807) (hm : m.length < 9223372036854775807) (a : A) :
    putD H .str (some i) (sk k) (enc a) = some (H.set i (.map .str (ents sk enc (putA m k a)))) := by
  unfold putD
  simp only
  rw [entries_of hi, Option.bind_some, if_pos ⟨decide_eq_true (by simpa [ByteArray.size] using hk), by rw [ents_len]; exact hm⟩, put_ents vkeq_sk]
theorem cut_str {m : List (Key × A)} (hi : H[i]? = some (.map .str (ents sk enc m))) (k : Key) :
    cutMD H .str (some i) (sk k) = some (H.set i (.map .str (ents sk enc (cutA m k)))) := by
  unfold cutMD
  rw [entries_of hi, Option.bind_some, if_pos (show keyV .str (sk k) = true from rfl)]
  simp only
  rw [cut_ents vkeq_sk]
theorem len_str {m : List (Key × A)} {q : KK} {K : Type} {ke : K → V} {m : List (K × A)} (hi : H[i]? = some (.map q (ents ke enc m))) : lenD H q (some i) = some (m.length : Int) := by
  unfold lenD
  rw [entries_of hi, Option.map_some, ents_len]
theorem look_int {m : List (Int × A)} (hi : H[i]? = some (.map (.int .i64) (ents ik enc m))) {P : Program} {et : TypeId} {τ : Ty1} {d : A → τ.T} (hd : ∀ a, dec1 τ (enc a) = some (d a)) {z : τ.T} (hz : zeroT P et τ = some z) (k : Int) :
    lookD P et τ H (.int .i64) (some i) (ik k) = some (match getM m k with | some a => (d a, true) | none => (z, false)) := by
  unfold lookD
  rw [entries_of hi, Option.bind_some, if_pos (show keyV (.int .i64) (ik k) = true by simp [keyV])]
  rcases findV_ents (enc := enc) vkeq_ik k m with ⟨h1, h2, _⟩ | ⟨j, a, h1, h2, _⟩
  · rw [h1, h2, hz]; rfl
  · rw [h1, h2]; simp only; rw [hd]; rfl
theorem put_int {m : List (Int × A)} (hi : H[i]? = some (.map (.int .i64) (ents ik enc m))) {k : Int} (hk : -9223372036854775808 ≤ k ∧ k ≤ 9223372036854775807) (hm : m.length < 9223372036854775807) (a : A) :
    putD H (.int .i64) (some i) (ik k) (enc a) = some (H.set i (.map (.int .i64) (ents ik enc (putA m k a)))) := by
  unfold putD
  simp only
  rw [entries_of hi, Option.bind_some, if_pos ⟨by simp [keyVok, Lit.wf, IntKind.min, IntKind.max, IntKind.bits, IntKind.signed]; omega, by rw [ents_len]; exact hm⟩, put_ents vkeq_ik]
theorem cut_int {m : List (Int × A)} (hi : H[i]? = some (.map (.int .i64) (ents ik enc m))) (k : Int) :
    cutMD H (.int .i64) (some i) (ik k) = some (H.set i (.map (.int .i64) (ents ik enc (cutA m k)))) := by
  unfold cutMD
  rw [entries_of hi, Option.bind_some, if_pos (show keyV (.int .i64) (ik k) = true by simp [keyV])]
  simp only
  rw [cut_ents vkeq_ik]
/-- slices.Sorted(maps.Keys(m)). -/
theorem sorted_str {m : List (Key × A)} (hi : H[i]? = some (.map .str (ents sk enc m))) {k : Nat} {T : TypeId} (hk : H[k]? = some (.row T [.map (some i)])) (hT : boxK ≤ T) (hl : m.length * 16 ≤ 140737488355328) {its : List FuncId} {it e : FuncId} (hit : among its it = true) :
    sortedP its e [.func (.func it) [] [.ptr (.ob k 0)]] H = some (.sl e (srtV (m.map (·.1))), H) := by
  unfold sortedP
  simp only
  rw [if_pos hit, hk]
  simp only
  rw [if_pos hT, entries_of hi, Option.bind_some, keysS_ents, Option.bind_some, List.length_map, if_pos hl]
end
theorem strs_len (l : List Key) : (strs l).length = l.length := by simp [strs]
/-- Texts that stay. -/
abbrev IsT (s : VS) (l : List Key) : Prop := IsE s (strs l)
theorem isT_srt (ks : List Key) : IsT (srtV ks) (sortK ks) := by
  cases ks with
  | nil => exact .nil
  | cons k l => exact .fz _ _
theorem sortK_len (l : List Key) : (sortK l).length = l.length := (sortK_perm l).length_eq
theorem sortK_congr {l l' : List Key} (h : l.Perm l') : sortK l = sortK l' :=
  List.Perm.eq_of_pairwise (le := fun a b => a ≤ b) (fun a b _ _ h1 h2 => le_anti h1 h2) (sortK_sorted l) (sortK_sorted l') ((sortK_perm l).trans (h.trans (sortK_perm l').symm))
theorem sortK_eq {l r : List Key} (h : l.Perm r) (hs : r.Pairwise (fun a b => a ≤ b)) : sortK l = r :=
  List.Perm.eq_of_pairwise (le := fun a b => a ≤ b) (fun a b _ _ h1 h2 => le_anti h1 h2) (sortK_sorted l) hs ((sortK_perm l).trans h)
end Go.Proofs.Ytmpobijkbmljdaa.Sh.V
namespace Go.Proofs.Ytmpobijkbmljdaa.Sh.V
open Go.Proofs.Ytmpobijkbmljdaa.Sh
/-! ### Slices in objects of their own: written, appended to, cut -/
def hps : VS → List Nat
  | .hp j _ _ => [j]
  | _ => []
def Hq (H : VH) (e : TypeId) (sz : Nat) (s : VS) (es : List (List V)) : Prop :=
  (∀ y ∈ es, y.length = sz) ∧ ((s = .nil ∧ es = []) ∨ ∃ j cs, s = .hp j 0 es.length ∧ H[j]? = some (.row e cs) ∧ es.length * sz ≤ cs.length ∧ cs.take (es.length * sz) = es.flatten)
section
variable {H : VH} {e : TypeId} {sz : Nat} {s : VS} {es : List (List V)}
theorem Hq.nil (H : VH) (e : TypeId) (sz : Nat) : Hq H e sz .nil [] := ⟨fun y hy => (by cases hy), .inl ⟨rfl, rfl⟩⟩
theorem Hq.len (h : Hq H e sz s es) : s.len = es.length := by
  rcases h.2 with ⟨rfl, rfl⟩ | ⟨j, cs, rfl, _⟩ <;> rfl
theorem Hq.lt (h : Hq H e sz s es) : ∀ t ∈ hps s, t < H.length ∧ ∃ cs, H[t]? = some (.row e cs) := by
  rcases h.2 with ⟨rfl, rfl⟩ | ⟨j, cs, rfl, hj, _⟩
  · intro t ht; cases ht
  · intro t ht
    have ht : t ∈ [j] := ht
    rw [List.mem_singleton] at ht
    subst ht
    exact ⟨lt_of_ob hj, cs, hj⟩
theorem Hq.keep {H' : VH} {X : List Nat} (h : Hq H e sz s es) (k : Kp H H' X) (hx : ∀ t ∈ hps s, t ∉ X) : Hq H' e sz s es := by
  refine ⟨h.1, ?_⟩
  rcases h.2 with ⟨rfl, rfl⟩ | ⟨j, cs, rfl, hj, h3, h4⟩
  · exact .inl ⟨rfl, rfl⟩
  · exact .inr ⟨j, cs, rfl, k.ob hj (hx j (List.mem_singleton.2 rfl)), h3, h4⟩
theorem slOp_of {H : VH} {e : TypeId} {sz : Nat} {x : VS} {news : List (List V)} (h : slEs H e sz x = some news) : slOp H e sz x = some news := by unfold slOp; rw [h]
theorem Hq.app {by_ : Nat} {x : VS} {news : List (List V)} (h : Hq H e sz s es) (hx : x.len = news.length) (hxs : slEs H e sz x = some news) (hl : ∀ y ∈ news, y.length = sz)
    (hb : (((es.length + news.length) * by_ : Nat) : Int) ≤ bound) (h63 : ((es.length + news.length : Nat) : Int) ≤ bound) :
    ∃ s' H', appD false H sz by_ e s x = some (s', H') ∧ Hq H' e sz s' (es ++ news) ∧ Kp H H' (hps s) ∧ (∀ t ∈ hps s', t ∈ hps s ∨ H.length ≤ t) := by
  unfold appD
  rw [holdV_eq, h.len, hx, if_pos ⟨hb, h63⟩, cond_false, slOp_of hxs, Option.bind_some]
  unfold appH
  by_cases h0 : news.length = 0
  · rw [if_pos h0]
    have : news = [] := List.eq_nil_of_length_eq_zero h0
    subst this
    exact ⟨s, H, rfl, by rw [List.append_nil]; exact h, Kp.refl _ _, fun t ht => .inl ht⟩
  · rw [if_neg h0]
    have hall : ∀ y ∈ es ++ news, y.length = sz := fun y hy => (List.mem_append.1 hy).elim (h.1 y) (hl y)
    have hfn := flat_len hl
    have hfe := flat_len h.1
    rcases h.2 with ⟨rfl, rfl⟩ | ⟨j, cs, rfl, hj, h3, h4⟩
    · refine ⟨.hp H.length 0 news.length, H ++ [.row e news.flatten], rfl, ⟨hall, .inr ⟨H.length, news.flatten, rfl, by simp, ?_, ?_⟩⟩, (Kp.app H _), fun t ht => ?_⟩
      · rw [List.nil_append, hfn]; exact Nat.le_refl _
      · rw [List.nil_append, ← hfn, List.take_length]
      · have ht : t ∈ [H.length] := ht
        rw [List.mem_singleton] at ht
        exact .inr (by omega)
    · have hjl := lt_of_ob hj
      have key : ∀ ds : List V, ds = es.flatten → ∃ s' H', some (VS.hp H.length 0 (es.length + news.length), H.set j VO.dead ++ [VO.row e (ds ++ news.flatten)]) = some (s', H') ∧ Hq H' e sz s' (es ++ news) ∧ Kp H H' (hps (.hp j 0 es.length)) ∧ (∀ t ∈ hps s', t ∈ hps (.hp j 0 es.length) ∨ H.length ≤ t) := by
        intro ds hds
        refine ⟨_, _, rfl, ⟨hall, .inr ⟨H.length, ds ++ news.flatten, by rw [List.length_append], ?_, ?_, ?_⟩⟩, ?_, fun t ht => ?_⟩
        · rw [List.getElem?_append_right (by simp)]; simp
        · rw [hds, List.length_append, List.length_append, hfn, hfe, ← Nat.add_mul]; exact Nat.le_refl _
        · rw [hds, ← List.flatten_append, List.take_of_length_le]
          rw [flat_len hall]; exact Nat.le_refl _
        · exact (Kp.set H j .dead).trans (Kp.app _ _) (fun x hx _ => hx) (fun y hy _ => (by cases hy))
        · have ht : t ∈ [H.length] := ht
          rw [List.mem_singleton] at ht
          exact .inr (by omega)
      simp only
      rw [hj]
      simp only [Nat.zero_add, List.drop_zero]
      by_cases hend : es.length * sz = cs.length
      · rw [if_pos ⟨trivial, hend⟩]
        exact key cs (by rw [← h4, hend, List.take_length])
      · rw [if_neg (fun hh => hend hh.2), if_pos ⟨trivial, h3⟩]
        exact key _ h4
theorem Hq.cut (h : Hq H e sz s es) {c : Nat} (hc : c ≤ es.length) : ∃ s', cutD H e sz s none (some (c : Int)) none = some s' ∧ Hq H e sz s' (es.take c) ∧ hps s' = hps s := by
  unfold cutD
  rw [holdV_eq]
  rcases h.2 with ⟨rfl, rfl⟩ | ⟨j, cs, rfl, hj, h3, h4⟩
  · have : c = 0 := by simpa using hc
    subst this
    exact ⟨.nil, rfl, h, rfl⟩
  · refine ⟨.hp j 0 c, ?_, ⟨fun y hy => h.1 y (List.mem_of_mem_take hy), .inr ⟨j, cs, ?_, hj, ?_, ?_⟩⟩, rfl⟩
    · unfold cutV
      simp only [hj]
      rw [if_pos trivial]
      have hb : bd es.length (some (c : Int)) es.length = some c := by
        show inB _ _ = _
        unfold inB
        rw [if_pos ⟨by omega, by omega⟩]
        simp
      rw [hb]
      simp [bd]
    · rw [List.length_take, Nat.min_eq_left hc]
    · rw [List.length_take, Nat.min_eq_left hc]
      have := Nat.mul_le_mul_right sz hc
      omega
    · rw [List.length_take, Nat.min_eq_left hc, flat_take h.1, ← h4, List.take_take, Nat.min_eq_left (Nat.mul_le_mul_right sz hc)]
theorem Hq.at_ (h : Hq H e sz s es) {i : Nat} {y : List V} (hy : es[i]? = some y) : ∃ j cs, s = .hp j 0 es.length ∧ H[j]? = some (.row e cs) ∧ ixV sz s (i : Int) = some (.ob j (i * sz)) ∧ (cs.drop (i * sz)).take sz = y ∧ i * sz + sz ≤ cs.length := by
  have hil := (List.getElem?_eq_some_iff.1 hy).1
  rcases h.2 with ⟨rfl, rfl⟩ | ⟨j, cs, rfl, hj, h3, h4⟩
  · simp at hy
  · refine ⟨j, cs, rfl, hj, ?_, ?_, ?_⟩
    · simp only [ixV]
      rw [if_pos ⟨by omega, by omega⟩, Int.toNat_natCast, Nat.zero_add]
    · have h5 : es = es.take i ++ y :: es.drop (i + 1) := by
        obtain ⟨h6, h7⟩ := List.getElem?_eq_some_iff.1 hy
        rw [← h7, ← List.drop_eq_getElem_cons h6, List.take_append_drop]
      have hfl : es.flatten = (es.take i).flatten ++ (y ++ (es.drop (i + 1)).flatten) := by
        have := congrArg List.flatten h5
        rw [List.flatten_append, List.flatten_cons] at this
        exact this
      have hti : (es.take i).flatten.length = i * sz := by
        rw [flat_len (sz := sz) (fun z hz => h.1 z (List.mem_of_mem_take hz)), List.length_take, Nat.min_eq_left (by omega)]
      have hyl : y.length = sz := h.1 y (List.mem_of_getElem? hy)
      have e1 : (cs.take (es.length * sz)).drop (i * sz) = y ++ (es.drop (i + 1)).flatten := by rw [h4, hfl, ← hti, List.drop_left]
      have e2 : ((cs.take (es.length * sz)).drop (i * sz)).take sz = y := by rw [e1, ← hyl, List.take_left]
      rw [← e2, List.drop_take, List.take_take]
      congr 1
      have : i * sz + sz ≤ es.length * sz := by
        rw [← Nat.succ_mul]; exact Nat.mul_le_mul_right sz hil
      omega
    · have : i * sz + sz ≤ es.length * sz := by
        rw [← Nat.succ_mul]; exact Nat.mul_le_mul_right sz hil
      omega
theorem Hq.rd (h : Hq H e sz s es) {i : Nat} {y : List V} (hy : es[i]? = some y) {l : List FT} (hl : l.length = sz) {x : aggT l} (hx : decs l y = some x) {β : Type} (f : aggT l → Option β) : ((ixV sz s (i : Int)).bind fun p => (ldV (.agg l) H p).bind f) = f x := by
  obtain ⟨j, cs, hs, hj, hix, hcs, hle⟩ := h.at_ hy
  rw [hix, Option.bind_some]
  show ((((rowV H j).bind fun cs => takeN (i * sz) l.length cs).bind (decs l))).bind f = _
  rw [rowV_of hj, Option.bind_some]
  unfold takeN
  rw [hl, if_pos hle, Option.bind_some, hcs, hx, Option.bind_some]
/-- A literal of one element in an object. -/
theorem new_one (H : VH) (e : TypeId) {sz : Nat} {y : List V} (hl : y.length = sz) (hc : y.all closed1 = true) : slEs (H ++ [.row e y]) e sz (.hp H.length 0 1) = some [y.map strip1] := by
  show hpEs _ e sz H.length 0 1 = _
  unfold hpEs
  have : (H ++ [VO.row e y])[H.length]? = some (.row e y) := by simp
  rw [this]
  simp only [List.drop_zero, Nat.zero_add, Nat.one_mul]
  rw [if_pos ⟨trivial, by omega, by rw [List.take_of_length_le (by omega)]; exact hc⟩, List.take_of_length_le (by omega)]
  unfold chunk
  rw [List.take_of_length_le (by simp; omega)]
  rfl
end
end Go.Proofs.Ytmpobijkbmljdaa.Sh.V
namespace Go.Proofs.Ytmpobijkbmljdaa.Sh.V
open Go.Proofs.Ytmpobijkbmljdaa.Sh
/-! ### Texts in lists; numbers in lists -/
theorem closed_slv (e : TypeId) {s : VS} {es : List (List V)} (hs : IsE s es) : closedC (.sl e s) = true := hs.closed e
theorem strs_get {l : List Key} {i : Nat} {x : Key} (h : l[i]? = some x) : (strs l)[i]? = some [sk x] := by simp [strs, h]
theorem strs_app (a b : List Key) : strs (a ++ b) = strs a ++ strs b := by simp [strs]
theorem isT_rd {s : VS} {l : List Key} (h : IsT s l) {i : Nat} {x : Key} (hx : l[i]? = some x) (H : VH) {β : Type} (f : ByteArray → Option β) : ((ixV 1 s (i : Int)).bind fun p => (ldV (.flat .str) H p).bind f) = f ⟨x.toArray⟩ := by
  rw [h.ix (strs_get hx) 1, Option.bind_some]
  rfl
theorem isT_len {s : VS} {l : List Key} (h : IsT s l) : s.len = l.length := by rw [h.len, strs_len]
theorem less_of (x y : Key) : strLt ⟨x.toArray⟩ ⟨y.toArray⟩ = decide (x < y) := by
  unfold strLt
  rw [Go.ByteArray.toList_mk, Go.ByteArray.toList_mk, Bool.eq_iff_iff, less_iff, decide_eq_true_eq]
def ints (l : List Int) : List (List V) := l.map fun x => [ik x]
theorem ints_len (l : List Int) : (ints l).length = l.length := by simp [ints]
theorem ints_get {l : List Int} {i : Nat} {x : Int} (h : l[i]? = some x) : (ints l)[i]? = some [ik x] := by simp [ints, h]
theorem ints_app (a b : List Int) : ints (a ++ b) = ints a ++ ints b := by simp [ints]
/-- Numbers that stay. -/
abbrev IsI (s : VS) (l : List Int) : Prop := IsE s (ints l)
theorem isI_rd {s : VS} {l : List Int} (h : IsI s l) {i : Nat} {x : Int} (hx : l[i]? = some x) (H : VH) {β : Type} (f : Int → Option β) : ((ixV 1 s (i : Int)).bind fun p => (ldV (.flat (.int .i64)) H p).bind f) = f x := by
  rw [h.ix (ints_get hx) 1, Option.bind_some]
  show (V.fdec (.int .i64) (ik x)).bind f = _
  rw [fd_int]; rfl
theorem isI_len {s : VS} {l : List Int} (h : IsI s l) : s.len = l.length := by rw [h.len, ints_len]
/-! ### Texts that rise, each once -/
def insR (x : Key) : List Key → List Key
  | [] => [x]
  | o :: r => if x < o then x :: o :: r else if x = o then o :: r else o :: insR x r
def riseS (l : List Key) : List Key := l.foldl (fun out x => insR x out) []
theorem mem_insR (x y : Key) : ∀ l, y ∈ insR x l ↔ y = x ∨ y ∈ l
  | [] => by simp [insR]
  | o :: r => by
    unfold insR
    split
    · simp
    · split
      · rename_i h; subst h; simp
      · simp only [List.mem_cons, mem_insR x y r]
        constructor
        · rintro (h | h | h)
          · exact .inr (.inl h)
          · exact .inl h
          · exact .inr (.inr h)
        · rintro (h | h | h)
          · exact .inr (.inl h)
          · exact .inl h
          · exact .inr (.inr h)
theorem lt_of_not {x y : Key} (h1 : ¬ x < y) (h2 : x ≠ y) : y < x := by
  have : y ≤ x := h1
  rcases List.le_iff_lt_or_eq.1 this with h | h
  · exact h
  · exact absurd h.symm h2
theorem insR_sorted (x : Key) : ∀ l, l.Pairwise (fun a b => a < b) → (insR x l).Pairwise (fun a b => a < b)
  | [], _ => by simp [insR]
  | o :: r, h => by
    rw [List.pairwise_cons] at h
    unfold insR
    split
    · rename_i hx
      rw [List.pairwise_cons]
      refine ⟨fun y hy => ?_, List.pairwise_cons.2 h⟩
      rcases List.mem_cons.1 hy with rfl | hy
      · exact hx
      · exact List.lt_trans hx (h.1 y hy)
    · rename_i hx
      split
      · exact List.pairwise_cons.2 h
      · rename_i hne
        rw [List.pairwise_cons]
        refine ⟨fun y hy => ?_, insR_sorted x r h.2⟩
        rcases (mem_insR x y r).1 hy with rfl | hy
        · exact lt_of_not hx hne
        · exact h.1 y hy
theorem foldl_insR : ∀ (l out : List Key), out.Pairwise (fun a b => a < b) → (l.foldl (fun out x => insR x out) out).Pairwise (fun a b => a < b) ∧ ∀ y, y ∈ l.foldl (fun out x => insR x out) out ↔ y ∈ l ∨ y ∈ out
  | [], out, h => ⟨h, by simp⟩
  | x :: l, out, h => by
    obtain ⟨h1, h2⟩ := foldl_insR l (insR x out) (insR_sorted x out h)
    refine ⟨h1, fun y => ?_⟩
    rw [List.foldl_cons, h2, mem_insR, List.mem_cons]
    constructor
    · rintro (h | h | h)
      · exact .inl (.inr h)
      · exact .inl (.inl h)
      · exact .inr h
    · rintro ((h | h) | h)
      · exact .inr (.inl h)
      · exact .inl h
      · exact .inr (.inr h)
theorem riseS_sorted (l : List Key) : (riseS l).Pairwise (fun a b => a < b) := (foldl_insR l [] .nil).1
theorem mem_riseS {l : List Key} {y : Key} : y ∈ riseS l ↔ y ∈ l := by
  have := (foldl_insR l [] .nil).2 y
  simpa [riseS] using this
theorem riseS_nodup (l : List Key) : (riseS l).Nodup := (riseS_sorted l).imp fun h e => by subst e; exact List.lt_irrefl _ h
theorem riseS_le (l : List Key) : (riseS l).Pairwise (fun a b => a ≤ b) := (riseS_sorted l).imp fun h => List.le_of_lt h
theorem insR_len (x : Key) : ∀ l, (insR x l).length ≤ l.length + 1
  | [] => by simp [insR]
  | o :: r => by
    unfold insR
    split
    · simp
    · split
      · simp
      · have := insR_len x r
        simp only [List.length_cons]; omega
theorem foldl_insR_len : ∀ (l out : List Key), (l.foldl (fun out x => insR x out) out).length ≤ out.length + l.length
  | [], out => by simp
  | x :: l, out => by
    have h1 := foldl_insR_len l (insR x out)
    have h2 := insR_len x out
    simp only [List.foldl_cons, List.length_cons]; omega
theorem riseS_len (l : List Key) : (riseS l).length ≤ l.length := by
  have := foldl_insR_len l []
  simpa [riseS] using this
theorem sort_rise {ks l : List Key} (hn : ks.Nodup) (h : ∀ y, y ∈ ks ↔ y ∈ l) : sortK ks = riseS l :=
  sortK_eq ((List.perm_ext_iff_of_nodup hn (riseS_nodup l)).2 fun y => by rw [h, mem_riseS]) (riseS_le l)
end Go.Proofs.Ytmpobijkbmljdaa.Sh.V
namespace Go.Proofs.Ytmpobijkbmljdaa.Sh.V
open Go.Proofs.Ytmpobijkbmljdaa.Sh
/-! ### What stays when a slice grows: all but the tokens of its type -/
def Gx (e : TypeId) (H H' : VH) : Prop := ∀ (i : Nat) (o : VO), H[i]? = some o → (∀ g, o ≠ VO.tok e g) → H'[i]? = some o
/-- Rows stay. -/
def Rx (H H' : VH) : Prop := ∀ (i : Nat) (T : TypeId) (cs : List V), H[i]? = some (VO.row T cs) → H'[i]? = some (VO.row T cs)
theorem Gx.refl (e : TypeId) (H : VH) : Gx e H H := fun _ _ h _ => h
theorem Gx.trans {e : TypeId} {H H1 H2 : VH} (a : Gx e H H1) (b : Gx e H1 H2) : Gx e H H2 := fun i o h ho => b i o (a i o h ho) ho
theorem Gx.rx {e : TypeId} {H H' : VH} (a : Gx e H H') : Rx H H' := fun i T cs h => a i _ h (fun g he => by cases he)
theorem Rx.refl (H : VH) : Rx H H := fun _ _ _ h => h
theorem Rx.trans {H H1 H2 : VH} (a : Rx H H1) (b : Rx H1 H2) : Rx H H2 := fun i T cs h => b i T cs (a i T cs h)
theorem Gx.app (e : TypeId) (H l : VH) : Gx e H (H ++ l) := fun i o h _ => by rw [List.getElem?_append_left (List.getElem?_eq_some_iff.1 h).1]; exact h
theorem Rx.app (H l : VH) : Rx H (H ++ l) := fun i T cs h => by rw [List.getElem?_append_left (List.getElem?_eq_some_iff.1 h).1]; exact h
theorem Aq.gx {e e' : TypeId} {H H' : VH} {s : VS} {es : List (List V)} (h : Aq H e' s es) (g : Gx e H H') (he : e' ≠ e) : Aq H' e' s es := by
  cases h with
  | nil => exact .nil
  | lit es => exact .lit es
  | tok es t g1 ht => exact .tok es t g1 (g t _ ht (fun g2 h2 => by injection h2 with h2 _; exact he h2))
theorem Aq.hap {H : VH} {e : TypeId} {s : VS} {es : List (List V)} (h : Aq H e s es) (l : VH) : Aq (H ++ l) e s es := by
  cases h with
  | nil => exact .nil
  | lit es => exact .lit es
  | tok es t g1 ht => exact .tok es t g1 (by rw [List.getElem?_append_left (List.getElem?_eq_some_iff.1 ht).1]; exact ht)
theorem Kp.gx {H H' : VH} {e : TypeId} {X : List Nat} (k : Kp H H' X) (hX : ∀ t ∈ X, ∃ g, H[t]? = some (.tok e g)) : Gx e H H' := fun i o h ho => by
  rw [k.at_ i (List.getElem?_eq_some_iff.1 h).1 (fun hi => ?_)]
  · exact h
  · obtain ⟨g, hg⟩ := hX i hi
    rw [h] at hg
    injection hg with hg
    exact ho g hg
theorem Aq.push {A : Type} (enc : A → List V) {H : VH} {sz by_ : Nat} {e : TypeId} {s : VS} {l : List A} (h : Aq H e s (l.map enc)) (x : A) (hb : by_ ≤ 1000) (hl : l.length < 1000000000) :
    ∃ s' H', appD true H sz by_ e s (.fz [enc x] (.ex 1)) = some (s', H') ∧ Aq H' e s' ((l ++ [x]).map enc) ∧ Gx e H H' := by
  have hb1 : (l.length + 1) * by_ ≤ (l.length + 1) * 1000 := Nat.mul_le_mul_left _ hb
  obtain ⟨s', H', g1, g2, g3, g4⟩ := h.appE (sz := sz) (by_ := by_) (x := .fz [enc x] (.ex 1)) (.fz _ _) (by rw [List.length_map]; simp only [bound, List.length_singleton]; omega) (by rw [List.length_map]; simp only [bound, List.length_singleton]; omega)
  refine ⟨s', H', g1, ?_, g3.gx fun t ht => h.tok_at ht⟩
  rw [List.map_append]
  exact g2
/-- Appending a list that stays. -/
theorem Aq.pushs {A : Type} (enc : A → List V) {H : VH} {sz by_ : Nat} {e : TypeId} {s x : VS} {l r : List A} (h : Aq H e s (l.map enc)) (hx : IsE x (r.map enc)) (hb : by_ ≤ 1000) (hl : l.length + r.length < 1000000000) :
    ∃ s' H', appD true H sz by_ e s x = some (s', H') ∧ Aq H' e s' ((l ++ r).map enc) ∧ Gx e H H' := by
  have hb1 : (l.length + r.length) * by_ ≤ (l.length + r.length) * 1000 := Nat.mul_le_mul_left _ hb
  obtain ⟨s', H', g1, g2, g3, g4⟩ := h.appE (sz := sz) (by_ := by_) hx (by rw [List.length_map, List.length_map]; simp only [bound]; omega) (by rw [List.length_map, List.length_map]; simp only [bound]; omega)
  refine ⟨s', H', g1, ?_, g3.gx fun t ht => h.tok_at ht⟩
  rw [List.map_append]
  exact g2
def i1 (x : Int) : List V := [ik x]
def k1 (x : Key) : List V := [sk x]
theorem ints_i1 (l : List Int) : ints l = l.map i1 := rfl
theorem strs_k1 (l : List Key) : strs l = l.map k1 := rfl
theorem putAllV_eq : ∀ (vs cs : List V) (k : Nat), k + vs.length ≤ cs.length → putAllV cs k vs = cs.take k ++ vs ++ cs.drop (k + vs.length)
  | [], cs, k, _ => by
    show cs = _
    simp
  | v :: vs, cs, k, h => by
    simp only [List.length_cons] at h
    show putAllV (cs.set k v) (k + 1) vs = _
    rw [putAllV_eq vs _ _ (by rw [List.length_set]; omega), List.drop_set_of_lt (by omega), List.set_eq_take_append_cons_drop, if_pos (by omega)]
    rw [List.take_append, List.length_take, Nat.min_eq_left (by omega), show k + 1 - k = 1 by omega, List.take_of_length_le (by rw [List.length_take]; omega)]
    simp [Nat.add_assoc, Nat.add_comm 1]
/-- A box that is made and filled: what there was stays. -/
theorem box_kp (H : VH) (T : TypeId) {zs cs : List V} (hl : zs.length = cs.length) (h1 : onesV cs = true) {H' : VH} (h : stV (H ++ [.row T zs]) (.ob H.length 0) cs = some H') : Kp H H' [] := by
  have hp : (H ++ [VO.row T zs])[H.length]? = some (.row T zs) := by simp
  rw [st_row hp (by omega) h1] at h
  injection h with h
  rw [← h]
  refine ⟨by simp, fun i hi _ => ?_⟩
  rw [List.getElem?_set_ne (by omega), List.getElem?_append_left hi]
/-- A box that is made and filled. -/
theorem box_new (H : VH) (T : TypeId) {zs cs : List V} (hl : zs.length = cs.length) (h1 : onesV cs = true) : ∃ H', stV (H ++ [.row T zs]) (.ob H.length 0) cs = some H' ∧ H'[H.length]? = some (.row T cs) ∧ (∀ e, Gx e H H') ∧ (∀ e s es, Aq H e s es → Aq H' e s es) := by
  have hp : (H ++ [VO.row T zs])[H.length]? = some (.row T zs) := by simp
  refine ⟨(H ++ [VO.row T zs]).set H.length (.row T cs), ?_, ?_, ?_, ?_⟩
  · rw [st_row hp (by omega) h1]
    rw [putAllV_eq _ _ _ (by omega)]
    simp [hl]
  · rw [List.getElem?_set_self (by simp)]
  · intro e i o h ho
    rw [List.getElem?_set_ne (by have := (List.getElem?_eq_some_iff.1 h).1; omega), List.getElem?_append_left (List.getElem?_eq_some_iff.1 h).1]
    exact h
  · intro e s es h
    cases h with
    | nil => exact .nil
    | lit es => exact .lit es
    | tok es t g1 ht =>
      refine .tok es t g1 ?_
      rw [List.getElem?_set_ne (by have := (List.getElem?_eq_some_iff.1 ht).1; omega), List.getElem?_append_left (List.getElem?_eq_some_iff.1 ht).1]
      exact ht
theorem dec_sb (e : TypeId) (s : VS) (b : Bool) : dec (.tup [.flat (.slice e), .flat .bool]) (.tup [.sl e s, .bool b]) = some (s, b, ()) := by
  show (fdec (.slice e) (.sl e s)).bind (fun x => (decT [.flat .bool] [.bool b]).map fun y => (x, y)) = _
  rw [fd_sl]; rfl
theorem dec_ss (e e' : TypeId) (s s' : VS) : dec (.tup [.flat (.slice e), .flat (.slice e')]) (.tup [.sl e s, .sl e' s']) = some (s, s', ()) := by
  show (fdec (.slice e) (.sl e s)).bind (fun x => ((fdec (.slice e') (.sl e' s')).bind fun z => (decT [] []).map fun y => (z, y)).map fun y => (x, y)) = _
  rw [fd_sl, fd_sl]; rfl
end Go.Proofs.Ytmpobijkbmljdaa.Sh.V
