/- A shadow of the machine: an interpreter of the same code over an abstract heap; the machine follows it (eF_sound). Nothing is asked of the program but what TabOK says. -/
import Derived.Below
import Derived.OrdersHeld
import Derived.Scope
import Derived.KernelRfl
import Derived.Laws.Sem
import Derived.StillTail
import Derived.Deep.Draws
import Derived.Deep.AppendSrc
import Derived.Laws.Entries
import Derived.Laws.Cells
import Derived.MapKept
import Derived.Deep.Upon
import Derived.Laws.MakeOwn
import Derived.Laws.IdiomStrings
import Derived.Laws.BytesString
import Derived.Maps.OwnSet
import Derived.Lib.Builder
import Derived.Lib.UnsafeStr
import Derived.LoopN
import Derived.Tactics
import Derived.IntWalk
set_option linter.unusedVariables false
set_option linter.unusedSimpArgs false
namespace Go.Proofs.Ytmpobijkbmljdaa.Sh

/-! The shadow machine: an interpreter over the model's own code, on a heap of numbered objects: no tape, no capacities. -/

/-- A slice's value, as it is carried about: its address (object, place), its length, and what is known of its capacity (0: nothing; k + 1: it is k). -/
structure Sl where
  a : Option Addr
  n : Nat
  c : Nat

/-- A flat type: what one cell holds. -/
inductive FT where
  | int (k : IntKind) | bool | str | ptr | slice | map | flt (k : FloatKind) | any
@[reducible] def FT.T : FT → Type
  | .int _ => Int | .bool => Bool | .str => ByteArray | .ptr => Option Addr | .slice => Sl | .map => Option Nat | .flt _ => Nat | .any => Value
def fenc : (τ : FT) → τ.T → Value
  | .int k, x => .int k x
  | .bool, x => .bool x
  | .str, x => .string x
  | .ptr, x => .pointer x
  | .slice, x => .slice x.a x.n x.c
  | .map, x => .map x
  | .flt k, x => .float k x
  | .any, x => x
def fdec : (τ : FT) → Value → Option τ.T
  | .int k, .int j x => if j = k then some x else none
  | .bool, .bool x => some x
  | .str, .string x => some x
  | .ptr, .pointer x => some x
  | .slice, .slice a n c => some ⟨a, n, c⟩
  | .map, .map x => some x
  | .flt k, .float j x => if j = k then some x else none
  | .any, x => some x
  | _, _ => none
@[reducible] def aggT : List FT → Type
  | [] => Unit
  | τ :: l => τ.T × aggT l
def encs : (l : List FT) → aggT l → List Value
  | [], _ => []
  | τ :: l, x => fenc τ x.1 :: encs l x.2
def decs : (l : List FT) → List Value → Option (aggT l)
  | [], [] => some ()
  | τ :: l, v :: vs => (fdec τ v).bind fun x => (decs l vs).map fun y => (x, y)
  | _, _ => none
inductive Ty1 where
  | flat (τ : FT) | agg (l : List FT)
@[reducible] def Ty1.T : Ty1 → Type
  | .flat τ => τ.T | .agg l => aggT l
def enc1 : (τ : Ty1) → τ.T → Value
  | .flat τ, x => fenc τ x
  | .agg l, x => .agg ⟨encs l x⟩
def dec1 : (τ : Ty1) → Value → Option τ.T
  | .flat τ, v => fdec τ v
  | .agg l, .agg ⟨vs⟩ => decs l vs
  | _, _ => none
@[reducible] def tupT : List Ty1 → Type
  | [] => Unit
  | τ :: l => τ.T × tupT l
def encT : (l : List Ty1) → tupT l → List Value
  | [], _ => []
  | τ :: l, x => enc1 τ x.1 :: encT l x.2
def decT : (l : List Ty1) → List Value → Option (tupT l)
  | [], [] => some ()
  | τ :: l, v :: vs => (dec1 τ v).bind fun x => (decT l vs).map fun y => (x, y)
  | _, _ => none
inductive Ty where
  | one (τ : Ty1) | tup (l : List Ty1)
@[reducible] def Ty.T : Ty → Type
  | .one τ => τ.T | .tup l => tupT l
def enc : (τ : Ty) → τ.T → Value
  | .one τ, x => enc1 τ x
  | .tup l, x => .tuple ⟨encT l x⟩
def dec : (τ : Ty) → Value → Option τ.T
  | .one τ, v => dec1 τ v
  | .tup l, .tuple ⟨vs⟩ => decT l vs
  | _, _ => none

theorem enc_fdec {τ : FT} {v : Value} {x : τ.T} (h : fdec τ v = some x) : fenc τ x = v := by
  cases τ <;> cases v <;> simp [fdec] at h <;> first
    | (subst h; rfl)
    | (obtain ⟨rfl, rfl⟩ := h; rfl)
theorem enc_decs : ∀ {l : List FT} {vs : List Value} {x : aggT l}, decs l vs = some x → encs l x = vs
  | [], [], _, _ => rfl
  | [], _ :: _, _, h => by simp [decs] at h
  | _ :: _, [], _, h => by simp [decs] at h
  | τ :: l, v :: vs, x, h => by
    simp only [decs, Option.bind_eq_some_iff, Option.map_eq_some_iff] at h
    obtain ⟨y, hy, z, hz, rfl⟩ := h
    simp only [encs, enc_fdec hy, enc_decs hz]
theorem enc_dec1 {τ : Ty1} {v : Value} {x : τ.T} (h : dec1 τ v = some x) : enc1 τ x = v := by
  cases τ with
  | flat τ => exact enc_fdec h
  | agg l =>
    cases v <;> simp [dec1] at h
    rename_i a
    obtain ⟨vs⟩ := a
    simp only [enc1, enc_decs h]
theorem enc_decT : ∀ {l : List Ty1} {vs : List Value} {x : tupT l}, decT l vs = some x → encT l x = vs
  | [], [], _, _ => rfl
  | [], _ :: _, _, h => by simp [decT] at h
  | _ :: _, [], _, h => by simp [decT] at h
  | τ :: l, v :: vs, x, h => by
    simp only [decT, Option.bind_eq_some_iff, Option.map_eq_some_iff] at h
    obtain ⟨y, hy, z, hz, rfl⟩ := h
    simp only [encT, enc_dec1 hy, enc_decT hz]
theorem enc_dec {τ : Ty} {v : Value} {x : τ.T} (h : dec τ v = some x) : enc τ x = v := by
  cases τ with
  | one τ => exact enc_dec1 h
  | tup l =>
    cases v <;> simp [dec] at h
    rename_i a
    obtain ⟨vs⟩ := a
    simp only [enc, enc_decT h]
end Go.Proofs.Ytmpobijkbmljdaa.Sh
namespace Go.Proofs.Ytmpobijkbmljdaa.Sh

/-! ### The heap -/
/-- The kinds of keys: whole numbers of a kind, texts. -/
inductive KK where
  | int (q : IntKind) | str
def KK.is : KK → KK → Bool
  | .int a, .int b => decide (a = b)
  | .str, .str => true
  | _, _ => false
def kkOf (P : Program) (k : TypeId) : Option KK :=
  match P.underlying k with
  | some (.int q) => some (.int q)
  | some .string => some .str
  | _ => none
/-- Is a value a key of this kind? -/
def keyK : KK → Value → Bool
  | .int q, .int q' _ => decide (q' = q)
  | .str, .string _ => true
  | _, _ => false
/-- .. and in its bounds. -/
def keyOK : KK → Value → Bool
  | .int q, .int q' n => decide (q' = q) && (Lit.int q n).wf
  | .str, .string s => decide (s.size ≤ 9223372036854775807)
  | _, _ => false
def keq : Value → Value → Bool
  | .int _ a, .int _ b => a == b
  | .string a, .string b => a == b
  | _, _ => false
def findM (k : Value) : List (Value × Value) → Option (Nat × Value)
  | [] => none
  | (k', v) :: r => cond (keq k k') (some (0, v)) ((findM k r).map fun p => (p.1 + 1, p.2))
def putM (k v : Value) (es : List (Value × Value)) : List (Value × Value) :=
  match findM k es with
  | some (j, _) => es.set j (k, v)
  | none => es ++ [(k, v)]
def cutM (k : Value) (es : List (Value × Value)) : List (Value × Value) :=
  match findM k es with
  | some (j, _) => es.eraseIdx j
  | none => es
/-- An object: what is dead is not looked into any more; a row of cells (may it be written?); a row whose cells stay, behind whose end may be appended; a map. -/
inductive Ob where
  | dead
  | row (rw : Bool) (e : TypeId) (cs : List Value)
  | app (e : TypeId) (cs : List Value)
  | map (q : KK) (es : List (Value × Value))
abbrev Heap := List Ob
/-- A variable's own row (no slice's): its type, marked. -/
def boxK : Nat := 1000000
def unbox (e : TypeId) : TypeId := if boxK ≤ e then e - boxK else e
abbrev Res := Option (Value × Heap)

/-- The value of an operation that was surely not carried out. -/
def skipped : Value := .tuple ⟨[.tuple ⟨[]⟩]⟩
def isSkip : List Value → Bool
  | [.tuple ⟨[]⟩] => true
  | _ => false
def at_ (a : Addr) (n : Nat) : Addr := ⟨a.block, a.off + n, none⟩
/-- The cells of a row. -/
def rowOf (h : Heap) (i : Nat) : Option (List Value) :=
  match h[i]? with
  | some (.row _ _ cs) => some cs
  | some (.app _ cs) => some cs
  | _ => none
def cellsAt (h : Heap) (a : Addr) (n : Nat) : Option (List Value) :=
  (rowOf h a.block).bind fun cs => if a.off + n ≤ cs.length then some ((cs.drop a.off).take n) else none
def ld1 : (τ : Ty1) → Heap → Addr → Option τ.T
  | .flat τ, h, a => ((rowOf h a.block).bind fun cs => cs[a.off]?).bind (fdec τ)
  | .agg l, h, a => (cellsAt h a l.length).bind (decs l)
def ones (vs : List Value) : Bool := vs.all (·.oneCell')
def putAll : List Value → Nat → List Value → List Value
  | cs, _, [] => cs
  | cs, k, v :: vs => putAll (cs.set k v) (k + 1) vs
def stV (h : Heap) (a : Addr) (vs : List Value) : Option Heap :=
  match h[a.block]? with
  | some (.row true t cs) => if a.off + vs.length ≤ cs.length ∧ ones vs = true then some (h.set a.block (.row true t (putAll cs a.off vs))) else none
  | _ => none
/-- The elements' cells of a slice. -/
def slCells (h : Heap) (sz : Nat) (s : Sl) : Option (List Value) :=
  match s.a with
  | none => if s.n = 0 then some [] else none
  | some a => if s.n = 0 then some [] else cellsAt h a (s.n * sz)
/-- Held till the heap is known: the kernel is not to look into it before. -/
def hold {α : Type} (h : Heap) (x : Option α) : Option α :=
  match h with
  | [] => x
  | _ :: _ => x
@[simp] theorem hold_eq {α : Type} (h : Heap) (x : Option α) : hold h x = x := by cases h <;> rfl
/-- 'append': nothing to append; no room for sure: a new row; the row's end: it moves (what named it before is dead); room for sure: it is written. -/
def appV (h : Heap) (sz : Nat) (e : TypeId) (s : Sl) (m : Nat) (news : List Value) : Option (Sl × Heap) :=
  if m = 0 then some (s, h) else
  match s.a with
  | none => if s.n = 0 ∧ s.c = 0 then some (⟨some ⟨h.length, 0, none⟩, m, 0⟩, h ++ [.row true e news]) else none
  | some a =>
    if s.c ≠ 0 then
      if s.c - 1 < s.n + m then (slCells h sz s).bind fun old => some (⟨some ⟨h.length, 0, none⟩, s.n + m, 0⟩, h ++ [.row true e (old ++ news)]) else none
    else match h[a.block]? with
      | some (.row true z cs) =>
        if z ≠ e then none
        else if a.off + s.n * sz = cs.length then some (⟨some ⟨h.length, 0, none⟩, s.n + m, 0⟩, h.set a.block .dead ++ [.row true e (cs.drop a.off ++ news)])
        else if a.off + s.n * sz ≤ cs.length then some (⟨some ⟨h.length, 0, none⟩, s.n + m, 0⟩, h.set a.block .dead ++ [.row true e ((cs.take (a.off + s.n * sz)).drop a.off ++ news)])
        else none
      | _ => none
/-- 'append', by which what there was stays: the old row is only read from now on, the new one may be appended to. -/
def appK (h : Heap) (sz : Nat) (e : TypeId) (s : Sl) (m : Nat) (news : List Value) : Option (Sl × Heap) :=
  if m = 0 then some (s, h) else
  match s.a with
  | none => if s.n = 0 ∧ s.c = 0 then some (⟨some ⟨h.length, 0, none⟩, m, 0⟩, h ++ [.app e news]) else none
  | some a =>
    if s.c ≠ 0 then
      if s.c - 1 < s.n + m then (slCells h sz s).bind fun old => some (⟨some ⟨h.length, 0, none⟩, s.n + m, 0⟩, h ++ [.app e (old ++ news)]) else none
    else match h[a.block]? with
      | some (.row true z cs) =>
        if z ≠ e then none
        else if a.off + s.n * sz = cs.length then some (⟨some ⟨h.length, 0, none⟩, s.n + m, 0⟩, h.set a.block (.row false z cs) ++ [.app e (cs.drop a.off ++ news)])
        else none
      | some (.app z cs) =>
        if z ≠ e then none
        else if a.off + s.n * sz = cs.length then some (⟨some ⟨h.length, 0, none⟩, s.n + m, 0⟩, h.set a.block (.row false z cs) ++ [.app e (cs.drop a.off ++ news)])
        else none
      | _ => none
def appX (keep : Bool) (h : Heap) (sz : Nat) (e : TypeId) (s : Sl) (m : Nat) (news : List Value) : Option (Sl × Heap) :=
  cond keep (appK h sz e s m news) (appV h sz e s m news)
def bound : Int := 140737488355328
def appD (keep : Bool) (h : Heap) (sz by_ : Nat) (e : TypeId) (s x : Sl) : Option (Sl × Heap) :=
  hold h <| if (((s.n + x.n) * by_ : Nat) : Int) ≤ bound ∧ ((s.n + x.n : Nat) : Int) ≤ bound then (slCells h sz x).bind fun news => appX keep h sz e s x.n news else none
def byteVals (s : ByteArray) : List Value := s.data.toList.map fun b => .int .u8 b.toNat
def appS (keep : Bool) (h : Heap) (e : TypeId) (s : Sl) (x : ByteArray) : Option (Sl × Heap) :=
  hold h <| if ((s.n + x.size : Nat) : Int) ≤ bound then appX keep h 1 e s x.size (byteVals x) else none
/-- A slice of a slice: the bounds; 'unknown' capacities reach at least as far as the row's cells are known. -/
def inB (x : Int) (y : Nat) : Option Nat := if 0 ≤ x ∧ x ≤ y then some x.toNat else none
def bd (d : Nat) (x : Option Int) (y : Nat) : Option Nat := match x with | none => some d | some x => inB x y
def capCut (there full : Bool) (c m l : Nat) : Nat := cond there (cond full (m - l + 1) (if c = 0 then 0 else c - l)) 0
def capOf (h : Heap) (sz : Nat) (e : TypeId) (s : Sl) : Option Nat :=
  match s.a with
  | none => if s.n = 0 ∧ s.c = 0 then some 0 else none
  | some a => if s.c ≠ 0 then some (s.c - 1) else
    match h[a.block]? with
    | some (.row _ z cs) => if z = e then some (max s.n ((cs.length - a.off) / sz)) else none
    | some (.app z cs) => if z = e then some (max s.n ((cs.length - a.off) / sz)) else none
    | _ => none
def cutD (h : Heap) (sz : Nat) (e : TypeId) (s : Sl) (lo hi mx : Option Int) : Option Sl :=
  hold h <| (capOf h sz e s).bind fun cp =>
  (bd cp mx cp).bind fun m =>
  (bd s.n hi m).bind fun hh =>
  (bd 0 lo hh).bind fun l =>
    some ⟨s.a.map fun a => at_ a (l * sz), hh - l, capCut s.a.isSome mx.isSome s.c m l⟩
def cutS (s : ByteArray) (lo hi : Option Int) : Option ByteArray :=
  (bd s.size hi s.size).bind fun hh =>
  (bd 0 lo hh).bind fun l => some (s.extract l hh)
def ixA (s : Sl) (sz : Nat) (x : Int) : Option Addr :=
  s.a.bind fun a => if 0 ≤ x ∧ x < s.n then some (at_ a (x.toNat * sz)) else none
def ixS (s : ByteArray) (x : Int) : Option Int := (if 0 ≤ x then s[x.toNat]? else none).map fun b => (b.toNat : Int)
def bytesOfVals : List Value → Option (List UInt8)
  | [] => some []
  | .int .u8 n :: r => (bytesOfVals r).map fun l => UInt8.ofNat n.toNat :: l
  | _ :: _ => none
/-- A string of a slice of bytes. -/
def strD (h : Heap) (s : Sl) : Option ByteArray :=
  (slCells h 1 s).bind fun cs => (bytesOfVals cs).map fun l => ⟨l.toArray⟩
def quoI (k : IntKind) (x y : Int) : Option Int := if y = 0 then none else some (k.wrap (x.tdiv y))
def remI (x y : Int) : Option Int := if y = 0 then none else some (x.tmod y)
def shlI (k : IntKind) (x y : Int) : Option Int := if y < 0 then none else some (k.wrap (x * 2 ^ (min y.toNat k.bits)))
def shrI (k : IntKind) (x y : Int) : Option Int := if y < 0 then none else some (x.fdiv (2 ^ (min y.toNat k.bits)))
def bitI (op : BinOp) (k : IntKind) (x y : Int) : Int :=
  let a := BitVec.ofInt k.bits x
  let b := BitVec.ofInt k.bits y
  k.wrap (match op with | .and => a &&& b | .or => a ||| b | .xor => a ^^^ b | _ => a &&& ~~~b : BitVec k.bits).toNat
def strEq (x y : ByteArray) : Bool := x.toList == y.toList
def strLt (x y : ByteArray) : Bool := Op.bytesLess x.toList y.toList
def catS (x y : ByteArray) : Option ByteArray := if x.size + y.size ≤ 9223372036854775807 then some (x ++ y) else none

/-! ### Types -/
def ftOf (P : Program) (t : TypeId) : FT :=
  match P.underlying t with
  | some (.int k) => .int k | some .bool => .bool | some .string => .str | some (.pointer _) => .ptr
  | some (.slice _) => .slice | some (.map _ _) => .map | some (.float k) => .flt k | _ => .any
def cellFTs (P : Program) : Nat → TypeId → List FT
  | 0, _ => []
  | d + 1, t => match P.underlying t with
    | some (.struct fs) => fs.toList.flatMap fun f => cellFTs P d f.type
    | some (.array n e) => (List.replicate n (cellFTs P d e)).flatten
    | _ => [ftOf P t]
def ty1Of (P : Program) (t : TypeId) : Ty1 :=
  match P.underlying t with
  | some (.struct _) | some (.array _ _) => .agg (cellFTs P 20 t)
  | _ => .flat (ftOf P t)
def tyOf (P : Program) (t : TypeId) : Ty :=
  match P.underlying t with
  | some (.tuple ts) => .tup (ts.toList.map (ty1Of P))
  | _ => .one (ty1Of P t)
def isStr (P : Program) (t : TypeId) : Bool := match P.underlying t with | some .string => true | _ => false
def elemOf? (P : Program) (t : TypeId) : Option TypeId := match P.underlying t with | some (.slice e) => if e < boxK then some e else none | _ => none

/-! ### Operations -/
/-- Without addresses, at the top. -/
def plainV : Value → Bool
  | .bool _ | .int _ _ | .float _ _ | .string _ | .pointer none | .map none | .nilFunc | .nilIface => true
  | .slice none n c => n == 0 && c == 0
  | .func _ ⟨[]⟩ ⟨[]⟩ => true
  | _ => false
def isTup : Value → Bool
  | .tuple _ => true
  | _ => false
def plainVs : List Value → Bool
  | [] => true
  | v :: vs => plainV v && plainVs vs
def plainC : Value → Bool
  | .agg ⟨vs⟩ => plainVs vs
  | v => plainV v
def pv {α : Type} (P : Program) : Sem α → Option α
  | .pure a => some a
  | .program k => pv P (k P)
  | _ => none
def ev (t : List Value) : Operand → Option Value
  | .tmp i => some (t.getD i undef)
  | .const v => if plainC v = true then some v else none
  | .func f => some (.func (.func f) #[] #[])
  | .global _ => none
def evs (t : List Value) : List Operand → Option (List Value)
  | [] => some []
  | x :: r => (ev t x).bind fun v => (evs t r).map fun vs => v :: vs
def put (t : List Value) : Option Tmp → Value → List Value
  | some d, v => t.set d v
  | none, _ => t
def isNilTy : TypeDesc → Bool
  | .pointer _ | .slice _ | .map _ _ => true
  | _ => false
/-- A value that only the model's own reckoning gives, without a world. -/
def pvD (P : Program) (τ : FT) (m : Sem Value) : Option τ.T := (pv P m).bind fun v => if plainV v = true then fdec τ v else none
def cmpI (op : BinOp) (x y : Int) : Option Bool :=
  match op with
  | .eql => some (x == y) | .neq => some (x != y) | .lss => some (decide (x < y)) | .leq => some (decide (x ≤ y)) | .gtr => some (decide (x > y)) | .geq => some (decide (x ≥ y))
  | _ => none
/-- Are two pointers alike? (Only where it is sure.) -/
def ptrEq (z : Nat) (a b : Option Addr) : Option Bool :=
  match b with
  | none => some a.isNone
  | some y => match a with
    | none => some false
    | some x => if x = y ∧ z ≠ 0 then some true else none
def eBin {β : Type} (P : Program) (op : BinOp) (T rt : TypeId) (x y : Value) (K : Value → Option β) : Option β :=
  match x, y with
  | .int k a, .int k' b =>
    match op with
    | .shl => (shlI k a b).bind fun r => K (.int k r)
    | .shr => (shrI k a b).bind fun r => K (.int k r)
    | .add => if k = k' then K (.int k (k.wrap (a + b))) else none
    | .sub => if k = k' then K (.int k (k.wrap (a - b))) else none
    | .mul => if k = k' then K (.int k (k.wrap (a * b))) else none
    | .quo => if k = k' then (quoI k a b).bind fun r => K (.int k r) else none
    | .rem => if k = k' then (remI a b).bind fun r => K (.int k r) else none
    | .and | .or | .xor | .andNot => if k = k' then K (.int k (bitI op k a b)) else none
    | _ => if k = k' then (cmpI op a b).bind fun r => K (.bool r) else none
  | .string a, .string b =>
    match op with
    | .add => (catS a b).bind fun r => K (.string r)
    | .eql => K (.bool (strEq a b))
    | .neq => K (.bool !(strEq a b))
    | .lss => K (.bool (strLt a b))
    | .leq => K (.bool (strLt a b || strEq a b))
    | .gtr => K (.bool !(strLt a b || strEq a b))
    | .geq => K (.bool !(strLt a b))
    | _ => none
  | .bool a, .bool b =>
    match P.underlying T with
    | some .bool => (match op with | .eql => K (.bool (a == b)) | .neq => K (.bool !(a == b)) | _ => none)
    | _ => none
  | .pointer a, .pointer b =>
    match P.underlying T with
    | some (.pointer e) => (ptrEq (P.cellsOf e) a b).bind fun q => (match op with | .eql => K (.bool q) | .neq => K (.bool !q) | _ => none)
    | _ => none
  | .slice a _ _, .slice none _ _ =>
    match P.underlying T with
    | some (.slice _) => (match op with | .eql => K (.bool a.isNone) | .neq => K (.bool !a.isNone) | _ => none)
    | _ => none
  | .map a, .map none =>
    match P.underlying T with
    | some (.map _ _) => (match op with | .eql => K (.bool a.isNone) | .neq => K (.bool !a.isNone) | _ => none)
    | _ => none
  | .float j a, .float k b => (pvD P (ftOf P rt) (binOp op T (.float j a) (.float k b))).bind fun r => K (fenc _ r)
  | _, _ => none
def eUn {β : Type} (P : Program) (op : UnOp) (rt : TypeId) (x : Value) (K : Value → Option β) : Option β :=
  match op, x with
  | .not, .bool b => K (.bool !b)
  | .neg, .int k n => K (.int k (k.wrap (0 - n)))
  | op, x => if plainV x = true then (pvD P (ftOf P rt) (Op.unary op x)).bind fun r => K (fenc _ r) else none
def eConv {β : Type} (P : Program) (src dst : TypeId) (x : Value) (K : Value → Option β) : Option β :=
  match P.underlying src, P.underlying dst, x with
  | some _, some (.int k), .int _ n => K (.int k (k.wrap n))
  | some _, some .string, .string s => K (.string s)
  | some _, some (.float k), .int j n => (pvD P (.flt k) (convert src dst (.int j n))).bind fun r => K (fenc _ r)
  | some _, some (.int k), .float j n => (pvD P (.int k) (convert src dst (.float j n))).bind fun r => K (fenc _ r)
  | some _, some (.float k), .float j n => (pvD P (.flt k) (convert src dst (.float j n))).bind fun r => K (fenc _ r)
  | _, _, _ => none
/-- The address of a slice's first element. -/
def sdA (a : Option Addr) (n : Nat) : Option (Option Addr) :=
  match a with
  | none => some none
  | some a => if n = 0 then none else some (some a)
def asInt? : Option Value → Option (Option Int)
  | none => some none
  | some (.int _ n) => some (some n)
  | _ => none
def evo (t : List Value) : Option Operand → Option (Option Value)
  | none => some none
  | some x => (ev t x).map some
/-- Operations that look at no memory (but for how far a row's cells are known). -/
def eQuiet (P : Program) (o : Oper) (t : List Value) (h : Heap) (K : Value → Res) : Res :=
  match o.op with
  | .move x | .assign x => (ev t x).bind K
  | .pick c a b =>
    match ev t c, ev t a, ev t b with
    | some (.bool c), some (.bool x), some (.bool y) => K (.bool (cond c x y))
    | some (.bool c), some x, some y => cond c (K x) (K y)
    | _, _, _ => none
  | .nilCheck x =>
    match ev t x with
    | some (.pointer p) => p.bind fun a => K (.pointer (some a))
    | some (.func (.func f) a b) => K (.func (.func f) a b)
    | _ => none
  | .binOp op T x y _ =>
    match ev t x, ev t y with
    | some x, some y => eBin P op T o.type x y K
    | _, _ => none
  | .unOp op _ x => (ev t x).bind fun x => eUn P op o.type x K
  | .convert src dst x => (ev t x).bind fun x => eConv P src dst x K
  | .makeFunc fn first captured =>
    match evs t first.toList, evs t captured.toList with
    | some f, some c => K (.func fn ⟨f⟩ ⟨c⟩)
    | _, _ => none
  | .fieldAddr s x f =>
    match P.underlying s, ev t x with
    | some (.struct fs), some (.pointer (some a)) =>
      match fs[f]? with
      | some fd => if P.cellsOf fd.type = 0 then none else K (.pointer (some (at_ a fd.offset)))
      | none => none
    | _, _ => none
  | .field s x f =>
    match P.underlying s, ev t x with
    | some (.struct fs), some (.agg ⟨vs⟩) =>
      match fs[f]? with
      | some fd =>
        match P.underlying fd.type with
        | some (.struct _) | some (.array _ _) => K (.agg ⟨(vs.drop fd.offset).take (P.cellsOf fd.type)⟩)
        | some _ => (vs[fd.offset]?).bind K
        | none => none
      | none => none
    | _, _ => none
  | .indexAddr T x i =>
    match elemOf? P T, ev t x, ev t i with
    | some e, some (.slice a n c), some (.int _ i) => if P.cellsOf e = 0 then none else (ixA ⟨a, n, c⟩ (P.cellsOf e) i).bind fun a => K (.pointer (some a))
    | none, some (.pointer (some a)), some (.int _ i) =>
      match P.underlying T with
      | some (.array n e) => if P.cellsOf e = 0 then none else if 0 ≤ i ∧ i < n then K (.pointer (some (at_ a (i.toNat * P.cellsOf e)))) else none
      | _ => none
    | _, _, _ => none
  | .index T x i =>
    match P.underlying T, ev t x, ev t i with
    | some .string, some (.string s), some (.int _ i) => (ixS s i).bind fun b => K (.int .u8 b)
    | _, _, _ => none
  | .slice T x lo hi mx =>
    match P.underlying T, ev t x, (evo t lo).bind asInt?, (evo t hi).bind asInt?, (evo t mx).bind asInt? with
    | some .string, some (.string s), some lo, some hi, some none => (cutS s lo hi).bind fun r => K (.string r)
    | some (.slice e), some (.slice a n c), some lo, some hi, some mx =>
      if P.cellsOf e = 0 then none else if mx.isSome && hi.isNone then none else
      (cutD h (P.cellsOf e) e ⟨a, n, c⟩ lo hi mx).bind fun r => K (.slice r.a r.n r.c)
    | some (.array n e), some (.pointer (some a)), some lo, some hi, some none =>
      if P.cellsOf e = 0 then none else (bd n hi n).bind fun hh => (bd 0 lo hh).bind fun l => K (.slice (some (at_ a (l * P.cellsOf e))) (hh - l) (n - l + 1))
    | _, _, _, _, _ => none
  | .extract x i =>
    match ev t x with
    | some (.tuple ⟨vs⟩) => _root_.cond (isSkip vs) none ((vs[i]?).bind K)
    | _ => none
  | .call { callee := .builtin .len, args := ⟨[x]⟩, argTypes := ⟨[T]⟩ } =>
    match P.underlying T, ev t x with
    | some (.slice _), some (.slice _ n _) => K (.int .i64 n)
    | some .string, some (.string s) => K (.int .i64 s.size)
    | _, _ => none
  | .call { callee := .builtin .max, args := ⟨[x, y]⟩, argTypes := _ } =>
    match ev t x, ev t y with
    | some (.int k a), some (.int _ b) => K (.int k (if b > a then b else a))
    | _, _ => none
  | .call { callee := .builtin .min, args := ⟨[x, y]⟩, argTypes := _ } =>
    match ev t x, ev t y with
    | some (.int k a), some (.int _ b) => K (.int k (if b < a then b else a))
    | _, _ => none
  | .call { callee := .builtin .unsafeSliceData, args := ⟨[x]⟩, argTypes := _ } =>
    match ev t x with
    | some (.slice a n _) => (sdA a n).bind fun p => K (.pointer p)
    | _ => none
  | _ => none
def isQuiet : Op → Bool
  | .move _ | .assign _ | .pick .. | .nilCheck _ | .binOp .. | .unOp .. | .makeFunc .. | .fieldAddr .. | .field .. | .indexAddr .. | .index .. | .slice .. | .extract .. | .convert .. => true
  | .call { callee := .builtin .len, .. } | .call { callee := .builtin .max, .. } | .call { callee := .builtin .min, .. } => true
  | _ => false
def evParts (t : List Value) : List (Nat × Operand) → Option (List (Nat × Value))
  | [] => some []
  | (i, x) :: r => (ev t x).bind fun v => (evParts t r).map fun vs => (i, v) :: vs
def zeroOf (P : Program) (t : TypeId) : Option (List Value) :=
  match (P.info? t).bind (·.zero) with
  | some z => if (plainC z && ones z.cells.toList) = true then some z.cells.toList else none
  | none => none
def fillL (place : Nat → Option (Nat × Nat)) : List Value → List (Nat × Value) → Option (List Value)
  | cells, [] => some cells
  | cells, (i, v) :: rest =>
    match place i with
    | none => none
    | some (off, size) => if v.cells.toList.length ≠ size || off + v.cells.toList.length > cells.length then none else fillL place (putAll cells off v.cells.toList) rest
def repL (n : Nat) (z : List Value) : List Value :=
  match n with
  | 0 => []
  | n + 1 => repL n z ++ z
def placesOf (P : Program) (l : List Field) : Option (List (Nat × Nat)) := l.mapM fun f => (P.info? f.type).map fun i => (f.offset, i.size)
/-- What stands around a function: the calls of others; functions without a body, by the model's own entry; those that hand their argument back. -/
structure Env where
  call : FuncId → List Value → Heap → Res
  ext : FuncId → Option (Array Value → Sem Value)
  same : FuncId → Bool
  keep : Bool
def rwRow (h : Heap) (a : Addr) : Option (TypeId × List Value) :=
  match h[a.block]? with
  | some (.row true z cs) => some (z, cs)
  | _ => none
def okTo (P : Program) (h : Heap) (u : TypeId) (a : Addr) : Option Unit :=
  (rwRow h a).bind fun q => if P.cellsOf u ≠ 0 ∧ a.off < q.2.length then some () else none
def okFrom (P : Program) (h : Heap) (u : TypeId) (a : Addr) : Option Unit :=
  (rwRow h a).bind fun q => if boxK ≤ q.1 ∧ P.cellsOf u ≠ 0 ∧ liesAt P P.depth (unbox q.1) (q.2.length / P.cellsOf (unbox q.1)) a.off u 1 = true then some () else none
def unsafeStrD (P : Program) (h : Heap) (e : TypeId) (a : Addr) (n : Int) : Option (ByteArray × Heap) :=
  (rwRow h a).bind fun q => if 0 < n ∧ n ≤ IntKind.i64.max ∧ q.1 = e ∧ e < boxK ∧ P.cellsOf e = 1 then (strD h ⟨some a, n.toNat, 0⟩).map fun s => (s, h.set a.block (.row false q.1 q.2)) else none
def unsafeStrO (P : Program) (h : Heap) (e : TypeId) (p : Option Addr) (n : Int) : Option (ByteArray × Heap) :=
  match p with
  | none => if n = 0 then some (.empty, h) else none
  | some a => unsafeStrD P h e a n
def mkD (P : Program) (h : Heap) (e : TypeId) (l c : Int) : Option (Sl × Heap) :=
  hold h <| if 0 ≤ l ∧ l ≤ c ∧ c * P.bytesOf e ≤ bound ∧ c ≤ IntKind.i64.max then
    (zeroOf P e).bind fun z => if z.length = P.cellsOf e then some (⟨some ⟨h.length, 0, none⟩, l.toNat, 0⟩, h ++ [.row true e (repL l.toNat z)]) else none
  else none
def callD (call : FuncId → List Value → Heap → Res) (τ : Ty) (f : FuncId) (args : List Value) (h : Heap) : Option (τ.T × Heap) :=
  (call f args h).bind fun r => (dec τ r.1).map fun x => (x, r.2)
/-- Maps. -/
def entries (h : Heap) (q : KK) : Option Nat → Option (List (Value × Value))
  | none => some []
  | some i => match h[i]? with
    | some (.map q' es) => cond (KK.is q' q) (some es) none
    | _ => none
def zeroVal (P : Program) (t : TypeId) : Option Value :=
  match (P.info? t).bind (·.zero) with
  | some z => if plainC z = true then some z else none
  | none => none
def lookV (ok : Bool) (v : Value) (b : Bool) : Value := cond ok (.tuple ⟨[v, .bool b]⟩) v
def lookD (P : Program) (h : Heap) (T : TypeId) (m : Option Nat) (k : Value) (ok : Bool) : Option Value :=
  match P.underlying T with
  | some (.map kt et) =>
    (kkOf P kt).bind fun q => (entries h q m).bind fun es => if keyK q k = true then
      (match findM k es with
      | some (_, v) => some (lookV ok v true)
      | none => (zeroVal P et).map fun z => lookV ok z false) else none
  | _ => none
def putD (P : Program) (h : Heap) (T : TypeId) (m : Option Nat) (k v : Value) : Option Heap :=
  match P.underlying T, m with
  | some (.map kt _), some i =>
    (kkOf P kt).bind fun q => (entries h q m).bind fun es => if keyOK q k = true ∧ es.length < 9223372036854775807 then some (h.set i (.map q (putM k v es))) else none
  | _, _ => none
def cutMD (P : Program) (h : Heap) (T : TypeId) (m : Option Nat) (k : Value) : Option Heap :=
  match P.underlying T with
  | some (.map kt _) =>
    (kkOf P kt).bind fun q => (entries h q m).bind fun es => if keyK q k = true then
      (match m with
      | none => some h
      | some i => some (h.set i (.map q (cutM k es)))) else none
  | _ => none
def clrD (P : Program) (h : Heap) (T : TypeId) (v : Value) : Option Heap :=
  match elemOf? P T, v with
  | some _, .slice none _ _ => some h
  | some _, .slice (some _) 0 _ => some h
  | some e, .slice (some a) (n + 1) _ => (zeroOf P e).bind fun z => if z.length ≠ 0 then stV h a (repL (n + 1) z) else none
  | _, _ => none
def lenD (P : Program) (h : Heap) (T : TypeId) (m : Option Nat) : Option Int :=
  match P.underlying T with
  | some (.map kt _) => (kkOf P kt).bind fun q => (entries h q m).map fun es => (es.length : Int)
  | _ => none
def newD (P : Program) (h : Heap) (T : TypeId) : Option Heap :=
  match P.underlying T with
  | some (.map kt _) => (kkOf P kt).map fun q => h ++ [.map q []]
  | _ => none
def eMaps (P : Program) (o : Oper) (t : List Value) (h : Heap) (K : Value → Res) : Res :=
  match o.op with
  | .lookup T m k ok =>
    match ev t m, ev t k with
    | some (.map m), some k => (lookD P h T m k ok).bind K
    | _, _ => none
  | .call { callee := .builtin .len, args := ⟨[x]⟩, argTypes := ⟨[T]⟩ } =>
    match ev t x with
    | some (.map m) => (lenD P h T m).bind fun n => K (.int .i64 n)
    | _ => eQuiet P o t h K
  | _ => eQuiet P o t h K
def eOp (P : Program) (E : Env) (o : Oper) (t : List Value) (h : Heap) (K : Value → Heap → Res) : Res :=
  match o.op with
  | .alloc T => (zeroOf P T).bind fun z => K (.pointer (some ⟨h.length, 0, none⟩)) (h ++ [.row true (T + boxK) z])
  | .box T x => (ev t x).bind fun v => if ones v.cells.toList = true then K (.pointer (some ⟨h.length, 0, none⟩)) (h ++ [.row true (T + boxK) v.cells.toList]) else none
  | .build T parts =>
    match P.underlying T, zeroOf P T, evParts t parts.toList with
    | some (.struct fs), some z, some ps => if ps.all (fun x => !isTup x.2) = true then (placesOf P fs.toList).bind fun pl => (fillL (fun i => pl[i]?) z ps).bind fun cs => K (.agg ⟨cs⟩) h else none
    | _, _, _ => none
  | .buildSlice T n parts =>
    match elemOf? P T, evParts t parts.toList with
    | some e, some ps =>
      if n * P.cellsOf e > 2 ^ 24 ∨ ps.any (fun x => isTup x.2) = true then none else
      (zeroOf P e).bind fun z => if z.length = P.cellsOf e then
        (fillL (fun i => some (i * P.cellsOf e, P.cellsOf e)) (repL n z) ps).bind fun cs => if ones cs = true then K (.slice (some ⟨h.length, 0, none⟩) n (cond E.keep (n + 1) 0)) (h ++ [.row true e cs]) else none else none
    | _, _ => none
  | .load T a =>
    match ev t a with
    | some (.pointer (some a)) =>
      if (P.underlying T).isNone = true then none else
      match ty1Of P T with
      | .flat τ => (ld1 (.flat τ) h a).bind fun x => K (fenc τ x) h
      | .agg l => if l.length = P.cellsOf T then (ld1 (.agg l) h a).bind fun x => K (.agg ⟨encs l x⟩) h else none
    | _ => none
  | .store T a x =>
    match ev t a, ev t x with
    | some (.pointer (some a)), some v => if v.cells.toList.length = P.cellsOf T ∧ P.cellsOf T ≠ 0 then (stV h a v.cells.toList).bind fun h' => K undef h' else none
    | _, _ => none
  | .makeSlice T l c =>
    match elemOf? P T, ev t l, ev t c with
    | some e, some (.int _ l), some (.int _ c) => (mkD P h e l c).bind fun r => K (.slice r.1.a r.1.n r.1.c) r.2
    | _, _, _ => none
  | .convert src dst x =>
    match P.underlying src, P.underlying dst, ev t x with
    | some .string, some (.slice e), some (.string s) =>
      (match P.underlying e with
      | some (.int .u8) => if e < boxK ∧ P.cellsOf e = 1 then K (.slice (some ⟨h.length, 0, none⟩) s.size 0) (h ++ [.row true e (byteVals s)]) else none
      | _ => none)
    | some (.slice e), some .string, some (.slice a n c) =>
      (match P.underlying e with
      | some (.int .u8) => (strD h ⟨a, n, c⟩).bind fun s => K (.string s) h
      | _ => none)
    | some (.slice _), some (.slice e), some (.slice p n c) =>
      (match P.underlying e with
      | some (.int .u8) => if src == dst then (p.bind (rwRow h)).bind fun q => if q.1 = e ∧ e < boxK then K (.slice p n c) h else none else none
      | _ => none)
    | some (.pointer u), some .unsafePointer, some (.pointer p) => (p.bind (okTo P h u)).bind fun _ => K (.pointer p) h
    | some .unsafePointer, some (.pointer u), some (.pointer p) => (p.bind (okFrom P h u)).bind fun _ => K (.pointer p) h
    | _, _, _ => eQuiet P o t h fun v => K v h
  | .call { callee := .builtin .append, args := ⟨[s, x]⟩, argTypes := ⟨[T, U]⟩ } =>
    match elemOf? P T, ev t s, ev t x with
    | some e, some (.slice a n c), some (.slice a' n' c') =>
      if T = U ∧ P.cellsOf e ≠ 0 ∧ (zeroOf P e).any (fun z => z.length == P.cellsOf e) = true then (appD E.keep h (P.cellsOf e) (P.bytesOf e) e ⟨a, n, c⟩ ⟨a', n', c'⟩).bind fun r => K (.slice r.1.a r.1.n r.1.c) r.2 else none
    | some e, some (.slice a n c), some (.string s) =>
      if P.cellsOf e = 1 ∧ P.bytesOf e = 1 ∧ isStr P U = true ∧ (zeroOf P e).any (fun z => z.length == P.cellsOf e) = true then (appS E.keep h e ⟨a, n, c⟩ s).bind fun r => K (.slice r.1.a r.1.n r.1.c) r.2 else none
    | _, _, _ => none
  | .call { callee := .builtin .unsafeString, args := ⟨[x, y]⟩, argTypes := ⟨[pt, _]⟩ } =>
    match ev t x, ev t y with
    | some (.pointer p), some (.int .i64 n) =>
      (match P.underlying pt with
      | some (.pointer e) => (unsafeStrO P h e p n).bind fun r => K (.string r.1) r.2
      | _ => none)
    | _, _ => none
  | .makeMap T none => (newD P h T).bind fun h' => K (.map (some h.length)) h'
  | .mapUpdate T m k x =>
    match ev t m, ev t k, ev t x with
    | some (.map m), some k, some x => (putD P h T m k x).bind fun h' => K undef h'
    | _, _, _ => none
  | .call { callee := .builtin .delete, args := ⟨[m, k]⟩, argTypes := ⟨[T, _]⟩ } =>
    match ev t m, ev t k with
    | some (.map m), some k => (cutMD P h T m k).bind fun h' => K undef h'
    | _, _ => none
  | .call { callee := .builtin .clear, args := ⟨[x]⟩, argTypes := ⟨[T]⟩ } => (ev t x).bind fun v => (clrD P h T v).bind fun h' => K undef h'
  | .call { callee := .value f, args, argTypes := _ } =>
    match ev t f, evs t args.toList with
    | some (.func (.func g) ⟨first⟩ ⟨cap⟩), some vs =>
      match E.ext g with
      | some e => if plainVs (first ++ vs ++ cap) = true then (pvD P (ftOf P o.type) (e ⟨first ++ vs ++ cap⟩)).bind fun x => K (fenc _ x) h else none
      | none =>
        match E.same g with
        | true => (match first ++ vs ++ cap with | [v] => K v h | _ => none)
        | false => (callD E.call (tyOf P o.type) g (first ++ vs ++ cap) h).bind fun x => K (enc (tyOf P o.type) x.1) x.2
    | _, _ => none
  | _ => eMaps P o t h fun v => K v h
def eOps (P : Program) (E : Env) (ops : Array Oper) : List Oper → (List Value → Heap → Res) → List Value → Heap → Res
  | [], K, t, h => K t h
  | o :: rest, K, t, h =>
    match o.guard with
    | none => eOp P E o t h fun v h' => eOps P E ops rest K (put t o.dst v) h'
    | some (j, want) =>
      match (ops[j]?).bind (·.dst) with
      | some s =>
        match t.getD s undef with
        | .bool b =>
          _root_.cond b
            (_root_.cond want (eOp P E o (t.set s (.bool true)) h fun v h' => eOps P E ops rest K (put (t.set s (.bool true)) o.dst v) h') (eOps P E ops rest K (put (t.set s (.bool true)) o.dst skipped) h))
            (_root_.cond want (eOps P E ops rest K (put (t.set s (.bool false)) o.dst skipped) h) (eOp P E o (t.set s (.bool false)) h fun v h' => eOps P E ops rest K (put (t.set s (.bool false)) o.dst v) h'))
        | .tuple ⟨[.tuple ⟨[]⟩]⟩ => eOps P E ops rest K (put t o.dst skipped) h
        | _ => none
      | none => none

/-! ### Regions that draw their order: those that look at nothing that the others turn are taken first; the others come up one at a time. -/
def chk (ops : Array Oper) : Array Bool → List (Nat × Bool) → Bool
  | listed, [] => Region.ready .any ops listed == []
  | listed, (i, true) :: r => Region.free .any ops listed i && (Region.ready .any ops listed).contains i && chk ops (listed.setIfInBounds i true) r
  | listed, (i, false) :: r => (Region.ready .any ops listed == [i]) && chk ops (listed.setIfInBounds i true) r
/-- Values that two pictures of one world give alike. -/
def rigid : Value → Bool
  | .bool _ | .int _ _ | .float _ _ | .string _ | .pointer _ | .map _ => true
  | _ => false
def same : Value → Value → Bool
  | .bool a, .bool b => a == b
  | .int j a, .int k b => j == k && a == b
  | .float j a, .float k b => j == k && a == b
  | .string a, .string b => decide (a = b)
  | .pointer a, .pointer b => a == b
  | .map a, .map b => a == b
  | _, _ => false
def stays (h : Heap) : List (Addr × Value) → Bool
  | [] => true
  | (a, v) :: r => (match (rowOf h a.block).bind fun cs => cs[a.off]? with | some u => same v u | none => false) && stays h r
def eDraw (P : Program) (E : Env) (ops : Array Oper) : List (Nat × Bool) → List (Addr × Value) → (List Value → Heap → Res) → List Value → Heap → Res
  | [], _, K, t, h => K t h
  | (i, true) :: rest, held, K, t, h =>
    match ops[i]? with
    | none => none
    | some o =>
      match o.guard with
      | some _ => none
      | none =>
        match o.op with
        | .load T a =>
          match ev t a, ty1Of P T with
          | some (.pointer (some a)), .flat τ =>
            if (P.underlying T).isNone = true then none else
            (ld1 (.flat τ) h a).bind fun x => cond (rigid (fenc τ x)) (eDraw P E ops rest ((a, fenc τ x) :: held) K (put t o.dst (fenc τ x)) h) none
          | _, _ => none
        | _ => if isQuiet o.op then eQuiet P o t h fun v => eDraw P E ops rest held K (put t o.dst v) h else none
  | (i, false) :: rest, held, K, t, h =>
    match ops[i]? with
    | none => none
    | some o =>
      match o.guard with
      | some _ => none
      | none => eOp P E o t h fun v h' => cond (stays h' held) (eDraw P E ops rest held K (put t o.dst v) h') none

/-- An operation that only reads. -/
def eRead (P : Program) (o : Oper) (t : List Value) (h : Heap) (K : Value → Res) : Res :=
  match o.op with
  | .load T a =>
    match ev t a with
    | some (.pointer (some a)) =>
      if (P.underlying T).isNone = true then none else
      match ty1Of P T with
      | .flat τ => (ld1 (.flat τ) h a).bind fun x => K (fenc τ x)
      | .agg l => if l.length = P.cellsOf T then (ld1 (.agg l) h a).bind fun x => K (.agg ⟨encs l x⟩) else none
    | _ => none
  | _ => eMaps P o t h K
def eStill (P : Program) (ops : Array Oper) : List Oper → (List Value → Heap → Res) → List Value → Heap → Res
  | [], K, t, h => K t h
  | o :: rest, K, t, h =>
    match o.guard with
    | none => eRead P o t h fun v => eStill P ops rest K (put t o.dst v) h
    | some (j, want) =>
      match (ops[j]?).bind (·.dst) with
      | some s =>
        match t.getD s undef with
        | .bool b =>
          _root_.cond b
            (_root_.cond want (eRead P o (t.set s (.bool true)) h fun v => eStill P ops rest K (put (t.set s (.bool true)) o.dst v) h) (eStill P ops rest K (put (t.set s (.bool true)) o.dst skipped) h))
            (_root_.cond want (eStill P ops rest K (put (t.set s (.bool false)) o.dst skipped) h) (eRead P o (t.set s (.bool false)) h fun v => eStill P ops rest K (put (t.set s (.bool false)) o.dst v) h))
        | .tuple ⟨[.tuple ⟨[]⟩]⟩ => eStill P ops rest K (put t o.dst skipped) h
        | _ => none
      | none => none

/-! ### Code, its loops and joints marked with the slots that are not looked at any more -/
inductive SC where
  | skip | ret
  | region (id : Nat) (ops : Array Oper)
  | draw (id : Nat) (ops : Array Oper) (order : List (Nat × Bool))
  | still (id : Nat) (ops : Array Oper)
  | tail (id : Nat) (ops : Array Oper) (n : Nat)
  | seq (clr : Option (List Nat)) (a b : SC)
  | cond (c : Operand) (a b : SC)
  | block (id : Nat) (a : SC)
  | loop (clr : List Nat) (a : SC)
  | exit (id : Nat)
  | other (c : Code)
def SC.erase : SC → Code
  | .skip => .skip
  | .ret => .ret
  | .region id ops => .region id ops false
  | .draw id ops _ => .region id ops true
  | .still id ops => .region id ops true
  | .tail id ops _ => .region id ops true
  | .seq _ a b => .seq a.erase b.erase
  | .cond c a b => .cond c a.erase b.erase
  | .block id a => .block id a.erase
  | .loop _ a => .loop a.erase
  | .exit id => .exit id
  | .other c => c
inductive Ex where
  | normal | exit (id : Nat) | ret
abbrev Kont := Ex → List Value → Heap → Res
def clear : List Nat → List Value → List Value
  | [], t => t
  | s :: l, t => clear l (t.set s undef)
def kSeq (N : List Value → Heap → Res) (K : Kont) : Kont := fun e t h => match e with | .normal => N t h | e => K e t h
def kBlock (id : Nat) (K : Kont) : Kont := fun e t h => match e with | .exit j => (if j = id then K .normal t h else K (.exit j) t h) | e => K e t h
def loopN (body : Kont → List Value → Heap → Res) (clr : List Nat) (K : Kont) : Nat → List Value → Heap → Res
  | 0, _, _ => none
  | m + 1, t, h => body (kSeq (fun t h => loopN body clr K m (clear clr t) h) K) t h
def eC (P : Program) (E : Env) (M : Nat) : SC → Kont → List Value → Heap → Res
  | .skip, K, t, h => K .normal t h
  | .ret, K, t, h => K .ret t h
  | .exit id, K, t, h => K (.exit id) t h
  | .region _ ops, K, t, h => eOps P E ops ops.toList (fun t h => K .normal t h) t h
  | .draw _ ops order, K, t, h => if (chk ops (Array.replicate ops.size false) order && Region.noSelect ops && decide (order.length ≤ ops.size)) = true then eDraw P E ops order [] (fun t h => K .normal t h) t h else none
  | .still _ ops, K, t, h => if Region.lexB .any ops = true then eStill P ops ops.toList (fun t h => K .normal t h) t h else none
  | .tail _ ops n, K, t, h => if Region.lexTailB .any ops n = true then eStill P ops (ops.toList.take n) (fun t h => eOps P E ops (ops.toList.drop n) (fun t h => K .normal t h) t h) t h else none
  | .seq none a b, K, t, h => eC P E M a (kSeq (fun t h => eC P E M b K t h) K) t h
  | .seq (some clr) a b, K, t, h => eC P E M a (kSeq (fun t h => eC P E M b K (clear clr t) h) K) t h
  | .cond c a b, K, t, h =>
    match c with
    | .tmp s =>
      match t.getD s undef with
      | .bool v => _root_.cond v (eC P E M a K (t.set s (.bool true)) h) (eC P E M b K (t.set s (.bool false)) h)
      | _ => none
    | .const (.bool v) => _root_.cond v (eC P E M a K t h) (eC P E M b K t h)
    | _ => none
  | .block id a, K, t, h => eC P E M a (kBlock id K) t h
  | .loop clr a, K, t, h => loopN (fun K t h => eC P E M a K t h) clr K M (clear clr t) h
  | .other _, _, _, _ => none
/-- A function's results. -/
def rets (P : Program) (h : Heap) (t : List Value) : List ResultVar → Option (List Value)
  | [] => some []
  | .tmp s :: r => (rets P h t r).map fun vs => t.getD s undef :: vs
  | .cell s T :: r =>
    match t.getD s undef with
    | .pointer (some a) =>
      if (P.underlying T).isNone = true then none else
      match ty1Of P T with
      | .flat τ => (ld1 (.flat τ) h a).bind fun x => (rets P h t r).map fun vs => fenc τ x :: vs
      | .agg l => if l.length = P.cellsOf T then (ld1 (.agg l) h a).bind fun x => (rets P h t r).map fun vs => .agg ⟨encs l x⟩ :: vs else none
    | _ => none
def one_ : List Value → Value
  | [v] => v
  | vs => .tuple ⟨vs⟩
def kRet (P : Program) (fn : Func) : Kont := fun e t h =>
  match e with
  | .normal | .ret => (rets P h t fn.results.toList).bind fun vs => some (one_ vs, h)
  | _ => none
/-- What a program is, for the shadow: its marked code; functions that are answered without their code. -/
structure Tab where
  ext : FuncId → Option (Array Value → Sem Value)
  same : FuncId → Bool
  code : FuncId → Option SC
  pure : FuncId → Bool
  prim : FuncId → Option (List Value → Heap → Res)
  keep : FuncId → Bool
/-- A call that is handed, and hands back, nothing with an address: it is reckoned without what there is. -/
def alone (pure : Bool) (args : List Value) (h : Heap) (go : Heap → Res) : Res :=
  cond pure (cond (plainVs args) ((go []).bind fun r => cond (plainC r.1) (some (r.1, h)) none) none) (go h)
/-- A function's body. -/
def bodyF (P : Program) (T : Tab) (call : FuncId → List Value → Heap → Res) (n : Nat) (f : FuncId) (args : List Value) (h : Heap) : Res :=
  match T.code f, P.funcs[f]? with
  | some c, some fn => eC P ⟨call, T.ext, T.same, T.keep f⟩ n c (kRet P fn) (args ++ List.replicate (fn.ntmps - args.length) undef) h
  | _, _ => none
def eF (P : Program) (T : Tab) : Nat → FuncId → List Value → Heap → Res
  | 0, _, _, _ => none
  | n + 1, f, args, h =>
    match T.prim f with
    | some p => p args h
    | none => alone (T.pure f) args h (bodyF P T (eF P T n) n f args)

/-! ### A place in the code, and what comes behind it -/
def sub : SC → List Nat → SC
  | c, [] => c
  | .seq _ a _, 0 :: p => sub a p
  | .seq _ _ b, _ :: p => sub b p
  | .cond _ a _, 0 :: p => sub a p
  | .cond _ _ b, _ :: p => sub b p
  | .block _ a, _ :: p => sub a p
  | .loop _ a, _ :: p => sub a p
  | c, _ :: _ => c
def kont (P : Program) (E : Env) (M : Nat) : SC → List Nat → List Nat → Kont → Kont
  | _, [], _, K => K
  | .seq none a b, 0 :: p, ms, K => kont P E M a p ms (kSeq (fun t h => eC P E M b K t h) K)
  | .seq (some clr) a b, 0 :: p, ms, K => kont P E M a p ms (kSeq (fun t h => eC P E M b K (clear clr t) h) K)
  | .seq _ _ b, _ :: p, ms, K => kont P E M b p ms K
  | .cond _ a _, 0 :: p, ms, K => kont P E M a p ms K
  | .cond _ _ b, _ :: p, ms, K => kont P E M b p ms K
  | .block id a, _ :: p, ms, K => kont P E M a p ms (kBlock id K)
  | .loop clr a, _ :: p, m :: ms, K => kont P E M a p ms (kSeq (fun t h => loopN (fun K t h => eC P E M a K t h) clr K m (clear clr t) h) K)
  | _, _ :: _, _, K => K
/-- A loop of a function, m rounds ahead at most ('ms': those of the loops around it). -/
def loopAt (P : Program) (T : Tab) (f : FuncId) (p : List Nat) (n : Nat) (ms : List Nat) (m : Nat) (t : List Value) (h : Heap) : Res :=
  match T.code f, P.funcs[f]? with
  | some c, some fn =>
    match sub c p with
    | .loop clr a => loopN (fun K t h => eC P ⟨eF P T n, T.ext, T.same, T.keep f⟩ n a K t h) clr (kont P ⟨eF P T n, T.ext, T.same, T.keep f⟩ n c p ms (kRet P fn)) m t h
    | _ => none
  | _, _ => none
/-- A joint: what comes behind the first half. -/
def joinAt (P : Program) (T : Tab) (f : FuncId) (p : List Nat) (n : Nat) (ms : List Nat) (t : List Value) (h : Heap) : Res :=
  match T.code f, P.funcs[f]? with
  | some c, some fn => eC P ⟨eF P T n, T.ext, T.same, T.keep f⟩ n (sub c p) (kont P ⟨eF P T n, T.ext, T.same, T.keep f⟩ n c p ms (kRet P fn)) t h
  | _, _ => none
end Go.Proofs.Ytmpobijkbmljdaa.Sh
namespace Go.Proofs.Ytmpobijkbmljdaa.Sh

/-- Where an object lies: block, offset, how many cells there are from there on, the cells of one element. -/
structure Loc where
  b : Nat
  o : Nat
  ext : Nat
  sz : Nat

/-! ### A value's picture -/
mutual
inductive VRel (S : List Loc) : Value → Value → Prop
  | undef (v) : VRel S (.tuple ⟨[]⟩) v
  | skip : VRel S (.tuple ⟨[.tuple ⟨[]⟩]⟩) (.tuple ⟨[]⟩)
  | bool (b) : VRel S (.bool b) (.bool b)
  | int (k n) : VRel S (.int k n) (.int k n)
  | float (k n) : VRel S (.float k n) (.float k n)
  | string (s) : VRel S (.string s) (.string s)
  | nilFunc : VRel S .nilFunc .nilFunc
  | nilIface : VRel S .nilIface .nilIface
  | ptrNil : VRel S (.pointer none) (.pointer none)
  | ptr {i o L} : S[i]? = some L → VRel S (.pointer (some ⟨i, o, none⟩)) (.pointer (some ⟨L.b, L.o + o, none⟩))
  | sliceNil : VRel S (.slice none 0 0) (.slice none 0 0)
  | slice {i o n c L a c'} : S[i]? = some L → n ≤ c' → a.block = L.b → (c' ≠ 0 → a = ⟨L.b, L.o + o, none⟩) → (c = 0 → o + c' * L.sz = L.ext) → (c ≠ 0 → c = c' + 1) →
      VRel S (.slice (some ⟨i, o, none⟩) n c) (.slice (some a) n c')
  | mapNil : VRel S (.map none) (.map none)
  | map {i L} : S[i]? = some L → VRel S (.map (some i)) (.map (some L.b))
  | func {fn l1 l1' l2 l2'} : VRels S l1 l1' → VRels S l2 l2' → VRel S (.func fn ⟨l1⟩ ⟨l2⟩) (.func fn ⟨l1'⟩ ⟨l2'⟩)
  | iface {t v v'} : VRel S v v' → VRel S (.iface t v) (.iface t v')
  | agg {l l'} : VRels S l l' → VRel S (.agg ⟨l⟩) (.agg ⟨l'⟩)
  | tuple {l l'} : VRels S l l' → VRel S (.tuple ⟨l⟩) (.tuple ⟨l'⟩)
inductive VRels (S : List Loc) : List Value → List Value → Prop
  | nil : VRels S [] []
  | cons {v v' l l'} : VRel S v v' → VRels S l l' → VRels S (v :: l) (v' :: l')
end

theorem getElem?_of_prefix {α : Type} {S S' : List α} (h : S <+: S') {i : Nat} {L : α} (hi : S[i]? = some L) : S'[i]? = some L := by
  obtain ⟨r, rfl⟩ := h
  have hlt : i < S.length := (List.getElem?_eq_some_iff.1 hi).1
  rw [List.getElem?_append_left hlt]
  exact hi
mutual
theorem VRel.mono {S S' : List Loc} (hp : S <+: S') : ∀ {v v' : Value}, VRel S v v' → VRel S' v v'
  | _, _, .undef v => .undef v
  | _, _, .skip => .skip
  | _, _, .bool b => .bool b
  | _, _, .int k n => .int k n
  | _, _, .float k n => .float k n
  | _, _, .string s => .string s
  | _, _, .nilFunc => .nilFunc
  | _, _, .nilIface => .nilIface
  | _, _, .ptrNil => .ptrNil
  | _, _, .ptr h => .ptr (getElem?_of_prefix hp h)
  | _, _, .sliceNil => .sliceNil
  | _, _, .slice h a b c d e => .slice (getElem?_of_prefix hp h) a b c d e
  | _, _, .mapNil => .mapNil
  | _, _, .map h => .map (getElem?_of_prefix hp h)
  | _, _, .func a b => .func (a.mono hp) (b.mono hp)
  | _, _, .iface a => .iface (a.mono hp)
  | _, _, .agg a => .agg (a.mono hp)
  | _, _, .tuple a => .tuple (a.mono hp)
theorem VRels.mono {S S' : List Loc} (hp : S <+: S') : ∀ {l l' : List Value}, VRels S l l' → VRels S' l l'
  | _, _, .nil => .nil
  | _, _, .cons a b => .cons (a.mono hp) (b.mono hp)
end

section
variable {S : List Loc}
theorem VRels.length {l l' : List Value} (h : VRels S l l') : l.length = l'.length := by
  induction l generalizing l' with
  | nil => cases h; rfl
  | cons v l ih => cases h with | cons _ b => simp [ih b]
theorem VRels.get {l l' : List Value} (h : VRels S l l') {i : Nat} {v : Value} (hv : l[i]? = some v) : ∃ v', l'[i]? = some v' ∧ VRel S v v' := by
  induction l generalizing l' i with
  | nil => simp at hv
  | cons u l ih =>
    cases h with
    | cons a b =>
      cases i with
      | zero => simp at hv; subst hv; exact ⟨_, rfl, a⟩
      | succ i => exact ih b hv
theorem VRels.get_none {l l' : List Value} (h : VRels S l l') {i : Nat} (hv : l[i]? = none) : l'[i]? = none := by
  rw [List.getElem?_eq_none_iff] at *
  rw [← h.length]; exact hv
theorem VRels.getD {l l' : List Value} (h : VRels S l l') (i : Nat) : VRel S (l.getD i undef) (l'.getD i undef) := by
  rw [List.getD_eq_getElem?_getD, List.getD_eq_getElem?_getD]
  cases hv : l[i]? with
  | none => rw [h.get_none hv]; exact .undef _
  | some v => obtain ⟨v', hv', hr⟩ := h.get hv; rw [hv']; exact hr
theorem VRels.set {l l' : List Value} (h : VRels S l l') {v v' : Value} (hv : VRel S v v') (i : Nat) : VRels S (l.set i v) (l'.set i v') := by
  induction l generalizing l' i with
  | nil => cases h; exact .nil
  | cons u l ih =>
    cases h with
    | cons a b =>
      cases i with
      | zero => exact .cons hv b
      | succ i => exact .cons a (ih b i)
theorem VRels.append {l l' m m' : List Value} (h : VRels S l l') (h2 : VRels S m m') : VRels S (l ++ m) (l' ++ m') := by
  induction l generalizing l' with
  | nil => cases h; exact h2
  | cons u l ih => cases h with | cons a b => exact .cons a (ih b)
theorem VRels.drop {l l' : List Value} (h : VRels S l l') (i : Nat) : VRels S (l.drop i) (l'.drop i) := by
  induction l generalizing l' i with
  | nil => cases h; simp; exact .nil
  | cons u l ih =>
    cases h with
    | cons a b =>
      cases i with
      | zero => exact .cons a b
      | succ i => exact ih b i
theorem VRels.take {l l' : List Value} (h : VRels S l l') (i : Nat) : VRels S (l.take i) (l'.take i) := by
  induction l generalizing l' i with
  | nil => cases h; simp; exact .nil
  | cons u l ih =>
    cases h with
    | cons a b =>
      cases i with
      | zero => exact .nil
      | succ i => exact .cons a (ih b i)
theorem VRels.replicate_undef (n : Nat) : VRels S (List.replicate n undef) (List.replicate n undef) := by
  induction n with
  | zero => exact .nil
  | succ n ih => exact .cons (.undef _) ih
theorem VRels.of_get {l l' : List Value} (hl : l.length = l'.length) (h : ∀ (i : Nat) (v : Value), l[i]? = some v → ∃ v', l'[i]? = some v' ∧ VRel S v v') : VRels S l l' := by
  induction l generalizing l' with
  | nil => cases l' with | nil => exact .nil | cons _ _ => simp at hl
  | cons u l ih =>
    cases l' with
    | nil => simp at hl
    | cons u' l' =>
      obtain ⟨v', h1, h2⟩ := h 0 u rfl
      simp at h1; subst h1
      exact .cons h2 (ih (by simpa using hl) (fun i v hv => h (i + 1) v hv))
theorem plain_eq {v v' : Value} (hp : plainV v = true) (h : VRel S v v') : v' = v := by
  cases h <;> first
    | rfl
    | (simp [plainV] at hp; done)
    | (rename_i l1 l1' l2 l2' h1 h2
       cases h1 <;> cases h2 <;> first | rfl | (simp [plainV] at hp; done))
theorem plain_rel {v : Value} (hp : plainV v = true) : VRel S v v := by
  unfold plainV at hp
  split at hp <;> first
    | exact .bool _ | exact .int _ _ | exact .float _ _ | exact .string _ | exact .ptrNil | exact .mapNil | exact .nilFunc | exact .nilIface
    | (simp at hp; obtain ⟨rfl, rfl⟩ := hp; exact .sliceNil)
    | exact .func .nil .nil
    | cases hp
theorem plains_rel : ∀ {l : List Value}, plainVs l = true → VRels S l l
  | [], _ => .nil
  | v :: l, h => by
    simp only [plainVs, Bool.and_eq_true] at h
    exact .cons (plain_rel h.1) (plains_rel h.2)
theorem plainC_rel {v : Value} (hp : plainC v = true) : VRel S v v := by
  unfold plainC at hp
  split at hp
  · exact .agg (plains_rel hp)
  · exact plain_rel hp
theorem one_rel {v v' : Value} (h1 : v.oneCell' = true) (h : VRel S v v') : v'.oneCell' = true := by
  cases h <;> first | rfl | (simp [Value.oneCell'] at h1)
theorem cells_rel {v v' : Value} (h : VRel S v v') (hu : ones v.cells.toList = true ∨ v ≠ undef) : VRels S v.cells.toList v'.cells.toList := by
  cases h with
  | undef v' => rcases hu with h | h
                · simp [ones, Value.cells, Value.oneCell'] at h
                · exact absurd rfl h
  | agg h => exact h
  | skip => exact .cons .skip .nil
  | _ => simp only [Value.cells]; exact .cons (by constructor <;> assumption) .nil
end
end Go.Proofs.Ytmpobijkbmljdaa.Sh
namespace Go.Proofs.Ytmpobijkbmljdaa.Sh
open Go.RowKit

inductive MRel (S : List Loc) : List (Value × Value) → List MapEntry → Prop
  | nil : MRel S [] []
  | cons {k v e es es'} : e.key = k → VRel S v e.val → MRel S es es' → MRel S ((k, v) :: es) (e :: es')
theorem MRel.mono {S S' : List Loc} (hp : S <+: S') {es : List (Value × Value)} {es' : List MapEntry} (h : MRel S es es') : MRel S' es es' := by
  induction h with
  | nil => exact .nil
  | cons b c _ ih => exact .cons b (c.mono hp) ih

def Ob.live : Ob → Bool
  | .dead => false
  | _ => true
def Ob.owned : Ob → Bool
  | .dead => false
  | .row rw _ _ => rw
  | .app _ _ => false
  | .map _ _ => true
structure RowIs (P : Program) (B : Nat) (S : List Loc) (w : World) (L : Loc) (rw : Bool) (e : TypeId) (cs : List Value) : Prop where
  sz : L.sz = P.cellsOf e
  one : ones cs = true
  lt : L.b < w.heap.size
  ext : cs.length ≤ L.ext
  cell : ∀ (j : Nat) (v : Value), cs[j]? = some v → ∃ v', w.cell? ⟨L.b, L.o + j, none⟩ = some v' ∧ VRel S v v'
  own : rw = true → B ≤ L.b ∧ ∃ C fr, w.heap[L.b]? = some (.cells C (unbox e) fr) ∧ (C.size ≤ fr.1 ∧ P.underlying (unbox e) = some (.int .u8) ∨ fr.1 = fr.2) ∧ L.o + L.ext ≤ C.size ∧ (boxK ≤ e → L.o = 0 ∧ C.size = cs.length)
structure MapIs (B : Nat) (S : List Loc) (w : World) (L : Loc) (q : KK) (es : List (Value × Value)) : Prop where
  own : B ≤ L.b
  lt : L.b < w.heap.size
  keys : ∀ p ∈ es, keyOK q p.1 = true
  size : es.length ≤ 9223372036854775807
  map : ∃ es' clock, w.heap[L.b]? = some (.map es' clock) ∧ MapKept.Stamped es' clock ∧ MRel S es es'.toList
def ObIs (P : Program) (B : Nat) (S : List Loc) (w : World) (L : Loc) : Ob → Prop
  | .dead => True
  | .row rw e cs => RowIs P B S w L rw e cs
  | .app e cs => RowIs P B S w L true e cs
  | .map q es => MapIs B S w L q es
/-- The world is a picture of the heap. -/
structure Sim (P : Program) (B : Nat) (w0 : World) (S : List Loc) (h : Heap) (w : World) : Prop where
  len : S.length = h.length
  below : Below B w0 w
  size : B ≤ w.heap.size
  ob : ∀ (i : Nat) (o : Ob) (L : Loc), h[i]? = some o → S[i]? = some L → ObIs P B S w L o
  sep : ∀ (i j : Nat) (oi oj : Ob) (L M : Loc), i ≠ j → h[i]? = some oi → h[j]? = some oj → oi.owned = true → oj.live = true → S[i]? = some L → S[j]? = some M → L.b ≠ M.b
  sepA : ∀ (i j : Nat) (e : TypeId) (cs : List Value) (oj : Ob) (L M : Loc), i ≠ j → h[i]? = some (.app e cs) → h[j]? = some oj → oj.live = true → S[i]? = some L → S[j]? = some M → L.b = M.b → ∃ e' cs', oj = .row false e' cs' ∧ M.o + cs'.length ≤ L.o + cs.length

theorem RowIs.keep {P : Program} {B : Nat} {S : List Loc} {w w' : World} {L : Loc} {rw : Bool} {e : TypeId} {cs : List Value} (h : RowIs P B S w L rw e cs) (hb : w'.heap[L.b]? = w.heap[L.b]?) (hs : w.heap.size ≤ w'.heap.size) : RowIs P B S w' L rw e cs :=
  ⟨h.sz, h.one, Nat.lt_of_lt_of_le h.lt hs, h.ext, fun j v hv => by
    obtain ⟨v', hc, hr⟩ := h.cell j v hv
    exact ⟨v', by rw [World.cell?_of_block (w := w) hb]; exact hc, hr⟩, fun hr => by
    obtain ⟨h1, C, fr, h2, h3⟩ := h.own hr
    exact ⟨h1, C, fr, hb.trans h2, h3⟩⟩
theorem RowIs.mono {P : Program} {B : Nat} {S S' : List Loc} {w : World} {L : Loc} {rw : Bool} {e : TypeId} {cs : List Value} (hp : S <+: S') (h : RowIs P B S w L rw e cs) : RowIs P B S' w L rw e cs :=
  ⟨h.sz, h.one, h.lt, h.ext, fun j v hv => by
    obtain ⟨v', hc, hr⟩ := h.cell j v hv
    exact ⟨v', hc, hr.mono hp⟩, h.own⟩
theorem MapIs.keep {B : Nat} {S : List Loc} {w w' : World} {L : Loc} {q : KK} {es : List (Value × Value)} (h : MapIs B S w L q es) (hb : w'.heap[L.b]? = w.heap[L.b]?) (hs : w.heap.size ≤ w'.heap.size) : MapIs B S w' L q es :=
  ⟨h.own, Nat.lt_of_lt_of_le h.lt hs, h.keys, h.size, by obtain ⟨es', c, h1, h2⟩ := h.map; exact ⟨es', c, hb.trans h1, h2⟩⟩
theorem MapIs.mono {B : Nat} {S S' : List Loc} {w : World} {L : Loc} {q : KK} {es : List (Value × Value)} (hp : S <+: S') (h : MapIs B S w L q es) : MapIs B S' w L q es :=
  ⟨h.own, h.lt, h.keys, h.size, by obtain ⟨es', c, h1, h2, h3⟩ := h.map; exact ⟨es', c, h1, h2, h3.mono hp⟩⟩
theorem ObIs.keep {P : Program} {B : Nat} {S : List Loc} {w w' : World} {L : Loc} {o : Ob} (h : ObIs P B S w L o) (hb : w'.heap[L.b]? = w.heap[L.b]?) (hs : w.heap.size ≤ w'.heap.size) : ObIs P B S w' L o := by
  cases o with
  | dead => trivial
  | row rw t cs => exact RowIs.keep h hb hs
  | app t cs => exact RowIs.keep h hb hs
  | map q es => exact MapIs.keep h hb hs
theorem ObIs.mono {P : Program} {B : Nat} {S S' : List Loc} {w : World} {L : Loc} {o : Ob} (hp : S <+: S') (h : ObIs P B S w L o) : ObIs P B S' w L o := by
  cases o with
  | dead => trivial
  | row rw t cs => exact RowIs.mono hp h
  | app t cs => exact RowIs.mono hp h
  | map q es => exact MapIs.mono hp h
theorem ObIs.lt {P : Program} {B : Nat} {S : List Loc} {w : World} {L : Loc} {o : Ob} (h : ObIs P B S w L o) (hl : o.live = true) : L.b < w.heap.size := by
  cases o with
  | dead => cases hl
  | row rw t cs => exact RowIs.lt h
  | app t cs => exact RowIs.lt h
  | map q es => exact MapIs.lt h
theorem ObIs.own {P : Program} {B : Nat} {S : List Loc} {w : World} {L : Loc} {o : Ob} (h : ObIs P B S w L o) (hl : o.owned = true) : B ≤ L.b := by
  cases o with
  | dead => cases hl
  | row rw t cs => exact (RowIs.own h hl).1
  | app t cs => cases hl
  | map q es => exact MapIs.own h
theorem Ob.live_of_owned {o : Ob} (h : o.owned = true) : o.live = true := by
  cases o with
  | dead => cases h
  | row rw t cs => rfl
  | app t cs => rfl
  | map q es => rfl

section
variable {P : Program} {B : Nat} {w0 : World} {S : List Loc} {h : Heap} {w w' : World}
theorem Sim.loc (hs : Sim P B w0 S h w) {i : Nat} {o : Ob} (hi : h[i]? = some o) : ∃ L, S[i]? = some L ∧ ObIs P B S w L o := by
  have hlt : i < S.length := by rw [hs.len]; exact (List.getElem?_eq_some_iff.1 hi).1
  exact ⟨S[i], List.getElem?_eq_getElem hlt, hs.ob i o _ hi (List.getElem?_eq_getElem hlt)⟩
/-- A draw. -/
theorem Sim.drawn (hs : Sim P B w0 S h w) (n : Nat) : Sim P B w0 S h { w with drawn := n } :=
  ⟨hs.len, ⟨hs.below.os, hs.below.tape, hs.below.output, hs.below.size, hs.below.block⟩, hs.size, fun i o L hi hL => (hs.ob i o L hi hL).keep rfl (Nat.le_refl _), hs.sep, hs.sepA⟩
/-- An object dies. -/
theorem Sim.kill (hs : Sim P B w0 S h w) (k : Nat) : Sim P B w0 S (h.set k .dead) w := by
  have key : ∀ (i : Nat) (o : Ob), (h.set k .dead)[i]? = some o → o = .dead ∨ h[i]? = some o := by
    intro i o hi
    rw [List.getElem?_set] at hi
    split at hi
    · split at hi
      · left; injection hi with hi; exact hi.symm
      · cases hi
    · right; exact hi
  refine ⟨by rw [List.length_set]; exact hs.len, hs.below, hs.size, ?_, ?_, ?_⟩
  · intro i o L hi hL
    rcases key i o hi with rfl | h1
    · trivial
    · exact hs.ob i o L h1 hL
  · intro i j oi oj L M hij hi hj ho hl
    rcases key i oi hi with rfl | h1
    · cases ho
    · rcases key j oj hj with rfl | h2
      · cases hl
      · exact hs.sep i j oi oj L M hij h1 h2 ho hl
  · intro i j e cs oj L M hij hi hj hl
    rcases key i _ hi with h0 | h1
    · cases h0
    · rcases key j oj hj with rfl | h2
      · cases hl
      · exact hs.sepA i j e cs oj L M hij h1 h2 hl
/-- One object turns, and its block alone. -/
theorem Sim.turn (hs : Sim P B w0 S h w) {i : Nat} {o o' : Ob} {L : Loc} (hi : h[i]? = some o) (hL : S[i]? = some L) (ho : o.owned = true)
    (hk : ∀ k, k ≠ L.b → w'.heap[k]? = w.heap[k]?) (hz : w'.heap.size = w.heap.size) (h1 : w'.os = w.os) (h2 : w'.tape = w.tape) (h3 : w'.output = w.output) (hn : ObIs P B S w' L o') :
    Sim P B w0 S (h.set i o') w' := by
  have hB : B ≤ L.b := (hs.ob i o L hi hL).own ho
  have key : ∀ (j : Nat) (u : Ob), (h.set i o')[j]? = some u → (j = i ∧ u = o') ∨ (j ≠ i ∧ h[j]? = some u) := by
    intro j u hj
    rw [List.getElem?_set] at hj
    split at hj
    · rename_i e
      split at hj
      · left; injection hj with hj; exact ⟨e.symm, hj.symm⟩
      · cases hj
    · rename_i e; right; exact ⟨fun e' => e e'.symm, hj⟩
  refine ⟨by rw [List.length_set]; exact hs.len, ⟨h1.trans hs.below.os, h2.trans hs.below.tape, h3.trans hs.below.output, by rw [hz]; exact hs.below.size, fun k hk' => (hk k (by omega)).trans (hs.below.block k hk')⟩, by rw [hz]; exact hs.size, ?_, ?_, ?_⟩
  · intro j u M hj hM
    rcases key j u hj with ⟨rfl, rfl⟩ | ⟨hne, hj'⟩
    · rw [hL] at hM; injection hM with hM; subst hM; exact hn
    · by_cases hl : u.live = true
      · exact (hs.ob j u M hj' hM).keep (hk _ (fun e => hs.sep i j o u L M (fun e => hne e.symm) hi hj' ho hl hL hM e.symm)) (by rw [hz]; exact Nat.le_refl _)
      · cases u with
        | dead => trivial
        | row _ _ _ => exact absurd rfl hl
        | app _ _ => exact absurd rfl hl
        | map _ _ => exact absurd rfl hl
  · intro j k u v M N hjk hj hk' ho1 hl hM hN
    rcases key j u hj with ⟨rfl, rfl⟩ | ⟨hne, hj'⟩
    · rcases key k v hk' with ⟨rfl, rfl⟩ | ⟨hne', hk2⟩
      · exact absurd rfl hjk
      · exact hs.sep j k o v M N hjk hi hk2 ho hl hM hN
    · rcases key k v hk' with ⟨rfl, rfl⟩ | ⟨hne', hk2⟩
      · exact hs.sep j k u o M N hjk hj' hi ho1 (Ob.live_of_owned ho) hM hN
      · exact hs.sep j k u v M N hjk hj' hk2 ho1 hl hM hN
  · intro j k e cs v M N hjk hj hk' hl hM hN hb
    rcases key j _ hj with ⟨rfl, rfl⟩ | ⟨hne, hj'⟩
    · rcases key k v hk' with ⟨rfl, rfl⟩ | ⟨hne', hk2⟩
      · exact absurd rfl hjk
      · exact absurd hb (hs.sep j k o v M N hjk hi hk2 ho hl hM hN)
    · rcases key k v hk' with ⟨rfl, rfl⟩ | ⟨hne', hk2⟩
      · exact absurd hb.symm (hs.sep k j o _ N M (fun e => hjk e.symm) hi hj' ho rfl hN hM)
      · exact hs.sepA j k e cs v M N hjk hj' hk2 hl hM hN hb
/-- A new object, in a block where nothing lives. -/
theorem Sim.add (hs : Sim P B w0 S h w) (L : Loc) (o : Ob) (hk : ∀ k, k < w.heap.size → k ≠ L.b → w'.heap[k]? = w.heap[k]?) (hz : w.heap.size ≤ w'.heap.size) (h1 : w'.os = w.os) (h2 : w'.tape = w.tape) (h3 : w'.output = w.output)
    (hB : B ≤ L.b) (hne : ∀ (j : Nat) (u : Ob) (M : Loc), h[j]? = some u → u.live = true → S[j]? = some M → M.b ≠ L.b) (hn : ObIs P B (S ++ [L]) w' L o) : Sim P B w0 (S ++ [L]) (h ++ [o]) w' := by
  have hp : S <+: S ++ [L] := ⟨[L], rfl⟩
  have key : ∀ (j : Nat) (u : Ob) (M : Loc), (h ++ [o])[j]? = some u → (S ++ [L])[j]? = some M → (h[j]? = some u ∧ S[j]? = some M) ∨ (j = h.length ∧ u = o ∧ M = L) := by
    intro j u M hj hM
    rcases Nat.lt_or_ge j h.length with hlt | hge
    · left
      rw [List.getElem?_append_left hlt] at hj
      rw [List.getElem?_append_left (by rw [hs.len]; exact hlt)] at hM
      exact ⟨hj, hM⟩
    · right
      rw [List.getElem?_append_right hge] at hj
      rw [List.getElem?_append_right (by rw [hs.len]; exact hge)] at hM
      have h0 : j - h.length = 0 := by
        rcases Nat.eq_zero_or_pos (j - h.length) with h0 | h0
        · exact h0
        · rw [List.getElem?_eq_none (by simp; omega)] at hj; cases hj
      rw [hs.len] at hM
      rw [h0] at hj hM
      simp at hj hM
      exact ⟨by omega, hj.symm, hM.symm⟩
  refine ⟨by simp [hs.len], ⟨h1.trans hs.below.os, h2.trans hs.below.tape, h3.trans hs.below.output, Nat.le_trans hs.below.size hz, fun k hk' => (hk k (by have := hs.size; omega) (by omega)).trans (hs.below.block k hk')⟩, Nat.le_trans hs.size hz, ?_, ?_, ?_⟩
  · intro j u M hj hM
    rcases key j u M hj hM with ⟨hj', hM'⟩ | ⟨rfl, rfl, rfl⟩
    · by_cases hl : u.live = true
      · have := hs.ob j u M hj' hM'
        exact (this.keep (hk _ (this.lt hl) (hne j u M hj' hl hM')) hz).mono hp
      · cases u with
        | dead => trivial
        | row _ _ _ => exact absurd rfl hl
        | app _ _ => exact absurd rfl hl
        | map _ _ => exact absurd rfl hl
    · exact hn
  · intro j k u v M N hjk hj hk' ho1 hl hM hN
    rcases key j u M hj hM with ⟨hj', hM'⟩ | ⟨rfl, rfl, rfl⟩
    · rcases key k v N hk' hN with ⟨hk2, hN'⟩ | ⟨rfl, rfl, rfl⟩
      · exact hs.sep j k u v M N hjk hj' hk2 ho1 hl hM' hN'
      · exact hne j u M hj' (Ob.live_of_owned ho1) hM'
    · rcases key k v N hk' hN with ⟨hk2, hN'⟩ | ⟨rfl, rfl, rfl⟩
      · exact fun e => hne k v N hk2 hl hN' e.symm
      · exact absurd rfl hjk
  · intro j k e cs v M N hjk hj hk' hl hM hN hb
    rcases key j _ M hj hM with ⟨hj', hM'⟩ | ⟨rfl, h0, rfl⟩
    · rcases key k v N hk' hN with ⟨hk2, hN'⟩ | ⟨rfl, rfl, rfl⟩
      · exact hs.sepA j k e cs v M N hjk hj' hk2 hl hM' hN' hb
      · exact absurd hb (hne j _ M hj' rfl hM')
    · rcases key k v N hk' hN with ⟨hk2, hN'⟩ | ⟨rfl, rfl, rfl⟩
      · exact absurd hb.symm (hne k v N hk2 hl hN')
      · exact absurd rfl hjk
/-- What was one's own may only be appended to from now on. -/
theorem Sim.soft (hs : Sim P B w0 S h w) {i : Nat} {e : TypeId} {cs : List Value} (hi : h[i]? = some (.row true e cs)) : Sim P B w0 S (h.set i (.app e cs)) w := by
  obtain ⟨L, hL, ho⟩ := hs.loc hi
  exact hs.turn hi hL rfl (fun _ _ => rfl) rfl rfl rfl rfl (o' := .app e cs) ho
/-- .. or only read. -/
theorem Sim.ro (hs : Sim P B w0 S h w) {i : Nat} {e : TypeId} {cs : List Value} (hi : h[i]? = some (.row true e cs) ∨ h[i]? = some (.app e cs)) : Sim P B w0 S (h.set i (.row false e cs)) w := by
  have down : ∀ {L : Loc}, RowIs P B S w L true e cs → RowIs P B S w L false e cs := fun r => ⟨r.sz, r.one, r.lt, r.ext, r.cell, fun h => by cases h⟩
  rcases hi with hi | hi
  · obtain ⟨L, hL, ho⟩ := hs.loc hi
    exact hs.turn hi hL rfl (fun _ _ => rfl) rfl rfl rfl rfl (o' := .row false e cs) (down ho)
  · have key : ∀ (j : Nat) (u : Ob), (h.set i (.row false e cs))[j]? = some u → (j = i ∧ u = .row false e cs) ∨ (j ≠ i ∧ h[j]? = some u) := by
      intro j u hj
      rw [List.getElem?_set] at hj
      split at hj
      · rename_i e
        split at hj
        · left; injection hj with hj; exact ⟨e.symm, hj.symm⟩
        · cases hj
      · rename_i e; right; exact ⟨fun e' => e e'.symm, hj⟩
    refine ⟨by rw [List.length_set]; exact hs.len, hs.below, hs.size, ?_, ?_, ?_⟩
    · intro j u M hj hM
      rcases key j u hj with ⟨rfl, rfl⟩ | ⟨_, hj'⟩
      · exact down (hs.ob j _ M hi hM)
      · exact hs.ob j u M hj' hM
    · intro j k u v M N hjk hj hk ho hl hM hN
      rcases key j u hj with ⟨rfl, rfl⟩ | ⟨_, hj'⟩
      · cases ho
      · rcases key k v hk with ⟨rfl, rfl⟩ | ⟨_, hk'⟩
        · exact hs.sep j k u _ M N hjk hj' hi ho rfl hM hN
        · exact hs.sep j k u v M N hjk hj' hk' ho hl hM hN
    · intro j k e' cs' v M N hjk hj hk hl hM hN hb
      rcases key j _ hj with ⟨rfl, h0⟩ | ⟨_, hj'⟩
      · cases h0
      · rcases key k v hk with ⟨rfl, rfl⟩ | ⟨_, hk'⟩
        · obtain ⟨_, _, h0, _⟩ := hs.sepA j k e' cs' _ M N hjk hj' hi rfl hM hN hb
          cases h0
        · exact hs.sepA j k e' cs' v M N hjk hj' hk' hl hM hN hb
/-- A new row over what is only read. -/
theorem Sim.addOver (hs : Sim P B w0 S h w) (L : Loc) (e : TypeId) (cs : List Value) (bnd : Nat) (hk : ∀ k, k ≠ L.b → w'.heap[k]? = w.heap[k]?) (hz : w'.heap.size = w.heap.size) (h1 : w'.os = w.os) (h2 : w'.tape = w.tape) (h3 : w'.output = w.output)
    (hB : B ≤ L.b) (hne : ∀ (j : Nat) (u : Ob) (M : Loc), h[j]? = some u → u.live = true → S[j]? = some M → M.b = L.b → ∃ e' cs', u = .row false e' cs' ∧ M.o + cs'.length ≤ bnd)
    (hcell : ∀ p, p < bnd → w'.cell? ⟨L.b, p, none⟩ = w.cell? ⟨L.b, p, none⟩) (hbnd : bnd ≤ L.o + cs.length) (hn : ObIs P B (S ++ [L]) w' L (.app e cs)) : Sim P B w0 (S ++ [L]) (h ++ [.app e cs]) w' := by
  have hp : S <+: S ++ [L] := ⟨[L], rfl⟩
  have key : ∀ (j : Nat) (u : Ob) (M : Loc), (h ++ [.app e cs])[j]? = some u → (S ++ [L])[j]? = some M → (h[j]? = some u ∧ S[j]? = some M) ∨ (j = h.length ∧ u = .app e cs ∧ M = L) := by
    intro j u M hj hM
    rcases Nat.lt_or_ge j h.length with hlt | hge
    · left
      rw [List.getElem?_append_left hlt] at hj
      rw [List.getElem?_append_left (by rw [hs.len]; exact hlt)] at hM
      exact ⟨hj, hM⟩
    · right
      rw [List.getElem?_append_right hge] at hj
      rw [List.getElem?_append_right (by rw [hs.len]; exact hge)] at hM
      have h0 : j - h.length = 0 := by
        rcases Nat.eq_zero_or_pos (j - h.length) with h0 | h0
        · exact h0
        · rw [List.getElem?_eq_none (by simp; omega)] at hj; cases hj
      rw [hs.len] at hM
      rw [h0] at hj hM
      simp at hj hM
      exact ⟨by omega, hj.symm, hM.symm⟩
  refine ⟨by simp [hs.len], ⟨h1.trans hs.below.os, h2.trans hs.below.tape, h3.trans hs.below.output, by rw [hz]; exact hs.below.size, fun k hk' => (hk k (by omega)).trans (hs.below.block k hk')⟩, by rw [hz]; exact hs.size, ?_, ?_, ?_⟩
  · intro j u M hj hM
    rcases key j u M hj hM with ⟨hj', hM'⟩ | ⟨rfl, rfl, rfl⟩
    · have ho := hs.ob j u M hj' hM'
      by_cases hl : u.live = true
      · by_cases hb : M.b = L.b
        · obtain ⟨e', cs', rfl, hle⟩ := hne j u M hj' hl hM' hb
          have hr : RowIs P B S w M false e' cs' := ho
          refine ⟨hr.sz, hr.one, by rw [hz]; exact hr.lt, hr.ext, fun p v hv => ?_, fun h => by cases h⟩
          obtain ⟨v', hc, hrel⟩ := hr.cell p v hv
          have hlt := (List.getElem?_eq_some_iff.1 hv).1
          refine ⟨v', ?_, hrel.mono hp⟩
          rw [hb] at hc ⊢
          rw [hcell _ (by omega)]
          exact hc
        · exact (ho.keep (hk _ hb) (by rw [hz]; exact Nat.le_refl _)).mono hp
      · cases u with
        | dead => trivial
        | row _ _ _ => exact absurd rfl hl
        | app _ _ => exact absurd rfl hl
        | map _ _ => exact absurd rfl hl
    · exact hn
  · intro j k u v M N hjk hj hk' ho1 hl hM hN
    rcases key j u M hj hM with ⟨hj', hM'⟩ | ⟨rfl, rfl, rfl⟩
    · rcases key k v N hk' hN with ⟨hk2, hN'⟩ | ⟨rfl, rfl, rfl⟩
      · exact hs.sep j k u v M N hjk hj' hk2 ho1 hl hM' hN'
      · intro hb
        obtain ⟨e', cs', rfl, _⟩ := hne j u M hj' (Ob.live_of_owned ho1) hM' hb
        cases ho1
    · cases ho1
  · intro j k e2 cs2 v M N hjk hj hk' hl hM hN hb
    rcases key j _ M hj hM with ⟨hj', hM'⟩ | ⟨rfl, h0, rfl⟩
    · rcases key k v N hk' hN with ⟨hk2, hN'⟩ | ⟨rfl, rfl, rfl⟩
      · exact hs.sepA j k e2 cs2 v M N hjk hj' hk2 hl hM' hN' hb
      · obtain ⟨e', cs', h0, _⟩ := hne j _ M hj' rfl hM' hb
        cases h0
    · rcases key k v N hk' hN with ⟨hk2, hN'⟩ | ⟨rfl, rfl, rfl⟩
      · injection h0 with h0 h0'
        subst h0'
        obtain ⟨e', cs', rfl, hle⟩ := hne k v N hk2 hl hN' hb.symm
        exact ⟨e', cs', rfl, by omega⟩
      · exact absurd rfl hjk
/-- A new block. -/
theorem Sim.alloc (hs : Sim P B w0 S h w) (C : Array Value) (e : TypeId) (cs : List Value) (hbx : boxK ≤ e → C.size = cs.length) (h1 : ones cs = true) (hl : cs.length ≤ C.size)
    (hc : ∀ (j : Nat) (v : Value), cs[j]? = some v → ∃ v', C[j]? = some v' ∧ VRel S v v') :
    Sim P B w0 (S ++ [⟨w.heap.size, 0, C.size, P.cellsOf e⟩]) (h ++ [.row true e cs]) (w.alloc (.cells C (unbox e))) := by
  refine hs.add ⟨w.heap.size, 0, C.size, P.cellsOf e⟩ _ (fun k hk _ => Below.heap_alloc w _ k hk) (by simp) rfl rfl rfl hs.size (fun j u M hj hl hM => Nat.ne_of_lt ((hs.ob j u M hj hM).lt hl)) ?_
  have hnew : (w.alloc (.cells C (unbox e))).heap[w.heap.size]? = some (.cells C (unbox e)) := by
    show (w.heap.push _)[w.heap.size]? = _
    simp
  refine ⟨rfl, h1, by simp, hl, ?_, fun _ => ⟨hs.size, C, (0, 0), hnew, .inr rfl, by simp, fun h => ⟨rfl, hbx h⟩⟩⟩
  intro j v hv
  obtain ⟨v', h2, h3⟩ := hc j v hv
  refine ⟨v', ?_, h3.mono ⟨_, rfl⟩⟩
  simp only [World.cell?, hnew, Nat.zero_add]
  exact h2
end
end Go.Proofs.Ytmpobijkbmljdaa.Sh
namespace Go.Proofs.Ytmpobijkbmljdaa.Sh
open Go.RowKit

section
variable {P : Program} {α β : Type}
@[simp] theorem pv_pure (a : α) : pv P (pure a : Sem α) = some a := rfl
@[simp] theorem pv_pure' (a : α) : pv P (Sem.pure a : Sem α) = some a := rfl
@[simp] theorem pv_bind' (m : Sem α) (f : α → Sem β) : pv P (Sem.bind m f) = (pv P m).bind fun a => pv P (f a) := by
  induction m with
  | pure a => rfl
  | program k ih => exact ih P
  | _ => rfl
@[simp] theorem pv_bind (m : Sem α) (f : α → Sem β) : pv P (m >>= f) = (pv P m).bind fun a => pv P (f a) := pv_bind' m f
@[simp] theorem pv_program : pv P program = some P := rfl
theorem pv_run {m : Sem α} {a : α} (h : pv P m = some a) (w : World) : m.run P w = .ok a w := by
  induction m generalizing w with
  | pure b => simp [pv] at h; subst h; rfl
  | program k ih => exact ih P h w
  | _ => simp [pv] at h
theorem pv_underlying {t : TypeId} {d : TypeDesc} (h : P.underlying t = some d) : pv P (underlying t) = some d := by simp [underlying, h]
theorem underlying_info {t : TypeId} {d : TypeDesc} (h : P.underlying t = some d) : ∃ i, P.info? t = some i := by
  unfold Program.underlying at h
  cases hi : P.info? t with
  | none => simp [hi] at h
  | some i => exact ⟨i, rfl⟩
theorem cellsOf_info {t : TypeId} (h : P.cellsOf t ≠ 0) : ∃ i, P.info? t = some i ∧ i.size = P.cellsOf t := by
  unfold Program.cellsOf at *
  cases hi : P.info? t with
  | none => simp [hi] at h
  | some i => exact ⟨i, rfl, by simp⟩
theorem pv_sizeOf' {t : TypeId} {i : TypeInfo} (h : P.info? t = some i) : pv P (sizeOf t) = some (P.cellsOf t) := by
  simp [sizeOf, typeInfo, h, Program.cellsOf]
theorem pv_sizeOf {t : TypeId} (h : P.cellsOf t ≠ 0) : pv P (sizeOf t) = some (P.cellsOf t) := by
  obtain ⟨i, hi, _⟩ := cellsOf_info h
  exact pv_sizeOf' hi
end

section
variable {S : List Loc} {v' : Value}
theorem VRel.inv_int {k : IntKind} {n : Int} (h : VRel S (.int k n) v') : v' = .int k n := by cases h; rfl
theorem VRel.inv_bool {b : Bool} (h : VRel S (.bool b) v') : v' = .bool b := by cases h; rfl
theorem VRel.inv_float {k : FloatKind} {n : Nat} (h : VRel S (.float k n) v') : v' = .float k n := by cases h; rfl
theorem VRel.inv_string {s : ByteArray} (h : VRel S (.string s) v') : v' = .string s := by cases h; rfl
theorem VRel.inv_ptr {a : Addr} (h : VRel S (.pointer (some a)) v') : ∃ i o L, a = ⟨i, o, none⟩ ∧ S[i]? = some L ∧ v' = .pointer (some ⟨L.b, L.o + o, none⟩) := by
  cases h with | ptr h => exact ⟨_, _, _, rfl, h, rfl⟩
theorem VRel.inv_ptrN (h : VRel S (.pointer none) v') : v' = .pointer none := by cases h; rfl
theorem VRel.inv_ptrO {p : Option Addr} (h : VRel S (.pointer p) v') : ∃ p', v' = .pointer p' ∧ p'.isNone = p.isNone := by
  cases h with | ptr h => exact ⟨_, rfl, rfl⟩ | ptrNil => exact ⟨_, rfl, rfl⟩
theorem VRel.inv_slice {a : Addr} {n c : Nat} (h : VRel S (.slice (some a) n c) v') : ∃ i o L a' c', a = ⟨i, o, none⟩ ∧ S[i]? = some L ∧ v' = .slice (some a') n c' ∧ n ≤ c' ∧ a'.block = L.b ∧ (c' ≠ 0 → a' = ⟨L.b, L.o + o, none⟩) ∧
    (c = 0 → o + c' * L.sz = L.ext) ∧ (c ≠ 0 → c = c' + 1) := by
  cases h with | slice h1 h2 h0 h3 h4 h5 => exact ⟨_, _, _, _, _, rfl, h1, rfl, h2, h0, h3, h4, h5⟩
theorem VRel.inv_sliceN {n c : Nat} (h : VRel S (.slice none n c) v') : n = 0 ∧ c = 0 ∧ v' = .slice none 0 0 := by cases h; exact ⟨rfl, rfl, rfl⟩
theorem VRel.inv_sliceO {p : Option Addr} {n c : Nat} (h : VRel S (.slice p n c) v') : ∃ p' c', v' = .slice p' n c' ∧ p'.isNone = p.isNone := by
  cases h with | slice h1 h2 h0 h3 h4 h5 => exact ⟨_, _, rfl, rfl⟩ | sliceNil => exact ⟨_, _, rfl, rfl⟩
theorem VRel.inv_mapO {p : Option Nat} (h : VRel S (.map p) v') : ∃ p', v' = .map p' ∧ p'.isNone = p.isNone := by
  cases h with | map h => exact ⟨_, rfl, rfl⟩ | mapNil => exact ⟨_, rfl, rfl⟩
theorem VRel.inv_agg {l : List Value} (h : VRel S (.agg ⟨l⟩) v') : ∃ l', v' = .agg ⟨l'⟩ ∧ VRels S l l' := by cases h with | agg h => exact ⟨_, rfl, h⟩
theorem VRel.inv_tuple {l : List Value} (h : VRel S (.tuple ⟨l⟩) v') (hl : l ≠ []) (hk : isSkip l = false) : ∃ l', v' = .tuple ⟨l'⟩ ∧ VRels S l l' := by
  cases h with
  | skip => cases hk
  | tuple h => exact ⟨_, rfl, h⟩
  | undef => exact absurd rfl hl
theorem VRel.inv_func {f : Fn} {l1 l2 : List Value} (h : VRel S (.func f ⟨l1⟩ ⟨l2⟩) v') : ∃ l1' l2', v' = .func f ⟨l1'⟩ ⟨l2'⟩ ∧ VRels S l1 l1' ∧ VRels S l2 l2' := by
  cases h with | func h1 h2 => exact ⟨_, _, rfl, h1, h2⟩
end

/-- The temporaries are pictures. -/
def TRel (S : List Loc) (t : List Value) (a : Act) : Prop := VRels S t a.tmps.toList ∧ a.defers = []
section
variable {S : List Loc} {t : List Value} {a : Act}
theorem TRel.get (ht : TRel S t a) (i : Nat) : VRel S (t.getD i undef) (a.tmps.getD i undef) := by
  have h := ht.1.getD i
  rwa [Array.getD_eq_getD_getElem?, ← Array.getElem?_toList, ← List.getD_eq_getElem?_getD]
theorem ev_rel (ht : TRel S t a) {x : Operand} {v : Value} (h : ev t x = some v) : VRel S v (a.eval x) := by
  cases x with
  | tmp i => simp only [ev, Option.some.injEq] at h; subst h; exact ht.get i
  | const u =>
    simp only [ev] at h
    split at h
    · rename_i hp; injection h with h; subst h; exact plainC_rel hp
    · cases h
  | func f => simp only [ev, Option.some.injEq] at h; subst h; exact .func .nil .nil
  | global g => simp [ev] at h
theorem evs_rel (ht : TRel S t a) : ∀ {xs : List Operand} {vs : List Value}, evs t xs = some vs → VRels S vs (xs.map a.eval)
  | [], _, h => by simp only [evs, Option.some.injEq] at h; subst h; exact .nil
  | x :: xs, _, h => by
    simp only [evs, Option.bind_eq_some_iff, Option.map_eq_some_iff] at h
    obtain ⟨v, hv, vs, hvs, rfl⟩ := h
    exact .cons (ev_rel ht hv) (evs_rel ht hvs)
theorem TRel.put (ht : TRel S t a) {v v' : Value} (hv : VRel S v v') (d : Option Tmp) : TRel S (put t d v) (a.put d v') := by
  cases d with
  | none => exact ht
  | some d => exact ⟨by simp only [Sh.put, Act.put, Array.toList_setIfInBounds]; exact ht.1.set hv d, ht.2⟩
theorem TRel.mono {S' : List Loc} (hp : S <+: S') (ht : TRel S t a) : TRel S' t a := ⟨ht.1.mono hp, ht.2⟩
theorem TRel.lit (ht : TRel S t a) {s : Nat} {v : Value} (hv : ∀ v', VRel S (t.getD s undef) v' → VRel S v v') : TRel S (t.set s v) a := by
  refine ⟨?_, ht.2⟩
  have h := ht.1.set (hv _ (ht.1.getD s)) s
  have e : a.tmps.toList.set s (a.tmps.toList.getD s undef) = a.tmps.toList := by
    rw [List.getD_eq_getElem?_getD]
    rcases Nat.lt_or_ge s a.tmps.toList.length with hlt | hge
    · rw [List.getElem?_eq_getElem hlt, Option.getD_some, List.set_getElem_self]
    · exact List.set_eq_of_length_le hge
  rwa [e] at h
theorem TRel.clear (ht : TRel S t a) (l : List Nat) : TRel S (clear l t) a := by
  induction l generalizing t with
  | nil => exact ht
  | cons s l ih => exact ih (ht.lit fun v' _ => .undef v')
end

/-! ### Operations on plain values -/
section
variable {P : Program} {S : List Loc}
theorem pvD_some {τ : FT} {m : Sem Value} {x : τ.T} (h : pvD P τ m = some x) : pv P m = some (fenc τ x) ∧ plainV (fenc τ x) = true := by
  unfold pvD at h
  rw [Option.bind_eq_some_iff] at h
  obtain ⟨v, hv, h⟩ := h
  split at h
  · rename_i hp
    have := enc_fdec h
    subst this
    exact ⟨hv, hp⟩
  · cases h
theorem isNone_some {α : Type} {p : Option α} {b : Bool} (h : p.isNone = b) : (p = none ∧ b = true) ∨ (∃ x, p = some x ∧ b = false) := by
  cases p with
  | none => left; exact ⟨rfl, h.symm⟩
  | some x => right; exact ⟨x, rfl, h.symm⟩
theorem eq_bool {P : Program} {T : TypeId} (hT : P.underlying T = some .bool) (a b : Bool) : pv P (Op.equal T (.bool a) (.bool b)) = some (a == b) := by
  have h : ∀ d, pv P (Op.equalIn (d + 1) T (.bool a) (.bool b)) = some (a == b) := fun d => by unfold Op.equalIn; simp only [pv_bind, pv_underlying hT, Option.bind_some]; rfl
  exact h 9999
theorem eq_ptr {P : Program} {T e : TypeId} (hT : P.underlying T = some (.pointer e)) (a : Option Addr) : pv P (Op.equal T (.pointer a) (.pointer none)) = some a.isNone := by
  have h : ∀ d, pv P (Op.equalIn (d + 1) T (.pointer a) (.pointer none)) = some a.isNone := fun d => by
    unfold Op.equalIn; simp only [pv_bind, pv_underlying hT, Option.bind_some]; cases a <;> rfl
  exact h 9999
theorem eq_ptr' {P : Program} {T e : TypeId} (hT : P.underlying T = some (.pointer e)) (a : Addr) : pv P (Op.equal T (.pointer none) (.pointer (some a))) = some false := by
  have h : ∀ d, pv P (Op.equalIn (d + 1) T (.pointer none) (.pointer (some a))) = some false := fun d => by
    unfold Op.equalIn; simp only [pv_bind, pv_underlying hT, Option.bind_some]; rfl
  exact h 9999
theorem eq_slice {P : Program} {T e : TypeId} (hT : P.underlying T = some (.slice e)) (a : Option Addr) (n c : Nat) : pv P (Op.equal T (.slice a n c) (.slice none 0 0)) = some a.isNone := by
  have h : ∀ d, pv P (Op.equalIn (d + 1) T (.slice a n c) (.slice none 0 0)) = some a.isNone := fun d => by
    unfold Op.equalIn; simp only [pv_bind, pv_underlying hT, Option.bind_some]; cases a <;> rfl
  exact h 9999
theorem eq_map {P : Program} {T k e : TypeId} (hT : P.underlying T = some (.map k e)) (a : Option Nat) : pv P (Op.equal T (.map a) (.map none)) = some a.isNone := by
  have h : ∀ d, pv P (Op.equalIn (d + 1) T (.map a) (.map none)) = some a.isNone := fun d => by
    unfold Op.equalIn; simp only [pv_bind, pv_underlying hT, Option.bind_some]; cases a <;> rfl
  exact h 9999
theorem eq_same {P : Program} {T e : TypeId} (hT : P.underlying T = some (.pointer e)) (hz : P.cellsOf e ≠ 0) (a : Addr) : pv P (Op.equal T (.pointer (some a)) (.pointer (some a))) = some true := by
  have h : ∀ d, pv P (Op.equalIn (d + 1) T (.pointer (some a)) (.pointer (some a))) = some true := fun d => by
    unfold Op.equalIn
    simp only [pv_bind, pv_underlying hT, pv_sizeOf hz, Option.bind_some]
    rw [if_pos hz]
    simp [sameAddr]
  exact h 9999
theorem ite_some {α : Type} {c : Prop} [Decidable c] {A : Option α} {r : α} (h : (if c then A else none) = some r) : c ∧ A = some r := by
  split at h
  · exact ⟨‹_›, h⟩
  · cases h
theorem eBin_sound {op : BinOp} {T rt : TypeId} {x y : Value} {β : Type} {K : Value → Option β} {r : β} (h : eBin P op T rt x y K = some r) {X Y : Operand} {x' y' : Value} (hx : VRel S x x') (hy : VRel S y y') :
    ∃ v v', K v = some r ∧ VRel S v v' ∧ pv P (do eqGuard op T X Y x' y'; binOp op T x' y') = some v' := by
  unfold eBin at h
  split at h
  · -- integers
    rename_i k a k' b
    rw [hx.inv_int, hy.inv_int]
    have hg : pv P (eqGuard op T X Y (.int k a) (.int k' b)) = some () := by unfold eqGuard; split <;> rfl
    have key : ∀ (q : Value), pv P (binOp op T (.int k a) (.int k' b)) = some q → pv P (do eqGuard op T X Y (.int k a) (.int k' b); binOp op T (.int k a) (.int k' b)) = some q := by
      intro q hq
      simp only [pv_bind, hg, Option.bind_some, hq]
    cases op
    case shl =>
      rw [Option.bind_eq_some_iff] at h
      obtain ⟨q, hq, h⟩ := h
      refine ⟨_, _, h, .int _ _, key _ ?_⟩
      unfold shlI at hq
      split at hq
      · cases hq
      · rename_i hh; injection hq with hq; subst hq; simp only [binOp, Op.shift]; rw [if_neg hh]; rfl
    case shr =>
      rw [Option.bind_eq_some_iff] at h
      obtain ⟨q, hq, h⟩ := h
      refine ⟨_, _, h, .int _ _, key _ ?_⟩
      unfold shrI at hq
      split at hq
      · cases hq
      · rename_i hh; injection hq with hq; subst hq; simp only [binOp, Op.shift]; rw [if_neg hh]; rfl
    case quo =>
      have h' := ite_some h
      clear h
      obtain ⟨hk, h⟩ := h'
      subst hk
      rw [Option.bind_eq_some_iff] at h
      obtain ⟨q, hq, h⟩ := h
      refine ⟨_, _, h, .int _ _, key _ ?_⟩
      unfold quoI at hq
      split at hq
      · cases hq
      · rename_i hh; injection hq with hq; subst hq; simp only [binOp, Op.intDiv, ne_eq, not_true, if_false]; rw [if_neg hh]; rfl
    case rem =>
      have h' := ite_some h
      clear h
      obtain ⟨hk, h⟩ := h'
      subst hk
      rw [Option.bind_eq_some_iff] at h
      obtain ⟨q, hq, h⟩ := h
      refine ⟨_, _, h, .int _ _, key _ ?_⟩
      unfold remI at hq
      split at hq
      · cases hq
      · rename_i hh; injection hq with hq; subst hq; simp only [binOp, Op.intDiv, ne_eq, not_true, if_false]; rw [if_neg hh]; rfl
    case add | sub | mul =>
      have h' := ite_some h
      clear h
      obtain ⟨hk, h⟩ := h'
      subst hk
      exact ⟨_, _, h, .int _ _, key _ (by simp [binOp, Op.intArith])⟩
    case and | or | xor | andNot =>
      have h' := ite_some h
      clear h
      obtain ⟨hk, h⟩ := h'
      subst hk
      exact ⟨_, _, h, .int _ _, key _ (by simp [binOp, Op.intBits, bitI])⟩
    all_goals
      have h' := ite_some h
      clear h
      obtain ⟨hk, h⟩ := h'
      subst hk
      rw [Option.bind_eq_some_iff] at h
      obtain ⟨q, hq, h⟩ := h
      refine ⟨_, _, h, .bool _, key _ ?_⟩
      first
        | (simp only [cmpI, Option.some.injEq] at hq; subst hq; simp [binOp, Op.intCmp]; done)
        | (simp [cmpI] at hq)
  · -- strings
    rename_i a b
    rw [hx.inv_string, hy.inv_string]
    have hg : pv P (eqGuard op T X Y (.string a) (.string b)) = some () := by unfold eqGuard; split <;> rfl
    cases op <;> simp only [] at h <;> (first | (cases h; done) | (rw [Option.bind_eq_some_iff] at h; obtain ⟨q, hq, h⟩ := h) | skip) <;>
      refine ⟨_, _, h, by first | exact .string _ | exact .bool _, ?_⟩ <;> simp only [pv_bind, hg, Option.bind_some]
    case add =>
      unfold catS at hq
      split at hq
      · rename_i hh
        injection hq with hq
        subst hq
        have hh' : ¬ ((a.size + b.size : Nat) : Int) > IntKind.i64.max := by
          have : IntKind.i64.max = 9223372036854775807 := by decide
          omega
        simp only [binOp, Op.stringOp]; rw [if_neg hh']; rfl
      · cases hq
    all_goals simp [binOp, Op.stringOp, strEq, strLt]
  · -- bools
    rename_i a b
    rw [hx.inv_bool, hy.inv_bool]
    have hg : pv P (eqGuard op T X Y (.bool a) (.bool b)) = some () := by unfold eqGuard; split <;> rfl
    split at h
    · rename_i hT
      cases op <;> simp only [] at h <;> (first | (cases h; done) | skip) <;> refine ⟨_, _, h, .bool _, ?_⟩ <;> simp only [pv_bind, hg, Option.bind_some]
      all_goals
        simp only [binOp, pv_bind, eq_bool hT, Option.bind_some]
        rfl
    · cases h
  · -- pointers
    rename_i a b
    split at h
    · rename_i e hT
      rw [Option.bind_eq_some_iff] at h
      obtain ⟨q, hq, h⟩ := h
      unfold ptrEq at hq
      have fin : ∀ (p p' : Option Addr), pv P (Op.equal T (.pointer p) (.pointer p')) = some q → x' = .pointer p → y' = .pointer p' → ∃ v v', K v = some r ∧ VRel S v v' ∧ pv P (do eqGuard op T X Y x' y'; binOp op T x' y') = some v' := by
        intro p p' he hx hy
        subst hx hy
        have hg : pv P (eqGuard op T X Y (.pointer p) (.pointer p')) = some () := by unfold eqGuard; split <;> rfl
        cases op <;> simp only [] at h <;> (first | (cases h; done) | skip) <;> refine ⟨_, _, h, .bool _, ?_⟩ <;> simp only [pv_bind, hg, Option.bind_some]
        all_goals
          simp only [binOp, pv_bind, he, Option.bind_some]
          rfl
      split at hq
      · injection hq with hq
        subst hq
        obtain ⟨p', rfl, hp'⟩ := hx.inv_ptrO
        refine fin p' none ?_ rfl hy.inv_ptrN
        rw [eq_ptr hT, hp']
      · split at hq
        · injection hq with hq
          subst hq
          obtain ⟨i, o, L, rfl, hL, rfl⟩ := hy.inv_ptr
          exact fin none _ (eq_ptr' hT _) hx.inv_ptrN rfl
        · obtain ⟨⟨hab, hz⟩, hq⟩ := ite_some hq
          injection hq with hq
          subst hq hab
          obtain ⟨i, o, L, rfl, hL, rfl⟩ := hx.inv_ptr
          obtain ⟨i2, o2, L2, he, hL2, rfl⟩ := hy.inv_ptr
          injection he with e1 e2
          subst e1 e2
          rw [hL] at hL2
          injection hL2 with hL2
          subst hL2
          exact fin _ _ (eq_same hT hz _) rfl rfl
    · cases h
  · -- slices
    rename_i a n1 c1 n2 c2
    obtain ⟨p', c', rfl, hp'⟩ := hx.inv_sliceO
    obtain ⟨rfl, rfl, rfl⟩ := hy.inv_sliceN
    have hg : pv P (eqGuard op T X Y (.slice p' n1 c') (.slice none 0 0)) = some () := by unfold eqGuard; split <;> rfl
    split at h
    · rename_i hT
      cases op <;> simp only [] at h <;> (first | (cases h; done) | skip) <;> refine ⟨_, _, h, .bool _, ?_⟩ <;> simp only [pv_bind, hg, Option.bind_some]
      all_goals
        rw [← hp']
        simp only [binOp, pv_bind, eq_slice hT, Option.bind_some]
        rfl
    · cases h
  · -- maps
    rename_i a
    obtain ⟨p', rfl, hp'⟩ := hx.inv_mapO
    have : y' = .map none := by cases hy; rfl
    subst this
    have hg : pv P (eqGuard op T X Y (.map p') (.map none)) = some () := by unfold eqGuard; split <;> rfl
    split at h
    · rename_i hT
      cases op <;> simp only [] at h <;> (first | (cases h; done) | skip) <;> refine ⟨_, _, h, .bool _, ?_⟩ <;> simp only [pv_bind, hg, Option.bind_some]
      all_goals
        rw [← hp']
        simp only [binOp, pv_bind, eq_map hT, Option.bind_some]
        rfl
    · cases h
  · -- floats
    rename_i j a k b
    rw [hx.inv_float, hy.inv_float]
    have hg : pv P (eqGuard op T X Y (.float j a) (.float k b)) = some () := by unfold eqGuard; split <;> rfl
    rw [Option.bind_eq_some_iff] at h
    obtain ⟨q, hq, h⟩ := h
    obtain ⟨h1, h2⟩ := pvD_some hq
    exact ⟨_, _, h, plain_rel h2, by simp only [pv_bind, hg, Option.bind_some]; exact h1⟩
  · cases h
end
end Go.Proofs.Ytmpobijkbmljdaa.Sh
namespace Go.Proofs.Ytmpobijkbmljdaa.Sh
open Go.RowKit

section
variable {P : Program} {S : List Loc}
theorem eUn_sound {op : UnOp} {rt : TypeId} {x x' : Value} {β : Type} {K : Value → Option β} {r : β} (h : eUn P op rt x K = some r) (hx : VRel S x x') :
    ∃ v v', K v = some r ∧ VRel S v v' ∧ pv P (Op.unary op x') = some v' := by
  unfold eUn at h
  split at h
  · rw [hx.inv_bool]; exact ⟨_, _, h, .bool _, by simp [Op.unary]⟩
  · rw [hx.inv_int]; exact ⟨_, _, h, .int _ _, by simp [Op.unary, Op.intArith]⟩
  · have h' := ite_some h
    clear h
    obtain ⟨hp, h⟩ := h'
    rw [Option.bind_eq_some_iff] at h
    obtain ⟨q, hq, h⟩ := h
    obtain ⟨h1, h2⟩ := pvD_some hq
    rw [plain_eq hp hx]
    exact ⟨_, _, h, plain_rel h2, h1⟩
theorem pv_convert {src dst : TypeId} {ds dd : TypeDesc} {x : Value} (h1 : P.underlying src = some ds) (h2 : P.underlying dst = some dd) (m : Sem Value) :
    pv P (do let d ← underlying src; let e ← underlying dst; m) = pv P m := by
  simp only [pv_bind, pv_underlying h1, pv_underlying h2, Option.bind_some]
theorem eConv_sound {src dst : TypeId} {x x' : Value} {β : Type} {K : Value → Option β} {r : β} (h : eConv P src dst x K = some r) (hx : VRel S x x') :
    ∃ v v', K v = some r ∧ VRel S v v' ∧ pv P (convert src dst x') = some v' := by
  unfold eConv at h
  split at h
  · rename_i d k j n hs hd
    rw [hx.inv_int]
    refine ⟨_, _, h, .int _ _, ?_⟩
    unfold convert
    simp only [pv_bind, pv_underlying hs, pv_underlying hd, Option.bind_some]
    cases d <;> rfl
  · rename_i d s hs hd
    rw [hx.inv_string]
    refine ⟨_, _, h, .string _, ?_⟩
    unfold convert
    simp only [pv_bind, pv_underlying hs, pv_underlying hd, Option.bind_some]
    cases d <;> rfl
  all_goals first
    | (cases h; done)
    | (rw [Option.bind_eq_some_iff] at h
       obtain ⟨q, hq, h⟩ := h
       obtain ⟨h1, h2⟩ := pvD_some hq
       first
         | (rw [hx.inv_int]; exact ⟨_, _, h, plain_rel h2, h1⟩)
         | (rw [hx.inv_float]; exact ⟨_, _, h, plain_rel h2, h1⟩))
theorem add_block (a : Addr) (n : Nat) : (a.add n).block = a.block := by unfold Addr.add; split <;> rfl
theorem inB_some {x : Int} {y n : Nat} (h : inB x y = some n) : 0 ≤ x ∧ x ≤ y ∧ n = x.toNat := by
  unfold inB at h
  split at h
  · rename_i hh; injection h with h; exact ⟨hh.1, hh.2, h.symm⟩
  · cases h
theorem pv_bound {x : Int} {k : IntKind} {y n m : Nat} {c : BoundsCode} (h : inB x y = some n) (hy : y ≤ m) : pv P (Instr.sliceBound (.int k x) m c) = some n := by
  obtain ⟨h0, h1, rfl⟩ := inB_some h
  have : 0 ≤ x ∧ x ≤ (m : Int) := ⟨h0, by omega⟩
  simp [Instr.sliceBound, asIntOf, this]
theorem asInt_rel {t : List Value} {a : Act} (ht : TRel S t a) {x : Option Operand} {i : Option Int} (h : (evo t x).bind asInt? = some i) :
    (i = none ∧ x = none) ∨ ∃ n k, i = some n ∧ ∃ y, x = some y ∧ a.eval y = .int k n := by
  cases x with
  | none => simp [evo, asInt?] at h; exact .inl ⟨h.symm, rfl⟩
  | some y =>
    simp only [evo] at h
    cases hy : ev t y with
    | none => simp [hy] at h
    | some v =>
      simp only [hy, Option.map_some, Option.bind_some] at h
      unfold asInt? at h
      split at h
      · rename_i e; cases e
      · rename_i e
        injection e with e
        subst e
        injection h with h
        exact .inr ⟨_, _, h.symm, y, rfl, (ev_rel ht hy).inv_int⟩
      · cases h
theorem bd_le {d y n : Nat} {x : Option Int} (h : bd d x y = some n) : n ≤ max d y := by
  cases x with
  | none => simp only [bd, Option.some.injEq] at h; omega
  | some x => have := inB_some h; omega
/-- The bounds of a cut, whatever the true capacity beyond what is known of it. -/
theorem pv_bounds {b : Bool} {n cp m' : Nat} {lo hi mx : Option Int} {m hh l : Nat} (hc : cp ≤ m')
    (hm : bd cp mx cp = some m) (h1 : bd n hi m = some hh) (h2 : bd 0 lo hh = some l)
    (hmx : mx.isSome = true → hi.isSome = true) {lo' hi' mx' : Option Value} (e1 : ∀ x, lo = some x → ∃ k, lo' = some (.int k x)) (e1' : lo = none → lo' = none) (e2 : ∀ x, hi = some x → ∃ k, hi' = some (.int k x)) (e2' : hi = none → hi' = none)
    (e3 : ∀ x, mx = some x → ∃ k, mx' = some (.int k x)) (e3' : mx = none → mx' = none) :
    pv P (Instr.sliceBounds b n m' lo' hi' mx') = some (l, hh, cond mx.isSome m m') := by
  have hl : (lo' = none ∧ l = 0) ∨ ∃ v, lo' = some v ∧ ∀ c, pv P (Instr.sliceBound v hh c) = some l := by
    cases lo with
    | none => simp [bd] at h2; exact .inl ⟨e1' rfl, h2.symm⟩
    | some x => obtain ⟨k, hk⟩ := e1 x rfl; exact .inr ⟨_, hk, fun c => pv_bound h2 (Nat.le_refl _)⟩
  cases mx with
  | none =>
    have := e3' rfl
    subst this
    simp only [bd, Option.some.injEq] at hm
    subst hm
    cases hi with
    | none =>
      have := e2' rfl
      subst this
      simp only [bd, Option.some.injEq] at h1
      subst h1
      rcases hl with ⟨rfl, rfl⟩ | ⟨v, rfl, hv⟩
      · simp only [Instr.sliceBounds, pv_bind, pv_pure, Option.bind_some]
        rfl
      · simp only [Instr.sliceBounds, pv_bind, pv_pure, Option.bind_some, hv]
        rfl
    | some x =>
      obtain ⟨k, rfl⟩ := e2 x rfl
      have hb := pv_bound (P := P) (k := k) (c := if b = true then BoundsCode.sliceAcap else BoundsCode.sliceAlen) h1 hc
      rcases hl with ⟨rfl, rfl⟩ | ⟨v, rfl, hv⟩
      · simp only [Instr.sliceBounds, pv_bind, pv_pure, Option.bind_some, hb]
        rfl
      · simp only [Instr.sliceBounds, pv_bind, pv_pure, Option.bind_some, hb, hv]
        rfl
  | some y =>
    obtain ⟨ky, rfl⟩ := e3 y rfl
    have hbm := pv_bound (P := P) (k := ky) (c := if b = true then BoundsCode.slice3Acap else BoundsCode.slice3Alen) hm hc
    cases hi with
    | none => exact absurd (hmx rfl) (by simp)
    | some x =>
      obtain ⟨k, rfl⟩ := e2 x rfl
      have hb := pv_bound (P := P) (k := k) (c := BoundsCode.slice3B) h1 (Nat.le_refl _)
      rcases hl with ⟨rfl, rfl⟩ | ⟨v, rfl, hv⟩
      · simp only [Instr.sliceBounds, pv_bind, pv_pure, Option.bind_some, hbm, hb]
        rfl
      · simp only [Instr.sliceBounds, pv_bind, pv_pure, Option.bind_some, hbm, hb, hv]
        rfl
theorem evo_rel {t : List Value} {a : Act} (ht : TRel S t a) {x : Option Operand} {i : Option Int} (h : (evo t x).bind asInt? = some i) :
    (∀ n, i = some n → ∃ k, x.map a.eval = some (.int k n)) ∧ (i = none → x.map a.eval = none) := by
  rcases asInt_rel ht h with ⟨rfl, rfl⟩ | ⟨n, k, rfl, y, rfl, hy⟩
  · exact ⟨fun n hn => (by cases hn), fun _ => rfl⟩
  · exact ⟨fun m hm => (by injection hm with hm; subst hm; exact ⟨k, by simp [hy]⟩), fun hn => (by cases hn)⟩
theorem bytes_index (s : ByteArray) (n : Nat) : (if h : n < s.size then some s[n] else none) = s[n]? := by
  by_cases h : n < s.size
  · simp [h]
  · simp [h]
end

section
variable {P : Program} {B : Nat} {w0 : World} {S : List Loc} {h : Heap} {w : World}
theorem cutD_sound (hs : Sim P B w0 S h w) {e : TypeId} {sa : Option Addr} {n c : Nat} {v' : Value} (hv : VRel S (.slice sa n c) v') {T : TypeId} (hT : P.underlying T = some (.slice e)) (hz : P.cellsOf e ≠ 0)
    {lo hi mx : Option Int} {q : Sl} (hq : cutD h (P.cellsOf e) e ⟨sa, n, c⟩ lo hi mx = some q)
    (hmx : mx.isSome = true → hi.isSome = true) {lo' hi' mx' : Option Value} (e1 : ∀ x, lo = some x → ∃ k, lo' = some (.int k x)) (e1' : lo = none → lo' = none) (e2 : ∀ x, hi = some x → ∃ k, hi' = some (.int k x)) (e2' : hi = none → hi' = none)
    (e3 : ∀ x, mx = some x → ∃ k, mx' = some (.int k x)) (e3' : mx = none → mx' = none) :
    ∃ u', VRel S (.slice q.a q.n q.c) u' ∧ pv P (Instr.slice T v' lo' hi' mx') = some u' := by
  unfold cutD at hq
  rw [hold_eq] at hq
  simp only [Option.bind_eq_some_iff] at hq
  obtain ⟨cp, hcp, m, hm, hh, h1, l, h2, hq⟩ := hq
  injection hq with hq
  subst hq
  have hmc : m ≤ cp := by have := bd_le hm; omega
  have hlh : l ≤ hh := by have := bd_le h2; omega
  cases sa with
  | none =>
    obtain ⟨rfl, rfl, rfl⟩ := hv.inv_sliceN
    simp only [capOf, and_self, if_true, Option.some.injEq] at hcp
    subst hcp
    have hb := pv_bounds (P := P) (b := true) (Nat.le_refl 0) hm h1 h2 hmx e1 e1' e2 e2' e3 e3'
    have hm0 : m = 0 := by omega
    subst hm0
    have hh0 : hh = 0 := by have := bd_le h1; omega
    subst hh0
    have hl0 : l = 0 := by omega
    subst hl0
    refine ⟨.slice none 0 0, .sliceNil, ?_⟩
    have e : cond mx.isSome 0 0 = 0 := by cases mx <;> rfl
    rw [e] at hb
    simp only [Instr.slice, pv_bind, pv_underlying hT, hb, pv_sizeOf hz, Option.bind_some]
    rfl
  | some a =>
    obtain ⟨i, o, L, a', c', rfl, hL, rfl, hnc, hab, ha, hc0, hc1⟩ := hv.inv_slice
    have hcc : cp ≤ c' ∧ (c = 0 → L.sz = P.cellsOf e) := by
      simp only [capOf] at hcp
      split at hcp
      · rename_i hc
        injection hcp with hcp
        have := hc1 hc
        exact ⟨by omega, fun h => absurd h hc⟩
      · rename_i hc
        have hc : c = 0 := by omega
        split at hcp
        · rename_i rw z cs hi'
          have hcp' := ite_some hcp
          obtain ⟨hzz, hcp'⟩ := hcp'
          injection hcp' with hcp'
          subst hcp'
          have hx := hc0 hc
          have hr : RowIs P B S w L rw z cs := hs.ob i _ L hi' hL
          have hle := hr.ext
          have hLs : L.sz = P.cellsOf e := by rw [hr.sz, hzz]
          rw [hLs] at hx
          refine ⟨Nat.max_le.2 ⟨hnc, ?_⟩, fun _ => hLs⟩
          rw [Nat.div_le_iff_le_mul_add_pred (by omega)]
          rw [Nat.mul_comm]
          omega
        · rename_i z cs hi'
          have hcp' := ite_some hcp
          obtain ⟨hzz, hcp'⟩ := hcp'
          injection hcp' with hcp'
          subst hcp'
          have hx := hc0 hc
          have hr : RowIs P B S w L true z cs := hs.ob i _ L hi' hL
          have hle := hr.ext
          have hLs : L.sz = P.cellsOf e := by rw [hr.sz, hzz]
          rw [hLs] at hx
          refine ⟨Nat.max_le.2 ⟨hnc, ?_⟩, fun _ => hLs⟩
          rw [Nat.div_le_iff_le_mul_add_pred (by omega)]
          rw [Nat.mul_comm]
          omega
        · cases hcp
    obtain ⟨hcc, hLs⟩ := hcc
    have hb := pv_bounds (P := P) (b := true) hcc hm h1 h2 hmx e1 e1' e2 e2' e3 e3'
    obtain ⟨M, hM⟩ : ∃ M, M = cond mx.isSome m c' := ⟨_, rfl⟩
    rw [← hM] at hb
    have hMc : M ≤ c' := by
      rw [hM]
      cases mx with
      | none => exact Nat.le_refl _
      | some _ => exact Nat.le_trans hmc hcc
    have hhM : hh ≤ M := by
      rw [hM]
      cases mx with
      | none =>
        have := bd_le h1
        simp only [Option.isSome_none, cond_false]
        omega
      | some y =>
        cases hi with
        | none => exact absurd (hmx rfl) (by simp)
        | some x => have := inB_some h1; simp only [Option.isSome_some, cond_true]; omega
    refine ⟨.slice (some (if M = l then a' else a'.add (l * P.cellsOf e))) (hh - l) (M - l), ?_, ?_⟩
    · show VRel S (.slice (some ⟨i, o + l * P.cellsOf e, none⟩) (hh - l) (capCut true mx.isSome c m l)) _
      refine .slice hL (by omega) (by split <;> simp [add_block, hab]) ?_ ?_ ?_
      · intro hne
        rw [if_neg (by omega), ha (by omega), Addr.add_lit]
        simp only [Nat.add_assoc]
      · intro hq0
        cases mx with
        | some y => simp [capCut] at hq0
        | none =>
          simp only [Option.isSome_none, cond_false] at hM
          have hc : c = 0 := by
            simp only [capCut, Option.isSome_none, cond_true, cond_false] at hq0
            split at hq0
            · assumption
            · rename_i hc; have := hc1 hc; omega
          have hx := hc0 hc
          have hLs := hLs hc
          rw [hM, ← hx, hLs, Nat.sub_mul]
          have : l * P.cellsOf e ≤ c' * P.cellsOf e := Nat.mul_le_mul_right _ (by omega)
          omega
      · intro hq0
        cases mx with
        | some y => simp only [Option.isSome_some, cond_true] at hM; simp only [capCut, Option.isSome_some, cond_true]; omega
        | none =>
          simp only [Option.isSome_none, cond_false] at hM
          simp only [capCut, Option.isSome_none, cond_true, cond_false] at hq0 ⊢
          split at hq0
          · exact absurd rfl hq0
          · rename_i hc; rw [if_neg hc]; have := hc1 hc; omega
    · simp only [Instr.slice, pv_bind, pv_underlying hT, hb, pv_sizeOf hz, Option.bind_some, pv_pure, Option.map_some]
      by_cases hml : M = l <;> simp [hml]
end
end Go.Proofs.Ytmpobijkbmljdaa.Sh
namespace Go.Proofs.Ytmpobijkbmljdaa.Sh
open Go.RowKit

section
variable {P : Program} {B : Nat} {w0 : World} {S : List Loc} {h : Heap} {w : World} {t : List Value} {a : Act}
theorem ixA_rel {sa : Option Addr} {n c sz : Nat} {v' : Value} (hv : VRel S (.slice sa n c) v') {x : Int} {q : Addr} (hq : ixA ⟨sa, n, c⟩ sz x = some q) :
    0 ≤ x ∧ x < n ∧ ∃ a' c', v' = .slice (some a') n c' ∧ VRel S (.pointer (some q)) (.pointer (some (a'.add (x.toNat * sz)))) := by
  unfold ixA at hq
  rw [Option.bind_eq_some_iff] at hq
  obtain ⟨ad, had, hq⟩ := hq
  simp only at had
  subst had
  have hq' := ite_some hq
  obtain ⟨⟨h0, h1⟩, hq'⟩ := hq'
  injection hq' with hq'
  subst hq'
  obtain ⟨i, o, L, a', c', rfl, hL, rfl, hnc, _, ha, _, _⟩ := hv.inv_slice
  simp only at h1
  refine ⟨h0, h1, a', c', rfl, ?_⟩
  rw [ha (by omega), Addr.add_lit]
  simp only [at_, Nat.add_assoc]
  exact .ptr hL
theorem ptr_inv {ad : Addr} {v' : Value} (hv : VRel S (.pointer (some ad)) v') : ∃ i o L, ad = ⟨i, o, none⟩ ∧ v' = .pointer (some ⟨L.b, L.o + o, none⟩) ∧ S[i]? = some L := by
  cases hv with
  | ptr hL => exact ⟨_, _, _, rfl, rfl, hL⟩
theorem ptr_rel {ad : Addr} {v' : Value} (hv : VRel S (.pointer (some ad)) v') : ∃ ad', v' = .pointer (some ad') ∧ ∀ n, VRel S (.pointer (some (at_ ad n))) (.pointer (some (ad'.add n))) := by
  obtain ⟨i, o, L, rfl, rfl, hL⟩ := ptr_inv hv
  refine ⟨_, rfl, fun n => ?_⟩
  rw [Addr.add_lit]
  simp only [at_, Nat.add_assoc]
  exact .ptr hL
theorem elemOf_under {T e : TypeId} (h : elemOf? P T = some e) : P.underlying T = some (.slice e) := by
  unfold elemOf? at h
  split at h
  · rename_i e' hU
    obtain ⟨_, h2⟩ := ite_some h
    injection h2 with h2
    subst h2
    exact hU
  · cases h
theorem execOp_bin {o : Oper} {op : BinOp} {T U : TypeId} {x y : Operand} (ho : o.op = .binOp op T x y U) (ρ : Operand → Value) :
    execOp ρ o = (do let v ← (do eqGuard op T x y (ρ x) (ρ y); binOp op T (ρ x) (ρ y)); pure (.value v)) := by
  unfold execOp; rw [ho]
theorem eQuiet_sound {o : Oper} {K : Value → Res} {r : Value × Heap} (hq : eQuiet P o t h K = some r) (hs : Sim P B w0 S h w) (ht : TRel S t a) :
    ∃ v v', K v = some r ∧ VRel S v v' ∧ pv P (execOp a.eval o) = some (.value v') := by
  unfold eQuiet at hq
  split at hq
  case h_1 x ho =>
    rw [Option.bind_eq_some_iff] at hq
    obtain ⟨v, hv, hq⟩ := hq
    exact ⟨v, _, hq, ev_rel ht hv, by simp only [execOp, ho]; rfl⟩
  case h_2 x ho =>
    rw [Option.bind_eq_some_iff] at hq
    obtain ⟨v, hv, hq⟩ := hq
    exact ⟨v, _, hq, ev_rel ht hv, by simp only [execOp, ho]; rfl⟩
  case h_3 c x y ho =>
    split at hq
    · rename_i c' x' y' hc hx hy
      have ec := (ev_rel ht hc).inv_bool
      refine ⟨_, .bool (cond c' x' y'), hq, .bool _, ?_⟩
      simp only [execOp, ho, pv_bind, asBool, ec, pv_pure, Option.bind_some]
      rw [(ev_rel ht hx).inv_bool, (ev_rel ht hy).inv_bool]
      cases c' <;> rfl
    · rename_i c' x' y' hn hc hx hy
      have ec := (ev_rel ht hc).inv_bool
      cases c' with
      | true => exact ⟨_, _, hq, ev_rel ht hx, by simp only [execOp, ho, pv_bind, asBool, ec, pv_pure, Option.bind_some]; rfl⟩
      | false => exact ⟨_, _, hq, ev_rel ht hy, by simp only [execOp, ho, pv_bind, asBool, ec, pv_pure, Option.bind_some]; rfl⟩
    · cases hq
  case h_4 x ho =>
    split at hq
    · rename_i p hp
      rw [Option.bind_eq_some_iff] at hq
      obtain ⟨q, rfl, hq⟩ := hq
      obtain ⟨i, o', L, rfl, hL, he⟩ := (ev_rel ht hp).inv_ptr
      refine ⟨_, _, hq, .ptr hL, ?_⟩
      simp only [execOp, ho, he]
      rfl
    · rename_i f l1 l2 hp
      obtain ⟨l1⟩ := l1
      obtain ⟨l2⟩ := l2
      obtain ⟨l1', l2', he, h1, h2⟩ := (ev_rel ht hp).inv_func
      refine ⟨_, _, hq, .func h1 h2, ?_⟩
      simp only [execOp, ho, he]
      rfl
    · cases hq
  case h_5 op T x y U ho =>
    split at hq
    · rename_i x' y' hx hy
      obtain ⟨v, v', h1, h2, h3⟩ := eBin_sound hq (X := x) (Y := y) (ev_rel ht hx) (ev_rel ht hy)
      refine ⟨v, v', h1, h2, ?_⟩
      rw [execOp_bin ho, pv_bind, h3]
      rfl
    · cases hq
  case h_6 op T x ho =>
    rw [Option.bind_eq_some_iff] at hq
    obtain ⟨x', hx, hq⟩ := hq
    obtain ⟨v, v', h1, h2, h3⟩ := eUn_sound hq (ev_rel ht hx)
    exact ⟨v, v', h1, h2, by simp only [execOp, ho, pv_bind, h3, Option.bind_some]; rfl⟩
  case h_7 src dst x ho =>
    rw [Option.bind_eq_some_iff] at hq
    obtain ⟨x', hx, hq⟩ := hq
    obtain ⟨v, v', h1, h2, h3⟩ := eConv_sound hq (ev_rel ht hx)
    exact ⟨v, v', h1, h2, by simp only [execOp, ho, pv_bind, h3, Option.bind_some]; rfl⟩
  case h_8 fn first captured ho =>
    split at hq
    · rename_i f c hf hc
      refine ⟨_, _, hq, .func (evs_rel ht hf) (evs_rel ht hc), ?_⟩
      simp only [execOp, ho, Instr.makeFunc, pv_bind, pv_pure, Option.bind_some]
      congr 3 <;> (apply Array.ext'; simp)
    · cases hq
  case h_9 s x f ho =>
    split at hq
    · rename_i fs ad hS hx
      split at hq
      · rename_i fd hfd
        split at hq
        · cases hq
        · rename_i hz
          obtain ⟨i, o', L, rfl, hL, he⟩ := (ev_rel ht hx).inv_ptr
          refine ⟨_, .pointer (some ⟨L.b, L.o + (o' + fd.offset), none⟩), hq, .ptr hL, ?_⟩
          simp only [execOp, ho, Instr.fieldAt, pv_bind, pv_underlying hS, Option.bind_some, hfd, he, Instr.sureAddr, pv_pure, fieldPlace, pv_sizeOf hz]
          rw [if_neg hz]
          simp only [pv_pure, Option.bind_some, Addr.add_lit, Nat.add_assoc]
      · cases hq
    · cases hq
  case h_10 s x f ho =>
    split at hq
    · rename_i fs vs hS hx
      split at hq
      · rename_i fd hfd
        obtain ⟨vs', he, hvs⟩ := (ev_rel ht hx).inv_agg
        split at hq
        · rename_i fs' hU
          obtain ⟨i, hi⟩ := underlying_info hU
          refine ⟨_, .agg ⟨(vs'.drop fd.offset).take (P.cellsOf fd.type)⟩, hq, .agg ((hvs.drop _).take _), ?_⟩
          simp only [execOp, ho, Instr.field, pv_bind, pv_underlying hS, Option.bind_some, hfd, he, asAgg, pv_pure, part, isAgg, pv_underlying hU, if_true, pv_sizeOf' hi]
          congr 3
          apply Array.ext'
          simp [List.extract, Nat.add_sub_cancel_left]
        · rename_i n e hU
          obtain ⟨i, hi⟩ := underlying_info hU
          refine ⟨_, .agg ⟨(vs'.drop fd.offset).take (P.cellsOf fd.type)⟩, hq, .agg ((hvs.drop _).take _), ?_⟩
          simp only [execOp, ho, Instr.field, pv_bind, pv_underlying hS, Option.bind_some, hfd, he, asAgg, pv_pure, part, isAgg, pv_underlying hU, if_true, pv_sizeOf' hi]
          congr 3
          apply Array.ext'
          simp [List.extract, Nat.add_sub_cancel_left]
        · rename_i d h1 h2 hU
          rw [Option.bind_eq_some_iff] at hq
          obtain ⟨v, hv, hq⟩ := hq
          obtain ⟨v', hv', hr⟩ := hvs.get hv
          refine ⟨v, v', hq, hr, ?_⟩
          have hd : pv P (isAgg fd.type) = some false := by
            simp only [isAgg, pv_bind, pv_underlying hU, Option.bind_some]
            cases d <;> first | rfl | exact absurd rfl (h1 _) | exact absurd rfl (h2 _ _)
          have hv2 : (⟨vs'⟩ : Array Value)[fd.offset]? = some v' := by simpa using hv'
          simp only [execOp, ho, Instr.field, pv_bind, pv_underlying hS, Option.bind_some, hfd, he, asAgg, pv_pure, part, hd, Bool.false_eq_true, if_false, hv2]
        · cases hq
      · cases hq
    · cases hq
  case h_11 T x i ho =>
    split at hq
    · rename_i e sa n c k x' hT hx hi
      split at hq
      · cases hq
      · rename_i hz
        rw [Option.bind_eq_some_iff] at hq
        obtain ⟨q, hq1, hq⟩ := hq
        obtain ⟨h0, h1, a', c', he, hr⟩ := ixA_rel (ev_rel ht hx) hq1
        refine ⟨_, _, hq, hr, ?_⟩
        have hU := elemOf_under hT
        simp only [execOp, ho, Instr.indexAt, pv_bind, asIntOf, (ev_rel ht hi).inv_int, pv_pure, Option.bind_some, pv_underlying hU, he]
        rw [if_pos ⟨h0, h1⟩]
        simp only [pv_bind, pv_sizeOf hz, Option.bind_some, pv_pure]
    · rename_i ad k x' hT hx hi
      split at hq
      · rename_i n e hU
        split at hq
        · cases hq
        · rename_i hz
          obtain ⟨⟨h0, h1⟩, hq⟩ := ite_some hq
          obtain ⟨ad', he, hr⟩ := ptr_rel (ev_rel ht hx)
          refine ⟨_, _, hq, hr (x'.toNat * P.cellsOf e), ?_⟩
          simp only [execOp, ho, Instr.indexAt, pv_bind, asIntOf, (ev_rel ht hi).inv_int, pv_pure, Option.bind_some, pv_underlying hU, he, Instr.sureAddr]
          rw [if_pos ⟨h0, h1⟩]
          simp only [pv_bind, pv_sizeOf hz, Option.bind_some, pv_pure]
      · cases hq
    · cases hq
  case h_12 T x i ho =>
    split at hq
    · rename_i s k x' hT hx hi
      rw [Option.bind_eq_some_iff] at hq
      obtain ⟨b, hb, hq⟩ := hq
      refine ⟨_, _, hq, .int _ _, ?_⟩
      unfold ixS at hb
      rw [Option.map_eq_some_iff] at hb
      obtain ⟨u, hu, rfl⟩ := hb
      simp only [execOp, ho, Instr.index, pv_bind, asIntOf, (ev_rel ht hi).inv_int, pv_pure, Option.bind_some, pv_underlying hT, (ev_rel ht hx).inv_string, hu]
    · cases hq
  case h_13 T x lo hi mx ho =>
    split at hq
    · rename_i s lo' hi' hT hx hlo hhi hmx
      rw [Option.bind_eq_some_iff] at hq
      obtain ⟨q, hq1, hq⟩ := hq
      refine ⟨_, _, hq, .string _, ?_⟩
      obtain ⟨a1, a2⟩ := evo_rel ht hlo
      obtain ⟨b1, b2⟩ := evo_rel ht hhi
      obtain ⟨c1, c2⟩ := evo_rel ht hmx
      unfold cutS at hq1
      simp only [Option.bind_eq_some_iff] at hq1
      obtain ⟨hh, h1, l, h2, hq1⟩ := hq1
      injection hq1 with hq1
      subst hq1
      have hb := pv_bounds (P := P) (b := false) (n := s.size) (cp := s.size) (m' := s.size) (mx := none) (Nat.le_refl _) rfl h1 h2 (fun h => by cases h) a1 a2 b1 b2 (mx' := none) (fun _ h => by cases h) (fun _ => rfl)
      simp only [execOp, ho, Instr.sliceAt, pv_bind, pv_underlying hT, Option.bind_some, Instr.slice, (ev_rel ht hx).inv_string]
      rw [c2 rfl]
      simp only [Option.isSome_none, Bool.false_eq_true, if_false, pv_bind, pv_pure, Option.bind_some, hb]
    · rename_i e sa n c lo' hi' mx' hT hx hlo hhi hmx
      split at hq
      · cases hq
      · rename_i hz
        split at hq
        · cases hq
        · rename_i hf
          rw [Option.bind_eq_some_iff] at hq
          obtain ⟨q, hq1, hq⟩ := hq
          obtain ⟨a1, a2⟩ := evo_rel ht hlo
          obtain ⟨b1, b2⟩ := evo_rel ht hhi
          obtain ⟨c1, c2⟩ := evo_rel ht hmx
          have hf' : mx'.isSome = true → hi'.isSome = true := by
            intro hm
            cases hi' with
            | none => simp [hm] at hf
            | some _ => rfl
          obtain ⟨u', hu, hp⟩ := cutD_sound hs (ev_rel ht hx) hT hz hq1 hf' a1 a2 b1 b2 c1 c2
          refine ⟨_, u', hq, hu, ?_⟩
          simp only [execOp, ho, Instr.sliceAt, pv_bind, pv_underlying hT, Option.bind_some, hp, pv_pure]
    · rename_i n e ad lo' hi' hT hx hlo hhi hmx
      split at hq
      · cases hq
      · rename_i hz
        rw [Option.bind_eq_some_iff] at hq; obtain ⟨hh, h1, hq⟩ := hq
        rw [Option.bind_eq_some_iff] at hq; obtain ⟨l, h2, hq⟩ := hq
        obtain ⟨a1, a2⟩ := evo_rel ht hlo
        obtain ⟨b1, b2⟩ := evo_rel ht hhi
        obtain ⟨c1, c2⟩ := evo_rel ht hmx
        have hb := pv_bounds (P := P) (b := false) (n := n) (cp := n) (m' := n) (mx := none) (Nat.le_refl _) rfl h1 h2 (fun h => by cases h) a1 a2 b1 b2 (mx' := none) (fun _ h => by cases h) (fun _ => rfl)
        have hlh : l ≤ hh := by have := bd_le h2; omega
        have hhn : hh ≤ n := by have := bd_le h1; omega
        obtain ⟨i, o, L, rfl, e1, hL⟩ := ptr_inv (ev_rel ht hx)
        refine ⟨_, .slice (some (if n = l then ⟨L.b, L.o + o, none⟩ else (⟨L.b, L.o + o, none⟩ : Addr).add (l * P.cellsOf e))) (hh - l) (n - l), hq, ?_, ?_⟩
        · refine .slice hL (by omega) ?_ ?_ (fun h => by omega) (fun _ => rfl)
          · split
            · rfl
            · rw [Addr.add_lit]
          · intro hne
            rw [if_neg (by omega)]
            simp only [Addr.add_lit, Nat.add_assoc]
        · simp only [execOp, ho, Instr.sliceAt, pv_bind, pv_underlying hT, Option.bind_some, e1, Instr.sureAddr, pv_pure]
          rw [c2 rfl]
          simp only [hb, Option.bind_some, Option.isSome_none, cond_false, pv_bind, pv_sizeOf hz, pv_pure]
    · cases hq
  case h_14 x i ho =>
    split at hq
    · rename_i vs hx
      cases hk : isSkip vs with
      | true => rw [hk] at hq; cases hq
      | false =>
      rw [hk] at hq
      simp only [cond_false] at hq
      rw [Option.bind_eq_some_iff] at hq
      obtain ⟨v, hv, hq⟩ := hq
      have hne : vs ≠ [] := fun e => by subst e; simp at hv
      obtain ⟨vs', he, hvs⟩ := (ev_rel ht hx).inv_tuple hne hk
      obtain ⟨v', hv', hr⟩ := hvs.get hv
      refine ⟨v, v', hq, hr, ?_⟩
      have hv2 : (⟨vs'⟩ : Array Value)[i]? = some v' := by simpa using hv'
      simp only [execOp, ho, Instr.extract, he, hv2, pv_bind, pv_pure, Option.bind_some]
    · cases hq
  case h_15 x T ho =>
    split at hq
    · rename_i e sa n c hT hx
      obtain ⟨p', c', he, _⟩ := (ev_rel ht hx).inv_sliceO
      refine ⟨_, _, hq, .int _ _, ?_⟩
      have e1 : (#[x] : Array Operand).map a.eval = #[a.eval x] := by simp
      simp only [execOp, ho, resolve, pv_bind, pv_pure, Option.bind_some, invoke, builtin, Builtin.len_, e1, he]
      simp only [List.getElem?_toArray, List.getElem?_cons_zero, pv_bind, pv_underlying hT, Option.bind_some, pv_pure, goInt]
    · rename_i s hT hx
      refine ⟨_, _, hq, .int _ _, ?_⟩
      have e1 : (#[x] : Array Operand).map a.eval = #[a.eval x] := by simp
      simp only [execOp, ho, resolve, pv_bind, pv_pure, Option.bind_some, invoke, builtin, Builtin.len_, e1, (ev_rel ht hx).inv_string]
      simp only [List.getElem?_toArray, List.getElem?_cons_zero, pv_bind, pv_underlying hT, Option.bind_some, pv_pure, goInt]
    · cases hq
  case h_16 x y Ts ho =>
    split at hq
    · rename_i k u k' u' hx hy
      refine ⟨_, _, hq, .int _ _, ?_⟩
      have e1 : (#[x, y] : Array Operand).map a.eval = #[a.eval x, a.eval y] := by simp
      simp only [execOp, ho, resolve, pv_bind, pv_pure, Option.bind_some, invoke, builtin, Builtin.max_, e1, (ev_rel ht hx).inv_int, (ev_rel ht hy).inv_int]
      simp only [List.foldlM_cons, List.foldlM_nil, Builtin.max2, pv_bind, pv_pure, Option.bind_some]
    · cases hq
  case h_17 x y Ts ho =>
    split at hq
    · rename_i k u k' u' hx hy
      refine ⟨_, _, hq, .int _ _, ?_⟩
      have e1 : (#[x, y] : Array Operand).map a.eval = #[a.eval x, a.eval y] := by simp
      simp only [execOp, ho, resolve, pv_bind, pv_pure, Option.bind_some, invoke, builtin, Builtin.min_, e1, (ev_rel ht hx).inv_int, (ev_rel ht hy).inv_int]
      simp only [List.foldlM_cons, List.foldlM_nil, Builtin.min2, pv_bind, pv_pure, Option.bind_some]
    · cases hq
  case h_18 x Ts ho =>
    have e1 : (#[x] : Array Operand).map a.eval = #[a.eval x] := by simp
    split at hq
    · rename_i sa n c hx
      rw [Option.bind_eq_some_iff] at hq
      obtain ⟨q, hq1, hq⟩ := hq
      unfold sdA at hq1
      split at hq1
      · injection hq1 with hq1
        subst hq1
        obtain ⟨_, _, he⟩ := VRel.inv_sliceN (ev_rel ht hx)
        refine ⟨_, _, hq, .ptrNil, ?_⟩
        simp only [execOp, ho, resolve, pv_bind, pv_pure, Option.bind_some, invoke, builtin, e1, he]
        rfl
      · split at hq1
        · cases hq1
        · rename_i hn
          injection hq1 with hq1
          subst hq1
          obtain ⟨k, o', L, a', c', rfl, hL, he, hnc, _, ha, _, _⟩ := (ev_rel ht hx).inv_slice
          have ha := ha (by omega)
          subst ha
          refine ⟨_, _, hq, .ptr hL, ?_⟩
          simp only [execOp, ho, resolve, pv_bind, pv_pure, Option.bind_some, invoke, builtin, e1, he]
          obtain ⟨c'', rfl⟩ : ∃ k, c' = k + 1 := ⟨c' - 1, by omega⟩
          rfl
    · cases hq
  case h_19 => cases hq
end
end Go.Proofs.Ytmpobijkbmljdaa.Sh
namespace Go.Proofs.Ytmpobijkbmljdaa.Sh
open Go.RowKit

section
theorem setCells_ne {w : World} {b k : Nat} (hk : k ≠ b) : ∀ (vs : List Value) (o : Nat), (w.setCells b o vs).heap[k]? = w.heap[k]? := by
  intro vs
  induction vs generalizing w with
  | nil => intro o; rfl
  | cons v vs ih => intro o; exact (ih (w := w.setCell ⟨b, o, none⟩ v) (o + 1)).trans (Below.heap_setCell w _ v k hk)
theorem setCells_size {w : World} {b : Nat} : ∀ (vs : List Value) (o : Nat), (w.setCells b o vs).heap.size = w.heap.size := by
  intro vs
  induction vs generalizing w with
  | nil => intro o; rfl
  | cons v vs ih => intro o; exact (ih (w := w.setCell ⟨b, o, none⟩ v) (o + 1)).trans (World.size_setCell _ _ _)
theorem setCells_rest {w : World} {b : Nat} : ∀ (vs : List Value) (o : Nat), (w.setCells b o vs).os = w.os ∧ (w.setCells b o vs).tape = w.tape ∧ (w.setCells b o vs).output = w.output := by
  intro vs
  induction vs generalizing w with
  | nil => intro o; exact ⟨rfl, rfl, rfl⟩
  | cons v vs ih => intro o; exact ih (w := w.setCell ⟨b, o, none⟩ v) (o + 1)
theorem setCells_row {b : Nat} {t : TypeId} {fr : Nat × Nat} : ∀ (vs : List Value) (o : Nat) {w : World} {C : Array Value}, w.heap[b]? = some (.cells C t fr) →
    ∃ C', (w.setCells b o vs).heap[b]? = some (.cells C' t fr) ∧ C'.size = C.size ∧ ∀ j, C'[j]? = if o ≤ j ∧ j < o + vs.length ∧ j < C.size then vs[j - o]? else C[j]? := by
  intro vs
  induction vs with
  | nil => intro o w C h; exact ⟨C, h, rfl, fun j => by rw [if_neg (by simp; omega)]⟩
  | cons v vs ih =>
    intro o w C h
    have h1 : (w.setCell ⟨b, o, none⟩ v).heap[b]? = some (.cells (C.setIfInBounds o v) t fr) := by
      simp [World.setCell, Array.getElem?_modify, h]
    obtain ⟨C', h2, h3, h4⟩ := ih (o + 1) h1
    refine ⟨C', h2, by simpa using h3, fun j => ?_⟩
    rw [h4 j]
    simp only [Array.size_setIfInBounds, List.length_cons]
    by_cases e : j = o
    · subst e
      rw [if_neg (by omega)]
      by_cases hj : j < C.size
      · rw [if_pos ⟨Nat.le_refl _, by omega, hj⟩]; simp [hj]
      · rw [if_neg (by omega)]; simp [hj]
    · by_cases hj : o + 1 ≤ j ∧ j < o + 1 + vs.length ∧ j < C.size
      · rw [if_pos hj, if_pos ⟨by omega, by omega, by omega⟩]
        obtain ⟨d, hd⟩ : ∃ d, j - o = d + 1 := ⟨j - o - 1, by omega⟩
        rw [hd, show j - (o + 1) = d from by omega]
        rfl
      · rw [if_neg hj, if_neg (by omega), Array.getElem?_setIfInBounds_ne (by omega)]
theorem putAll_length : ∀ (vs : List Value) (cs : List Value) (k : Nat), (putAll cs k vs).length = cs.length
  | [], _, _ => rfl
  | v :: vs, cs, k => by rw [putAll, putAll_length vs, List.length_set]
theorem putAll_get : ∀ (vs : List Value) (cs : List Value) (k j : Nat), (putAll cs k vs)[j]? = if k ≤ j ∧ j < k + vs.length ∧ j < cs.length then vs[j - k]? else cs[j]?
  | [], cs, k, j => by rw [if_neg (by simp; omega)]; rfl
  | v :: vs, cs, k, j => by
    rw [putAll, putAll_get vs]
    simp only [List.length_set, List.length_cons]
    by_cases e : j = k
    · subst e
      rw [if_neg (by omega)]
      by_cases hj : j < cs.length
      · rw [if_pos ⟨Nat.le_refl _, by omega, hj⟩]; simp [hj]
      · rw [if_neg (by omega)]; simp [hj]
    · by_cases hj : k + 1 ≤ j ∧ j < k + 1 + vs.length ∧ j < cs.length
      · rw [if_pos hj, if_pos ⟨by omega, by omega, by omega⟩]
        obtain ⟨d, hd⟩ : ∃ d, j - k = d + 1 := ⟨j - k - 1, by omega⟩
        rw [hd, show j - (k + 1) = d from by omega]
        rfl
      · rw [if_neg hj, if_neg (by omega), List.getElem?_set_ne (by omega)]
theorem ones_get {cs : List Value} (h : ones cs = true) {j : Nat} {v : Value} (hv : cs[j]? = some v) : v.oneCell' = true := by
  unfold ones at h
  rw [List.all_eq_true] at h
  exact h v (List.mem_of_getElem? hv)
theorem ones_of {cs : List Value} (h : ∀ (j : Nat) (v : Value), cs[j]? = some v → v.oneCell' = true) : ones cs = true := by
  unfold ones
  rw [List.all_eq_true]
  intro v hv
  obtain ⟨j, hj⟩ := List.mem_iff_getElem?.1 hv
  exact h j v hj
theorem ones_append {a b : List Value} : ones (a ++ b) = true ↔ ones a = true ∧ ones b = true := by simp [ones]
theorem ones_rel {S : List Loc} {l l' : List Value} (h : VRels S l l') (h1 : ones l = true) : ∀ v ∈ l', v.oneCell' = true := by
  induction l generalizing l' with
  | nil => cases h; intro v hv; cases hv
  | cons u l ih =>
    cases h with
    | cons a b =>
      simp only [ones, List.all_cons, Bool.and_eq_true] at h1
      intro v hv
      rcases List.mem_cons.1 hv with rfl | hv
      · exact one_rel h1.1 a
      · exact ih b h1.2 v hv
end

section
variable {P : Program} {B : Nat} {w0 : World} {S : List Loc} {h : Heap} {w : World} {t : List Value} {a : Act}
/-- The cells of a piece of a row, as they lie in the world. -/
theorem RowIs.pick {L : Loc} {rw : Bool} {e : TypeId} {cs : List Value} (hr : RowIs P B S w L rw e cs) (k : Nat) : ∀ n, k + n ≤ cs.length →
    ∃ vs', vs'.length = n ∧ (∀ (j : Nat) (u : Value), vs'[j]? = some u → w.cell? ⟨L.b, L.o + k + j, none⟩ = some u) ∧ VRels S ((cs.drop k).take n) vs' := by
  intro n
  induction n with
  | zero => intro _; exact ⟨[], rfl, fun j u hu => by simp at hu, by simp; exact .nil⟩
  | succ n ih =>
    intro hn
    obtain ⟨vs', h1, h2, h3⟩ := ih (by omega)
    have hlt : k + n < cs.length := by omega
    obtain ⟨v', hv', hrel⟩ := hr.cell (k + n) _ (List.getElem?_eq_getElem hlt)
    refine ⟨vs' ++ [v'], by simp [h1], ?_, ?_⟩
    · intro j u hu
      by_cases hj : j < vs'.length
      · rw [List.getElem?_append_left hj] at hu; exact h2 j u hu
      · rw [List.getElem?_append_right (by omega)] at hu
        have h0 : j - vs'.length = 0 := by
          rcases Nat.eq_zero_or_pos (j - vs'.length) with h0 | h0
          · exact h0
          · rw [List.getElem?_eq_none (by simp; omega)] at hu; cases hu
        rw [h0] at hu
        simp at hu
        subst hu
        rw [show L.o + k + j = L.o + (k + n) from by omega]
        exact hv'
    · rw [List.take_succ_eq_append_getElem (by simp; omega)]
      refine h3.append (.cons ?_ .nil)
      simpa using hrel
theorem rowOf_some {i : Nat} {cs : List Value} (hr : rowOf h i = some cs) : ∃ o, h[i]? = some o ∧ ∃ rw e, ∀ {P B S w L}, ObIs P B S w L o → RowIs P B S w L rw e cs := by
  unfold rowOf at hr
  split at hr
  · rename_i rw sz cs' hi; injection hr with hr; subst hr; exact ⟨_, hi, rw, sz, fun h => h⟩
  · rename_i sz cs' hi; injection hr with hr; subst hr; exact ⟨_, hi, true, sz, fun h => h⟩
  · cases hr
theorem run_sureAddr {ad : Addr} (w : World) : (Instr.sureAddr (.pointer (some ad))).run P w = .ok ad w := rfl
theorem isAgg_flat {T : TypeId} {τ : FT} (hU : (P.underlying T).isNone ≠ true) (hf : ty1Of P T = .flat τ) : pv P (isAgg T) = some false := by
  unfold ty1Of at hf
  cases hu : P.underlying T with
  | none => simp [hu] at hU
  | some d =>
    simp only [isAgg, pv_bind, pv_underlying hu, Option.bind_some]
    cases d <;> first | rfl | (simp [hu] at hf)
theorem isAgg_agg {T : TypeId} {l : List FT} (hf : ty1Of P T = .agg l) : pv P (isAgg T) = some true ∧ ∃ i, P.info? T = some i := by
  unfold ty1Of at hf
  cases hu : P.underlying T with
  | none => simp [hu] at hf
  | some d =>
    refine ⟨?_, underlying_info hu⟩
    simp only [isAgg, pv_bind, pv_underlying hu, Option.bind_some]
    cases d <;> first | rfl | (simp [hu] at hf)
/-- A load. -/
theorem ld_flat (hs : Sim P B w0 S h w) {T : TypeId} {τ : FT} {ad : Addr} {v' : Value} (hv : VRel S (.pointer (some ad)) v') (hU : (P.underlying T).isNone ≠ true) (hf : ty1Of P T = .flat τ) {x : τ.T} (hx : ld1 (.flat τ) h ad = some x) :
    ∃ u' ad', v' = .pointer (some ad') ∧ w.cell? ad' = some u' ∧ VRel S (fenc τ x) u' ∧ ∀ W : World, W.cell? ad' = some u' → (Instr.loadAt T v').run P W = .ok u' W := by
  simp only [ld1, Option.bind_eq_some_iff] at hx
  obtain ⟨u, ⟨cs, hcs, hu⟩, hx⟩ := hx
  obtain ⟨ob, hi, rw, e, hrow⟩ := rowOf_some hcs
  obtain ⟨i, o, L, rfl, hL, rfl⟩ := hv.inv_ptr
  have hr : RowIs P B S w L rw e cs := hrow (hs.ob i _ L hi hL)
  obtain ⟨u', hc, hrel⟩ := hr.cell o u hu
  rw [← enc_fdec hx] at hrel
  refine ⟨u', _, rfl, hc, hrel, fun W hW => ?_⟩
  simp only [Instr.loadAt, loadVar, Sem.run_bind, run_sureAddr, Result.andThen_ok, pv_run (isAgg_flat hU hf), Bool.false_eq_true, if_false, load, Sem.run, hW]
theorem ld_agg (hs : Sim P B w0 S h w) {T : TypeId} {l : List FT} {ad : Addr} {v' : Value} (hv : VRel S (.pointer (some ad)) v') (hl : l.length = P.cellsOf T) (hf : ty1Of P T = .agg l) {x : aggT l} (hx : ld1 (.agg l) h ad = some x) :
    ∃ vs', VRels S (encs l x) vs' ∧ (Instr.loadAt T v').run P w = .ok (.agg ⟨vs'⟩) w := by
  simp only [ld1, cellsAt, Option.bind_eq_some_iff] at hx
  obtain ⟨us, ⟨cs, hcs, hu⟩, hx⟩ := hx
  have hu' := ite_some hu
  obtain ⟨hle, hu'⟩ := hu'
  injection hu' with hu'
  subst hu'
  obtain ⟨ob, hi, rw, e, hrow⟩ := rowOf_some hcs
  obtain ⟨i, o, L, rfl, hL, rfl⟩ := hv.inv_ptr
  have hr : RowIs P B S w L rw e cs := hrow (hs.ob i _ L hi hL)
  obtain ⟨vs', h1, h2, h3⟩ := hr.pick o l.length hle
  rw [enc_decs hx]
  obtain ⟨ha, j, hj⟩ := isAgg_agg hf
  refine ⟨vs', h3, ?_⟩
  have hld := run_loadCells_list (P := P) w ⟨L.b, L.o + o, none⟩ vs' (fun j u hu => by rw [Addr.add_lit]; exact h2 j u hu)
  rw [h1, hl] at hld
  simp only [Instr.loadAt, loadVar, Sem.run_bind, run_sureAddr, Result.andThen_ok, pv_run ha, if_true, pv_run (pv_sizeOf' hj), hld, Sem.run_pure]
/-- The cells that are written are there and may be. -/
theorem RowIs.room {L : Loc} {e : TypeId} {cs : List Value} (hr : RowIs P B S w L true e cs) {k n : Nat} (hk : k + n ≤ L.ext) :
    (∀ j, j < n → (w.cell? ⟨L.b, L.o + k + j, none⟩).isSome = true) ∧ (∀ j, j < n → w.frozen? ⟨L.b, L.o + k + j, none⟩ = false) := by
  obtain ⟨_, C, fr, h1, h2, h3, _⟩ := hr.own rfl
  refine ⟨fun j hj => ?_, fun j hj => ?_⟩
  · simp only [World.cell?, h1, Option.isSome_none, Bool.false_eq_true, if_false]
    rw [Array.getElem?_eq_getElem (by omega)]
    rfl
  · simp only [World.frozen?, h1]
    rcases h2 with ⟨h2, _⟩ | h2
    · have : ¬ fr.1 ≤ L.o + k + j := by omega
      simp [this]
    · by_cases hx : fr.1 ≤ L.o + k + j
      · have : ¬ L.o + k + j < fr.2 := by omega
        simp [this]
      · simp [hx]
/-- Cells of one's own are written. -/
theorem Sim.store (hs : Sim P B w0 S h w) {i k : Nat} {e : TypeId} {cs : List Value} {L : Loc} (hi : h[i]? = some (.row true e cs)) (hL : S[i]? = some L) {vs vs' : List Value} (hv : VRels S vs vs') (h1 : ones vs = true) (hk : k + vs.length ≤ cs.length) :
    Sim P B w0 S (h.set i (.row true e (putAll cs k vs))) (w.setCells L.b (L.o + k) vs') := by
  have hr : RowIs P B S w L true e cs := hs.ob i _ L hi hL
  obtain ⟨hB, C, fr, h2, h3, h4, hbx⟩ := hr.own rfl
  obtain ⟨C', h5, h6, h7⟩ := setCells_row vs' (L.o + k) h2
  obtain ⟨r1, r2, r3⟩ := setCells_rest (w := w) (b := L.b) vs' (L.o + k)
  refine hs.turn hi hL rfl (fun j hj => setCells_ne hj _ _) (setCells_size _ _) r1 r2 r3 ?_
  have hle := hr.ext
  have hlen := hv.length
  refine ⟨hr.sz, ?_, by rw [setCells_size]; exact hr.lt, by rw [putAll_length]; exact hr.ext, ?_, fun _ => ⟨hB, C', fr, h5, by rw [h6]; exact h3, by rw [h6]; exact h4, fun h => ⟨(hbx h).1, by rw [h6, putAll_length]; exact (hbx h).2⟩⟩⟩
  · refine ones_of fun j v hj => ?_
    rw [putAll_get] at hj
    split at hj
    · exact ones_get h1 hj
    · exact ones_get hr.one hj
  · intro j v hj
    have hjl : j < cs.length := by
      have := (List.getElem?_eq_some_iff.1 hj).1
      rwa [putAll_length] at this
    rw [putAll_get] at hj
    simp only [World.cell?, h5, Option.isSome_none, Bool.false_eq_true, if_false, h7]
    split at hj
    · rename_i hh
      obtain ⟨v', hv', hrel⟩ := hv.get hj
      refine ⟨v', ?_, hrel⟩
      rw [if_pos ⟨by omega, by omega, by omega⟩, show L.o + j - (L.o + k) = j - k from by omega]
      exact hv'
    · rename_i hh
      obtain ⟨v', hv', hrel⟩ := hr.cell j v hj
      refine ⟨v', ?_, hrel⟩
      rw [if_neg (by omega)]
      simpa [World.cell?, h2] using hv'
theorem st_sound (hs : Sim P B w0 S h w) {T : TypeId} {ad : Addr} {p' v v' : Value} (hp : VRel S (.pointer (some ad)) p') (hv : VRel S v v') (hl : v.cells.toList.length = P.cellsOf T) (hz : P.cellsOf T ≠ 0) {h' : Heap} (hst : stV h ad v.cells.toList = some h') :
    ∃ w', (Instr.storeAt T p' v').run P w = .ok () w' ∧ Sim P B w0 S h' w' := by
  unfold stV at hst
  split at hst
  · rename_i z cs hi
    have hst' := ite_some hst
    obtain ⟨⟨hle, h1⟩, hst'⟩ := hst'
    injection hst' with hst'
    subst hst'
    obtain ⟨i, o, L, rfl, hL, rfl⟩ := hp.inv_ptr
    have hr : RowIs P B S w L true z cs := hs.ob i _ L hi hL
    have hcr := cells_rel hv (.inl h1)
    have hlen := hcr.length
    have hext := hr.ext
    obtain ⟨r1, r2⟩ := hr.room (k := o) (n := v'.cells.toList.length) (by simp only at hle; omega)
    have hrun := run_storeCells_cells (P := P) L.b (L.o + o) v'.cells.toList 0 w (by simpa using r1) (by simpa using r2) (ones_rel hcr h1)
    refine ⟨_, ?_, hs.store hi hL hcr h1 hle⟩
    have hsz : v'.cells.size = P.cellsOf T := by rw [← hl, hlen]; simp
    simp only [Instr.storeAt, storeVar, Sem.run_bind, run_sureAddr, Result.andThen_ok, pv_run (pv_sizeOf hz), hsz, ne_eq, not_true, if_false, hrun]
    simp
  · cases hst
end
end Go.Proofs.Ytmpobijkbmljdaa.Sh
namespace Go.Proofs.Ytmpobijkbmljdaa.Sh
open Go.RowKit

section
variable {P : Program} {B : Nat} {w0 : World} {S : List Loc} {h : Heap} {w : World} {t : List Value} {a : Act}
/-- A slice's cells, as they lie. -/
theorem slCells_sound (hs : Sim P B w0 S h w) {sa : Option Addr} {n c sz : Nat} {v' : Value} (hv : VRel S (.slice sa n c) v') {cs : List Value} (hc : slCells h sz ⟨sa, n, c⟩ = some cs) :
    ∃ p' c' vs', v' = .slice p' n c' ∧ n ≤ c' ∧ VRels S cs vs' ∧ cs.length = n * sz ∧ ones cs = true ∧ ((p' = none ∧ n = 0 ∧ c' = 0 ∧ vs' = []) ∨ ∃ ad', p' = some ad' ∧ ∀ (j : Nat) (u : Value), vs'[j]? = some u → w.cell? (ad'.add j) = some u) := by
  unfold slCells at hc
  cases sa with
  | none =>
    obtain ⟨rfl, rfl, rfl⟩ := hv.inv_sliceN
    simp at hc
    subst hc
    exact ⟨none, 0, [], rfl, Nat.le_refl _, .nil, by simp, rfl, .inl ⟨rfl, rfl, rfl, rfl⟩⟩
  | some ad =>
    obtain ⟨i, o, L, a', c', rfl, hL, rfl, hnc, _, ha, _, _⟩ := hv.inv_slice
    simp only at hc
    split at hc
    · rename_i h0
      injection hc with hc
      subst hc
      subst h0
      exact ⟨_, c', [], rfl, hnc, .nil, by simp, rfl, .inr ⟨a', rfl, fun j u hu => by simp at hu⟩⟩
    · rename_i h0
      simp only [cellsAt, Option.bind_eq_some_iff] at hc
      obtain ⟨rs, hrs, hc⟩ := hc
      have hc' := ite_some hc
      obtain ⟨hle, hc'⟩ := hc'
      injection hc' with hc'
      subst hc'
      obtain ⟨ob, hi, rw, z, hrow⟩ := rowOf_some hrs
      have hr : RowIs P B S w L rw z rs := hrow (hs.ob i _ L hi hL)
      obtain ⟨vs', h1, h2, h3⟩ := hr.pick o (n * sz) hle
      refine ⟨_, c', vs', rfl, hnc, h3, by simp; omega, ?_, .inr ⟨a', rfl, fun j u hu => ?_⟩⟩
      · refine ones_of fun j v hj => ?_
        have hjl : j < n * sz := by
          have := (List.getElem?_eq_some_iff.1 hj).1
          simp at this; omega
        rw [List.getElem?_take_of_lt hjl, List.getElem?_drop] at hj
        exact ones_get hr.one hj
      · rw [ha (by omega), Addr.add_lit]
        exact h2 j u hu
theorem bytesOf_vals : ∀ {vs : List Value} {l : List UInt8}, bytesOfVals vs = some l → plainVs vs = true ∧ vs.length = l.length
  | [], l, h => by simp [bytesOfVals] at h; subst h; exact ⟨rfl, rfl⟩
  | v :: vs, l, h => by
    unfold bytesOfVals at h
    split at h
    · rename_i e; cases e
    · rename_i n r e
      injection e with e1 e2
      subst e1 e2
      rw [Option.map_eq_some_iff] at h
      obtain ⟨l', hl, rfl⟩ := h
      obtain ⟨h1, h2⟩ := bytesOf_vals hl
      exact ⟨by simp [plainVs, plainV, h1], by simp [h2]⟩
    · cases h
theorem plains_eq : ∀ {l l' : List Value}, plainVs l = true → VRels S l l' → l' = l
  | [], _, _, h => by cases h; rfl
  | v :: l, _, hp, h => by
    simp only [plainVs, Bool.and_eq_true] at hp
    cases h with
    | cons a b => rw [plain_eq hp.1 a, plains_eq hp.2 b]
theorem byteVals_plain (s : ByteArray) : plainVs (byteVals s) = true ∧ ones (byteVals s) = true ∧ (byteVals s).length = s.size := by
  unfold byteVals
  refine ⟨?_, ?_, by simp⟩
  · induction s.data.toList with
    | nil => rfl
    | cons b l ih => simp [plainVs, plainV, ih]
  · induction s.data.toList with
    | nil => rfl
    | cons b l ih => simp [ones, Value.oneCell']
theorem src_slice (hs : Sim P B w0 S h w) {T e : TypeId} (hT : P.underlying T = some (.slice e)) {sa : Option Addr} {n c : Nat} {v' : Value} (hv : VRel S (.slice sa n c) v') {i : TypeInfo} (hi : P.info? e = some i) {cs : List Value} (hc : slCells h i.size ⟨sa, n, c⟩ = some cs) :
    ∃ vs', VRels S cs vs' ∧ ones cs = true ∧ cs.length = n * i.size ∧ Src P i.size T v' n vs' w := by
  obtain ⟨p', c', vs', rfl, hnc, hr, hl, h1, hp⟩ := slCells_sound hs hv hc
  refine ⟨vs', hr, h1, hl, ?_⟩
  rcases hp with ⟨rfl, rfl, rfl, rfl⟩ | ⟨ad', rfl, hcell⟩
  · exact Src.ofNil w hT 0
  · exact Src.ofSlice w hT ad' n c' vs' (by rw [← hr.length, hl]) hcell (ones_rel hr h1)
/-- 'append' at a row's end. -/
def appV0 (h : Heap) (sz : Nat) (e : TypeId) (s : Sl) (m : Nat) (news : List Value) : Option (Sl × Heap) :=
  if m = 0 then some (s, h) else
  match s.a with
  | none => if s.n = 0 ∧ s.c = 0 then some (⟨some ⟨h.length, 0, none⟩, m, 0⟩, h ++ [.row true e news]) else none
  | some a =>
    if s.c ≠ 0 then
      if s.c - 1 < s.n + m then (slCells h sz s).bind fun old => some (⟨some ⟨h.length, 0, none⟩, s.n + m, 0⟩, h ++ [.row true e (old ++ news)]) else none
    else match h[a.block]? with
      | some (.row true z cs) =>
        if z ≠ e then none
        else if a.off + s.n * sz = cs.length then some (⟨some ⟨h.length, 0, none⟩, s.n + m, 0⟩, h.set a.block .dead ++ [.row true e (cs.drop a.off ++ news)])
        else none
      | _ => none
/-- 'append', whatever is appended. -/
theorem app_sound0 (hs : Sim P B w0 S h w) {T U e ty : TypeId} (hT : P.underlying T = some (.slice e)) (hek : e < boxK) (hz : P.cellsOf e ≠ 0) {i : TypeInfo} {z : Value} (hi : P.info? e = some i) (hzo : i.zero = some z) (hzs : z.cells.size = i.size)
    {sa : Option Addr} {n c : Nat} {s' : Value} (hv : VRel S (.slice sa n c) s') {x' : Value} {m : Nat} {news news' : List Value} (hsrc : Src P i.size U x' m news' w) (hn : VRels S news news') (h1 : ones news = true) (hln : news.length = m * i.size)
    (hb : (n + m) * i.bytes ≤ 140737488355328) (h63 : n + m ≤ 140737488355328) {q : Sl × Heap} (hq : appV0 h i.size e ⟨sa, n, c⟩ m news = some q) :
    ∃ u' w' S', (Builtin.append_ #[T, U] ty #[s', x']).run P w = .ok u' w' ∧ S <+: S' ∧ Sim P B w0 S' q.2 w' ∧ VRel S' (.slice q.1.a q.1.n q.1.c) u' := by
  have hsz : i.size ≠ 0 := by unfold Program.cellsOf at hz; simpa [hi] using hz
  have hci : P.cellsOf e = i.size := by simp [Program.cellsOf, hi]
  have hub : unbox e = e := by unfold unbox; rw [if_neg (Nat.not_le.2 hek)]
  have hlen := hn.length
  unfold appV0 at hq
  simp only at hq
  -- a new row
  have grow : ∀ (olds olds' : List Value) (b' : Option Addr) (c' : Nat), s' = .slice b' n c' → c' < n + m → VRels S olds olds' → ones olds = true → olds.length = n * i.size →
      (Builtin.firstCells i.size n (.slice b' n c')).run P w.drew = .ok olds'.toArray w.drew → ∀ (h2 : Heap), Sim P B w0 S h2 w → h2.length = h.length →
      ∃ u' w' S', (Builtin.append_ #[T, U] ty #[s', x']).run P w = .ok u' w' ∧ S <+: S' ∧ Sim P B w0 S' (h2 ++ [.row true e (olds ++ news)]) w' ∧ VRel S' (.slice (some ⟨h.length, 0, none⟩) (n + m) 0) u' := by
    intro olds olds' b' c' hs' hg ho ho1 hol hold h2 hs2 hl2
    have hrun := run_append_grow_src (P := P) w T U ty e i z hT hi hzo b' n c' olds' hold x' m news' hsrc hg (by omega) (growslice_fits hg hb)
    obtain ⟨C, hC⟩ : ∃ C : Array Value, C = (olds' ++ news').toArray ++ Builtin.zeroCells z.cells (grownCap w (n + m) c' e - (n + m)) := ⟨_, rfl⟩
    rw [← hC] at hrun
    have hc : n + m ≤ grownCap w (n + m) c' e := by
      unfold grownCap
      simp only [Question.cut]
      omega
    have hCs : C.size = grownCap w (n + m) c' e * i.size := by
      rw [hC]
      simp only [Array.size_append, List.size_toArray, List.length_append, size_zeroCells, hzs]
      rw [← ho.length, ← hlen, hol, hln, ← Nat.add_mul, ← Nat.add_mul]
      congr 1
      omega
    refine ⟨_, _, S ++ [⟨w.heap.size, 0, C.size, P.cellsOf e⟩], hs' ▸ hrun, ⟨_, rfl⟩, ?_, ?_⟩
    · have hd := hs2.drawn (w.drawn + 1)
      rw [show (Obj.cells C e) = Obj.cells C (unbox e) from by rw [hub]]
      refine hd.alloc _ e (olds ++ news) (fun h => absurd h (Nat.not_le.2 hek)) (ones_append.2 ⟨ho1, h1⟩) ?_ ?_
      · rw [hCs, List.length_append, hol, hln, ← Nat.add_mul]
        exact Nat.mul_le_mul_right _ hc
      · intro j v hj
        obtain ⟨v', hv', hr⟩ := (ho.append hn).get hj
        refine ⟨v', ?_, hr⟩
        have hjl := (List.getElem?_eq_some_iff.1 hv').1
        rw [hC, Array.getElem?_append_left (by simpa using hjl)]
        simpa using hv'
    · have := VRel.slice (S := S ++ [⟨w.heap.size, 0, C.size, P.cellsOf e⟩]) (i := S.length) (o := 0) (n := n + m) (c := 0) (c' := grownCap w (n + m) c' e)
        (a := ⟨w.heap.size, 0, none⟩) (L := ⟨w.heap.size, 0, C.size, P.cellsOf e⟩) (by simp) hc rfl (fun _ => rfl) (fun _ => by
          simp only; rw [hci]; omega) (fun h => absurd rfl h)
      rw [hs.len] at this
      exact this
  split at hq
  · -- nothing
    rename_i hm
    subst hm
    injection hq with hq
    subst hq
    have hn0 : news' = [] := by
      have : news'.length = 0 := by rw [← hlen, hln]; simp
      exact List.eq_nil_of_length_eq_zero this
    subst hn0
    have hform : ∃ b' c', s' = .slice b' n c' ∧ n ≤ c' := by
      cases sa with
      | none => obtain ⟨rfl, rfl, rfl⟩ := hv.inv_sliceN; exact ⟨_, _, rfl, Nat.le_refl _⟩
      | some ad => obtain ⟨_, _, _, _, c', _, _, rfl, hnc, _⟩ := hv.inv_slice; exact ⟨_, _, rfl, hnc⟩
    obtain ⟨b', c', rfl, hnc⟩ := hform
    exact ⟨_, w, S, run_append_nothing (P := P) w T U ty e i hT hi b' n c' hnc x' hsrc, List.prefix_refl _, hs, hv⟩
  · rename_i hm
    split at hq
    · -- nil
      have hq' := ite_some hq
      obtain ⟨⟨hn0, hc0⟩, hq'⟩ := hq'
      injection hq' with hq'
      subst hq' hn0 hc0
      obtain ⟨_, _, rfl⟩ := hv.inv_sliceN
      have := grow [] [] none 0 rfl (by omega) .nil rfl (by simp) (run_firstCells_none w.drew i.size 0 0 0) h hs rfl
      simpa using this
    · rename_i ad
      split at hq
      · -- for sure no room
        rename_i hc0
        have hq' := ite_some hq
        obtain ⟨hlt, hq'⟩ := hq'
        rw [Option.bind_eq_some_iff] at hq'
        obtain ⟨olds, hold, hq'⟩ := hq'
        injection hq' with hq'
        subst hq'
        obtain ⟨vs', hr, ho1, hol, hso⟩ := src_slice hs hT hv hi hold
        obtain ⟨_, _, _, a', c', _, _, rfl, hnc, _, _, _, hcc⟩ := hv.inv_slice
        have := hcc hc0
        exact grow olds vs' (some a') c' rfl (by omega) hr ho1 hol hso.cellsD h hs rfl
      · rename_i hc0
        have hc0 : c = 0 := by omega
        split at hq
        · rename_i zz cs hrow
          split at hq
          · cases hq
          · rename_i hzz
            have hzz : zz = e := by simpa using hzz
            subst hzz
            obtain ⟨k, o, L, a', c', rfl, hL, rfl, hnc, _, ha, hcx, _⟩ := hv.inv_slice
            have hr : RowIs P B S w L true zz cs := hs.ob k _ L hrow hL
            have hx := hcx hc0
            rw [hr.sz, hci] at hx
            have hext := hr.ext
            simp only at hq
            split at hq
            · -- the row's end
              rename_i hend
              injection hq with hq
              subst hq
              rcases Nat.lt_or_ge c' (n + m) with hg | hroom
              · obtain ⟨vs', hvl, hcell, hrel⟩ := hr.pick o (n * i.size) (by omega)
                have htk : (cs.drop o).take (n * i.size) = cs.drop o := List.take_of_length_le (by simp; omega)
                rw [htk] at hrel
                have hcell' : ∀ (j : Nat) (u : Value), vs'[j]? = some u → w.drew.cell? (a'.add j) = some u := by
                  intro j u hu
                  have hn0 : n ≠ 0 := by
                    intro h0
                    have : vs'.length = 0 := by rw [hvl, h0]; simp
                    rw [List.eq_nil_of_length_eq_zero this] at hu
                    simp at hu
                  rw [ha (by omega), Addr.add_lit]
                  exact hcell j u hu
                have := grow (cs.drop o) vs' (some a') c' rfl hg hrel (ones_of fun j v hj => by rw [List.getElem?_drop] at hj; exact ones_get hr.one hj) (by simp; omega)
                  (run_firstCells_some w.drew i.size n a' n c' vs' hvl hcell') (h.set k .dead) (hs.kill k) (by simp)
                simpa using this
              · have ha' := ha (by omega)
                subst ha'
                have hadd : (n + m) * i.size = n * i.size + m * i.size := Nat.add_mul _ _ _
                have hroom' : (n + m) * i.size ≤ c' * i.size := Nat.mul_le_mul_right _ hroom
                obtain ⟨hB, C, fr, hblk, hfr, hC, _⟩ := hr.own rfl
                obtain ⟨r1, r2⟩ := hr.room (k := o + n * i.size) (n := news'.length) (by rw [← hlen, hln]; omega)
                have hrun := run_append_room_src (P := P) w T U ty zz i hT hi L.b (L.o + o) n c' x' m news' hsrc hroom (by intro j hj; have := r1 j hj; rwa [← Nat.add_assoc] at this) (by intro j hj; have := r2 j hj; rwa [← Nat.add_assoc] at this)
                obtain ⟨C', h5, h6, h7⟩ := setCells_row news' (L.o + o + n * i.size) hblk
                obtain ⟨g1, g2, g3⟩ := setCells_rest (w := w) (b := L.b) news' (L.o + o + n * i.size)
                have hkill := hs.kill k
                refine ⟨_, _, S ++ [⟨L.b, L.o + o, L.ext - o, P.cellsOf zz⟩], hrun, ⟨_, rfl⟩, ?_, ?_⟩
                · refine hkill.add ⟨L.b, L.o + o, L.ext - o, P.cellsOf zz⟩ _ (fun j hj hne => setCells_ne hne _ _) (by rw [setCells_size]; exact Nat.le_refl _) g1 g2 g3 hB ?_ ?_
                  · intro j u M hj hl hM
                    rw [List.getElem?_set] at hj
                    split at hj
                    · split at hj
                      · injection hj with hj; subst hj; cases hl
                      · cases hj
                    · rename_i hne
                      exact fun e => hs.sep k j _ u L M hne hrow hj rfl hl hL hM e.symm
                  · refine ⟨rfl, ?_, by rw [setCells_size]; exact hr.lt, ?_, ?_, fun _ => ⟨hB, C', fr, h5, by rw [h6]; exact hfr, by rw [h6]; simp only; omega, fun h => absurd h (Nat.not_le.2 hek)⟩⟩
                    · exact ones_append.2 ⟨ones_of fun j v hj => by rw [List.getElem?_drop] at hj; exact ones_get hr.one hj, h1⟩
                    · simp only [List.length_append, List.length_drop, hln]
                      omega
                    · intro j v hj
                      simp only [World.cell?, h5, Option.isSome_none, Bool.false_eq_true, if_false, h7]
                      by_cases hjl : j < cs.length - o
                      · rw [List.getElem?_append_left (by simpa using hjl), List.getElem?_drop] at hj
                        obtain ⟨v', hv', hrel⟩ := hr.cell _ v hj
                        refine ⟨v', ?_, hrel.mono ⟨_, rfl⟩⟩
                        rw [if_neg (by omega)]
                        rw [← Nat.add_assoc] at hv'
                        simpa [World.cell?, hblk] using hv'
                      · rw [List.getElem?_append_right (by simpa using hjl)] at hj
                        simp only [List.length_drop] at hj
                        obtain ⟨v', hv', hrel⟩ := hn.get hj
                        refine ⟨v', ?_, hrel.mono ⟨_, rfl⟩⟩
                        have hjn := (List.getElem?_eq_some_iff.1 hj).1
                        rw [if_pos ⟨by omega, by omega, by omega⟩, show L.o + o + j - (L.o + o + n * i.size) = j - (cs.length - o) from by omega]
                        exact hv'
                · have := VRel.slice (S := S ++ [⟨L.b, L.o + o, L.ext - o, P.cellsOf zz⟩]) (i := S.length) (o := 0) (n := n + m) (c := 0) (c' := c') (a := ⟨L.b, L.o + o, none⟩) (L := ⟨L.b, L.o + o, L.ext - o, P.cellsOf zz⟩) (by simp) hroom rfl (fun _ => rfl)
                    (fun _ => by simp only; rw [hci]; omega) (fun h => absurd rfl h)
                  rw [hs.len] at this
                  exact this
            · cases hq
        · cases hq
/-- What lies behind isn't asked for any more. -/
theorem Sim.trunc (hs : Sim P B w0 S h w) {k : Nat} {e : TypeId} {cs : List Value} (hk : h[k]? = some (.row true e cs)) (hek : e < boxK) (n : Nat) : Sim P B w0 S (h.set k (.row true e (cs.take n))) w := by
  obtain ⟨L, hL, ho⟩ := hs.loc hk
  have hr : RowIs P B S w L true e cs := ho
  refine hs.turn hk hL rfl (fun _ _ => rfl) rfl rfl rfl rfl (o' := .row true e (cs.take n)) ⟨hr.sz, ?_, hr.lt, ?_, ?_, fun _ => ?_⟩
  · have := hr.one
    unfold ones at this ⊢
    rw [List.all_eq_true] at this ⊢
    exact fun v hv => this v (List.mem_of_mem_take hv)
  · have := hr.ext
    rw [List.length_take]; omega
  · intro j v hj
    rw [List.getElem?_take] at hj
    split at hj
    · exact hr.cell j v hj
    · cases hj
  · obtain ⟨h1, C, fr, h2, h3, h4, h5⟩ := hr.own rfl
    exact ⟨h1, C, fr, h2, h3, h4, fun h => absurd h (Nat.not_le.2 hek)⟩
theorem app_sound (hs : Sim P B w0 S h w) {T U e ty : TypeId} (hT : P.underlying T = some (.slice e)) (hek : e < boxK) (hz : P.cellsOf e ≠ 0) {i : TypeInfo} {z : Value} (hi : P.info? e = some i) (hzo : i.zero = some z) (hzs : z.cells.size = i.size)
    {sa : Option Addr} {n c : Nat} {s' : Value} (hv : VRel S (.slice sa n c) s') {x' : Value} {m : Nat} {news news' : List Value} (hsrc : Src P i.size U x' m news' w) (hn : VRels S news news') (h1 : ones news = true) (hln : news.length = m * i.size)
    (hb : (n + m) * i.bytes ≤ 140737488355328) (h63 : n + m ≤ 140737488355328) {q : Sl × Heap} (hq : appV h i.size e ⟨sa, n, c⟩ m news = some q) :
    ∃ u' w' S', (Builtin.append_ #[T, U] ty #[s', x']).run P w = .ok u' w' ∧ S <+: S' ∧ Sim P B w0 S' q.2 w' ∧ VRel S' (.slice q.1.a q.1.n q.1.c) u' := by
  have key : appV0 h i.size e ⟨sa, n, c⟩ m news = some q → ∃ u' w' S', (Builtin.append_ #[T, U] ty #[s', x']).run P w = .ok u' w' ∧ S <+: S' ∧ Sim P B w0 S' q.2 w' ∧ VRel S' (.slice q.1.a q.1.n q.1.c) u' := fun h0 =>
    app_sound0 hs (ty := ty) hT hek hz hi hzo hzs hv hsrc hn h1 hln hb h63 h0
  unfold appV at hq
  unfold appV0 at key
  simp only at hq key
  by_cases hm : m = 0
  · rw [if_pos hm] at hq key; exact key hq
  rw [if_neg hm] at hq key
  cases sa with
  | none => exact key hq
  | some ad =>
    simp only at hq key
    by_cases hc : c ≠ 0
    · rw [if_pos hc] at hq key; exact key hq
    rw [if_neg hc] at hq key
    cases hrow : h[ad.block]? with
    | none => rw [hrow] at hq; cases hq
    | some o =>
      rw [hrow] at hq key
      cases o with
      | dead => cases hq
      | app _ _ => cases hq
      | map _ _ => cases hq
      | row rw1 zz cs =>
        cases rw1 with
        | false => cases hq
        | true =>
          simp only at hq key
          by_cases hzz : zz ≠ e
          · rw [if_pos hzz] at hq; cases hq
          rw [if_neg hzz] at hq key
          by_cases hend : ad.off + n * i.size = cs.length
          · rw [if_pos hend] at hq key; exact key hq
          rw [if_neg hend] at hq
          obtain ⟨hle, hq⟩ := ite_some hq
          injection hq with hq
          subst hq
          have hzz : zz = e := Decidable.not_not.1 hzz
          subst hzz
          have hlt := (List.getElem?_eq_some_iff.1 hrow).1
          have hs2 := hs.trunc hrow hek (ad.off + n * i.size)
          have h0 : appV0 (h.set ad.block (.row true zz (cs.take (ad.off + n * i.size)))) i.size zz ⟨some ad, n, c⟩ m news = some (⟨some ⟨h.length, 0, none⟩, n + m, 0⟩, h.set ad.block .dead ++ [.row true zz ((cs.take (ad.off + n * i.size)).drop ad.off ++ news)]) := by
            unfold appV0
            simp only
            rw [if_neg hm, if_neg hc, List.getElem?_set_self hlt]
            simp only
            rw [if_neg (fun h => h rfl), if_pos (by rw [List.length_take]; omega), List.length_set, List.set_set]
          exact app_sound0 hs2 (ty := ty) hT hek hz hi hzo hzs hv hsrc hn h1 hln hb h63 h0
/-- 'append' into new memory. -/
theorem app_grow (hs : Sim P B w0 S h w) {T U e ty : TypeId} (hT : P.underlying T = some (.slice e)) (hek : e < boxK) (hz : P.cellsOf e ≠ 0) {i : TypeInfo} {z : Value} (hi : P.info? e = some i) (hzo : i.zero = some z) (hzs : z.cells.size = i.size)
    {sa : Option Addr} {n c : Nat} {s' : Value} (hv : VRel S (.slice sa n c) s') {x' : Value} {m : Nat} {news news' : List Value} (hsrc : Src P i.size U x' m news' w) (hn : VRels S news news') (h1 : ones news = true) (hln : news.length = m * i.size)
    (hb : (n + m) * i.bytes ≤ 140737488355328) (h63 : n + m ≤ 140737488355328) 
    (olds olds' : List Value) (b' : Option Addr) (c' : Nat) (hs' : s' = .slice b' n c') (hg : c' < n + m) (ho : VRels S olds olds') (ho1 : ones olds = true) (hol : olds.length = n * i.size)
    (hold : (Builtin.firstCells i.size n (.slice b' n c')).run P w.drew = .ok olds'.toArray w.drew) (h2 : Heap) (hs2 : Sim P B w0 S h2 w) (hl2 : h2.length = h.length) :
    ∃ u' w' S', (Builtin.append_ #[T, U] ty #[s', x']).run P w = .ok u' w' ∧ S <+: S' ∧ Sim P B w0 S' (h2 ++ [.app e (olds ++ news)]) w' ∧ VRel S' (.slice (some ⟨h.length, 0, none⟩) (n + m) 0) u' := by
  have hsz : i.size ≠ 0 := by unfold Program.cellsOf at hz; simpa [hi] using hz
  have hci : P.cellsOf e = i.size := by simp [Program.cellsOf, hi]
  have hub : unbox e = e := by unfold unbox; rw [if_neg (Nat.not_le.2 hek)]
  have hlen := hn.length
  have hrun := run_append_grow_src (P := P) w T U ty e i z hT hi hzo b' n c' olds' hold x' m news' hsrc hg (by omega) (growslice_fits hg hb)
  obtain ⟨C, hC⟩ : ∃ C : Array Value, C = (olds' ++ news').toArray ++ Builtin.zeroCells z.cells (grownCap w (n + m) c' e - (n + m)) := ⟨_, rfl⟩
  rw [← hC] at hrun
  have hc : n + m ≤ grownCap w (n + m) c' e := by
    unfold grownCap
    simp only [Question.cut]
    omega
  have hCs : C.size = grownCap w (n + m) c' e * i.size := by
    rw [hC]
    simp only [Array.size_append, List.size_toArray, List.length_append, size_zeroCells, hzs]
    rw [← ho.length, ← hlen, hol, hln, ← Nat.add_mul, ← Nat.add_mul]
    congr 1
    omega
  refine ⟨_, _, S ++ [⟨w.heap.size, 0, C.size, P.cellsOf e⟩], hs' ▸ hrun, ⟨_, rfl⟩, ?_, ?_⟩
  · have hd := hs2.drawn (w.drawn + 1)
    rw [show (Obj.cells C e) = Obj.cells C (unbox e) from by rw [hub]]
    have hal := hd.alloc C e (olds ++ news) (fun h => absurd h (Nat.not_le.2 hek)) (ones_append.2 ⟨ho1, h1⟩) (by
      rw [hCs, List.length_append, hol, hln, ← Nat.add_mul]
      exact Nat.mul_le_mul_right _ hc) (by
      intro j v hj
      obtain ⟨v', hv', hr⟩ := (ho.append hn).get hj
      refine ⟨v', ?_, hr⟩
      have hjl := (List.getElem?_eq_some_iff.1 hv').1
      rw [hC, Array.getElem?_append_left (by simpa using hjl)]
      simpa using hv')
    have := hal.soft (i := h2.length) (e := e) (cs := olds ++ news) (by simp)
    simpa using this
  · have := VRel.slice (S := S ++ [⟨w.heap.size, 0, C.size, P.cellsOf e⟩]) (i := S.length) (o := 0) (n := n + m) (c := 0) (c' := grownCap w (n + m) c' e)
      (a := ⟨w.heap.size, 0, none⟩) (L := ⟨w.heap.size, 0, C.size, P.cellsOf e⟩) (by simp) hc rfl (fun _ => rfl) (fun _ => by
        simp only; rw [hci]; omega) (fun h => absurd rfl h)
    rw [hs.len] at this
    exact this
/-- .. at a row's end, what was there staying. -/
theorem app_end (hs : Sim P B w0 S h w) {T U e ty : TypeId} (hT : P.underlying T = some (.slice e)) (hek : e < boxK) (hz : P.cellsOf e ≠ 0) {i : TypeInfo} {z : Value} (hi : P.info? e = some i) (hzo : i.zero = some z) (hzs : z.cells.size = i.size)
    {sa : Option Addr} {n c : Nat} {s' : Value} (hv : VRel S (.slice sa n c) s') {x' : Value} {m : Nat} {news news' : List Value} (hsrc : Src P i.size U x' m news' w) (hn : VRels S news news') (h1 : ones news = true) (hln : news.length = m * i.size)
    (hb : (n + m) * i.bytes ≤ 140737488355328) (h63 : n + m ≤ 140737488355328) 
    (hm : m ≠ 0) {k o : Nat} {cs : List Value} (hsa : sa = some ⟨k, o, none⟩) (hc0 : c = 0) (hrow : h[k]? = some (.row true e cs) ∨ h[k]? = some (.app e cs)) (hend : o + n * i.size = cs.length) :
    ∃ u' w' S', (Builtin.append_ #[T, U] ty #[s', x']).run P w = .ok u' w' ∧ S <+: S' ∧ Sim P B w0 S' (h.set k (.row false e cs) ++ [.app e (cs.drop o ++ news)]) w' ∧ VRel S' (.slice (some ⟨h.length, 0, none⟩) (n + m) 0) u' := by
  have hsz : i.size ≠ 0 := by unfold Program.cellsOf at hz; simpa [hi] using hz
  have hci : P.cellsOf e = i.size := by simp [Program.cellsOf, hi]
  have hlen := hn.length
  subst hsa
  obtain ⟨k', o', L, a', c', he, hL, rfl, hnc, _, ha, hcx, _⟩ := hv.inv_slice
  injection he with e1 e2
  subst e1 e2
  have hr : RowIs P B S w L true e cs := by
    rcases hrow with h0 | h0
    · exact hs.ob k _ L h0 hL
    · exact hs.ob k _ L h0 hL
  have hro := hs.ro hrow
  have hx := hcx hc0
  rw [hr.sz, hci] at hx
  have hext := hr.ext
  rcases Nat.lt_or_ge c' (n + m) with hg | hroom
  · obtain ⟨vs', hvl, hcell, hrel⟩ := hr.pick o (n * i.size) (by omega)
    have htk : (cs.drop o).take (n * i.size) = cs.drop o := List.take_of_length_le (by simp; omega)
    rw [htk] at hrel
    have hcell' : ∀ (j : Nat) (u : Value), vs'[j]? = some u → w.drew.cell? (a'.add j) = some u := by
      intro j u hu
      have hn0 : n ≠ 0 := by
        intro h0
        have : vs'.length = 0 := by rw [hvl, h0]; simp
        rw [List.eq_nil_of_length_eq_zero this] at hu
        simp at hu
      rw [ha (by omega), Addr.add_lit]
      exact hcell j u hu
    exact app_grow hs (ty := ty) hT hek hz hi hzo hzs hv hsrc hn h1 hln hb h63 (cs.drop o) vs' (some a') c' rfl hg hrel (ones_of fun j v hj => by rw [List.getElem?_drop] at hj; exact ones_get hr.one hj) (by simp; omega)
      (run_firstCells_some w.drew i.size n a' n c' vs' hvl hcell') _ hro (by simp)
  · have ha' := ha (by omega)
    subst ha'
    have hadd : (n + m) * i.size = n * i.size + m * i.size := Nat.add_mul _ _ _
    have hroom' : (n + m) * i.size ≤ c' * i.size := Nat.mul_le_mul_right _ hroom
    obtain ⟨hB, C, fr, hblk, hfr, hC, _⟩ := hr.own rfl
    obtain ⟨r1, r2⟩ := hr.room (k := o + n * i.size) (n := news'.length) (by rw [← hlen, hln]; omega)
    have hrun := run_append_room_src (P := P) w T U ty e i hT hi L.b (L.o + o) n c' x' m news' hsrc hroom (by intro j hj; have := r1 j hj; rwa [← Nat.add_assoc] at this) (by intro j hj; have := r2 j hj; rwa [← Nat.add_assoc] at this)
    obtain ⟨C', h5, h6, h7⟩ := setCells_row news' (L.o + o + n * i.size) hblk
    obtain ⟨g1, g2, g3⟩ := setCells_rest (w := w) (b := L.b) news' (L.o + o + n * i.size)
    refine ⟨_, _, S ++ [⟨L.b, L.o + o, L.ext - o, P.cellsOf e⟩], hrun, ⟨_, rfl⟩, ?_, ?_⟩
    · refine hro.addOver ⟨L.b, L.o + o, L.ext - o, P.cellsOf e⟩ e (cs.drop o ++ news) (L.o + cs.length) (fun j hne => setCells_ne hne _ _) (setCells_size _ _) g1 g2 g3 hB ?_ ?_ ?_ ?_
      · intro j u M hj hl hM hb
        rw [List.getElem?_set] at hj
        split at hj
        · rename_i hkj
          subst hkj
          split at hj
          · injection hj with hj
            subst hj
            rw [hL] at hM
            injection hM with hM
            subst hM
            exact ⟨e, cs, rfl, Nat.le_refl _⟩
          · cases hj
        · rename_i hne
          rcases hrow with h0 | h0
          · exact absurd hb.symm (hs.sep k j _ u L M hne h0 hj rfl hl hL hM)
          · exact hs.sepA k j e cs u L M hne h0 hj hl hL hM hb.symm
      · intro p hp
        simp only [World.cell?, h5, hblk, Option.isSome_none, Bool.false_eq_true, if_false, h7]
        rw [if_neg (by omega)]
      · simp only [List.length_append, List.length_drop, hln]
        omega
      · refine ⟨rfl, ?_, by rw [setCells_size]; exact hr.lt, ?_, ?_, fun _ => ⟨hB, C', fr, h5, by rw [h6]; exact hfr, by rw [h6]; simp only; omega, fun h => absurd h (Nat.not_le.2 hek)⟩⟩
        · exact ones_append.2 ⟨ones_of fun j v hj => by rw [List.getElem?_drop] at hj; exact ones_get hr.one hj, h1⟩
        · simp only [List.length_append, List.length_drop, hln]
          omega
        · intro j v hj
          simp only [World.cell?, h5, Option.isSome_none, Bool.false_eq_true, if_false, h7]
          by_cases hjl : j < cs.length - o
          · rw [List.getElem?_append_left (by simpa using hjl), List.getElem?_drop] at hj
            obtain ⟨v', hv', hrel⟩ := hr.cell _ v hj
            refine ⟨v', ?_, hrel.mono ⟨_, rfl⟩⟩
            rw [if_neg (by omega)]
            rw [← Nat.add_assoc] at hv'
            simpa [World.cell?, hblk] using hv'
          · rw [List.getElem?_append_right (by simpa using hjl)] at hj
            simp only [List.length_drop] at hj
            obtain ⟨v', hv', hrel⟩ := hn.get hj
            refine ⟨v', ?_, hrel.mono ⟨_, rfl⟩⟩
            have hjn := (List.getElem?_eq_some_iff.1 hj).1
            rw [if_pos ⟨by omega, by omega, by omega⟩, show L.o + o + j - (L.o + o + n * i.size) = j - (cs.length - o) from by omega]
            exact hv'
    · have := VRel.slice (S := S ++ [⟨L.b, L.o + o, L.ext - o, P.cellsOf e⟩]) (i := S.length) (o := 0) (n := n + m) (c := 0) (c' := c') (a := ⟨L.b, L.o + o, none⟩) (L := ⟨L.b, L.o + o, L.ext - o, P.cellsOf e⟩) (by simp) hroom rfl (fun _ => rfl)
        (fun _ => by simp only; rw [hci]; omega) (fun h => absurd rfl h)
      rw [hs.len] at this
      exact this
theorem appK_sound (hs : Sim P B w0 S h w) {T U e ty : TypeId} (hT : P.underlying T = some (.slice e)) (hek : e < boxK) (hz : P.cellsOf e ≠ 0) {i : TypeInfo} {z : Value} (hi : P.info? e = some i) (hzo : i.zero = some z) (hzs : z.cells.size = i.size)
    {sa : Option Addr} {n c : Nat} {s' : Value} (hv : VRel S (.slice sa n c) s') {x' : Value} {m : Nat} {news news' : List Value} (hsrc : Src P i.size U x' m news' w) (hn : VRels S news news') (h1 : ones news = true) (hln : news.length = m * i.size)
    (hb : (n + m) * i.bytes ≤ 140737488355328) (h63 : n + m ≤ 140737488355328) {q : Sl × Heap} (hq : appK h i.size e ⟨sa, n, c⟩ m news = some q) :
    ∃ u' w' S', (Builtin.append_ #[T, U] ty #[s', x']).run P w = .ok u' w' ∧ S <+: S' ∧ Sim P B w0 S' q.2 w' ∧ VRel S' (.slice q.1.a q.1.n q.1.c) u' := by
  have hlen := hn.length
  unfold appK at hq
  simp only at hq
  split at hq
  · rename_i hm
    subst hm
    injection hq with hq
    subst hq
    have hn0 : news' = [] := by
      have : news'.length = 0 := by rw [← hlen, hln]; simp
      exact List.eq_nil_of_length_eq_zero this
    subst hn0
    have hform : ∃ b' c', s' = .slice b' n c' ∧ n ≤ c' := by
      cases sa with
      | none => obtain ⟨rfl, rfl, rfl⟩ := hv.inv_sliceN; exact ⟨_, _, rfl, Nat.le_refl _⟩
      | some ad => obtain ⟨_, _, _, _, c', _, _, rfl, hnc, _⟩ := hv.inv_slice; exact ⟨_, _, rfl, hnc⟩
    obtain ⟨b', c', rfl, hnc⟩ := hform
    exact ⟨_, w, S, run_append_nothing (P := P) w T U ty e i hT hi b' n c' hnc x' hsrc, List.prefix_refl _, hs, hv⟩
  · rename_i hm
    split at hq
    · have hq' := ite_some hq
      obtain ⟨⟨hn0, hc0⟩, hq'⟩ := hq'
      injection hq' with hq'
      subst hq' hn0 hc0
      obtain ⟨_, _, rfl⟩ := hv.inv_sliceN
      have := app_grow hs (ty := ty) hT hek hz hi hzo hzs hv hsrc hn h1 hln hb h63 [] [] none 0 rfl (by omega) .nil rfl (by simp) (run_firstCells_none w.drew i.size 0 0 0) h hs rfl
      simpa using this
    · rename_i ad
      split at hq
      · rename_i hc0
        have hq' := ite_some hq
        obtain ⟨hlt, hq'⟩ := hq'
        rw [Option.bind_eq_some_iff] at hq'
        obtain ⟨olds, hold, hq'⟩ := hq'
        injection hq' with hq'
        subst hq'
        obtain ⟨vs', hr, ho1, hol, hso⟩ := src_slice hs hT hv hi hold
        obtain ⟨_, _, _, a', c', _, _, rfl, hnc, _, _, _, hcc⟩ := hv.inv_slice
        have := hcc hc0
        exact app_grow hs (ty := ty) hT hek hz hi hzo hzs hv hsrc hn h1 hln hb h63 olds vs' (some a') c' rfl (by omega) hr ho1 hol hso.cellsD h hs rfl
      · rename_i hc0
        have hc0 : c = 0 := by omega
        obtain ⟨k, o, L, a', c', rfl, _⟩ := hv.inv_slice
        split at hq
        · rename_i zz cs hrow
          split at hq
          · cases hq
          · rename_i hzz
            have hzz : zz = e := by simpa using hzz
            subst hzz
            have hq' := ite_some hq
            obtain ⟨hend, hq'⟩ := hq'
            injection hq' with hq'
            subst hq'
            exact app_end hs (ty := ty) hT hek hz hi hzo hzs hv hsrc hn h1 hln hb h63 hm rfl hc0 (.inl hrow) hend
        · rename_i zz cs hrow
          split at hq
          · cases hq
          · rename_i hzz
            have hzz : zz = e := by simpa using hzz
            subst hzz
            have hq' := ite_some hq
            obtain ⟨hend, hq'⟩ := hq'
            injection hq' with hq'
            subst hq'
            exact app_end hs (ty := ty) hT hek hz hi hzo hzs hv hsrc hn h1 hln hb h63 hm rfl hc0 (.inr hrow) hend
        · cases hq
theorem appX_sound (hs : Sim P B w0 S h w) {T U e ty : TypeId} (hT : P.underlying T = some (.slice e)) (hek : e < boxK) (hz : P.cellsOf e ≠ 0) {i : TypeInfo} {z : Value} (hi : P.info? e = some i) (hzo : i.zero = some z) (hzs : z.cells.size = i.size)
    {sa : Option Addr} {n c : Nat} {s' : Value} (hv : VRel S (.slice sa n c) s') {x' : Value} {m : Nat} {news news' : List Value} (hsrc : Src P i.size U x' m news' w) (hn : VRels S news news') (h1 : ones news = true) (hln : news.length = m * i.size)
    (hb : (n + m) * i.bytes ≤ 140737488355328) (h63 : n + m ≤ 140737488355328) {keep : Bool} {q : Sl × Heap} (hq : appX keep h i.size e ⟨sa, n, c⟩ m news = some q) :
    ∃ u' w' S', (Builtin.append_ #[T, U] ty #[s', x']).run P w = .ok u' w' ∧ S <+: S' ∧ Sim P B w0 S' q.2 w' ∧ VRel S' (.slice q.1.a q.1.n q.1.c) u' := by
  cases keep with
  | true => exact appK_sound hs (ty := ty) hT hek hz hi hzo hzs hv hsrc hn h1 hln hb h63 hq
  | false => exact app_sound hs (ty := ty) hT hek hz hi hzo hzs hv hsrc hn h1 hln hb h63 hq
end
end Go.Proofs.Ytmpobijkbmljdaa.Sh
namespace Go.Proofs.Ytmpobijkbmljdaa.Sh
open Go.RowKit

section
/-! ### What is built -/
theorem foldl_put : ∀ (vs : List Value) (k off : Nat) (cs : List Value),
    (vs.zipIdx k).foldl (fun (cs : Array Value) (x : Value × Nat) => cs.setIfInBounds (off + x.2) x.1) cs.toArray = (putAll cs (off + k) vs).toArray
  | [], _, _, _ => rfl
  | v :: vs, k, off, cs => by
    simp only [List.zipIdx_cons, List.foldl_cons, List.setIfInBounds_toArray, putAll]
    have := foldl_put vs (k + 1) off (cs.set (off + k) v)
    rw [this, Nat.add_assoc]
theorem putAll_rel {S : List Loc} {vs vs' : List Value} (hv : VRels S vs vs') : ∀ {cs cs' : List Value} (k : Nat), VRels S cs cs' → VRels S (putAll cs k vs) (putAll cs' k vs') := by
  induction vs generalizing vs' with
  | nil => cases hv; intro cs cs' k h; exact h
  | cons v vs ih =>
    cases hv with
    | cons a b => intro cs cs' k h; exact ih b (k + 1) (h.set a k)
inductive PRel (S : List Loc) : List (Nat × Value) → List (Nat × Value) → Prop
  | nil : PRel S [] []
  | cons {i v v' l l'} : VRel S v v' → PRel S l l' → PRel S ((i, v) :: l) ((i, v') :: l')
theorem fill_rel {S : List Loc} {place : Nat → Option (Nat × Nat)} : ∀ {ps ps' : List (Nat × Value)} {cs cs' out : List Value}, PRel S ps ps' → VRels S cs cs' → (∀ x ∈ ps, x.2 ≠ undef) → fillL place cs ps = some out →
    ∃ out', Instr.fill place cs'.toArray ps' = some out'.toArray ∧ VRels S out out'
  | [], _, cs, cs', out, hp, hc, _, h => by
    cases hp
    simp only [fillL, Option.some.injEq] at h
    subst h
    exact ⟨cs', rfl, hc⟩
  | (i, v) :: ps, _, cs, cs', out, hp, hc, hu, h => by
    cases hp with
    | cons hv hp =>
      rename_i v' ps'
      simp only [fillL] at h
      have hne : v ≠ undef := hu (i, v) List.mem_cons_self
      have hcr := cells_rel hv (.inr hne)
      have hl : v.cells.toList.length = v'.cells.size := by rw [hcr.length]; simp
      split at h
      · cases h
      · rename_i off size hpl
        split at h
        · cases h
        · rename_i hcond
          obtain ⟨out', h1, h2⟩ := fill_rel hp (putAll_rel hcr off hc) (fun x hx => hu x (List.mem_cons_of_mem _ hx)) h
          refine ⟨out', ?_, h2⟩
          simp only [Instr.fill, hpl]
          have hcl := hc.length
          rw [if_neg (by rw [← hl]; simpa [hcl] using hcond)]
          rw [← h1]
          congr 1
          have := foldl_put v'.cells.toList 0 off cs'
          simp only [Nat.add_zero] at this
          rw [← this]
          rw [← Array.foldl_toList]
          simp
theorem evParts_rel {S : List Loc} {t : List Value} {a : Act} (ht : TRel S t a) : ∀ {l : List (Nat × Operand)} {ps : List (Nat × Value)}, evParts t l = some ps → PRel S ps (l.map fun x => (x.1, a.eval x.2))
  | [], _, h => by simp only [evParts, Option.some.injEq] at h; subst h; exact .nil
  | (i, x) :: l, _, h => by
    simp only [evParts, Option.bind_eq_some_iff, Option.map_eq_some_iff] at h
    obtain ⟨v, hv, vs, hvs, rfl⟩ := h
    exact .cons (ev_rel ht hv) (evParts_rel ht hvs)
theorem zeroOf_some {P : Program} {e : TypeId} {z : List Value} (h : zeroOf P e = some z) : ∃ i v, P.info? e = some i ∧ i.zero = some v ∧ v.cells.toList = z ∧ plainVs z = true ∧ ones z = true := by
  unfold zeroOf at h
  cases hi : P.info? e with
  | none => simp [hi] at h
  | some i =>
    cases hz : i.zero with
    | none => simp [hi, hz] at h
    | some v =>
      simp only [hi, Option.bind_some, hz] at h
      have h' := ite_some h
      obtain ⟨hp, h'⟩ := h'
      injection h' with h'
      subst h'
      simp only [Bool.and_eq_true] at hp
      refine ⟨i, v, rfl, hz, rfl, ?_, hp.2⟩
      have hp1 := hp.1
      unfold plainC at hp1
      split at hp1
      · simpa [Value.cells] using hp1
      · rename_i hne
        have : v.cells = #[v] := by
          cases v <;> first | rfl | (rename_i c; obtain ⟨c⟩ := c; exact absurd rfl (hne c))
        rw [this]
        simp [plainVs, hp1]
theorem repL_length (z : List Value) : ∀ n, (repL n z).length = n * z.length
  | 0 => by simp [repL]
  | n + 1 => by rw [repL, List.length_append, repL_length z n, Nat.succ_mul]
theorem repL_plain {z : List Value} (hz : plainVs z = true) : ∀ n, plainVs (repL n z) = true
  | 0 => rfl
  | n + 1 => by
    have h : ∀ a b : List Value, plainVs a = true → plainVs b = true → plainVs (a ++ b) = true := by
      intro a b ha hb
      induction a with
      | nil => exact hb
      | cons x a ih => simp only [plainVs, Bool.and_eq_true] at ha; simp [plainVs, ha.1, ih ha.2]
    exact h _ _ (repL_plain hz n) hz
theorem repL_ones {z : List Value} (hz : ones z = true) : ∀ n, ones (repL n z) = true
  | 0 => rfl
  | n + 1 => ones_append.2 ⟨repL_ones hz n, hz⟩
theorem repL_get (z : List Value) : ∀ (n j : Nat), j < n * z.length → (repL n z)[j]? = z[j % z.length]?
  | 0, j, h => by simp at h
  | n + 1, j, h => by
    rw [repL]
    rw [Nat.succ_mul] at h
    by_cases hj : j < n * z.length
    · rw [List.getElem?_append_left (by rw [repL_length]; exact hj)]
      exact repL_get z n j hj
    · rw [List.getElem?_append_right (by rw [repL_length]; omega), repL_length]
      congr 1
      have : j = (j - n * z.length) + n * z.length := by omega
      rw [this, Nat.add_mul_mod_self_right, Nat.mod_eq_of_lt (by omega)]
      omega
theorem made_eq (z : Array Value) (n : Nat) (hz : z.size ≠ 0 ∨ n = 0) : madeCells z (n * z.size) = (repL n z.toList).toArray := by
  apply Array.ext
  · simp [size_madeCells, repL_length]
  · intro j h1 h2
    rw [size_madeCells] at h1
    have hz' : z.size ≠ 0 := by
      rcases hz with h | h
      · exact h
      · subst h; simp at h1
    have hlt : j % z.size < z.size := Nat.mod_lt _ (by omega)
    have hg := repL_get z.toList n j (by simpa using h1)
    have e2 : (repL n z.toList).toArray[j]? = z[j % z.size]? := by simpa using hg
    rw [Array.getElem?_eq_getElem h2, Array.getElem?_eq_getElem hlt] at e2
    injection e2 with e2
    rw [e2]
    simp [madeCells, hlt]
end

section
variable {P : Program} {B : Nat} {w0 : World} {S : List Loc} {h : Heap} {w : World} {t : List Value} {a : Act}
theorem bytesOf_ints : ∀ {vs : List Value} {l : List UInt8}, bytesOfVals vs = some l → ∃ ns : List Int, vs = ns.map (Value.int .u8) ∧ l = ns.map fun n => UInt8.ofNat n.toNat
  | [], l, h => by simp [bytesOfVals] at h; subst h; exact ⟨[], rfl, rfl⟩
  | v :: vs, l, h => by
    unfold bytesOfVals at h
    split at h
    · rename_i e; cases e
    · rename_i n r e
      injection e with e1 e2
      subst e1 e2
      rw [Option.map_eq_some_iff] at h
      obtain ⟨l', hl, rfl⟩ := h
      obtain ⟨ns, rfl, rfl⟩ := bytesOf_ints hl
      exact ⟨n :: ns, rfl, rfl⟩
    · cases h
theorem foldl_push (ns : List Int) (s : ByteArray) : ns.foldl (fun r n => r.push (UInt8.ofNat n.toNat)) s = ⟨s.data ++ (ns.map fun n => UInt8.ofNat n.toNat).toArray⟩ := by
  induction ns generalizing s with
  | nil => simp
  | cons n ns ih =>
    rw [List.foldl_cons, ih]
    congr 1
    apply Array.ext'
    simp [ByteArray.push]
theorem str_sound (hs : Sim P B w0 S h w) {src dst e : TypeId} (h1 : P.underlying src = some (.slice e)) (h2 : P.underlying e = some (.int .u8)) (h3 : P.underlying dst = some .string) {sa : Option Addr} {n c : Nat} {v' : Value} (hv : VRel S (.slice sa n c) v')
    {s : ByteArray} (hq : strD h ⟨sa, n, c⟩ = some s) : (convert src dst v').run P w = .ok (.string s) w := by
  unfold strD at hq
  simp only [Option.bind_eq_some_iff, Option.map_eq_some_iff] at hq
  obtain ⟨cs, hcs, l, hl, rfl⟩ := hq
  obtain ⟨p', c', vs', rfl, hnc, hr, hln, ho, hp⟩ := slCells_sound hs hv hcs
  have heq := plains_eq (bytesOf_vals hl).1 hr
  subst heq
  obtain ⟨ns, hns, hl'⟩ := bytesOf_ints hl
  rw [run_convert_bytes_string w src dst e p' n c' h1 h2 h3]
  rcases hp with ⟨rfl, rfl, rfl, h0⟩ | ⟨ad', rfl, hcell⟩
  · subst h0
    have hns0 : ns = [] := by cases ns with | nil => rfl | cons _ _ => simp at hns
    subst hns0
    subst hl'
    rfl
  · have hld := run_loadCells_list (P := P) w ad' _ hcell
    rw [hln, Nat.mul_one] at hld
    rw [hns] at hld
    rw [run_bytesToString w ad' n c' ns hld, foldl_push, hl']
    simp
theorem run_loadBytes' : ∀ (vs : List Value) (l : List UInt8) (ad : Addr) (acc : ByteArray), bytesOfVals vs = some l → (∀ (j : Nat) (u : Value), vs[j]? = some u → w.cell? (ad.add j) = some u) →
    (loadBytes ad acc vs.length).run P w = .ok ⟨acc.data ++ l.toArray⟩ w
  | [], l, ad, acc, h, _ => by simp [bytesOfVals] at h; subst h; simp [loadBytes]
  | v :: vs, l, ad, acc, h, hc => by
    unfold bytesOfVals at h
    split at h
    · rename_i e; cases e
    · rename_i n r e
      injection e with e1 e2
      subst e1 e2
      rw [Option.map_eq_some_iff] at h
      obtain ⟨l', hl', rfl⟩ := h
      have h0 : w.cell? ad = some (.int .u8 n) := by
        have := hc 0 _ rfl
        simpa [Addr.add] using this
      have ih := run_loadBytes' vs l' (ad.add 1) (acc.push n.toNat.toUInt8) hl' (fun j y hy => by
        have := hc (j + 1) y (by simpa using hy)
        have e : (ad.add 1).add j = ad.add (j + 1) := by
          unfold Addr.add
          by_cases hj : j = 0
          · subst hj; simp
          · simp [hj]; omega
        rw [e]; exact this)
      simp only [List.length_cons, loadBytes, Sem.run_bind, run_load, h0, Result.andThen_ok]
      rw [ih]
      congr 1
      apply ByteArray.ext
      simp [ByteArray.push, Nat.toUInt8]
    · cases h
theorem liesAt_bytes' {e : TypeId} (hc : P.cellsOf e = 1) (count off n : Nat) (hn : off + n ≤ count) : liesAt P P.depth e count off e n = true := by
  have hd : P.depth = (2 * (P.types.size + Made.depth) + 1) + 1 := rfl
  rw [hd]
  simp only [liesAt, Bool.or_eq_true]
  left
  rw [hd]
  simp [rowAt, hc, hn, sameLayout, Nat.mod_one]
/-- 'unsafe.String': the bytes; the row is frozen. -/
theorem unsafeStr_sound (hs : Sim P B w0 S h w) {pt it ty e z : TypeId} (hp : P.underlying pt = some (.pointer e)) (hc : P.cellsOf e = 1) {ad : Addr} {x' : Value} (hx : VRel S (.pointer (some ad)) x') {cs : List Value} (hrow : h[ad.block]? = some (.row true z cs)) {n : Int} (h0 : 0 < n) (h63 : n ≤ IntKind.i64.max) (hz : z = e) (hek : e < boxK)
    {s : ByteArray} (hstr : strD h ⟨some ad, n.toNat, 0⟩ = some s) :
    ∃ W, (Builtin.unsafeString_ #[pt, it] ty #[x', .int .i64 n]).run P w = .ok (.string s) W ∧ Sim P B w0 S (h.set ad.block (.row false z cs)) W := by
  subst hz
  obtain ⟨k, o, L, rfl, hL, rfl⟩ := hx.inv_ptr
  simp only at hrow ⊢
  have hr : RowIs P B S w L true z cs := hs.ob k _ L hrow hL
  obtain ⟨hB, C, fr, hblk, hfr, hC, _⟩ := hr.own rfl
  have hub : unbox z = z := by unfold unbox; rw [if_neg (Nat.not_le.2 hek)]
  rw [hub] at hblk
  unfold strD at hstr
  simp only [Option.bind_eq_some_iff, Option.map_eq_some_iff] at hstr
  obtain ⟨us, hus, l, hl, rfl⟩ := hstr
  unfold slCells at hus
  simp only at hus
  rw [if_neg (by omega)] at hus
  unfold cellsAt at hus
  rw [Option.bind_eq_some_iff] at hus
  obtain ⟨cs', hcs', hus⟩ := hus
  unfold rowOf at hcs'
  simp only [hrow] at hcs'
  injection hcs' with hcs'
  subst hcs'
  have hus' := ite_some hus
  obtain ⟨hle, hus'⟩ := hus'
  injection hus' with hus'
  simp only [Nat.mul_one] at hle hus'
  obtain ⟨vs', hvl, hcell, hrel⟩ := hr.pick o n.toNat hle
  rw [hus'] at hrel
  have heq := plains_eq (bytesOf_vals hl).1 hrel
  subst heq
  have hlb := run_loadBytes' (P := P) (w := w) vs' l ⟨L.b, L.o + o, none⟩ .empty hl (fun j u hu => by rw [Addr.add_lit]; exact hcell j u hu)
  rw [hvl] at hlb
  have hext := hr.ext
  have hsh : w.shape? L.b = some (z, C.size) := by simp [World.shape?, hblk]
  have hlies := liesAt_bytes' (P := P) hc (C.size / P.cellsOf z) (L.o + o) n.toNat (by rw [hc, Nat.div_one]; omega)
  have hn1 : ¬ n < 0 := by omega
  have hn2 : ¬ n > IntKind.i64.max := by omega
  have hn3 : n ≠ 0 := by omega
  have hn4 : n.toNat ≠ 0 := by omega
  refine ⟨w.freeze ⟨L.b, L.o + o, none⟩ n.toNat, ?_, ?_⟩
  · have hdef : Builtin.unsafeString_ #[pt, it] ty #[.pointer (some ⟨L.b, L.o + o, none⟩), .int .i64 n] =
        (do
          let n ← asInt (.int .i64 n)
          if n < 0 then runtimePanic (.error "unsafe.String: len out of range")
          if n > IntKind.i64.max then unsupported (.unsafePointer "String: a length above the largest int")
          if n = 0 then pure (.string .empty)
          else if ← variablesAt ⟨L.b, L.o + o, none⟩ (← elemOf pt) n.toNat then do
            let s ← loadBytes ⟨L.b, L.o + o, none⟩ .empty n.toNat
            freeze ⟨L.b, L.o + o, none⟩ n.toNat
            pure (.string s)
          else unsupported (.unsafePointer "String: not so many bytes at ptr")) := rfl
    rw [hdef]
    have hmax : IntKind.i64.max = 9223372036854775807 := rfl
    rw [hmax] at hn2
    have hn2' : ¬ 9223372036854775807 < n := by omega
    simp [asInt, asIntOf, hmax, hn1, hn2', hn3, variablesAt, hsh, elemOf, run_underlying hp, hlies, hlb]
  · have hcells : ∀ j, (w.freeze ⟨L.b, L.o + o, none⟩ n.toNat).cell? ⟨L.b, j, none⟩ = w.cell? ⟨L.b, j, none⟩ := by
      intro j
      simp [World.freeze, World.cell?, Array.getElem?_modify, hblk, hn4]
    have hsz : (w.freeze ⟨L.b, L.o + o, none⟩ n.toNat).heap.size = w.heap.size := by
      unfold World.freeze; split <;> simp
    have hz : P.cellsOf z = P.cellsOf z := rfl
    refine hs.turn hrow hL rfl (fun k hk => ?_) hsz (by unfold World.freeze; split <;> rfl) (by unfold World.freeze; split <;> rfl) (by unfold World.freeze; split <;> rfl)
      (o' := .row false z cs) ⟨hr.sz, hr.one, by rw [hsz]; exact hr.lt, hr.ext, fun j v hv => ?_, fun h => by cases h⟩
    · unfold World.freeze
      split
      · rfl
      · simp only [Array.getElem?_modify]
        rw [if_neg (fun e => hk e.symm)]
    · rw [hcells]
      exact hr.cell j v hv
end
end Go.Proofs.Ytmpobijkbmljdaa.Sh
namespace Go.Proofs.Ytmpobijkbmljdaa.Sh
open Go.RowKit Go.MapKept

/-! ### Maps -/
theorem KK.is_eq {a b : KK} (h : KK.is a b = true) : a = b := by
  cases a <;> cases b <;> simp [KK.is] at h <;> first | rfl | (subst h; rfl)
def KK.desc : KK → TypeDesc
  | .int q => .int q
  | .str => .string
theorem kkOf_some {P : Program} {k : TypeId} {q : KK} (h : kkOf P k = some q) : P.underlying k = some q.desc := by
  unfold kkOf at h
  split at h
  · rename_i hu; injection h with h; subst h; exact hu
  · rename_i hu; injection h with h; subst h; exact hu
  · cases h
theorem keyOK_K {q : KK} {v : Value} (h : keyOK q v = true) : keyK q v = true := by
  cases q <;> cases v <;> simp [keyOK, keyK] at h ⊢
  exact h.1
theorem keyK_is {q : KK} {v : Value} (h : keyK q v = true) : IsKey q.desc v := by
  cases q <;> cases v <;> simp [keyK, KK.desc, IsKey] at h ⊢
  exact h
theorem keyK_plain {q : KK} {v : Value} (h : keyK q v = true) : plainV v = true := by
  cases q <;> cases v <;> first | rfl | (simp [keyK] at h)
theorem keq_iff {q : KK} {a b : Value} (ha : keyK q a = true) (hb : keyK q b = true) : keq a b = true ↔ a = b := by
  cases q <;> cases a <;> simp [keyK] at ha <;> cases b <;> simp [keyK] at hb
  · subst ha hb; simp [keq]
  · simp [keq, bytes_beq]
section
variable {S : List Loc}
theorem MRel.length {es : List (Value × Value)} {es' : List MapEntry} (h : MRel S es es') : es.length = es'.length := by
  induction h with
  | nil => rfl
  | cons _ _ _ ih => simp [ih]
theorem MRel.set {es : List (Value × Value)} {es' : List MapEntry} (h : MRel S es es') {k v : Value} {e : MapEntry} (hk : e.key = k) (hv : VRel S v e.val) : ∀ j, MRel S (es.set j (k, v)) (es'.set j e) := by
  induction h with
  | nil => intro j; exact .nil
  | cons a b c ih =>
    intro j
    cases j with
    | zero => exact .cons hk hv c
    | succ j => exact .cons a b (ih j)
theorem MRel.snoc {es : List (Value × Value)} {es' : List MapEntry} (h : MRel S es es') {k v : Value} {e : MapEntry} (hk : e.key = k) (hv : VRel S v e.val) : MRel S (es ++ [(k, v)]) (es' ++ [e]) := by
  induction h with
  | nil => exact .cons hk hv .nil
  | cons a b c ih => exact .cons a b ih
theorem MRel.erase {es : List (Value × Value)} {es' : List MapEntry} (h : MRel S es es') : ∀ j, MRel S (es.eraseIdx j) (es'.eraseIdx j) := by
  induction h with
  | nil => intro j; exact .nil
  | cons a b c ih =>
    intro j
    cases j with
    | zero => exact c
    | succ j => exact .cons a b (ih j)
theorem MRel.keys {q : KK} {es : List (Value × Value)} {es' : List MapEntry} (h : MRel S es es') (hk : ∀ p ∈ es, keyOK q p.1 = true) : ∀ x ∈ es', keyOK q x.key = true := by
  induction h with
  | nil => intro x hx; cases hx
  | cons a b c ih =>
    intro x hx
    rcases List.mem_cons.1 hx with rfl | hx
    · rw [a]; exact hk _ (List.mem_cons_self ..)
    · exact ih (fun p hp => hk p (List.mem_cons_of_mem _ hp)) x hx
/-- Where a key stands. -/
theorem find_rel {q : KK} {k : Value} (hk : keyK q k = true) : ∀ {es : List (Value × Value)} {es' : List MapEntry}, MRel S es es' → (∀ p ∈ es, keyOK q p.1 = true) → ∀ i,
    (findM k es = none ∧ Instr.findNow q.desc k es' i = some none ∧ ∀ x ∈ es', x.key ≠ k) ∨ ∃ j v e, findM k es = some (j, v) ∧ Instr.findNow q.desc k es' i = some (some (i + j, e.val)) ∧ es'[j]? = some e ∧ e.key = k ∧ VRel S v e.val
  | _, _, .nil, _, i => .inl ⟨rfl, rfl, fun x hx => by cases hx⟩
  | (k0, v0) :: es, e0 :: es', .cons a b c, hks, i => by
    have hk0 : keyK q e0.key = true := by rw [a]; exact keyOK_K (hks _ (List.mem_cons_self ..))
    obtain ⟨r, hr, hiff⟩ := sameNow_of_keys (keyK_is hk) (keyK_is hk0)
    have hkeq : keq k k0 = r := by
      have h1 := keq_iff hk hk0
      rw [a] at h1 hiff
      cases r with
      | true => exact h1.2 (hiff.1 rfl)
      | false =>
        cases hq : keq k k0 with
        | false => rfl
        | true => exact absurd (hiff.2 (h1.1 hq)) (by simp)
    cases r with
    | true =>
      refine .inr ⟨0, v0, e0, ?_, ?_, rfl, (hiff.1 rfl).symm, b⟩
      · simp only [findM, hkeq, cond_true]
      · simp [Instr.findNow, hr]
    | false =>
      have hne : e0.key ≠ k := fun h => by have := hiff.2 h.symm; cases this
      rcases find_rel hk c (fun p hp => hks p (List.mem_cons_of_mem _ hp)) (i + 1) with ⟨h1, h2, h3⟩ | ⟨j, v, e, h1, h2, h3, h4, h5⟩
      · refine .inl ⟨?_, ?_, fun x hx => ?_⟩
        · simp only [findM, hkeq, cond_false, h1, Option.map_none]
        · simp [Instr.findNow, hr, h2]
        · rcases List.mem_cons.1 hx with rfl | hx
          · exact hne
          · exact h3 x hx
      · refine .inr ⟨j + 1, v, e, ?_, ?_, h3, h4, h5⟩
        · simp only [findM, hkeq, cond_false, h1, Option.map_some]
        · simp [Instr.findNow, hr, h2]; omega
end
section
variable {P : Program} {B : Nat} {w0 : World} {S : List Loc} {h : Heap} {w : World} {t : List Value} {a : Act}
/-- A map's entries, in the world. -/
theorem entries_rel (hs : Sim P B w0 S h w) {q : KK} {i : Nat} {m' : Value} (hv : VRel S (.map (some i)) m') {es : List (Value × Value)} (he : entries h q (some i) = some es) :
    ∃ L es' clock, S[i]? = some L ∧ h[i]? = some (.map q es) ∧ m' = .map (some L.b) ∧ w.heap[L.b]? = some (.map es' clock) ∧ Stamped es' clock ∧ MRel S es es'.toList ∧ (∀ p ∈ es, keyOK q p.1 = true) ∧ es.length ≤ 9223372036854775807 ∧ B ≤ L.b := by
  unfold entries at he
  simp only at he
  split at he
  · rename_i q' es0 hi
    cases hq : KK.is q' q with
    | false => rw [hq] at he; cases he
    | true =>
      rw [hq] at he
      injection he with he
      subst he
      have := KK.is_eq hq
      subst this
      cases hv with
      | map hL =>
        rename_i L
        have hm : MapIs B S w L q' es0 := hs.ob i _ L hi hL
        obtain ⟨es', clock, h1, h2, h3⟩ := hm.map
        exact ⟨L, es', clock, hL, hi, rfl, h1, h2, h3, hm.keys, hm.size, hm.own⟩
  · cases he
theorem zeroVal_some {e : TypeId} {z : Value} (hz : zeroVal P e = some z) : VRel S z z ∧ (zeroValue e).run P w = .ok z w := by
  unfold zeroVal at hz
  cases hi : P.info? e with
  | none => simp [hi] at hz
  | some i =>
    cases h0 : i.zero with
    | none => simp [hi, h0] at hz
    | some v =>
      simp only [hi, Option.bind_some, h0] at hz
      obtain ⟨hp, hz⟩ := ite_some hz
      injection hz with hz
      subst hz
      exact ⟨plainC_rel hp, by simp [zeroValue, typeInfo, hi, h0]⟩
theorem lookV_rel {v v' : Value} (hv : VRel S v v') (ok b : Bool) : VRel S (lookV ok v b) (if ok = true then .tuple #[v', .bool b] else v') := by
  cases ok with
  | true => exact .tuple (.cons hv (.cons (.bool b) .nil))
  | false => exact hv
theorem lookD_sound (hs : Sim P B w0 S h w) {T : TypeId} {m : Option Nat} {k m' : Value} {ok : Bool} {r : Value} (hq : lookD P h T m k ok = some r) (hm : VRel S (.map m) m') :
    ∃ r', VRel S r r' ∧ (Instr.lookup T m' k ok).run P w = .ok r' w := by
  unfold lookD at hq
  split at hq
  · rename_i kt et hT
    simp only [Option.bind_eq_some_iff] at hq
    obtain ⟨q, hkk, es, he, hq⟩ := hq
    obtain ⟨hk, hq⟩ := ite_some hq
    have hd := kkOf_some hkk
    have hik := keyK_is hk
    cases m with
    | none =>
      cases hm
      simp only [entries, Option.some.injEq] at he
      subst he
      simp only [findM, Option.map_eq_some_iff] at hq
      obtain ⟨z, hz, rfl⟩ := hq
      obtain ⟨z1, z2⟩ := zeroVal_some (S := S) (w := w) hz
      refine ⟨_, lookV_rel z1 ok false, ?_⟩
      have hf : Instr.findNow q.desc k [] 0 = some none := rfl
      simp [Instr.lookup, run_underlying hT, MapKept.run_checkKey hd hik, MapKept.run_findKey hd hf, z2, Result.andThen]
    | some i =>
      obtain ⟨L, es', clock, hL, hi, rfl, hb, hst, hr, hks, _, _⟩ := entries_rel hs hm he
      rcases find_rel hk hr hks 0 with ⟨h1, h2, h3⟩ | ⟨j, v, e, h1, h2, h3, h4, h5⟩
      · simp only [h1, Option.map_eq_some_iff] at hq
        obtain ⟨z, hz, rfl⟩ := hq
        obtain ⟨z1, z2⟩ := zeroVal_some (S := S) (w := w) hz
        refine ⟨_, lookV_rel z1 ok false, ?_⟩
        simp [Instr.lookup, run_underlying hT, MapKept.run_getObj_map hb, MapKept.run_checkKey hd hik, MapKept.run_findKey hd h2, z2, Result.andThen]
      · simp only [h1, Option.some.injEq] at hq
        subst hq
        refine ⟨_, lookV_rel h5 ok true, ?_⟩
        simp [Instr.lookup, run_underlying hT, MapKept.run_getObj_map hb, MapKept.run_checkKey hd hik, MapKept.run_findKey hd h2, Result.andThen]
  · cases hq
theorem lenD_sound (hs : Sim P B w0 S h w) {T ty : TypeId} {m : Option Nat} {m' : Value} {r : Int} (hq : lenD P h T m = some r) (hm : VRel S (.map m) m') :
    (Builtin.len_ #[T] ty #[m']).run P w = .ok (.int .i64 r) w := by
  unfold lenD at hq
  split at hq
  · rename_i kt et hT
    simp only [Option.bind_eq_some_iff, Option.map_eq_some_iff] at hq
    obtain ⟨q, hkk, es, he, rfl⟩ := hq
    cases m with
    | none =>
      cases hm
      simp only [entries, Option.some.injEq] at he
      subst he
      simp [Builtin.len_, run_underlying hT, goInt, Result.andThen]
    | some i =>
      obtain ⟨L, es', clock, hL, hi, rfl, hb, hst, hr, hks, _, _⟩ := entries_rel hs hm he
      have := hr.length
      simp [Builtin.len_, run_underlying hT, MapKept.run_getObj_map hb, goInt, Result.andThen, this]
  · cases hq
theorem heap_setBlock_size (w : World) (b : Nat) (o : Obj) : (ChangeMaps.setBlock w b o).heap.size = w.heap.size := by simp [ChangeMaps.setBlock]
/-- A map turns. -/
theorem Sim.mapTo (hs : Sim P B w0 S h w) {i : Nat} {q : KK} {es es2 : List (Value × Value)} {L : Loc} {es' es2' : Array MapEntry} {clock clock2 : Nat} (hi : h[i]? = some (.map q es)) (hL : S[i]? = some L) (hb : w.heap[L.b]? = some (.map es' clock)) (hB : B ≤ L.b)
    (hks : ∀ p ∈ es2, keyOK q p.1 = true) (hz : es2.length ≤ 9223372036854775807) (hst : Stamped es2' clock2) (hr : MRel S es2 es2'.toList) :
    Sim P B w0 S (h.set i (.map q es2)) (ChangeMaps.setBlock w L.b (.map es2' clock2)) := by
  have hlt := (Array.getElem?_eq_some_iff.1 hb).1
  refine hs.turn hi hL rfl (fun k hk => ChangeMaps.heap_setBlock_other hb _ hk) (heap_setBlock_size _ _ _) rfl rfl rfl (o' := .map q es2) ⟨hB, by rw [heap_setBlock_size]; exact hlt, hks, hz, es2', clock2, ChangeMaps.heap_setBlock_same hb _, hst, hr⟩
theorem putD_sound (hs : Sim P B w0 S h w) {T : TypeId} {m : Option Nat} {k m' v v' : Value} {h' : Heap} (hq : putD P h T m k v = some h') (hm : VRel S (.map m) m') (hv : VRel S v v') :
    ∃ w', (Instr.mapUpdate T m' k v').run P w = .ok () w' ∧ Sim P B w0 S h' w' := by
  unfold putD at hq
  split at hq
  · rename_i kt et i hT
    simp only [Option.bind_eq_some_iff] at hq
    obtain ⟨q, hkk, es, he, hq⟩ := hq
    obtain ⟨⟨hok, hlen⟩, hq⟩ := ite_some hq
    injection hq with hq
    subst hq
    have hk := keyOK_K hok
    have hd := kkOf_some hkk
    have hik := keyK_is hk
    obtain ⟨L, es', clock, hL, hi, rfl, hb, hst, hr, hks, hz, hB⟩ := entries_rel hs hm he
    have hlr := hr.length
    unfold putM
    rcases find_rel hk hr hks 0 with ⟨h1, h2, h3⟩ | ⟨j, u, e, h1, h2, h3, h4, h5⟩
    · rw [h1]
      refine ⟨ChangeMaps.setBlock w L.b (.map (es'.push ⟨k, v', clock⟩) (clock + 1)), ?_, ?_⟩
      · simp [Instr.mapUpdate, run_underlying hT, MapKept.run_getObj_map hb, MapKept.run_checkKey hd hik, MapKept.run_findKey hd h2, MapKept.run_setObj_map _ hb, Result.andThen, ChangeMaps.setBlock]
      · refine hs.mapTo hi hL hb hB ?_ (by simp; omega) (stamped_push hst h3) (by rw [Array.toList_push]; exact hr.snoc rfl hv)
        intro p hp
        rcases List.mem_append.1 hp with hp | hp
        · exact hks p hp
        · rw [List.mem_singleton] at hp; subst hp; exact hok
    · rw [h1]
      have hj : es'[j]? = some e := by simpa using h3
      rw [Nat.zero_add] at h2
      refine ⟨ChangeMaps.setBlock w L.b (.map (es'.modify j fun e' => { e' with key := k, val := v' }) clock), ?_, ?_⟩
      · simp [Instr.mapUpdate, run_underlying hT, MapKept.run_getObj_map hb, MapKept.run_checkKey hd hik, MapKept.run_findKey hd h2, hj, h4, MapKept.run_keyThatStays hik, MapKept.run_setObj_map _ hb, Result.andThen, ChangeMaps.setBlock]
      · refine hs.mapTo hi hL hb hB ?_ (by simp; omega) (stamped_modify hst _ _ (fun _ _ => rfl) (fun e' _ he' => by rw [hj] at he'; injection he' with he'; subst he'; exact h4.symm)) ?_
        · intro p hp
          rcases List.mem_or_eq_of_mem_set hp with hp | rfl
          · exact hks p hp
          · exact hok
        · rw [Array.toList_modify, ChangeMaps.modify_eq_set _ _ _ _ h3]
          exact hr.set (e := { e with key := k, val := v' }) rfl hv j
  · cases hq
theorem cutMD_sound (hs : Sim P B w0 S h w) {T U ty : TypeId} {m : Option Nat} {k m' : Value} {h' : Heap} (hq : cutMD P h T m k = some h') (hm : VRel S (.map m) m') :
    ∃ w', (Builtin.delete_ #[T, U] ty #[m', k]).run P w = .ok (.tuple #[]) w' ∧ Sim P B w0 S h' w' := by
  unfold cutMD at hq
  split at hq
  · rename_i kt et hT
    simp only [Option.bind_eq_some_iff] at hq
    obtain ⟨q, hkk, es, he, hq⟩ := hq
    obtain ⟨hk, hq⟩ := ite_some hq
    have hd := kkOf_some hkk
    have hik := keyK_is hk
    cases m with
    | none =>
      cases hm
      injection hq with hq
      subst hq
      exact ⟨w, by simp [Builtin.delete_, run_underlying hT, MapKept.run_checkKey hd hik, Result.andThen], hs⟩
    | some i =>
      injection hq with hq
      subst hq
      obtain ⟨L, es', clock, hL, hi, rfl, hb, hst, hr, hks, hz, hB⟩ := entries_rel hs hm he
      unfold cutM
      rcases find_rel hk hr hks 0 with ⟨h1, h2, h3⟩ | ⟨j, u, e, h1, h2, h3, h4, h5⟩
      · rw [h1]
        refine ⟨ChangeMaps.setBlock w L.b (.map es' clock), ?_, hs.mapTo hi hL hb hB hks hz hst hr⟩
        simp [Builtin.delete_, run_underlying hT, MapKept.run_getObj_map hb, MapKept.run_checkKey hd hik, MapKept.run_findKey hd h2, MapKept.run_setObj_map _ hb, Result.andThen, ChangeMaps.setBlock]
      · rw [h1]
        rw [Nat.zero_add] at h2
        have hjs : j < es'.size := by
          have := (List.getElem?_eq_some_iff.1 h3).1
          simpa using this
        have hsub : (es'.eraseIdxIfInBounds j).toList = es'.toList.eraseIdx j := by
          unfold Array.eraseIdxIfInBounds
          rw [dif_pos hjs]
          simp
        refine ⟨ChangeMaps.setBlock w L.b (.map (es'.eraseIdxIfInBounds j) clock), ?_, hs.mapTo hi hL hb hB (fun p hp => hks p ((List.eraseIdx_sublist _ _).subset hp)) (Nat.le_trans (List.eraseIdx_sublist _ _).length_le hz) (stamped_erase hst j) (by rw [hsub]; exact hr.erase j)⟩
        simp [Builtin.delete_, run_underlying hT, MapKept.run_getObj_map hb, MapKept.run_checkKey hd hik, MapKept.run_findKey hd h2, MapKept.run_setObj_map _ hb, Result.andThen, ChangeMaps.setBlock]
  · cases hq
theorem clrD_sound (hs : Sim P B w0 S h w) {T ty : TypeId} {v v' : Value} {h' : Heap} (hq : clrD P h T v = some h') (hv : VRel S v v') :
    ∃ w', (Builtin.clear_ #[T] ty #[v']).run P w = .ok (.tuple #[]) w' ∧ Sim P B w0 S h' w' := by
  unfold clrD at hq
  split at hq
  · rename_i e n c he
    obtain ⟨rfl, rfl, rfl⟩ := hv.inv_sliceN
    injection hq with hq; subst hq
    exact ⟨w, by simp [Builtin.clear_, run_underlying (elemOf_under he), Result.andThen], hs⟩
  · rename_i e a c he
    obtain ⟨p', c', rfl, _⟩ := hv.inv_sliceO
    injection hq with hq; subst hq
    refine ⟨w, ?_, hs⟩
    cases p' <;> simp [Builtin.clear_, run_underlying (elemOf_under he), Result.andThen]
  · rename_i e a n c he
    rw [Option.bind_eq_some_iff] at hq
    obtain ⟨z, hz, hq⟩ := hq
    obtain ⟨hz0, hq⟩ := ite_some hq
    obtain ⟨i, o, L, a', c', rfl, hL, rfl, hn, _, hae, _, _⟩ := hv.inv_slice
    have ha := hae (by omega)
    subst ha
    obtain ⟨inf, zv, hi, hzv, rfl, hp, h1⟩ := zeroOf_some hz
    have hzr : (zeroValue e).run P w = .ok zv w := by
      simp [zeroValue, typeInfo, hi, hzv]
    unfold stV at hq
    split at hq
    · rename_i zt cs hrow
      obtain ⟨⟨hle, h1'⟩, hq⟩ := ite_some hq
      injection hq with hq
      subst hq
      have hr : RowIs P B S w L true zt cs := hs.ob i _ L hrow hL
      have hcr : VRels S (repL (n + 1) zv.cells.toList) (repL (n + 1) zv.cells.toList) := plains_rel (repL_plain hp _)
      obtain ⟨r1, r2⟩ := hr.room (k := o) (n := (repL (n + 1) zv.cells.toList).length) (by have := hr.ext; simp only at hle; omega)
      have hrun := run_storeCells_cells (P := P) L.b (L.o + o) (repL (n + 1) zv.cells.toList) 0 w (by simpa using r1) (by simpa using r2) (ones_rel hcr h1')
      have hzc : (Builtin.zeroCells zv.cells (n + 1)).toList = repL (n + 1) zv.cells.toList := by
        have := made_eq zv.cells (n + 1) (.inl (by simpa using hz0))
        show (madeCells zv.cells ((n + 1) * zv.cells.size)).toList = _
        rw [this]
      refine ⟨_, ?_, hs.store hrow hL hcr h1' hle⟩
      simp only [Nat.add_zero] at hrun
      simp [Builtin.clear_, run_underlying (elemOf_under he), hzr, hzc, hrun, Result.andThen]
    · cases hq
  · cases hq
theorem newD_sound (hs : Sim P B w0 S h w) {T : TypeId} {h' : Heap} (hq : newD P h T = some h') :
    ∃ L, (Instr.makeMap T none).run P w = .ok (.map (some w.heap.size)) (w.alloc (.map #[] 0)) ∧ L.b = w.heap.size ∧ Sim P B w0 (S ++ [L]) h' (w.alloc (.map #[] 0)) := by
  unfold newD at hq
  split at hq
  · rename_i kt et hT
    rw [Option.map_eq_some_iff] at hq
    obtain ⟨q, hkk, rfl⟩ := hq
    refine ⟨⟨w.heap.size, 0, 0, 0⟩, by simp [Instr.makeMap, Result.andThen], rfl, ?_⟩
    refine hs.add ⟨w.heap.size, 0, 0, 0⟩ _ (fun k hk _ => Below.heap_alloc w _ k hk) (by simp) rfl rfl rfl hs.size (fun j u M hj hl hM => Nat.ne_of_lt ((hs.ob j u M hj hM).lt hl)) ?_
    exact ⟨hs.size, by simp, fun p hp => (by cases hp), by simp, #[], 0, by show (w.heap.push _)[w.heap.size]? = _; simp, stamped_empty 0, .nil⟩
  · cases hq
end
end Go.Proofs.Ytmpobijkbmljdaa.Sh
namespace Go.Proofs.Ytmpobijkbmljdaa.Sh
open Go.RowKit

/-- What is asked of a call's answer: that the machine's call comes to a picture of it. -/
def CallOK (P : Program) (call : FuncId → List Value → Heap → Res) : Prop :=
  ∀ (f : FuncId) (args : List Value) (h : Heap) (v : Value) (h' : Heap), call f args h = some (v, h') → ∀ (B : Nat) (w0 : World) (S : List Loc) (w : World) (args' : List Value), Sim P B w0 S h w → VRels S args args' →
    (∃ fn c, P.funcs[f]? = some fn ∧ fn.body = some c) ∧ Calls P f args'.toArray w fun e w' => ∃ v' S', e = .returned v' ∧ S <+: S' ∧ Sim P B w0 S' h' w' ∧ VRel S' v v'
structure EnvOK (P : Program) (E : Env) : Prop where
  call : CallOK P E.call
  ext : ∀ (f : FuncId) (e : Array Value → Sem Value), E.ext f = some e → ∃ fn, P.funcs[f]? = some fn ∧ fn.body = none ∧ Extern.findNext fn = none ∧ Extern.find fn = some e
  same : ∀ (f : FuncId), E.same f = true → ∃ fn e, P.funcs[f]? = some fn ∧ fn.body = none ∧ Extern.findNext fn = none ∧ Extern.find fn = some e ∧ ∀ v, e #[v] = pure v
def Named (P : Program) : Prop := ∀ (f : FuncId) (fn : Func), P.funcs[f]? = some fn → (fn.name == "runtime.NumGoroutine") = false

section
variable {P : Program} {B : Nat} {w0 : World} {S : List Loc} {h : Heap} {w : World} {t : List Value} {a : Act}
theorem wp_value {o : Oper} {next : Act → World → Prop} {Q : Exit → Act → World → Prop} {v : Value} {w' : World} (hr : (execOp a.eval o).run P w = .ok (.value v) w') (hn : next (a.put o.dst v) w') : o.wp P a w next Q := by
  unfold Oper.wp
  rw [hr]
  exact hn
theorem wp_skipped {o : Oper} {next : Act → World → Prop} {Q : Exit → Act → World → Prop} {w' : World} (hr : (execOp a.eval o).run P w = .ok .skip w') (hn : next (a.put o.dst undef) w') : o.wp P a w next Q := by
  unfold Oper.wp
  rw [hr]
  exact hn
theorem elemOf_some {T e : TypeId} (h : elemOf? P T = some e) : P.underlying T = some (.slice e) := elemOf_under h
theorem elemOf_lt {T e : TypeId} (h : elemOf? P T = some e) : e < boxK := by
  unfold elemOf? at h
  split at h
  · have := ite_some h; obtain ⟨h1, h2⟩ := this; injection h2 with h2; subst h2; exact h1
  · cases h
theorem unbox_lt {e : TypeId} (h : e < boxK) : unbox e = e := by unfold unbox; rw [if_neg (Nat.not_le.2 h)]
theorem unbox_box (T : TypeId) : unbox (T + boxK) = T := by unfold unbox; rw [if_pos (Nat.le_add_left _ _)]; exact Nat.add_sub_cancel _ _
theorem Sim.allocBox (hs : Sim P B w0 S h w) (C : Array Value) (T : TypeId) (cs : List Value) (hbx : C.size = cs.length) (h1 : ones cs = true)
    (hc : ∀ (j : Nat) (v : Value), cs[j]? = some v → ∃ v', C[j]? = some v' ∧ VRel S v v') :
    Sim P B w0 (S ++ [⟨w.heap.size, 0, C.size, P.cellsOf (T + boxK)⟩]) (h ++ [.row true (T + boxK) cs]) (w.alloc (.cells C T)) := by
  have := hs.alloc C (T + boxK) cs (fun _ => hbx) h1 (Nat.le_of_eq hbx.symm) hc
  rw [unbox_box] at this
  exact this
theorem Sim.allocRow (hs : Sim P B w0 S h w) (C : Array Value) (e : TypeId) (cs : List Value) (hek : e < boxK) (h1 : ones cs = true) (hl : cs.length ≤ C.size)
    (hc : ∀ (j : Nat) (v : Value), cs[j]? = some v → ∃ v', C[j]? = some v' ∧ VRel S v v') :
    Sim P B w0 (S ++ [⟨w.heap.size, 0, C.size, P.cellsOf e⟩]) (h ++ [.row true e cs]) (w.alloc (.cells C e)) := by
  have := hs.alloc C e cs (fun h => absurd h (Nat.not_le.2 hek)) h1 hl hc
  rw [unbox_lt hek] at this
  exact this
theorem enc_some {τ : Ty} {v : Value} {h : Heap} {q : τ.T × Heap} (hq : (dec τ v).map (fun x => (x, h)) = some q) : enc τ q.1 = v ∧ q.2 = h := by
  rw [Option.map_eq_some_iff] at hq
  obtain ⟨x, hx, rfl⟩ := hq
  exact ⟨enc_dec hx, rfl⟩
theorem callFunc_run {f : FuncId} {fn : Func} {c : Code} (hN : Named P) (hf : P.funcs[f]? = some fn) (hb : fn.body = some c) (args : Array Value) (w : World) : (callFunc f args).run P w = .ok (.enter f args) w := by
  have := hN f fn hf
  simp only [callFunc, Sem.run_bind]
  simp [hf, hb, ne_of_beq_false this]
theorem extern_run {f : FuncId} {fn : Func} {e : Array Value → Sem Value} (hN : Named P) (hf : P.funcs[f]? = some fn) (hb : fn.body = none) (h1 : Extern.findNext fn = none) (h2 : Extern.find fn = some e) (args : Array Value) (w : World) {v : Value} (hv : (e args).run P w = .ok v w) :
    (callFunc f args).run P w = .ok (.value v) w := by
  have := hN f fn hf
  simp only [callFunc, Sem.run_bind]
  simp [hf, hb, ne_of_beq_false this, h1, h2, mark, Sem.run, hv]
theorem rwRow_some {h : Heap} {ad : Addr} {q : TypeId × List Value} (hq : rwRow h ad = some q) : h[ad.block]? = some (.row true q.1 q.2) := by
  unfold rwRow at hq
  split at hq
  · rename_i z cs hi
    injection hq with hq
    subst hq
    exact hi
  · cases hq
theorem not_undef {v : Value} (h : isTup v = false) : v ≠ undef := by
  intro e
  subst e
  cases h
theorem eMaps_sound {o : Oper} {K : Value → Res} {r : Value × Heap} (hq : eMaps P o t h K = some r) (hs : Sim P B w0 S h w) (ht : TRel S t a) :
    ∃ v v', K v = some r ∧ VRel S v v' ∧ (execOp a.eval o).run P w = .ok (.value v') w := by
  have quiet : eQuiet P o t h K = some r → ∃ v v', K v = some r ∧ VRel S v v' ∧ (execOp a.eval o).run P w = .ok (.value v') w := by
    intro hq
    obtain ⟨v, v', h1, h2, h3⟩ := eQuiet_sound hq hs ht
    exact ⟨v, v', h1, h2, pv_run h3 w⟩
  unfold eMaps at hq
  split at hq
  · rename_i T m k ok ho
    split at hq
    · rename_i mv kv hm hk
      rw [Option.bind_eq_some_iff] at hq
      obtain ⟨x, hx, hq⟩ := hq
      obtain ⟨r', h1, h2⟩ := lookD_sound hs hx (ev_rel ht hm)
      have hkk : a.eval k = kv := by
        have hp : plainV kv = true := by
          unfold lookD at hx
          split at hx
          · simp only [Option.bind_eq_some_iff] at hx
            obtain ⟨_, _, _, _, hx⟩ := hx
            exact keyK_plain (ite_some hx).1
          · cases hx
        exact plain_eq hp (ev_rel ht hk)
      refine ⟨_, r', hq, h1, ?_⟩
      simp only [execOp, ho, Sem.run_bind, hkk, h2, Result.andThen_ok, Sem.run_pure]
    · cases hq
  · rename_i x T ho
    split at hq
    · rename_i m hm
      rw [Option.bind_eq_some_iff] at hq
      obtain ⟨n, hn, hq⟩ := hq
      have hrun := lenD_sound (ty := o.type) hs hn (ev_rel ht hm)
      refine ⟨_, _, hq, .int _ _, ?_⟩
      have e1 : (#[x] : Array Operand).map a.eval = #[a.eval x] := by simp
      simp only [execOp, ho, resolve, Sem.run_bind, Sem.run_pure, Result.andThen_ok, invoke, builtin, e1, hrun]
    · exact quiet hq
  · exact quiet hq
theorem eOp_sound {E : Env} (hC : EnvOK P E) (hN : Named P) {o : Oper} {K : Value → Heap → Res} {r : Value × Heap} (hq : eOp P E o t h K = some r) (hs : Sim P B w0 S h w) (ht : TRel S t a) {next : Act → World → Prop} {Q : Exit → Act → World → Prop}
    (hK : ∀ (v : Value) (h' : Heap) (v' : Value) (w' : World) (S' : List Loc), K v h' = some r → S <+: S' → Sim P B w0 S' h' w' → VRel S' v v' → next (a.put o.dst v') w') : o.wp P a w next Q := by
  have quiet : (eQuiet P o t h fun v => K v h) = some r → o.wp P a w next Q := by
    intro hq
    obtain ⟨v, v', h1, h2, h3⟩ := eQuiet_sound hq hs ht
    exact wp_value (pv_run h3 w) (hK v h v' w S h1 (List.prefix_refl _) hs h2)
  unfold eOp at hq
  split at hq
  case h_1 T ho =>
    rw [Option.bind_eq_some_iff] at hq
    obtain ⟨z, hz, hq⟩ := hq
    obtain ⟨i, v, hi, hv, rfl, hp, h1⟩ := zeroOf_some hz
    refine wp_value (w' := w.alloc (.cells v.cells T)) (v := .pointer (some ⟨w.heap.size, 0, none⟩)) ?_ (hK _ _ _ _ _ hq ⟨_, rfl⟩ (hs.allocBox v.cells T v.cells.toList (by simp) h1 ?_) ?_)
    · simp only [execOp, ho, Instr.alloc, zeroValue, typeInfo, newVar, newRow, Sem.run_bind]
      simp [hi, hv]
    · intro j u hu
      exact ⟨u, by simpa using hu, (plains_rel hp).get hu |>.elim fun u' h => by obtain ⟨h1, h2⟩ := h; rw [hu] at h1; injection h1 with h1; subst h1; exact h2⟩
    · have := VRel.ptr (S := S ++ [⟨w.heap.size, 0, v.cells.size, P.cellsOf (T + boxK)⟩]) (i := S.length) (o := 0) (L := ⟨w.heap.size, 0, v.cells.size, P.cellsOf (T + boxK)⟩) (by simp)
      rw [hs.len] at this
      exact this
  case h_2 T x ho =>
    rw [Option.bind_eq_some_iff] at hq
    obtain ⟨v, hv, hq⟩ := hq
    have hq' := ite_some hq
    obtain ⟨h1, hq'⟩ := hq'
    have hr := cells_rel (ev_rel ht hv) (.inl h1)
    refine wp_value (w' := w.alloc (.cells (a.eval x).cells T)) (v := .pointer (some ⟨w.heap.size, 0, none⟩)) ?_ (hK _ _ _ _ _ hq' ⟨_, rfl⟩ (hs.allocBox (a.eval x).cells T v.cells.toList ?_ h1 ?_) ?_)
    · simp only [execOp, ho, Instr.box, newVar, newRow]
      simp
    · rw [hr.length]; simp
    · intro j u hu
      obtain ⟨u', h2, h3⟩ := hr.get hu
      exact ⟨u', by simpa using h2, h3⟩
    · have := VRel.ptr (S := S ++ [⟨w.heap.size, 0, (a.eval x).cells.size, P.cellsOf (T + boxK)⟩]) (i := S.length) (o := 0) (L := ⟨w.heap.size, 0, (a.eval x).cells.size, P.cellsOf (T + boxK)⟩) (by simp)
      rw [hs.len] at this
      exact this
  case h_3 T parts ho =>
    split at hq
    · rename_i fs z ps hT hz hps
      have hq' := ite_some hq
      obtain ⟨hnt, hq'⟩ := hq'
      simp only [Option.bind_eq_some_iff] at hq'
      obtain ⟨pl, hpl, cs, hcs, hq'⟩ := hq'
      obtain ⟨i, v, hi, hv, rfl, hp, h1⟩ := zeroOf_some hz
      rw [List.all_eq_true] at hnt
      obtain ⟨out', hf, hr⟩ := fill_rel (evParts_rel ht hps) (plains_rel (S := S) hp) (fun x hx => not_undef (by have := hnt x hx; revert this; cases isTup x.2 <;> simp)) hcs
      refine wp_value (w' := w) (v := .agg out'.toArray) ?_ (hK _ _ _ _ _ hq' (List.prefix_refl _) hs (.agg hr))
      have hb := run_build (P := P) w T (parts.map fun x => (x.1, a.eval x.2)) out'.toArray (by
        unfold placesOf at hpl
        simp only [Program.built, hi, hT, hv, hpl]
        simpa using hf)
      simp only [execOp, ho, Sem.run_bind, hb, Result.andThen_ok, Sem.run_pure]
    · cases hq
  case h_4 T n parts ho =>
    split at hq
    · rename_i e ps hT hps
      split at hq
      · cases hq
      · rename_i hcond
        rw [Option.bind_eq_some_iff] at hq
        obtain ⟨z, hz, hq⟩ := hq
        have hq' := ite_some hq
        obtain ⟨hzl, hq'⟩ := hq'
        rw [Option.bind_eq_some_iff] at hq'
        obtain ⟨cs, hcs, hq'⟩ := hq'
        have hq2 := ite_some hq'
        obtain ⟨h1, hq2⟩ := hq2
        have hU := elemOf_some hT
        obtain ⟨i, v, hi, hv, rfl, hp, _⟩ := zeroOf_some hz
        have hci : P.cellsOf e = i.size := by simp [Program.cellsOf, hi]
        have hsize : v.cells.size = i.size := by rw [← hci, ← hzl]; simp
        obtain ⟨out', hf, hr⟩ := fill_rel (evParts_rel ht hps) (plains_rel (S := S) (repL_plain hp n)) (fun x hx e => hcond (.inr (by
          rw [List.any_eq_true]
          exact ⟨x, hx, by rw [e]; rfl⟩))) hcs
        have hfl : ∀ {ps : List (Nat × Value)} {cs out : List Value}, fillL (fun i => some (i * P.cellsOf e, P.cellsOf e)) cs ps = some out → out.length = cs.length := by
          intro ps
          induction ps with
          | nil => intro cs out h; simp only [fillL, Option.some.injEq] at h; rw [h]
          | cons x ps ih =>
            intro cs out h
            obtain ⟨j, u⟩ := x
            simp only [fillL] at h
            split at h
            · cases h
            · rw [ih h, putAll_length]
        have hlen := hfl hcs
        rw [repL_length, hzl, hci] at hlen
        have hout : out'.toArray.size = n * i.size := by simp [← hr.length, hlen]
        have hrun : (Instr.buildSlice T n (parts.map fun x => (x.1, a.eval x.2))).run P w = .ok (.slice (some ⟨w.heap.size, 0, none⟩) n n) (w.alloc (.cells out'.toArray e)) := by
          by_cases h0 : n * i.size = 0
          · have hrep : repL n v.cells.toList = [] := List.eq_nil_of_length_eq_zero (by rw [repL_length, hzl, hci, h0])
            rw [hrep] at hf
            rw [hci] at hf
            simp [Instr.buildSlice, run_underlying hU, sizeOf, typeInfo, hi, h0, newRow, Array.range_zero']
            rw [hf]
            simp
          · have hmade := made_eq v.cells n (.inl (by intro e; rw [← hsize, e] at h0; simp at h0))
            unfold madeCells at hmade
            rw [hsize] at hmade
            rw [hci] at hf
            simp only [not_or] at hcond
            have h24 : ¬ n * i.size > 2 ^ 24 := by rw [← hci]; exact hcond.1
            simp [Instr.buildSlice, run_underlying hU, sizeOf, typeInfo, zeroValue, hi, hv, h24, h0, newRow]
            rw [hsize, hmade, hf]
            simp
        refine wp_value (w' := w.alloc (.cells out'.toArray e)) (v := .slice (some ⟨w.heap.size, 0, none⟩) n n) ?_ (hK _ _ _ _ _ hq2 ⟨_, rfl⟩ (hs.allocRow out'.toArray e cs (elemOf_lt hT) h1 ?_ ?_) ?_)
        · simp only [execOp, ho, Sem.run_bind, hrun, Result.andThen_ok, Sem.run_pure]
        · rw [hr.length]; simp
        · intro j u hu
          obtain ⟨u', h2, h3⟩ := hr.get hu
          exact ⟨u', by simpa using h2, h3⟩
        · have := VRel.slice (S := S ++ [⟨w.heap.size, 0, out'.toArray.size, P.cellsOf e⟩]) (i := S.length) (o := 0) (n := n) (c := cond E.keep (n + 1) 0) (c' := n) (a := ⟨w.heap.size, 0, none⟩) (L := ⟨w.heap.size, 0, out'.toArray.size, P.cellsOf e⟩) (by simp) (Nat.le_refl _) rfl (fun _ => rfl)
            (fun _ => by simp only; rw [hout, hci, Nat.zero_add]) (fun h => by cases hk : E.keep with | true => rfl | false => rw [hk] at h; exact absurd rfl h)
          rw [hs.len] at this
          exact this
    · cases hq
  case h_5 T x ho =>
    split at hq
    · rename_i ad hx
      split at hq
      · cases hq
      · rename_i hU
        split at hq
        · rename_i τ hf
          rw [Option.bind_eq_some_iff] at hq
          obtain ⟨q, hq1, hq⟩ := hq
          obtain ⟨u', ad', he, hc, hr, hrun⟩ := ld_flat hs (ev_rel ht hx) hU hf hq1
          refine wp_value (w' := w) (v := u') ?_ (hK _ _ _ _ _ hq (List.prefix_refl _) hs hr)
          simp only [execOp, ho, Sem.run_bind, hrun w hc, Result.andThen_ok, Sem.run_pure]
        · rename_i l hf
          have hq' := ite_some hq
          obtain ⟨hl, hq'⟩ := hq'
          rw [Option.bind_eq_some_iff] at hq'
          obtain ⟨q, hq1, hq'⟩ := hq'
          obtain ⟨vs', hr, hrun⟩ := ld_agg hs (ev_rel ht hx) hl hf hq1
          refine wp_value (w' := w) (v := .agg ⟨vs'⟩) ?_ (hK _ _ _ _ _ hq' (List.prefix_refl _) hs (.agg hr))
          simp only [execOp, ho, Sem.run_bind, hrun, Result.andThen_ok, Sem.run_pure]
    · cases hq
  case h_6 T x y ho =>
    split at hq
    · rename_i ad v hx hy
      have hq' := ite_some hq
      obtain ⟨⟨hl, hz⟩, hq'⟩ := hq'
      rw [Option.bind_eq_some_iff] at hq'
      obtain ⟨h', hst, hq'⟩ := hq'
      obtain ⟨w', hrun, hs'⟩ := st_sound hs (ev_rel ht hx) (ev_rel ht hy) hl hz hst
      refine wp_skipped (w' := w') ?_ (hK _ _ _ _ _ hq' (List.prefix_refl _) hs' (.undef _))
      simp only [execOp, ho, Sem.run_bind, hrun, Result.andThen_ok, Sem.run_pure]
    · cases hq
  case h_7 T l c ho =>
    split at hq
    · rename_i e kl l' kc c' hT hl hc
      rw [Option.bind_eq_some_iff] at hq
      obtain ⟨qq, hqq, hq⟩ := hq
      unfold mkD at hqq
      rw [hold_eq] at hqq
      have hq' := ite_some hqq
      obtain ⟨⟨h0, hlc, hb, h63⟩, hq'⟩ := hq'
      rw [Option.bind_eq_some_iff] at hq'
      obtain ⟨z, hz, hq'⟩ := hq'
      have hq2 := ite_some hq'
      obtain ⟨hzl, hq2⟩ := hq2
      injection hq2 with hq2
      subst hq2
      have hq2 := hq
      simp only at hq2
      have hU := elemOf_some hT
      obtain ⟨i, v, hi, hv, rfl, hp, h1⟩ := zeroOf_some hz
      have hci : P.cellsOf e = i.size := by simp [Program.cellsOf, hi]
      have hby : P.bytesOf e = i.bytes := by simp [Program.bytesOf, hi]
      have hsize : v.cells.size = i.size := by rw [← hci, ← hzl]; simp
      have hmax : IntKind.i64.max = 9223372036854775807 := by decide
      rw [hmax] at h63
      unfold bound at hb
      have hrun := run_make (P := P) w T e i v hU hi hv kl kc l' c' h0 hlc (by rw [hby, Int.mul_comm] at hb; omega) h63
      by_cases hz0 : v.cells.size = 0
      · have hmade : madeCells v.cells (c'.toNat * i.size) = #[] := by
          rw [← hsize, hz0, Nat.mul_zero]; simp [madeCells]
        rw [hmade] at hrun
        have hrep : repL l'.toNat v.cells.toList = [] := List.eq_nil_of_length_eq_zero (by rw [repL_length]; simp [hz0])
        rw [hrep] at hq2
        refine wp_value (w' := w.alloc (.cells #[] e)) (v := .slice (some ⟨w.heap.size, 0, none⟩) l'.toNat c'.toNat) ?_ (hK _ _ _ _ _ hq2 ⟨_, rfl⟩ (hs.allocRow #[] e [] (elemOf_lt hT) rfl (Nat.le_refl _) (fun j u hu => by simp at hu)) ?_)
        · simp only [execOp, ho, Sem.run_bind, (ev_rel ht hl).inv_int, (ev_rel ht hc).inv_int, hrun, Result.andThen_ok, Sem.run_pure]
        · have := VRel.slice (S := S ++ [⟨w.heap.size, 0, 0, P.cellsOf e⟩]) (i := S.length) (o := 0) (n := l'.toNat) (c := 0) (c' := c'.toNat) (a := ⟨w.heap.size, 0, none⟩) (L := ⟨w.heap.size, 0, 0, P.cellsOf e⟩) (by simp) (by omega) rfl (fun _ => rfl)
            (fun _ => by simp only; rw [hci, ← hsize, hz0]; simp) (fun h => absurd rfl h)
          rw [hs.len] at this
          exact this
      · have hmade := made_eq v.cells c'.toNat (.inl hz0)
        rw [hsize] at hmade
        rw [hmade] at hrun
        have hle : l'.toNat * i.size ≤ c'.toNat * i.size := Nat.mul_le_mul_right _ (by omega)
        have hzl' : v.cells.toList.length = i.size := by rw [hzl, hci]
        refine wp_value (w' := w.alloc (.cells (repL c'.toNat v.cells.toList).toArray e)) (v := .slice (some ⟨w.heap.size, 0, none⟩) l'.toNat c'.toNat) ?_
          (hK _ _ _ _ _ hq2 ⟨_, rfl⟩ (hs.allocRow (repL c'.toNat v.cells.toList).toArray e (repL l'.toNat v.cells.toList) (elemOf_lt hT) (repL_ones h1 _) ?_ ?_) ?_)
        · simp only [execOp, ho, Sem.run_bind, (ev_rel ht hl).inv_int, (ev_rel ht hc).inv_int, hrun, Result.andThen_ok, Sem.run_pure]
        · simp only [List.size_toArray, repL_length, hzl']; exact hle
        · intro j u hu
          have hj := (List.getElem?_eq_some_iff.1 hu).1
          rw [repL_length, hzl'] at hj
          rw [repL_get _ _ _ (by rw [hzl']; exact hj)] at hu
          refine ⟨u, ?_, ?_⟩
          · simp only [List.getElem?_toArray]
            rw [repL_get _ _ _ (by rw [hzl']; omega)]
            exact hu
          · obtain ⟨u', h3, h4⟩ := (plains_rel (S := S) hp).get hu
            rw [hu] at h3
            injection h3 with h3
            subst h3
            exact h4
        · have := VRel.slice (S := S ++ [⟨w.heap.size, 0, (repL c'.toNat v.cells.toList).toArray.size, P.cellsOf e⟩]) (i := S.length) (o := 0) (n := l'.toNat) (c := 0) (c' := c'.toNat) (a := ⟨w.heap.size, 0, none⟩)
            (L := ⟨w.heap.size, 0, (repL c'.toNat v.cells.toList).toArray.size, P.cellsOf e⟩) (by simp) (by omega) rfl (fun _ => rfl) (fun _ => by simp only [List.size_toArray, repL_length, hzl', hci]; omega) (fun h => absurd rfl h)
          rw [hs.len] at this
          exact this
    · cases hq
  case h_8 src dst x ho =>
    split at hq
    · rename_i e s h1 h2 hx
      split at hq
      · rename_i h3
        have hrun := run_bytes_of_string (P := P) w src dst e s h1 h2 h3
        obtain ⟨C, hC⟩ : ∃ C, C = bytesRow s (grownCap w s.size 0 e) := ⟨_, rfl⟩
        rw [← hC] at hrun
        have hcap : s.size ≤ grownCap w s.size 0 e := by unfold grownCap; simp only [Question.cut]; omega
        have hCs : C.size = grownCap w s.size 0 e := by
          rw [hC]
          simp only [bytesRow, Array.size_append, Array.size_map, Array.size_replicate]
          have : s.data.size = s.size := rfl
          omega
        have hq2 := ite_some hq
        obtain ⟨⟨hek, h1c⟩, hq⟩ := hq2
        have hub := unbox_lt hek
        have hd := hs.drawn (w.drawn + 1)
        have hnew : (w.drew.alloc (.cells C e (C.size, C.size + 1))).heap[w.heap.size]? = some (.cells C e (C.size, C.size + 1)) := by
          show (w.heap.push _)[w.heap.size]? = _
          simp
        obtain ⟨p1, p2, p3⟩ := byteVals_plain s
        have hcell : ∀ (j : Nat) (u : Value), (byteVals s)[j]? = some u → C[j]? = some u := by
          intro j u hu
          have hj := (List.getElem?_eq_some_iff.1 hu).1
          rw [p3] at hj
          rw [hC]
          unfold bytesRow
          rw [Array.getElem?_append_left (by simpa using hj)]
          simpa [byteVals] using hu
        refine wp_value (w' := w.drew.alloc (.cells C e (C.size, C.size + 1))) (v := .slice (some ⟨w.heap.size, 0, none⟩) s.size (grownCap w s.size 0 e)) ?_ (hK _ _ _ _ (S ++ [⟨w.heap.size, 0, C.size, P.cellsOf e⟩]) hq ⟨_, rfl⟩
          (hd.add (w' := w.drew.alloc (.cells C e (C.size, C.size + 1))) ⟨w.heap.size, 0, C.size, P.cellsOf e⟩ (.row true e (byteVals s)) (fun k hk _ => Below.heap_alloc w.drew _ k hk) (by show w.drew.heap.size ≤ _; rw [World.size_alloc]; omega) rfl rfl rfl hs.size (fun j u M hj hl hM => Nat.ne_of_lt ((hs.ob j u M hj hM).lt hl)) ?_) ?_)
        · simp only [execOp, ho, Sem.run_bind, (ev_rel ht hx).inv_string, hrun, Result.andThen_ok, Sem.run_pure]
        · refine ⟨rfl, p2, by simp, by rw [p3, hCs]; exact hcap, ?_, fun _ => ⟨hs.size, C, _, by rw [hub]; exact hnew, .inl ⟨Nat.le_refl _, by rw [hub]; assumption⟩, by simp, fun h => absurd h (Nat.not_le.2 hek)⟩⟩
          intro j u hu
          refine ⟨u, ?_, ?_⟩
          · simp only [World.cell?, hnew, Nat.zero_add]; exact hcell j u hu
          · obtain ⟨u', h4, h5⟩ := (plains_rel (S := S ++ [⟨w.heap.size, 0, C.size, P.cellsOf e⟩]) p1).get hu
            rw [hu] at h4
            injection h4 with h4
            subst h4
            exact h5
        · have := VRel.slice (S := S ++ [⟨w.heap.size, 0, C.size, P.cellsOf e⟩]) (i := S.length) (o := 0) (n := s.size) (c := 0) (c' := grownCap w s.size 0 e) (a := ⟨w.heap.size, 0, none⟩) (L := ⟨w.heap.size, 0, C.size, P.cellsOf e⟩) (by simp) hcap rfl (fun _ => rfl)
            (fun _ => by simp only; rw [h1c]; omega) (fun h => absurd rfl h)
          rw [hs.len] at this
          exact this
      · cases hq
    · rename_i e sa n c h1 h3 hx
      split at hq
      · rename_i h2
        rw [Option.bind_eq_some_iff] at hq
        obtain ⟨s, hstr, hq⟩ := hq
        have hrun := str_sound hs h1 h2 h3 (ev_rel ht hx) hstr
        refine wp_value (w' := w) (v := .string s) ?_ (hK _ _ _ _ _ hq (List.prefix_refl _) hs (.string _))
        simp only [execOp, ho, Sem.run_bind, hrun, Result.andThen_ok, Sem.run_pure]
      · cases hq
    · rename_i e0 e ad n c h1 h2 hx
      split at hq
      · rename_i h3
        have hq' := ite_some hq
        obtain ⟨hsd, hq'⟩ := hq'
        rw [Option.bind_eq_some_iff] at hq'
        obtain ⟨⟨z, cs⟩, hi, hq'⟩ := hq'
        have hqz := ite_some hq'
        clear hq'
        obtain ⟨⟨hze, hek⟩, hq'⟩ := hqz
        simp only at hze
        rw [Option.bind_eq_some_iff] at hi
        obtain ⟨ad, rfl, hi⟩ := hi
        have hi := rwRow_some hi
        obtain ⟨k, o', L, a', c', rfl, hL, he, hnc, hab, ha, hcx, hcy⟩ := (ev_rel ht hx).inv_slice
        have hr : RowIs P B S w L true z cs := hs.ob k _ L hi hL
        obtain ⟨hB, C, fr, hblk, hfr, hC⟩ := hr.own rfl
        have hsd : src = dst := by simpa using hsd
        subst hsd
        have hee : e0 = e := by rw [h1] at h2; injection h2 with h2; injection h2
        subst hee
        have hzu : P.underlying (unbox z) = some (.int .u8) := by rw [hze, unbox_lt hek]; assumption
        have hblk' : w.heap[a'.block]? = some (.cells C (unbox z) fr) := by rw [hab]; exact hblk
        obtain ⟨W, hW⟩ : ∃ W, W = w.freeze { block := a'.block, off := C.size } 1 := ⟨_, rfl⟩
        have hsh : w.shape? a'.block = some (unbox z, C.size) := by simp [World.shape?, hblk']
        have hms : (markStringish a').run P w = .ok () W := by
          rw [hW]
          simp [markStringish, shape, freeze, Sem.run, hsh]
        have hrun : (convert src src (.slice (some a') n c')).run P w = .ok (.slice (some a') n c') W := by
          simp [convert, run_underlying h1, run_underlying h3, hms]
        have hWb : ∃ fr', W.heap[L.b]? = some (.cells C (unbox z) fr') ∧ (C.size ≤ fr'.1 ∧ P.underlying (unbox z) = some (.int .u8) ∨ fr'.1 = fr'.2) := by
          rw [hW, hab]
          simp only [World.freeze, Nat.one_ne_zero, if_false, Array.getElem?_modify, if_true, hblk, Option.map_some]
          refine ⟨_, rfl, .inl ⟨?_, hzu⟩⟩
          split
          · exact Nat.le_refl _
          · rename_i hne
            rcases hfr with ⟨h, _⟩ | h
            · simp only; omega
            · simp [h] at hne
        obtain ⟨fr', hb1, hb2⟩ := hWb
        have hW1 : ∀ k, k ≠ L.b → W.heap[k]? = w.heap[k]? := by
          intro k hk
          rw [hW, hab]
          simp only [World.freeze, Nat.one_ne_zero, if_false, Array.getElem?_modify]
          rw [if_neg (fun e => hk e.symm)]
        have hW2 : W.heap.size = w.heap.size := by rw [hW]; simp [World.freeze]
        have hset : h.set k (.row true z cs) = h := by
          have hlt := (List.getElem?_eq_some_iff.1 hi)
          obtain ⟨hlt, he'⟩ := hlt
          rw [← he']
          exact List.set_getElem_self hlt
        have hs' := hs.turn (w' := W) hi hL rfl hW1 hW2 (by rw [hW]; rfl) (by rw [hW]; rfl) (by rw [hW]; rfl) (o' := .row true z cs)
          ⟨hr.sz, hr.one, by rw [hW2]; exact hr.lt, hr.ext, fun j v hv => by
            obtain ⟨v', hv', hrel⟩ := hr.cell j v hv
            refine ⟨v', ?_, hrel⟩
            simp only [World.cell?, hblk, Option.isSome_none, Bool.false_eq_true, if_false] at hv'
            simp only [World.cell?, hb1, Option.isSome_none, Bool.false_eq_true, if_false]
            exact hv', fun _ => ⟨hB, C, fr', hb1, hb2, hC⟩⟩
        have hs' : Sim P B w0 S (h.set k (.row true z cs)) W := hs'
        rw [hset] at hs'
        refine wp_value (w' := W) (v := .slice (some a') n c') ?_ (hK _ _ _ _ _ hq' (List.prefix_refl _) hs' (.slice hL hnc hab ha hcx hcy))
        simp only [execOp, ho, Sem.run_bind, he, hrun, Result.andThen_ok, Sem.run_pure]
      · cases hq
    · rename_i u ad h1 h2 hx
      rw [Option.bind_eq_some_iff] at hq
      obtain ⟨_, hok, hq'⟩ := hq
      rw [Option.bind_eq_some_iff] at hok
      obtain ⟨ad, rfl, hok⟩ := hok
      unfold okTo at hok
      rw [Option.bind_eq_some_iff] at hok
      obtain ⟨⟨z, cs⟩, hi, hok⟩ := hok
      have hi := rwRow_some hi
      obtain ⟨⟨hz, hlt⟩, _⟩ := ite_some hok
      obtain ⟨k, o', L, rfl, hL, he⟩ := (ev_rel ht hx).inv_ptr
      have hr : RowIs P B S w L true z cs := hs.ob k _ L hi hL
      obtain ⟨hB, C, fr, hblk, hfr, hC⟩ := hr.own rfl
      have hext := hr.ext
      obtain ⟨i, hi2, hi3⟩ := cellsOf_info hz
      have hsh : w.shape? L.b = some (unbox z, C.size) := by simp [World.shape?, hblk]
      simp only at hlt
      have hrun := Lib.run_to_unsafe (P := P) (w := w) ⟨L.b, L.o + o', none⟩ h1 h2 hi2 (by rw [hi3]; exact hz) hsh (by simp only; omega)
      refine wp_value (w' := w) ?_ (hK _ _ _ _ _ hq' (List.prefix_refl _) hs (.ptr hL))
      simp only [execOp, ho, Sem.run_bind, he, hrun, Result.andThen_ok, Sem.run_pure]
    · rename_i u ad h1 h2 hx
      rw [Option.bind_eq_some_iff] at hq
      obtain ⟨_, hok, hq'⟩ := hq
      rw [Option.bind_eq_some_iff] at hok
      obtain ⟨ad, rfl, hok⟩ := hok
      unfold okFrom at hok
      rw [Option.bind_eq_some_iff] at hok
      obtain ⟨⟨z, cs⟩, hi, hok⟩ := hok
      have hi := rwRow_some hi
      obtain ⟨⟨hbk, hz, hlies⟩, _⟩ := ite_some hok
      obtain ⟨k, o', L, rfl, hL, he⟩ := (ev_rel ht hx).inv_ptr
      have hr : RowIs P B S w L true z cs := hs.ob k _ L hi hL
      obtain ⟨hB, C, fr, hblk, hfr, hC⟩ := hr.own rfl
      obtain ⟨i, hi2, hi3⟩ := cellsOf_info hz
      have hsh : w.shape? L.b = some (unbox z, C.size) := by simp [World.shape?, hblk]
      obtain ⟨hL0, hCs⟩ := hC.2 hbk
      have hrun := Lib.run_from_unsafe (P := P) (w := w) ⟨L.b, L.o + o', none⟩ h1 h2 hi2 hsh (by rw [hL0, hCs, Nat.zero_add]; exact hlies)
      refine wp_value (w' := w) ?_ (hK _ _ _ _ _ hq' (List.prefix_refl _) hs (.ptr hL))
      simp only [execOp, ho, Sem.run_bind, he, hrun, Result.andThen_ok, Sem.run_pure]
    · exact quiet hq
  case h_9 s x T U ho =>
    have hexec : ∀ (v : Value) (w' : World), (Builtin.append_ #[T, U] o.type #[a.eval s, a.eval x]).run P w = .ok v w' → (execOp a.eval o).run P w = .ok (.value v) w' := by
      intro v w' hr
      have e1 : (#[s, x] : Array Operand).map a.eval = #[a.eval s, a.eval x] := by simp
      simp only [execOp, ho, resolve, Sem.run_bind, Sem.run_pure, Result.andThen_ok, invoke, builtin, e1, hr]
    split at hq
    · rename_i e sa n c sa' n' c' hT hsv hxv
      have hq' := ite_some hq
      obtain ⟨⟨hTU, hz, hzo⟩, hq'⟩ := hq'
      subst hTU
      rw [Option.bind_eq_some_iff] at hq'
      obtain ⟨q, hq1, hq'⟩ := hq'
      have hU := elemOf_some hT
      rw [Option.any_eq_true] at hzo
      obtain ⟨z, hz1, hz2⟩ := hzo
      obtain ⟨i, v, hi, hv, rfl, hp, _⟩ := zeroOf_some hz1
      have hci : P.cellsOf e = i.size := by simp [Program.cellsOf, hi]
      have hby : P.bytesOf e = i.bytes := by simp [Program.bytesOf, hi]
      have hsize : v.cells.size = i.size := by rw [← hci]; simpa using hz2
      unfold appD at hq1
      rw [hold_eq] at hq1
      have hq2 := ite_some hq1
      obtain ⟨⟨hb, h63⟩, hq2⟩ := hq2
      rw [Option.bind_eq_some_iff] at hq2
      obtain ⟨news, hn, hq2⟩ := hq2
      unfold bound at hb h63
      simp only at hb h63
      rw [hby] at hb
      rw [hci] at hq2 hn
      obtain ⟨vs', hr, h1, hl, hsrc⟩ := src_slice hs hU (ev_rel ht hxv) hi hn
      obtain ⟨u', w', S', hrun, hpre, hs', hrel⟩ := appX_sound hs (ty := o.type) hU (elemOf_lt hT) hz hi hv hsize (ev_rel ht hsv) hsrc hr h1 hl (by omega) (by omega) hq2
      exact wp_value (hexec _ _ hrun) (hK _ _ _ _ _ hq' hpre hs' hrel)
    · rename_i e sa n c str hT hsv hxv
      have hq' := ite_some hq
      obtain ⟨⟨hz, hby, hstr, hzo⟩, hq'⟩ := hq'
      rw [Option.bind_eq_some_iff] at hq'
      obtain ⟨q, hq1, hq'⟩ := hq'
      have hU := elemOf_some hT
      rw [Option.any_eq_true] at hzo
      obtain ⟨z, hz1, hz2⟩ := hzo
      obtain ⟨i, v, hi, hv, rfl, hp, _⟩ := zeroOf_some hz1
      have hci : P.cellsOf e = i.size := by simp [Program.cellsOf, hi]
      have hbi : P.bytesOf e = i.bytes := by simp [Program.bytesOf, hi]
      have hi1 : i.size = 1 := by rw [← hci]; exact hz
      have hsize : v.cells.size = i.size := by rw [← hci]; simpa using hz2
      have hstr' : P.underlying U = some .string := by
        unfold isStr at hstr
        split at hstr
        · assumption
        · cases hstr
      unfold appS at hq1
      rw [hold_eq] at hq1
      have hq2 := ite_some hq1
      obtain ⟨hb, hq2⟩ := hq2
      unfold bound at hb
      simp only at hb
      rw [← hi1] at hq2
      have hsrc := Src.ofString w hstr' str
      have heq : byteCells str = byteVals str := rfl
      rw [heq, ← hi1] at hsrc
      obtain ⟨p1, p2, p3⟩ := byteVals_plain str
      obtain ⟨u', w', S', hrun, hpre, hs', hrel⟩ := appX_sound hs (ty := o.type) hU (elemOf_lt hT) (by rw [hz]; omega) hi hv hsize (ev_rel ht hsv) hsrc (plains_rel p1) p2 (by rw [p3, hi1]; omega) (by rw [← hbi, hby]; omega) (by omega) hq2
      rw [← (ev_rel ht hxv).inv_string] at hrun
      exact wp_value (hexec _ _ hrun) (hK _ _ _ _ _ hq' hpre hs' hrel)
    · cases hq
  case h_10 x y pt it ho =>
    have hexec : ∀ (v : Value) (w' : World), (Builtin.unsafeString_ #[pt, it] o.type #[a.eval x, a.eval y]).run P w = .ok v w' → (execOp a.eval o).run P w = .ok (.value v) w' := by
      intro v w' hr
      have e1 : (#[x, y] : Array Operand).map a.eval = #[a.eval x, a.eval y] := by simp
      simp only [execOp, ho, resolve, Sem.run_bind, Sem.run_pure, Result.andThen_ok, invoke, builtin, e1, hr]
    split at hq
    · rename_i p n hx hy
      split at hq
      · rename_i e hp
        rw [Option.bind_eq_some_iff] at hq
        obtain ⟨q, hq1, hq'⟩ := hq
        unfold unsafeStrO at hq1
        split at hq1
        · obtain ⟨rfl, hq1⟩ := ite_some hq1
          injection hq1 with hq1
          subst hq1
          have hrun := Lib.run_unsafeString_none (P := P) w pt it o.type none
          refine wp_value (hexec _ _ ?_) (hK _ _ _ _ _ hq' (List.prefix_refl _) hs (.string _))
          rw [(ev_rel ht hx).inv_ptrN, (ev_rel ht hy).inv_int]
          exact hrun
        · unfold unsafeStrD at hq1
          rw [Option.bind_eq_some_iff] at hq1
          obtain ⟨⟨z, cs⟩, hrow, hq1⟩ := hq1
          have hrow := rwRow_some hrow
          obtain ⟨⟨h0, h63, hz, hek, hc⟩, hq1⟩ := ite_some hq1
          rw [Option.map_eq_some_iff] at hq1
          obtain ⟨s, hstr, rfl⟩ := hq1
          obtain ⟨W, hrun, hs'⟩ := unsafeStr_sound hs (it := it) (ty := o.type) hp hc (ev_rel ht hx) hrow h0 h63 hz hek hstr
          rw [← (ev_rel ht hy).inv_int] at hrun
          exact wp_value (hexec _ _ hrun) (hK _ _ _ _ _ hq' (List.prefix_refl _) hs' (.string _))
      · cases hq
    · cases hq
  case h_15 f args Ts ho =>
    split at hq
    · rename_i g first cap vs hf hvs
      obtain ⟨l1', l2', he, hr1, hr2⟩ := (ev_rel ht hf).inv_func
      have hargs : VRels S (first ++ vs ++ cap) (l1' ++ args.toList.map a.eval ++ l2') := (hr1.append (evs_rel ht hvs)).append hr2
      have hexec : (execOp a.eval o).run P w = (callFunc g (l1' ++ args.toList.map a.eval ++ l2').toArray).run P w := by
        simp only [execOp, ho, resolve, Sem.run_bind, Sem.run_pure, Result.andThen_ok, he, Deferred.ofValue, invoke]
        congr 2
        apply Array.ext'
        simp
      split at hq
      · rename_i e hext
        have hq' := ite_some hq
        obtain ⟨hpl, hq'⟩ := hq'
        rw [Option.bind_eq_some_iff] at hq'
        obtain ⟨q, hq1, hq'⟩ := hq'
        obtain ⟨p1, p2⟩ := pvD_some hq1
        obtain ⟨fn, hfn, hb, hn1, hn2⟩ := hC.ext g e hext
        rw [plains_eq hpl hargs] at hexec
        exact wp_value (hexec.trans (extern_run hN hfn hb hn1 hn2 _ w (pv_run p1 w))) (hK _ _ _ _ _ hq' (List.prefix_refl _) hs (plain_rel p2))
      · split at hq
        · rename_i hsame
          obtain ⟨fn, e, hfn, hb, hn1, hn2, he2⟩ := hC.same g hsame
          split at hq
          · rename_i v hv
            rw [hv] at hargs
            cases hargs2 : (l1' ++ args.toList.map a.eval ++ l2') with
            | nil => rw [hargs2] at hargs; cases hargs
            | cons v' r =>
              rw [hargs2] at hargs hexec
              cases hargs with
              | cons hvv hrr =>
                cases hrr
                exact wp_value (hexec.trans (extern_run hN hfn hb hn1 hn2 _ w (v := v') (by rw [he2]; rfl))) (hK _ _ _ _ _ hq (List.prefix_refl _) hs hvv)
          · cases hq
        · rw [Option.bind_eq_some_iff] at hq
          obtain ⟨q, hq1, hq⟩ := hq
          unfold callD at hq1
          rw [Option.bind_eq_some_iff] at hq1
          obtain ⟨⟨v, h'⟩, hcall, hq1⟩ := hq1
          obtain ⟨e1, e2⟩ := enc_some hq1
          obtain ⟨⟨fn, c, hfn, hb⟩, hcalls⟩ := hC.call g _ h v h' hcall B w0 S w _ hs hargs
          unfold Oper.wp
          rw [hexec, callFunc_run hN hfn hb]
          show Calls P g _ w _
          refine hcalls.mono ?_
          rintro e w' ⟨v', S', rfl, hpre, hs', hrel⟩
          rw [e1, e2] at hq
          exact hK _ _ _ _ _ hq hpre hs' hrel
    · cases hq
  case h_16 =>
    obtain ⟨v, v', h1, h2, h3⟩ := eMaps_sound hq hs ht
    exact wp_value h3 (hK v h v' w S h1 (List.prefix_refl _) hs h2)
  case h_11 T ho =>
    rw [Option.bind_eq_some_iff] at hq
    obtain ⟨h', hn, hq⟩ := hq
    obtain ⟨L, h1, h2, h3⟩ := newD_sound hs hn
    refine wp_value (w' := w.alloc (.map #[] 0)) (v := .map (some w.heap.size)) ?_ (hK _ _ _ _ _ hq ⟨_, rfl⟩ h3 ?_)
    · simp only [execOp, ho, Option.map_none, Sem.run_bind, h1, Result.andThen_ok, Sem.run_pure]
    · rw [← h2]
      have := VRel.map (S := S ++ [L]) (i := S.length) (L := L) (by simp)
      rw [hs.len] at this
      exact this
  case h_12 T m k x ho =>
    split at hq
    · rename_i mv kv xv hm hk hx
      rw [Option.bind_eq_some_iff] at hq
      obtain ⟨h', hn, hq⟩ := hq
      obtain ⟨w', h1, h2⟩ := putD_sound hs hn (ev_rel ht hm) (ev_rel ht hx)
      have hkk : a.eval k = kv := by
        have hp : plainV kv = true := by
          unfold putD at hn
          split at hn
          · simp only [Option.bind_eq_some_iff] at hn
            obtain ⟨_, _, _, _, hn⟩ := hn
            exact keyK_plain (keyOK_K (ite_some hn).1.1)
          · cases hn
        exact plain_eq hp (ev_rel ht hk)
      refine wp_skipped (w' := w') ?_ (hK _ _ _ _ _ hq (List.prefix_refl _) h2 (.undef _))
      simp only [execOp, ho, Sem.run_bind, hkk, h1, Result.andThen_ok, Sem.run_pure]
    · cases hq
  case h_13 m k T U ho =>
    have hexec : ∀ (v : Value) (w' : World), (Builtin.delete_ #[T, U] o.type #[a.eval m, a.eval k]).run P w = .ok v w' → (execOp a.eval o).run P w = .ok (.value v) w' := by
      intro v w' hr
      have e1 : (#[m, k] : Array Operand).map a.eval = #[a.eval m, a.eval k] := by simp
      simp only [execOp, ho, resolve, Sem.run_bind, Sem.run_pure, Result.andThen_ok, invoke, builtin, e1, hr]
    split at hq
    · rename_i mv kv hm hk
      rw [Option.bind_eq_some_iff] at hq
      obtain ⟨h', hn, hq⟩ := hq
      obtain ⟨w', h1, h2⟩ := cutMD_sound (U := U) (ty := o.type) hs hn (ev_rel ht hm)
      have hkk : a.eval k = kv := by
        have hp : plainV kv = true := by
          unfold cutMD at hn
          split at hn
          · simp only [Option.bind_eq_some_iff] at hn
            obtain ⟨_, _, _, _, hn⟩ := hn
            exact keyK_plain (ite_some hn).1
          · cases hn
        exact plain_eq hp (ev_rel ht hk)
      rw [← hkk] at h1
      exact wp_value (hexec _ _ h1) (hK _ _ _ _ _ hq (List.prefix_refl _) h2 (.undef _))
    · cases hq
  case h_14 x T ho =>
    have hexec : ∀ (v : Value) (w' : World), (Builtin.clear_ #[T] o.type #[a.eval x]).run P w = .ok v w' → (execOp a.eval o).run P w = .ok (.value v) w' := by
      intro v w' hr
      have e1 : (#[x] : Array Operand).map a.eval = #[a.eval x] := by simp
      simp only [execOp, ho, resolve, Sem.run_bind, Sem.run_pure, Result.andThen_ok, invoke, builtin, e1, hr]
    rw [Option.bind_eq_some_iff] at hq
    obtain ⟨xv, hx, hq⟩ := hq
    rw [Option.bind_eq_some_iff] at hq
    obtain ⟨h', hn, hq⟩ := hq
    obtain ⟨w', h1, h2⟩ := clrD_sound (ty := o.type) hs hn (ev_rel ht hx)
    exact wp_value (hexec _ _ h1) (hK _ _ _ _ _ hq (List.prefix_refl _) h2 (.undef _))
end
end Go.Proofs.Ytmpobijkbmljdaa.Sh
namespace Go.Proofs.Ytmpobijkbmljdaa.Sh
open Go.RowKit

def PanicOK (Q : Exit → Act → World → Prop) : Prop := ∀ (c : List PanicEntry) (a : Act) (d : Option Tmp) (v : Value) (w : World), Q (.panic c) (a.put d v) w → Q (.panic c) a w
def Ex.out : Ex → Exit
  | .normal => .normal
  | .exit id => .exit id
  | .ret => .ret
section
variable {P : Program} {B : Nat} {w0 : World}
theorem wanted_none {ops : Array Oper} {o : Oper} {f : Nat → Option Bool} (h : o.guard = none) : Region.wanted o f = true := by simp [Region.wanted, h]
theorem wanted_some {S : List Loc} {t : List Value} {a : Act} {ops : Array Oper} {o : Oper} {j s : Nat} {want b : Bool} (h : o.guard = some (j, want)) (hd : (ops[j]?).bind (·.dst) = some s) (ht : TRel S t a) (hb : t.getD s undef = .bool b) (hl : s < t.length) :
    Region.wanted o (yielded ops a.tmps) = (b == want) := by
  have hr := ht.get s
  rw [hb] at hr
  have he := hr.inv_bool
  have hlt : s < a.tmps.size := by have := ht.1.length; simp at this; omega
  have hg : a.tmps[s]? = some (.bool b) := by
    rw [Array.getD_eq_getD_getElem?] at he
    rw [Array.getElem?_eq_getElem hlt] at he ⊢
    simpa using he
  simp only [Region.wanted, h, yielded, hd, Option.bind_some, hg]
  cases b <;> cases want <;> rfl
theorem wanted_skip {S : List Loc} {t : List Value} {a : Act} {ops : Array Oper} {o : Oper} {j s : Nat} {want : Bool} (h : o.guard = some (j, want)) (hd : (ops[j]?).bind (·.dst) = some s) (ht : TRel S t a) (hb : t.getD s undef = .tuple ⟨[.tuple ⟨[]⟩]⟩) :
    Region.wanted o (yielded ops a.tmps) = false := by
  have hr := ht.get s
  rw [hb] at hr
  have he : ∃ l', a.tmps.getD s undef = .tuple l' := by
    revert hr
    generalize a.tmps.getD s undef = q
    intro hr
    cases hr with
    | skip => exact ⟨_, rfl⟩
    | tuple h => exact ⟨_, rfl⟩
  obtain ⟨l', he⟩ := he
  simp only [Region.wanted, h, yielded, hd, Option.bind_some]
  cases hg : a.tmps[s]? with
  | none => simp
  | some v =>
    rw [Array.getD_eq_getD_getElem?, hg] at he
    simp only [Option.getD_some] at he
    subst he
    simp
theorem getD_bool_lt {t : List Value} {s : Nat} {b : Bool} (h : t.getD s undef = .bool b) : s < t.length := by
  rcases Nat.lt_or_ge s t.length with hlt | hge
  · exact hlt
  · rw [List.getD_eq_getElem?_getD, List.getElem?_eq_none hge] at h
    simp [undef] at h
theorem eOps_sound {E : Env} (hC : EnvOK P E) (hN : Named P) {ops : Array Oper} {Q : Exit → Act → World → Prop} {r : Value × Heap} {K : List Value → Heap → Res} :
    ∀ (l : List Oper) (t : List Value) (h : Heap), eOps P E ops l K t h = some r → ∀ (S : List Loc) (a : Act) (w : World), Sim P B w0 S h w → TRel S t a →
      (∀ t' h' S' a' w', K t' h' = some r → S <+: S' → Sim P B w0 S' h' w' → TRel S' t' a' → Q .normal a' w') → wpList P ops Q l a w
  | [], t, h, hq, S, a, w, hs, ht, hK => hK t h S a w hq (List.prefix_refl _) hs ht
  | o :: l, t, h, hq, S, a, w, hs, ht, hK => by
    -- the operation is carried out
    have run : ∀ (t0 : List Value), TRel S t0 a → (eOp P E o t0 h fun v h' => eOps P E ops l K (put t0 o.dst v) h') = some r → o.wp P a w (wpList P ops Q l) Q := by
      intro t0 ht0 hq0
      refine eOp_sound hC hN hq0 hs ht0 fun v h' v' w' S' hk hp hs' hr => ?_
      exact eOps_sound hC hN l _ h' hk S' _ w' hs' ((ht0.mono hp).put hr o.dst) fun t'' h'' S'' a'' w'' hk' hp' hs'' ht'' => hK t'' h'' S'' a'' w'' hk' (hp.trans hp') hs'' ht''
    have skip : ∀ (t0 : List Value), TRel S t0 a → eOps P E ops l K (put t0 o.dst skipped) h = some r → wpList P ops Q l (a.put o.dst undef) w := by
      intro t0 ht0 hq0
      exact eOps_sound hC hN l _ h hq0 S _ w hs (ht0.put .skip o.dst) hK
    unfold eOps at hq
    split at hq
    · rename_i hg
      unfold wpList
      rw [wanted_none (ops := ops) hg]
      exact .inl (run t ht hq)
    · rename_i j want hg
      split at hq
      · rename_i s hd
        split at hq
        · rename_i b hb
          have hw := wanted_some hg hd ht hb (getD_bool_lt hb)
          unfold wpList
          rw [hw]
          have hlit : ∀ b', b' = b → TRel S (t.set s (.bool b')) a := by
            intro b' e
            subst e
            exact ht.lit fun v' hv => by rw [hb] at hv; exact hv
          cases b <;> cases want <;> simp only [cond_true, cond_false] at hq
          · exact .inl (run _ (hlit false rfl) hq)
          · exact skip _ (hlit false rfl) hq
          · exact skip _ (hlit true rfl) hq
          · exact .inl (run _ (hlit true rfl) hq)
        · rename_i hb
          have hw := wanted_skip (want := want) hg hd ht hb
          unfold wpList
          rw [hw]
          exact skip t ht hq
        · cases hq
      · cases hq

/-! ### Regions that draw -/
theorem rigid_eq {S : List Loc} {v x y : Value} (hv : rigid v = true) (hx : VRel S v x) (hy : VRel S v y) : x = y := by
  cases hx with
  | ptr h1 =>
    cases hy with
    | ptr g1 => rw [h1] at g1; injection g1 with g1; subst g1; rfl
  | map h1 =>
    cases hy with
    | map g1 => rw [h1] at g1; injection g1 with g1; subst g1; rfl
  | undef _ => cases hv
  | skip => cases hv
  | func _ _ => cases hv
  | iface _ => cases hv
  | agg _ => cases hv
  | tuple _ => cases hv
  | nilFunc => cases hv
  | nilIface => cases hv
  | slice _ _ _ _ _ _ => cases hv
  | sliceNil => cases hv
  | _ => cases hy <;> rfl
theorem same_eq {v u : Value} (h : same v u = true) : u = v := by
  cases v <;> cases u <;> simp [same] at h <;> first
    | (subst h; rfl)
    | (obtain ⟨rfl, rfl⟩ := h; rfl)
theorem eRead_sound {S : List Loc} {h : Heap} {w : World} {t : List Value} {a : Act} {o : Oper} {K : Value → Res} {r : Value × Heap} (hq : eRead P o t h K = some r) (hs : Sim P B w0 S h w) (ht : TRel S t a) :
    ∃ v v', K v = some r ∧ VRel S v v' ∧ (execOp a.eval o).run P w = .ok (.value v') w := by
  unfold eRead at hq
  split at hq
  · rename_i T x ho
    split at hq
    · rename_i ad hx
      split at hq
      · cases hq
      · rename_i hU
        split at hq
        · rename_i τ hf
          rw [Option.bind_eq_some_iff] at hq
          obtain ⟨q, hq1, hq⟩ := hq
          obtain ⟨u', ad', he, hc, hr, hrun⟩ := ld_flat hs (ev_rel ht hx) hU hf hq1
          refine ⟨_, u', hq, hr, ?_⟩
          simp only [execOp, ho, Sem.run_bind, hrun w hc, Result.andThen_ok, Sem.run_pure]
        · rename_i l hf
          have hq' := ite_some hq
          obtain ⟨hl, hq'⟩ := hq'
          rw [Option.bind_eq_some_iff] at hq'
          obtain ⟨q, hq1, hq'⟩ := hq'
          obtain ⟨vs', hr, hrun⟩ := ld_agg hs (ev_rel ht hx) hl hf hq1
          refine ⟨_, .agg ⟨vs'⟩, hq', .agg hr, ?_⟩
          simp only [execOp, ho, Sem.run_bind, hrun, Result.andThen_ok, Sem.run_pure]
    · cases hq
  · exact eMaps_sound hq hs ht
theorem eStill_sound {ops : Array Oper} {r : Value × Heap} {K : List Value → Heap → Res} {Q : Act → Prop} {S : List Loc} {h : Heap} {w : World} (hs : Sim P B w0 S h w) :
    ∀ (l : List Oper) (t : List Value), eStill P ops l K t h = some r → ∀ (a : Act), TRel S t a → (∀ t' a', K t' h = some r → TRel S t' a' → Q a') → wpStill P ops w Q l a
  | [], t, hq, a, ht, hK => hK t a hq ht
  | o :: l, t, hq, a, ht, hK => by
    have run : ∀ (t0 : List Value), TRel S t0 a → (eRead P o t0 h fun v => eStill P ops l K (put t0 o.dst v) h) = some r → o.still P a w (wpStill P ops w Q l) := by
      intro t0 ht0 hq0
      obtain ⟨v, v', h1, h2, h3⟩ := eRead_sound hq0 hs ht0
      unfold Oper.still
      rw [h3]
      exact ⟨rfl, eStill_sound hs l _ h1 _ (ht0.put h2 o.dst) hK⟩
    have skip : ∀ (t0 : List Value), TRel S t0 a → eStill P ops l K (put t0 o.dst skipped) h = some r → wpStill P ops w Q l (a.put o.dst undef) :=
      fun t0 ht0 hq0 => eStill_sound hs l _ hq0 _ (ht0.put .skip o.dst) hK
    unfold eStill at hq
    split at hq
    · rename_i hg
      unfold wpStill
      rw [wanted_none (ops := ops) hg]
      exact run t ht hq
    · rename_i j want hg
      split at hq
      · rename_i s hd
        split at hq
        · rename_i b hb
          have hw := wanted_some hg hd ht hb (getD_bool_lt hb)
          unfold wpStill
          rw [hw]
          have hlit : ∀ b', b' = b → TRel S (t.set s (.bool b')) a := by
            intro b' e
            subst e
            exact ht.lit fun v' hv => by rw [hb] at hv; exact hv
          cases b <;> cases want <;> simp only [cond_true, cond_false] at hq
          · exact run _ (hlit false rfl) hq
          · exact skip _ (hlit false rfl) hq
          · exact skip _ (hlit true rfl) hq
          · exact run _ (hlit true rfl) hq
        · rename_i hb
          have hw := wanted_skip (want := want) hg hd ht hb
          unfold wpStill
          rw [hw]
          exact skip t ht hq
        · cases hq
      · cases hq
theorem wpAnyH_mono {md : Region.Mode} {ops : Array Oper} {Q : Exit → Act → World → Prop} {S S' : World → Prop} (hS : ∀ w, S' w → S w) : ∀ (fuel : Nat) (listed : Array Bool) (a : Act) (w : World), wpAnyH P md ops Q S' fuel listed a w → wpAnyH P md ops Q S fuel listed a w
  | 0, _, _, _, h => h
  | fuel + 1, _, _, _, h => ⟨h.1, fun i hi => wpOp_mono (fun a' w' h' => ⟨hS _ h'.1, wpAnyH_mono hS fuel _ a' w' h'.2⟩) (h.2 i hi)⟩
/-- What is held: its picture. -/
inductive Held (S : List Loc) : List (Addr × Value) → List (Addr × Value) → Prop
  | nil : Held S [] []
  | cons {ad v ad' v' l l'} : VRel S (.pointer (some ad)) (.pointer (some ad')) → VRel S v v' → rigid v = true → Held S l l' → Held S ((ad, v) :: l) ((ad', v') :: l')
theorem Held.mono {S S' : List Loc} (hp : S <+: S') {l l' : List (Addr × Value)} (h : Held S l l') : Held S' l l' := by
  induction h with
  | nil => exact .nil
  | cons a b c _ ih => exact .cons (a.mono hp) (b.mono hp) c ih
def Holds (l : List (Addr × Value)) (w : World) : Prop := ∀ x ∈ l, w.cell? x.1 = some x.2
theorem stays_sound {S : List Loc} {h : Heap} {w : World} (hs : Sim P B w0 S h w) {l l' : List (Addr × Value)} (hh : Held S l l') (hst : stays h l = true) : Holds l' w := by
  induction hh with
  | nil => intro x hx; cases hx
  | cons ha hv hr _ ih =>
    rename_i ad v ad' v' l l' _
    simp only [stays, Bool.and_eq_true] at hst
    obtain ⟨h1, h2⟩ := hst
    intro x hx
    rcases List.mem_cons.1 hx with rfl | hx
    · split at h1
      · rename_i u hu
        have := same_eq h1
        subst this
        rw [Option.bind_eq_some_iff] at hu
        obtain ⟨cs, hcs, hu⟩ := hu
        obtain ⟨ob, hi, rw, sz, hrw⟩ := rowOf_some hcs
        obtain ⟨i, o, L, rfl, hL, he⟩ := ha.inv_ptr
        injection he with he
        injection he with he
        subst he
        have hrow := (show RowIs P B S w L _ _ cs from hrw (hs.ob i _ L hi hL))
        obtain ⟨u', hc, hrel⟩ := hrow.cell o u hu
        rw [rigid_eq hr hv hrel]
        exact hc
      · cases h1
    · exact ih h2 x hx
theorem eDraw_sound {E : Env} (hC : EnvOK P E) (hN : Named P) {ops : Array Oper} (hsel : Region.noSelect ops = true) {Q : Exit → Act → World → Prop} (hP : PanicOK Q) {r : Value × Heap} {K : List Value → Heap → Res} :
    ∀ (l : List (Nat × Bool)) (fuel : Nat) (listed : Array Bool) (held : List (Addr × Value)) (t : List Value) (h : Heap), l.length ≤ fuel → chk ops listed l = true → eDraw P E ops l held K t h = some r →
      ∀ (S : List Loc) (a : Act) (w : World) (held' : List (Addr × Value)), Sim P B w0 S h w → TRel S t a → Held S held held' → Holds held' w →
      (∀ t' h' S' a' w', K t' h' = some r → S <+: S' → Sim P B w0 S' h' w' → TRel S' t' a' → Q .normal a' w') → wpAnyH P .any ops Q (Holds held') fuel listed a w
  | [], fuel, listed, held, t, h, hl, hc, hq, S, a, w, held', hs, ht, hh, hw, hK => by
    simp only [chk, beq_iff_eq] at hc
    exact wpAnyH_done hc (hK t h S a w hq (List.prefix_refl _) hs ht) fuel
  | (i, true) :: l, fuel, listed, held, t, h, hl, hc, hq, S, a, w, held', hs, ht, hh, hw, hK => by
    obtain ⟨fuel, rfl⟩ : ∃ f, fuel = f + 1 := ⟨fuel - 1, by simp at hl; omega⟩
    simp only [List.length_cons] at hl
    simp only [chk, Bool.and_eq_true] at hc
    obtain ⟨⟨hfree, hready⟩, hc⟩ := hc
    unfold eDraw at hq
    split at hq
    · cases hq
    · rename_i o ho
      split at hq
      · cases hq
      · rename_i hg
        have hwant : Region.wanted o (yielded ops a.tmps) = true := wanted_none (ops := ops) hg
        split at hq
        · rename_i T x hop
          split at hq
          · rename_i ad τ hx hf
            split at hq
            · cases hq
            · rename_i hU
              rw [Option.bind_eq_some_iff] at hq
              obtain ⟨q, hq1, hq⟩ := hq
              obtain ⟨u', ad', he, hcell, hr, hrun⟩ := ld_flat hs (ev_rel ht hx) hU hf hq1
              cases hrg : rigid (fenc τ q) with
              | false => rw [hrg] at hq; cases hq
              | true =>
                rw [hrg] at hq
                simp only [cond_true] at hq
                have hrel := ev_rel ht hx
                rw [he] at hrel
                have hw' : Holds ((ad', u') :: held') w := by
                  intro y hy
                  rcases List.mem_cons.1 hy with rfl | hy
                  · exact hcell
                  · exact hw y hy
                have ih := eDraw_sound hC hN hsel hP l fuel _ ((ad, fenc τ q) :: held) _ h (by omega) hc hq S (a.put o.dst u') w ((ad', u') :: held') hs (ht.put hr o.dst) (.cons hrel hr hrg hh) hw' hK
                refine wpAnyH_mono (S' := Holds ((ad', u') :: held')) (fun W hW y hy => hW y (List.mem_cons_of_mem _ hy)) _ _ _ _ ?_
                refine wpAnyH_take ho hsel hfree hready (fun c a w h => hP c a _ _ w h) (.inl ⟨hwant, fun W hW => ?_⟩) hw' ih
                have := hrun W (hW (ad', u') List.mem_cons_self)
                simp only [execOp, hop, Sem.run_bind, this, Result.andThen_ok, Sem.run_pure]
          · cases hq
        · have hq' := ite_some hq
          obtain ⟨_, hq'⟩ := hq'
          obtain ⟨v, v', h1, h2, h3⟩ := eQuiet_sound hq' hs ht
          have ih := eDraw_sound hC hN hsel hP l fuel _ held _ h (by omega) hc h1 S (a.put o.dst v') w held' hs (ht.put h2 o.dst) hh hw hK
          exact wpAnyH_take ho hsel hfree hready (fun c a w h => hP c a _ _ w h) (.inl ⟨hwant, fun W _ => pv_run h3 W⟩) hw ih
  | (i, false) :: l, fuel, listed, held, t, h, hl, hc, hq, S, a, w, held', hs, ht, hh, hw, hK => by
    obtain ⟨fuel, rfl⟩ : ∃ f, fuel = f + 1 := ⟨fuel - 1, by simp at hl; omega⟩
    simp only [List.length_cons] at hl
    simp only [chk, Bool.and_eq_true, beq_iff_eq] at hc
    obtain ⟨hready, hc⟩ := hc
    unfold eDraw at hq
    split at hq
    · cases hq
    · rename_i o ho
      split at hq
      · cases hq
      · rename_i hg
        have hwant : Region.wanted o (yielded ops a.tmps) = true := wanted_none (ops := ops) hg
        refine wpAnyH_all hready (by simp) (fun j hj => ?_)
        have hj : j = i := by simpa using hj
        subst hj
        unfold wpOp
        simp only [ho, hwant, if_true]
        left
        refine eOp_sound hC hN hq hs ht fun v h' v' w' S' hk hp hs' hr => ?_
        cases hst : stays h' held with
        | false => rw [hst] at hk; cases hk
        | true =>
          rw [hst] at hk
          simp only [cond_true] at hk
          have hw' := stays_sound hs' (hh.mono hp) hst
          exact ⟨hw', eDraw_sound hC hN hsel hP l fuel _ held _ h' (by omega) hc hk S' _ w' held' hs' ((ht.mono hp).put hr o.dst) (hh.mono hp) hw' fun t'' h'' S'' a'' w'' hk' hp' hs'' ht'' => hK t'' h'' S'' a'' w'' hk' (hp.trans hp') hs'' ht''⟩
end
end Go.Proofs.Ytmpobijkbmljdaa.Sh
namespace Go.Proofs.Ytmpobijkbmljdaa.Sh
open Go.RowKit

section
variable {P : Program} {B : Nat} {w0 : World}
theorem PanicOK.then {Q : Exit → Act → World → Prop} (h : PanicOK Q) (n : Act → World → Prop) : PanicOK (Exit.then n Q) := fun c a d v w hh => h c a d v w hh
theorem PanicOK.block {Q : Exit → Act → World → Prop} (h : PanicOK Q) (id : Nat) : PanicOK (Exit.inBlock id Q) := fun c a d v w hh => h c a d v w hh
/-- The code runs to where the shadow's evaluation comes. -/
theorem eC_sound {E : Env} (hC : EnvOK P E) (hN : Named P) (hM : P.follows .mixedOrders = true) {M : Nat} {r : Value × Heap} :
    ∀ (c : SC) (K : Kont) (t : List Value) (h : Heap), eC P E M c K t h = some r → ∀ (S : List Loc) (a : Act) (w : World), Sim P B w0 S h w → TRel S t a → ∀ (Q : Exit → Act → World → Prop), PanicOK Q →
      (∀ e t' h' S' a' w', K e t' h' = some r → S <+: S' → Sim P B w0 S' h' w' → TRel S' t' a' → Q (Ex.out e) a' w') → c.erase.wp P Q a w := by
  intro c
  induction c with
  | skip => intro K t h hq S a w hs ht Q hP hK; exact wp_skip (hK .normal t h S a w hq (List.prefix_refl _) hs ht)
  | ret => intro K t h hq S a w hs ht Q hP hK; exact wp_ret (hK .ret t h S a w hq (List.prefix_refl _) hs ht)
  | exit id => intro K t h hq S a w hs ht Q hP hK; exact wp_exit (hK (.exit id) t h S a w hq (List.prefix_refl _) hs ht)
  | region id ops =>
    intro K t h hq S a w hs ht Q hP hK
    exact wp_region_list (eOps_sound hC hN ops.toList t h hq S a w hs ht fun t' h' S' a' w' hk hp hs' ht' => hK .normal t' h' S' a' w' hk hp hs' ht')
  | draw id ops order =>
    intro K t h hq S a w hs ht Q hP hK
    unfold eC at hq
    have hq' := ite_some hq
    obtain ⟨hc, hq'⟩ := hq'
    simp only [Bool.and_eq_true, decide_eq_true_eq] at hc
    obtain ⟨⟨hc, hsel⟩, hl⟩ := hc
    refine wp_region_held (S := Holds []) hM ?_
    exact eDraw_sound hC hN hsel hP order ops.size _ [] t h hl hc hq' S a _ [] (hs.drawn _) ht .nil (fun x hx => by cases hx) fun t' h' S' a' w' hk hp hs' ht' => hK .normal t' h' S' a' w' hk hp hs' ht'
  | still id ops =>
    intro K t h hq S a w hs ht Q hP hK
    unfold eC at hq
    have hq' := ite_some hq
    obtain ⟨hB, hq'⟩ := hq'
    exact wp_region_still hM hB (eStill_sound (hs.drawn (w.drawn + 1)) ops.toList t hq' a ht fun t' a' hk ht' => hK .normal t' h S a' _ hk (List.prefix_refl _) (hs.drawn _) ht')
  | tail id ops n =>
    intro K t h hq S a w hs ht Q hP hK
    unfold eC at hq
    have hq' := ite_some hq
    obtain ⟨hB, hq'⟩ := hq'
    obtain ⟨l⟩ := ops
    refine wp_region_still_tail n hM hB (eStill_sound (hs.drawn (w.drawn + 1)) _ t hq' a ht fun t' a' hk ht' => ?_)
    exact eOps_sound hC hN _ t' h hk S a' _ (hs.drawn _) ht' fun t'' h' S' a'' w' hk' hp hs' ht'' => hK .normal t'' h' S' a'' w' hk' hp hs' ht''
  | seq clr x y ihx ihy =>
    intro K t h hq S a w hs ht Q hP hK
    have key : ∀ (f : List Value → List Value), (∀ S t a, TRel S t a → TRel S (f t) a) → eC P E M x (kSeq (fun t h => eC P E M y K (f t) h) K) t h = some r → (SC.seq clr x y).erase.wp P Q a w := by
      intro f hf hq
      refine wp_seq (ihx _ t h hq S a w hs ht _ (hP.then _) fun e t' h' S' a' w' hk hp hs' ht' => ?_)
      cases e with
      | normal => exact ihy K _ h' hk S' a' w' hs' (hf _ _ _ ht') Q hP fun e' t'' h'' S'' a'' w'' hk' hp' hs'' ht'' => hK e' t'' h'' S'' a'' w'' hk' (hp.trans hp') hs'' ht''
      | exit id => exact hK (.exit id) t' h' S' a' w' hk hp hs' ht'
      | ret => exact hK .ret t' h' S' a' w' hk hp hs' ht'
    cases clr with
    | none => exact key id (fun _ _ _ h => h) hq
    | some clr => exact key (clear clr) (fun _ _ _ h => h.clear clr) hq
  | cond c x y ihx ihy =>
    intro K t h hq S a w hs ht Q hP hK
    unfold eC at hq
    cases c with
    | tmp s =>
      simp only at hq
      split at hq
      · rename_i b hb
        have he := ht.get s
        rw [hb] at he
        have he := he.inv_bool
        have hlit : ∀ b', b' = b → TRel S (t.set s (.bool b')) a := by
          intro b' e
          subst e
          exact ht.lit fun v' hv => by rw [hb] at hv; exact hv
        refine wp_cond (t := b) he ?_
        cases b with
        | true => exact ihx K _ h hq S a w hs (hlit true rfl) Q hP hK
        | false => exact ihy K _ h hq S a w hs (hlit false rfl) Q hP hK
      · cases hq
    | const v =>
      cases v with
      | bool b =>
        refine wp_cond (t := b) rfl ?_
        cases b with
        | true => exact ihx K _ h hq S a w hs ht Q hP hK
        | false => exact ihy K _ h hq S a w hs ht Q hP hK
      | _ => cases hq
    | global g => cases hq
    | func f => cases hq
  | block id x ih =>
    intro K t h hq S a w hs ht Q hP hK
    refine wp_block (ih _ t h hq S a w hs ht _ (hP.block id) fun e t' h' S' a' w' hk hp hs' ht' => ?_)
    cases e with
    | normal => exact hK .normal t' h' S' a' w' hk hp hs' ht'
    | exit j =>
      show (if j = id then Q .normal a' w' else Q (.exit j) a' w')
      unfold kBlock at hk
      simp only at hk
      split at hk
      · rename_i hj; rw [if_pos hj]; exact hK .normal t' h' S' a' w' hk hp hs' ht'
      · rename_i hj; rw [if_neg hj]; exact hK (.exit j) t' h' S' a' w' hk hp hs' ht'
    | ret => exact hK .ret t' h' S' a' w' hk hp hs' ht'
  | loop clr x ih =>
    intro K t h hq S a w hs ht Q hP hK
    have key : ∀ (m : Nat) (t : List Value) (h : Heap) (S' : List Loc) (a : Act) (w : World), loopN (fun K t h => eC P E M x K t h) clr K m t h = some r → S <+: S' → Sim P B w0 S' h w → TRel S' t a → Code.rounds P x.erase Q m a w := by
      intro m
      induction m with
      | zero => intro t h S' a w hq; cases hq
      | succ m ihm =>
        intro t h S' a w hq hp hs ht
        refine ih _ t h hq S' a w hs ht _ (hP.then _) fun e t' h' S'' a' w' hk hp' hs' ht' => ?_
        cases e with
        | normal => exact ihm _ h' S'' a' w' hk (hp.trans hp') hs' (ht'.clear clr)
        | exit id => exact hK (.exit id) t' h' S'' a' w' hk (hp.trans hp') hs' ht'
        | ret => exact hK .ret t' h' S'' a' w' hk (hp.trans hp') hs' ht'
    exact wp_loop_rounds M (key M _ h S a w hq (List.prefix_refl _) hs (ht.clear clr))
  | other c => intro K t h hq; cases hq

theorem rets_sound {S : List Loc} {h : Heap} {w : World} {t : List Value} {a : Act} (hs : Sim P B w0 S h w) (ht : TRel S t a) {f : ResultVar → Sem Value} (hf1 : ∀ s, f (.tmp s) = pure (a.tmps.getD s undef)) (hf2 : ∀ s T, f (.cell s T) = (do loadVar T (← asAddr (a.tmps.getD s undef)))) :
    ∀ {l : List ResultVar} {vs : List Value}, rets P h t l = some vs → ∃ vs', VRels S vs vs' ∧ Sem.run P (l.mapM f) w = Result.ok vs' w
  | [], vs, hq => by
    simp only [rets, Option.some.injEq] at hq
    subst hq
    exact ⟨[], .nil, by simp⟩
  | .tmp s :: l, vs, hq => by
    simp only [rets, Option.map_eq_some_iff] at hq
    obtain ⟨us, hus, rfl⟩ := hq
    obtain ⟨us', hr, hrun⟩ := rets_sound hs ht hf1 hf2 hus
    refine ⟨_, .cons (ht.get s) hr, ?_⟩
    simp only [List.mapM_cons, hf1, Sem.run_bind, Sem.run_pure, Result.andThen_ok, hrun]
  | .cell s T :: l, vs, hq => by
    simp only [rets] at hq
    split at hq
    · rename_i ad hx
      split at hq
      · cases hq
      · rename_i hU
        have hp := ht.get s
        rw [hx] at hp
        split at hq
        · rename_i τ hf
          rw [Option.bind_eq_some_iff] at hq
          obtain ⟨q, hq1, hq⟩ := hq
          rw [Option.map_eq_some_iff] at hq
          obtain ⟨us, hus, rfl⟩ := hq
          obtain ⟨us', hr, hrun⟩ := rets_sound hs ht hf1 hf2 hus
          obtain ⟨u', ad', he, hc, hrel, hrun1⟩ := ld_flat hs hp hU hf hq1
          refine ⟨_, .cons hrel hr, ?_⟩
          have h1 := hrun1 w hc
          rw [he] at h1
          simp only [Instr.loadAt, Sem.run_bind, run_sureAddr, Result.andThen_ok] at h1
          simp only [List.mapM_cons, hf2, Sem.run_bind, he, asAddr, Sem.run_pure, Result.andThen_ok, h1, hrun]
        · rename_i l' hf
          have hq' := ite_some hq
          obtain ⟨hl, hq'⟩ := hq'
          rw [Option.bind_eq_some_iff] at hq'
          obtain ⟨q, hq1, hq'⟩ := hq'
          rw [Option.map_eq_some_iff] at hq'
          obtain ⟨us, hus, rfl⟩ := hq'
          obtain ⟨us', hr, hrun⟩ := rets_sound hs ht hf1 hf2 hus
          obtain ⟨vs', hrel, hrun1⟩ := ld_agg hs hp hl hf hq1
          obtain ⟨i, o, L, rfl, hL, he⟩ := hp.inv_ptr
          refine ⟨_, .cons (.agg hrel) hr, ?_⟩
          rw [he] at hrun1
          simp only [Instr.loadAt, Sem.run_bind, run_sureAddr, Result.andThen_ok] at hrun1
          simp only [List.mapM_cons, hf2, Sem.run_bind, he, asAddr, Sem.run_pure, Result.andThen_ok, hrun1, hrun]
    · cases hq
theorem results_eq (fn : Func) (tmps : Array Value) : ∃ f : ResultVar → Sem Value, (∀ s, f (.tmp s) = pure (tmps.getD s undef)) ∧ (∀ s T, f (.cell s T) = (do loadVar T (← asAddr (tmps.getD s undef)))) ∧
    results fn tmps = (do let vs ← fn.results.mapM f; pure (if h : vs.size = 1 then vs[0] else .tuple vs)) :=
  ⟨_, fun _ => rfl, fun _ _ => rfl, rfl⟩
theorem results_sound {S : List Loc} {h : Heap} {w : World} {t : List Value} {a : Act} (hs : Sim P B w0 S h w) (ht : TRel S t a) {fn : Func} {vs : List Value} (hq : rets P h t fn.results.toList = some vs) :
    ∃ v', VRel S (one_ vs) v' ∧ (results fn a.tmps).run P w = .ok v' w := by
  obtain ⟨f, hf1, hf2, hres⟩ := results_eq fn a.tmps
  obtain ⟨vs', hr, hrun⟩ := rets_sound hs ht hf1 hf2 hq
  have hlen := hr.length
  refine ⟨if h : vs'.toArray.size = 1 then vs'.toArray[0] else .tuple vs'.toArray, ?_, ?_⟩
  · unfold one_
    split
    · rename_i v
      cases hr with
      | cons h1 h2 =>
        cases h2
        exact h1
    · rename_i hne
      have : ¬ vs'.toArray.size = 1 := by
        intro e
        have h1 : vs.length = 1 := by rw [hlen]; simpa using e
        match vs, h1 with
        | [v], _ => exact hne v rfl
      rw [dif_neg this]
      exact .tuple hr
  · rw [hres]
    have e : fn.results = fn.results.toList.toArray := by simp
    rw [e]
    rw [List.mapM_toArray]
    simp only [Sem.run_bind, map_eq_pure_bind, Sem.run_bind]
    rw [hrun]
    simp only [Result.andThen_ok, Sem.run_pure]
/-- What the table of a program must be. -/
structure TabOK (P : Program) (T : Tab) : Prop where
  code : ∀ (f : FuncId) (c : SC), T.code f = some c → ∃ fn, P.funcs[f]? = some fn ∧ fn.body = some c.erase
  prim : ∀ (f : FuncId) (p : List Value → Heap → Res), T.prim f = some p → CallOK P fun g args h => if g = f then p args h else none
  ext : ∀ (f : FuncId) (e : Array Value → Sem Value), T.ext f = some e → ∃ fn, P.funcs[f]? = some fn ∧ fn.body = none ∧ Extern.findNext fn = none ∧ Extern.find fn = some e
  same : ∀ (f : FuncId), T.same f = true → ∃ fn e, P.funcs[f]? = some fn ∧ fn.body = none ∧ Extern.findNext fn = none ∧ Extern.find fn = some e ∧ ∀ v, e #[v] = pure v
  named : Named P
  mixed : P.follows .mixedOrders = true
/-- What there is stays so, whatever comes behind it. -/
theorem Sim.under {S : List Loc} {h : Heap} {w w' : World} (hs : Sim P B w0 S h w) (hb : Below w.heap.size w w') : Sim P B w0 S h w' := by
  refine ⟨hs.len, hs.below.trans (hb.mono hs.size), Nat.le_trans hs.size hb.size, ?_, hs.sep, hs.sepA⟩
  intro i o L hi hL
  have ho := hs.ob i o L hi hL
  cases o with
  | dead => trivial
  | row rw e cs => exact ho.keep (hb.block _ (ho.lt rfl)) hb.size
  | app e cs => exact ho.keep (hb.block _ (ho.lt rfl)) hb.size
  | map es => exact ho.keep (hb.block _ (ho.lt rfl)) hb.size
theorem Sim.start (w : World) : Sim P w.heap.size w [] [] w :=
  ⟨rfl, Below.refl _ _, Nat.le_refl _, fun i o L hi => by simp at hi, fun i j oi oj L M _ hi => by simp at hi, fun i j e cs oj L M _ hi => by simp at hi⟩
theorem plainC_eq {S : List Loc} {v v' : Value} (hp : plainC v = true) (h : VRel S v v') : v' = v := by
  unfold plainC at hp
  split at hp
  · rename_i vs
    obtain ⟨l', rfl, hr⟩ := h.inv_agg
    rw [plains_eq hp hr]
  · exact plain_eq hp h
theorem bodyF_sound {T : Tab} (hT : TabOK P T) {call : FuncId → List Value → Heap → Res} (hC : CallOK P call) (n : Nat) : CallOK P (bodyF P T call n) := by
  intro f args h v h' hq B w0 S w args' hs hargs
  unfold bodyF at hq
  split at hq
  · rename_i c fn hc hfn
    obtain ⟨fn', hfn', hb⟩ := hT.code f c hc
    rw [hfn] at hfn'
    injection hfn' with hfn'
    subst hfn'
    refine ⟨⟨fn, c.erase, hfn, hb⟩, ?_⟩
    refine calls_of_wp hfn hb ?_
    have hlen := hargs.length
    have ht : TRel S (args ++ List.replicate (fn.ntmps - args.length) undef) { tmps := args'.toArray ++ Array.replicate (fn.ntmps - args'.toArray.size) undef, defers := [] } := by
      refine ⟨?_, rfl⟩
      simp only [Array.toList_append, Array.toList_replicate, List.size_toArray, ← hlen]
      exact hargs.append (VRels.replicate_undef _)
    refine eC_sound (E := ⟨call, T.ext, T.same, T.keep f⟩) ⟨hC, hT.ext, hT.same⟩ hT.named hT.mixed c _ _ h hq S _ w hs ht _ ?_ fun e t' h'' S' a' w' hk hp hs' ht' => ?_
    · intro c a d v w hh
      cases d <;> exact hh
    · have key : kRet P fn e t' h'' = some (v, h') → (e = .normal ∨ e = .ret) := by
        intro h
        cases e with
        | normal => exact .inl rfl
        | ret => exact .inr rfl
        | exit id => cases h
      have hk2 : (rets P h'' t' fn.results.toList).bind (fun vs => some (one_ vs, h'')) = some (v, h') := by
        rcases key hk with rfl | rfl <;> exact hk
      rw [Option.bind_eq_some_iff] at hk2
      obtain ⟨vs, hvs, hk2⟩ := hk2
      injection hk2 with hk2
      injection hk2 with e1 e2
      subst e1 e2
      obtain ⟨v', hr, hrun⟩ := results_sound hs' ht' hvs
      rcases key hk with rfl | rfl <;> exact ⟨ht'.2, v', hrun, v', S', rfl, hp, hs', hr⟩
  · cases hq
theorem eF_sound {T : Tab} (hT : TabOK P T) : ∀ n, CallOK P (eF P T n) := by
  intro n
  induction n with
  | zero => intro f args h v h' hq; cases hq
  | succ n ih =>
    intro f args h v h' hq B w0 S w args' hs hargs
    unfold eF at hq
    split at hq
    · rename_i p hp
      exact hT.prim f p hp f args h v h' (by simpa using hq) B w0 S w args' hs hargs
    · have key := bodyF_sound hT ih n
      unfold alone at hq
      cases hpure : T.pure f with
      | false => rw [hpure] at hq; exact key f args h v h' hq B w0 S w args' hs hargs
      | true =>
        rw [hpure] at hq
        simp only [cond_true] at hq
        cases hpl : plainVs args with
        | false => rw [hpl] at hq; cases hq
        | true =>
          rw [hpl] at hq
          simp only [cond_true, Option.bind_eq_some_iff] at hq
          obtain ⟨⟨u, h1⟩, hgo, hq⟩ := hq
          cases hpc : plainC u with
          | false => rw [hpc] at hq; cases hq
          | true =>
            rw [hpc] at hq
            simp only [cond_true, Option.some.injEq, Prod.mk.injEq] at hq
            obtain ⟨rfl, rfl⟩ := hq
            have hargs2 : VRels [] args args' := by rw [plains_eq hpl hargs]; exact plains_rel hpl
            obtain ⟨hb, hc⟩ := key f args [] u h1 hgo w.heap.size w [] w args' (Sim.start w) hargs2
            refine ⟨hb, hc.mono ?_⟩
            rintro e w' ⟨v', S', rfl, _, hs', hrel⟩
            rw [plainC_eq hpc hrel]
            exact ⟨u, S, rfl, List.prefix_refl _, hs.under hs'.below, plainC_rel hpc⟩
end
end Go.Proofs.Ytmpobijkbmljdaa.Sh
namespace Go.Proofs.Ytmpobijkbmljdaa.Sh
open Go.RowKit

/-! ### The marks, by the first region's number -/
inductive Draw where
  | still | tail (n : Nat) | order (l : List (Nat × Bool))
structure Notes where
  draw : List (Nat × Draw)
  loop : List (Nat × List Nat)
  join : List (Nat × List Nat)
def find {α : Type} : List (Nat × α) → Nat → Option α
  | [], _ => none
  | (k, x) :: r, i => cond (Nat.beq k i) (some x) (find r i)
def firstId : Code → Nat
  | .region id _ _ => id
  | .seq a _ => firstId a
  | .cond _ a _ => firstId a
  | .block _ a => firstId a
  | .loop a => firstId a
  | .scope a => firstId a
  | _ => 0
def ann (d : Notes) : Code → SC
  | .skip => .skip
  | .ret => .ret
  | .exit id => .exit id
  | .region id ops false => .region id ops
  | .region id ops true =>
    match find d.draw id with
    | some .still => .still id ops
    | some (.tail n) => .tail id ops n
    | some (.order l) => .draw id ops l
    | none => .still id ops
  | .seq a b => .seq (find d.join (firstId b)) (ann d a) (ann d b)
  | .cond c a b => .cond c (ann d a) (ann d b)
  | .block id a => .block id (ann d a)
  | .loop a => .loop ((find d.loop (firstId a)).getD []) (ann d a)
  | c => .other c
theorem ann_erase (d : Notes) : ∀ c, (ann d c).erase = c := by
  intro c
  induction c with
  | region id ops b =>
    cases b
    · rfl
    · simp only [ann]
      split <;> rfl
  | seq a b iha ihb => simp only [ann, SC.erase, iha, ihb]
  | cond c a b iha ihb => simp only [ann, SC.erase, iha, ihb]
  | block id a ih => simp only [ann, SC.erase, ih]
  | loop a ih => simp only [ann, SC.erase, ih]
  | _ => rfl
/-- A function without a body, answered by the model's own entry. -/
def extOf (P : Program) (f : FuncId) : Option (Array Value → Sem Value) :=
  match P.funcs[f]? with
  | some fn => match fn.body with
    | none => (match Extern.findNext fn with | none => Extern.find fn | some _ => none)
    | some _ => none
  | none => none
def mkTab (P : Program) (notes : FuncId → Notes) (same lone : FuncId → Bool) (prim : FuncId → Option (List Value → Heap → Res)) (keep : FuncId → Bool) : Tab where
  code f := match P.funcs[f]? with
    | some fn => match fn.body with
      | some c => some (ann (notes f) c)
      | none => none
    | none => none
  ext f := match same f with | true => none | false => extOf P f
  same := same
  pure := lone
  prim := prim
  keep := keep
theorem mkTab_ok {P : Program} {notes : FuncId → Notes} {same lone : FuncId → Bool} {prim : FuncId → Option (List Value → Heap → Res)} {keep : FuncId → Bool} (hN : (P.funcs.all fun fn => !(fn.name == "runtime.NumGoroutine")) = true) (hM : P.follows .mixedOrders = true)
    (hS : ∀ (f : FuncId), same f = true → ∃ fn e, P.funcs[f]? = some fn ∧ fn.body = none ∧ Extern.findNext fn = none ∧ Extern.find fn = some e ∧ ∀ v, e #[v] = pure v)
    (hp : ∀ (f : FuncId) (p : List Value → Heap → Res), prim f = some p → CallOK P fun g args h => if g = f then p args h else none) : TabOK P (mkTab P notes same lone prim keep) where
  code f c h := by
    unfold mkTab at h
    simp only at h
    split at h
    · rename_i fn hfn
      split at h
      · rename_i c' hb
        injection h with h
        subst h
        exact ⟨fn, hfn, by rw [hb, ann_erase]⟩
      · cases h
    · cases h
  prim := hp
  ext f e h := by
    unfold mkTab at h
    simp only at h
    split at h
    · cases h
    · unfold extOf at h
      split at h
      · rename_i fn hfn
        split at h
        · rename_i hb
          split at h
          · rename_i hn
            exact ⟨fn, hfn, hb, hn, h⟩
          · cases h
        · cases h
      · cases h
  same := hS
  named f fn hf := by
    rw [Array.all_eq_true_iff_forall_mem] at hN
    have := hN fn (Array.mem_of_getElem? hf)
    simpa using this
  mixed := hM
end Go.Proofs.Ytmpobijkbmljdaa.Sh
namespace Go.Proofs.Ytmpobijkbmljdaa.Sh
open Go.RowKit

def among : List Nat → Nat → Bool
  | [], _ => false
  | a :: l, f => cond (Nat.beq a f) true (among l f)
/-- From the shadow to the machine: the law's call. -/
theorem walk_of {P : Program} {T : Tab} (hT : TabOK P T) {n : Nat} {f : FuncId} {args args' : List Value} {h h' : Heap} {S : List Loc} {w : World} (hs : Sim P w.heap.size w S h w) (ha : VRels S args args') (hq : eF P T n f args h = some (.bool true, h')) :
    Calls P f args'.toArray w fun e w' => e = .returned (.bool true) ∧ Below w.heap.size w w' := by
  refine (eF_sound hT n f args h _ h' hq _ _ _ _ _ hs ha).2.mono ?_
  rintro e w' ⟨v', S', rfl, _, hs', hr⟩
  exact ⟨by rw [hr.inv_bool], hs'.below⟩
theorem eF_body {P : Program} {T : Tab} {n : Nat} {f : FuncId} {args : List Value} {h : Heap} (h1 : T.prim f = none) (h2 : T.pure f = false) : eF P T (n + 1) f args h = bodyF P T (eF P T n) n f args h := by
  show (match T.prim f with | some p => p args h | none => alone (T.pure f) args h (bodyF P T (eF P T n) n f args)) = _
  rw [h1, h2]
  rfl
theorem eF_lone {P : Program} {T : Tab} {n : Nat} {f : FuncId} {args : List Value} {h : Heap} (h1 : T.prim f = none) (h2 : T.pure f = true) (h3 : plainVs args = true) :
    eF P T (n + 1) f args h = (bodyF P T (eF P T n) n f args []).bind fun r => cond (plainC r.1) (some (r.1, h)) none := by
  show (match T.prim f with | some p => p args h | none => alone (T.pure f) args h (bodyF P T (eF P T n) n f args)) = _
  rw [h1, h2]
  unfold alone
  rw [h3]
  rfl
theorem callD_some {call : FuncId → List Value → Heap → Res} {τ : Ty} {f : FuncId} {args : List Value} {h h' : Heap} {x : τ.T} (v : Value) (hc : call f args h = some (v, h')) (hd : dec τ v = some x) : callD call τ f args h = some (x, h') := by
  unfold callD
  rw [hc]
  simp only [Option.bind_some, hd, Option.map_some]
theorem wf_i64 {n : Int} (h : (Lit.int .i64 n).wf = true) : -9223372036854775808 ≤ n ∧ n ≤ 9223372036854775807 := by
  simpa [Lit.wf, IntKind.min, IntKind.max, IntKind.bits, IntKind.signed] using h
theorem wf_u64 {n : Int} (h : (Lit.int .u64 n).wf = true) : 0 ≤ n ∧ n ≤ 18446744073709551615 := by
  simpa [Lit.wf, IntKind.min, IntKind.max, IntKind.bits, IntKind.signed] using h
theorem wf_u16 {n : Int} (h : (Lit.int .u16 n).wf = true) : 0 ≤ n ∧ n ≤ 65535 := by
  simpa [Lit.wf, IntKind.min, IntKind.max, IntKind.bits, IntKind.signed] using h
theorem wf_u8 {n : Int} (h : (Lit.int .u8 n).wf = true) : 0 ≤ n ∧ n ≤ 255 := by
  simpa [Lit.wf, IntKind.min, IntKind.max, IntKind.bits, IntKind.signed] using h
end Go.Proofs.Ytmpobijkbmljdaa.Sh
