/- The machine of values over the shadow machine: slices that stay are lists. -/
import Derived.Test.YtmpobijkbmljdaaSh
set_option linter.unusedVariables false
set_option linter.unusedSimpArgs false
namespace Go.Proofs.Ytmpobijkbmljdaa.Sh.V
open Go.Proofs.Ytmpobijkbmljdaa.Sh

/-! The machine of values: as the shadow, but slices whose cells stay are just lists. -/

/-- What is known of a slice's capacity: nothing; it is k; the token t, in its state g, tells who may append. -/
inductive VC where
  | no | ex (k : Nat) | tok (t g : Nat)
mutual
inductive V where
  | undef | skip
  | bool (b : Bool) | int (k : IntKind) (n : Int) | flt (k : FloatKind) (n : Nat) | str (s : ByteArray)
  | ptr (p : VP) | sl (e : TypeId) (s : VS) | map (m : Option Nat)
  | func (f : Fn) (first caps : List V) | nilFunc | nilIface
  | agg (l : List V) | tup (l : List V)
  | asl (i off n : Nat)
  | nan
/-- A pointer: to a place in an object; to cells that stay. -/
inductive VP where
  | nil | ob (i off : Nat) | fz (cs : List V)
/-- A slice: its elements, that stay (each a list of cells); a piece of an object. -/
inductive VS where
  | nil | fz (es : List (List V)) (c : VC) | hp (i off n : Nat)
end
instance : Inhabited V := ⟨.undef⟩
inductive VO where
  | dead | row (e : TypeId) (cs : List V) | tok (e : TypeId) (g : Nat) | map (q : KK) (es : List (V × V)) | slot
abbrev VH := List VO
abbrev VRes := Option (V × VH)

/-! ### Types -/
inductive FT where
  | int (k : IntKind) | bool | str | ptr | slice (e : TypeId) | map | flt (k : FloatKind) | any
@[reducible] def FT.T : FT → Type
  | .int _ => Int | .bool => Bool | .str => ByteArray | .ptr => VP | .slice _ => VS | .map => Option Nat | .flt _ => Nat | .any => V
def fenc : (τ : FT) → τ.T → V
  | .int k, x => .int k x
  | .bool, x => .bool x
  | .str, x => .str x
  | .ptr, x => .ptr x
  | .slice e, x => .sl e x
  | .map, x => .map x
  | .flt k, x => .flt k x
  | .any, x => x
/-- A slice at the type of its elements (nil is at any). -/
def atE (e e0 : TypeId) (s : VS) : Option VS := if e0 = e then some s else match s with | .nil => some .nil | _ => none
def fdec : (τ : FT) → V → Option τ.T
  | .int k, .int j x => if j = k then some x else none
  | .bool, .bool x => some x
  | .str, .str x => some x
  | .ptr, .ptr x => some x
  | .slice e, .sl e0 s => atE e e0 s
  | .map, .map x => some x
  | .flt k, .flt j x => if j = k then some x else none
  | .any, x => some x
  | _, _ => none
@[reducible] def aggT : List FT → Type
  | [] => Unit
  | τ :: l => τ.T × aggT l
def encs : (l : List FT) → aggT l → List V
  | [], _ => []
  | τ :: l, x => fenc τ x.1 :: encs l x.2
def decs : (l : List FT) → List V → Option (aggT l)
  | [], [] => some ()
  | τ :: l, v :: vs => (fdec τ v).bind fun x => (decs l vs).map fun y => (x, y)
  | _, _ => none
inductive Ty1 where
  | flat (τ : FT) | agg (l : List FT)
@[reducible] def Ty1.T : Ty1 → Type
  | .flat τ => τ.T | .agg l => aggT l
def enc1 : (τ : Ty1) → τ.T → V
  | .flat τ, x => fenc τ x
  | .agg l, x => .agg (encs l x)
def dec1 : (τ : Ty1) → V → Option τ.T
  | .flat τ, v => fdec τ v
  | .agg l, .agg vs => decs l vs
  | _, _ => none
@[reducible] def tupT : List Ty1 → Type
  | [] => Unit
  | τ :: l => τ.T × tupT l
def encT : (l : List Ty1) → tupT l → List V
  | [], _ => []
  | τ :: l, x => enc1 τ x.1 :: encT l x.2
def decT : (l : List Ty1) → List V → Option (tupT l)
  | [], [] => some ()
  | τ :: l, v :: vs => (dec1 τ v).bind fun x => (decT l vs).map fun y => (x, y)
  | _, _ => none
inductive Ty where
  | one (τ : Ty1) | tup (l : List Ty1)
@[reducible] def Ty.T : Ty → Type
  | .one τ => τ.T | .tup l => tupT l
def enc : (τ : Ty) → τ.T → V
  | .one τ, x => enc1 τ x
  | .tup l, x => .tup (encT l x)
def dec : (τ : Ty) → V → Option τ.T
  | .one τ, v => dec1 τ v
  | .tup l, .tup vs => decT l vs
  | _, _ => none
def ftOf (P : Program) (t : TypeId) : FT :=
  match P.underlying t with
  | some (.int k) => .int k | some .bool => .bool | some .string => .str | some (.pointer _) => .ptr
  | some (.slice e) => .slice e | some (.map _ _) => .map | some (.float k) => .flt k | _ => .any
def cellFTs (P : Program) : Nat → TypeId → List FT
  | 0, _ => []
  | d + 1, t => match P.underlying t with
    | some (.struct fs) => fs.toList.flatMap fun f => cellFTs P d f.type
    | some (.array n e) => (List.replicate n (cellFTs P d e)).flatten
    | _ => [ftOf P t]
def ty1Of (P : Program) (t : TypeId) : Ty1 :=
  match P.underlying t with
  | some (.struct _) | some (.array _ _) => .agg (cellFTs P 20 t)
  | _ => .flat (ftOf P t)
def tyOf (P : Program) (t : TypeId) : Ty :=
  match P.underlying t with
  | some (.tuple ts) => .tup (ts.toList.map (ty1Of P))
  | _ => .one (ty1Of P t)

/-! ### Values -/
def V.cells : V → List V
  | .agg l => l
  | v => [v]
/-- One cell. -/
def one1 : V → Bool
  | .undef | .skip | .agg _ | .tup _ => false
  | _ => true
def onesV (vs : List V) : Bool := vs.all one1
/-- Without objects, at one cell. -/
def basic : V → Bool
  | .bool _ | .int _ _ | .flt _ _ | .str _ | .ptr .nil | .map none | .nilFunc | .nilIface | .sl _ .nil | .sl _ (.fz _ _) | .ptr (.fz _) | .nan => true
  | .func _ [] [] => true
  | _ => false
def closed1 : V → Bool
  | .func _ l m => l.all basic && m.all basic
  | v => basic v
def closedC : V → Bool
  | .agg l => l.all closed1
  | v => closed1 v
def closedT : V → Bool
  | .tup l => l.all closedC
  | v => closedC v
/-- Without a token. -/
def VS.strip : VS → VS
  | .fz es (.tok _ _) => .fz es .no
  | s => s
def strip0 : V → V
  | .sl e s => .sl e s.strip
  | v => v
def strip1 : V → V
  | .func f l m => .func f (l.map strip0) (m.map strip0)
  | .sl e s => .sl e s.strip
  | v => v
def stripC : V → V
  | .agg l => .agg (l.map strip1)
  | v => strip1 v
def stripT : V → V
  | .tup l => .tup (l.map stripC)
  | v => stripC v
def isSkip : List V → Bool
  | [.tup []] | [.undef] => true
  | _ => false
def toP : V → Option Value
  | .bool b => some (.bool b)
  | .int k n => some (.int k n)
  | .flt k n => some (.float k n)
  | .str s => some (.string s)
  | _ => none
def ofP : Value → Option V
  | .bool b => some (.bool b)
  | .int k n => some (.int k n)
  | .float k n => some (.flt k n)
  | .string s => some (.str s)
  | _ => none
/-- A constant's cell. -/
def ofC1 : Value → Option V
  | .bool b => some (.bool b)
  | .int k n => some (.int k n)
  | .float k n => some (.flt k n)
  | .string s => some (.str s)
  | .pointer none => some (.ptr .nil)
  | .map none => some (.map none)
  | .nilFunc => some .nilFunc
  | .nilIface => some .nilIface
  | .slice none n c => if n = 0 ∧ c = 0 then some (.sl 0 .nil) else none
  | .func f ⟨[]⟩ ⟨[]⟩ => some (.func f [] [])
  | _ => none
def ofCs : List Value → Option (List V)
  | [] => some []
  | v :: l => (ofC1 v).bind fun u => (ofCs l).map fun r => u :: r
def ofC : Value → Option V
  | .agg ⟨l⟩ => (ofCs l).map .agg
  | v => ofC1 v

/-! ### The heap -/
def rowV (H : VH) (i : Nat) : Option (List V) :=
  match H[i]? with
  | some (.row _ cs) => some cs
  | _ => none
def takeN (off n : Nat) (cs : List V) : Option (List V) := if off + n ≤ cs.length then some ((cs.drop off).take n) else none
def ldV : (τ : Ty1) → VH → VP → Option τ.T
  | _, _, .nil => none
  | .flat τ, _, .fz cs => cs.head?.bind (fdec τ)
  | .agg l, _, .fz cs => (takeN 0 l.length cs).bind (decs l)
  | .flat τ, H, .ob i off => ((rowV H i).bind fun cs => cs[off]?).bind (fdec τ)
  | .agg l, H, .ob i off => ((rowV H i).bind fun cs => takeN off l.length cs).bind (decs l)
def atO : VP → Nat → Option VP
  | .nil, _ => none
  | .ob i off, n => some (.ob i (off + n))
  | .fz cs, n => if n ≤ cs.length then some (.fz (cs.drop n)) else none
def putAllV : List V → Nat → List V → List V
  | cs, _, [] => cs
  | cs, k, v :: vs => putAllV (cs.set k v) (k + 1) vs
def stV (H : VH) (p : VP) (vs : List V) : Option VH :=
  match p with
  | .ob i off =>
    match H[i]? with
    | some (.row e cs) => if off + vs.length ≤ cs.length ∧ onesV vs = true then some (H.set i (.row e (putAllV cs off vs))) else none
    | _ => none
  | _ => none
def VS.len : VS → Nat
  | .nil => 0
  | .fz es _ => es.length
  | .hp _ _ n => n
def VS.isNil : VS → Bool
  | .nil => true
  | _ => false
def VP.isNil : VP → Bool
  | .nil => true
  | _ => false
/-- Cells by elements. -/
def chunk (sz : Nat) : Nat → List V → List (List V)
  | 0, _ => []
  | n + 1, cs => cs.take sz :: chunk sz n (cs.drop sz)
def isRowV (H : VH) (i : Nat) (e : TypeId) : Bool :=
  match H[i]? with
  | some (.row e' _) => Nat.beq e' e
  | _ => false
/-- A piece of an object, as elements that stay (if nothing in it is an object). -/
def hpEs (H : VH) (e : TypeId) (sz : Nat) (i off n : Nat) : Option (List (List V)) :=
  match H[i]? with
  | some (.row e' cs) => if e' = e ∧ off + n * sz ≤ cs.length ∧ ((cs.drop off).take (n * sz)).all closed1 = true then some (chunk sz n (((cs.drop off).take (n * sz)).map strip1)) else none
  | _ => none
def slEs (H : VH) (e : TypeId) (sz : Nat) : VS → Option (List (List V))
  | .nil => some []
  | .fz es _ => some es
  | .hp i off n => hpEs H e sz i off n
/-- .. as elements that are copied into an object: there may be objects in it. -/
def slOp (H : VH) (e : TypeId) (sz : Nat) (x : VS) : Option (List (List V)) :=
  match slEs H e sz x with
  | some es => some es
  | none => match x with
    | .hp i off n => match H[i]? with
      | some (.row e' cs) => if e' = e ∧ off + n * sz ≤ cs.length then some (chunk sz n ((cs.drop off).take (n * sz))) else none
      | _ => none
    | _ => none
/-- 'append': what there was stays. -/
def appW (H : VH) (e : TypeId) (sz : Nat) (s : VS) (news : List (List V)) : Option (VS × VH) :=
  if news.length = 0 then some (s, H) else
  match s with
  | .nil => some (.fz news (.tok H.length news.length), H ++ [.tok e news.length])
  | .fz es (.ex k) => if k < es.length + news.length then some (.fz (es ++ news) (.tok H.length (es.length + news.length)), H ++ [.tok e (es.length + news.length)]) else none
  | .fz es (.tok t g) =>
    match H[t]? with
    | some (.tok e' g') => if e' = e ∧ g' = g then some (.fz (es ++ news) (.tok t (g + news.length)), H.set t (.tok e (g + news.length))) else none
    | _ => none
  | .fz _ .no => none
  | .hp i off n =>
    match H[i]? with
    | some (.row e' cs) =>
      if e' = e ∧ off + n * sz = cs.length ∧ (cs.drop off).all closed1 = true then
        some (.fz (chunk sz n ((cs.drop off).map strip1) ++ news) (.tok H.length (n + news.length)), H.set i .dead ++ [.tok e (n + news.length)])
      else none
    | _ => none
/-- .. in new objects, that may be written. -/
def appH (H : VH) (e : TypeId) (sz : Nat) (s : VS) (news : List (List V)) : Option (VS × VH) :=
  if news.length = 0 then some (s, H) else
  match s with
  | .nil => some (.hp H.length 0 news.length, H ++ [.row e news.flatten])
  | .fz es (.ex k) => if k < es.length + news.length then some (.hp H.length 0 (es.length + news.length), H ++ [.row e (es.flatten ++ news.flatten)]) else none
  | .fz _ _ => none
  | .hp i off n =>
    match H[i]? with
    | some (.row e' cs) =>
      if e' = e ∧ off + n * sz = cs.length then some (.hp H.length 0 (n + news.length), H.set i .dead ++ [.row e (cs.drop off ++ news.flatten)])
      else if e' = e ∧ off + n * sz ≤ cs.length then some (.hp H.length 0 (n + news.length), H.set i .dead ++ [.row e ((cs.take (off + n * sz)).drop off ++ news.flatten)])
      else none
    | _ => none
def holdV {α : Type} (H : VH) (x : Option α) : Option α :=
  match H with
  | [] => x
  | _ :: _ => x
@[simp] theorem holdV_eq {α : Type} (H : VH) (x : Option α) : holdV H x = x := by cases H <;> rfl
def appD (keep : Bool) (H : VH) (sz by_ : Nat) (e : TypeId) (s x : VS) : Option (VS × VH) :=
  holdV H <| if (((s.len + x.len) * by_ : Nat) : Int) ≤ bound ∧ ((s.len + x.len : Nat) : Int) ≤ bound then
    cond keep ((slEs H e sz x).bind fun news => appW H e sz s news) ((slOp H e sz x).bind fun news => appH H e sz s news) else none
def bytesE (s : ByteArray) : List (List V) := s.data.toList.map fun b => [.int .u8 b.toNat]
def appS (keep : Bool) (H : VH) (e : TypeId) (s : VS) (x : ByteArray) : Option (VS × VH) :=
  holdV H <| if ((s.len + x.size : Nat) : Int) ≤ bound then cond keep (appW H e 1 s (bytesE x)) (appH H e 1 s (bytesE x)) else none
def capCut (c : VC) (l hh n : Nat) : VC :=
  match c with
  | .no => .no
  | .ex k => .ex (k - l)
  | .tok t g => if hh = n then .tok t g else .no
def cutV (H : VH) (e : TypeId) (sz : Nat) (s : VS) (lo hi mx : Option Int) : Option VS :=
  match s with
  | .nil => (bd 0 mx 0).bind fun m => (bd 0 hi m).bind fun hh => (bd 0 lo hh).bind fun _ => some .nil
  | .fz es c =>
    match mx with
    | none => (bd es.length hi es.length).bind fun hh => (bd 0 lo hh).bind fun l => some (.fz ((es.take hh).drop l) (capCut c l hh es.length))
    | some m => (inB m es.length).bind fun m => (bd es.length hi m).bind fun hh => (bd 0 lo hh).bind fun l => some (.fz ((es.take hh).drop l) (.ex (m - l)))
  | .hp i off n =>
    match mx, H[i]? with
    | none, some (.row e' _) => if e' = e then (bd n hi n).bind fun hh => (bd 0 lo hh).bind fun l => some (.hp i (off + l * sz) (hh - l)) else none
    | _, _ => none
def cutD (H : VH) (e : TypeId) (sz : Nat) (s : VS) (lo hi mx : Option Int) : Option VS := holdV H (cutV H e sz s lo hi mx)
def ixV (sz : Nat) (s : VS) (x : Int) : Option VP :=
  match s with
  | .nil => none
  | .fz es _ => if 0 ≤ x then (es[x.toNat]?).map .fz else none
  | .hp i off n => if 0 ≤ x ∧ x < n then some (.ob i (off + x.toNat * sz)) else none
def bytesOfE : List (List V) → Option (List UInt8)
  | [] => some []
  | [.int .u8 n] :: r => (bytesOfE r).map fun l => UInt8.ofNat n.toNat :: l
  | _ :: _ => none
/-- The cells of a piece of an object (as bytes). -/
def hpCells (H : VH) (i off n : Nat) : Option (List V) := (rowV H i).bind fun cs => takeN off n cs
def strV (H : VH) (e : TypeId) (s : VS) : Option ByteArray :=
  match s with
  | .hp i off n => if n = 0 then some ⟨#[]⟩ else (hpCells H i off n).bind fun cs => (bytesOfE (cs.map fun v => [v])).map fun l => ⟨l.toArray⟩
  | s => (slEs H e 1 s).bind fun es => (bytesOfE es).map fun l => ⟨l.toArray⟩

/-! ### Operations -/
def ev (t : List V) : Operand → Option V
  | .tmp i => some (t.getD i .undef)
  | .const v => ofC v
  | .func f => some (.func (.func f) [] [])
  | .global _ => none
def evs (t : List V) : List Operand → Option (List V)
  | [] => some []
  | x :: r => (ev t x).bind fun v => (evs t r).map fun vs => v :: vs
def put (t : List V) : Option Tmp → V → List V
  | some d, v => t.set d v
  | none, _ => t
/-- nil at its type. -/
def reT (P : Program) (T : TypeId) (v : V) : V :=
  match v with
  | .sl _ .nil => match P.underlying T with | some (.slice e) => .sl e .nil | _ => v
  | v => v
def evT (P : Program) (T : TypeId) (t : List V) : Operand → Option V
  | .const v => (ofC v).map (reT P T)
  | x => ev t x
/-- Arguments, nil at its type. -/
def evTs (P : Program) (t : List V) : List TypeId → List Operand → Option (List V)
  | T :: Ts, x :: xs => (evT P T t x).bind fun v => (evTs P t Ts xs).map fun vs => v :: vs
  | _, xs => evs t xs
/-- The temporaries, written down anew (so that the kernel keeps them as a list). -/
def setK {β : Type} : List V → Nat → V → (List V → β) → β
  | [], _, _, K => K []
  | _ :: l, 0, v, K => K (v :: l)
  | x :: l, n + 1, v, K => setK l n v fun l' => K (x :: l')
def putK {β : Type} (t : List V) (d : Option Tmp) (v : V) (K : List V → β) : β :=
  match d with
  | some d => setK t d v K
  | none => K t
theorem setK_eq {β : Type} : ∀ (t : List V) (n : Nat) (v : V) (K : List V → β), setK t n v K = K (t.set n v)
  | [], _, _, _ => rfl
  | _ :: _, 0, _, _ => rfl
  | x :: l, n + 1, v, K => by simp only [setK, setK_eq l, List.set_cons_succ]
theorem putK_eq {β : Type} (t : List V) (d : Option Tmp) (v : V) (K : List V → β) : putK t d v K = K (put t d v) := by
  cases d with
  | none => rfl
  | some d => exact setK_eq t d v K
def nilEq (op : BinOp) (n : Bool) (K : V → VRes) : VRes :=
  match op with
  | .eql => K (.bool n)
  | .neq => K (.bool !n)
  | _ => none
def ptrEqV (z : Nat) (a b : VP) : Option Bool :=
  match b with
  | .nil => some a.isNil
  | .ob i o => match a with
    | .nil => some false
    | .ob j o' => if i = j ∧ o = o' ∧ z ≠ 0 then some true else none
    | .fz _ => none
  | .fz _ => match a with
    | .nil => some false
    | _ => none
def vCmp (P : Program) (op : BinOp) (T rt : TypeId) (x y : V) (K : V → VRes) : VRes :=
  match x, y with
  | .nan, .nan =>
    match Sh.ftOf P rt with
    | .bool => nilEq op false K
    | _ => none
  | .ptr a, .ptr b =>
    match P.underlying T with
    | some (.pointer e) => (ptrEqV (P.cellsOf e) a b).bind fun r => nilEq op r K
    | _ => none
  | .sl _ a, .sl _ .nil =>
    match P.underlying T with
    | some (.slice _) => nilEq op a.isNil K
    | _ => none
  | .map a, .map none =>
    match P.underlying T with
    | some (.map _ _) => nilEq op a.isNone K
    | _ => none
  | _, _ => none
def vBin (P : Program) (op : BinOp) (T rt : TypeId) (x y : V) (K : V → VRes) : VRes :=
  match toP x, toP y with
  | some a, some b => eBin P op T rt a b fun r => match ofP r with | some u => K u | none => none
  | _, _ => vCmp P op T rt x y K
def vUn (P : Program) (op : UnOp) (rt : TypeId) (x : V) (K : V → VRes) : VRes :=
  match toP x with
  | some a => eUn P op rt a fun r => match ofP r with | some u => K u | none => none
  | none => none
def vConv (P : Program) (src dst : TypeId) (x : V) (K : V → VRes) : VRes :=
  match toP x with
  | some a => eConv P src dst a fun r => match ofP r with | some u => K u | none => none
  | none => none
def nn : VP → Option VP
  | .nil => none
  | p => some p
def asInt? : Option V → Option (Option Int)
  | none => some none
  | some (.int _ n) => some (some n)
  | _ => none
def evo (t : List V) : Option Operand → Option (Option V)
  | none => some none
  | some x => (ev t x).map some
def vQuiet (P : Program) (o : Oper) (t : List V) (H : VH) (K : V → VRes) : VRes :=
  match o.op with
  | .move x | .assign x => (evT P o.type t x).bind K
  | .pick c a b =>
    match ev t c, ev t a, ev t b with
    | some (.bool c), some (.bool x), some (.bool y) => K (.bool (cond c x y))
    | some (.bool c), some x, some y => cond c (K x) (K y)
    | _, _, _ => none
  | .nilCheck x =>
    match ev t x with
    | some (.ptr p) => (nn p).bind fun a => K (.ptr a)
    | some (.func (.func f) a b) => K (.func (.func f) a b)
    | _ => none
  | .binOp op T x y _ =>
    match ev t x, ev t y with
    | some x, some y => vBin P op T o.type x y K
    | _, _ => none
  | .unOp op _ x => (ev t x).bind fun x => vUn P op o.type x K
  | .convert src dst x => (ev t x).bind fun x => vConv P src dst x K
  | .makeFunc fn first captured =>
    match evs t first.toList, evs t captured.toList with
    | some f, some c => K (.func fn f c)
    | _, _ => none
  | .fieldAddr s x f =>
    match P.underlying s, ev t x with
    | some (.struct fs), some (.ptr a) =>
      match fs[f]? with
      | some fd => if P.cellsOf fd.type = 0 then none else (atO a fd.offset).bind fun a => K (.ptr a)
      | none => none
    | _, _ => none
  | .field s x f =>
    match P.underlying s, ev t x with
    | some (.struct fs), some (.agg vs) =>
      match fs[f]? with
      | some fd =>
        match P.underlying fd.type with
        | some (.struct _) | some (.array _ _) => K (.agg ((vs.drop fd.offset).take (P.cellsOf fd.type)))
        | some _ => (vs[fd.offset]?).bind K
        | none => none
      | none => none
    | _, _ => none
  | .indexAddr T x i =>
    match elemOf? P T, ev t x, ev t i with
    | some e, some (.sl e0 s), some (.int _ i) => if P.cellsOf e = 0 then none else (atE e e0 s).bind fun s => (ixV (P.cellsOf e) s i).bind fun a => K (.ptr a)
    | some e, some (.asl k off n), some (.int _ i) => if P.cellsOf e = 0 then none else if 0 ≤ i ∧ i < n then K (.ptr (.ob k (off + i.toNat * P.cellsOf e))) else none
    | none, some (.ptr p), some (.int _ i) =>
      match P.underlying T with
      | some (.array n e) => if P.cellsOf e = 0 then none else if 0 ≤ i ∧ i < n then (atO p (i.toNat * P.cellsOf e)).bind fun a => K (.ptr a) else none
      | _ => none
    | _, _, _ => none
  | .index T x i =>
    match P.underlying T, ev t x, ev t i with
    | some .string, some (.str s), some (.int _ i) => (ixS s i).bind fun b => K (.int .u8 b)
    | _, _, _ => none
  | .slice T x lo hi mx =>
    match P.underlying T, ev t x, (evo t lo).bind asInt?, (evo t hi).bind asInt?, (evo t mx).bind asInt? with
    | some .string, some (.str s), some lo, some hi, some none => (cutS s lo hi).bind fun r => K (.str r)
    | some (.slice e), some (.sl e0 s), some lo, some hi, some mx =>
      if P.cellsOf e = 0 then none else if mx.isSome && hi.isNone then none else
      (atE e e0 s).bind fun s => (cutD H e (P.cellsOf e) s lo hi mx).bind fun r => K (.sl e r)
    | some (.slice e), some (.asl k off n), some lo, some hi, some none =>
      if P.cellsOf e = 0 then none else (bd n hi n).bind fun hh => (bd 0 lo hh).bind fun l => K (.asl k (off + l * P.cellsOf e) (hh - l))
    | some (.array n e), some (.ptr (.ob k off)), some lo, some hi, some none =>
      if P.cellsOf e = 0 then none else (bd n hi n).bind fun hh => (bd 0 lo hh).bind fun l => K (.asl k (off + l * P.cellsOf e) (hh - l))
    | _, _, _, _, _ => none
  | .extract x i =>
    match ev t x with
    | some (.tup vs) => _root_.cond (isSkip vs) none ((vs[i]?).bind K)
    | _ => none
  | .call { callee := .builtin .len, args := ⟨[x]⟩, argTypes := ⟨[T]⟩ } =>
    match P.underlying T, ev t x with
    | some (.slice _), some (.sl _ s) => K (.int .i64 s.len)
    | some (.slice _), some (.asl _ _ n) => K (.int .i64 n)
    | some .string, some (.str s) => K (.int .i64 s.size)
    | _, _ => none
  | .call { callee := .builtin .max, args := ⟨[x, y]⟩, argTypes := _ } =>
    match ev t x, ev t y with
    | some (.int k a), some (.int _ b) => K (.int k (if b > a then b else a))
    | _, _ => none
  | .call { callee := .builtin .min, args := ⟨[x, y]⟩, argTypes := _ } =>
    match ev t x, ev t y with
    | some (.int k a), some (.int _ b) => K (.int k (if b < a then b else a))
    | _, _ => none
  | _ => none
def evParts (t : List V) : List (Nat × Operand) → Option (List (Nat × V))
  | [] => some []
  | (i, x) :: r => (ev t x).bind fun v => (evParts t r).map fun vs => (i, v) :: vs
def typedZ : List FT → List V → List V
  | .slice e :: l, .sl _ .nil :: m => .sl e .nil :: typedZ l m
  | _ :: l, v :: m => v :: typedZ l m
  | _, m => m
def zeroV (P : Program) (t : TypeId) : Option (List V) := ((zeroOf P t).bind ofCs).map (typedZ (cellFTs P 20 t))
def fillV (place : Nat → Option (Nat × Nat)) : List V → List (Nat × V) → Option (List V)
  | cells, [] => some cells
  | cells, (i, v) :: rest =>
    match place i with
    | none => none
    | some (off, size) => if v.cells.length ≠ size || off + v.cells.length > cells.length then none else fillV place (putAllV cells off v.cells) rest
def repV (n : Nat) (z : List V) : List V :=
  match n with
  | 0 => []
  | n + 1 => repV n z ++ z
def isTupV : V → Bool
  | .tup _ | .undef | .skip => true
  | _ => false
structure Env where
  call : FuncId → List V → VH → VRes
  ext : FuncId → Option (Array Value → Sem Value)
  same : FuncId → Bool
  keep : Bool
  frm : Bool
  frz : FuncId → Bool
  lone : FuncId → Bool
  glob : Nat → Option (List V)
def toPs : List V → Option (List Value)
  | [] => some []
  | v :: l => (toP v).bind fun u => (toPs l).map fun r => u :: r
def mkD (P : Program) (keep : Bool) (H : VH) (e : TypeId) (l c : Int) : Option (VS × VH) :=
  holdV H <| if 0 ≤ l ∧ l ≤ c ∧ c * P.bytesOf e ≤ bound ∧ c ≤ IntKind.i64.max then
    (zeroV P e).bind fun z => if z.length = P.cellsOf e then
      (cond keep (some (.fz (List.replicate l.toNat z) .no, H)) (some (.hp H.length 0 l.toNat, H ++ [.row e (repV l.toNat z)]))) else none
  else none
/-- What was an object's piece stays from now on. -/
def freeze (P : Program) (b : Bool) (v : V) (H : VH) : Option (V × VH) :=
  cond b
    (match v with
    | .sl e (.hp i off n) => (hpEs H e (P.cellsOf e) i off n).map fun es => (.sl e (.fz es .no), H.set i .dead)
    | v => some (v, H))
    (some (v, H))
def callD (call : FuncId → List V → VH → VRes) (P : Program) (b : Bool) (τ : Ty) (f : FuncId) (args : List V) (H : VH) : Option (τ.T × VH) :=
  (call f args H).bind fun r => (freeze P b r.1 r.2).bind fun r => (dec τ r.1).map fun x => (x, r.2)
/-! ### Maps -/
def keyV : KK → V → Bool
  | .int q, .int q' _ => decide (q' = q)
  | .str, .str _ => true
  | _, _ => false
def keyVok : KK → V → Bool
  | .int q, .int q' n => decide (q' = q) && (Lit.int q n).wf
  | .str, .str s => decide (s.size ≤ 9223372036854775807)
  | _, _ => false
def vkeq : V → V → Bool
  | .int _ a, .int _ b => a == b
  | .str a, .str b => a == b
  | _, _ => false
def findV (k : V) : List (V × V) → Option (Nat × V)
  | [] => none
  | (k', v) :: r => cond (vkeq k k') (some (0, v)) ((findV k r).map fun p => (p.1 + 1, p.2))
def putMV (k v : V) (es : List (V × V)) : List (V × V) :=
  match findV k es with
  | some (j, _) => es.set j (k, v)
  | none => es ++ [(k, v)]
def cutMV (k : V) (es : List (V × V)) : List (V × V) :=
  match findV k es with
  | some (j, _) => es.eraseIdx j
  | none => es
def entriesV (H : VH) (q : KK) : Option Nat → Option (List (V × V))
  | none => some []
  | some i => match H[i]? with
    | some (.map q' es) => cond (KK.is q' q) (some es) none
    | _ => none
def zeroT (P : Program) (t : TypeId) (τ : Ty1) : Option τ.T := ((zeroVal P t).bind ofC).bind (dec1 τ)
def lookD (P : Program) (et : TypeId) (τ : Ty1) (H : VH) (q : KK) (m : Option Nat) (k : V) : Option (τ.T × Bool) :=
  (entriesV H q m).bind fun es => if keyV q k = true then
    (match findV k es with
    | some (_, v) => (dec1 τ v).map fun x => (x, true)
    | none => (zeroT P et τ).map fun x => (x, false)) else none
def putD (H : VH) (q : KK) (m : Option Nat) (k v : V) : Option VH :=
  match m with
  | none => none
  | some i => (entriesV H q (some i)).bind fun es => if keyVok q k = true ∧ es.length < 9223372036854775807 then some (H.set i (.map q (putMV k v es))) else none
def cutMD (H : VH) (q : KK) (m : Option Nat) (k : V) : Option VH :=
  (entriesV H q m).bind fun es => if keyV q k = true then
    (match m with
    | none => some H
    | some i => some (H.set i (.map q (cutMV k es)))) else none
def lenD (H : VH) (q : KK) (m : Option Nat) : Option Int := (entriesV H q m).map fun es => (es.length : Int)
/-- A slice's cells are cleared. -/
def clrD (P : Program) (H : VH) (T : TypeId) (s : V) : Option VH :=
  match elemOf? P T, s with
  | some e, .sl e1 a => (atE e e1 a).bind fun a =>
    match a with
    | .nil => some H
    | .fz [] _ => some H
    | .hp _ _ 0 => some H
    | .hp i off (n + 1) => (zeroV P e).bind fun z => if z.length ≠ 0 then stV H (.ob i off) (repV (n + 1) z) else none
    | _ => none
  | _, _ => none
def mapOf (P : Program) (T : TypeId) : Option (KK × TypeId) :=
  match P.underlying T with
  | some (.map kt et) => (kkOf P kt).map fun q => (q, et)
  | _ => none
def vMaps (P : Program) (o : Oper) (t : List V) (H : VH) (K : V → VRes) : VRes :=
  match o.op with
  | .lookup T m k ok =>
    match mapOf P T, ev t m, ev t k with
    | some (q, et), some (.map m), some k => (lookD P et (ty1Of P et) H q m k).bind fun x => K (_root_.cond ok (.tup [enc1 (ty1Of P et) x.1, .bool x.2]) (enc1 (ty1Of P et) x.1))
    | _, _, _ => none
  | .call { callee := .builtin .len, args := ⟨[x]⟩, argTypes := ⟨[T]⟩ } =>
    match ev t x with
    | some (.map m) =>
      match mapOf P T with
      | some (q, _) => (lenD H q m).bind fun n => K (.int .i64 n)
      | none => none
    | _ => vQuiet P o t H K
  | _ => vQuiet P o t H K
/-- Is an operation's answer no number (which one isn't known)? -/
def nanOf (op : BinOp) (x y : Option V) : Bool :=
  match op with
  | .add => nanXY (fun a b => (FloatKind.f64.format.add a b).isNone) x y
  | .sub => nanXY (fun a b => (FloatKind.f64.format.sub a b).isNone) x y
  | .mul => nanXY (fun a b => (FloatKind.f64.format.mul a b).isNone) x y
  | .quo => nanXY (fun a b => (FloatKind.f64.format.div a b).isNone) x y
  | _ => false
where nanXY (f : Nat → Nat → Bool) : Option V → Option V → Bool
  | some (.flt .f64 a), some (.flt .f64 b) => f a b
  | some .nan, some (.flt .f64 _) => true
  | some (.flt .f64 _), some .nan => true
  | some .nan, some .nan => true
  | _, _ => false
/-- A call of a function that was read. -/
def dynD (P : Program) (E : Env) (T : TypeId) (v : Option V) (vs : List V) (H : VH) : Option ((tyOf P T).T × VH) :=
  match v with
  | some (.func (.func g) first cap) =>
    match E.ext g, E.same g with
    | none, false => callD E.call P (E.frz g) (tyOf P T) g (first ++ vs ++ cap) H
    | _, _ => none
  | _ => none
def vOp (P : Program) (E : Env) (o : Oper) (t : List V) (H : VH) (K : V → VH → VRes) : VRes :=
  match o.op with
  | .alloc T => (zeroV P T).bind fun z => K (.ptr (.ob H.length 0)) (H ++ [.row (T + boxK) z])
  | .box T x => (ev t x).bind fun v => if onesV v.cells = true then K (.ptr (.ob H.length 0)) (H ++ [.row (T + boxK) v.cells]) else none
  | .build T parts =>
    match P.underlying T, zeroV P T, evParts t parts.toList with
    | some (.struct fs), some z, some ps => if ps.all (fun x => !isTupV x.2) = true then (placesOf P fs.toList).bind fun pl => (fillV (fun i => pl[i]?) z ps).bind fun cs => K (.agg cs) H else none
    | _, _, _ => none
  | .buildSlice T n parts =>
    match elemOf? P T, evParts t parts.toList with
    | some e, some ps =>
      if n * P.cellsOf e > 2 ^ 24 ∨ ps.any (fun x => isTupV x.2) = true then none else
      (zeroV P e).bind fun z => if z.length = P.cellsOf e then
        (fillV (fun i => some (i * P.cellsOf e, P.cellsOf e)) (repV n z) ps).bind fun cs => if onesV cs = true then
          cond E.keep (if cs.all closed1 = true then K (.sl e (.fz (chunk (P.cellsOf e) n (cs.map strip1)) (.ex n))) H else none)
            (K (.sl e (.hp H.length 0 n)) (H ++ [.row e cs])) else none else none
    | _, _ => none
  | .load T a =>
    match ev t a with
    | some (.ptr a) =>
      if (P.underlying T).isNone = true then none else
      match ty1Of P T with
      | .flat τ => (ldV (.flat τ) H a).bind fun x => K (fenc τ x) H
      | .agg l => if l.length = P.cellsOf T then (ldV (.agg l) H a).bind fun x => K (.agg (encs l x)) H else none
    | _ => none
  | .store T a x =>
    match ev t a, evT P T t x with
    | some (.ptr a), some v => if v.cells.length = P.cellsOf T ∧ P.cellsOf T ≠ 0 then (stV H a v.cells).bind fun H' => K .undef H' else none
    | _, _ => none
  | .makeSlice T l c =>
    match elemOf? P T, ev t l, ev t c with
    | some e, some (.int _ l), some (.int _ c) => (mkD P E.frm H e l c).bind fun r => K (.sl e r.1) r.2
    | _, _, _ => none
  | .convert src dst x =>
    match P.underlying src, P.underlying dst, ev t x with
    | some .string, some (.slice e), some (.str s) =>
      (match P.underlying e with
      | some (.int .u8) => if e < boxK ∧ P.cellsOf e = 1 then cond E.frm (K (.sl e (.fz (bytesE s) .no)) H) (K (.sl e (.hp H.length 0 s.size)) (H ++ [.row e (bytesE s).flatten])) else none
      | _ => none)
    | some (.slice e), some .string, some (.sl e0 s) =>
      (match P.underlying e with
      | some (.int .u8) => if P.cellsOf e = 1 then (atE e e0 s).bind fun s => (strV H e s).bind fun s => K (.str s) H else none
      | _ => none)
    | some (.slice e), some .string, some (.asl k off n) =>
      (match P.underlying e with
      | some (.int .u8) => if P.cellsOf e = 1 then (strV H e (.hp k off n)).bind fun s => K (.str s) H else none
      | _ => none)
    | some (.slice _), some (.slice e), some (.sl e1 (.hp i off n)) =>
      (match P.underlying e with
      | some (.int .u8) => if src = dst ∧ isRowV H i e = true ∧ e < boxK then K (.sl e1 (.hp i off n)) H else none
      | _ => none)
    | _, _, _ => vQuiet P o t H fun v => K v H
  | .call { callee := .builtin .append, args := ⟨[s, x]⟩, argTypes := ⟨[T, U]⟩ } =>
    match elemOf? P T, ev t s, ev t x with
    | some e, some (.sl e1 a), some (.sl e2 b) =>
      if T = U ∧ P.cellsOf e ≠ 0 ∧ (zeroOf P e).any (fun z => z.length == P.cellsOf e) = true then
        (atE e e1 a).bind fun a => (atE e e2 b).bind fun b => (appD E.keep H (P.cellsOf e) (P.bytesOf e) e a b).bind fun r => K (.sl e r.1) r.2 else none
    | some e, some (.sl e1 a), some (.str s) =>
      if P.cellsOf e = 1 ∧ P.bytesOf e = 1 ∧ isStr P U = true ∧ (zeroOf P e).any (fun z => z.length == P.cellsOf e) = true then (atE e e1 a).bind fun a => (appS E.keep H e a s).bind fun r => K (.sl e r.1) r.2 else none
    | _, _, _ => none
  | .binOp op _ x y _ => _root_.cond (nanOf op (ev t x) (ev t y)) (K .nan H) (vMaps P o t H fun v => K v H)
  | .indexAddr T (.global g) i =>
    match E.glob g, P.underlying T, ev t i with
    | some cs, some (.array n e), some (.int _ i) => if P.cellsOf e = 1 ∧ cs.length = n ∧ 0 ≤ i ∧ i < n then K (.ptr (.fz (cs.drop i.toNat))) H else none
    | _, _, _ => none
  | .makeMap T none =>
    match mapOf P T with
    | some (q, _) => K (.map (some H.length)) (H ++ [.map q []])
    | none => none
  | .mapUpdate T m k x =>
    match mapOf P T with
    | some (q, et) =>
      match ev t m, ev t k, evT P et t x with
      | some (.map m), some k, some x => (putD H q m k x).bind fun H' => K .undef H'
      | _, _, _ => none
    | none => none
  | .call { callee := .builtin .delete, args := ⟨[m, k]⟩, argTypes := ⟨[T, _]⟩ } =>
    match mapOf P T, ev t m, ev t k with
    | some (q, _), some (.map m), some k => (cutMD H q m k).bind fun H' => K .undef H'
    | _, _, _ => none
  | .call { callee := .builtin .clear, args := ⟨[x]⟩, argTypes := ⟨[T]⟩ } => (ev t x).bind fun v => (clrD P H T v).bind fun H' => K .undef H'
  | .call { callee := .value (.tmp i), args, argTypes := Ts } =>
    match evTs P t Ts.toList args.toList with
    | some vs => (dynD P E o.type (ev t (.tmp i)) vs H).bind fun x => K (enc (tyOf P o.type) x.1) x.2
    | none => none
  | .call { callee := .value f, args, argTypes := Ts } =>
    match ev t f, evTs P t Ts.toList args.toList with
    | some (.func (.func g) first cap), some vs =>
      match E.ext g with
      | some e => (toPs (first ++ vs ++ cap)).bind fun l => (pvD P (Sh.ftOf P o.type) (e ⟨l⟩)).bind fun x => (match ofP (Sh.fenc _ x) with | some u => K u H | none => none)
      | none =>
        match E.same g with
        | true => (match first ++ vs ++ cap with | [v] => K v H | _ => none)
        | false => (callD E.call P (E.frz g) (tyOf P o.type) g (first ++ vs ++ cap) H).bind fun x => K (enc (tyOf P o.type) x.1) x.2
    | _, _ => none
  | _ => vMaps P o t H fun v => K v H
def vOps (P : Program) (E : Env) (ops : Array Oper) : List Oper → (List V → VH → VRes) → List V → VH → VRes
  | [], K, t, h => K t h
  | o :: rest, K, t, h =>
    match o.guard with
    | none => vOp P E o t h fun v h' => putK t o.dst v fun t => vOps P E ops rest K t h'
    | some (j, want) =>
      match (ops[j]?).bind (·.dst) with
      | some s =>
        match t.getD s .undef with
        | .bool b =>
          _root_.cond b
            (_root_.cond want (setK t s (.bool true) fun t => vOp P E o t h fun v h' => putK t o.dst v fun t => vOps P E ops rest K t h') (setK t s (.bool true) fun t => putK t o.dst .skip fun t => vOps P E ops rest K t h))
            (_root_.cond want (setK t s (.bool false) fun t => putK t o.dst .skip fun t => vOps P E ops rest K t h) (setK t s (.bool false) fun t => vOp P E o t h fun v h' => putK t o.dst v fun t => vOps P E ops rest K t h'))
        | .skip => putK t o.dst .skip fun t => vOps P E ops rest K t h
        | _ => none
      | none => none
def eqL (f : V → V → Bool) : List V → List V → Bool
  | [], [] => true
  | a :: l, b :: m => f a b && eqL f l m
  | _, _ => false
def eqLL (f : V → V → Bool) : List (List V) → List (List V) → Bool
  | [], [] => true
  | a :: l, b :: m => eqL f a b && eqLL f l m
  | _, _ => false
def eqC : VC → VC → Bool
  | .no, .no => true
  | .ex a, .ex b => Nat.beq a b
  | .tok a b, .tok c d => Nat.beq a c && Nat.beq b d
  | _, _ => false
/-- Are two values surely alike? -/
def eqV : Nat → V → V → Bool
  | 0, _, _ => false
  | n + 1, a, b =>
    match a, b with
    | .bool a, .bool b => a == b
    | .int j a, .int k b => decide (j = k) && decide (a = b)
    | .flt j a, .flt k b => decide (j = k) && Nat.beq a b
    | .str a, .str b => decide (a = b)
    | .ptr .nil, .ptr .nil => true
    | .ptr (.ob i o), .ptr (.ob j q) => Nat.beq i j && Nat.beq o q
    | .ptr (.fz l), .ptr (.fz m) => eqL (eqV n) l m
    | .sl e .nil, .sl e' .nil => Nat.beq e e'
    | .sl e (.fz l c), .sl e' (.fz m d) => Nat.beq e e' && (eqC c d && eqLL (eqV n) l m)
    | .sl e (.hp i o k), .sl e' (.hp j q m) => (Nat.beq e e' && Nat.beq i j) && (Nat.beq o q && Nat.beq k m)
    | .map none, .map none => true
    | .map (some a), .map (some b) => Nat.beq a b
    | .nilFunc, .nilFunc => true
    | .nilIface, .nilIface => true
    | _, _ => false
noncomputable def same (v u : V) : Bool := eqV 6 v u || @decide (v = u) (Classical.propDecidable _)
abbrev Held := List (VP × FT × V)
noncomputable def stays (H : VH) : Held → Bool
  | [] => true
  | (p, τ, v) :: r => (match ldV (.flat τ) H p with | some x => same v (fenc τ x) | none => false) && stays H r
def heldFrom (i : Nat) : Nat → List FT → List V → Held
  | off, τ :: l, v :: vs => (.ob i off, τ, v) :: heldFrom i (off + 1) l vs
  | _, _, _ => []
/-- What is to stay behind a read. -/
def heldOf : VP → List FT → List V → Held
  | .ob i off, l, vs => heldFrom i off l vs
  | _, _, _ => []
/-- .. behind a text that was read. -/
def heldStr (H : VH) : VS → Held
  | .hp i off n => match hpCells H i off n with
    | some cs => heldFrom i off (List.replicate n (.int .u8)) cs
    | none => []
  | _ => []
noncomputable def vFree (P : Program) (E : Env) (o : Oper) (t : List V) (H : VH) (K : V → Held → VRes) : VRes :=
  match o.op with
  | .load T a =>
    match ev t a with
    | some (.ptr p) =>
      if (P.underlying T).isNone = true then none else
      match ty1Of P T with
      | .flat τ => (ldV (.flat τ) H p).bind fun x => K (fenc τ x) (heldOf p [τ] [fenc τ x])
      | .agg l => if l.length = P.cellsOf T ∧ l.isEmpty = false then (ldV (.agg l) H p).bind fun x => K (.agg (encs l x)) (heldOf p l (encs l x)) else none
    | _ => none
  | .convert src dst x =>
    match P.underlying src, P.underlying dst, ev t x with
    | some (.slice e), some .string, some (.sl e0 s) =>
      (match P.underlying e with
      | some (.int .u8) => if P.cellsOf e = 1 then (atE e e0 s).bind fun s => (strV H e s).bind fun r => K (.str r) (heldStr H s) else none
      | _ => none)
    | _, _, _ => vQuiet P o t [] fun v => K v []
  | .build T parts =>
    match P.underlying T, zeroV P T, evParts t parts.toList with
    | some (.struct fs), some z, some ps => if ps.all (fun x => !isTupV x.2) = true then (placesOf P fs.toList).bind fun pl => (fillV (fun i => pl[i]?) z ps).bind fun cs => K (.agg cs) [] else none
    | _, _, _ => none
  | .buildSlice T n parts =>
    _root_.cond E.keep (match elemOf? P T, evParts t parts.toList with
    | some e, some ps =>
      if n * P.cellsOf e > 2 ^ 24 ∨ ps.any (fun x => isTupV x.2) = true then none else
      (zeroV P e).bind fun z => if z.length = P.cellsOf e then
        (fillV (fun i => some (i * P.cellsOf e, P.cellsOf e)) (repV n z) ps).bind fun cs => if onesV cs = true then
          (if cs.all closed1 = true then K (.sl e (.fz (chunk (P.cellsOf e) n (cs.map strip1)) (.ex n))) [] else none) else none else none
    | _, _ => none) none
  | .call { callee := .value f, args, argTypes := Ts } =>
    match ev t f, evTs P t Ts.toList args.toList with
    | some (.func (.func g) first cap), some vs =>
      match E.ext g, E.same g with
      | none, false => _root_.cond (E.lone g && (first ++ vs ++ cap).all closedC && !E.frz g) ((callD E.call P false (tyOf P o.type) g (first ++ vs ++ cap) []).bind fun x => K (enc (tyOf P o.type) x.1) []) none
      | _, _ => none
    | _, _ => none
  | _ => if isQuiet o.op then vQuiet P o t [] fun v => K v [] else none
def waitsL : List Edge → Nat → Bool
  | [], _ => false
  | e :: r, j => _root_.cond (Nat.beq e.on j) (_root_.cond (Region.binds .any e) true (waitsL r j)) (waitsL r j)
/-- What is to stay behind an operation: what was read by those that it doesn't wait for. -/
def heldA (as : List Edge) : List (Nat × Held) → Held
  | [] => []
  | (j, hs) :: r => _root_.cond (waitsL as j) (heldA as r) (hs ++ heldA as r)
/-- Is an operation the making of a variable? -/
def isAlloc (o : Oper) : Bool :=
  match o.op with
  | .alloc _ => true
  | _ => false
def allocAt (ops : Array Oper) (i : Nat) : Bool :=
  match ops[i]? with
  | some o => isAlloc o
  | none => false
/-- Are a region's variables made in any order? -/
def slotted (ops : Array Oper) : List (Nat × Bool) → Bool
  | [] => false
  | (i, b) :: r => (b && allocAt ops i) || slotted ops r
def rankA (ops : Array Oper) : Nat → Nat
  | 0 => 0
  | n + 1 => if allocAt ops n then rankA ops n + 1 else rankA ops n
def slots : Nat → List VO
  | 0 => []
  | n + 1 => .slot :: slots n
/-- Places for them are set apart ahead. -/
def addS (b : Bool) (n : Nat) (H : VH) : VH := _root_.cond b (H ++ slots n) H
def slotD (H : VH) (s : Nat) (e : TypeId) (z : List V) : Option VH :=
  match H[s]? with
  | some .slot => some (H.set s (.row e z))
  | _ => none
def heldAll : List (Nat × Held) → Held
  | [] => []
  | (_, hs) :: r => hs ++ heldAll r
noncomputable def vDraw (P : Program) (E : Env) (ops : Array Oper) (sb : Nat) : List (Nat × Bool) → List (Nat × Held) → (List V → VH → VRes) → List V → VH → VRes
  | [], _, K, t, H => K t H
  | (i, true) :: rest, held, K, t, H =>
    match ops[i]? with
    | none => none
    | some o =>
      match o.guard with
      | none =>
        match o.op with
        | .alloc T => cond (stays H (heldAll held)) ((zeroV P T).bind fun z => (slotD H (sb + rankA ops i) (T + boxK) z).bind fun H' => putK t o.dst (.ptr (.ob (sb + rankA ops i) 0)) fun t => vDraw P E ops sb rest held K t H') none
        | _ => vFree P E o t H fun v hs => putK t o.dst v fun t => vDraw P E ops sb rest ((i, hs) :: held) K t H
      | some (j, want) =>
        match (ops[j]?).bind (·.dst) with
        | some s =>
          match t.getD s .undef with
          | .bool b =>
            _root_.cond b
              (_root_.cond want (setK t s (.bool true) fun t => vFree P E o t H fun v hs => putK t o.dst v fun t => vDraw P E ops sb rest ((i, hs) :: held) K t H) (setK t s (.bool true) fun t => putK t o.dst .skip fun t => vDraw P E ops sb rest held K t H))
              (_root_.cond want (setK t s (.bool false) fun t => putK t o.dst .skip fun t => vDraw P E ops sb rest held K t H) (setK t s (.bool false) fun t => vFree P E o t H fun v hs => putK t o.dst v fun t => vDraw P E ops sb rest ((i, hs) :: held) K t H))
          | .skip => putK t o.dst .skip fun t => vDraw P E ops sb rest held K t H
          | _ => none
        | none => none
  | (i, false) :: rest, held, K, t, H =>
    match ops[i]? with
    | none => none
    | some o =>
      match o.guard with
      | none => vOp P E o t H fun v H' => cond (stays H' (heldA o.after.toList held)) (putK t o.dst v fun t => vDraw P E ops sb rest held K t H') none
      | some (j, want) =>
        match (ops[j]?).bind (·.dst) with
        | some s =>
          match t.getD s .undef with
          | .bool b =>
            _root_.cond b
              (_root_.cond want (setK t s (.bool true) fun t => vOp P E o t H fun v H' => cond (stays H' (heldA o.after.toList held)) (putK t o.dst v fun t => vDraw P E ops sb rest held K t H') none) (setK t s (.bool true) fun t => putK t o.dst .skip fun t => vDraw P E ops sb rest held K t H))
              (_root_.cond want (setK t s (.bool false) fun t => putK t o.dst .skip fun t => vDraw P E ops sb rest held K t H) (setK t s (.bool false) fun t => vOp P E o t H fun v H' => cond (stays H' (heldA o.after.toList held)) (putK t o.dst v fun t => vDraw P E ops sb rest held K t H') none))
          | .skip => putK t o.dst .skip fun t => vDraw P E ops sb rest held K t H
          | _ => none
        | none => none
def vRead (P : Program) (o : Oper) (t : List V) (h : VH) (K : V → VRes) : VRes :=
  match o.op with
  | .load T a =>
    match ev t a with
    | some (.ptr a) =>
      if (P.underlying T).isNone = true then none else
      match ty1Of P T with
      | .flat τ => (ldV (.flat τ) h a).bind fun x => K (fenc τ x)
      | .agg l => if l.length = P.cellsOf T then (ldV (.agg l) h a).bind fun x => K (.agg (encs l x)) else none
    | _ => none
  | _ => vMaps P o t h K
def vStill (P : Program) (ops : Array Oper) : List Oper → (List V → VH → VRes) → List V → VH → VRes
  | [], K, t, h => K t h
  | o :: rest, K, t, h =>
    match o.guard with
    | none => vRead P o t h fun v => putK t o.dst v fun t => vStill P ops rest K t h
    | some (j, want) =>
      match (ops[j]?).bind (·.dst) with
      | some s =>
        match t.getD s .undef with
        | .bool b =>
          _root_.cond b
            (_root_.cond want (setK t s (.bool true) fun t => vRead P o t h fun v => putK t o.dst v fun t => vStill P ops rest K t h) (setK t s (.bool true) fun t => putK t o.dst .skip fun t => vStill P ops rest K t h))
            (_root_.cond want (setK t s (.bool false) fun t => putK t o.dst .skip fun t => vStill P ops rest K t h) (setK t s (.bool false) fun t => vRead P o t h fun v => putK t o.dst v fun t => vStill P ops rest K t h))
        | .skip => putK t o.dst .skip fun t => vStill P ops rest K t h
        | _ => none
      | none => none

/-! ### Code -/
abbrev Kont := Ex → List V → VH → VRes
def clearK {β : Type} : Nat → List Nat → List V → (List V → β) → β
  | _, _, [], K => K []
  | _, [], l, K => K l
  | i, c :: cs, x :: l, K => cond (Nat.beq i c) (clearK (i + 1) cs l fun l' => K (.undef :: l')) (clearK (i + 1) (c :: cs) l fun l' => K (x :: l'))
def kSeq (N : List V → VH → VRes) (K : Kont) : Kont := fun e t h => match e with | .normal => N t h | e => K e t h
def kBlock (id : Nat) (K : Kont) : Kont := fun e t h => match e with | .exit j => (if j = id then K .normal t h else K (.exit j) t h) | e => K e t h
def loopN (body : Kont → List V → VH → VRes) (clr : List Nat) (K : Kont) : Nat → List V → VH → VRes
  | 0, _, _ => none
  | m + 1, t, h => body (kSeq (fun t h => clearK 0 clr t fun t => loopN body clr K m t h) K) t h
noncomputable def vC (P : Program) (E : Env) (M : Nat) : SC → Kont → List V → VH → VRes
  | .skip, K, t, h => K .normal t h
  | .ret, K, t, h => K .ret t h
  | .exit id, K, t, h => K (.exit id) t h
  | .region _ ops, K, t, h => vOps P E ops ops.toList (fun t h => K .normal t h) t h
  | .draw _ ops order, K, t, h => vDraw P E ops h.length order [] (fun t h => K .normal t h) t (addS (slotted ops order) (rankA ops ops.size) h)
  | .still _ ops, K, t, h => vStill P ops ops.toList (fun t h => K .normal t h) t h
  | .tail _ ops n, K, t, h => vStill P ops (ops.toList.take n) (fun t h => vOps P E ops (ops.toList.drop n) (fun t h => K .normal t h) t h) t h
  | .seq none a b, K, t, h => vC P E M a (kSeq (fun t h => vC P E M b K t h) K) t h
  | .seq (some clr) a b, K, t, h => vC P E M a (kSeq (fun t h => clearK 0 clr t fun t => vC P E M b K t h) K) t h
  | .cond c a b, K, t, h =>
    match c with
    | .tmp s =>
      match t.getD s .undef with
      | .bool v => _root_.cond v (setK t s (.bool true) fun t => vC P E M a K t h) (setK t s (.bool false) fun t => vC P E M b K t h)
      | _ => none
    | .const (.bool v) => _root_.cond v (vC P E M a K t h) (vC P E M b K t h)
    | _ => none
  | .block id a, K, t, h => vC P E M a (kBlock id K) t h
  | .loop clr a, K, t, h => clearK 0 clr t fun t => loopN (fun K t h => vC P E M a K t h) clr K M t h
  | .other _, _, _, _ => none
def rets (P : Program) (h : VH) (t : List V) : List ResultVar → Option (List V)
  | [] => some []
  | .tmp s :: r => (rets P h t r).map fun vs => t.getD s .undef :: vs
  | .cell s T :: r =>
    match t.getD s .undef with
    | .ptr a =>
      if (P.underlying T).isNone = true then none else
      match ty1Of P T with
      | .flat τ => (ldV (.flat τ) h a).bind fun x => (rets P h t r).map fun vs => fenc τ x :: vs
      | .agg l => if l.length = P.cellsOf T then (ldV (.agg l) h a).bind fun x => (rets P h t r).map fun vs => .agg (encs l x) :: vs else none
    | _ => none
/-- .. and what comes behind them. -/
def retsK (P : Program) (h : VH) (t : List V) : List ResultVar → (List V → VRes) → VRes
  | [], K => K []
  | .tmp s :: r, K => retsK P h t r fun vs => K (t.getD s .undef :: vs)
  | .cell s T :: r, K =>
    match t.getD s .undef with
    | .ptr a =>
      if (P.underlying T).isNone = true then none else
      match ty1Of P T with
      | .flat τ => (ldV (.flat τ) h a).bind fun x => retsK P h t r fun vs => K (fenc τ x :: vs)
      | .agg l => if l.length = P.cellsOf T then (ldV (.agg l) h a).bind fun x => retsK P h t r fun vs => K (.agg (encs l x) :: vs) else none
    | _ => none
theorem retsK_eq (P : Program) (h : VH) (t : List V) : ∀ (l : List ResultVar) (K : List V → VRes), retsK P h t l K = (rets P h t l).bind K
  | [], K => rfl
  | .tmp s :: r, K => by
    simp only [retsK, rets, retsK_eq P h t r]
    cases rets P h t r <;> rfl
  | .cell s T :: r, K => by
    unfold retsK rets
    split
    · split
      · rfl
      · split
        · cases ldV (.flat _) h _ with
          | none => rfl
          | some x => simp only [Option.bind_some, retsK_eq P h t r]; cases rets P h t r <;> rfl
        · split
          · cases ldV (.agg _) h _ with
            | none => rfl
            | some x => simp only [Option.bind_some, retsK_eq P h t r]; cases rets P h t r <;> rfl
          · rfl
    · rfl
def one_ : List V → V
  | [v] => v
  | vs => .tup vs
def kRet (P : Program) (fn : Func) : Kont := fun e t h =>
  match e with
  | .normal | .ret => retsK P h t fn.results.toList fun vs => some (one_ vs, h)
  | _ => none
structure VTab where
  code : FuncId → Option SC
  ext : FuncId → Option (Array Value → Sem Value)
  same : FuncId → Bool
  keep : FuncId → Bool
  lone : FuncId → Bool
  frz : FuncId → FuncId → Bool
  frm : FuncId → Bool
  prim : FuncId → Option (List V → VH → VRes)
  pur : FuncId → Bool := fun _ => false
  glob : Nat → Option (List V) := fun _ => none
/-! ### The check -/
def sameKK : KK → KK → Bool
  | .int a, .int b => decide (a = b)
  | .str, .str => true
  | _, _ => false
def sameEs : List (V × V) → List (V × V) → Bool
  | [], [] => true
  | (k, v) :: l, (k', v') :: l' => (eqV 6 k k' && eqV 6 v v') && sameEs l l'
  | _, _ => false
def sameO : VO → VO → Bool
  | .dead, .dead => true
  | .row e cs, .row e' cs' => Nat.beq e e' && eqL (eqV 6) cs cs'
  | .tok e g, .tok e' g' => Nat.beq e e' && Nat.beq g g'
  | .map q es, .map q' es' => sameKK q q' && sameEs es es'
  | _, _ => false
def sameH : VH → VH → Bool
  | [], _ => true
  | o :: l, o' :: l' => sameO o o' && sameH l l'
  | _ :: _, [] => false
/-- What a call made is forgotten, if what there was stays as it was, and its answer holds no object. -/
def forget (H : VH) (r : VRes) : VRes := r.bind fun x => cond (closedT x.1 && sameH H x.2) (some (stripT x.1, H)) (some x)
/-- A call that is handed, and hands back, nothing with an object: it is reckoned without what there is. -/
def alone (lone pur : Bool) (args : List V) (H : VH) (go : List V → VH → VRes) : VRes :=
  cond lone (cond (args.all closedC) ((go (args.map stripC) []).bind fun r => cond (closedT r.1) (some (stripT r.1, H)) none) (cond pur (forget H (go args H)) (go args H))) (go args H)
def env (T : VTab) (call : FuncId → List V → VH → VRes) (f : FuncId) : Env := ⟨call, T.ext, T.same, T.keep f, T.frm f, T.frz f, T.lone, T.glob⟩
noncomputable def bodyV (P : Program) (T : VTab) (call : FuncId → List V → VH → VRes) (n : Nat) (f : FuncId) (args : List V) (H : VH) : VRes :=
  match T.code f, P.funcs[f]? with
  | some c, some fn => vC P (env T call f) n c (kRet P fn) (args ++ List.replicate (fn.ntmps - args.length) .undef) H
  | some _, none => none
  | none, _ => match T.prim f with
    | some p => p args H
    | none => none
noncomputable def vF (P : Program) (T : VTab) : Nat → FuncId → List V → VH → VRes
  | 0, _, _, _ => none
  | n + 1, f, args, H => alone (T.lone f) (T.pur f) args H (bodyV P T (vF P T n) n f)

/-! ### A place in the code, and what comes behind it -/
noncomputable def kont (P : Program) (E : Env) (M : Nat) : SC → List Nat → List Nat → Kont → Kont
  | _, [], _, K => K
  | .seq none a b, 0 :: p, ms, K => kont P E M a p ms (kSeq (fun t h => vC P E M b K t h) K)
  | .seq (some clr) a b, 0 :: p, ms, K => kont P E M a p ms (kSeq (fun t h => clearK 0 clr t fun t => vC P E M b K t h) K)
  | .seq _ _ b, _ :: p, ms, K => kont P E M b p ms K
  | .cond _ a _, 0 :: p, ms, K => kont P E M a p ms K
  | .cond _ _ b, _ :: p, ms, K => kont P E M b p ms K
  | .block id a, _ :: p, ms, K => kont P E M a p ms (kBlock id K)
  | .loop clr a, _ :: p, m :: ms, K => kont P E M a p ms (kSeq (fun t h => clearK 0 clr t fun t => loopN (fun K t h => vC P E M a K t h) clr K m t h) K)
  | _, _ :: _, _, K => K
noncomputable def loopAt (P : Program) (T : VTab) (f : FuncId) (p : List Nat) (n : Nat) (ms : List Nat) (m : Nat) (t : List V) (h : VH) : VRes :=
  match T.code f, P.funcs[f]? with
  | some c, some fn =>
    match sub c p with
    | .loop clr a => loopN (fun K t h => vC P (env T (vF P T n) f) n a K t h) clr (kont P (env T (vF P T n) f) n c p ms (kRet P fn)) m t h
    | _ => none
  | _, _ => none
noncomputable def joinAt (P : Program) (T : VTab) (f : FuncId) (p : List Nat) (n : Nat) (ms : List Nat) (t : List V) (h : VH) : VRes :=
  match T.code f, P.funcs[f]? with
  | some c, some fn => clearK 0 [] t fun t => vC P (env T (vF P T n) f) n (sub c p) (kont P (env T (vF P T n) f) n c p ms (kRet P fn)) t h
  | _, _ => none
/-- Variables that are made in any order: whatever isn't done yet waits for them, or is the making of another one. -/
def allocOK (ops : Array Oper) (listed : Array Bool) (i : Nat) : Bool :=
  (List.range ops.size).all fun j => Nat.beq j i || listed.getD j true || (match ops[j]? with | some o => waitsL o.after.toList i || isAlloc o && o.guard.isNone | none => true)
def chkS (ops : Array Oper) (sl : Bool) : Array Bool → List (Nat × Bool) → Bool
  | _, [] => true
  | listed, (i, b) :: r => (_root_.cond (allocAt ops i) (_root_.cond sl (b && allocOK ops listed i && (match ops[i]? with | some o => o.guard.isNone | none => false)) (!b)) true) && chkS ops sl (listed.setIfInBounds i true) r
/-- May the marks of a code be so? -/
def okSC : SC → Bool
  | .draw _ ops order => chk ops (Array.replicate ops.size false) order && Region.noSelect ops && decide (order.length ≤ ops.size) && chkS ops (slotted ops order) (Array.replicate ops.size false) order
  | .still _ ops => Region.lexB .any ops
  | .tail _ ops n => Region.lexTailB .any ops n
  | .seq _ a b => okSC a && okSC b
  | .cond _ a b => okSC a && okSC b
  | .block _ a => okSC a
  | .loop _ a => okSC a
  | _ => true
end Go.Proofs.Ytmpobijkbmljdaa.Sh.V
namespace Go.Proofs.Ytmpobijkbmljdaa.Sh.V
open Go.Proofs.Ytmpobijkbmljdaa.Sh

/-! ### What a value of the machine of values stands for in the shadow -/
def rowT (h : Heap) (k : Nat) : Option (TypeId × List Value) :=
  match h[k]? with
  | some (.row _ e cs) => some (e, cs)
  | some (.app e cs) => some (e, cs)
  | _ => none
def VO.hard : VO → Bool
  | .row _ _ | .map _ _ => true
  | _ => false
def VO.isTok : VO → Bool
  | .tok _ _ => true
  | .slot => true
  | _ => false
def VO.live : VO → Bool
  | .dead => false
  | .slot => false
  | _ => true
/-- Where the objects lie in the shadow's heap; the shadow's objects that are not ours. -/
structure Cx where
  σ : List Nat
  H : VH
  h : Heap
  X : Nat → Prop
def Cx.Owned (c : Cx) (k : Nat) : Prop := ∃ (i : Nat) (o : VO), c.H[i]? = some o ∧ o.live = true ∧ c.σ[i]? = some k
def Cx.Stable (c : Cx) (k : Nat) : Prop := ¬ c.X k ∧ ∀ (i : Nat) (o : VO), c.H[i]? = some o → o.hard = true → c.σ[i]? ≠ some k
def Cx.Hard (c : Cx) (i k : Nat) : Prop := c.σ[i]? = some k ∧ ∃ o : VO, c.H[i]? = some o ∧ o.isTok = false
def Cx.Cap (c : Cx) (cap : VC) (e : TypeId) (n x k : Nat) (fin : Nat) : Prop :=
  match cap with
  | .no => True
  | .ex k0 => x = k0 + 1 ∧ n ≤ k0
  | .tok t g => x = 0 ∧ t < c.H.length ∧ ∀ e' g', c.H[t]? = some (.tok e' g') → g ≤ g' ∧ (g = g' → e' = e ∧ c.σ[t]? = some k ∧ ∃ ys, rowT c.h k = some (e, ys) ∧ fin = ys.length)
/-- Without objects and without tokens, at one cell. -/
def basicP : V → Bool
  | .bool _ | .int _ _ | .flt _ _ | .str _ | .ptr .nil | .map none | .nilFunc | .nilIface | .sl _ .nil | .sl _ (.fz _ .no) | .sl _ (.fz _ (.ex _)) | .ptr (.fz _) | .nan => true
  | .func _ [] [] => true
  | _ => false
def pure1 : V → Bool
  | .func _ l m => l.all basicP && m.all basicP
  | v => basicP v
section
variable (P : Program) (c : Cx)
mutual
inductive VR : V → Value → Prop
  | undef (v) : VR .undef v
  | skip : VR .skip (.tuple ⟨[.tuple ⟨[]⟩]⟩)
  | bool (b) : VR (.bool b) (.bool b)
  | int (k n) : VR (.int k n) (.int k n)
  | flt (k n) : VR (.flt k n) (.float k n)
  | str (s) : VR (.str s) (.string s)
  | nilFunc : VR .nilFunc .nilFunc
  | nilIface : VR .nilIface .nilIface
  | ptrNil : VR (.ptr .nil) (.pointer none)
  | ptrOb {i k off} : c.Hard i k → VR (.ptr (.ob i off)) (.pointer (some ⟨k, off, none⟩))
  | ptrFz {k off cs e ys} : rowT c.h k = some (e, ys) → c.Stable k → off + cs.length ≤ ys.length → VRs cs ((ys.drop off).take cs.length) → (∀ v ∈ cs, pure1 v = true) → VR (.ptr (.fz cs)) (.pointer (some ⟨k, off, none⟩))
  | slNil {e} : VR (.sl e .nil) (.slice none 0 0)
  | slFz {e es cap k off x ys} : rowT c.h k = some (e, ys) → c.Stable k → off + es.flatten.length ≤ ys.length → VRs es.flatten ((ys.drop off).take es.flatten.length) → (∀ v ∈ es.flatten, pure1 v = true) →
      (∀ y ∈ es, y.length = P.cellsOf e) → c.Cap cap e es.length x k (off + es.flatten.length) → (x ≠ 0 → es.length < x) → VR (.sl e (.fz es cap)) (.slice (some ⟨k, off, none⟩) es.length x)
  | slEm {e cap k off x} : x ≠ 0 → (cap = .no ∨ ∃ k0, cap = .ex k0 ∧ x = k0 + 1) → VR (.sl e (.fz [] cap)) (.slice (some ⟨k, off, none⟩) 0 x)
  | slHp {e i k off n} : c.Hard i k → VR (.sl e (.hp i off n)) (.slice (some ⟨k, off, none⟩) n 0)
  | mapNil : VR (.map none) (.map none)
  | map {i k} : c.Hard i k → VR (.map (some i)) (.map (some k))
  | func {f l l' m m'} : VRs l l' → VRs m m' → VR (.func f l m) (.func f ⟨l'⟩ ⟨m'⟩)
  | agg {l l'} : VRs l l' → VR (.agg l) (.agg ⟨l'⟩)
  | tup {l l'} : VRs l l' → VR (.tup l) (.tuple ⟨l'⟩)
  | nan {b} : 9218868437227405312 < b % 9223372036854775808 → VR .nan (.float .f64 b)
  | asl {i k off n x} : c.Hard i k → n < x → VR (.asl i off n) (.slice (some ⟨k, off, none⟩) n x)
inductive VRs : List V → List Value → Prop
  | nil : VRs [] []
  | cons {v v' l l'} : VR v v' → VRs l l' → VRs (v :: l) (v' :: l')
end
end
/-- What comes later. -/
structure Le (c d : Cx) : Prop where
  X : d.X = c.X
  len : c.H.length ≤ d.H.length
  hlen : c.h.length ≤ d.h.length
  pers : ∀ k e ys, c.Stable k → rowT c.h k = some (e, ys) → d.Stable k ∧ rowT d.h k = some (e, ys)
  frame : ∀ k, k < c.h.length → ¬ c.Owned k → d.h[k]? = c.h[k]? ∧ ¬ d.Owned k
  ids : ∀ i k, c.Hard i k → d.Hard i k
  toks : ∀ t e g', t < c.H.length → d.H[t]? = some (.tok e g') → ∃ g, c.H[t]? = some (.tok e g) ∧ g ≤ g' ∧ (g = g' → d.σ[t]? = c.σ[t]?)
theorem Le.refl (c : Cx) : Le c c := ⟨rfl, Nat.le_refl _, Nat.le_refl _, fun _ _ _ a b => ⟨a, b⟩, fun _ _ a => ⟨rfl, a⟩, fun _ _ a => a, fun _ _ g' _ h => ⟨g', h, Nat.le_refl _, fun _ => rfl⟩⟩
theorem Le.trans {a b c : Cx} (x : Le a b) (y : Le b c) : Le a c where
  X := y.X.trans x.X
  len := Nat.le_trans x.len y.len
  hlen := Nat.le_trans x.hlen y.hlen
  pers k e ys h1 h2 := by obtain ⟨h3, h4⟩ := x.pers k e ys h1 h2; exact y.pers k e ys h3 h4
  frame k h1 h2 := by
    obtain ⟨h3, h4⟩ := x.frame k h1 h2
    obtain ⟨h5, h6⟩ := y.frame k (Nat.lt_of_lt_of_le h1 x.hlen) h4
    exact ⟨h5.trans h3, h6⟩
  ids i k h1 := y.ids i k (x.ids i k h1)
  toks t e g' h1 h2 := by
    obtain ⟨g, h3, h4, h5⟩ := y.toks t e g' (Nat.lt_of_lt_of_le h1 x.len) h2
    obtain ⟨g0, h6, h7, h8⟩ := x.toks t e g h1 h3
    exact ⟨g0, h6, Nat.le_trans h7 h4, fun h => by
      have e1 : g = g' := by omega
      have e2 : g0 = g := by omega
      rw [h5 e1, h8 e2]⟩
theorem rowT_lt {h : Heap} {k : Nat} {p : TypeId × List Value} (hr : rowT h k = some p) : k < h.length := by
  unfold rowT at hr
  rcases Nat.lt_or_ge k h.length with h1 | h1
  · exact h1
  · rw [List.getElem?_eq_none h1] at hr; cases hr
theorem rowT_rowOf {h : Heap} {k : Nat} {e : TypeId} {ys : List Value} (hr : rowT h k = some (e, ys)) : rowOf h k = some ys := by
  unfold rowT at hr
  unfold rowOf
  split at hr
  · rename_i h1; rw [h1]; injection hr with hr; injection hr with _ hr; rw [hr]
  · rename_i h1; rw [h1]; injection hr with hr; injection hr with _ hr; rw [hr]
  · cases hr
section
variable {P : Program} {c d : Cx}
theorem Cap_mono (h : Le c d) {cap : VC} {e : TypeId} {n x k fin : Nat} (hs : c.Stable k) (hc : c.Cap cap e n x k fin) : d.Cap cap e n x k fin := by
  cases cap with
  | no => trivial
  | ex k0 => exact hc
  | tok t g =>
    obtain ⟨h1, h2, h3⟩ := hc
    refine ⟨h1, Nat.lt_of_lt_of_le h2 h.len, fun e' g' ht => ?_⟩
    obtain ⟨g0, h4, h5, h6⟩ := h.toks t e' g' h2 ht
    obtain ⟨h7, h8⟩ := h3 e' g0 h4
    refine ⟨Nat.le_trans h7 h5, fun he => ?_⟩
    have e1 : g = g0 := by omega
    have e2 : g0 = g' := by omega
    obtain ⟨h9, h10, ys2, h11, h12⟩ := h8 e1
    refine ⟨h9, (h6 e2).trans h10, ys2, (h.pers k e ys2 hs h11).2, h12⟩
mutual
theorem VR.mono (h : Le c d) : ∀ {v : V} {v' : Value}, VR P c v v' → VR P d v v'
  | _, _, .undef v => .undef v
  | _, _, .skip => .skip
  | _, _, .bool b => .bool b
  | _, _, .int k n => .int k n
  | _, _, .flt k n => .flt k n
  | _, _, .str s => .str s
  | _, _, .nilFunc => .nilFunc
  | _, _, .nilIface => .nilIface
  | _, _, .ptrNil => .ptrNil
  | _, _, .ptrOb a => .ptrOb (h.ids _ _ a)
  | _, _, .ptrFz a b e f g => .ptrFz (h.pers _ _ _ b a).2 (h.pers _ _ _ b a).1 e (f.mono h) g
  | _, _, .slNil => .slNil
  | _, _, .slFz a b e f g i j l => .slFz (h.pers _ _ _ b a).2 (h.pers _ _ _ b a).1 e (f.mono h) g i (Cap_mono h b j) l
  | _, _, .slEm a b => .slEm a b
  | _, _, .slHp a => .slHp (h.ids _ _ a)
  | _, _, .mapNil => .mapNil
  | _, _, .map a => .map (h.ids _ _ a)
  | _, _, .func a b => .func (a.mono h) (b.mono h)
  | _, _, .agg a => .agg (a.mono h)
  | _, _, .tup a => .tup (a.mono h)
  | _, _, .asl a b => .asl (h.ids _ _ a) b
  | _, _, .nan h => .nan h
theorem VRs.mono (h : Le c d) : ∀ {l : List V} {l' : List Value}, VRs P c l l' → VRs P d l l'
  | _, _, .nil => .nil
  | _, _, .cons a b => .cons (a.mono h) (b.mono h)
end
/-! ### Lists -/
theorem VRs.length {l : List V} {l' : List Value} (h : VRs P c l l') : l.length = l'.length := by
  induction l generalizing l' with
  | nil => cases h; rfl
  | cons v l ih => cases h with | cons _ b => simp [ih b]
theorem VRs.get {l : List V} {l' : List Value} (h : VRs P c l l') {i : Nat} {v : V} (hv : l[i]? = some v) : ∃ v', l'[i]? = some v' ∧ VR P c v v' := by
  induction l generalizing l' i with
  | nil => simp at hv
  | cons u l ih =>
    cases h with
    | cons a b =>
      cases i with
      | zero => simp at hv; subst hv; exact ⟨_, rfl, a⟩
      | succ i => exact ih b hv
theorem VRs.getD {l : List V} {l' : List Value} (h : VRs P c l l') (i : Nat) : VR P c (l.getD i .undef) (l'.getD i Go.undef) := by
  rw [List.getD_eq_getElem?_getD, List.getD_eq_getElem?_getD]
  cases hv : l[i]? with
  | none => exact .undef _
  | some v => obtain ⟨v', hv', hr⟩ := h.get hv; rw [hv']; exact hr
theorem VRs.set {l : List V} {l' : List Value} (h : VRs P c l l') {v : V} {v' : Value} (hv : VR P c v v') (i : Nat) : VRs P c (l.set i v) (l'.set i v') := by
  induction l generalizing l' i with
  | nil => cases h; exact .nil
  | cons u l ih =>
    cases h with
    | cons a b =>
      cases i with
      | zero => exact .cons hv b
      | succ i => exact .cons a (ih b i)
theorem VRs.append {l m : List V} {l' m' : List Value} (h : VRs P c l l') (h2 : VRs P c m m') : VRs P c (l ++ m) (l' ++ m') := by
  induction l generalizing l' with
  | nil => cases h; exact h2
  | cons u l ih => cases h with | cons a b => exact .cons a (ih b)
theorem VRs.drop {l : List V} {l' : List Value} (h : VRs P c l l') (i : Nat) : VRs P c (l.drop i) (l'.drop i) := by
  induction l generalizing l' i with
  | nil => cases h; simp; exact .nil
  | cons u l ih =>
    cases h with
    | cons a b =>
      cases i with
      | zero => exact .cons a b
      | succ i => exact ih b i
theorem VRs.take {l : List V} {l' : List Value} (h : VRs P c l l') (i : Nat) : VRs P c (l.take i) (l'.take i) := by
  induction l generalizing l' i with
  | nil => cases h; simp; exact .nil
  | cons u l ih =>
    cases h with
    | cons a b =>
      cases i with
      | zero => exact .nil
      | succ i => exact .cons a (ih b i)
theorem VRs.replicate_undef (n : Nat) : VRs P c (List.replicate n .undef) (List.replicate n Go.undef) := by
  induction n with
  | zero => exact .nil
  | succ n ih => exact .cons (.undef _) ih
theorem VRs.putAll {vs : List V} {vs' : List Value} (hv : VRs P c vs vs') : ∀ {cs : List V} {cs' : List Value} (k : Nat), VRs P c cs cs' → VRs P c (putAllV cs k vs) (Sh.putAll cs' k vs') := by
  induction vs generalizing vs' with
  | nil => cases hv; intro cs cs' k h; exact h
  | cons u vs ih =>
    cases hv with
    | cons a b => intro cs cs' k h; exact ih b (k + 1) (h.set a k)
theorem VRs.map {l : List V} {l' : List Value} {f : V → V} (h : VRs P c l l') (hf : ∀ v v', VR P c v v' → VR P c (f v) v') : VRs P c (l.map f) l' := by
  induction l generalizing l' with
  | nil => cases h; exact .nil
  | cons u l ih => cases h with | cons a b => exact .cons (hf _ _ a) (ih b)
/-! ### Without a token -/
theorem VR.strip0 {v : V} {v' : Value} (h : VR P c v v') : VR P c (strip0 v) v' := by
  cases h with
  | slFz a b e f g i j l =>
    rename_i cap _ _ _ _
    cases cap with
    | no => exact .slFz a b e f g i j l
    | ex k => exact .slFz a b e f g i j l
    | tok t g' => exact .slFz (cap := .no) a b e f g i trivial l
  | slEm a b =>
    rcases b with rfl | ⟨k0, rfl, hx⟩
    · exact .slEm a (.inl rfl)
    · exact .slEm a (.inr ⟨k0, rfl, hx⟩)
  | _ => first | exact .slNil | (constructor <;> assumption)
theorem VR.strip1 {v : V} {v' : Value} (h : VR P c v v') : VR P c (strip1 v) v' := by
  cases h with
  | func a b => exact .func (a.map fun _ _ h => h.strip0) (b.map fun _ _ h => h.strip0)
  | slFz a b e f g i j l => exact (VR.slFz a b e f g i j l).strip0
  | slEm a b => exact (VR.slEm a b).strip0
  | slNil => exact .slNil
  | slHp a => exact .slHp a
  | _ => first | (constructor <;> assumption)
theorem VR.stripC {v : V} {v' : Value} (h : VR P c v v') : VR P c (stripC v) v' := by
  cases h with
  | agg a => exact .agg (a.map fun _ _ h => h.strip1)
  | func a b => exact (VR.func a b).strip1
  | slFz a b e f g i j l => exact (VR.slFz a b e f g i j l).strip1
  | slEm a b => exact (VR.slEm a b).strip1
  | slNil => exact .slNil
  | slHp a => exact .slHp a
  | _ => first | (constructor <;> assumption)
theorem VR.stripT {v : V} {v' : Value} (h : VR P c v v') : VR P c (stripT v) v' := by
  cases h with
  | tup a => exact .tup (a.map fun _ _ h => h.stripC)
  | agg a => exact (VR.agg a).stripC
  | func a b => exact (VR.func a b).stripC
  | slFz a b e f g i j l => exact (VR.slFz a b e f g i j l).stripC
  | slEm a b => exact (VR.slEm a b).stripC
  | slNil => exact .slNil
  | slHp a => exact .slHp a
  | _ => first | (constructor <;> assumption)
end
end Go.Proofs.Ytmpobijkbmljdaa.Sh.V
namespace Go.Proofs.Ytmpobijkbmljdaa.Sh.V
open Go.Proofs.Ytmpobijkbmljdaa.Sh

inductive MR (P : Program) (c : Cx) : List (V × V) → List (Value × Value) → Prop
  | nil : MR P c [] []
  | cons {k v k' v' l l'} : toP k = some k' → VR P c v v' → MR P c l l' → MR P c ((k, v) :: l) ((k', v') :: l')
theorem MR.mono {P : Program} {c d : Cx} (h : Le c d) {l : List (V × V)} {l' : List (Value × Value)} (m : MR P c l l') : MR P d l l' := by
  induction m with
  | nil => exact .nil
  | cons a b _ ih => exact .cons a (b.mono h) ih
def ObR (P : Program) (c : Cx) (o : VO) (k : Nat) : Prop :=
  match o with
  | .dead => True
  | .row e cs => ∃ ys, c.h[k]? = some (.row true e ys) ∧ VRs P c cs ys
  | .tok e _ => ∃ ys, c.h[k]? = some (.app e ys)
  | .map q es => ∃ es', c.h[k]? = some (.map q es') ∧ MR P c es es'
  | .slot => True
structure VSim (P : Program) (c : Cx) : Prop where
  len : c.σ.length = c.H.length
  ob : ∀ (i : Nat) (o : VO) (k : Nat), c.H[i]? = some o → c.σ[i]? = some k → ObR P c o k
  inj : ∀ (i j : Nat) (o o' : VO) (k : Nat), c.H[i]? = some o → o.live = true → c.H[j]? = some o' → o'.live = true → c.σ[i]? = some k → c.σ[j]? = some k → i = j
  X : ∀ (i : Nat) (o : VO) (k : Nat), c.H[i]? = some o → o.live = true → c.σ[i]? = some k → ¬ c.X k
  Xlt : ∀ k, c.X k → k < c.h.length
theorem VO.live_of_hard {o : VO} (h : o.hard = true) : o.live = true := by cases o <;> first | rfl | cases h
theorem VO.hard_of {o : VO} (h : o.live = true) (h2 : o.isTok = false) : o.hard = true := by cases o <;> simp_all [VO.live, VO.hard, VO.isTok]
theorem VO.not_tok {o : VO} (h : o.hard = true) : o.isTok = false := by cases o <;> first | rfl | cases h
section
variable {P : Program} {c : Cx}
theorem VSim.klt (hc : VSim P c) {i : Nat} {o : VO} {k : Nat} (hi : c.H[i]? = some o) (hl : o.live = true) (hk : c.σ[i]? = some k) : k < c.h.length := by
  have := hc.ob i o k hi hk
  rcases Nat.lt_or_ge k c.h.length with h1 | h1
  · exact h1
  · cases o with
    | dead => cases hl
    | row e cs => obtain ⟨_, h2, _⟩ := this; rw [List.getElem?_eq_none h1] at h2; cases h2
    | tok e g => obtain ⟨_, h2⟩ := this; rw [List.getElem?_eq_none h1] at h2; cases h2
    | map q es => obtain ⟨_, h2, _⟩ := this; rw [List.getElem?_eq_none h1] at h2; cases h2
    | slot => cases hl
theorem VSim.σ_of (hc : VSim P c) {i : Nat} {o : VO} (hi : c.H[i]? = some o) : ∃ k, c.σ[i]? = some k := by
  have : i < c.σ.length := by rw [hc.len]; exact (List.getElem?_eq_some_iff.1 hi).1
  exact ⟨_, List.getElem?_eq_getElem this⟩
theorem ObR.mono {d : Cx} (h : Le c d) {o : VO} {k : Nat} (ho : ObR P c o k) (hk : d.h[k]? = c.h[k]?) : ObR P d o k := by
  cases o with
  | dead => trivial
  | row e cs => obtain ⟨ys, h1, h2⟩ := ho; exact ⟨ys, hk.trans h1, h2.mono h⟩
  | tok e g => obtain ⟨ys, h1⟩ := ho; exact ⟨ys, hk.trans h1⟩
  | map q es => obtain ⟨ys, h1, h2⟩ := ho; exact ⟨ys, hk.trans h1, h2.mono h⟩
  | slot => trivial
theorem set_get {α : Type} {l : List α} {i : Nat} {x : α} {j : Nat} {y : α} (h : (l.set i x)[j]? = some y) : (j = i ∧ y = x ∧ i < l.length) ∨ (j ≠ i ∧ l[j]? = some y) := by
  rw [List.getElem?_set] at h
  split at h
  · rename_i e
    split at h
    · rename_i h2; left; injection h with h; exact ⟨e.symm, h.symm, h2⟩
    · cases h
  · rename_i e; right; exact ⟨fun e' => e e'.symm, h⟩
theorem app_get {α : Type} {l : List α} {x : α} {j : Nat} {y : α} (h : (l ++ [x])[j]? = some y) : (j < l.length ∧ l[j]? = some y) ∨ (j = l.length ∧ y = x) := by
  rcases Nat.lt_or_ge j l.length with h1 | h1
  · left; rw [List.getElem?_append_left h1] at h; exact ⟨h1, h⟩
  · right
    rw [List.getElem?_append_right h1] at h
    have h0 : j - l.length = 0 := by
      rcases Nat.eq_zero_or_pos (j - l.length) with h0 | h0
      · exact h0
      · rw [List.getElem?_eq_none (by simp; omega)] at h; cases h
    rw [h0] at h
    simp at h
    exact ⟨by omega, h.symm⟩
/-- One object of ours turns. -/
theorem VSim.turn (hc : VSim P c) {i k : Nat} {o : VO} (hi : c.H[i]? = some o) (ho : o.hard = true) (hk : c.σ[i]? = some k) (o' : VO) (b' : Ob) (ht : o'.isTok = false)
    (hn : ∀ d : Cx, d = ⟨c.σ, c.H.set i o', c.h.set k b', c.X⟩ → Le c d → ObR P d o' k) :
    Le c ⟨c.σ, c.H.set i o', c.h.set k b', c.X⟩ ∧ VSim P ⟨c.σ, c.H.set i o', c.h.set k b', c.X⟩ := by
  have hil := (List.getElem?_eq_some_iff.1 hi).1
  have hlive := VO.live_of_hard ho
  have hle : Le c ⟨c.σ, c.H.set i o', c.h.set k b', c.X⟩ := by
    refine ⟨rfl, by simp, by simp, ?_, ?_, ?_, ?_⟩
    · intro k2 e ys hs hr
      have hne : k2 ≠ k := fun e => hs.2 i o hi ho (e ▸ hk)
      refine ⟨⟨hs.1, fun j u hj hu => ?_⟩, ?_⟩
      · rcases set_get hj with ⟨rfl, _, _⟩ | ⟨_, hj⟩
        · intro e; have e : c.σ[j]? = some k2 := e; rw [hk] at e; injection e with e; exact hne e.symm
        · exact hs.2 j u hj hu
      · unfold rowT at hr ⊢
        simp only
        rw [List.getElem?_set_ne (fun e => hne e.symm)]
        exact hr
    · intro k2 hlt hno
      have hne : k2 ≠ k := fun e => hno ⟨i, o, hi, hlive, e ▸ hk⟩
      refine ⟨by simp only; rw [List.getElem?_set_ne (fun e => hne e.symm)], ?_⟩
      rintro ⟨j, u, hj, hu, hj2⟩
      rcases set_get hj with ⟨rfl, _, _⟩ | ⟨_, hj⟩
      · have hj2 : c.σ[j]? = some k2 := hj2; rw [hk] at hj2; injection hj2 with e; exact hne e.symm
      · exact hno ⟨j, u, hj, hu, hj2⟩
    · rintro j k2 ⟨h1, u, h2, h3⟩
      refine ⟨h1, ?_⟩
      simp only
      by_cases e : j = i
      · subst e; exact ⟨o', by rw [List.getElem?_set_self hil], ht⟩
      · exact ⟨u, by rw [List.getElem?_set_ne (fun x => e x.symm)]; exact h2, h3⟩
    · intro t e g' h1 h2
      rcases set_get h2 with ⟨rfl, rfl, _⟩ | ⟨_, h2⟩
      · cases ht
      · exact ⟨g', h2, Nat.le_refl _, fun _ => rfl⟩
  refine ⟨hle, by simp [hc.len], ?_, ?_, ?_, fun k2 hk2 => by simpa using hc.Xlt k2 hk2⟩
  · intro j u k2 hj hk2
    rcases set_get hj with ⟨rfl, rfl, _⟩ | ⟨hne, hj⟩
    · have hk2 : c.σ[j]? = some k2 := hk2
      rw [hk] at hk2; injection hk2 with e; subst e
      exact hn _ rfl hle
    · by_cases hu : u.live = true
      · refine (hc.ob j u k2 hj hk2).mono hle ?_
        simp only
        rw [List.getElem?_set_ne]
        intro e
        have hk2 : c.σ[j]? = some k2 := hk2
        exact hne (hc.inj j i u o k hj hu hi hlive (e ▸ hk2) hk)
      · cases u <;> first | trivial | exact absurd rfl hu
  · intro j1 j2 u1 u2 k2 h1 l1 h2 l2 s1 s2
    have key : ∀ {j : Nat} {u : VO}, (c.H.set i o')[j]? = some u → u.live = true → ∃ u', c.H[j]? = some u' ∧ u'.live = true := by
      intro j u hj hu
      rcases set_get hj with ⟨rfl, _, _⟩ | ⟨_, hj⟩
      · exact ⟨o, hi, hlive⟩
      · exact ⟨u, hj, hu⟩
    obtain ⟨v1, a1, b1⟩ := key h1 l1
    obtain ⟨v2, a2, b2⟩ := key h2 l2
    exact hc.inj j1 j2 v1 v2 k2 a1 b1 a2 b2 s1 s2
  · intro j u k2 hj hu hk2
    rcases set_get hj with ⟨rfl, _, _⟩ | ⟨_, hj⟩
    · exact hc.X j o k2 hi hlive hk2
    · exact hc.X j u k2 hj hu hk2
/-- The shadow has something new, that is nobody's. -/
theorem VSim.addS (hc : VSim P c) (b : Ob) : Le c ⟨c.σ, c.H, c.h ++ [b], c.X⟩ ∧ VSim P ⟨c.σ, c.H, c.h ++ [b], c.X⟩ := by
  have hle : Le c ⟨c.σ, c.H, c.h ++ [b], c.X⟩ := by
    refine ⟨rfl, Nat.le_refl _, by simp, ?_, ?_, fun _ _ h => h, fun t e g' _ h => ⟨g', h, Nat.le_refl _, fun _ => rfl⟩⟩
    · intro k e ys hs hr
      refine ⟨hs, ?_⟩
      have := rowT_lt hr
      unfold rowT at hr ⊢
      simp only
      rw [List.getElem?_append_left this]
      exact hr
    · intro k hlt hno
      exact ⟨by simp only; rw [List.getElem?_append_left hlt], hno⟩
  refine ⟨hle, hc.len, fun i o k hi hk => ?_, hc.inj, hc.X, fun k2 hk2 => by have := hc.Xlt k2 hk2; simp only [List.length_append]; omega⟩
  by_cases hl : o.live = true
  · refine (hc.ob i o k hi hk).mono hle ?_
    simp only
    rw [List.getElem?_append_left (hc.klt hi hl hk)]
  · cases o <;> first | trivial | exact absurd rfl hl
/-- A new object. -/
theorem VSim.add (hc : VSim P c) (o : VO) (b : Ob) (hn : ∀ d : Cx, d = ⟨c.σ ++ [c.h.length], c.H ++ [o], c.h ++ [b], c.X⟩ → Le c d → ObR P d o c.h.length) :
    Le c ⟨c.σ ++ [c.h.length], c.H ++ [o], c.h ++ [b], c.X⟩ ∧ VSim P ⟨c.σ ++ [c.h.length], c.H ++ [o], c.h ++ [b], c.X⟩ := by
  have hlen := hc.len
  have σkey : ∀ {j k : Nat}, (c.σ ++ [c.h.length])[j]? = some k → (j < c.H.length ∧ c.σ[j]? = some k) ∨ (j = c.H.length ∧ k = c.h.length) := by
    intro j k h
    rcases app_get h with ⟨h1, h2⟩ | ⟨h1, h2⟩
    · exact .inl ⟨by omega, h2⟩
    · exact .inr ⟨by omega, h2⟩
  have hle : Le c ⟨c.σ ++ [c.h.length], c.H ++ [o], c.h ++ [b], c.X⟩ := by
    refine ⟨rfl, by simp, by simp, ?_, ?_, ?_, ?_⟩
    · intro k e ys hs hr
      have hk := rowT_lt hr
      refine ⟨⟨hs.1, fun j u hj hu e => ?_⟩, ?_⟩
      · rcases σkey e with ⟨h1, h2⟩ | ⟨h1, h2⟩
        · rcases app_get hj with ⟨_, hj⟩ | ⟨h3, _⟩
          · exact hs.2 j u hj hu h2
          · omega
        · omega
      · unfold rowT at hr ⊢
        simp only
        rw [List.getElem?_append_left hk]
        exact hr
    · intro k hlt hno
      refine ⟨by simp only; rw [List.getElem?_append_left hlt], ?_⟩
      rintro ⟨j, u, hj, hu, hj2⟩
      rcases σkey hj2 with ⟨h1, h2⟩ | ⟨h1, h2⟩
      · rcases app_get hj with ⟨_, hj⟩ | ⟨h3, _⟩
        · exact hno ⟨j, u, hj, hu, h2⟩
        · omega
      · omega
    · rintro j k ⟨h1, u, h2, h3⟩
      have hj := (List.getElem?_eq_some_iff.1 h1).1
      have hj2 := (List.getElem?_eq_some_iff.1 h2).1
      exact ⟨by simp only; rw [List.getElem?_append_left hj]; exact h1, u, by simp only; rw [List.getElem?_append_left hj2]; exact h2, h3⟩
    · intro t e g' h1 h2
      simp only at h2
      rw [List.getElem?_append_left h1] at h2
      exact ⟨g', h2, Nat.le_refl _, fun _ => by simp only; rw [List.getElem?_append_left (by omega)]⟩
  refine ⟨hle, by simp [hlen], ?_, ?_, ?_, fun k2 hk2 => by have := hc.Xlt k2 hk2; simp only [List.length_append]; first | omega | (rw [List.length_set]; omega)⟩
  · intro j u k hj hk
    rcases σkey hk with ⟨h1, h2⟩ | ⟨rfl, rfl⟩
    · rcases app_get hj with ⟨_, hj⟩ | ⟨h3, _⟩
      · by_cases hl : u.live = true
        · refine (hc.ob j u k hj h2).mono hle ?_
          simp only
          rw [List.getElem?_append_left (hc.klt hj hl h2)]
        · cases u <;> first | trivial | exact absurd rfl hl
      · omega
    · rcases app_get hj with ⟨h3, _⟩ | ⟨_, rfl⟩
      · omega
      · exact hn _ rfl hle
  · intro j1 j2 u1 u2 k h1 l1 h2 l2 s1 s2
    rcases σkey s1 with ⟨a1, b1⟩ | ⟨a1, b1⟩
    · rcases app_get h1 with ⟨_, h1⟩ | ⟨x, _⟩
      · rcases σkey s2 with ⟨a2, b2⟩ | ⟨a2, b2⟩
        · rcases app_get h2 with ⟨_, h2⟩ | ⟨x, _⟩
          · exact hc.inj j1 j2 u1 u2 k h1 l1 h2 l2 b1 b2
          · omega
        · have := hc.klt h1 l1 b1; omega
      · omega
    · rcases σkey s2 with ⟨a2, b2⟩ | ⟨a2, b2⟩
      · rcases app_get h2 with ⟨_, h2⟩ | ⟨x, _⟩
        · have := hc.klt h2 l2 b2; omega
        · omega
      · omega
  · intro j u k hj hu hk hX2
    rcases σkey hk with ⟨h1, h2⟩ | ⟨h1, h2⟩
    · rcases app_get hj with ⟨_, hj⟩ | ⟨h3, _⟩
      · exact hc.X j u k hj hu h2 hX2
      · omega
    · have := hc.Xlt k hX2; omega
/-- A token goes on. -/
theorem VSim.advance (hc : VSim P c) {t k : Nat} {e : TypeId} {g g' : Nat} {ys : List Value} (ht : c.H[t]? = some (.tok e g)) (hk : c.σ[t]? = some k) (hy : c.h[k]? = some (.app e ys)) (hg : g < g') (ys' : List Value) :
    Le c ⟨c.σ.set t c.h.length, c.H.set t (.tok e g'), c.h.set k (.row false e ys) ++ [.app e ys'], c.X⟩ ∧ VSim P ⟨c.σ.set t c.h.length, c.H.set t (.tok e g'), c.h.set k (.row false e ys) ++ [.app e ys'], c.X⟩ := by
  have hlen := hc.len
  have htl := (List.getElem?_eq_some_iff.1 ht).1
  have hklt := hc.klt ht rfl hk
  have σkey : ∀ {j k2 : Nat}, (c.σ.set t c.h.length)[j]? = some k2 → (j = t ∧ k2 = c.h.length) ∨ (j ≠ t ∧ c.σ[j]? = some k2) := by
    intro j k2 h
    rcases set_get h with ⟨h1, h2, _⟩ | h
    · exact .inl ⟨h1, h2⟩
    · exact .inr h
  have hold : ∀ j, j < c.h.length → j ≠ k → (c.h.set k (.row false e ys) ++ [.app e ys'])[j]? = c.h[j]? := by
    intro j hj hne
    rw [List.getElem?_append_left (by simpa using hj), List.getElem?_set_ne (fun e => hne e.symm)]
  have hle : Le c ⟨c.σ.set t c.h.length, c.H.set t (.tok e g'), c.h.set k (.row false e ys) ++ [.app e ys'], c.X⟩ := by
    refine ⟨rfl, by simp, by simp, ?_, ?_, ?_, ?_⟩
    · intro k2 e2 ys2 hs hr
      have hk2 := rowT_lt hr
      refine ⟨⟨hs.1, fun j u hj hu e => ?_⟩, ?_⟩
      · rcases σkey e with ⟨h1, h2⟩ | ⟨h1, h2⟩
        · omega
        · rcases set_get hj with ⟨h3, _, _⟩ | ⟨_, hj⟩
          · exact h1 h3
          · exact hs.2 j u hj hu h2
      · by_cases hkk : k2 = k
        · subst hkk
          unfold rowT at hr ⊢
          simp only
          rw [List.getElem?_append_left (by simpa using hk2), List.getElem?_set_self hk2]
          rw [hy] at hr
          exact hr
        · unfold rowT at hr ⊢
          simp only
          rw [hold k2 hk2 hkk]
          exact hr
    · intro k2 hlt hno
      have hne : k2 ≠ k := fun e => hno ⟨t, _, ht, rfl, e ▸ hk⟩
      refine ⟨hold k2 hlt hne, ?_⟩
      rintro ⟨j, u, hj, hu, hj2⟩
      rcases σkey hj2 with ⟨h1, h2⟩ | ⟨h1, h2⟩
      · omega
      · rcases set_get hj with ⟨h3, _, _⟩ | ⟨_, hj⟩
        · exact h1 h3
        · exact hno ⟨j, u, hj, hu, h2⟩
    · rintro j k2 ⟨h1, u, h2, h3⟩
      have hne : j ≠ t := by rintro rfl; rw [ht] at h2; injection h2 with h2; subst h2; cases h3
      exact ⟨by simp only; rw [List.getElem?_set_ne (fun e => hne e.symm)]; exact h1, u, by simp only; rw [List.getElem?_set_ne (fun e => hne e.symm)]; exact h2, h3⟩
    · intro t2 e2 g2 h1 h2
      rcases set_get h2 with ⟨rfl, h3, _⟩ | ⟨hne, h2⟩
      · injection h3 with h4 h5
        subst h4 h5
        exact ⟨g, ht, by omega, fun e => by omega⟩
      · exact ⟨g2, h2, Nat.le_refl _, fun _ => by simp only; rw [List.getElem?_set_ne (fun e => hne e.symm)]⟩
  refine ⟨hle, by simp [hlen], ?_, ?_, ?_, fun k2 hk2 => by have := hc.Xlt k2 hk2; simp only [List.length_append]; first | omega | (rw [List.length_set]; omega)⟩
  · intro j u k2 hj hk2
    rcases σkey hk2 with ⟨rfl, rfl⟩ | ⟨hne, hk2⟩
    · rcases set_get hj with ⟨_, rfl, _⟩ | ⟨h3, _⟩
      · exact ⟨ys', by simp⟩
      · exact absurd rfl h3
    · rcases set_get hj with ⟨h3, _, _⟩ | ⟨_, hj⟩
      · exact absurd h3 hne
      · by_cases hl : u.live = true
        · refine (hc.ob j u k2 hj hk2).mono hle (hold k2 (hc.klt hj hl hk2) fun e => hne (hc.inj j t u _ k hj hl ht rfl (e ▸ hk2) hk))
        · cases u <;> first | trivial | exact absurd rfl hl
  · intro j1 j2 u1 u2 k2 h1 l1 h2 l2 s1 s2
    rcases σkey s1 with ⟨rfl, rfl⟩ | ⟨a1, b1⟩
    · rcases σkey s2 with ⟨rfl, _⟩ | ⟨a2, b2⟩
      · rfl
      · rcases set_get h2 with ⟨h3, _, _⟩ | ⟨_, h2⟩
        · exact h3.symm
        · have := hc.klt h2 l2 b2; omega
    · rcases set_get h1 with ⟨h3, _, _⟩ | ⟨_, h1'⟩
      · exact absurd h3 a1
      · rcases σkey s2 with ⟨_, e2⟩ | ⟨a2, b2⟩
        · have := hc.klt h1' l1 b1; omega
        · rcases set_get h2 with ⟨h3, _, _⟩ | ⟨_, h2⟩
          · exact absurd h3 a2
          · exact hc.inj j1 j2 u1 u2 k2 h1' l1 h2 l2 b1 b2
  · intro j u k2 hj hu hk2 hx
    rcases σkey hk2 with ⟨h1, h2⟩ | ⟨h1, h2⟩
    · have := hc.Xlt k2 hx; omega
    · rcases set_get hj with ⟨h3, _, _⟩ | ⟨_, hj⟩
      · exact h1 h3
      · exact hc.X j u k2 hj hu h2 hx
end
end Go.Proofs.Ytmpobijkbmljdaa.Sh.V
namespace Go.Proofs.Ytmpobijkbmljdaa.Sh.V
open Go.Proofs.Ytmpobijkbmljdaa.Sh

/-! ### Types, as the shadow has them -/
def FT.S : FT → Sh.FT
  | .int k => .int k | .bool => .bool | .str => .str | .ptr => .ptr | .slice _ => .slice | .map => .map | .flt k => .flt k | .any => .any
def Ty1.S : Ty1 → Sh.Ty1
  | .flat τ => .flat τ.S | .agg l => .agg (l.map FT.S)
def Ty.S : Ty → Sh.Ty
  | .one τ => .one τ.S | .tup l => .tup (l.map Ty1.S)
theorem ftOf_S (P : Program) (t : TypeId) : (ftOf P t).S = Sh.ftOf P t := by
  unfold ftOf Sh.ftOf
  split <;> simp_all [FT.S]
theorem cellFTs_S (P : Program) : ∀ (d : Nat) (t : TypeId), (cellFTs P d t).map FT.S = Sh.cellFTs P d t
  | 0, _ => rfl
  | d + 1, t => by
    unfold cellFTs Sh.cellFTs
    split
    · rename_i fs h
      simp only [h, List.map_flatMap]
      congr 1
      funext f
      exact cellFTs_S P d f.type
    · rename_i n e h
      simp only [h, List.map_flatten, List.map_replicate, cellFTs_S P d e]
    · rename_i h1 h2
      split
      · rename_i fs h; exact absurd h (h1 fs)
      · rename_i n e h; exact absurd h (h2 n e)
      · simp [ftOf_S]
theorem ty1Of_S (P : Program) (t : TypeId) : (ty1Of P t).S = Sh.ty1Of P t := by
  unfold ty1Of Sh.ty1Of
  split
  · rename_i h; simp only [h, Ty1.S, cellFTs_S]
  · rename_i h; simp only [h, Ty1.S, cellFTs_S]
  · rename_i h1 h2
    split
    · rename_i fs h; exact absurd h (h1 fs)
    · rename_i n e h; exact absurd h (h2 n e)
    · simp [Ty1.S, ftOf_S]
theorem tyOf_S (P : Program) (t : TypeId) : (tyOf P t).S = Sh.tyOf P t := by
  unfold tyOf Sh.tyOf
  split
  · rename_i ts h
    simp only [h, Ty.S, List.map_map]
    congr 2
    funext x
    exact ty1Of_S P x
  · rename_i h1
    split
    · rename_i ts h; exact absurd h (h1 ts)
    · simp [Ty.S, ty1Of_S]
section
variable {P : Program} {c : Cx}
theorem fdec_sim {τ : FT} {v : V} {x : τ.T} {v' : Value} (h : fdec τ v = some x) (hv : VR P c v v') : ∃ x', Sh.fdec τ.S v' = some x' ∧ VR P c (fenc τ x) v' := by
  cases τ with
  | any => simp only [fdec, Option.some.injEq] at h; subst h; exact ⟨v', rfl, hv⟩
  | int k =>
    cases v <;> simp only [fdec, reduceCtorEq] at h
    obtain ⟨rfl, h⟩ := ite_some h
    injection h with h; subst h
    cases hv
    exact ⟨_, if_pos rfl, .int _ _⟩
  | flt k =>
    cases v <;> simp only [fdec, reduceCtorEq] at h
    obtain ⟨rfl, h⟩ := ite_some h
    injection h with h; subst h
    cases hv
    exact ⟨_, if_pos rfl, .flt _ _⟩
  | bool => cases v <;> simp only [fdec, reduceCtorEq, Option.some.injEq] at h; subst h; cases hv; exact ⟨_, rfl, .bool _⟩
  | str => cases v <;> simp only [fdec, reduceCtorEq, Option.some.injEq] at h; subst h; cases hv; exact ⟨_, rfl, .str _⟩
  | ptr =>
    cases v <;> simp only [fdec, reduceCtorEq, Option.some.injEq] at h
    subst h
    refine (?_ : ∃ x', Sh.fdec .ptr v' = some x') |>.elim fun x' hx => ⟨x', hx, hv⟩
    cases hv <;> exact ⟨_, rfl⟩
  | map =>
    cases v <;> simp only [fdec, reduceCtorEq, Option.some.injEq] at h
    subst h
    refine (?_ : ∃ x', Sh.fdec .map v' = some x') |>.elim fun x' hx => ⟨x', hx, hv⟩
    cases hv <;> exact ⟨_, rfl⟩
  | slice e =>
    cases v <;> simp only [fdec, reduceCtorEq] at h
    rename_i e0 s
    have hd : ∃ x', Sh.fdec .slice v' = some x' := by cases hv <;> exact ⟨_, rfl⟩
    obtain ⟨x', hx'⟩ := hd
    refine ⟨x', hx', ?_⟩
    unfold atE at h
    split at h
    · rename_i he; subst he; injection h with h; subst h; exact hv
    · split at h
      · injection h with h; subst h; cases hv; exact .slNil
      · cases h
theorem decs_sim : ∀ {l : List FT} {vs : List V} {x : aggT l} {vs' : List Value}, decs l vs = some x → VRs P c vs vs' → ∃ x', Sh.decs (l.map FT.S) vs' = some x' ∧ VRs P c (encs l x) vs'
  | [], [], _, _, _, hv => by cases hv; exact ⟨(), rfl, .nil⟩
  | [], _ :: _, _, _, h, _ => by simp [decs] at h
  | _ :: _, [], _, _, h, _ => by simp [decs] at h
  | τ :: l, v :: vs, x, vs', h, hv => by
    simp only [decs, Option.bind_eq_some_iff, Option.map_eq_some_iff] at h
    obtain ⟨y, hy, z, hz, rfl⟩ := h
    cases hv with
    | cons a b =>
      obtain ⟨y', h1, h2⟩ := fdec_sim hy a
      obtain ⟨z', h3, h4⟩ := decs_sim hz b
      refine ⟨(y', z'), ?_, .cons h2 h4⟩
      show (Sh.fdec τ.S _).bind (fun x => (Sh.decs (l.map FT.S) _).map fun y => (x, y)) = _
      rw [h1, Option.bind_some, h3]; rfl
theorem dec1_sim {τ : Ty1} {v : V} {x : τ.T} {v' : Value} (h : dec1 τ v = some x) (hv : VR P c v v') : ∃ x', Sh.dec1 τ.S v' = some x' ∧ VR P c (enc1 τ x) v' := by
  cases τ with
  | flat τ => exact fdec_sim h hv
  | agg l =>
    cases v <;> simp only [dec1, reduceCtorEq] at h
    cases hv with
    | agg a =>
      obtain ⟨x', h1, h2⟩ := decs_sim h a
      exact ⟨x', h1, .agg h2⟩
theorem decT_sim : ∀ {l : List Ty1} {vs : List V} {x : tupT l} {vs' : List Value}, decT l vs = some x → VRs P c vs vs' → ∃ x', Sh.decT (l.map Ty1.S) vs' = some x' ∧ VRs P c (encT l x) vs'
  | [], [], _, _, _, hv => by cases hv; exact ⟨(), rfl, .nil⟩
  | [], _ :: _, _, _, h, _ => by simp [decT] at h
  | _ :: _, [], _, _, h, _ => by simp [decT] at h
  | τ :: l, v :: vs, x, vs', h, hv => by
    simp only [decT, Option.bind_eq_some_iff, Option.map_eq_some_iff] at h
    obtain ⟨y, hy, z, hz, rfl⟩ := h
    cases hv with
    | cons a b =>
      obtain ⟨y', h1, h2⟩ := dec1_sim hy a
      obtain ⟨z', h3, h4⟩ := decT_sim hz b
      refine ⟨(y', z'), ?_, .cons h2 h4⟩
      show (Sh.dec1 τ.S _).bind (fun x => (Sh.decT (l.map Ty1.S) _).map fun y => (x, y)) = _
      rw [h1, Option.bind_some, h3]; rfl
theorem dec_sim {τ : Ty} {v : V} {x : τ.T} {v' : Value} (h : dec τ v = some x) (hv : VR P c v v') : ∃ x', Sh.dec τ.S v' = some x' ∧ VR P c (enc τ x) v' := by
  cases τ with
  | one τ => exact dec1_sim h hv
  | tup l =>
    cases v <;> simp only [dec, reduceCtorEq] at h
    cases hv with
    | tup a =>
      obtain ⟨x', h1, h2⟩ := decT_sim h a
      exact ⟨x', h1, .tup h2⟩
/-! ### What an answer stands for -/
def Rel (G : Cx → V × VH → Value × Heap → Prop) (c : Cx) (r : VRes) (r' : Res) : Prop := ∀ x, r = some x → ∃ y, r' = some y ∧ G c x y
section
variable {G : Cx → V × VH → Value × Heap → Prop}
theorem Rel.none {r' : Res} : Rel G c none r' := fun _ h => by cases h
theorem Rel.later {d : Cx} (hG : ∀ (c d : Cx) (x : V × VH) (y : Value × Heap), Le c d → G d x y → G c x y) (h : Le c d) {r : VRes} {r' : Res} (hr : Rel G d r r') : Rel G c r r' := by
  intro x he
  obtain ⟨y, h1, h2⟩ := hr x he
  exact ⟨y, h1, hG c d x y h h2⟩
theorem Rel.bind {α β : Type} {x : Option α} {x' : Option β} {f : α → VRes} {f' : β → Res} (h : ∀ a, x = some a → ∃ b, x' = some b ∧ Rel G c (f a) (f' b)) : Rel G c (x.bind f) (x'.bind f') := by
  cases x with
  | none => exact Rel.none
  | some a => obtain ⟨b, h1, h2⟩ := h a rfl; rw [h1]; exact h2
theorem Rel.ite {p q : Prop} [Decidable p] [Decidable q] {a : VRes} {b : Res} (h : p → q ∧ Rel G c a b) : Rel G c (if p then a else Option.none) (if q then b else Option.none) := by
  split
  · rename_i hp; obtain ⟨hq, hr⟩ := h hp; rw [if_pos hq]; exact hr
  · exact Rel.none
theorem Rel.tite {p q : Prop} [Decidable p] [Decidable q] {a : VRes} {b : Res} (h : ¬ p → ¬ q ∧ Rel G c a b) : Rel G c (if p then Option.none else a) (if q then Option.none else b) := by
  split
  · exact Rel.none
  · rename_i hp; obtain ⟨hq, hr⟩ := h hp; rw [if_neg hq]; exact hr
end
/-! ### Memory is read -/
theorem rowV_some {H : VH} {i : Nat} {cs : List V} (h : rowV H i = some cs) : ∃ e, H[i]? = some (.row e cs) := by
  unfold rowV at h
  split at h
  · rename_i e cs' hi; injection h with h; subst h; exact ⟨e, hi⟩
  · cases h
theorem VSim.row (hc : VSim P c) {i k : Nat} {e : TypeId} {cs : List V} (hi : c.H[i]? = some (.row e cs)) (hk : c.σ[i]? = some k) : ∃ ys, c.h[k]? = some (.row true e ys) ∧ VRs P c cs ys := hc.ob i _ k hi hk
theorem ld_sim (hc : VSim P c) {τ : Ty1} {a : VP} {x : τ.T} {v' : Value} (hx : ldV τ c.H a = some x) (hv : VR P c (.ptr a) v') :
    ∃ ad x', v' = .pointer (some ad) ∧ Sh.ld1 τ.S c.h ad = some x' ∧ VR P c (enc1 τ x) (Sh.enc1 τ.S x') := by
  cases a with
  | nil => cases τ <;> cases hx
  | ob i off =>
    cases hv with
    | ptrOb hk =>
      rename_i k
      obtain ⟨hk, _⟩ := hk
      refine ⟨⟨k, off, none⟩, ?_⟩
      cases τ with
      | flat τ =>
        simp only [ldV, Option.bind_eq_some_iff] at hx
        obtain ⟨u, ⟨cs, hcs, hu⟩, hx⟩ := hx
        obtain ⟨e, hi⟩ := rowV_some hcs
        obtain ⟨ys, h1, h2⟩ := hc.row hi hk
        obtain ⟨u', h3, h4⟩ := h2.get hu
        obtain ⟨x', h5, h6⟩ := fdec_sim hx h4
        refine ⟨x', rfl, ?_, ?_⟩
        · simp only [Ty1.S, Sh.ld1, rowOf, h1, Option.bind_some, h3, h5]
        · show VR P c (fenc τ x) (Sh.fenc τ.S x'); rw [enc_fdec h5]; exact h6
      | agg l =>
        simp only [ldV, Option.bind_eq_some_iff, takeN] at hx
        obtain ⟨us, ⟨cs, hcs, hu⟩, hx⟩ := hx
        obtain ⟨hle, hu⟩ := ite_some hu
        injection hu with hu
        subst hu
        obtain ⟨e, hi⟩ := rowV_some hcs
        obtain ⟨ys, h1, h2⟩ := hc.row hi hk
        obtain ⟨x', h5, h6⟩ := decs_sim hx ((h2.drop off).take l.length)
        have hlen := h2.length
        refine ⟨x', rfl, ?_, ?_⟩
        · simp only [Ty1.S, Sh.ld1, cellsAt, rowOf, h1, Option.bind_some, List.length_map]
          rw [if_pos (by omega)]
          exact h5
        · show VR P c (.agg (encs l x)) (.agg ⟨Sh.encs (l.map FT.S) x'⟩); rw [enc_decs h5]; exact .agg h6
  | fz cs =>
    cases hv with
    | ptrFz hr hs hle hvs hcl =>
      rename_i k off e ys
      refine ⟨⟨k, off, none⟩, ?_⟩
      cases τ with
      | flat τ =>
        simp only [ldV, Option.bind_eq_some_iff] at hx
        obtain ⟨u, hu, hx⟩ := hx
        rw [List.head?_eq_getElem?] at hu
        obtain ⟨u', h3, h4⟩ := hvs.get hu
        obtain ⟨x', h5, h6⟩ := fdec_sim hx h4
        have hlt := (List.getElem?_eq_some_iff.1 h3).1
        refine ⟨x', rfl, ?_, ?_⟩
        · simp only [Ty1.S, Sh.ld1, rowT_rowOf hr, Option.bind_some]
          rw [List.getElem?_take, List.getElem?_drop] at h3
          split at h3
          · rw [Nat.add_zero] at h3; rw [h3]; exact h5
          · cases h3
        · show VR P c (fenc τ x) (Sh.fenc τ.S x'); rw [enc_fdec h5]; exact h6
      | agg l =>
        simp only [ldV, Option.bind_eq_some_iff, takeN] at hx
        obtain ⟨us, hu, hx⟩ := hx
        obtain ⟨hle2, hu⟩ := ite_some hu
        injection hu with hu
        subst hu
        rw [List.drop_zero] at hx
        obtain ⟨x', h5, h6⟩ := decs_sim hx (hvs.take l.length)
        rw [List.take_take, Nat.min_eq_left (by omega)] at h5 h6
        refine ⟨x', rfl, ?_, ?_⟩
        · simp only [Ty1.S, Sh.ld1, cellsAt, rowT_rowOf hr, Option.bind_some, List.length_map]
          rw [if_pos (by omega)]
          exact h5
        · show VR P c (.agg (encs l x)) (.agg ⟨Sh.encs (l.map FT.S) x'⟩); rw [enc_decs h5]; exact .agg h6
end
end Go.Proofs.Ytmpobijkbmljdaa.Sh.V
namespace Go.Proofs.Ytmpobijkbmljdaa.Sh.V
open Go.Proofs.Ytmpobijkbmljdaa.Sh

/-! ### Elements and cells -/
theorem flat_len {α : Type} {es : List (List α)} {sz : Nat} (h : ∀ y ∈ es, y.length = sz) : es.flatten.length = es.length * sz := by
  induction es with
  | nil => simp
  | cons y es ih => simp only [List.flatten_cons, List.length_append, ih (fun z hz => h z (by simp [hz])), h y (by simp), List.length_cons, Nat.add_mul]; omega
theorem chunk_len (sz : Nat) : ∀ (n : Nat) (cs : List V), (chunk sz n cs).length = n
  | 0, _ => rfl
  | n + 1, cs => by simp [chunk, chunk_len sz n]
theorem chunk_flat (sz : Nat) : ∀ (n : Nat) (cs : List V), (chunk sz n cs).flatten = cs.take (n * sz)
  | 0, cs => by simp [chunk]
  | n + 1, cs => by
    simp only [chunk, List.flatten_cons, chunk_flat sz n, Nat.add_mul, Nat.one_mul]
    rw [Nat.add_comm, List.take_add]
theorem chunk_each (sz : Nat) : ∀ (n : Nat) (cs : List V), n * sz ≤ cs.length → ∀ y ∈ chunk sz n cs, y.length = sz
  | 0, cs, _ => fun y hy => by cases hy
  | n + 1, cs, h => fun y hy => by
    rw [Nat.add_mul, Nat.one_mul] at h
    rcases List.mem_cons.1 hy with rfl | hy
    · rw [List.length_take]; omega
    · exact chunk_each sz n (cs.drop sz) (by rw [List.length_drop]; omega) y hy
theorem flat_take {α : Type} {es : List (List α)} {sz : Nat} (h : ∀ y ∈ es, y.length = sz) (n : Nat) : (es.take n).flatten = es.flatten.take (n * sz) := by
  induction es generalizing n with
  | nil => simp
  | cons y es ih =>
    cases n with
    | zero => simp
    | succ n =>
      have hy := h y (by simp)
      rw [List.take_succ_cons, List.flatten_cons, List.flatten_cons, ih (fun z hz => h z (by simp [hz])), Nat.add_mul, Nat.one_mul, List.take_append, hy]
      rw [List.take_of_length_le (l := y) (by rw [hy]; exact Nat.le_add_left _ _), Nat.add_sub_cancel]
theorem flat_drop {α : Type} {es : List (List α)} {sz : Nat} (h : ∀ y ∈ es, y.length = sz) (n : Nat) : (es.drop n).flatten = es.flatten.drop (n * sz) := by
  induction es generalizing n with
  | nil => simp
  | cons y es ih =>
    cases n with
    | zero => simp
    | succ n =>
      have hy := h y (by simp)
      rw [List.drop_succ_cons, List.flatten_cons, ih (fun z hz => h z (by simp [hz])), Nat.add_mul, Nat.one_mul, List.drop_append, hy, List.drop_of_length_le (l := y) (by rw [hy]; exact Nat.le_add_left _ _), Nat.add_sub_cancel, List.nil_append]
theorem closed_strip1 {v : V} (h : closed1 v = true) : pure1 (strip1 v) = true := by
  have hb : ∀ v : V, basic v = true → basicP (strip0 v) = true := by
    intro v hv
    cases v with
    | sl e s => cases s with
      | nil => rfl
      | fz es c => cases c <;> rfl
      | hp i o n => cases hv
    | func f l m => cases l with
      | nil => cases m with
        | nil => rfl
        | cons _ _ => cases hv
      | cons _ _ => cases hv
    | ptr p => cases p <;> first | rfl | cases hv
    | map m => cases m <;> first | rfl | cases hv
    | _ => exact hv
  cases v with
  | sl e s => cases s with
    | nil => rfl
    | fz es c => cases c <;> rfl
    | hp i o n => cases h
  | func f l m =>
    simp only [closed1, pure1, strip1, Bool.and_eq_true, List.all_eq_true, List.mem_map, forall_exists_index, and_imp, forall_apply_eq_imp_iff₂] at h ⊢
    exact ⟨fun v hv => hb v (h.1 v hv), fun v hv => hb v (h.2 v hv)⟩
  | ptr p => cases p <;> first | rfl | cases h
  | map m => cases m <;> first | rfl | cases h
  | _ => exact h
section
variable {P : Program} {c : Cx}
theorem hpEs_some {H : VH} {e : TypeId} {sz i off n : Nat} {es : List (List V)} (h : hpEs H e sz i off n = some es) :
    ∃ cs, H[i]? = some (.row e cs) ∧ off + n * sz ≤ cs.length ∧ es.flatten = ((cs.drop off).take (n * sz)).map strip1 ∧ es.length = n ∧ (∀ y ∈ es, y.length = sz) ∧ (∀ v ∈ es.flatten, pure1 v = true) := by
  unfold hpEs at h
  split at h
  · rename_i e' cs hi
    have h' := ite_some h
    clear h
    obtain ⟨⟨he, hle, hcl⟩, h⟩ := h'
    subst he
    injection h with h
    subst h
    have hl : (((cs.drop off).take (n * sz)).map strip1).length = n * sz := by simp; omega
    refine ⟨cs, hi, hle, ?_, chunk_len _ _ _, chunk_each _ _ _ (by omega), ?_⟩
    · rw [chunk_flat, List.take_of_length_le (by omega)]
    · rw [chunk_flat, List.take_of_length_le (by omega)]
      intro v hv
      obtain ⟨u, hu, rfl⟩ := List.mem_map.1 hv
      exact closed_strip1 (List.all_eq_true.1 hcl u hu)
  · cases h
/-- A slice's elements, as they lie. -/
theorem slEs_sim (hc : VSim P c) {e : TypeId} {sz : Nat} (hsz : sz = P.cellsOf e) {s : VS} {es : List (List V)} {v' : Value} (h : slEs c.H e sz s = some es) (hv : VR P c (.sl e s) v') :
    ∃ a x cs', v' = .slice a s.len x ∧ slCells c.h sz ⟨a, s.len, x⟩ = some cs' ∧ VRs P c es.flatten cs' ∧ es.length = s.len ∧ (∀ v ∈ es.flatten, pure1 v = true) ∧ (∀ y ∈ es, y.length = sz) := by
  subst hsz
  cases s with
  | nil =>
    simp only [slEs, Option.some.injEq] at h; subst h
    cases hv
    exact ⟨none, 0, [], rfl, rfl, .nil, rfl, (fun v hv => by cases hv), (fun v hv => by cases hv)⟩
  | fz es0 cap =>
    simp only [slEs, Option.some.injEq] at h; subst h
    cases hv with
    | slFz hr hs hle hvs hcl hl hcap hx =>
      rename_i k off x ys
      have hf := flat_len hl
      refine ⟨_, x, (ys.drop off).take es0.flatten.length, rfl, ?_, hvs, rfl, hcl, hl⟩
      show (if es0.length = 0 then some [] else cellsAt c.h ⟨k, off, none⟩ (es0.length * P.cellsOf e)) = _
      by_cases h0 : es0.length = 0
      · rw [if_pos h0, hf, h0, Nat.zero_mul]; rfl
      · rw [if_neg h0]
        simp only [cellsAt, rowT_rowOf hr, Option.bind_some]
        rw [if_pos (by omega), hf]
    | slEm hx hcap =>
      exact ⟨_, _, [], rfl, rfl, .nil, rfl, (fun v hv => by cases hv), (fun v hv => by cases hv)⟩
  | hp i off n =>
    simp only [slEs] at h
    obtain ⟨cs, hi, hle, hf, hl, hy, hcl⟩ := hpEs_some h
    cases hv with
    | slHp hk =>
      obtain ⟨hk, _⟩ := hk
      obtain ⟨ys, h1, h2⟩ := hc.row hi hk
      have hlen := h2.length
      refine ⟨_, 0, (ys.drop off).take (n * P.cellsOf e), rfl, ?_, ?_, hl, hcl, hy⟩
      · show (if n = 0 then some [] else cellsAt c.h ⟨_, off, none⟩ (n * P.cellsOf e)) = _
        by_cases h0 : n = 0
        · rw [if_pos h0, h0, Nat.zero_mul]; rfl
        · rw [if_neg h0]
          simp only [cellsAt, rowOf, h1, Option.bind_some]
          rw [if_pos (by omega)]
      · rw [hf]
        exact ((h2.drop off).take _).map fun _ _ h => h.strip1
theorem sl_form {e : TypeId} {s : VS} {v' : Value} (hv : VR P c (.sl e s) v') : ∃ a x, v' = .slice a s.len x ∧ (s.isNil = a.isNone) := by
  cases hv <;> exact ⟨_, _, rfl, rfl⟩
theorem VR.same_h {d : Cx} {v : V} {v' : Value} (h : VR P c v v') (hd : d = c) : VR P d v v' := hd ▸ h
/-- The shadow has a new row, that is nobody's: its cells stay. -/
theorem new_fz (hc : VSim P c) {e : TypeId} {es : List (List V)} {cs : List Value} {b : Ob} (hb : rowT (c.h ++ [b]) c.h.length = some (e, cs)) (hvs : VRs P c es.flatten cs) (hcl : ∀ v ∈ es.flatten, pure1 v = true) (hl : ∀ y ∈ es, y.length = P.cellsOf e) {cap : VC} {x : Nat}
    (hcap : cap = .no ∨ ∃ k, cap = .ex k ∧ x = k + 1 ∧ es.length ≤ k) (hx : x ≠ 0 → es.length < x) :
    Le c ⟨c.σ, c.H, c.h ++ [b], c.X⟩ ∧ VSim P ⟨c.σ, c.H, c.h ++ [b], c.X⟩ ∧ VR P ⟨c.σ, c.H, c.h ++ [b], c.X⟩ (.sl e (.fz es cap)) (.slice (some ⟨c.h.length, 0, none⟩) es.length x) := by
  obtain ⟨h1, h2⟩ := hc.addS b
  refine ⟨h1, h2, ?_⟩
  have hlen := hvs.length
  refine .slFz hb ⟨fun hX => ?_, fun i o hi ho hk => ?_⟩ (by omega) ?_ hcl hl ?_ hx
  · have := hc.Xlt _ hX; omega
  · have := hc.klt hi (VO.live_of_hard ho) hk; omega
  · rw [List.drop_zero, hlen, List.take_of_length_le (Nat.le_refl _)]
    exact hvs.mono h1
  · rcases hcap with rfl | ⟨k, rfl, a, b⟩
    · trivial
    · exact ⟨a, b⟩
theorem rowT_app_last (h : Heap) (e : TypeId) (cs : List Value) : rowT (h ++ [.app e cs]) h.length = some (e, cs) := by simp [rowT]
theorem rowT_row_last (h : Heap) (b : Bool) (e : TypeId) (cs : List Value) : rowT (h ++ [.row b e cs]) h.length = some (e, cs) := by simp [rowT]
theorem stable_new (hc : VSim P c) (t : List Nat) (o : VO) (b : Ob) (ho : o.hard = false) : (⟨c.σ ++ [c.h.length], c.H ++ [o], c.h ++ [b], c.X⟩ : Cx).Stable c.h.length := by
  refine ⟨fun hX => ?_, fun i u hi hu hk => ?_⟩
  · have := hc.Xlt _ hX; omega
  · rcases app_get hi with ⟨h1, h2⟩ | ⟨h1, rfl⟩
    · rcases app_get hk with ⟨_, h3⟩ | ⟨h3, _⟩
      · have := hc.klt h2 (VO.live_of_hard hu) h3; omega
      · have h3 : i = c.σ.length := h3; rw [hc.len] at h3; omega
    · rw [ho] at hu; cases hu
/-- .. and a token comes with it. -/
theorem new_tok (hc : VSim P c) {e : TypeId} {es : List (List V)} {cs : List Value} (hvs : VRs P c es.flatten cs) (hcl : ∀ v ∈ es.flatten, pure1 v = true) (hl : ∀ y ∈ es, y.length = P.cellsOf e) (g : Nat) :
    Le c ⟨c.σ ++ [c.h.length], c.H ++ [.tok e g], c.h ++ [.app e cs], c.X⟩ ∧ VSim P ⟨c.σ ++ [c.h.length], c.H ++ [.tok e g], c.h ++ [.app e cs], c.X⟩ ∧
      VR P ⟨c.σ ++ [c.h.length], c.H ++ [.tok e g], c.h ++ [.app e cs], c.X⟩ (.sl e (.fz es (.tok c.H.length g))) (.slice (some ⟨c.h.length, 0, none⟩) es.length 0) := by
  obtain ⟨h1, h2⟩ := hc.add (.tok e g) (.app e cs) (fun d hd _ => ⟨cs, by rw [hd]; simp⟩)
  have hlen := hvs.length
  refine ⟨h1, h2, .slFz (rowT_app_last _ _ _) (stable_new hc [] _ _ rfl) (by omega) ?_ hcl hl ⟨rfl, by simp, fun e' g' ht => ?_⟩ (fun h => absurd rfl h)⟩
  · rw [List.drop_zero, hlen, List.take_of_length_le (Nat.le_refl _)]
    exact hvs.mono h1
  · simp at ht
    obtain ⟨rfl, rfl⟩ := ht
    refine ⟨Nat.le_refl _, fun _ => ⟨rfl, by simp [← hc.len], cs, rowT_app_last _ _ _, by omega⟩⟩
end
end Go.Proofs.Ytmpobijkbmljdaa.Sh.V
namespace Go.Proofs.Ytmpobijkbmljdaa.Sh.V
open Go.Proofs.Ytmpobijkbmljdaa.Sh
section
variable {P : Program} {c : Cx}
theorem appK_full {h : Heap} {sz : Nat} {e : TypeId} {ad : Addr} {n x m : Nat} {news old : List Value} (hm : ¬ m = 0) (hx : x ≠ 0) (hl : x - 1 < n + m) (hc : slCells h sz ⟨some ad, n, x⟩ = some old) :
    appK h sz e ⟨some ad, n, x⟩ m news = some (⟨some ⟨h.length, 0, none⟩, n + m, 0⟩, h ++ [.app e (old ++ news)]) := by
  simp [appK, hm, hx, hl, hc]
theorem appK_app {h : Heap} {sz : Nat} {e : TypeId} {ad : Addr} {n m : Nat} {news cs : List Value} (hm : ¬ m = 0) (hr : h[ad.block]? = some (.app e cs) ∨ h[ad.block]? = some (.row true e cs)) (he : ad.off + n * sz = cs.length) :
    appK h sz e ⟨some ad, n, 0⟩ m news = some (⟨some ⟨h.length, 0, none⟩, n + m, 0⟩, h.set ad.block (.row false e cs) ++ [.app e (cs.drop ad.off ++ news)]) := by
  rcases hr with hr | hr <;> simp [appK, hm, hr, he]
theorem appK_sim (hc : VSim P c) {e : TypeId} {sz : Nat} (hsz : sz = P.cellsOf e) {s : VS} {v' : Value} (hv : VR P c (.sl e s) v') {news : List (List V)} {news' : List Value} (hn : VRs P c news.flatten news') (hcl : ∀ v ∈ news.flatten, pure1 v = true)
    (hl : ∀ y ∈ news, y.length = sz) {r : VS × VH} (h : appW c.H e sz s news = some r) :
    ∃ a x q h' σ', v' = .slice a s.len x ∧ appK c.h sz e ⟨a, s.len, x⟩ news.length news' = some (q, h') ∧ Le c ⟨σ', r.2, h', c.X⟩ ∧ VSim P ⟨σ', r.2, h', c.X⟩ ∧ VR P ⟨σ', r.2, h', c.X⟩ (.sl e r.1) (.slice q.a q.n q.c) := by
  unfold appW at h
  obtain ⟨a, x, rfl, _⟩ := sl_form hv
  by_cases hm : news.length = 0
  · rw [if_pos hm] at h
    injection h with h
    subst h
    refine ⟨a, x, ⟨a, s.len, x⟩, c.h, c.σ, rfl, ?_, Le.refl c, hc, hv⟩
    unfold appK
    rw [if_pos hm]
  · rw [if_neg hm] at h
    cases s with
    | nil =>
      simp only [Option.some.injEq] at h
      subst h
      cases hv
      obtain ⟨h1, h2, h3⟩ := new_tok hc hn hcl (by rw [← hsz]; exact hl) news.length
      refine ⟨none, 0, ⟨some ⟨c.h.length, 0, none⟩, news.length, 0⟩, _, _, rfl, ?_, h1, h2, h3⟩
      unfold appK
      rw [if_neg hm]
      simp [VS.len]
    | fz es cap =>
      have hlf : ∀ {es2 : List (List V)}, (∀ y ∈ es2, y.length = P.cellsOf e) → ∀ y ∈ es2 ++ news, y.length = P.cellsOf e := by
        intro es2 h2 y hy
        rcases List.mem_append.1 hy with hy | hy
        · exact h2 y hy
        · rw [← hsz]; exact hl y hy
      have hcf : ∀ {es2 : List (List V)}, (∀ v ∈ es2.flatten, pure1 v = true) → ∀ v ∈ (es2 ++ news).flatten, pure1 v = true := by
        intro es2 h2 v hv
        rw [List.flatten_append] at hv
        rcases List.mem_append.1 hv with hv | hv
        · exact h2 v hv
        · exact hcl v hv
      cases cap with
      | no => simp at h
      | ex k =>
        simp only at h
        have h' := ite_some h
        clear h
        obtain ⟨hk, h⟩ := h'
        injection h with h
        subst h
        obtain ⟨a2, x2, cs', he, hcs, hvs, hlen, hcl2, hl2⟩ := slEs_sim hc hsz (s := .fz es (.ex k)) rfl hv
        injection he with e1 e2 e3
        subst e1 e3
        rw [hsz] at hl2
        obtain ⟨h1, h2, h3⟩ := new_tok hc (es := es ++ news) (cs := cs' ++ news') (by rw [List.flatten_append]; exact hvs.append hn) (hcf hcl2) (hlf hl2) (es.length + news.length)
        have hx : x = k + 1 := by
          cases hv with
          | slFz _ _ _ _ _ _ hcap _ => exact hcap.1
          | slEm _ hcap =>
            rcases hcap with h0 | ⟨k0, h0, h1⟩
            · cases h0
            · injection h0 with h0; omega
        refine ⟨a, x, ⟨some ⟨c.h.length, 0, none⟩, es.length + news.length, 0⟩, _, _, rfl, ?_, h1, h2, by rw [List.length_append] at h3; exact h3⟩
        cases a with
        | none => cases hv
        | some ad => exact appK_full hm (by omega) (by omega) hcs
      | tok t g =>
        simp only at h
        split at h
        · rename_i e' g' ht
          have h' := ite_some h
          clear h
          obtain ⟨⟨e1, e2⟩, h⟩ := h'
          subst e1 e2
          injection h with h
          subst h
          cases hv with
          | slEm _ hcap => rcases hcap with h0 | ⟨_, h0, _⟩ <;> cases h0
          | slFz hr hs hle hvs hcl2 hl2 hcap hx =>
            rename_i k off ys _
            obtain ⟨hx0, htl, hcap⟩ := hcap
            subst hx0
            obtain ⟨_, hcap⟩ := hcap _ _ ht
            obtain ⟨_, hσ, ys2, hr2, hfin⟩ := hcap rfl
            rw [hr] at hr2
            injection hr2 with hr2
            injection hr2 with _ hr2
            subst hr2
            obtain ⟨ys3, hrow⟩ := hc.ob t _ k ht hσ
            have hys : ys3 = ys := by
              unfold rowT at hr
              rw [hrow] at hr
              simp at hr
              exact hr
            subst hys
            obtain ⟨h1, h2⟩ := hc.advance ht hσ hrow (g' := g' + news.length) (by omega) (ys3.drop off ++ news')
            have hfl := flat_len hl2
            have hlt := rowT_lt hr
            have hdrop : (ys3.drop off).take es.flatten.length = ys3.drop off := List.take_of_length_le (by rw [List.length_drop]; omega)
            rw [hdrop] at hvs
            have hσl : t < c.σ.length := (List.getElem?_eq_some_iff.1 hσ).1
            have hnew : rowT (c.h.set k (.row false e' ys3) ++ [.app e' (ys3.drop off ++ news')]) c.h.length = some (e', ys3.drop off ++ news') := by
              have := rowT_app_last (c.h.set k (.row false e' ys3)) e' (ys3.drop off ++ news')
              rwa [List.length_set] at this
            have hst : (⟨c.σ.set t c.h.length, c.H.set t (.tok e' (g' + news.length)), c.h.set k (.row false e' ys3) ++ [.app e' (ys3.drop off ++ news')], c.X⟩ : Cx).Stable c.h.length := by
              refine ⟨fun hX => ?_, fun i u hi hu hk => ?_⟩
              · have := hc.Xlt _ hX; omega
              · rcases set_get hi with ⟨_, rfl, _⟩ | ⟨hne, hi⟩
                · cases hu
                · rcases set_get hk with ⟨h0, _, _⟩ | ⟨_, hk⟩
                  · exact hne h0
                  · have := hc.klt hi (VO.live_of_hard hu) hk; omega
            have hvs2 := hvs.append hn
            have hlen2 := hvs2.length
            refine ⟨_, _, ⟨some ⟨c.h.length, 0, none⟩, es.length + news.length, 0⟩, _, _, rfl, ?_, h1, h2, ?_⟩
            · refine appK_app (ad := ⟨k, off, none⟩) hm (.inl hrow) ?_
              show off + es.length * sz = _
              rw [hsz]; omega
            · have hfe : (es ++ news).flatten.length = (ys3.drop off ++ news').length := by rw [List.flatten_append]; exact hlen2
              have := VR.slFz (P := P) (c := ⟨c.σ.set t c.h.length, c.H.set t (.tok e' (g' + news.length)), c.h.set k (.row false e' ys3) ++ [.app e' (ys3.drop off ++ news')], c.X⟩) (es := es ++ news) (cap := .tok t (g' + news.length)) (off := 0) (x := 0) hnew hst
                (by omega) (by rw [List.drop_zero, hfe, List.take_of_length_le (Nat.le_refl _), List.flatten_append]; exact hvs2.mono h1) (hcf hcl2) (hlf hl2)
                ⟨rfl, by simpa using htl, fun e2 g2 ht2 => by
                  have ht2 : (c.H.set t (.tok e' (g' + news.length)))[t]? = some (.tok e2 g2) := ht2
                  rw [List.getElem?_set_self htl] at ht2
                  injection ht2 with ht2
                  injection ht2 with e1 e2
                  subst e1 e2
                  exact ⟨Nat.le_refl _, fun _ => ⟨rfl, by simp only; rw [List.getElem?_set_self hσl], _, hnew, by omega⟩⟩⟩ (fun h => absurd rfl h)
              rw [List.length_append] at this
              exact this
        · cases h
    | hp i off n =>
      simp only at h
      split at h
      · rename_i e' cs hi
        have h' := ite_some h
        clear h
        obtain ⟨⟨e1, hend, hcc⟩, h⟩ := h'
        subst e1
        injection h with h
        subst h
        cases hv with
        | slHp hk =>
          rename_i k _
          obtain ⟨hk, _⟩ := hk
          obtain ⟨ys, h1, h2⟩ := hc.row hi hk
          have hlen := h2.length
          have hklt := hc.klt hi rfl hk
          obtain ⟨t1, t2⟩ := hc.turn hi rfl hk .dead (.row false e' ys) rfl (fun _ _ _ => trivial)
          have hfl : (chunk sz n ((cs.drop off).map strip1)).flatten = (cs.drop off).map strip1 := by
            rw [chunk_flat, List.take_of_length_le (by simp; omega)]
          obtain ⟨h3, h4, h5⟩ := new_tok t2 (e := e') (es := chunk sz n ((cs.drop off).map strip1) ++ news) (cs := ys.drop off ++ news') (by
            rw [List.flatten_append, hfl]
            exact (((h2.drop off).map fun _ _ h => h.strip1).mono t1).append (hn.mono t1)) (by
            intro v hv
            rw [List.flatten_append, hfl] at hv
            rcases List.mem_append.1 hv with hv | hv
            · obtain ⟨u, hu, rfl⟩ := List.mem_map.1 hv
              exact closed_strip1 (List.all_eq_true.1 hcc u hu)
            · exact hcl v hv) (by
            intro y hy
            rcases List.mem_append.1 hy with hy | hy
            · rw [← hsz]; exact chunk_each _ _ _ (by simp; omega) y hy
            · rw [← hsz]; exact hl y hy) (n + news.length)
          simp only [List.length_set] at h3 h4 h5
          refine ⟨_, _, ⟨some ⟨c.h.length, 0, none⟩, n + news.length, 0⟩, _, _, rfl, ?_, t1.trans h3, h4, ?_⟩
          · refine appK_app (ad := ⟨k, off, none⟩) hm (.inr h1) ?_
            show off + n * sz = _
            omega
          · rw [List.length_append, chunk_len] at h5
            exact h5
      · cases h
end
end Go.Proofs.Ytmpobijkbmljdaa.Sh.V
namespace Go.Proofs.Ytmpobijkbmljdaa.Sh.V
open Go.Proofs.Ytmpobijkbmljdaa.Sh
section
variable {P : Program} {c : Cx}
theorem appV_nil {h : Heap} {sz m : Nat} {e : TypeId} {news : List Value} (hm : ¬ m = 0) : appV h sz e ⟨none, 0, 0⟩ m news = some (⟨some ⟨h.length, 0, none⟩, m, 0⟩, h ++ [.row true e news]) := by
  simp [appV, hm]
theorem appV_full {h : Heap} {sz : Nat} {e : TypeId} {ad : Addr} {n x m : Nat} {news old : List Value} (hm : ¬ m = 0) (hx : x ≠ 0) (hl : x - 1 < n + m) (hc : slCells h sz ⟨some ad, n, x⟩ = some old) :
    appV h sz e ⟨some ad, n, x⟩ m news = some (⟨some ⟨h.length, 0, none⟩, n + m, 0⟩, h ++ [.row true e (old ++ news)]) := by
  simp [appV, hm, hx, hl, hc]
theorem appV_end {h : Heap} {sz : Nat} {e : TypeId} {ad : Addr} {n m : Nat} {news cs : List Value} (hm : ¬ m = 0) (hr : h[ad.block]? = some (.row true e cs)) (he : ad.off + n * sz = cs.length) :
    appV h sz e ⟨some ad, n, 0⟩ m news = some (⟨some ⟨h.length, 0, none⟩, n + m, 0⟩, h.set ad.block .dead ++ [.row true e (cs.drop ad.off ++ news)]) := by
  simp [appV, hm, hr, he]
theorem appV_mid {h : Heap} {sz : Nat} {e : TypeId} {ad : Addr} {n m : Nat} {news cs : List Value} (hm : ¬ m = 0) (hr : h[ad.block]? = some (.row true e cs)) (hne : ¬ ad.off + n * sz = cs.length) (he : ad.off + n * sz ≤ cs.length) :
    appV h sz e ⟨some ad, n, 0⟩ m news = some (⟨some ⟨h.length, 0, none⟩, n + m, 0⟩, h.set ad.block .dead ++ [.row true e ((cs.take (ad.off + n * sz)).drop ad.off ++ news)]) := by
  simp [appV, hm, hr, hne, he]
/-- A new object. -/
theorem new_row (hc : VSim P c) (e : TypeId) {cs : List V} {ys : List Value} (hv : VRs P c cs ys) :
    Le c ⟨c.σ ++ [c.h.length], c.H ++ [.row e cs], c.h ++ [.row true e ys], c.X⟩ ∧ VSim P ⟨c.σ ++ [c.h.length], c.H ++ [.row e cs], c.h ++ [.row true e ys], c.X⟩ ∧
      (⟨c.σ ++ [c.h.length], c.H ++ [.row e cs], c.h ++ [.row true e ys], c.X⟩ : Cx).Hard c.H.length c.h.length := by
  obtain ⟨h1, h2⟩ := hc.add (.row e cs) (.row true e ys) (fun d hd hle => ⟨ys, by rw [hd]; simp, hv.mono hle⟩)
  exact ⟨h1, h2, by simp [← hc.len], .row e cs, by simp, rfl⟩
theorem appH_sim (hc : VSim P c) {e : TypeId} {sz : Nat} (hsz : sz = P.cellsOf e) {s : VS} {v' : Value} (hv : VR P c (.sl e s) v') {news : List (List V)} {news' : List Value} (hn : VRs P c news.flatten news') {r : VS × VH} (h : appH c.H e sz s news = some r) :
    ∃ a x q h' σ', v' = .slice a s.len x ∧ appV c.h sz e ⟨a, s.len, x⟩ news.length news' = some (q, h') ∧ Le c ⟨σ', r.2, h', c.X⟩ ∧ VSim P ⟨σ', r.2, h', c.X⟩ ∧ VR P ⟨σ', r.2, h', c.X⟩ (.sl e r.1) (.slice q.a q.n q.c) := by
  unfold appH at h
  obtain ⟨a, x, rfl, _⟩ := sl_form hv
  by_cases hm : news.length = 0
  · rw [if_pos hm] at h
    injection h with h
    subst h
    refine ⟨a, x, ⟨a, s.len, x⟩, c.h, c.σ, rfl, ?_, Le.refl c, hc, hv⟩
    unfold appV
    rw [if_pos hm]
  · rw [if_neg hm] at h
    cases s with
    | nil =>
      simp only [Option.some.injEq] at h
      subst h
      cases hv
      obtain ⟨h1, h2, h3⟩ := new_row hc e hn
      exact ⟨none, 0, _, _, _, rfl, appV_nil hm, h1, h2, .slHp h3⟩
    | fz es cap =>
      cases cap with
      | no => simp at h
      | tok t g => simp at h
      | ex k =>
        simp only at h
        have h' := ite_some h
        clear h
        obtain ⟨hk, h⟩ := h'
        injection h with h
        subst h
        obtain ⟨a2, x2, cs', he, hcs, hvs, hlen, hcl2, hl2⟩ := slEs_sim hc hsz (s := .fz es (.ex k)) rfl hv
        injection he with e1 e2 e3
        subst e1 e3
        have hx : x = k + 1 := by
          cases hv with
          | slFz _ _ _ _ _ _ hcap _ => exact hcap.1
          | slEm _ hcap =>
            rcases hcap with h0 | ⟨k0, h0, h1⟩
            · cases h0
            · injection h0 with h0; omega
        obtain ⟨h1, h2, h3⟩ := new_row hc e (hvs.append hn)
        cases a with
        | none => cases hv
        | some ad => exact ⟨_, _, _, _, _, rfl, appV_full hm (by omega) (by omega) hcs, h1, h2, .slHp h3⟩
    | hp i off n =>
      simp only at h
      split at h
      · rename_i e' cs hi
        by_cases hcond : e' = e ∧ off + n * sz = cs.length
        · rw [if_pos hcond] at h
          obtain ⟨e1, hend⟩ := hcond
          subst e1
          injection h with h
          subst h
          cases hv with
          | slHp hk =>
            rename_i k _
            obtain ⟨hk, _⟩ := hk
            obtain ⟨ys, h1, h2⟩ := hc.row hi hk
            have hlen := h2.length
            obtain ⟨t1, t2⟩ := hc.turn hi rfl hk .dead .dead rfl (fun _ _ _ => trivial)
            obtain ⟨h3, h4, h5⟩ := new_row t2 e' (((h2.drop off).mono t1).append (hn.mono t1))
            simp only [List.length_set] at h3 h4 h5
            refine ⟨_, _, _, _, _, rfl, appV_end (ad := ⟨k, off, none⟩) hm h1 ?_, t1.trans h3, h4, .slHp h5⟩
            show off + n * sz = _
            omega
        · rw [if_neg hcond] at h
          have h' := ite_some h
          clear h
          obtain ⟨⟨e1, hle⟩, h⟩ := h'
          subst e1
          have hne : ¬ off + n * sz = cs.length := fun hh => hcond ⟨rfl, hh⟩
          injection h with h
          subst h
          cases hv with
          | slHp hk =>
            rename_i k _
            obtain ⟨hk, _⟩ := hk
            obtain ⟨ys, h1, h2⟩ := hc.row hi hk
            have hlen := h2.length
            obtain ⟨t1, t2⟩ := hc.turn hi rfl hk .dead .dead rfl (fun _ _ _ => trivial)
            obtain ⟨h3, h4, h5⟩ := new_row t2 e' ((((h2.take (off + n * sz)).drop off).mono t1).append (hn.mono t1))
            simp only [List.length_set] at h3 h4 h5
            refine ⟨_, _, _, _, _, rfl, appV_mid (ad := ⟨k, off, none⟩) hm h1 ?_ ?_, t1.trans h3, h4, .slHp h5⟩
            · show ¬ off + n * sz = _
              omega
            · show off + n * sz ≤ _
              omega
      · cases h
theorem appX_sim (hc : VSim P c) {e : TypeId} {sz : Nat} (hsz : sz = P.cellsOf e) {s : VS} {v' : Value} (hv : VR P c (.sl e s) v') {news : List (List V)} {news' : List Value} (hn : VRs P c news.flatten news') (hcl : ∀ v ∈ news.flatten, pure1 v = true)
    (hl : ∀ y ∈ news, y.length = sz) {keep : Bool} {r : VS × VH} (h : cond keep (appW c.H e sz s news) (appH c.H e sz s news) = some r) :
    ∃ a x q h' σ', v' = .slice a s.len x ∧ Sh.appX keep c.h sz e ⟨a, s.len, x⟩ news.length news' = some (q, h') ∧ Le c ⟨σ', r.2, h', c.X⟩ ∧ VSim P ⟨σ', r.2, h', c.X⟩ ∧ VR P ⟨σ', r.2, h', c.X⟩ (.sl e r.1) (.slice q.a q.n q.c) := by
  cases keep with
  | true => exact appK_sim hc hsz hv hn hcl hl h
  | false => exact appH_sim hc hsz hv hn h
theorem chunk_flat2 (sz : Nat) : ∀ (n : Nat) (cs : List V), n * sz ≤ cs.length → (chunk sz n cs).flatten = cs.take (n * sz) ∧ (chunk sz n cs).length = n
  | 0, cs, _ => by simp [chunk]
  | n + 1, cs, h => by
    rw [Nat.succ_mul] at h
    obtain ⟨a, b⟩ := chunk_flat2 sz n (cs.drop sz) (by rw [List.length_drop]; omega)
    constructor
    · show cs.take sz ++ (chunk sz n (cs.drop sz)).flatten = _
      rw [a, Nat.succ_mul, Nat.add_comm (n * sz) sz, List.take_add]
    · show (chunk sz n (cs.drop sz)).length + 1 = _
      rw [b]
theorem slOp_sim (hc : VSim P c) {e : TypeId} {sz : Nat} (hsz : sz = P.cellsOf e) {s : VS} {es : List (List V)} {v' : Value} (h : slOp c.H e sz s = some es) (hv : VR P c (.sl e s) v') :
    ∃ a x cs', v' = .slice a s.len x ∧ slCells c.h sz ⟨a, s.len, x⟩ = some cs' ∧ VRs P c es.flatten cs' ∧ es.length = s.len := by
  unfold slOp at h
  cases hs : slEs c.H e sz s with
  | some es2 =>
    rw [hs] at h
    injection h with h
    subst h
    obtain ⟨a, x, cs', h1, h2, h3, h4, _, _⟩ := slEs_sim hc hsz hs hv
    exact ⟨a, x, cs', h1, h2, h3, h4⟩
  | none =>
    rw [hs] at h
    subst hsz
    cases s with
    | nil => cases h
    | fz es cap => cases h
    | hp i off n =>
      simp only at h
      cases hi : c.H[i]? with
      | none => rw [hi] at h; cases h
      | some o =>
        rw [hi] at h
        cases o with
        | row e' cs =>
          simp only at h
          obtain ⟨⟨rfl, hle⟩, h⟩ := ite_some h
          injection h with h
          subst h
          cases hv with
          | slHp hk =>
            obtain ⟨hk, _⟩ := hk
            obtain ⟨ys, h1, h2⟩ := hc.row hi hk
            have hlen := h2.length
            obtain ⟨f1, f2⟩ := chunk_flat2 (P.cellsOf e') n ((cs.drop off).take (n * P.cellsOf e')) (by rw [List.length_take, List.length_drop]; omega)
            refine ⟨_, 0, (ys.drop off).take (n * P.cellsOf e'), rfl, ?_, ?_, f2⟩
            · show (if n = 0 then some [] else cellsAt c.h ⟨_, off, none⟩ (n * P.cellsOf e')) = _
              by_cases h0 : n = 0
              · rw [if_pos h0, h0, Nat.zero_mul]; rfl
              · rw [if_neg h0]
                simp only [cellsAt, rowOf, h1, Option.bind_some]
                rw [if_pos (by omega)]
            · rw [f1, List.take_take, Nat.min_self]
              exact (h2.drop off).take _
        | _ => cases h
theorem appD_sim (hc : VSim P c) {e : TypeId} {sz by_ : Nat} (hsz : sz = P.cellsOf e) {s x : VS} {v' u' : Value} (hv : VR P c (.sl e s) v') (hu : VR P c (.sl e x) u') {keep : Bool} {r : VS × VH} (h : appD keep c.H sz by_ e s x = some r) :
    ∃ a n cp a' n' cp' q h' σ', v' = .slice a n cp ∧ u' = .slice a' n' cp' ∧ Sh.appD keep c.h sz by_ e ⟨a, n, cp⟩ ⟨a', n', cp'⟩ = some (q, h') ∧ Le c ⟨σ', r.2, h', c.X⟩ ∧ VSim P ⟨σ', r.2, h', c.X⟩ ∧ VR P ⟨σ', r.2, h', c.X⟩ (.sl e r.1) (.slice q.a q.n q.c) := by
  unfold appD at h
  rw [holdV_eq] at h
  have h' := ite_some h
  clear h
  obtain ⟨hb, h⟩ := h'
  cases keep with
  | true =>
    rw [cond_true, Option.bind_eq_some_iff] at h
    obtain ⟨news, hn, h⟩ := h
    obtain ⟨a', cp', cs', rfl, hcs, hvs, hlen, hcl, hl⟩ := slEs_sim hc hsz hn hu
    obtain ⟨a, cp, q, h', σ', rfl, h1, h2, h3, h4⟩ := appX_sim hc hsz hv hvs hcl hl (keep := true) h
    refine ⟨a, s.len, cp, a', x.len, cp', q, h', σ', rfl, rfl, ?_, h2, h3, h4⟩
    unfold Sh.appD
    rw [hold_eq, if_pos hb, hcs, Option.bind_some, ← hlen]
    exact h1
  | false =>
    rw [cond_false, Option.bind_eq_some_iff] at h
    obtain ⟨news, hn, h⟩ := h
    obtain ⟨a', cp', cs', rfl, hcs, hvs, hlen⟩ := slOp_sim hc hsz hn hu
    obtain ⟨a, cp, q, h', σ', rfl, h1, h2, h3, h4⟩ := appH_sim hc hsz hv hvs h
    refine ⟨a, s.len, cp, a', x.len, cp', q, h', σ', rfl, rfl, ?_, h2, h3, h4⟩
    unfold Sh.appD
    rw [hold_eq, if_pos hb, hcs, Option.bind_some, ← hlen]
    exact h1
theorem bytesE_flat (s : ByteArray) : (bytesE s).flatten = s.data.toList.map fun b => .int .u8 b.toNat := by
  unfold bytesE
  induction s.data.toList with
  | nil => rfl
  | cons b l ih => simp only [List.map_cons, List.flatten_cons, ih]; rfl
theorem bytesE_rel (s : ByteArray) : VRs P c (bytesE s).flatten (byteVals s) ∧ (∀ v ∈ (bytesE s).flatten, pure1 v = true) ∧ (∀ y ∈ bytesE s, y.length = 1) ∧ (bytesE s).length = s.size := by
  refine ⟨?_, ?_, ?_, by simp [bytesE]⟩
  · rw [bytesE_flat]
    unfold byteVals
    induction s.data.toList with
    | nil => exact .nil
    | cons b l ih => exact .cons (.int _ _) ih
  · rw [bytesE_flat]
    intro v hv
    obtain ⟨b, _, rfl⟩ := List.mem_map.1 hv
    rfl
  · intro y hy
    obtain ⟨b, _, rfl⟩ := List.mem_map.1 hy
    rfl
theorem appS_sim (hc : VSim P c) {e : TypeId} (hsz : P.cellsOf e = 1) {s : VS} {x : ByteArray} {v' : Value} (hv : VR P c (.sl e s) v') {keep : Bool} {r : VS × VH} (h : appS keep c.H e s x = some r) :
    ∃ a n cp q h' σ', v' = .slice a n cp ∧ Sh.appS keep c.h e ⟨a, n, cp⟩ x = some (q, h') ∧ Le c ⟨σ', r.2, h', c.X⟩ ∧ VSim P ⟨σ', r.2, h', c.X⟩ ∧ VR P ⟨σ', r.2, h', c.X⟩ (.sl e r.1) (.slice q.a q.n q.c) := by
  unfold appS at h
  rw [holdV_eq] at h
  have h' := ite_some h
  clear h
  obtain ⟨hb, h⟩ := h'
  obtain ⟨b1, b2, b3, b4⟩ := bytesE_rel (P := P) (c := c) x
  obtain ⟨a, cp, q, h', σ', rfl, h1, h2, h3, h4⟩ := appX_sim hc hsz.symm hv b1 b2 b3 h
  refine ⟨a, s.len, cp, q, h', σ', rfl, ?_, h2, h3, h4⟩
  unfold Sh.appS
  rw [hold_eq, if_pos hb, ← b4]
  exact h1
/-! ### Pieces, elements, cells that are written -/
theorem bd_mono {d y y' n : Nat} {x : Option Int} (h : bd d x y = some n) (hy : y ≤ y') : bd d x y' = some n := by
  cases x with
  | none => exact h
  | some x =>
    simp only [bd] at h ⊢
    obtain ⟨h0, h1, rfl⟩ := inB_some h
    unfold inB
    rw [if_pos ⟨h0, by omega⟩]
theorem bd_up {d y n : Nat} {x : Option Int} (h : bd d x y = some n) (hd : d ≤ y) : n ≤ y := by have := bd_le h; omega
theorem capOf_ge (hc : VSim P c) {e : TypeId} {s : VS} {a : Addr} {x : Nat} (hv : VR P c (.sl e s) (.slice (some a) s.len x)) (hrow : ∀ i off n, s = .hp i off n → ∃ cs, c.H[i]? = some (.row e cs)) :
    ∃ m, capOf c.h (P.cellsOf e) e ⟨some a, s.len, x⟩ = some m ∧ s.len ≤ m := by
  by_cases hx : x = 0
  · subst hx
    have key : ∀ {k off : Nat} {ys : List Value}, rowT c.h k = some (e, ys) → ∃ m, capOf c.h (P.cellsOf e) e ⟨some ⟨k, off, none⟩, s.len, 0⟩ = some m ∧ s.len ≤ m := by
      intro k off ys hr
      unfold rowT at hr
      split at hr
      · rename_i b e' cs h1
        injection hr with hr; injection hr with e1 e2; subst e1 e2
        exact ⟨max s.len ((cs.length - off) / P.cellsOf e'), by simp [capOf, h1], Nat.le_max_left _ _⟩
      · rename_i e' cs h1
        injection hr with hr; injection hr with e1 e2; subst e1 e2
        exact ⟨max s.len ((cs.length - off) / P.cellsOf e'), by simp [capOf, h1], Nat.le_max_left _ _⟩
      · cases hr
    cases s with
    | nil => cases hv
    | fz es cap =>
      cases hv with
      | slFz hr _ _ _ _ _ _ _ => exact key hr
      | slEm hx _ => exact absurd rfl hx
    | hp i off n =>
      obtain ⟨cs, hi⟩ := hrow i off n rfl
      cases hv with
      | slHp hk =>
        obtain ⟨hk, _⟩ := hk
        obtain ⟨ys, h1, _⟩ := hc.row hi hk
        exact key (ys := ys) (by unfold rowT; rw [h1])
  · refine ⟨x - 1, by simp [capOf, hx], ?_⟩
    cases s with
    | nil => cases hv
    | fz es cap =>
      cases hv with
      | slFz _ _ _ _ _ _ _ hl => have := hl hx; simp only [VS.len]; omega
      | slEm _ _ => simp [VS.len]
    | hp i off n => cases hv with | slHp _ => exact absurd rfl hx
theorem cut_sim (hc : VSim P c) {e : TypeId} (hz : P.cellsOf e ≠ 0) {s r : VS} {v' : Value} (hv : VR P c (.sl e s) v') {lo hi mx : Option Int} (hmx : mx.isSome = true → hi.isSome = true) (h : cutD c.H e (P.cellsOf e) s lo hi mx = some r) :
    ∃ a n x q, v' = .slice a n x ∧ Sh.cutD c.h (P.cellsOf e) e ⟨a, n, x⟩ lo hi mx = some q ∧ VR P c (.sl e r) (.slice q.a q.n q.c) := by
  unfold cutD at h
  rw [holdV_eq] at h
  obtain ⟨a, x, rfl, ha⟩ := sl_form hv
  unfold Sh.cutD
  cases s with
  | nil =>
    simp only [cutV, Option.bind_eq_some_iff] at h
    obtain ⟨m, h1, hh, h2, l, h3, h⟩ := h
    injection h with h
    subst h
    cases hv
    have e1 := bd_up h1 (Nat.le_refl _)
    have e2 : hh ≤ m := bd_up h2 (by omega)
    have e3 : l ≤ hh := bd_up h3 (by omega)
    refine ⟨none, 0, 0, ⟨none, 0, 0⟩, rfl, ?_, .slNil⟩
    rw [hold_eq]
    simp only [capOf, VS.len, and_self, if_true, Option.bind_some]
    rw [h1, Option.bind_some, h2, Option.bind_some, h3, Option.bind_some]
    simp only [Option.map_none, Option.isSome_none, Sh.capCut, cond_false]
    rw [show hh - l = 0 by omega]
  | fz es cap =>
    obtain ⟨ad, rfl⟩ : ∃ ad, a = some ad := by cases a with | none => simp [VS.isNil] at ha | some ad => exact ⟨ad, rfl⟩
    obtain ⟨m, hm, hle⟩ := capOf_ge hc hv (fun i off n h => by cases h)
    have piece : ∀ {hh l x' : Nat} {cap' : VC}, l ≤ hh → hh ≤ es.length → (x' ≠ 0 → hh - l < x') →
        (∀ k off ys, rowT c.h k = some (e, ys) → c.Stable k → ad = ⟨k, off, none⟩ → (∀ y ∈ es, y.length = P.cellsOf e) → c.Cap cap e es.length x k (off + es.flatten.length) → c.Cap cap' e (hh - l) x' k (off + l * P.cellsOf e + ((es.take hh).drop l).flatten.length)) →
        (es = [] → x ≠ 0 → (cap = .no ∨ ∃ k0, cap = .ex k0 ∧ x = k0 + 1) → x' ≠ 0 ∧ (cap' = .no ∨ ∃ k0, cap' = .ex k0 ∧ x' = k0 + 1)) →
        VR P c (.sl e (.fz ((es.take hh).drop l) cap')) (.slice (some (Sh.at_ ad (l * P.cellsOf e))) (hh - l) x') := by
      intro hh l x' cap' hl hhl hx' hcap' hem
      cases hv with
      | slFz hr hs hle2 hvs hcl hel hcap hx =>
        rename_i k off ys
        have hfl : ((es.take hh).drop l).flatten = (es.flatten.take (hh * P.cellsOf e)).drop (l * P.cellsOf e) := by
          rw [flat_drop (fun y hy => hel y (List.mem_of_mem_take hy)), flat_take hel]
        have hfe := flat_len hel
        have hmul : hh * P.cellsOf e ≤ es.length * P.cellsOf e := Nat.mul_le_mul_right _ hhl
        have hmul2 : l * P.cellsOf e ≤ hh * P.cellsOf e := Nat.mul_le_mul_right _ hl
        have hlen2 : ((es.take hh).drop l).flatten.length = hh * P.cellsOf e - l * P.cellsOf e := by
          rw [hfl, List.length_drop, List.length_take]; omega
        have hle3 : ((es.take hh).drop l).length = hh - l := by rw [List.length_drop, List.length_take]; omega
        have hsub : ∀ v ∈ ((es.take hh).drop l).flatten, v ∈ es.flatten := by
          intro v hv
          rw [hfl] at hv
          exact List.mem_of_mem_take (List.mem_of_mem_drop hv)
        have hvs2 : VRs P c ((es.take hh).drop l).flatten ((ys.drop (off + l * P.cellsOf e)).take ((es.take hh).drop l).flatten.length) := by
          have h1 := (hvs.take (hh * P.cellsOf e)).drop (l * P.cellsOf e)
          have e1 : (((ys.drop off).take es.flatten.length).take (hh * P.cellsOf e)).drop (l * P.cellsOf e) = (ys.drop (off + l * P.cellsOf e)).take (hh * P.cellsOf e - l * P.cellsOf e) := by
            rw [List.take_take, Nat.min_eq_left (by omega), List.drop_take, List.drop_drop]
          rw [e1, ← hfl] at h1
          rw [hlen2]
          exact h1
        have := VR.slFz (P := P) (c := c) (e := e) (es := (es.take hh).drop l) (cap := cap') (k := k) (off := off + l * P.cellsOf e) (x := x') hr hs (by omega) hvs2 (fun v hv => hcl v (hsub v hv))
          (fun y hy => hel y (List.mem_of_mem_take (List.mem_of_mem_drop hy))) (by rw [hle3]; exact hcap' k off ys hr hs rfl hel hcap) (by rw [hle3]; exact hx')
        rw [hle3] at this
        exact this
      | slEm hx hcap =>
        have h0 : hh = 0 := by simp at hhl; omega
        subst h0
        have h1 : l = 0 := by omega
        subst h1
        obtain ⟨h2, h3⟩ := hem rfl hx hcap
        have := fun k off => VR.slEm (P := P) (c := c) (e := e) (k := k) (off := off) h2 h3
        simpa [Sh.at_] using this _ _
    cases mx with
    | none =>
      simp only [cutV, Option.bind_eq_some_iff] at h
      obtain ⟨hh, h2, l, h3, h⟩ := h
      injection h with h
      subst h
      have e2 : hh ≤ es.length := bd_up h2 (Nat.le_refl _)
      have e3 : l ≤ hh := bd_up h3 (by omega)
      refine ⟨_, _, _, ⟨some (Sh.at_ ad (l * P.cellsOf e)), hh - l, if x = 0 then 0 else x - l⟩, rfl, ?_, piece e3 e2 ?_ ?_ ?_⟩
      · rw [hold_eq, hm]
        simp only [Option.bind_some]
        show (bd es.length hi m).bind _ = _
        rw [bd_mono h2 hle, Option.bind_some, h3, Option.bind_some]
        simp [Sh.capCut]
      · intro hx'
        simp only at hx' ⊢
        by_cases hx : x = 0
        · simp [hx] at hx'
        · rw [if_neg hx]
          cases hv with
          | slFz _ _ _ _ _ _ _ hl => have := hl hx; omega
          | slEm hx _ => simp only [List.length_nil] at e2; omega
      · intro k off ys hr hs had hel hcap
        cases cap with
        | no => trivial
        | ex k0 =>
          obtain ⟨h4, h5⟩ := hcap
          refine ⟨?_, by omega⟩
          simp only
          rw [if_neg (by omega)]; omega
        | tok t g =>
          simp only [capCut]
          split
          · rename_i hhe
            obtain ⟨h4, h5, h6⟩ := hcap
            refine ⟨by rw [if_pos h4], h5, fun e' g' ht => ?_⟩
            obtain ⟨h7, h8⟩ := h6 e' g' ht
            refine ⟨h7, fun hg => ?_⟩
            obtain ⟨h9, h10, ys2, h11, h12⟩ := h8 hg
            refine ⟨h9, h10, ys2, h11, ?_⟩
            rw [← h12, hhe, List.take_length, flat_drop hel, List.length_drop, flat_len hel]
            have : l * P.cellsOf e ≤ es.length * P.cellsOf e := Nat.mul_le_mul_right _ (by omega)
            omega
          · trivial
      · intro hes hx hcap
        subst hes
        simp only [List.length_nil] at e2
        show (if x = 0 then 0 else x - l) ≠ 0 ∧ (_ ∨ ∃ k0, _ ∧ (if x = 0 then 0 else x - l) = k0 + 1)
        rw [if_neg hx]
        refine ⟨by omega, ?_⟩
        rcases hcap with rfl | ⟨k0, rfl, hxx⟩
        · exact .inl rfl
        · exact .inr ⟨k0 - l, rfl, by omega⟩
    | some mm =>
      simp only [cutV, Option.bind_eq_some_iff] at h
      obtain ⟨m2, h1, hh, h2, l, h3, h⟩ := h
      injection h with h
      subst h
      obtain ⟨b0, b1, b2⟩ := inB_some h1
      have e1 : m2 ≤ es.length := by omega
      have h1' : bd m (some mm) m = some m2 := by
        simp only [bd]
        unfold inB
        simp only [VS.len] at hle
        rw [if_pos ⟨b0, by omega⟩, b2]
      cases hi with
      | none => have := hmx rfl; cases this
      | some hi =>
        have e2 : hh ≤ m2 := by
          simp only [bd] at h2
          have := inB_some h2
          omega
        have e3 : l ≤ hh := bd_up h3 (by omega)
        refine ⟨_, _, _, ⟨some (Sh.at_ ad (l * P.cellsOf e)), hh - l, m2 - l + 1⟩, rfl, ?_, piece e3 (by omega) (fun _ => by show hh - l < m2 - l + 1; omega) (fun k off ys _ _ _ _ _ => ⟨rfl, by omega⟩) (fun _ _ _ => ⟨Nat.succ_ne_zero _, .inr ⟨_, rfl, rfl⟩⟩)⟩
        rw [hold_eq, hm]
        simp only [Option.bind_some]
        rw [h1', Option.bind_some]
        have h2' : bd (VS.fz es cap).len (some hi) m2 = some hh := h2
        rw [h2', Option.bind_some, h3, Option.bind_some]
        simp [Sh.capCut]
  | hp i off n =>
    simp only [cutV] at h
    split at h
    · rename_i e' cs hi'
      have h' := ite_some h
      clear h
      obtain ⟨he, h⟩ := h'
      subst he
      simp only [Option.bind_eq_some_iff] at h
      obtain ⟨hh, h2, l, h3, h⟩ := h
      injection h with h
      subst h
      obtain ⟨ad, rfl⟩ : ∃ ad, a = some ad := by cases a with | none => simp [VS.isNil] at ha | some ad => exact ⟨ad, rfl⟩
      obtain ⟨m, hm, hle⟩ := capOf_ge hc hv (fun i off n h => by injection h with h1 h2 h3; subst h1; exact ⟨cs, hi'⟩)
      cases hv with
      | slHp hk =>
        rename_i k
        refine ⟨_, _, _, ⟨some (Sh.at_ ⟨k, off, none⟩ (l * P.cellsOf e')), hh - l, 0⟩, rfl, ?_, .slHp hk⟩
        rw [hold_eq, hm]
        simp only [Option.bind_some]
        show (bd n hi m).bind _ = _
        rw [bd_mono h2 hle, Option.bind_some, h3, Option.bind_some]
        simp [Sh.capCut]
    · cases h
end
end Go.Proofs.Ytmpobijkbmljdaa.Sh.V
namespace Go.Proofs.Ytmpobijkbmljdaa.Sh.V
open Go.Proofs.Ytmpobijkbmljdaa.Sh
section
variable {P : Program} {c : Cx} {G : Cx → V × VH → Value × Heap → Prop}
theorem eBin_par {β γ : Type} {op : BinOp} {T rt : TypeId} {x y : Value} {K : Value → Option β} {r : β} (h : eBin P op T rt x y K = some r) : ∃ v, K v = some r ∧ ∀ K' : Value → Option γ, eBin P op T rt x y K' = K' v := by
  unfold eBin at h
  unfold eBin
  split at h
  · rename_i k a k' b
    cases op <;> simp only at h ⊢ <;> first
      | (rw [Option.bind_eq_some_iff] at h; obtain ⟨q, hq, h⟩ := h; exact ⟨_, h, fun K' => by rw [hq]; rfl⟩)
      | (have h' := ite_some h
         clear h
         obtain ⟨hk, h⟩ := h'
         first
           | (rw [Option.bind_eq_some_iff] at h; obtain ⟨q, hq, h⟩ := h; exact ⟨_, h, fun K' => by rw [if_pos hk, hq]; rfl⟩)
           | exact ⟨_, h, fun K' => by rw [if_pos hk]⟩)
  · cases op <;> simp only at h ⊢ <;> first
      | (cases h; done)
      | exact ⟨_, h, fun K' => rfl⟩
      | (rw [Option.bind_eq_some_iff] at h; obtain ⟨q, hq, h⟩ := h; exact ⟨_, h, fun K' => by rw [hq]; rfl⟩)
  · split at h
    · rename_i hT
      cases op <;> simp only at h <;> first
        | (cases h; done)
        | exact ⟨_, h, fun K' => by simp only [hT]⟩
    · cases h
  · split at h
    · rename_i e hT
      rw [Option.bind_eq_some_iff] at h
      obtain ⟨q, hq, h⟩ := h
      cases op <;> simp only at h <;> first
        | (cases h; done)
        | exact ⟨_, h, fun K' => by simp only [hT, hq, Option.bind_some]⟩
    · cases h
  · split at h
    · rename_i e hT
      cases op <;> simp only at h <;> first
        | (cases h; done)
        | exact ⟨_, h, fun K' => by simp only [hT]⟩
    · cases h
  · split at h
    · rename_i e hT
      cases op <;> simp only at h <;> first
        | (cases h; done)
        | exact ⟨_, h, fun K' => by simp only [hT]⟩
    · cases h
  · rw [Option.bind_eq_some_iff] at h
    obtain ⟨q, hq, h⟩ := h
    exact ⟨_, h, fun K' => by simp only [hq, Option.bind_some]⟩
  · cases h
theorem eUn_par {β γ : Type} {op : UnOp} {rt : TypeId} {x : Value} {K : Value → Option β} {r : β} (h : eUn P op rt x K = some r) : ∃ v, K v = some r ∧ ∀ K' : Value → Option γ, eUn P op rt x K' = K' v := by
  unfold eUn at h
  unfold eUn
  split at h
  · exact ⟨_, h, fun K' => rfl⟩
  · exact ⟨_, h, fun K' => rfl⟩
  · rename_i h1 h2
    have h' := ite_some h
    clear h
    obtain ⟨hp, h⟩ := h'
    rw [Option.bind_eq_some_iff] at h
    obtain ⟨q, hq, h⟩ := h
    refine ⟨_, h, fun K' => ?_⟩
    rw [if_pos hp, hq]
    rfl
theorem eConv_par {β γ : Type} {src dst : TypeId} {x : Value} {K : Value → Option β} {r : β} (h : eConv P src dst x K = some r) : ∃ v, K v = some r ∧ ∀ K' : Value → Option γ, eConv P src dst x K' = K' v := by
  unfold eConv at h
  unfold eConv
  split at h <;> first
    | (cases h; done)
    | (rename_i h1 h2
       exact ⟨_, h, fun K' => by simp only [h1, h2]⟩)
    | (rename_i h1 h2
       rw [Option.bind_eq_some_iff] at h
       obtain ⟨q, hq, h⟩ := h
       exact ⟨_, h, fun K' => by simp only [h1, h2, hq, Option.bind_some]⟩)
theorem toP_rel {v : V} {a v' : Value} (h : toP v = some a) (hv : VR P c v v') : v' = a := by
  cases hv <;> simp only [toP, Option.some.injEq, reduceCtorEq] at h <;> exact h
theorem ofP_rel {a : Value} {u : V} (h : ofP a = some u) : VR P c u a := by
  unfold ofP at h
  split at h <;> first
    | (injection h with h; subst h; first | exact .bool _ | exact .int _ _ | exact .flt _ _ | exact .str _)
    | cases h
theorem ofC1_rel {a : Value} {u : V} (h : ofC1 a = some u) : plainV a = true ∧ VR P c u a := by
  unfold ofC1 at h
  split at h
  case h_9 n cc =>
    obtain ⟨⟨rfl, rfl⟩, h⟩ := ite_some h
    injection h with h; subst h
    exact ⟨rfl, .slNil⟩
  all_goals first
    | (injection h with h; subst h; refine ⟨rfl, ?_⟩; first | exact .bool _ | exact .int _ _ | exact .flt _ _ | exact .str _ | exact .ptrNil | exact .mapNil | exact .nilFunc | exact .nilIface | exact .func .nil .nil)
    | cases h
theorem ofCs_rel : ∀ {l : List Value} {us : List V}, ofCs l = some us → plainVs l = true ∧ VRs P c us l
  | [], us, h => by simp only [ofCs, Option.some.injEq] at h; subst h; exact ⟨rfl, .nil⟩
  | v :: l, us, h => by
    simp only [ofCs, Option.bind_eq_some_iff, Option.map_eq_some_iff] at h
    obtain ⟨u, hu, r, hr, rfl⟩ := h
    obtain ⟨h1, h2⟩ := ofC1_rel (P := P) (c := c) hu
    obtain ⟨h3, h4⟩ := ofCs_rel hr
    exact ⟨by simp [plainVs, h1, h3], .cons h2 h4⟩
theorem ofC_rel {a : Value} {u : V} (h : ofC a = some u) : plainC a = true ∧ VR P c u a := by
  unfold ofC at h
  split at h
  · rename_i l
    rw [Option.map_eq_some_iff] at h
    obtain ⟨us, hu, rfl⟩ := h
    obtain ⟨h1, h2⟩ := ofCs_rel (P := P) (c := c) hu
    exact ⟨h1, .agg h2⟩
  · rename_i hne
    obtain ⟨h1, h2⟩ := ofC1_rel (P := P) (c := c) h
    refine ⟨?_, h2⟩
    unfold plainC
    split
    · rename_i l; exact absurd rfl (hne l)
    · exact h1
theorem ev_sim {t : List V} {t' : List Value} (ht : VRs P c t t') {x : Operand} {v : V} (h : ev t x = some v) : ∃ v', Sh.ev t' x = some v' ∧ VR P c v v' := by
  cases x with
  | tmp i => simp only [ev, Option.some.injEq] at h; subst h; exact ⟨_, rfl, ht.getD i⟩
  | const a =>
    obtain ⟨h1, h2⟩ := ofC_rel (P := P) (c := c) h
    exact ⟨a, if_pos h1, h2⟩
  | func f => simp only [ev, Option.some.injEq] at h; subst h; exact ⟨_, rfl, .func .nil .nil⟩
  | global g => cases h
theorem evT_sim {T : TypeId} {t : List V} {t' : List Value} (ht : VRs P c t t') {x : Operand} {v : V} (h : evT P T t x = some v) : ∃ v', Sh.ev t' x = some v' ∧ VR P c v v' := by
  cases x with
  | const a =>
    simp only [evT, Option.map_eq_some_iff] at h
    obtain ⟨u, hu, rfl⟩ := h
    obtain ⟨v', h1, h2⟩ := ev_sim ht (x := .const a) hu
    refine ⟨v', h1, ?_⟩
    unfold reT
    split
    · split
      · cases h2; exact .slNil
      · exact h2
    · exact h2
  | tmp i => exact ev_sim ht h
  | func f => exact ev_sim ht h
  | global g => cases h
theorem evs_sim {t : List V} {t' : List Value} (ht : VRs P c t t') : ∀ {xs : List Operand} {vs : List V}, evs t xs = some vs → ∃ vs', Sh.evs t' xs = some vs' ∧ VRs P c vs vs'
  | [], vs, h => by simp only [evs, Option.some.injEq] at h; subst h; exact ⟨[], rfl, .nil⟩
  | x :: r, vs, h => by
    simp only [evs, Option.bind_eq_some_iff, Option.map_eq_some_iff] at h
    obtain ⟨v, hv, us, hu, rfl⟩ := h
    obtain ⟨v', h1, h2⟩ := ev_sim ht hv
    obtain ⟨us', h3, h4⟩ := evs_sim ht hu
    exact ⟨v' :: us', by simp [Sh.evs, h1, h3], .cons h2 h4⟩
theorem evTs_sim {t : List V} {t' : List Value} (ht : VRs P c t t') : ∀ {Ts : List TypeId} {xs : List Operand} {vs : List V}, evTs P t Ts xs = some vs → ∃ vs', Sh.evs t' xs = some vs' ∧ VRs P c vs vs'
  | [], xs, vs, h => evs_sim ht (xs := xs) (by unfold evTs at h; exact h)
  | _ :: _, [], vs, h => evs_sim ht (xs := []) (by unfold evTs at h; exact h)
  | T :: Ts, x :: r, vs, h => by
    simp only [evTs, Option.bind_eq_some_iff, Option.map_eq_some_iff] at h
    obtain ⟨v, hv, us, hu, rfl⟩ := h
    obtain ⟨v', h1, h2⟩ := evT_sim ht hv
    obtain ⟨us', h3, h4⟩ := evTs_sim ht hu
    exact ⟨v' :: us', by simp [Sh.evs, h1, h3], .cons h2 h4⟩
theorem asInt_sim {t : List V} {t' : List Value} (ht : VRs P c t t') {x : Option Operand} {i : Option Int} (h : (evo t x).bind asInt? = some i) : (Sh.evo t' x).bind Sh.asInt? = some i := by
  cases x with
  | none => exact h
  | some x =>
    simp only [evo, Option.bind_eq_some_iff, Option.map_eq_some_iff] at h
    obtain ⟨_, ⟨v, hv, rfl⟩, h⟩ := h
    obtain ⟨v', h1, h2⟩ := ev_sim ht hv
    cases v <;> simp only [asInt?, reduceCtorEq] at h
    cases h2
    simp only [Sh.evo, h1, Option.map_some, Option.bind_some]
    exact h
theorem atE_rel {e e0 : TypeId} {s s' : VS} {v' : Value} (h : atE e e0 s = some s') (hv : VR P c (.sl e0 s) v') : VR P c (.sl e s') v' := by
  unfold atE at h
  split at h
  · rename_i he; subst he; injection h with h; subst h; exact hv
  · split at h
    · injection h with h; subst h; cases hv; exact .slNil
    · cases h
theorem nn_some {p q : VP} (h : nn p = some q) : q = p ∧ p ≠ .nil := by
  cases p <;> simp only [nn, Option.some.injEq, reduceCtorEq] at h <;> exact ⟨h.symm, by simp⟩
theorem ptr_form {p : VP} {v' : Value} (hv : VR P c (.ptr p) v') : ∃ a, v' = .pointer a ∧ a.isNone = p.isNil := by
  cases hv <;> exact ⟨_, rfl, rfl⟩
theorem atO_sim {p q : VP} {v' : Value} (hv : VR P c (.ptr p) v') {n : Nat} (h : atO p n = some q) : ∃ a, v' = .pointer (some a) ∧ VR P c (.ptr q) (.pointer (some (Sh.at_ a n))) := by
  cases hv with
  | ptrNil => cases h
  | ptrOb hk => simp only [atO, Option.some.injEq] at h; subst h; exact ⟨_, rfl, .ptrOb hk⟩
  | ptrFz hr hs hle hvs hcl =>
    rename_i k off cs e ys
    simp only [atO] at h
    obtain ⟨hn, h⟩ := ite_some h
    injection h with h
    subst h
    refine ⟨_, rfl, .ptrFz hr hs (by simp only [List.length_drop]; omega) ?_ fun v hv => hcl v (List.mem_of_mem_drop hv)⟩
    have := hvs.drop n
    rw [List.drop_take, List.drop_drop] at this
    rw [List.length_drop]
    exact this
theorem ixV_sim (hc : VSim P c) {e : TypeId} {s : VS} {v' : Value} (hv : VR P c (.sl e s) v') {x : Int} {p : VP} (h : ixV (P.cellsOf e) s x = some p) :
    ∃ a n cp q, v' = .slice a n cp ∧ Sh.ixA ⟨a, n, cp⟩ (P.cellsOf e) x = some q ∧ VR P c (.ptr p) (.pointer (some q)) := by
  cases s with
  | nil => cases h
  | fz es cap =>
    simp only [ixV] at h
    obtain ⟨h0, h⟩ := ite_some h
    rw [Option.map_eq_some_iff] at h
    obtain ⟨y, hy, rfl⟩ := h
    have hlt := (List.getElem?_eq_some_iff.1 hy).1
    cases hv with
    | slFz hr hs hle hvs hcl hel hcap hx =>
      rename_i k off xx ys
      refine ⟨_, _, _, ⟨k, off + x.toNat * P.cellsOf e, none⟩, rfl, by unfold ixA; rw [Option.bind_some, if_pos ⟨h0, by simp only; omega⟩]; rfl, ?_⟩
      have hyl := hel y (List.mem_of_getElem? hy)
      have hfl := flat_len hel
      have hmul : (x.toNat + 1) * P.cellsOf e ≤ es.length * P.cellsOf e := Nat.mul_le_mul_right _ hlt
      rw [Nat.add_mul, Nat.one_mul] at hmul
      have hyf : (es.flatten.drop (x.toNat * P.cellsOf e)).take (P.cellsOf e) = y := by
        rw [← flat_drop hel]
        obtain ⟨hlt2, he⟩ := List.getElem?_eq_some_iff.1 hy
        rw [List.drop_eq_getElem_cons hlt2, List.flatten_cons, he, List.take_append, hyl, Nat.sub_self, List.take_of_length_le (by omega)]
        simp
      have h1 := (hvs.drop (x.toNat * P.cellsOf e)).take (P.cellsOf e)
      have e1 : ((((ys.drop off).take es.flatten.length).drop (x.toNat * P.cellsOf e))).take (P.cellsOf e) = (ys.drop (off + x.toNat * P.cellsOf e)).take (P.cellsOf e) := by
        rw [List.drop_take, List.drop_drop, List.take_take, Nat.min_eq_left (by omega)]
      rw [e1, hyf] at h1
      refine .ptrFz hr hs (by omega) (by rw [hyl]; exact h1) fun v hv => hcl v (List.mem_flatten.2 ⟨y, List.mem_of_getElem? hy, hv⟩)
    | slEm _ _ => simp at hlt
  | hp i off n =>
    simp only [ixV] at h
    obtain ⟨h0, h⟩ := ite_some h
    injection h with h
    subst h
    cases hv with
    | slHp hk =>
      rename_i k
      exact ⟨_, _, _, ⟨k, off + x.toNat * P.cellsOf e, none⟩, rfl, by unfold ixA; rw [Option.bind_some, if_pos h0]; rfl, .ptrOb hk⟩
theorem ptrEq_sim {z : Nat} {a b : VP} {a' b' : Option Addr} (ha : VR P c (.ptr a) (.pointer a')) (hb : VR P c (.ptr b) (.pointer b')) {r : Bool} (h : ptrEqV z a b = some r) : Sh.ptrEq z a' b' = some r := by
  cases hb with
  | ptrNil =>
    simp only [ptrEqV, Option.some.injEq] at h
    subst h
    cases ha <;> rfl
  | ptrOb hb =>
    cases ha with
    | ptrNil => simpa [ptrEqV, Sh.ptrEq] using h
    | ptrOb ha =>
      simp only [ptrEqV] at h
      have h' := ite_some h
      obtain ⟨⟨rfl, rfl, hz⟩, h⟩ := h'
      have := ha.1.symm.trans hb.1
      injection this with this
      subst this
      simpa [Sh.ptrEq, hz] using h
    | ptrFz _ _ _ _ _ => simp [ptrEqV] at h
  | ptrFz _ _ _ _ _ =>
    cases ha with
    | ptrNil => simpa [ptrEqV, Sh.ptrEq] using h
    | ptrOb ha => simp [ptrEqV] at h
    | ptrFz _ _ _ _ _ => simp [ptrEqV] at h
theorem nan_read {b : Nat} (h : 9218868437227405312 < b % 9223372036854775808) : ∃ s f, FloatKind.f64.format.read b = .nan s f := by
  have e1 : FloatKind.f64.format.signWeight = 9223372036854775808 := by decide
  have e2 : FloatKind.f64.format.binade = 4503599627370496 := by decide
  have e3 : FloatKind.f64.format.infRung = 9218868437227405312 := by decide
  unfold Ieee.Format.read
  simp only [e1, e2, e3]
  rw [if_neg (by omega), if_neg (by omega), if_neg (by omega)]
  exact ⟨_, _, rfl⟩
theorem vBin_sim {op : BinOp} {T rt : TypeId} {x y : V} {x' y' : Value} (hx : VR P c x x') (hy : VR P c y y') {K : V → VRes} {K' : Value → Res} (hK : ∀ v v', VR P c v v' → Rel G c (K v) (K' v')) : Rel G c (vBin P op T rt x y K) (eBin P op T rt x' y' K') := by
  unfold vBin
  split
  · rename_i a b ha hb
    rw [toP_rel ha hx, toP_rel hb hy]
    intro xx h
    obtain ⟨q, h1, h2⟩ := eBin_par (γ := Value × Heap) h
    rw [h2]
    split at h1
    · rename_i u hu
      exact hK u q (ofP_rel hu) xx h1
    · cases h1
  · have hnil : ∀ {n : Bool} {R : Res}, (op = .eql → R = K' (.bool n)) → (op = .neq → R = K' (.bool !n)) → Rel G c (nilEq op n K) R := by
      intro n R h1 h2
      cases op <;> simp only [nilEq] <;> first | exact Rel.none | (rw [h1 rfl]; exact hK _ _ (.bool _)) | (rw [h2 rfl]; exact hK _ _ (.bool _))
    unfold vCmp
    split
    · split
      · rename_i hft
        cases hx with
        | nan h1 =>
        cases hy with
        | nan h2 =>
        rename_i b1 b2
        obtain ⟨s1, f1, e1⟩ := nan_read h1
        obtain ⟨s2, f2, e2⟩ := nan_read h2
        have ho : FloatKind.f64.format.order b1 b2 = none := by unfold Ieee.Format.order; rw [e1]; rfl
        unfold eBin
        simp only
        generalize Sh.ftOf P rt = τ at hft ⊢
        subst hft
        refine hnil ?_ ?_
        · rintro rfl
          have : pvD P .bool (binOp .eql T (.float .f64 b1) (.float .f64 b2)) = some (FloatKind.f64.format.order b1 b2 == some .eq) := rfl
          rw [this, ho]; rfl
        · rintro rfl
          have : pvD P .bool (binOp .neq T (.float .f64 b1) (.float .f64 b2)) = some (FloatKind.f64.format.order b1 b2 != some .eq) := rfl
          rw [this, ho]; rfl
      · exact Rel.none
    · rename_i a b
      obtain ⟨a', rfl, _⟩ := ptr_form hx
      obtain ⟨b', rfl, _⟩ := ptr_form hy
      unfold eBin
      simp only
      split
      · rename_i e hT
        simp only [hT]
        refine Rel.bind fun q hq => ⟨q, ptrEq_sim hx hy hq, ?_⟩
        exact hnil (by rintro rfl; rfl) (by rintro rfl; rfl)
      · exact Rel.none
    · rename_i e a e2
      obtain ⟨a', x2, rfl, ha⟩ := sl_form hx
      cases hy
      unfold eBin
      simp only
      split
      · rename_i hT
        simp only [hT]
        rw [ha]; exact hnil (by rintro rfl; rfl) (by rintro rfl; rfl)
      · exact Rel.none
    · rename_i a _
      have : ∃ a', x' = .map a' ∧ a'.isNone = a.isNone := by cases hx <;> exact ⟨_, rfl, rfl⟩
      obtain ⟨a', rfl, ha⟩ := this
      cases hy
      unfold eBin
      simp only
      split
      · rename_i hT
        simp only [hT]
        rw [← ha]; exact hnil (by rintro rfl; rfl) (by rintro rfl; rfl)
      · exact Rel.none
    · exact Rel.none
theorem vUn_sim {op : UnOp} {rt : TypeId} {x : V} {x' : Value} (hx : VR P c x x') {K : V → VRes} {K' : Value → Res} (hK : ∀ v v', VR P c v v' → Rel G c (K v) (K' v')) : Rel G c (vUn P op rt x K) (eUn P op rt x' K') := by
  unfold vUn
  split
  · rename_i a ha
    rw [toP_rel ha hx]
    intro xx h
    obtain ⟨q, h1, h2⟩ := eUn_par (γ := Value × Heap) h
    rw [h2]
    split at h1
    · rename_i u hu
      exact hK u q (ofP_rel hu) xx h1
    · cases h1
  · exact Rel.none
theorem vConv_sim {src dst : TypeId} {x : V} {x' : Value} (hx : VR P c x x') {K : V → VRes} {K' : Value → Res} (hK : ∀ v v', VR P c v v' → Rel G c (K v) (K' v')) : Rel G c (vConv P src dst x K) (eConv P src dst x' K') := by
  unfold vConv
  split
  · rename_i a ha
    rw [toP_rel ha hx]
    intro xx h
    obtain ⟨q, h1, h2⟩ := eConv_par (γ := Value × Heap) h
    rw [h2]
    split at h1
    · rename_i u hu
      exact hK u q (ofP_rel hu) xx h1
    · cases h1
  · exact Rel.none
end
end Go.Proofs.Ytmpobijkbmljdaa.Sh.V
namespace Go.Proofs.Ytmpobijkbmljdaa.Sh.V
open Go.Proofs.Ytmpobijkbmljdaa.Sh
section
variable {P : Program} {c : Cx} {G : Cx → V × VH → Value × Heap → Prop}
theorem VRs.drop_take {l : List V} {l' : List Value} (h : VRs P c l l') (i n : Nat) : VRs P c ((l.drop i).take n) ((l'.drop i).take n) := (h.drop i).take n
theorem isSkip_sim {vs : List V} {vs' : List Value} (h : VRs P c vs vs') (hs : isSkip vs = false) : Sh.isSkip vs' = false := by
  cases h with
  | nil => rfl
  | cons a b =>
    cases b with
    | cons _ _ => unfold Sh.isSkip; split <;> first | rfl | (rename_i h; cases h)
    | nil =>
      rename_i v v'
      unfold Sh.isSkip
      split
      · rename_i he
        injection he with he
        subst he
        cases a with
        | undef => cases hs
        | tup a => cases a; cases hs
      · rfl
theorem vQuiet_sim (hc : VSim P c) {t : List V} {t' : List Value} (ht : VRs P c t t') {o : Oper} {K : V → VRes} {K' : Value → Res} (hK : ∀ v v', VR P c v v' → Rel G c (K v) (K' v')) : Rel G c (vQuiet P o t c.H K) (eQuiet P o t' c.h K') := by
  unfold vQuiet
  split
  · rename_i x ho
    unfold eQuiet; simp only [ho]
    exact Rel.bind fun v hv => by obtain ⟨v', h1, h2⟩ := evT_sim ht hv; exact ⟨v', h1, hK _ _ h2⟩
  · rename_i x ho
    unfold eQuiet; simp only [ho]
    exact Rel.bind fun v hv => by obtain ⟨v', h1, h2⟩ := evT_sim ht hv; exact ⟨v', h1, hK _ _ h2⟩
  · rename_i x a b ho
    unfold eQuiet; simp only [ho]
    split
    · rename_i q y z h1 h2 h3
      obtain ⟨v1, e1, r1⟩ := ev_sim ht h1
      obtain ⟨v2, e2, r2⟩ := ev_sim ht h2
      obtain ⟨v3, e3, r3⟩ := ev_sim ht h3
      cases r1; cases r2; cases r3
      simp only [e1, e2, e3]
      exact hK _ _ (.bool _)
    · rename_i q y z hne h1 h2 h3
      obtain ⟨v1, e1, r1⟩ := ev_sim ht h1
      obtain ⟨v2, e2, r2⟩ := ev_sim ht h2
      obtain ⟨v3, e3, r3⟩ := ev_sim ht h3
      cases r1
      simp only [e1, e2, e3]
      have hcase : Rel G c (cond q (K y) (K z)) (cond q (K' v2) (K' v3)) := by
        cases q
        · exact hK _ _ r3
        · exact hK _ _ r2
      split
      · rename_i b1 b2 b3 w1 w2 w3
        injection w1 with w1; injection w1 with w1; injection w2 with w2; injection w3 with w3
        subst w1 w2 w3
        cases q
        · exact hcase
        · exact hcase
      · rename_i b1 u2 u3 hx w1 w2 w3
        injection w1 with w1; injection w1 with w1; injection w2 with w2; injection w3 with w3
        subst w1 w2 w3
        exact hcase
      · rename_i hx hy
        exact absurd rfl (hy q v2 v3 rfl rfl)
    · exact Rel.none
  · rename_i x ho
    unfold eQuiet; simp only [ho]
    split
    · rename_i p h1
      obtain ⟨v1, e1, r1⟩ := ev_sim ht h1
      obtain ⟨a, rfl, ha⟩ := ptr_form r1
      simp only [e1]
      refine Rel.bind fun q hq => ?_
      obtain ⟨rfl, hne⟩ := nn_some hq
      cases a with
      | none => cases q <;> first | exact absurd rfl hne | cases ha
      | some ad => exact ⟨ad, rfl, hK _ _ r1⟩
    · rename_i f a b h1
      obtain ⟨v1, e1, r1⟩ := ev_sim ht h1
      cases r1 with
      | func ra rb =>
        simp only [e1]
        exact hK _ _ (.func ra rb)
    · exact Rel.none
  · rename_i op T x y U ho
    unfold eQuiet; simp only [ho]
    split
    · rename_i a b h1 h2
      obtain ⟨v1, e1, r1⟩ := ev_sim ht h1
      obtain ⟨v2, e2, r2⟩ := ev_sim ht h2
      simp only [e1, e2]
      exact vBin_sim r1 r2 hK
    · exact Rel.none
  · rename_i op T x ho
    unfold eQuiet; simp only [ho]
    exact Rel.bind fun v hv => by obtain ⟨v', h1, h2⟩ := ev_sim ht hv; exact ⟨v', h1, vUn_sim h2 hK⟩
  · rename_i src dst x ho
    unfold eQuiet; simp only [ho]
    exact Rel.bind fun v hv => by obtain ⟨v', h1, h2⟩ := ev_sim ht hv; exact ⟨v', h1, vConv_sim h2 hK⟩
  · rename_i fn first captured ho
    unfold eQuiet; simp only [ho]
    split
    · rename_i a b h1 h2
      obtain ⟨v1, e1, r1⟩ := evs_sim ht h1
      obtain ⟨v2, e2, r2⟩ := evs_sim ht h2
      simp only [e1, e2]
      exact hK _ _ (.func r1 r2)
    · exact Rel.none
  · rename_i s x f ho
    unfold eQuiet; simp only [ho]
    split
    · rename_i fs a hs h1
      obtain ⟨v1, e1, r1⟩ := ev_sim ht h1
      simp only [hs, e1]
      split
      · rename_i fd hf
        by_cases hz : P.cellsOf fd.type = 0
        · rw [if_pos hz]; exact Rel.none
        · rw [if_neg hz]
          intro xx h
          rw [Option.bind_eq_some_iff] at h
          obtain ⟨q, hq, h⟩ := h
          obtain ⟨ad, rfl, hr⟩ := atO_sim r1 hq
          simp only [hf, if_neg hz]
          exact hK _ _ hr xx h
      · exact Rel.none
    · exact Rel.none
  · rename_i s x f ho
    unfold eQuiet; simp only [ho]
    split
    · rename_i fs vs hs h1
      obtain ⟨v1, e1, r1⟩ := ev_sim ht h1
      cases r1 with
      | agg r1 =>
        simp only [hs, e1]
        split
        · rename_i fd hf
          simp only [hf]
          split
          · rename_i h2; simp only [h2]; exact hK _ _ (.agg (r1.drop_take _ _))
          · rename_i h2; simp only [h2]; exact hK _ _ (.agg (r1.drop_take _ _))
          · rename_i d n1 n2 h2
            have : Rel G c ((vs[fd.offset]?).bind K) ((_ : List Value)[fd.offset]?.bind K') := Rel.bind fun v hv => by obtain ⟨v', h3, h4⟩ := r1.get hv; exact ⟨v', h3, hK _ _ h4⟩
            split
            · rename_i h3; rw [h2] at h3; injection h3 with h3; exact absurd h3 (n1 _)
            · rename_i h3; rw [h2] at h3; injection h3 with h3; exact absurd h3 (n2 _ _)
            · exact this
            · rename_i h3; rw [h2] at h3; cases h3
          · exact Rel.none
        · exact Rel.none
    · exact Rel.none
  · rename_i T x i ho
    unfold eQuiet; simp only [ho]
    split
    · rename_i e e0 s k i hT h1 h2
      obtain ⟨v1, e1, r1⟩ := ev_sim ht h1
      obtain ⟨v2, e2, r2⟩ := ev_sim ht h2
      cases r2
      by_cases hz : P.cellsOf e = 0
      · rw [if_pos hz]; exact Rel.none
      · rw [if_neg hz]
        intro xx h
        simp only [Option.bind_eq_some_iff] at h
        obtain ⟨s2, hs2, q, hq, h⟩ := h
        obtain ⟨a, n, cp, p, rfl, h3, h4⟩ := ixV_sim hc (atE_rel hs2 r1) hq
        simp only [hT, e1, e2, if_neg hz, h3, Option.bind_some]
        exact hK _ _ h4 xx h
    · rename_i e k off n k' i hT h1 h2
      obtain ⟨v1, e1, r1⟩ := ev_sim ht h1
      obtain ⟨v2, e2, r2⟩ := ev_sim ht h2
      cases r2
      cases r1 with
      | asl hk hx =>
      rename_i k2 x2
      by_cases hz : P.cellsOf e = 0
      · rw [if_pos hz]; exact Rel.none
      · rw [if_neg hz]
        by_cases hi : 0 ≤ i ∧ i < n
        · rw [if_pos hi]
          intro xx h
          have hix : ∀ x, ixA ⟨some ⟨k2, off, none⟩, n, x⟩ (P.cellsOf e) i = some (at_ ⟨k2, off, none⟩ (i.toNat * P.cellsOf e)) := fun x => by
            unfold ixA
            simp only [Option.bind_some]
            rw [if_pos hi]
          simp only [hT, e1, e2, if_neg hz, hix, Option.bind_some]
          exact hK _ _ (.ptrOb hk) xx h
        · rw [if_neg hi]; exact Rel.none
    · rename_i p k i hT h1 h2
      obtain ⟨v1, e1, r1⟩ := ev_sim ht h1
      obtain ⟨v2, e2, r2⟩ := ev_sim ht h2
      cases r2
      split
      · rename_i n e hU
        by_cases hz : P.cellsOf e = 0
        · rw [if_pos hz]; exact Rel.none
        · rw [if_neg hz]
          by_cases hi : 0 ≤ i ∧ i < n
          · rw [if_pos hi]
            intro xx h
            rw [Option.bind_eq_some_iff] at h
            obtain ⟨q, hq, h⟩ := h
            obtain ⟨a, rfl, h4⟩ := atO_sim r1 hq
            simp only [hT, e1, e2, hU, if_neg hz, if_pos hi]
            exact hK _ _ h4 xx h
          · rw [if_neg hi]; exact Rel.none
      · exact Rel.none
    · exact Rel.none
  · rename_i T x i ho
    unfold eQuiet; simp only [ho]
    split
    · rename_i s k i hT h1 h2
      obtain ⟨v1, e1, r1⟩ := ev_sim ht h1
      obtain ⟨v2, e2, r2⟩ := ev_sim ht h2
      cases r1; cases r2
      simp only [hT, e1, e2]
      exact Rel.bind fun b hb => ⟨b, hb, hK _ _ (.int _ _)⟩
    · exact Rel.none
  · rename_i T x lo hi mx ho
    unfold eQuiet; simp only [ho]
    split
    · rename_i s lo hi hT h1 h2 h3 h4
      obtain ⟨v1, e1, r1⟩ := ev_sim ht h1
      cases r1
      simp only [hT, e1, asInt_sim ht h2, asInt_sim ht h3, asInt_sim ht h4]
      exact Rel.bind fun b hb => ⟨b, hb, hK _ _ (.str _)⟩
    · rename_i e e0 s lo hi mx hT h1 h2 h3 h4
      obtain ⟨v1, e1, r1⟩ := ev_sim ht h1
      by_cases hz : P.cellsOf e = 0
      · rw [if_pos hz]; exact Rel.none
      · rw [if_neg hz]
        by_cases hm : (mx.isSome && hi.isNone) = true
        · rw [if_pos hm]; exact Rel.none
        · rw [if_neg hm]
          intro xx h
          simp only [Option.bind_eq_some_iff] at h
          obtain ⟨s2, hs2, q, hq, h⟩ := h
          obtain ⟨a, n, cp, p, rfl, h5, h6⟩ := cut_sim hc hz (atE_rel hs2 r1) (fun h => by cases mx <;> cases hi <;> simp_all) hq
          simp only [hT, e1, asInt_sim ht h2, asInt_sim ht h3, asInt_sim ht h4, if_neg hz, if_neg hm, h5, Option.bind_some]
          exact hK _ _ h6 xx h
    · rename_i e k off n lo hi hT h1 h2 h3 h4
      obtain ⟨v1, e1, r1⟩ := ev_sim ht h1
      cases r1 with
      | asl hk hx =>
      rename_i k2 x2
      by_cases hz : P.cellsOf e = 0
      · rw [if_pos hz]; exact Rel.none
      · rw [if_neg hz]
        intro xx h
        simp only [Option.bind_eq_some_iff] at h
        obtain ⟨hh, g1, l, g2, h⟩ := h
        have hh1 : hh ≤ n := by have := Sh.bd_le g1; omega
        have hh2 : l ≤ hh := by have := Sh.bd_le g2; omega
        have hcut : Sh.cutD c.h (P.cellsOf e) e ⟨some ⟨k2, off, none⟩, n, x2⟩ lo hi none = some ⟨some (at_ ⟨k2, off, none⟩ (l * P.cellsOf e)), hh - l, x2 - l⟩ := by
          unfold Sh.cutD
          rw [hold_eq]
          have hx0 : x2 ≠ 0 := by omega
          have b1 : bd n hi (x2 - 1) = some hh := by
            cases hi with
            | none => exact g1
            | some y =>
              simp only [bd, inB] at g1 ⊢
              obtain ⟨⟨q1, q2⟩, q3⟩ := ite_some g1
              rw [if_pos ⟨q1, by omega⟩]; exact q3
          simp only [capOf, if_pos hx0, Option.bind_some, bd, b1]
          simp only [bd] at b1 g2
          rw [b1, Option.bind_some, g2]
          simp [Sh.capCut, hx0]
        simp only [hT, e1, asInt_sim ht h2, asInt_sim ht h3, asInt_sim ht h4, if_neg hz, Option.isSome_none, Bool.false_and, Bool.false_eq_true, if_false, hcut, Option.bind_some]
        exact hK _ _ (.asl hk (by omega)) xx h
    · rename_i n e k off lo hi hT h1 h2 h3 h4
      obtain ⟨v1, e1, r1⟩ := ev_sim ht h1
      cases r1 with
      | ptrOb hk =>
      by_cases hz : P.cellsOf e = 0
      · rw [if_pos hz]; exact Rel.none
      · rw [if_neg hz]
        intro xx h
        simp only [Option.bind_eq_some_iff] at h
        obtain ⟨hh, g1, l, g2, h⟩ := h
        have hh1 : hh ≤ n := by have := Sh.bd_le g1; omega
        simp only [hT, e1, asInt_sim ht h2, asInt_sim ht h3, asInt_sim ht h4, if_neg hz, g1, g2, Option.bind_some]
        exact hK _ _ (.asl hk (by omega)) xx h
    · exact Rel.none
  · rename_i x i ho
    unfold eQuiet; simp only [ho]
    split
    · rename_i vs h1
      obtain ⟨v1, e1, r1⟩ := ev_sim ht h1
      cases r1 with
      | tup r1 =>
        simp only [e1]
        cases hs : isSkip vs with
        | true => exact Rel.none
        | false =>
          rw [isSkip_sim r1 hs]
          exact Rel.bind fun v hv => by obtain ⟨v', h3, h4⟩ := r1.get hv; exact ⟨v', h3, hK _ _ h4⟩
    · exact Rel.none
  · rename_i x T ho
    unfold eQuiet; simp only [ho]
    split
    · rename_i s e0 e hT h1
      obtain ⟨v1, e1, r1⟩ := ev_sim ht h1
      obtain ⟨a, n, rfl, _⟩ := sl_form r1
      simp only [hT, e1]
      exact hK _ _ (.int _ _)
    · rename_i hT h1
      obtain ⟨v1, e1, r1⟩ := ev_sim ht h1
      cases r1
      simp only [hT, e1]
      exact hK _ _ (.int _ _)
    · rename_i s hT h1
      obtain ⟨v1, e1, r1⟩ := ev_sim ht h1
      cases r1
      simp only [hT, e1]
      exact hK _ _ (.int _ _)
    · exact Rel.none
  · rename_i x y Ts ho
    unfold eQuiet; simp only [ho]
    split
    · rename_i k a k2 b h1 h2
      obtain ⟨v1, e1, r1⟩ := ev_sim ht h1
      obtain ⟨v2, e2, r2⟩ := ev_sim ht h2
      cases r1; cases r2
      simp only [e1, e2]
      exact hK _ _ (.int _ _)
    · exact Rel.none
  · rename_i x y Ts ho
    unfold eQuiet; simp only [ho]
    split
    · rename_i k a k2 b h1 h2
      obtain ⟨v1, e1, r1⟩ := ev_sim ht h1
      obtain ⟨v2, e2, r2⟩ := ev_sim ht h2
      cases r1; cases r2
      simp only [e1, e2]
      exact hK _ _ (.int _ _)
    · exact Rel.none
  · exact Rel.none
end
end Go.Proofs.Ytmpobijkbmljdaa.Sh.V
