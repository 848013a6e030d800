import Derived.Test.YtibdinelkpbhaaaB15d
import Derived.Test.YtibdinelkpbhaaaVd
set_option maxRecDepth 100000
set_option linter.unusedVariables false
set_option linter.unusedSimpArgs false
namespace Go.Proofs.Ytibdinelkpbhaaa
open Go.Proofs.Ytibdinelkpbhaaa.Sh Go.Proofs.Ytibdinelkpbhaaa.Sh.V Go.RowKit Go.Proofs.Ytibdinelkpbhaaa.Sh.Lk
theorem rings_ok (n : Nat) (H : VH) : vF P tab (n + 60) 9 [] H = some (.bool true, H) := by kernel_rfl
theorem c_rings (n : Nat) (H : VH) {β : Type} (f : Bool × VH → Option β) : ((V.callD (vF P tab (n + 60)) P false (.one (.flat .bool)) 9 [] H).bind f) = f (true, H) := by rw [callD_bool (rings_ok n H)]; rfl
def kJ (j : Nat) : Key := [UInt8.ofNat (97 + j)]
theorem strK (H : VH) : ∀ (j : Nat), j < 10 → strV H 5 (.fz [[.int .u8 (IntKind.wrap .u8 (IntKind.wrap .i64 (97 + (j : Int))))]] (.ex 1)) = some ⟨(kJ j).toArray⟩
  | 0, _ => rfl
  | 1, _ => rfl
  | 2, _ => rfl
  | 3, _ => rfl
  | 4, _ => rfl
  | 5, _ => rfl
  | 6, _ => rfl
  | 7, _ => rfl
  | 8, _ => rfl
  | 9, _ => rfl
  | _ + 10, h => by omega
theorem strK1 (H : VH) : ∀ (j : Nat), j < 10 → strV H 5 (.fz [[.int .u8 (IntKind.wrap .u8 (IntKind.wrap .i64 ((IntKind.wrap .i64 (97 + (j : Int))) + 1)))]] (.ex 1)) = some ⟨(kJ (j + 1)).toArray⟩
  | 0, _ => rfl
  | 1, _ => rfl
  | 2, _ => rfl
  | 3, _ => rfl
  | 4, _ => rfl
  | 5, _ => rfl
  | 6, _ => rfl
  | 7, _ => rfl
  | 8, _ => rfl
  | 9, _ => rfl
  | _ + 10, h => by omega
/-! In plain Lean -/
def rcO (t : Tb) (x : Int) : Option (List Int) := reachO t 1000 [] (aheadP t x)
def rcD (t : Tb) (x : Int) : List Int := (rcO t x).getD []
def okR (t : Tb) (o : Int) : Bool := (rcO t o).isSome && (rcD t o).all fun x => (rcO t x).isSome
def stD (t : Tb) (o : Int) : List Int := (sortI (rcD t o)).filter (stq (rcD t) o)
theorem rc_some {t : Tb} {x : Int} (h : (rcO t x).isSome = true) : reachO t 1000 [] (aheadP t x) = some (rcD t x) := by
  show rcO t x = _
  unfold rcD
  cases hr : rcO t x with
  | none => rw [hr] at h; cases h
  | some r => rfl
def ch1 : Nat → Nat → Tb → Tb
  | 0, _, t => t
  | c + 1, i, t => ch1 c (i + 1) (askP t (i : Int) (kJ i) true).1
def ch2 (only : Bool) : Nat → Nat → Tb → Tb
  | 0, _, t => t
  | c + 1, i, t => ch2 only c (i + 1) (askP t (i : Int) (kJ (i + 1)) only).1
def chT (k : Nat) (share : Bool) : Tb := ch2 (!share) (k - 1) 0 (ch1 k 0 ⟨[], []⟩)
def chOK (k : Nat) (share : Bool) : Bool := (List.range k).all fun i => okR (chT k share) (i : Int) && decide ((rcD (chT k share) (i : Int)).length = k - 1 - i) && decide ((stD (chT k share) (i : Int)).length = 0) && (decide (¬ i < k - 1) || decide (aheadP (chT k share) (i : Int) = [((i + 1 : Nat) : Int)]))
theorem chOK_all : ∀ k < 11, ∀ share : Bool, (decide (k < 2) || chOK k share) = true := by decide +kernel
def rg1 : Nat → Nat → Tb → Tb
  | 0, _, t => t
  | c + 1, i, t => rg1 c (i + 1) (askP t ((i + 1 : Nat) : Int) (kJ i) true).1
def rg2 (k : Nat) : Nat → Nat → Tb → Option Tb
  | 0, _, t => some t
  | c + 1, i, t => cond (okR t ((i + 1 : Nat) : Int) && decide ((stD t ((i + 1 : Nat) : Int)).length = 0)) (rg2 k c (i + 1) (askP t ((i + 1 : Nat) : Int) (kJ ((i + 1) % k)) true).1) none
def rgF (k : Nat) (t : Tb) : Bool := okR t 1 && okR t 100 && decide (stD t 1 = seqI 1 k) && decide (lastO (stD t 1) = ((k : Int), true)) && !(lastO (stD t 100)).2 && decide (sortI (rcD t 100) = seqI 1 k)
def rgOK (k more : Nat) : Bool := match rg2 k k 0 (rg1 k 0 ⟨[], []⟩) with
  | none => false
  | some t => rgF k (askP t 100 (kJ more) true).1
theorem rgOK_all : ∀ k < 10, ∀ more < 10, (decide (k < 2) || decide (k ≤ more) || rgOK k more) = true := by decide +kernel
end Go.Proofs.Ytibdinelkpbhaaa
