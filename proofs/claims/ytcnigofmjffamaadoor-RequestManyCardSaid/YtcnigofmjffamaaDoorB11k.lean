import Derived.Test.YtcnigofmjffamaaDoorVc
import Derived.Test.YtcnigofmjffamaaDoorProg
import Derived.Test.YtcnigofmjffamaaDoorChecked
import Derived.Tactics
import Derived.Tactics2
import Derived.StillTactics
import Derived.Laws.Pointers
import Derived.RegionTactic
import Derived.LoopTactic
set_option maxRecDepth 100000
set_option linter.unusedVariables false
set_option linter.unusedSimpArgs false
namespace Go.Proofs.YtcnigofmjffamaaDoor
open Go.Proofs.YtcnigofmjffamaaDoor.Sh Go.Proofs.YtcnigofmjffamaaDoor.Sh.V Go.RowKit
theorem kind_big (k : Int) (w : World) (hk : k ≥ 13) (hk2 : k < 256): Calls Tryd.prog 16 #[.int .u8 k] w fun e w' => e = .returned (.string ⟨#[]⟩) ∧ w' = w := by
  go_enter Tryd.func16, Tryd.ntmps16
  go_wp2
  go_ret
  exact ⟨rfl, rfl⟩
theorem kind_0 (d : Value) (w : World) (h : w.cell? ⟨0, 0, none⟩ = some d) : Calls Tryd.prog 16 #[.int .u8 0] w fun e w' => e = .returned d ∧ w' = w := by
  go_enter Tryd.func16, Tryd.ntmps16
  go_wp2
  go_ret
  exact ⟨rfl, rfl⟩
theorem kind_1 (d : Value) (w : World) (h : w.cell? ⟨0, 1, none⟩ = some d) : Calls Tryd.prog 16 #[.int .u8 1] w fun e w' => e = .returned d ∧ w' = w := by
  go_enter Tryd.func16, Tryd.ntmps16
  go_wp2
  go_ret
  exact ⟨rfl, rfl⟩
theorem kind_2 (d : Value) (w : World) (h : w.cell? ⟨0, 2, none⟩ = some d) : Calls Tryd.prog 16 #[.int .u8 2] w fun e w' => e = .returned d ∧ w' = w := by
  go_enter Tryd.func16, Tryd.ntmps16
  go_wp2
  go_ret
  exact ⟨rfl, rfl⟩
theorem kind_3 (d : Value) (w : World) (h : w.cell? ⟨0, 3, none⟩ = some d) : Calls Tryd.prog 16 #[.int .u8 3] w fun e w' => e = .returned d ∧ w' = w := by
  go_enter Tryd.func16, Tryd.ntmps16
  go_wp2
  go_ret
  exact ⟨rfl, rfl⟩
theorem kind_4 (d : Value) (w : World) (h : w.cell? ⟨0, 4, none⟩ = some d) : Calls Tryd.prog 16 #[.int .u8 4] w fun e w' => e = .returned d ∧ w' = w := by
  go_enter Tryd.func16, Tryd.ntmps16
  go_wp2
  go_ret
  exact ⟨rfl, rfl⟩
theorem kind_5 (d : Value) (w : World) (h : w.cell? ⟨0, 5, none⟩ = some d) : Calls Tryd.prog 16 #[.int .u8 5] w fun e w' => e = .returned d ∧ w' = w := by
  go_enter Tryd.func16, Tryd.ntmps16
  go_wp2
  go_ret
  exact ⟨rfl, rfl⟩
theorem kind_6 (d : Value) (w : World) (h : w.cell? ⟨0, 6, none⟩ = some d) : Calls Tryd.prog 16 #[.int .u8 6] w fun e w' => e = .returned d ∧ w' = w := by
  go_enter Tryd.func16, Tryd.ntmps16
  go_wp2
  go_ret
  exact ⟨rfl, rfl⟩
theorem kind_7 (d : Value) (w : World) (h : w.cell? ⟨0, 7, none⟩ = some d) : Calls Tryd.prog 16 #[.int .u8 7] w fun e w' => e = .returned d ∧ w' = w := by
  go_enter Tryd.func16, Tryd.ntmps16
  go_wp2
  go_ret
  exact ⟨rfl, rfl⟩
theorem kind_8 (d : Value) (w : World) (h : w.cell? ⟨0, 8, none⟩ = some d) : Calls Tryd.prog 16 #[.int .u8 8] w fun e w' => e = .returned d ∧ w' = w := by
  go_enter Tryd.func16, Tryd.ntmps16
  go_wp2
  go_ret
  exact ⟨rfl, rfl⟩
theorem kind_9 (d : Value) (w : World) (h : w.cell? ⟨0, 9, none⟩ = some d) : Calls Tryd.prog 16 #[.int .u8 9] w fun e w' => e = .returned d ∧ w' = w := by
  go_enter Tryd.func16, Tryd.ntmps16
  go_wp2
  go_ret
  exact ⟨rfl, rfl⟩
theorem kind_10 (d : Value) (w : World) (h : w.cell? ⟨0, 10, none⟩ = some d) : Calls Tryd.prog 16 #[.int .u8 10] w fun e w' => e = .returned d ∧ w' = w := by
  go_enter Tryd.func16, Tryd.ntmps16
  go_wp2
  go_ret
  exact ⟨rfl, rfl⟩
theorem kind_11 (d : Value) (w : World) (h : w.cell? ⟨0, 11, none⟩ = some d) : Calls Tryd.prog 16 #[.int .u8 11] w fun e w' => e = .returned d ∧ w' = w := by
  go_enter Tryd.func16, Tryd.ntmps16
  go_wp2
  go_ret
  exact ⟨rfl, rfl⟩
theorem kind_12 (d : Value) (w : World) (h : w.cell? ⟨0, 12, none⟩ = some d) : Calls Tryd.prog 16 #[.int .u8 12] w fun e w' => e = .returned d ∧ w' = w := by
  go_enter Tryd.func16, Tryd.ntmps16
  go_wp2
  go_ret
  exact ⟨rfl, rfl⟩
def names13 : List (List UInt8) := [[], [97, 100, 100], [118, 97, 108, 105, 100], [105, 110, 102, 111], [114, 101, 102, 115], [114, 101, 102, 101, 114, 114, 101, 114, 115], [99, 108, 111, 115, 117, 114, 101], [114, 101, 103, 105, 115, 116, 101, 114], [114, 111, 111, 116], [117, 110, 114, 111, 111, 116], [100, 101, 108, 101, 116, 101], [99, 111, 108, 108, 101, 99, 116], [118, 101, 114, 105, 102, 121]]
/-- What stands in the package's variable. -/
def G11 (B : Nat) (w : World) : Prop := 0 < B ∧ ∀ (i : Nat) (s : List UInt8), names13[i]? = some s → w.cell? ⟨0, i, none⟩ = some (.string ⟨s.toArray⟩)
def nameOf (k : Nat) : List UInt8 := (names13[k]?).getD []
theorem kind_at (w : World) (hc : ∀ (i : Nat) (s : List UInt8), names13[i]? = some s → w.cell? ⟨0, i, none⟩ = some (.string ⟨s.toArray⟩)) : ∀ (k : Nat), k < 256 → Calls Tryd.prog 16 #[.int .u8 (Int.ofNat k)] w fun e w' => e = .returned (.string ⟨(nameOf k).toArray⟩) ∧ w' = w
  | 0, _ => kind_0 _ w (hc 0 [] rfl)
  | 1, _ => kind_1 _ w (hc 1 [97, 100, 100] rfl)
  | 2, _ => kind_2 _ w (hc 2 [118, 97, 108, 105, 100] rfl)
  | 3, _ => kind_3 _ w (hc 3 [105, 110, 102, 111] rfl)
  | 4, _ => kind_4 _ w (hc 4 [114, 101, 102, 115] rfl)
  | 5, _ => kind_5 _ w (hc 5 [114, 101, 102, 101, 114, 114, 101, 114, 115] rfl)
  | 6, _ => kind_6 _ w (hc 6 [99, 108, 111, 115, 117, 114, 101] rfl)
  | 7, _ => kind_7 _ w (hc 7 [114, 101, 103, 105, 115, 116, 101, 114] rfl)
  | 8, _ => kind_8 _ w (hc 8 [114, 111, 111, 116] rfl)
  | 9, _ => kind_9 _ w (hc 9 [117, 110, 114, 111, 111, 116] rfl)
  | 10, _ => kind_10 _ w (hc 10 [100, 101, 108, 101, 116, 101] rfl)
  | 11, _ => kind_11 _ w (hc 11 [99, 111, 108, 108, 101, 99, 116] rfl)
  | 12, _ => kind_12 _ w (hc 12 [118, 101, 114, 105, 102, 121] rfl)
  | k + 13, h => by
    have h1 : names13[k + 13]? = none := List.getElem?_eq_none (by simp [names13])
    have h2 : nameOf (k + 13) = [] := by unfold nameOf; rw [h1]; rfl
    rw [h2]
    refine kind_big _ w ?_ ?_
    · show (13 : Int) ≤ ((k + 13 : Nat) : Int); omega
    · show ((k + 13 : Nat) : Int) < 256; omega
def kindP : List V → VH → VRes := fun args H =>
  match args with
  | [.int .u8 (.ofNat k)] => if k < 256 then some (.str ⟨(nameOf k).toArray⟩, H) else none
  | _ => none
theorem kind_ok : PrimOKg G11 Tryd.prog 16 kindP := by
  intro args c v H' hq B w0 S w args' hs hargs
  unfold kindP at hq
  split at hq
  · rename_i k
    split at hq
    · rename_i hk
      injection hq with hq
      injection hq with e1 e2
      subst e1 e2
      obtain ⟨us, h1, h2⟩ := hargs
      cases h1 with
      | cons a b =>
        cases b
        cases a
        cases h2 with
        | cons a2 b2 =>
          cases b2
          cases a2
          refine ⟨⟨Tryd.f16, _, Tryd.func16, rfl⟩, ?_⟩
          obtain ⟨hB, hG⟩ := hs.g
          have cell : ∀ (i : Nat) (s : List UInt8), names13[i]? = some s → w.cell? ⟨0, i, none⟩ = some (.string ⟨s.toArray⟩) := fun i s h => by
            rw [hs.s.below.cell (p := ⟨0, i, none⟩) hB]; exact hG i s h
          refine (kind_at w cell k hk).mono ?_
          rintro e w' ⟨rfl, rfl⟩
          exact ⟨c, _, S, rfl, rfl, Le.refl c, List.prefix_refl _, hs, _, .str _, .string _⟩
    · cases hq
  · cases hq
end Go.Proofs.YtcnigofmjffamaaDoor
