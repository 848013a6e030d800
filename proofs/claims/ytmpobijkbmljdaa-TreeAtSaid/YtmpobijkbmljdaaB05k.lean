import Derived.Test.YtmpobijkbmljdaaB05p
import Derived.Shelf.Strings.IndexAnyAll
import Derived.Test.YtmpobijkbmljdaaProg
import Derived.Test.YtmpobijkbmljdaaChecked
set_option maxRecDepth 100000
set_option maxHeartbeats 0
set_option linter.unusedVariables false
set_option linter.unusedSimpArgs false
namespace Go.Proofs.Ytmpobijkbmljdaa
open Go.Proofs.Ytmpobijkbmljdaa.Sh Go.Proofs.Ytmpobijkbmljdaa.Sh.V Go.RowKit Go.Shelf
/-! ### strings.ContainsAny: the kit's contract, laid at this program -/
def lays150_ren : Go.Shelf.Ren := ⟨fun | 150 => 65 | 153 => 70 | 152 => 73 | 226 => 74 | 227 => 75 | 228 => 76 | 137 => 77 | 119 => 78 | 224 => 68 | 225 => 67 | 217 => 66 | 266 => 71 | n => n, fun | 9 => 9 | 4 => 4 | 3 => 3 | 5 => 5 | 21 => 21 | 117 => 85 | 116 => 84 | 0 => 0 | 46 => 72 | 124 => 89 | n => n, fun | n => n⟩
theorem lays150 : Go.Proofs.Lays.n150 Try.prog lays150_ren := {
  mixed := by kernel_rfl
  f119 := Try.func78.trans (congrArg some (by kernel_rfl))
  f137 := Try.func77.trans (congrArg some (by kernel_rfl))
  f150 := Try.func65.trans (congrArg some (by kernel_rfl))
  f152 := Try.func73.trans (congrArg some (by kernel_rfl))
  f153 := Try.func70.trans (congrArg some (by kernel_rfl))
  f217 := Try.func66.trans (congrArg some (by kernel_rfl))
  f224 := Try.func68.trans (congrArg some (by kernel_rfl))
  f225 := Try.func67.trans (congrArg some (by kernel_rfl))
  f226 := Try.func74.trans (congrArg some (by kernel_rfl))
  f227 := Try.func75.trans (congrArg some (by kernel_rfl))
  f228 := Try.func76.trans (congrArg some (by kernel_rfl))
  f266 := Try.func71.trans (congrArg some (by kernel_rfl))
  t0 := Try.underlying0
  a0 := Try.isAgg0
  z0 := Try.sizeOf0
  v0 := Try.zeroValue0
  t3 := Try.underlying3
  a3 := Try.isAgg3
  z3 := Try.sizeOf3
  v3 := Try.zeroValue3
  t4 := Try.underlying4
  a4 := Try.isAgg4
  z4 := Try.sizeOf4
  v4 := Try.zeroValue4
  t5 := Try.underlying5
  a5 := Try.isAgg5
  z5 := Try.sizeOf5
  v5 := Try.zeroValue5
  t9 := Try.underlying9
  a9 := Try.isAgg9
  z9 := Try.sizeOf9
  v9 := Try.zeroValue9
  t21 := Try.underlying21
  a21 := Try.isAgg21
  z21 := Try.sizeOf21
  v21 := Try.zeroValue21
  t46 := Try.underlying72
  a46 := Try.isAgg72
  z46 := Try.sizeOf72
  v46 := Try.zeroValue72
  t116 := Try.underlying84
  a116 := Try.isAgg84
  z116 := Try.sizeOf84
  t117 := Try.underlying85
  a117 := Try.isAgg85
  z117 := Try.sizeOf85
  v117 := Try.zeroValue85
  t124 := Try.underlying89
  a124 := Try.isAgg89
  z124 := Try.sizeOf89
  v124 := Try.zeroValue89 }
theorem ca_ok : PrimOK Try.prog 65 caP := by
  intro args c v H' hq B w0 S w args' hs hargs
  unfold caP at hq
  split at hq
  · rename_i s ch
    split at hq
    · rename_i hk
      obtain ⟨h1, h2, h3⟩ := hk
      subst h3
      injection hq with hq
      injection hq with e1 e2
      subst e1 e2
      obtain ⟨us, g1, g2⟩ := hargs
      cases g1 with
      | cons a b =>
        cases b with
        | cons a2 b2 =>
          cases b2
          cases a
          cases a2
          cases g2 with
          | cons x y =>
            cases y with
            | cons x2 y2 =>
              cases y2
              cases x
              cases x2
              refine ⟨⟨Try.f65, _, Try.func65, rfl⟩, ?_⟩
              have has : ∀ (j : Nat) b, s.data.toList[j]? = some b → b.toNat < 128 := fun j b hb => by
                have := List.all_eq_true.1 h2 b (List.mem_of_getElem? hb)
                simpa using this
              have hac : ∀ (j : Nat) b, (⟨#[47, 0]⟩ : ByteArray).data.toList[j]? = some b → b.toNat < 128 := fun j b hb => by
                have hm : b ∈ [(47 : UInt8), 0] := List.mem_of_getElem? hb
                simp only [List.mem_cons, List.not_mem_nil, or_false] at hm
                rcases hm with rfl | rfl <;> decide
              refine (Any.strings_ContainsAny_laid (ρ := lays150_ren) lays150 (by kernel_rfl) s ⟨#[47, 0]⟩ w h1 (by decide) has hac).mono ?_
              rintro e w' ⟨rfl, hb⟩
              exact ⟨c, _, S, rfl, rfl, Le.refl c, List.prefix_refl _, ⟨hs.v, hs.s.under hb, hs.g⟩, _, .bool _, .bool _⟩
    · cases hq
  · cases hq
end Go.Proofs.Ytmpobijkbmljdaa
