import Derived.Test.YtmpobijkbmljdaaB05k
import Derived.Test.YtmpobijkbmljdaaB05c
import Derived.Lib.Bytealg
set_option maxRecDepth 100000
set_option linter.unusedVariables false
set_option linter.unusedSimpArgs false
namespace Go.Proofs.Ytmpobijkbmljdaa
open Go.Proofs.Ytmpobijkbmljdaa.Sh Go.Proofs.Ytmpobijkbmljdaa.Sh.V Go.RowKit Go.Shelf
/-- stringslite.Index of a slash. -/
def idxP (args : List V) (H : VH) : VRes :=
  match args with
  | [.str s, .str c] => if c = ⟨#[47]⟩ then some (.int .i64 (Lib.indexByte s.data.toList 47), H) else none
  | _ => none
theorem idx_ok : PrimOK Try.prog 63 idxP := by
  intro args c v H' hq B w0 S w args' hs hargs
  unfold idxP at hq
  split at hq
  · rename_i s ch
    split at hq
    · rename_i hk
      subst hk
      injection hq with hq
      injection hq with e1 e2
      subst e1 e2
      obtain ⟨us, g1, g2⟩ := hargs
      cases g1 with
      | cons a b =>
        cases b with
        | cons a2 b2 =>
          cases b2
          cases a
          cases a2
          cases g2 with
          | cons x y =>
            cases y with
            | cons x2 y2 =>
              cases y2
              cases x
              cases x2
              refine ⟨⟨Try.f63, _, Try.func63, rfl⟩, ?_⟩
              refine (Any.stringslite_Index_one (ρ := lays219_ren) lays219 s 47 w).mono ?_
              rintro e w' ⟨rfl, rfl⟩
              exact ⟨c, _, S, rfl, rfl, Le.refl c, List.prefix_refl _, hs, _, .int _ _, .int _ _⟩
    · cases hq
  · cases hq
end Go.Proofs.Ytmpobijkbmljdaa
