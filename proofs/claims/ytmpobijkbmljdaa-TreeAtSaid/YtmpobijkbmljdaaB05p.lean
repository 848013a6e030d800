import Derived.Test.YtmpobijkbmljdaaVd
import Derived.Lib.IndexAny
set_option maxRecDepth 100000
set_option linter.unusedVariables false
set_option linter.unusedSimpArgs false
namespace Go.Proofs.Ytmpobijkbmljdaa
open Go.Proofs.Ytmpobijkbmljdaa.Sh Go.Proofs.Ytmpobijkbmljdaa.Sh.V
/-- strings.ContainsAny of a nought and a slash, in ASCII. -/
def caP (args : List V) (H : VH) : VRes :=
  match args with
  | [.str s, .str c] => if s.size < 4294967281 ∧ s.data.toList.all (fun b => decide (b.toNat < 128)) = true ∧ c = ⟨#[47, 0]⟩ then some (.bool (Lib.containsAny s.data.toList [47, 0]), H) else none
  | _ => none
end Go.Proofs.Ytmpobijkbmljdaa
