/- The walks of codec's reader: Read, Err, Left, End, fail, Number, Text, List. -/
import Derived.Test.YtinbidmgllmglaaDoorCe
import Derived.Test.YtinbidmgllmglaaDoorCb
namespace Go.Proofs.YtinbidmgllmglaaDoor
set_option linter.unusedVariables false
set_option linter.unusedSimpArgs false
set_option maxRecDepth 20000
open Go.RowKit Cp

abbrev rp (rb : Nat) : Value := .pointer (some ⟨rb, 0, none⟩)

/-- What End tells. -/
def endF (l : List Int) (e : Int) : Int := if e = 0 ∧ 0 < l.length then 2 else e
end Go.Proofs.YtinbidmgllmglaaDoor
