/- The reference's record.Bytes. No condition. -/
import Derived.Test.YtonlmkcolndaaaaGreatDoorKy
import Derived.Test.YtonlmkcolndaaaaGreatDoorQa
import Derived.Test.YtonlmkcolndaaaaGreatDoorSo
namespace Go.Proofs.YtonlmkcolndaaaaGreatDoor
set_option linter.unusedVariables false
set_option linter.unusedSimpArgs false
set_option maxRecDepth 20000
open Go.RowKit Cp

def rbytesF (r : Rc) : List Int × Int := if rrightB r = true then (wireL r, 0) else ([], 1)

end Go.Proofs.YtonlmkcolndaaaaGreatDoor
