/- The walks of the reference's writers (May, digits, both, Number, Text, List): they end in the plain lists that Cp tells. -/
import Derived.Test.YtonlmkcolndaaaaGreatDoorCd
namespace Go.Proofs.YtonlmkcolndaaaaGreatDoor
set_option linter.unusedVariables false
set_option linter.unusedSimpArgs false
set_option maxRecDepth 20000
open Go.RowKit Cp

end Go.Proofs.YtonlmkcolndaaaaGreatDoor
