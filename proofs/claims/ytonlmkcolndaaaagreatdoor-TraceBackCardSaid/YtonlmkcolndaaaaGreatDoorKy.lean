/- record.Bytes. No condition. -/
import Derived.Test.YtonlmkcolndaaaaGreatDoorKn
import Derived.Test.YtonlmkcolndaaaaGreatDoorCg
namespace Go.Proofs.YtonlmkcolndaaaaGreatDoor
set_option linter.unusedVariables false
set_option linter.unusedSimpArgs false
set_option maxRecDepth 20000
open Go.RowKit Cp

/-- The five numbers of a record, its text: the bytes; with the spec's numbers behind. -/
def wire6 (r : Rc) : List Int := (textW (numW (numW (numW (numW (numW [] r.k).1 r.e).1 r.w).1 r.n).1 r.q).1 r.t).1
def wireL (r : Rc) : List Int := if r.k = 3 then (listW (wire6 r) r.p.nums).1 else wire6 r
def bytesF (r : Rc) : List Int × Int := if rightB r = true then (wireL r, 0) else ([], 1)

end Go.Proofs.YtonlmkcolndaaaaGreatDoor
