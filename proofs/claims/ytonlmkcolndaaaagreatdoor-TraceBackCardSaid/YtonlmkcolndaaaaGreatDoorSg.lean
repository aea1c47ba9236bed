/- A region that draws its order: the step of one operation. No condition. -/
import Derived.Test.YtonlmkcolndaaaaGreatDoorRh
import Derived.Test.YtonlmkcolndaaaaGreatDoorSb
namespace Go.Proofs.YtonlmkcolndaaaaGreatDoor
set_option linter.unusedVariables false
set_option linter.unusedSimpArgs false
set_option maxRecDepth 20000
open Go.RowKit
section
variable {P : Program} {ops : Array Oper} {w0 : World} {al : Nat → Option Obj} {vals : Nat → Value}
theorem wpG_v {QT : Act → (Nat → Nat) → Prop} {m k : Nat} {a : Act} {E : Nat → Nat} {o : Oper} (ho : ops[k]? = some o) (hk : al k = none) (hy : FY P ops w0 o (vals k) a) (h : wpG P ops w0 al vals QT m (k + 1) (a.put o.dst (vals k)) E) : wpG P ops w0 al vals QT (m + 1) k a E :=
  wpG_val o (vals k) ho hk rfl hy h
end
end Go.Proofs.YtonlmkcolndaaaaGreatDoor
