/- The walks of codec's reader: Number at an error and at nil, Text, List. -/
import Derived.Test.YtinbidmgllmglaaDoorCr
namespace Go.Proofs.YtinbidmgllmglaaDoor
set_option linter.unusedVariables false
set_option linter.unusedSimpArgs false
set_option maxRecDepth 20000
open Go.RowKit Cp

/-- What Text takes: the text's bytes, what is left, the error. -/
def textF (l : List Int) : List Int × List Int × Int :=
  match rdAux 0 0 l with
  | none => ([], [], 2)
  | some (n, r) => if n ≤ 64 ∧ n ≤ r.length then (r.take n, r.drop n, 0) else ([], [], 2)

/-! ### List -/
/-- k numbers are taken, one behind the other; after an error all are 0. -/
def numsF : Nat → List Int → Int → List Int × List Int × Int
  | 0, l, e => ([], l, e)
  | k + 1, l, e => match numsF k l e with
    | (xs, l', e') => (xs ++ [(getF l' e').1], (getF l' e').2.1, (getF l' e').2.2)
/-- What List takes. -/
def listF (l : List Int) : List Int × List Int × Int :=
  match rdAux 0 0 l with
  | none => ([], [], 2)
  | some (n, r) => if 64 < n then ([], [], 2) else if (numsF n r 0).2.2 = 0 then numsF n r 0 else ([], (numsF n r 0).2.1, (numsF n r 0).2.2)

theorem numsF_len (k : Nat) (l : List Int) (e : Int) : (numsF k l e).1.length = k := by
  induction k with
  | zero => rfl
  | succ k ih => rw [numsF]; simp [ih]

theorem info3 : (Tryd.prog.info? 3).map (fun i => (i.zero, i.size, i.bytes)) = some (some (.int .i64 0), 1, 8) := by kernel_rfl

end Go.Proofs.YtinbidmgllmglaaDoor
