/- min and max of two whole numbers, kept whole. No condition. -/
import Derived.Test.YtonlmkcolndaaaaGreatDoorFr
namespace Go.Proofs.YtonlmkcolndaaaaGreatDoor
set_option linter.unusedVariables false
set_option linter.unusedSimpArgs false
set_option maxRecDepth 20000
open Go.RowKit

theorem mn_if (x y : Int) : (if y < x then y else x) = min x y := by omega
theorem mx_if (x y : Int) : (if x < y then y else x) = max x y := by omega
theorem run_mn2 {P : Program} (w : World) (ts : Array TypeId) (t : TypeId) (a b : Int) :
    (Builtin.min_ ts t #[.int .i64 a, .int .i64 b]).run P w = .ok (.int .i64 (min a b)) w := by
  simp only [Builtin.min_, List.foldlM_cons, List.foldlM_nil, Builtin.min2, mn_if, Sem.run_bind, Sem.run_pure, Result.andThen_ok]
theorem run_mx2 {P : Program} (w : World) (ts : Array TypeId) (t : TypeId) (a b : Int) :
    (Builtin.max_ ts t #[.int .i64 a, .int .i64 b]).run P w = .ok (.int .i64 (max a b)) w := by
  simp only [Builtin.max_, List.foldlM_cons, List.foldlM_nil, Builtin.max2, mx_if, Sem.run_bind, Sem.run_pure, Result.andThen_ok]
end Go.Proofs.YtonlmkcolndaaaaGreatDoor
