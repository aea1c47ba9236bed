/- Small words for the rows and the laws: a slice of whole numbers that came in reads as a list; min and max. No condition. -/
import Derived.Test.YtinbidmgllmglaaDoorFr
namespace Go.Proofs.YtinbidmgllmglaaDoor
set_option linter.unusedVariables false
set_option linter.unusedSimpArgs false
set_option maxRecDepth 20000
open Go.RowKit

theorem Rd.ofRow {w : World} {k : IntKind} {x : Addr} {len cap : Nat} {zs : List Int} (hl : len ≤ cap) (hm : cap ≤ maxLen) (hz : zs.length = cap)
    (hcell : ∀ i, i < zs.length → w.cell? (x.add i) = some (.int k (zs.getD i 0))) : Rd w 1 (.slice (some x) len cap) (zs.take len).length (ints k (zs.take len)) := by
  have e : (zs.take len).length = len := by rw [List.length_take]; omega
  refine ⟨by simp [ints], .inr ⟨x, cap, by rw [e], by omega, hm, fun j u hu => ?_⟩⟩
  unfold ints at hu
  rw [List.getElem?_map, List.getElem?_take] at hu
  split at hu
  · obtain ⟨y, hy, rfl⟩ := Option.map_eq_some_iff.1 hu
    have hj := (List.getElem?_eq_some_iff.1 hy).1
    rw [hcell j hj, List.getD_eq_getElem?_getD, hy]; rfl
  · cases hu
theorem wf_i64 {n : Int} (h : (Lit.int .i64 n).wf = true) : -9223372036854775808 ≤ n ∧ n ≤ 9223372036854775807 := by
  simp [Lit.wf, IntKind.min, IntKind.max, IntKind.signed, IntKind.bits] at h; omega
theorem wf_u8 {n : Int} (h : (Lit.int .u8 n).wf = true) : 0 ≤ n ∧ n < 256 := by
  simp [Lit.wf, IntKind.min, IntKind.max, IntKind.signed, IntKind.bits] at h; omega
end Go.Proofs.YtinbidmgllmglaaDoor
