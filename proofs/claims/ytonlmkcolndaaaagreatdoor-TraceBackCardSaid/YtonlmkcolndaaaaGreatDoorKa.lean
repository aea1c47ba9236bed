/- Records by value; what the closures of record.kinds say. No condition. -/
import Derived.Test.YtonlmkcolndaaaaGreatDoorKb
import Derived.Deep.QuietTactic
import Derived.BigQuiet
import Derived.Deep.WholeRow
namespace Go.Proofs.YtonlmkcolndaaaaGreatDoor
set_option linter.unusedVariables false
set_option linter.unusedSimpArgs false
set_option maxRecDepth 20000
open Go.RowKit

def btw (n lo hi : Int) : Bool := decide (lo ≤ n) && decide (n ≤ hi)
theorem btw_calls (n lo hi : Int) (w : World) : Calls Tryz.prog 71 #[.int .i64 n, .int .i64 lo, .int .i64 hi] w fun r w' => r = .returned (.bool (btw n lo hi)) ∧ w = w' := by
  have hB : Hid (btw n lo hi = (decide (lo ≤ n) && decide (n ≤ hi))) := rfl
  by_cases h : lo ≤ n
  · have hb : Hid (btw n lo hi = decide (n ≤ hi)) := by unfold Hid btw; rw [decide_eq_true h]; rfl
    clear hB
    go_enter Tryz.func71, Tryz.ntmps71
    go_wp2_with fail
    go_ret
    exact ⟨by rw [hb.out]; rfl, rfl⟩
  · have hb : Hid (btw n lo hi = false) := by unfold Hid btw; rw [decide_eq_false h]; rfl
    clear hB
    go_enter Tryz.func71, Tryz.ntmps71
    go_wp2_with fail
    go_ret
    exact ⟨by rw [hb.out]; rfl, rfl⟩

set_option maxRecDepth 20000 in
set_option maxHeartbeats 2000000 in
attribute [-go_sem] run_eql_struct in
attribute [local go_sem] eql_rec in
theorem bare_calls (r : Rc) (w : World) : Calls Tryz.prog 88 #[r.val] w fun x w' => x = .returned (.bool (req r Rc.zero)) ∧ Frm M0 w w' := by
  unfold Rc.val
  go_enter Tryz.func88, Tryz.ntmps88
  go_wp2_with (refine wpList_load_row rfl 27 (.tmp 1) rfl w.heap.size rfl _ _ _ _ (heap_alloc_last w _) Tryz.underlying27 rfl (by kernel_rfl) ?_)
  go_ret
  exact ⟨rfl, (Frm.refl M0 w).alloc _⟩
end Go.Proofs.YtonlmkcolndaaaaGreatDoor
