/- spec: between, step, pointers. No condition. -/
import Derived.Test.YtonlmkcolndaaaaGreatDoorKc
import Derived.StillTailTactics
namespace Go.Proofs.YtonlmkcolndaaaaGreatDoor
set_option linter.unusedVariables false
set_option linter.unusedSimpArgs false
set_option maxRecDepth 20000
open Go.RowKit

theorem Frm.setRow {a w : World} (h : Frm M0 a w) (g : Nat) (cs : Array Value) (hg : a.heap.size ≤ g) : Frm M0 a (w.setRow g cs) :=
  h.trans (M' := fun b => b = g) ⟨rfl, rfl, rfl, by simp, fun k _ hk => by
    unfold World.setRow
    rw [Array.getElem?_modify, if_neg (fun e => hk e.symm)]⟩ (fun b hb e => by have e' : b = g := e; omega)
theorem sbtw_calls (n lo hi : Int) (w : World) : Calls Tryz.prog 84 #[.int .i64 n, .int .i64 lo, .int .i64 hi] w fun r w' => r = .returned (.bool (btw n lo hi)) ∧ w = w' := by
  have hB : Hid (btw n lo hi = (decide (lo ≤ n) && decide (n ≤ hi))) := rfl
  by_cases h : lo ≤ n
  · have hb : Hid (btw n lo hi = decide (n ≤ hi)) := by unfold Hid btw; rw [decide_eq_true h]; rfl
    clear hB
    go_enter Tryz.func84, Tryz.ntmps84
    go_wp2_with fail
    go_ret
    exact ⟨by rw [hb.out]; rfl, rfl⟩
  · have hb : Hid (btw n lo hi = false) := by unfold Hid btw; rw [decide_eq_false h]; rfl
    clear hB
    go_enter Tryz.func84, Tryz.ntmps84
    go_wp2_with fail
    go_ret
    exact ⟨by rw [hb.out]; rfl, rfl⟩

/-- A step of a strategy, the one before it, whether it is the first. -/
def stepF (s n last : Int) (first : Bool) : Bool :=
  bif !decide (s = 0) || (!first && decide (n = 0)) then decide (n = 0) else bif !first && decide (last = 0) then false else decide (last < n) && decide (n ≤ 100)
def Sp.stepB (p : Sp) : Nat → Bool
  | 0 => stepF p.s4 p.s5 0 true
  | 1 => stepF p.s4 p.s6 p.s5 false
  | 2 => stepF p.s4 p.s7 p.s6 false
  | _ => stepF p.s4 p.s8 p.s7 false
set_option maxRecDepth 20000 in
theorem step0_calls (p : Sp) (w : World) : Calls Tryz.prog 85 #[p.val, .int .i64 0] w fun r w' => r = .returned (.bool (p.stepB 0)) ∧ Frm M0 w w' := by
  unfold Sp.val
  have HE : Hid (p.stepB 0 = stepF p.s4 p.s5 0 true) := rfl
  by_cases h4 : p.s4 = 0
  · by_cases h1 : 0 < p.s5
    · have HD : Hid (stepF p.s4 p.s5 0 true = decide (p.s5 ≤ 100)) := hid (by simp [stepF, h4, h1])
      go_enter Tryz.func85, Tryz.ntmps85
      go_wp2_with fail
      go_ret
      exact ⟨by rw [HE.out, HD.out]; rfl, (Frm.refl M0 w).alloc _⟩
    · have HD : Hid (stepF p.s4 p.s5 0 true = false) := hid (by simp [stepF, h4, h1])
      go_enter Tryz.func85, Tryz.ntmps85
      go_wp2_with fail
      go_ret
      exact ⟨by rw [HE.out, HD.out]; rfl, (Frm.refl M0 w).alloc _⟩
  · have HD : Hid (stepF p.s4 p.s5 0 true = decide (p.s5 = 0)) := hid (by simp [stepF, h4])
    go_enter Tryz.func85, Tryz.ntmps85
    go_wp2_with fail
    go_ret
    exact ⟨by rw [HE.out, HD.out]; first | rfl | (simp; exact Bool.eq_iff_iff.mpr (by simp)), (Frm.refl M0 w).alloc _⟩
set_option maxRecDepth 20000 in
theorem step1_calls (p : Sp) (w : World) : Calls Tryz.prog 85 #[p.val, .int .i64 1] w fun r w' => r = .returned (.bool (p.stepB 1)) ∧ Frm M0 w w' := by
  unfold Sp.val
  have HE : Hid (p.stepB 1 = stepF p.s4 p.s6 p.s5 false) := rfl
  by_cases h4 : p.s4 = 0
  · by_cases h0 : p.s6 = 0
    · have HD : Hid (stepF p.s4 p.s6 p.s5 false = true) := hid (by simp [stepF, h4, h0])
      go_enter Tryz.func85, Tryz.ntmps85
      go_wp2_with fail
      go_ret
      exact ⟨by rw [HE.out, HD.out]; rfl, (Frm.refl M0 w).alloc _⟩
    · by_cases hl : p.s5 = 0
      · have HD : Hid (stepF p.s4 p.s6 p.s5 false = false) := hid (by simp [stepF, h4, h0, hl])
        go_enter Tryz.func85, Tryz.ntmps85
        go_wp2_with fail
        go_ret
        exact ⟨by rw [HE.out, HD.out]; rfl, (Frm.refl M0 w).alloc _⟩
      · by_cases h1 : p.s5 < p.s6
        · have HD : Hid (stepF p.s4 p.s6 p.s5 false = decide (p.s6 ≤ 100)) := hid (by simp [stepF, h4, h0, hl, h1])
          go_enter Tryz.func85, Tryz.ntmps85
          go_wp2_with fail
          go_ret
          exact ⟨by rw [HE.out, HD.out]; rfl, (Frm.refl M0 w).alloc _⟩
        · have HD : Hid (stepF p.s4 p.s6 p.s5 false = false) := hid (by simp [stepF, h4, h0, hl, h1])
          go_enter Tryz.func85, Tryz.ntmps85
          go_wp2_with fail
          go_ret
          exact ⟨by rw [HE.out, HD.out]; rfl, (Frm.refl M0 w).alloc _⟩
  · have HD : Hid (stepF p.s4 p.s6 p.s5 false = decide (p.s6 = 0)) := hid (by simp [stepF, h4])
    go_enter Tryz.func85, Tryz.ntmps85
    go_wp2_with fail
    go_ret
    exact ⟨by rw [HE.out, HD.out]; first | rfl | (simp; exact Bool.eq_iff_iff.mpr (by simp)), (Frm.refl M0 w).alloc _⟩
set_option maxRecDepth 20000 in
theorem step2_calls (p : Sp) (w : World) : Calls Tryz.prog 85 #[p.val, .int .i64 2] w fun r w' => r = .returned (.bool (p.stepB 2)) ∧ Frm M0 w w' := by
  unfold Sp.val
  have HE : Hid (p.stepB 2 = stepF p.s4 p.s7 p.s6 false) := rfl
  by_cases h4 : p.s4 = 0
  · by_cases h0 : p.s7 = 0
    · have HD : Hid (stepF p.s4 p.s7 p.s6 false = true) := hid (by simp [stepF, h4, h0])
      go_enter Tryz.func85, Tryz.ntmps85
      go_wp2_with fail
      go_ret
      exact ⟨by rw [HE.out, HD.out]; rfl, (Frm.refl M0 w).alloc _⟩
    · by_cases hl : p.s6 = 0
      · have HD : Hid (stepF p.s4 p.s7 p.s6 false = false) := hid (by simp [stepF, h4, h0, hl])
        go_enter Tryz.func85, Tryz.ntmps85
        go_wp2_with fail
        go_ret
        exact ⟨by rw [HE.out, HD.out]; rfl, (Frm.refl M0 w).alloc _⟩
      · by_cases h1 : p.s6 < p.s7
        · have HD : Hid (stepF p.s4 p.s7 p.s6 false = decide (p.s7 ≤ 100)) := hid (by simp [stepF, h4, h0, hl, h1])
          go_enter Tryz.func85, Tryz.ntmps85
          go_wp2_with fail
          go_ret
          exact ⟨by rw [HE.out, HD.out]; rfl, (Frm.refl M0 w).alloc _⟩
        · have HD : Hid (stepF p.s4 p.s7 p.s6 false = false) := hid (by simp [stepF, h4, h0, hl, h1])
          go_enter Tryz.func85, Tryz.ntmps85
          go_wp2_with fail
          go_ret
          exact ⟨by rw [HE.out, HD.out]; rfl, (Frm.refl M0 w).alloc _⟩
  · have HD : Hid (stepF p.s4 p.s7 p.s6 false = decide (p.s7 = 0)) := hid (by simp [stepF, h4])
    go_enter Tryz.func85, Tryz.ntmps85
    go_wp2_with fail
    go_ret
    exact ⟨by rw [HE.out, HD.out]; first | rfl | (simp; exact Bool.eq_iff_iff.mpr (by simp)), (Frm.refl M0 w).alloc _⟩
set_option maxRecDepth 20000 in
theorem step3_calls (p : Sp) (w : World) : Calls Tryz.prog 85 #[p.val, .int .i64 3] w fun r w' => r = .returned (.bool (p.stepB 3)) ∧ Frm M0 w w' := by
  unfold Sp.val
  have HE : Hid (p.stepB 3 = stepF p.s4 p.s8 p.s7 false) := rfl
  by_cases h4 : p.s4 = 0
  · by_cases h0 : p.s8 = 0
    · have HD : Hid (stepF p.s4 p.s8 p.s7 false = true) := hid (by simp [stepF, h4, h0])
      go_enter Tryz.func85, Tryz.ntmps85
      go_wp2_with fail
      go_ret
      exact ⟨by rw [HE.out, HD.out]; rfl, (Frm.refl M0 w).alloc _⟩
    · by_cases hl : p.s7 = 0
      · have HD : Hid (stepF p.s4 p.s8 p.s7 false = false) := hid (by simp [stepF, h4, h0, hl])
        go_enter Tryz.func85, Tryz.ntmps85
        go_wp2_with fail
        go_ret
        exact ⟨by rw [HE.out, HD.out]; rfl, (Frm.refl M0 w).alloc _⟩
      · by_cases h1 : p.s7 < p.s8
        · have HD : Hid (stepF p.s4 p.s8 p.s7 false = decide (p.s8 ≤ 100)) := hid (by simp [stepF, h4, h0, hl, h1])
          go_enter Tryz.func85, Tryz.ntmps85
          go_wp2_with fail
          go_ret
          exact ⟨by rw [HE.out, HD.out]; rfl, (Frm.refl M0 w).alloc _⟩
        · have HD : Hid (stepF p.s4 p.s8 p.s7 false = false) := hid (by simp [stepF, h4, h0, hl, h1])
          go_enter Tryz.func85, Tryz.ntmps85
          go_wp2_with fail
          go_ret
          exact ⟨by rw [HE.out, HD.out]; rfl, (Frm.refl M0 w).alloc _⟩
  · have HD : Hid (stepF p.s4 p.s8 p.s7 false = decide (p.s8 = 0)) := hid (by simp [stepF, h4])
    go_enter Tryz.func85, Tryz.ntmps85
    go_wp2_with fail
    go_ret
    exact ⟨by rw [HE.out, HD.out]; first | rfl | (simp; exact Bool.eq_iff_iff.mpr (by simp)), (Frm.refl M0 w).alloc _⟩
set_option maxRecDepth 20000 in
theorem pointers_calls (b : Nat) (w : World) : Calls Tryz.prog 83 #[ptr b] w fun r w' =>
    r = .returned (.agg #[ptr b, .pointer (some ⟨b, 1, none⟩), .pointer (some ⟨b, 2, none⟩), .pointer (some ⟨b, 3, none⟩), .pointer (some ⟨b, 4, none⟩), .pointer (some ⟨b, 5, none⟩), .pointer (some ⟨b, 6, none⟩), .pointer (some ⟨b, 7, none⟩), .pointer (some ⟨b, 8, none⟩), .pointer (some ⟨b, 9, none⟩), .pointer (some ⟨b, 10, none⟩), .pointer (some ⟨b, 11, none⟩)]) ∧ Frm M0 w w' := by
  go_enter Tryz.func83, Tryz.ntmps83
  go_wp2_with fail
  go_still_tail 41, (by kernel_rfl)
  refine wpList_store_row rfl 114 _ _ rfl w.heap.size _ rfl rfl _ _ (heap_alloc_last w _) (by kernel_rfl) rfl (by simp [Value.oneCell']) ?_
  have HH := hid (setRow_heap (w.alloc _) w.heap.size _ (#[ptr b, .pointer (some ⟨b, 1, none⟩), .pointer (some ⟨b, 2, none⟩), .pointer (some ⟨b, 3, none⟩), .pointer (some ⟨b, 4, none⟩), .pointer (some ⟨b, 5, none⟩), .pointer (some ⟨b, 6, none⟩), .pointer (some ⟨b, 7, none⟩), .pointer (some ⟨b, 8, none⟩), .pointer (some ⟨b, 9, none⟩), .pointer (some ⟨b, 10, none⟩), .pointer (some ⟨b, 11, none⟩)]) _ _ (heap_alloc_last w (.cells (Array.replicate 12 (.pointer none)) 114)))
  go_wp2_with fail
  refine bodyPost_ret (results_cell_row (by rfl) _ _ w.heap.size _ _ _ _ rfl HH.out Tryz.underlying114 rfl (by kernel_rfl)) rfl ⟨rfl, ?_⟩
  exact (((Frm.refl M0 w).alloc _).drew).setRow _ _ (Nat.le_refl _)
end Go.Proofs.YtonlmkcolndaaaaGreatDoor
