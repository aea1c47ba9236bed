/- The reference's specs: Of, Fields. No condition. -/
import Derived.Test.YtonlmkcolndaaaaGreatDoorSr
namespace Go.Proofs.YtonlmkcolndaaaaGreatDoor
set_option linter.unusedVariables false
set_option linter.unusedSimpArgs false
set_option maxRecDepth 20000
open Go.RowKit

set_option maxRecDepth 20000 in
set_option maxHeartbeats 4000000 in
theorem rof12 (a : Addr) (c : Nat) (x0 x1 x2 x3 x4 x5 x6 x7 x8 x9 x10 x11 : Int) (w : World) (hr : Rd w 1 (.slice (some a) 12 c) [x0, x1, x2, x3, x4, x5, x6, x7, x8, x9, x10, x11].length (ints .i64 [x0, x1, x2, x3, x4, x5, x6, x7, x8, x9, x10, x11])) : Calls Tryz.prog 67 #[.slice (some a) 12 c] w fun r w' => r = .returned ((Sp.mk x0 x1 x2 x3 x4 x5 x6 x7 x8 x9 x10 x11).val) ∧ Frm M0 w w' := by
  obtain ⟨bl, ol, rfl⟩ : ∃ b o, a = ⟨b, o, none⟩ := by
    obtain ⟨a', c', h1, h2⟩ := hr.shape
    simp only [Value.slice.injEq] at h1
    obtain ⟨b, o, h3⟩ := h2 (by simp)
    exact ⟨b, o, by rw [h3] at h1; simpa using h1.1⟩
  have hcl := hr.cellsOf
  clear hr
  have c0 : w.cell? ⟨bl, ol, none⟩ = some (.int .i64 x0) := hcl 0 (by simp)
  have c1 : w.cell? ⟨bl, ol + 1, none⟩ = some (.int .i64 x1) := hcl 1 (by simp)
  have c2 : w.cell? ⟨bl, ol + 2, none⟩ = some (.int .i64 x2) := hcl 2 (by simp)
  have c3 : w.cell? ⟨bl, ol + 3, none⟩ = some (.int .i64 x3) := hcl 3 (by simp)
  have c4 : w.cell? ⟨bl, ol + 4, none⟩ = some (.int .i64 x4) := hcl 4 (by simp)
  have c5 : w.cell? ⟨bl, ol + 5, none⟩ = some (.int .i64 x5) := hcl 5 (by simp)
  have c6 : w.cell? ⟨bl, ol + 6, none⟩ = some (.int .i64 x6) := hcl 6 (by simp)
  have c7 : w.cell? ⟨bl, ol + 7, none⟩ = some (.int .i64 x7) := hcl 7 (by simp)
  have c8 : w.cell? ⟨bl, ol + 8, none⟩ = some (.int .i64 x8) := hcl 8 (by simp)
  have c9 : w.cell? ⟨bl, ol + 9, none⟩ = some (.int .i64 x9) := hcl 9 (by simp)
  have c10 : w.cell? ⟨bl, ol + 10, none⟩ = some (.int .i64 x10) := hcl 10 (by simp)
  have c11 : w.cell? ⟨bl, ol + 11, none⟩ = some (.int .i64 x11) := hcl 11 (by simp)
  clear hcl
  have HT := hid (heap_alloc_last w (.cells #[.int .i64 0, .int .i64 0, .int .i64 0, .int .i64 0, .int .i64 0, .int .i64 0, .int .i64 0, .int .i64 0, .int .i64 0, .int .i64 0, .int .i64 0, .int .i64 0] 25))
  unfold Sp.val
  go_enter Tryz.func67, Tryz.ntmps67
  go_wp2_with fail
  have F1 := hid ((Frm.refl M0 w).alloc (.cells #[.int .i64 0, .int .i64 0, .int .i64 0, .int .i64 0, .int .i64 0, .int .i64 0, .int .i64 0, .int .i64 0, .int .i64 0, .int .i64 0, .int .i64 0, .int .i64 0] 25))
  obtain ⟨w1, hw1⟩ : ∃ x, x = w.alloc (.cells #[.int .i64 0, .int .i64 0, .int .i64 0, .int .i64 0, .int .i64 0, .int .i64 0, .int .i64 0, .int .i64 0, .int .i64 0, .int .i64 0, .int .i64 0, .int .i64 0] 25) := ⟨_, rfl⟩
  rw [← hw1] at HT F1
  rw [← hw1]
  clear hw1
  have e0 : w1.cell? ⟨bl, ol, none⟩ = some (.int .i64 x0) := F1.out.cell c0 (fun h => h)
  have e1 : w1.cell? ⟨bl, ol + 1, none⟩ = some (.int .i64 x1) := F1.out.cell c1 (fun h => h)
  have e2 : w1.cell? ⟨bl, ol + 2, none⟩ = some (.int .i64 x2) := F1.out.cell c2 (fun h => h)
  have e3 : w1.cell? ⟨bl, ol + 3, none⟩ = some (.int .i64 x3) := F1.out.cell c3 (fun h => h)
  have e4 : w1.cell? ⟨bl, ol + 4, none⟩ = some (.int .i64 x4) := F1.out.cell c4 (fun h => h)
  have e5 : w1.cell? ⟨bl, ol + 5, none⟩ = some (.int .i64 x5) := F1.out.cell c5 (fun h => h)
  have e6 : w1.cell? ⟨bl, ol + 6, none⟩ = some (.int .i64 x6) := F1.out.cell c6 (fun h => h)
  have e7 : w1.cell? ⟨bl, ol + 7, none⟩ = some (.int .i64 x7) := F1.out.cell c7 (fun h => h)
  have e8 : w1.cell? ⟨bl, ol + 8, none⟩ = some (.int .i64 x8) := F1.out.cell c8 (fun h => h)
  have e9 : w1.cell? ⟨bl, ol + 9, none⟩ = some (.int .i64 x9) := F1.out.cell c9 (fun h => h)
  have e10 : w1.cell? ⟨bl, ol + 10, none⟩ = some (.int .i64 x10) := F1.out.cell c10 (fun h => h)
  have e11 : w1.cell? ⟨bl, ol + 11, none⟩ = some (.int .i64 x11) := F1.out.cell c11 (fun h => h)
  clear c0 c1 c2 c3 c4 c5 c6 c7 c8 c9 c10 c11
  go_still_tail 38, (by kernel_rfl)
  refine wpList_store_row rfl 25 _ _ rfl w.heap.size #[.int .i64 x0, .int .i64 x1, .int .i64 x2, .int .i64 x3, .int .i64 x4, .int .i64 x5, .int .i64 x6, .int .i64 x7, .int .i64 x8, .int .i64 x9, .int .i64 x10, .int .i64 x11] (by kernel_rfl) (by kernel_rfl) _ _ HT.out (by kernel_rfl) rfl (by simp [Value.oneCell']) ?_
  have HH := hid (setRow_heap w1 w.heap.size _ (#[.int .i64 x0, .int .i64 x1, .int .i64 x2, .int .i64 x3, .int .i64 x4, .int .i64 x5, .int .i64 x6, .int .i64 x7, .int .i64 x8, .int .i64 x9, .int .i64 x10, .int .i64 x11]) _ _ HT.out)
  go_wp2_with fail
  refine bodyPost_ret (results_cell_row (by rfl) _ _ w.heap.size _ _ _ _ (by kernel_rfl) HH.out Tryz.underlying25 rfl (by kernel_rfl)) rfl ⟨rfl, ?_⟩
  exact (F1.out.drew).setRow _ _ (Nat.le_refl _)
theorem rof_calls (v : Value) (l : List Int) (w : World) (hr : Rd w 1 v l.length (ints .i64 l)) (hl : l.length = 12) : Calls Tryz.prog 67 #[v] w fun r w' => r = .returned (Sp.ofL l).val ∧ Frm M0 w w' := by
  obtain ⟨a, c, rfl, h⟩ := hr.shape
  obtain ⟨b, o', rfl⟩ := h (by omega)
  match l, hl with
  | [x0, x1, x2, x3, x4, x5, x6, x7, x8, x9, x10, x11], _ => exact rof12 _ c x0 x1 x2 x3 x4 x5 x6 x7 x8 x9 x10 x11 w hr

set_option maxRecDepth 20000 in
set_option maxHeartbeats 4000000 in
theorem rfields_calls (p : Sp) (w : World) : Calls Tryz.prog 75 #[p.val] w fun r w' => ∃ v, r = .returned v ∧ Rd w' 1 v p.nums.length (ints .i64 p.nums) ∧ Frm M0 w w' := by
  unfold Sp.val
  go_enter Tryz.func75, Tryz.ntmps75
  go_wp2_with fail
  go_ret
  refine ⟨_, rfl, ?_, ((Frm.refl M0 w).alloc _).alloc _⟩
  refine ⟨by simp [Sp.nums], .inr ⟨⟨w.heap.size + 1, 0, none⟩, 12, rfl, by simp [Sp.nums], by simp [maxLen], fun j u hu => ?_⟩⟩
  rw [add_none, Nat.zero_add]
  have hh := (new2 w (.cells #[.int .i64 p.s0, .int .i64 p.s1, .int .i64 p.s2, .int .i64 p.s3, .int .i64 p.s4, .int .i64 p.s5, .int .i64 p.s6, .int .i64 p.s7, .int .i64 p.s8, .int .i64 p.s9, .int .i64 p.s10, .int .i64 p.s11] 25) (.cells #[.int .i64 p.s0, .int .i64 p.s1, .int .i64 p.s2, .int .i64 p.s3, .int .i64 p.s4, .int .i64 p.s5, .int .i64 p.s6, .int .i64 p.s7, .int .i64 p.s8, .int .i64 p.s9, .int .i64 p.s10, .int .i64 p.s11] 3)).2
  rw [cell_at hh j, ← hu]
  simp [Sp.nums]
end Go.Proofs.YtonlmkcolndaaaaGreatDoor
