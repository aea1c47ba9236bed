/- kinds$4, kinds$6, kinds$9: publish, move, step. No condition. -/
import Derived.Test.YtonlmkcolndaaaaGreatDoorKc
namespace Go.Proofs.YtonlmkcolndaaaaGreatDoor
set_option linter.unusedVariables false
set_option linter.unusedSimpArgs false
set_option maxRecDepth 20000
open Go.RowKit

theorem cells18 {w : World} {b : Nat} {r : Rc} (h : w.heap[b]? = some (.cells #[.int .i64 r.k, .int .i64 r.e, .int .i64 r.w, .int .i64 r.n, .int .i64 r.q, .string r.t, .int .i64 r.p.s0, .int .i64 r.p.s1, .int .i64 r.p.s2, .int .i64 r.p.s3, .int .i64 r.p.s4, .int .i64 r.p.s5, .int .i64 r.p.s6, .int .i64 r.p.s7, .int .i64 r.p.s8, .int .i64 r.p.s9, .int .i64 r.p.s10, .int .i64 r.p.s11] 27 (0, 0))) : w.cell? ⟨b, 2, none⟩ = some (.int .i64 r.w) ∧ w.cell? ⟨b, 3, none⟩ = some (.int .i64 r.n) ∧ w.cell? ⟨b, 4, none⟩ = some (.int .i64 r.q) := ⟨cell_at h 2, cell_at h 3, cell_at h 4⟩

/-- kinds$4, publish. -/
def publishB (r : Rc) : Bool := btw r.t.size 1 64 && (btw r.n 1 1048576 && (req ⟨0, 0, r.w, 0, r.q, .empty, r.p⟩ Rc.zero))
set_option maxRecDepth 20000 in
set_option maxHeartbeats 2000000 in
theorem publish_calls (r : Rc) (t1 : Nat) (w : World) (h1 : w.cell? ⟨t1, 0, none⟩ = some (fnv 88 #[])) : Calls Tryz.prog 91 #[r.val, ptr t1] w fun x w' => x = .returned (.bool (publishB r)) ∧ Frm M0 w w' := by
  unfold Rc.val
  have H1 := hid (((Frm.refl M0 w).alloc (.cells #[.int .i64 r.k, .int .i64 r.e, .int .i64 r.w, .int .i64 r.n, .int .i64 r.q, .string r.t, .int .i64 r.p.s0, .int .i64 r.p.s1, .int .i64 r.p.s2, .int .i64 r.p.s3, .int .i64 r.p.s4, .int .i64 r.p.s5, .int .i64 r.p.s6, .int .i64 r.p.s7, .int .i64 r.p.s8, .int .i64 r.p.s9, .int .i64 r.p.s10, .int .i64 r.p.s11] 27)).cell h1 (fun h => h))
  have ht : t1 < w.heap.size := World.block_lt_of_cell? w ⟨t1, 0, none⟩ h1
  clear h1
  go_enter Tryz.func91, Tryz.ntmps91
  go_wp2_with fail
  refine (text_calls r _ _ (heap_alloc_last w _)).mono ?_
  rintro _ w1 ⟨rfl, hh, hf⟩
  have hc1 := hf.cell H1.out (by show ¬ t1 = _; omega)
  have hF : Frm M0 w w1 := ((Frm.refl M0 w).alloc (.cells #[.int .i64 r.k, .int .i64 r.e, .int .i64 r.w, .int .i64 r.n, .int .i64 r.q, .string r.t, .int .i64 r.p.s0, .int .i64 r.p.s1, .int .i64 r.p.s2, .int .i64 r.p.s3, .int .i64 r.p.s4, .int .i64 r.p.s5, .int .i64 r.p.s6, .int .i64 r.p.s7, .int .i64 r.p.s8, .int .i64 r.p.s9, .int .i64 r.p.s10, .int .i64 r.p.s11] 27)).trans hf (fun b hb e => by subst e; exact absurd hb (Nat.lt_irrefl _))
  have HF := hid hF
  have HH := hid hh
  have HC := hid hc1
  clear hF hf hh hc1 H1
  obtain ⟨c2, c3, c4⟩ : w1.cell? ⟨w.heap.size, 2, none⟩ = some (.int .i64 r.w) ∧ w1.cell? ⟨w.heap.size, 3, none⟩ = some (.int .i64 r.n) ∧ w1.cell? ⟨w.heap.size, 4, none⟩ = some (.int .i64 r.q) := ⟨cell_at HH.out 2, cell_at HH.out 3, cell_at HH.out 4⟩
  obtain ⟨b0, HB0⟩ : ∃ b, Hid (btw r.t.size 1 64 = b) := ⟨_, rfl⟩
  rw [HB0.out]
  cases b0
  · go_wp2_with fail
    go_ret
    exact ⟨by simp [publishB, HB0.out], HF.out⟩
  go_wp2_with fail
  refine (btw_calls _ _ _ _).mono ?_
  rintro _ _ ⟨rfl, rfl⟩
  obtain ⟨b1, HB1⟩ : ∃ b, Hid (btw r.n 1 1048576 = b) := ⟨_, rfl⟩
  rw [HB1.out]
  cases b1
  · go_wp2_with fail
    go_ret
    exact ⟨by simp [publishB, HB0.out, HB1.out], HF.out⟩
  have hc := HC.out
  have d0 : w1.cell? ⟨w.heap.size, 6, none⟩ = some (.int .i64 r.p.s0) := cell_at HH.out 6
  have d1 : w1.cell? ⟨w.heap.size, 7, none⟩ = some (.int .i64 r.p.s1) := cell_at HH.out 7
  have d2 : w1.cell? ⟨w.heap.size, 8, none⟩ = some (.int .i64 r.p.s2) := cell_at HH.out 8
  have d3 : w1.cell? ⟨w.heap.size, 9, none⟩ = some (.int .i64 r.p.s3) := cell_at HH.out 9
  have d4 : w1.cell? ⟨w.heap.size, 10, none⟩ = some (.int .i64 r.p.s4) := cell_at HH.out 10
  have d5 : w1.cell? ⟨w.heap.size, 11, none⟩ = some (.int .i64 r.p.s5) := cell_at HH.out 11
  have d6 : w1.cell? ⟨w.heap.size, 12, none⟩ = some (.int .i64 r.p.s6) := cell_at HH.out 12
  have d7 : w1.cell? ⟨w.heap.size, 13, none⟩ = some (.int .i64 r.p.s7) := cell_at HH.out 13
  have d8 : w1.cell? ⟨w.heap.size, 14, none⟩ = some (.int .i64 r.p.s8) := cell_at HH.out 14
  have d9 : w1.cell? ⟨w.heap.size, 15, none⟩ = some (.int .i64 r.p.s9) := cell_at HH.out 15
  have d10 : w1.cell? ⟨w.heap.size, 16, none⟩ = some (.int .i64 r.p.s10) := cell_at HH.out 16
  have d11 : w1.cell? ⟨w.heap.size, 17, none⟩ = some (.int .i64 r.p.s11) := cell_at HH.out 17
  go_wp2_with fail
  refine (bare_calls ⟨0, 0, r.w, 0, r.q, .empty, r.p⟩ _).mono ?_
  rintro _ w2 ⟨rfl, hf2⟩
  have HF2 := hid (HF.out.then0 hf2); clear hf2
  go_wp2_with fail
  go_ret
  exact ⟨by simp [publishB, HB0.out, HB1.out], HF2.out⟩

/-- kinds$6, move. -/
def moveB (r : Rc) : Bool := btw r.t.size 1 64 && (btw r.n 1 5 && (req ⟨0, 0, r.w, 0, r.q, .empty, r.p⟩ Rc.zero))
set_option maxRecDepth 20000 in
set_option maxHeartbeats 2000000 in
theorem move_calls (r : Rc) (t1 : Nat) (w : World) (h1 : w.cell? ⟨t1, 0, none⟩ = some (fnv 88 #[])) : Calls Tryz.prog 94 #[r.val, ptr t1] w fun x w' => x = .returned (.bool (moveB r)) ∧ Frm M0 w w' := by
  unfold Rc.val
  have H1 := hid (((Frm.refl M0 w).alloc (.cells #[.int .i64 r.k, .int .i64 r.e, .int .i64 r.w, .int .i64 r.n, .int .i64 r.q, .string r.t, .int .i64 r.p.s0, .int .i64 r.p.s1, .int .i64 r.p.s2, .int .i64 r.p.s3, .int .i64 r.p.s4, .int .i64 r.p.s5, .int .i64 r.p.s6, .int .i64 r.p.s7, .int .i64 r.p.s8, .int .i64 r.p.s9, .int .i64 r.p.s10, .int .i64 r.p.s11] 27)).cell h1 (fun h => h))
  have ht : t1 < w.heap.size := World.block_lt_of_cell? w ⟨t1, 0, none⟩ h1
  clear h1
  go_enter Tryz.func94, Tryz.ntmps94
  go_wp2_with fail
  refine (text_calls r _ _ (heap_alloc_last w _)).mono ?_
  rintro _ w1 ⟨rfl, hh, hf⟩
  have hc1 := hf.cell H1.out (by show ¬ t1 = _; omega)
  have hF : Frm M0 w w1 := ((Frm.refl M0 w).alloc (.cells #[.int .i64 r.k, .int .i64 r.e, .int .i64 r.w, .int .i64 r.n, .int .i64 r.q, .string r.t, .int .i64 r.p.s0, .int .i64 r.p.s1, .int .i64 r.p.s2, .int .i64 r.p.s3, .int .i64 r.p.s4, .int .i64 r.p.s5, .int .i64 r.p.s6, .int .i64 r.p.s7, .int .i64 r.p.s8, .int .i64 r.p.s9, .int .i64 r.p.s10, .int .i64 r.p.s11] 27)).trans hf (fun b hb e => by subst e; exact absurd hb (Nat.lt_irrefl _))
  have HF := hid hF
  have HH := hid hh
  have HC := hid hc1
  clear hF hf hh hc1 H1
  obtain ⟨c2, c3, c4⟩ : w1.cell? ⟨w.heap.size, 2, none⟩ = some (.int .i64 r.w) ∧ w1.cell? ⟨w.heap.size, 3, none⟩ = some (.int .i64 r.n) ∧ w1.cell? ⟨w.heap.size, 4, none⟩ = some (.int .i64 r.q) := ⟨cell_at HH.out 2, cell_at HH.out 3, cell_at HH.out 4⟩
  obtain ⟨b0, HB0⟩ : ∃ b, Hid (btw r.t.size 1 64 = b) := ⟨_, rfl⟩
  rw [HB0.out]
  cases b0
  · go_wp2_with fail
    go_ret
    exact ⟨by simp [moveB, HB0.out], HF.out⟩
  go_wp2_with fail
  refine (btw_calls _ _ _ _).mono ?_
  rintro _ _ ⟨rfl, rfl⟩
  obtain ⟨b1, HB1⟩ : ∃ b, Hid (btw r.n 1 5 = b) := ⟨_, rfl⟩
  rw [HB1.out]
  cases b1
  · go_wp2_with fail
    go_ret
    exact ⟨by simp [moveB, HB0.out, HB1.out], HF.out⟩
  have hc := HC.out
  have d0 : w1.cell? ⟨w.heap.size, 6, none⟩ = some (.int .i64 r.p.s0) := cell_at HH.out 6
  have d1 : w1.cell? ⟨w.heap.size, 7, none⟩ = some (.int .i64 r.p.s1) := cell_at HH.out 7
  have d2 : w1.cell? ⟨w.heap.size, 8, none⟩ = some (.int .i64 r.p.s2) := cell_at HH.out 8
  have d3 : w1.cell? ⟨w.heap.size, 9, none⟩ = some (.int .i64 r.p.s3) := cell_at HH.out 9
  have d4 : w1.cell? ⟨w.heap.size, 10, none⟩ = some (.int .i64 r.p.s4) := cell_at HH.out 10
  have d5 : w1.cell? ⟨w.heap.size, 11, none⟩ = some (.int .i64 r.p.s5) := cell_at HH.out 11
  have d6 : w1.cell? ⟨w.heap.size, 12, none⟩ = some (.int .i64 r.p.s6) := cell_at HH.out 12
  have d7 : w1.cell? ⟨w.heap.size, 13, none⟩ = some (.int .i64 r.p.s7) := cell_at HH.out 13
  have d8 : w1.cell? ⟨w.heap.size, 14, none⟩ = some (.int .i64 r.p.s8) := cell_at HH.out 14
  have d9 : w1.cell? ⟨w.heap.size, 15, none⟩ = some (.int .i64 r.p.s9) := cell_at HH.out 15
  have d10 : w1.cell? ⟨w.heap.size, 16, none⟩ = some (.int .i64 r.p.s10) := cell_at HH.out 16
  have d11 : w1.cell? ⟨w.heap.size, 17, none⟩ = some (.int .i64 r.p.s11) := cell_at HH.out 17
  go_wp2_with fail
  refine (bare_calls ⟨0, 0, r.w, 0, r.q, .empty, r.p⟩ _).mono ?_
  rintro _ w2 ⟨rfl, hf2⟩
  have HF2 := hid (HF.out.then0 hf2); clear hf2
  go_wp2_with fail
  go_ret
  exact ⟨by simp [moveB, HB0.out, HB1.out], HF2.out⟩

/-- kinds$9, step. -/
def stepB (r : Rc) : Bool := btw r.t.size 1 64 && (btw r.w 1 4 && (btw r.n 0 1099511627776 && (req ⟨0, 0, 0, 0, r.q, .empty, r.p⟩ Rc.zero)))
set_option maxRecDepth 20000 in
set_option maxHeartbeats 2000000 in
theorem step_calls (r : Rc) (t1 : Nat) (w : World) (h1 : w.cell? ⟨t1, 0, none⟩ = some (fnv 88 #[])) : Calls Tryz.prog 97 #[r.val, ptr t1] w fun x w' => x = .returned (.bool (stepB r)) ∧ Frm M0 w w' := by
  unfold Rc.val
  have H1 := hid (((Frm.refl M0 w).alloc (.cells #[.int .i64 r.k, .int .i64 r.e, .int .i64 r.w, .int .i64 r.n, .int .i64 r.q, .string r.t, .int .i64 r.p.s0, .int .i64 r.p.s1, .int .i64 r.p.s2, .int .i64 r.p.s3, .int .i64 r.p.s4, .int .i64 r.p.s5, .int .i64 r.p.s6, .int .i64 r.p.s7, .int .i64 r.p.s8, .int .i64 r.p.s9, .int .i64 r.p.s10, .int .i64 r.p.s11] 27)).cell h1 (fun h => h))
  have ht : t1 < w.heap.size := World.block_lt_of_cell? w ⟨t1, 0, none⟩ h1
  clear h1
  go_enter Tryz.func97, Tryz.ntmps97
  go_wp2_with fail
  refine (text_calls r _ _ (heap_alloc_last w _)).mono ?_
  rintro _ w1 ⟨rfl, hh, hf⟩
  have hc1 := hf.cell H1.out (by show ¬ t1 = _; omega)
  have hF : Frm M0 w w1 := ((Frm.refl M0 w).alloc (.cells #[.int .i64 r.k, .int .i64 r.e, .int .i64 r.w, .int .i64 r.n, .int .i64 r.q, .string r.t, .int .i64 r.p.s0, .int .i64 r.p.s1, .int .i64 r.p.s2, .int .i64 r.p.s3, .int .i64 r.p.s4, .int .i64 r.p.s5, .int .i64 r.p.s6, .int .i64 r.p.s7, .int .i64 r.p.s8, .int .i64 r.p.s9, .int .i64 r.p.s10, .int .i64 r.p.s11] 27)).trans hf (fun b hb e => by subst e; exact absurd hb (Nat.lt_irrefl _))
  have HF := hid hF
  have HH := hid hh
  have HC := hid hc1
  clear hF hf hh hc1 H1
  obtain ⟨c2, c3, c4⟩ : w1.cell? ⟨w.heap.size, 2, none⟩ = some (.int .i64 r.w) ∧ w1.cell? ⟨w.heap.size, 3, none⟩ = some (.int .i64 r.n) ∧ w1.cell? ⟨w.heap.size, 4, none⟩ = some (.int .i64 r.q) := ⟨cell_at HH.out 2, cell_at HH.out 3, cell_at HH.out 4⟩
  obtain ⟨b0, HB0⟩ : ∃ b, Hid (btw r.t.size 1 64 = b) := ⟨_, rfl⟩
  rw [HB0.out]
  cases b0
  · go_wp2_with fail
    go_ret
    exact ⟨by simp [stepB, HB0.out], HF.out⟩
  go_wp2_with fail
  refine (btw_calls _ _ _ _).mono ?_
  rintro _ _ ⟨rfl, rfl⟩
  obtain ⟨b1, HB1⟩ : ∃ b, Hid (btw r.w 1 4 = b) := ⟨_, rfl⟩
  rw [HB1.out]
  cases b1
  · go_wp2_with fail
    go_ret
    exact ⟨by simp [stepB, HB0.out, HB1.out], HF.out⟩
  go_wp2_with fail
  refine (btw_calls _ _ _ _).mono ?_
  rintro _ _ ⟨rfl, rfl⟩
  obtain ⟨b2, HB2⟩ : ∃ b, Hid (btw r.n 0 1099511627776 = b) := ⟨_, rfl⟩
  rw [HB2.out]
  cases b2
  · go_wp2_with fail
    go_ret
    exact ⟨by simp [stepB, HB0.out, HB1.out, HB2.out], HF.out⟩
  have hc := HC.out
  have d0 : w1.cell? ⟨w.heap.size, 6, none⟩ = some (.int .i64 r.p.s0) := cell_at HH.out 6
  have d1 : w1.cell? ⟨w.heap.size, 7, none⟩ = some (.int .i64 r.p.s1) := cell_at HH.out 7
  have d2 : w1.cell? ⟨w.heap.size, 8, none⟩ = some (.int .i64 r.p.s2) := cell_at HH.out 8
  have d3 : w1.cell? ⟨w.heap.size, 9, none⟩ = some (.int .i64 r.p.s3) := cell_at HH.out 9
  have d4 : w1.cell? ⟨w.heap.size, 10, none⟩ = some (.int .i64 r.p.s4) := cell_at HH.out 10
  have d5 : w1.cell? ⟨w.heap.size, 11, none⟩ = some (.int .i64 r.p.s5) := cell_at HH.out 11
  have d6 : w1.cell? ⟨w.heap.size, 12, none⟩ = some (.int .i64 r.p.s6) := cell_at HH.out 12
  have d7 : w1.cell? ⟨w.heap.size, 13, none⟩ = some (.int .i64 r.p.s7) := cell_at HH.out 13
  have d8 : w1.cell? ⟨w.heap.size, 14, none⟩ = some (.int .i64 r.p.s8) := cell_at HH.out 14
  have d9 : w1.cell? ⟨w.heap.size, 15, none⟩ = some (.int .i64 r.p.s9) := cell_at HH.out 15
  have d10 : w1.cell? ⟨w.heap.size, 16, none⟩ = some (.int .i64 r.p.s10) := cell_at HH.out 16
  have d11 : w1.cell? ⟨w.heap.size, 17, none⟩ = some (.int .i64 r.p.s11) := cell_at HH.out 17
  go_wp2_with fail
  refine (bare_calls ⟨0, 0, 0, 0, r.q, .empty, r.p⟩ _).mono ?_
  rintro _ w2 ⟨rfl, hf2⟩
  have HF2 := hid (HF.out.then0 hf2); clear hf2
  go_wp2_with fail
  go_ret
  exact ⟨by simp [stepB, HB0.out, HB1.out, HB2.out], HF2.out⟩

end Go.Proofs.YtonlmkcolndaaaaGreatDoor
