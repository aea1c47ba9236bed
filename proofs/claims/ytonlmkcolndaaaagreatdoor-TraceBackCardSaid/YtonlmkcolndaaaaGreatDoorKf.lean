/- kinds$7, kinds$8: intent, ack. No condition. -/
import Derived.Test.YtonlmkcolndaaaaGreatDoorKc
namespace Go.Proofs.YtonlmkcolndaaaaGreatDoor
set_option linter.unusedVariables false
set_option linter.unusedSimpArgs false
set_option maxRecDepth 20000
open Go.RowKit

def intentB (r : Rc) : Bool := unitB r && btw r.n 0 1048576
set_option maxRecDepth 20000 in
set_option maxHeartbeats 2000000 in
theorem intent_calls (r : Rc) (t1 t2 : Nat) (w : World) (h1 : w.cell? ⟨t1, 0, none⟩ = some (fnv 88 #[])) (h2 : w.cell? ⟨t2, 0, none⟩ = some (fnv 89 #[ptr t1])) :
    Calls Tryz.prog 95 #[r.val, ptr t2] w fun x w' => x = .returned (.bool (intentB r)) ∧ Frm M0 w w' := by
  unfold Rc.val
  have hk1 := ((Frm.refl M0 w).alloc (.cells #[.int .i64 r.k, .int .i64 r.e, .int .i64 r.w, .int .i64 r.n, .int .i64 r.q, .string r.t, .int .i64 r.p.s0, .int .i64 r.p.s1, .int .i64 r.p.s2, .int .i64 r.p.s3, .int .i64 r.p.s4, .int .i64 r.p.s5, .int .i64 r.p.s6, .int .i64 r.p.s7, .int .i64 r.p.s8, .int .i64 r.p.s9, .int .i64 r.p.s10, .int .i64 r.p.s11] 27)).cell h1 (fun h => h)
  have hk2 := ((Frm.refl M0 w).alloc (.cells #[.int .i64 r.k, .int .i64 r.e, .int .i64 r.w, .int .i64 r.n, .int .i64 r.q, .string r.t, .int .i64 r.p.s0, .int .i64 r.p.s1, .int .i64 r.p.s2, .int .i64 r.p.s3, .int .i64 r.p.s4, .int .i64 r.p.s5, .int .i64 r.p.s6, .int .i64 r.p.s7, .int .i64 r.p.s8, .int .i64 r.p.s9, .int .i64 r.p.s10, .int .i64 r.p.s11] 27)).cell h2 (fun h => h)
  have H1 := hid hk1; clear hk1 h1 h2
  go_enter Tryz.func95, Tryz.ntmps95
  go_wp2_with (refine wpList_load_row rfl 27 (.tmp 2) rfl w.heap.size rfl _ _ _ _ (heap_alloc_last w _) Tryz.underlying27 rfl (by kernel_rfl) ?_)
  refine (unit_calls r t1 _ H1.out).mono ?_
  rintro _ w' ⟨rfl, hf⟩
  have hb5 := hf.heap (heap_alloc_last w _) (fun h => h)
  have hn : w'.cell? ⟨w.heap.size, 3, none⟩ = some (.int .i64 r.n) := cell_at hb5 3
  have HF := hid (((Frm.refl M0 w).alloc _).then0 hf); clear hf hb5
  obtain ⟨b1, HB1⟩ : ∃ b, Hid (unitB r = b) := ⟨_, rfl⟩
  rw [HB1.out]
  cases b1
  · go_wp2_with fail
    go_ret
    exact ⟨by simp [intentB, HB1.out], HF.out⟩
  go_wp2_with fail
  refine (btw_calls _ _ _ _).mono ?_
  rintro _ _ ⟨rfl, rfl⟩
  go_wp2_with fail
  go_ret
  exact ⟨by simp [intentB, HB1.out], HF.out⟩

def ackB (r : Rc) : Bool := unitB r && decide (r.n = 0)
set_option maxRecDepth 20000 in
set_option maxHeartbeats 2000000 in
theorem ack_calls (r : Rc) (t1 t2 : Nat) (w : World) (h1 : w.cell? ⟨t1, 0, none⟩ = some (fnv 88 #[])) (h2 : w.cell? ⟨t2, 0, none⟩ = some (fnv 89 #[ptr t1])) :
    Calls Tryz.prog 96 #[r.val, ptr t2] w fun x w' => x = .returned (.bool (ackB r)) ∧ Frm M0 w w' := by
  unfold Rc.val
  have hk1 := ((Frm.refl M0 w).alloc (.cells #[.int .i64 r.k, .int .i64 r.e, .int .i64 r.w, .int .i64 r.n, .int .i64 r.q, .string r.t, .int .i64 r.p.s0, .int .i64 r.p.s1, .int .i64 r.p.s2, .int .i64 r.p.s3, .int .i64 r.p.s4, .int .i64 r.p.s5, .int .i64 r.p.s6, .int .i64 r.p.s7, .int .i64 r.p.s8, .int .i64 r.p.s9, .int .i64 r.p.s10, .int .i64 r.p.s11] 27)).cell h1 (fun h => h)
  have hk2 := ((Frm.refl M0 w).alloc (.cells #[.int .i64 r.k, .int .i64 r.e, .int .i64 r.w, .int .i64 r.n, .int .i64 r.q, .string r.t, .int .i64 r.p.s0, .int .i64 r.p.s1, .int .i64 r.p.s2, .int .i64 r.p.s3, .int .i64 r.p.s4, .int .i64 r.p.s5, .int .i64 r.p.s6, .int .i64 r.p.s7, .int .i64 r.p.s8, .int .i64 r.p.s9, .int .i64 r.p.s10, .int .i64 r.p.s11] 27)).cell h2 (fun h => h)
  have H1 := hid hk1; clear hk1 h1 h2
  go_enter Tryz.func96, Tryz.ntmps96
  go_wp2_with (refine wpList_load_row rfl 27 (.tmp 2) rfl w.heap.size rfl _ _ _ _ (heap_alloc_last w _) Tryz.underlying27 rfl (by kernel_rfl) ?_)
  refine (unit_calls r t1 _ H1.out).mono ?_
  rintro _ w' ⟨rfl, hf⟩
  have hb5 := hf.heap (heap_alloc_last w _) (fun h => h)
  have hn : w'.cell? ⟨w.heap.size, 3, none⟩ = some (.int .i64 r.n) := cell_at hb5 3
  have HF := hid (((Frm.refl M0 w).alloc _).then0 hf); clear hf hb5
  obtain ⟨b1, HB1⟩ : ∃ b, Hid (unitB r = b) := ⟨_, rfl⟩
  rw [HB1.out]
  have HA : Hid (ackB r = (b1 && decide (r.n = 0))) := hid (by unfold ackB; rw [HB1.out])
  cases b1
  · go_wp2_with fail
    go_ret
    exact ⟨by rw [HA.out]; rfl, HF.out⟩
  go_wp2_with fail
  go_ret
  exact ⟨by rw [HA.out]; simp; exact Bool.eq_iff_iff.mpr (by simp), HF.out⟩
end Go.Proofs.YtonlmkcolndaaaaGreatDoor
