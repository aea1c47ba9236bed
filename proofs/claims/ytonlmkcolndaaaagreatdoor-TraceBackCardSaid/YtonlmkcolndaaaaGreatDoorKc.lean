/- What the closures of record.kinds say of a record (in progress). -/
import Derived.Test.YtonlmkcolndaaaaGreatDoorKa
import Derived.Deep.RegionHeld3
namespace Go.Proofs.YtonlmkcolndaaaaGreatDoor
set_option linter.unusedVariables false
set_option linter.unusedSimpArgs false
set_option maxRecDepth 20000
open Go.RowKit

theorem cell_at {w : World} {g : Nat} {cur : Array Value} {e : TypeId} {f : Nat × Nat} (hh : w.heap[g]? = some (.cells cur e f)) (o : Nat) : w.cell? ⟨g, o, none⟩ = cur[o]? := by
  simp [World.cell?, hh]
theorem frozen_at {w : World} {g : Nat} {cur : Array Value} {e : TypeId} (hh : w.heap[g]? = some (.cells cur e (0, 0))) (o : Nat) : w.frozen? ⟨g, o, none⟩ = false := by
  simp [World.frozen?, hh]
/-- kinds$2, unit. -/
def unitB (r : Rc) : Bool := btw r.w 0 15 && (btw r.q 1 1099511627776 && req ⟨0, 0, 0, 0, 0, r.t, r.p⟩ Rc.zero)
set_option maxRecDepth 20000 in
set_option maxHeartbeats 2000000 in
theorem unit_calls (r : Rc) (t1 : Nat) (w : World) (h1 : w.cell? ⟨t1, 0, none⟩ = some (fnv 88 #[])) : Calls Tryz.prog 89 #[r.val, ptr t1] w fun x w' => x = .returned (.bool (unitB r)) ∧ Frm M0 w w' := by
  unfold Rc.val
  have H1 := hid h1; clear h1
  go_enter Tryz.func89, Tryz.ntmps89
  go_wp2_with fail
  refine (btw_calls _ _ _ _).mono ?_
  rintro _ _ ⟨rfl, rfl⟩
  obtain ⟨b1, HB1⟩ : ∃ b1, Hid (btw r.w 0 15 = b1) := ⟨_, rfl⟩
  rw [HB1.out]
  cases b1
  · go_wp2_with fail
    go_ret
    exact ⟨by simp [unitB, HB1.out], (Frm.refl M0 w).alloc _⟩
  go_wp2_with fail
  refine (btw_calls _ _ _ _).mono ?_
  rintro _ _ ⟨rfl, rfl⟩
  obtain ⟨b2, HB2⟩ : ∃ b2, Hid (btw r.q 1 1099511627776 = b2) := ⟨_, rfl⟩
  rw [HB2.out]
  cases b2
  · go_wp2_with fail
    go_ret
    exact ⟨by simp [unitB, HB1.out, HB2.out], (Frm.refl M0 w).alloc _⟩
  have hc := ((Frm.refl M0 w).alloc (.cells #[.int .i64 r.k, .int .i64 r.e, .int .i64 r.w, .int .i64 r.n, .int .i64 r.q, .string r.t, .int .i64 r.p.s0, .int .i64 r.p.s1, .int .i64 r.p.s2, .int .i64 r.p.s3, .int .i64 r.p.s4, .int .i64 r.p.s5, .int .i64 r.p.s6, .int .i64 r.p.s7, .int .i64 r.p.s8, .int .i64 r.p.s9, .int .i64 r.p.s10, .int .i64 r.p.s11] 27)).cell H1.out (fun h => h)
  go_wp2_with fail
  refine (bare_calls ⟨0, 0, 0, 0, 0, r.t, r.p⟩ _).mono ?_
  rintro _ w' ⟨rfl, hf⟩
  have HF := hid (((Frm.refl M0 w).alloc _).then0 hf); clear hf
  go_wp2_with fail
  go_ret
  exact ⟨by simp [unitB, HB1.out, HB2.out], HF.out⟩

/-- kinds$3, lead. -/
def leadB (r : Rc) : Bool := btw r.w 0 63 && (btw r.n 0 1099511627776 && (btw r.q 1 1048576 && req ⟨0, 0, 0, 0, 0, r.t, r.p⟩ Rc.zero))
set_option maxRecDepth 20000 in
set_option maxHeartbeats 2000000 in
theorem lead_calls (r : Rc) (t1 : Nat) (w : World) (h1 : w.cell? ⟨t1, 0, none⟩ = some (fnv 88 #[])) : Calls Tryz.prog 90 #[r.val, ptr t1] w fun x w' => x = .returned (.bool (leadB r)) ∧ Frm M0 w w' := by
  unfold Rc.val
  have H1 := hid h1; clear h1
  go_enter Tryz.func90, Tryz.ntmps90
  go_wp2_with fail
  refine (btw_calls _ _ _ _).mono ?_
  rintro _ _ ⟨rfl, rfl⟩
  obtain ⟨b1, HB1⟩ : ∃ b, Hid (btw r.w 0 63 = b) := ⟨_, rfl⟩
  rw [HB1.out]
  cases b1
  · go_wp2_with fail
    go_ret
    exact ⟨by simp [leadB, HB1.out], (Frm.refl M0 w).alloc _⟩
  go_wp2_with fail
  refine (btw_calls _ _ _ _).mono ?_
  rintro _ _ ⟨rfl, rfl⟩
  obtain ⟨b2, HB2⟩ : ∃ b, Hid (btw r.n 0 1099511627776 = b) := ⟨_, rfl⟩
  rw [HB2.out]
  cases b2
  · go_wp2_with fail
    go_ret
    exact ⟨by simp [leadB, HB1.out, HB2.out], (Frm.refl M0 w).alloc _⟩
  go_wp2_with fail
  refine (btw_calls _ _ _ _).mono ?_
  rintro _ _ ⟨rfl, rfl⟩
  obtain ⟨b3, HB3⟩ : ∃ b, Hid (btw r.q 1 1048576 = b) := ⟨_, rfl⟩
  rw [HB3.out]
  cases b3
  · go_wp2_with fail
    go_ret
    exact ⟨by simp [leadB, HB1.out, HB2.out, HB3.out], (Frm.refl M0 w).alloc _⟩
  have hc := ((Frm.refl M0 w).alloc (.cells #[.int .i64 r.k, .int .i64 r.e, .int .i64 r.w, .int .i64 r.n, .int .i64 r.q, .string r.t, .int .i64 r.p.s0, .int .i64 r.p.s1, .int .i64 r.p.s2, .int .i64 r.p.s3, .int .i64 r.p.s4, .int .i64 r.p.s5, .int .i64 r.p.s6, .int .i64 r.p.s7, .int .i64 r.p.s8, .int .i64 r.p.s9, .int .i64 r.p.s10, .int .i64 r.p.s11] 27)).cell H1.out (fun h => h)
  go_wp2_with fail
  refine (bare_calls ⟨0, 0, 0, 0, 0, r.t, r.p⟩ _).mono ?_
  rintro _ w' ⟨rfl, hf⟩
  have HF := hid (((Frm.refl M0 w).alloc _).then0 hf); clear hf
  go_wp2_with fail
  go_ret
  exact ⟨by simp [leadB, HB1.out, HB2.out, HB3.out], HF.out⟩

set_option maxRecDepth 20000 in
theorem text_calls (r : Rc) (b : Nat) (w : World) (h : w.heap[b]? = some (.cells #[.int .i64 r.k, .int .i64 r.e, .int .i64 r.w, .int .i64 r.n, .int .i64 r.q, .string r.t, .int .i64 r.p.s0, .int .i64 r.p.s1, .int .i64 r.p.s2, .int .i64 r.p.s3, .int .i64 r.p.s4, .int .i64 r.p.s5, .int .i64 r.p.s6, .int .i64 r.p.s7, .int .i64 r.p.s8, .int .i64 r.p.s9, .int .i64 r.p.s10, .int .i64 r.p.s11] 27 (0, 0))) : Calls Tryz.prog 92 #[ptr b] w fun x w' => x = .returned (.bool (btw r.t.size 1 64)) ∧ w'.heap[b]? = some (.cells #[.int .i64 r.k, .int .i64 r.e, .int .i64 r.w, .int .i64 r.n, .int .i64 r.q, .string ⟨#[]⟩, .int .i64 r.p.s0, .int .i64 r.p.s1, .int .i64 r.p.s2, .int .i64 r.p.s3, .int .i64 r.p.s4, .int .i64 r.p.s5, .int .i64 r.p.s6, .int .i64 r.p.s7, .int .i64 r.p.s8, .int .i64 r.p.s9, .int .i64 r.p.s10, .int .i64 r.p.s11] 27 (0, 0)) ∧ Frm (· = b) w w' := by
  have hc : w.cell? ⟨b, 5, none⟩ = some (.string r.t) := cell_at h 5
  have hz := frozen_at h 5
  have H := hid h; clear h
  go_enter Tryz.func92, Tryz.ntmps92
  go_wp2_with fail
  refine (btw_calls _ _ _ _).mono ?_
  rintro _ _ ⟨rfl, rfl⟩
  go_wp2_with fail
  go_ret
  exact ⟨rfl, heap_set_at H.out _, (Frm.refl (· = b) _).put b 5 _ (fun _ => rfl)⟩
end Go.Proofs.YtonlmkcolndaaaaGreatDoor
