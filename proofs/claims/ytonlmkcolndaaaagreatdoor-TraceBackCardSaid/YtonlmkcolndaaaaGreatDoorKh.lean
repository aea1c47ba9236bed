/- kinds$5: begin. No condition. -/
import Derived.Test.YtonlmkcolndaaaaGreatDoorKc
import Derived.Test.YtonlmkcolndaaaaGreatDoorSk
namespace Go.Proofs.YtonlmkcolndaaaaGreatDoor
set_option linter.unusedVariables false
set_option linter.unusedSimpArgs false
set_option maxRecDepth 20000
open Go.RowKit

def beginB (r : Rc) : Bool := decide (r.p.chkE = 0) && (btw r.n 0 1099511627776 && req ⟨0, 0, r.w, 0, r.q, r.t, Sp.zero⟩ Rc.zero)
set_option maxRecDepth 20000 in
set_option maxHeartbeats 2000000 in
theorem begin_calls (r : Rc) (t1 : Nat) (w : World) (h1 : w.cell? ⟨t1, 0, none⟩ = some (fnv 88 #[])) : Calls Tryz.prog 93 #[r.val, ptr t1] w fun x w' => x = .returned (.bool (beginB r)) ∧ Frm M0 w w' := by
  unfold Rc.val
  have H1 := hid (((Frm.refl M0 w).alloc (.cells #[.int .i64 r.k, .int .i64 r.e, .int .i64 r.w, .int .i64 r.n, .int .i64 r.q, .string r.t, .int .i64 r.p.s0, .int .i64 r.p.s1, .int .i64 r.p.s2, .int .i64 r.p.s3, .int .i64 r.p.s4, .int .i64 r.p.s5, .int .i64 r.p.s6, .int .i64 r.p.s7, .int .i64 r.p.s8, .int .i64 r.p.s9, .int .i64 r.p.s10, .int .i64 r.p.s11] 27)).cell h1 (fun h => h))
  clear h1
  have HV : Hid (r.p.val = .agg #[.int .i64 r.p.s0, .int .i64 r.p.s1, .int .i64 r.p.s2, .int .i64 r.p.s3, .int .i64 r.p.s4, .int .i64 r.p.s5, .int .i64 r.p.s6, .int .i64 r.p.s7, .int .i64 r.p.s8, .int .i64 r.p.s9, .int .i64 r.p.s10, .int .i64 r.p.s11]) := rfl
  go_enter Tryz.func93, Tryz.ntmps93
  go_wp2_with fail
  rw [← HV.out]
  refine (check_calls r.p _).mono ?_
  rintro _ w1 ⟨rfl, hf⟩
  have hh := hf.heap (heap_alloc_last w _) (fun h => h)
  have HF := hid (((Frm.refl M0 w).alloc (.cells #[.int .i64 r.k, .int .i64 r.e, .int .i64 r.w, .int .i64 r.n, .int .i64 r.q, .string r.t, .int .i64 r.p.s0, .int .i64 r.p.s1, .int .i64 r.p.s2, .int .i64 r.p.s3, .int .i64 r.p.s4, .int .i64 r.p.s5, .int .i64 r.p.s6, .int .i64 r.p.s7, .int .i64 r.p.s8, .int .i64 r.p.s9, .int .i64 r.p.s10, .int .i64 r.p.s11] 27)).then0 hf)
  have hc1 := hf.cell H1.out (fun h => h)
  obtain ⟨e, HE⟩ : ∃ e, Hid (r.p.chkE = e) := ⟨_, rfl⟩
  rw [HE.out]
  obtain ⟨n, HN⟩ : ∃ n, Hid (r.p.chkN = n) := ⟨_, rfl⟩
  rw [HN.out]
  have c2 : w1.cell? ⟨w.heap.size, 2, none⟩ = some (.int .i64 r.w) := cell_at hh 2
  have c3 : w1.cell? ⟨w.heap.size, 3, none⟩ = some (.int .i64 r.n) := cell_at hh 3
  have c4 : w1.cell? ⟨w.heap.size, 4, none⟩ = some (.int .i64 r.q) := cell_at hh 4
  have c5 : w1.cell? ⟨w.heap.size, 5, none⟩ = some (.string r.t) := cell_at hh 5
  clear hf hh H1 HV
  by_cases he : e = 0
  case neg =>
    have hb : Hid (beginB r = false) := hid (by simp [beginB, HE.out, he])
    go_wp2_with fail
    go_ret
    exact ⟨by rw [hb.out]; rfl, HF.out⟩
  have hb : Hid (beginB r = (btw r.n 0 1099511627776 && req ⟨0, 0, r.w, 0, r.q, r.t, Sp.zero⟩ Rc.zero)) := hid (by simp [beginB, HE.out, he])
  go_wp2_with fail
  refine (btw_calls _ _ _ _).mono ?_
  rintro _ _ ⟨rfl, rfl⟩
  obtain ⟨b1, HB1⟩ : ∃ b, Hid (btw r.n 0 1099511627776 = b) := ⟨_, rfl⟩
  rw [HB1.out]
  cases b1
  · go_wp2_with fail
    go_ret
    exact ⟨by rw [hb.out, HB1.out]; rfl, HF.out⟩
  go_wp2_with fail
  refine (bare_calls ⟨0, 0, r.w, 0, r.q, r.t, Sp.zero⟩ _).mono ?_
  rintro _ w2 ⟨rfl, hf2⟩
  have HF2 := hid (HF.out.then0 hf2); clear hf2
  go_wp2_with fail
  go_ret
  exact ⟨by rw [hb.out, HB1.out]; rfl, HF2.out⟩
end Go.Proofs.YtonlmkcolndaaaaGreatDoor
