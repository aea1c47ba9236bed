/- The reference's specs: in, step, Check, Of, Fields, near. No condition. -/
import Derived.Test.YtonlmkcolndaaaaGreatDoorSk
import Derived.Test.YtonlmkcolndaaaaGreatDoorSw
namespace Go.Proofs.YtonlmkcolndaaaaGreatDoor
set_option linter.unusedVariables false
set_option linter.unusedSimpArgs false
set_option maxRecDepth 20000
open Go.RowKit

theorem rin_calls (n lo hi : Int) (w : World) : Calls Tryz.prog 86 #[.int .i64 n, .int .i64 lo, .int .i64 hi] w fun r w' => r = .returned (.bool (btw n lo hi)) ∧ w = w' := by
  have hB : Hid (btw n lo hi = (decide (lo ≤ n) && decide (n ≤ hi))) := rfl
  by_cases h : lo ≤ n
  · have hb : Hid (btw n lo hi = decide (n ≤ hi)) := by unfold Hid btw; rw [decide_eq_true h]; rfl
    clear hB
    go_enter Tryz.func86, Tryz.ntmps86
    go_wp2_with fail
    go_ret
    exact ⟨by rw [hb.out]; rfl, rfl⟩
  · have hb : Hid (btw n lo hi = false) := by unfold Hid btw; rw [decide_eq_false h]; rfl
    clear hB
    go_enter Tryz.func86, Tryz.ntmps86
    go_wp2_with fail
    go_ret
    exact ⟨by rw [hb.out]; rfl, rfl⟩
def nearF (n least many : Int) : Int := least + n % 18446744073709551616 % many
set_option maxHeartbeats 1000000 in
theorem snear_calls (n least many : Int) (w : World) (h0 : 0 ≤ least) (h1 : least ≤ 1000000) (h2 : 0 < many) (h3 : many ≤ 1000000) : Calls Tryz.prog 69 #[.int .i64 n, .int .i64 least, .int .i64 many] w fun r w' => r = .returned (.int .i64 (nearF n least many)) ∧ w = w' := by
  have e1 : IntKind.u64.wrap n = n % 18446744073709551616 := by simp [IntKind.wrap, IntKind.bits, IntKind.signed]
  have e2 : IntKind.u64.wrap many = many := by simp [IntKind.wrap, IntKind.bits, IntKind.signed]; omega
  have hx : 0 ≤ n % 18446744073709551616 := Int.emod_nonneg _ (by omega)
  have e3 : (n % 18446744073709551616).tmod many = n % 18446744073709551616 % many := Int.tmod_eq_emod_of_nonneg hx
  have hy0 : 0 ≤ n % 18446744073709551616 % many := Int.emod_nonneg _ (by omega)
  have hy1 : n % 18446744073709551616 % many < many := Int.emod_lt_of_pos _ h2
  obtain ⟨y, hy⟩ : ∃ y, y = n % 18446744073709551616 % many := ⟨_, rfl⟩
  have HN : Hid (nearF n least many = least + y) := hid (by unfold nearF; rw [hy])
  rw [← hy] at e3 hy0 hy1
  obtain ⟨x, hxx⟩ : ∃ x, x = n % 18446744073709551616 := ⟨_, rfl⟩
  rw [← hxx] at e1 e3 hx
  have E1 := hid e1; have E2 := hid e2; have E3 := hid e3
  have hm0 : ¬ many = 0 := by omega
  have hmb : (many == 0) = false := beq_eq_false_iff_ne.2 hm0
  clear e1 e2 e3 hy hxx hm0
  have E4 : Hid (IntKind.u64.wrap y = y) := hid (by simp [IntKind.wrap, IntKind.bits, IntKind.signed]; omega)
  have E5 : Hid (wrap64 y = y) := hid (by unfold wrap64; omega)
  go_enter Tryz.func69, Tryz.ntmps69
  have e1 := E1.out; have e2 := E2.out; have e3 := E3.out; have e4 := E4.out; have e5 := E5.out
  go_wp2_with fail
  go_ret
  exact ⟨by rw [HN.out]; first | rfl | (simp [e1, e2, e3, e4, e5]; done) | (go_simp; rfl), rfl⟩
def rstepF (s n last : Int) : Bool := bif !decide (s = 0) then decide (n = 0) else (decide (n = 0) || (decide (0 < last) && btw n (wrap64 (last + 1)) 100))
def Sp.rstepB (p : Sp) : Nat → Bool
  | 0 => bif !decide (p.s4 = 0) then decide (p.s5 = 0) else btw p.s5 1 100
  | 1 => rstepF p.s4 p.s6 p.s5
  | 2 => rstepF p.s4 p.s7 p.s6
  | _ => rstepF p.s4 p.s8 p.s7
set_option maxRecDepth 20000 in
theorem rstep0_calls (p : Sp) (w : World) : Calls Tryz.prog 87 #[p.val, .int .i64 0] w fun r w' => r = .returned (.bool (p.rstepB 0)) ∧ Frm M0 w w' := by
  unfold Sp.val
  have HE : Hid (p.rstepB 0 = bif !decide (p.s4 = 0) then decide (p.s5 = 0) else btw p.s5 1 100) := rfl
  by_cases h4 : p.s4 = 0
  · have HD : Hid (p.rstepB 0 = btw p.s5 1 100) := hid (by rw [HE.out]; simp [h4])
    go_enter Tryz.func87, Tryz.ntmps87
    go_wp2_with fail
    refine (rin_calls _ _ _ _).mono ?_
    rintro _ _ ⟨rfl, rfl⟩
    go_wp2_with fail
    go_ret
    exact ⟨by rw [HD.out]; rfl, (Frm.refl M0 w).alloc _⟩
  · have HD : Hid (p.rstepB 0 = decide (p.s5 = 0)) := hid (by rw [HE.out]; simp [h4])
    go_enter Tryz.func87, Tryz.ntmps87
    go_wp2_with fail
    go_ret
    exact ⟨by rw [HD.out]; first | rfl | (simp; exact Bool.eq_iff_iff.mpr (by simp)), (Frm.refl M0 w).alloc _⟩
set_option maxRecDepth 20000 in
set_option maxHeartbeats 1000000 in
theorem rstep1_calls (p : Sp) (w : World) : Calls Tryz.prog 87 #[p.val, .int .i64 1] w fun r w' => r = .returned (.bool (p.rstepB 1)) ∧ Frm M0 w w' := by
  unfold Sp.val
  have HE : Hid (p.rstepB 1 = rstepF p.s4 p.s6 p.s5) := rfl
  by_cases h4 : p.s4 = 0
  case neg =>
    have HD : Hid (p.rstepB 1 = decide (p.s6 = 0)) := hid (by rw [HE.out]; simp [rstepF, h4])
    go_enter Tryz.func87, Tryz.ntmps87
    go_wp2_with fail
    go_ret
    exact ⟨by rw [HD.out]; first | rfl | (simp; exact Bool.eq_iff_iff.mpr (by simp)), (Frm.refl M0 w).alloc _⟩
  by_cases h0 : p.s6 = 0
  · have HD : Hid (p.rstepB 1 = true) := hid (by rw [HE.out]; simp [rstepF, h4, h0])
    have hb : (p.s6 == 0) = true := by simp [h0]
    clear h0
    go_enter Tryz.func87, Tryz.ntmps87
    go_wp2_with fail
    go_quiet (fail)
    go_wp2_with fail
    go_ret
    exact ⟨by rw [HD.out]; rfl, ((Frm.refl M0 w).alloc _).drewN _⟩
  have hb : (p.s6 == 0) = false := by simp [h0]
  by_cases h1 : 0 < p.s5
  · have HD : Hid (p.rstepB 1 = btw p.s6 (wrap64 (p.s5 + 1)) 100) := hid (by rw [HE.out]; simp [rstepF, h4, h0, h1])
    have hd : decide (0 < p.s5) = true := by simp [h1]
    clear h0 h1
    go_enter Tryz.func87, Tryz.ntmps87
    go_wp2_with fail
    go_quiet ((go_at_call_of 86 (Value.int .i64 p.s6); exact Calls.quiet_of_same ((rin_calls _ _ _ _).mono fun e w' h => ⟨h.1, h.2.symm⟩)))
    go_wp2_with fail
    go_ret
    exact ⟨by rw [HD.out]; rfl, ((Frm.refl M0 w).alloc _).drewN _⟩
  · have HD : Hid (p.rstepB 1 = false) := hid (by rw [HE.out]; simp [rstepF, h4, h0, h1])
    have hd : decide (0 < p.s5) = false := by simp [h1]
    clear h0 h1
    go_enter Tryz.func87, Tryz.ntmps87
    go_wp2_with fail
    go_quiet (fail)
    go_wp2_with fail
    go_ret
    exact ⟨by rw [HD.out]; rfl, ((Frm.refl M0 w).alloc _).drewN _⟩
set_option maxRecDepth 20000 in
set_option maxHeartbeats 1000000 in
theorem rstep2_calls (p : Sp) (w : World) : Calls Tryz.prog 87 #[p.val, .int .i64 2] w fun r w' => r = .returned (.bool (p.rstepB 2)) ∧ Frm M0 w w' := by
  unfold Sp.val
  have HE : Hid (p.rstepB 2 = rstepF p.s4 p.s7 p.s6) := rfl
  by_cases h4 : p.s4 = 0
  case neg =>
    have HD : Hid (p.rstepB 2 = decide (p.s7 = 0)) := hid (by rw [HE.out]; simp [rstepF, h4])
    go_enter Tryz.func87, Tryz.ntmps87
    go_wp2_with fail
    go_ret
    exact ⟨by rw [HD.out]; first | rfl | (simp; exact Bool.eq_iff_iff.mpr (by simp)), (Frm.refl M0 w).alloc _⟩
  by_cases h0 : p.s7 = 0
  · have HD : Hid (p.rstepB 2 = true) := hid (by rw [HE.out]; simp [rstepF, h4, h0])
    have hb : (p.s7 == 0) = true := by simp [h0]
    clear h0
    go_enter Tryz.func87, Tryz.ntmps87
    go_wp2_with fail
    go_quiet (fail)
    go_wp2_with fail
    go_ret
    exact ⟨by rw [HD.out]; rfl, ((Frm.refl M0 w).alloc _).drewN _⟩
  have hb : (p.s7 == 0) = false := by simp [h0]
  by_cases h1 : 0 < p.s6
  · have HD : Hid (p.rstepB 2 = btw p.s7 (wrap64 (p.s6 + 1)) 100) := hid (by rw [HE.out]; simp [rstepF, h4, h0, h1])
    have hd : decide (0 < p.s6) = true := by simp [h1]
    clear h0 h1
    go_enter Tryz.func87, Tryz.ntmps87
    go_wp2_with fail
    go_quiet ((go_at_call_of 86 (Value.int .i64 p.s7); exact Calls.quiet_of_same ((rin_calls _ _ _ _).mono fun e w' h => ⟨h.1, h.2.symm⟩)))
    go_wp2_with fail
    go_ret
    exact ⟨by rw [HD.out]; rfl, ((Frm.refl M0 w).alloc _).drewN _⟩
  · have HD : Hid (p.rstepB 2 = false) := hid (by rw [HE.out]; simp [rstepF, h4, h0, h1])
    have hd : decide (0 < p.s6) = false := by simp [h1]
    clear h0 h1
    go_enter Tryz.func87, Tryz.ntmps87
    go_wp2_with fail
    go_quiet (fail)
    go_wp2_with fail
    go_ret
    exact ⟨by rw [HD.out]; rfl, ((Frm.refl M0 w).alloc _).drewN _⟩
set_option maxRecDepth 20000 in
set_option maxHeartbeats 1000000 in
theorem rstep3_calls (p : Sp) (w : World) : Calls Tryz.prog 87 #[p.val, .int .i64 3] w fun r w' => r = .returned (.bool (p.rstepB 3)) ∧ Frm M0 w w' := by
  unfold Sp.val
  have HE : Hid (p.rstepB 3 = rstepF p.s4 p.s8 p.s7) := rfl
  by_cases h4 : p.s4 = 0
  case neg =>
    have HD : Hid (p.rstepB 3 = decide (p.s8 = 0)) := hid (by rw [HE.out]; simp [rstepF, h4])
    go_enter Tryz.func87, Tryz.ntmps87
    go_wp2_with fail
    go_ret
    exact ⟨by rw [HD.out]; first | rfl | (simp; exact Bool.eq_iff_iff.mpr (by simp)), (Frm.refl M0 w).alloc _⟩
  by_cases h0 : p.s8 = 0
  · have HD : Hid (p.rstepB 3 = true) := hid (by rw [HE.out]; simp [rstepF, h4, h0])
    have hb : (p.s8 == 0) = true := by simp [h0]
    clear h0
    go_enter Tryz.func87, Tryz.ntmps87
    go_wp2_with fail
    go_quiet (fail)
    go_wp2_with fail
    go_ret
    exact ⟨by rw [HD.out]; rfl, ((Frm.refl M0 w).alloc _).drewN _⟩
  have hb : (p.s8 == 0) = false := by simp [h0]
  by_cases h1 : 0 < p.s7
  · have HD : Hid (p.rstepB 3 = btw p.s8 (wrap64 (p.s7 + 1)) 100) := hid (by rw [HE.out]; simp [rstepF, h4, h0, h1])
    have hd : decide (0 < p.s7) = true := by simp [h1]
    clear h0 h1
    go_enter Tryz.func87, Tryz.ntmps87
    go_wp2_with fail
    go_quiet ((go_at_call_of 86 (Value.int .i64 p.s8); exact Calls.quiet_of_same ((rin_calls _ _ _ _).mono fun e w' h => ⟨h.1, h.2.symm⟩)))
    go_wp2_with fail
    go_ret
    exact ⟨by rw [HD.out]; rfl, ((Frm.refl M0 w).alloc _).drewN _⟩
  · have HD : Hid (p.rstepB 3 = false) := hid (by rw [HE.out]; simp [rstepF, h4, h0, h1])
    have hd : decide (0 < p.s7) = false := by simp [h1]
    clear h0 h1
    go_enter Tryz.func87, Tryz.ntmps87
    go_wp2_with fail
    go_quiet (fail)
    go_wp2_with fail
    go_ret
    exact ⟨by rw [HD.out]; rfl, ((Frm.refl M0 w).alloc _).drewN _⟩
end Go.Proofs.YtonlmkcolndaaaaGreatDoor
