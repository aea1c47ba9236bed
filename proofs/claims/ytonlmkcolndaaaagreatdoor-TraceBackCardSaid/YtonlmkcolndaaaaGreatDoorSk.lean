/- spec.Check. No condition. -/
import Derived.Test.YtonlmkcolndaaaaGreatDoorSf
import Derived.Test.YtonlmkcolndaaaaGreatDoorRg
namespace Go.Proofs.YtonlmkcolndaaaaGreatDoor
set_option linter.unusedVariables false
set_option linter.unusedSimpArgs false
set_option maxRecDepth 20000
open Go.RowKit

/-- What a spec's numbers must hold, one by one. -/
def Sp.conds (p : Sp) : List Bool :=
  [btw p.s0 1 1048576, btw p.s1 1 16, btw p.s2 0 (IntKind.i64.wrap (16 - p.s1)), btw p.s3 0 p.s1 && (decide (0 < p.s3) || decide (0 < p.s2)), btw p.s4 0 2 && ((p.s4 != 2) || decide (p.s1 ≤ p.s2)), p.stepB 0, p.stepB 1, p.stepB 2, p.stepB 3,
   btw p.s9 1 1048576, btw p.s10 0 1048576, btw p.s11 1 1048576]
/-- The first that does not hold, counted from i + 1 on; 0: none. -/
def chkF : List Bool → Int → Int
  | [], _ => 0
  | b :: l, i => bif b then chkF l (i + 1) else i + 1
def Sp.chkN (p : Sp) : Int := chkF p.conds 0
def Sp.chkE (p : Sp) : Int := bif p.conds.all id then 0 else 11

set_option maxRecDepth 100000 in
set_option maxHeartbeats 8000000 in
attribute [local go_sem] FUpon in
theorem check_calls (p : Sp) (w : World) : Calls Tryz.prog 66 #[p.val] w fun x w' => x = .returned (.tuple #[.int .i64 p.chkN, .int .i64 p.chkE]) ∧ Frm M0 w w' := by
  obtain ⟨k0, Kk0⟩ : ∃ b, Hid (btw p.s0 1 1048576 = b) := ⟨_, rfl⟩
  obtain ⟨k1, Kk1⟩ : ∃ b, Hid (btw p.s1 1 16 = b) := ⟨_, rfl⟩
  obtain ⟨k2, Kk2⟩ : ∃ b, Hid (btw p.s2 0 (IntKind.i64.wrap (16 - p.s1)) = b) := ⟨_, rfl⟩
  obtain ⟨b3, Kb3⟩ : ∃ b, Hid (btw p.s3 0 p.s1 = b) := ⟨_, rfl⟩
  obtain ⟨g3, Kg3⟩ : ∃ b, Hid (decide (0 < p.s3) = b) := ⟨_, rfl⟩
  obtain ⟨h3, Kh3⟩ : ∃ b, Hid (decide (0 < p.s2) = b) := ⟨_, rfl⟩
  obtain ⟨k3, Kk3⟩ : ∃ b, Hid ((b3 && (g3 || h3)) = b) := ⟨_, rfl⟩
  obtain ⟨b4, Kb4⟩ : ∃ b, Hid (btw p.s4 0 2 = b) := ⟨_, rfl⟩
  obtain ⟨g4, Kg4⟩ : ∃ b, Hid ((p.s4 != 2) = b) := ⟨_, rfl⟩
  obtain ⟨h4, Kh4⟩ : ∃ b, Hid (decide (p.s1 ≤ p.s2) = b) := ⟨_, rfl⟩
  obtain ⟨k4, Kk4⟩ : ∃ b, Hid ((b4 && (g4 || h4)) = b) := ⟨_, rfl⟩
  obtain ⟨k5, Kk5⟩ : ∃ b, Hid (p.stepB 0 = b) := ⟨_, rfl⟩
  obtain ⟨k6, Kk6⟩ : ∃ b, Hid (p.stepB 1 = b) := ⟨_, rfl⟩
  obtain ⟨k7, Kk7⟩ : ∃ b, Hid (p.stepB 2 = b) := ⟨_, rfl⟩
  obtain ⟨k8, Kk8⟩ : ∃ b, Hid (p.stepB 3 = b) := ⟨_, rfl⟩
  obtain ⟨k9, Kk9⟩ : ∃ b, Hid (btw p.s9 1 1048576 = b) := ⟨_, rfl⟩
  obtain ⟨k10, Kk10⟩ : ∃ b, Hid (btw p.s10 0 1048576 = b) := ⟨_, rfl⟩
  obtain ⟨k11, Kk11⟩ : ∃ b, Hid (btw p.s11 1 1048576 = b) := ⟨_, rfl⟩
  have HCO : Hid (p.conds = [k0, k1, k2, k3, k4, k5, k6, k7, k8, k9, k10, k11]) := hid (by unfold Sp.conds; rw [Kk0.out, Kk1.out, Kk2.out, Kb3.out, Kg3.out, Kh3.out, Kk3.out, Kb4.out, Kg4.out, Kh4.out, Kk4.out, Kk5.out, Kk6.out, Kk7.out, Kk8.out, Kk9.out, Kk10.out, Kk11.out])
  have HV : Hid (p.val = .agg #[.int .i64 p.s0, .int .i64 p.s1, .int .i64 p.s2, .int .i64 p.s3, .int .i64 p.s4, .int .i64 p.s5, .int .i64 p.s6, .int .i64 p.s7, .int .i64 p.s8, .int .i64 p.s9, .int .i64 p.s10, .int .i64 p.s11]) := rfl
  rw [HV.out]
  go_enter Tryz.func66, Tryz.ntmps66
  go_wp2_with fail
  have HH := hid (heap_alloc_last w (.cells #[.int .i64 p.s0, .int .i64 p.s1, .int .i64 p.s2, .int .i64 p.s3, .int .i64 p.s4, .int .i64 p.s5, .int .i64 p.s6, .int .i64 p.s7, .int .i64 p.s8, .int .i64 p.s9, .int .i64 p.s10, .int .i64 p.s11] 25))
  have HF := hid ((Frm.refl M0 w).alloc (.cells #[.int .i64 p.s0, .int .i64 p.s1, .int .i64 p.s2, .int .i64 p.s3, .int .i64 p.s4, .int .i64 p.s5, .int .i64 p.s6, .int .i64 p.s7, .int .i64 p.s8, .int .i64 p.s9, .int .i64 p.s10, .int .i64 p.s11] 25))
  obtain ⟨b, hb⟩ : ∃ b, b = w.heap.size := ⟨_, rfl⟩
  obtain ⟨w1, hw1⟩ : ∃ x, x = w.alloc (.cells #[.int .i64 p.s0, .int .i64 p.s1, .int .i64 p.s2, .int .i64 p.s3, .int .i64 p.s4, .int .i64 p.s5, .int .i64 p.s6, .int .i64 p.s7, .int .i64 p.s8, .int .i64 p.s9, .int .i64 p.s10, .int .i64 p.s11] 25) := ⟨_, rfl⟩
  rw [← hw1, ← hb] at HH
  rw [← hw1] at HF
  rw [← hw1, ← hb]
  clear hw1
  have HB := hid hb; clear hb
  have HL : Hid (∀ wx, Frm M0 w1 wx → wx.heap[b]? = some (.cells #[.int .i64 p.s0, .int .i64 p.s1, .int .i64 p.s2, .int .i64 p.s3, .int .i64 p.s4, .int .i64 p.s5, .int .i64 p.s6, .int .i64 p.s7, .int .i64 p.s8, .int .i64 p.s9, .int .i64 p.s10, .int .i64 p.s11] 25 (0, 0))) := hid (fun wx hx => hx.heap HH.out (fun h => h))
  refine wp_region_Fl 60 61 [0, 1, 2, 3, 4, 5, 6, 7, 8, 9, 10, 11, 12, 13, 14, 15, 16, 17, 18, 19, 20, 21, 22, 23, 24, 25, 26, 27, 28, 29, 30, 31, 32, 33, 34, 35, 36, 37, 38, 39, 40, 41, 42, 43, 44, 45, 46, 47, 48, 49, 50, 51, 52, 53, 54, 55, 56, 57, 58, 59] ⟨some 4, .alloc 118, 0, "spec.go:64", #[], none⟩ (.cells (Array.replicate 12 (.bool false)) 118) (by kernel_rfl) (by kernel_rfl) rfl rfl rfl (fun a w => rfl) ?_
  intro ops QT HO HQ
  obtain ⟨ho0, HO⟩ := HO
  refine wpF_cons _ (ptr b) ho0.out ?_ ?_
  · refine FY_in rfl fun wx hx => ?_
    go_simp
  simp only [Act.put, List.setIfInBounds_toArray, List.set_cons_zero, List.set_cons_succ]
  obtain ⟨ho1, HO⟩ := HO
  refine wpF_cons _ (.int .i64 p.s0) ho1.out ?_ ?_
  · refine FY_in rfl fun wx hx => ?_
    have hc : wx.cell? ⟨b, 0, none⟩ = some (.int .i64 p.s0) := cell_at (HL.out wx hx) 0
    go_simp
  simp only [Act.put, List.setIfInBounds_toArray, List.set_cons_zero, List.set_cons_succ]
  obtain ⟨ho2, HO⟩ := HO
  refine wpF_cons _ (.bool k0) ho2.out ?_ ?_
  · refine FY_in rfl fun wx hx => ?_
    go_simp
    exact (sbtw_calls _ _ _ _).mono fun e w' h => ⟨by rw [h.1, Kk0.out], by rw [h.2]; exact Frm.refl _ _⟩
  simp only [Act.put, List.setIfInBounds_toArray, List.set_cons_zero, List.set_cons_succ]
  obtain ⟨ho3, HO⟩ := HO
  refine wpF_cons _ (.pointer (some ⟨b, 1, none⟩)) ho3.out ?_ ?_
  · refine FY_in rfl fun wx hx => ?_
    go_simp
  simp only [Act.put, List.setIfInBounds_toArray, List.set_cons_zero, List.set_cons_succ]
  obtain ⟨ho4, HO⟩ := HO
  refine wpF_cons _ (.int .i64 p.s1) ho4.out ?_ ?_
  · refine FY_in rfl fun wx hx => ?_
    have hc : wx.cell? ⟨b, 1, none⟩ = some (.int .i64 p.s1) := cell_at (HL.out wx hx) 1
    go_simp
  simp only [Act.put, List.setIfInBounds_toArray, List.set_cons_zero, List.set_cons_succ]
  obtain ⟨ho5, HO⟩ := HO
  refine wpF_cons _ (.bool k1) ho5.out ?_ ?_
  · refine FY_in rfl fun wx hx => ?_
    go_simp
    exact (sbtw_calls _ _ _ _).mono fun e w' h => ⟨by rw [h.1, Kk1.out], by rw [h.2]; exact Frm.refl _ _⟩
  simp only [Act.put, List.setIfInBounds_toArray, List.set_cons_zero, List.set_cons_succ]
  obtain ⟨ho6, HO⟩ := HO
  refine wpF_cons _ (.pointer (some ⟨b, 2, none⟩)) ho6.out ?_ ?_
  · refine FY_in rfl fun wx hx => ?_
    go_simp
  simp only [Act.put, List.setIfInBounds_toArray, List.set_cons_zero, List.set_cons_succ]
  obtain ⟨ho7, HO⟩ := HO
  refine wpF_cons _ (.int .i64 p.s2) ho7.out ?_ ?_
  · refine FY_in rfl fun wx hx => ?_
    have hc : wx.cell? ⟨b, 2, none⟩ = some (.int .i64 p.s2) := cell_at (HL.out wx hx) 2
    go_simp
  simp only [Act.put, List.setIfInBounds_toArray, List.set_cons_zero, List.set_cons_succ]
  obtain ⟨ho8, HO⟩ := HO
  refine wpF_cons _ (.pointer (some ⟨b, 1, none⟩)) ho8.out ?_ ?_
  · refine FY_in rfl fun wx hx => ?_
    go_simp
  simp only [Act.put, List.setIfInBounds_toArray, List.set_cons_zero, List.set_cons_succ]
  obtain ⟨ho9, HO⟩ := HO
  refine wpF_cons _ (.int .i64 p.s1) ho9.out ?_ ?_
  · refine FY_in rfl fun wx hx => ?_
    have hc : wx.cell? ⟨b, 1, none⟩ = some (.int .i64 p.s1) := cell_at (HL.out wx hx) 1
    go_simp
  simp only [Act.put, List.setIfInBounds_toArray, List.set_cons_zero, List.set_cons_succ]
  obtain ⟨ho10, HO⟩ := HO
  refine wpF_cons _ (.int .i64 (IntKind.i64.wrap (16 - p.s1))) ho10.out ?_ ?_
  · refine FY_in rfl fun wx hx => ?_
    go_simp
  simp only [Act.put, List.setIfInBounds_toArray, List.set_cons_zero, List.set_cons_succ]
  obtain ⟨ho11, HO⟩ := HO
  refine wpF_cons _ (.bool k2) ho11.out ?_ ?_
  · refine FY_in rfl fun wx hx => ?_
    go_simp
    exact (sbtw_calls _ _ _ _).mono fun e w' h => ⟨by rw [h.1, Kk2.out], by rw [h.2]; exact Frm.refl _ _⟩
  simp only [Act.put, List.setIfInBounds_toArray, List.set_cons_zero, List.set_cons_succ]
  obtain ⟨ho12, HO⟩ := HO
  refine wpF_cons _ (.pointer (some ⟨b, 3, none⟩)) ho12.out ?_ ?_
  · refine FY_in rfl fun wx hx => ?_
    go_simp
  simp only [Act.put, List.setIfInBounds_toArray, List.set_cons_zero, List.set_cons_succ]
  obtain ⟨ho13, HO⟩ := HO
  refine wpF_cons _ (.int .i64 p.s3) ho13.out ?_ ?_
  · refine FY_in rfl fun wx hx => ?_
    have hc : wx.cell? ⟨b, 3, none⟩ = some (.int .i64 p.s3) := cell_at (HL.out wx hx) 3
    go_simp
  simp only [Act.put, List.setIfInBounds_toArray, List.set_cons_zero, List.set_cons_succ]
  obtain ⟨ho14, HO⟩ := HO
  refine wpF_cons _ (.pointer (some ⟨b, 1, none⟩)) ho14.out ?_ ?_
  · refine FY_in rfl fun wx hx => ?_
    go_simp
  simp only [Act.put, List.setIfInBounds_toArray, List.set_cons_zero, List.set_cons_succ]
  obtain ⟨ho15, HO⟩ := HO
  refine wpF_cons _ (.int .i64 p.s1) ho15.out ?_ ?_
  · refine FY_in rfl fun wx hx => ?_
    have hc : wx.cell? ⟨b, 1, none⟩ = some (.int .i64 p.s1) := cell_at (HL.out wx hx) 1
    go_simp
  simp only [Act.put, List.setIfInBounds_toArray, List.set_cons_zero, List.set_cons_succ]
  obtain ⟨ho16, HO⟩ := HO
  refine wpF_cons _ (.bool b3) ho16.out ?_ ?_
  · refine FY_in rfl fun wx hx => ?_
    go_simp
    exact (sbtw_calls _ _ _ _).mono fun e w' h => ⟨by rw [h.1, Kb3.out], by rw [h.2]; exact Frm.refl _ _⟩
  simp only [Act.put, List.setIfInBounds_toArray, List.set_cons_zero, List.set_cons_succ]
  obtain ⟨ho17, HO⟩ := HO
  refine wpF_cons _ (.bool b3) ho17.out ?_ ?_
  · refine FY_in rfl fun wx hx => ?_
    go_simp
  simp only [Act.put, List.setIfInBounds_toArray, List.set_cons_zero, List.set_cons_succ]
  obtain ⟨ho18, HO⟩ := HO
  refine wpF_cons _ (bif b3 then (.pointer (some ⟨b, 3, none⟩)) else undef) ho18.out ?_ ?_
  · cases b3
    · exact FY_no (d := 24) rfl ho17.out (by rfl) (by kernel_rfl)
    · refine FY_yes (d := 24) rfl ho17.out (by rfl) (by kernel_rfl) fun wx hx => ?_
      go_simp
  simp only [Act.put, List.setIfInBounds_toArray, List.set_cons_zero, List.set_cons_succ]
  obtain ⟨ho19, HO⟩ := HO
  refine wpF_cons _ (bif b3 then (.int .i64 p.s3) else undef) ho19.out ?_ ?_
  · cases b3
    · exact FY_no (d := 24) rfl ho17.out (by rfl) (by kernel_rfl)
    · refine FY_yes (d := 24) rfl ho17.out (by rfl) (by kernel_rfl) fun wx hx => ?_
      have hc : wx.cell? ⟨b, 3, none⟩ = some (.int .i64 p.s3) := cell_at (HL.out wx hx) 3
      go_simp
  simp only [Act.put, List.setIfInBounds_toArray, List.set_cons_zero, List.set_cons_succ]
  obtain ⟨ho20, HO⟩ := HO
  refine wpF_cons _ (bif b3 then (.bool g3) else undef) ho20.out ?_ ?_
  · cases b3
    · exact FY_no (d := 24) rfl ho17.out (by rfl) (by kernel_rfl)
    · refine FY_yes (d := 24) rfl ho17.out (by rfl) (by kernel_rfl) fun wx hx => ?_
      have hk := Kg3.out
      go_simp
  simp only [Act.put, List.setIfInBounds_toArray, List.set_cons_zero, List.set_cons_succ]
  obtain ⟨ho21, HO⟩ := HO
  refine wpF_cons _ (bif b3 then (.bool g3) else undef) ho21.out ?_ ?_
  · cases b3
    · exact FY_no (d := 24) rfl ho17.out (by rfl) (by kernel_rfl)
    · refine FY_yes (d := 24) rfl ho17.out (by rfl) (by kernel_rfl) fun wx hx => ?_
      go_simp
  simp only [Act.put, List.setIfInBounds_toArray, List.set_cons_zero, List.set_cons_succ]
  obtain ⟨ho22, HO⟩ := HO
  refine wpF_cons _ (bif b3 then (bif g3 then undef else (.pointer (some ⟨b, 2, none⟩))) else undef) ho22.out ?_ ?_
  · cases b3
    · exact FY_un (d := 28) rfl ho21.out (by rfl) (by kernel_rfl)
    · cases g3
      · refine FY_yes (d := 28) rfl ho21.out (by rfl) (by kernel_rfl) fun wx hx => ?_
        go_simp
      · exact FY_no (d := 28) rfl ho21.out (by rfl) (by kernel_rfl)
  simp only [Act.put, List.setIfInBounds_toArray, List.set_cons_zero, List.set_cons_succ]
  obtain ⟨ho23, HO⟩ := HO
  refine wpF_cons _ (bif b3 then (bif g3 then undef else (.int .i64 p.s2)) else undef) ho23.out ?_ ?_
  · cases b3
    · exact FY_un (d := 28) rfl ho21.out (by rfl) (by kernel_rfl)
    · cases g3
      · refine FY_yes (d := 28) rfl ho21.out (by rfl) (by kernel_rfl) fun wx hx => ?_
        have hc : wx.cell? ⟨b, 2, none⟩ = some (.int .i64 p.s2) := cell_at (HL.out wx hx) 2
        go_simp
      · exact FY_no (d := 28) rfl ho21.out (by rfl) (by kernel_rfl)
  simp only [Act.put, List.setIfInBounds_toArray, List.set_cons_zero, List.set_cons_succ]
  obtain ⟨ho24, HO⟩ := HO
  refine wpF_cons _ (bif b3 then (bif g3 then undef else (.bool h3)) else undef) ho24.out ?_ ?_
  · cases b3
    · exact FY_un (d := 28) rfl ho21.out (by rfl) (by kernel_rfl)
    · cases g3
      · refine FY_yes (d := 28) rfl ho21.out (by rfl) (by kernel_rfl) fun wx hx => ?_
        have hk := Kh3.out
        go_simp
      · exact FY_no (d := 28) rfl ho21.out (by rfl) (by kernel_rfl)
  simp only [Act.put, List.setIfInBounds_toArray, List.set_cons_zero, List.set_cons_succ]
  obtain ⟨ho25, HO⟩ := HO
  refine wpF_cons _ (bif b3 then (.bool (g3 || h3)) else undef) ho25.out ?_ ?_
  · cases b3
    · exact FY_no (d := 24) rfl ho17.out (by rfl) (by kernel_rfl)
    · refine FY_yes (d := 24) rfl ho17.out (by rfl) (by kernel_rfl) fun wx hx => ?_
      cases g3 <;> go_simp
  simp only [Act.put, List.setIfInBounds_toArray, List.set_cons_zero, List.set_cons_succ]
  obtain ⟨ho26, HO⟩ := HO
  refine wpF_cons _ (.bool k3) ho26.out ?_ ?_
  · refine FY_in rfl fun wx hx => ?_
    have hk := Kk3.out
    cases b3 <;> go_simp
    exact hk.symm
  simp only [Act.put, List.setIfInBounds_toArray, List.set_cons_zero, List.set_cons_succ]
  obtain ⟨ho27, HO⟩ := HO
  refine wpF_cons _ (.pointer (some ⟨b, 4, none⟩)) ho27.out ?_ ?_
  · refine FY_in rfl fun wx hx => ?_
    go_simp
  simp only [Act.put, List.setIfInBounds_toArray, List.set_cons_zero, List.set_cons_succ]
  obtain ⟨ho28, HO⟩ := HO
  refine wpF_cons _ (.int .i64 p.s4) ho28.out ?_ ?_
  · refine FY_in rfl fun wx hx => ?_
    have hc : wx.cell? ⟨b, 4, none⟩ = some (.int .i64 p.s4) := cell_at (HL.out wx hx) 4
    go_simp
  simp only [Act.put, List.setIfInBounds_toArray, List.set_cons_zero, List.set_cons_succ]
  obtain ⟨ho29, HO⟩ := HO
  refine wpF_cons _ (.bool b4) ho29.out ?_ ?_
  · refine FY_in rfl fun wx hx => ?_
    go_simp
    exact (sbtw_calls _ _ _ _).mono fun e w' h => ⟨by rw [h.1, Kb4.out], by rw [h.2]; exact Frm.refl _ _⟩
  simp only [Act.put, List.setIfInBounds_toArray, List.set_cons_zero, List.set_cons_succ]
  obtain ⟨ho30, HO⟩ := HO
  refine wpF_cons _ (.bool b4) ho30.out ?_ ?_
  · refine FY_in rfl fun wx hx => ?_
    go_simp
  simp only [Act.put, List.setIfInBounds_toArray, List.set_cons_zero, List.set_cons_succ]
  obtain ⟨ho31, HO⟩ := HO
  refine wpF_cons _ (bif b4 then (.pointer (some ⟨b, 4, none⟩)) else undef) ho31.out ?_ ?_
  · cases b4
    · exact FY_no (d := 37) rfl ho30.out (by rfl) (by kernel_rfl)
    · refine FY_yes (d := 37) rfl ho30.out (by rfl) (by kernel_rfl) fun wx hx => ?_
      go_simp
  simp only [Act.put, List.setIfInBounds_toArray, List.set_cons_zero, List.set_cons_succ]
  obtain ⟨ho32, HO⟩ := HO
  refine wpF_cons _ (bif b4 then (.int .i64 p.s4) else undef) ho32.out ?_ ?_
  · cases b4
    · exact FY_no (d := 37) rfl ho30.out (by rfl) (by kernel_rfl)
    · refine FY_yes (d := 37) rfl ho30.out (by rfl) (by kernel_rfl) fun wx hx => ?_
      have hc : wx.cell? ⟨b, 4, none⟩ = some (.int .i64 p.s4) := cell_at (HL.out wx hx) 4
      go_simp
  simp only [Act.put, List.setIfInBounds_toArray, List.set_cons_zero, List.set_cons_succ]
  obtain ⟨ho33, HO⟩ := HO
  refine wpF_cons _ (bif b4 then (.bool g4) else undef) ho33.out ?_ ?_
  · cases b4
    · exact FY_no (d := 37) rfl ho30.out (by rfl) (by kernel_rfl)
    · refine FY_yes (d := 37) rfl ho30.out (by rfl) (by kernel_rfl) fun wx hx => ?_
      have hk := Kg4.out
      go_simp
  simp only [Act.put, List.setIfInBounds_toArray, List.set_cons_zero, List.set_cons_succ]
  obtain ⟨ho34, HO⟩ := HO
  refine wpF_cons _ (bif b4 then (.bool g4) else undef) ho34.out ?_ ?_
  · cases b4
    · exact FY_no (d := 37) rfl ho30.out (by rfl) (by kernel_rfl)
    · refine FY_yes (d := 37) rfl ho30.out (by rfl) (by kernel_rfl) fun wx hx => ?_
      go_simp
  simp only [Act.put, List.setIfInBounds_toArray, List.set_cons_zero, List.set_cons_succ]
  obtain ⟨ho35, HO⟩ := HO
  refine wpF_cons _ (bif b4 then (bif g4 then undef else (.pointer (some ⟨b, 2, none⟩))) else undef) ho35.out ?_ ?_
  · cases b4
    · exact FY_un (d := 41) rfl ho34.out (by rfl) (by kernel_rfl)
    · cases g4
      · refine FY_yes (d := 41) rfl ho34.out (by rfl) (by kernel_rfl) fun wx hx => ?_
        go_simp
      · exact FY_no (d := 41) rfl ho34.out (by rfl) (by kernel_rfl)
  simp only [Act.put, List.setIfInBounds_toArray, List.set_cons_zero, List.set_cons_succ]
  obtain ⟨ho36, HO⟩ := HO
  refine wpF_cons _ (bif b4 then (bif g4 then undef else (.int .i64 p.s2)) else undef) ho36.out ?_ ?_
  · cases b4
    · exact FY_un (d := 41) rfl ho34.out (by rfl) (by kernel_rfl)
    · cases g4
      · refine FY_yes (d := 41) rfl ho34.out (by rfl) (by kernel_rfl) fun wx hx => ?_
        have hc : wx.cell? ⟨b, 2, none⟩ = some (.int .i64 p.s2) := cell_at (HL.out wx hx) 2
        go_simp
      · exact FY_no (d := 41) rfl ho34.out (by rfl) (by kernel_rfl)
  simp only [Act.put, List.setIfInBounds_toArray, List.set_cons_zero, List.set_cons_succ]
  obtain ⟨ho37, HO⟩ := HO
  refine wpF_cons _ (bif b4 then (bif g4 then undef else (.pointer (some ⟨b, 1, none⟩))) else undef) ho37.out ?_ ?_
  · cases b4
    · exact FY_un (d := 41) rfl ho34.out (by rfl) (by kernel_rfl)
    · cases g4
      · refine FY_yes (d := 41) rfl ho34.out (by rfl) (by kernel_rfl) fun wx hx => ?_
        go_simp
      · exact FY_no (d := 41) rfl ho34.out (by rfl) (by kernel_rfl)
  simp only [Act.put, List.setIfInBounds_toArray, List.set_cons_zero, List.set_cons_succ]
  obtain ⟨ho38, HO⟩ := HO
  refine wpF_cons _ (bif b4 then (bif g4 then undef else (.int .i64 p.s1)) else undef) ho38.out ?_ ?_
  · cases b4
    · exact FY_un (d := 41) rfl ho34.out (by rfl) (by kernel_rfl)
    · cases g4
      · refine FY_yes (d := 41) rfl ho34.out (by rfl) (by kernel_rfl) fun wx hx => ?_
        have hc : wx.cell? ⟨b, 1, none⟩ = some (.int .i64 p.s1) := cell_at (HL.out wx hx) 1
        go_simp
      · exact FY_no (d := 41) rfl ho34.out (by rfl) (by kernel_rfl)
  simp only [Act.put, List.setIfInBounds_toArray, List.set_cons_zero, List.set_cons_succ]
  obtain ⟨ho39, HO⟩ := HO
  refine wpF_cons _ (bif b4 then (bif g4 then undef else (.bool h4)) else undef) ho39.out ?_ ?_
  · cases b4
    · exact FY_un (d := 41) rfl ho34.out (by rfl) (by kernel_rfl)
    · cases g4
      · refine FY_yes (d := 41) rfl ho34.out (by rfl) (by kernel_rfl) fun wx hx => ?_
        have hk := Kh4.out
        go_simp
      · exact FY_no (d := 41) rfl ho34.out (by rfl) (by kernel_rfl)
  simp only [Act.put, List.setIfInBounds_toArray, List.set_cons_zero, List.set_cons_succ]
  obtain ⟨ho40, HO⟩ := HO
  refine wpF_cons _ (bif b4 then (.bool (g4 || h4)) else undef) ho40.out ?_ ?_
  · cases b4
    · exact FY_no (d := 37) rfl ho30.out (by rfl) (by kernel_rfl)
    · refine FY_yes (d := 37) rfl ho30.out (by rfl) (by kernel_rfl) fun wx hx => ?_
      cases g4 <;> go_simp
  simp only [Act.put, List.setIfInBounds_toArray, List.set_cons_zero, List.set_cons_succ]
  obtain ⟨ho41, HO⟩ := HO
  refine wpF_cons _ (.bool k4) ho41.out ?_ ?_
  · refine FY_in rfl fun wx hx => ?_
    have hk := Kk4.out
    cases b4 <;> go_simp
    exact hk.symm
  simp only [Act.put, List.setIfInBounds_toArray, List.set_cons_zero, List.set_cons_succ]
  obtain ⟨ho42, HO⟩ := HO
  refine wpF_cons _ (.agg #[.int .i64 p.s0, .int .i64 p.s1, .int .i64 p.s2, .int .i64 p.s3, .int .i64 p.s4, .int .i64 p.s5, .int .i64 p.s6, .int .i64 p.s7, .int .i64 p.s8, .int .i64 p.s9, .int .i64 p.s10, .int .i64 p.s11]) ho42.out ?_ ?_
  · refine FY_in rfl fun wx hx => ?_
    exact fu_load_row rfl 25 (.tmp 1) rfl b (by kernel_rfl) _ _ _ _ (HL.out wx hx) Tryz.underlying25 rfl (by kernel_rfl)
  simp only [Act.put, List.setIfInBounds_toArray, List.set_cons_zero, List.set_cons_succ]
  obtain ⟨ho43, HO⟩ := HO
  refine wpF_cons _ (.bool k5) ho43.out ?_ ?_
  · refine FY_in rfl fun wx hx => ?_
    go_simp
    rw [← HV.out]
    exact (step0_calls p _).mono fun e w' h => ⟨by rw [h.1, Kk5.out], h.2⟩
  simp only [Act.put, List.setIfInBounds_toArray, List.set_cons_zero, List.set_cons_succ]
  obtain ⟨ho44, HO⟩ := HO
  refine wpF_cons _ (.agg #[.int .i64 p.s0, .int .i64 p.s1, .int .i64 p.s2, .int .i64 p.s3, .int .i64 p.s4, .int .i64 p.s5, .int .i64 p.s6, .int .i64 p.s7, .int .i64 p.s8, .int .i64 p.s9, .int .i64 p.s10, .int .i64 p.s11]) ho44.out ?_ ?_
  · refine FY_in rfl fun wx hx => ?_
    exact fu_load_row rfl 25 (.tmp 1) rfl b (by kernel_rfl) _ _ _ _ (HL.out wx hx) Tryz.underlying25 rfl (by kernel_rfl)
  simp only [Act.put, List.setIfInBounds_toArray, List.set_cons_zero, List.set_cons_succ]
  obtain ⟨ho45, HO⟩ := HO
  refine wpF_cons _ (.bool k6) ho45.out ?_ ?_
  · refine FY_in rfl fun wx hx => ?_
    go_simp
    rw [← HV.out]
    exact (step1_calls p _).mono fun e w' h => ⟨by rw [h.1, Kk6.out], h.2⟩
  simp only [Act.put, List.setIfInBounds_toArray, List.set_cons_zero, List.set_cons_succ]
  obtain ⟨ho46, HO⟩ := HO
  refine wpF_cons _ (.agg #[.int .i64 p.s0, .int .i64 p.s1, .int .i64 p.s2, .int .i64 p.s3, .int .i64 p.s4, .int .i64 p.s5, .int .i64 p.s6, .int .i64 p.s7, .int .i64 p.s8, .int .i64 p.s9, .int .i64 p.s10, .int .i64 p.s11]) ho46.out ?_ ?_
  · refine FY_in rfl fun wx hx => ?_
    exact fu_load_row rfl 25 (.tmp 1) rfl b (by kernel_rfl) _ _ _ _ (HL.out wx hx) Tryz.underlying25 rfl (by kernel_rfl)
  simp only [Act.put, List.setIfInBounds_toArray, List.set_cons_zero, List.set_cons_succ]
  obtain ⟨ho47, HO⟩ := HO
  refine wpF_cons _ (.bool k7) ho47.out ?_ ?_
  · refine FY_in rfl fun wx hx => ?_
    go_simp
    rw [← HV.out]
    exact (step2_calls p _).mono fun e w' h => ⟨by rw [h.1, Kk7.out], h.2⟩
  simp only [Act.put, List.setIfInBounds_toArray, List.set_cons_zero, List.set_cons_succ]
  obtain ⟨ho48, HO⟩ := HO
  refine wpF_cons _ (.agg #[.int .i64 p.s0, .int .i64 p.s1, .int .i64 p.s2, .int .i64 p.s3, .int .i64 p.s4, .int .i64 p.s5, .int .i64 p.s6, .int .i64 p.s7, .int .i64 p.s8, .int .i64 p.s9, .int .i64 p.s10, .int .i64 p.s11]) ho48.out ?_ ?_
  · refine FY_in rfl fun wx hx => ?_
    exact fu_load_row rfl 25 (.tmp 1) rfl b (by kernel_rfl) _ _ _ _ (HL.out wx hx) Tryz.underlying25 rfl (by kernel_rfl)
  simp only [Act.put, List.setIfInBounds_toArray, List.set_cons_zero, List.set_cons_succ]
  obtain ⟨ho49, HO⟩ := HO
  refine wpF_cons _ (.bool k8) ho49.out ?_ ?_
  · refine FY_in rfl fun wx hx => ?_
    go_simp
    rw [← HV.out]
    exact (step3_calls p _).mono fun e w' h => ⟨by rw [h.1, Kk8.out], h.2⟩
  simp only [Act.put, List.setIfInBounds_toArray, List.set_cons_zero, List.set_cons_succ]
  obtain ⟨ho50, HO⟩ := HO
  refine wpF_cons _ (.pointer (some ⟨b, 9, none⟩)) ho50.out ?_ ?_
  · refine FY_in rfl fun wx hx => ?_
    go_simp
  simp only [Act.put, List.setIfInBounds_toArray, List.set_cons_zero, List.set_cons_succ]
  obtain ⟨ho51, HO⟩ := HO
  refine wpF_cons _ (.int .i64 p.s9) ho51.out ?_ ?_
  · refine FY_in rfl fun wx hx => ?_
    have hc : wx.cell? ⟨b, 9, none⟩ = some (.int .i64 p.s9) := cell_at (HL.out wx hx) 9
    go_simp
  simp only [Act.put, List.setIfInBounds_toArray, List.set_cons_zero, List.set_cons_succ]
  obtain ⟨ho52, HO⟩ := HO
  refine wpF_cons _ (.bool k9) ho52.out ?_ ?_
  · refine FY_in rfl fun wx hx => ?_
    go_simp
    exact (sbtw_calls _ _ _ _).mono fun e w' h => ⟨by rw [h.1, Kk9.out], by rw [h.2]; exact Frm.refl _ _⟩
  simp only [Act.put, List.setIfInBounds_toArray, List.set_cons_zero, List.set_cons_succ]
  obtain ⟨ho53, HO⟩ := HO
  refine wpF_cons _ (.pointer (some ⟨b, 10, none⟩)) ho53.out ?_ ?_
  · refine FY_in rfl fun wx hx => ?_
    go_simp
  simp only [Act.put, List.setIfInBounds_toArray, List.set_cons_zero, List.set_cons_succ]
  obtain ⟨ho54, HO⟩ := HO
  refine wpF_cons _ (.int .i64 p.s10) ho54.out ?_ ?_
  · refine FY_in rfl fun wx hx => ?_
    have hc : wx.cell? ⟨b, 10, none⟩ = some (.int .i64 p.s10) := cell_at (HL.out wx hx) 10
    go_simp
  simp only [Act.put, List.setIfInBounds_toArray, List.set_cons_zero, List.set_cons_succ]
  obtain ⟨ho55, HO⟩ := HO
  refine wpF_cons _ (.bool k10) ho55.out ?_ ?_
  · refine FY_in rfl fun wx hx => ?_
    go_simp
    exact (sbtw_calls _ _ _ _).mono fun e w' h => ⟨by rw [h.1, Kk10.out], by rw [h.2]; exact Frm.refl _ _⟩
  simp only [Act.put, List.setIfInBounds_toArray, List.set_cons_zero, List.set_cons_succ]
  obtain ⟨ho56, HO⟩ := HO
  refine wpF_cons _ (.pointer (some ⟨b, 11, none⟩)) ho56.out ?_ ?_
  · refine FY_in rfl fun wx hx => ?_
    go_simp
  simp only [Act.put, List.setIfInBounds_toArray, List.set_cons_zero, List.set_cons_succ]
  obtain ⟨ho57, HO⟩ := HO
  refine wpF_cons _ (.int .i64 p.s11) ho57.out ?_ ?_
  · refine FY_in rfl fun wx hx => ?_
    have hc : wx.cell? ⟨b, 11, none⟩ = some (.int .i64 p.s11) := cell_at (HL.out wx hx) 11
    go_simp
  simp only [Act.put, List.setIfInBounds_toArray, List.set_cons_zero, List.set_cons_succ]
  obtain ⟨ho58, HO⟩ := HO
  refine wpF_cons _ (.bool k11) ho58.out ?_ ?_
  · refine FY_in rfl fun wx hx => ?_
    go_simp
    exact (sbtw_calls _ _ _ _).mono fun e w' h => ⟨by rw [h.1, Kk11.out], by rw [h.2]; exact Frm.refl _ _⟩
  simp only [Act.put, List.setIfInBounds_toArray, List.set_cons_zero, List.set_cons_succ]
  obtain ⟨ho59, HO⟩ := HO
  refine wpF_cons _ (.agg #[.bool k0, .bool k1, .bool k2, .bool k3, .bool k4, .bool k5, .bool k6, .bool k7, .bool k8, .bool k9, .bool k10, .bool k11]) ho59.out ?_ ?_
  · refine FY_in rfl fun wx hx => ?_
    go_simp
  simp only [Act.put, List.setIfInBounds_toArray, List.set_cons_zero, List.set_cons_succ]
  refine HQ.out _ ?_
  intro bx w2 hf2 hbx hh2
  refine .inl (wp_store_row 118 (.tmp 4) (.tmp 66) rfl bx _ rfl rfl _ _ hh2 (by kernel_rfl) rfl (by simp [Value.oneCell']) ?_)
  have H2 := hid (setRow_heap w2 bx _ (#[.bool k0, .bool k1, .bool k2, .bool k3, .bool k4, .bool k5, .bool k6, .bool k7, .bool k8, .bool k9, .bool k10, .bool k11]) _ _ hh2)
  have F2 := hid ((HF.out.then0 hf2).setRow bx (#[.bool k0, .bool k1, .bool k2, .bool k3, .bool k4, .bool k5, .bool k6, .bool k7, .bool k8, .bool k9, .bool k10, .bool k11]) (Nat.le_trans HF.out.size hbx))
  obtain ⟨w3, hw3⟩ : ∃ x, x = w2.setRow bx (#[.bool k0, .bool k1, .bool k2, .bool k3, .bool k4, .bool k5, .bool k6, .bool k7, .bool k8, .bool k9, .bool k10, .bool k11]) := ⟨_, rfl⟩
  rw [← hw3] at H2 F2
  rw [← hw3]
  clear hw3 hh2 hbx hf2 HL HH HF HB
  go_wp2_with (refine wpList_load_row rfl 118 (.tmp 4) (by with_reducible rfl) bx rfl _ _ _ _ H2.out Tryz.underlying118 rfl (by kernel_rfl) ?_)
  refine wp_loop_rounds 13 ?_
  rw [rounds_succ]
  cases k0
  · go_wp2_with (refine wpList_index rfl 118 4 (.tmp 67) (.tmp 68) (by with_reducible rfl) Tryz.underlying118 Tryz.underlying4 rfl (by kernel_rfl) _ rfl .i64 0 rfl (by decide) (.bool false) rfl ?_)
    go_ret2
    exact ⟨by rw [Sp.chkN, Sp.chkE, HCO.out]; rfl, F2.out⟩
  go_wp2_with (refine wpList_index rfl 118 4 (.tmp 67) (.tmp 68) (by with_reducible rfl) Tryz.underlying118 Tryz.underlying4 rfl (by kernel_rfl) _ rfl .i64 0 rfl (by decide) (.bool true) rfl ?_)
  rw [rounds_succ]
  cases k1
  · go_wp2_with (refine wpList_index rfl 118 4 (.tmp 67) (.tmp 68) (by with_reducible rfl) Tryz.underlying118 Tryz.underlying4 rfl (by kernel_rfl) _ rfl .i64 1 rfl (by decide) (.bool false) rfl ?_)
    go_ret2
    exact ⟨by rw [Sp.chkN, Sp.chkE, HCO.out]; rfl, F2.out⟩
  go_wp2_with (refine wpList_index rfl 118 4 (.tmp 67) (.tmp 68) (by with_reducible rfl) Tryz.underlying118 Tryz.underlying4 rfl (by kernel_rfl) _ rfl .i64 1 rfl (by decide) (.bool true) rfl ?_)
  rw [rounds_succ]
  cases k2
  · go_wp2_with (refine wpList_index rfl 118 4 (.tmp 67) (.tmp 68) (by with_reducible rfl) Tryz.underlying118 Tryz.underlying4 rfl (by kernel_rfl) _ rfl .i64 2 rfl (by decide) (.bool false) rfl ?_)
    go_ret2
    exact ⟨by rw [Sp.chkN, Sp.chkE, HCO.out]; rfl, F2.out⟩
  go_wp2_with (refine wpList_index rfl 118 4 (.tmp 67) (.tmp 68) (by with_reducible rfl) Tryz.underlying118 Tryz.underlying4 rfl (by kernel_rfl) _ rfl .i64 2 rfl (by decide) (.bool true) rfl ?_)
  rw [rounds_succ]
  cases k3
  · go_wp2_with (refine wpList_index rfl 118 4 (.tmp 67) (.tmp 68) (by with_reducible rfl) Tryz.underlying118 Tryz.underlying4 rfl (by kernel_rfl) _ rfl .i64 3 rfl (by decide) (.bool false) rfl ?_)
    go_ret2
    exact ⟨by rw [Sp.chkN, Sp.chkE, HCO.out]; rfl, F2.out⟩
  go_wp2_with (refine wpList_index rfl 118 4 (.tmp 67) (.tmp 68) (by with_reducible rfl) Tryz.underlying118 Tryz.underlying4 rfl (by kernel_rfl) _ rfl .i64 3 rfl (by decide) (.bool true) rfl ?_)
  rw [rounds_succ]
  cases k4
  · go_wp2_with (refine wpList_index rfl 118 4 (.tmp 67) (.tmp 68) (by with_reducible rfl) Tryz.underlying118 Tryz.underlying4 rfl (by kernel_rfl) _ rfl .i64 4 rfl (by decide) (.bool false) rfl ?_)
    go_ret2
    exact ⟨by rw [Sp.chkN, Sp.chkE, HCO.out]; rfl, F2.out⟩
  go_wp2_with (refine wpList_index rfl 118 4 (.tmp 67) (.tmp 68) (by with_reducible rfl) Tryz.underlying118 Tryz.underlying4 rfl (by kernel_rfl) _ rfl .i64 4 rfl (by decide) (.bool true) rfl ?_)
  rw [rounds_succ]
  cases k5
  · go_wp2_with (refine wpList_index rfl 118 4 (.tmp 67) (.tmp 68) (by with_reducible rfl) Tryz.underlying118 Tryz.underlying4 rfl (by kernel_rfl) _ rfl .i64 5 rfl (by decide) (.bool false) rfl ?_)
    go_ret2
    exact ⟨by rw [Sp.chkN, Sp.chkE, HCO.out]; rfl, F2.out⟩
  go_wp2_with (refine wpList_index rfl 118 4 (.tmp 67) (.tmp 68) (by with_reducible rfl) Tryz.underlying118 Tryz.underlying4 rfl (by kernel_rfl) _ rfl .i64 5 rfl (by decide) (.bool true) rfl ?_)
  rw [rounds_succ]
  cases k6
  · go_wp2_with (refine wpList_index rfl 118 4 (.tmp 67) (.tmp 68) (by with_reducible rfl) Tryz.underlying118 Tryz.underlying4 rfl (by kernel_rfl) _ rfl .i64 6 rfl (by decide) (.bool false) rfl ?_)
    go_ret2
    exact ⟨by rw [Sp.chkN, Sp.chkE, HCO.out]; rfl, F2.out⟩
  go_wp2_with (refine wpList_index rfl 118 4 (.tmp 67) (.tmp 68) (by with_reducible rfl) Tryz.underlying118 Tryz.underlying4 rfl (by kernel_rfl) _ rfl .i64 6 rfl (by decide) (.bool true) rfl ?_)
  rw [rounds_succ]
  cases k7
  · go_wp2_with (refine wpList_index rfl 118 4 (.tmp 67) (.tmp 68) (by with_reducible rfl) Tryz.underlying118 Tryz.underlying4 rfl (by kernel_rfl) _ rfl .i64 7 rfl (by decide) (.bool false) rfl ?_)
    go_ret2
    exact ⟨by rw [Sp.chkN, Sp.chkE, HCO.out]; rfl, F2.out⟩
  go_wp2_with (refine wpList_index rfl 118 4 (.tmp 67) (.tmp 68) (by with_reducible rfl) Tryz.underlying118 Tryz.underlying4 rfl (by kernel_rfl) _ rfl .i64 7 rfl (by decide) (.bool true) rfl ?_)
  rw [rounds_succ]
  cases k8
  · go_wp2_with (refine wpList_index rfl 118 4 (.tmp 67) (.tmp 68) (by with_reducible rfl) Tryz.underlying118 Tryz.underlying4 rfl (by kernel_rfl) _ rfl .i64 8 rfl (by decide) (.bool false) rfl ?_)
    go_ret2
    exact ⟨by rw [Sp.chkN, Sp.chkE, HCO.out]; rfl, F2.out⟩
  go_wp2_with (refine wpList_index rfl 118 4 (.tmp 67) (.tmp 68) (by with_reducible rfl) Tryz.underlying118 Tryz.underlying4 rfl (by kernel_rfl) _ rfl .i64 8 rfl (by decide) (.bool true) rfl ?_)
  rw [rounds_succ]
  cases k9
  · go_wp2_with (refine wpList_index rfl 118 4 (.tmp 67) (.tmp 68) (by with_reducible rfl) Tryz.underlying118 Tryz.underlying4 rfl (by kernel_rfl) _ rfl .i64 9 rfl (by decide) (.bool false) rfl ?_)
    go_ret2
    exact ⟨by rw [Sp.chkN, Sp.chkE, HCO.out]; rfl, F2.out⟩
  go_wp2_with (refine wpList_index rfl 118 4 (.tmp 67) (.tmp 68) (by with_reducible rfl) Tryz.underlying118 Tryz.underlying4 rfl (by kernel_rfl) _ rfl .i64 9 rfl (by decide) (.bool true) rfl ?_)
  rw [rounds_succ]
  cases k10
  · go_wp2_with (refine wpList_index rfl 118 4 (.tmp 67) (.tmp 68) (by with_reducible rfl) Tryz.underlying118 Tryz.underlying4 rfl (by kernel_rfl) _ rfl .i64 10 rfl (by decide) (.bool false) rfl ?_)
    go_ret2
    exact ⟨by rw [Sp.chkN, Sp.chkE, HCO.out]; rfl, F2.out⟩
  go_wp2_with (refine wpList_index rfl 118 4 (.tmp 67) (.tmp 68) (by with_reducible rfl) Tryz.underlying118 Tryz.underlying4 rfl (by kernel_rfl) _ rfl .i64 10 rfl (by decide) (.bool true) rfl ?_)
  rw [rounds_succ]
  cases k11
  · go_wp2_with (refine wpList_index rfl 118 4 (.tmp 67) (.tmp 68) (by with_reducible rfl) Tryz.underlying118 Tryz.underlying4 rfl (by kernel_rfl) _ rfl .i64 11 rfl (by decide) (.bool false) rfl ?_)
    go_ret2
    exact ⟨by rw [Sp.chkN, Sp.chkE, HCO.out]; rfl, F2.out⟩
  go_wp2_with (refine wpList_index rfl 118 4 (.tmp 67) (.tmp 68) (by with_reducible rfl) Tryz.underlying118 Tryz.underlying4 rfl (by kernel_rfl) _ rfl .i64 11 rfl (by decide) (.bool true) rfl ?_)
  rw [rounds_succ]
  go_wp2_with fail
  go_ret2
  exact ⟨by rw [Sp.chkN, Sp.chkE, HCO.out]; rfl, F2.out⟩
end Go.Proofs.YtonlmkcolndaaaaGreatDoor
