/- The reference's specs: Check, Of, Fields. No condition. -/
import Derived.Test.YtonlmkcolndaaaaGreatDoorSr
namespace Go.Proofs.YtonlmkcolndaaaaGreatDoor
set_option linter.unusedVariables false
set_option linter.unusedSimpArgs false
set_option maxRecDepth 20000
open Go.RowKit

def Sp.rconds (p : Sp) : List Bool :=
  [btw p.s0 1 1048576, btw p.s1 1 16, btw p.s2 0 (wrap64 (16 - p.s1)), btw p.s3 0 p.s1 && !((p.s3 == 0) && (p.s2 == 0)), btw p.s4 0 2 && !((p.s4 == 2) && decide (p.s2 < p.s1)), p.rstepB 0, p.rstepB 1, p.rstepB 2, p.rstepB 3,
   btw p.s9 1 1048576, btw p.s10 0 1048576, btw p.s11 1 1048576]
def Sp.rchkN (p : Sp) : Int := chkF p.rconds 0
def Sp.rchkE (p : Sp) : Int := bif p.rconds.all id then 0 else 11
set_option maxRecDepth 100000 in
set_option maxHeartbeats 8000000 in
theorem rcheck_calls (p : Sp) (w : World) : Calls Tryz.prog 68 #[p.val] w fun x w' => x = .returned (.tuple #[.int .i64 p.rchkN, .int .i64 p.rchkE]) ∧ Frm M0 w w' := by
  obtain ⟨k0, Kk0⟩ : ∃ b, Hid (btw p.s0 1 1048576 = b) := ⟨_, rfl⟩
  obtain ⟨k1, Kk1⟩ : ∃ b, Hid (btw p.s1 1 16 = b) := ⟨_, rfl⟩
  obtain ⟨k2, Kk2⟩ : ∃ b, Hid (btw p.s2 0 (wrap64 (16 - p.s1)) = b) := ⟨_, rfl⟩
  obtain ⟨b3, Kb3⟩ : ∃ b, Hid (btw p.s3 0 p.s1 = b) := ⟨_, rfl⟩
  obtain ⟨g3, Kg3⟩ : ∃ b, Hid ((p.s3 == 0) = b) := ⟨_, rfl⟩
  obtain ⟨h3, Kh3⟩ : ∃ b, Hid ((p.s2 == 0) = b) := ⟨_, rfl⟩
  obtain ⟨b4, Kb4⟩ : ∃ b, Hid (btw p.s4 0 2 = b) := ⟨_, rfl⟩
  obtain ⟨g4, Kg4⟩ : ∃ b, Hid ((p.s4 == 2) = b) := ⟨_, rfl⟩
  obtain ⟨h4, Kh4⟩ : ∃ b, Hid (decide (p.s2 < p.s1) = b) := ⟨_, rfl⟩
  obtain ⟨k5, Kk5⟩ : ∃ b, Hid (p.rstepB 0 = b) := ⟨_, rfl⟩
  obtain ⟨k6, Kk6⟩ : ∃ b, Hid (p.rstepB 1 = b) := ⟨_, rfl⟩
  obtain ⟨k7, Kk7⟩ : ∃ b, Hid (p.rstepB 2 = b) := ⟨_, rfl⟩
  obtain ⟨k8, Kk8⟩ : ∃ b, Hid (p.rstepB 3 = b) := ⟨_, rfl⟩
  obtain ⟨k9, Kk9⟩ : ∃ b, Hid (btw p.s9 1 1048576 = b) := ⟨_, rfl⟩
  obtain ⟨k10, Kk10⟩ : ∃ b, Hid (btw p.s10 0 1048576 = b) := ⟨_, rfl⟩
  obtain ⟨k11, Kk11⟩ : ∃ b, Hid (btw p.s11 1 1048576 = b) := ⟨_, rfl⟩
  have HCO : Hid (p.rconds = [k0, k1, k2, b3 && !(g3 && h3), b4 && !(g4 && h4), k5, k6, k7, k8, k9, k10, k11]) := hid (by unfold Sp.rconds; rw [Kk0.out, Kk1.out, Kk2.out, Kb3.out, Kg3.out, Kh3.out, Kb4.out, Kg4.out, Kh4.out, Kk5.out, Kk6.out, Kk7.out, Kk8.out, Kk9.out, Kk10.out, Kk11.out])
  have HV : Hid (p.val = .agg #[.int .i64 p.s0, .int .i64 p.s1, .int .i64 p.s2, .int .i64 p.s3, .int .i64 p.s4, .int .i64 p.s5, .int .i64 p.s6, .int .i64 p.s7, .int .i64 p.s8, .int .i64 p.s9, .int .i64 p.s10, .int .i64 p.s11]) := rfl
  rw [HV.out]
  go_enter Tryz.func68, Tryz.ntmps68
  go_wp2_with fail
  have HH0 := hid (heap_alloc_last w (.cells #[.int .i64 p.s0, .int .i64 p.s1, .int .i64 p.s2, .int .i64 p.s3, .int .i64 p.s4, .int .i64 p.s5, .int .i64 p.s6, .int .i64 p.s7, .int .i64 p.s8, .int .i64 p.s9, .int .i64 p.s10, .int .i64 p.s11] 25))
  have HF0 := hid ((Frm.refl M0 w).alloc (.cells #[.int .i64 p.s0, .int .i64 p.s1, .int .i64 p.s2, .int .i64 p.s3, .int .i64 p.s4, .int .i64 p.s5, .int .i64 p.s6, .int .i64 p.s7, .int .i64 p.s8, .int .i64 p.s9, .int .i64 p.s10, .int .i64 p.s11] 25))
  obtain ⟨b, hb⟩ : ∃ b, b = w.heap.size := ⟨_, rfl⟩
  obtain ⟨w1, hw1⟩ : ∃ x, x = w.alloc (.cells #[.int .i64 p.s0, .int .i64 p.s1, .int .i64 p.s2, .int .i64 p.s3, .int .i64 p.s4, .int .i64 p.s5, .int .i64 p.s6, .int .i64 p.s7, .int .i64 p.s8, .int .i64 p.s9, .int .i64 p.s10, .int .i64 p.s11] 25) := ⟨_, rfl⟩
  rw [← hw1, ← hb] at HH0
  rw [← hw1] at HF0
  rw [← hw1, ← hb]
  clear hw1 hb
  have c0 : w1.cell? ⟨b, 0, none⟩ = some (.int .i64 p.s0) := cell_at HH0.out 0
  have c1 : w1.cell? ⟨b, 1, none⟩ = some (.int .i64 p.s1) := cell_at HH0.out 1
  have c2 : w1.cell? ⟨b, 2, none⟩ = some (.int .i64 p.s2) := cell_at HH0.out 2
  have c3 : w1.cell? ⟨b, 3, none⟩ = some (.int .i64 p.s3) := cell_at HH0.out 3
  have c4 : w1.cell? ⟨b, 4, none⟩ = some (.int .i64 p.s4) := cell_at HH0.out 4
  have c5 : w1.cell? ⟨b, 5, none⟩ = some (.int .i64 p.s5) := cell_at HH0.out 5
  have c6 : w1.cell? ⟨b, 6, none⟩ = some (.int .i64 p.s6) := cell_at HH0.out 6
  have c7 : w1.cell? ⟨b, 7, none⟩ = some (.int .i64 p.s7) := cell_at HH0.out 7
  have c8 : w1.cell? ⟨b, 8, none⟩ = some (.int .i64 p.s8) := cell_at HH0.out 8
  have c9 : w1.cell? ⟨b, 9, none⟩ = some (.int .i64 p.s9) := cell_at HH0.out 9
  have c10 : w1.cell? ⟨b, 10, none⟩ = some (.int .i64 p.s10) := cell_at HH0.out 10
  have c11 : w1.cell? ⟨b, 11, none⟩ = some (.int .i64 p.s11) := cell_at HH0.out 11
  go_wp2_with fail
  refine (rin_calls _ _ _ _).mono ?_
  rintro _ _ ⟨rfl, rfl⟩
  rw [Kk0.out]
  cases k0
  case false =>
    go_wp2_with fail
    go_ret2
    exact ⟨by rw [Sp.rchkN, Sp.rchkE, HCO.out]; rfl, HF0.out⟩
  go_wp2_with fail
  refine (rin_calls _ _ _ _).mono ?_
  rintro _ _ ⟨rfl, rfl⟩
  rw [Kk1.out]
  cases k1
  case false =>
    go_wp2_with fail
    go_ret2
    exact ⟨by rw [Sp.rchkN, Sp.rchkE, HCO.out]; rfl, HF0.out⟩
  go_wp2_with fail
  refine (rin_calls _ _ _ _).mono ?_
  rintro _ _ ⟨rfl, rfl⟩
  rw [Kk2.out]
  cases k2
  case false =>
    go_wp2_with fail
    go_ret2
    exact ⟨by rw [Sp.rchkN, Sp.rchkE, HCO.out]; rfl, HF0.out⟩
  go_wp2_with fail
  refine (rin_calls _ _ _ _).mono ?_
  rintro _ _ ⟨rfl, rfl⟩
  rw [Kb3.out]
  cases b3
  case false =>
    go_wp2_with fail
    go_ret2
    exact ⟨by rw [Sp.rchkN, Sp.rchkE, HCO.out]; rfl, HF0.out⟩
  have q3 := Kg3.out
  have r3 := Kh3.out
  cases g3
  case true =>
    cases h3
    case true =>
      go_wp2_with fail
      go_ret2
      exact ⟨by rw [Sp.rchkN, Sp.rchkE, HCO.out]; rfl, HF0.out⟩
    case false =>
      go_wp2_with fail
      refine (rin_calls _ _ _ _).mono ?_
      rintro _ _ ⟨rfl, rfl⟩
      rw [Kb4.out]
      cases b4
      case false =>
        go_wp2_with fail
        go_ret2
        exact ⟨by rw [Sp.rchkN, Sp.rchkE, HCO.out]; rfl, HF0.out⟩
      have q4 := Kg4.out
      have r4 := Kh4.out
      cases g4
      case true =>
        cases h4
        case true =>
          go_wp2_with fail
          go_ret2
          exact ⟨by rw [Sp.rchkN, Sp.rchkE, HCO.out]; rfl, HF0.out⟩
        case false =>
          go_wp2_with fail
          clear q3 r3 q4 r4 c0 c1 c2 c3 c4 c5 c6 c7 c8 c9 c10 c11
          refine wp_loop_rounds 5 ?_
          rw [rounds_succ]
          go_wp2_with (refine wpList_load_row rfl 25 (.tmp 1) (by with_reducible rfl) b (by kernel_rfl) _ _ _ _ HH0.out Tryz.underlying25 rfl (by kernel_rfl) ?_)
          rw [← HV.out]
          refine (rstep0_calls p _).mono ?_
          rintro _ v0 ⟨rfl, hf⟩
          rw [Kk5.out, HV.out]
          have H0 := hid (hf.heap HH0.out (fun h => h))
          have F0 := hid (HF0.out.then0 hf)
          clear hf
          cases k5
          case false =>
            go_wp2_with fail
            go_ret2
            exact ⟨by rw [Sp.rchkN, Sp.rchkE, HCO.out]; rfl, F0.out⟩
          go_wp2_with fail
          rw [rounds_succ]
          go_wp2_with (refine wpList_load_row rfl 25 (.tmp 1) (by with_reducible rfl) b (by kernel_rfl) _ _ _ _ H0.out Tryz.underlying25 rfl (by kernel_rfl) ?_)
          rw [← HV.out]
          refine (rstep1_calls p _).mono ?_
          rintro _ v1 ⟨rfl, hf⟩
          rw [Kk6.out, HV.out]
          have H1 := hid (hf.heap H0.out (fun h => h))
          have F1 := hid (F0.out.then0 hf)
          clear hf
          cases k6
          case false =>
            go_wp2_with fail
            go_ret2
            exact ⟨by rw [Sp.rchkN, Sp.rchkE, HCO.out]; rfl, F1.out⟩
          go_wp2_with fail
          rw [rounds_succ]
          go_wp2_with (refine wpList_load_row rfl 25 (.tmp 1) (by with_reducible rfl) b (by kernel_rfl) _ _ _ _ H1.out Tryz.underlying25 rfl (by kernel_rfl) ?_)
          rw [← HV.out]
          refine (rstep2_calls p _).mono ?_
          rintro _ v2 ⟨rfl, hf⟩
          rw [Kk7.out, HV.out]
          have H2 := hid (hf.heap H1.out (fun h => h))
          have F2 := hid (F1.out.then0 hf)
          clear hf
          cases k7
          case false =>
            go_wp2_with fail
            go_ret2
            exact ⟨by rw [Sp.rchkN, Sp.rchkE, HCO.out]; rfl, F2.out⟩
          go_wp2_with fail
          rw [rounds_succ]
          go_wp2_with (refine wpList_load_row rfl 25 (.tmp 1) (by with_reducible rfl) b (by kernel_rfl) _ _ _ _ H2.out Tryz.underlying25 rfl (by kernel_rfl) ?_)
          rw [← HV.out]
          refine (rstep3_calls p _).mono ?_
          rintro _ v3 ⟨rfl, hf⟩
          rw [Kk8.out, HV.out]
          have H3 := hid (hf.heap H2.out (fun h => h))
          have F3 := hid (F2.out.then0 hf)
          clear hf
          cases k8
          case false =>
            go_wp2_with fail
            go_ret2
            exact ⟨by rw [Sp.rchkN, Sp.rchkE, HCO.out]; rfl, F3.out⟩
          go_wp2_with fail
          have d9 : v3.cell? ⟨b, 9, none⟩ = some (.int .i64 p.s9) := cell_at H3.out 9
          have d10 : v3.cell? ⟨b, 10, none⟩ = some (.int .i64 p.s10) := cell_at H3.out 10
          have d11 : v3.cell? ⟨b, 11, none⟩ = some (.int .i64 p.s11) := cell_at H3.out 11
          rw [rounds_succ]
          go_wp2_with fail
          refine (rin_calls _ _ _ _).mono ?_
          rintro _ _ ⟨rfl, rfl⟩
          rw [Kk9.out]
          cases k9
          case false =>
            go_wp2_with fail
            go_ret2
            exact ⟨by rw [Sp.rchkN, Sp.rchkE, HCO.out]; rfl, F3.out⟩
          go_wp2_with fail
          refine (rin_calls _ _ _ _).mono ?_
          rintro _ _ ⟨rfl, rfl⟩
          rw [Kk10.out]
          cases k10
          case false =>
            go_wp2_with fail
            go_ret2
            exact ⟨by rw [Sp.rchkN, Sp.rchkE, HCO.out]; rfl, F3.out⟩
          go_wp2_with fail
          refine (rin_calls _ _ _ _).mono ?_
          rintro _ _ ⟨rfl, rfl⟩
          rw [Kk11.out]
          cases k11
          case false =>
            go_wp2_with fail
            go_ret2
            exact ⟨by rw [Sp.rchkN, Sp.rchkE, HCO.out]; rfl, F3.out⟩
          go_wp2_with fail
          go_ret2
          exact ⟨by rw [Sp.rchkN, Sp.rchkE, HCO.out]; rfl, F3.out⟩
      case false =>
        go_wp2_with fail
        clear q3 r3 q4 r4 c0 c1 c2 c3 c4 c5 c6 c7 c8 c9 c10 c11
        refine wp_loop_rounds 5 ?_
        rw [rounds_succ]
        go_wp2_with (refine wpList_load_row rfl 25 (.tmp 1) (by with_reducible rfl) b (by kernel_rfl) _ _ _ _ HH0.out Tryz.underlying25 rfl (by kernel_rfl) ?_)
        rw [← HV.out]
        refine (rstep0_calls p _).mono ?_
        rintro _ v0 ⟨rfl, hf⟩
        rw [Kk5.out, HV.out]
        have H0 := hid (hf.heap HH0.out (fun h => h))
        have F0 := hid (HF0.out.then0 hf)
        clear hf
        cases k5
        case false =>
          go_wp2_with fail
          go_ret2
          exact ⟨by rw [Sp.rchkN, Sp.rchkE, HCO.out]; rfl, F0.out⟩
        go_wp2_with fail
        rw [rounds_succ]
        go_wp2_with (refine wpList_load_row rfl 25 (.tmp 1) (by with_reducible rfl) b (by kernel_rfl) _ _ _ _ H0.out Tryz.underlying25 rfl (by kernel_rfl) ?_)
        rw [← HV.out]
        refine (rstep1_calls p _).mono ?_
        rintro _ v1 ⟨rfl, hf⟩
        rw [Kk6.out, HV.out]
        have H1 := hid (hf.heap H0.out (fun h => h))
        have F1 := hid (F0.out.then0 hf)
        clear hf
        cases k6
        case false =>
          go_wp2_with fail
          go_ret2
          exact ⟨by rw [Sp.rchkN, Sp.rchkE, HCO.out]; rfl, F1.out⟩
        go_wp2_with fail
        rw [rounds_succ]
        go_wp2_with (refine wpList_load_row rfl 25 (.tmp 1) (by with_reducible rfl) b (by kernel_rfl) _ _ _ _ H1.out Tryz.underlying25 rfl (by kernel_rfl) ?_)
        rw [← HV.out]
        refine (rstep2_calls p _).mono ?_
        rintro _ v2 ⟨rfl, hf⟩
        rw [Kk7.out, HV.out]
        have H2 := hid (hf.heap H1.out (fun h => h))
        have F2 := hid (F1.out.then0 hf)
        clear hf
        cases k7
        case false =>
          go_wp2_with fail
          go_ret2
          exact ⟨by rw [Sp.rchkN, Sp.rchkE, HCO.out]; rfl, F2.out⟩
        go_wp2_with fail
        rw [rounds_succ]
        go_wp2_with (refine wpList_load_row rfl 25 (.tmp 1) (by with_reducible rfl) b (by kernel_rfl) _ _ _ _ H2.out Tryz.underlying25 rfl (by kernel_rfl) ?_)
        rw [← HV.out]
        refine (rstep3_calls p _).mono ?_
        rintro _ v3 ⟨rfl, hf⟩
        rw [Kk8.out, HV.out]
        have H3 := hid (hf.heap H2.out (fun h => h))
        have F3 := hid (F2.out.then0 hf)
        clear hf
        cases k8
        case false =>
          go_wp2_with fail
          go_ret2
          exact ⟨by rw [Sp.rchkN, Sp.rchkE, HCO.out]; rfl, F3.out⟩
        go_wp2_with fail
        have d9 : v3.cell? ⟨b, 9, none⟩ = some (.int .i64 p.s9) := cell_at H3.out 9
        have d10 : v3.cell? ⟨b, 10, none⟩ = some (.int .i64 p.s10) := cell_at H3.out 10
        have d11 : v3.cell? ⟨b, 11, none⟩ = some (.int .i64 p.s11) := cell_at H3.out 11
        rw [rounds_succ]
        go_wp2_with fail
        refine (rin_calls _ _ _ _).mono ?_
        rintro _ _ ⟨rfl, rfl⟩
        rw [Kk9.out]
        cases k9
        case false =>
          go_wp2_with fail
          go_ret2
          exact ⟨by rw [Sp.rchkN, Sp.rchkE, HCO.out]; rfl, F3.out⟩
        go_wp2_with fail
        refine (rin_calls _ _ _ _).mono ?_
        rintro _ _ ⟨rfl, rfl⟩
        rw [Kk10.out]
        cases k10
        case false =>
          go_wp2_with fail
          go_ret2
          exact ⟨by rw [Sp.rchkN, Sp.rchkE, HCO.out]; rfl, F3.out⟩
        go_wp2_with fail
        refine (rin_calls _ _ _ _).mono ?_
        rintro _ _ ⟨rfl, rfl⟩
        rw [Kk11.out]
        cases k11
        case false =>
          go_wp2_with fail
          go_ret2
          exact ⟨by rw [Sp.rchkN, Sp.rchkE, HCO.out]; rfl, F3.out⟩
        go_wp2_with fail
        go_ret2
        exact ⟨by rw [Sp.rchkN, Sp.rchkE, HCO.out]; rfl, F3.out⟩
  case false =>
    go_wp2_with fail
    refine (rin_calls _ _ _ _).mono ?_
    rintro _ _ ⟨rfl, rfl⟩
    rw [Kb4.out]
    cases b4
    case false =>
      go_wp2_with fail
      go_ret2
      exact ⟨by rw [Sp.rchkN, Sp.rchkE, HCO.out]; rfl, HF0.out⟩
    have q4 := Kg4.out
    have r4 := Kh4.out
    cases g4
    case true =>
      cases h4
      case true =>
        go_wp2_with fail
        go_ret2
        exact ⟨by rw [Sp.rchkN, Sp.rchkE, HCO.out]; rfl, HF0.out⟩
      case false =>
        go_wp2_with fail
        clear q3 r3 q4 r4 c0 c1 c2 c3 c4 c5 c6 c7 c8 c9 c10 c11
        refine wp_loop_rounds 5 ?_
        rw [rounds_succ]
        go_wp2_with (refine wpList_load_row rfl 25 (.tmp 1) (by with_reducible rfl) b (by kernel_rfl) _ _ _ _ HH0.out Tryz.underlying25 rfl (by kernel_rfl) ?_)
        rw [← HV.out]
        refine (rstep0_calls p _).mono ?_
        rintro _ v0 ⟨rfl, hf⟩
        rw [Kk5.out, HV.out]
        have H0 := hid (hf.heap HH0.out (fun h => h))
        have F0 := hid (HF0.out.then0 hf)
        clear hf
        cases k5
        case false =>
          go_wp2_with fail
          go_ret2
          exact ⟨by rw [Sp.rchkN, Sp.rchkE, HCO.out]; rfl, F0.out⟩
        go_wp2_with fail
        rw [rounds_succ]
        go_wp2_with (refine wpList_load_row rfl 25 (.tmp 1) (by with_reducible rfl) b (by kernel_rfl) _ _ _ _ H0.out Tryz.underlying25 rfl (by kernel_rfl) ?_)
        rw [← HV.out]
        refine (rstep1_calls p _).mono ?_
        rintro _ v1 ⟨rfl, hf⟩
        rw [Kk6.out, HV.out]
        have H1 := hid (hf.heap H0.out (fun h => h))
        have F1 := hid (F0.out.then0 hf)
        clear hf
        cases k6
        case false =>
          go_wp2_with fail
          go_ret2
          exact ⟨by rw [Sp.rchkN, Sp.rchkE, HCO.out]; rfl, F1.out⟩
        go_wp2_with fail
        rw [rounds_succ]
        go_wp2_with (refine wpList_load_row rfl 25 (.tmp 1) (by with_reducible rfl) b (by kernel_rfl) _ _ _ _ H1.out Tryz.underlying25 rfl (by kernel_rfl) ?_)
        rw [← HV.out]
        refine (rstep2_calls p _).mono ?_
        rintro _ v2 ⟨rfl, hf⟩
        rw [Kk7.out, HV.out]
        have H2 := hid (hf.heap H1.out (fun h => h))
        have F2 := hid (F1.out.then0 hf)
        clear hf
        cases k7
        case false =>
          go_wp2_with fail
          go_ret2
          exact ⟨by rw [Sp.rchkN, Sp.rchkE, HCO.out]; rfl, F2.out⟩
        go_wp2_with fail
        rw [rounds_succ]
        go_wp2_with (refine wpList_load_row rfl 25 (.tmp 1) (by with_reducible rfl) b (by kernel_rfl) _ _ _ _ H2.out Tryz.underlying25 rfl (by kernel_rfl) ?_)
        rw [← HV.out]
        refine (rstep3_calls p _).mono ?_
        rintro _ v3 ⟨rfl, hf⟩
        rw [Kk8.out, HV.out]
        have H3 := hid (hf.heap H2.out (fun h => h))
        have F3 := hid (F2.out.then0 hf)
        clear hf
        cases k8
        case false =>
          go_wp2_with fail
          go_ret2
          exact ⟨by rw [Sp.rchkN, Sp.rchkE, HCO.out]; rfl, F3.out⟩
        go_wp2_with fail
        have d9 : v3.cell? ⟨b, 9, none⟩ = some (.int .i64 p.s9) := cell_at H3.out 9
        have d10 : v3.cell? ⟨b, 10, none⟩ = some (.int .i64 p.s10) := cell_at H3.out 10
        have d11 : v3.cell? ⟨b, 11, none⟩ = some (.int .i64 p.s11) := cell_at H3.out 11
        rw [rounds_succ]
        go_wp2_with fail
        refine (rin_calls _ _ _ _).mono ?_
        rintro _ _ ⟨rfl, rfl⟩
        rw [Kk9.out]
        cases k9
        case false =>
          go_wp2_with fail
          go_ret2
          exact ⟨by rw [Sp.rchkN, Sp.rchkE, HCO.out]; rfl, F3.out⟩
        go_wp2_with fail
        refine (rin_calls _ _ _ _).mono ?_
        rintro _ _ ⟨rfl, rfl⟩
        rw [Kk10.out]
        cases k10
        case false =>
          go_wp2_with fail
          go_ret2
          exact ⟨by rw [Sp.rchkN, Sp.rchkE, HCO.out]; rfl, F3.out⟩
        go_wp2_with fail
        refine (rin_calls _ _ _ _).mono ?_
        rintro _ _ ⟨rfl, rfl⟩
        rw [Kk11.out]
        cases k11
        case false =>
          go_wp2_with fail
          go_ret2
          exact ⟨by rw [Sp.rchkN, Sp.rchkE, HCO.out]; rfl, F3.out⟩
        go_wp2_with fail
        go_ret2
        exact ⟨by rw [Sp.rchkN, Sp.rchkE, HCO.out]; rfl, F3.out⟩
    case false =>
      go_wp2_with fail
      clear q3 r3 q4 r4 c0 c1 c2 c3 c4 c5 c6 c7 c8 c9 c10 c11
      refine wp_loop_rounds 5 ?_
      rw [rounds_succ]
      go_wp2_with (refine wpList_load_row rfl 25 (.tmp 1) (by with_reducible rfl) b (by kernel_rfl) _ _ _ _ HH0.out Tryz.underlying25 rfl (by kernel_rfl) ?_)
      rw [← HV.out]
      refine (rstep0_calls p _).mono ?_
      rintro _ v0 ⟨rfl, hf⟩
      rw [Kk5.out, HV.out]
      have H0 := hid (hf.heap HH0.out (fun h => h))
      have F0 := hid (HF0.out.then0 hf)
      clear hf
      cases k5
      case false =>
        go_wp2_with fail
        go_ret2
        exact ⟨by rw [Sp.rchkN, Sp.rchkE, HCO.out]; rfl, F0.out⟩
      go_wp2_with fail
      rw [rounds_succ]
      go_wp2_with (refine wpList_load_row rfl 25 (.tmp 1) (by with_reducible rfl) b (by kernel_rfl) _ _ _ _ H0.out Tryz.underlying25 rfl (by kernel_rfl) ?_)
      rw [← HV.out]
      refine (rstep1_calls p _).mono ?_
      rintro _ v1 ⟨rfl, hf⟩
      rw [Kk6.out, HV.out]
      have H1 := hid (hf.heap H0.out (fun h => h))
      have F1 := hid (F0.out.then0 hf)
      clear hf
      cases k6
      case false =>
        go_wp2_with fail
        go_ret2
        exact ⟨by rw [Sp.rchkN, Sp.rchkE, HCO.out]; rfl, F1.out⟩
      go_wp2_with fail
      rw [rounds_succ]
      go_wp2_with (refine wpList_load_row rfl 25 (.tmp 1) (by with_reducible rfl) b (by kernel_rfl) _ _ _ _ H1.out Tryz.underlying25 rfl (by kernel_rfl) ?_)
      rw [← HV.out]
      refine (rstep2_calls p _).mono ?_
      rintro _ v2 ⟨rfl, hf⟩
      rw [Kk7.out, HV.out]
      have H2 := hid (hf.heap H1.out (fun h => h))
      have F2 := hid (F1.out.then0 hf)
      clear hf
      cases k7
      case false =>
        go_wp2_with fail
        go_ret2
        exact ⟨by rw [Sp.rchkN, Sp.rchkE, HCO.out]; rfl, F2.out⟩
      go_wp2_with fail
      rw [rounds_succ]
      go_wp2_with (refine wpList_load_row rfl 25 (.tmp 1) (by with_reducible rfl) b (by kernel_rfl) _ _ _ _ H2.out Tryz.underlying25 rfl (by kernel_rfl) ?_)
      rw [← HV.out]
      refine (rstep3_calls p _).mono ?_
      rintro _ v3 ⟨rfl, hf⟩
      rw [Kk8.out, HV.out]
      have H3 := hid (hf.heap H2.out (fun h => h))
      have F3 := hid (F2.out.then0 hf)
      clear hf
      cases k8
      case false =>
        go_wp2_with fail
        go_ret2
        exact ⟨by rw [Sp.rchkN, Sp.rchkE, HCO.out]; rfl, F3.out⟩
      go_wp2_with fail
      have d9 : v3.cell? ⟨b, 9, none⟩ = some (.int .i64 p.s9) := cell_at H3.out 9
      have d10 : v3.cell? ⟨b, 10, none⟩ = some (.int .i64 p.s10) := cell_at H3.out 10
      have d11 : v3.cell? ⟨b, 11, none⟩ = some (.int .i64 p.s11) := cell_at H3.out 11
      rw [rounds_succ]
      go_wp2_with fail
      refine (rin_calls _ _ _ _).mono ?_
      rintro _ _ ⟨rfl, rfl⟩
      rw [Kk9.out]
      cases k9
      case false =>
        go_wp2_with fail
        go_ret2
        exact ⟨by rw [Sp.rchkN, Sp.rchkE, HCO.out]; rfl, F3.out⟩
      go_wp2_with fail
      refine (rin_calls _ _ _ _).mono ?_
      rintro _ _ ⟨rfl, rfl⟩
      rw [Kk10.out]
      cases k10
      case false =>
        go_wp2_with fail
        go_ret2
        exact ⟨by rw [Sp.rchkN, Sp.rchkE, HCO.out]; rfl, F3.out⟩
      go_wp2_with fail
      refine (rin_calls _ _ _ _).mono ?_
      rintro _ _ ⟨rfl, rfl⟩
      rw [Kk11.out]
      cases k11
      case false =>
        go_wp2_with fail
        go_ret2
        exact ⟨by rw [Sp.rchkN, Sp.rchkE, HCO.out]; rfl, F3.out⟩
      go_wp2_with fail
      go_ret2
      exact ⟨by rw [Sp.rchkN, Sp.rchkE, HCO.out]; rfl, F3.out⟩
end Go.Proofs.YtonlmkcolndaaaaGreatDoor
