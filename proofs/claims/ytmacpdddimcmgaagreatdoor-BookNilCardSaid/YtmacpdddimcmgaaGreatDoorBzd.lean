/- Why a book refuses a record: Check, whole. What a Lead does: leads. What a record does to a book: Lead, Publish, Intent, Ack. What a record does to a book: Intent, Ack. What a record does to a book: Ack; what stands in the history. A record goes into a book's history. What a record does to a book: Begin, Move, Step. What a record does to a book: Begin, Move. -/
import Derived.Test.YtmacpdddimcmgaaGreatDoorBzc
namespace Go.Proofs.YtmacpdddimcmgaaGreatDoor
set_option linter.unusedVariables false
set_option linter.unusedSimpArgs false
set_option maxRecDepth 20000
open Go.RowKit
set_option maxRecDepth 20000 in
set_option maxHeartbeats 4000000 in
theorem bcheck_hit (b : Nat) (p : BkP) (B : Bk) (r : Rc) (w : World) (h : BkAt w b p B) (fn : FuncId) (A R : Int) (hr : rightB r = true) (hcf : ∀ args w, (callFunc fn args).run Tryz.prog w = .ok (.enter fn args) w)
    (hl : chkL.lookup r.k = some (fnv fn #[])) (hm : ∀ wx, Frm M0 w wx → Calls Tryz.prog fn #[bp b, r.val] wx fun x w' => x = .returned (.int .i64 A) ∧ Frm M0 wx w')
    (hR : (if r.k ≠ 1 ∧ r.e ≠ B.w.epoch then 8 else A) = R) :
    Calls Tryz.prog 22 #[bp b, r.val] w fun x w' => x = .returned (.int .i64 R) ∧ Frm M0 w w' := by
  have HB := hid h
  have HRT := hid hr
  have HCF := hid hcf
  have HL := hid hl
  have HRR := hid hR
  have HV0 : Hid (r.val = .agg #[.int .i64 r.k, .int .i64 r.e, .int .i64 r.w, .int .i64 r.n, .int .i64 r.q, .string r.t, .int .i64 r.p.s0, .int .i64 r.p.s1, .int .i64 r.p.s2, .int .i64 r.p.s3, .int .i64 r.p.s4, .int .i64 r.p.s5, .int .i64 r.p.s6, .int .i64 r.p.s7, .int .i64 r.p.s8, .int .i64 r.p.s9, .int .i64 r.p.s10, .int .i64 r.p.s11]) := rfl
  rw [HV0.out] at hm
  have HM := hid hm
  clear h hr hcf hl hR hm
  have HV : Hid (r.val = .agg #[.int .i64 r.k, .int .i64 r.e, .int .i64 r.w, .int .i64 r.n, .int .i64 r.q, .string r.t, .int .i64 r.p.s0, .int .i64 r.p.s1, .int .i64 r.p.s2, .int .i64 r.p.s3, .int .i64 r.p.s4, .int .i64 r.p.s5, .int .i64 r.p.s6, .int .i64 r.p.s7, .int .i64 r.p.s8, .int .i64 r.p.s9, .int .i64 r.p.s10, .int .i64 r.p.s11]) := rfl
  rw [HV.out]
  go_enter Tryz.func22, Tryz.ntmps22
  go_upto_region 1 with fail
  (obtain ⟨b3, hbb3⟩ : ∃ q, q = w.heap.size := ⟨_, rfl⟩); (obtain ⟨w1, hww1⟩ : ∃ q, q = w.alloc (.cells #[.int .i64 r.k, .int .i64 r.e, .int .i64 r.w, .int .i64 r.n, .int .i64 r.q, .string r.t, .int .i64 r.p.s0, .int .i64 r.p.s1, .int .i64 r.p.s2, .int .i64 r.p.s3, .int .i64 r.p.s4, .int .i64 r.p.s5, .int .i64 r.p.s6, .int .i64 r.p.s7, .int .i64 r.p.s8, .int .i64 r.p.s9, .int .i64 r.p.s10, .int .i64 r.p.s11] 37) := ⟨_, rfl⟩); have hn := new1 w (.cells #[.int .i64 r.k, .int .i64 r.e, .int .i64 r.w, .int .i64 r.n, .int .i64 r.q, .string r.t, .int .i64 r.p.s0, .int .i64 r.p.s1, .int .i64 r.p.s2, .int .i64 r.p.s3, .int .i64 r.p.s4, .int .i64 r.p.s5, .int .i64 r.p.s6, .int .i64 r.p.s7, .int .i64 r.p.s8, .int .i64 r.p.s9, .int .i64 r.p.s10, .int .i64 r.p.s11] 37); have hf := (Frm.refl M0 w).alloc (.cells #[.int .i64 r.k, .int .i64 r.e, .int .i64 r.w, .int .i64 r.n, .int .i64 r.q, .string r.t, .int .i64 r.p.s0, .int .i64 r.p.s1, .int .i64 r.p.s2, .int .i64 r.p.s3, .int .i64 r.p.s4, .int .i64 r.p.s5, .int .i64 r.p.s6, .int .i64 r.p.s7, .int .i64 r.p.s8, .int .i64 r.p.s9, .int .i64 r.p.s10, .int .i64 r.p.s11] 37); rw [← hww1] at hn hf ⊢; rw [← hbb3] at hn ⊢; clear hww1
  have HB1 := hid (HB.out.frm0 hf)
  have HF1 := hid hf
  have H3 := hid hn
  clear hn hf hbb3
  go_wp2_with (refine wpList_load_row_w (by kernel_rfl) 37 (.tmp 3) (by with_reducible rfl) b3 (by kernel_rfl) _ _ _ _ H3.out Tryz.underlying37 rfl (by kernel_rfl) ?_)
  refine (HV0.out ▸ right_calls r w1).mono ?_
  rintro _ w2 ⟨rfl, hf⟩
  rw [HRT.out]
  have HF2 := hid (HF1.out.then0 hf)
  have HB2 := hid (HB1.out.frm0 hf)
  have H32 := hid (hf.heap H3.out (fun h => h))
  clear hf
  go_upto_region 3 with fail
  by_cases h1 : r.k = 1
  · have hA : A = R := by rw [← HRR.out, if_neg (fun h => h.1 h1)]
    subst hA
    have e1 := bne_no h1
    clear h1 HRR
    apply wp_region_G 13 (fun _ => none) (valsL (_ :: _ :: _ :: _ :: _ :: _ :: _ :: _ :: _ :: _ :: _ :: _ :: _ :: [])) ?hm1 ?hB1 ?hal1 ?main1
    case hm1 => kernel_rfl
    case hB1 => kernel_rfl
    case hal1 =>
      intro i o obj ho hi
      cases hi
    rotate_left 13
    intro ops QT HO HQ
    obtain ⟨ho0, HO⟩ := HO
    refine wpG_v ho0.out rfl ?_ ?_
    · simp only [valsL_zero, valsL_succ]; apply FY_in rfl; intro wx hx
      go_simp
      exact ⟨rfl, rfl⟩
    simp only [Act.put, List.setIfInBounds_toArray, List.set_cons_zero, List.set_cons_succ, valsL_zero, valsL_succ]
    obtain ⟨ho1, HO⟩ := HO
    refine wpG_v ho1.out rfl ?_ ?_
    · simp only [valsL_zero, valsL_succ]; apply FY_in rfl; intro wx hx
      have hc0 := sb_cell (hx.heap H32.out (fun h => h))
      have hz0 := (HB2.out.frm0 hx).c2
      go_simp
      exact ⟨rfl, rfl⟩
    simp only [Act.put, List.setIfInBounds_toArray, List.set_cons_zero, List.set_cons_succ, valsL_zero, valsL_succ]
    obtain ⟨ho2, HO⟩ := HO
    refine wpG_v ho2.out rfl ?_ ?_
    · simp only [valsL_zero, valsL_succ]; apply FY_in rfl; intro wx hx
      go_simp
      exact ⟨rfl, rfl⟩
    simp only [Act.put, List.setIfInBounds_toArray, List.set_cons_zero, List.set_cons_succ, valsL_zero, valsL_succ]
    obtain ⟨ho3, HO⟩ := HO
    refine wpG_v ho3.out rfl ?_ ?_
    · simp only [valsL_zero, valsL_succ]; apply FY_in rfl; intro wx hx
      go_simp
      exact ⟨rfl, rfl⟩
    simp only [Act.put, List.setIfInBounds_toArray, List.set_cons_zero, List.set_cons_succ, valsL_zero, valsL_succ]
    obtain ⟨ho4, HO⟩ := HO
    refine wpG_v ho4.out rfl ?_ ?_
    · simp only [valsL_zero, valsL_succ]; exact FY_no (d := 17) rfl ho3.out (by rfl) (by kernel_rfl)
    simp only [Act.put, List.setIfInBounds_toArray, List.set_cons_zero, List.set_cons_succ, valsL_zero, valsL_succ]
    obtain ⟨ho5, HO⟩ := HO
    refine wpG_v ho5.out rfl ?_ ?_
    · simp only [valsL_zero, valsL_succ]; exact FY_no (d := 17) rfl ho3.out (by rfl) (by kernel_rfl)
    simp only [Act.put, List.setIfInBounds_toArray, List.set_cons_zero, List.set_cons_succ, valsL_zero, valsL_succ]
    obtain ⟨ho6, HO⟩ := HO
    refine wpG_v ho6.out rfl ?_ ?_
    · simp only [valsL_zero, valsL_succ]; exact FY_no (d := 17) rfl ho3.out (by rfl) (by kernel_rfl)
    simp only [Act.put, List.setIfInBounds_toArray, List.set_cons_zero, List.set_cons_succ, valsL_zero, valsL_succ]
    obtain ⟨ho7, HO⟩ := HO
    refine wpG_v ho7.out rfl ?_ ?_
    · simp only [valsL_zero, valsL_succ]; exact FY_no (d := 17) rfl ho3.out (by rfl) (by kernel_rfl)
    simp only [Act.put, List.setIfInBounds_toArray, List.set_cons_zero, List.set_cons_succ, valsL_zero, valsL_succ]
    obtain ⟨ho8, HO⟩ := HO
    refine wpG_v ho8.out rfl ?_ ?_
    · simp only [valsL_zero, valsL_succ]; exact FY_no (d := 17) rfl ho3.out (by rfl) (by kernel_rfl)
    simp only [Act.put, List.setIfInBounds_toArray, List.set_cons_zero, List.set_cons_succ, valsL_zero, valsL_succ]
    obtain ⟨ho9, HO⟩ := HO
    refine wpG_v ho9.out rfl ?_ ?_
    · simp only [valsL_zero, valsL_succ]; exact FY_no (d := 17) rfl ho3.out (by rfl) (by kernel_rfl)
    simp only [Act.put, List.setIfInBounds_toArray, List.set_cons_zero, List.set_cons_succ, valsL_zero, valsL_succ]
    obtain ⟨ho10, HO⟩ := HO
    refine wpG_v ho10.out rfl ?_ ?_
    · simp only [valsL_zero, valsL_succ]; exact FY_no (d := 17) rfl ho3.out (by rfl) (by kernel_rfl)
    simp only [Act.put, List.setIfInBounds_toArray, List.set_cons_zero, List.set_cons_succ, valsL_zero, valsL_succ]
    obtain ⟨ho11, HO⟩ := HO
    refine wpG_v ho11.out rfl ?_ ?_
    · simp only [valsL_zero, valsL_succ]; exact FY_no (d := 17) rfl ho3.out (by rfl) (by kernel_rfl)
    simp only [Act.put, List.setIfInBounds_toArray, List.set_cons_zero, List.set_cons_succ, valsL_zero, valsL_succ]
    obtain ⟨ho12, HO⟩ := HO
    refine wpG_v ho12.out rfl ?_ ?_
    · simp only [valsL_zero, valsL_succ]; apply FY_in rfl; intro wx hx
      go_simp
      exact ⟨rfl, rfl⟩
    simp only [Act.put, List.setIfInBounds_toArray, List.set_cons_zero, List.set_cons_succ, valsL_zero, valsL_succ]
    refine HQ.out _ _ ?_
    intro w3 hf hE hN
    simp only [List.drop_succ_cons, List.drop_zero]
    clear HQ HO hE hN ho0 ho1 ho2 ho3 ho4 ho5 ho6 ho7 ho8 ho9 ho10 ho11 ho12
    have HF3 := hid (HF2.out.then0 hf)
    have HB3 := hid (HB2.out.frm0 hf)
    have H33 := hid (hf.heap H32.out (fun h => h))
    clear hf e1
    go_upto_region 5 with fail
    apply wp_region_S [0, 3] (valsL (undef :: _ :: _ :: undef :: _ :: (.agg #[.int .i64 r.k, .int .i64 r.e, .int .i64 r.w, .int .i64 r.n, .int .i64 r.q, .string r.t, .int .i64 r.p.s0, .int .i64 r.p.s1, .int .i64 r.p.s2, .int .i64 r.p.s3, .int .i64 r.p.s4, .int .i64 r.p.s5, .int .i64 r.p.s6, .int .i64 r.p.s7, .int .i64 r.p.s8, .int .i64 r.p.s9, .int .i64 r.p.s10, .int .i64 r.p.s11]) :: _ :: _ :: [])) (fun _ => 2) (fun _ => fun wx => Frm M0 w3 wx) (fun i u => i = 3 → u = fnv fn #[]) (fun c E wx => Frm M0 w3 wx ∧ (c = 1 → ∃ Bm, E 0 = .map (some Bm) ∧ wx.heap[Bm]? = some (imapO chkL))) ?hm2 ?hB2 ?hU2 ?hI2 ?hG2 ?hZ2 ?main2
    case hm2 => kernel_rfl
    case hB2 => kernel_rfl
    case hU2 =>
      exact fun _ => ⟨fnv fn #[], fun _ => rfl⟩
    case hI2 =>
      exact fun c E wx hc hj _ _ => (fun c E wx hc hj => hj.1) c E wx hc hj
    case hG2 =>
      exact fun c E wx wy hc hj hf => ⟨hj.1.then0 hf, fun h => by obtain ⟨Bm, h1, h2⟩ := hj.2 h; exact ⟨Bm, h1, hf.heap h2 (fun h => h)⟩⟩
    case hZ2 =>
      exact fun wx hf => ⟨hf, fun h => by cases h⟩
    rotate_left 5
    intro ops QT HO HQ
    obtain ⟨ho0, HO⟩ := HO
    refine wpS_W (c := 0) ho0.out rfl (FW_in rfl fun wx hx => ?_) fun u0 g0 => ?_
    · go_simp
      exact (checks_calls wx).mono (fun e w' h => by obtain ⟨Bm, rfl, hh, _, hf⟩ := h; exact ⟨_, rfl, hx.1.then0 hf, Bm, rfl, hh⟩)
    simp only [Act.put, List.setIfInBounds_toArray, List.set_cons_zero, List.set_cons_succ, valsL_zero, valsL_succ]
    obtain ⟨ho1, HO⟩ := HO
    refine wpS_V ho1.out rfl ?_ ?_
    · simp only [valsL_zero, valsL_succ]; apply FI_in rfl; intro wx hx
      go_simp
      exact ⟨rfl, rfl⟩
    simp only [Act.put, List.setIfInBounds_toArray, List.set_cons_zero, List.set_cons_succ, valsL_zero, valsL_succ]
    obtain ⟨ho2, HO⟩ := HO
    refine wpS_V ho2.out rfl ?_ ?_
    · simp only [valsL_zero, valsL_succ]; apply FI_in rfl; intro wx hx
      have hc0 := sb_cell (hx.heap H33.out (fun h => h))
      go_simp
      exact ⟨rfl, rfl⟩
    simp only [Act.put, List.setIfInBounds_toArray, List.set_cons_zero, List.set_cons_succ, valsL_zero, valsL_succ]
    obtain ⟨ho3, HO⟩ := HO
    refine wpS_W (c := 1) ho3.out rfl (FW_in rfl fun wx hx => ?_) fun u3 g3 => ?_
    · obtain ⟨Bm, hB, hh⟩ := hx.2 rfl
      have hB : u0 = .map (some Bm) := hB
      subst hB
      have hl := look_hit (P := Tryz.prog) (T := 97) Tryz.underlying97 Tryz.underlying3 hh r.k _ HL.out false
      go_simp
      exact ⟨rfl, hx.1⟩
    obtain rfl := g3 rfl
    simp only [Act.put, List.setIfInBounds_toArray, List.set_cons_zero, List.set_cons_succ, valsL_zero, valsL_succ]
    obtain ⟨ho4, HO⟩ := HO
    refine wpS_V ho4.out rfl ?_ ?_
    · simp only [valsL_zero, valsL_succ]; apply FI_in rfl; intro wx hx
      go_simp
      exact ⟨rfl, rfl⟩
    simp only [Act.put, List.setIfInBounds_toArray, List.set_cons_zero, List.set_cons_succ, valsL_zero, valsL_succ]
    obtain ⟨ho5, HO⟩ := HO
    refine wpS_V ho5.out rfl ?_ ?_
    · simp only [valsL_zero, valsL_succ]; apply FI_in rfl; intro wx hx
      exact fu_load_row_g 37 (.tmp 3) rfl (b3) (by kernel_rfl) _ _ _ _ (hx.heap H33.out (fun h => h)) Tryz.underlying37 rfl (by kernel_rfl)
    simp only [Act.put, List.setIfInBounds_toArray, List.set_cons_zero, List.set_cons_succ, valsL_zero, valsL_succ]
    obtain ⟨ho6, HO⟩ := HO
    refine wpS_V ho6.out rfl ?_ ?_
    · simp only [valsL_zero, valsL_succ]; apply FI_in rfl; intro wx hx
      have hcf := HCF.out
      go_simp
      exact ⟨rfl, HM.out _ (HF3.out.then0 hx)⟩
    simp only [Act.put, List.setIfInBounds_toArray, List.set_cons_zero, List.set_cons_succ, valsL_zero, valsL_succ]
    obtain ⟨ho7, HO⟩ := HO
    refine wpS_V ho7.out rfl ?_ ?_
    · simp only [valsL_zero, valsL_succ]; apply FI_in rfl; intro wx hx
      go_simp
      exact ⟨rfl, rfl⟩
    simp only [Act.put, List.setIfInBounds_toArray, List.set_cons_zero, List.set_cons_succ, valsL_zero, valsL_succ]
    refine HQ.out _ _ ?_
    intro w4 hj
    clear HQ HO ho0 ho1 ho2 ho3 ho4 ho5 ho6 ho7
    have HF4 := hid (HF3.out.then0 hj.1)
    clear hj
    go_wp2_with fail
    go_ret
    exact ⟨rfl, HF4.out⟩
  · have e1 := bne_yes h1
    by_cases h2 : r.e = B.w.epoch
    · have hA : A = R := by rw [← HRR.out, if_neg (fun h => h.2 h2)]
      subst hA
      have e2 := bne_no h2
      clear h1 h2 HRR
      apply wp_region_G 13 (fun _ => none) (valsL (_ :: _ :: _ :: _ :: _ :: _ :: _ :: _ :: _ :: _ :: _ :: _ :: _ :: [])) ?hm3 ?hB3 ?hal3 ?main3
      case hm3 => kernel_rfl
      case hB3 => kernel_rfl
      case hal3 =>
        intro i o obj ho hi
        cases hi
      rotate_left 13
      intro ops QT HO HQ
      obtain ⟨ho0, HO⟩ := HO
      refine wpG_v ho0.out rfl ?_ ?_
      · simp only [valsL_zero, valsL_succ]; apply FY_in rfl; intro wx hx
        go_simp
        exact ⟨rfl, rfl⟩
      simp only [Act.put, List.setIfInBounds_toArray, List.set_cons_zero, List.set_cons_succ, valsL_zero, valsL_succ]
      obtain ⟨ho1, HO⟩ := HO
      refine wpG_v ho1.out rfl ?_ ?_
      · simp only [valsL_zero, valsL_succ]; apply FY_in rfl; intro wx hx
        have hc0 := sb_cell (hx.heap H32.out (fun h => h))
        have hz0 := (HB2.out.frm0 hx).c2
        go_simp
        exact ⟨rfl, rfl⟩
      simp only [Act.put, List.setIfInBounds_toArray, List.set_cons_zero, List.set_cons_succ, valsL_zero, valsL_succ]
      obtain ⟨ho2, HO⟩ := HO
      refine wpG_v ho2.out rfl ?_ ?_
      · simp only [valsL_zero, valsL_succ]; apply FY_in rfl; intro wx hx
        go_simp
        exact ⟨rfl, rfl⟩
      simp only [Act.put, List.setIfInBounds_toArray, List.set_cons_zero, List.set_cons_succ, valsL_zero, valsL_succ]
      obtain ⟨ho3, HO⟩ := HO
      refine wpG_v ho3.out rfl ?_ ?_
      · simp only [valsL_zero, valsL_succ]; apply FY_in rfl; intro wx hx
        go_simp
        exact ⟨rfl, rfl⟩
      simp only [Act.put, List.setIfInBounds_toArray, List.set_cons_zero, List.set_cons_succ, valsL_zero, valsL_succ]
      obtain ⟨ho4, HO⟩ := HO
      refine wpG_v ho4.out rfl ?_ ?_
      · simp only [valsL_zero, valsL_succ]; apply FY_yes (d := 17) rfl ho3.out (by rfl) (by kernel_rfl); intro wx hx
        go_simp
        exact ⟨rfl, rfl⟩
      simp only [Act.put, List.setIfInBounds_toArray, List.set_cons_zero, List.set_cons_succ, valsL_zero, valsL_succ]
      obtain ⟨ho5, HO⟩ := HO
      refine wpG_v ho5.out rfl ?_ ?_
      · simp only [valsL_zero, valsL_succ]; apply FY_yes (d := 17) rfl ho3.out (by rfl) (by kernel_rfl); intro wx hx
        have hc0 := sb_cell (hx.heap H32.out (fun h => h))
        have hz0 := (HB2.out.frm0 hx).c2
        go_simp
        exact ⟨rfl, rfl⟩
      simp only [Act.put, List.setIfInBounds_toArray, List.set_cons_zero, List.set_cons_succ, valsL_zero, valsL_succ]
      obtain ⟨ho6, HO⟩ := HO
      refine wpG_v ho6.out rfl ?_ ?_
      · simp only [valsL_zero, valsL_succ]; apply FY_yes (d := 17) rfl ho3.out (by rfl) (by kernel_rfl); intro wx hx
        go_simp
        exact ⟨rfl, rfl⟩
      simp only [Act.put, List.setIfInBounds_toArray, List.set_cons_zero, List.set_cons_succ, valsL_zero, valsL_succ]
      obtain ⟨ho7, HO⟩ := HO
      refine wpG_v ho7.out rfl ?_ ?_
      · simp only [valsL_zero, valsL_succ]; apply FY_yes (d := 17) rfl ho3.out (by rfl) (by kernel_rfl); intro wx hx
        go_simp
        exact ⟨rfl, rfl⟩
      simp only [Act.put, List.setIfInBounds_toArray, List.set_cons_zero, List.set_cons_succ, valsL_zero, valsL_succ]
      obtain ⟨ho8, HO⟩ := HO
      refine wpG_v ho8.out rfl ?_ ?_
      · simp only [valsL_zero, valsL_succ]; apply FY_yes (d := 17) rfl ho3.out (by rfl) (by kernel_rfl); intro wx hx
        go_simp
        exact ⟨rfl, rfl⟩
      simp only [Act.put, List.setIfInBounds_toArray, List.set_cons_zero, List.set_cons_succ, valsL_zero, valsL_succ]
      obtain ⟨ho9, HO⟩ := HO
      refine wpG_v ho9.out rfl ?_ ?_
      · simp only [valsL_zero, valsL_succ]; apply FY_yes (d := 17) rfl ho3.out (by rfl) (by kernel_rfl); intro wx hx
        go_simp
        exact ⟨rfl, rfl⟩
      simp only [Act.put, List.setIfInBounds_toArray, List.set_cons_zero, List.set_cons_succ, valsL_zero, valsL_succ]
      obtain ⟨ho10, HO⟩ := HO
      refine wpG_v ho10.out rfl ?_ ?_
      · simp only [valsL_zero, valsL_succ]; apply FY_yes (d := 17) rfl ho3.out (by rfl) (by kernel_rfl); intro wx hx
        have hc0 := sb_cell (hx.heap H32.out (fun h => h))
        have hz0 := (HB2.out.frm0 hx).c2
        go_simp
        exact ⟨rfl, rfl⟩
      simp only [Act.put, List.setIfInBounds_toArray, List.set_cons_zero, List.set_cons_succ, valsL_zero, valsL_succ]
      obtain ⟨ho11, HO⟩ := HO
      refine wpG_v ho11.out rfl ?_ ?_
      · simp only [valsL_zero, valsL_succ]; apply FY_yes (d := 17) rfl ho3.out (by rfl) (by kernel_rfl); intro wx hx
        go_simp
        exact ⟨rfl, rfl⟩
      simp only [Act.put, List.setIfInBounds_toArray, List.set_cons_zero, List.set_cons_succ, valsL_zero, valsL_succ]
      obtain ⟨ho12, HO⟩ := HO
      refine wpG_v ho12.out rfl ?_ ?_
      · simp only [valsL_zero, valsL_succ]; apply FY_in rfl; intro wx hx
        go_simp
        exact ⟨rfl, rfl⟩
      simp only [Act.put, List.setIfInBounds_toArray, List.set_cons_zero, List.set_cons_succ, valsL_zero, valsL_succ]
      refine HQ.out _ _ ?_
      intro w3 hf hE hN
      simp only [List.drop_succ_cons, List.drop_zero]
      clear HQ HO hE hN ho0 ho1 ho2 ho3 ho4 ho5 ho6 ho7 ho8 ho9 ho10 ho11 ho12
      have HF3 := hid (HF2.out.then0 hf)
      have HB3 := hid (HB2.out.frm0 hf)
      have H33 := hid (hf.heap H32.out (fun h => h))
      clear hf e1 e2
      go_upto_region 5 with fail
      apply wp_region_S [0, 3] (valsL (undef :: _ :: _ :: undef :: _ :: (.agg #[.int .i64 r.k, .int .i64 r.e, .int .i64 r.w, .int .i64 r.n, .int .i64 r.q, .string r.t, .int .i64 r.p.s0, .int .i64 r.p.s1, .int .i64 r.p.s2, .int .i64 r.p.s3, .int .i64 r.p.s4, .int .i64 r.p.s5, .int .i64 r.p.s6, .int .i64 r.p.s7, .int .i64 r.p.s8, .int .i64 r.p.s9, .int .i64 r.p.s10, .int .i64 r.p.s11]) :: _ :: _ :: [])) (fun _ => 2) (fun _ => fun wx => Frm M0 w3 wx) (fun i u => i = 3 → u = fnv fn #[]) (fun c E wx => Frm M0 w3 wx ∧ (c = 1 → ∃ Bm, E 0 = .map (some Bm) ∧ wx.heap[Bm]? = some (imapO chkL))) ?hm4 ?hB4 ?hU4 ?hI4 ?hG4 ?hZ4 ?main4
      case hm4 => kernel_rfl
      case hB4 => kernel_rfl
      case hU4 =>
        exact fun _ => ⟨fnv fn #[], fun _ => rfl⟩
      case hI4 =>
        exact fun c E wx hc hj _ _ => (fun c E wx hc hj => hj.1) c E wx hc hj
      case hG4 =>
        exact fun c E wx wy hc hj hf => ⟨hj.1.then0 hf, fun h => by obtain ⟨Bm, h1, h2⟩ := hj.2 h; exact ⟨Bm, h1, hf.heap h2 (fun h => h)⟩⟩
      case hZ4 =>
        exact fun wx hf => ⟨hf, fun h => by cases h⟩
      rotate_left 5
      intro ops QT HO HQ
      obtain ⟨ho0, HO⟩ := HO
      refine wpS_W (c := 0) ho0.out rfl (FW_in rfl fun wx hx => ?_) fun u0 g0 => ?_
      · go_simp
        exact (checks_calls wx).mono (fun e w' h => by obtain ⟨Bm, rfl, hh, _, hf⟩ := h; exact ⟨_, rfl, hx.1.then0 hf, Bm, rfl, hh⟩)
      simp only [Act.put, List.setIfInBounds_toArray, List.set_cons_zero, List.set_cons_succ, valsL_zero, valsL_succ]
      obtain ⟨ho1, HO⟩ := HO
      refine wpS_V ho1.out rfl ?_ ?_
      · simp only [valsL_zero, valsL_succ]; apply FI_in rfl; intro wx hx
        go_simp
        exact ⟨rfl, rfl⟩
      simp only [Act.put, List.setIfInBounds_toArray, List.set_cons_zero, List.set_cons_succ, valsL_zero, valsL_succ]
      obtain ⟨ho2, HO⟩ := HO
      refine wpS_V ho2.out rfl ?_ ?_
      · simp only [valsL_zero, valsL_succ]; apply FI_in rfl; intro wx hx
        have hc0 := sb_cell (hx.heap H33.out (fun h => h))
        go_simp
        exact ⟨rfl, rfl⟩
      simp only [Act.put, List.setIfInBounds_toArray, List.set_cons_zero, List.set_cons_succ, valsL_zero, valsL_succ]
      obtain ⟨ho3, HO⟩ := HO
      refine wpS_W (c := 1) ho3.out rfl (FW_in rfl fun wx hx => ?_) fun u3 g3 => ?_
      · obtain ⟨Bm, hB, hh⟩ := hx.2 rfl
        have hB : u0 = .map (some Bm) := hB
        subst hB
        have hl := look_hit (P := Tryz.prog) (T := 97) Tryz.underlying97 Tryz.underlying3 hh r.k _ HL.out false
        go_simp
        exact ⟨rfl, hx.1⟩
      obtain rfl := g3 rfl
      simp only [Act.put, List.setIfInBounds_toArray, List.set_cons_zero, List.set_cons_succ, valsL_zero, valsL_succ]
      obtain ⟨ho4, HO⟩ := HO
      refine wpS_V ho4.out rfl ?_ ?_
      · simp only [valsL_zero, valsL_succ]; apply FI_in rfl; intro wx hx
        go_simp
        exact ⟨rfl, rfl⟩
      simp only [Act.put, List.setIfInBounds_toArray, List.set_cons_zero, List.set_cons_succ, valsL_zero, valsL_succ]
      obtain ⟨ho5, HO⟩ := HO
      refine wpS_V ho5.out rfl ?_ ?_
      · simp only [valsL_zero, valsL_succ]; apply FI_in rfl; intro wx hx
        exact fu_load_row_g 37 (.tmp 3) rfl (b3) (by kernel_rfl) _ _ _ _ (hx.heap H33.out (fun h => h)) Tryz.underlying37 rfl (by kernel_rfl)
      simp only [Act.put, List.setIfInBounds_toArray, List.set_cons_zero, List.set_cons_succ, valsL_zero, valsL_succ]
      obtain ⟨ho6, HO⟩ := HO
      refine wpS_V ho6.out rfl ?_ ?_
      · simp only [valsL_zero, valsL_succ]; apply FI_in rfl; intro wx hx
        have hcf := HCF.out
        go_simp
        exact ⟨rfl, HM.out _ (HF3.out.then0 hx)⟩
      simp only [Act.put, List.setIfInBounds_toArray, List.set_cons_zero, List.set_cons_succ, valsL_zero, valsL_succ]
      obtain ⟨ho7, HO⟩ := HO
      refine wpS_V ho7.out rfl ?_ ?_
      · simp only [valsL_zero, valsL_succ]; apply FI_in rfl; intro wx hx
        go_simp
        exact ⟨rfl, rfl⟩
      simp only [Act.put, List.setIfInBounds_toArray, List.set_cons_zero, List.set_cons_succ, valsL_zero, valsL_succ]
      refine HQ.out _ _ ?_
      intro w4 hj
      clear HQ HO ho0 ho1 ho2 ho3 ho4 ho5 ho6 ho7
      have HF4 := hid (HF3.out.then0 hj.1)
      clear hj
      go_wp2_with fail
      go_ret
      exact ⟨rfl, HF4.out⟩
    · have hA : 8 = R := by rw [← HRR.out, if_pos ⟨h1, h2⟩]
      subst hA
      have e2 := bne_yes h2
      clear h1 h2 HRR
      apply wp_region_G 13 (fun _ => none) (valsL (_ :: _ :: _ :: _ :: _ :: _ :: _ :: _ :: _ :: _ :: _ :: _ :: _ :: [])) ?hm5 ?hB5 ?hal5 ?main5
      case hm5 => kernel_rfl
      case hB5 => kernel_rfl
      case hal5 =>
        intro i o obj ho hi
        cases hi
      rotate_left 13
      intro ops QT HO HQ
      obtain ⟨ho0, HO⟩ := HO
      refine wpG_v ho0.out rfl ?_ ?_
      · simp only [valsL_zero, valsL_succ]; apply FY_in rfl; intro wx hx
        go_simp
        exact ⟨rfl, rfl⟩
      simp only [Act.put, List.setIfInBounds_toArray, List.set_cons_zero, List.set_cons_succ, valsL_zero, valsL_succ]
      obtain ⟨ho1, HO⟩ := HO
      refine wpG_v ho1.out rfl ?_ ?_
      · simp only [valsL_zero, valsL_succ]; apply FY_in rfl; intro wx hx
        have hc0 := sb_cell (hx.heap H32.out (fun h => h))
        have hz0 := (HB2.out.frm0 hx).c2
        go_simp
        exact ⟨rfl, rfl⟩
      simp only [Act.put, List.setIfInBounds_toArray, List.set_cons_zero, List.set_cons_succ, valsL_zero, valsL_succ]
      obtain ⟨ho2, HO⟩ := HO
      refine wpG_v ho2.out rfl ?_ ?_
      · simp only [valsL_zero, valsL_succ]; apply FY_in rfl; intro wx hx
        go_simp
        exact ⟨rfl, rfl⟩
      simp only [Act.put, List.setIfInBounds_toArray, List.set_cons_zero, List.set_cons_succ, valsL_zero, valsL_succ]
      obtain ⟨ho3, HO⟩ := HO
      refine wpG_v ho3.out rfl ?_ ?_
      · simp only [valsL_zero, valsL_succ]; apply FY_in rfl; intro wx hx
        go_simp
        exact ⟨rfl, rfl⟩
      simp only [Act.put, List.setIfInBounds_toArray, List.set_cons_zero, List.set_cons_succ, valsL_zero, valsL_succ]
      obtain ⟨ho4, HO⟩ := HO
      refine wpG_v ho4.out rfl ?_ ?_
      · simp only [valsL_zero, valsL_succ]; apply FY_yes (d := 17) rfl ho3.out (by rfl) (by kernel_rfl); intro wx hx
        go_simp
        exact ⟨rfl, rfl⟩
      simp only [Act.put, List.setIfInBounds_toArray, List.set_cons_zero, List.set_cons_succ, valsL_zero, valsL_succ]
      obtain ⟨ho5, HO⟩ := HO
      refine wpG_v ho5.out rfl ?_ ?_
      · simp only [valsL_zero, valsL_succ]; apply FY_yes (d := 17) rfl ho3.out (by rfl) (by kernel_rfl); intro wx hx
        have hc0 := sb_cell (hx.heap H32.out (fun h => h))
        have hz0 := (HB2.out.frm0 hx).c2
        go_simp
        exact ⟨rfl, rfl⟩
      simp only [Act.put, List.setIfInBounds_toArray, List.set_cons_zero, List.set_cons_succ, valsL_zero, valsL_succ]
      obtain ⟨ho6, HO⟩ := HO
      refine wpG_v ho6.out rfl ?_ ?_
      · simp only [valsL_zero, valsL_succ]; apply FY_yes (d := 17) rfl ho3.out (by rfl) (by kernel_rfl); intro wx hx
        go_simp
        exact ⟨rfl, rfl⟩
      simp only [Act.put, List.setIfInBounds_toArray, List.set_cons_zero, List.set_cons_succ, valsL_zero, valsL_succ]
      obtain ⟨ho7, HO⟩ := HO
      refine wpG_v ho7.out rfl ?_ ?_
      · simp only [valsL_zero, valsL_succ]; apply FY_yes (d := 17) rfl ho3.out (by rfl) (by kernel_rfl); intro wx hx
        go_simp
        exact ⟨rfl, rfl⟩
      simp only [Act.put, List.setIfInBounds_toArray, List.set_cons_zero, List.set_cons_succ, valsL_zero, valsL_succ]
      obtain ⟨ho8, HO⟩ := HO
      refine wpG_v ho8.out rfl ?_ ?_
      · simp only [valsL_zero, valsL_succ]; apply FY_yes (d := 17) rfl ho3.out (by rfl) (by kernel_rfl); intro wx hx
        go_simp
        exact ⟨rfl, rfl⟩
      simp only [Act.put, List.setIfInBounds_toArray, List.set_cons_zero, List.set_cons_succ, valsL_zero, valsL_succ]
      obtain ⟨ho9, HO⟩ := HO
      refine wpG_v ho9.out rfl ?_ ?_
      · simp only [valsL_zero, valsL_succ]; apply FY_yes (d := 17) rfl ho3.out (by rfl) (by kernel_rfl); intro wx hx
        go_simp
        exact ⟨rfl, rfl⟩
      simp only [Act.put, List.setIfInBounds_toArray, List.set_cons_zero, List.set_cons_succ, valsL_zero, valsL_succ]
      obtain ⟨ho10, HO⟩ := HO
      refine wpG_v ho10.out rfl ?_ ?_
      · simp only [valsL_zero, valsL_succ]; apply FY_yes (d := 17) rfl ho3.out (by rfl) (by kernel_rfl); intro wx hx
        have hc0 := sb_cell (hx.heap H32.out (fun h => h))
        have hz0 := (HB2.out.frm0 hx).c2
        go_simp
        exact ⟨rfl, rfl⟩
      simp only [Act.put, List.setIfInBounds_toArray, List.set_cons_zero, List.set_cons_succ, valsL_zero, valsL_succ]
      obtain ⟨ho11, HO⟩ := HO
      refine wpG_v ho11.out rfl ?_ ?_
      · simp only [valsL_zero, valsL_succ]; apply FY_yes (d := 17) rfl ho3.out (by rfl) (by kernel_rfl); intro wx hx
        go_simp
        exact ⟨rfl, rfl⟩
      simp only [Act.put, List.setIfInBounds_toArray, List.set_cons_zero, List.set_cons_succ, valsL_zero, valsL_succ]
      obtain ⟨ho12, HO⟩ := HO
      refine wpG_v ho12.out rfl ?_ ?_
      · simp only [valsL_zero, valsL_succ]; apply FY_in rfl; intro wx hx
        go_simp
        exact ⟨rfl, rfl⟩
      simp only [Act.put, List.setIfInBounds_toArray, List.set_cons_zero, List.set_cons_succ, valsL_zero, valsL_succ]
      refine HQ.out _ _ ?_
      intro w3 hf hE hN
      simp only [List.drop_succ_cons, List.drop_zero]
      clear HQ HO hE hN ho0 ho1 ho2 ho3 ho4 ho5 ho6 ho7 ho8 ho9 ho10 ho11 ho12
      have HF3 := hid (HF2.out.then0 hf)
      clear hf e1 e2
      go_wp2_with fail
      go_ret
      exact ⟨rfl, HF3.out⟩
set_option maxRecDepth 20000 in
set_option maxHeartbeats 4000000 in
theorem bcheck_bad (b : Nat) (p : BkP) (B : Bk) (r : Rc) (w : World) (h : BkAt w b p B) (hr : rightB r = false) :
    Calls Tryz.prog 22 #[bp b, r.val] w fun x w' => x = .returned (.int .i64 1) ∧ Frm M0 w w' := by
  have HB := hid h
  have HRT := hid hr
  have HV0 : Hid (r.val = .agg #[.int .i64 r.k, .int .i64 r.e, .int .i64 r.w, .int .i64 r.n, .int .i64 r.q, .string r.t, .int .i64 r.p.s0, .int .i64 r.p.s1, .int .i64 r.p.s2, .int .i64 r.p.s3, .int .i64 r.p.s4, .int .i64 r.p.s5, .int .i64 r.p.s6, .int .i64 r.p.s7, .int .i64 r.p.s8, .int .i64 r.p.s9, .int .i64 r.p.s10, .int .i64 r.p.s11]) := rfl
  clear h hr
  have HV : Hid (r.val = .agg #[.int .i64 r.k, .int .i64 r.e, .int .i64 r.w, .int .i64 r.n, .int .i64 r.q, .string r.t, .int .i64 r.p.s0, .int .i64 r.p.s1, .int .i64 r.p.s2, .int .i64 r.p.s3, .int .i64 r.p.s4, .int .i64 r.p.s5, .int .i64 r.p.s6, .int .i64 r.p.s7, .int .i64 r.p.s8, .int .i64 r.p.s9, .int .i64 r.p.s10, .int .i64 r.p.s11]) := rfl
  rw [HV.out]
  go_enter Tryz.func22, Tryz.ntmps22
  go_upto_region 1 with fail
  (obtain ⟨b3, hbb3⟩ : ∃ q, q = w.heap.size := ⟨_, rfl⟩); (obtain ⟨w1, hww1⟩ : ∃ q, q = w.alloc (.cells #[.int .i64 r.k, .int .i64 r.e, .int .i64 r.w, .int .i64 r.n, .int .i64 r.q, .string r.t, .int .i64 r.p.s0, .int .i64 r.p.s1, .int .i64 r.p.s2, .int .i64 r.p.s3, .int .i64 r.p.s4, .int .i64 r.p.s5, .int .i64 r.p.s6, .int .i64 r.p.s7, .int .i64 r.p.s8, .int .i64 r.p.s9, .int .i64 r.p.s10, .int .i64 r.p.s11] 37) := ⟨_, rfl⟩); have hn := new1 w (.cells #[.int .i64 r.k, .int .i64 r.e, .int .i64 r.w, .int .i64 r.n, .int .i64 r.q, .string r.t, .int .i64 r.p.s0, .int .i64 r.p.s1, .int .i64 r.p.s2, .int .i64 r.p.s3, .int .i64 r.p.s4, .int .i64 r.p.s5, .int .i64 r.p.s6, .int .i64 r.p.s7, .int .i64 r.p.s8, .int .i64 r.p.s9, .int .i64 r.p.s10, .int .i64 r.p.s11] 37); have hf := (Frm.refl M0 w).alloc (.cells #[.int .i64 r.k, .int .i64 r.e, .int .i64 r.w, .int .i64 r.n, .int .i64 r.q, .string r.t, .int .i64 r.p.s0, .int .i64 r.p.s1, .int .i64 r.p.s2, .int .i64 r.p.s3, .int .i64 r.p.s4, .int .i64 r.p.s5, .int .i64 r.p.s6, .int .i64 r.p.s7, .int .i64 r.p.s8, .int .i64 r.p.s9, .int .i64 r.p.s10, .int .i64 r.p.s11] 37); rw [← hww1] at hn hf ⊢; rw [← hbb3] at hn ⊢; clear hww1
  have HB1 := hid (HB.out.frm0 hf)
  have HF1 := hid hf
  have H3 := hid hn
  clear hn hf hbb3
  go_wp2_with (refine wpList_load_row_w (by kernel_rfl) 37 (.tmp 3) (by with_reducible rfl) b3 (by kernel_rfl) _ _ _ _ H3.out Tryz.underlying37 rfl (by kernel_rfl) ?_)
  refine (HV0.out ▸ right_calls r w1).mono ?_
  rintro _ w2 ⟨rfl, hf⟩
  rw [HRT.out]
  have HF2 := hid (HF1.out.then0 hf)
  clear hf
  go_wp2_with fail
  go_ret
  exact ⟨rfl, HF2.out⟩
theorem spec_bd {r : Rc} (h : rightB r = true) (hk : r.k = 3) : i64R r.p.s0 := by
  have hc := (right_facts h).2.2.2.2.2.2.2 hk
  have := nums_le2 hc r.p.s0 (by simp [Sp.nums])
  exact ⟨by omega, by omega⟩
theorem bcheck_calls (b : Nat) (p : BkP) (B : Bk) (r : Rc) (w : World) (h : BkAt w b p B) (ho : B.Ok) (hT : Tab w) :
    Calls Tryz.prog 22 #[bp b, r.val] w fun x w' => x = .returned (.int .i64 (B.check r)) ∧ Frm M0 w w' := by
  cases hr : rightB r with
  | false =>
    have e : B.check r = 1 := by unfold Bk.check; rw [if_pos hr]
    rw [e]
    exact bcheck_bad b p B r w h hr
  | true =>
    have hk := right_kind hr
    have hf := right_facts hr
    have e0 : ∀ A : Int, (if r.k = 1 then B.leadE r else if r.k = 2 then B.publishE r else if r.k = 3 then B.beginE r else if r.k = 4 then B.moveE r else if r.k = 5 then B.intentE r else if r.k = 6 then B.ackE r else B.stepE r) = A →
        (if r.k ≠ 1 ∧ r.e ≠ B.w.epoch then 8 else A) = B.check r := fun A hA => by
      unfold Bk.check
      rw [if_neg (show ¬ rightB r = false by rw [hr]; decide), hA]
    have hkk : r.k = 1 ∨ r.k = 2 ∨ r.k = 3 ∨ r.k = 4 ∨ r.k = 5 ∨ r.k = 6 ∨ r.k = 7 := by omega
    rcases hkk with hk | hk | hk | hk | hk | hk | hk
    · exact bcheck_hit b p B r w h 75 (B.leadE r) _ hr (fun _ _ => rfl) (by rw [hk]; rfl) (fun wx hx => blead_calls b p B r wx (h.frm0 hx) ho) (e0 _ (by rw [if_pos hk]))
    · exact bcheck_hit b p B r w h 76 (B.publishE r) _ hr (fun _ _ => rfl) (by rw [hk]; rfl) (fun wx hx => bpublish_calls b p B r wx (h.frm0 hx) ho (hT.frm hx) ⟨by omega, by omega⟩) (e0 _ (by rw [if_neg (by omega), if_pos hk]))
    · exact bcheck_hit b p B r w h 77 (B.beginE r) _ hr (fun _ _ => rfl) (by rw [hk]; rfl) (fun wx hx => bbegin_calls b p B r wx (h.frm0 hx) ho (hT.frm hx) (spec_bd hr hk)) (e0 _ (by rw [if_neg (by omega), if_neg (by omega), if_pos hk]))
    · exact bcheck_hit b p B r w h 78 (B.moveE r) _ hr (fun _ _ => rfl) (by rw [hk]; rfl) (fun wx hx => bmove_calls b p B r wx (h.frm0 hx)) (e0 _ (by rw [if_neg (by omega), if_neg (by omega), if_neg (by omega), if_pos hk]))
    · exact bcheck_hit b p B r w h 79 (B.intentE r) _ hr (fun _ _ => rfl) (by rw [hk]; rfl) (fun wx hx => bintent_calls b p B r wx (h.frm0 hx)) (e0 _ (by rw [if_neg (by omega), if_neg (by omega), if_neg (by omega), if_neg (by omega), if_pos hk]))
    · exact bcheck_hit b p B r w h 80 (B.ackE r) _ hr (fun _ _ => rfl) (by rw [hk]; rfl) (fun wx hx => back_calls b p B r wx (h.frm0 hx) (right_unit hr (.inr hk))) (e0 _ (by rw [if_neg (by omega), if_neg (by omega), if_neg (by omega), if_neg (by omega), if_neg (by omega), if_pos hk]))
    · exact bcheck_hit b p B r w h 81 (B.stepE r) _ hr (fun _ _ => rfl) (by rw [hk]; rfl) (fun wx hx => bstep_calls b p B r wx (h.frm0 hx)) (e0 _ (by rw [if_neg (by omega), if_neg (by omega), if_neg (by omega), if_neg (by omega), if_neg (by omega), if_neg (by omega)]))
end Go.Proofs.YtmacpdddimcmgaaGreatDoor
namespace Go.Proofs.YtmacpdddimcmgaaGreatDoor
set_option linter.unusedVariables false
set_option linter.unusedSimpArgs false
set_option maxRecDepth 20000
open Go.RowKit
theorem results0 {fn : Func} (h : fn.results = #[]) (tmps : Array Value) (P : Program) (w : World) : (results fn tmps).run P w = .ok (.tuple #[]) w := by simp [results, h]
def BJ (b : Nat) (w0 : World) (C : Nat → List Value) (c : Nat) (wx : World) : Prop :=
  Frm (fun k => k = b) w0 wx ∧ wx.heap[b]? = some (.cells (C c).toArray 76 (0, 0))
theorem BJ.grow {b : Nat} {w0 : World} {C : Nat → List Value} {c : Nat} {wx wy : World} (h : BJ b w0 C c wx) (hf : Frm M0 wx wy) : BJ b w0 C c wy := ⟨h.1.then0 hf, hf.heap h.2 (fun h => h)⟩
theorem BJ.step {b : Nat} {w0 : World} {C : Nat → List Value} {c : Nat} {wx : World} (h : BJ b w0 C c wx) (o : Nat) (v : Value) (e : (C c).set o v = C (c + 1)) : BJ b w0 C (c + 1) (wx.setCell ⟨b, o, none⟩ v) := by
  refine ⟨h.1.put b o v (fun _ => rfl), ?_⟩
  rw [heap_set_at h.2, ← e]
  congr 2
  simp
theorem BJ.cell {b : Nat} {w0 : World} {C : Nat → List Value} {c : Nat} {wx : World} (h : BJ b w0 C c wx) (o : Nat) : wx.cell? ⟨b, o, none⟩ = (C c)[o]? := by rw [sb_cell h.2, List.getElem?_toArray]
theorem BJ.free {b : Nat} {w0 : World} {C : Nat → List Value} {c : Nat} {wx : World} (h : BJ b w0 C c wx) (o : Nat) : wx.frozen? ⟨b, o, none⟩ = false := sb_free h.2 o
theorem wu_store_at {P : Program} {op : Oper} {a : Act} {wx : World} {K : Value → World → Prop} (ty : TypeId) (x y : Operand) (ho : op.op = .store ty x y)
    (g o : Nat) (hx : a.eval x = .pointer (some ⟨g, o, none⟩)) (cs : Array Value) (hy : a.eval y = .agg cs) (t : TypeId) (cur : Array Value) (hg : wx.heap[g]? = some (.cells cur t (0, 0)))
    (hi : (P.info? ty).map (·.size) = some cs.size) (hl : o + cs.size ≤ cur.size) (h1 : cs.all (·.oneCell') = true)
    (h : ∀ w', w'.heap[g]? = some (.cells (putL cur o cs.toList) t (0, 0)) → Frm (fun x => x = g) wx w' → K undef w') : WUpon P K ((execOp a.eval op).run P wx) := by
  obtain ⟨w', h2, h3, h4⟩ := run_storeCells_off (P := P) g o t cs.toList 0 cur wx hg (by simpa using hl) (fun v hv => (Array.all_eq_true_iff_forall_mem.1 h1) v (by simpa using hv))
  have hst : (storeVar ty ⟨g, o, none⟩ (.agg cs)).run P wx = .ok () w' := by
    cases hq : P.info? ty with
    | none => simp [hq] at hi
    | some i =>
      have hs : cs.size = i.size := by simp [hq] at hi; omega
      simp [storeVar, sizeOf, typeInfo, hq, Value.cells, hs, h2, Result.andThen]
  simp only [execOp, ho, hx, hy, Instr.storeAt, Instr.sureAddr, Sem.run_bind, Sem.run_pure, Result.andThen_ok, hst]
  exact h w' (by simpa using h3) h4
theorem BkAt.retab {w w' : World} {b : Nat} {p : BkP} {B : Bk} {l' : Option Ls} (h : BkAt w b p B) (hf : Frm (fun k => k = p.TB) w w') (ht : TabAt w' p.tb p.TB B.m l') : BkAt w' b p { B with l := l' } := by
  have ha := h.apart
  have ha2 := h.apart2
  refine ⟨hf.heap h.blk ha.2.1, ht, h.sto.frm hf (fun e => ha2.2.2.1 (by have e : p.sb = p.TB := e; exact e.symm)) (fun e => h.dis (by have e : p.SB = p.TB := e; exact e.symm)), h.his.frm hf (fun k hk e => (ha2.2.2.2 k hk).2.1 e), h.len, h.dis⟩
def leadW (W : Vw) (x : Ls) : Nat → Vw
  | 0 => W
  | 1 => { W with epoch := x.e }
  | 2 => { W with epoch := x.e, leader := x.h }
  | _ => { W with epoch := x.e, leader := x.h, until' := x.u }
set_option maxRecDepth 20000 in
set_option maxHeartbeats 4000000 in
theorem leads_calls (b : Nat) (p : BkP) (B : Bk) (r : Rc) (w : World) (h : BkAt w b p B) (ho : B.Ok) :
    Calls Tryz.prog 36 #[bp b, r.val] w fun x w' => x = .returned (.tuple #[]) ∧
      BkAt w' b p { B with l := B.leads r, w := leadW B.w ((B.leads r).getD ⟨0, 0, 0⟩) 3 } ∧ Frm (bkM b p) w w' := by
  have HB := hid h
  have HO := hid ho
  obtain ⟨L, hL⟩ : ∃ q, B.leads r = q := ⟨_, rfl⟩
  obtain ⟨x1, x2, x3, hx⟩ : ∃ x1 x2 x3 : Int, L.getD ⟨0, 0, 0⟩ = ⟨x1, x2, x3⟩ := ⟨_, _, _, rfl⟩
  have HXV : Hid (lsV L = .agg #[.int .i64 x1, .int .i64 x2, .int .i64 x3]) := by show lsV L = _; unfold lsV; rw [hx]; rfl
  rw [hL, hx]
  have HL0 := hid hL
  clear h ho hx hL
  have HV : Hid (r.val = .agg #[.int .i64 r.k, .int .i64 r.e, .int .i64 r.w, .int .i64 r.n, .int .i64 r.q, .string r.t, .int .i64 r.p.s0, .int .i64 r.p.s1, .int .i64 r.p.s2, .int .i64 r.p.s3, .int .i64 r.p.s4, .int .i64 r.p.s5, .int .i64 r.p.s6, .int .i64 r.p.s7, .int .i64 r.p.s8, .int .i64 r.p.s9, .int .i64 r.p.s10, .int .i64 r.p.s11]) := rfl
  rw [HV.out]
  go_enter Tryz.func36, Tryz.ntmps36
  go_upto_region 1 with fail
  (obtain ⟨b3, hbb3⟩ : ∃ q, q = w.heap.size := ⟨_, rfl⟩); (obtain ⟨w1, hww1⟩ : ∃ q, q = w.alloc (.cells #[.int .i64 r.k, .int .i64 r.e, .int .i64 r.w, .int .i64 r.n, .int .i64 r.q, .string r.t, .int .i64 r.p.s0, .int .i64 r.p.s1, .int .i64 r.p.s2, .int .i64 r.p.s3, .int .i64 r.p.s4, .int .i64 r.p.s5, .int .i64 r.p.s6, .int .i64 r.p.s7, .int .i64 r.p.s8, .int .i64 r.p.s9, .int .i64 r.p.s10, .int .i64 r.p.s11] 37) := ⟨_, rfl⟩); have hn := new1 w (.cells #[.int .i64 r.k, .int .i64 r.e, .int .i64 r.w, .int .i64 r.n, .int .i64 r.q, .string r.t, .int .i64 r.p.s0, .int .i64 r.p.s1, .int .i64 r.p.s2, .int .i64 r.p.s3, .int .i64 r.p.s4, .int .i64 r.p.s5, .int .i64 r.p.s6, .int .i64 r.p.s7, .int .i64 r.p.s8, .int .i64 r.p.s9, .int .i64 r.p.s10, .int .i64 r.p.s11] 37); have hf := (Frm.refl M0 w).alloc (.cells #[.int .i64 r.k, .int .i64 r.e, .int .i64 r.w, .int .i64 r.n, .int .i64 r.q, .string r.t, .int .i64 r.p.s0, .int .i64 r.p.s1, .int .i64 r.p.s2, .int .i64 r.p.s3, .int .i64 r.p.s4, .int .i64 r.p.s5, .int .i64 r.p.s6, .int .i64 r.p.s7, .int .i64 r.p.s8, .int .i64 r.p.s9, .int .i64 r.p.s10, .int .i64 r.p.s11] 37); rw [← hww1] at hn hf ⊢; rw [← hbb3] at hn ⊢; clear hww1
  have HB1 := hid (HB.out.frm0 hf)
  have HF1 := hid hf
  have H3 := hid hn
  clear hn hf hbb3
  by_cases h1 : r.e = B.w.epoch
  · have hL : L = (renewF B.l r.w r.e r.n r.q).1 := by rw [← HL0.out]; unfold Bk.leads; rw [if_pos h1]
    have HL := hid hL
    have e1 := beq_yes h1
    clear h1 hL
    apply wp_region_G 7 (fun _ => none) (valsL (_ :: _ :: _ :: _ :: _ :: _ :: _ :: [])) ?hm1 ?hB1 ?hal1 ?main1
    case hm1 => kernel_rfl
    case hB1 => kernel_rfl
    case hal1 =>
      intro i o obj ho hi
      cases hi
    rotate_left 7
    intro ops QT HO HQ
    obtain ⟨ho0, HO⟩ := HO
    refine wpG_v ho0.out rfl ?_ ?_
    · simp only [valsL_zero, valsL_succ]; apply FY_in rfl; intro wx hx
      go_simp
      exact ⟨rfl, rfl⟩
    simp only [Act.put, List.setIfInBounds_toArray, List.set_cons_zero, List.set_cons_succ, valsL_zero, valsL_succ]
    obtain ⟨ho1, HO⟩ := HO
    refine wpG_v ho1.out rfl ?_ ?_
    · simp only [valsL_zero, valsL_succ]; apply FY_in rfl; intro wx hx
      have hc0 := sb_cell (hx.heap H3.out (fun h => h))
      have hz0 := (HB1.out.frm0 hx).c2
      go_simp
      exact ⟨rfl, rfl⟩
    simp only [Act.put, List.setIfInBounds_toArray, List.set_cons_zero, List.set_cons_succ, valsL_zero, valsL_succ]
    obtain ⟨ho2, HO⟩ := HO
    refine wpG_v ho2.out rfl ?_ ?_
    · simp only [valsL_zero, valsL_succ]; apply FY_in rfl; intro wx hx
      go_simp
      exact ⟨rfl, rfl⟩
    simp only [Act.put, List.setIfInBounds_toArray, List.set_cons_zero, List.set_cons_succ, valsL_zero, valsL_succ]
    obtain ⟨ho3, HO⟩ := HO
    refine wpG_v ho3.out rfl ?_ ?_
    · simp only [valsL_zero, valsL_succ]; apply FY_in rfl; intro wx hx
      go_simp
      exact ⟨rfl, rfl⟩
    simp only [Act.put, List.setIfInBounds_toArray, List.set_cons_zero, List.set_cons_succ, valsL_zero, valsL_succ]
    obtain ⟨ho4, HO⟩ := HO
    refine wpG_v ho4.out rfl ?_ ?_
    · simp only [valsL_zero, valsL_succ]; apply FY_in rfl; intro wx hx
      go_simp
      exact ⟨rfl, rfl⟩
    simp only [Act.put, List.setIfInBounds_toArray, List.set_cons_zero, List.set_cons_succ, valsL_zero, valsL_succ]
    obtain ⟨ho5, HO⟩ := HO
    refine wpG_v ho5.out rfl ?_ ?_
    · simp only [valsL_zero, valsL_succ]; apply FY_in rfl; intro wx hx
      go_simp
      exact ⟨rfl, rfl⟩
    simp only [Act.put, List.setIfInBounds_toArray, List.set_cons_zero, List.set_cons_succ, valsL_zero, valsL_succ]
    obtain ⟨ho6, HO⟩ := HO
    refine wpG_v ho6.out rfl ?_ ?_
    · simp only [valsL_zero, valsL_succ]; apply FY_in rfl; intro wx hx
      have hc0 := sb_cell (hx.heap H3.out (fun h => h))
      have hz0 := (HB1.out.frm0 hx).c2
      go_simp
      exact ⟨rfl, rfl⟩
    simp only [Act.put, List.setIfInBounds_toArray, List.set_cons_zero, List.set_cons_succ, valsL_zero, valsL_succ]
    refine HQ.out _ _ ?_
    intro w2 hf hE hN
    simp only [List.drop_succ_cons, List.drop_zero]
    clear HQ HO hE hN ho0 ho1 ho2 ho3 ho4 ho5 ho6
    have HF2 := hid (HF1.out.then0 hf)
    have HB2 := hid (HB1.out.frm0 hf)
    have H32 := hid (hf.heap H3.out (fun h => h))
    clear hf
    go_upto_region 2 with fail
    clear e1
    apply wp_region_G 12 (fun _ => none) (valsL (_ :: _ :: _ :: _ :: _ :: _ :: _ :: _ :: _ :: _ :: _ :: _ :: [])) ?hm2 ?hB2 ?hal2 ?main2
    case hm2 => kernel_rfl
    case hB2 => kernel_rfl
    case hal2 =>
      intro i o obj ho hi
      cases hi
    rotate_left 12
    intro ops QT HO HQ
    obtain ⟨ho0, HO⟩ := HO
    refine wpG_v ho0.out rfl ?_ ?_
    · simp only [valsL_zero, valsL_succ]; apply FY_in rfl; intro wx hx
      go_simp
      exact ⟨rfl, rfl⟩
    simp only [Act.put, List.setIfInBounds_toArray, List.set_cons_zero, List.set_cons_succ, valsL_zero, valsL_succ]
    obtain ⟨ho1, HO⟩ := HO
    refine wpG_v ho1.out rfl ?_ ?_
    · simp only [valsL_zero, valsL_succ]; apply FY_in rfl; intro wx hx
      go_simp
      exact ⟨rfl, rfl⟩
    simp only [Act.put, List.setIfInBounds_toArray, List.set_cons_zero, List.set_cons_succ, valsL_zero, valsL_succ]
    obtain ⟨ho2, HO⟩ := HO
    refine wpG_v ho2.out rfl ?_ ?_
    · simp only [valsL_zero, valsL_succ]; apply FY_in rfl; intro wx hx
      go_simp
      exact ⟨rfl, rfl⟩
    simp only [Act.put, List.setIfInBounds_toArray, List.set_cons_zero, List.set_cons_succ, valsL_zero, valsL_succ]
    obtain ⟨ho3, HO⟩ := HO
    refine wpG_v ho3.out rfl ?_ ?_
    · simp only [valsL_zero, valsL_succ]; apply FY_in rfl; intro wx hx
      have hc0 := sb_cell (hx.heap H32.out (fun h => h))
      have hz0 := (HB2.out.frm0 hx).c0
      go_simp
      exact ⟨rfl, rfl⟩
    simp only [Act.put, List.setIfInBounds_toArray, List.set_cons_zero, List.set_cons_succ, valsL_zero, valsL_succ]
    obtain ⟨ho4, HO⟩ := HO
    refine wpG_v ho4.out rfl ?_ ?_
    · simp only [valsL_zero, valsL_succ]; apply FY_in rfl; intro wx hx
      go_simp
      exact ⟨rfl, rfl⟩
    simp only [Act.put, List.setIfInBounds_toArray, List.set_cons_zero, List.set_cons_succ, valsL_zero, valsL_succ]
    obtain ⟨ho5, HO⟩ := HO
    refine wpG_v ho5.out rfl ?_ ?_
    · simp only [valsL_zero, valsL_succ]; apply FY_in rfl; intro wx hx
      have hc0 := sb_cell (hx.heap H32.out (fun h => h))
      have hz0 := (HB2.out.frm0 hx).c0
      go_simp
      exact ⟨rfl, rfl⟩
    simp only [Act.put, List.setIfInBounds_toArray, List.set_cons_zero, List.set_cons_succ, valsL_zero, valsL_succ]
    obtain ⟨ho6, HO⟩ := HO
    refine wpG_v ho6.out rfl ?_ ?_
    · simp only [valsL_zero, valsL_succ]; apply FY_in rfl; intro wx hx
      go_simp
      exact ⟨rfl, rfl⟩
    simp only [Act.put, List.setIfInBounds_toArray, List.set_cons_zero, List.set_cons_succ, valsL_zero, valsL_succ]
    obtain ⟨ho7, HO⟩ := HO
    refine wpG_v ho7.out rfl ?_ ?_
    · simp only [valsL_zero, valsL_succ]; apply FY_in rfl; intro wx hx
      have hc0 := sb_cell (hx.heap H32.out (fun h => h))
      have hz0 := (HB2.out.frm0 hx).c0
      go_simp
      exact ⟨rfl, rfl⟩
    simp only [Act.put, List.setIfInBounds_toArray, List.set_cons_zero, List.set_cons_succ, valsL_zero, valsL_succ]
    obtain ⟨ho8, HO⟩ := HO
    refine wpG_v ho8.out rfl ?_ ?_
    · simp only [valsL_zero, valsL_succ]; apply FY_in rfl; intro wx hx
      go_simp
      exact ⟨rfl, rfl⟩
    simp only [Act.put, List.setIfInBounds_toArray, List.set_cons_zero, List.set_cons_succ, valsL_zero, valsL_succ]
    obtain ⟨ho9, HO⟩ := HO
    refine wpG_v ho9.out rfl ?_ ?_
    · simp only [valsL_zero, valsL_succ]; apply FY_in rfl; intro wx hx
      have hc0 := sb_cell (hx.heap H32.out (fun h => h))
      have hz0 := (HB2.out.frm0 hx).c0
      go_simp
      exact ⟨rfl, rfl⟩
    simp only [Act.put, List.setIfInBounds_toArray, List.set_cons_zero, List.set_cons_succ, valsL_zero, valsL_succ]
    obtain ⟨ho10, HO⟩ := HO
    refine wpG_v ho10.out rfl ?_ ?_
    · simp only [valsL_zero, valsL_succ]; apply FY_in rfl; intro wx hx
      go_simp
      exact ⟨rfl, rfl⟩
    simp only [Act.put, List.setIfInBounds_toArray, List.set_cons_zero, List.set_cons_succ, valsL_zero, valsL_succ]
    obtain ⟨ho11, HO⟩ := HO
    refine wpG_v ho11.out rfl ?_ ?_
    · simp only [valsL_zero, valsL_succ]; apply FY_in rfl; intro wx hx
      have hc0 := sb_cell (hx.heap H32.out (fun h => h))
      have hz0 := (HB2.out.frm0 hx).c0
      go_simp
      exact ⟨rfl, rfl⟩
    simp only [Act.put, List.setIfInBounds_toArray, List.set_cons_zero, List.set_cons_succ, valsL_zero, valsL_succ]
    refine HQ.out _ _ ?_
    intro w3 hf hE hN
    simp only [List.drop_succ_cons, List.drop_zero]
    clear HQ HO hE hN ho0 ho1 ho2 ho3 ho4 ho5 ho6 ho7 ho8 ho9 ho10 ho11
    have HF3 := hid (HF2.out.then0 hf)
    have HB3 := hid (HB2.out.frm0 hf)
    clear hf
    go_wp2_with fail
    refine (renew_calls p.tb p.TB B.m B.l r.w r.e r.n r.q _ HB3.out.tab HO.out.lb).mono ?_
    rintro _ w4 ⟨rfl, ht, hf⟩
    rw [← HL.out] at ht
    have HB4 := hid (HB3.out.retab hf ht)
    have HF4 := hid ((HF3.out.mono (M' := bkM b p) (fun _ _ h => h.elim)).trans hf (fun k hk e => .inr (.inr (.inl e))))
    have HZ4 := hid hf.size
    clear ht hf HB3 HF3 HB2 HF2 HB1 H32 H3 HL
    have d0 := HB4.out.c0
    go_wp2_with fail
    refine (get_calls p.tb p.TB B.m L _ HB4.out.tab).mono ?_
    rintro _ w5 ⟨rfl, hf⟩
    rw [HXV.out]
    have HB5 := hid (HB4.out.frm0 hf)
    have HF5 := hid (HF4.out.then0 hf)
    clear hf d0 HXV HB4 HF4 HZ4
    have HN := hid (new1 w5 (.cells #[.int .i64 0, .int .i64 0, .int .i64 0] 129))
    go_upto_region 5 with (refine wpList_store_row rfl 129 (.tmp 4) (.tmp 44) (by with_reducible rfl) w5.heap.size #[.int .i64 x1, .int .i64 x2, .int .i64 x3] (by kernel_rfl) (by kernel_rfl) _ _ HN.out (by kernel_rfl) (by rfl) (by simp [Value.oneCell']) ?_)
    (obtain ⟨b4, hbb4⟩ : ∃ q, q = w5.heap.size := ⟨_, rfl⟩); (obtain ⟨w6, hww6⟩ : ∃ q, q = (w5.alloc (.cells #[.int .i64 0, .int .i64 0, .int .i64 0] 129)).setRow w5.heap.size #[.int .i64 x1, .int .i64 x2, .int .i64 x3] := ⟨_, rfl⟩); have hn := setRow_heap _ w5.heap.size _ #[.int .i64 x1, .int .i64 x2, .int .i64 x3] _ _ HN.out; have hf : Frm M0 w5 ((w5.alloc (.cells #[.int .i64 0, .int .i64 0, .int .i64 0] 129)).setRow w5.heap.size #[.int .i64 x1, .int .i64 x2, .int .i64 x3]) := ((Frm.refl M0 w5).alloc _).setRow _ _ (Nat.le_refl _); rw [← hww6] at hn hf ⊢; rw [← hbb4] at hn ⊢; clear hww6
    have HB6 := hid (HB5.out.frm0 hf)
    have HF6 := hid (HF5.out.then0 hf)
    have H4 := hid hn
    have HNE : Hid (b4 ≠ b) := hid (by have := sb_lt HB5.out.blk; omega)
    clear hf hn hbb4 HB5 HF5 HN
    obtain ⟨C, HC⟩ : ∃ C : Nat → List Value, Hid (C = fun c => bkCells p (leadW B.w ⟨x1, x2, x3⟩ c) B.us) := ⟨_, hid rfl⟩
    have HC0 : Hid ((C 0).set 2 (.int .i64 x2) = C 1 ∧ (C 1).set 3 (.int .i64 x1) = C 2 ∧ (C 2).set 4 (.int .i64 x3) = C 3) := by rw [HC.out]; exact hid ⟨rfl, rfl, rfl⟩
    have HC1 : Hid ((C 0)[2]? = some (.int .i64 B.w.epoch) ∧ (C 1)[3]? = some (.int .i64 B.w.leader) ∧ (C 2)[4]? = some (.int .i64 B.w.until')) := by rw [HC.out]; exact hid ⟨rfl, rfl, rfl⟩
    have HJ0 : Hid (∀ wx, Frm M0 w6 wx → BJ b w6 C 0 wx) := hid fun wx hx => ⟨hx.mono (fun _ _ h => h.elim), by rw [HC.out]; exact hx.heap HB6.out.blk (fun h => h)⟩
    apply wp_region_S [12, 16, 20] (valsL (_ :: _ :: _ :: _ :: _ :: _ :: _ :: _ :: _ :: _ :: _ :: _ :: undef :: _ :: _ :: _ :: undef :: _ :: _ :: _ :: undef :: [])) (fun _ => 3) (fun _ => fun wx => Frm (fun k => k = b) w6 wx) (fun _ _ => True) (fun c _ wx => BJ b w6 C c wx) ?hm3 ?hB3 ?hU3 ?hI3 ?hG3 ?hZ3 ?main3
    case hm3 => kernel_rfl
    case hB3 => kernel_rfl
    case hU3 =>
      exact fun _ => ⟨undef, trivial⟩
    case hI3 =>
      exact fun c E wx hc hj _ _ => (fun c E wx hc hj => hj.1) c E wx hc hj
    case hG3 =>
      exact fun c E wx wy hc hj hf => hj.grow hf
    case hZ3 =>
      exact fun wx hf => HJ0.out wx hf
    rotate_left 18
    intro ops QT HO HQ
    obtain ⟨ho0, HO⟩ := HO
    refine wpS_V ho0.out rfl ?_ ?_
    · simp only [valsL_zero, valsL_succ]; apply FI_in rfl; intro wx hx
      go_simp
      exact ⟨rfl, rfl⟩
    simp only [Act.put, List.setIfInBounds_toArray, List.set_cons_zero, List.set_cons_succ, valsL_zero, valsL_succ]
    obtain ⟨ho1, HO⟩ := HO
    refine wpS_V ho1.out rfl ?_ ?_
    · simp only [valsL_zero, valsL_succ]; apply FI_in rfl; intro wx hx
      go_simp
      exact ⟨rfl, rfl⟩
    simp only [Act.put, List.setIfInBounds_toArray, List.set_cons_zero, List.set_cons_succ, valsL_zero, valsL_succ]
    obtain ⟨ho2, HO⟩ := HO
    refine wpS_V ho2.out rfl ?_ ?_
    · simp only [valsL_zero, valsL_succ]; apply FI_in rfl; intro wx hx
      go_simp
      exact ⟨rfl, rfl⟩
    simp only [Act.put, List.setIfInBounds_toArray, List.set_cons_zero, List.set_cons_succ, valsL_zero, valsL_succ]
    obtain ⟨ho3, HO⟩ := HO
    refine wpS_V ho3.out rfl ?_ ?_
    · simp only [valsL_zero, valsL_succ]; apply FI_in rfl; intro wx hx
      go_simp
      exact ⟨rfl, rfl⟩
    simp only [Act.put, List.setIfInBounds_toArray, List.set_cons_zero, List.set_cons_succ, valsL_zero, valsL_succ]
    obtain ⟨ho4, HO⟩ := HO
    refine wpS_V ho4.out rfl ?_ ?_
    · simp only [valsL_zero, valsL_succ]; apply FI_in rfl; intro wx hx
      have hc0 := sb_cell (hx.heap H4.out HNE.out)
      go_simp
      exact ⟨rfl, rfl⟩
    simp only [Act.put, List.setIfInBounds_toArray, List.set_cons_zero, List.set_cons_succ, valsL_zero, valsL_succ]
    obtain ⟨ho5, HO⟩ := HO
    refine wpS_V ho5.out rfl ?_ ?_
    · simp only [valsL_zero, valsL_succ]; apply FI_in rfl; intro wx hx
      go_simp
      exact ⟨rfl, rfl⟩
    simp only [Act.put, List.setIfInBounds_toArray, List.set_cons_zero, List.set_cons_succ, valsL_zero, valsL_succ]
    obtain ⟨ho6, HO⟩ := HO
    refine wpS_V ho6.out rfl ?_ ?_
    · simp only [valsL_zero, valsL_succ]; apply FI_in rfl; intro wx hx
      have hc0 := sb_cell (hx.heap H4.out HNE.out)
      go_simp
      exact ⟨rfl, rfl⟩
    simp only [Act.put, List.setIfInBounds_toArray, List.set_cons_zero, List.set_cons_succ, valsL_zero, valsL_succ]
    obtain ⟨ho7, HO⟩ := HO
    refine wpS_V ho7.out rfl ?_ ?_
    · simp only [valsL_zero, valsL_succ]; apply FI_in rfl; intro wx hx
      go_simp
      exact ⟨rfl, rfl⟩
    simp only [Act.put, List.setIfInBounds_toArray, List.set_cons_zero, List.set_cons_succ, valsL_zero, valsL_succ]
    obtain ⟨ho8, HO⟩ := HO
    refine wpS_V ho8.out rfl ?_ ?_
    · simp only [valsL_zero, valsL_succ]; apply FI_in rfl; intro wx hx
      have hc0 := sb_cell (hx.heap H4.out HNE.out)
      go_simp
      exact ⟨rfl, rfl⟩
    simp only [Act.put, List.setIfInBounds_toArray, List.set_cons_zero, List.set_cons_succ, valsL_zero, valsL_succ]
    obtain ⟨ho9, HO⟩ := HO
    refine wpS_V ho9.out rfl ?_ ?_
    · simp only [valsL_zero, valsL_succ]; apply FI_in rfl; intro wx hx
      go_simp
      exact ⟨rfl, rfl⟩
    simp only [Act.put, List.setIfInBounds_toArray, List.set_cons_zero, List.set_cons_succ, valsL_zero, valsL_succ]
    obtain ⟨ho10, HO⟩ := HO
    refine wpS_V ho10.out rfl ?_ ?_
    · simp only [valsL_zero, valsL_succ]; apply FI_in rfl; intro wx hx
      go_simp
      exact ⟨rfl, rfl⟩
    simp only [Act.put, List.setIfInBounds_toArray, List.set_cons_zero, List.set_cons_succ, valsL_zero, valsL_succ]
    obtain ⟨ho11, HO⟩ := HO
    refine wpS_V ho11.out rfl ?_ ?_
    · simp only [valsL_zero, valsL_succ]; apply FI_in rfl; intro wx hx
      go_simp
      exact ⟨rfl, rfl⟩
    simp only [Act.put, List.setIfInBounds_toArray, List.set_cons_zero, List.set_cons_succ, valsL_zero, valsL_succ]
    obtain ⟨ho12, HO⟩ := HO
    refine wpS_W (c := 0) ho12.out rfl (FW_in rfl fun wx hx => ?_) fun u12 g12 => ?_
    · have hc := (hx.cell 2).trans HC1.out.1
      have hz := hx.free 2
      go_simp
      exact hx.step 2 _ HC0.out.1
    simp only [Act.put, List.setIfInBounds_toArray, List.set_cons_zero, List.set_cons_succ, valsL_zero, valsL_succ]
    obtain ⟨ho13, HO⟩ := HO
    refine wpS_V ho13.out rfl ?_ ?_
    · simp only [valsL_zero, valsL_succ]; apply FI_in rfl; intro wx hx
      go_simp
      exact ⟨rfl, rfl⟩
    simp only [Act.put, List.setIfInBounds_toArray, List.set_cons_zero, List.set_cons_succ, valsL_zero, valsL_succ]
    obtain ⟨ho14, HO⟩ := HO
    refine wpS_V ho14.out rfl ?_ ?_
    · simp only [valsL_zero, valsL_succ]; apply FI_in rfl; intro wx hx
      go_simp
      exact ⟨rfl, rfl⟩
    simp only [Act.put, List.setIfInBounds_toArray, List.set_cons_zero, List.set_cons_succ, valsL_zero, valsL_succ]
    obtain ⟨ho15, HO⟩ := HO
    refine wpS_V ho15.out rfl ?_ ?_
    · simp only [valsL_zero, valsL_succ]; apply FI_in rfl; intro wx hx
      go_simp
      exact ⟨rfl, rfl⟩
    simp only [Act.put, List.setIfInBounds_toArray, List.set_cons_zero, List.set_cons_succ, valsL_zero, valsL_succ]
    obtain ⟨ho16, HO⟩ := HO
    refine wpS_W (c := 1) ho16.out rfl (FW_in rfl fun wx hx => ?_) fun u16 g16 => ?_
    · have hc := (hx.cell 3).trans HC1.out.2.1
      have hz := hx.free 3
      go_simp
      exact hx.step 3 _ HC0.out.2.1
    simp only [Act.put, List.setIfInBounds_toArray, List.set_cons_zero, List.set_cons_succ, valsL_zero, valsL_succ]
    obtain ⟨ho17, HO⟩ := HO
    refine wpS_V ho17.out rfl ?_ ?_
    · simp only [valsL_zero, valsL_succ]; apply FI_in rfl; intro wx hx
      go_simp
      exact ⟨rfl, rfl⟩
    simp only [Act.put, List.setIfInBounds_toArray, List.set_cons_zero, List.set_cons_succ, valsL_zero, valsL_succ]
    obtain ⟨ho18, HO⟩ := HO
    refine wpS_V ho18.out rfl ?_ ?_
    · simp only [valsL_zero, valsL_succ]; apply FI_in rfl; intro wx hx
      go_simp
      exact ⟨rfl, rfl⟩
    simp only [Act.put, List.setIfInBounds_toArray, List.set_cons_zero, List.set_cons_succ, valsL_zero, valsL_succ]
    obtain ⟨ho19, HO⟩ := HO
    refine wpS_V ho19.out rfl ?_ ?_
    · simp only [valsL_zero, valsL_succ]; apply FI_in rfl; intro wx hx
      go_simp
      exact ⟨rfl, rfl⟩
    simp only [Act.put, List.setIfInBounds_toArray, List.set_cons_zero, List.set_cons_succ, valsL_zero, valsL_succ]
    obtain ⟨ho20, HO⟩ := HO
    refine wpS_W (c := 2) ho20.out rfl (FW_in rfl fun wx hx => ?_) fun u20 g20 => ?_
    · have hc := (hx.cell 4).trans HC1.out.2.2
      have hz := hx.free 4
      go_simp
      exact hx.step 4 _ HC0.out.2.2
    simp only [Act.put, List.setIfInBounds_toArray, List.set_cons_zero, List.set_cons_succ, valsL_zero, valsL_succ]
    refine HQ.out _ _ ?_
    intro w7 hj
    clear HQ HO ho0 ho1 ho2 ho3 ho4 ho5 ho6 ho7 ho8 ho9 ho10 ho11 ho12 ho13 ho14 ho15 ho16 ho17 ho18 ho19 ho20
    have HB7 : Hid (BkAt w7 b p { B with l := L, w := leadW B.w ⟨x1, x2, x3⟩ 3 }) := hid (HB6.out.put hj.1 (by have := hj.2; rw [HC.out] at this; exact this) HB6.out.len HB6.out.apart)
    have HF7 := hid (HF6.out.trans hj.1 (fun k hk e => .inl e))
    clear hj HJ0 HC1 HC0
    go_wp2_with fail
    refine bodyPost_end (results0 (by rfl) _ _ _) rfl ?_
    exact ⟨rfl, HB7.out, HF7.out⟩
  · have hL : L = (takeF B.m B.l r.w r.n r.q).1 := by rw [← HL0.out]; unfold Bk.leads; rw [if_neg h1]
    have HL := hid hL
    have e1 := beq_no h1
    clear h1 hL
    apply wp_region_G 7 (fun _ => none) (valsL (_ :: _ :: _ :: _ :: _ :: _ :: _ :: [])) ?hm4 ?hB4 ?hal4 ?main4
    case hm4 => kernel_rfl
    case hB4 => kernel_rfl
    case hal4 =>
      intro i o obj ho hi
      cases hi
    rotate_left 7
    intro ops QT HO HQ
    obtain ⟨ho0, HO⟩ := HO
    refine wpG_v ho0.out rfl ?_ ?_
    · simp only [valsL_zero, valsL_succ]; apply FY_in rfl; intro wx hx
      go_simp
      exact ⟨rfl, rfl⟩
    simp only [Act.put, List.setIfInBounds_toArray, List.set_cons_zero, List.set_cons_succ, valsL_zero, valsL_succ]
    obtain ⟨ho1, HO⟩ := HO
    refine wpG_v ho1.out rfl ?_ ?_
    · simp only [valsL_zero, valsL_succ]; apply FY_in rfl; intro wx hx
      have hc0 := sb_cell (hx.heap H3.out (fun h => h))
      have hz0 := (HB1.out.frm0 hx).c2
      go_simp
      exact ⟨rfl, rfl⟩
    simp only [Act.put, List.setIfInBounds_toArray, List.set_cons_zero, List.set_cons_succ, valsL_zero, valsL_succ]
    obtain ⟨ho2, HO⟩ := HO
    refine wpG_v ho2.out rfl ?_ ?_
    · simp only [valsL_zero, valsL_succ]; apply FY_in rfl; intro wx hx
      go_simp
      exact ⟨rfl, rfl⟩
    simp only [Act.put, List.setIfInBounds_toArray, List.set_cons_zero, List.set_cons_succ, valsL_zero, valsL_succ]
    obtain ⟨ho3, HO⟩ := HO
    refine wpG_v ho3.out rfl ?_ ?_
    · simp only [valsL_zero, valsL_succ]; apply FY_in rfl; intro wx hx
      go_simp
      exact ⟨rfl, rfl⟩
    simp only [Act.put, List.setIfInBounds_toArray, List.set_cons_zero, List.set_cons_succ, valsL_zero, valsL_succ]
    obtain ⟨ho4, HO⟩ := HO
    refine wpG_v ho4.out rfl ?_ ?_
    · simp only [valsL_zero, valsL_succ]; apply FY_in rfl; intro wx hx
      go_simp
      exact ⟨rfl, rfl⟩
    simp only [Act.put, List.setIfInBounds_toArray, List.set_cons_zero, List.set_cons_succ, valsL_zero, valsL_succ]
    obtain ⟨ho5, HO⟩ := HO
    refine wpG_v ho5.out rfl ?_ ?_
    · simp only [valsL_zero, valsL_succ]; apply FY_in rfl; intro wx hx
      go_simp
      exact ⟨rfl, rfl⟩
    simp only [Act.put, List.setIfInBounds_toArray, List.set_cons_zero, List.set_cons_succ, valsL_zero, valsL_succ]
    obtain ⟨ho6, HO⟩ := HO
    refine wpG_v ho6.out rfl ?_ ?_
    · simp only [valsL_zero, valsL_succ]; apply FY_in rfl; intro wx hx
      have hc0 := sb_cell (hx.heap H3.out (fun h => h))
      have hz0 := (HB1.out.frm0 hx).c2
      go_simp
      exact ⟨rfl, rfl⟩
    simp only [Act.put, List.setIfInBounds_toArray, List.set_cons_zero, List.set_cons_succ, valsL_zero, valsL_succ]
    refine HQ.out _ _ ?_
    intro w2 hf hE hN
    simp only [List.drop_succ_cons, List.drop_zero]
    clear HQ HO hE hN ho0 ho1 ho2 ho3 ho4 ho5 ho6
    have HF2 := hid (HF1.out.then0 hf)
    have HB2 := hid (HB1.out.frm0 hf)
    have H32 := hid (hf.heap H3.out (fun h => h))
    clear hf
    go_upto_region 3 with fail
    clear e1
    apply wp_region_G 10 (fun _ => none) (valsL (_ :: _ :: _ :: _ :: _ :: _ :: _ :: _ :: _ :: _ :: [])) ?hm5 ?hB5 ?hal5 ?main5
    case hm5 => kernel_rfl
    case hB5 => kernel_rfl
    case hal5 =>
      intro i o obj ho hi
      cases hi
    rotate_left 10
    intro ops QT HO HQ
    obtain ⟨ho0, HO⟩ := HO
    refine wpG_v ho0.out rfl ?_ ?_
    · simp only [valsL_zero, valsL_succ]; apply FY_in rfl; intro wx hx
      go_simp
      exact ⟨rfl, rfl⟩
    simp only [Act.put, List.setIfInBounds_toArray, List.set_cons_zero, List.set_cons_succ, valsL_zero, valsL_succ]
    obtain ⟨ho1, HO⟩ := HO
    refine wpG_v ho1.out rfl ?_ ?_
    · simp only [valsL_zero, valsL_succ]; apply FY_in rfl; intro wx hx
      go_simp
      exact ⟨rfl, rfl⟩
    simp only [Act.put, List.setIfInBounds_toArray, List.set_cons_zero, List.set_cons_succ, valsL_zero, valsL_succ]
    obtain ⟨ho2, HO⟩ := HO
    refine wpG_v ho2.out rfl ?_ ?_
    · simp only [valsL_zero, valsL_succ]; apply FY_in rfl; intro wx hx
      go_simp
      exact ⟨rfl, rfl⟩
    simp only [Act.put, List.setIfInBounds_toArray, List.set_cons_zero, List.set_cons_succ, valsL_zero, valsL_succ]
    obtain ⟨ho3, HO⟩ := HO
    refine wpG_v ho3.out rfl ?_ ?_
    · simp only [valsL_zero, valsL_succ]; apply FY_in rfl; intro wx hx
      have hc0 := sb_cell (hx.heap H32.out (fun h => h))
      have hz0 := (HB2.out.frm0 hx).c0
      go_simp
      exact ⟨rfl, rfl⟩
    simp only [Act.put, List.setIfInBounds_toArray, List.set_cons_zero, List.set_cons_succ, valsL_zero, valsL_succ]
    obtain ⟨ho4, HO⟩ := HO
    refine wpG_v ho4.out rfl ?_ ?_
    · simp only [valsL_zero, valsL_succ]; apply FY_in rfl; intro wx hx
      go_simp
      exact ⟨rfl, rfl⟩
    simp only [Act.put, List.setIfInBounds_toArray, List.set_cons_zero, List.set_cons_succ, valsL_zero, valsL_succ]
    obtain ⟨ho5, HO⟩ := HO
    refine wpG_v ho5.out rfl ?_ ?_
    · simp only [valsL_zero, valsL_succ]; apply FY_in rfl; intro wx hx
      have hc0 := sb_cell (hx.heap H32.out (fun h => h))
      have hz0 := (HB2.out.frm0 hx).c0
      go_simp
      exact ⟨rfl, rfl⟩
    simp only [Act.put, List.setIfInBounds_toArray, List.set_cons_zero, List.set_cons_succ, valsL_zero, valsL_succ]
    obtain ⟨ho6, HO⟩ := HO
    refine wpG_v ho6.out rfl ?_ ?_
    · simp only [valsL_zero, valsL_succ]; apply FY_in rfl; intro wx hx
      go_simp
      exact ⟨rfl, rfl⟩
    simp only [Act.put, List.setIfInBounds_toArray, List.set_cons_zero, List.set_cons_succ, valsL_zero, valsL_succ]
    obtain ⟨ho7, HO⟩ := HO
    refine wpG_v ho7.out rfl ?_ ?_
    · simp only [valsL_zero, valsL_succ]; apply FY_in rfl; intro wx hx
      have hc0 := sb_cell (hx.heap H32.out (fun h => h))
      have hz0 := (HB2.out.frm0 hx).c0
      go_simp
      exact ⟨rfl, rfl⟩
    simp only [Act.put, List.setIfInBounds_toArray, List.set_cons_zero, List.set_cons_succ, valsL_zero, valsL_succ]
    obtain ⟨ho8, HO⟩ := HO
    refine wpG_v ho8.out rfl ?_ ?_
    · simp only [valsL_zero, valsL_succ]; apply FY_in rfl; intro wx hx
      go_simp
      exact ⟨rfl, rfl⟩
    simp only [Act.put, List.setIfInBounds_toArray, List.set_cons_zero, List.set_cons_succ, valsL_zero, valsL_succ]
    obtain ⟨ho9, HO⟩ := HO
    refine wpG_v ho9.out rfl ?_ ?_
    · simp only [valsL_zero, valsL_succ]; apply FY_in rfl; intro wx hx
      have hc0 := sb_cell (hx.heap H32.out (fun h => h))
      have hz0 := (HB2.out.frm0 hx).c0
      go_simp
      exact ⟨rfl, rfl⟩
    simp only [Act.put, List.setIfInBounds_toArray, List.set_cons_zero, List.set_cons_succ, valsL_zero, valsL_succ]
    refine HQ.out _ _ ?_
    intro w3 hf hE hN
    simp only [List.drop_succ_cons, List.drop_zero]
    clear HQ HO hE hN ho0 ho1 ho2 ho3 ho4 ho5 ho6 ho7 ho8 ho9
    have HF3 := hid (HF2.out.then0 hf)
    have HB3 := hid (HB2.out.frm0 hf)
    clear hf
    go_wp2_with fail
    refine (take_calls p.tb p.TB B.m B.l r.w r.n r.q _ HB3.out.tab HO.out.mg HO.out.lb).mono ?_
    rintro _ w4 ⟨rfl, ht, hf⟩
    rw [← HL.out] at ht
    have HB4 := hid (HB3.out.retab hf ht)
    have HF4 := hid ((HF3.out.mono (M' := bkM b p) (fun _ _ h => h.elim)).trans hf (fun k hk e => .inr (.inr (.inl e))))
    have HZ4 := hid hf.size
    clear ht hf HB3 HF3 HB2 HF2 HB1 H32 H3 HL
    have d0 := HB4.out.c0
    go_wp2_with fail
    refine (get_calls p.tb p.TB B.m L _ HB4.out.tab).mono ?_
    rintro _ w5 ⟨rfl, hf⟩
    rw [HXV.out]
    have HB5 := hid (HB4.out.frm0 hf)
    have HF5 := hid (HF4.out.then0 hf)
    clear hf d0 HXV HB4 HF4 HZ4
    have HN := hid (new1 w5 (.cells #[.int .i64 0, .int .i64 0, .int .i64 0] 129))
    go_upto_region 5 with (refine wpList_store_row rfl 129 (.tmp 4) (.tmp 44) (by with_reducible rfl) w5.heap.size #[.int .i64 x1, .int .i64 x2, .int .i64 x3] (by kernel_rfl) (by kernel_rfl) _ _ HN.out (by kernel_rfl) (by rfl) (by simp [Value.oneCell']) ?_)
    (obtain ⟨b4, hbb4⟩ : ∃ q, q = w5.heap.size := ⟨_, rfl⟩); (obtain ⟨w6, hww6⟩ : ∃ q, q = (w5.alloc (.cells #[.int .i64 0, .int .i64 0, .int .i64 0] 129)).setRow w5.heap.size #[.int .i64 x1, .int .i64 x2, .int .i64 x3] := ⟨_, rfl⟩); have hn := setRow_heap _ w5.heap.size _ #[.int .i64 x1, .int .i64 x2, .int .i64 x3] _ _ HN.out; have hf : Frm M0 w5 ((w5.alloc (.cells #[.int .i64 0, .int .i64 0, .int .i64 0] 129)).setRow w5.heap.size #[.int .i64 x1, .int .i64 x2, .int .i64 x3]) := ((Frm.refl M0 w5).alloc _).setRow _ _ (Nat.le_refl _); rw [← hww6] at hn hf ⊢; rw [← hbb4] at hn ⊢; clear hww6
    have HB6 := hid (HB5.out.frm0 hf)
    have HF6 := hid (HF5.out.then0 hf)
    have H4 := hid hn
    have HNE : Hid (b4 ≠ b) := hid (by have := sb_lt HB5.out.blk; omega)
    clear hf hn hbb4 HB5 HF5 HN
    obtain ⟨C, HC⟩ : ∃ C : Nat → List Value, Hid (C = fun c => bkCells p (leadW B.w ⟨x1, x2, x3⟩ c) B.us) := ⟨_, hid rfl⟩
    have HC0 : Hid ((C 0).set 2 (.int .i64 x2) = C 1 ∧ (C 1).set 3 (.int .i64 x1) = C 2 ∧ (C 2).set 4 (.int .i64 x3) = C 3) := by rw [HC.out]; exact hid ⟨rfl, rfl, rfl⟩
    have HC1 : Hid ((C 0)[2]? = some (.int .i64 B.w.epoch) ∧ (C 1)[3]? = some (.int .i64 B.w.leader) ∧ (C 2)[4]? = some (.int .i64 B.w.until')) := by rw [HC.out]; exact hid ⟨rfl, rfl, rfl⟩
    have HJ0 : Hid (∀ wx, Frm M0 w6 wx → BJ b w6 C 0 wx) := hid fun wx hx => ⟨hx.mono (fun _ _ h => h.elim), by rw [HC.out]; exact hx.heap HB6.out.blk (fun h => h)⟩
    apply wp_region_S [12, 16, 20] (valsL (_ :: _ :: _ :: _ :: _ :: _ :: _ :: _ :: _ :: _ :: _ :: _ :: undef :: _ :: _ :: _ :: undef :: _ :: _ :: _ :: undef :: [])) (fun _ => 3) (fun _ => fun wx => Frm (fun k => k = b) w6 wx) (fun _ _ => True) (fun c _ wx => BJ b w6 C c wx) ?hm6 ?hB6 ?hU6 ?hI6 ?hG6 ?hZ6 ?main6
    case hm6 => kernel_rfl
    case hB6 => kernel_rfl
    case hU6 =>
      exact fun _ => ⟨undef, trivial⟩
    case hI6 =>
      exact fun c E wx hc hj _ _ => (fun c E wx hc hj => hj.1) c E wx hc hj
    case hG6 =>
      exact fun c E wx wy hc hj hf => hj.grow hf
    case hZ6 =>
      exact fun wx hf => HJ0.out wx hf
    rotate_left 18
    intro ops QT HO HQ
    obtain ⟨ho0, HO⟩ := HO
    refine wpS_V ho0.out rfl ?_ ?_
    · simp only [valsL_zero, valsL_succ]; apply FI_in rfl; intro wx hx
      go_simp
      exact ⟨rfl, rfl⟩
    simp only [Act.put, List.setIfInBounds_toArray, List.set_cons_zero, List.set_cons_succ, valsL_zero, valsL_succ]
    obtain ⟨ho1, HO⟩ := HO
    refine wpS_V ho1.out rfl ?_ ?_
    · simp only [valsL_zero, valsL_succ]; apply FI_in rfl; intro wx hx
      go_simp
      exact ⟨rfl, rfl⟩
    simp only [Act.put, List.setIfInBounds_toArray, List.set_cons_zero, List.set_cons_succ, valsL_zero, valsL_succ]
    obtain ⟨ho2, HO⟩ := HO
    refine wpS_V ho2.out rfl ?_ ?_
    · simp only [valsL_zero, valsL_succ]; apply FI_in rfl; intro wx hx
      go_simp
      exact ⟨rfl, rfl⟩
    simp only [Act.put, List.setIfInBounds_toArray, List.set_cons_zero, List.set_cons_succ, valsL_zero, valsL_succ]
    obtain ⟨ho3, HO⟩ := HO
    refine wpS_V ho3.out rfl ?_ ?_
    · simp only [valsL_zero, valsL_succ]; apply FI_in rfl; intro wx hx
      go_simp
      exact ⟨rfl, rfl⟩
    simp only [Act.put, List.setIfInBounds_toArray, List.set_cons_zero, List.set_cons_succ, valsL_zero, valsL_succ]
    obtain ⟨ho4, HO⟩ := HO
    refine wpS_V ho4.out rfl ?_ ?_
    · simp only [valsL_zero, valsL_succ]; apply FI_in rfl; intro wx hx
      have hc0 := sb_cell (hx.heap H4.out HNE.out)
      go_simp
      exact ⟨rfl, rfl⟩
    simp only [Act.put, List.setIfInBounds_toArray, List.set_cons_zero, List.set_cons_succ, valsL_zero, valsL_succ]
    obtain ⟨ho5, HO⟩ := HO
    refine wpS_V ho5.out rfl ?_ ?_
    · simp only [valsL_zero, valsL_succ]; apply FI_in rfl; intro wx hx
      go_simp
      exact ⟨rfl, rfl⟩
    simp only [Act.put, List.setIfInBounds_toArray, List.set_cons_zero, List.set_cons_succ, valsL_zero, valsL_succ]
    obtain ⟨ho6, HO⟩ := HO
    refine wpS_V ho6.out rfl ?_ ?_
    · simp only [valsL_zero, valsL_succ]; apply FI_in rfl; intro wx hx
      have hc0 := sb_cell (hx.heap H4.out HNE.out)
      go_simp
      exact ⟨rfl, rfl⟩
    simp only [Act.put, List.setIfInBounds_toArray, List.set_cons_zero, List.set_cons_succ, valsL_zero, valsL_succ]
    obtain ⟨ho7, HO⟩ := HO
    refine wpS_V ho7.out rfl ?_ ?_
    · simp only [valsL_zero, valsL_succ]; apply FI_in rfl; intro wx hx
      go_simp
      exact ⟨rfl, rfl⟩
    simp only [Act.put, List.setIfInBounds_toArray, List.set_cons_zero, List.set_cons_succ, valsL_zero, valsL_succ]
    obtain ⟨ho8, HO⟩ := HO
    refine wpS_V ho8.out rfl ?_ ?_
    · simp only [valsL_zero, valsL_succ]; apply FI_in rfl; intro wx hx
      have hc0 := sb_cell (hx.heap H4.out HNE.out)
      go_simp
      exact ⟨rfl, rfl⟩
    simp only [Act.put, List.setIfInBounds_toArray, List.set_cons_zero, List.set_cons_succ, valsL_zero, valsL_succ]
    obtain ⟨ho9, HO⟩ := HO
    refine wpS_V ho9.out rfl ?_ ?_
    · simp only [valsL_zero, valsL_succ]; apply FI_in rfl; intro wx hx
      go_simp
      exact ⟨rfl, rfl⟩
    simp only [Act.put, List.setIfInBounds_toArray, List.set_cons_zero, List.set_cons_succ, valsL_zero, valsL_succ]
    obtain ⟨ho10, HO⟩ := HO
    refine wpS_V ho10.out rfl ?_ ?_
    · simp only [valsL_zero, valsL_succ]; apply FI_in rfl; intro wx hx
      go_simp
      exact ⟨rfl, rfl⟩
    simp only [Act.put, List.setIfInBounds_toArray, List.set_cons_zero, List.set_cons_succ, valsL_zero, valsL_succ]
    obtain ⟨ho11, HO⟩ := HO
    refine wpS_V ho11.out rfl ?_ ?_
    · simp only [valsL_zero, valsL_succ]; apply FI_in rfl; intro wx hx
      go_simp
      exact ⟨rfl, rfl⟩
    simp only [Act.put, List.setIfInBounds_toArray, List.set_cons_zero, List.set_cons_succ, valsL_zero, valsL_succ]
    obtain ⟨ho12, HO⟩ := HO
    refine wpS_W (c := 0) ho12.out rfl (FW_in rfl fun wx hx => ?_) fun u12 g12 => ?_
    · have hc := (hx.cell 2).trans HC1.out.1
      have hz := hx.free 2
      go_simp
      exact hx.step 2 _ HC0.out.1
    simp only [Act.put, List.setIfInBounds_toArray, List.set_cons_zero, List.set_cons_succ, valsL_zero, valsL_succ]
    obtain ⟨ho13, HO⟩ := HO
    refine wpS_V ho13.out rfl ?_ ?_
    · simp only [valsL_zero, valsL_succ]; apply FI_in rfl; intro wx hx
      go_simp
      exact ⟨rfl, rfl⟩
    simp only [Act.put, List.setIfInBounds_toArray, List.set_cons_zero, List.set_cons_succ, valsL_zero, valsL_succ]
    obtain ⟨ho14, HO⟩ := HO
    refine wpS_V ho14.out rfl ?_ ?_
    · simp only [valsL_zero, valsL_succ]; apply FI_in rfl; intro wx hx
      go_simp
      exact ⟨rfl, rfl⟩
    simp only [Act.put, List.setIfInBounds_toArray, List.set_cons_zero, List.set_cons_succ, valsL_zero, valsL_succ]
    obtain ⟨ho15, HO⟩ := HO
    refine wpS_V ho15.out rfl ?_ ?_
    · simp only [valsL_zero, valsL_succ]; apply FI_in rfl; intro wx hx
      go_simp
      exact ⟨rfl, rfl⟩
    simp only [Act.put, List.setIfInBounds_toArray, List.set_cons_zero, List.set_cons_succ, valsL_zero, valsL_succ]
    obtain ⟨ho16, HO⟩ := HO
    refine wpS_W (c := 1) ho16.out rfl (FW_in rfl fun wx hx => ?_) fun u16 g16 => ?_
    · have hc := (hx.cell 3).trans HC1.out.2.1
      have hz := hx.free 3
      go_simp
      exact hx.step 3 _ HC0.out.2.1
    simp only [Act.put, List.setIfInBounds_toArray, List.set_cons_zero, List.set_cons_succ, valsL_zero, valsL_succ]
    obtain ⟨ho17, HO⟩ := HO
    refine wpS_V ho17.out rfl ?_ ?_
    · simp only [valsL_zero, valsL_succ]; apply FI_in rfl; intro wx hx
      go_simp
      exact ⟨rfl, rfl⟩
    simp only [Act.put, List.setIfInBounds_toArray, List.set_cons_zero, List.set_cons_succ, valsL_zero, valsL_succ]
    obtain ⟨ho18, HO⟩ := HO
    refine wpS_V ho18.out rfl ?_ ?_
    · simp only [valsL_zero, valsL_succ]; apply FI_in rfl; intro wx hx
      go_simp
      exact ⟨rfl, rfl⟩
    simp only [Act.put, List.setIfInBounds_toArray, List.set_cons_zero, List.set_cons_succ, valsL_zero, valsL_succ]
    obtain ⟨ho19, HO⟩ := HO
    refine wpS_V ho19.out rfl ?_ ?_
    · simp only [valsL_zero, valsL_succ]; apply FI_in rfl; intro wx hx
      go_simp
      exact ⟨rfl, rfl⟩
    simp only [Act.put, List.setIfInBounds_toArray, List.set_cons_zero, List.set_cons_succ, valsL_zero, valsL_succ]
    obtain ⟨ho20, HO⟩ := HO
    refine wpS_W (c := 2) ho20.out rfl (FW_in rfl fun wx hx => ?_) fun u20 g20 => ?_
    · have hc := (hx.cell 4).trans HC1.out.2.2
      have hz := hx.free 4
      go_simp
      exact hx.step 4 _ HC0.out.2.2
    simp only [Act.put, List.setIfInBounds_toArray, List.set_cons_zero, List.set_cons_succ, valsL_zero, valsL_succ]
    refine HQ.out _ _ ?_
    intro w7 hj
    clear HQ HO ho0 ho1 ho2 ho3 ho4 ho5 ho6 ho7 ho8 ho9 ho10 ho11 ho12 ho13 ho14 ho15 ho16 ho17 ho18 ho19 ho20
    have HB7 : Hid (BkAt w7 b p { B with l := L, w := leadW B.w ⟨x1, x2, x3⟩ 3 }) := hid (HB6.out.put hj.1 (by have := hj.2; rw [HC.out] at this; exact this) HB6.out.len HB6.out.apart)
    have HF7 := hid (HF6.out.trans hj.1 (fun k hk e => .inl e))
    clear hj HJ0 HC1 HC0
    go_wp2_with fail
    refine bodyPost_end (results0 (by rfl) _ _ _) rfl ?_
    exact ⟨rfl, HB7.out, HF7.out⟩
end Go.Proofs.YtmacpdddimcmgaaGreatDoor
namespace Go.Proofs.YtmacpdddimcmgaaGreatDoor
set_option linter.unusedVariables false
set_option linter.unusedSimpArgs false
set_option maxRecDepth 20000
open Go.RowKit
abbrev TabS (w : World) (b : Nat) (p : BkP) : Prop := ∀ wx, Frm (bkM b p) w wx → Tab wx
theorem BkAt.resto {w w' : World} {b : Nat} {p : BkP} {B : Bk} {vs' : List (Int × ByteArray)} (h : BkAt w b p B) (hf : Frm (fun k => k = p.sb ∨ k = p.SB) w w') (hs : StoAt w' p.sb p.SB vs') : BkAt w' b p { B with vs := vs' } := by
  have ha := h.apart
  have ha2 := h.apart2
  refine ⟨hf.heap h.blk ?_, h.tab.frm hf ?_ ?_, hs, h.his.frm hf (fun k hk e => ?_), h.len, h.dis⟩
  · rintro (e | e)
    · exact ha.2.2.1 e
    · exact ha.2.2.2.1 e
  · rintro (e | e)
    · exact ha2.1 e
    · exact ha2.2.1 e
  · rintro (e | e)
    · exact ha2.2.2.1 e
    · exact h.dis e
  · rcases e with e | e
    · exact (ha2.2.2.2 k hk).2.2.1 e
    · exact (ha2.2.2.2 k hk).2.2.2 e
set_option maxRecDepth 20000 in
set_option maxHeartbeats 4000000 in
theorem apply_lead (b : Nat) (p : BkP) (B : Bk) (r : Rc) (w : World) (h : BkAt w b p B) (ho : B.Ok) (hT : TabS w b p) (hc : B.check r = 0) (hk : r.k = 1) :
    Calls Tryz.prog 16 #[bp b, r.val] w fun x w' => x = .returned (.int .i64 0) ∧ BkAt w' b p (B.does r) ∧ Frm (bkM b p) w w' := by
  have HB := hid h
  have HOk := hid ho
  have HTS := hid hT
  have HC0 := hid hc
  have HK := hid hk
  have HV : Hid (r.val = .agg #[.int .i64 r.k, .int .i64 r.e, .int .i64 r.w, .int .i64 r.n, .int .i64 r.q, .string r.t, .int .i64 r.p.s0, .int .i64 r.p.s1, .int .i64 r.p.s2, .int .i64 r.p.s3, .int .i64 r.p.s4, .int .i64 r.p.s5, .int .i64 r.p.s6, .int .i64 r.p.s7, .int .i64 r.p.s8, .int .i64 r.p.s9, .int .i64 r.p.s10, .int .i64 r.p.s11]) := rfl
  rw [HV.out]
  have e1 := beq_yes hk
  have e3 := beq_no (show ¬ r.k = 3 by omega)
  have e4 := beq_no (show ¬ r.k = 4 by omega)
  have e7 := beq_no (show ¬ r.k = 7 by omega)
  clear h ho hT hc hk
  go_enter Tryz.func16, Tryz.ntmps16
  go_upto_region 1 with fail
  (obtain ⟨b3, hbb3⟩ : ∃ q, q = w.heap.size := ⟨_, rfl⟩); (obtain ⟨w1, hww1⟩ : ∃ q, q = w.alloc (.cells #[.int .i64 r.k, .int .i64 r.e, .int .i64 r.w, .int .i64 r.n, .int .i64 r.q, .string r.t, .int .i64 r.p.s0, .int .i64 r.p.s1, .int .i64 r.p.s2, .int .i64 r.p.s3, .int .i64 r.p.s4, .int .i64 r.p.s5, .int .i64 r.p.s6, .int .i64 r.p.s7, .int .i64 r.p.s8, .int .i64 r.p.s9, .int .i64 r.p.s10, .int .i64 r.p.s11] 37) := ⟨_, rfl⟩); have hn := new1 w (.cells #[.int .i64 r.k, .int .i64 r.e, .int .i64 r.w, .int .i64 r.n, .int .i64 r.q, .string r.t, .int .i64 r.p.s0, .int .i64 r.p.s1, .int .i64 r.p.s2, .int .i64 r.p.s3, .int .i64 r.p.s4, .int .i64 r.p.s5, .int .i64 r.p.s6, .int .i64 r.p.s7, .int .i64 r.p.s8, .int .i64 r.p.s9, .int .i64 r.p.s10, .int .i64 r.p.s11] 37); have hf := (Frm.refl M0 w).alloc (.cells #[.int .i64 r.k, .int .i64 r.e, .int .i64 r.w, .int .i64 r.n, .int .i64 r.q, .string r.t, .int .i64 r.p.s0, .int .i64 r.p.s1, .int .i64 r.p.s2, .int .i64 r.p.s3, .int .i64 r.p.s4, .int .i64 r.p.s5, .int .i64 r.p.s6, .int .i64 r.p.s7, .int .i64 r.p.s8, .int .i64 r.p.s9, .int .i64 r.p.s10, .int .i64 r.p.s11] 37); rw [← hww1] at hn hf ⊢; rw [← hbb3] at hn ⊢; clear hww1
  have HNB : Hid (¬ bkM b p b3) := hid (fun e => by have := HB.out.lt _ e; omega)
  have HB1 := hid (HB.out.frm0 hf)
  have HF1 := hid hf
  have HZ3 : Hid (w.heap.size ≤ b3) := hid (by omega)
  have H3 := hid hn
  clear hn hf hbb3
  go_wp2_with (refine wpList_load_row_w (by kernel_rfl) 37 (.tmp 3) (by with_reducible rfl) b3 (by kernel_rfl) _ _ _ _ H3.out Tryz.underlying37 rfl (by kernel_rfl) ?_)
  refine (HV.out ▸ bcheck_calls b p B r w1 HB1.out HOk.out (HTS.out _ (HF1.out.mono (fun _ _ h => h.elim)))).mono ?_
  rintro _ w2 ⟨rfl, hf⟩
  rw [HC0.out]
  have HF2 := hid (HF1.out.then0 hf)
  have HB2 := hid (HB1.out.frm0 hf)
  have H32 := hid (hf.heap H3.out (fun h => h))
  have c0 : w2.cell? ⟨b3, 0, none⟩ = some (.int .i64 r.k) := sb_cell H32.out 0
  clear hf HF1 HB1 H3 HB
  go_wp2_with (refine wpList_load_row_w (by kernel_rfl) 37 (.tmp 3) (by with_reducible rfl) b3 (by kernel_rfl) _ _ _ _ H32.out Tryz.underlying37 rfl (by kernel_rfl) ?_)
  refine (HV.out ▸ leads_calls b p B r w2 HB2.out HOk.out).mono ?_
  rintro _ w3 ⟨rfl, hb, hf⟩
  have HB3 := hid hb
  have HF3 := hid ((HF2.out.mono (M' := bkM b p) (fun _ _ h => h.elim)).same hf)
  have c0' : w3.cell? ⟨b3, 0, none⟩ = some (.int .i64 r.k) := sb_cell (hf.heap H32.out HNB.out) 0
  clear hb hf c0 e1
  go_wp2_with fail
  go_ret
  have e : B.does r = { B with l := B.leads r, w := leadW B.w ((B.leads r).getD ⟨0, 0, 0⟩) 3 } := by unfold Bk.does; rw [if_pos HK.out]; rfl
  rw [e]
  exact ⟨rfl, HB3.out, HF3.out⟩
theorem publish_no {B : Bk} {r : Rc} (h : B.check r = 0) (hk : r.k = 2) : B.vs.find? (fun x => decide (x.1 = r.n)) = none ∧ B.vs.length < 64 ∧ r.t.size ≤ 64 ∧ i64R r.n := by
  obtain ⟨hr, _, hc⟩ := check_zero h
  have h0 : B.publishE r = 0 := by
    rcases hc with ⟨h, _⟩ | ⟨_, h⟩ | ⟨h, _⟩ | ⟨h, _⟩ | ⟨h, _⟩ | ⟨h, _⟩ | ⟨h, _⟩
    · omega
    · exact h
    all_goals omega
  have hp := right_publish hr hk
  unfold Bk.publishE at h0
  split at h0
  · cases h0
  · rename_i hn
    split at h0
    · cases h0
    · refine ⟨?_, by omega, hp.2.2, by omega, by omega⟩
      unfold Bk.digest at hn
      rw [Option.isSome_map] at hn
      cases hq : List.find? (fun x : Int × ByteArray => decide (x.1 = r.n)) B.vs with
      | none => rfl
      | some x => rw [hq] at hn; exact absurd rfl hn
set_option maxRecDepth 20000 in
set_option maxHeartbeats 4000000 in
theorem apply_publish (b : Nat) (p : BkP) (B : Bk) (r : Rc) (w : World) (h : BkAt w b p B) (ho : B.Ok) (hT : TabS w b p) (hc : B.check r = 0) (hk : r.k = 2) :
    Calls Tryz.prog 16 #[bp b, r.val] w fun x w' => x = .returned (.int .i64 0) ∧ BkAt w' b p (B.does r) ∧ Frm (bkM b p) w w' := by
  have HPN := hid (publish_no hc hk)
  have HB := hid h
  have HOk := hid ho
  have HTS := hid hT
  have HC0 := hid hc
  have HK := hid hk
  have HV : Hid (r.val = .agg #[.int .i64 r.k, .int .i64 r.e, .int .i64 r.w, .int .i64 r.n, .int .i64 r.q, .string r.t, .int .i64 r.p.s0, .int .i64 r.p.s1, .int .i64 r.p.s2, .int .i64 r.p.s3, .int .i64 r.p.s4, .int .i64 r.p.s5, .int .i64 r.p.s6, .int .i64 r.p.s7, .int .i64 r.p.s8, .int .i64 r.p.s9, .int .i64 r.p.s10, .int .i64 r.p.s11]) := rfl
  rw [HV.out]
  have e1 := beq_no (show ¬ r.k = 1 by omega)
  have e2 := beq_yes hk
  have e3 := beq_no (show ¬ r.k = 3 by omega)
  have e4 := beq_no (show ¬ r.k = 4 by omega)
  have e7 := beq_no (show ¬ r.k = 7 by omega)
  clear h ho hT hc hk
  go_enter Tryz.func16, Tryz.ntmps16
  go_upto_region 1 with fail
  (obtain ⟨b3, hbb3⟩ : ∃ q, q = w.heap.size := ⟨_, rfl⟩); (obtain ⟨w1, hww1⟩ : ∃ q, q = w.alloc (.cells #[.int .i64 r.k, .int .i64 r.e, .int .i64 r.w, .int .i64 r.n, .int .i64 r.q, .string r.t, .int .i64 r.p.s0, .int .i64 r.p.s1, .int .i64 r.p.s2, .int .i64 r.p.s3, .int .i64 r.p.s4, .int .i64 r.p.s5, .int .i64 r.p.s6, .int .i64 r.p.s7, .int .i64 r.p.s8, .int .i64 r.p.s9, .int .i64 r.p.s10, .int .i64 r.p.s11] 37) := ⟨_, rfl⟩); have hn := new1 w (.cells #[.int .i64 r.k, .int .i64 r.e, .int .i64 r.w, .int .i64 r.n, .int .i64 r.q, .string r.t, .int .i64 r.p.s0, .int .i64 r.p.s1, .int .i64 r.p.s2, .int .i64 r.p.s3, .int .i64 r.p.s4, .int .i64 r.p.s5, .int .i64 r.p.s6, .int .i64 r.p.s7, .int .i64 r.p.s8, .int .i64 r.p.s9, .int .i64 r.p.s10, .int .i64 r.p.s11] 37); have hf := (Frm.refl M0 w).alloc (.cells #[.int .i64 r.k, .int .i64 r.e, .int .i64 r.w, .int .i64 r.n, .int .i64 r.q, .string r.t, .int .i64 r.p.s0, .int .i64 r.p.s1, .int .i64 r.p.s2, .int .i64 r.p.s3, .int .i64 r.p.s4, .int .i64 r.p.s5, .int .i64 r.p.s6, .int .i64 r.p.s7, .int .i64 r.p.s8, .int .i64 r.p.s9, .int .i64 r.p.s10, .int .i64 r.p.s11] 37); rw [← hww1] at hn hf ⊢; rw [← hbb3] at hn ⊢; clear hww1
  have HNB : Hid (¬ bkM b p b3) := hid (fun e => by have := HB.out.lt _ e; omega)
  have HB1 := hid (HB.out.frm0 hf)
  have HF1 := hid hf
  have HZ3 : Hid (w.heap.size ≤ b3) := hid (by omega)
  have H3 := hid hn
  clear hn hf hbb3
  go_wp2_with (refine wpList_load_row_w (by kernel_rfl) 37 (.tmp 3) (by with_reducible rfl) b3 (by kernel_rfl) _ _ _ _ H3.out Tryz.underlying37 rfl (by kernel_rfl) ?_)
  refine (HV.out ▸ bcheck_calls b p B r w1 HB1.out HOk.out (HTS.out _ (HF1.out.mono (fun _ _ h => h.elim)))).mono ?_
  rintro _ w2 ⟨rfl, hf⟩
  rw [HC0.out]
  have HF2 := hid (HF1.out.then0 hf)
  have HB2 := hid (HB1.out.frm0 hf)
  have H32 := hid (hf.heap H3.out (fun h => h))
  have c0 : w2.cell? ⟨b3, 0, none⟩ = some (.int .i64 r.k) := sb_cell H32.out 0
  clear hf HF1 HB1 H3 HB
  go_upto_region 9 with fail
  have HNBB : Hid (¬ (b = p.sb ∨ b = p.SB) ∧ ¬ (b3 = p.sb ∨ b3 = p.SB)) := hid (And.intro (fun e => by have := HB2.out.apart; rcases e with e | e; exact this.2.2.1 e; exact this.2.2.2.1 e) (fun e => HNB.out (by rcases e with e | e; exact .inr (.inr (.inr (.inl e))); exact .inr (.inr (.inr (.inr (.inl e)))))))
  have HIT : Hid (∀ wx, Frm (fun k => k = p.sb ∨ k = p.SB) w2 wx → Tab wx) := hid fun wx hx => HTS.out wx ((HF2.out.mono (M' := bkM b p) (fun _ _ h => h.elim)).trans hx (fun k _ e => by rcases e with e | e; exact .inr (.inr (.inr (.inl e))); exact .inr (.inr (.inr (.inr (.inl e))))))
  obtain ⟨K, hK⟩ : ∃ q, str (Lib.itoa r.n) = q := ⟨_, rfl⟩
  have HKK := hid hK
  clear hK c0 e1 e2
  apply wp_region_S [10, 11] (valsL (_ :: _ :: _ :: _ :: _ :: _ :: _ :: _ :: _ :: _ :: undef :: undef :: [])) (fun _ => 2) (fun _ => fun wx => Frm (fun k => k = p.sb ∨ k = p.SB) w2 wx) (fun _ _ => True) (fun c E wx => Frm (fun k => k = p.sb ∨ k = p.SB) w2 wx ∧ (c ≤ 1 → Frm M0 w2 wx) ∧ (c = 1 → ∃ g, E 10 = .slice (some ⟨g, 0, none⟩) 1 1 ∧ wx.heap[g]? = some (.cells (opC r.n r.t) 83 (0, 0)) ∧ g ≠ p.sb) ∧ (c = 2 → StoAt wx p.sb p.SB (B.vs ++ [(r.n, r.t)]))) ?hm1 ?hB1 ?hU1 ?hI1 ?hG1 ?hZ1 ?main1
  case hm1 => kernel_rfl
  case hB1 => kernel_rfl
  case hU1 =>
    exact fun _ => ⟨undef, trivial⟩
  case hI1 =>
    exact fun c E wx hc hj _ _ => (fun c E wx hc hj => hj.1) c E wx hc hj
  case hG1 =>
    exact fun c E wx wy hc hj hf => ⟨hj.1.then0 hf, fun h => (hj.2.1 h).then0 hf, fun h => by obtain ⟨g, h1, h2, h3⟩ := hj.2.2.1 h; exact ⟨g, h1, hf.heap h2 (fun h => h), h3⟩, fun h => (hj.2.2.2 h).frm0 hf⟩
  case hZ1 =>
    exact fun wx hf => ⟨hf.mono (fun _ _ h => h.elim), fun _ => hf, fun h => by (cases h), fun h => by (cases h)⟩
  rotate_left 10
  intro ops QT HO HQ
  obtain ⟨ho0, HO⟩ := HO
  refine wpS_V ho0.out rfl ?_ ?_
  · simp only [valsL_zero, valsL_succ]; apply FI_in rfl; intro wx hx
    go_simp
    exact ⟨rfl, rfl⟩
  simp only [Act.put, List.setIfInBounds_toArray, List.set_cons_zero, List.set_cons_succ, valsL_zero, valsL_succ]
  obtain ⟨ho1, HO⟩ := HO
  refine wpS_V ho1.out rfl ?_ ?_
  · simp only [valsL_zero, valsL_succ]; apply FI_in rfl; intro wx hx
    go_simp
    exact ⟨rfl, rfl⟩
  simp only [Act.put, List.setIfInBounds_toArray, List.set_cons_zero, List.set_cons_succ, valsL_zero, valsL_succ]
  obtain ⟨ho2, HO⟩ := HO
  refine wpS_V ho2.out rfl ?_ ?_
  · simp only [valsL_zero, valsL_succ]; apply FI_in rfl; intro wx hx
    go_simp
    exact ⟨rfl, rfl⟩
  simp only [Act.put, List.setIfInBounds_toArray, List.set_cons_zero, List.set_cons_succ, valsL_zero, valsL_succ]
  obtain ⟨ho3, HO⟩ := HO
  refine wpS_V ho3.out rfl ?_ ?_
  · simp only [valsL_zero, valsL_succ]; apply FI_in rfl; intro wx hx
    have hc0 := sb_cell (hx.heap H32.out HNBB.out.2)
    have hz0 := hx.cell HB2.out.c1 HNBB.out.1
    go_simp
    exact ⟨rfl, rfl⟩
  simp only [Act.put, List.setIfInBounds_toArray, List.set_cons_zero, List.set_cons_succ, valsL_zero, valsL_succ]
  obtain ⟨ho4, HO⟩ := HO
  refine wpS_V ho4.out rfl ?_ ?_
  · simp only [valsL_zero, valsL_succ]; apply FI_in rfl; intro wx hx
    go_simp
    exact ⟨rfl, rfl⟩
  simp only [Act.put, List.setIfInBounds_toArray, List.set_cons_zero, List.set_cons_succ, valsL_zero, valsL_succ]
  obtain ⟨ho5, HO⟩ := HO
  refine wpS_V ho5.out rfl ?_ ?_
  · simp only [valsL_zero, valsL_succ]; apply FI_in rfl; intro wx hx
    have hc0 := sb_cell (hx.heap H32.out HNBB.out.2)
    have hz0 := hx.cell HB2.out.c1 HNBB.out.1
    go_simp
    exact ⟨rfl, rfl⟩
  simp only [Act.put, List.setIfInBounds_toArray, List.set_cons_zero, List.set_cons_succ, valsL_zero, valsL_succ]
  obtain ⟨ho6, HO⟩ := HO
  refine wpS_V ho6.out rfl ?_ ?_
  · simp only [valsL_zero, valsL_succ]; apply FI_in rfl; intro wx hx
    go_simp
    exact ⟨rfl, (itoa_calls r.n wx HPN.out.2.2.2.1 HPN.out.2.2.2.2 (HIT.out wx hx)).mono (fun e w' h => ⟨by rw [h.1, HKK.out], h.2⟩)⟩
  simp only [Act.put, List.setIfInBounds_toArray, List.set_cons_zero, List.set_cons_succ, valsL_zero, valsL_succ]
  obtain ⟨ho7, HO⟩ := HO
  refine wpS_V ho7.out rfl ?_ ?_
  · simp only [valsL_zero, valsL_succ]; apply FI_in rfl; intro wx hx
    go_simp
    exact ⟨rfl, rfl⟩
  simp only [Act.put, List.setIfInBounds_toArray, List.set_cons_zero, List.set_cons_succ, valsL_zero, valsL_succ]
  obtain ⟨ho8, HO⟩ := HO
  refine wpS_V ho8.out rfl ?_ ?_
  · simp only [valsL_zero, valsL_succ]; apply FI_in rfl; intro wx hx
    have hc0 := sb_cell (hx.heap H32.out HNBB.out.2)
    have hz0 := hx.cell HB2.out.c1 HNBB.out.1
    go_simp
    exact ⟨rfl, rfl⟩
  simp only [Act.put, List.setIfInBounds_toArray, List.set_cons_zero, List.set_cons_succ, valsL_zero, valsL_succ]
  obtain ⟨ho9, HO⟩ := HO
  refine wpS_V ho9.out rfl ?_ ?_
  · simp only [valsL_zero, valsL_succ]; apply FI_in rfl; intro wx hx
    go_simp
    exact ⟨rfl, rfl⟩
  simp only [Act.put, List.setIfInBounds_toArray, List.set_cons_zero, List.set_cons_succ, valsL_zero, valsL_succ]
  obtain ⟨ho10, HO⟩ := HO
  refine wpS_W (c := 0) ho10.out rfl (FW_in rfl fun wx hx => ?_) fun u10 g10 => ?_
  · go_simp
    refine ⟨hx.1.alloc _, (hx.2.1 (by omega)).alloc _, ⟨wx.heap.size, rfl, ?_, ?_⟩⟩
    · rw [← HKK.out]; exact new1 wx _
    · have := sb_lt ((HB2.out.sto.frm0 (hx.2.1 (by omega))).1); omega
  simp only [Act.put, List.setIfInBounds_toArray, List.set_cons_zero, List.set_cons_succ, valsL_zero, valsL_succ]
  obtain ⟨ho11, HO⟩ := HO
  refine wpS_W (c := 1) ho11.out rfl (FW_in rfl fun wx hx => ?_) fun u11 g11 => ?_
  · obtain ⟨g, hg, hh, hgs⟩ := hx.2.2.1 rfl
    have hg : u10 = .slice (some ⟨g, 0, none⟩) 1 1 := hg
    subst hg
    go_simp
    exact (kdo_calls p.sb p.SB g B.vs r.n r.t _ wx (HB2.out.sto.frm0 (hx.2.1 (by omega))) hh HPN.out.2.2.2 HOk.out.vsok HPN.out.2.2.1 HPN.out.1 HPN.out.2.1 hgs).mono (fun e w' h => by obtain ⟨rfl, hs, hf⟩ := h; exact ⟨_, rfl, hx.1.same hf, hs⟩)
  simp only [Act.put, List.setIfInBounds_toArray, List.set_cons_zero, List.set_cons_succ, valsL_zero, valsL_succ]
  refine HQ.out _ _ ?_
  intro w3 hj
  clear HQ HO ho0 ho1 ho2 ho3 ho4 ho5 ho6 ho7 ho8 ho9 ho10 ho11
  have e : B.does r = { B with vs := B.vs ++ [(r.n, r.t)] } := by unfold Bk.does; rw [if_neg (by have := HK.out; omega), if_pos HK.out]
  have HB3 : Hid (BkAt w3 b p (B.does r)) := by
    rw [e]
    exact hid (HB2.out.resto hj.1 (hj.2.2.2 rfl))
  have HF3 : Hid (Frm (bkM b p) w w3) := hid ((HF2.out.mono (M' := bkM b p) (fun _ _ h => h.elim)).trans hj.1 (fun k _ e => by rcases e with e | e; exact .inr (.inr (.inr (.inl e))); exact .inr (.inr (.inr (.inr (.inl e))))))
  have c0' : w3.cell? ⟨b3, 0, none⟩ = some (.int .i64 r.k) := sb_cell (hj.1.heap H32.out HNBB.out.2) 0
  clear hj e
  go_wp2_with fail
  go_ret
  exact ⟨rfl, HB3.out, HF3.out⟩
end Go.Proofs.YtmacpdddimcmgaaGreatDoor
namespace Go.Proofs.YtmacpdddimcmgaaGreatDoor
set_option linter.unusedVariables false
set_option linter.unusedSimpArgs false
set_option maxRecDepth 20000
open Go.RowKit
theorem un_set : ∀ (us : List Un) (i : Nat) (u : Un), i < us.length → (us.set i u).flatMap Un.cells = (((us.flatMap Un.cells).set (i * 3) (.int .i64 u.v)).set (i * 3 + 1) (.int .i64 u.s)).set (i * 3 + 2) (.bool u.d)
  | [], i, u, h => by simp at h
  | x :: l, 0, u, h => by simp [Un.cells]
  | x :: l, i + 1, u, h => by
    rw [List.set_cons_succ, List.flatMap_cons, un_set l i u (by simpa using h), List.flatMap_cons]
    have e : ∀ (L : List Value) (k : Nat) (v : Value), (Un.cells x ++ L).set (3 + k) v = Un.cells x ++ L.set k v := fun L k v => by
      rw [List.set_append_right _ _ (by rw [un_len]; omega), un_len]
      congr 2
      omega
    rw [show (i + 1) * 3 = 3 + i * 3 by omega, show 3 + i * 3 + 1 = 3 + (i * 3 + 1) by omega, show 3 + i * 3 + 2 = 3 + (i * 3 + 2) by omega, e, e, e]
theorem un_done : ∀ (us : List Un) (i : Nat) (u : Un), us[i]? = some u → (us.set i ⟨u.v, u.s, true⟩).flatMap Un.cells = (us.flatMap Un.cells).set (i * 3 + 2) (.bool true)
  | [], i, u, h => by simp at h
  | x :: l, 0, u, h => by
    simp only [List.getElem?_cons_zero, Option.some.injEq] at h
    subst h
    simp [Un.cells]
  | x :: l, i + 1, u, h => by
    rw [List.set_cons_succ, List.flatMap_cons, un_done l i u (by simpa using h), List.flatMap_cons]
    rw [show (i + 1) * 3 + 2 = 3 + (i * 3 + 2) by omega, List.set_append_right _ _ (by rw [un_len]; omega), un_len]
    congr 2
    omega
def bkC (p : BkP) (W : Vw) (U : List Value) : List Value := .pointer (some ⟨p.tb, 0, none⟩) :: .pointer (some ⟨p.sb, 0, none⟩) :: (W.cells ++ (U ++ [p.hv]))
theorem bkC_set (p : BkP) (W : Vw) (U : List Value) (k : Nat) (v : Value) (h : k < U.length) : (bkC p W U).set (24 + k) v = bkC p W (U.set k v) := by
  show ([Value.pointer (some ⟨p.tb, 0, none⟩), Value.pointer (some ⟨p.sb, 0, none⟩)] ++ W.cells ++ (U ++ [p.hv])).set (24 + k) v = ([Value.pointer (some ⟨p.tb, 0, none⟩), Value.pointer (some ⟨p.sb, 0, none⟩)] ++ W.cells ++ (U.set k v ++ [p.hv]))
  rw [List.set_append_right _ _ (by show 24 ≤ 24 + k; omega)]
  have e : 24 + k - ([Value.pointer (some ⟨p.tb, 0, none⟩), .pointer (some ⟨p.sb, 0, none⟩)] ++ W.cells).length = k := by show 24 + k - 24 = k; omega
  rw [e, List.set_append_left _ _ h]
theorem bk_unit_set (p : BkP) (W : Vw) (us : List Un) (i : Nat) (u : Un) (h : i < us.length) :
    (((bkCells p W us).set (24 + i * 3) (.int .i64 u.v)).set (24 + i * 3 + 1) (.int .i64 u.s)).set (24 + i * 3 + 2) (.bool u.d) = bkCells p W (us.set i u) := by
  have hl : (us.flatMap Un.cells).length = us.length * 3 := els_len un_len us
  show (((bkC p W (us.flatMap Un.cells)).set (24 + i * 3) (.int .i64 u.v)).set (24 + i * 3 + 1) (.int .i64 u.s)).set (24 + i * 3 + 2) (.bool u.d) = bkC p W ((us.set i u).flatMap Un.cells)
  rw [un_set us i u h, show 24 + i * 3 + 1 = 24 + (i * 3 + 1) by omega, show 24 + i * 3 + 2 = 24 + (i * 3 + 2) by omega, bkC_set _ _ _ _ _ (by omega), bkC_set _ _ _ _ _ (by rw [List.length_set, hl]; omega), bkC_set _ _ _ _ _ (by rw [List.length_set, List.length_set, hl]; omega)]
theorem bk_unit_done (p : BkP) (W : Vw) (us : List Un) (i : Nat) (u : Un) (h : us[i]? = some u) :
    (bkCells p W us).set (24 + i * 3 + 2) (.bool true) = bkCells p W (us.set i ⟨u.v, u.s, true⟩) := by
  have hl : (us.flatMap Un.cells).length = us.length * 3 := els_len un_len us
  have hi := (List.getElem?_eq_some_iff.1 h).1
  show (bkC p W (us.flatMap Un.cells)).set (24 + i * 3 + 2) (.bool true) = bkC p W ((us.set i ⟨u.v, u.s, true⟩).flatMap Un.cells)
  rw [un_done us i u h, show 24 + i * 3 + 2 = 24 + (i * 3 + 2) by omega, bkC_set _ _ _ _ _ (by omega)]
theorem BkAt.fun0 {w w' : World} {b : Nat} {p : BkP} {B : Bk} (h : BkAt w b p B) (hf : Frm (fun k => k = b) w w') {W : Vw} {us : List Un} (hb : w'.heap[b]? = some (.cells (bkCells p W us).toArray 76 (0, 0))) (hl : us.length = 16) : BkAt w' b p { B with w := W, us := us } :=
  h.put hf hb hl h.apart
set_option maxRecDepth 20000 in
set_option maxHeartbeats 4000000 in
theorem apply_intent (b : Nat) (p : BkP) (B : Bk) (r : Rc) (w : World) (h : BkAt w b p B) (ho : B.Ok) (hT : TabS w b p) (hc : B.check r = 0) (hk : r.k = 5) :
    Calls Tryz.prog 16 #[bp b, r.val] w fun x w' => x = .returned (.int .i64 0) ∧ BkAt w' b p (B.does r) ∧ Frm (bkM b p) w w' := by
  have hun := right_unit (check_zero hc).1 (.inl hk)
  obtain ⟨j, hj⟩ : ∃ j : Nat, r.w = j := ⟨r.w.toNat, by omega⟩
  have hj16 : j < 16 := by omega
  have HJ := hid hj16
  have HJE := hid hj
  clear hj hj16 hun
  have HB := hid h
  have HOk := hid ho
  have HTS := hid hT
  have HC0 := hid hc
  have HK := hid hk
  have HV : Hid (r.val = .agg #[.int .i64 r.k, .int .i64 r.e, .int .i64 r.w, .int .i64 r.n, .int .i64 r.q, .string r.t, .int .i64 r.p.s0, .int .i64 r.p.s1, .int .i64 r.p.s2, .int .i64 r.p.s3, .int .i64 r.p.s4, .int .i64 r.p.s5, .int .i64 r.p.s6, .int .i64 r.p.s7, .int .i64 r.p.s8, .int .i64 r.p.s9, .int .i64 r.p.s10, .int .i64 r.p.s11]) := rfl
  rw [HV.out]
  have e1 := beq_no (show ¬ r.k = 1 by omega)
  have e2 := beq_no (show ¬ r.k = 2 by omega)
  have e3 := beq_no (show ¬ r.k = 3 by omega)
  have e4 := beq_no (show ¬ r.k = 4 by omega)
  have e5 := beq_yes hk
  have e7 := beq_no (show ¬ r.k = 7 by omega)
  clear h ho hT hc hk
  go_enter Tryz.func16, Tryz.ntmps16
  go_upto_region 1 with fail
  (obtain ⟨b3, hbb3⟩ : ∃ q, q = w.heap.size := ⟨_, rfl⟩); (obtain ⟨w1, hww1⟩ : ∃ q, q = w.alloc (.cells #[.int .i64 r.k, .int .i64 r.e, .int .i64 r.w, .int .i64 r.n, .int .i64 r.q, .string r.t, .int .i64 r.p.s0, .int .i64 r.p.s1, .int .i64 r.p.s2, .int .i64 r.p.s3, .int .i64 r.p.s4, .int .i64 r.p.s5, .int .i64 r.p.s6, .int .i64 r.p.s7, .int .i64 r.p.s8, .int .i64 r.p.s9, .int .i64 r.p.s10, .int .i64 r.p.s11] 37) := ⟨_, rfl⟩); have hn := new1 w (.cells #[.int .i64 r.k, .int .i64 r.e, .int .i64 r.w, .int .i64 r.n, .int .i64 r.q, .string r.t, .int .i64 r.p.s0, .int .i64 r.p.s1, .int .i64 r.p.s2, .int .i64 r.p.s3, .int .i64 r.p.s4, .int .i64 r.p.s5, .int .i64 r.p.s6, .int .i64 r.p.s7, .int .i64 r.p.s8, .int .i64 r.p.s9, .int .i64 r.p.s10, .int .i64 r.p.s11] 37); have hf := (Frm.refl M0 w).alloc (.cells #[.int .i64 r.k, .int .i64 r.e, .int .i64 r.w, .int .i64 r.n, .int .i64 r.q, .string r.t, .int .i64 r.p.s0, .int .i64 r.p.s1, .int .i64 r.p.s2, .int .i64 r.p.s3, .int .i64 r.p.s4, .int .i64 r.p.s5, .int .i64 r.p.s6, .int .i64 r.p.s7, .int .i64 r.p.s8, .int .i64 r.p.s9, .int .i64 r.p.s10, .int .i64 r.p.s11] 37); rw [← hww1] at hn hf ⊢; rw [← hbb3] at hn ⊢; clear hww1
  have HNB : Hid (¬ bkM b p b3) := hid (fun e => by have := HB.out.lt _ e; omega)
  have HB1 := hid (HB.out.frm0 hf)
  have HF1 := hid hf
  have HZ3 : Hid (w.heap.size ≤ b3) := hid (by omega)
  have H3 := hid hn
  clear hn hf hbb3
  go_wp2_with (refine wpList_load_row_w (by kernel_rfl) 37 (.tmp 3) (by with_reducible rfl) b3 (by kernel_rfl) _ _ _ _ H3.out Tryz.underlying37 rfl (by kernel_rfl) ?_)
  refine (HV.out ▸ bcheck_calls b p B r w1 HB1.out HOk.out (HTS.out _ (HF1.out.mono (fun _ _ h => h.elim)))).mono ?_
  rintro _ w2 ⟨rfl, hf⟩
  rw [HC0.out]
  have HF2 := hid (HF1.out.then0 hf)
  have HB2 := hid (HB1.out.frm0 hf)
  have H32 := hid (hf.heap H3.out (fun h => h))
  have c0 : w2.cell? ⟨b3, 0, none⟩ = some (.int .i64 r.k) := sb_cell H32.out 0
  clear hf HF1 HB1 H3 HB
  go_upto_region 17 with fail
  have HW : Hid (∀ wx, Frm (fun k => k = b) w2 wx → wx.cell? ⟨b3, 2, none⟩ = some (.int .i64 (j : Int))) := hid fun wx hx => by
    rw [← HJE.out]; exact sb_cell (hx.heap H32.out (fun e => HNB.out (.inl e))) 2
  obtain ⟨C, HC⟩ : ∃ C : Nat → List Value, Hid (C = fun c => match c with | 0 => bkCells p B.w B.us | 1 => bkCells p B.w (B.us.set j ⟨r.n, r.q, false⟩) | _ => bkCells p { B.w with seq := r.q } (B.us.set j ⟨r.n, r.q, false⟩)) := ⟨_, hid rfl⟩
  have HC0 : Hid ((((C 0).set (24 + j * 3) (.int .i64 r.n)).set (24 + j * 3 + 1) (.int .i64 r.q)).set (24 + j * 3 + 2) (.bool false) = C 1 ∧ (C 1).set 11 (.int .i64 r.q) = C 2) := by
    rw [HC.out]
    exact hid (And.intro (bk_unit_set p B.w B.us j ⟨r.n, r.q, false⟩ (by rw [HB2.out.len]; exact HJ.out)) rfl)
  have HC1 : Hid ((C 1)[11]? = some (.int .i64 B.w.seq) ∧ (C 0).length = 73) := by
    rw [HC.out]
    refine hid (And.intro rfl ?_)
    show (bkCells p B.w B.us).length = 73
    show ([Value.pointer (some ⟨p.tb, 0, none⟩), Value.pointer (some ⟨p.sb, 0, none⟩)] ++ B.w.cells ++ (B.us.flatMap Un.cells ++ [p.hv])).length = 73
    rw [List.length_append, List.length_append, List.length_append, els_len un_len, HB2.out.len]
    rfl
  have HJ0 : Hid (∀ wx, Frm M0 w2 wx → BJ b w2 C 0 wx) := hid fun wx hx => ⟨hx.mono (fun _ _ h => h.elim), by rw [HC.out]; exact hx.heap HB2.out.blk (fun h => h)⟩
  clear c0 e1 e2 e3 e4 e5
  apply wp_region_S [14, 17] (valsL (_ :: _ :: _ :: _ :: _ :: _ :: _ :: _ :: _ :: _ :: _ :: _ :: _ :: _ :: undef :: _ :: _ :: undef :: [])) (fun _ => 2) (fun _ => fun wx => Frm (fun k => k = b) w2 wx) (fun _ _ => True) (fun c _ wx => BJ b w2 C c wx) ?hm1 ?hB1 ?hU1 ?hI1 ?hG1 ?hZ1 ?main1
  case hm1 => kernel_rfl
  case hB1 => kernel_rfl
  case hU1 =>
    exact fun _ => ⟨undef, trivial⟩
  case hI1 =>
    exact fun c E wx hc hj _ _ => (fun c E wx hc hj => hj.1) c E wx hc hj
  case hG1 =>
    exact fun c E wx wy hc hj hf => hj.grow hf
  case hZ1 =>
    exact fun wx hf => HJ0.out wx hf
  rotate_left 16
  intro ops QT HO HQ
  obtain ⟨ho0, HO⟩ := HO
  refine wpS_V ho0.out rfl ?_ ?_
  · simp only [valsL_zero, valsL_succ]; apply FI_in rfl; intro wx hx
    go_simp
    exact ⟨rfl, rfl⟩
  simp only [Act.put, List.setIfInBounds_toArray, List.set_cons_zero, List.set_cons_succ, valsL_zero, valsL_succ]
  obtain ⟨ho1, HO⟩ := HO
  refine wpS_V ho1.out rfl ?_ ?_
  · simp only [valsL_zero, valsL_succ]; apply FI_in rfl; intro wx hx
    go_simp
    exact ⟨rfl, rfl⟩
  simp only [Act.put, List.setIfInBounds_toArray, List.set_cons_zero, List.set_cons_succ, valsL_zero, valsL_succ]
  obtain ⟨ho2, HO⟩ := HO
  refine wpS_V ho2.out rfl ?_ ?_
  · simp only [valsL_zero, valsL_succ]; apply FI_in rfl; intro wx hx
    have hz := HW.out wx hx
    have hc0 := sb_cell (hx.heap H32.out (fun e => HNB.out (.inl e)))
    go_simp
    exact ⟨rfl, rfl⟩
  simp only [Act.put, List.setIfInBounds_toArray, List.set_cons_zero, List.set_cons_succ, valsL_zero, valsL_succ]
  obtain ⟨ho3, HO⟩ := HO
  refine wpS_V ho3.out rfl ?_ ?_
  · simp only [valsL_zero, valsL_succ]; apply FI_in rfl; intro wx hx
    go_simp
    exact ⟨rfl, rfl⟩
  simp only [Act.put, List.setIfInBounds_toArray, List.set_cons_zero, List.set_cons_succ, valsL_zero, valsL_succ]
  obtain ⟨ho4, HO⟩ := HO
  refine wpS_V ho4.out rfl ?_ ?_
  · simp only [valsL_zero, valsL_succ]; apply FI_in rfl; intro wx hx
    go_simp
    exact ⟨rfl, rfl⟩
  simp only [Act.put, List.setIfInBounds_toArray, List.set_cons_zero, List.set_cons_succ, valsL_zero, valsL_succ]
  obtain ⟨ho5, HO⟩ := HO
  refine wpS_V ho5.out rfl ?_ ?_
  · simp only [valsL_zero, valsL_succ]; apply FI_in rfl; intro wx hx
    have hc0 := sb_cell (hx.heap H32.out (fun e => HNB.out (.inl e)))
    go_simp
    exact ⟨rfl, rfl⟩
  simp only [Act.put, List.setIfInBounds_toArray, List.set_cons_zero, List.set_cons_succ, valsL_zero, valsL_succ]
  obtain ⟨ho6, HO⟩ := HO
  refine wpS_V ho6.out rfl ?_ ?_
  · simp only [valsL_zero, valsL_succ]; apply FI_in rfl; intro wx hx
    go_simp
    exact ⟨rfl, rfl⟩
  simp only [Act.put, List.setIfInBounds_toArray, List.set_cons_zero, List.set_cons_succ, valsL_zero, valsL_succ]
  obtain ⟨ho7, HO⟩ := HO
  refine wpS_V ho7.out rfl ?_ ?_
  · simp only [valsL_zero, valsL_succ]; apply FI_in rfl; intro wx hx
    have hc0 := sb_cell (hx.heap H32.out (fun e => HNB.out (.inl e)))
    go_simp
    exact ⟨rfl, rfl⟩
  simp only [Act.put, List.setIfInBounds_toArray, List.set_cons_zero, List.set_cons_succ, valsL_zero, valsL_succ]
  obtain ⟨ho8, HO⟩ := HO
  refine wpS_V ho8.out rfl ?_ ?_
  · simp only [valsL_zero, valsL_succ]; apply FI_in rfl; intro wx hx
    go_simp
    exact ⟨rfl, rfl⟩
  simp only [Act.put, List.setIfInBounds_toArray, List.set_cons_zero, List.set_cons_succ, valsL_zero, valsL_succ]
  obtain ⟨ho9, HO⟩ := HO
  refine wpS_V ho9.out rfl ?_ ?_
  · simp only [valsL_zero, valsL_succ]; apply FI_in rfl; intro wx hx
    go_simp
    exact ⟨rfl, rfl⟩
  simp only [Act.put, List.setIfInBounds_toArray, List.set_cons_zero, List.set_cons_succ, valsL_zero, valsL_succ]
  obtain ⟨ho10, HO⟩ := HO
  refine wpS_V ho10.out rfl ?_ ?_
  · simp only [valsL_zero, valsL_succ]; apply FI_in rfl; intro wx hx
    have hc0 := sb_cell (hx.heap H32.out (fun e => HNB.out (.inl e)))
    go_simp
    exact ⟨rfl, rfl⟩
  simp only [Act.put, List.setIfInBounds_toArray, List.set_cons_zero, List.set_cons_succ, valsL_zero, valsL_succ]
  obtain ⟨ho11, HO⟩ := HO
  refine wpS_V ho11.out rfl ?_ ?_
  · simp only [valsL_zero, valsL_succ]; apply FI_in rfl; intro wx hx
    go_simp
    exact ⟨rfl, rfl⟩
  simp only [Act.put, List.setIfInBounds_toArray, List.set_cons_zero, List.set_cons_succ, valsL_zero, valsL_succ]
  obtain ⟨ho12, HO⟩ := HO
  refine wpS_V ho12.out rfl ?_ ?_
  · simp only [valsL_zero, valsL_succ]; apply FI_in rfl; intro wx hx
    go_simp
    exact ⟨rfl, rfl⟩
  simp only [Act.put, List.setIfInBounds_toArray, List.set_cons_zero, List.set_cons_succ, valsL_zero, valsL_succ]
  obtain ⟨ho13, HO⟩ := HO
  refine wpS_V ho13.out rfl ?_ ?_
  · simp only [valsL_zero, valsL_succ]; apply FI_in rfl; intro wx hx
    have hq : (j : Int) < 16 := (by have := HJ.out; omega)
    go_simp
    exact ⟨rfl, rfl⟩
  simp only [Act.put, List.setIfInBounds_toArray, List.set_cons_zero, List.set_cons_succ, valsL_zero, valsL_succ]
  obtain ⟨ho14, HO⟩ := HO
  refine wpS_W (c := 0) ho14.out rfl (FW_in rfl fun wx hx => ?_) fun u14 g14 => ?_
  · refine wu_store_at 46 (.tmp 100) (.tmp 95) rfl b (24 + j * 3) (by kernel_rfl) #[.int .i64 r.n, .int .i64 r.q, .bool false] (by kernel_rfl) _ (C 0).toArray hx.2 (by kernel_rfl) (by show 24 + j * 3 + 3 ≤ (C 0).length; rw [HC1.out.2]; have := HJ.out; omega) (by simp [Value.oneCell']) ?_
    intro w' hh hf
    refine ⟨trivial, hx.1.same hf, ?_⟩
    rw [hh, ← HC0.out.1]
    congr 2
    show ((((C 0).toArray.setIfInBounds (24 + j * 3) (.int .i64 r.n)).setIfInBounds (24 + j * 3 + 1) (.int .i64 r.q)).setIfInBounds (24 + j * 3 + 1 + 1) (.bool false)) = _
    simp
  simp only [Act.put, List.setIfInBounds_toArray, List.set_cons_zero, List.set_cons_succ, valsL_zero, valsL_succ]
  obtain ⟨ho15, HO⟩ := HO
  refine wpS_V ho15.out rfl ?_ ?_
  · simp only [valsL_zero, valsL_succ]; apply FI_in rfl; intro wx hx
    go_simp
    exact ⟨rfl, rfl⟩
  simp only [Act.put, List.setIfInBounds_toArray, List.set_cons_zero, List.set_cons_succ, valsL_zero, valsL_succ]
  obtain ⟨ho16, HO⟩ := HO
  refine wpS_V ho16.out rfl ?_ ?_
  · simp only [valsL_zero, valsL_succ]; apply FI_in rfl; intro wx hx
    go_simp
    exact ⟨rfl, rfl⟩
  simp only [Act.put, List.setIfInBounds_toArray, List.set_cons_zero, List.set_cons_succ, valsL_zero, valsL_succ]
  obtain ⟨ho17, HO⟩ := HO
  refine wpS_W (c := 1) ho17.out rfl (FW_in rfl fun wx hx => ?_) fun u17 g17 => ?_
  · have hc := (hx.cell 11).trans HC1.out.1
    have hz := hx.free 11
    go_simp
    exact hx.step 11 _ HC0.out.2
  simp only [Act.put, List.setIfInBounds_toArray, List.set_cons_zero, List.set_cons_succ, valsL_zero, valsL_succ]
  refine HQ.out _ _ ?_
  intro w3 hj
  clear HQ HO ho0 ho1 ho2 ho3 ho4 ho5 ho6 ho7 ho8 ho9 ho10 ho11 ho12 ho13 ho14 ho15 ho16 ho17
  have e : B.does r = { B with w := { B.w with seq := r.q }, us := B.us.set j ⟨r.n, r.q, false⟩ } := by
    have ej : r.w.toNat = j := by rw [HJE.out]; rfl
    unfold Bk.does
    rw [if_neg (by have := HK.out; omega), if_neg (by have := HK.out; omega), if_neg (by have := HK.out; omega), if_neg (by have := HK.out; omega), if_pos HK.out, ej]
  have HB3 : Hid (BkAt w3 b p (B.does r)) := by
    rw [e]
    exact hid (HB2.out.fun0 hj.1 (by have := hj.2; rw [HC.out] at this; exact this) (by rw [List.length_set]; exact HB2.out.len))
  have HF3 : Hid (Frm (bkM b p) w w3) := hid ((HF2.out.mono (M' := bkM b p) (fun _ _ h => h.elim)).trans hj.1 (fun k _ e => .inl e))
  have c0' : w3.cell? ⟨b3, 0, none⟩ = some (.int .i64 r.k) := sb_cell (hj.1.heap H32.out (fun e => HNB.out (.inl e))) 0
  have e3' := beq_no (show ¬ r.k = 3 by have := HK.out; omega)
  have e4' := beq_no (show ¬ r.k = 4 by have := HK.out; omega)
  have e7' := beq_no (show ¬ r.k = 7 by have := HK.out; omega)
  clear hj e HJ0 HC0 HC1 HC HW
  go_wp2_with fail
  go_ret
  exact ⟨rfl, HB3.out, HF3.out⟩
end Go.Proofs.YtmacpdddimcmgaaGreatDoor
namespace Go.Proofs.YtmacpdddimcmgaaGreatDoor
set_option linter.unusedVariables false
set_option linter.unusedSimpArgs false
set_option maxRecDepth 20000
open Go.RowKit
set_option maxRecDepth 20000 in
set_option maxHeartbeats 4000000 in
theorem apply_ack (b : Nat) (p : BkP) (B : Bk) (r : Rc) (w : World) (h : BkAt w b p B) (ho : B.Ok) (hT : TabS w b p) (hc : B.check r = 0) (hk : r.k = 6) :
    Calls Tryz.prog 16 #[bp b, r.val] w fun x w' => x = .returned (.int .i64 0) ∧ BkAt w' b p (B.does r) ∧ Frm (bkM b p) w w' := by
  have hun := right_unit (check_zero hc).1 (.inr hk)
  obtain ⟨j, hj⟩ : ∃ j : Nat, r.w = j := ⟨r.w.toNat, by omega⟩
  have hj16 : j < 16 := by omega
  have HJ := hid hj16
  have HJE := hid hj
  obtain ⟨u, hu⟩ : ∃ u, B.us[j]? = some u := ⟨_, List.getElem?_eq_getElem (by rw [h.len]; exact hj16)⟩
  have HU := hid hu
  have hug : B.us.getD j ⟨0, 0, true⟩ = u := by rw [List.getD_eq_getElem?_getD, hu]; rfl
  have HUG := hid hug
  clear hj hj16 hun hu hug
  have HB := hid h
  have HOk := hid ho
  have HTS := hid hT
  have HC0 := hid hc
  have HK := hid hk
  have HV : Hid (r.val = .agg #[.int .i64 r.k, .int .i64 r.e, .int .i64 r.w, .int .i64 r.n, .int .i64 r.q, .string r.t, .int .i64 r.p.s0, .int .i64 r.p.s1, .int .i64 r.p.s2, .int .i64 r.p.s3, .int .i64 r.p.s4, .int .i64 r.p.s5, .int .i64 r.p.s6, .int .i64 r.p.s7, .int .i64 r.p.s8, .int .i64 r.p.s9, .int .i64 r.p.s10, .int .i64 r.p.s11]) := rfl
  rw [HV.out]
  have e1 := beq_no (show ¬ r.k = 1 by omega)
  have e2 := beq_no (show ¬ r.k = 2 by omega)
  have e3 := beq_no (show ¬ r.k = 3 by omega)
  have e4 := beq_no (show ¬ r.k = 4 by omega)
  have e5 := beq_no (show ¬ r.k = 5 by omega)
  have e6 := beq_yes hk
  have e7 := beq_no (show ¬ r.k = 7 by omega)
  clear h ho hT hc hk
  go_enter Tryz.func16, Tryz.ntmps16
  go_upto_region 1 with fail
  (obtain ⟨b3, hbb3⟩ : ∃ q, q = w.heap.size := ⟨_, rfl⟩); (obtain ⟨w1, hww1⟩ : ∃ q, q = w.alloc (.cells #[.int .i64 r.k, .int .i64 r.e, .int .i64 r.w, .int .i64 r.n, .int .i64 r.q, .string r.t, .int .i64 r.p.s0, .int .i64 r.p.s1, .int .i64 r.p.s2, .int .i64 r.p.s3, .int .i64 r.p.s4, .int .i64 r.p.s5, .int .i64 r.p.s6, .int .i64 r.p.s7, .int .i64 r.p.s8, .int .i64 r.p.s9, .int .i64 r.p.s10, .int .i64 r.p.s11] 37) := ⟨_, rfl⟩); have hn := new1 w (.cells #[.int .i64 r.k, .int .i64 r.e, .int .i64 r.w, .int .i64 r.n, .int .i64 r.q, .string r.t, .int .i64 r.p.s0, .int .i64 r.p.s1, .int .i64 r.p.s2, .int .i64 r.p.s3, .int .i64 r.p.s4, .int .i64 r.p.s5, .int .i64 r.p.s6, .int .i64 r.p.s7, .int .i64 r.p.s8, .int .i64 r.p.s9, .int .i64 r.p.s10, .int .i64 r.p.s11] 37); have hf := (Frm.refl M0 w).alloc (.cells #[.int .i64 r.k, .int .i64 r.e, .int .i64 r.w, .int .i64 r.n, .int .i64 r.q, .string r.t, .int .i64 r.p.s0, .int .i64 r.p.s1, .int .i64 r.p.s2, .int .i64 r.p.s3, .int .i64 r.p.s4, .int .i64 r.p.s5, .int .i64 r.p.s6, .int .i64 r.p.s7, .int .i64 r.p.s8, .int .i64 r.p.s9, .int .i64 r.p.s10, .int .i64 r.p.s11] 37); rw [← hww1] at hn hf ⊢; rw [← hbb3] at hn ⊢; clear hww1
  have HNB : Hid (¬ bkM b p b3) := hid (fun e => by have := HB.out.lt _ e; omega)
  have HB1 := hid (HB.out.frm0 hf)
  have HF1 := hid hf
  have HZ3 : Hid (w.heap.size ≤ b3) := hid (by omega)
  have H3 := hid hn
  clear hn hf hbb3
  go_wp2_with (refine wpList_load_row_w (by kernel_rfl) 37 (.tmp 3) (by with_reducible rfl) b3 (by kernel_rfl) _ _ _ _ H3.out Tryz.underlying37 rfl (by kernel_rfl) ?_)
  refine (HV.out ▸ bcheck_calls b p B r w1 HB1.out HOk.out (HTS.out _ (HF1.out.mono (fun _ _ h => h.elim)))).mono ?_
  rintro _ w2 ⟨rfl, hf⟩
  rw [HC0.out]
  have HF2 := hid (HF1.out.then0 hf)
  have HB2 := hid (HB1.out.frm0 hf)
  have H32 := hid (hf.heap H3.out (fun h => h))
  have c0 : w2.cell? ⟨b3, 0, none⟩ = some (.int .i64 r.k) := sb_cell H32.out 0
  clear hf HF1 HB1 H3 HB
  go_upto_region 19 with fail
  have HW : Hid (∀ wx, Frm M0 w2 wx → wx.cell? ⟨b3, 2, none⟩ = some (.int .i64 (j : Int))) := hid fun wx hx => by
    rw [← HJE.out]; exact sb_cell (hx.heap H32.out (fun h => h)) 2
  clear c0 e1 e2 e3 e4 e5 e6
  apply wp_region_G 7 (fun _ => none) (valsL (_ :: _ :: _ :: _ :: _ :: _ :: _ :: [])) ?hm1 ?hB1 ?hal1 ?main1
  case hm1 => kernel_rfl
  case hB1 => kernel_rfl
  case hal1 =>
    intro i o obj ho hi
    cases hi
  rotate_left 7
  intro ops QT HO HQ
  obtain ⟨ho0, HO⟩ := HO
  refine wpG_v ho0.out rfl ?_ ?_
  · simp only [valsL_zero, valsL_succ]; apply FY_in rfl; intro wx hx
    go_simp
    exact ⟨rfl, rfl⟩
  simp only [Act.put, List.setIfInBounds_toArray, List.set_cons_zero, List.set_cons_succ, valsL_zero, valsL_succ]
  obtain ⟨ho1, HO⟩ := HO
  refine wpG_v ho1.out rfl ?_ ?_
  · simp only [valsL_zero, valsL_succ]; apply FY_in rfl; intro wx hx
    go_simp
    exact ⟨rfl, rfl⟩
  simp only [Act.put, List.setIfInBounds_toArray, List.set_cons_zero, List.set_cons_succ, valsL_zero, valsL_succ]
  obtain ⟨ho2, HO⟩ := HO
  refine wpG_v ho2.out rfl ?_ ?_
  · simp only [valsL_zero, valsL_succ]; apply FY_in rfl; intro wx hx
    have hz := HW.out wx hx
    have hc0 := sb_cell (hx.heap H32.out (fun h => h))
    go_simp
    exact ⟨rfl, rfl⟩
  simp only [Act.put, List.setIfInBounds_toArray, List.set_cons_zero, List.set_cons_succ, valsL_zero, valsL_succ]
  obtain ⟨ho3, HO⟩ := HO
  refine wpG_v ho3.out rfl ?_ ?_
  · simp only [valsL_zero, valsL_succ]; apply FY_in rfl; intro wx hx
    go_simp
    exact ⟨rfl, rfl⟩
  simp only [Act.put, List.setIfInBounds_toArray, List.set_cons_zero, List.set_cons_succ, valsL_zero, valsL_succ]
  obtain ⟨ho4, HO⟩ := HO
  refine wpG_v ho4.out rfl ?_ ?_
  · simp only [valsL_zero, valsL_succ]; apply FY_in rfl; intro wx hx
    go_simp
    exact ⟨rfl, rfl⟩
  simp only [Act.put, List.setIfInBounds_toArray, List.set_cons_zero, List.set_cons_succ, valsL_zero, valsL_succ]
  obtain ⟨ho5, HO⟩ := HO
  refine wpG_v ho5.out rfl ?_ ?_
  · simp only [valsL_zero, valsL_succ]; apply FY_in rfl; intro wx hx
    have hq : (j : Int) < 16 := (by have := HJ.out; omega)
    go_simp
    exact ⟨rfl, rfl⟩
  simp only [Act.put, List.setIfInBounds_toArray, List.set_cons_zero, List.set_cons_succ, valsL_zero, valsL_succ]
  obtain ⟨ho6, HO⟩ := HO
  refine wpG_v ho6.out rfl ?_ ?_
  · simp only [valsL_zero, valsL_succ]; apply FY_in rfl; intro wx hx
    go_simp
    exact ⟨rfl, rfl⟩
  simp only [Act.put, List.setIfInBounds_toArray, List.set_cons_zero, List.set_cons_succ, valsL_zero, valsL_succ]
  refine HQ.out _ _ ?_
  intro w3 hf hE hN
  simp only [List.drop_succ_cons, List.drop_zero]
  clear HQ HO hE hN ho0 ho1 ho2 ho3 ho4 ho5 ho6
  have HF3 := hid (HF2.out.then0 hf)
  have HB3 := hid (HB2.out.frm0 hf)
  have H33 := hid (hf.heap H32.out (fun h => h))
  clear hf
  have hcell : w3.cell? ⟨b, 24 + j * 3 + 2, none⟩ = some (.bool u.d) := by
    rw [Nat.add_assoc]
    refine HB3.out.unit HJ.out 2 _ ?_
    rw [HUG.out]; rfl
  have hfree := HB3.out.free (24 + j * 3 + 2)
  go_upto_region 22 with fail
  obtain ⟨w4, hw4⟩ : ∃ q, q = w3.setCell ⟨b, 24 + j * 3 + 2, none⟩ (.bool true) := ⟨_, rfl⟩
  have hn := heap_set_at (o := 24 + j * 3 + 2) HB3.out.blk (.bool true)
  have hf : Frm (fun k => k = b) w3 (w3.setCell ⟨b, 24 + j * 3 + 2, none⟩ (.bool true)) := (Frm.refl _ _).put b _ _ (fun _ => rfl)
  rw [← hw4] at hn hf ⊢
  have e : B.does r = { B with w := B.w, us := B.us.set j ⟨u.v, u.s, true⟩ } := by
    have ej : r.w.toNat = j := by rw [HJE.out]; rfl
    have eu : B.unit r.w = u := by unfold Bk.unit; rw [ej, HUG.out]
    unfold Bk.does
    rw [if_neg (by have := HK.out; omega), if_neg (by have := HK.out; omega), if_neg (by have := HK.out; omega), if_neg (by have := HK.out; omega), if_neg (by have := HK.out; omega), if_pos HK.out, ej, eu]
  have HB4 : Hid (BkAt w4 b p (B.does r)) := by
    rw [e]
    refine hid (HB3.out.fun0 hf ?_ (by rw [List.length_set]; exact HB3.out.len))
    rw [hn, ← bk_unit_done p B.w B.us j u HU.out]
    congr 2
    simp
  have HF4 : Hid (Frm (bkM b p) w w4) := hid ((HF3.out.mono (M' := bkM b p) (fun _ _ h => h.elim)).trans hf (fun k _ e => .inl e))
  have c0' : w4.cell? ⟨b3, 0, none⟩ = some (.int .i64 r.k) := sb_cell (hf.heap H33.out (fun e => HNB.out (.inl e))) 0
  have e3' := beq_no (show ¬ r.k = 3 by have := HK.out; omega)
  have e4' := beq_no (show ¬ r.k = 4 by have := HK.out; omega)
  have e7' := beq_no (show ¬ r.k = 7 by have := HK.out; omega)
  clear hf hn e hw4 hcell hfree
  go_wp2_with fail
  go_ret
  exact ⟨rfl, HB4.out, HF4.out⟩
end Go.Proofs.YtmacpdddimcmgaaGreatDoor
namespace Go.Proofs.YtmacpdddimcmgaaGreatDoor
set_option linter.unusedVariables false
set_option linter.unusedSimpArgs false
set_option maxRecDepth 20000
open Go.RowKit
structure HJ (w0 : World) (b : Nat) (p : BkP) (W : Vw) (us : List Un) (n : Nat) (xs : List Value) (cs : Array Value) (c : Nat) (E : Nat → Value) (wx : World) : Prop where
  f : Frm (fun k => k = b ∨ p.hv.ownBlock = some k) w0 wx
  f0 : c ≤ 1 → Frm M0 w0 wx
  g : c = 1 → ∃ g, E 6 = .slice (some ⟨g, 0, none⟩) 1 1 ∧ wx.heap[g]? = some (.cells cs 37 (0, 0))
  o : 2 ≤ c → Ow wx 37 18 (E 7) (n + 1) (xs ++ cs.toList) ∧ (∀ k, (E 7).ownBlock = some k → p.hv.ownBlock = some k ∨ w0.heap.size ≤ k)
  b2 : c ≤ 2 → wx.heap[b]? = some (.cells (bkCells p W us).toArray 76 (0, 0))
  b3 : c = 3 → wx.heap[b]? = some (.cells (bkCells { p with hv := E 7 } W us).toArray 76 (0, 0))
section
variable {w0 wx wy : World} {b : Nat} {p : BkP} {W : Vw} {us : List Un} {n : Nat} {xs : List Value} {cs : Array Value} {c : Nat} {E : Nat → Value}
theorem HJ.grow (h : HJ w0 b p W us n xs cs c E wx) (hf : Frm M0 wx wy) : HJ w0 b p W us n xs cs c E wy where
  f := h.f.then0 hf
  f0 hc := (h.f0 hc).then0 hf
  g hc := by obtain ⟨g, h1, h2⟩ := h.g hc; exact ⟨g, h1, hf.heap h2 (fun h => h)⟩
  o hc := ⟨(h.o hc).1.frm hf (fun _ _ h => h), (h.o hc).2⟩
  b2 hc := hf.heap (h.b2 hc) (fun h => h)
  b3 hc := hf.heap (h.b3 hc) (fun h => h)
theorem HJ.first (hb : w0.heap[b]? = some (.cells (bkCells p W us).toArray 76 (0, 0))) (hf : Frm M0 w0 wx) : HJ w0 b p W us n xs cs 0 E wx where
  f := hf.mono (fun _ _ h => h.elim)
  f0 _ := hf
  g hc := by cases hc
  o hc := by omega
  b2 _ := hf.heap hb (fun h => h)
  b3 hc := by cases hc
theorem HJ.next1 (h : HJ w0 b p W us n xs cs 0 E wx) : HJ w0 b p W us n xs cs 1 (updV E 6 (.slice (some ⟨wx.heap.size, 0, none⟩) 1 1)) (wx.alloc (.cells cs 37)) where
  f := h.f.alloc _
  f0 _ := (h.f0 (by omega)).alloc _
  g _ := ⟨wx.heap.size, rfl, new1 wx _⟩
  o hc := by omega
  b2 _ := ((Frm.refl M0 wx).alloc _).heap (h.b2 (by omega)) (fun h => h)
  b3 hc := by cases hc
theorem HJ.next2 (h : HJ w0 b p W us n xs cs 1 E wx) (hcs : cs.size = 18) (h1 : ∀ u ∈ cs.toList, u.oneCell' = true) (how : Ow w0 37 18 p.hv n xs) (hn : n ≤ 100) (hbh : p.hv.ownBlock ≠ some b) (hbl : b < w0.heap.size) :
    ∃ v' w', (Builtin.append_ #[22, 22] 22 #[p.hv, E 6]).run Tryz.prog wx = .ok v' w' ∧ HJ w0 b p W us n xs cs 2 (updV E 7 v') w' := by
  obtain ⟨g, hg, hh⟩ := h.g rfl
  have hf0 := h.f0 (by omega)
  have how' := how.frm hf0 (fun _ _ h => h)
  obtain ⟨i, hi, hz, hsize, hby⟩ := info_parts infoR
  obtain ⟨v', w', hr, h2, h3, h4⟩ := run_append_ow (P := Tryz.prog) 22 22 i _ 152 Tryz.underlying22 hi hz hsize hby rfl (by decide) how' ⟨g, 0, none⟩ 1 1 cs.toList (by rw [Array.length_toList, hcs]) (fun j u hu => by
    rw [add_none, Nat.zero_add, sb_cell hh, ← Array.getElem?_toList]; exact hu) h1 (by unfold maxLen; omega) (by omega)
  rw [hg]
  refine ⟨v', w', hr, ?_⟩
  have hfr : Frm (fun k => p.hv.ownBlock = some k) w0 w' := (hf0.mono (M' := fun k => p.hv.ownBlock = some k) (fun _ _ h => h.elim)).grown h3 (fun k hk _ => hk)
  exact {
    f := hfr.mono (fun k _ e => .inr e)
    f0 := fun hc => by omega
    g := fun hc => by cases hc
    o := fun _ => ⟨h2, fun k hk => by
      rcases h4 k hk with e | e
      · exact .inl e
      · exact .inr (Nat.le_trans hf0.size e)⟩
    b2 := fun _ => by
      have hb := h.b2 (by omega)
      have hbx : b < wx.heap.size := sb_lt hb
      rw [h3.block b hbx (fun e => hbh e.symm)]
      exact hb
    b3 := fun hc => by cases hc }
theorem HJ.next3 (h : HJ w0 b p W us n xs cs 2 E wx) (hl : us.length = 16) (E' : Nat → Value) (he : E' 7 = E 7) (hne : ∀ k, (E 7).ownBlock = some k → k ≠ b) : HJ w0 b p W us n xs cs 3 E' (wx.setCell ⟨b, 72, none⟩ (E 7)) where
  f := h.f.put b 72 _ (fun _ => .inl rfl)
  f0 hc := by omega
  g hc := by cases hc
  o _ := by
    obtain ⟨h1, h2⟩ := h.o (by omega)
    rw [he]
    have hf : Frm (fun k => k = b) wx (wx.setCell ⟨b, 72, none⟩ (E 7)) := (Frm.refl _ _).put b 72 _ (fun _ => rfl)
    exact ⟨h1.frm hf (fun k hk e => hne k hk e), h2⟩
  b2 hc := by omega
  b3 _ := by
    rw [heap_set_at (h.b2 (by omega)), he]
    congr 2
    rw [List.setIfInBounds_toArray]
    congr 1
    have hfl : (us.flatMap Un.cells).length = 48 := by rw [els_len un_len, hl]
    show ([Value.pointer (some ⟨p.tb, 0, none⟩), Value.pointer (some ⟨p.sb, 0, none⟩)] ++ W.cells ++ (us.flatMap Un.cells ++ [p.hv])).set 72 (E 7) = [Value.pointer (some ⟨p.tb, 0, none⟩), Value.pointer (some ⟨p.sb, 0, none⟩)] ++ W.cells ++ (us.flatMap Un.cells ++ [E 7])
    rw [List.set_append_right _ _ (by show 24 ≤ 72; omega)]
    have e : 72 - ([Value.pointer (some ⟨p.tb, 0, none⟩), .pointer (some ⟨p.sb, 0, none⟩)] ++ W.cells).length = 48 := rfl
    rw [e, List.set_append_right _ _ (by omega), hfl]
    rfl
end
theorem BkAt.rehist {w w' : World} {b : Nat} {p : BkP} {B : Bk} {v : Value} {l : List Rc} {M : Nat → Prop} (h : BkAt w b p B) (hf : Frm M w w') (hm : ∀ k, M k → k = b ∨ p.hv.ownBlock = some k) (hb : w'.heap[b]? = some (.cells (bkCells { p with hv := v } B.w B.us).toArray 76 (0, 0)))
    (ho : Ow w' 37 18 v l.length (l.flatMap Rc.cells)) : BkAt w' b { p with hv := v } { B with h := l } := by
  have ha := h.apart
  have ha2 := h.apart2
  have key : ∀ k, (k = p.tb ∨ k = p.TB ∨ k = p.sb ∨ k = p.SB) → ¬ M k := by
    intro k hk hmk
    rcases hm k hmk with e | e
    · subst e
      rcases hk with e | e | e | e
      · exact ha.1 e
      · exact ha.2.1 e
      · exact ha.2.2.1 e
      · exact ha.2.2.2.1 e
    · have := ha2.2.2.2 k e
      rcases hk with e | e | e | e
      · exact this.1 e
      · exact this.2.1 e
      · exact this.2.2.1 e
      · exact this.2.2.2 e
  exact ⟨hb, h.tab.frm hf (key _ (.inl rfl)) (key _ (.inr (.inl rfl))), h.sto.frm hf (key _ (.inr (.inr (.inl rfl)))) (key _ (.inr (.inr (.inr rfl)))), ho, h.len, h.dis⟩
end Go.Proofs.YtmacpdddimcmgaaGreatDoor
namespace Go.Proofs.YtmacpdddimcmgaaGreatDoor
set_option linter.unusedVariables false
set_option linter.unusedSimpArgs false
set_option maxRecDepth 20000
open Go.RowKit
theorem bk_hist (p : BkP) (W : Vw) (us : List Un) (hl : us.length = 16) : (bkCells p W us)[72]? = some p.hv := by
  rw [show (72 : Nat) = 24 + 48 from rfl, bk_units, List.getElem?_append_right (by rw [els_len un_len, hl]; exact Nat.le_refl _), els_len un_len, hl]
  rfl
theorem wu_append {P : Program} {op : Oper} {a : Act} {wx w' : World} {K : Value → World → Prop} (s x : Operand) (t : TypeId) (ho : op.op = .call { callee := .builtin .append, args := #[s, x], argTypes := #[t, t] }) (v u : Value) (hs : a.eval s = v) (hx : a.eval x = u) {v' : Value}
    (hr : (Builtin.append_ #[t, t] op.type #[v, u]).run P wx = .ok v' w') (h : K v' w') : WUpon P K ((execOp a.eval op).run P wx) := by
  simp [execOp, ho, resolve, invoke, builtin, hs, hx, hr, Result.andThen]
  exact h
theorem BkAt.sethist {w : World} {b : Nat} {p : BkP} {B : Bk} (h : BkAt w b p B) (v : Value) (l : List Rc) (ho : Ow w 37 18 v l.length (l.flatMap Rc.cells)) (hne : v.ownBlock ≠ some b) : BkAt (w.setCell ⟨b, 72, none⟩ v) b { p with hv := v } { B with h := l } := by
  have hf : Frm (fun k => k = b) w (w.setCell ⟨b, 72, none⟩ v) := (Frm.refl _ _).put b 72 _ (fun _ => rfl)
  refine h.rehist hf (fun k e => .inl e) ?_ (ho.frm hf (fun k hk e => hne (by have e : k = b := e; rw [← e]; exact hk)))
  rw [heap_set_at h.blk]
  congr 2
  rw [List.setIfInBounds_toArray]
  congr 1
  have hfl : (B.us.flatMap Un.cells).length = 48 := by rw [els_len un_len, h.len]
  show ([Value.pointer (some ⟨p.tb, 0, none⟩), Value.pointer (some ⟨p.sb, 0, none⟩)] ++ B.w.cells ++ (B.us.flatMap Un.cells ++ [p.hv])).set 72 v = [Value.pointer (some ⟨p.tb, 0, none⟩), Value.pointer (some ⟨p.sb, 0, none⟩)] ++ B.w.cells ++ (B.us.flatMap Un.cells ++ [v])
  rw [List.set_append_right _ _ (by show 24 ≤ 72; omega)]
  have e : 72 - ([Value.pointer (some ⟨p.tb, 0, none⟩), .pointer (some ⟨p.sb, 0, none⟩)] ++ B.w.cells).length = 48 := rfl
  rw [e, List.set_append_right _ _ (by omega), hfl]
  rfl
abbrev Took (b : Nat) (p : BkP) (B : Bk) (w : World) (x : Ending) (w' : World) : Prop :=
  x = .returned (.int .i64 0) ∧ ∃ hv', BkAt w' b { p with hv := hv' } B ∧ Frm (bkM b p) w w' ∧ ∀ k, hv'.ownBlock = some k → p.hv.ownBlock = some k ∨ w.heap.size ≤ k
set_option maxRecDepth 20000 in
set_option maxHeartbeats 4000000 in
theorem apply_step (b : Nat) (p : BkP) (B : Bk) (r : Rc) (w : World) (h : BkAt w b p B) (ho : B.Ok) (hT : TabS w b p) (hc : B.check r = 0) (hk : r.k = 7) :
    Calls Tryz.prog 16 #[bp b, r.val] w fun x w' => Took b p (B.does r) w x w' := by
  have HB := hid h
  have HOk := hid ho
  have HTS := hid hT
  have HC0 := hid hc
  have HK := hid hk
  have HV : Hid (r.val = .agg #[.int .i64 r.k, .int .i64 r.e, .int .i64 r.w, .int .i64 r.n, .int .i64 r.q, .string r.t, .int .i64 r.p.s0, .int .i64 r.p.s1, .int .i64 r.p.s2, .int .i64 r.p.s3, .int .i64 r.p.s4, .int .i64 r.p.s5, .int .i64 r.p.s6, .int .i64 r.p.s7, .int .i64 r.p.s8, .int .i64 r.p.s9, .int .i64 r.p.s10, .int .i64 r.p.s11]) := rfl
  rw [HV.out]
  have e1 := beq_no (show ¬ r.k = 1 by omega)
  have e2 := beq_no (show ¬ r.k = 2 by omega)
  have e3 := beq_no (show ¬ r.k = 3 by omega)
  have e4 := beq_no (show ¬ r.k = 4 by omega)
  have e5 := beq_no (show ¬ r.k = 5 by omega)
  have e6 := beq_no (show ¬ r.k = 6 by omega)
  have e7 := beq_yes hk
  clear h ho hT hc hk
  go_enter Tryz.func16, Tryz.ntmps16
  go_upto_region 1 with fail
  (obtain ⟨b3, hbb3⟩ : ∃ q, q = w.heap.size := ⟨_, rfl⟩); (obtain ⟨w1, hww1⟩ : ∃ q, q = w.alloc (.cells #[.int .i64 r.k, .int .i64 r.e, .int .i64 r.w, .int .i64 r.n, .int .i64 r.q, .string r.t, .int .i64 r.p.s0, .int .i64 r.p.s1, .int .i64 r.p.s2, .int .i64 r.p.s3, .int .i64 r.p.s4, .int .i64 r.p.s5, .int .i64 r.p.s6, .int .i64 r.p.s7, .int .i64 r.p.s8, .int .i64 r.p.s9, .int .i64 r.p.s10, .int .i64 r.p.s11] 37) := ⟨_, rfl⟩); have hn := new1 w (.cells #[.int .i64 r.k, .int .i64 r.e, .int .i64 r.w, .int .i64 r.n, .int .i64 r.q, .string r.t, .int .i64 r.p.s0, .int .i64 r.p.s1, .int .i64 r.p.s2, .int .i64 r.p.s3, .int .i64 r.p.s4, .int .i64 r.p.s5, .int .i64 r.p.s6, .int .i64 r.p.s7, .int .i64 r.p.s8, .int .i64 r.p.s9, .int .i64 r.p.s10, .int .i64 r.p.s11] 37); have hf := (Frm.refl M0 w).alloc (.cells #[.int .i64 r.k, .int .i64 r.e, .int .i64 r.w, .int .i64 r.n, .int .i64 r.q, .string r.t, .int .i64 r.p.s0, .int .i64 r.p.s1, .int .i64 r.p.s2, .int .i64 r.p.s3, .int .i64 r.p.s4, .int .i64 r.p.s5, .int .i64 r.p.s6, .int .i64 r.p.s7, .int .i64 r.p.s8, .int .i64 r.p.s9, .int .i64 r.p.s10, .int .i64 r.p.s11] 37); rw [← hww1] at hn hf ⊢; rw [← hbb3] at hn ⊢; clear hww1
  have HNB : Hid (¬ bkM b p b3) := hid (fun e => by have := HB.out.lt _ e; omega)
  have HB1 := hid (HB.out.frm0 hf)
  have HF1 := hid hf
  have HZ3 : Hid (w.heap.size ≤ b3) := hid (by omega)
  have H3 := hid hn
  clear hn hf hbb3
  go_wp2_with (refine wpList_load_row_w (by kernel_rfl) 37 (.tmp 3) (by with_reducible rfl) b3 (by kernel_rfl) _ _ _ _ H3.out Tryz.underlying37 rfl (by kernel_rfl) ?_)
  refine (HV.out ▸ bcheck_calls b p B r w1 HB1.out HOk.out (HTS.out _ (HF1.out.mono (fun _ _ h => h.elim)))).mono ?_
  rintro _ w2 ⟨rfl, hf⟩
  rw [HC0.out]
  have HF2 := hid (HF1.out.then0 hf)
  have HB2 := hid (HB1.out.frm0 hf)
  have H32 := hid (hf.heap H3.out (fun h => h))
  have c0 : w2.cell? ⟨b3, 0, none⟩ = some (.int .i64 r.k) := sb_cell H32.out 0
  clear hf HF1 HB1 H3 HB
  go_upto_region 21 with fail
  clear c0 e1 e2 e3 e4 e5 e6 e7
  obtain ⟨C, HC⟩ : ∃ C : Nat → List Value, Hid (C = fun c => match c with | 0 => bkCells p B.w B.us | 1 => bkCells p { B.w with step := r.w } B.us | _ => bkCells p { B.w with step := r.w, since := r.n } B.us) := ⟨_, hid rfl⟩
  have HC0 : Hid ((C 0).set 8 (.int .i64 r.w) = C 1 ∧ (C 1).set 9 (.int .i64 r.n) = C 2) := by rw [HC.out]; exact hid ⟨rfl, rfl⟩
  have HC1 : Hid ((C 0)[8]? = some (.int .i64 B.w.step) ∧ (C 1)[9]? = some (.int .i64 B.w.since)) := by rw [HC.out]; exact hid ⟨rfl, rfl⟩
  have HJ0 : Hid (∀ wx, Frm M0 w2 wx → BJ b w2 C 0 wx) := hid fun wx hx => ⟨hx.mono (fun _ _ h => h.elim), by rw [HC.out]; exact hx.heap HB2.out.blk (fun h => h)⟩
  apply wp_region_S [8, 11] (valsL (_ :: _ :: _ :: _ :: _ :: _ :: _ :: _ :: undef :: _ :: _ :: undef :: [])) (fun _ => 2) (fun _ => fun wx => Frm (fun k => k = b) w2 wx) (fun _ _ => True) (fun c _ wx => BJ b w2 C c wx) ?hm1 ?hB1 ?hU1 ?hI1 ?hG1 ?hZ1 ?main1
  case hm1 => kernel_rfl
  case hB1 => kernel_rfl
  case hU1 =>
    exact fun _ => ⟨undef, trivial⟩
  case hI1 =>
    exact fun c E wx hc hj _ _ => (fun c E wx hc hj => hj.1) c E wx hc hj
  case hG1 =>
    exact fun c E wx wy hc hj hf => hj.grow hf
  case hZ1 =>
    exact fun wx hf => HJ0.out wx hf
  rotate_left 10
  intro ops QT HO HQ
  obtain ⟨ho0, HO⟩ := HO
  refine wpS_V ho0.out rfl ?_ ?_
  · simp only [valsL_zero, valsL_succ]; apply FI_in rfl; intro wx hx
    go_simp
    exact ⟨rfl, rfl⟩
  simp only [Act.put, List.setIfInBounds_toArray, List.set_cons_zero, List.set_cons_succ, valsL_zero, valsL_succ]
  obtain ⟨ho1, HO⟩ := HO
  refine wpS_V ho1.out rfl ?_ ?_
  · simp only [valsL_zero, valsL_succ]; apply FI_in rfl; intro wx hx
    go_simp
    exact ⟨rfl, rfl⟩
  simp only [Act.put, List.setIfInBounds_toArray, List.set_cons_zero, List.set_cons_succ, valsL_zero, valsL_succ]
  obtain ⟨ho2, HO⟩ := HO
  refine wpS_V ho2.out rfl ?_ ?_
  · simp only [valsL_zero, valsL_succ]; apply FI_in rfl; intro wx hx
    go_simp
    exact ⟨rfl, rfl⟩
  simp only [Act.put, List.setIfInBounds_toArray, List.set_cons_zero, List.set_cons_succ, valsL_zero, valsL_succ]
  obtain ⟨ho3, HO⟩ := HO
  refine wpS_V ho3.out rfl ?_ ?_
  · simp only [valsL_zero, valsL_succ]; apply FI_in rfl; intro wx hx
    have hc0 := sb_cell (hx.heap H32.out (fun e => HNB.out (.inl e)))
    go_simp
    exact ⟨rfl, rfl⟩
  simp only [Act.put, List.setIfInBounds_toArray, List.set_cons_zero, List.set_cons_succ, valsL_zero, valsL_succ]
  obtain ⟨ho4, HO⟩ := HO
  refine wpS_V ho4.out rfl ?_ ?_
  · simp only [valsL_zero, valsL_succ]; apply FI_in rfl; intro wx hx
    go_simp
    exact ⟨rfl, rfl⟩
  simp only [Act.put, List.setIfInBounds_toArray, List.set_cons_zero, List.set_cons_succ, valsL_zero, valsL_succ]
  obtain ⟨ho5, HO⟩ := HO
  refine wpS_V ho5.out rfl ?_ ?_
  · simp only [valsL_zero, valsL_succ]; apply FI_in rfl; intro wx hx
    have hc0 := sb_cell (hx.heap H32.out (fun e => HNB.out (.inl e)))
    go_simp
    exact ⟨rfl, rfl⟩
  simp only [Act.put, List.setIfInBounds_toArray, List.set_cons_zero, List.set_cons_succ, valsL_zero, valsL_succ]
  obtain ⟨ho6, HO⟩ := HO
  refine wpS_V ho6.out rfl ?_ ?_
  · simp only [valsL_zero, valsL_succ]; apply FI_in rfl; intro wx hx
    go_simp
    exact ⟨rfl, rfl⟩
  simp only [Act.put, List.setIfInBounds_toArray, List.set_cons_zero, List.set_cons_succ, valsL_zero, valsL_succ]
  obtain ⟨ho7, HO⟩ := HO
  refine wpS_V ho7.out rfl ?_ ?_
  · simp only [valsL_zero, valsL_succ]; apply FI_in rfl; intro wx hx
    go_simp
    exact ⟨rfl, rfl⟩
  simp only [Act.put, List.setIfInBounds_toArray, List.set_cons_zero, List.set_cons_succ, valsL_zero, valsL_succ]
  obtain ⟨ho8, HO⟩ := HO
  refine wpS_W (c := 0) ho8.out rfl (FW_in rfl fun wx hx => ?_) fun u8 g8 => ?_
  · have hc := (hx.cell 8).trans HC1.out.1
    have hz := hx.free 8
    go_simp
    exact hx.step 8 _ HC0.out.1
  simp only [Act.put, List.setIfInBounds_toArray, List.set_cons_zero, List.set_cons_succ, valsL_zero, valsL_succ]
  obtain ⟨ho9, HO⟩ := HO
  refine wpS_V ho9.out rfl ?_ ?_
  · simp only [valsL_zero, valsL_succ]; apply FI_in rfl; intro wx hx
    go_simp
    exact ⟨rfl, rfl⟩
  simp only [Act.put, List.setIfInBounds_toArray, List.set_cons_zero, List.set_cons_succ, valsL_zero, valsL_succ]
  obtain ⟨ho10, HO⟩ := HO
  refine wpS_V ho10.out rfl ?_ ?_
  · simp only [valsL_zero, valsL_succ]; apply FI_in rfl; intro wx hx
    go_simp
    exact ⟨rfl, rfl⟩
  simp only [Act.put, List.setIfInBounds_toArray, List.set_cons_zero, List.set_cons_succ, valsL_zero, valsL_succ]
  obtain ⟨ho11, HO⟩ := HO
  refine wpS_W (c := 1) ho11.out rfl (FW_in rfl fun wx hx => ?_) fun u11 g11 => ?_
  · have hc := (hx.cell 9).trans HC1.out.2
    have hz := hx.free 9
    go_simp
    exact hx.step 9 _ HC0.out.2
  simp only [Act.put, List.setIfInBounds_toArray, List.set_cons_zero, List.set_cons_succ, valsL_zero, valsL_succ]
  refine HQ.out _ _ ?_
  intro wN hj
  clear HQ HO ho0 ho1 ho2 ho3 ho4 ho5 ho6 ho7 ho8 ho9 ho10 ho11
  have HBN : Hid (BkAt wN b p { B with w := { B.w with step := r.w, since := r.n } }) := hid (HB2.out.fun0 hj.1 (by have := hj.2; rw [HC.out] at this; exact this) HB2.out.len)
  have HFN : Hid (Frm (bkM b p) w wN) := hid ((HF2.out.mono (M' := bkM b p) (fun _ _ h => h.elim)).trans hj.1 (fun k _ e => .inl e))
  have H3N := hid (hj.1.heap H32.out (fun e => HNB.out (.inl e)))
  clear hj HJ0 HC0 HC1 HC
  have c0' : wN.cell? ⟨b3, 0, none⟩ = some (.int .i64 r.k) := sb_cell H3N.out 0
  have e3' := beq_no (show ¬ r.k = 3 by have := HK.out; omega)
  have e4' := beq_no (show ¬ r.k = 4 by have := HK.out; omega)
  have e7' := beq_yes HK.out
  go_upto_region 23 with fail
  clear c0' e3' e4' e7'
  have hln : B.h.length ≤ 24 := HOk.out.inv.hi
  have HLN := hid hln
  clear hln
  have HNX : Hid (∀ k, (k = b ∨ p.hv.ownBlock = some k) → bkM b p k) := hid fun k e => by
    rcases e with e | e
    · exact .inl e
    · exact .inr (.inr (.inr (.inr (.inr e))))
  apply wp_region_S [6, 7, 10] (valsL (_ :: _ :: _ :: _ :: _ :: (.agg #[.int .i64 r.k, .int .i64 r.e, .int .i64 r.w, .int .i64 r.n, .int .i64 r.q, .string r.t, .int .i64 r.p.s0, .int .i64 r.p.s1, .int .i64 r.p.s2, .int .i64 r.p.s3, .int .i64 r.p.s4, .int .i64 r.p.s5, .int .i64 r.p.s6, .int .i64 r.p.s7, .int .i64 r.p.s8, .int .i64 r.p.s9, .int .i64 r.p.s10, .int .i64 r.p.s11]) :: undef :: undef :: _ :: _ :: undef :: [])) (fun i => if i = 4 then 1 else 3) (fun i wx => Frm (fun k => k = b ∨ p.hv.ownBlock = some k) wN wx ∧ (i = 4 → wx.cell? ⟨b, 72, none⟩ = some p.hv)) (fun _ _ => True) (HJ wN b p { B.w with step := r.w, since := r.n } B.us B.h.length (B.h.flatMap Rc.cells) #[.int .i64 r.k, .int .i64 r.e, .int .i64 r.w, .int .i64 r.n, .int .i64 r.q, .string r.t, .int .i64 r.p.s0, .int .i64 r.p.s1, .int .i64 r.p.s2, .int .i64 r.p.s3, .int .i64 r.p.s4, .int .i64 r.p.s5, .int .i64 r.p.s6, .int .i64 r.p.s7, .int .i64 r.p.s8, .int .i64 r.p.s9, .int .i64 r.p.s10, .int .i64 r.p.s11]) ?hm2 ?hB2 ?hU2 ?hI2 ?hG2 ?hZ2 ?main2
  case hm2 => kernel_rfl
  case hB2 => kernel_rfl
  case hU2 =>
    exact fun _ => ⟨undef, trivial⟩
  case hI2 =>
    exact fun c E wx hc hj i hb => ⟨hj.f, fun h => (by subst h; exact (HBN.out.frm0 (hj.f0 hb)).hist)⟩
  case hG2 =>
    exact fun c E wx wy hc hj hf => hj.grow hf
  case hZ2 =>
    exact fun wx hf => HJ.first HBN.out.blk hf
  rotate_left 7
  intro ops QT HO HQ
  obtain ⟨ho0, HO⟩ := HO
  refine wpS_V ho0.out rfl ?_ ?_
  · simp only [valsL_zero, valsL_succ]; apply FI_in rfl; intro wx hx
    go_simp
    exact ⟨rfl, rfl⟩
  simp only [Act.put, List.setIfInBounds_toArray, List.set_cons_zero, List.set_cons_succ, valsL_zero, valsL_succ]
  obtain ⟨ho1, HO⟩ := HO
  refine wpS_V ho1.out rfl ?_ ?_
  · simp only [valsL_zero, valsL_succ]; apply FI_in rfl; intro wx hx
    go_simp
    exact ⟨rfl, rfl⟩
  simp only [Act.put, List.setIfInBounds_toArray, List.set_cons_zero, List.set_cons_succ, valsL_zero, valsL_succ]
  obtain ⟨ho2, HO⟩ := HO
  refine wpS_V ho2.out rfl ?_ ?_
  · simp only [valsL_zero, valsL_succ]; apply FI_in rfl; intro wx hx
    go_simp
    exact ⟨rfl, rfl⟩
  simp only [Act.put, List.setIfInBounds_toArray, List.set_cons_zero, List.set_cons_succ, valsL_zero, valsL_succ]
  obtain ⟨ho3, HO⟩ := HO
  refine wpS_V ho3.out rfl ?_ ?_
  · simp only [valsL_zero, valsL_succ]; apply FI_in rfl; intro wx hx
    go_simp
    exact ⟨rfl, rfl⟩
  simp only [Act.put, List.setIfInBounds_toArray, List.set_cons_zero, List.set_cons_succ, valsL_zero, valsL_succ]
  obtain ⟨ho4, HO⟩ := HO
  refine wpS_V ho4.out rfl ?_ ?_
  · simp only [valsL_zero, valsL_succ]; apply FI_in rfl; intro wx hx
    have hz := hx.2 trivial
    have hc0 := sb_cell (hx.1.heap H3N.out (fun e => HNB.out (HNX.out _ e)))
    go_simp
    exact ⟨rfl, rfl⟩
  simp only [Act.put, List.setIfInBounds_toArray, List.set_cons_zero, List.set_cons_succ, valsL_zero, valsL_succ]
  obtain ⟨ho5, HO⟩ := HO
  refine wpS_V ho5.out rfl ?_ ?_
  · simp only [valsL_zero, valsL_succ]; apply FI_in rfl; intro wx hx
    exact fu_load_row_g 37 (.tmp 3) rfl (b3) (by kernel_rfl) _ _ _ _ (hx.1.heap H3N.out (fun e => HNB.out (HNX.out _ e))) Tryz.underlying37 rfl (by kernel_rfl)
  simp only [Act.put, List.setIfInBounds_toArray, List.set_cons_zero, List.set_cons_succ, valsL_zero, valsL_succ]
  obtain ⟨ho6, HO⟩ := HO
  refine wpS_W (c := 0) ho6.out rfl (FW_in rfl fun wx hx => ?_) fun u6 g6 => ?_
  · go_simp
    exact hx.next1
  simp only [Act.put, List.setIfInBounds_toArray, List.set_cons_zero, List.set_cons_succ, valsL_zero, valsL_succ]
  obtain ⟨ho7, HO⟩ := HO
  refine wpS_W (c := 1) ho7.out rfl (FW_in rfl fun wx hx => ?_) fun u7 g7 => ?_
  · obtain ⟨v', w', hr, hj'⟩ := hx.next2 rfl (rcc_one r) HBN.out.his (by have := HLN.out; omega) HBN.out.apart.2.2.2.2 (sb_lt HBN.out.blk)
    exact wu_append (.tmp 141) (.tmp 143) 22 rfl p.hv u6 (by kernel_rfl) (by kernel_rfl) hr ⟨trivial, hj'⟩
  simp only [Act.put, List.setIfInBounds_toArray, List.set_cons_zero, List.set_cons_succ, valsL_zero, valsL_succ]
  obtain ⟨ho8, HO⟩ := HO
  refine wpS_V ho8.out rfl ?_ ?_
  · simp only [valsL_zero, valsL_succ]; apply FI_in rfl; intro wx hx
    go_simp
    exact ⟨rfl, rfl⟩
  simp only [Act.put, List.setIfInBounds_toArray, List.set_cons_zero, List.set_cons_succ, valsL_zero, valsL_succ]
  obtain ⟨ho9, HO⟩ := HO
  refine wpS_V ho9.out rfl ?_ ?_
  · simp only [valsL_zero, valsL_succ]; apply FI_in rfl; intro wx hx
    go_simp
    exact ⟨rfl, rfl⟩
  simp only [Act.put, List.setIfInBounds_toArray, List.set_cons_zero, List.set_cons_succ, valsL_zero, valsL_succ]
  obtain ⟨ho10, HO⟩ := HO
  refine wpS_W (c := 2) ho10.out rfl (FW_in rfl fun wx hx => ?_) fun u10 g10 => ?_
  · obtain ⟨hO, hOB⟩ := hx.o (by omega)
    have hO : Ow wx 37 18 u7 (B.h.length + 1) (B.h.flatMap Rc.cells ++ (#[.int .i64 r.k, .int .i64 r.e, .int .i64 r.w, .int .i64 r.n, .int .i64 r.q, .string r.t, .int .i64 r.p.s0, .int .i64 r.p.s1, .int .i64 r.p.s2, .int .i64 r.p.s3, .int .i64 r.p.s4, .int .i64 r.p.s5, .int .i64 r.p.s6, .int .i64 r.p.s7, .int .i64 r.p.s8, .int .i64 r.p.s9, .int .i64 r.p.s10, .int .i64 r.p.s11]).toList) := hO
    have hOB : ∀ k, u7.ownBlock = some k → p.hv.ownBlock = some k ∨ wN.heap.size ≤ k := hOB
    have hne : ∀ k, u7.ownBlock = some k → k ≠ b := fun k hk e => by have hbl := sb_lt HBN.out.blk; rcases hOB k hk with h | h; exact HBN.out.apart.2.2.2.2 (by rw [← e]; exact h); omega
    have hc : wx.cell? ⟨b, 72, none⟩ = some p.hv := by rw [sb_cell (hx.b2 (by omega)), List.getElem?_toArray]; exact bk_hist _ _ _ HBN.out.len
    have hz := sb_free (hx.b2 (by omega)) 72
    have hnx := hx.next3 HBN.out.len
    rcases hO.2 with ⟨_, h0⟩ | ⟨g, o, cap, cur, rfl, _⟩
    · omega
    · go_simp; exact hnx _ rfl hne
  simp only [Act.put, List.setIfInBounds_toArray, List.set_cons_zero, List.set_cons_succ, valsL_zero, valsL_succ]
  refine HQ.out _ _ ?_
  intro wM hj
  clear HQ HO ho0 ho1 ho2 ho3 ho4 ho5 ho6 ho7 ho8 ho9 ho10
  obtain ⟨hO, hOB⟩ := hj.o (by decide)
  have hO : Ow wM 37 18 u7 (B.h.length + 1) (B.h.flatMap Rc.cells ++ (#[.int .i64 r.k, .int .i64 r.e, .int .i64 r.w, .int .i64 r.n, .int .i64 r.q, .string r.t, .int .i64 r.p.s0, .int .i64 r.p.s1, .int .i64 r.p.s2, .int .i64 r.p.s3, .int .i64 r.p.s4, .int .i64 r.p.s5, .int .i64 r.p.s6, .int .i64 r.p.s7, .int .i64 r.p.s8, .int .i64 r.p.s9, .int .i64 r.p.s10, .int .i64 r.p.s11]).toList) := hO
  have hOB : ∀ k, u7.ownBlock = some k → p.hv.ownBlock = some k ∨ wN.heap.size ≤ k := hOB
  have hb3 : wM.heap[b]? = some (.cells (bkCells { p with hv := u7 } { B.w with step := r.w, since := r.n } B.us).toArray 76 (0, 0)) := hj.b3 rfl
  have HFM := hid (HFN.out.trans hj.f (fun k _ e => HNX.out k e))
  have hfl : (B.h ++ [r]).flatMap Rc.cells = B.h.flatMap Rc.cells ++ (#[.int .i64 r.k, .int .i64 r.e, .int .i64 r.w, .int .i64 r.n, .int .i64 r.q, .string r.t, .int .i64 r.p.s0, .int .i64 r.p.s1, .int .i64 r.p.s2, .int .i64 r.p.s3, .int .i64 r.p.s4, .int .i64 r.p.s5, .int .i64 r.p.s6, .int .i64 r.p.s7, .int .i64 r.p.s8, .int .i64 r.p.s9, .int .i64 r.p.s10, .int .i64 r.p.s11]).toList := by rw [List.flatMap_append]; rfl
  have HBM := hid (HBN.out.rehist (l := B.h ++ [r]) hj.f (fun k h => h) hb3 (by rw [List.length_append, hfl]; exact hO))
  have HOB : Hid (∀ k, u7.ownBlock = some k → p.hv.ownBlock = some k ∨ w.heap.size ≤ k) := hid fun k hk => by
    rcases hOB k hk with h | h
    · exact .inl h
    · exact .inr (Nat.le_trans HFN.out.size h)
  rcases hO.2 with ⟨_, h0⟩ | ⟨g, o, cap, cur, rfl, _, hcap, hcm, _⟩
  · omega
  have HCAP := hid (And.intro hcap hcm)
  have H3M := hid (hj.f.heap H3N.out (fun e => HNB.out (HNX.out _ e)))
  clear hj hO hOB hb3 hfl hcap hcm
  obtain ⟨N, hN⟩ : ∃ N, N = B.h.length + 1 := ⟨_, rfl⟩
  rw [← hN] at HBM HOB HCAP ⊢
  have HN := hid hN
  clear hN
  go_upto_region 24 with fail
  by_cases h24 : N ≤ 24
  · have hlast : lastN (B.h ++ [r]) = B.h ++ [r] := by
      unfold lastN
      rw [List.length_append, List.length_singleton, ← HN.out, show N - 24 = 0 by omega, List.drop_zero]
    have HLAST := hid hlast
    have q1 : IntKind.i64.wrap ((N : Int) - 24) = (N : Int) - 24 := by rw [Go.IntWalk.i64_left]; exact wrap_of (by omega)
    have q2 : max ((N : Int) - 24) 0 = 0 := by omega
    clear hlast h24
    apply wp_region_G 15 (fun _ => none) (valsL (_ :: _ :: _ :: _ :: _ :: _ :: _ :: _ :: _ :: _ :: _ :: _ :: (.slice (some ⟨g, o, none⟩) N cap) :: _ :: _ :: [])) ?hm3 ?hB3 ?hal3 ?main3
    case hm3 => kernel_rfl
    case hB3 => kernel_rfl
    case hal3 =>
      intro i o obj ho hi
      cases hi
    rotate_left 14
    intro ops QT HO HQ
    obtain ⟨ho0, HO⟩ := HO
    refine wpG_v ho0.out rfl ?_ ?_
    · simp only [valsL_zero, valsL_succ]; apply FY_in rfl; intro wx hx
      go_simp
      exact ⟨rfl, rfl⟩
    simp only [Act.put, List.setIfInBounds_toArray, List.set_cons_zero, List.set_cons_succ, valsL_zero, valsL_succ]
    obtain ⟨ho1, HO⟩ := HO
    refine wpG_v ho1.out rfl ?_ ?_
    · simp only [valsL_zero, valsL_succ]; apply FY_in rfl; intro wx hx
      go_simp
      exact ⟨rfl, rfl⟩
    simp only [Act.put, List.setIfInBounds_toArray, List.set_cons_zero, List.set_cons_succ, valsL_zero, valsL_succ]
    obtain ⟨ho2, HO⟩ := HO
    refine wpG_v ho2.out rfl ?_ ?_
    · simp only [valsL_zero, valsL_succ]; apply FY_in rfl; intro wx hx
      go_simp
      exact ⟨rfl, rfl⟩
    simp only [Act.put, List.setIfInBounds_toArray, List.set_cons_zero, List.set_cons_succ, valsL_zero, valsL_succ]
    obtain ⟨ho3, HO⟩ := HO
    refine wpG_v ho3.out rfl ?_ ?_
    · simp only [valsL_zero, valsL_succ]; apply FY_in rfl; intro wx hx
      go_simp
      exact ⟨rfl, rfl⟩
    simp only [Act.put, List.setIfInBounds_toArray, List.set_cons_zero, List.set_cons_succ, valsL_zero, valsL_succ]
    obtain ⟨ho4, HO⟩ := HO
    refine wpG_v ho4.out rfl ?_ ?_
    · simp only [valsL_zero, valsL_succ]; apply FY_in rfl; intro wx hx
      have hz0 := (HBM.out.frm0 hx).hist
      go_simp
      exact ⟨rfl, rfl⟩
    simp only [Act.put, List.setIfInBounds_toArray, List.set_cons_zero, List.set_cons_succ, valsL_zero, valsL_succ]
    obtain ⟨ho5, HO⟩ := HO
    refine wpG_v ho5.out rfl ?_ ?_
    · simp only [valsL_zero, valsL_succ]; apply FY_in rfl; intro wx hx
      go_simp
      exact ⟨rfl, rfl⟩
    simp only [Act.put, List.setIfInBounds_toArray, List.set_cons_zero, List.set_cons_succ, valsL_zero, valsL_succ]
    obtain ⟨ho6, HO⟩ := HO
    refine wpG_v ho6.out rfl ?_ ?_
    · simp only [valsL_zero, valsL_succ]; apply FY_in rfl; intro wx hx
      go_simp
      exact ⟨rfl, rfl⟩
    simp only [Act.put, List.setIfInBounds_toArray, List.set_cons_zero, List.set_cons_succ, valsL_zero, valsL_succ]
    obtain ⟨ho7, HO⟩ := HO
    refine wpG_v ho7.out rfl ?_ ?_
    · simp only [valsL_zero, valsL_succ]; apply FY_in rfl; intro wx hx
      go_simp
      exact ⟨rfl, rfl⟩
    simp only [Act.put, List.setIfInBounds_toArray, List.set_cons_zero, List.set_cons_succ, valsL_zero, valsL_succ]
    obtain ⟨ho8, HO⟩ := HO
    refine wpG_v ho8.out rfl ?_ ?_
    · simp only [valsL_zero, valsL_succ]; apply FY_in rfl; intro wx hx
      have hz0 := (HBM.out.frm0 hx).hist
      go_simp
      exact ⟨rfl, rfl⟩
    simp only [Act.put, List.setIfInBounds_toArray, List.set_cons_zero, List.set_cons_succ, valsL_zero, valsL_succ]
    obtain ⟨ho9, HO⟩ := HO
    refine wpG_v ho9.out rfl ?_ ?_
    · simp only [valsL_zero, valsL_succ]; apply FY_in rfl; intro wx hx
      go_simp
      exact ⟨rfl, rfl⟩
    simp only [Act.put, List.setIfInBounds_toArray, List.set_cons_zero, List.set_cons_succ, valsL_zero, valsL_succ]
    obtain ⟨ho10, HO⟩ := HO
    refine wpG_v ho10.out rfl ?_ ?_
    · simp only [valsL_zero, valsL_succ]; apply FY_in rfl; intro wx hx
      go_simp
      exact ⟨rfl, rfl⟩
    simp only [Act.put, List.setIfInBounds_toArray, List.set_cons_zero, List.set_cons_succ, valsL_zero, valsL_succ]
    obtain ⟨ho11, HO⟩ := HO
    refine wpG_v ho11.out rfl ?_ ?_
    · simp only [valsL_zero, valsL_succ]; apply FY_in rfl; intro wx hx
      go_simp
      exact ⟨rfl, rfl⟩
    simp only [Act.put, List.setIfInBounds_toArray, List.set_cons_zero, List.set_cons_succ, valsL_zero, valsL_succ]
    obtain ⟨ho12, HO⟩ := HO
    refine wpG_v ho12.out rfl ?_ ?_
    · simp only [valsL_zero, valsL_succ]; apply FY_in rfl; intro wx hx
      go_simp
      exact ⟨rfl, rfl⟩
    simp only [Act.put, List.setIfInBounds_toArray, List.set_cons_zero, List.set_cons_succ, valsL_zero, valsL_succ]
    obtain ⟨ho13, HO⟩ := HO
    refine wpG_v ho13.out rfl ?_ ?_
    · simp only [valsL_zero, valsL_succ]; apply FY_in rfl; intro wx hx
      go_simp
      exact ⟨rfl, rfl⟩
    simp only [Act.put, List.setIfInBounds_toArray, List.set_cons_zero, List.set_cons_succ, valsL_zero, valsL_succ]
    obtain ⟨ho14, HO⟩ := HO
    refine wpG_v ho14.out rfl ?_ ?_
    · simp only [valsL_zero, valsL_succ]; apply FY_in rfl; intro wx hx
      go_simp
      exact ⟨rfl, rfl⟩
    simp only [Act.put, List.setIfInBounds_toArray, List.set_cons_zero, List.set_cons_succ, valsL_zero, valsL_succ]
    refine HQ.out _ _ ?_
    intro wL hf hE hN
    simp only [List.drop_succ_cons, List.drop_zero]
    clear HQ HO hE hN ho0 ho1 ho2 ho3 ho4 ho5 ho6 ho7 ho8 ho9 ho10 ho11 ho12 ho13 ho14
    have HFL := hid (HFM.out.then0 hf)
    have HBL := hid (HBM.out.frm0 hf)
    clear hf q1 q2
    have hc := HBL.out.hist
    have hz := HBL.out.free 72
    have hset := hid (HBL.out.sethist (.slice (some ⟨g, o, none⟩) N cap) (B.h ++ [r]) HBL.out.his HBL.out.apart.2.2.2.2)
    have HFE : Hid (Frm (bkM b p) w (wL.setCell ⟨b, 72, none⟩ (.slice (some ⟨g, o, none⟩) N cap))) := hid (HFL.out.put b 72 _ (fun _ => .inl rfl))
    go_wp2_with fail
    go_ret
    have e : B.does r = { B with w := { B.w with step := r.w, since := r.n }, h := lastN (B.h ++ [r]) } := by
      unfold Bk.does
      rw [if_neg (by have := HK.out; omega), if_neg (by have := HK.out; omega), if_neg (by have := HK.out; omega), if_neg (by have := HK.out; omega), if_neg (by have := HK.out; omega), if_neg (by have := HK.out; omega)]
    have h1 := hset.out
    rw [e, HLAST.out]
    exact ⟨rfl, _, h1, HFE.out, HOB.out⟩
  · have h25 : N = 25 := by have := HLN.out; have := HN.out; omega
    have hlast : lastN (B.h ++ [r]) = (B.h ++ [r]).drop 1 := by
      unfold lastN
      rw [List.length_append, List.length_singleton, ← HN.out, h25]
    have HLAST := hid hlast
    have hl25 : (B.h ++ [r]).length = 25 := by rw [List.length_append, List.length_singleton, ← HN.out, h25]
    subst h25
    have HL25 := hid hl25
    clear hlast h24 hl25
    have q1 : IntKind.i64.wrap 1 = 1 := by rw [Go.IntWalk.i64_left]; exact wrap_of (by omega)
    have q2 : max (1 : Int) 0 = 1 := by omega
    apply wp_region_G 15 (fun _ => none) (valsL (_ :: _ :: _ :: _ :: _ :: _ :: _ :: _ :: _ :: _ :: _ :: _ :: (.slice (some ⟨g, o + 18, none⟩) 24 (cap - 1)) :: _ :: _ :: [])) ?hm4 ?hB4 ?hal4 ?main4
    case hm4 => kernel_rfl
    case hB4 => kernel_rfl
    case hal4 =>
      intro i o obj ho hi
      cases hi
    rotate_left 14
    intro ops QT HO HQ
    obtain ⟨ho0, HO⟩ := HO
    refine wpG_v ho0.out rfl ?_ ?_
    · simp only [valsL_zero, valsL_succ]; apply FY_in rfl; intro wx hx
      go_simp
      exact ⟨rfl, rfl⟩
    simp only [Act.put, List.setIfInBounds_toArray, List.set_cons_zero, List.set_cons_succ, valsL_zero, valsL_succ]
    obtain ⟨ho1, HO⟩ := HO
    refine wpG_v ho1.out rfl ?_ ?_
    · simp only [valsL_zero, valsL_succ]; apply FY_in rfl; intro wx hx
      go_simp
      exact ⟨rfl, rfl⟩
    simp only [Act.put, List.setIfInBounds_toArray, List.set_cons_zero, List.set_cons_succ, valsL_zero, valsL_succ]
    obtain ⟨ho2, HO⟩ := HO
    refine wpG_v ho2.out rfl ?_ ?_
    · simp only [valsL_zero, valsL_succ]; apply FY_in rfl; intro wx hx
      go_simp
      exact ⟨rfl, rfl⟩
    simp only [Act.put, List.setIfInBounds_toArray, List.set_cons_zero, List.set_cons_succ, valsL_zero, valsL_succ]
    obtain ⟨ho3, HO⟩ := HO
    refine wpG_v ho3.out rfl ?_ ?_
    · simp only [valsL_zero, valsL_succ]; apply FY_in rfl; intro wx hx
      go_simp
      exact ⟨rfl, rfl⟩
    simp only [Act.put, List.setIfInBounds_toArray, List.set_cons_zero, List.set_cons_succ, valsL_zero, valsL_succ]
    obtain ⟨ho4, HO⟩ := HO
    refine wpG_v ho4.out rfl ?_ ?_
    · simp only [valsL_zero, valsL_succ]; apply FY_in rfl; intro wx hx
      have hz0 := (HBM.out.frm0 hx).hist
      go_simp
      exact ⟨rfl, rfl⟩
    simp only [Act.put, List.setIfInBounds_toArray, List.set_cons_zero, List.set_cons_succ, valsL_zero, valsL_succ]
    obtain ⟨ho5, HO⟩ := HO
    refine wpG_v ho5.out rfl ?_ ?_
    · simp only [valsL_zero, valsL_succ]; apply FY_in rfl; intro wx hx
      go_simp
      exact ⟨rfl, rfl⟩
    simp only [Act.put, List.setIfInBounds_toArray, List.set_cons_zero, List.set_cons_succ, valsL_zero, valsL_succ]
    obtain ⟨ho6, HO⟩ := HO
    refine wpG_v ho6.out rfl ?_ ?_
    · simp only [valsL_zero, valsL_succ]; apply FY_in rfl; intro wx hx
      go_simp
      exact ⟨rfl, rfl⟩
    simp only [Act.put, List.setIfInBounds_toArray, List.set_cons_zero, List.set_cons_succ, valsL_zero, valsL_succ]
    obtain ⟨ho7, HO⟩ := HO
    refine wpG_v ho7.out rfl ?_ ?_
    · simp only [valsL_zero, valsL_succ]; apply FY_in rfl; intro wx hx
      go_simp
      exact ⟨rfl, rfl⟩
    simp only [Act.put, List.setIfInBounds_toArray, List.set_cons_zero, List.set_cons_succ, valsL_zero, valsL_succ]
    obtain ⟨ho8, HO⟩ := HO
    refine wpG_v ho8.out rfl ?_ ?_
    · simp only [valsL_zero, valsL_succ]; apply FY_in rfl; intro wx hx
      have hz0 := (HBM.out.frm0 hx).hist
      go_simp
      exact ⟨rfl, rfl⟩
    simp only [Act.put, List.setIfInBounds_toArray, List.set_cons_zero, List.set_cons_succ, valsL_zero, valsL_succ]
    obtain ⟨ho9, HO⟩ := HO
    refine wpG_v ho9.out rfl ?_ ?_
    · simp only [valsL_zero, valsL_succ]; apply FY_in rfl; intro wx hx
      go_simp
      exact ⟨rfl, rfl⟩
    simp only [Act.put, List.setIfInBounds_toArray, List.set_cons_zero, List.set_cons_succ, valsL_zero, valsL_succ]
    obtain ⟨ho10, HO⟩ := HO
    refine wpG_v ho10.out rfl ?_ ?_
    · simp only [valsL_zero, valsL_succ]; apply FY_in rfl; intro wx hx
      go_simp
      exact ⟨rfl, rfl⟩
    simp only [Act.put, List.setIfInBounds_toArray, List.set_cons_zero, List.set_cons_succ, valsL_zero, valsL_succ]
    obtain ⟨ho11, HO⟩ := HO
    refine wpG_v ho11.out rfl ?_ ?_
    · simp only [valsL_zero, valsL_succ]; apply FY_in rfl; intro wx hx
      go_simp
      exact ⟨rfl, rfl⟩
    simp only [Act.put, List.setIfInBounds_toArray, List.set_cons_zero, List.set_cons_succ, valsL_zero, valsL_succ]
    obtain ⟨ho12, HO⟩ := HO
    refine wpG_v ho12.out rfl ?_ ?_
    · simp only [valsL_zero, valsL_succ]; apply FY_in rfl; intro wx hx
      have hq : ¬ cap = 1 := (by have := HCAP.out.1; omega)
      go_simp
      exact ⟨rfl, rfl⟩
    simp only [Act.put, List.setIfInBounds_toArray, List.set_cons_zero, List.set_cons_succ, valsL_zero, valsL_succ]
    obtain ⟨ho13, HO⟩ := HO
    refine wpG_v ho13.out rfl ?_ ?_
    · simp only [valsL_zero, valsL_succ]; apply FY_in rfl; intro wx hx
      go_simp
      exact ⟨rfl, rfl⟩
    simp only [Act.put, List.setIfInBounds_toArray, List.set_cons_zero, List.set_cons_succ, valsL_zero, valsL_succ]
    obtain ⟨ho14, HO⟩ := HO
    refine wpG_v ho14.out rfl ?_ ?_
    · simp only [valsL_zero, valsL_succ]; apply FY_in rfl; intro wx hx
      go_simp
      exact ⟨rfl, rfl⟩
    simp only [Act.put, List.setIfInBounds_toArray, List.set_cons_zero, List.set_cons_succ, valsL_zero, valsL_succ]
    refine HQ.out _ _ ?_
    intro wL hf hE hN
    simp only [List.drop_succ_cons, List.drop_zero]
    clear HQ HO hE hN ho0 ho1 ho2 ho3 ho4 ho5 ho6 ho7 ho8 ho9 ho10 ho11 ho12 ho13 ho14
    have HCUT : Hid (Ow wL 37 18 (.slice (some ⟨g, o + 18, none⟩) 24 (cap - 1)) ((B.h ++ [r]).drop 1).length (((B.h ++ [r]).drop 1).flatMap Rc.cells)) := by
      have := (HBM.out.his.frm hf (fun _ _ h => h)).cut rcc_len 1 (by show 1 ≤ (B.h ++ [r]).length; rw [HL25.out]; omega)
      rw [show (B.h ++ [r]).length - 1 = 24 by rw [HL25.out]] at this
      exact hid this
    have HFL := hid (HFM.out.then0 hf)
    have HBL := hid (HBM.out.frm0 hf)
    clear hf q1 q2
    have hc := HBL.out.hist
    have hz := HBL.out.free 72
    have hset := hid (HBL.out.sethist (.slice (some ⟨g, o + 18, none⟩) 24 (cap - 1)) ((B.h ++ [r]).drop 1) (HCUT.out.frm (Frm.refl M0 wL) (fun _ _ h => h)) HBL.out.apart.2.2.2.2)
    have HFE : Hid (Frm (bkM b p) w (wL.setCell ⟨b, 72, none⟩ (.slice (some ⟨g, o + 18, none⟩) 24 (cap - 1)))) := hid (HFL.out.put b 72 _ (fun _ => .inl rfl))
    go_wp2_with fail
    go_ret
    have e : B.does r = { B with w := { B.w with step := r.w, since := r.n }, h := lastN (B.h ++ [r]) } := by
      unfold Bk.does
      rw [if_neg (by have := HK.out; omega), if_neg (by have := HK.out; omega), if_neg (by have := HK.out; omega), if_neg (by have := HK.out; omega), if_neg (by have := HK.out; omega), if_neg (by have := HK.out; omega)]
    have h1 := hset.out
    rw [e, HLAST.out]
    exact ⟨rfl, _, h1, HFE.out, fun k hk => HOB.out k hk⟩
end Go.Proofs.YtmacpdddimcmgaaGreatDoor
namespace Go.Proofs.YtmacpdddimcmgaaGreatDoor
set_option linter.unusedVariables false
set_option linter.unusedSimpArgs false
set_option maxRecDepth 20000
open Go.RowKit
def setL : List Value → Nat → List Value → List Value
  | l, _, [] => l
  | l, o, v :: r => setL (l.set o v) (o + 1) r
theorem putL_list : ∀ (vs : List Value) (l : List Value) (o : Nat), putL l.toArray o vs = (setL l o vs).toArray
  | [], l, o => rfl
  | v :: r, l, o => by
    show putL (l.toArray.setIfInBounds o v) (o + 1) r = (setL (l.set o v) (o + 1) r).toArray
    rw [List.setIfInBounds_toArray, putL_list r]
def beginW (W : Vw) (r : Rc) : Nat → Vw
  | 0 => W
  | 1 => { W with spec := r.p }
  | 2 => { W with spec := r.p, phase := 1 }
  | 3 => { W with spec := r.p, phase := 1, step := 0 }
  | 4 => { W with spec := r.p, phase := 1, step := 0, since := r.n }
  | 5 => { W with spec := r.p, phase := 1, step := 0, since := r.n, begun := r.n }
  | _ => { W with spec := r.p, phase := 1, step := 0, since := r.n, begun := r.n, from' := W.stable }
theorem beginW_stable (W : Vw) (r : Rc) (c : Nat) : (beginW W r c).stable = W.stable := by
  unfold beginW
  split <;> rfl
set_option maxRecDepth 20000 in
set_option maxHeartbeats 8000000 in
theorem apply_begin (b : Nat) (p : BkP) (B : Bk) (r : Rc) (w : World) (h : BkAt w b p B) (ho : B.Ok) (hT : TabS w b p) (hc : B.check r = 0) (hk : r.k = 3) :
    Calls Tryz.prog 16 #[bp b, r.val] w fun x w' => Took b p (B.does r) w x w' := by
  have HB := hid h
  have HOk := hid ho
  have HTS := hid hT
  have HC0 := hid hc
  have HK := hid hk
  have HV : Hid (r.val = .agg #[.int .i64 r.k, .int .i64 r.e, .int .i64 r.w, .int .i64 r.n, .int .i64 r.q, .string r.t, .int .i64 r.p.s0, .int .i64 r.p.s1, .int .i64 r.p.s2, .int .i64 r.p.s3, .int .i64 r.p.s4, .int .i64 r.p.s5, .int .i64 r.p.s6, .int .i64 r.p.s7, .int .i64 r.p.s8, .int .i64 r.p.s9, .int .i64 r.p.s10, .int .i64 r.p.s11]) := rfl
  rw [HV.out]
  have e1 := beq_no (show ¬ r.k = 1 by omega)
  have e2 := beq_no (show ¬ r.k = 2 by omega)
  have e3 := beq_yes hk
  have e4 := beq_no (show ¬ r.k = 4 by omega)
  have e7 := beq_no (show ¬ r.k = 7 by omega)
  clear h ho hT hc hk
  go_enter Tryz.func16, Tryz.ntmps16
  go_upto_region 1 with fail
  (obtain ⟨b3, hbb3⟩ : ∃ q, q = w.heap.size := ⟨_, rfl⟩); (obtain ⟨w1, hww1⟩ : ∃ q, q = w.alloc (.cells #[.int .i64 r.k, .int .i64 r.e, .int .i64 r.w, .int .i64 r.n, .int .i64 r.q, .string r.t, .int .i64 r.p.s0, .int .i64 r.p.s1, .int .i64 r.p.s2, .int .i64 r.p.s3, .int .i64 r.p.s4, .int .i64 r.p.s5, .int .i64 r.p.s6, .int .i64 r.p.s7, .int .i64 r.p.s8, .int .i64 r.p.s9, .int .i64 r.p.s10, .int .i64 r.p.s11] 37) := ⟨_, rfl⟩); have hn := new1 w (.cells #[.int .i64 r.k, .int .i64 r.e, .int .i64 r.w, .int .i64 r.n, .int .i64 r.q, .string r.t, .int .i64 r.p.s0, .int .i64 r.p.s1, .int .i64 r.p.s2, .int .i64 r.p.s3, .int .i64 r.p.s4, .int .i64 r.p.s5, .int .i64 r.p.s6, .int .i64 r.p.s7, .int .i64 r.p.s8, .int .i64 r.p.s9, .int .i64 r.p.s10, .int .i64 r.p.s11] 37); have hf := (Frm.refl M0 w).alloc (.cells #[.int .i64 r.k, .int .i64 r.e, .int .i64 r.w, .int .i64 r.n, .int .i64 r.q, .string r.t, .int .i64 r.p.s0, .int .i64 r.p.s1, .int .i64 r.p.s2, .int .i64 r.p.s3, .int .i64 r.p.s4, .int .i64 r.p.s5, .int .i64 r.p.s6, .int .i64 r.p.s7, .int .i64 r.p.s8, .int .i64 r.p.s9, .int .i64 r.p.s10, .int .i64 r.p.s11] 37); rw [← hww1] at hn hf ⊢; rw [← hbb3] at hn ⊢; clear hww1
  have HNB : Hid (¬ bkM b p b3) := hid (fun e => by have := HB.out.lt _ e; omega)
  have HB1 := hid (HB.out.frm0 hf)
  have HF1 := hid hf
  have HZ3 : Hid (w.heap.size ≤ b3) := hid (by omega)
  have H3 := hid hn
  clear hn hf hbb3
  go_wp2_with (refine wpList_load_row_w (by kernel_rfl) 37 (.tmp 3) (by with_reducible rfl) b3 (by kernel_rfl) _ _ _ _ H3.out Tryz.underlying37 rfl (by kernel_rfl) ?_)
  refine (HV.out ▸ bcheck_calls b p B r w1 HB1.out HOk.out (HTS.out _ (HF1.out.mono (fun _ _ h => h.elim)))).mono ?_
  rintro _ w2 ⟨rfl, hf⟩
  rw [HC0.out]
  have HF2 := hid (HF1.out.then0 hf)
  have HB2 := hid (HB1.out.frm0 hf)
  have H32 := hid (hf.heap H3.out (fun h => h))
  have c0 : w2.cell? ⟨b3, 0, none⟩ = some (.int .i64 r.k) := sb_cell H32.out 0
  clear hf HF1 HB1 H3 HB
  go_upto_region 11 with fail
  clear c0 e1 e2 e3 e4 e7
  obtain ⟨C, HC⟩ : ∃ C : Nat → List Value, Hid (C = fun c => bkCells p (beginW B.w r c) B.us) := ⟨_, hid rfl⟩
  have HC0 : Hid (setL (C 0) 12 [.int .i64 r.p.s0, .int .i64 r.p.s1, .int .i64 r.p.s2, .int .i64 r.p.s3, .int .i64 r.p.s4, .int .i64 r.p.s5, .int .i64 r.p.s6, .int .i64 r.p.s7, .int .i64 r.p.s8, .int .i64 r.p.s9, .int .i64 r.p.s10, .int .i64 r.p.s11] = C 1 ∧ (C 1).set 7 (.int .i64 1) = C 2 ∧ (C 2).set 8 (.int .i64 0) = C 3 ∧ (C 3).set 9 (.int .i64 r.n) = C 4 ∧ (C 4).set 10 (.int .i64 r.n) = C 5 ∧ (C 5).set 6 (.int .i64 B.w.stable) = C 6) := by rw [HC.out]; exact hid ⟨rfl, rfl, rfl, rfl, rfl, rfl⟩
  have HC1 : Hid ((C 1)[7]? = some (.int .i64 B.w.phase) ∧ (C 2)[8]? = some (.int .i64 B.w.step) ∧ (C 3)[9]? = some (.int .i64 B.w.since) ∧ (C 4)[10]? = some (.int .i64 B.w.begun) ∧ (C 5)[6]? = some (.int .i64 B.w.from')) := by rw [HC.out]; exact hid ⟨rfl, rfl, rfl, rfl, rfl⟩
  have HC5 : Hid (∀ c, (C c)[5]? = some (.int .i64 B.w.stable)) := by
    rw [HC.out]
    refine hid (fun c => ?_)
    show some (Value.int .i64 (beginW B.w r c).stable) = _
    rw [beginW_stable]
  have HCL : Hid ((C 0).length = 73) := by
    rw [HC.out]
    show Hid ((bkCells p B.w B.us).length = 73)
    refine hid ?_
    show ([Value.pointer (some ⟨p.tb, 0, none⟩), Value.pointer (some ⟨p.sb, 0, none⟩)] ++ B.w.cells ++ (B.us.flatMap Un.cells ++ [p.hv])).length = 73
    rw [List.length_append, List.length_append, List.length_append, els_len un_len, HB2.out.len]
    rfl
  have HJ0 : Hid (∀ wx, Frm M0 w2 wx → BJ b w2 C 0 wx) := hid fun wx hx => ⟨hx.mono (fun _ _ h => h.elim), by rw [HC.out]; exact hx.heap HB2.out.blk (fun h => h)⟩
  apply wp_region_S [18, 21, 24, 27, 30, 33] (valsL (_ :: _ :: _ :: _ :: _ :: _ :: _ :: (.agg #[.int .i64 r.p.s0, .int .i64 r.p.s1, .int .i64 r.p.s2, .int .i64 r.p.s3, .int .i64 r.p.s4, .int .i64 r.p.s5, .int .i64 r.p.s6, .int .i64 r.p.s7, .int .i64 r.p.s8, .int .i64 r.p.s9, .int .i64 r.p.s10, .int .i64 r.p.s11]) :: _ :: _ :: _ :: _ :: _ :: _ :: _ :: _ :: _ :: _ :: undef :: _ :: _ :: undef :: _ :: _ :: undef :: _ :: _ :: undef :: _ :: _ :: undef :: _ :: _ :: undef :: [])) (fun _ => 6) (fun _ => fun wx => Frm (fun k => k = b) w2 wx ∧ wx.cell? ⟨b, 5, none⟩ = some (.int .i64 B.w.stable)) (fun _ _ => True) (fun c _ wx => BJ b w2 C c wx) ?hm1 ?hB1 ?hU1 ?hI1 ?hG1 ?hZ1 ?main1
  case hm1 => kernel_rfl
  case hB1 => kernel_rfl
  case hU1 =>
    exact fun _ => ⟨undef, trivial⟩
  case hI1 =>
    exact fun c E wx hc hj _ _ => (fun c E wx hc hj => ⟨hj.1, (hj.cell 5).trans (HC5.out _)⟩) c E wx hc hj
  case hG1 =>
    exact fun c E wx wy hc hj hf => hj.grow hf
  case hZ1 =>
    exact fun wx hf => HJ0.out wx hf
  rotate_left 27
  intro ops QT HO HQ
  obtain ⟨ho0, HO⟩ := HO
  refine wpS_V ho0.out rfl ?_ ?_
  · simp only [valsL_zero, valsL_succ]; apply FI_in rfl; intro wx hx
    go_simp
    exact ⟨rfl, rfl⟩
  simp only [Act.put, List.setIfInBounds_toArray, List.set_cons_zero, List.set_cons_succ, valsL_zero, valsL_succ]
  obtain ⟨ho1, HO⟩ := HO
  refine wpS_V ho1.out rfl ?_ ?_
  · simp only [valsL_zero, valsL_succ]; apply FI_in rfl; intro wx hx
    go_simp
    exact ⟨rfl, rfl⟩
  simp only [Act.put, List.setIfInBounds_toArray, List.set_cons_zero, List.set_cons_succ, valsL_zero, valsL_succ]
  obtain ⟨ho2, HO⟩ := HO
  refine wpS_V ho2.out rfl ?_ ?_
  · simp only [valsL_zero, valsL_succ]; apply FI_in rfl; intro wx hx
    go_simp
    exact ⟨rfl, rfl⟩
  simp only [Act.put, List.setIfInBounds_toArray, List.set_cons_zero, List.set_cons_succ, valsL_zero, valsL_succ]
  obtain ⟨ho3, HO⟩ := HO
  refine wpS_V ho3.out rfl ?_ ?_
  · simp only [valsL_zero, valsL_succ]; apply FI_in rfl; intro wx hx
    go_simp
    exact ⟨rfl, rfl⟩
  simp only [Act.put, List.setIfInBounds_toArray, List.set_cons_zero, List.set_cons_succ, valsL_zero, valsL_succ]
  obtain ⟨ho4, HO⟩ := HO
  refine wpS_V ho4.out rfl ?_ ?_
  · simp only [valsL_zero, valsL_succ]; apply FI_in rfl; intro wx hx
    go_simp
    exact ⟨rfl, rfl⟩
  simp only [Act.put, List.setIfInBounds_toArray, List.set_cons_zero, List.set_cons_succ, valsL_zero, valsL_succ]
  obtain ⟨ho5, HO⟩ := HO
  refine wpS_V ho5.out rfl ?_ ?_
  · simp only [valsL_zero, valsL_succ]; apply FI_in rfl; intro wx hx
    go_simp
    exact ⟨rfl, rfl⟩
  simp only [Act.put, List.setIfInBounds_toArray, List.set_cons_zero, List.set_cons_succ, valsL_zero, valsL_succ]
  obtain ⟨ho6, HO⟩ := HO
  refine wpS_V ho6.out rfl ?_ ?_
  · simp only [valsL_zero, valsL_succ]; apply FI_in rfl; intro wx hx
    go_simp
    exact ⟨rfl, rfl⟩
  simp only [Act.put, List.setIfInBounds_toArray, List.set_cons_zero, List.set_cons_succ, valsL_zero, valsL_succ]
  obtain ⟨ho7, HO⟩ := HO
  refine wpS_V ho7.out rfl ?_ ?_
  · simp only [valsL_zero, valsL_succ]; apply FI_in rfl; intro wx hx
    exact fu_load_at_g 30 (.tmp 45) rfl b3 6 (by kernel_rfl) _ _ _ _ _ (hx.1.heap H32.out (fun e => HNB.out (.inl e))) (by rfl) (by simp) Tryz.underlying30 rfl (by kernel_rfl)
  simp only [Act.put, List.setIfInBounds_toArray, List.set_cons_zero, List.set_cons_succ, valsL_zero, valsL_succ]
  obtain ⟨ho8, HO⟩ := HO
  refine wpS_V ho8.out rfl ?_ ?_
  · simp only [valsL_zero, valsL_succ]; apply FI_in rfl; intro wx hx
    go_simp
    exact ⟨rfl, rfl⟩
  simp only [Act.put, List.setIfInBounds_toArray, List.set_cons_zero, List.set_cons_succ, valsL_zero, valsL_succ]
  obtain ⟨ho9, HO⟩ := HO
  refine wpS_V ho9.out rfl ?_ ?_
  · simp only [valsL_zero, valsL_succ]; apply FI_in rfl; intro wx hx
    have hc0 := sb_cell (hx.1.heap H32.out (fun e => HNB.out (.inl e)))
    have hz0 := hx.2
    go_simp
    exact ⟨rfl, rfl⟩
  simp only [Act.put, List.setIfInBounds_toArray, List.set_cons_zero, List.set_cons_succ, valsL_zero, valsL_succ]
  obtain ⟨ho10, HO⟩ := HO
  refine wpS_V ho10.out rfl ?_ ?_
  · simp only [valsL_zero, valsL_succ]; apply FI_in rfl; intro wx hx
    go_simp
    exact ⟨rfl, rfl⟩
  simp only [Act.put, List.setIfInBounds_toArray, List.set_cons_zero, List.set_cons_succ, valsL_zero, valsL_succ]
  obtain ⟨ho11, HO⟩ := HO
  refine wpS_V ho11.out rfl ?_ ?_
  · simp only [valsL_zero, valsL_succ]; apply FI_in rfl; intro wx hx
    have hc0 := sb_cell (hx.1.heap H32.out (fun e => HNB.out (.inl e)))
    have hz0 := hx.2
    go_simp
    exact ⟨rfl, rfl⟩
  simp only [Act.put, List.setIfInBounds_toArray, List.set_cons_zero, List.set_cons_succ, valsL_zero, valsL_succ]
  obtain ⟨ho12, HO⟩ := HO
  refine wpS_V ho12.out rfl ?_ ?_
  · simp only [valsL_zero, valsL_succ]; apply FI_in rfl; intro wx hx
    go_simp
    exact ⟨rfl, rfl⟩
  simp only [Act.put, List.setIfInBounds_toArray, List.set_cons_zero, List.set_cons_succ, valsL_zero, valsL_succ]
  obtain ⟨ho13, HO⟩ := HO
  refine wpS_V ho13.out rfl ?_ ?_
  · simp only [valsL_zero, valsL_succ]; apply FI_in rfl; intro wx hx
    go_simp
    exact ⟨rfl, rfl⟩
  simp only [Act.put, List.setIfInBounds_toArray, List.set_cons_zero, List.set_cons_succ, valsL_zero, valsL_succ]
  obtain ⟨ho14, HO⟩ := HO
  refine wpS_V ho14.out rfl ?_ ?_
  · simp only [valsL_zero, valsL_succ]; apply FI_in rfl; intro wx hx
    go_simp
    exact ⟨rfl, rfl⟩
  simp only [Act.put, List.setIfInBounds_toArray, List.set_cons_zero, List.set_cons_succ, valsL_zero, valsL_succ]
  obtain ⟨ho15, HO⟩ := HO
  refine wpS_V ho15.out rfl ?_ ?_
  · simp only [valsL_zero, valsL_succ]; apply FI_in rfl; intro wx hx
    have hc0 := sb_cell (hx.1.heap H32.out (fun e => HNB.out (.inl e)))
    have hz0 := hx.2
    go_simp
    exact ⟨rfl, rfl⟩
  simp only [Act.put, List.setIfInBounds_toArray, List.set_cons_zero, List.set_cons_succ, valsL_zero, valsL_succ]
  obtain ⟨ho16, HO⟩ := HO
  refine wpS_V ho16.out rfl ?_ ?_
  · simp only [valsL_zero, valsL_succ]; apply FI_in rfl; intro wx hx
    go_simp
    exact ⟨rfl, rfl⟩
  simp only [Act.put, List.setIfInBounds_toArray, List.set_cons_zero, List.set_cons_succ, valsL_zero, valsL_succ]
  obtain ⟨ho17, HO⟩ := HO
  refine wpS_V ho17.out rfl ?_ ?_
  · simp only [valsL_zero, valsL_succ]; apply FI_in rfl; intro wx hx
    go_simp
    exact ⟨rfl, rfl⟩
  simp only [Act.put, List.setIfInBounds_toArray, List.set_cons_zero, List.set_cons_succ, valsL_zero, valsL_succ]
  obtain ⟨ho18, HO⟩ := HO
  refine wpS_W (c := 0) ho18.out rfl (FW_in rfl fun wx hx => ?_) fun u18 g18 => ?_
  · refine wu_store_at 30 (.tmp 56) (.tmp 46) rfl b 12 (by kernel_rfl) #[.int .i64 r.p.s0, .int .i64 r.p.s1, .int .i64 r.p.s2, .int .i64 r.p.s3, .int .i64 r.p.s4, .int .i64 r.p.s5, .int .i64 r.p.s6, .int .i64 r.p.s7, .int .i64 r.p.s8, .int .i64 r.p.s9, .int .i64 r.p.s10, .int .i64 r.p.s11] (by kernel_rfl) _ (C 0).toArray hx.2 (by kernel_rfl) (by show 12 + 12 ≤ (C 0).length; rw [HCL.out]; omega) (by simp [Value.oneCell']) ?_
    intro w' hh hf
    refine ⟨trivial, hx.1.same hf, ?_⟩
    rw [hh, ← HC0.out.1, putL_list]
  simp only [Act.put, List.setIfInBounds_toArray, List.set_cons_zero, List.set_cons_succ, valsL_zero, valsL_succ]
  obtain ⟨ho19, HO⟩ := HO
  refine wpS_V ho19.out rfl ?_ ?_
  · simp only [valsL_zero, valsL_succ]; apply FI_in rfl; intro wx hx
    go_simp
    exact ⟨rfl, rfl⟩
  simp only [Act.put, List.setIfInBounds_toArray, List.set_cons_zero, List.set_cons_succ, valsL_zero, valsL_succ]
  obtain ⟨ho20, HO⟩ := HO
  refine wpS_V ho20.out rfl ?_ ?_
  · simp only [valsL_zero, valsL_succ]; apply FI_in rfl; intro wx hx
    go_simp
    exact ⟨rfl, rfl⟩
  simp only [Act.put, List.setIfInBounds_toArray, List.set_cons_zero, List.set_cons_succ, valsL_zero, valsL_succ]
  obtain ⟨ho21, HO⟩ := HO
  refine wpS_W (c := 1) ho21.out rfl (FW_in rfl fun wx hx => ?_) fun u21 g21 => ?_
  · have hc := (hx.cell 7).trans HC1.out.1
    have hz := hx.free 7
    go_simp
    exact hx.step 7 _ HC0.out.2.1
  simp only [Act.put, List.setIfInBounds_toArray, List.set_cons_zero, List.set_cons_succ, valsL_zero, valsL_succ]
  obtain ⟨ho22, HO⟩ := HO
  refine wpS_V ho22.out rfl ?_ ?_
  · simp only [valsL_zero, valsL_succ]; apply FI_in rfl; intro wx hx
    go_simp
    exact ⟨rfl, rfl⟩
  simp only [Act.put, List.setIfInBounds_toArray, List.set_cons_zero, List.set_cons_succ, valsL_zero, valsL_succ]
  obtain ⟨ho23, HO⟩ := HO
  refine wpS_V ho23.out rfl ?_ ?_
  · simp only [valsL_zero, valsL_succ]; apply FI_in rfl; intro wx hx
    go_simp
    exact ⟨rfl, rfl⟩
  simp only [Act.put, List.setIfInBounds_toArray, List.set_cons_zero, List.set_cons_succ, valsL_zero, valsL_succ]
  obtain ⟨ho24, HO⟩ := HO
  refine wpS_W (c := 2) ho24.out rfl (FW_in rfl fun wx hx => ?_) fun u24 g24 => ?_
  · have hc := (hx.cell 8).trans HC1.out.2.1
    have hz := hx.free 8
    go_simp
    exact hx.step 8 _ HC0.out.2.2.1
  simp only [Act.put, List.setIfInBounds_toArray, List.set_cons_zero, List.set_cons_succ, valsL_zero, valsL_succ]
  obtain ⟨ho25, HO⟩ := HO
  refine wpS_V ho25.out rfl ?_ ?_
  · simp only [valsL_zero, valsL_succ]; apply FI_in rfl; intro wx hx
    go_simp
    exact ⟨rfl, rfl⟩
  simp only [Act.put, List.setIfInBounds_toArray, List.set_cons_zero, List.set_cons_succ, valsL_zero, valsL_succ]
  obtain ⟨ho26, HO⟩ := HO
  refine wpS_V ho26.out rfl ?_ ?_
  · simp only [valsL_zero, valsL_succ]; apply FI_in rfl; intro wx hx
    go_simp
    exact ⟨rfl, rfl⟩
  simp only [Act.put, List.setIfInBounds_toArray, List.set_cons_zero, List.set_cons_succ, valsL_zero, valsL_succ]
  obtain ⟨ho27, HO⟩ := HO
  refine wpS_W (c := 3) ho27.out rfl (FW_in rfl fun wx hx => ?_) fun u27 g27 => ?_
  · have hc := (hx.cell 9).trans HC1.out.2.2.1
    have hz := hx.free 9
    go_simp
    exact hx.step 9 _ HC0.out.2.2.2.1
  simp only [Act.put, List.setIfInBounds_toArray, List.set_cons_zero, List.set_cons_succ, valsL_zero, valsL_succ]
  obtain ⟨ho28, HO⟩ := HO
  refine wpS_V ho28.out rfl ?_ ?_
  · simp only [valsL_zero, valsL_succ]; apply FI_in rfl; intro wx hx
    go_simp
    exact ⟨rfl, rfl⟩
  simp only [Act.put, List.setIfInBounds_toArray, List.set_cons_zero, List.set_cons_succ, valsL_zero, valsL_succ]
  obtain ⟨ho29, HO⟩ := HO
  refine wpS_V ho29.out rfl ?_ ?_
  · simp only [valsL_zero, valsL_succ]; apply FI_in rfl; intro wx hx
    go_simp
    exact ⟨rfl, rfl⟩
  simp only [Act.put, List.setIfInBounds_toArray, List.set_cons_zero, List.set_cons_succ, valsL_zero, valsL_succ]
  obtain ⟨ho30, HO⟩ := HO
  refine wpS_W (c := 4) ho30.out rfl (FW_in rfl fun wx hx => ?_) fun u30 g30 => ?_
  · have hc := (hx.cell 10).trans HC1.out.2.2.2.1
    have hz := hx.free 10
    go_simp
    exact hx.step 10 _ HC0.out.2.2.2.2.1
  simp only [Act.put, List.setIfInBounds_toArray, List.set_cons_zero, List.set_cons_succ, valsL_zero, valsL_succ]
  obtain ⟨ho31, HO⟩ := HO
  refine wpS_V ho31.out rfl ?_ ?_
  · simp only [valsL_zero, valsL_succ]; apply FI_in rfl; intro wx hx
    go_simp
    exact ⟨rfl, rfl⟩
  simp only [Act.put, List.setIfInBounds_toArray, List.set_cons_zero, List.set_cons_succ, valsL_zero, valsL_succ]
  obtain ⟨ho32, HO⟩ := HO
  refine wpS_V ho32.out rfl ?_ ?_
  · simp only [valsL_zero, valsL_succ]; apply FI_in rfl; intro wx hx
    go_simp
    exact ⟨rfl, rfl⟩
  simp only [Act.put, List.setIfInBounds_toArray, List.set_cons_zero, List.set_cons_succ, valsL_zero, valsL_succ]
  obtain ⟨ho33, HO⟩ := HO
  refine wpS_W (c := 5) ho33.out rfl (FW_in rfl fun wx hx => ?_) fun u33 g33 => ?_
  · have hc := (hx.cell 6).trans HC1.out.2.2.2.2
    have hz := hx.free 6
    go_simp
    exact hx.step 6 _ HC0.out.2.2.2.2.2
  simp only [Act.put, List.setIfInBounds_toArray, List.set_cons_zero, List.set_cons_succ, valsL_zero, valsL_succ]
  refine HQ.out _ _ ?_
  intro wN hj
  clear HQ HO ho0 ho1 ho2 ho3 ho4 ho5 ho6 ho7 ho8 ho9 ho10 ho11 ho12 ho13 ho14 ho15 ho16 ho17 ho18 ho19 ho20 ho21 ho22 ho23 ho24 ho25 ho26 ho27 ho28 ho29 ho30 ho31 ho32 ho33
  have HBN : Hid (BkAt wN b p { B with w := { B.w with spec := r.p, phase := 1, step := 0, since := r.n, begun := r.n, from' := B.w.stable } }) := hid (HB2.out.fun0 hj.1 (by have := hj.2; rw [HC.out] at this; exact this) HB2.out.len)
  have HFN : Hid (Frm (bkM b p) w wN) := hid ((HF2.out.mono (M' := bkM b p) (fun _ _ h => h.elim)).trans hj.1 (fun k _ e => .inl e))
  have H3N := hid (hj.1.heap H32.out (fun e => HNB.out (.inl e)))
  clear hj HJ0 HC0 HC1 HC HC5 HCL
  have c0' : wN.cell? ⟨b3, 0, none⟩ = some (.int .i64 r.k) := sb_cell H3N.out 0
  have e3' := beq_yes HK.out
  go_upto_region 23 with fail
  clear c0' e3'
  have hln : B.h.length ≤ 24 := HOk.out.inv.hi
  have HLN := hid hln
  clear hln
  have HNX : Hid (∀ k, (k = b ∨ p.hv.ownBlock = some k) → bkM b p k) := hid fun k e => by
    rcases e with e | e
    · exact .inl e
    · exact .inr (.inr (.inr (.inr (.inr e))))
  apply wp_region_S [6, 7, 10] (valsL (_ :: _ :: _ :: _ :: _ :: (.agg #[.int .i64 r.k, .int .i64 r.e, .int .i64 r.w, .int .i64 r.n, .int .i64 r.q, .string r.t, .int .i64 r.p.s0, .int .i64 r.p.s1, .int .i64 r.p.s2, .int .i64 r.p.s3, .int .i64 r.p.s4, .int .i64 r.p.s5, .int .i64 r.p.s6, .int .i64 r.p.s7, .int .i64 r.p.s8, .int .i64 r.p.s9, .int .i64 r.p.s10, .int .i64 r.p.s11]) :: undef :: undef :: _ :: _ :: undef :: [])) (fun i => if i = 4 then 1 else 3) (fun i wx => Frm (fun k => k = b ∨ p.hv.ownBlock = some k) wN wx ∧ (i = 4 → wx.cell? ⟨b, 72, none⟩ = some p.hv)) (fun _ _ => True) (HJ wN b p { B.w with spec := r.p, phase := 1, step := 0, since := r.n, begun := r.n, from' := B.w.stable } B.us B.h.length (B.h.flatMap Rc.cells) #[.int .i64 r.k, .int .i64 r.e, .int .i64 r.w, .int .i64 r.n, .int .i64 r.q, .string r.t, .int .i64 r.p.s0, .int .i64 r.p.s1, .int .i64 r.p.s2, .int .i64 r.p.s3, .int .i64 r.p.s4, .int .i64 r.p.s5, .int .i64 r.p.s6, .int .i64 r.p.s7, .int .i64 r.p.s8, .int .i64 r.p.s9, .int .i64 r.p.s10, .int .i64 r.p.s11]) ?hm2 ?hB2 ?hU2 ?hI2 ?hG2 ?hZ2 ?main2
  case hm2 => kernel_rfl
  case hB2 => kernel_rfl
  case hU2 =>
    exact fun _ => ⟨undef, trivial⟩
  case hI2 =>
    exact fun c E wx hc hj i hb => ⟨hj.f, fun h => (by subst h; exact (HBN.out.frm0 (hj.f0 hb)).hist)⟩
  case hG2 =>
    exact fun c E wx wy hc hj hf => hj.grow hf
  case hZ2 =>
    exact fun wx hf => HJ.first HBN.out.blk hf
  rotate_left 7
  intro ops QT HO HQ
  obtain ⟨ho0, HO⟩ := HO
  refine wpS_V ho0.out rfl ?_ ?_
  · simp only [valsL_zero, valsL_succ]; apply FI_in rfl; intro wx hx
    go_simp
    exact ⟨rfl, rfl⟩
  simp only [Act.put, List.setIfInBounds_toArray, List.set_cons_zero, List.set_cons_succ, valsL_zero, valsL_succ]
  obtain ⟨ho1, HO⟩ := HO
  refine wpS_V ho1.out rfl ?_ ?_
  · simp only [valsL_zero, valsL_succ]; apply FI_in rfl; intro wx hx
    go_simp
    exact ⟨rfl, rfl⟩
  simp only [Act.put, List.setIfInBounds_toArray, List.set_cons_zero, List.set_cons_succ, valsL_zero, valsL_succ]
  obtain ⟨ho2, HO⟩ := HO
  refine wpS_V ho2.out rfl ?_ ?_
  · simp only [valsL_zero, valsL_succ]; apply FI_in rfl; intro wx hx
    go_simp
    exact ⟨rfl, rfl⟩
  simp only [Act.put, List.setIfInBounds_toArray, List.set_cons_zero, List.set_cons_succ, valsL_zero, valsL_succ]
  obtain ⟨ho3, HO⟩ := HO
  refine wpS_V ho3.out rfl ?_ ?_
  · simp only [valsL_zero, valsL_succ]; apply FI_in rfl; intro wx hx
    go_simp
    exact ⟨rfl, rfl⟩
  simp only [Act.put, List.setIfInBounds_toArray, List.set_cons_zero, List.set_cons_succ, valsL_zero, valsL_succ]
  obtain ⟨ho4, HO⟩ := HO
  refine wpS_V ho4.out rfl ?_ ?_
  · simp only [valsL_zero, valsL_succ]; apply FI_in rfl; intro wx hx
    have hz := hx.2 trivial
    have hc0 := sb_cell (hx.1.heap H3N.out (fun e => HNB.out (HNX.out _ e)))
    go_simp
    exact ⟨rfl, rfl⟩
  simp only [Act.put, List.setIfInBounds_toArray, List.set_cons_zero, List.set_cons_succ, valsL_zero, valsL_succ]
  obtain ⟨ho5, HO⟩ := HO
  refine wpS_V ho5.out rfl ?_ ?_
  · simp only [valsL_zero, valsL_succ]; apply FI_in rfl; intro wx hx
    exact fu_load_row_g 37 (.tmp 3) rfl (b3) (by kernel_rfl) _ _ _ _ (hx.1.heap H3N.out (fun e => HNB.out (HNX.out _ e))) Tryz.underlying37 rfl (by kernel_rfl)
  simp only [Act.put, List.setIfInBounds_toArray, List.set_cons_zero, List.set_cons_succ, valsL_zero, valsL_succ]
  obtain ⟨ho6, HO⟩ := HO
  refine wpS_W (c := 0) ho6.out rfl (FW_in rfl fun wx hx => ?_) fun u6 g6 => ?_
  · go_simp
    exact hx.next1
  simp only [Act.put, List.setIfInBounds_toArray, List.set_cons_zero, List.set_cons_succ, valsL_zero, valsL_succ]
  obtain ⟨ho7, HO⟩ := HO
  refine wpS_W (c := 1) ho7.out rfl (FW_in rfl fun wx hx => ?_) fun u7 g7 => ?_
  · obtain ⟨v', w', hr, hj'⟩ := hx.next2 rfl (rcc_one r) HBN.out.his (by have := HLN.out; omega) HBN.out.apart.2.2.2.2 (sb_lt HBN.out.blk)
    exact wu_append (.tmp 141) (.tmp 143) 22 rfl p.hv u6 (by kernel_rfl) (by kernel_rfl) hr ⟨trivial, hj'⟩
  simp only [Act.put, List.setIfInBounds_toArray, List.set_cons_zero, List.set_cons_succ, valsL_zero, valsL_succ]
  obtain ⟨ho8, HO⟩ := HO
  refine wpS_V ho8.out rfl ?_ ?_
  · simp only [valsL_zero, valsL_succ]; apply FI_in rfl; intro wx hx
    go_simp
    exact ⟨rfl, rfl⟩
  simp only [Act.put, List.setIfInBounds_toArray, List.set_cons_zero, List.set_cons_succ, valsL_zero, valsL_succ]
  obtain ⟨ho9, HO⟩ := HO
  refine wpS_V ho9.out rfl ?_ ?_
  · simp only [valsL_zero, valsL_succ]; apply FI_in rfl; intro wx hx
    go_simp
    exact ⟨rfl, rfl⟩
  simp only [Act.put, List.setIfInBounds_toArray, List.set_cons_zero, List.set_cons_succ, valsL_zero, valsL_succ]
  obtain ⟨ho10, HO⟩ := HO
  refine wpS_W (c := 2) ho10.out rfl (FW_in rfl fun wx hx => ?_) fun u10 g10 => ?_
  · obtain ⟨hO, hOB⟩ := hx.o (by omega)
    have hO : Ow wx 37 18 u7 (B.h.length + 1) (B.h.flatMap Rc.cells ++ (#[.int .i64 r.k, .int .i64 r.e, .int .i64 r.w, .int .i64 r.n, .int .i64 r.q, .string r.t, .int .i64 r.p.s0, .int .i64 r.p.s1, .int .i64 r.p.s2, .int .i64 r.p.s3, .int .i64 r.p.s4, .int .i64 r.p.s5, .int .i64 r.p.s6, .int .i64 r.p.s7, .int .i64 r.p.s8, .int .i64 r.p.s9, .int .i64 r.p.s10, .int .i64 r.p.s11]).toList) := hO
    have hOB : ∀ k, u7.ownBlock = some k → p.hv.ownBlock = some k ∨ wN.heap.size ≤ k := hOB
    have hne : ∀ k, u7.ownBlock = some k → k ≠ b := fun k hk e => by have hbl := sb_lt HBN.out.blk; rcases hOB k hk with h | h; exact HBN.out.apart.2.2.2.2 (by rw [← e]; exact h); omega
    have hc : wx.cell? ⟨b, 72, none⟩ = some p.hv := by rw [sb_cell (hx.b2 (by omega)), List.getElem?_toArray]; exact bk_hist _ _ _ HBN.out.len
    have hz := sb_free (hx.b2 (by omega)) 72
    have hnx := hx.next3 HBN.out.len
    rcases hO.2 with ⟨_, h0⟩ | ⟨g, o, cap, cur, rfl, _⟩
    · omega
    · go_simp; exact hnx _ rfl hne
  simp only [Act.put, List.setIfInBounds_toArray, List.set_cons_zero, List.set_cons_succ, valsL_zero, valsL_succ]
  refine HQ.out _ _ ?_
  intro wM hj
  clear HQ HO ho0 ho1 ho2 ho3 ho4 ho5 ho6 ho7 ho8 ho9 ho10
  obtain ⟨hO, hOB⟩ := hj.o (by decide)
  have hO : Ow wM 37 18 u7 (B.h.length + 1) (B.h.flatMap Rc.cells ++ (#[.int .i64 r.k, .int .i64 r.e, .int .i64 r.w, .int .i64 r.n, .int .i64 r.q, .string r.t, .int .i64 r.p.s0, .int .i64 r.p.s1, .int .i64 r.p.s2, .int .i64 r.p.s3, .int .i64 r.p.s4, .int .i64 r.p.s5, .int .i64 r.p.s6, .int .i64 r.p.s7, .int .i64 r.p.s8, .int .i64 r.p.s9, .int .i64 r.p.s10, .int .i64 r.p.s11]).toList) := hO
  have hOB : ∀ k, u7.ownBlock = some k → p.hv.ownBlock = some k ∨ wN.heap.size ≤ k := hOB
  have hb3 : wM.heap[b]? = some (.cells (bkCells { p with hv := u7 } { B.w with spec := r.p, phase := 1, step := 0, since := r.n, begun := r.n, from' := B.w.stable } B.us).toArray 76 (0, 0)) := hj.b3 rfl
  have HFM := hid (HFN.out.trans hj.f (fun k _ e => HNX.out k e))
  have hfl : (B.h ++ [r]).flatMap Rc.cells = B.h.flatMap Rc.cells ++ (#[.int .i64 r.k, .int .i64 r.e, .int .i64 r.w, .int .i64 r.n, .int .i64 r.q, .string r.t, .int .i64 r.p.s0, .int .i64 r.p.s1, .int .i64 r.p.s2, .int .i64 r.p.s3, .int .i64 r.p.s4, .int .i64 r.p.s5, .int .i64 r.p.s6, .int .i64 r.p.s7, .int .i64 r.p.s8, .int .i64 r.p.s9, .int .i64 r.p.s10, .int .i64 r.p.s11]).toList := by rw [List.flatMap_append]; rfl
  have HBM := hid (HBN.out.rehist (l := B.h ++ [r]) hj.f (fun k h => h) hb3 (by rw [List.length_append, hfl]; exact hO))
  have HOB : Hid (∀ k, u7.ownBlock = some k → p.hv.ownBlock = some k ∨ w.heap.size ≤ k) := hid fun k hk => by
    rcases hOB k hk with h | h
    · exact .inl h
    · exact .inr (Nat.le_trans HFN.out.size h)
  rcases hO.2 with ⟨_, h0⟩ | ⟨g, o, cap, cur, rfl, _, hcap, hcm, _⟩
  · omega
  have HCAP := hid (And.intro hcap hcm)
  have H3M := hid (hj.f.heap H3N.out (fun e => HNB.out (HNX.out _ e)))
  clear hj hO hOB hb3 hfl hcap hcm
  obtain ⟨N, hN⟩ : ∃ N, N = B.h.length + 1 := ⟨_, rfl⟩
  rw [← hN] at HBM HOB HCAP ⊢
  have HN := hid hN
  clear hN
  go_upto_region 24 with fail
  by_cases h24 : N ≤ 24
  · have hlast : lastN (B.h ++ [r]) = B.h ++ [r] := by
      unfold lastN
      rw [List.length_append, List.length_singleton, ← HN.out, show N - 24 = 0 by omega, List.drop_zero]
    have HLAST := hid hlast
    have q1 : IntKind.i64.wrap ((N : Int) - 24) = (N : Int) - 24 := by rw [Go.IntWalk.i64_left]; exact wrap_of (by omega)
    have q2 : max ((N : Int) - 24) 0 = 0 := by omega
    clear hlast h24
    apply wp_region_G 15 (fun _ => none) (valsL (_ :: _ :: _ :: _ :: _ :: _ :: _ :: _ :: _ :: _ :: _ :: _ :: (.slice (some ⟨g, o, none⟩) N cap) :: _ :: _ :: [])) ?hm3 ?hB3 ?hal3 ?main3
    case hm3 => kernel_rfl
    case hB3 => kernel_rfl
    case hal3 =>
      intro i o obj ho hi
      cases hi
    rotate_left 14
    intro ops QT HO HQ
    obtain ⟨ho0, HO⟩ := HO
    refine wpG_v ho0.out rfl ?_ ?_
    · simp only [valsL_zero, valsL_succ]; apply FY_in rfl; intro wx hx
      go_simp
      exact ⟨rfl, rfl⟩
    simp only [Act.put, List.setIfInBounds_toArray, List.set_cons_zero, List.set_cons_succ, valsL_zero, valsL_succ]
    obtain ⟨ho1, HO⟩ := HO
    refine wpG_v ho1.out rfl ?_ ?_
    · simp only [valsL_zero, valsL_succ]; apply FY_in rfl; intro wx hx
      go_simp
      exact ⟨rfl, rfl⟩
    simp only [Act.put, List.setIfInBounds_toArray, List.set_cons_zero, List.set_cons_succ, valsL_zero, valsL_succ]
    obtain ⟨ho2, HO⟩ := HO
    refine wpG_v ho2.out rfl ?_ ?_
    · simp only [valsL_zero, valsL_succ]; apply FY_in rfl; intro wx hx
      go_simp
      exact ⟨rfl, rfl⟩
    simp only [Act.put, List.setIfInBounds_toArray, List.set_cons_zero, List.set_cons_succ, valsL_zero, valsL_succ]
    obtain ⟨ho3, HO⟩ := HO
    refine wpG_v ho3.out rfl ?_ ?_
    · simp only [valsL_zero, valsL_succ]; apply FY_in rfl; intro wx hx
      go_simp
      exact ⟨rfl, rfl⟩
    simp only [Act.put, List.setIfInBounds_toArray, List.set_cons_zero, List.set_cons_succ, valsL_zero, valsL_succ]
    obtain ⟨ho4, HO⟩ := HO
    refine wpG_v ho4.out rfl ?_ ?_
    · simp only [valsL_zero, valsL_succ]; apply FY_in rfl; intro wx hx
      have hz0 := (HBM.out.frm0 hx).hist
      go_simp
      exact ⟨rfl, rfl⟩
    simp only [Act.put, List.setIfInBounds_toArray, List.set_cons_zero, List.set_cons_succ, valsL_zero, valsL_succ]
    obtain ⟨ho5, HO⟩ := HO
    refine wpG_v ho5.out rfl ?_ ?_
    · simp only [valsL_zero, valsL_succ]; apply FY_in rfl; intro wx hx
      go_simp
      exact ⟨rfl, rfl⟩
    simp only [Act.put, List.setIfInBounds_toArray, List.set_cons_zero, List.set_cons_succ, valsL_zero, valsL_succ]
    obtain ⟨ho6, HO⟩ := HO
    refine wpG_v ho6.out rfl ?_ ?_
    · simp only [valsL_zero, valsL_succ]; apply FY_in rfl; intro wx hx
      go_simp
      exact ⟨rfl, rfl⟩
    simp only [Act.put, List.setIfInBounds_toArray, List.set_cons_zero, List.set_cons_succ, valsL_zero, valsL_succ]
    obtain ⟨ho7, HO⟩ := HO
    refine wpG_v ho7.out rfl ?_ ?_
    · simp only [valsL_zero, valsL_succ]; apply FY_in rfl; intro wx hx
      go_simp
      exact ⟨rfl, rfl⟩
    simp only [Act.put, List.setIfInBounds_toArray, List.set_cons_zero, List.set_cons_succ, valsL_zero, valsL_succ]
    obtain ⟨ho8, HO⟩ := HO
    refine wpG_v ho8.out rfl ?_ ?_
    · simp only [valsL_zero, valsL_succ]; apply FY_in rfl; intro wx hx
      have hz0 := (HBM.out.frm0 hx).hist
      go_simp
      exact ⟨rfl, rfl⟩
    simp only [Act.put, List.setIfInBounds_toArray, List.set_cons_zero, List.set_cons_succ, valsL_zero, valsL_succ]
    obtain ⟨ho9, HO⟩ := HO
    refine wpG_v ho9.out rfl ?_ ?_
    · simp only [valsL_zero, valsL_succ]; apply FY_in rfl; intro wx hx
      go_simp
      exact ⟨rfl, rfl⟩
    simp only [Act.put, List.setIfInBounds_toArray, List.set_cons_zero, List.set_cons_succ, valsL_zero, valsL_succ]
    obtain ⟨ho10, HO⟩ := HO
    refine wpG_v ho10.out rfl ?_ ?_
    · simp only [valsL_zero, valsL_succ]; apply FY_in rfl; intro wx hx
      go_simp
      exact ⟨rfl, rfl⟩
    simp only [Act.put, List.setIfInBounds_toArray, List.set_cons_zero, List.set_cons_succ, valsL_zero, valsL_succ]
    obtain ⟨ho11, HO⟩ := HO
    refine wpG_v ho11.out rfl ?_ ?_
    · simp only [valsL_zero, valsL_succ]; apply FY_in rfl; intro wx hx
      go_simp
      exact ⟨rfl, rfl⟩
    simp only [Act.put, List.setIfInBounds_toArray, List.set_cons_zero, List.set_cons_succ, valsL_zero, valsL_succ]
    obtain ⟨ho12, HO⟩ := HO
    refine wpG_v ho12.out rfl ?_ ?_
    · simp only [valsL_zero, valsL_succ]; apply FY_in rfl; intro wx hx
      go_simp
      exact ⟨rfl, rfl⟩
    simp only [Act.put, List.setIfInBounds_toArray, List.set_cons_zero, List.set_cons_succ, valsL_zero, valsL_succ]
    obtain ⟨ho13, HO⟩ := HO
    refine wpG_v ho13.out rfl ?_ ?_
    · simp only [valsL_zero, valsL_succ]; apply FY_in rfl; intro wx hx
      go_simp
      exact ⟨rfl, rfl⟩
    simp only [Act.put, List.setIfInBounds_toArray, List.set_cons_zero, List.set_cons_succ, valsL_zero, valsL_succ]
    obtain ⟨ho14, HO⟩ := HO
    refine wpG_v ho14.out rfl ?_ ?_
    · simp only [valsL_zero, valsL_succ]; apply FY_in rfl; intro wx hx
      go_simp
      exact ⟨rfl, rfl⟩
    simp only [Act.put, List.setIfInBounds_toArray, List.set_cons_zero, List.set_cons_succ, valsL_zero, valsL_succ]
    refine HQ.out _ _ ?_
    intro wL hf hE hN
    simp only [List.drop_succ_cons, List.drop_zero]
    clear HQ HO hE hN ho0 ho1 ho2 ho3 ho4 ho5 ho6 ho7 ho8 ho9 ho10 ho11 ho12 ho13 ho14
    have HFL := hid (HFM.out.then0 hf)
    have HBL := hid (HBM.out.frm0 hf)
    clear hf q1 q2
    have hc := HBL.out.hist
    have hz := HBL.out.free 72
    have hset := hid (HBL.out.sethist (.slice (some ⟨g, o, none⟩) N cap) (B.h ++ [r]) HBL.out.his HBL.out.apart.2.2.2.2)
    have HFE : Hid (Frm (bkM b p) w (wL.setCell ⟨b, 72, none⟩ (.slice (some ⟨g, o, none⟩) N cap))) := hid (HFL.out.put b 72 _ (fun _ => .inl rfl))
    go_wp2_with fail
    go_ret
    have e : B.does r = { B with w := { B.w with spec := r.p, phase := 1, step := 0, since := r.n, begun := r.n, from' := B.w.stable }, h := lastN (B.h ++ [r]) } := by
      unfold Bk.does
      rw [if_neg (by have := HK.out; omega), if_neg (by have := HK.out; omega), if_pos HK.out]
    have h1 := hset.out
    rw [e, HLAST.out]
    exact ⟨rfl, _, h1, HFE.out, HOB.out⟩
  · have h25 : N = 25 := by have := HLN.out; have := HN.out; omega
    have hlast : lastN (B.h ++ [r]) = (B.h ++ [r]).drop 1 := by
      unfold lastN
      rw [List.length_append, List.length_singleton, ← HN.out, h25]
    have HLAST := hid hlast
    have hl25 : (B.h ++ [r]).length = 25 := by rw [List.length_append, List.length_singleton, ← HN.out, h25]
    subst h25
    have HL25 := hid hl25
    clear hlast h24 hl25
    have q1 : IntKind.i64.wrap 1 = 1 := by rw [Go.IntWalk.i64_left]; exact wrap_of (by omega)
    have q2 : max (1 : Int) 0 = 1 := by omega
    apply wp_region_G 15 (fun _ => none) (valsL (_ :: _ :: _ :: _ :: _ :: _ :: _ :: _ :: _ :: _ :: _ :: _ :: (.slice (some ⟨g, o + 18, none⟩) 24 (cap - 1)) :: _ :: _ :: [])) ?hm4 ?hB4 ?hal4 ?main4
    case hm4 => kernel_rfl
    case hB4 => kernel_rfl
    case hal4 =>
      intro i o obj ho hi
      cases hi
    rotate_left 14
    intro ops QT HO HQ
    obtain ⟨ho0, HO⟩ := HO
    refine wpG_v ho0.out rfl ?_ ?_
    · simp only [valsL_zero, valsL_succ]; apply FY_in rfl; intro wx hx
      go_simp
      exact ⟨rfl, rfl⟩
    simp only [Act.put, List.setIfInBounds_toArray, List.set_cons_zero, List.set_cons_succ, valsL_zero, valsL_succ]
    obtain ⟨ho1, HO⟩ := HO
    refine wpG_v ho1.out rfl ?_ ?_
    · simp only [valsL_zero, valsL_succ]; apply FY_in rfl; intro wx hx
      go_simp
      exact ⟨rfl, rfl⟩
    simp only [Act.put, List.setIfInBounds_toArray, List.set_cons_zero, List.set_cons_succ, valsL_zero, valsL_succ]
    obtain ⟨ho2, HO⟩ := HO
    refine wpG_v ho2.out rfl ?_ ?_
    · simp only [valsL_zero, valsL_succ]; apply FY_in rfl; intro wx hx
      go_simp
      exact ⟨rfl, rfl⟩
    simp only [Act.put, List.setIfInBounds_toArray, List.set_cons_zero, List.set_cons_succ, valsL_zero, valsL_succ]
    obtain ⟨ho3, HO⟩ := HO
    refine wpG_v ho3.out rfl ?_ ?_
    · simp only [valsL_zero, valsL_succ]; apply FY_in rfl; intro wx hx
      go_simp
      exact ⟨rfl, rfl⟩
    simp only [Act.put, List.setIfInBounds_toArray, List.set_cons_zero, List.set_cons_succ, valsL_zero, valsL_succ]
    obtain ⟨ho4, HO⟩ := HO
    refine wpG_v ho4.out rfl ?_ ?_
    · simp only [valsL_zero, valsL_succ]; apply FY_in rfl; intro wx hx
      have hz0 := (HBM.out.frm0 hx).hist
      go_simp
      exact ⟨rfl, rfl⟩
    simp only [Act.put, List.setIfInBounds_toArray, List.set_cons_zero, List.set_cons_succ, valsL_zero, valsL_succ]
    obtain ⟨ho5, HO⟩ := HO
    refine wpG_v ho5.out rfl ?_ ?_
    · simp only [valsL_zero, valsL_succ]; apply FY_in rfl; intro wx hx
      go_simp
      exact ⟨rfl, rfl⟩
    simp only [Act.put, List.setIfInBounds_toArray, List.set_cons_zero, List.set_cons_succ, valsL_zero, valsL_succ]
    obtain ⟨ho6, HO⟩ := HO
    refine wpG_v ho6.out rfl ?_ ?_
    · simp only [valsL_zero, valsL_succ]; apply FY_in rfl; intro wx hx
      go_simp
      exact ⟨rfl, rfl⟩
    simp only [Act.put, List.setIfInBounds_toArray, List.set_cons_zero, List.set_cons_succ, valsL_zero, valsL_succ]
    obtain ⟨ho7, HO⟩ := HO
    refine wpG_v ho7.out rfl ?_ ?_
    · simp only [valsL_zero, valsL_succ]; apply FY_in rfl; intro wx hx
      go_simp
      exact ⟨rfl, rfl⟩
    simp only [Act.put, List.setIfInBounds_toArray, List.set_cons_zero, List.set_cons_succ, valsL_zero, valsL_succ]
    obtain ⟨ho8, HO⟩ := HO
    refine wpG_v ho8.out rfl ?_ ?_
    · simp only [valsL_zero, valsL_succ]; apply FY_in rfl; intro wx hx
      have hz0 := (HBM.out.frm0 hx).hist
      go_simp
      exact ⟨rfl, rfl⟩
    simp only [Act.put, List.setIfInBounds_toArray, List.set_cons_zero, List.set_cons_succ, valsL_zero, valsL_succ]
    obtain ⟨ho9, HO⟩ := HO
    refine wpG_v ho9.out rfl ?_ ?_
    · simp only [valsL_zero, valsL_succ]; apply FY_in rfl; intro wx hx
      go_simp
      exact ⟨rfl, rfl⟩
    simp only [Act.put, List.setIfInBounds_toArray, List.set_cons_zero, List.set_cons_succ, valsL_zero, valsL_succ]
    obtain ⟨ho10, HO⟩ := HO
    refine wpG_v ho10.out rfl ?_ ?_
    · simp only [valsL_zero, valsL_succ]; apply FY_in rfl; intro wx hx
      go_simp
      exact ⟨rfl, rfl⟩
    simp only [Act.put, List.setIfInBounds_toArray, List.set_cons_zero, List.set_cons_succ, valsL_zero, valsL_succ]
    obtain ⟨ho11, HO⟩ := HO
    refine wpG_v ho11.out rfl ?_ ?_
    · simp only [valsL_zero, valsL_succ]; apply FY_in rfl; intro wx hx
      go_simp
      exact ⟨rfl, rfl⟩
    simp only [Act.put, List.setIfInBounds_toArray, List.set_cons_zero, List.set_cons_succ, valsL_zero, valsL_succ]
    obtain ⟨ho12, HO⟩ := HO
    refine wpG_v ho12.out rfl ?_ ?_
    · simp only [valsL_zero, valsL_succ]; apply FY_in rfl; intro wx hx
      have hq : ¬ cap = 1 := (by have := HCAP.out.1; omega)
      go_simp
      exact ⟨rfl, rfl⟩
    simp only [Act.put, List.setIfInBounds_toArray, List.set_cons_zero, List.set_cons_succ, valsL_zero, valsL_succ]
    obtain ⟨ho13, HO⟩ := HO
    refine wpG_v ho13.out rfl ?_ ?_
    · simp only [valsL_zero, valsL_succ]; apply FY_in rfl; intro wx hx
      go_simp
      exact ⟨rfl, rfl⟩
    simp only [Act.put, List.setIfInBounds_toArray, List.set_cons_zero, List.set_cons_succ, valsL_zero, valsL_succ]
    obtain ⟨ho14, HO⟩ := HO
    refine wpG_v ho14.out rfl ?_ ?_
    · simp only [valsL_zero, valsL_succ]; apply FY_in rfl; intro wx hx
      go_simp
      exact ⟨rfl, rfl⟩
    simp only [Act.put, List.setIfInBounds_toArray, List.set_cons_zero, List.set_cons_succ, valsL_zero, valsL_succ]
    refine HQ.out _ _ ?_
    intro wL hf hE hN
    simp only [List.drop_succ_cons, List.drop_zero]
    clear HQ HO hE hN ho0 ho1 ho2 ho3 ho4 ho5 ho6 ho7 ho8 ho9 ho10 ho11 ho12 ho13 ho14
    have HCUT : Hid (Ow wL 37 18 (.slice (some ⟨g, o + 18, none⟩) 24 (cap - 1)) ((B.h ++ [r]).drop 1).length (((B.h ++ [r]).drop 1).flatMap Rc.cells)) := by
      have := (HBM.out.his.frm hf (fun _ _ h => h)).cut rcc_len 1 (by show 1 ≤ (B.h ++ [r]).length; rw [HL25.out]; omega)
      rw [show (B.h ++ [r]).length - 1 = 24 by rw [HL25.out]] at this
      exact hid this
    have HFL := hid (HFM.out.then0 hf)
    have HBL := hid (HBM.out.frm0 hf)
    clear hf q1 q2
    have hc := HBL.out.hist
    have hz := HBL.out.free 72
    have hset := hid (HBL.out.sethist (.slice (some ⟨g, o + 18, none⟩) 24 (cap - 1)) ((B.h ++ [r]).drop 1) (HCUT.out.frm (Frm.refl M0 wL) (fun _ _ h => h)) HBL.out.apart.2.2.2.2)
    have HFE : Hid (Frm (bkM b p) w (wL.setCell ⟨b, 72, none⟩ (.slice (some ⟨g, o + 18, none⟩) 24 (cap - 1)))) := hid (HFL.out.put b 72 _ (fun _ => .inl rfl))
    go_wp2_with fail
    go_ret
    have e : B.does r = { B with w := { B.w with spec := r.p, phase := 1, step := 0, since := r.n, begun := r.n, from' := B.w.stable }, h := lastN (B.h ++ [r]) } := by
      unfold Bk.does
      rw [if_neg (by have := HK.out; omega), if_neg (by have := HK.out; omega), if_pos HK.out]
    have h1 := hset.out
    rw [e, HLAST.out]
    exact ⟨rfl, _, h1, HFE.out, fun k hk => HOB.out k hk⟩
set_option maxRecDepth 20000 in
set_option maxHeartbeats 8000000 in
theorem apply_move (b : Nat) (p : BkP) (B : Bk) (r : Rc) (w : World) (h : BkAt w b p B) (ho : B.Ok) (hT : TabS w b p) (hc : B.check r = 0) (hk : r.k = 4) :
    Calls Tryz.prog 16 #[bp b, r.val] w fun x w' => Took b p (B.does r) w x w' := by
  have HB := hid h
  have HOk := hid ho
  have HTS := hid hT
  have HC0 := hid hc
  have HK := hid hk
  have HV : Hid (r.val = .agg #[.int .i64 r.k, .int .i64 r.e, .int .i64 r.w, .int .i64 r.n, .int .i64 r.q, .string r.t, .int .i64 r.p.s0, .int .i64 r.p.s1, .int .i64 r.p.s2, .int .i64 r.p.s3, .int .i64 r.p.s4, .int .i64 r.p.s5, .int .i64 r.p.s6, .int .i64 r.p.s7, .int .i64 r.p.s8, .int .i64 r.p.s9, .int .i64 r.p.s10, .int .i64 r.p.s11]) := rfl
  rw [HV.out]
  have e1 := beq_no (show ¬ r.k = 1 by omega)
  have e2 := beq_no (show ¬ r.k = 2 by omega)
  have e3 := beq_no (show ¬ r.k = 3 by omega)
  have e4 := beq_yes hk
  have e7 := beq_no (show ¬ r.k = 7 by omega)
  clear h ho hT hc hk
  go_enter Tryz.func16, Tryz.ntmps16
  go_upto_region 1 with fail
  (obtain ⟨b3, hbb3⟩ : ∃ q, q = w.heap.size := ⟨_, rfl⟩); (obtain ⟨w1, hww1⟩ : ∃ q, q = w.alloc (.cells #[.int .i64 r.k, .int .i64 r.e, .int .i64 r.w, .int .i64 r.n, .int .i64 r.q, .string r.t, .int .i64 r.p.s0, .int .i64 r.p.s1, .int .i64 r.p.s2, .int .i64 r.p.s3, .int .i64 r.p.s4, .int .i64 r.p.s5, .int .i64 r.p.s6, .int .i64 r.p.s7, .int .i64 r.p.s8, .int .i64 r.p.s9, .int .i64 r.p.s10, .int .i64 r.p.s11] 37) := ⟨_, rfl⟩); have hn := new1 w (.cells #[.int .i64 r.k, .int .i64 r.e, .int .i64 r.w, .int .i64 r.n, .int .i64 r.q, .string r.t, .int .i64 r.p.s0, .int .i64 r.p.s1, .int .i64 r.p.s2, .int .i64 r.p.s3, .int .i64 r.p.s4, .int .i64 r.p.s5, .int .i64 r.p.s6, .int .i64 r.p.s7, .int .i64 r.p.s8, .int .i64 r.p.s9, .int .i64 r.p.s10, .int .i64 r.p.s11] 37); have hf := (Frm.refl M0 w).alloc (.cells #[.int .i64 r.k, .int .i64 r.e, .int .i64 r.w, .int .i64 r.n, .int .i64 r.q, .string r.t, .int .i64 r.p.s0, .int .i64 r.p.s1, .int .i64 r.p.s2, .int .i64 r.p.s3, .int .i64 r.p.s4, .int .i64 r.p.s5, .int .i64 r.p.s6, .int .i64 r.p.s7, .int .i64 r.p.s8, .int .i64 r.p.s9, .int .i64 r.p.s10, .int .i64 r.p.s11] 37); rw [← hww1] at hn hf ⊢; rw [← hbb3] at hn ⊢; clear hww1
  have HNB : Hid (¬ bkM b p b3) := hid (fun e => by have := HB.out.lt _ e; omega)
  have HB1 := hid (HB.out.frm0 hf)
  have HF1 := hid hf
  have HZ3 : Hid (w.heap.size ≤ b3) := hid (by omega)
  have H3 := hid hn
  clear hn hf hbb3
  go_wp2_with (refine wpList_load_row_w (by kernel_rfl) 37 (.tmp 3) (by with_reducible rfl) b3 (by kernel_rfl) _ _ _ _ H3.out Tryz.underlying37 rfl (by kernel_rfl) ?_)
  refine (HV.out ▸ bcheck_calls b p B r w1 HB1.out HOk.out (HTS.out _ (HF1.out.mono (fun _ _ h => h.elim)))).mono ?_
  rintro _ w2 ⟨rfl, hf⟩
  rw [HC0.out]
  have HF2 := hid (HF1.out.then0 hf)
  have HB2 := hid (HB1.out.frm0 hf)
  have H32 := hid (hf.heap H3.out (fun h => h))
  have c0 : w2.cell? ⟨b3, 0, none⟩ = some (.int .i64 r.k) := sb_cell H32.out 0
  clear hf HF1 HB1 H3 HB
  have c3 : w2.cell? ⟨b3, 3, none⟩ = some (.int .i64 r.n) := sb_cell H32.out 3
  have d7 := HB2.out.c7
  have z7 := HB2.out.free 7
  go_upto_region 14 with fail
  obtain ⟨wA, hwA⟩ : ∃ q, q = w2.setCell ⟨b, 7, none⟩ (.int .i64 r.n) := ⟨_, rfl⟩
  have hn := heap_set_at (o := 7) HB2.out.blk (.int .i64 r.n)
  have hf : Frm (fun k => k = b) w2 (w2.setCell ⟨b, 7, none⟩ (.int .i64 r.n)) := (Frm.refl _ _).put b _ _ (fun _ => rfl)
  rw [← hwA] at hn hf ⊢
  have HBA : Hid (BkAt wA b p { B with w := { B.w with phase := r.n } }) := hid (HB2.out.fun0 hf (by rw [hn, List.setIfInBounds_toArray]; rfl) HB2.out.len)
  have HFA : Hid (Frm (bkM b p) w wA) := hid ((HF2.out.mono (M' := bkM b p) (fun _ _ h => h.elim)).trans hf (fun k _ e => .inl e))
  have H3A := hid (hf.heap H32.out (fun e => HNB.out (.inl e)))
  clear hf hn hwA c0 c3 d7 z7 e1 e2 e3 e4 e7
  have c3 : wA.cell? ⟨b3, 3, none⟩ = some (.int .i64 r.n) := sb_cell H3A.out 3
  by_cases h3 : r.n = 3
  · have e5 := beq_yes h3
    have H3E := hid h3
    clear h3
    have d5 : wA.cell? ⟨b, 5, none⟩ = some (.int .i64 B.w.stable) := HBA.out.c5
    have d12 : wA.cell? ⟨b, 12, none⟩ = some (.int .i64 B.w.spec.s0) := HBA.out.c12
    have z5 := HBA.out.free 5
    go_upto_region 22 with fail
    obtain ⟨wN, hwN⟩ : ∃ q, q = wA.setCell ⟨b, 5, none⟩ (.int .i64 B.w.spec.s0) := ⟨_, rfl⟩
    have hn := heap_set_at (o := 5) HBA.out.blk (.int .i64 B.w.spec.s0)
    have hf : Frm (fun k => k = b) wA (wA.setCell ⟨b, 5, none⟩ (.int .i64 B.w.spec.s0)) := (Frm.refl _ _).put b _ _ (fun _ => rfl)
    rw [← hwN] at hn hf ⊢
    have HBN : Hid (BkAt wN b p { B with w := { B.w with phase := r.n, stable := B.w.spec.s0 } }) := hid (HBA.out.fun0 hf (by rw [hn, List.setIfInBounds_toArray]; rfl) HBA.out.len)
    have HFN : Hid (Frm (bkM b p) w wN) := hid (HFA.out.trans hf (fun k _ e => .inl e))
    have H3N := hid (hf.heap H3A.out (fun e => HNB.out (.inl e)))
    clear hf hn hwN c3 d5 d12 z5 e5
    have c0' : wN.cell? ⟨b3, 0, none⟩ = some (.int .i64 r.k) := sb_cell H3N.out 0
    have e3' := beq_no (show ¬ r.k = 3 by have := HK.out; omega)
    have e4' := beq_yes HK.out
    go_upto_region 23 with fail
    clear c0' e3' e4'
    have hln : B.h.length ≤ 24 := HOk.out.inv.hi
    have HLN := hid hln
    clear hln
    have HNX : Hid (∀ k, (k = b ∨ p.hv.ownBlock = some k) → bkM b p k) := hid fun k e => by
      rcases e with e | e
      · exact .inl e
      · exact .inr (.inr (.inr (.inr (.inr e))))
    apply wp_region_S [6, 7, 10] (valsL (_ :: _ :: _ :: _ :: _ :: (.agg #[.int .i64 r.k, .int .i64 r.e, .int .i64 r.w, .int .i64 r.n, .int .i64 r.q, .string r.t, .int .i64 r.p.s0, .int .i64 r.p.s1, .int .i64 r.p.s2, .int .i64 r.p.s3, .int .i64 r.p.s4, .int .i64 r.p.s5, .int .i64 r.p.s6, .int .i64 r.p.s7, .int .i64 r.p.s8, .int .i64 r.p.s9, .int .i64 r.p.s10, .int .i64 r.p.s11]) :: undef :: undef :: _ :: _ :: undef :: [])) (fun i => if i = 4 then 1 else 3) (fun i wx => Frm (fun k => k = b ∨ p.hv.ownBlock = some k) wN wx ∧ (i = 4 → wx.cell? ⟨b, 72, none⟩ = some p.hv)) (fun _ _ => True) (HJ wN b p { B.w with phase := r.n, stable := B.w.spec.s0 } B.us B.h.length (B.h.flatMap Rc.cells) #[.int .i64 r.k, .int .i64 r.e, .int .i64 r.w, .int .i64 r.n, .int .i64 r.q, .string r.t, .int .i64 r.p.s0, .int .i64 r.p.s1, .int .i64 r.p.s2, .int .i64 r.p.s3, .int .i64 r.p.s4, .int .i64 r.p.s5, .int .i64 r.p.s6, .int .i64 r.p.s7, .int .i64 r.p.s8, .int .i64 r.p.s9, .int .i64 r.p.s10, .int .i64 r.p.s11]) ?hm5 ?hB5 ?hU5 ?hI5 ?hG5 ?hZ5 ?main5
    case hm5 => kernel_rfl
    case hB5 => kernel_rfl
    case hU5 =>
      exact fun _ => ⟨undef, trivial⟩
    case hI5 =>
      exact fun c E wx hc hj i hb => ⟨hj.f, fun h => (by subst h; exact (HBN.out.frm0 (hj.f0 hb)).hist)⟩
    case hG5 =>
      exact fun c E wx wy hc hj hf => hj.grow hf
    case hZ5 =>
      exact fun wx hf => HJ.first HBN.out.blk hf
    rotate_left 7
    intro ops QT HO HQ
    obtain ⟨ho0, HO⟩ := HO
    refine wpS_V ho0.out rfl ?_ ?_
    · simp only [valsL_zero, valsL_succ]; apply FI_in rfl; intro wx hx
      go_simp
      exact ⟨rfl, rfl⟩
    simp only [Act.put, List.setIfInBounds_toArray, List.set_cons_zero, List.set_cons_succ, valsL_zero, valsL_succ]
    obtain ⟨ho1, HO⟩ := HO
    refine wpS_V ho1.out rfl ?_ ?_
    · simp only [valsL_zero, valsL_succ]; apply FI_in rfl; intro wx hx
      go_simp
      exact ⟨rfl, rfl⟩
    simp only [Act.put, List.setIfInBounds_toArray, List.set_cons_zero, List.set_cons_succ, valsL_zero, valsL_succ]
    obtain ⟨ho2, HO⟩ := HO
    refine wpS_V ho2.out rfl ?_ ?_
    · simp only [valsL_zero, valsL_succ]; apply FI_in rfl; intro wx hx
      go_simp
      exact ⟨rfl, rfl⟩
    simp only [Act.put, List.setIfInBounds_toArray, List.set_cons_zero, List.set_cons_succ, valsL_zero, valsL_succ]
    obtain ⟨ho3, HO⟩ := HO
    refine wpS_V ho3.out rfl ?_ ?_
    · simp only [valsL_zero, valsL_succ]; apply FI_in rfl; intro wx hx
      go_simp
      exact ⟨rfl, rfl⟩
    simp only [Act.put, List.setIfInBounds_toArray, List.set_cons_zero, List.set_cons_succ, valsL_zero, valsL_succ]
    obtain ⟨ho4, HO⟩ := HO
    refine wpS_V ho4.out rfl ?_ ?_
    · simp only [valsL_zero, valsL_succ]; apply FI_in rfl; intro wx hx
      have hz := hx.2 trivial
      have hc0 := sb_cell (hx.1.heap H3N.out (fun e => HNB.out (HNX.out _ e)))
      go_simp
      exact ⟨rfl, rfl⟩
    simp only [Act.put, List.setIfInBounds_toArray, List.set_cons_zero, List.set_cons_succ, valsL_zero, valsL_succ]
    obtain ⟨ho5, HO⟩ := HO
    refine wpS_V ho5.out rfl ?_ ?_
    · simp only [valsL_zero, valsL_succ]; apply FI_in rfl; intro wx hx
      exact fu_load_row_g 37 (.tmp 3) rfl (b3) (by kernel_rfl) _ _ _ _ (hx.1.heap H3N.out (fun e => HNB.out (HNX.out _ e))) Tryz.underlying37 rfl (by kernel_rfl)
    simp only [Act.put, List.setIfInBounds_toArray, List.set_cons_zero, List.set_cons_succ, valsL_zero, valsL_succ]
    obtain ⟨ho6, HO⟩ := HO
    refine wpS_W (c := 0) ho6.out rfl (FW_in rfl fun wx hx => ?_) fun u6 g6 => ?_
    · go_simp
      exact hx.next1
    simp only [Act.put, List.setIfInBounds_toArray, List.set_cons_zero, List.set_cons_succ, valsL_zero, valsL_succ]
    obtain ⟨ho7, HO⟩ := HO
    refine wpS_W (c := 1) ho7.out rfl (FW_in rfl fun wx hx => ?_) fun u7 g7 => ?_
    · obtain ⟨v', w', hr, hj'⟩ := hx.next2 rfl (rcc_one r) HBN.out.his (by have := HLN.out; omega) HBN.out.apart.2.2.2.2 (sb_lt HBN.out.blk)
      exact wu_append (.tmp 141) (.tmp 143) 22 rfl p.hv u6 (by kernel_rfl) (by kernel_rfl) hr ⟨trivial, hj'⟩
    simp only [Act.put, List.setIfInBounds_toArray, List.set_cons_zero, List.set_cons_succ, valsL_zero, valsL_succ]
    obtain ⟨ho8, HO⟩ := HO
    refine wpS_V ho8.out rfl ?_ ?_
    · simp only [valsL_zero, valsL_succ]; apply FI_in rfl; intro wx hx
      go_simp
      exact ⟨rfl, rfl⟩
    simp only [Act.put, List.setIfInBounds_toArray, List.set_cons_zero, List.set_cons_succ, valsL_zero, valsL_succ]
    obtain ⟨ho9, HO⟩ := HO
    refine wpS_V ho9.out rfl ?_ ?_
    · simp only [valsL_zero, valsL_succ]; apply FI_in rfl; intro wx hx
      go_simp
      exact ⟨rfl, rfl⟩
    simp only [Act.put, List.setIfInBounds_toArray, List.set_cons_zero, List.set_cons_succ, valsL_zero, valsL_succ]
    obtain ⟨ho10, HO⟩ := HO
    refine wpS_W (c := 2) ho10.out rfl (FW_in rfl fun wx hx => ?_) fun u10 g10 => ?_
    · obtain ⟨hO, hOB⟩ := hx.o (by omega)
      have hO : Ow wx 37 18 u7 (B.h.length + 1) (B.h.flatMap Rc.cells ++ (#[.int .i64 r.k, .int .i64 r.e, .int .i64 r.w, .int .i64 r.n, .int .i64 r.q, .string r.t, .int .i64 r.p.s0, .int .i64 r.p.s1, .int .i64 r.p.s2, .int .i64 r.p.s3, .int .i64 r.p.s4, .int .i64 r.p.s5, .int .i64 r.p.s6, .int .i64 r.p.s7, .int .i64 r.p.s8, .int .i64 r.p.s9, .int .i64 r.p.s10, .int .i64 r.p.s11]).toList) := hO
      have hOB : ∀ k, u7.ownBlock = some k → p.hv.ownBlock = some k ∨ wN.heap.size ≤ k := hOB
      have hne : ∀ k, u7.ownBlock = some k → k ≠ b := fun k hk e => by have hbl := sb_lt HBN.out.blk; rcases hOB k hk with h | h; exact HBN.out.apart.2.2.2.2 (by rw [← e]; exact h); omega
      have hc : wx.cell? ⟨b, 72, none⟩ = some p.hv := by rw [sb_cell (hx.b2 (by omega)), List.getElem?_toArray]; exact bk_hist _ _ _ HBN.out.len
      have hz := sb_free (hx.b2 (by omega)) 72
      have hnx := hx.next3 HBN.out.len
      rcases hO.2 with ⟨_, h0⟩ | ⟨g, o, cap, cur, rfl, _⟩
      · omega
      · go_simp; exact hnx _ rfl hne
    simp only [Act.put, List.setIfInBounds_toArray, List.set_cons_zero, List.set_cons_succ, valsL_zero, valsL_succ]
    refine HQ.out _ _ ?_
    intro wM hj
    clear HQ HO ho0 ho1 ho2 ho3 ho4 ho5 ho6 ho7 ho8 ho9 ho10
    obtain ⟨hO, hOB⟩ := hj.o (by decide)
    have hO : Ow wM 37 18 u7 (B.h.length + 1) (B.h.flatMap Rc.cells ++ (#[.int .i64 r.k, .int .i64 r.e, .int .i64 r.w, .int .i64 r.n, .int .i64 r.q, .string r.t, .int .i64 r.p.s0, .int .i64 r.p.s1, .int .i64 r.p.s2, .int .i64 r.p.s3, .int .i64 r.p.s4, .int .i64 r.p.s5, .int .i64 r.p.s6, .int .i64 r.p.s7, .int .i64 r.p.s8, .int .i64 r.p.s9, .int .i64 r.p.s10, .int .i64 r.p.s11]).toList) := hO
    have hOB : ∀ k, u7.ownBlock = some k → p.hv.ownBlock = some k ∨ wN.heap.size ≤ k := hOB
    have hb3 : wM.heap[b]? = some (.cells (bkCells { p with hv := u7 } { B.w with phase := r.n, stable := B.w.spec.s0 } B.us).toArray 76 (0, 0)) := hj.b3 rfl
    have HFM := hid (HFN.out.trans hj.f (fun k _ e => HNX.out k e))
    have hfl : (B.h ++ [r]).flatMap Rc.cells = B.h.flatMap Rc.cells ++ (#[.int .i64 r.k, .int .i64 r.e, .int .i64 r.w, .int .i64 r.n, .int .i64 r.q, .string r.t, .int .i64 r.p.s0, .int .i64 r.p.s1, .int .i64 r.p.s2, .int .i64 r.p.s3, .int .i64 r.p.s4, .int .i64 r.p.s5, .int .i64 r.p.s6, .int .i64 r.p.s7, .int .i64 r.p.s8, .int .i64 r.p.s9, .int .i64 r.p.s10, .int .i64 r.p.s11]).toList := by rw [List.flatMap_append]; rfl
    have HBM := hid (HBN.out.rehist (l := B.h ++ [r]) hj.f (fun k h => h) hb3 (by rw [List.length_append, hfl]; exact hO))
    have HOB : Hid (∀ k, u7.ownBlock = some k → p.hv.ownBlock = some k ∨ w.heap.size ≤ k) := hid fun k hk => by
      rcases hOB k hk with h | h
      · exact .inl h
      · exact .inr (Nat.le_trans HFN.out.size h)
    rcases hO.2 with ⟨_, h0⟩ | ⟨g, o, cap, cur, rfl, _, hcap, hcm, _⟩
    · omega
    have HCAP := hid (And.intro hcap hcm)
    have H3M := hid (hj.f.heap H3N.out (fun e => HNB.out (HNX.out _ e)))
    clear hj hO hOB hb3 hfl hcap hcm
    obtain ⟨N, hN⟩ : ∃ N, N = B.h.length + 1 := ⟨_, rfl⟩
    rw [← hN] at HBM HOB HCAP ⊢
    have HN := hid hN
    clear hN
    go_upto_region 24 with fail
    by_cases h24 : N ≤ 24
    · have hlast : lastN (B.h ++ [r]) = B.h ++ [r] := by
        unfold lastN
        rw [List.length_append, List.length_singleton, ← HN.out, show N - 24 = 0 by omega, List.drop_zero]
      have HLAST := hid hlast
      have q1 : IntKind.i64.wrap ((N : Int) - 24) = (N : Int) - 24 := by rw [Go.IntWalk.i64_left]; exact wrap_of (by omega)
      have q2 : max ((N : Int) - 24) 0 = 0 := by omega
      clear hlast h24
      apply wp_region_G 15 (fun _ => none) (valsL (_ :: _ :: _ :: _ :: _ :: _ :: _ :: _ :: _ :: _ :: _ :: _ :: (.slice (some ⟨g, o, none⟩) N cap) :: _ :: _ :: [])) ?hm6 ?hB6 ?hal6 ?main6
      case hm6 => kernel_rfl
      case hB6 => kernel_rfl
      case hal6 =>
        intro i o obj ho hi
        cases hi
      rotate_left 14
      intro ops QT HO HQ
      obtain ⟨ho0, HO⟩ := HO
      refine wpG_v ho0.out rfl ?_ ?_
      · simp only [valsL_zero, valsL_succ]; apply FY_in rfl; intro wx hx
        go_simp
        exact ⟨rfl, rfl⟩
      simp only [Act.put, List.setIfInBounds_toArray, List.set_cons_zero, List.set_cons_succ, valsL_zero, valsL_succ]
      obtain ⟨ho1, HO⟩ := HO
      refine wpG_v ho1.out rfl ?_ ?_
      · simp only [valsL_zero, valsL_succ]; apply FY_in rfl; intro wx hx
        go_simp
        exact ⟨rfl, rfl⟩
      simp only [Act.put, List.setIfInBounds_toArray, List.set_cons_zero, List.set_cons_succ, valsL_zero, valsL_succ]
      obtain ⟨ho2, HO⟩ := HO
      refine wpG_v ho2.out rfl ?_ ?_
      · simp only [valsL_zero, valsL_succ]; apply FY_in rfl; intro wx hx
        go_simp
        exact ⟨rfl, rfl⟩
      simp only [Act.put, List.setIfInBounds_toArray, List.set_cons_zero, List.set_cons_succ, valsL_zero, valsL_succ]
      obtain ⟨ho3, HO⟩ := HO
      refine wpG_v ho3.out rfl ?_ ?_
      · simp only [valsL_zero, valsL_succ]; apply FY_in rfl; intro wx hx
        go_simp
        exact ⟨rfl, rfl⟩
      simp only [Act.put, List.setIfInBounds_toArray, List.set_cons_zero, List.set_cons_succ, valsL_zero, valsL_succ]
      obtain ⟨ho4, HO⟩ := HO
      refine wpG_v ho4.out rfl ?_ ?_
      · simp only [valsL_zero, valsL_succ]; apply FY_in rfl; intro wx hx
        have hz0 := (HBM.out.frm0 hx).hist
        go_simp
        exact ⟨rfl, rfl⟩
      simp only [Act.put, List.setIfInBounds_toArray, List.set_cons_zero, List.set_cons_succ, valsL_zero, valsL_succ]
      obtain ⟨ho5, HO⟩ := HO
      refine wpG_v ho5.out rfl ?_ ?_
      · simp only [valsL_zero, valsL_succ]; apply FY_in rfl; intro wx hx
        go_simp
        exact ⟨rfl, rfl⟩
      simp only [Act.put, List.setIfInBounds_toArray, List.set_cons_zero, List.set_cons_succ, valsL_zero, valsL_succ]
      obtain ⟨ho6, HO⟩ := HO
      refine wpG_v ho6.out rfl ?_ ?_
      · simp only [valsL_zero, valsL_succ]; apply FY_in rfl; intro wx hx
        go_simp
        exact ⟨rfl, rfl⟩
      simp only [Act.put, List.setIfInBounds_toArray, List.set_cons_zero, List.set_cons_succ, valsL_zero, valsL_succ]
      obtain ⟨ho7, HO⟩ := HO
      refine wpG_v ho7.out rfl ?_ ?_
      · simp only [valsL_zero, valsL_succ]; apply FY_in rfl; intro wx hx
        go_simp
        exact ⟨rfl, rfl⟩
      simp only [Act.put, List.setIfInBounds_toArray, List.set_cons_zero, List.set_cons_succ, valsL_zero, valsL_succ]
      obtain ⟨ho8, HO⟩ := HO
      refine wpG_v ho8.out rfl ?_ ?_
      · simp only [valsL_zero, valsL_succ]; apply FY_in rfl; intro wx hx
        have hz0 := (HBM.out.frm0 hx).hist
        go_simp
        exact ⟨rfl, rfl⟩
      simp only [Act.put, List.setIfInBounds_toArray, List.set_cons_zero, List.set_cons_succ, valsL_zero, valsL_succ]
      obtain ⟨ho9, HO⟩ := HO
      refine wpG_v ho9.out rfl ?_ ?_
      · simp only [valsL_zero, valsL_succ]; apply FY_in rfl; intro wx hx
        go_simp
        exact ⟨rfl, rfl⟩
      simp only [Act.put, List.setIfInBounds_toArray, List.set_cons_zero, List.set_cons_succ, valsL_zero, valsL_succ]
      obtain ⟨ho10, HO⟩ := HO
      refine wpG_v ho10.out rfl ?_ ?_
      · simp only [valsL_zero, valsL_succ]; apply FY_in rfl; intro wx hx
        go_simp
        exact ⟨rfl, rfl⟩
      simp only [Act.put, List.setIfInBounds_toArray, List.set_cons_zero, List.set_cons_succ, valsL_zero, valsL_succ]
      obtain ⟨ho11, HO⟩ := HO
      refine wpG_v ho11.out rfl ?_ ?_
      · simp only [valsL_zero, valsL_succ]; apply FY_in rfl; intro wx hx
        go_simp
        exact ⟨rfl, rfl⟩
      simp only [Act.put, List.setIfInBounds_toArray, List.set_cons_zero, List.set_cons_succ, valsL_zero, valsL_succ]
      obtain ⟨ho12, HO⟩ := HO
      refine wpG_v ho12.out rfl ?_ ?_
      · simp only [valsL_zero, valsL_succ]; apply FY_in rfl; intro wx hx
        go_simp
        exact ⟨rfl, rfl⟩
      simp only [Act.put, List.setIfInBounds_toArray, List.set_cons_zero, List.set_cons_succ, valsL_zero, valsL_succ]
      obtain ⟨ho13, HO⟩ := HO
      refine wpG_v ho13.out rfl ?_ ?_
      · simp only [valsL_zero, valsL_succ]; apply FY_in rfl; intro wx hx
        go_simp
        exact ⟨rfl, rfl⟩
      simp only [Act.put, List.setIfInBounds_toArray, List.set_cons_zero, List.set_cons_succ, valsL_zero, valsL_succ]
      obtain ⟨ho14, HO⟩ := HO
      refine wpG_v ho14.out rfl ?_ ?_
      · simp only [valsL_zero, valsL_succ]; apply FY_in rfl; intro wx hx
        go_simp
        exact ⟨rfl, rfl⟩
      simp only [Act.put, List.setIfInBounds_toArray, List.set_cons_zero, List.set_cons_succ, valsL_zero, valsL_succ]
      refine HQ.out _ _ ?_
      intro wL hf hE hN
      simp only [List.drop_succ_cons, List.drop_zero]
      clear HQ HO hE hN ho0 ho1 ho2 ho3 ho4 ho5 ho6 ho7 ho8 ho9 ho10 ho11 ho12 ho13 ho14
      have HFL := hid (HFM.out.then0 hf)
      have HBL := hid (HBM.out.frm0 hf)
      clear hf q1 q2
      have hc := HBL.out.hist
      have hz := HBL.out.free 72
      have hset := hid (HBL.out.sethist (.slice (some ⟨g, o, none⟩) N cap) (B.h ++ [r]) HBL.out.his HBL.out.apart.2.2.2.2)
      have HFE : Hid (Frm (bkM b p) w (wL.setCell ⟨b, 72, none⟩ (.slice (some ⟨g, o, none⟩) N cap))) := hid (HFL.out.put b 72 _ (fun _ => .inl rfl))
      go_wp2_with fail
      go_ret
      have e : B.does r = { B with w := { B.w with phase := r.n, stable := B.w.spec.s0 }, h := lastN (B.h ++ [r]) } := by
        unfold Bk.does
        rw [if_neg (by have := HK.out; omega), if_neg (by have := HK.out; omega), if_neg (by have := HK.out; omega), if_pos HK.out, if_pos H3E.out]
      have h1 := hset.out
      rw [e, HLAST.out]
      exact ⟨rfl, _, h1, HFE.out, HOB.out⟩
    · have h25 : N = 25 := by have := HLN.out; have := HN.out; omega
      have hlast : lastN (B.h ++ [r]) = (B.h ++ [r]).drop 1 := by
        unfold lastN
        rw [List.length_append, List.length_singleton, ← HN.out, h25]
      have HLAST := hid hlast
      have hl25 : (B.h ++ [r]).length = 25 := by rw [List.length_append, List.length_singleton, ← HN.out, h25]
      subst h25
      have HL25 := hid hl25
      clear hlast h24 hl25
      have q1 : IntKind.i64.wrap 1 = 1 := by rw [Go.IntWalk.i64_left]; exact wrap_of (by omega)
      have q2 : max (1 : Int) 0 = 1 := by omega
      apply wp_region_G 15 (fun _ => none) (valsL (_ :: _ :: _ :: _ :: _ :: _ :: _ :: _ :: _ :: _ :: _ :: _ :: (.slice (some ⟨g, o + 18, none⟩) 24 (cap - 1)) :: _ :: _ :: [])) ?hm7 ?hB7 ?hal7 ?main7
      case hm7 => kernel_rfl
      case hB7 => kernel_rfl
      case hal7 =>
        intro i o obj ho hi
        cases hi
      rotate_left 14
      intro ops QT HO HQ
      obtain ⟨ho0, HO⟩ := HO
      refine wpG_v ho0.out rfl ?_ ?_
      · simp only [valsL_zero, valsL_succ]; apply FY_in rfl; intro wx hx
        go_simp
        exact ⟨rfl, rfl⟩
      simp only [Act.put, List.setIfInBounds_toArray, List.set_cons_zero, List.set_cons_succ, valsL_zero, valsL_succ]
      obtain ⟨ho1, HO⟩ := HO
      refine wpG_v ho1.out rfl ?_ ?_
      · simp only [valsL_zero, valsL_succ]; apply FY_in rfl; intro wx hx
        go_simp
        exact ⟨rfl, rfl⟩
      simp only [Act.put, List.setIfInBounds_toArray, List.set_cons_zero, List.set_cons_succ, valsL_zero, valsL_succ]
      obtain ⟨ho2, HO⟩ := HO
      refine wpG_v ho2.out rfl ?_ ?_
      · simp only [valsL_zero, valsL_succ]; apply FY_in rfl; intro wx hx
        go_simp
        exact ⟨rfl, rfl⟩
      simp only [Act.put, List.setIfInBounds_toArray, List.set_cons_zero, List.set_cons_succ, valsL_zero, valsL_succ]
      obtain ⟨ho3, HO⟩ := HO
      refine wpG_v ho3.out rfl ?_ ?_
      · simp only [valsL_zero, valsL_succ]; apply FY_in rfl; intro wx hx
        go_simp
        exact ⟨rfl, rfl⟩
      simp only [Act.put, List.setIfInBounds_toArray, List.set_cons_zero, List.set_cons_succ, valsL_zero, valsL_succ]
      obtain ⟨ho4, HO⟩ := HO
      refine wpG_v ho4.out rfl ?_ ?_
      · simp only [valsL_zero, valsL_succ]; apply FY_in rfl; intro wx hx
        have hz0 := (HBM.out.frm0 hx).hist
        go_simp
        exact ⟨rfl, rfl⟩
      simp only [Act.put, List.setIfInBounds_toArray, List.set_cons_zero, List.set_cons_succ, valsL_zero, valsL_succ]
      obtain ⟨ho5, HO⟩ := HO
      refine wpG_v ho5.out rfl ?_ ?_
      · simp only [valsL_zero, valsL_succ]; apply FY_in rfl; intro wx hx
        go_simp
        exact ⟨rfl, rfl⟩
      simp only [Act.put, List.setIfInBounds_toArray, List.set_cons_zero, List.set_cons_succ, valsL_zero, valsL_succ]
      obtain ⟨ho6, HO⟩ := HO
      refine wpG_v ho6.out rfl ?_ ?_
      · simp only [valsL_zero, valsL_succ]; apply FY_in rfl; intro wx hx
        go_simp
        exact ⟨rfl, rfl⟩
      simp only [Act.put, List.setIfInBounds_toArray, List.set_cons_zero, List.set_cons_succ, valsL_zero, valsL_succ]
      obtain ⟨ho7, HO⟩ := HO
      refine wpG_v ho7.out rfl ?_ ?_
      · simp only [valsL_zero, valsL_succ]; apply FY_in rfl; intro wx hx
        go_simp
        exact ⟨rfl, rfl⟩
      simp only [Act.put, List.setIfInBounds_toArray, List.set_cons_zero, List.set_cons_succ, valsL_zero, valsL_succ]
      obtain ⟨ho8, HO⟩ := HO
      refine wpG_v ho8.out rfl ?_ ?_
      · simp only [valsL_zero, valsL_succ]; apply FY_in rfl; intro wx hx
        have hz0 := (HBM.out.frm0 hx).hist
        go_simp
        exact ⟨rfl, rfl⟩
      simp only [Act.put, List.setIfInBounds_toArray, List.set_cons_zero, List.set_cons_succ, valsL_zero, valsL_succ]
      obtain ⟨ho9, HO⟩ := HO
      refine wpG_v ho9.out rfl ?_ ?_
      · simp only [valsL_zero, valsL_succ]; apply FY_in rfl; intro wx hx
        go_simp
        exact ⟨rfl, rfl⟩
      simp only [Act.put, List.setIfInBounds_toArray, List.set_cons_zero, List.set_cons_succ, valsL_zero, valsL_succ]
      obtain ⟨ho10, HO⟩ := HO
      refine wpG_v ho10.out rfl ?_ ?_
      · simp only [valsL_zero, valsL_succ]; apply FY_in rfl; intro wx hx
        go_simp
        exact ⟨rfl, rfl⟩
      simp only [Act.put, List.setIfInBounds_toArray, List.set_cons_zero, List.set_cons_succ, valsL_zero, valsL_succ]
      obtain ⟨ho11, HO⟩ := HO
      refine wpG_v ho11.out rfl ?_ ?_
      · simp only [valsL_zero, valsL_succ]; apply FY_in rfl; intro wx hx
        go_simp
        exact ⟨rfl, rfl⟩
      simp only [Act.put, List.setIfInBounds_toArray, List.set_cons_zero, List.set_cons_succ, valsL_zero, valsL_succ]
      obtain ⟨ho12, HO⟩ := HO
      refine wpG_v ho12.out rfl ?_ ?_
      · simp only [valsL_zero, valsL_succ]; apply FY_in rfl; intro wx hx
        have hq : ¬ cap = 1 := (by have := HCAP.out.1; omega)
        go_simp
        exact ⟨rfl, rfl⟩
      simp only [Act.put, List.setIfInBounds_toArray, List.set_cons_zero, List.set_cons_succ, valsL_zero, valsL_succ]
      obtain ⟨ho13, HO⟩ := HO
      refine wpG_v ho13.out rfl ?_ ?_
      · simp only [valsL_zero, valsL_succ]; apply FY_in rfl; intro wx hx
        go_simp
        exact ⟨rfl, rfl⟩
      simp only [Act.put, List.setIfInBounds_toArray, List.set_cons_zero, List.set_cons_succ, valsL_zero, valsL_succ]
      obtain ⟨ho14, HO⟩ := HO
      refine wpG_v ho14.out rfl ?_ ?_
      · simp only [valsL_zero, valsL_succ]; apply FY_in rfl; intro wx hx
        go_simp
        exact ⟨rfl, rfl⟩
      simp only [Act.put, List.setIfInBounds_toArray, List.set_cons_zero, List.set_cons_succ, valsL_zero, valsL_succ]
      refine HQ.out _ _ ?_
      intro wL hf hE hN
      simp only [List.drop_succ_cons, List.drop_zero]
      clear HQ HO hE hN ho0 ho1 ho2 ho3 ho4 ho5 ho6 ho7 ho8 ho9 ho10 ho11 ho12 ho13 ho14
      have HCUT : Hid (Ow wL 37 18 (.slice (some ⟨g, o + 18, none⟩) 24 (cap - 1)) ((B.h ++ [r]).drop 1).length (((B.h ++ [r]).drop 1).flatMap Rc.cells)) := by
        have := (HBM.out.his.frm hf (fun _ _ h => h)).cut rcc_len 1 (by show 1 ≤ (B.h ++ [r]).length; rw [HL25.out]; omega)
        rw [show (B.h ++ [r]).length - 1 = 24 by rw [HL25.out]] at this
        exact hid this
      have HFL := hid (HFM.out.then0 hf)
      have HBL := hid (HBM.out.frm0 hf)
      clear hf q1 q2
      have hc := HBL.out.hist
      have hz := HBL.out.free 72
      have hset := hid (HBL.out.sethist (.slice (some ⟨g, o + 18, none⟩) 24 (cap - 1)) ((B.h ++ [r]).drop 1) (HCUT.out.frm (Frm.refl M0 wL) (fun _ _ h => h)) HBL.out.apart.2.2.2.2)
      have HFE : Hid (Frm (bkM b p) w (wL.setCell ⟨b, 72, none⟩ (.slice (some ⟨g, o + 18, none⟩) 24 (cap - 1)))) := hid (HFL.out.put b 72 _ (fun _ => .inl rfl))
      go_wp2_with fail
      go_ret
      have e : B.does r = { B with w := { B.w with phase := r.n, stable := B.w.spec.s0 }, h := lastN (B.h ++ [r]) } := by
        unfold Bk.does
        rw [if_neg (by have := HK.out; omega), if_neg (by have := HK.out; omega), if_neg (by have := HK.out; omega), if_pos HK.out, if_pos H3E.out]
      have h1 := hset.out
      rw [e, HLAST.out]
      exact ⟨rfl, _, h1, HFE.out, fun k hk => HOB.out k hk⟩
  · have e5 := beq_no h3
    have H3E := hid h3
    clear h3
    go_upto_region 22 with fail
    clear c3 e5
    obtain ⟨wN, hwN⟩ : ∃ q, q = wA := ⟨_, rfl⟩
    rw [← hwN] at HBA HFA H3A ⊢
    have HBN := HBA
    have HFN := HFA
    have H3N := H3A
    clear hwN HBA HFA H3A
    have c0' : wN.cell? ⟨b3, 0, none⟩ = some (.int .i64 r.k) := sb_cell H3N.out 0
    have e3' := beq_no (show ¬ r.k = 3 by have := HK.out; omega)
    have e4' := beq_yes HK.out
    go_upto_region 23 with fail
    clear c0' e3' e4'
    have hln : B.h.length ≤ 24 := HOk.out.inv.hi
    have HLN := hid hln
    clear hln
    have HNX : Hid (∀ k, (k = b ∨ p.hv.ownBlock = some k) → bkM b p k) := hid fun k e => by
      rcases e with e | e
      · exact .inl e
      · exact .inr (.inr (.inr (.inr (.inr e))))
    apply wp_region_S [6, 7, 10] (valsL (_ :: _ :: _ :: _ :: _ :: (.agg #[.int .i64 r.k, .int .i64 r.e, .int .i64 r.w, .int .i64 r.n, .int .i64 r.q, .string r.t, .int .i64 r.p.s0, .int .i64 r.p.s1, .int .i64 r.p.s2, .int .i64 r.p.s3, .int .i64 r.p.s4, .int .i64 r.p.s5, .int .i64 r.p.s6, .int .i64 r.p.s7, .int .i64 r.p.s8, .int .i64 r.p.s9, .int .i64 r.p.s10, .int .i64 r.p.s11]) :: undef :: undef :: _ :: _ :: undef :: [])) (fun i => if i = 4 then 1 else 3) (fun i wx => Frm (fun k => k = b ∨ p.hv.ownBlock = some k) wN wx ∧ (i = 4 → wx.cell? ⟨b, 72, none⟩ = some p.hv)) (fun _ _ => True) (HJ wN b p { B.w with phase := r.n } B.us B.h.length (B.h.flatMap Rc.cells) #[.int .i64 r.k, .int .i64 r.e, .int .i64 r.w, .int .i64 r.n, .int .i64 r.q, .string r.t, .int .i64 r.p.s0, .int .i64 r.p.s1, .int .i64 r.p.s2, .int .i64 r.p.s3, .int .i64 r.p.s4, .int .i64 r.p.s5, .int .i64 r.p.s6, .int .i64 r.p.s7, .int .i64 r.p.s8, .int .i64 r.p.s9, .int .i64 r.p.s10, .int .i64 r.p.s11]) ?hm8 ?hB8 ?hU8 ?hI8 ?hG8 ?hZ8 ?main8
    case hm8 => kernel_rfl
    case hB8 => kernel_rfl
    case hU8 =>
      exact fun _ => ⟨undef, trivial⟩
    case hI8 =>
      exact fun c E wx hc hj i hb => ⟨hj.f, fun h => (by subst h; exact (HBN.out.frm0 (hj.f0 hb)).hist)⟩
    case hG8 =>
      exact fun c E wx wy hc hj hf => hj.grow hf
    case hZ8 =>
      exact fun wx hf => HJ.first HBN.out.blk hf
    rotate_left 7
    intro ops QT HO HQ
    obtain ⟨ho0, HO⟩ := HO
    refine wpS_V ho0.out rfl ?_ ?_
    · simp only [valsL_zero, valsL_succ]; apply FI_in rfl; intro wx hx
      go_simp
      exact ⟨rfl, rfl⟩
    simp only [Act.put, List.setIfInBounds_toArray, List.set_cons_zero, List.set_cons_succ, valsL_zero, valsL_succ]
    obtain ⟨ho1, HO⟩ := HO
    refine wpS_V ho1.out rfl ?_ ?_
    · simp only [valsL_zero, valsL_succ]; apply FI_in rfl; intro wx hx
      go_simp
      exact ⟨rfl, rfl⟩
    simp only [Act.put, List.setIfInBounds_toArray, List.set_cons_zero, List.set_cons_succ, valsL_zero, valsL_succ]
    obtain ⟨ho2, HO⟩ := HO
    refine wpS_V ho2.out rfl ?_ ?_
    · simp only [valsL_zero, valsL_succ]; apply FI_in rfl; intro wx hx
      go_simp
      exact ⟨rfl, rfl⟩
    simp only [Act.put, List.setIfInBounds_toArray, List.set_cons_zero, List.set_cons_succ, valsL_zero, valsL_succ]
    obtain ⟨ho3, HO⟩ := HO
    refine wpS_V ho3.out rfl ?_ ?_
    · simp only [valsL_zero, valsL_succ]; apply FI_in rfl; intro wx hx
      go_simp
      exact ⟨rfl, rfl⟩
    simp only [Act.put, List.setIfInBounds_toArray, List.set_cons_zero, List.set_cons_succ, valsL_zero, valsL_succ]
    obtain ⟨ho4, HO⟩ := HO
    refine wpS_V ho4.out rfl ?_ ?_
    · simp only [valsL_zero, valsL_succ]; apply FI_in rfl; intro wx hx
      have hz := hx.2 trivial
      have hc0 := sb_cell (hx.1.heap H3N.out (fun e => HNB.out (HNX.out _ e)))
      go_simp
      exact ⟨rfl, rfl⟩
    simp only [Act.put, List.setIfInBounds_toArray, List.set_cons_zero, List.set_cons_succ, valsL_zero, valsL_succ]
    obtain ⟨ho5, HO⟩ := HO
    refine wpS_V ho5.out rfl ?_ ?_
    · simp only [valsL_zero, valsL_succ]; apply FI_in rfl; intro wx hx
      exact fu_load_row_g 37 (.tmp 3) rfl (b3) (by kernel_rfl) _ _ _ _ (hx.1.heap H3N.out (fun e => HNB.out (HNX.out _ e))) Tryz.underlying37 rfl (by kernel_rfl)
    simp only [Act.put, List.setIfInBounds_toArray, List.set_cons_zero, List.set_cons_succ, valsL_zero, valsL_succ]
    obtain ⟨ho6, HO⟩ := HO
    refine wpS_W (c := 0) ho6.out rfl (FW_in rfl fun wx hx => ?_) fun u6 g6 => ?_
    · go_simp
      exact hx.next1
    simp only [Act.put, List.setIfInBounds_toArray, List.set_cons_zero, List.set_cons_succ, valsL_zero, valsL_succ]
    obtain ⟨ho7, HO⟩ := HO
    refine wpS_W (c := 1) ho7.out rfl (FW_in rfl fun wx hx => ?_) fun u7 g7 => ?_
    · obtain ⟨v', w', hr, hj'⟩ := hx.next2 rfl (rcc_one r) HBN.out.his (by have := HLN.out; omega) HBN.out.apart.2.2.2.2 (sb_lt HBN.out.blk)
      exact wu_append (.tmp 141) (.tmp 143) 22 rfl p.hv u6 (by kernel_rfl) (by kernel_rfl) hr ⟨trivial, hj'⟩
    simp only [Act.put, List.setIfInBounds_toArray, List.set_cons_zero, List.set_cons_succ, valsL_zero, valsL_succ]
    obtain ⟨ho8, HO⟩ := HO
    refine wpS_V ho8.out rfl ?_ ?_
    · simp only [valsL_zero, valsL_succ]; apply FI_in rfl; intro wx hx
      go_simp
      exact ⟨rfl, rfl⟩
    simp only [Act.put, List.setIfInBounds_toArray, List.set_cons_zero, List.set_cons_succ, valsL_zero, valsL_succ]
    obtain ⟨ho9, HO⟩ := HO
    refine wpS_V ho9.out rfl ?_ ?_
    · simp only [valsL_zero, valsL_succ]; apply FI_in rfl; intro wx hx
      go_simp
      exact ⟨rfl, rfl⟩
    simp only [Act.put, List.setIfInBounds_toArray, List.set_cons_zero, List.set_cons_succ, valsL_zero, valsL_succ]
    obtain ⟨ho10, HO⟩ := HO
    refine wpS_W (c := 2) ho10.out rfl (FW_in rfl fun wx hx => ?_) fun u10 g10 => ?_
    · obtain ⟨hO, hOB⟩ := hx.o (by omega)
      have hO : Ow wx 37 18 u7 (B.h.length + 1) (B.h.flatMap Rc.cells ++ (#[.int .i64 r.k, .int .i64 r.e, .int .i64 r.w, .int .i64 r.n, .int .i64 r.q, .string r.t, .int .i64 r.p.s0, .int .i64 r.p.s1, .int .i64 r.p.s2, .int .i64 r.p.s3, .int .i64 r.p.s4, .int .i64 r.p.s5, .int .i64 r.p.s6, .int .i64 r.p.s7, .int .i64 r.p.s8, .int .i64 r.p.s9, .int .i64 r.p.s10, .int .i64 r.p.s11]).toList) := hO
      have hOB : ∀ k, u7.ownBlock = some k → p.hv.ownBlock = some k ∨ wN.heap.size ≤ k := hOB
      have hne : ∀ k, u7.ownBlock = some k → k ≠ b := fun k hk e => by have hbl := sb_lt HBN.out.blk; rcases hOB k hk with h | h; exact HBN.out.apart.2.2.2.2 (by rw [← e]; exact h); omega
      have hc : wx.cell? ⟨b, 72, none⟩ = some p.hv := by rw [sb_cell (hx.b2 (by omega)), List.getElem?_toArray]; exact bk_hist _ _ _ HBN.out.len
      have hz := sb_free (hx.b2 (by omega)) 72
      have hnx := hx.next3 HBN.out.len
      rcases hO.2 with ⟨_, h0⟩ | ⟨g, o, cap, cur, rfl, _⟩
      · omega
      · go_simp; exact hnx _ rfl hne
    simp only [Act.put, List.setIfInBounds_toArray, List.set_cons_zero, List.set_cons_succ, valsL_zero, valsL_succ]
    refine HQ.out _ _ ?_
    intro wM hj
    clear HQ HO ho0 ho1 ho2 ho3 ho4 ho5 ho6 ho7 ho8 ho9 ho10
    obtain ⟨hO, hOB⟩ := hj.o (by decide)
    have hO : Ow wM 37 18 u7 (B.h.length + 1) (B.h.flatMap Rc.cells ++ (#[.int .i64 r.k, .int .i64 r.e, .int .i64 r.w, .int .i64 r.n, .int .i64 r.q, .string r.t, .int .i64 r.p.s0, .int .i64 r.p.s1, .int .i64 r.p.s2, .int .i64 r.p.s3, .int .i64 r.p.s4, .int .i64 r.p.s5, .int .i64 r.p.s6, .int .i64 r.p.s7, .int .i64 r.p.s8, .int .i64 r.p.s9, .int .i64 r.p.s10, .int .i64 r.p.s11]).toList) := hO
    have hOB : ∀ k, u7.ownBlock = some k → p.hv.ownBlock = some k ∨ wN.heap.size ≤ k := hOB
    have hb3 : wM.heap[b]? = some (.cells (bkCells { p with hv := u7 } { B.w with phase := r.n } B.us).toArray 76 (0, 0)) := hj.b3 rfl
    have HFM := hid (HFN.out.trans hj.f (fun k _ e => HNX.out k e))
    have hfl : (B.h ++ [r]).flatMap Rc.cells = B.h.flatMap Rc.cells ++ (#[.int .i64 r.k, .int .i64 r.e, .int .i64 r.w, .int .i64 r.n, .int .i64 r.q, .string r.t, .int .i64 r.p.s0, .int .i64 r.p.s1, .int .i64 r.p.s2, .int .i64 r.p.s3, .int .i64 r.p.s4, .int .i64 r.p.s5, .int .i64 r.p.s6, .int .i64 r.p.s7, .int .i64 r.p.s8, .int .i64 r.p.s9, .int .i64 r.p.s10, .int .i64 r.p.s11]).toList := by rw [List.flatMap_append]; rfl
    have HBM := hid (HBN.out.rehist (l := B.h ++ [r]) hj.f (fun k h => h) hb3 (by rw [List.length_append, hfl]; exact hO))
    have HOB : Hid (∀ k, u7.ownBlock = some k → p.hv.ownBlock = some k ∨ w.heap.size ≤ k) := hid fun k hk => by
      rcases hOB k hk with h | h
      · exact .inl h
      · exact .inr (Nat.le_trans HFN.out.size h)
    rcases hO.2 with ⟨_, h0⟩ | ⟨g, o, cap, cur, rfl, _, hcap, hcm, _⟩
    · omega
    have HCAP := hid (And.intro hcap hcm)
    have H3M := hid (hj.f.heap H3N.out (fun e => HNB.out (HNX.out _ e)))
    clear hj hO hOB hb3 hfl hcap hcm
    obtain ⟨N, hN⟩ : ∃ N, N = B.h.length + 1 := ⟨_, rfl⟩
    rw [← hN] at HBM HOB HCAP ⊢
    have HN := hid hN
    clear hN
    go_upto_region 24 with fail
    by_cases h24 : N ≤ 24
    · have hlast : lastN (B.h ++ [r]) = B.h ++ [r] := by
        unfold lastN
        rw [List.length_append, List.length_singleton, ← HN.out, show N - 24 = 0 by omega, List.drop_zero]
      have HLAST := hid hlast
      have q1 : IntKind.i64.wrap ((N : Int) - 24) = (N : Int) - 24 := by rw [Go.IntWalk.i64_left]; exact wrap_of (by omega)
      have q2 : max ((N : Int) - 24) 0 = 0 := by omega
      clear hlast h24
      apply wp_region_G 15 (fun _ => none) (valsL (_ :: _ :: _ :: _ :: _ :: _ :: _ :: _ :: _ :: _ :: _ :: _ :: (.slice (some ⟨g, o, none⟩) N cap) :: _ :: _ :: [])) ?hm9 ?hB9 ?hal9 ?main9
      case hm9 => kernel_rfl
      case hB9 => kernel_rfl
      case hal9 =>
        intro i o obj ho hi
        cases hi
      rotate_left 14
      intro ops QT HO HQ
      obtain ⟨ho0, HO⟩ := HO
      refine wpG_v ho0.out rfl ?_ ?_
      · simp only [valsL_zero, valsL_succ]; apply FY_in rfl; intro wx hx
        go_simp
        exact ⟨rfl, rfl⟩
      simp only [Act.put, List.setIfInBounds_toArray, List.set_cons_zero, List.set_cons_succ, valsL_zero, valsL_succ]
      obtain ⟨ho1, HO⟩ := HO
      refine wpG_v ho1.out rfl ?_ ?_
      · simp only [valsL_zero, valsL_succ]; apply FY_in rfl; intro wx hx
        go_simp
        exact ⟨rfl, rfl⟩
      simp only [Act.put, List.setIfInBounds_toArray, List.set_cons_zero, List.set_cons_succ, valsL_zero, valsL_succ]
      obtain ⟨ho2, HO⟩ := HO
      refine wpG_v ho2.out rfl ?_ ?_
      · simp only [valsL_zero, valsL_succ]; apply FY_in rfl; intro wx hx
        go_simp
        exact ⟨rfl, rfl⟩
      simp only [Act.put, List.setIfInBounds_toArray, List.set_cons_zero, List.set_cons_succ, valsL_zero, valsL_succ]
      obtain ⟨ho3, HO⟩ := HO
      refine wpG_v ho3.out rfl ?_ ?_
      · simp only [valsL_zero, valsL_succ]; apply FY_in rfl; intro wx hx
        go_simp
        exact ⟨rfl, rfl⟩
      simp only [Act.put, List.setIfInBounds_toArray, List.set_cons_zero, List.set_cons_succ, valsL_zero, valsL_succ]
      obtain ⟨ho4, HO⟩ := HO
      refine wpG_v ho4.out rfl ?_ ?_
      · simp only [valsL_zero, valsL_succ]; apply FY_in rfl; intro wx hx
        have hz0 := (HBM.out.frm0 hx).hist
        go_simp
        exact ⟨rfl, rfl⟩
      simp only [Act.put, List.setIfInBounds_toArray, List.set_cons_zero, List.set_cons_succ, valsL_zero, valsL_succ]
      obtain ⟨ho5, HO⟩ := HO
      refine wpG_v ho5.out rfl ?_ ?_
      · simp only [valsL_zero, valsL_succ]; apply FY_in rfl; intro wx hx
        go_simp
        exact ⟨rfl, rfl⟩
      simp only [Act.put, List.setIfInBounds_toArray, List.set_cons_zero, List.set_cons_succ, valsL_zero, valsL_succ]
      obtain ⟨ho6, HO⟩ := HO
      refine wpG_v ho6.out rfl ?_ ?_
      · simp only [valsL_zero, valsL_succ]; apply FY_in rfl; intro wx hx
        go_simp
        exact ⟨rfl, rfl⟩
      simp only [Act.put, List.setIfInBounds_toArray, List.set_cons_zero, List.set_cons_succ, valsL_zero, valsL_succ]
      obtain ⟨ho7, HO⟩ := HO
      refine wpG_v ho7.out rfl ?_ ?_
      · simp only [valsL_zero, valsL_succ]; apply FY_in rfl; intro wx hx
        go_simp
        exact ⟨rfl, rfl⟩
      simp only [Act.put, List.setIfInBounds_toArray, List.set_cons_zero, List.set_cons_succ, valsL_zero, valsL_succ]
      obtain ⟨ho8, HO⟩ := HO
      refine wpG_v ho8.out rfl ?_ ?_
      · simp only [valsL_zero, valsL_succ]; apply FY_in rfl; intro wx hx
        have hz0 := (HBM.out.frm0 hx).hist
        go_simp
        exact ⟨rfl, rfl⟩
      simp only [Act.put, List.setIfInBounds_toArray, List.set_cons_zero, List.set_cons_succ, valsL_zero, valsL_succ]
      obtain ⟨ho9, HO⟩ := HO
      refine wpG_v ho9.out rfl ?_ ?_
      · simp only [valsL_zero, valsL_succ]; apply FY_in rfl; intro wx hx
        go_simp
        exact ⟨rfl, rfl⟩
      simp only [Act.put, List.setIfInBounds_toArray, List.set_cons_zero, List.set_cons_succ, valsL_zero, valsL_succ]
      obtain ⟨ho10, HO⟩ := HO
      refine wpG_v ho10.out rfl ?_ ?_
      · simp only [valsL_zero, valsL_succ]; apply FY_in rfl; intro wx hx
        go_simp
        exact ⟨rfl, rfl⟩
      simp only [Act.put, List.setIfInBounds_toArray, List.set_cons_zero, List.set_cons_succ, valsL_zero, valsL_succ]
      obtain ⟨ho11, HO⟩ := HO
      refine wpG_v ho11.out rfl ?_ ?_
      · simp only [valsL_zero, valsL_succ]; apply FY_in rfl; intro wx hx
        go_simp
        exact ⟨rfl, rfl⟩
      simp only [Act.put, List.setIfInBounds_toArray, List.set_cons_zero, List.set_cons_succ, valsL_zero, valsL_succ]
      obtain ⟨ho12, HO⟩ := HO
      refine wpG_v ho12.out rfl ?_ ?_
      · simp only [valsL_zero, valsL_succ]; apply FY_in rfl; intro wx hx
        go_simp
        exact ⟨rfl, rfl⟩
      simp only [Act.put, List.setIfInBounds_toArray, List.set_cons_zero, List.set_cons_succ, valsL_zero, valsL_succ]
      obtain ⟨ho13, HO⟩ := HO
      refine wpG_v ho13.out rfl ?_ ?_
      · simp only [valsL_zero, valsL_succ]; apply FY_in rfl; intro wx hx
        go_simp
        exact ⟨rfl, rfl⟩
      simp only [Act.put, List.setIfInBounds_toArray, List.set_cons_zero, List.set_cons_succ, valsL_zero, valsL_succ]
      obtain ⟨ho14, HO⟩ := HO
      refine wpG_v ho14.out rfl ?_ ?_
      · simp only [valsL_zero, valsL_succ]; apply FY_in rfl; intro wx hx
        go_simp
        exact ⟨rfl, rfl⟩
      simp only [Act.put, List.setIfInBounds_toArray, List.set_cons_zero, List.set_cons_succ, valsL_zero, valsL_succ]
      refine HQ.out _ _ ?_
      intro wL hf hE hN
      simp only [List.drop_succ_cons, List.drop_zero]
      clear HQ HO hE hN ho0 ho1 ho2 ho3 ho4 ho5 ho6 ho7 ho8 ho9 ho10 ho11 ho12 ho13 ho14
      have HFL := hid (HFM.out.then0 hf)
      have HBL := hid (HBM.out.frm0 hf)
      clear hf q1 q2
      have hc := HBL.out.hist
      have hz := HBL.out.free 72
      have hset := hid (HBL.out.sethist (.slice (some ⟨g, o, none⟩) N cap) (B.h ++ [r]) HBL.out.his HBL.out.apart.2.2.2.2)
      have HFE : Hid (Frm (bkM b p) w (wL.setCell ⟨b, 72, none⟩ (.slice (some ⟨g, o, none⟩) N cap))) := hid (HFL.out.put b 72 _ (fun _ => .inl rfl))
      go_wp2_with fail
      go_ret
      have e : B.does r = { B with w := { B.w with phase := r.n }, h := lastN (B.h ++ [r]) } := by
        unfold Bk.does
        rw [if_neg (by have := HK.out; omega), if_neg (by have := HK.out; omega), if_neg (by have := HK.out; omega), if_pos HK.out, if_neg H3E.out]
      have h1 := hset.out
      rw [e, HLAST.out]
      exact ⟨rfl, _, h1, HFE.out, HOB.out⟩
    · have h25 : N = 25 := by have := HLN.out; have := HN.out; omega
      have hlast : lastN (B.h ++ [r]) = (B.h ++ [r]).drop 1 := by
        unfold lastN
        rw [List.length_append, List.length_singleton, ← HN.out, h25]
      have HLAST := hid hlast
      have hl25 : (B.h ++ [r]).length = 25 := by rw [List.length_append, List.length_singleton, ← HN.out, h25]
      subst h25
      have HL25 := hid hl25
      clear hlast h24 hl25
      have q1 : IntKind.i64.wrap 1 = 1 := by rw [Go.IntWalk.i64_left]; exact wrap_of (by omega)
      have q2 : max (1 : Int) 0 = 1 := by omega
      apply wp_region_G 15 (fun _ => none) (valsL (_ :: _ :: _ :: _ :: _ :: _ :: _ :: _ :: _ :: _ :: _ :: _ :: (.slice (some ⟨g, o + 18, none⟩) 24 (cap - 1)) :: _ :: _ :: [])) ?hm10 ?hB10 ?hal10 ?main10
      case hm10 => kernel_rfl
      case hB10 => kernel_rfl
      case hal10 =>
        intro i o obj ho hi
        cases hi
      rotate_left 14
      intro ops QT HO HQ
      obtain ⟨ho0, HO⟩ := HO
      refine wpG_v ho0.out rfl ?_ ?_
      · simp only [valsL_zero, valsL_succ]; apply FY_in rfl; intro wx hx
        go_simp
        exact ⟨rfl, rfl⟩
      simp only [Act.put, List.setIfInBounds_toArray, List.set_cons_zero, List.set_cons_succ, valsL_zero, valsL_succ]
      obtain ⟨ho1, HO⟩ := HO
      refine wpG_v ho1.out rfl ?_ ?_
      · simp only [valsL_zero, valsL_succ]; apply FY_in rfl; intro wx hx
        go_simp
        exact ⟨rfl, rfl⟩
      simp only [Act.put, List.setIfInBounds_toArray, List.set_cons_zero, List.set_cons_succ, valsL_zero, valsL_succ]
      obtain ⟨ho2, HO⟩ := HO
      refine wpG_v ho2.out rfl ?_ ?_
      · simp only [valsL_zero, valsL_succ]; apply FY_in rfl; intro wx hx
        go_simp
        exact ⟨rfl, rfl⟩
      simp only [Act.put, List.setIfInBounds_toArray, List.set_cons_zero, List.set_cons_succ, valsL_zero, valsL_succ]
      obtain ⟨ho3, HO⟩ := HO
      refine wpG_v ho3.out rfl ?_ ?_
      · simp only [valsL_zero, valsL_succ]; apply FY_in rfl; intro wx hx
        go_simp
        exact ⟨rfl, rfl⟩
      simp only [Act.put, List.setIfInBounds_toArray, List.set_cons_zero, List.set_cons_succ, valsL_zero, valsL_succ]
      obtain ⟨ho4, HO⟩ := HO
      refine wpG_v ho4.out rfl ?_ ?_
      · simp only [valsL_zero, valsL_succ]; apply FY_in rfl; intro wx hx
        have hz0 := (HBM.out.frm0 hx).hist
        go_simp
        exact ⟨rfl, rfl⟩
      simp only [Act.put, List.setIfInBounds_toArray, List.set_cons_zero, List.set_cons_succ, valsL_zero, valsL_succ]
      obtain ⟨ho5, HO⟩ := HO
      refine wpG_v ho5.out rfl ?_ ?_
      · simp only [valsL_zero, valsL_succ]; apply FY_in rfl; intro wx hx
        go_simp
        exact ⟨rfl, rfl⟩
      simp only [Act.put, List.setIfInBounds_toArray, List.set_cons_zero, List.set_cons_succ, valsL_zero, valsL_succ]
      obtain ⟨ho6, HO⟩ := HO
      refine wpG_v ho6.out rfl ?_ ?_
      · simp only [valsL_zero, valsL_succ]; apply FY_in rfl; intro wx hx
        go_simp
        exact ⟨rfl, rfl⟩
      simp only [Act.put, List.setIfInBounds_toArray, List.set_cons_zero, List.set_cons_succ, valsL_zero, valsL_succ]
      obtain ⟨ho7, HO⟩ := HO
      refine wpG_v ho7.out rfl ?_ ?_
      · simp only [valsL_zero, valsL_succ]; apply FY_in rfl; intro wx hx
        go_simp
        exact ⟨rfl, rfl⟩
      simp only [Act.put, List.setIfInBounds_toArray, List.set_cons_zero, List.set_cons_succ, valsL_zero, valsL_succ]
      obtain ⟨ho8, HO⟩ := HO
      refine wpG_v ho8.out rfl ?_ ?_
      · simp only [valsL_zero, valsL_succ]; apply FY_in rfl; intro wx hx
        have hz0 := (HBM.out.frm0 hx).hist
        go_simp
        exact ⟨rfl, rfl⟩
      simp only [Act.put, List.setIfInBounds_toArray, List.set_cons_zero, List.set_cons_succ, valsL_zero, valsL_succ]
      obtain ⟨ho9, HO⟩ := HO
      refine wpG_v ho9.out rfl ?_ ?_
      · simp only [valsL_zero, valsL_succ]; apply FY_in rfl; intro wx hx
        go_simp
        exact ⟨rfl, rfl⟩
      simp only [Act.put, List.setIfInBounds_toArray, List.set_cons_zero, List.set_cons_succ, valsL_zero, valsL_succ]
      obtain ⟨ho10, HO⟩ := HO
      refine wpG_v ho10.out rfl ?_ ?_
      · simp only [valsL_zero, valsL_succ]; apply FY_in rfl; intro wx hx
        go_simp
        exact ⟨rfl, rfl⟩
      simp only [Act.put, List.setIfInBounds_toArray, List.set_cons_zero, List.set_cons_succ, valsL_zero, valsL_succ]
      obtain ⟨ho11, HO⟩ := HO
      refine wpG_v ho11.out rfl ?_ ?_
      · simp only [valsL_zero, valsL_succ]; apply FY_in rfl; intro wx hx
        go_simp
        exact ⟨rfl, rfl⟩
      simp only [Act.put, List.setIfInBounds_toArray, List.set_cons_zero, List.set_cons_succ, valsL_zero, valsL_succ]
      obtain ⟨ho12, HO⟩ := HO
      refine wpG_v ho12.out rfl ?_ ?_
      · simp only [valsL_zero, valsL_succ]; apply FY_in rfl; intro wx hx
        have hq : ¬ cap = 1 := (by have := HCAP.out.1; omega)
        go_simp
        exact ⟨rfl, rfl⟩
      simp only [Act.put, List.setIfInBounds_toArray, List.set_cons_zero, List.set_cons_succ, valsL_zero, valsL_succ]
      obtain ⟨ho13, HO⟩ := HO
      refine wpG_v ho13.out rfl ?_ ?_
      · simp only [valsL_zero, valsL_succ]; apply FY_in rfl; intro wx hx
        go_simp
        exact ⟨rfl, rfl⟩
      simp only [Act.put, List.setIfInBounds_toArray, List.set_cons_zero, List.set_cons_succ, valsL_zero, valsL_succ]
      obtain ⟨ho14, HO⟩ := HO
      refine wpG_v ho14.out rfl ?_ ?_
      · simp only [valsL_zero, valsL_succ]; apply FY_in rfl; intro wx hx
        go_simp
        exact ⟨rfl, rfl⟩
      simp only [Act.put, List.setIfInBounds_toArray, List.set_cons_zero, List.set_cons_succ, valsL_zero, valsL_succ]
      refine HQ.out _ _ ?_
      intro wL hf hE hN
      simp only [List.drop_succ_cons, List.drop_zero]
      clear HQ HO hE hN ho0 ho1 ho2 ho3 ho4 ho5 ho6 ho7 ho8 ho9 ho10 ho11 ho12 ho13 ho14
      have HCUT : Hid (Ow wL 37 18 (.slice (some ⟨g, o + 18, none⟩) 24 (cap - 1)) ((B.h ++ [r]).drop 1).length (((B.h ++ [r]).drop 1).flatMap Rc.cells)) := by
        have := (HBM.out.his.frm hf (fun _ _ h => h)).cut rcc_len 1 (by show 1 ≤ (B.h ++ [r]).length; rw [HL25.out]; omega)
        rw [show (B.h ++ [r]).length - 1 = 24 by rw [HL25.out]] at this
        exact hid this
      have HFL := hid (HFM.out.then0 hf)
      have HBL := hid (HBM.out.frm0 hf)
      clear hf q1 q2
      have hc := HBL.out.hist
      have hz := HBL.out.free 72
      have hset := hid (HBL.out.sethist (.slice (some ⟨g, o + 18, none⟩) 24 (cap - 1)) ((B.h ++ [r]).drop 1) (HCUT.out.frm (Frm.refl M0 wL) (fun _ _ h => h)) HBL.out.apart.2.2.2.2)
      have HFE : Hid (Frm (bkM b p) w (wL.setCell ⟨b, 72, none⟩ (.slice (some ⟨g, o + 18, none⟩) 24 (cap - 1)))) := hid (HFL.out.put b 72 _ (fun _ => .inl rfl))
      go_wp2_with fail
      go_ret
      have e : B.does r = { B with w := { B.w with phase := r.n }, h := lastN (B.h ++ [r]) } := by
        unfold Bk.does
        rw [if_neg (by have := HK.out; omega), if_neg (by have := HK.out; omega), if_neg (by have := HK.out; omega), if_pos HK.out, if_neg H3E.out]
      have h1 := hset.out
      rw [e, HLAST.out]
      exact ⟨rfl, _, h1, HFE.out, fun k hk => HOB.out k hk⟩
end Go.Proofs.YtmacpdddimcmgaaGreatDoor
