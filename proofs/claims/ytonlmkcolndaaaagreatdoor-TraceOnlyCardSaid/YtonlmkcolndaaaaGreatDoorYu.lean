/- TraceOnly: the walk of the law, for every text. No condition. -/
import Derived.Test.YtonlmkcolndaaaaGreatDoorTmd
namespace Go.Proofs.YtonlmkcolndaaaaGreatDoor
set_option linter.unusedVariables false
set_option linter.unusedSimpArgs false
set_option maxRecDepth 20000
open Go.RowKit

theorem parF_fine (s : ByteArray) : (parF s).1.r.fine := by
  unfold parF parR
  split
  · exact candO_fine _ _
  · exact rc_zero_fine
set_option maxRecDepth 20000 in
set_option maxHeartbeats 8000000 in
attribute [-go_sem] run_eql_struct in
attribute [local go_sem] eql_out in
theorem traceOnly_walk (W : World) (hg : Glob W) (t : ByteArray) (ht : t.size ≤ 9223372036854775807) :
    Calls Tryz.prog 7 #[.string t] W fun y w' => y = .returned (.bool true) ∧ Below W.heap.size W w' := by
  have HG := hid hg
  clear hg
  by_cases h : t.size ≤ 250
  · have h1 : min (t.size : Int) 250 = t.size := by omega
    have hus : t.size ≤ 250 := by omega
    obtain ⟨u, hu⟩ : ∃ u, u = t := ⟨_, rfl⟩
    have HUS : Hid (u.size ≤ 250) := hid (by rw [hu]; exact hus)
    clear h hus
    go_enter Tryz.func7, Tryz.ntmps7
    go_wp2_with fail
    refine (tlives_calls W HG.out).mono ?_
    rintro _ w1 ⟨rfl, hf⟩
    have HF1 := hid hf
    clear hf
    go_wp2_with fail
    rw [← hu]
    clear hu h1 
    refine (tparse_calls u _ (by have := HUS.out; omega) (HG.out.frm HF1.out)).mono ?_
    rintro _ w2 ⟨rfl, hf⟩
    have S2 : Hid (Sb M0 w2 fun x => Frm M0 W x) := hid (Sb.frm (HF1.out.then0 hf))
    clear hf HF1
    have HFI := hid (parF_fine u)
    have HON := hid (parF_only u)
    obtain ⟨⟨P, e⟩, HX⟩ : ∃ g, Hid (parF u = g) := ⟨_, rfl⟩
    rw [HX.out] at HFI HON ⊢
    simp only [] at HFI HON ⊢
    have HVP : Hid (P.val = .agg #[.int .i64 P.d, .int .i64 P.e, .int .i64 P.r.k, .int .i64 P.r.e, .int .i64 P.r.w, .int .i64 P.r.n, .int .i64 P.r.q, .string P.r.t, .int .i64 P.r.p.s0, .int .i64 P.r.p.s1, .int .i64 P.r.p.s2, .int .i64 P.r.p.s3, .int .i64 P.r.p.s4, .int .i64 P.r.p.s5, .int .i64 P.r.p.s6, .int .i64 P.r.p.s7, .int .i64 P.r.p.s8, .int .i64 P.r.p.s9, .int .i64 P.r.p.s10, .int .i64 P.r.p.s11, .int .i64 P.m.k, .int .i64 P.m.e, .int .i64 P.m.s, .int .i64 P.m.u, .int .i64 P.m.v, .int .i64 P.m.t]) := rfl
    rw [HVP.out]
    clear HX
    have HZb := hid (new1 w2 (.cells #[.int .i64 0, .int .i64 0, .int .i64 0, .int .i64 0, .int .i64 0, .int .i64 0, .int .i64 0, .string ⟨#[]⟩, .int .i64 0, .int .i64 0, .int .i64 0, .int .i64 0, .int .i64 0, .int .i64 0, .int .i64 0, .int .i64 0, .int .i64 0, .int .i64 0, .int .i64 0, .int .i64 0, .int .i64 0, .int .i64 0, .int .i64 0, .int .i64 0, .int .i64 0, .int .i64 0] 35))
    go_upto_region 5 with (refine wpList_store_row rfl 35 (.tmp 3) (.tmp 15) (by with_reducible rfl) w2.heap.size #[.int .i64 P.d, .int .i64 P.e, .int .i64 P.r.k, .int .i64 P.r.e, .int .i64 P.r.w, .int .i64 P.r.n, .int .i64 P.r.q, .string P.r.t, .int .i64 P.r.p.s0, .int .i64 P.r.p.s1, .int .i64 P.r.p.s2, .int .i64 P.r.p.s3, .int .i64 P.r.p.s4, .int .i64 P.r.p.s5, .int .i64 P.r.p.s6, .int .i64 P.r.p.s7, .int .i64 P.r.p.s8, .int .i64 P.r.p.s9, .int .i64 P.r.p.s10, .int .i64 P.r.p.s11, .int .i64 P.m.k, .int .i64 P.m.e, .int .i64 P.m.s, .int .i64 P.m.u, .int .i64 P.m.v, .int .i64 P.m.t] (by kernel_rfl) (by kernel_rfl) _ _ HZb.out (by kernel_rfl) (by rfl) (by simp [Value.oneCell']) ?_)
    have hfr := ((Frm.refl M0 w2).alloc (.cells #[.int .i64 0, .int .i64 0, .int .i64 0, .int .i64 0, .int .i64 0, .int .i64 0, .int .i64 0, .string ⟨#[]⟩, .int .i64 0, .int .i64 0, .int .i64 0, .int .i64 0, .int .i64 0, .int .i64 0, .int .i64 0, .int .i64 0, .int .i64 0, .int .i64 0, .int .i64 0, .int .i64 0, .int .i64 0, .int .i64 0, .int .i64 0, .int .i64 0, .int .i64 0, .int .i64 0] 35)).setRow w2.heap.size #[.int .i64 P.d, .int .i64 P.e, .int .i64 P.r.k, .int .i64 P.r.e, .int .i64 P.r.w, .int .i64 P.r.n, .int .i64 P.r.q, .string P.r.t, .int .i64 P.r.p.s0, .int .i64 P.r.p.s1, .int .i64 P.r.p.s2, .int .i64 P.r.p.s3, .int .i64 P.r.p.s4, .int .i64 P.r.p.s5, .int .i64 P.r.p.s6, .int .i64 P.r.p.s7, .int .i64 P.r.p.s8, .int .i64 P.r.p.s9, .int .i64 P.r.p.s10, .int .i64 P.r.p.s11, .int .i64 P.m.k, .int .i64 P.m.e, .int .i64 P.m.s, .int .i64 P.m.u, .int .i64 P.m.v, .int .i64 P.m.t] (Nat.le_refl _)
    have hPb := setRow_heap _ w2.heap.size _ #[.int .i64 P.d, .int .i64 P.e, .int .i64 P.r.k, .int .i64 P.r.e, .int .i64 P.r.w, .int .i64 P.r.n, .int .i64 P.r.q, .string P.r.t, .int .i64 P.r.p.s0, .int .i64 P.r.p.s1, .int .i64 P.r.p.s2, .int .i64 P.r.p.s3, .int .i64 P.r.p.s4, .int .i64 P.r.p.s5, .int .i64 P.r.p.s6, .int .i64 P.r.p.s7, .int .i64 P.r.p.s8, .int .i64 P.r.p.s9, .int .i64 P.r.p.s10, .int .i64 P.r.p.s11, .int .i64 P.m.k, .int .i64 P.m.e, .int .i64 P.m.s, .int .i64 P.m.u, .int .i64 P.m.v, .int .i64 P.m.t] _ _ HZb.out
    obtain ⟨b, hblk⟩ : ∃ x, x = w2.heap.size := ⟨_, rfl⟩
    obtain ⟨w3, hwn⟩ : ∃ x, x = (w2.alloc (.cells #[.int .i64 0, .int .i64 0, .int .i64 0, .int .i64 0, .int .i64 0, .int .i64 0, .int .i64 0, .string ⟨#[]⟩, .int .i64 0, .int .i64 0, .int .i64 0, .int .i64 0, .int .i64 0, .int .i64 0, .int .i64 0, .int .i64 0, .int .i64 0, .int .i64 0, .int .i64 0, .int .i64 0, .int .i64 0, .int .i64 0, .int .i64 0, .int .i64 0, .int .i64 0, .int .i64 0] 35)).setRow w2.heap.size #[.int .i64 P.d, .int .i64 P.e, .int .i64 P.r.k, .int .i64 P.r.e, .int .i64 P.r.w, .int .i64 P.r.n, .int .i64 P.r.q, .string P.r.t, .int .i64 P.r.p.s0, .int .i64 P.r.p.s1, .int .i64 P.r.p.s2, .int .i64 P.r.p.s3, .int .i64 P.r.p.s4, .int .i64 P.r.p.s5, .int .i64 P.r.p.s6, .int .i64 P.r.p.s7, .int .i64 P.r.p.s8, .int .i64 P.r.p.s9, .int .i64 P.r.p.s10, .int .i64 P.r.p.s11, .int .i64 P.m.k, .int .i64 P.m.e, .int .i64 P.m.s, .int .i64 P.m.u, .int .i64 P.m.v, .int .i64 P.m.t] := ⟨_, rfl⟩
    rw [← hwn] at hfr hPb ⊢
    rw [← hblk] at hPb ⊢
    clear hwn hblk HZb
    have S3 := hid ((S2.out.step hfr).and (Sb.heap hPb (fun h => h)))
    clear hfr hPb S2
    rcases HON.out with hz | ⟨he, hl⟩
    · obtain ⟨rfl, rfl⟩ := Prod.mk.inj hz
      have hq : oeq ⟨0, 0, ⟨0, 0, 0, 0, 0, ⟨#[]⟩, ⟨0, 0, 0, 0, 0, 0, 0, 0, 0, 0, 0, 0⟩⟩, ⟨0, 0, 0, 0, 0, 0⟩⟩ ⟨0, 0, ⟨0, 0, 0, 0, 0, ⟨#[]⟩, ⟨0, 0, 0, 0, 0, 0, 0, 0, 0, 0, 0, 0⟩⟩, ⟨0, 0, 0, 0, 0, 0⟩⟩ = true := by unfold oeq; exact decide_eq_true rfl
      have S3z : Hid (Sb M0 w3 fun x => Frm M0 W x ∧ x.heap[b]? = some (.cells #[.int .i64 0, .int .i64 0, .int .i64 0, .int .i64 0, .int .i64 0, .int .i64 0, .int .i64 0, .string ⟨#[]⟩, .int .i64 0, .int .i64 0, .int .i64 0, .int .i64 0, .int .i64 0, .int .i64 0, .int .i64 0, .int .i64 0, .int .i64 0, .int .i64 0, .int .i64 0, .int .i64 0, .int .i64 0, .int .i64 0, .int .i64 0, .int .i64 0, .int .i64 0, .int .i64 0] 35 (0, 0))) := S3
      clear S3 hz
      go_upto_region 6 with fail
      apply wp_region_N 7 (valsL (_ :: _ :: _ :: (.agg #[.int .i64 0, .int .i64 0, .int .i64 0, .int .i64 0, .int .i64 0, .int .i64 0, .int .i64 0, .string ⟨#[]⟩, .int .i64 0, .int .i64 0, .int .i64 0, .int .i64 0, .int .i64 0, .int .i64 0, .int .i64 0, .int .i64 0, .int .i64 0, .int .i64 0, .int .i64 0, .int .i64 0, .int .i64 0, .int .i64 0, .int .i64 0, .int .i64 0, .int .i64 0, .int .i64 0]) :: _ :: _ :: _ :: [])) ?hB2 ?main2
      case hB2 => kernel_rfl
      rotate_left 6
      intro ops QT HO HQ
      obtain ⟨ho0, HO⟩ := HO
      refine wpG_v ho0.out rfl ?_ ?_
      · simp only [valsL_zero, valsL_succ]; apply FY_in rfl; intro wx hx
        go_simp
        exact ⟨rfl, rfl⟩
      simp only [Act.put, List.setIfInBounds_toArray, List.set_cons_zero, List.set_cons_succ, valsL_zero, valsL_succ]
      obtain ⟨ho1, HO⟩ := HO
      refine wpG_v ho1.out rfl ?_ ?_
      · simp only [valsL_zero, valsL_succ]; apply FY_in rfl; intro wx hx
        go_simp
        exact ⟨rfl, rfl⟩
      simp only [Act.put, List.setIfInBounds_toArray, List.set_cons_zero, List.set_cons_succ, valsL_zero, valsL_succ]
      obtain ⟨ho2, HO⟩ := HO
      refine wpG_v ho2.out rfl ?_ ?_
      · simp only [valsL_zero, valsL_succ]; apply FY_in rfl; intro wx hx
        go_simp
        exact ⟨rfl, rfl⟩
      simp only [Act.put, List.setIfInBounds_toArray, List.set_cons_zero, List.set_cons_succ, valsL_zero, valsL_succ]
      obtain ⟨ho3, HO⟩ := HO
      refine wpG_v ho3.out rfl ?_ ?_
      · simp only [valsL_zero, valsL_succ]; apply FY_yes (d := 21) rfl ho2.out (by rfl) (by kernel_rfl); intro wx hx
        exact fu_load_row_g 35 (.tmp 3) rfl (b) (by kernel_rfl) _ _ _ _ ((S3z.out wx hx).2) Tryz.underlying35 rfl (by kernel_rfl)
      simp only [Act.put, List.setIfInBounds_toArray, List.set_cons_zero, List.set_cons_succ, valsL_zero, valsL_succ]
      obtain ⟨ho4, HO⟩ := HO
      refine wpG_v ho4.out rfl ?_ ?_
      · simp only [valsL_zero, valsL_succ]; apply FY_yes (d := 21) rfl ho2.out (by rfl) (by kernel_rfl); intro wx hx
        go_simp
        exact ⟨rfl, rfl⟩
      simp only [Act.put, List.setIfInBounds_toArray, List.set_cons_zero, List.set_cons_succ, valsL_zero, valsL_succ]
      obtain ⟨ho5, HO⟩ := HO
      refine wpG_v ho5.out rfl ?_ ?_
      · simp only [valsL_zero, valsL_succ]; apply FY_yes (d := 21) rfl ho2.out (by rfl) (by kernel_rfl); intro wx hx
        go_simp
        exact ⟨rfl, rfl⟩
      simp only [Act.put, List.setIfInBounds_toArray, List.set_cons_zero, List.set_cons_succ, valsL_zero, valsL_succ]
      obtain ⟨ho6, HO⟩ := HO
      refine wpG_v ho6.out rfl ?_ ?_
      · simp only [valsL_zero, valsL_succ]; apply FY_in rfl; intro wx hx
        go_simp
        exact ⟨rfl, rfl⟩
      simp only [Act.put, List.setIfInBounds_toArray, List.set_cons_zero, List.set_cons_succ, valsL_zero, valsL_succ]
      refine HQ.out _ _ ?_
      intro wr hf
      simp only [List.drop_succ_cons, List.drop_zero]
      clear HQ HO ho0 ho1 ho2 ho3 ho4 ho5 ho6
      have S4 := hid (S3z.out.step hf)
      clear hf
      go_wp2_with fail
      go_ret
      exact ⟨by first | rfl | simp, S4.out.now.1.below⟩
    · have he' : e = 0 := he
      subst he'
      have HLN : Hid (∀ wx, Glob wx → Calls Tryz.prog 10 #[P.val] wx fun x w' => x = .returned (.string u) ∧ Frm M0 wx w') := hid (fun wx hx => by
        have h := tline_calls P wx hx.tab HFI.out
        have hl2 : lineS P = u := hl
        rw [hl2] at h; exact h)
      clear HON he hl
      go_wp2_with (refine wpList_load_row_w (by kernel_rfl) 35 (.tmp 3) (by with_reducible rfl) b (by kernel_rfl) _ _ _ _ S3.out.now.2 Tryz.underlying35 rfl (by kernel_rfl) ?_)
      rw [← HVP.out]
      refine (HLN.out _ (HG.out.frm S3.out.now.1)).mono ?_
      rintro _ w4 ⟨rfl, hf⟩
      have S4 := hid (S3.out.step hf)
      clear hf
      go_wp2_with fail
      go_ret
      exact ⟨by first | rfl | simp, S4.out.now.1.below⟩
  · have h1 : min (t.size : Int) 250 = 250 := by omega
    have h2 : 250 ≤ t.size := by omega
    have hus : (t.extract 0 250).size ≤ 250 := by rw [ByteArray.size_extract]; omega
    obtain ⟨u, hu⟩ : ∃ u, u = (t.extract 0 250) := ⟨_, rfl⟩
    have HUS : Hid (u.size ≤ 250) := hid (by rw [hu]; exact hus)
    clear h hus
    go_enter Tryz.func7, Tryz.ntmps7
    go_wp2_with fail
    refine (tlives_calls W HG.out).mono ?_
    rintro _ w1 ⟨rfl, hf⟩
    have HF1 := hid hf
    clear hf
    go_wp2_with fail
    rw [← hu]
    clear hu h1 h2
    refine (tparse_calls u _ (by have := HUS.out; omega) (HG.out.frm HF1.out)).mono ?_
    rintro _ w2 ⟨rfl, hf⟩
    have S2 : Hid (Sb M0 w2 fun x => Frm M0 W x) := hid (Sb.frm (HF1.out.then0 hf))
    clear hf HF1
    have HFI := hid (parF_fine u)
    have HON := hid (parF_only u)
    obtain ⟨⟨P, e⟩, HX⟩ : ∃ g, Hid (parF u = g) := ⟨_, rfl⟩
    rw [HX.out] at HFI HON ⊢
    simp only [] at HFI HON ⊢
    have HVP : Hid (P.val = .agg #[.int .i64 P.d, .int .i64 P.e, .int .i64 P.r.k, .int .i64 P.r.e, .int .i64 P.r.w, .int .i64 P.r.n, .int .i64 P.r.q, .string P.r.t, .int .i64 P.r.p.s0, .int .i64 P.r.p.s1, .int .i64 P.r.p.s2, .int .i64 P.r.p.s3, .int .i64 P.r.p.s4, .int .i64 P.r.p.s5, .int .i64 P.r.p.s6, .int .i64 P.r.p.s7, .int .i64 P.r.p.s8, .int .i64 P.r.p.s9, .int .i64 P.r.p.s10, .int .i64 P.r.p.s11, .int .i64 P.m.k, .int .i64 P.m.e, .int .i64 P.m.s, .int .i64 P.m.u, .int .i64 P.m.v, .int .i64 P.m.t]) := rfl
    rw [HVP.out]
    clear HX
    have HZb := hid (new1 w2 (.cells #[.int .i64 0, .int .i64 0, .int .i64 0, .int .i64 0, .int .i64 0, .int .i64 0, .int .i64 0, .string ⟨#[]⟩, .int .i64 0, .int .i64 0, .int .i64 0, .int .i64 0, .int .i64 0, .int .i64 0, .int .i64 0, .int .i64 0, .int .i64 0, .int .i64 0, .int .i64 0, .int .i64 0, .int .i64 0, .int .i64 0, .int .i64 0, .int .i64 0, .int .i64 0, .int .i64 0] 35))
    go_upto_region 5 with (refine wpList_store_row rfl 35 (.tmp 3) (.tmp 15) (by with_reducible rfl) w2.heap.size #[.int .i64 P.d, .int .i64 P.e, .int .i64 P.r.k, .int .i64 P.r.e, .int .i64 P.r.w, .int .i64 P.r.n, .int .i64 P.r.q, .string P.r.t, .int .i64 P.r.p.s0, .int .i64 P.r.p.s1, .int .i64 P.r.p.s2, .int .i64 P.r.p.s3, .int .i64 P.r.p.s4, .int .i64 P.r.p.s5, .int .i64 P.r.p.s6, .int .i64 P.r.p.s7, .int .i64 P.r.p.s8, .int .i64 P.r.p.s9, .int .i64 P.r.p.s10, .int .i64 P.r.p.s11, .int .i64 P.m.k, .int .i64 P.m.e, .int .i64 P.m.s, .int .i64 P.m.u, .int .i64 P.m.v, .int .i64 P.m.t] (by kernel_rfl) (by kernel_rfl) _ _ HZb.out (by kernel_rfl) (by rfl) (by simp [Value.oneCell']) ?_)
    have hfr := ((Frm.refl M0 w2).alloc (.cells #[.int .i64 0, .int .i64 0, .int .i64 0, .int .i64 0, .int .i64 0, .int .i64 0, .int .i64 0, .string ⟨#[]⟩, .int .i64 0, .int .i64 0, .int .i64 0, .int .i64 0, .int .i64 0, .int .i64 0, .int .i64 0, .int .i64 0, .int .i64 0, .int .i64 0, .int .i64 0, .int .i64 0, .int .i64 0, .int .i64 0, .int .i64 0, .int .i64 0, .int .i64 0, .int .i64 0] 35)).setRow w2.heap.size #[.int .i64 P.d, .int .i64 P.e, .int .i64 P.r.k, .int .i64 P.r.e, .int .i64 P.r.w, .int .i64 P.r.n, .int .i64 P.r.q, .string P.r.t, .int .i64 P.r.p.s0, .int .i64 P.r.p.s1, .int .i64 P.r.p.s2, .int .i64 P.r.p.s3, .int .i64 P.r.p.s4, .int .i64 P.r.p.s5, .int .i64 P.r.p.s6, .int .i64 P.r.p.s7, .int .i64 P.r.p.s8, .int .i64 P.r.p.s9, .int .i64 P.r.p.s10, .int .i64 P.r.p.s11, .int .i64 P.m.k, .int .i64 P.m.e, .int .i64 P.m.s, .int .i64 P.m.u, .int .i64 P.m.v, .int .i64 P.m.t] (Nat.le_refl _)
    have hPb := setRow_heap _ w2.heap.size _ #[.int .i64 P.d, .int .i64 P.e, .int .i64 P.r.k, .int .i64 P.r.e, .int .i64 P.r.w, .int .i64 P.r.n, .int .i64 P.r.q, .string P.r.t, .int .i64 P.r.p.s0, .int .i64 P.r.p.s1, .int .i64 P.r.p.s2, .int .i64 P.r.p.s3, .int .i64 P.r.p.s4, .int .i64 P.r.p.s5, .int .i64 P.r.p.s6, .int .i64 P.r.p.s7, .int .i64 P.r.p.s8, .int .i64 P.r.p.s9, .int .i64 P.r.p.s10, .int .i64 P.r.p.s11, .int .i64 P.m.k, .int .i64 P.m.e, .int .i64 P.m.s, .int .i64 P.m.u, .int .i64 P.m.v, .int .i64 P.m.t] _ _ HZb.out
    obtain ⟨b, hblk⟩ : ∃ x, x = w2.heap.size := ⟨_, rfl⟩
    obtain ⟨w3, hwn⟩ : ∃ x, x = (w2.alloc (.cells #[.int .i64 0, .int .i64 0, .int .i64 0, .int .i64 0, .int .i64 0, .int .i64 0, .int .i64 0, .string ⟨#[]⟩, .int .i64 0, .int .i64 0, .int .i64 0, .int .i64 0, .int .i64 0, .int .i64 0, .int .i64 0, .int .i64 0, .int .i64 0, .int .i64 0, .int .i64 0, .int .i64 0, .int .i64 0, .int .i64 0, .int .i64 0, .int .i64 0, .int .i64 0, .int .i64 0] 35)).setRow w2.heap.size #[.int .i64 P.d, .int .i64 P.e, .int .i64 P.r.k, .int .i64 P.r.e, .int .i64 P.r.w, .int .i64 P.r.n, .int .i64 P.r.q, .string P.r.t, .int .i64 P.r.p.s0, .int .i64 P.r.p.s1, .int .i64 P.r.p.s2, .int .i64 P.r.p.s3, .int .i64 P.r.p.s4, .int .i64 P.r.p.s5, .int .i64 P.r.p.s6, .int .i64 P.r.p.s7, .int .i64 P.r.p.s8, .int .i64 P.r.p.s9, .int .i64 P.r.p.s10, .int .i64 P.r.p.s11, .int .i64 P.m.k, .int .i64 P.m.e, .int .i64 P.m.s, .int .i64 P.m.u, .int .i64 P.m.v, .int .i64 P.m.t] := ⟨_, rfl⟩
    rw [← hwn] at hfr hPb ⊢
    rw [← hblk] at hPb ⊢
    clear hwn hblk HZb
    have S3 := hid ((S2.out.step hfr).and (Sb.heap hPb (fun h => h)))
    clear hfr hPb S2
    rcases HON.out with hz | ⟨he, hl⟩
    · obtain ⟨rfl, rfl⟩ := Prod.mk.inj hz
      have hq : oeq ⟨0, 0, ⟨0, 0, 0, 0, 0, ⟨#[]⟩, ⟨0, 0, 0, 0, 0, 0, 0, 0, 0, 0, 0, 0⟩⟩, ⟨0, 0, 0, 0, 0, 0⟩⟩ ⟨0, 0, ⟨0, 0, 0, 0, 0, ⟨#[]⟩, ⟨0, 0, 0, 0, 0, 0, 0, 0, 0, 0, 0, 0⟩⟩, ⟨0, 0, 0, 0, 0, 0⟩⟩ = true := by unfold oeq; exact decide_eq_true rfl
      have S3z : Hid (Sb M0 w3 fun x => Frm M0 W x ∧ x.heap[b]? = some (.cells #[.int .i64 0, .int .i64 0, .int .i64 0, .int .i64 0, .int .i64 0, .int .i64 0, .int .i64 0, .string ⟨#[]⟩, .int .i64 0, .int .i64 0, .int .i64 0, .int .i64 0, .int .i64 0, .int .i64 0, .int .i64 0, .int .i64 0, .int .i64 0, .int .i64 0, .int .i64 0, .int .i64 0, .int .i64 0, .int .i64 0, .int .i64 0, .int .i64 0, .int .i64 0, .int .i64 0] 35 (0, 0))) := S3
      clear S3 hz
      go_upto_region 6 with fail
      apply wp_region_N 7 (valsL (_ :: _ :: _ :: (.agg #[.int .i64 0, .int .i64 0, .int .i64 0, .int .i64 0, .int .i64 0, .int .i64 0, .int .i64 0, .string ⟨#[]⟩, .int .i64 0, .int .i64 0, .int .i64 0, .int .i64 0, .int .i64 0, .int .i64 0, .int .i64 0, .int .i64 0, .int .i64 0, .int .i64 0, .int .i64 0, .int .i64 0, .int .i64 0, .int .i64 0, .int .i64 0, .int .i64 0, .int .i64 0, .int .i64 0]) :: _ :: _ :: _ :: [])) ?hB3 ?main3
      case hB3 => kernel_rfl
      rotate_left 6
      intro ops QT HO HQ
      obtain ⟨ho0, HO⟩ := HO
      refine wpG_v ho0.out rfl ?_ ?_
      · simp only [valsL_zero, valsL_succ]; apply FY_in rfl; intro wx hx
        go_simp
        exact ⟨rfl, rfl⟩
      simp only [Act.put, List.setIfInBounds_toArray, List.set_cons_zero, List.set_cons_succ, valsL_zero, valsL_succ]
      obtain ⟨ho1, HO⟩ := HO
      refine wpG_v ho1.out rfl ?_ ?_
      · simp only [valsL_zero, valsL_succ]; apply FY_in rfl; intro wx hx
        go_simp
        exact ⟨rfl, rfl⟩
      simp only [Act.put, List.setIfInBounds_toArray, List.set_cons_zero, List.set_cons_succ, valsL_zero, valsL_succ]
      obtain ⟨ho2, HO⟩ := HO
      refine wpG_v ho2.out rfl ?_ ?_
      · simp only [valsL_zero, valsL_succ]; apply FY_in rfl; intro wx hx
        go_simp
        exact ⟨rfl, rfl⟩
      simp only [Act.put, List.setIfInBounds_toArray, List.set_cons_zero, List.set_cons_succ, valsL_zero, valsL_succ]
      obtain ⟨ho3, HO⟩ := HO
      refine wpG_v ho3.out rfl ?_ ?_
      · simp only [valsL_zero, valsL_succ]; apply FY_yes (d := 21) rfl ho2.out (by rfl) (by kernel_rfl); intro wx hx
        exact fu_load_row_g 35 (.tmp 3) rfl (b) (by kernel_rfl) _ _ _ _ ((S3z.out wx hx).2) Tryz.underlying35 rfl (by kernel_rfl)
      simp only [Act.put, List.setIfInBounds_toArray, List.set_cons_zero, List.set_cons_succ, valsL_zero, valsL_succ]
      obtain ⟨ho4, HO⟩ := HO
      refine wpG_v ho4.out rfl ?_ ?_
      · simp only [valsL_zero, valsL_succ]; apply FY_yes (d := 21) rfl ho2.out (by rfl) (by kernel_rfl); intro wx hx
        go_simp
        exact ⟨rfl, rfl⟩
      simp only [Act.put, List.setIfInBounds_toArray, List.set_cons_zero, List.set_cons_succ, valsL_zero, valsL_succ]
      obtain ⟨ho5, HO⟩ := HO
      refine wpG_v ho5.out rfl ?_ ?_
      · simp only [valsL_zero, valsL_succ]; apply FY_yes (d := 21) rfl ho2.out (by rfl) (by kernel_rfl); intro wx hx
        go_simp
        exact ⟨rfl, rfl⟩
      simp only [Act.put, List.setIfInBounds_toArray, List.set_cons_zero, List.set_cons_succ, valsL_zero, valsL_succ]
      obtain ⟨ho6, HO⟩ := HO
      refine wpG_v ho6.out rfl ?_ ?_
      · simp only [valsL_zero, valsL_succ]; apply FY_in rfl; intro wx hx
        go_simp
        exact ⟨rfl, rfl⟩
      simp only [Act.put, List.setIfInBounds_toArray, List.set_cons_zero, List.set_cons_succ, valsL_zero, valsL_succ]
      refine HQ.out _ _ ?_
      intro wr hf
      simp only [List.drop_succ_cons, List.drop_zero]
      clear HQ HO ho0 ho1 ho2 ho3 ho4 ho5 ho6
      have S4 := hid (S3z.out.step hf)
      clear hf
      go_wp2_with fail
      go_ret
      exact ⟨by first | rfl | simp, S4.out.now.1.below⟩
    · have he' : e = 0 := he
      subst he'
      have HLN : Hid (∀ wx, Glob wx → Calls Tryz.prog 10 #[P.val] wx fun x w' => x = .returned (.string u) ∧ Frm M0 wx w') := hid (fun wx hx => by
        have h := tline_calls P wx hx.tab HFI.out
        have hl2 : lineS P = u := hl
        rw [hl2] at h; exact h)
      clear HON he hl
      go_wp2_with (refine wpList_load_row_w (by kernel_rfl) 35 (.tmp 3) (by with_reducible rfl) b (by kernel_rfl) _ _ _ _ S3.out.now.2 Tryz.underlying35 rfl (by kernel_rfl) ?_)
      rw [← HVP.out]
      refine (HLN.out _ (HG.out.frm S3.out.now.1)).mono ?_
      rintro _ w4 ⟨rfl, hf⟩
      have S4 := hid (S3.out.step hf)
      clear hf
      go_wp2_with fail
      go_ret
      exact ⟨by first | rfl | simp, S4.out.now.1.below⟩
end Go.Proofs.YtonlmkcolndaaaaGreatDoor
