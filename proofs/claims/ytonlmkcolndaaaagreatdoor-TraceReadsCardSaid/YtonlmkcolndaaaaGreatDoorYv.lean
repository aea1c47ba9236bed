/- TraceReads: the walk of the law, for every text. No condition. -/
import Derived.Test.YtonlmkcolndaaaaGreatDoorTmd
namespace Go.Proofs.YtonlmkcolndaaaaGreatDoor
set_option linter.unusedVariables false
set_option linter.unusedSimpArgs false
set_option maxRecDepth 20000
open Go.RowKit

set_option maxRecDepth 20000 in
set_option maxHeartbeats 16000000 in
attribute [-go_sem] run_eql_struct in
attribute [local go_sem] eql_out eql_rec eql_msg in
theorem traceReads_walk (W : World) (hg : Glob W) (t : ByteArray) (ht : t.size ≤ 9223372036854775807) :
    Calls Tryz.prog 4 #[.string t] W fun y w' => y = .returned (.bool true) ∧ Below W.heap.size W w' := by
  have HG := hid hg
  clear hg
  by_cases h : t.size ≤ 250
  · have h1 : min (t.size : Int) 250 = t.size := by omega
    have hus : t.size ≤ 250 := by omega
    obtain ⟨u, hu⟩ : ∃ u, u = t := ⟨_, rfl⟩
    have HUS : Hid (u.size ≤ 250) := hid (by rw [hu]; exact hus)
    clear h hus
    obtain ⟨⟨P, e⟩, HP⟩ : ∃ g, Hid (parF u = g) := ⟨_, rfl⟩
    obtain ⟨⟨m, f⟩, HM⟩ : ∃ g, Hid (msgF u = g) := ⟨_, rfl⟩
    obtain ⟨⟨r, g⟩, HR⟩ : ∃ g, Hid (recF u = g) := ⟨_, rfl⟩
    obtain ⟨⟨q1, q2⟩, HQ⟩ : ∃ g, Hid (errnoF u = g) := ⟨_, rfl⟩
    go_enter Tryz.func4, Tryz.ntmps4
    go_wp2_with fail
    refine (tlives_calls W HG.out).mono ?_
    rintro _ w1 ⟨rfl, hf⟩
    have S0 : Hid (Sb M0 w1 fun x => Frm M0 W x) := hid (Sb.frm hf)
    clear hf
    go_wp2_with fail
    rw [← hu]
    clear hu h1 
    refine (tparse_calls u _ (by have := HUS.out; omega) (HG.out.frm (S0.out.now))).mono ?_
    rintro _ w2 ⟨rfl, hf⟩
    rw [HP.out]
    simp only []
    have HV : Hid (P.val = .agg #[.int .i64 P.d, .int .i64 P.e, .int .i64 P.r.k, .int .i64 P.r.e, .int .i64 P.r.w, .int .i64 P.r.n, .int .i64 P.r.q, .string P.r.t, .int .i64 P.r.p.s0, .int .i64 P.r.p.s1, .int .i64 P.r.p.s2, .int .i64 P.r.p.s3, .int .i64 P.r.p.s4, .int .i64 P.r.p.s5, .int .i64 P.r.p.s6, .int .i64 P.r.p.s7, .int .i64 P.r.p.s8, .int .i64 P.r.p.s9, .int .i64 P.r.p.s10, .int .i64 P.r.p.s11, .int .i64 P.m.k, .int .i64 P.m.e, .int .i64 P.m.s, .int .i64 P.m.u, .int .i64 P.m.v, .int .i64 P.m.t]) := rfl
    rw [HV.out]
    have S1 := hid (S0.out.step hf)
    clear hf S0 HV
    have HZb := hid (new1 w2 (.cells #[.int .i64 0, .int .i64 0, .int .i64 0, .int .i64 0, .int .i64 0, .int .i64 0, .int .i64 0, .string ⟨#[]⟩, .int .i64 0, .int .i64 0, .int .i64 0, .int .i64 0, .int .i64 0, .int .i64 0, .int .i64 0, .int .i64 0, .int .i64 0, .int .i64 0, .int .i64 0, .int .i64 0, .int .i64 0, .int .i64 0, .int .i64 0, .int .i64 0, .int .i64 0, .int .i64 0] 35))
    go_upto_region 5 with (refine wpList_store_row rfl 35 (.tmp 3) (.tmp 29) (by with_reducible rfl) w2.heap.size #[.int .i64 P.d, .int .i64 P.e, .int .i64 P.r.k, .int .i64 P.r.e, .int .i64 P.r.w, .int .i64 P.r.n, .int .i64 P.r.q, .string P.r.t, .int .i64 P.r.p.s0, .int .i64 P.r.p.s1, .int .i64 P.r.p.s2, .int .i64 P.r.p.s3, .int .i64 P.r.p.s4, .int .i64 P.r.p.s5, .int .i64 P.r.p.s6, .int .i64 P.r.p.s7, .int .i64 P.r.p.s8, .int .i64 P.r.p.s9, .int .i64 P.r.p.s10, .int .i64 P.r.p.s11, .int .i64 P.m.k, .int .i64 P.m.e, .int .i64 P.m.s, .int .i64 P.m.u, .int .i64 P.m.v, .int .i64 P.m.t] (by kernel_rfl) (by kernel_rfl) _ _ HZb.out (by kernel_rfl) (by rfl) (by simp [Value.oneCell']) ?_)
    have hfr := ((Frm.refl M0 w2).alloc (.cells #[.int .i64 0, .int .i64 0, .int .i64 0, .int .i64 0, .int .i64 0, .int .i64 0, .int .i64 0, .string ⟨#[]⟩, .int .i64 0, .int .i64 0, .int .i64 0, .int .i64 0, .int .i64 0, .int .i64 0, .int .i64 0, .int .i64 0, .int .i64 0, .int .i64 0, .int .i64 0, .int .i64 0, .int .i64 0, .int .i64 0, .int .i64 0, .int .i64 0, .int .i64 0, .int .i64 0] 35)).setRow w2.heap.size #[.int .i64 P.d, .int .i64 P.e, .int .i64 P.r.k, .int .i64 P.r.e, .int .i64 P.r.w, .int .i64 P.r.n, .int .i64 P.r.q, .string P.r.t, .int .i64 P.r.p.s0, .int .i64 P.r.p.s1, .int .i64 P.r.p.s2, .int .i64 P.r.p.s3, .int .i64 P.r.p.s4, .int .i64 P.r.p.s5, .int .i64 P.r.p.s6, .int .i64 P.r.p.s7, .int .i64 P.r.p.s8, .int .i64 P.r.p.s9, .int .i64 P.r.p.s10, .int .i64 P.r.p.s11, .int .i64 P.m.k, .int .i64 P.m.e, .int .i64 P.m.s, .int .i64 P.m.u, .int .i64 P.m.v, .int .i64 P.m.t] (Nat.le_refl _)
    have hPb := setRow_heap _ w2.heap.size _ #[.int .i64 P.d, .int .i64 P.e, .int .i64 P.r.k, .int .i64 P.r.e, .int .i64 P.r.w, .int .i64 P.r.n, .int .i64 P.r.q, .string P.r.t, .int .i64 P.r.p.s0, .int .i64 P.r.p.s1, .int .i64 P.r.p.s2, .int .i64 P.r.p.s3, .int .i64 P.r.p.s4, .int .i64 P.r.p.s5, .int .i64 P.r.p.s6, .int .i64 P.r.p.s7, .int .i64 P.r.p.s8, .int .i64 P.r.p.s9, .int .i64 P.r.p.s10, .int .i64 P.r.p.s11, .int .i64 P.m.k, .int .i64 P.m.e, .int .i64 P.m.s, .int .i64 P.m.u, .int .i64 P.m.v, .int .i64 P.m.t] _ _ HZb.out
    obtain ⟨b3, hblk⟩ : ∃ x, x = w2.heap.size := ⟨_, rfl⟩
    obtain ⟨w3, hwn⟩ : ∃ x, x = (w2.alloc (.cells #[.int .i64 0, .int .i64 0, .int .i64 0, .int .i64 0, .int .i64 0, .int .i64 0, .int .i64 0, .string ⟨#[]⟩, .int .i64 0, .int .i64 0, .int .i64 0, .int .i64 0, .int .i64 0, .int .i64 0, .int .i64 0, .int .i64 0, .int .i64 0, .int .i64 0, .int .i64 0, .int .i64 0, .int .i64 0, .int .i64 0, .int .i64 0, .int .i64 0, .int .i64 0, .int .i64 0] 35)).setRow w2.heap.size #[.int .i64 P.d, .int .i64 P.e, .int .i64 P.r.k, .int .i64 P.r.e, .int .i64 P.r.w, .int .i64 P.r.n, .int .i64 P.r.q, .string P.r.t, .int .i64 P.r.p.s0, .int .i64 P.r.p.s1, .int .i64 P.r.p.s2, .int .i64 P.r.p.s3, .int .i64 P.r.p.s4, .int .i64 P.r.p.s5, .int .i64 P.r.p.s6, .int .i64 P.r.p.s7, .int .i64 P.r.p.s8, .int .i64 P.r.p.s9, .int .i64 P.r.p.s10, .int .i64 P.r.p.s11, .int .i64 P.m.k, .int .i64 P.m.e, .int .i64 P.m.s, .int .i64 P.m.u, .int .i64 P.m.v, .int .i64 P.m.t] := ⟨_, rfl⟩
    rw [← hwn] at hfr hPb ⊢
    rw [← hblk] at hPb ⊢
    clear hwn hblk HZb
    have S2 := hid ((S1.out.step hfr).and (Sb.heap hPb (fun h => h)))
    clear hfr hPb S1
    go_wp2_with fail
    refine (rparse_calls u _ (by have := HUS.out; omega) ).mono ?_
    rintro _ w4 ⟨rfl, hf⟩
    rw [HP.out]
    simp only []
    have HV : Hid (P.val = .agg #[.int .i64 P.d, .int .i64 P.e, .int .i64 P.r.k, .int .i64 P.r.e, .int .i64 P.r.w, .int .i64 P.r.n, .int .i64 P.r.q, .string P.r.t, .int .i64 P.r.p.s0, .int .i64 P.r.p.s1, .int .i64 P.r.p.s2, .int .i64 P.r.p.s3, .int .i64 P.r.p.s4, .int .i64 P.r.p.s5, .int .i64 P.r.p.s6, .int .i64 P.r.p.s7, .int .i64 P.r.p.s8, .int .i64 P.r.p.s9, .int .i64 P.r.p.s10, .int .i64 P.r.p.s11, .int .i64 P.m.k, .int .i64 P.m.e, .int .i64 P.m.s, .int .i64 P.m.u, .int .i64 P.m.v, .int .i64 P.m.t]) := rfl
    rw [HV.out]
    have S3 := hid (S2.out.step hf)
    clear hf S2 HV
    have HZb := hid (new1 w4 (.cells #[.int .i64 0, .int .i64 0, .int .i64 0, .int .i64 0, .int .i64 0, .int .i64 0, .int .i64 0, .string ⟨#[]⟩, .int .i64 0, .int .i64 0, .int .i64 0, .int .i64 0, .int .i64 0, .int .i64 0, .int .i64 0, .int .i64 0, .int .i64 0, .int .i64 0, .int .i64 0, .int .i64 0, .int .i64 0, .int .i64 0, .int .i64 0, .int .i64 0, .int .i64 0, .int .i64 0] 31))
    go_upto_region 6 with (refine wpList_store_row rfl 31 (.tmp 5) (.tmp 34) (by with_reducible rfl) w4.heap.size #[.int .i64 P.d, .int .i64 P.e, .int .i64 P.r.k, .int .i64 P.r.e, .int .i64 P.r.w, .int .i64 P.r.n, .int .i64 P.r.q, .string P.r.t, .int .i64 P.r.p.s0, .int .i64 P.r.p.s1, .int .i64 P.r.p.s2, .int .i64 P.r.p.s3, .int .i64 P.r.p.s4, .int .i64 P.r.p.s5, .int .i64 P.r.p.s6, .int .i64 P.r.p.s7, .int .i64 P.r.p.s8, .int .i64 P.r.p.s9, .int .i64 P.r.p.s10, .int .i64 P.r.p.s11, .int .i64 P.m.k, .int .i64 P.m.e, .int .i64 P.m.s, .int .i64 P.m.u, .int .i64 P.m.v, .int .i64 P.m.t] (by kernel_rfl) (by kernel_rfl) _ _ HZb.out (by kernel_rfl) (by rfl) (by simp [Value.oneCell']) ?_)
    have hfr := ((Frm.refl M0 w4).alloc (.cells #[.int .i64 0, .int .i64 0, .int .i64 0, .int .i64 0, .int .i64 0, .int .i64 0, .int .i64 0, .string ⟨#[]⟩, .int .i64 0, .int .i64 0, .int .i64 0, .int .i64 0, .int .i64 0, .int .i64 0, .int .i64 0, .int .i64 0, .int .i64 0, .int .i64 0, .int .i64 0, .int .i64 0, .int .i64 0, .int .i64 0, .int .i64 0, .int .i64 0, .int .i64 0, .int .i64 0] 31)).setRow w4.heap.size #[.int .i64 P.d, .int .i64 P.e, .int .i64 P.r.k, .int .i64 P.r.e, .int .i64 P.r.w, .int .i64 P.r.n, .int .i64 P.r.q, .string P.r.t, .int .i64 P.r.p.s0, .int .i64 P.r.p.s1, .int .i64 P.r.p.s2, .int .i64 P.r.p.s3, .int .i64 P.r.p.s4, .int .i64 P.r.p.s5, .int .i64 P.r.p.s6, .int .i64 P.r.p.s7, .int .i64 P.r.p.s8, .int .i64 P.r.p.s9, .int .i64 P.r.p.s10, .int .i64 P.r.p.s11, .int .i64 P.m.k, .int .i64 P.m.e, .int .i64 P.m.s, .int .i64 P.m.u, .int .i64 P.m.v, .int .i64 P.m.t] (Nat.le_refl _)
    have hPb := setRow_heap _ w4.heap.size _ #[.int .i64 P.d, .int .i64 P.e, .int .i64 P.r.k, .int .i64 P.r.e, .int .i64 P.r.w, .int .i64 P.r.n, .int .i64 P.r.q, .string P.r.t, .int .i64 P.r.p.s0, .int .i64 P.r.p.s1, .int .i64 P.r.p.s2, .int .i64 P.r.p.s3, .int .i64 P.r.p.s4, .int .i64 P.r.p.s5, .int .i64 P.r.p.s6, .int .i64 P.r.p.s7, .int .i64 P.r.p.s8, .int .i64 P.r.p.s9, .int .i64 P.r.p.s10, .int .i64 P.r.p.s11, .int .i64 P.m.k, .int .i64 P.m.e, .int .i64 P.m.s, .int .i64 P.m.u, .int .i64 P.m.v, .int .i64 P.m.t] _ _ HZb.out
    obtain ⟨b5, hblk⟩ : ∃ x, x = w4.heap.size := ⟨_, rfl⟩
    obtain ⟨w5, hwn⟩ : ∃ x, x = (w4.alloc (.cells #[.int .i64 0, .int .i64 0, .int .i64 0, .int .i64 0, .int .i64 0, .int .i64 0, .int .i64 0, .string ⟨#[]⟩, .int .i64 0, .int .i64 0, .int .i64 0, .int .i64 0, .int .i64 0, .int .i64 0, .int .i64 0, .int .i64 0, .int .i64 0, .int .i64 0, .int .i64 0, .int .i64 0, .int .i64 0, .int .i64 0, .int .i64 0, .int .i64 0, .int .i64 0, .int .i64 0] 31)).setRow w4.heap.size #[.int .i64 P.d, .int .i64 P.e, .int .i64 P.r.k, .int .i64 P.r.e, .int .i64 P.r.w, .int .i64 P.r.n, .int .i64 P.r.q, .string P.r.t, .int .i64 P.r.p.s0, .int .i64 P.r.p.s1, .int .i64 P.r.p.s2, .int .i64 P.r.p.s3, .int .i64 P.r.p.s4, .int .i64 P.r.p.s5, .int .i64 P.r.p.s6, .int .i64 P.r.p.s7, .int .i64 P.r.p.s8, .int .i64 P.r.p.s9, .int .i64 P.r.p.s10, .int .i64 P.r.p.s11, .int .i64 P.m.k, .int .i64 P.m.e, .int .i64 P.m.s, .int .i64 P.m.u, .int .i64 P.m.v, .int .i64 P.m.t] := ⟨_, rfl⟩
    rw [← hwn] at hfr hPb ⊢
    rw [← hblk] at hPb ⊢
    clear hwn hblk HZb
    have S4 := hid ((S3.out.step hfr).and (Sb.heap hPb (fun h => h)))
    clear hfr hPb S3
    go_wp2_with fail
    refine (tmessage_calls u _ (by have := HUS.out; omega) (HG.out.frm (S4.out.now.1.1))).mono ?_
    rintro _ w6 ⟨rfl, hf⟩
    rw [HM.out]
    simp only []
    have HV : Hid (m.val = .agg #[.int .i64 m.k, .int .i64 m.e, .int .i64 m.s, .int .i64 m.u, .int .i64 m.v, .int .i64 m.t]) := rfl
    rw [HV.out]
    have S5 := hid (S4.out.step hf)
    clear hf S4 HV
    have HZb := hid (new1 w6 (.cells #[.int .i64 0, .int .i64 0, .int .i64 0, .int .i64 0, .int .i64 0, .int .i64 0] 29))
    go_upto_region 7 with (refine wpList_store_row rfl 29 (.tmp 7) (.tmp 39) (by with_reducible rfl) w6.heap.size #[.int .i64 m.k, .int .i64 m.e, .int .i64 m.s, .int .i64 m.u, .int .i64 m.v, .int .i64 m.t] (by kernel_rfl) (by kernel_rfl) _ _ HZb.out (by kernel_rfl) (by rfl) (by simp [Value.oneCell']) ?_)
    have hfr := ((Frm.refl M0 w6).alloc (.cells #[.int .i64 0, .int .i64 0, .int .i64 0, .int .i64 0, .int .i64 0, .int .i64 0] 29)).setRow w6.heap.size #[.int .i64 m.k, .int .i64 m.e, .int .i64 m.s, .int .i64 m.u, .int .i64 m.v, .int .i64 m.t] (Nat.le_refl _)
    have hPb := setRow_heap _ w6.heap.size _ #[.int .i64 m.k, .int .i64 m.e, .int .i64 m.s, .int .i64 m.u, .int .i64 m.v, .int .i64 m.t] _ _ HZb.out
    obtain ⟨b7, hblk⟩ : ∃ x, x = w6.heap.size := ⟨_, rfl⟩
    obtain ⟨w7, hwn⟩ : ∃ x, x = (w6.alloc (.cells #[.int .i64 0, .int .i64 0, .int .i64 0, .int .i64 0, .int .i64 0, .int .i64 0] 29)).setRow w6.heap.size #[.int .i64 m.k, .int .i64 m.e, .int .i64 m.s, .int .i64 m.u, .int .i64 m.v, .int .i64 m.t] := ⟨_, rfl⟩
    rw [← hwn] at hfr hPb ⊢
    rw [← hblk] at hPb ⊢
    clear hwn hblk HZb
    have S6 := hid ((S5.out.step hfr).and (Sb.heap hPb (fun h => h)))
    clear hfr hPb S5
    go_wp2_with fail
    refine (rmessage_calls u _ (by have := HUS.out; omega) ).mono ?_
    rintro _ w8 ⟨rfl, hf⟩
    rw [HM.out]
    simp only []
    have HV : Hid (m.val = .agg #[.int .i64 m.k, .int .i64 m.e, .int .i64 m.s, .int .i64 m.u, .int .i64 m.v, .int .i64 m.t]) := rfl
    rw [HV.out]
    have S7 := hid (S6.out.step hf)
    clear hf S6 HV
    have HZb := hid (new1 w8 (.cells #[.int .i64 0, .int .i64 0, .int .i64 0, .int .i64 0, .int .i64 0, .int .i64 0] 29))
    go_upto_region 8 with (refine wpList_store_row rfl 29 (.tmp 9) (.tmp 44) (by with_reducible rfl) w8.heap.size #[.int .i64 m.k, .int .i64 m.e, .int .i64 m.s, .int .i64 m.u, .int .i64 m.v, .int .i64 m.t] (by kernel_rfl) (by kernel_rfl) _ _ HZb.out (by kernel_rfl) (by rfl) (by simp [Value.oneCell']) ?_)
    have hfr := ((Frm.refl M0 w8).alloc (.cells #[.int .i64 0, .int .i64 0, .int .i64 0, .int .i64 0, .int .i64 0, .int .i64 0] 29)).setRow w8.heap.size #[.int .i64 m.k, .int .i64 m.e, .int .i64 m.s, .int .i64 m.u, .int .i64 m.v, .int .i64 m.t] (Nat.le_refl _)
    have hPb := setRow_heap _ w8.heap.size _ #[.int .i64 m.k, .int .i64 m.e, .int .i64 m.s, .int .i64 m.u, .int .i64 m.v, .int .i64 m.t] _ _ HZb.out
    obtain ⟨b9, hblk⟩ : ∃ x, x = w8.heap.size := ⟨_, rfl⟩
    obtain ⟨w9, hwn⟩ : ∃ x, x = (w8.alloc (.cells #[.int .i64 0, .int .i64 0, .int .i64 0, .int .i64 0, .int .i64 0, .int .i64 0] 29)).setRow w8.heap.size #[.int .i64 m.k, .int .i64 m.e, .int .i64 m.s, .int .i64 m.u, .int .i64 m.v, .int .i64 m.t] := ⟨_, rfl⟩
    rw [← hwn] at hfr hPb ⊢
    rw [← hblk] at hPb ⊢
    clear hwn hblk HZb
    have S8 := hid ((S7.out.step hfr).and (Sb.heap hPb (fun h => h)))
    clear hfr hPb S7
    go_wp2_with fail
    refine (trecord_calls u _ (by have := HUS.out; omega) (HG.out.frm (S8.out.now.1.1.1.1))).mono ?_
    rintro _ w10 ⟨rfl, hf⟩
    rw [HR.out]
    simp only []
    have HV : Hid (r.val = .agg #[.int .i64 r.k, .int .i64 r.e, .int .i64 r.w, .int .i64 r.n, .int .i64 r.q, .string r.t, .int .i64 r.p.s0, .int .i64 r.p.s1, .int .i64 r.p.s2, .int .i64 r.p.s3, .int .i64 r.p.s4, .int .i64 r.p.s5, .int .i64 r.p.s6, .int .i64 r.p.s7, .int .i64 r.p.s8, .int .i64 r.p.s9, .int .i64 r.p.s10, .int .i64 r.p.s11]) := rfl
    rw [HV.out]
    have S9 := hid (S8.out.step hf)
    clear hf S8 HV
    have HZb := hid (new1 w10 (.cells #[.int .i64 0, .int .i64 0, .int .i64 0, .int .i64 0, .int .i64 0, .string ⟨#[]⟩, .int .i64 0, .int .i64 0, .int .i64 0, .int .i64 0, .int .i64 0, .int .i64 0, .int .i64 0, .int .i64 0, .int .i64 0, .int .i64 0, .int .i64 0, .int .i64 0] 27))
    go_upto_region 9 with (refine wpList_store_row rfl 27 (.tmp 11) (.tmp 49) (by with_reducible rfl) w10.heap.size #[.int .i64 r.k, .int .i64 r.e, .int .i64 r.w, .int .i64 r.n, .int .i64 r.q, .string r.t, .int .i64 r.p.s0, .int .i64 r.p.s1, .int .i64 r.p.s2, .int .i64 r.p.s3, .int .i64 r.p.s4, .int .i64 r.p.s5, .int .i64 r.p.s6, .int .i64 r.p.s7, .int .i64 r.p.s8, .int .i64 r.p.s9, .int .i64 r.p.s10, .int .i64 r.p.s11] (by kernel_rfl) (by kernel_rfl) _ _ HZb.out (by kernel_rfl) (by rfl) (by simp [Value.oneCell']) ?_)
    have hfr := ((Frm.refl M0 w10).alloc (.cells #[.int .i64 0, .int .i64 0, .int .i64 0, .int .i64 0, .int .i64 0, .string ⟨#[]⟩, .int .i64 0, .int .i64 0, .int .i64 0, .int .i64 0, .int .i64 0, .int .i64 0, .int .i64 0, .int .i64 0, .int .i64 0, .int .i64 0, .int .i64 0, .int .i64 0] 27)).setRow w10.heap.size #[.int .i64 r.k, .int .i64 r.e, .int .i64 r.w, .int .i64 r.n, .int .i64 r.q, .string r.t, .int .i64 r.p.s0, .int .i64 r.p.s1, .int .i64 r.p.s2, .int .i64 r.p.s3, .int .i64 r.p.s4, .int .i64 r.p.s5, .int .i64 r.p.s6, .int .i64 r.p.s7, .int .i64 r.p.s8, .int .i64 r.p.s9, .int .i64 r.p.s10, .int .i64 r.p.s11] (Nat.le_refl _)
    have hPb := setRow_heap _ w10.heap.size _ #[.int .i64 r.k, .int .i64 r.e, .int .i64 r.w, .int .i64 r.n, .int .i64 r.q, .string r.t, .int .i64 r.p.s0, .int .i64 r.p.s1, .int .i64 r.p.s2, .int .i64 r.p.s3, .int .i64 r.p.s4, .int .i64 r.p.s5, .int .i64 r.p.s6, .int .i64 r.p.s7, .int .i64 r.p.s8, .int .i64 r.p.s9, .int .i64 r.p.s10, .int .i64 r.p.s11] _ _ HZb.out
    obtain ⟨b11, hblk⟩ : ∃ x, x = w10.heap.size := ⟨_, rfl⟩
    obtain ⟨w11, hwn⟩ : ∃ x, x = (w10.alloc (.cells #[.int .i64 0, .int .i64 0, .int .i64 0, .int .i64 0, .int .i64 0, .string ⟨#[]⟩, .int .i64 0, .int .i64 0, .int .i64 0, .int .i64 0, .int .i64 0, .int .i64 0, .int .i64 0, .int .i64 0, .int .i64 0, .int .i64 0, .int .i64 0, .int .i64 0] 27)).setRow w10.heap.size #[.int .i64 r.k, .int .i64 r.e, .int .i64 r.w, .int .i64 r.n, .int .i64 r.q, .string r.t, .int .i64 r.p.s0, .int .i64 r.p.s1, .int .i64 r.p.s2, .int .i64 r.p.s3, .int .i64 r.p.s4, .int .i64 r.p.s5, .int .i64 r.p.s6, .int .i64 r.p.s7, .int .i64 r.p.s8, .int .i64 r.p.s9, .int .i64 r.p.s10, .int .i64 r.p.s11] := ⟨_, rfl⟩
    rw [← hwn] at hfr hPb ⊢
    rw [← hblk] at hPb ⊢
    clear hwn hblk HZb
    have S10 := hid ((S9.out.step hfr).and (Sb.heap hPb (fun h => h)))
    clear hfr hPb S9
    go_wp2_with fail
    refine (rrecord_calls u _ (by have := HUS.out; omega) ).mono ?_
    rintro _ w12 ⟨rfl, hf⟩
    rw [HR.out]
    simp only []
    have HV : Hid (r.val = .agg #[.int .i64 r.k, .int .i64 r.e, .int .i64 r.w, .int .i64 r.n, .int .i64 r.q, .string r.t, .int .i64 r.p.s0, .int .i64 r.p.s1, .int .i64 r.p.s2, .int .i64 r.p.s3, .int .i64 r.p.s4, .int .i64 r.p.s5, .int .i64 r.p.s6, .int .i64 r.p.s7, .int .i64 r.p.s8, .int .i64 r.p.s9, .int .i64 r.p.s10, .int .i64 r.p.s11]) := rfl
    rw [HV.out]
    have S11 := hid (S10.out.step hf)
    clear hf S10 HV
    have HZb := hid (new1 w12 (.cells #[.int .i64 0, .int .i64 0, .int .i64 0, .int .i64 0, .int .i64 0, .string ⟨#[]⟩, .int .i64 0, .int .i64 0, .int .i64 0, .int .i64 0, .int .i64 0, .int .i64 0, .int .i64 0, .int .i64 0, .int .i64 0, .int .i64 0, .int .i64 0, .int .i64 0] 27))
    go_upto_region 10 with (refine wpList_store_row rfl 27 (.tmp 13) (.tmp 54) (by with_reducible rfl) w12.heap.size #[.int .i64 r.k, .int .i64 r.e, .int .i64 r.w, .int .i64 r.n, .int .i64 r.q, .string r.t, .int .i64 r.p.s0, .int .i64 r.p.s1, .int .i64 r.p.s2, .int .i64 r.p.s3, .int .i64 r.p.s4, .int .i64 r.p.s5, .int .i64 r.p.s6, .int .i64 r.p.s7, .int .i64 r.p.s8, .int .i64 r.p.s9, .int .i64 r.p.s10, .int .i64 r.p.s11] (by kernel_rfl) (by kernel_rfl) _ _ HZb.out (by kernel_rfl) (by rfl) (by simp [Value.oneCell']) ?_)
    have hfr := ((Frm.refl M0 w12).alloc (.cells #[.int .i64 0, .int .i64 0, .int .i64 0, .int .i64 0, .int .i64 0, .string ⟨#[]⟩, .int .i64 0, .int .i64 0, .int .i64 0, .int .i64 0, .int .i64 0, .int .i64 0, .int .i64 0, .int .i64 0, .int .i64 0, .int .i64 0, .int .i64 0, .int .i64 0] 27)).setRow w12.heap.size #[.int .i64 r.k, .int .i64 r.e, .int .i64 r.w, .int .i64 r.n, .int .i64 r.q, .string r.t, .int .i64 r.p.s0, .int .i64 r.p.s1, .int .i64 r.p.s2, .int .i64 r.p.s3, .int .i64 r.p.s4, .int .i64 r.p.s5, .int .i64 r.p.s6, .int .i64 r.p.s7, .int .i64 r.p.s8, .int .i64 r.p.s9, .int .i64 r.p.s10, .int .i64 r.p.s11] (Nat.le_refl _)
    have hPb := setRow_heap _ w12.heap.size _ #[.int .i64 r.k, .int .i64 r.e, .int .i64 r.w, .int .i64 r.n, .int .i64 r.q, .string r.t, .int .i64 r.p.s0, .int .i64 r.p.s1, .int .i64 r.p.s2, .int .i64 r.p.s3, .int .i64 r.p.s4, .int .i64 r.p.s5, .int .i64 r.p.s6, .int .i64 r.p.s7, .int .i64 r.p.s8, .int .i64 r.p.s9, .int .i64 r.p.s10, .int .i64 r.p.s11] _ _ HZb.out
    obtain ⟨b13, hblk⟩ : ∃ x, x = w12.heap.size := ⟨_, rfl⟩
    obtain ⟨w13, hwn⟩ : ∃ x, x = (w12.alloc (.cells #[.int .i64 0, .int .i64 0, .int .i64 0, .int .i64 0, .int .i64 0, .string ⟨#[]⟩, .int .i64 0, .int .i64 0, .int .i64 0, .int .i64 0, .int .i64 0, .int .i64 0, .int .i64 0, .int .i64 0, .int .i64 0, .int .i64 0, .int .i64 0, .int .i64 0] 27)).setRow w12.heap.size #[.int .i64 r.k, .int .i64 r.e, .int .i64 r.w, .int .i64 r.n, .int .i64 r.q, .string r.t, .int .i64 r.p.s0, .int .i64 r.p.s1, .int .i64 r.p.s2, .int .i64 r.p.s3, .int .i64 r.p.s4, .int .i64 r.p.s5, .int .i64 r.p.s6, .int .i64 r.p.s7, .int .i64 r.p.s8, .int .i64 r.p.s9, .int .i64 r.p.s10, .int .i64 r.p.s11] := ⟨_, rfl⟩
    rw [← hwn] at hfr hPb ⊢
    rw [← hblk] at hPb ⊢
    clear hwn hblk HZb
    have S12 := hid ((S11.out.step hfr).and (Sb.heap hPb (fun h => h)))
    clear hfr hPb S11
    go_wp2_with fail
    refine (errno_calls u _).mono ?_
    rintro _ w14 ⟨rfl, hf⟩
    rw [HQ.out]
    simp only []
    have S13 := hid (S12.out.step hf)
    clear hf S12
    go_wp2_with fail
    refine (rerrno_calls u _).mono ?_
    rintro _ w15 ⟨rfl, hf⟩
    rw [HQ.out]
    simp only []
    have S14 := hid (S13.out.step hf)
    clear hf S13
    go_upto_region 12 with fail
    have hqo : oeq ⟨P.d, P.e, ⟨P.r.k, P.r.e, P.r.w, P.r.n, P.r.q, P.r.t, ⟨P.r.p.s0, P.r.p.s1, P.r.p.s2, P.r.p.s3, P.r.p.s4, P.r.p.s5, P.r.p.s6, P.r.p.s7, P.r.p.s8, P.r.p.s9, P.r.p.s10, P.r.p.s11⟩⟩, ⟨P.m.k, P.m.e, P.m.s, P.m.u, P.m.v, P.m.t⟩⟩ ⟨P.d, P.e, ⟨P.r.k, P.r.e, P.r.w, P.r.n, P.r.q, P.r.t, ⟨P.r.p.s0, P.r.p.s1, P.r.p.s2, P.r.p.s3, P.r.p.s4, P.r.p.s5, P.r.p.s6, P.r.p.s7, P.r.p.s8, P.r.p.s9, P.r.p.s10, P.r.p.s11⟩⟩, ⟨P.m.k, P.m.e, P.m.s, P.m.u, P.m.v, P.m.t⟩⟩ = true := by unfold oeq; exact decide_eq_true rfl
    have hqm : meq ⟨m.k, m.e, m.s, m.u, m.v, m.t⟩ ⟨m.k, m.e, m.s, m.u, m.v, m.t⟩ = true := by unfold meq; exact decide_eq_true rfl
    have hqr : req ⟨r.k, r.e, r.w, r.n, r.q, r.t, ⟨r.p.s0, r.p.s1, r.p.s2, r.p.s3, r.p.s4, r.p.s5, r.p.s6, r.p.s7, r.p.s8, r.p.s9, r.p.s10, r.p.s11⟩⟩ ⟨r.k, r.e, r.w, r.n, r.q, r.t, ⟨r.p.s0, r.p.s1, r.p.s2, r.p.s3, r.p.s4, r.p.s5, r.p.s6, r.p.s7, r.p.s8, r.p.s9, r.p.s10, r.p.s11⟩⟩ = true := by unfold req; exact decide_eq_true rfl
    apply wp_region_N 38 (valsL ((.agg #[.int .i64 P.d, .int .i64 P.e, .int .i64 P.r.k, .int .i64 P.r.e, .int .i64 P.r.w, .int .i64 P.r.n, .int .i64 P.r.q, .string P.r.t, .int .i64 P.r.p.s0, .int .i64 P.r.p.s1, .int .i64 P.r.p.s2, .int .i64 P.r.p.s3, .int .i64 P.r.p.s4, .int .i64 P.r.p.s5, .int .i64 P.r.p.s6, .int .i64 P.r.p.s7, .int .i64 P.r.p.s8, .int .i64 P.r.p.s9, .int .i64 P.r.p.s10, .int .i64 P.r.p.s11, .int .i64 P.m.k, .int .i64 P.m.e, .int .i64 P.m.s, .int .i64 P.m.u, .int .i64 P.m.v, .int .i64 P.m.t]) :: (.agg #[.int .i64 P.d, .int .i64 P.e, .int .i64 P.r.k, .int .i64 P.r.e, .int .i64 P.r.w, .int .i64 P.r.n, .int .i64 P.r.q, .string P.r.t, .int .i64 P.r.p.s0, .int .i64 P.r.p.s1, .int .i64 P.r.p.s2, .int .i64 P.r.p.s3, .int .i64 P.r.p.s4, .int .i64 P.r.p.s5, .int .i64 P.r.p.s6, .int .i64 P.r.p.s7, .int .i64 P.r.p.s8, .int .i64 P.r.p.s9, .int .i64 P.r.p.s10, .int .i64 P.r.p.s11, .int .i64 P.m.k, .int .i64 P.m.e, .int .i64 P.m.s, .int .i64 P.m.u, .int .i64 P.m.v, .int .i64 P.m.t]) :: _ :: _ :: _ :: _ :: _ :: _ :: _ :: (.agg #[.int .i64 m.k, .int .i64 m.e, .int .i64 m.s, .int .i64 m.u, .int .i64 m.v, .int .i64 m.t]) :: (.agg #[.int .i64 m.k, .int .i64 m.e, .int .i64 m.s, .int .i64 m.u, .int .i64 m.v, .int .i64 m.t]) :: _ :: _ :: _ :: _ :: _ :: _ :: _ :: _ :: (.agg #[.int .i64 r.k, .int .i64 r.e, .int .i64 r.w, .int .i64 r.n, .int .i64 r.q, .string r.t, .int .i64 r.p.s0, .int .i64 r.p.s1, .int .i64 r.p.s2, .int .i64 r.p.s3, .int .i64 r.p.s4, .int .i64 r.p.s5, .int .i64 r.p.s6, .int .i64 r.p.s7, .int .i64 r.p.s8, .int .i64 r.p.s9, .int .i64 r.p.s10, .int .i64 r.p.s11]) :: (.agg #[.int .i64 r.k, .int .i64 r.e, .int .i64 r.w, .int .i64 r.n, .int .i64 r.q, .string r.t, .int .i64 r.p.s0, .int .i64 r.p.s1, .int .i64 r.p.s2, .int .i64 r.p.s3, .int .i64 r.p.s4, .int .i64 r.p.s5, .int .i64 r.p.s6, .int .i64 r.p.s7, .int .i64 r.p.s8, .int .i64 r.p.s9, .int .i64 r.p.s10, .int .i64 r.p.s11]) :: _ :: _ :: _ :: _ :: _ :: _ :: _ :: _ :: _ :: _ :: _ :: _ :: _ :: _ :: _ :: _ :: _ :: [])) ?hB1 ?main1
    case hB1 => kernel_rfl
    rotate_left 32
    intro ops QT HO HQ
    obtain ⟨ho0, HO⟩ := HO
    refine wpG_v ho0.out rfl ?_ ?_
    · simp only [valsL_zero, valsL_succ]; apply FY_in rfl; intro wx hx
      exact fu_load_row_g 35 (.tmp 3) rfl (b3) (by kernel_rfl) _ _ _ _ ((S14.out wx hx).1.1.1.1.1.2) Tryz.underlying35 rfl (by kernel_rfl)
    simp only [Act.put, List.setIfInBounds_toArray, List.set_cons_zero, List.set_cons_succ, valsL_zero, valsL_succ]
    obtain ⟨ho1, HO⟩ := HO
    refine wpG_v ho1.out rfl ?_ ?_
    · simp only [valsL_zero, valsL_succ]; apply FY_in rfl; intro wx hx
      exact fu_load_row_g 31 (.tmp 5) rfl (b5) (by kernel_rfl) _ _ _ _ ((S14.out wx hx).1.1.1.1.2) Tryz.underlying31 rfl (by kernel_rfl)
    simp only [Act.put, List.setIfInBounds_toArray, List.set_cons_zero, List.set_cons_succ, valsL_zero, valsL_succ]
    obtain ⟨ho2, HO⟩ := HO
    refine wpG_v ho2.out rfl ?_ ?_
    · simp only [valsL_zero, valsL_succ]; apply FY_in rfl; intro wx hx
      go_simp
      exact ⟨rfl, rfl⟩
    simp only [Act.put, List.setIfInBounds_toArray, List.set_cons_zero, List.set_cons_succ, valsL_zero, valsL_succ]
    obtain ⟨ho3, HO⟩ := HO
    refine wpG_v ho3.out rfl ?_ ?_
    · simp only [valsL_zero, valsL_succ]; apply FY_in rfl; intro wx hx
      go_simp
      exact ⟨rfl, rfl⟩
    simp only [Act.put, List.setIfInBounds_toArray, List.set_cons_zero, List.set_cons_succ, valsL_zero, valsL_succ]
    obtain ⟨ho4, HO⟩ := HO
    refine wpG_v ho4.out rfl ?_ ?_
    · simp only [valsL_zero, valsL_succ]; apply FY_yes (d := 69) rfl ho3.out (by rfl) (by kernel_rfl); intro wx hx
      go_simp
      exact ⟨rfl, rfl⟩
    simp only [Act.put, List.setIfInBounds_toArray, List.set_cons_zero, List.set_cons_succ, valsL_zero, valsL_succ]
    obtain ⟨ho5, HO⟩ := HO
    refine wpG_v ho5.out rfl ?_ ?_
    · simp only [valsL_zero, valsL_succ]; apply FY_yes (d := 69) rfl ho3.out (by rfl) (by kernel_rfl); intro wx hx
      go_simp
      exact ⟨rfl, rfl⟩
    simp only [Act.put, List.setIfInBounds_toArray, List.set_cons_zero, List.set_cons_succ, valsL_zero, valsL_succ]
    obtain ⟨ho6, HO⟩ := HO
    refine wpG_v ho6.out rfl ?_ ?_
    · simp only [valsL_zero, valsL_succ]; apply FY_yes (d := 69) rfl ho3.out (by rfl) (by kernel_rfl); intro wx hx
      go_simp
      exact ⟨rfl, rfl⟩
    simp only [Act.put, List.setIfInBounds_toArray, List.set_cons_zero, List.set_cons_succ, valsL_zero, valsL_succ]
    obtain ⟨ho7, HO⟩ := HO
    refine wpG_v ho7.out rfl ?_ ?_
    · simp only [valsL_zero, valsL_succ]; apply FY_in rfl; intro wx hx
      go_simp
      exact ⟨rfl, rfl⟩
    simp only [Act.put, List.setIfInBounds_toArray, List.set_cons_zero, List.set_cons_succ, valsL_zero, valsL_succ]
    obtain ⟨ho8, HO⟩ := HO
    refine wpG_v ho8.out rfl ?_ ?_
    · simp only [valsL_zero, valsL_succ]; apply FY_in rfl; intro wx hx
      go_simp
      exact ⟨rfl, rfl⟩
    simp only [Act.put, List.setIfInBounds_toArray, List.set_cons_zero, List.set_cons_succ, valsL_zero, valsL_succ]
    obtain ⟨ho9, HO⟩ := HO
    refine wpG_v ho9.out rfl ?_ ?_
    · simp only [valsL_zero, valsL_succ]; apply FY_yes (d := 74) rfl ho8.out (by rfl) (by kernel_rfl); intro wx hx
      exact fu_load_row_g 29 (.tmp 7) rfl (b7) (by kernel_rfl) _ _ _ _ ((S14.out wx hx).1.1.1.2) Tryz.underlying29 rfl (by kernel_rfl)
    simp only [Act.put, List.setIfInBounds_toArray, List.set_cons_zero, List.set_cons_succ, valsL_zero, valsL_succ]
    obtain ⟨ho10, HO⟩ := HO
    refine wpG_v ho10.out rfl ?_ ?_
    · simp only [valsL_zero, valsL_succ]; apply FY_yes (d := 74) rfl ho8.out (by rfl) (by kernel_rfl); intro wx hx
      exact fu_load_row_g 29 (.tmp 9) rfl (b9) (by kernel_rfl) _ _ _ _ ((S14.out wx hx).1.1.2) Tryz.underlying29 rfl (by kernel_rfl)
    simp only [Act.put, List.setIfInBounds_toArray, List.set_cons_zero, List.set_cons_succ, valsL_zero, valsL_succ]
    obtain ⟨ho11, HO⟩ := HO
    refine wpG_v ho11.out rfl ?_ ?_
    · simp only [valsL_zero, valsL_succ]; apply FY_yes (d := 74) rfl ho8.out (by rfl) (by kernel_rfl); intro wx hx
      go_simp
      exact ⟨rfl, rfl⟩
    simp only [Act.put, List.setIfInBounds_toArray, List.set_cons_zero, List.set_cons_succ, valsL_zero, valsL_succ]
    obtain ⟨ho12, HO⟩ := HO
    refine wpG_v ho12.out rfl ?_ ?_
    · simp only [valsL_zero, valsL_succ]; apply FY_in rfl; intro wx hx
      go_simp
      exact ⟨rfl, rfl⟩
    simp only [Act.put, List.setIfInBounds_toArray, List.set_cons_zero, List.set_cons_succ, valsL_zero, valsL_succ]
    obtain ⟨ho13, HO⟩ := HO
    refine wpG_v ho13.out rfl ?_ ?_
    · simp only [valsL_zero, valsL_succ]; apply FY_in rfl; intro wx hx
      go_simp
      exact ⟨rfl, rfl⟩
    simp only [Act.put, List.setIfInBounds_toArray, List.set_cons_zero, List.set_cons_succ, valsL_zero, valsL_succ]
    obtain ⟨ho14, HO⟩ := HO
    refine wpG_v ho14.out rfl ?_ ?_
    · simp only [valsL_zero, valsL_succ]; apply FY_yes (d := 79) rfl ho13.out (by rfl) (by kernel_rfl); intro wx hx
      go_simp
      exact ⟨rfl, rfl⟩
    simp only [Act.put, List.setIfInBounds_toArray, List.set_cons_zero, List.set_cons_succ, valsL_zero, valsL_succ]
    obtain ⟨ho15, HO⟩ := HO
    refine wpG_v ho15.out rfl ?_ ?_
    · simp only [valsL_zero, valsL_succ]; apply FY_yes (d := 79) rfl ho13.out (by rfl) (by kernel_rfl); intro wx hx
      go_simp
      exact ⟨rfl, rfl⟩
    simp only [Act.put, List.setIfInBounds_toArray, List.set_cons_zero, List.set_cons_succ, valsL_zero, valsL_succ]
    obtain ⟨ho16, HO⟩ := HO
    refine wpG_v ho16.out rfl ?_ ?_
    · simp only [valsL_zero, valsL_succ]; apply FY_yes (d := 79) rfl ho13.out (by rfl) (by kernel_rfl); intro wx hx
      go_simp
      exact ⟨rfl, rfl⟩
    simp only [Act.put, List.setIfInBounds_toArray, List.set_cons_zero, List.set_cons_succ, valsL_zero, valsL_succ]
    obtain ⟨ho17, HO⟩ := HO
    refine wpG_v ho17.out rfl ?_ ?_
    · simp only [valsL_zero, valsL_succ]; apply FY_in rfl; intro wx hx
      go_simp
      exact ⟨rfl, rfl⟩
    simp only [Act.put, List.setIfInBounds_toArray, List.set_cons_zero, List.set_cons_succ, valsL_zero, valsL_succ]
    obtain ⟨ho18, HO⟩ := HO
    refine wpG_v ho18.out rfl ?_ ?_
    · simp only [valsL_zero, valsL_succ]; apply FY_in rfl; intro wx hx
      go_simp
      exact ⟨rfl, rfl⟩
    simp only [Act.put, List.setIfInBounds_toArray, List.set_cons_zero, List.set_cons_succ, valsL_zero, valsL_succ]
    obtain ⟨ho19, HO⟩ := HO
    refine wpG_v ho19.out rfl ?_ ?_
    · simp only [valsL_zero, valsL_succ]; apply FY_yes (d := 84) rfl ho18.out (by rfl) (by kernel_rfl); intro wx hx
      exact fu_load_row_g 27 (.tmp 11) rfl (b11) (by kernel_rfl) _ _ _ _ ((S14.out wx hx).1.2) Tryz.underlying27 rfl (by kernel_rfl)
    simp only [Act.put, List.setIfInBounds_toArray, List.set_cons_zero, List.set_cons_succ, valsL_zero, valsL_succ]
    obtain ⟨ho20, HO⟩ := HO
    refine wpG_v ho20.out rfl ?_ ?_
    · simp only [valsL_zero, valsL_succ]; apply FY_yes (d := 84) rfl ho18.out (by rfl) (by kernel_rfl); intro wx hx
      exact fu_load_row_g 27 (.tmp 13) rfl (b13) (by kernel_rfl) _ _ _ _ ((S14.out wx hx).2) Tryz.underlying27 rfl (by kernel_rfl)
    simp only [Act.put, List.setIfInBounds_toArray, List.set_cons_zero, List.set_cons_succ, valsL_zero, valsL_succ]
    obtain ⟨ho21, HO⟩ := HO
    refine wpG_v ho21.out rfl ?_ ?_
    · simp only [valsL_zero, valsL_succ]; apply FY_yes (d := 84) rfl ho18.out (by rfl) (by kernel_rfl); intro wx hx
      go_simp
      exact ⟨rfl, rfl⟩
    simp only [Act.put, List.setIfInBounds_toArray, List.set_cons_zero, List.set_cons_succ, valsL_zero, valsL_succ]
    obtain ⟨ho22, HO⟩ := HO
    refine wpG_v ho22.out rfl ?_ ?_
    · simp only [valsL_zero, valsL_succ]; apply FY_in rfl; intro wx hx
      go_simp
      exact ⟨rfl, rfl⟩
    simp only [Act.put, List.setIfInBounds_toArray, List.set_cons_zero, List.set_cons_succ, valsL_zero, valsL_succ]
    obtain ⟨ho23, HO⟩ := HO
    refine wpG_v ho23.out rfl ?_ ?_
    · simp only [valsL_zero, valsL_succ]; apply FY_in rfl; intro wx hx
      go_simp
      exact ⟨rfl, rfl⟩
    simp only [Act.put, List.setIfInBounds_toArray, List.set_cons_zero, List.set_cons_succ, valsL_zero, valsL_succ]
    obtain ⟨ho24, HO⟩ := HO
    refine wpG_v ho24.out rfl ?_ ?_
    · simp only [valsL_zero, valsL_succ]; apply FY_yes (d := 89) rfl ho23.out (by rfl) (by kernel_rfl); intro wx hx
      go_simp
      exact ⟨rfl, rfl⟩
    simp only [Act.put, List.setIfInBounds_toArray, List.set_cons_zero, List.set_cons_succ, valsL_zero, valsL_succ]
    obtain ⟨ho25, HO⟩ := HO
    refine wpG_v ho25.out rfl ?_ ?_
    · simp only [valsL_zero, valsL_succ]; apply FY_yes (d := 89) rfl ho23.out (by rfl) (by kernel_rfl); intro wx hx
      go_simp
      exact ⟨rfl, rfl⟩
    simp only [Act.put, List.setIfInBounds_toArray, List.set_cons_zero, List.set_cons_succ, valsL_zero, valsL_succ]
    obtain ⟨ho26, HO⟩ := HO
    refine wpG_v ho26.out rfl ?_ ?_
    · simp only [valsL_zero, valsL_succ]; apply FY_yes (d := 89) rfl ho23.out (by rfl) (by kernel_rfl); intro wx hx
      go_simp
      exact ⟨rfl, rfl⟩
    simp only [Act.put, List.setIfInBounds_toArray, List.set_cons_zero, List.set_cons_succ, valsL_zero, valsL_succ]
    obtain ⟨ho27, HO⟩ := HO
    refine wpG_v ho27.out rfl ?_ ?_
    · simp only [valsL_zero, valsL_succ]; apply FY_in rfl; intro wx hx
      go_simp
      exact ⟨rfl, rfl⟩
    simp only [Act.put, List.setIfInBounds_toArray, List.set_cons_zero, List.set_cons_succ, valsL_zero, valsL_succ]
    obtain ⟨ho28, HO⟩ := HO
    refine wpG_v ho28.out rfl ?_ ?_
    · simp only [valsL_zero, valsL_succ]; apply FY_in rfl; intro wx hx
      go_simp
      exact ⟨rfl, rfl⟩
    simp only [Act.put, List.setIfInBounds_toArray, List.set_cons_zero, List.set_cons_succ, valsL_zero, valsL_succ]
    obtain ⟨ho29, HO⟩ := HO
    refine wpG_v ho29.out rfl ?_ ?_
    · simp only [valsL_zero, valsL_succ]; apply FY_yes (d := 94) rfl ho28.out (by rfl) (by kernel_rfl); intro wx hx
      go_simp
      exact ⟨rfl, rfl⟩
    simp only [Act.put, List.setIfInBounds_toArray, List.set_cons_zero, List.set_cons_succ, valsL_zero, valsL_succ]
    obtain ⟨ho30, HO⟩ := HO
    refine wpG_v ho30.out rfl ?_ ?_
    · simp only [valsL_zero, valsL_succ]; apply FY_yes (d := 94) rfl ho28.out (by rfl) (by kernel_rfl); intro wx hx
      go_simp
      exact ⟨rfl, rfl⟩
    simp only [Act.put, List.setIfInBounds_toArray, List.set_cons_zero, List.set_cons_succ, valsL_zero, valsL_succ]
    obtain ⟨ho31, HO⟩ := HO
    refine wpG_v ho31.out rfl ?_ ?_
    · simp only [valsL_zero, valsL_succ]; apply FY_yes (d := 94) rfl ho28.out (by rfl) (by kernel_rfl); intro wx hx
      go_simp
      exact ⟨rfl, rfl⟩
    simp only [Act.put, List.setIfInBounds_toArray, List.set_cons_zero, List.set_cons_succ, valsL_zero, valsL_succ]
    obtain ⟨ho32, HO⟩ := HO
    refine wpG_v ho32.out rfl ?_ ?_
    · simp only [valsL_zero, valsL_succ]; apply FY_in rfl; intro wx hx
      go_simp
      exact ⟨rfl, rfl⟩
    simp only [Act.put, List.setIfInBounds_toArray, List.set_cons_zero, List.set_cons_succ, valsL_zero, valsL_succ]
    obtain ⟨ho33, HO⟩ := HO
    refine wpG_v ho33.out rfl ?_ ?_
    · simp only [valsL_zero, valsL_succ]; apply FY_in rfl; intro wx hx
      go_simp
      exact ⟨rfl, rfl⟩
    simp only [Act.put, List.setIfInBounds_toArray, List.set_cons_zero, List.set_cons_succ, valsL_zero, valsL_succ]
    obtain ⟨ho34, HO⟩ := HO
    refine wpG_v ho34.out rfl ?_ ?_
    · simp only [valsL_zero, valsL_succ]; apply FY_yes (d := 99) rfl ho33.out (by rfl) (by kernel_rfl); intro wx hx
      go_simp
      exact ⟨rfl, rfl⟩
    simp only [Act.put, List.setIfInBounds_toArray, List.set_cons_zero, List.set_cons_succ, valsL_zero, valsL_succ]
    obtain ⟨ho35, HO⟩ := HO
    refine wpG_v ho35.out rfl ?_ ?_
    · simp only [valsL_zero, valsL_succ]; apply FY_yes (d := 99) rfl ho33.out (by rfl) (by kernel_rfl); intro wx hx
      go_simp
      exact ⟨rfl, rfl⟩
    simp only [Act.put, List.setIfInBounds_toArray, List.set_cons_zero, List.set_cons_succ, valsL_zero, valsL_succ]
    obtain ⟨ho36, HO⟩ := HO
    refine wpG_v ho36.out rfl ?_ ?_
    · simp only [valsL_zero, valsL_succ]; apply FY_yes (d := 99) rfl ho33.out (by rfl) (by kernel_rfl); intro wx hx
      go_simp
      exact ⟨rfl, rfl⟩
    simp only [Act.put, List.setIfInBounds_toArray, List.set_cons_zero, List.set_cons_succ, valsL_zero, valsL_succ]
    obtain ⟨ho37, HO⟩ := HO
    refine wpG_v ho37.out rfl ?_ ?_
    · simp only [valsL_zero, valsL_succ]; apply FY_in rfl; intro wx hx
      go_simp
      exact ⟨rfl, rfl⟩
    simp only [Act.put, List.setIfInBounds_toArray, List.set_cons_zero, List.set_cons_succ, valsL_zero, valsL_succ]
    refine HQ.out _ _ ?_
    intro wr hf
    simp only [List.drop_succ_cons, List.drop_zero]
    clear HQ HO ho0 ho1 ho2 ho3 ho4 ho5 ho6 ho7 ho8 ho9 ho10 ho11 ho12 ho13 ho14 ho15 ho16 ho17 ho18 ho19 ho20 ho21 ho22 ho23 ho24 ho25 ho26 ho27 ho28 ho29 ho30 ho31 ho32 ho33 ho34 ho35 ho36 ho37
    have SE := hid (S14.out.step hf)
    clear hf
    go_wp2_with fail
    go_ret
    exact ⟨by first | rfl | simp, SE.out.now.1.1.1.1.1.1.below⟩
  · have h1 : min (t.size : Int) 250 = 250 := by omega
    have h2 : 250 ≤ t.size := by omega
    have hus : (t.extract 0 250).size ≤ 250 := by rw [ByteArray.size_extract]; omega
    obtain ⟨u, hu⟩ : ∃ u, u = (t.extract 0 250) := ⟨_, rfl⟩
    have HUS : Hid (u.size ≤ 250) := hid (by rw [hu]; exact hus)
    clear h hus
    obtain ⟨⟨P, e⟩, HP⟩ : ∃ g, Hid (parF u = g) := ⟨_, rfl⟩
    obtain ⟨⟨m, f⟩, HM⟩ : ∃ g, Hid (msgF u = g) := ⟨_, rfl⟩
    obtain ⟨⟨r, g⟩, HR⟩ : ∃ g, Hid (recF u = g) := ⟨_, rfl⟩
    obtain ⟨⟨q1, q2⟩, HQ⟩ : ∃ g, Hid (errnoF u = g) := ⟨_, rfl⟩
    go_enter Tryz.func4, Tryz.ntmps4
    go_wp2_with fail
    refine (tlives_calls W HG.out).mono ?_
    rintro _ w1 ⟨rfl, hf⟩
    have S0 : Hid (Sb M0 w1 fun x => Frm M0 W x) := hid (Sb.frm hf)
    clear hf
    go_wp2_with fail
    rw [← hu]
    clear hu h1 h2
    refine (tparse_calls u _ (by have := HUS.out; omega) (HG.out.frm (S0.out.now))).mono ?_
    rintro _ w2 ⟨rfl, hf⟩
    rw [HP.out]
    simp only []
    have HV : Hid (P.val = .agg #[.int .i64 P.d, .int .i64 P.e, .int .i64 P.r.k, .int .i64 P.r.e, .int .i64 P.r.w, .int .i64 P.r.n, .int .i64 P.r.q, .string P.r.t, .int .i64 P.r.p.s0, .int .i64 P.r.p.s1, .int .i64 P.r.p.s2, .int .i64 P.r.p.s3, .int .i64 P.r.p.s4, .int .i64 P.r.p.s5, .int .i64 P.r.p.s6, .int .i64 P.r.p.s7, .int .i64 P.r.p.s8, .int .i64 P.r.p.s9, .int .i64 P.r.p.s10, .int .i64 P.r.p.s11, .int .i64 P.m.k, .int .i64 P.m.e, .int .i64 P.m.s, .int .i64 P.m.u, .int .i64 P.m.v, .int .i64 P.m.t]) := rfl
    rw [HV.out]
    have S1 := hid (S0.out.step hf)
    clear hf S0 HV
    have HZb := hid (new1 w2 (.cells #[.int .i64 0, .int .i64 0, .int .i64 0, .int .i64 0, .int .i64 0, .int .i64 0, .int .i64 0, .string ⟨#[]⟩, .int .i64 0, .int .i64 0, .int .i64 0, .int .i64 0, .int .i64 0, .int .i64 0, .int .i64 0, .int .i64 0, .int .i64 0, .int .i64 0, .int .i64 0, .int .i64 0, .int .i64 0, .int .i64 0, .int .i64 0, .int .i64 0, .int .i64 0, .int .i64 0] 35))
    go_upto_region 5 with (refine wpList_store_row rfl 35 (.tmp 3) (.tmp 29) (by with_reducible rfl) w2.heap.size #[.int .i64 P.d, .int .i64 P.e, .int .i64 P.r.k, .int .i64 P.r.e, .int .i64 P.r.w, .int .i64 P.r.n, .int .i64 P.r.q, .string P.r.t, .int .i64 P.r.p.s0, .int .i64 P.r.p.s1, .int .i64 P.r.p.s2, .int .i64 P.r.p.s3, .int .i64 P.r.p.s4, .int .i64 P.r.p.s5, .int .i64 P.r.p.s6, .int .i64 P.r.p.s7, .int .i64 P.r.p.s8, .int .i64 P.r.p.s9, .int .i64 P.r.p.s10, .int .i64 P.r.p.s11, .int .i64 P.m.k, .int .i64 P.m.e, .int .i64 P.m.s, .int .i64 P.m.u, .int .i64 P.m.v, .int .i64 P.m.t] (by kernel_rfl) (by kernel_rfl) _ _ HZb.out (by kernel_rfl) (by rfl) (by simp [Value.oneCell']) ?_)
    have hfr := ((Frm.refl M0 w2).alloc (.cells #[.int .i64 0, .int .i64 0, .int .i64 0, .int .i64 0, .int .i64 0, .int .i64 0, .int .i64 0, .string ⟨#[]⟩, .int .i64 0, .int .i64 0, .int .i64 0, .int .i64 0, .int .i64 0, .int .i64 0, .int .i64 0, .int .i64 0, .int .i64 0, .int .i64 0, .int .i64 0, .int .i64 0, .int .i64 0, .int .i64 0, .int .i64 0, .int .i64 0, .int .i64 0, .int .i64 0] 35)).setRow w2.heap.size #[.int .i64 P.d, .int .i64 P.e, .int .i64 P.r.k, .int .i64 P.r.e, .int .i64 P.r.w, .int .i64 P.r.n, .int .i64 P.r.q, .string P.r.t, .int .i64 P.r.p.s0, .int .i64 P.r.p.s1, .int .i64 P.r.p.s2, .int .i64 P.r.p.s3, .int .i64 P.r.p.s4, .int .i64 P.r.p.s5, .int .i64 P.r.p.s6, .int .i64 P.r.p.s7, .int .i64 P.r.p.s8, .int .i64 P.r.p.s9, .int .i64 P.r.p.s10, .int .i64 P.r.p.s11, .int .i64 P.m.k, .int .i64 P.m.e, .int .i64 P.m.s, .int .i64 P.m.u, .int .i64 P.m.v, .int .i64 P.m.t] (Nat.le_refl _)
    have hPb := setRow_heap _ w2.heap.size _ #[.int .i64 P.d, .int .i64 P.e, .int .i64 P.r.k, .int .i64 P.r.e, .int .i64 P.r.w, .int .i64 P.r.n, .int .i64 P.r.q, .string P.r.t, .int .i64 P.r.p.s0, .int .i64 P.r.p.s1, .int .i64 P.r.p.s2, .int .i64 P.r.p.s3, .int .i64 P.r.p.s4, .int .i64 P.r.p.s5, .int .i64 P.r.p.s6, .int .i64 P.r.p.s7, .int .i64 P.r.p.s8, .int .i64 P.r.p.s9, .int .i64 P.r.p.s10, .int .i64 P.r.p.s11, .int .i64 P.m.k, .int .i64 P.m.e, .int .i64 P.m.s, .int .i64 P.m.u, .int .i64 P.m.v, .int .i64 P.m.t] _ _ HZb.out
    obtain ⟨b3, hblk⟩ : ∃ x, x = w2.heap.size := ⟨_, rfl⟩
    obtain ⟨w3, hwn⟩ : ∃ x, x = (w2.alloc (.cells #[.int .i64 0, .int .i64 0, .int .i64 0, .int .i64 0, .int .i64 0, .int .i64 0, .int .i64 0, .string ⟨#[]⟩, .int .i64 0, .int .i64 0, .int .i64 0, .int .i64 0, .int .i64 0, .int .i64 0, .int .i64 0, .int .i64 0, .int .i64 0, .int .i64 0, .int .i64 0, .int .i64 0, .int .i64 0, .int .i64 0, .int .i64 0, .int .i64 0, .int .i64 0, .int .i64 0] 35)).setRow w2.heap.size #[.int .i64 P.d, .int .i64 P.e, .int .i64 P.r.k, .int .i64 P.r.e, .int .i64 P.r.w, .int .i64 P.r.n, .int .i64 P.r.q, .string P.r.t, .int .i64 P.r.p.s0, .int .i64 P.r.p.s1, .int .i64 P.r.p.s2, .int .i64 P.r.p.s3, .int .i64 P.r.p.s4, .int .i64 P.r.p.s5, .int .i64 P.r.p.s6, .int .i64 P.r.p.s7, .int .i64 P.r.p.s8, .int .i64 P.r.p.s9, .int .i64 P.r.p.s10, .int .i64 P.r.p.s11, .int .i64 P.m.k, .int .i64 P.m.e, .int .i64 P.m.s, .int .i64 P.m.u, .int .i64 P.m.v, .int .i64 P.m.t] := ⟨_, rfl⟩
    rw [← hwn] at hfr hPb ⊢
    rw [← hblk] at hPb ⊢
    clear hwn hblk HZb
    have S2 := hid ((S1.out.step hfr).and (Sb.heap hPb (fun h => h)))
    clear hfr hPb S1
    go_wp2_with fail
    refine (rparse_calls u _ (by have := HUS.out; omega) ).mono ?_
    rintro _ w4 ⟨rfl, hf⟩
    rw [HP.out]
    simp only []
    have HV : Hid (P.val = .agg #[.int .i64 P.d, .int .i64 P.e, .int .i64 P.r.k, .int .i64 P.r.e, .int .i64 P.r.w, .int .i64 P.r.n, .int .i64 P.r.q, .string P.r.t, .int .i64 P.r.p.s0, .int .i64 P.r.p.s1, .int .i64 P.r.p.s2, .int .i64 P.r.p.s3, .int .i64 P.r.p.s4, .int .i64 P.r.p.s5, .int .i64 P.r.p.s6, .int .i64 P.r.p.s7, .int .i64 P.r.p.s8, .int .i64 P.r.p.s9, .int .i64 P.r.p.s10, .int .i64 P.r.p.s11, .int .i64 P.m.k, .int .i64 P.m.e, .int .i64 P.m.s, .int .i64 P.m.u, .int .i64 P.m.v, .int .i64 P.m.t]) := rfl
    rw [HV.out]
    have S3 := hid (S2.out.step hf)
    clear hf S2 HV
    have HZb := hid (new1 w4 (.cells #[.int .i64 0, .int .i64 0, .int .i64 0, .int .i64 0, .int .i64 0, .int .i64 0, .int .i64 0, .string ⟨#[]⟩, .int .i64 0, .int .i64 0, .int .i64 0, .int .i64 0, .int .i64 0, .int .i64 0, .int .i64 0, .int .i64 0, .int .i64 0, .int .i64 0, .int .i64 0, .int .i64 0, .int .i64 0, .int .i64 0, .int .i64 0, .int .i64 0, .int .i64 0, .int .i64 0] 31))
    go_upto_region 6 with (refine wpList_store_row rfl 31 (.tmp 5) (.tmp 34) (by with_reducible rfl) w4.heap.size #[.int .i64 P.d, .int .i64 P.e, .int .i64 P.r.k, .int .i64 P.r.e, .int .i64 P.r.w, .int .i64 P.r.n, .int .i64 P.r.q, .string P.r.t, .int .i64 P.r.p.s0, .int .i64 P.r.p.s1, .int .i64 P.r.p.s2, .int .i64 P.r.p.s3, .int .i64 P.r.p.s4, .int .i64 P.r.p.s5, .int .i64 P.r.p.s6, .int .i64 P.r.p.s7, .int .i64 P.r.p.s8, .int .i64 P.r.p.s9, .int .i64 P.r.p.s10, .int .i64 P.r.p.s11, .int .i64 P.m.k, .int .i64 P.m.e, .int .i64 P.m.s, .int .i64 P.m.u, .int .i64 P.m.v, .int .i64 P.m.t] (by kernel_rfl) (by kernel_rfl) _ _ HZb.out (by kernel_rfl) (by rfl) (by simp [Value.oneCell']) ?_)
    have hfr := ((Frm.refl M0 w4).alloc (.cells #[.int .i64 0, .int .i64 0, .int .i64 0, .int .i64 0, .int .i64 0, .int .i64 0, .int .i64 0, .string ⟨#[]⟩, .int .i64 0, .int .i64 0, .int .i64 0, .int .i64 0, .int .i64 0, .int .i64 0, .int .i64 0, .int .i64 0, .int .i64 0, .int .i64 0, .int .i64 0, .int .i64 0, .int .i64 0, .int .i64 0, .int .i64 0, .int .i64 0, .int .i64 0, .int .i64 0] 31)).setRow w4.heap.size #[.int .i64 P.d, .int .i64 P.e, .int .i64 P.r.k, .int .i64 P.r.e, .int .i64 P.r.w, .int .i64 P.r.n, .int .i64 P.r.q, .string P.r.t, .int .i64 P.r.p.s0, .int .i64 P.r.p.s1, .int .i64 P.r.p.s2, .int .i64 P.r.p.s3, .int .i64 P.r.p.s4, .int .i64 P.r.p.s5, .int .i64 P.r.p.s6, .int .i64 P.r.p.s7, .int .i64 P.r.p.s8, .int .i64 P.r.p.s9, .int .i64 P.r.p.s10, .int .i64 P.r.p.s11, .int .i64 P.m.k, .int .i64 P.m.e, .int .i64 P.m.s, .int .i64 P.m.u, .int .i64 P.m.v, .int .i64 P.m.t] (Nat.le_refl _)
    have hPb := setRow_heap _ w4.heap.size _ #[.int .i64 P.d, .int .i64 P.e, .int .i64 P.r.k, .int .i64 P.r.e, .int .i64 P.r.w, .int .i64 P.r.n, .int .i64 P.r.q, .string P.r.t, .int .i64 P.r.p.s0, .int .i64 P.r.p.s1, .int .i64 P.r.p.s2, .int .i64 P.r.p.s3, .int .i64 P.r.p.s4, .int .i64 P.r.p.s5, .int .i64 P.r.p.s6, .int .i64 P.r.p.s7, .int .i64 P.r.p.s8, .int .i64 P.r.p.s9, .int .i64 P.r.p.s10, .int .i64 P.r.p.s11, .int .i64 P.m.k, .int .i64 P.m.e, .int .i64 P.m.s, .int .i64 P.m.u, .int .i64 P.m.v, .int .i64 P.m.t] _ _ HZb.out
    obtain ⟨b5, hblk⟩ : ∃ x, x = w4.heap.size := ⟨_, rfl⟩
    obtain ⟨w5, hwn⟩ : ∃ x, x = (w4.alloc (.cells #[.int .i64 0, .int .i64 0, .int .i64 0, .int .i64 0, .int .i64 0, .int .i64 0, .int .i64 0, .string ⟨#[]⟩, .int .i64 0, .int .i64 0, .int .i64 0, .int .i64 0, .int .i64 0, .int .i64 0, .int .i64 0, .int .i64 0, .int .i64 0, .int .i64 0, .int .i64 0, .int .i64 0, .int .i64 0, .int .i64 0, .int .i64 0, .int .i64 0, .int .i64 0, .int .i64 0] 31)).setRow w4.heap.size #[.int .i64 P.d, .int .i64 P.e, .int .i64 P.r.k, .int .i64 P.r.e, .int .i64 P.r.w, .int .i64 P.r.n, .int .i64 P.r.q, .string P.r.t, .int .i64 P.r.p.s0, .int .i64 P.r.p.s1, .int .i64 P.r.p.s2, .int .i64 P.r.p.s3, .int .i64 P.r.p.s4, .int .i64 P.r.p.s5, .int .i64 P.r.p.s6, .int .i64 P.r.p.s7, .int .i64 P.r.p.s8, .int .i64 P.r.p.s9, .int .i64 P.r.p.s10, .int .i64 P.r.p.s11, .int .i64 P.m.k, .int .i64 P.m.e, .int .i64 P.m.s, .int .i64 P.m.u, .int .i64 P.m.v, .int .i64 P.m.t] := ⟨_, rfl⟩
    rw [← hwn] at hfr hPb ⊢
    rw [← hblk] at hPb ⊢
    clear hwn hblk HZb
    have S4 := hid ((S3.out.step hfr).and (Sb.heap hPb (fun h => h)))
    clear hfr hPb S3
    go_wp2_with fail
    refine (tmessage_calls u _ (by have := HUS.out; omega) (HG.out.frm (S4.out.now.1.1))).mono ?_
    rintro _ w6 ⟨rfl, hf⟩
    rw [HM.out]
    simp only []
    have HV : Hid (m.val = .agg #[.int .i64 m.k, .int .i64 m.e, .int .i64 m.s, .int .i64 m.u, .int .i64 m.v, .int .i64 m.t]) := rfl
    rw [HV.out]
    have S5 := hid (S4.out.step hf)
    clear hf S4 HV
    have HZb := hid (new1 w6 (.cells #[.int .i64 0, .int .i64 0, .int .i64 0, .int .i64 0, .int .i64 0, .int .i64 0] 29))
    go_upto_region 7 with (refine wpList_store_row rfl 29 (.tmp 7) (.tmp 39) (by with_reducible rfl) w6.heap.size #[.int .i64 m.k, .int .i64 m.e, .int .i64 m.s, .int .i64 m.u, .int .i64 m.v, .int .i64 m.t] (by kernel_rfl) (by kernel_rfl) _ _ HZb.out (by kernel_rfl) (by rfl) (by simp [Value.oneCell']) ?_)
    have hfr := ((Frm.refl M0 w6).alloc (.cells #[.int .i64 0, .int .i64 0, .int .i64 0, .int .i64 0, .int .i64 0, .int .i64 0] 29)).setRow w6.heap.size #[.int .i64 m.k, .int .i64 m.e, .int .i64 m.s, .int .i64 m.u, .int .i64 m.v, .int .i64 m.t] (Nat.le_refl _)
    have hPb := setRow_heap _ w6.heap.size _ #[.int .i64 m.k, .int .i64 m.e, .int .i64 m.s, .int .i64 m.u, .int .i64 m.v, .int .i64 m.t] _ _ HZb.out
    obtain ⟨b7, hblk⟩ : ∃ x, x = w6.heap.size := ⟨_, rfl⟩
    obtain ⟨w7, hwn⟩ : ∃ x, x = (w6.alloc (.cells #[.int .i64 0, .int .i64 0, .int .i64 0, .int .i64 0, .int .i64 0, .int .i64 0] 29)).setRow w6.heap.size #[.int .i64 m.k, .int .i64 m.e, .int .i64 m.s, .int .i64 m.u, .int .i64 m.v, .int .i64 m.t] := ⟨_, rfl⟩
    rw [← hwn] at hfr hPb ⊢
    rw [← hblk] at hPb ⊢
    clear hwn hblk HZb
    have S6 := hid ((S5.out.step hfr).and (Sb.heap hPb (fun h => h)))
    clear hfr hPb S5
    go_wp2_with fail
    refine (rmessage_calls u _ (by have := HUS.out; omega) ).mono ?_
    rintro _ w8 ⟨rfl, hf⟩
    rw [HM.out]
    simp only []
    have HV : Hid (m.val = .agg #[.int .i64 m.k, .int .i64 m.e, .int .i64 m.s, .int .i64 m.u, .int .i64 m.v, .int .i64 m.t]) := rfl
    rw [HV.out]
    have S7 := hid (S6.out.step hf)
    clear hf S6 HV
    have HZb := hid (new1 w8 (.cells #[.int .i64 0, .int .i64 0, .int .i64 0, .int .i64 0, .int .i64 0, .int .i64 0] 29))
    go_upto_region 8 with (refine wpList_store_row rfl 29 (.tmp 9) (.tmp 44) (by with_reducible rfl) w8.heap.size #[.int .i64 m.k, .int .i64 m.e, .int .i64 m.s, .int .i64 m.u, .int .i64 m.v, .int .i64 m.t] (by kernel_rfl) (by kernel_rfl) _ _ HZb.out (by kernel_rfl) (by rfl) (by simp [Value.oneCell']) ?_)
    have hfr := ((Frm.refl M0 w8).alloc (.cells #[.int .i64 0, .int .i64 0, .int .i64 0, .int .i64 0, .int .i64 0, .int .i64 0] 29)).setRow w8.heap.size #[.int .i64 m.k, .int .i64 m.e, .int .i64 m.s, .int .i64 m.u, .int .i64 m.v, .int .i64 m.t] (Nat.le_refl _)
    have hPb := setRow_heap _ w8.heap.size _ #[.int .i64 m.k, .int .i64 m.e, .int .i64 m.s, .int .i64 m.u, .int .i64 m.v, .int .i64 m.t] _ _ HZb.out
    obtain ⟨b9, hblk⟩ : ∃ x, x = w8.heap.size := ⟨_, rfl⟩
    obtain ⟨w9, hwn⟩ : ∃ x, x = (w8.alloc (.cells #[.int .i64 0, .int .i64 0, .int .i64 0, .int .i64 0, .int .i64 0, .int .i64 0] 29)).setRow w8.heap.size #[.int .i64 m.k, .int .i64 m.e, .int .i64 m.s, .int .i64 m.u, .int .i64 m.v, .int .i64 m.t] := ⟨_, rfl⟩
    rw [← hwn] at hfr hPb ⊢
    rw [← hblk] at hPb ⊢
    clear hwn hblk HZb
    have S8 := hid ((S7.out.step hfr).and (Sb.heap hPb (fun h => h)))
    clear hfr hPb S7
    go_wp2_with fail
    refine (trecord_calls u _ (by have := HUS.out; omega) (HG.out.frm (S8.out.now.1.1.1.1))).mono ?_
    rintro _ w10 ⟨rfl, hf⟩
    rw [HR.out]
    simp only []
    have HV : Hid (r.val = .agg #[.int .i64 r.k, .int .i64 r.e, .int .i64 r.w, .int .i64 r.n, .int .i64 r.q, .string r.t, .int .i64 r.p.s0, .int .i64 r.p.s1, .int .i64 r.p.s2, .int .i64 r.p.s3, .int .i64 r.p.s4, .int .i64 r.p.s5, .int .i64 r.p.s6, .int .i64 r.p.s7, .int .i64 r.p.s8, .int .i64 r.p.s9, .int .i64 r.p.s10, .int .i64 r.p.s11]) := rfl
    rw [HV.out]
    have S9 := hid (S8.out.step hf)
    clear hf S8 HV
    have HZb := hid (new1 w10 (.cells #[.int .i64 0, .int .i64 0, .int .i64 0, .int .i64 0, .int .i64 0, .string ⟨#[]⟩, .int .i64 0, .int .i64 0, .int .i64 0, .int .i64 0, .int .i64 0, .int .i64 0, .int .i64 0, .int .i64 0, .int .i64 0, .int .i64 0, .int .i64 0, .int .i64 0] 27))
    go_upto_region 9 with (refine wpList_store_row rfl 27 (.tmp 11) (.tmp 49) (by with_reducible rfl) w10.heap.size #[.int .i64 r.k, .int .i64 r.e, .int .i64 r.w, .int .i64 r.n, .int .i64 r.q, .string r.t, .int .i64 r.p.s0, .int .i64 r.p.s1, .int .i64 r.p.s2, .int .i64 r.p.s3, .int .i64 r.p.s4, .int .i64 r.p.s5, .int .i64 r.p.s6, .int .i64 r.p.s7, .int .i64 r.p.s8, .int .i64 r.p.s9, .int .i64 r.p.s10, .int .i64 r.p.s11] (by kernel_rfl) (by kernel_rfl) _ _ HZb.out (by kernel_rfl) (by rfl) (by simp [Value.oneCell']) ?_)
    have hfr := ((Frm.refl M0 w10).alloc (.cells #[.int .i64 0, .int .i64 0, .int .i64 0, .int .i64 0, .int .i64 0, .string ⟨#[]⟩, .int .i64 0, .int .i64 0, .int .i64 0, .int .i64 0, .int .i64 0, .int .i64 0, .int .i64 0, .int .i64 0, .int .i64 0, .int .i64 0, .int .i64 0, .int .i64 0] 27)).setRow w10.heap.size #[.int .i64 r.k, .int .i64 r.e, .int .i64 r.w, .int .i64 r.n, .int .i64 r.q, .string r.t, .int .i64 r.p.s0, .int .i64 r.p.s1, .int .i64 r.p.s2, .int .i64 r.p.s3, .int .i64 r.p.s4, .int .i64 r.p.s5, .int .i64 r.p.s6, .int .i64 r.p.s7, .int .i64 r.p.s8, .int .i64 r.p.s9, .int .i64 r.p.s10, .int .i64 r.p.s11] (Nat.le_refl _)
    have hPb := setRow_heap _ w10.heap.size _ #[.int .i64 r.k, .int .i64 r.e, .int .i64 r.w, .int .i64 r.n, .int .i64 r.q, .string r.t, .int .i64 r.p.s0, .int .i64 r.p.s1, .int .i64 r.p.s2, .int .i64 r.p.s3, .int .i64 r.p.s4, .int .i64 r.p.s5, .int .i64 r.p.s6, .int .i64 r.p.s7, .int .i64 r.p.s8, .int .i64 r.p.s9, .int .i64 r.p.s10, .int .i64 r.p.s11] _ _ HZb.out
    obtain ⟨b11, hblk⟩ : ∃ x, x = w10.heap.size := ⟨_, rfl⟩
    obtain ⟨w11, hwn⟩ : ∃ x, x = (w10.alloc (.cells #[.int .i64 0, .int .i64 0, .int .i64 0, .int .i64 0, .int .i64 0, .string ⟨#[]⟩, .int .i64 0, .int .i64 0, .int .i64 0, .int .i64 0, .int .i64 0, .int .i64 0, .int .i64 0, .int .i64 0, .int .i64 0, .int .i64 0, .int .i64 0, .int .i64 0] 27)).setRow w10.heap.size #[.int .i64 r.k, .int .i64 r.e, .int .i64 r.w, .int .i64 r.n, .int .i64 r.q, .string r.t, .int .i64 r.p.s0, .int .i64 r.p.s1, .int .i64 r.p.s2, .int .i64 r.p.s3, .int .i64 r.p.s4, .int .i64 r.p.s5, .int .i64 r.p.s6, .int .i64 r.p.s7, .int .i64 r.p.s8, .int .i64 r.p.s9, .int .i64 r.p.s10, .int .i64 r.p.s11] := ⟨_, rfl⟩
    rw [← hwn] at hfr hPb ⊢
    rw [← hblk] at hPb ⊢
    clear hwn hblk HZb
    have S10 := hid ((S9.out.step hfr).and (Sb.heap hPb (fun h => h)))
    clear hfr hPb S9
    go_wp2_with fail
    refine (rrecord_calls u _ (by have := HUS.out; omega) ).mono ?_
    rintro _ w12 ⟨rfl, hf⟩
    rw [HR.out]
    simp only []
    have HV : Hid (r.val = .agg #[.int .i64 r.k, .int .i64 r.e, .int .i64 r.w, .int .i64 r.n, .int .i64 r.q, .string r.t, .int .i64 r.p.s0, .int .i64 r.p.s1, .int .i64 r.p.s2, .int .i64 r.p.s3, .int .i64 r.p.s4, .int .i64 r.p.s5, .int .i64 r.p.s6, .int .i64 r.p.s7, .int .i64 r.p.s8, .int .i64 r.p.s9, .int .i64 r.p.s10, .int .i64 r.p.s11]) := rfl
    rw [HV.out]
    have S11 := hid (S10.out.step hf)
    clear hf S10 HV
    have HZb := hid (new1 w12 (.cells #[.int .i64 0, .int .i64 0, .int .i64 0, .int .i64 0, .int .i64 0, .string ⟨#[]⟩, .int .i64 0, .int .i64 0, .int .i64 0, .int .i64 0, .int .i64 0, .int .i64 0, .int .i64 0, .int .i64 0, .int .i64 0, .int .i64 0, .int .i64 0, .int .i64 0] 27))
    go_upto_region 10 with (refine wpList_store_row rfl 27 (.tmp 13) (.tmp 54) (by with_reducible rfl) w12.heap.size #[.int .i64 r.k, .int .i64 r.e, .int .i64 r.w, .int .i64 r.n, .int .i64 r.q, .string r.t, .int .i64 r.p.s0, .int .i64 r.p.s1, .int .i64 r.p.s2, .int .i64 r.p.s3, .int .i64 r.p.s4, .int .i64 r.p.s5, .int .i64 r.p.s6, .int .i64 r.p.s7, .int .i64 r.p.s8, .int .i64 r.p.s9, .int .i64 r.p.s10, .int .i64 r.p.s11] (by kernel_rfl) (by kernel_rfl) _ _ HZb.out (by kernel_rfl) (by rfl) (by simp [Value.oneCell']) ?_)
    have hfr := ((Frm.refl M0 w12).alloc (.cells #[.int .i64 0, .int .i64 0, .int .i64 0, .int .i64 0, .int .i64 0, .string ⟨#[]⟩, .int .i64 0, .int .i64 0, .int .i64 0, .int .i64 0, .int .i64 0, .int .i64 0, .int .i64 0, .int .i64 0, .int .i64 0, .int .i64 0, .int .i64 0, .int .i64 0] 27)).setRow w12.heap.size #[.int .i64 r.k, .int .i64 r.e, .int .i64 r.w, .int .i64 r.n, .int .i64 r.q, .string r.t, .int .i64 r.p.s0, .int .i64 r.p.s1, .int .i64 r.p.s2, .int .i64 r.p.s3, .int .i64 r.p.s4, .int .i64 r.p.s5, .int .i64 r.p.s6, .int .i64 r.p.s7, .int .i64 r.p.s8, .int .i64 r.p.s9, .int .i64 r.p.s10, .int .i64 r.p.s11] (Nat.le_refl _)
    have hPb := setRow_heap _ w12.heap.size _ #[.int .i64 r.k, .int .i64 r.e, .int .i64 r.w, .int .i64 r.n, .int .i64 r.q, .string r.t, .int .i64 r.p.s0, .int .i64 r.p.s1, .int .i64 r.p.s2, .int .i64 r.p.s3, .int .i64 r.p.s4, .int .i64 r.p.s5, .int .i64 r.p.s6, .int .i64 r.p.s7, .int .i64 r.p.s8, .int .i64 r.p.s9, .int .i64 r.p.s10, .int .i64 r.p.s11] _ _ HZb.out
    obtain ⟨b13, hblk⟩ : ∃ x, x = w12.heap.size := ⟨_, rfl⟩
    obtain ⟨w13, hwn⟩ : ∃ x, x = (w12.alloc (.cells #[.int .i64 0, .int .i64 0, .int .i64 0, .int .i64 0, .int .i64 0, .string ⟨#[]⟩, .int .i64 0, .int .i64 0, .int .i64 0, .int .i64 0, .int .i64 0, .int .i64 0, .int .i64 0, .int .i64 0, .int .i64 0, .int .i64 0, .int .i64 0, .int .i64 0] 27)).setRow w12.heap.size #[.int .i64 r.k, .int .i64 r.e, .int .i64 r.w, .int .i64 r.n, .int .i64 r.q, .string r.t, .int .i64 r.p.s0, .int .i64 r.p.s1, .int .i64 r.p.s2, .int .i64 r.p.s3, .int .i64 r.p.s4, .int .i64 r.p.s5, .int .i64 r.p.s6, .int .i64 r.p.s7, .int .i64 r.p.s8, .int .i64 r.p.s9, .int .i64 r.p.s10, .int .i64 r.p.s11] := ⟨_, rfl⟩
    rw [← hwn] at hfr hPb ⊢
    rw [← hblk] at hPb ⊢
    clear hwn hblk HZb
    have S12 := hid ((S11.out.step hfr).and (Sb.heap hPb (fun h => h)))
    clear hfr hPb S11
    go_wp2_with fail
    refine (errno_calls u _).mono ?_
    rintro _ w14 ⟨rfl, hf⟩
    rw [HQ.out]
    simp only []
    have S13 := hid (S12.out.step hf)
    clear hf S12
    go_wp2_with fail
    refine (rerrno_calls u _).mono ?_
    rintro _ w15 ⟨rfl, hf⟩
    rw [HQ.out]
    simp only []
    have S14 := hid (S13.out.step hf)
    clear hf S13
    go_upto_region 12 with fail
    have hqo : oeq ⟨P.d, P.e, ⟨P.r.k, P.r.e, P.r.w, P.r.n, P.r.q, P.r.t, ⟨P.r.p.s0, P.r.p.s1, P.r.p.s2, P.r.p.s3, P.r.p.s4, P.r.p.s5, P.r.p.s6, P.r.p.s7, P.r.p.s8, P.r.p.s9, P.r.p.s10, P.r.p.s11⟩⟩, ⟨P.m.k, P.m.e, P.m.s, P.m.u, P.m.v, P.m.t⟩⟩ ⟨P.d, P.e, ⟨P.r.k, P.r.e, P.r.w, P.r.n, P.r.q, P.r.t, ⟨P.r.p.s0, P.r.p.s1, P.r.p.s2, P.r.p.s3, P.r.p.s4, P.r.p.s5, P.r.p.s6, P.r.p.s7, P.r.p.s8, P.r.p.s9, P.r.p.s10, P.r.p.s11⟩⟩, ⟨P.m.k, P.m.e, P.m.s, P.m.u, P.m.v, P.m.t⟩⟩ = true := by unfold oeq; exact decide_eq_true rfl
    have hqm : meq ⟨m.k, m.e, m.s, m.u, m.v, m.t⟩ ⟨m.k, m.e, m.s, m.u, m.v, m.t⟩ = true := by unfold meq; exact decide_eq_true rfl
    have hqr : req ⟨r.k, r.e, r.w, r.n, r.q, r.t, ⟨r.p.s0, r.p.s1, r.p.s2, r.p.s3, r.p.s4, r.p.s5, r.p.s6, r.p.s7, r.p.s8, r.p.s9, r.p.s10, r.p.s11⟩⟩ ⟨r.k, r.e, r.w, r.n, r.q, r.t, ⟨r.p.s0, r.p.s1, r.p.s2, r.p.s3, r.p.s4, r.p.s5, r.p.s6, r.p.s7, r.p.s8, r.p.s9, r.p.s10, r.p.s11⟩⟩ = true := by unfold req; exact decide_eq_true rfl
    apply wp_region_N 38 (valsL ((.agg #[.int .i64 P.d, .int .i64 P.e, .int .i64 P.r.k, .int .i64 P.r.e, .int .i64 P.r.w, .int .i64 P.r.n, .int .i64 P.r.q, .string P.r.t, .int .i64 P.r.p.s0, .int .i64 P.r.p.s1, .int .i64 P.r.p.s2, .int .i64 P.r.p.s3, .int .i64 P.r.p.s4, .int .i64 P.r.p.s5, .int .i64 P.r.p.s6, .int .i64 P.r.p.s7, .int .i64 P.r.p.s8, .int .i64 P.r.p.s9, .int .i64 P.r.p.s10, .int .i64 P.r.p.s11, .int .i64 P.m.k, .int .i64 P.m.e, .int .i64 P.m.s, .int .i64 P.m.u, .int .i64 P.m.v, .int .i64 P.m.t]) :: (.agg #[.int .i64 P.d, .int .i64 P.e, .int .i64 P.r.k, .int .i64 P.r.e, .int .i64 P.r.w, .int .i64 P.r.n, .int .i64 P.r.q, .string P.r.t, .int .i64 P.r.p.s0, .int .i64 P.r.p.s1, .int .i64 P.r.p.s2, .int .i64 P.r.p.s3, .int .i64 P.r.p.s4, .int .i64 P.r.p.s5, .int .i64 P.r.p.s6, .int .i64 P.r.p.s7, .int .i64 P.r.p.s8, .int .i64 P.r.p.s9, .int .i64 P.r.p.s10, .int .i64 P.r.p.s11, .int .i64 P.m.k, .int .i64 P.m.e, .int .i64 P.m.s, .int .i64 P.m.u, .int .i64 P.m.v, .int .i64 P.m.t]) :: _ :: _ :: _ :: _ :: _ :: _ :: _ :: (.agg #[.int .i64 m.k, .int .i64 m.e, .int .i64 m.s, .int .i64 m.u, .int .i64 m.v, .int .i64 m.t]) :: (.agg #[.int .i64 m.k, .int .i64 m.e, .int .i64 m.s, .int .i64 m.u, .int .i64 m.v, .int .i64 m.t]) :: _ :: _ :: _ :: _ :: _ :: _ :: _ :: _ :: (.agg #[.int .i64 r.k, .int .i64 r.e, .int .i64 r.w, .int .i64 r.n, .int .i64 r.q, .string r.t, .int .i64 r.p.s0, .int .i64 r.p.s1, .int .i64 r.p.s2, .int .i64 r.p.s3, .int .i64 r.p.s4, .int .i64 r.p.s5, .int .i64 r.p.s6, .int .i64 r.p.s7, .int .i64 r.p.s8, .int .i64 r.p.s9, .int .i64 r.p.s10, .int .i64 r.p.s11]) :: (.agg #[.int .i64 r.k, .int .i64 r.e, .int .i64 r.w, .int .i64 r.n, .int .i64 r.q, .string r.t, .int .i64 r.p.s0, .int .i64 r.p.s1, .int .i64 r.p.s2, .int .i64 r.p.s3, .int .i64 r.p.s4, .int .i64 r.p.s5, .int .i64 r.p.s6, .int .i64 r.p.s7, .int .i64 r.p.s8, .int .i64 r.p.s9, .int .i64 r.p.s10, .int .i64 r.p.s11]) :: _ :: _ :: _ :: _ :: _ :: _ :: _ :: _ :: _ :: _ :: _ :: _ :: _ :: _ :: _ :: _ :: _ :: [])) ?hB2 ?main2
    case hB2 => kernel_rfl
    rotate_left 32
    intro ops QT HO HQ
    obtain ⟨ho0, HO⟩ := HO
    refine wpG_v ho0.out rfl ?_ ?_
    · simp only [valsL_zero, valsL_succ]; apply FY_in rfl; intro wx hx
      exact fu_load_row_g 35 (.tmp 3) rfl (b3) (by kernel_rfl) _ _ _ _ ((S14.out wx hx).1.1.1.1.1.2) Tryz.underlying35 rfl (by kernel_rfl)
    simp only [Act.put, List.setIfInBounds_toArray, List.set_cons_zero, List.set_cons_succ, valsL_zero, valsL_succ]
    obtain ⟨ho1, HO⟩ := HO
    refine wpG_v ho1.out rfl ?_ ?_
    · simp only [valsL_zero, valsL_succ]; apply FY_in rfl; intro wx hx
      exact fu_load_row_g 31 (.tmp 5) rfl (b5) (by kernel_rfl) _ _ _ _ ((S14.out wx hx).1.1.1.1.2) Tryz.underlying31 rfl (by kernel_rfl)
    simp only [Act.put, List.setIfInBounds_toArray, List.set_cons_zero, List.set_cons_succ, valsL_zero, valsL_succ]
    obtain ⟨ho2, HO⟩ := HO
    refine wpG_v ho2.out rfl ?_ ?_
    · simp only [valsL_zero, valsL_succ]; apply FY_in rfl; intro wx hx
      go_simp
      exact ⟨rfl, rfl⟩
    simp only [Act.put, List.setIfInBounds_toArray, List.set_cons_zero, List.set_cons_succ, valsL_zero, valsL_succ]
    obtain ⟨ho3, HO⟩ := HO
    refine wpG_v ho3.out rfl ?_ ?_
    · simp only [valsL_zero, valsL_succ]; apply FY_in rfl; intro wx hx
      go_simp
      exact ⟨rfl, rfl⟩
    simp only [Act.put, List.setIfInBounds_toArray, List.set_cons_zero, List.set_cons_succ, valsL_zero, valsL_succ]
    obtain ⟨ho4, HO⟩ := HO
    refine wpG_v ho4.out rfl ?_ ?_
    · simp only [valsL_zero, valsL_succ]; apply FY_yes (d := 69) rfl ho3.out (by rfl) (by kernel_rfl); intro wx hx
      go_simp
      exact ⟨rfl, rfl⟩
    simp only [Act.put, List.setIfInBounds_toArray, List.set_cons_zero, List.set_cons_succ, valsL_zero, valsL_succ]
    obtain ⟨ho5, HO⟩ := HO
    refine wpG_v ho5.out rfl ?_ ?_
    · simp only [valsL_zero, valsL_succ]; apply FY_yes (d := 69) rfl ho3.out (by rfl) (by kernel_rfl); intro wx hx
      go_simp
      exact ⟨rfl, rfl⟩
    simp only [Act.put, List.setIfInBounds_toArray, List.set_cons_zero, List.set_cons_succ, valsL_zero, valsL_succ]
    obtain ⟨ho6, HO⟩ := HO
    refine wpG_v ho6.out rfl ?_ ?_
    · simp only [valsL_zero, valsL_succ]; apply FY_yes (d := 69) rfl ho3.out (by rfl) (by kernel_rfl); intro wx hx
      go_simp
      exact ⟨rfl, rfl⟩
    simp only [Act.put, List.setIfInBounds_toArray, List.set_cons_zero, List.set_cons_succ, valsL_zero, valsL_succ]
    obtain ⟨ho7, HO⟩ := HO
    refine wpG_v ho7.out rfl ?_ ?_
    · simp only [valsL_zero, valsL_succ]; apply FY_in rfl; intro wx hx
      go_simp
      exact ⟨rfl, rfl⟩
    simp only [Act.put, List.setIfInBounds_toArray, List.set_cons_zero, List.set_cons_succ, valsL_zero, valsL_succ]
    obtain ⟨ho8, HO⟩ := HO
    refine wpG_v ho8.out rfl ?_ ?_
    · simp only [valsL_zero, valsL_succ]; apply FY_in rfl; intro wx hx
      go_simp
      exact ⟨rfl, rfl⟩
    simp only [Act.put, List.setIfInBounds_toArray, List.set_cons_zero, List.set_cons_succ, valsL_zero, valsL_succ]
    obtain ⟨ho9, HO⟩ := HO
    refine wpG_v ho9.out rfl ?_ ?_
    · simp only [valsL_zero, valsL_succ]; apply FY_yes (d := 74) rfl ho8.out (by rfl) (by kernel_rfl); intro wx hx
      exact fu_load_row_g 29 (.tmp 7) rfl (b7) (by kernel_rfl) _ _ _ _ ((S14.out wx hx).1.1.1.2) Tryz.underlying29 rfl (by kernel_rfl)
    simp only [Act.put, List.setIfInBounds_toArray, List.set_cons_zero, List.set_cons_succ, valsL_zero, valsL_succ]
    obtain ⟨ho10, HO⟩ := HO
    refine wpG_v ho10.out rfl ?_ ?_
    · simp only [valsL_zero, valsL_succ]; apply FY_yes (d := 74) rfl ho8.out (by rfl) (by kernel_rfl); intro wx hx
      exact fu_load_row_g 29 (.tmp 9) rfl (b9) (by kernel_rfl) _ _ _ _ ((S14.out wx hx).1.1.2) Tryz.underlying29 rfl (by kernel_rfl)
    simp only [Act.put, List.setIfInBounds_toArray, List.set_cons_zero, List.set_cons_succ, valsL_zero, valsL_succ]
    obtain ⟨ho11, HO⟩ := HO
    refine wpG_v ho11.out rfl ?_ ?_
    · simp only [valsL_zero, valsL_succ]; apply FY_yes (d := 74) rfl ho8.out (by rfl) (by kernel_rfl); intro wx hx
      go_simp
      exact ⟨rfl, rfl⟩
    simp only [Act.put, List.setIfInBounds_toArray, List.set_cons_zero, List.set_cons_succ, valsL_zero, valsL_succ]
    obtain ⟨ho12, HO⟩ := HO
    refine wpG_v ho12.out rfl ?_ ?_
    · simp only [valsL_zero, valsL_succ]; apply FY_in rfl; intro wx hx
      go_simp
      exact ⟨rfl, rfl⟩
    simp only [Act.put, List.setIfInBounds_toArray, List.set_cons_zero, List.set_cons_succ, valsL_zero, valsL_succ]
    obtain ⟨ho13, HO⟩ := HO
    refine wpG_v ho13.out rfl ?_ ?_
    · simp only [valsL_zero, valsL_succ]; apply FY_in rfl; intro wx hx
      go_simp
      exact ⟨rfl, rfl⟩
    simp only [Act.put, List.setIfInBounds_toArray, List.set_cons_zero, List.set_cons_succ, valsL_zero, valsL_succ]
    obtain ⟨ho14, HO⟩ := HO
    refine wpG_v ho14.out rfl ?_ ?_
    · simp only [valsL_zero, valsL_succ]; apply FY_yes (d := 79) rfl ho13.out (by rfl) (by kernel_rfl); intro wx hx
      go_simp
      exact ⟨rfl, rfl⟩
    simp only [Act.put, List.setIfInBounds_toArray, List.set_cons_zero, List.set_cons_succ, valsL_zero, valsL_succ]
    obtain ⟨ho15, HO⟩ := HO
    refine wpG_v ho15.out rfl ?_ ?_
    · simp only [valsL_zero, valsL_succ]; apply FY_yes (d := 79) rfl ho13.out (by rfl) (by kernel_rfl); intro wx hx
      go_simp
      exact ⟨rfl, rfl⟩
    simp only [Act.put, List.setIfInBounds_toArray, List.set_cons_zero, List.set_cons_succ, valsL_zero, valsL_succ]
    obtain ⟨ho16, HO⟩ := HO
    refine wpG_v ho16.out rfl ?_ ?_
    · simp only [valsL_zero, valsL_succ]; apply FY_yes (d := 79) rfl ho13.out (by rfl) (by kernel_rfl); intro wx hx
      go_simp
      exact ⟨rfl, rfl⟩
    simp only [Act.put, List.setIfInBounds_toArray, List.set_cons_zero, List.set_cons_succ, valsL_zero, valsL_succ]
    obtain ⟨ho17, HO⟩ := HO
    refine wpG_v ho17.out rfl ?_ ?_
    · simp only [valsL_zero, valsL_succ]; apply FY_in rfl; intro wx hx
      go_simp
      exact ⟨rfl, rfl⟩
    simp only [Act.put, List.setIfInBounds_toArray, List.set_cons_zero, List.set_cons_succ, valsL_zero, valsL_succ]
    obtain ⟨ho18, HO⟩ := HO
    refine wpG_v ho18.out rfl ?_ ?_
    · simp only [valsL_zero, valsL_succ]; apply FY_in rfl; intro wx hx
      go_simp
      exact ⟨rfl, rfl⟩
    simp only [Act.put, List.setIfInBounds_toArray, List.set_cons_zero, List.set_cons_succ, valsL_zero, valsL_succ]
    obtain ⟨ho19, HO⟩ := HO
    refine wpG_v ho19.out rfl ?_ ?_
    · simp only [valsL_zero, valsL_succ]; apply FY_yes (d := 84) rfl ho18.out (by rfl) (by kernel_rfl); intro wx hx
      exact fu_load_row_g 27 (.tmp 11) rfl (b11) (by kernel_rfl) _ _ _ _ ((S14.out wx hx).1.2) Tryz.underlying27 rfl (by kernel_rfl)
    simp only [Act.put, List.setIfInBounds_toArray, List.set_cons_zero, List.set_cons_succ, valsL_zero, valsL_succ]
    obtain ⟨ho20, HO⟩ := HO
    refine wpG_v ho20.out rfl ?_ ?_
    · simp only [valsL_zero, valsL_succ]; apply FY_yes (d := 84) rfl ho18.out (by rfl) (by kernel_rfl); intro wx hx
      exact fu_load_row_g 27 (.tmp 13) rfl (b13) (by kernel_rfl) _ _ _ _ ((S14.out wx hx).2) Tryz.underlying27 rfl (by kernel_rfl)
    simp only [Act.put, List.setIfInBounds_toArray, List.set_cons_zero, List.set_cons_succ, valsL_zero, valsL_succ]
    obtain ⟨ho21, HO⟩ := HO
    refine wpG_v ho21.out rfl ?_ ?_
    · simp only [valsL_zero, valsL_succ]; apply FY_yes (d := 84) rfl ho18.out (by rfl) (by kernel_rfl); intro wx hx
      go_simp
      exact ⟨rfl, rfl⟩
    simp only [Act.put, List.setIfInBounds_toArray, List.set_cons_zero, List.set_cons_succ, valsL_zero, valsL_succ]
    obtain ⟨ho22, HO⟩ := HO
    refine wpG_v ho22.out rfl ?_ ?_
    · simp only [valsL_zero, valsL_succ]; apply FY_in rfl; intro wx hx
      go_simp
      exact ⟨rfl, rfl⟩
    simp only [Act.put, List.setIfInBounds_toArray, List.set_cons_zero, List.set_cons_succ, valsL_zero, valsL_succ]
    obtain ⟨ho23, HO⟩ := HO
    refine wpG_v ho23.out rfl ?_ ?_
    · simp only [valsL_zero, valsL_succ]; apply FY_in rfl; intro wx hx
      go_simp
      exact ⟨rfl, rfl⟩
    simp only [Act.put, List.setIfInBounds_toArray, List.set_cons_zero, List.set_cons_succ, valsL_zero, valsL_succ]
    obtain ⟨ho24, HO⟩ := HO
    refine wpG_v ho24.out rfl ?_ ?_
    · simp only [valsL_zero, valsL_succ]; apply FY_yes (d := 89) rfl ho23.out (by rfl) (by kernel_rfl); intro wx hx
      go_simp
      exact ⟨rfl, rfl⟩
    simp only [Act.put, List.setIfInBounds_toArray, List.set_cons_zero, List.set_cons_succ, valsL_zero, valsL_succ]
    obtain ⟨ho25, HO⟩ := HO
    refine wpG_v ho25.out rfl ?_ ?_
    · simp only [valsL_zero, valsL_succ]; apply FY_yes (d := 89) rfl ho23.out (by rfl) (by kernel_rfl); intro wx hx
      go_simp
      exact ⟨rfl, rfl⟩
    simp only [Act.put, List.setIfInBounds_toArray, List.set_cons_zero, List.set_cons_succ, valsL_zero, valsL_succ]
    obtain ⟨ho26, HO⟩ := HO
    refine wpG_v ho26.out rfl ?_ ?_
    · simp only [valsL_zero, valsL_succ]; apply FY_yes (d := 89) rfl ho23.out (by rfl) (by kernel_rfl); intro wx hx
      go_simp
      exact ⟨rfl, rfl⟩
    simp only [Act.put, List.setIfInBounds_toArray, List.set_cons_zero, List.set_cons_succ, valsL_zero, valsL_succ]
    obtain ⟨ho27, HO⟩ := HO
    refine wpG_v ho27.out rfl ?_ ?_
    · simp only [valsL_zero, valsL_succ]; apply FY_in rfl; intro wx hx
      go_simp
      exact ⟨rfl, rfl⟩
    simp only [Act.put, List.setIfInBounds_toArray, List.set_cons_zero, List.set_cons_succ, valsL_zero, valsL_succ]
    obtain ⟨ho28, HO⟩ := HO
    refine wpG_v ho28.out rfl ?_ ?_
    · simp only [valsL_zero, valsL_succ]; apply FY_in rfl; intro wx hx
      go_simp
      exact ⟨rfl, rfl⟩
    simp only [Act.put, List.setIfInBounds_toArray, List.set_cons_zero, List.set_cons_succ, valsL_zero, valsL_succ]
    obtain ⟨ho29, HO⟩ := HO
    refine wpG_v ho29.out rfl ?_ ?_
    · simp only [valsL_zero, valsL_succ]; apply FY_yes (d := 94) rfl ho28.out (by rfl) (by kernel_rfl); intro wx hx
      go_simp
      exact ⟨rfl, rfl⟩
    simp only [Act.put, List.setIfInBounds_toArray, List.set_cons_zero, List.set_cons_succ, valsL_zero, valsL_succ]
    obtain ⟨ho30, HO⟩ := HO
    refine wpG_v ho30.out rfl ?_ ?_
    · simp only [valsL_zero, valsL_succ]; apply FY_yes (d := 94) rfl ho28.out (by rfl) (by kernel_rfl); intro wx hx
      go_simp
      exact ⟨rfl, rfl⟩
    simp only [Act.put, List.setIfInBounds_toArray, List.set_cons_zero, List.set_cons_succ, valsL_zero, valsL_succ]
    obtain ⟨ho31, HO⟩ := HO
    refine wpG_v ho31.out rfl ?_ ?_
    · simp only [valsL_zero, valsL_succ]; apply FY_yes (d := 94) rfl ho28.out (by rfl) (by kernel_rfl); intro wx hx
      go_simp
      exact ⟨rfl, rfl⟩
    simp only [Act.put, List.setIfInBounds_toArray, List.set_cons_zero, List.set_cons_succ, valsL_zero, valsL_succ]
    obtain ⟨ho32, HO⟩ := HO
    refine wpG_v ho32.out rfl ?_ ?_
    · simp only [valsL_zero, valsL_succ]; apply FY_in rfl; intro wx hx
      go_simp
      exact ⟨rfl, rfl⟩
    simp only [Act.put, List.setIfInBounds_toArray, List.set_cons_zero, List.set_cons_succ, valsL_zero, valsL_succ]
    obtain ⟨ho33, HO⟩ := HO
    refine wpG_v ho33.out rfl ?_ ?_
    · simp only [valsL_zero, valsL_succ]; apply FY_in rfl; intro wx hx
      go_simp
      exact ⟨rfl, rfl⟩
    simp only [Act.put, List.setIfInBounds_toArray, List.set_cons_zero, List.set_cons_succ, valsL_zero, valsL_succ]
    obtain ⟨ho34, HO⟩ := HO
    refine wpG_v ho34.out rfl ?_ ?_
    · simp only [valsL_zero, valsL_succ]; apply FY_yes (d := 99) rfl ho33.out (by rfl) (by kernel_rfl); intro wx hx
      go_simp
      exact ⟨rfl, rfl⟩
    simp only [Act.put, List.setIfInBounds_toArray, List.set_cons_zero, List.set_cons_succ, valsL_zero, valsL_succ]
    obtain ⟨ho35, HO⟩ := HO
    refine wpG_v ho35.out rfl ?_ ?_
    · simp only [valsL_zero, valsL_succ]; apply FY_yes (d := 99) rfl ho33.out (by rfl) (by kernel_rfl); intro wx hx
      go_simp
      exact ⟨rfl, rfl⟩
    simp only [Act.put, List.setIfInBounds_toArray, List.set_cons_zero, List.set_cons_succ, valsL_zero, valsL_succ]
    obtain ⟨ho36, HO⟩ := HO
    refine wpG_v ho36.out rfl ?_ ?_
    · simp only [valsL_zero, valsL_succ]; apply FY_yes (d := 99) rfl ho33.out (by rfl) (by kernel_rfl); intro wx hx
      go_simp
      exact ⟨rfl, rfl⟩
    simp only [Act.put, List.setIfInBounds_toArray, List.set_cons_zero, List.set_cons_succ, valsL_zero, valsL_succ]
    obtain ⟨ho37, HO⟩ := HO
    refine wpG_v ho37.out rfl ?_ ?_
    · simp only [valsL_zero, valsL_succ]; apply FY_in rfl; intro wx hx
      go_simp
      exact ⟨rfl, rfl⟩
    simp only [Act.put, List.setIfInBounds_toArray, List.set_cons_zero, List.set_cons_succ, valsL_zero, valsL_succ]
    refine HQ.out _ _ ?_
    intro wr hf
    simp only [List.drop_succ_cons, List.drop_zero]
    clear HQ HO ho0 ho1 ho2 ho3 ho4 ho5 ho6 ho7 ho8 ho9 ho10 ho11 ho12 ho13 ho14 ho15 ho16 ho17 ho18 ho19 ho20 ho21 ho22 ho23 ho24 ho25 ho26 ho27 ho28 ho29 ho30 ho31 ho32 ho33 ho34 ho35 ho36 ho37
    have SE := hid (S14.out.step hf)
    clear hf
    go_wp2_with fail
    go_ret
    exact ⟨by first | rfl | simp, SE.out.now.1.1.1.1.1.1.below⟩
end Go.Proofs.YtonlmkcolndaaaaGreatDoor
