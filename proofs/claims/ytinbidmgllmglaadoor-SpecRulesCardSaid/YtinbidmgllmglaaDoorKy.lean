/- record.Bytes. No condition. -/
import Derived.Test.YtinbidmgllmglaaDoorKn
import Derived.Test.YtinbidmgllmglaaDoorCg
namespace Go.Proofs.YtinbidmgllmglaaDoor
set_option linter.unusedVariables false
set_option linter.unusedSimpArgs false
set_option maxRecDepth 20000
open Go.RowKit Cp

/-- The five numbers of a record, its text: the bytes; with the spec's numbers behind. -/
def wire6 (r : Rc) : List Int := (textW (numW (numW (numW (numW (numW [] r.k).1 r.e).1 r.w).1 r.n).1 r.q).1 r.t).1
def wireL (r : Rc) : List Int := if r.k = 3 then (listW (wire6 r) r.p.nums).1 else wire6 r
def bytesF (r : Rc) : List Int × Int := if rightB r = true then (wireL r, 0) else ([], 1)

set_option maxRecDepth 20000 in
set_option maxHeartbeats 4000000 in
theorem bytes_calls (r : Rc) (w : World) (hs : r.t.size ≤ 100000) : Calls Tryd.prog 11 #[r.val] w (Wrote w (bytesF r)) := by
  have HV : Hid (r.val = .agg #[.int .i64 r.k, .int .i64 r.e, .int .i64 r.w, .int .i64 r.n, .int .i64 r.q, .string r.t, .int .i64 r.p.s0, .int .i64 r.p.s1, .int .i64 r.p.s2, .int .i64 r.p.s3, .int .i64 r.p.s4, .int .i64 r.p.s5, .int .i64 r.p.s6, .int .i64 r.p.s7, .int .i64 r.p.s8, .int .i64 r.p.s9, .int .i64 r.p.s10, .int .i64 r.p.s11]) := rfl
  rw [HV.out]
  go_enter Tryd.func11, Tryd.ntmps11
  go_wp2_with (refine wpList_load_row rfl 26 (.tmp 1) (by with_reducible rfl) w.heap.size rfl _ _ _ _ (heap_alloc_last w _) Tryd.underlying26 rfl (by kernel_rfl) ?_)
  rw [← HV.out]
  refine (right_calls r _).mono ?_
  rintro _ w1 ⟨rfl, hf⟩
  obtain ⟨b, hb⟩ : ∃ b, b = w.heap.size := ⟨_, rfl⟩
  have HH := hid (hf.heap (heap_alloc_last w (.cells #[.int .i64 r.k, .int .i64 r.e, .int .i64 r.w, .int .i64 r.n, .int .i64 r.q, .string r.t, .int .i64 r.p.s0, .int .i64 r.p.s1, .int .i64 r.p.s2, .int .i64 r.p.s3, .int .i64 r.p.s4, .int .i64 r.p.s5, .int .i64 r.p.s6, .int .i64 r.p.s7, .int .i64 r.p.s8, .int .i64 r.p.s9, .int .i64 r.p.s10, .int .i64 r.p.s11] 26)) (fun h => h))
  have HF := hid (((Frm.refl M0 w).alloc (.cells #[.int .i64 r.k, .int .i64 r.e, .int .i64 r.w, .int .i64 r.n, .int .i64 r.q, .string r.t, .int .i64 r.p.s0, .int .i64 r.p.s1, .int .i64 r.p.s2, .int .i64 r.p.s3, .int .i64 r.p.s4, .int .i64 r.p.s5, .int .i64 r.p.s6, .int .i64 r.p.s7, .int .i64 r.p.s8, .int .i64 r.p.s9, .int .i64 r.p.s10, .int .i64 r.p.s11] 26)).then0 hf)
  rw [← hb] at HH ⊢
  rw [HV.out]
  clear hf hb
  obtain ⟨x, HX⟩ : ∃ x, Hid (rightB r = x) := ⟨_, rfl⟩
  rw [HX.out]
  cases x
  · go_wp2_with fail
    go_ret2
    have e : bytesF r = ([], 1) := by unfold bytesF; rw [HX.out]; rfl
    exact ⟨.slice none 0 0, by rw [e]; rfl, by rw [e]; exact Rd.nil _ _, HF.out⟩
  have HE : Hid (bytesF r = (wireL r, 0)) := hid (by unfold bytesF; rw [HX.out]; rfl)

  have c0 : w1.cell? ⟨b, 0, none⟩ = some (.int .i64 r.k) := cell_at HH.out 0
  have c1 : w1.cell? ⟨b, 1, none⟩ = some (.int .i64 r.e) := cell_at HH.out 1
  have c2 : w1.cell? ⟨b, 2, none⟩ = some (.int .i64 r.w) := cell_at HH.out 2
  have c3 : w1.cell? ⟨b, 3, none⟩ = some (.int .i64 r.n) := cell_at HH.out 3
  have c4 : w1.cell? ⟨b, 4, none⟩ = some (.int .i64 r.q) := cell_at HH.out 4
  go_wp2_with fail
  obtain ⟨g, hg⟩ : ∃ g, g = w1.heap.size := ⟨_, rfl⟩
  obtain ⟨w2, hw2⟩ : ∃ x, x = w1.alloc (.cells #[.int .i64 r.k, .int .i64 r.e, .int .i64 r.w, .int .i64 r.n, .int .i64 r.q] 3) := ⟨_, rfl⟩
  have G0 := hid (new1 w1 (.cells #[.int .i64 r.k, .int .i64 r.e, .int .i64 r.w, .int .i64 r.n, .int .i64 r.q] 3))
  have H0 := hid (((Frm.refl M0 w1).alloc (.cells #[.int .i64 r.k, .int .i64 r.e, .int .i64 r.w, .int .i64 r.n, .int .i64 r.q] 3)).heap HH.out (fun h => h))
  have F0 := hid (HF.out.alloc (.cells #[.int .i64 r.k, .int .i64 r.e, .int .i64 r.w, .int .i64 r.n, .int .i64 r.q] 3))
  rw [← hw2, ← hg] at G0
  rw [← hw2] at H0 F0
  rw [← hw2, ← hg]
  clear hw2 hg c0 c1 c2 c3 c4 HH HF HX
  obtain ⟨v0, hv0⟩ : ∃ v : Value, v = .slice none 0 0 := ⟨_, rfl⟩
  have R0 : Hid (Rd w2 1 v0 ([] : List Int).length (ints .u8 [])) := hid (by rw [hv0]; exact Rd.nil _ _)
  rw [← hv0]
  clear hv0
  obtain ⟨l0, HL0⟩ : ∃ l : List Int, Hid (l = []) := ⟨_, rfl⟩
  rw [← HL0.out] at R0
  have L0 : l0.length ≤ 0 := by rw [HL0.out]; simp
  refine wp_loop_rounds 6 ?_
  have hc : w2.cell? ⟨g, 0, none⟩ = some (.int .i64 r.k) := cell_at G0.out 0
  rw [rounds_succ]
  go_wp2_with fail
  refine (number_w v0 l0 r.k _ (by omega) R0.out).mono ?_
  rintro _ w3 ⟨v1, rfl, hr, hf⟩
  obtain ⟨l1, HL1⟩ : ∃ l : List Int, Hid (l = (numW l0 r.k).1) := ⟨_, rfl⟩
  rw [← HL1.out] at hr
  have L1 : l1.length ≤ 9 := by rw [HL1.out]; have := numW_len l0 r.k; omega
  have R1 := hid hr
  have G1 := hid (hf.heap G0.out (fun h => h))
  have H1 := hid (hf.heap H0.out (fun h => h))
  have F1 := hid (F0.out.then0 hf)
  clear hr hf hc R0 G0 H0 F0
  go_wp2_with fail
  have hc : w3.cell? ⟨g, 1, none⟩ = some (.int .i64 r.e) := cell_at G1.out 1
  rw [rounds_succ]
  go_wp2_with fail
  refine (number_w v1 l1 r.e _ (by omega) R1.out).mono ?_
  rintro _ w4 ⟨v2, rfl, hr, hf⟩
  obtain ⟨l2, HL2⟩ : ∃ l : List Int, Hid (l = (numW l1 r.e).1) := ⟨_, rfl⟩
  rw [← HL2.out] at hr
  have L2 : l2.length ≤ 18 := by rw [HL2.out]; have := numW_len l1 r.e; omega
  have R2 := hid hr
  have G2 := hid (hf.heap G1.out (fun h => h))
  have H2 := hid (hf.heap H1.out (fun h => h))
  have F2 := hid (F1.out.then0 hf)
  clear hr hf hc R1 G1 H1 F1
  go_wp2_with fail
  have hc : w4.cell? ⟨g, 2, none⟩ = some (.int .i64 r.w) := cell_at G2.out 2
  rw [rounds_succ]
  go_wp2_with fail
  refine (number_w v2 l2 r.w _ (by omega) R2.out).mono ?_
  rintro _ w5 ⟨v3, rfl, hr, hf⟩
  obtain ⟨l3, HL3⟩ : ∃ l : List Int, Hid (l = (numW l2 r.w).1) := ⟨_, rfl⟩
  rw [← HL3.out] at hr
  have L3 : l3.length ≤ 27 := by rw [HL3.out]; have := numW_len l2 r.w; omega
  have R3 := hid hr
  have G3 := hid (hf.heap G2.out (fun h => h))
  have H3 := hid (hf.heap H2.out (fun h => h))
  have F3 := hid (F2.out.then0 hf)
  clear hr hf hc R2 G2 H2 F2
  go_wp2_with fail
  have hc : w5.cell? ⟨g, 3, none⟩ = some (.int .i64 r.n) := cell_at G3.out 3
  rw [rounds_succ]
  go_wp2_with fail
  refine (number_w v3 l3 r.n _ (by omega) R3.out).mono ?_
  rintro _ w6 ⟨v4, rfl, hr, hf⟩
  obtain ⟨l4, HL4⟩ : ∃ l : List Int, Hid (l = (numW l3 r.n).1) := ⟨_, rfl⟩
  rw [← HL4.out] at hr
  have L4 : l4.length ≤ 36 := by rw [HL4.out]; have := numW_len l3 r.n; omega
  have R4 := hid hr
  have G4 := hid (hf.heap G3.out (fun h => h))
  have H4 := hid (hf.heap H3.out (fun h => h))
  have F4 := hid (F3.out.then0 hf)
  clear hr hf hc R3 G3 H3 F3
  go_wp2_with fail
  have hc : w6.cell? ⟨g, 4, none⟩ = some (.int .i64 r.q) := cell_at G4.out 4
  rw [rounds_succ]
  go_wp2_with fail
  refine (number_w v4 l4 r.q _ (by omega) R4.out).mono ?_
  rintro _ w7 ⟨v5, rfl, hr, hf⟩
  obtain ⟨l5, HL5⟩ : ∃ l : List Int, Hid (l = (numW l4 r.q).1) := ⟨_, rfl⟩
  rw [← HL5.out] at hr
  have L5 : l5.length ≤ 45 := by rw [HL5.out]; have := numW_len l4 r.q; omega
  have R5 := hid hr
  have G5 := hid (hf.heap G4.out (fun h => h))
  have H5 := hid (hf.heap H4.out (fun h => h))
  have F5 := hid (F4.out.then0 hf)
  clear hr hf hc R4 G4 H4 F4
  go_wp2_with fail
  rw [rounds_succ]
  have hc5 : w7.cell? ⟨b, 5, none⟩ = some (.string r.t) := cell_at H5.out 5
  go_wp2_with fail
  refine (text_w v5 l5 r.t _ (by omega) R5.out (by omega)).mono ?_
  rintro _ w8 ⟨v6, rfl, hr, hf⟩
  obtain ⟨l6, HL6⟩ : ∃ l : List Int, Hid (l = (textW l5 r.t).1) := ⟨_, rfl⟩
  rw [← HL6.out] at hr
  have L6 : l6.length ≤ 200 := by rw [HL6.out]; have := textW_len l5 r.t; omega
  have R6 := hid hr
  have H6 := hid (hf.heap H5.out (fun h => h))
  have F6 := hid (F5.out.then0 hf)
  clear hr hf hc5 R5 G5 H5 F5
  have HW : Hid (wire6 r = l6) := hid (by unfold wire6; rw [HL6.out, HL5.out, HL4.out, HL3.out, HL2.out, HL1.out, HL0.out])
  have hc0 : w8.cell? ⟨b, 0, none⟩ = some (.int .i64 r.k) := cell_at H6.out 0
  by_cases hk : r.k = 3
  case neg =>
    go_wp2_with fail
    go_ret2
    have e : wireL r = l6 := by unfold wireL; rw [if_neg hk, HW.out]
    exact ⟨v6, by rw [HE.out, e]; rfl, by rw [HE.out, e]; exact R6.out, F6.out⟩
  have HK := hid hk
  have d0 : w8.cell? ⟨b, 6, none⟩ = some (.int .i64 r.p.s0) := cell_at H6.out 6
  have d1 : w8.cell? ⟨b, 7, none⟩ = some (.int .i64 r.p.s1) := cell_at H6.out 7
  have d2 : w8.cell? ⟨b, 8, none⟩ = some (.int .i64 r.p.s2) := cell_at H6.out 8
  have d3 : w8.cell? ⟨b, 9, none⟩ = some (.int .i64 r.p.s3) := cell_at H6.out 9
  have d4 : w8.cell? ⟨b, 10, none⟩ = some (.int .i64 r.p.s4) := cell_at H6.out 10
  have d5 : w8.cell? ⟨b, 11, none⟩ = some (.int .i64 r.p.s5) := cell_at H6.out 11
  have d6 : w8.cell? ⟨b, 12, none⟩ = some (.int .i64 r.p.s6) := cell_at H6.out 12
  have d7 : w8.cell? ⟨b, 13, none⟩ = some (.int .i64 r.p.s7) := cell_at H6.out 13
  have d8 : w8.cell? ⟨b, 14, none⟩ = some (.int .i64 r.p.s8) := cell_at H6.out 14
  have d9 : w8.cell? ⟨b, 15, none⟩ = some (.int .i64 r.p.s9) := cell_at H6.out 15
  have d10 : w8.cell? ⟨b, 16, none⟩ = some (.int .i64 r.p.s10) := cell_at H6.out 16
  have d11 : w8.cell? ⟨b, 17, none⟩ = some (.int .i64 r.p.s11) := cell_at H6.out 17
  have HP : Hid (r.p.val = .agg #[.int .i64 r.p.s0, .int .i64 r.p.s1, .int .i64 r.p.s2, .int .i64 r.p.s3, .int .i64 r.p.s4, .int .i64 r.p.s5, .int .i64 r.p.s6, .int .i64 r.p.s7, .int .i64 r.p.s8, .int .i64 r.p.s9, .int .i64 r.p.s10, .int .i64 r.p.s11]) := rfl
  go_wp2_with fail
  rw [← HP.out]
  refine (fields_calls r.p _).mono ?_
  rintro _ w9 ⟨v7, rfl, ho, hf⟩
  have O7 := hid ho
  have R7 := hid (R6.out.frm0 hf)
  have F7 := hid (F6.out.then0 hf)
  clear ho hf hc0 d0 d1 d2 d3 d4 d5 d6 d7 d8 d9 d10 d11 hk
  go_wp2_with fail
  refine (list_w v6 v7 l6 r.p.nums _ (by omega) R7.out (by simp [Sp.nums]) (Rd.ofOwns O7.out)).mono ?_
  rintro _ w10 ⟨v8, rfl, hr, hf⟩
  have R8 := hid hr
  have F8 := hid (F7.out.then0 hf)
  clear hr hf
  go_wp2_with fail
  go_ret2
  have e : wireL r = (listW l6 r.p.nums).1 := by unfold wireL; rw [if_pos HK.out, HW.out]
  exact ⟨v8, by rw [HE.out, e]; rfl, by rw [HE.out, e]; exact R8.out, F8.out⟩
end Go.Proofs.YtinbidmgllmglaaDoor
