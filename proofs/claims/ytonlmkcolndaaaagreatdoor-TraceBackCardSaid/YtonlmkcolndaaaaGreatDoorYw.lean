/- What came in by value: a message, a step; a step whose text is short. No condition. -/
import Derived.Test.YtonlmkcolndaaaaGreatDoorTmd
namespace Go.Proofs.YtonlmkcolndaaaaGreatDoor
set_option linter.unusedVariables false
set_option linter.unusedSimpArgs false
set_option maxRecDepth 20000
open Go.RowKit Go.ChangeShapes Go.WideShapes

def Mg.cells (m : Mg) : List Value := [.int .i64 m.k, .int .i64 m.e, .int .i64 m.s, .int .i64 m.u, .int .i64 m.v, .int .i64 m.t]
def Mg.ok (m : Mg) : Prop := wfi m.k ∧ wfi m.e ∧ wfi m.s ∧ wfi m.u ∧ wfi m.v ∧ wfi m.t
def Ot.cells (o : Ot) : List Value := [.int .i64 o.d, .int .i64 o.e] ++ o.r.cells ++ o.m.cells
def Ot.ok (o : Ot) : Prop := wfi o.d ∧ wfi o.e ∧ o.r.ok ∧ o.m.ok
section
variable {H : Type} {enc : TypeId × Value → H} {w : World} {base : Nat} {spare : Nat → Bool} {held : Bool}
theorem mg_trod {fuel : Nat} {cs : List Value} {x : DataW H × List MemPlace} (h : DataW.trod enc Tryz.prog w base spare held fuel 29 cs = some x) : ∃ m : Mg, cs = m.cells ∧ m.ok := by
  obtain ⟨xs, n, _, _, hc, hl, hf⟩ := DataW.trod_struct Tryz.underlying29 h
  have hc6 : cs.length = 6 := hc.trans (by kernel_rfl)
  have h1 : Tryz.prog.cellsOf 3 = 1 := by kernel_rfl
  have hl6 : xs.length = 6 := hl
  match cs, hc6 with
  | [c0, c1, c2, c3, c4, c5], _ =>
    have fi : ∀ (i : Nat) (f : Field) (c : Value), f.type = 3 → DataW.trod enc Tryz.prog w base spare held n f.type (([c0, c1, c2, c3, c4, c5].drop f.offset).take (Tryz.prog.cellsOf f.type)) = xs[i]? → i < 6 →
        ([c0, c1, c2, c3, c4, c5].drop f.offset).take 1 = [c] → ∃ z, c = .int .i64 z ∧ wfi z := by
      intro i f c ht hh hi hcc
      rw [ht, h1, hcc] at hh
      obtain ⟨y, e⟩ := of_get hh (by omega)
      exact fld_int e
    obtain ⟨z0, rfl, w0⟩ := fi 0 _ c0 rfl (hf 0 _ rfl) (by omega) rfl
    obtain ⟨z1, rfl, w1⟩ := fi 1 _ c1 rfl (hf 1 _ rfl) (by omega) rfl
    obtain ⟨z2, rfl, w2⟩ := fi 2 _ c2 rfl (hf 2 _ rfl) (by omega) rfl
    obtain ⟨z3, rfl, w3⟩ := fi 3 _ c3 rfl (hf 3 _ rfl) (by omega) rfl
    obtain ⟨z4, rfl, w4⟩ := fi 4 _ c4 rfl (hf 4 _ rfl) (by omega) rfl
    obtain ⟨z5, rfl, w5⟩ := fi 5 _ c5 rfl (hf 5 _ rfl) (by omega) rfl
    exact ⟨⟨z0, z1, z2, z3, z4, z5⟩, rfl, w0, w1, w2, w3, w4, w5⟩
theorem ot_trod {fuel : Nat} {cs : List Value} {x : DataW H × List MemPlace} (h : DataW.trod enc Tryz.prog w base spare held fuel 31 cs = some x) : ∃ o : Ot, cs = o.cells ∧ o.ok := by
  obtain ⟨xs, n, _, _, hc, hl, hf⟩ := DataW.trod_struct Tryz.underlying31 h
  have hc26 : cs.length = 26 := hc.trans (by kernel_rfl)
  have h1 : Tryz.prog.cellsOf 3 = 1 := by kernel_rfl
  have hl4 : xs.length = 4 := hl
  match cs, hc26 with
  | [c0, c1, c2, c3, c4, c5, c6, c7, c8, c9, c10, c11, c12, c13, c14, c15, c16, c17, c18, c19, c20, c21, c22, c23, c24, c25], _ =>
    have h0 : DataW.trod enc Tryz.prog w base spare held n 3 [c0] = xs[0]? := hf 0 _ rfl
    obtain ⟨y0, e0⟩ := of_get h0 (by omega)
    obtain ⟨d, rfl, wd0⟩ := fld_int e0
    have h1e : DataW.trod enc Tryz.prog w base spare held n 22 [c1] = xs[1]? := hf 1 _ rfl
    obtain ⟨y1, e1⟩ := of_get h1e (by omega)
    obtain ⟨e, he, _, we⟩ := DataW.trod_int Tryz.underlying22 e1
    simp only [List.cons.injEq, and_true] at he
    subst he
    have h2 : DataW.trod enc Tryz.prog w base spare held n 27 [c2, c3, c4, c5, c6, c7, c8, c9, c10, c11, c12, c13, c14, c15, c16, c17, c18, c19] = xs[2]? := hf 2 _ rfl
    obtain ⟨y2, e2⟩ := of_get h2 (by omega)
    obtain ⟨r, hr, wr⟩ := rec_trod e2
    simp only [Rc.cells, List.cons.injEq, and_true] at hr
    obtain ⟨rfl, rfl, rfl, rfl, rfl, rfl, rfl, rfl, rfl, rfl, rfl, rfl, rfl, rfl, rfl, rfl, rfl, rfl⟩ := hr
    have h3 : DataW.trod enc Tryz.prog w base spare held n 29 [c20, c21, c22, c23, c24, c25] = xs[3]? := hf 3 _ rfl
    obtain ⟨y3, e3⟩ := of_get h3 (by omega)
    obtain ⟨m, hm, wm⟩ := mg_trod e3
    simp only [Mg.cells, List.cons.injEq, and_true] at hm
    obtain ⟨rfl, rfl, rfl, rfl, rfl, rfl⟩ := hm
    exact ⟨⟨d, e, r, m⟩, rfl, wd0, we, wr, wm⟩
end

def shortT (t : ByteArray) : ByteArray := if t.size ≤ 70 then t else t.extract 0 70
def shortO (o : Ot) : Ot := ⟨o.d, o.e, ⟨o.r.k, o.r.e, o.r.w, o.r.n, o.r.q, shortT o.r.t, o.r.p⟩, o.m⟩
theorem shortT_size (t : ByteArray) : (shortT t).size ≤ 70 := by
  unfold shortT
  split
  · assumption
  · rw [ByteArray.size_extract]; omega
theorem rc_ok_fine (k e v n q : Int) (t : ByteArray) (p : Sp) (h : (⟨k, e, v, n, q, t, p⟩ : Rc).ok) (t2 : ByteArray) (h2 : t2.size ≤ 100000) : (⟨k, e, v, n, q, t2, p⟩ : Rc).fine := by
  obtain ⟨⟨h0, h1, h2', h3, h4⟩, ht, ⟨p0, p1, p2, p3, p4⟩, ⟨p5, p6, p7, p8⟩, p9, p10, p11⟩ := h
  refine ⟨?_, h2, fun _ => ?_⟩
  · intro x hx
    simp only [Rc.four, List.mem_cons, List.not_mem_nil, or_false] at hx
    rcases hx with rfl | rfl | rfl | rfl
    · exact wf_i64 h1
    · exact wf_i64 h2'
    · exact wf_i64 h3
    · exact wf_i64 h4
  · intro x hx
    simp only [Sp.nums, List.mem_cons, List.not_mem_nil, or_false] at hx
    rcases hx with rfl | rfl | rfl | rfl | rfl | rfl | rfl | rfl | rfl | rfl | rfl | rfl
    · exact wf_i64 p0
    · exact wf_i64 p1
    · exact wf_i64 p2
    · exact wf_i64 p3
    · exact wf_i64 p4
    · exact wf_i64 p5
    · exact wf_i64 p6
    · exact wf_i64 p7
    · exact wf_i64 p8
    · exact wf_i64 p9
    · exact wf_i64 p10
    · exact wf_i64 p11
set_option maxRecDepth 20000 in
set_option maxHeartbeats 4000000 in
theorem oshort_calls (o : Ot) (w : World) (ht : o.r.t.size ≤ 9223372036854775807) : Calls Tryz.prog 9 #[o.val] w fun e w' => e = .returned (shortO o).val ∧ Frm M0 w w' := by
  have HV : Hid (o.val = .agg #[.int .i64 o.d, .int .i64 o.e, .int .i64 o.r.k, .int .i64 o.r.e, .int .i64 o.r.w, .int .i64 o.r.n, .int .i64 o.r.q, .string o.r.t, .int .i64 o.r.p.s0, .int .i64 o.r.p.s1, .int .i64 o.r.p.s2, .int .i64 o.r.p.s3, .int .i64 o.r.p.s4, .int .i64 o.r.p.s5, .int .i64 o.r.p.s6, .int .i64 o.r.p.s7, .int .i64 o.r.p.s8, .int .i64 o.r.p.s9, .int .i64 o.r.p.s10, .int .i64 o.r.p.s11, .int .i64 o.m.k, .int .i64 o.m.e, .int .i64 o.m.s, .int .i64 o.m.u, .int .i64 o.m.v, .int .i64 o.m.t]) := rfl
  rw [HV.out]
  by_cases h : o.r.t.size ≤ 70
  · have h1 : min (o.r.t.size : Int) 70 = o.r.t.size := by omega
    have HS : Hid (shortO o = o) := hid (by unfold shortO shortT; rw [if_pos h])
    clear h
    go_enter Tryz.func9, Tryz.ntmps9
    go_upto_region 2 with fail
    obtain ⟨hA, hZ⟩ := new2 w (.cells #[.int .i64 o.d, .int .i64 o.e, .int .i64 o.r.k, .int .i64 o.r.e, .int .i64 o.r.w, .int .i64 o.r.n, .int .i64 o.r.q, .string (o.r.t), .int .i64 o.r.p.s0, .int .i64 o.r.p.s1, .int .i64 o.r.p.s2, .int .i64 o.r.p.s3, .int .i64 o.r.p.s4, .int .i64 o.r.p.s5, .int .i64 o.r.p.s6, .int .i64 o.r.p.s7, .int .i64 o.r.p.s8, .int .i64 o.r.p.s9, .int .i64 o.r.p.s10, .int .i64 o.r.p.s11, .int .i64 o.m.k, .int .i64 o.m.e, .int .i64 o.m.s, .int .i64 o.m.u, .int .i64 o.m.v, .int .i64 o.m.t] 31) (.cells #[.int .i64 0, .int .i64 0, .int .i64 0, .int .i64 0, .int .i64 0, .int .i64 0, .int .i64 0, .string ⟨#[]⟩, .int .i64 0, .int .i64 0, .int .i64 0, .int .i64 0, .int .i64 0, .int .i64 0, .int .i64 0, .int .i64 0, .int .i64 0, .int .i64 0, .int .i64 0, .int .i64 0, .int .i64 0, .int .i64 0, .int .i64 0, .int .i64 0, .int .i64 0, .int .i64 0] 31)
    have hF := ((Frm.refl M0 w).alloc (.cells #[.int .i64 o.d, .int .i64 o.e, .int .i64 o.r.k, .int .i64 o.r.e, .int .i64 o.r.w, .int .i64 o.r.n, .int .i64 o.r.q, .string (o.r.t), .int .i64 o.r.p.s0, .int .i64 o.r.p.s1, .int .i64 o.r.p.s2, .int .i64 o.r.p.s3, .int .i64 o.r.p.s4, .int .i64 o.r.p.s5, .int .i64 o.r.p.s6, .int .i64 o.r.p.s7, .int .i64 o.r.p.s8, .int .i64 o.r.p.s9, .int .i64 o.r.p.s10, .int .i64 o.r.p.s11, .int .i64 o.m.k, .int .i64 o.m.e, .int .i64 o.m.s, .int .i64 o.m.u, .int .i64 o.m.v, .int .i64 o.m.t] 31)).alloc (.cells #[.int .i64 0, .int .i64 0, .int .i64 0, .int .i64 0, .int .i64 0, .int .i64 0, .int .i64 0, .string ⟨#[]⟩, .int .i64 0, .int .i64 0, .int .i64 0, .int .i64 0, .int .i64 0, .int .i64 0, .int .i64 0, .int .i64 0, .int .i64 0, .int .i64 0, .int .i64 0, .int .i64 0, .int .i64 0, .int .i64 0, .int .i64 0, .int .i64 0, .int .i64 0, .int .i64 0] 31)
    obtain ⟨w1, hw1⟩ : ∃ x, x = (w.alloc (.cells #[.int .i64 o.d, .int .i64 o.e, .int .i64 o.r.k, .int .i64 o.r.e, .int .i64 o.r.w, .int .i64 o.r.n, .int .i64 o.r.q, .string (o.r.t), .int .i64 o.r.p.s0, .int .i64 o.r.p.s1, .int .i64 o.r.p.s2, .int .i64 o.r.p.s3, .int .i64 o.r.p.s4, .int .i64 o.r.p.s5, .int .i64 o.r.p.s6, .int .i64 o.r.p.s7, .int .i64 o.r.p.s8, .int .i64 o.r.p.s9, .int .i64 o.r.p.s10, .int .i64 o.r.p.s11, .int .i64 o.m.k, .int .i64 o.m.e, .int .i64 o.m.s, .int .i64 o.m.u, .int .i64 o.m.v, .int .i64 o.m.t] 31)).alloc (.cells #[.int .i64 0, .int .i64 0, .int .i64 0, .int .i64 0, .int .i64 0, .int .i64 0, .int .i64 0, .string ⟨#[]⟩, .int .i64 0, .int .i64 0, .int .i64 0, .int .i64 0, .int .i64 0, .int .i64 0, .int .i64 0, .int .i64 0, .int .i64 0, .int .i64 0, .int .i64 0, .int .i64 0, .int .i64 0, .int .i64 0, .int .i64 0, .int .i64 0, .int .i64 0, .int .i64 0] 31) := ⟨_, rfl⟩
    rw [← hw1] at hA hZ hF
    rw [← hw1]
    clear hw1
    have HA := hid hA
    have HZ := hid hZ
    have HF := hid hF
    clear hA hZ hF
    go_wp2_with (first | (refine wpList_load_row_w (by kernel_rfl) 31 (.tmp 1) (by with_reducible rfl) w.heap.size (by kernel_rfl) _ _ _ _ HA.out Tryz.underlying31 rfl (by kernel_rfl) ?_) | (refine wpList_store_row rfl 31 (.tmp 2) (.tmp 14) (by with_reducible rfl) (w.heap.size + 1) #[.int .i64 o.d, .int .i64 o.e, .int .i64 o.r.k, .int .i64 o.r.e, .int .i64 o.r.w, .int .i64 o.r.n, .int .i64 o.r.q, .string (o.r.t), .int .i64 o.r.p.s0, .int .i64 o.r.p.s1, .int .i64 o.r.p.s2, .int .i64 o.r.p.s3, .int .i64 o.r.p.s4, .int .i64 o.r.p.s5, .int .i64 o.r.p.s6, .int .i64 o.r.p.s7, .int .i64 o.r.p.s8, .int .i64 o.r.p.s9, .int .i64 o.r.p.s10, .int .i64 o.r.p.s11, .int .i64 o.m.k, .int .i64 o.m.e, .int .i64 o.m.s, .int .i64 o.m.u, .int .i64 o.m.v, .int .i64 o.m.t] (by kernel_rfl) (by kernel_rfl) _ _ HZ.out (by kernel_rfl) (by rfl) (by simp [Value.oneCell']) ?_))
    refine bodyPost_ret (v := .agg #[.int .i64 o.d, .int .i64 o.e, .int .i64 o.r.k, .int .i64 o.r.e, .int .i64 o.r.w, .int .i64 o.r.n, .int .i64 o.r.q, .string (o.r.t), .int .i64 o.r.p.s0, .int .i64 o.r.p.s1, .int .i64 o.r.p.s2, .int .i64 o.r.p.s3, .int .i64 o.r.p.s4, .int .i64 o.r.p.s5, .int .i64 o.r.p.s6, .int .i64 o.r.p.s7, .int .i64 o.r.p.s8, .int .i64 o.r.p.s9, .int .i64 o.r.p.s10, .int .i64 o.r.p.s11, .int .i64 o.m.k, .int .i64 o.m.e, .int .i64 o.m.s, .int .i64 o.m.u, .int .i64 o.m.v, .int .i64 o.m.t]) ?_ ?_ ?_
    · exact results_cell_row (by rfl) _ _ (w.heap.size + 1) _ _ _ _ (by kernel_rfl) (setRow_heap _ _ _ _ _ _ HZ.out) Tryz.underlying31 rfl (by kernel_rfl)
    · rfl
    · exact ⟨by rw [HS.out]; rfl, HF.out.setRow _ _ (by omega)⟩
  · have h1 : min (o.r.t.size : Int) 70 = 70 := by omega
    have HS : Hid (shortO o = ⟨o.d, o.e, ⟨o.r.k, o.r.e, o.r.w, o.r.n, o.r.q, o.r.t.extract 0 70, o.r.p⟩, o.m⟩) := hid (by unfold shortO shortT; rw [if_neg h])
    have h2 : 70 ≤ o.r.t.size := by omega
    clear h
    go_enter Tryz.func9, Tryz.ntmps9
    go_upto_region 2 with fail
    obtain ⟨hA, hZ⟩ := new2 w (.cells #[.int .i64 o.d, .int .i64 o.e, .int .i64 o.r.k, .int .i64 o.r.e, .int .i64 o.r.w, .int .i64 o.r.n, .int .i64 o.r.q, .string (o.r.t.extract 0 70), .int .i64 o.r.p.s0, .int .i64 o.r.p.s1, .int .i64 o.r.p.s2, .int .i64 o.r.p.s3, .int .i64 o.r.p.s4, .int .i64 o.r.p.s5, .int .i64 o.r.p.s6, .int .i64 o.r.p.s7, .int .i64 o.r.p.s8, .int .i64 o.r.p.s9, .int .i64 o.r.p.s10, .int .i64 o.r.p.s11, .int .i64 o.m.k, .int .i64 o.m.e, .int .i64 o.m.s, .int .i64 o.m.u, .int .i64 o.m.v, .int .i64 o.m.t] 31) (.cells #[.int .i64 0, .int .i64 0, .int .i64 0, .int .i64 0, .int .i64 0, .int .i64 0, .int .i64 0, .string ⟨#[]⟩, .int .i64 0, .int .i64 0, .int .i64 0, .int .i64 0, .int .i64 0, .int .i64 0, .int .i64 0, .int .i64 0, .int .i64 0, .int .i64 0, .int .i64 0, .int .i64 0, .int .i64 0, .int .i64 0, .int .i64 0, .int .i64 0, .int .i64 0, .int .i64 0] 31)
    have hF := ((Frm.refl M0 w).alloc (.cells #[.int .i64 o.d, .int .i64 o.e, .int .i64 o.r.k, .int .i64 o.r.e, .int .i64 o.r.w, .int .i64 o.r.n, .int .i64 o.r.q, .string (o.r.t.extract 0 70), .int .i64 o.r.p.s0, .int .i64 o.r.p.s1, .int .i64 o.r.p.s2, .int .i64 o.r.p.s3, .int .i64 o.r.p.s4, .int .i64 o.r.p.s5, .int .i64 o.r.p.s6, .int .i64 o.r.p.s7, .int .i64 o.r.p.s8, .int .i64 o.r.p.s9, .int .i64 o.r.p.s10, .int .i64 o.r.p.s11, .int .i64 o.m.k, .int .i64 o.m.e, .int .i64 o.m.s, .int .i64 o.m.u, .int .i64 o.m.v, .int .i64 o.m.t] 31)).alloc (.cells #[.int .i64 0, .int .i64 0, .int .i64 0, .int .i64 0, .int .i64 0, .int .i64 0, .int .i64 0, .string ⟨#[]⟩, .int .i64 0, .int .i64 0, .int .i64 0, .int .i64 0, .int .i64 0, .int .i64 0, .int .i64 0, .int .i64 0, .int .i64 0, .int .i64 0, .int .i64 0, .int .i64 0, .int .i64 0, .int .i64 0, .int .i64 0, .int .i64 0, .int .i64 0, .int .i64 0] 31)
    obtain ⟨w1, hw1⟩ : ∃ x, x = (w.alloc (.cells #[.int .i64 o.d, .int .i64 o.e, .int .i64 o.r.k, .int .i64 o.r.e, .int .i64 o.r.w, .int .i64 o.r.n, .int .i64 o.r.q, .string (o.r.t.extract 0 70), .int .i64 o.r.p.s0, .int .i64 o.r.p.s1, .int .i64 o.r.p.s2, .int .i64 o.r.p.s3, .int .i64 o.r.p.s4, .int .i64 o.r.p.s5, .int .i64 o.r.p.s6, .int .i64 o.r.p.s7, .int .i64 o.r.p.s8, .int .i64 o.r.p.s9, .int .i64 o.r.p.s10, .int .i64 o.r.p.s11, .int .i64 o.m.k, .int .i64 o.m.e, .int .i64 o.m.s, .int .i64 o.m.u, .int .i64 o.m.v, .int .i64 o.m.t] 31)).alloc (.cells #[.int .i64 0, .int .i64 0, .int .i64 0, .int .i64 0, .int .i64 0, .int .i64 0, .int .i64 0, .string ⟨#[]⟩, .int .i64 0, .int .i64 0, .int .i64 0, .int .i64 0, .int .i64 0, .int .i64 0, .int .i64 0, .int .i64 0, .int .i64 0, .int .i64 0, .int .i64 0, .int .i64 0, .int .i64 0, .int .i64 0, .int .i64 0, .int .i64 0, .int .i64 0, .int .i64 0] 31) := ⟨_, rfl⟩
    rw [← hw1] at hA hZ hF
    rw [← hw1]
    clear hw1
    have HA := hid hA
    have HZ := hid hZ
    have HF := hid hF
    clear hA hZ hF
    go_wp2_with (first | (refine wpList_load_row_w (by kernel_rfl) 31 (.tmp 1) (by with_reducible rfl) w.heap.size (by kernel_rfl) _ _ _ _ HA.out Tryz.underlying31 rfl (by kernel_rfl) ?_) | (refine wpList_store_row rfl 31 (.tmp 2) (.tmp 14) (by with_reducible rfl) (w.heap.size + 1) #[.int .i64 o.d, .int .i64 o.e, .int .i64 o.r.k, .int .i64 o.r.e, .int .i64 o.r.w, .int .i64 o.r.n, .int .i64 o.r.q, .string (o.r.t.extract 0 70), .int .i64 o.r.p.s0, .int .i64 o.r.p.s1, .int .i64 o.r.p.s2, .int .i64 o.r.p.s3, .int .i64 o.r.p.s4, .int .i64 o.r.p.s5, .int .i64 o.r.p.s6, .int .i64 o.r.p.s7, .int .i64 o.r.p.s8, .int .i64 o.r.p.s9, .int .i64 o.r.p.s10, .int .i64 o.r.p.s11, .int .i64 o.m.k, .int .i64 o.m.e, .int .i64 o.m.s, .int .i64 o.m.u, .int .i64 o.m.v, .int .i64 o.m.t] (by kernel_rfl) (by kernel_rfl) _ _ HZ.out (by kernel_rfl) (by rfl) (by simp [Value.oneCell']) ?_))
    refine bodyPost_ret (v := .agg #[.int .i64 o.d, .int .i64 o.e, .int .i64 o.r.k, .int .i64 o.r.e, .int .i64 o.r.w, .int .i64 o.r.n, .int .i64 o.r.q, .string (o.r.t.extract 0 70), .int .i64 o.r.p.s0, .int .i64 o.r.p.s1, .int .i64 o.r.p.s2, .int .i64 o.r.p.s3, .int .i64 o.r.p.s4, .int .i64 o.r.p.s5, .int .i64 o.r.p.s6, .int .i64 o.r.p.s7, .int .i64 o.r.p.s8, .int .i64 o.r.p.s9, .int .i64 o.r.p.s10, .int .i64 o.r.p.s11, .int .i64 o.m.k, .int .i64 o.m.e, .int .i64 o.m.s, .int .i64 o.m.u, .int .i64 o.m.v, .int .i64 o.m.t]) ?_ ?_ ?_
    · exact results_cell_row (by rfl) _ _ (w.heap.size + 1) _ _ _ _ (by kernel_rfl) (setRow_heap _ _ _ _ _ _ HZ.out) Tryz.underlying31 rfl (by kernel_rfl)
    · rfl
    · exact ⟨by rw [HS.out]; rfl, HF.out.setRow _ _ (by omega)⟩

set_option maxRecDepth 20000 in
set_option maxHeartbeats 8000000 in
theorem traceLines_walk (W : World) (hg : Glob W) (o : Ot) (hok : o.ok) :
    Calls Tryz.prog 3 #[o.val] W fun y w' => y = .returned (.bool true) ∧ Below W.heap.size W w' := by
  have hts : o.r.t.size ≤ 9223372036854775807 := hok.2.2.1.2.1
  have HG := hid hg
  obtain ⟨s, HS⟩ : ∃ s, Hid (shortO o = s) := ⟨_, rfl⟩
  have HFI : Hid s.r.fine := hid (by rw [← HS.out]; exact rc_ok_fine _ _ _ _ _ o.r.t _ hok.2.2.1 _ (by have := shortT_size o.r.t; omega))
  clear hok hg
  have HVo : Hid (o.val = .agg #[.int .i64 o.d, .int .i64 o.e, .int .i64 o.r.k, .int .i64 o.r.e, .int .i64 o.r.w, .int .i64 o.r.n, .int .i64 o.r.q, .string o.r.t, .int .i64 o.r.p.s0, .int .i64 o.r.p.s1, .int .i64 o.r.p.s2, .int .i64 o.r.p.s3, .int .i64 o.r.p.s4, .int .i64 o.r.p.s5, .int .i64 o.r.p.s6, .int .i64 o.r.p.s7, .int .i64 o.r.p.s8, .int .i64 o.r.p.s9, .int .i64 o.r.p.s10, .int .i64 o.r.p.s11, .int .i64 o.m.k, .int .i64 o.m.e, .int .i64 o.m.s, .int .i64 o.m.u, .int .i64 o.m.v, .int .i64 o.m.t]) := rfl
  have HVs : Hid (s.val = .agg #[.int .i64 s.d, .int .i64 s.e, .int .i64 s.r.k, .int .i64 s.r.e, .int .i64 s.r.w, .int .i64 s.r.n, .int .i64 s.r.q, .string s.r.t, .int .i64 s.r.p.s0, .int .i64 s.r.p.s1, .int .i64 s.r.p.s2, .int .i64 s.r.p.s3, .int .i64 s.r.p.s4, .int .i64 s.r.p.s5, .int .i64 s.r.p.s6, .int .i64 s.r.p.s7, .int .i64 s.r.p.s8, .int .i64 s.r.p.s9, .int .i64 s.r.p.s10, .int .i64 s.r.p.s11, .int .i64 s.m.k, .int .i64 s.m.e, .int .i64 s.m.s, .int .i64 s.m.u, .int .i64 s.m.v, .int .i64 s.m.t]) := rfl
  have HVm : Hid (s.m.val = .agg #[.int .i64 s.m.k, .int .i64 s.m.e, .int .i64 s.m.s, .int .i64 s.m.u, .int .i64 s.m.v, .int .i64 s.m.t]) := rfl
  rw [HVo.out]
  go_enter Tryz.func3, Tryz.ntmps3
  go_wp2_with fail
  refine (tlives_calls _ (HG.out.frm ((Frm.refl M0 W).alloc _))).mono ?_
  rintro _ w1 ⟨rfl, hf⟩
  obtain ⟨b, hb⟩ : ∃ x, x = W.heap.size := ⟨_, rfl⟩
  have H1 := hid (hf.heap (new1 W (.cells #[.int .i64 o.d, .int .i64 o.e, .int .i64 o.r.k, .int .i64 o.r.e, .int .i64 o.r.w, .int .i64 o.r.n, .int .i64 o.r.q, .string o.r.t, .int .i64 o.r.p.s0, .int .i64 o.r.p.s1, .int .i64 o.r.p.s2, .int .i64 o.r.p.s3, .int .i64 o.r.p.s4, .int .i64 o.r.p.s5, .int .i64 o.r.p.s6, .int .i64 o.r.p.s7, .int .i64 o.r.p.s8, .int .i64 o.r.p.s9, .int .i64 o.r.p.s10, .int .i64 o.r.p.s11, .int .i64 o.m.k, .int .i64 o.m.e, .int .i64 o.m.s, .int .i64 o.m.u, .int .i64 o.m.v, .int .i64 o.m.t] 31)) (fun h => h))
  have F1 := hid (((Frm.refl M0 W).alloc (.cells #[.int .i64 o.d, .int .i64 o.e, .int .i64 o.r.k, .int .i64 o.r.e, .int .i64 o.r.w, .int .i64 o.r.n, .int .i64 o.r.q, .string o.r.t, .int .i64 o.r.p.s0, .int .i64 o.r.p.s1, .int .i64 o.r.p.s2, .int .i64 o.r.p.s3, .int .i64 o.r.p.s4, .int .i64 o.r.p.s5, .int .i64 o.r.p.s6, .int .i64 o.r.p.s7, .int .i64 o.r.p.s8, .int .i64 o.r.p.s9, .int .i64 o.r.p.s10, .int .i64 o.r.p.s11, .int .i64 o.m.k, .int .i64 o.m.e, .int .i64 o.m.s, .int .i64 o.m.u, .int .i64 o.m.v, .int .i64 o.m.t] 31)).then0 hf)
  rw [← hb] at H1 ⊢
  have HB := hid hb
  clear hf hb
  go_wp2_with (refine wpList_load_row_w (by kernel_rfl) 31 (.tmp 1) (by with_reducible rfl) b (by kernel_rfl) _ _ _ _ H1.out Tryz.underlying31 rfl (by kernel_rfl) ?_)
  rw [← HVo.out]
  refine (oshort_calls o _ hts).mono ?_
  rintro _ w2 ⟨rfl, hf⟩
  rw [HS.out, HVs.out]
  have H2 := hid (hf.heap H1.out (fun h => h))
  have F2 := hid (F1.out.then0 hf)
  clear hf H1 F1
  go_upto_region 4 with (refine wpList_store_row rfl 31 (.tmp 1) (.tmp 6) (by with_reducible rfl) b #[.int .i64 s.d, .int .i64 s.e, .int .i64 s.r.k, .int .i64 s.r.e, .int .i64 s.r.w, .int .i64 s.r.n, .int .i64 s.r.q, .string s.r.t, .int .i64 s.r.p.s0, .int .i64 s.r.p.s1, .int .i64 s.r.p.s2, .int .i64 s.r.p.s3, .int .i64 s.r.p.s4, .int .i64 s.r.p.s5, .int .i64 s.r.p.s6, .int .i64 s.r.p.s7, .int .i64 s.r.p.s8, .int .i64 s.r.p.s9, .int .i64 s.r.p.s10, .int .i64 s.r.p.s11, .int .i64 s.m.k, .int .i64 s.m.e, .int .i64 s.m.s, .int .i64 s.m.u, .int .i64 s.m.v, .int .i64 s.m.t] (by kernel_rfl) (by kernel_rfl) _ _ H2.out (by kernel_rfl) (by rfl) (by simp [Value.oneCell']) ?_)
  have h3 := setRow_heap w2 b _ #[.int .i64 s.d, .int .i64 s.e, .int .i64 s.r.k, .int .i64 s.r.e, .int .i64 s.r.w, .int .i64 s.r.n, .int .i64 s.r.q, .string s.r.t, .int .i64 s.r.p.s0, .int .i64 s.r.p.s1, .int .i64 s.r.p.s2, .int .i64 s.r.p.s3, .int .i64 s.r.p.s4, .int .i64 s.r.p.s5, .int .i64 s.r.p.s6, .int .i64 s.r.p.s7, .int .i64 s.r.p.s8, .int .i64 s.r.p.s9, .int .i64 s.r.p.s10, .int .i64 s.r.p.s11, .int .i64 s.m.k, .int .i64 s.m.e, .int .i64 s.m.s, .int .i64 s.m.u, .int .i64 s.m.v, .int .i64 s.m.t] _ _ H2.out
  have f3 := F2.out.setRow b #[.int .i64 s.d, .int .i64 s.e, .int .i64 s.r.k, .int .i64 s.r.e, .int .i64 s.r.w, .int .i64 s.r.n, .int .i64 s.r.q, .string s.r.t, .int .i64 s.r.p.s0, .int .i64 s.r.p.s1, .int .i64 s.r.p.s2, .int .i64 s.r.p.s3, .int .i64 s.r.p.s4, .int .i64 s.r.p.s5, .int .i64 s.r.p.s6, .int .i64 s.r.p.s7, .int .i64 s.r.p.s8, .int .i64 s.r.p.s9, .int .i64 s.r.p.s10, .int .i64 s.r.p.s11, .int .i64 s.m.k, .int .i64 s.m.e, .int .i64 s.m.s, .int .i64 s.m.u, .int .i64 s.m.v, .int .i64 s.m.t] (by have := HB.out; omega)
  obtain ⟨w3, hw3⟩ : ∃ x, x = w2.setRow b #[.int .i64 s.d, .int .i64 s.e, .int .i64 s.r.k, .int .i64 s.r.e, .int .i64 s.r.w, .int .i64 s.r.n, .int .i64 s.r.q, .string s.r.t, .int .i64 s.r.p.s0, .int .i64 s.r.p.s1, .int .i64 s.r.p.s2, .int .i64 s.r.p.s3, .int .i64 s.r.p.s4, .int .i64 s.r.p.s5, .int .i64 s.r.p.s6, .int .i64 s.r.p.s7, .int .i64 s.r.p.s8, .int .i64 s.r.p.s9, .int .i64 s.r.p.s10, .int .i64 s.r.p.s11, .int .i64 s.m.k, .int .i64 s.m.e, .int .i64 s.m.s, .int .i64 s.m.u, .int .i64 s.m.v, .int .i64 s.m.t] := ⟨_, rfl⟩
  rw [← hw3] at h3 f3 ⊢
  have S3 : Hid (Sb M0 w3 fun x => x.heap[b]? = some (.cells #[.int .i64 s.d, .int .i64 s.e, .int .i64 s.r.k, .int .i64 s.r.e, .int .i64 s.r.w, .int .i64 s.r.n, .int .i64 s.r.q, .string s.r.t, .int .i64 s.r.p.s0, .int .i64 s.r.p.s1, .int .i64 s.r.p.s2, .int .i64 s.r.p.s3, .int .i64 s.r.p.s4, .int .i64 s.r.p.s5, .int .i64 s.r.p.s6, .int .i64 s.r.p.s7, .int .i64 s.r.p.s8, .int .i64 s.r.p.s9, .int .i64 s.r.p.s10, .int .i64 s.r.p.s11, .int .i64 s.m.k, .int .i64 s.m.e, .int .i64 s.m.s, .int .i64 s.m.u, .int .i64 s.m.v, .int .i64 s.m.t] 31 (0, 0)) ∧ Frm M0 W x) := hid ((Sb.heap h3 (fun h => h)).and (Sb.frm f3))
  clear hw3 h3 f3 H2 F2
  apply wp_region_G 23 (fun _ => none) (valsL (_ :: _ :: _ :: _ :: _ :: _ :: _ :: (.agg #[.int .i64 s.m.k, .int .i64 s.m.e, .int .i64 s.m.s, .int .i64 s.m.u, .int .i64 s.m.v, .int .i64 s.m.t]) :: _ :: _ :: (.agg #[.int .i64 s.m.k, .int .i64 s.m.e, .int .i64 s.m.s, .int .i64 s.m.u, .int .i64 s.m.v, .int .i64 s.m.t]) :: _ :: _ :: _ :: _ :: _ :: _ :: _ :: _ :: _ :: _ :: _ :: _ :: [])) ?hm1 ?hB1 ?hal1 ?main1
  case hm1 => kernel_rfl
  case hB1 => kernel_rfl
  case hal1 =>
    intro i o obj ho hi
    cases hi
  rotate_left 21
  intro ops QT HO HQ
  obtain ⟨ho0, HO⟩ := HO
  refine wpG_v ho0.out rfl ?_ ?_
  · simp only [valsL_zero, valsL_succ]; apply FY_in rfl; intro wx hx
    exact fu_load_row_g 31 (.tmp 1) rfl b (by kernel_rfl) _ #[.int .i64 s.d, .int .i64 s.e, .int .i64 s.r.k, .int .i64 s.r.e, .int .i64 s.r.w, .int .i64 s.r.n, .int .i64 s.r.q, .string s.r.t, .int .i64 s.r.p.s0, .int .i64 s.r.p.s1, .int .i64 s.r.p.s2, .int .i64 s.r.p.s3, .int .i64 s.r.p.s4, .int .i64 s.r.p.s5, .int .i64 s.r.p.s6, .int .i64 s.r.p.s7, .int .i64 s.r.p.s8, .int .i64 s.r.p.s9, .int .i64 s.r.p.s10, .int .i64 s.r.p.s11, .int .i64 s.m.k, .int .i64 s.m.e, .int .i64 s.m.s, .int .i64 s.m.u, .int .i64 s.m.v, .int .i64 s.m.t] _ _ (S3.out wx hx).1 Tryz.underlying31 rfl (by kernel_rfl)
  simp only [Act.put, List.setIfInBounds_toArray, List.set_cons_zero, List.set_cons_succ, valsL_zero, valsL_succ]
  obtain ⟨ho1, HO⟩ := HO
  refine wpG_v ho1.out rfl ?_ ?_
  · simp only [valsL_zero, valsL_succ]; apply FY_in rfl; intro wx hx
    go_simp
    exact ⟨rfl, (tline_calls s _ (HG.out.frm (S3.out wx hx).2).tab HFI.out).mono (fun e w' h => ⟨h.1, h.2⟩)⟩
  simp only [Act.put, List.setIfInBounds_toArray, List.set_cons_zero, List.set_cons_succ, valsL_zero, valsL_succ]
  obtain ⟨ho2, HO⟩ := HO
  refine wpG_v ho2.out rfl ?_ ?_
  · simp only [valsL_zero, valsL_succ]; apply FY_in rfl; intro wx hx
    exact fu_load_row_g 31 (.tmp 1) rfl b (by kernel_rfl) _ #[.int .i64 s.d, .int .i64 s.e, .int .i64 s.r.k, .int .i64 s.r.e, .int .i64 s.r.w, .int .i64 s.r.n, .int .i64 s.r.q, .string s.r.t, .int .i64 s.r.p.s0, .int .i64 s.r.p.s1, .int .i64 s.r.p.s2, .int .i64 s.r.p.s3, .int .i64 s.r.p.s4, .int .i64 s.r.p.s5, .int .i64 s.r.p.s6, .int .i64 s.r.p.s7, .int .i64 s.r.p.s8, .int .i64 s.r.p.s9, .int .i64 s.r.p.s10, .int .i64 s.r.p.s11, .int .i64 s.m.k, .int .i64 s.m.e, .int .i64 s.m.s, .int .i64 s.m.u, .int .i64 s.m.v, .int .i64 s.m.t] _ _ (S3.out wx hx).1 Tryz.underlying31 rfl (by kernel_rfl)
  simp only [Act.put, List.setIfInBounds_toArray, List.set_cons_zero, List.set_cons_succ, valsL_zero, valsL_succ]
  obtain ⟨ho3, HO⟩ := HO
  refine wpG_v ho3.out rfl ?_ ?_
  · simp only [valsL_zero, valsL_succ]; apply FY_in rfl; intro wx hx
    go_simp
    exact ⟨rfl, (rline_calls s _ HFI.out).mono (fun e w' h => ⟨h.1, h.2⟩)⟩
  simp only [Act.put, List.setIfInBounds_toArray, List.set_cons_zero, List.set_cons_succ, valsL_zero, valsL_succ]
  obtain ⟨ho4, HO⟩ := HO
  refine wpG_v ho4.out rfl ?_ ?_
  · simp only [valsL_zero, valsL_succ]; apply FY_in rfl; intro wx hx
    go_simp
    exact ⟨rfl, rfl⟩
  simp only [Act.put, List.setIfInBounds_toArray, List.set_cons_zero, List.set_cons_succ, valsL_zero, valsL_succ]
  obtain ⟨ho5, HO⟩ := HO
  refine wpG_v ho5.out rfl ?_ ?_
  · simp only [valsL_zero, valsL_succ]; apply FY_in rfl; intro wx hx
    go_simp
    exact ⟨rfl, rfl⟩
  simp only [Act.put, List.setIfInBounds_toArray, List.set_cons_zero, List.set_cons_succ, valsL_zero, valsL_succ]
  obtain ⟨ho6, HO⟩ := HO
  refine wpG_v ho6.out rfl ?_ ?_
  · simp only [valsL_zero, valsL_succ]; apply FY_yes (d := 12) rfl ho5.out (by rfl) (by kernel_rfl); intro wx hx
    go_simp
    exact ⟨rfl, rfl⟩
  simp only [Act.put, List.setIfInBounds_toArray, List.set_cons_zero, List.set_cons_succ, valsL_zero, valsL_succ]
  obtain ⟨ho7, HO⟩ := HO
  refine wpG_v ho7.out rfl ?_ ?_
  · simp only [valsL_zero, valsL_succ]; apply FY_yes (d := 12) rfl ho5.out (by rfl) (by kernel_rfl); intro wx hx
    exact fu_load_at_g 29 (.tmp 13) rfl (b) 20 (by kernel_rfl) _ _ _ _ _ ((S3.out wx hx).1) (by rfl) (by simp) Tryz.underlying29 rfl (by kernel_rfl)
  simp only [Act.put, List.setIfInBounds_toArray, List.set_cons_zero, List.set_cons_succ, valsL_zero, valsL_succ]
  obtain ⟨ho8, HO⟩ := HO
  refine wpG_v ho8.out rfl ?_ ?_
  · simp only [valsL_zero, valsL_succ]; apply FY_yes (d := 12) rfl ho5.out (by rfl) (by kernel_rfl); intro wx hx
    go_simp
    exact ⟨rfl, (tmsg_calls s.m _ (HG.out.frm (S3.out wx hx).2).tab).mono (fun e w' h => ⟨h.1, h.2⟩)⟩
  simp only [Act.put, List.setIfInBounds_toArray, List.set_cons_zero, List.set_cons_succ, valsL_zero, valsL_succ]
  obtain ⟨ho9, HO⟩ := HO
  refine wpG_v ho9.out rfl ?_ ?_
  · simp only [valsL_zero, valsL_succ]; apply FY_yes (d := 12) rfl ho5.out (by rfl) (by kernel_rfl); intro wx hx
    go_simp
    exact ⟨rfl, rfl⟩
  simp only [Act.put, List.setIfInBounds_toArray, List.set_cons_zero, List.set_cons_succ, valsL_zero, valsL_succ]
  obtain ⟨ho10, HO⟩ := HO
  refine wpG_v ho10.out rfl ?_ ?_
  · simp only [valsL_zero, valsL_succ]; apply FY_yes (d := 12) rfl ho5.out (by rfl) (by kernel_rfl); intro wx hx
    exact fu_load_at_g 29 (.tmp 16) rfl (b) 20 (by kernel_rfl) _ _ _ _ _ ((S3.out wx hx).1) (by rfl) (by simp) Tryz.underlying29 rfl (by kernel_rfl)
  simp only [Act.put, List.setIfInBounds_toArray, List.set_cons_zero, List.set_cons_succ, valsL_zero, valsL_succ]
  obtain ⟨ho11, HO⟩ := HO
  refine wpG_v ho11.out rfl ?_ ?_
  · simp only [valsL_zero, valsL_succ]; apply FY_yes (d := 12) rfl ho5.out (by rfl) (by kernel_rfl); intro wx hx
    go_simp
    exact ⟨rfl, (rmsg_calls s.m _).mono (fun e w' h => ⟨h.1, h.2⟩)⟩
  simp only [Act.put, List.setIfInBounds_toArray, List.set_cons_zero, List.set_cons_succ, valsL_zero, valsL_succ]
  obtain ⟨ho12, HO⟩ := HO
  refine wpG_v ho12.out rfl ?_ ?_
  · simp only [valsL_zero, valsL_succ]; apply FY_yes (d := 12) rfl ho5.out (by rfl) (by kernel_rfl); intro wx hx
    go_simp
    exact ⟨rfl, rfl⟩
  simp only [Act.put, List.setIfInBounds_toArray, List.set_cons_zero, List.set_cons_succ, valsL_zero, valsL_succ]
  obtain ⟨ho13, HO⟩ := HO
  refine wpG_v ho13.out rfl ?_ ?_
  · simp only [valsL_zero, valsL_succ]; apply FY_in rfl; intro wx hx
    go_simp
    exact ⟨rfl, rfl⟩
  simp only [Act.put, List.setIfInBounds_toArray, List.set_cons_zero, List.set_cons_succ, valsL_zero, valsL_succ]
  obtain ⟨ho14, HO⟩ := HO
  refine wpG_v ho14.out rfl ?_ ?_
  · simp only [valsL_zero, valsL_succ]; apply FY_in rfl; intro wx hx
    go_simp
    exact ⟨rfl, rfl⟩
  simp only [Act.put, List.setIfInBounds_toArray, List.set_cons_zero, List.set_cons_succ, valsL_zero, valsL_succ]
  obtain ⟨ho15, HO⟩ := HO
  refine wpG_v ho15.out rfl ?_ ?_
  · simp only [valsL_zero, valsL_succ]; apply FY_yes (d := 21) rfl ho14.out (by rfl) (by kernel_rfl); intro wx hx
    go_simp
    exact ⟨rfl, rfl⟩
  simp only [Act.put, List.setIfInBounds_toArray, List.set_cons_zero, List.set_cons_succ, valsL_zero, valsL_succ]
  obtain ⟨ho16, HO⟩ := HO
  refine wpG_v ho16.out rfl ?_ ?_
  · simp only [valsL_zero, valsL_succ]; apply FY_yes (d := 21) rfl ho14.out (by rfl) (by kernel_rfl); intro wx hx
    have hc0 := sb_cell ((S3.out wx hx).1)
    go_simp
    exact ⟨rfl, rfl⟩
  simp only [Act.put, List.setIfInBounds_toArray, List.set_cons_zero, List.set_cons_succ, valsL_zero, valsL_succ]
  obtain ⟨ho17, HO⟩ := HO
  refine wpG_v ho17.out rfl ?_ ?_
  · simp only [valsL_zero, valsL_succ]; apply FY_yes (d := 21) rfl ho14.out (by rfl) (by kernel_rfl); intro wx hx
    go_simp
    exact ⟨rfl, (tword_calls s.e _).mono (fun e w' h => ⟨h.1, h.2⟩)⟩
  simp only [Act.put, List.setIfInBounds_toArray, List.set_cons_zero, List.set_cons_succ, valsL_zero, valsL_succ]
  obtain ⟨ho18, HO⟩ := HO
  refine wpG_v ho18.out rfl ?_ ?_
  · simp only [valsL_zero, valsL_succ]; apply FY_yes (d := 21) rfl ho14.out (by rfl) (by kernel_rfl); intro wx hx
    go_simp
    exact ⟨rfl, rfl⟩
  simp only [Act.put, List.setIfInBounds_toArray, List.set_cons_zero, List.set_cons_succ, valsL_zero, valsL_succ]
  obtain ⟨ho19, HO⟩ := HO
  refine wpG_v ho19.out rfl ?_ ?_
  · simp only [valsL_zero, valsL_succ]; apply FY_yes (d := 21) rfl ho14.out (by rfl) (by kernel_rfl); intro wx hx
    have hc0 := sb_cell ((S3.out wx hx).1)
    go_simp
    exact ⟨rfl, rfl⟩
  simp only [Act.put, List.setIfInBounds_toArray, List.set_cons_zero, List.set_cons_succ, valsL_zero, valsL_succ]
  obtain ⟨ho20, HO⟩ := HO
  refine wpG_v ho20.out rfl ?_ ?_
  · simp only [valsL_zero, valsL_succ]; apply FY_yes (d := 21) rfl ho14.out (by rfl) (by kernel_rfl); intro wx hx
    go_simp
    exact ⟨rfl, (rword_calls s.e _).mono (fun e w' h => ⟨h.1, h.2⟩)⟩
  simp only [Act.put, List.setIfInBounds_toArray, List.set_cons_zero, List.set_cons_succ, valsL_zero, valsL_succ]
  obtain ⟨ho21, HO⟩ := HO
  refine wpG_v ho21.out rfl ?_ ?_
  · simp only [valsL_zero, valsL_succ]; apply FY_yes (d := 21) rfl ho14.out (by rfl) (by kernel_rfl); intro wx hx
    go_simp
    exact ⟨rfl, rfl⟩
  simp only [Act.put, List.setIfInBounds_toArray, List.set_cons_zero, List.set_cons_succ, valsL_zero, valsL_succ]
  obtain ⟨ho22, HO⟩ := HO
  refine wpG_v ho22.out rfl ?_ ?_
  · simp only [valsL_zero, valsL_succ]; apply FY_in rfl; intro wx hx
    go_simp
    exact ⟨rfl, rfl⟩
  simp only [Act.put, List.setIfInBounds_toArray, List.set_cons_zero, List.set_cons_succ, valsL_zero, valsL_succ]
  refine HQ.out _ _ ?_
  intro wr hf hE hN
  simp only [List.drop_succ_cons, List.drop_zero]
  clear HQ HO hE hN ho0 ho1 ho2 ho3 ho4 ho5 ho6 ho7 ho8 ho9 ho10 ho11 ho12 ho13 ho14 ho15 ho16 ho17 ho18 ho19 ho20 ho21 ho22
  have HE := hid ((S3.out.step hf).now.2.below)
  clear hf
  go_wp2_with fail
  go_ret
  exact ⟨by first | rfl | simp, HE.out⟩
end Go.Proofs.YtonlmkcolndaaaaGreatDoor
