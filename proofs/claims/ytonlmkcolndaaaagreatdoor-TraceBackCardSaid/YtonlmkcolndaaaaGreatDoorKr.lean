/- record.Right. No condition. -/
import Derived.Test.YtonlmkcolndaaaaGreatDoorKh
import Derived.Test.YtonlmkcolndaaaaGreatDoorKf
import Derived.Test.YtonlmkcolndaaaaGreatDoorKg
namespace Go.Proofs.YtonlmkcolndaaaaGreatDoor
set_option linter.unusedVariables false
set_option linter.unusedSimpArgs false
set_option maxRecDepth 20000
open Go.RowKit

theorem wpList_load_row_w {P : Program} {ops : Array Oper} {rest : List Oper} {o : Oper} {a : Act} {w : World} {Q : Exit → Act → World → Prop} (hw : Region.wanted o (yielded ops a.tmps) = true) (ty : TypeId) (x : Operand) (ho : o.op = .load ty x)
    (g : Nat) (hx : a.eval x = .pointer (some ⟨g, 0, none⟩)) (t : TypeId) (cs : Array Value) (fr : Nat × Nat) (d : TypeDesc) (hg : w.heap[g]? = some (.cells cs t fr))
    (hu : P.underlying ty = some d) (hd : (match d with | .struct _ | .array _ _ => true | _ => false) = true) (hi : (P.info? ty).map (·.size) = some cs.size)
    (h : wpList P ops Q rest (a.put o.dst (.agg cs)) w) : wpList P ops Q (o :: rest) a w :=
  BigFrame.wpList_want hw fun _ hK => wp_load_row ty x ho g hx t cs fr d hg hu hd hi (hK _ _ h)
set_option maxRecDepth 20000 in
set_option maxHeartbeats 2000000 in
theorem right_hit (r : Rc) (w : World) (nm : ByteArray) (fn : FuncId) (cap : Nat → Nat → Array Value) (A : Bool) (hcf : ∀ args w, (callFunc fn args).run Tryz.prog w = .ok (.enter fn args) w) (hl : ∀ t1 t2, (kindsL t1 t2).lookup r.k = some (.agg #[.string nm, fnv fn (cap t1 t2)]))
    (hm : ∀ t1 t2 w, w.cell? ⟨t1, 0, none⟩ = some (fnv 88 #[]) → w.cell? ⟨t2, 0, none⟩ = some (fnv 89 #[ptr t1]) → Calls Tryz.prog fn (#[r.val] ++ cap t1 t2) w fun x w' => x = .returned (.bool A) ∧ Frm M0 w w') :
    Calls Tryz.prog 51 #[r.val] w fun x w' => x = .returned (.bool (btw r.e 1 1099511627776 && A)) ∧ Frm M0 w w' := by
  have HLK := hid hl; clear hl
  have HM := hid hm; clear hm
  have HCF := hid hcf
  have HV : Hid (r.val = .agg #[.int .i64 r.k, .int .i64 r.e, .int .i64 r.w, .int .i64 r.n, .int .i64 r.q, .string r.t, .int .i64 r.p.s0, .int .i64 r.p.s1, .int .i64 r.p.s2, .int .i64 r.p.s3, .int .i64 r.p.s4, .int .i64 r.p.s5, .int .i64 r.p.s6, .int .i64 r.p.s7, .int .i64 r.p.s8, .int .i64 r.p.s9, .int .i64 r.p.s10, .int .i64 r.p.s11]) := rfl
  rw [HV.out]
  go_enter Tryz.func51, Tryz.ntmps51
  go_wp2_with fail
  have HH := hid (heap_alloc_last w (.cells #[.int .i64 r.k, .int .i64 r.e, .int .i64 r.w, .int .i64 r.n, .int .i64 r.q, .string r.t, .int .i64 r.p.s0, .int .i64 r.p.s1, .int .i64 r.p.s2, .int .i64 r.p.s3, .int .i64 r.p.s4, .int .i64 r.p.s5, .int .i64 r.p.s6, .int .i64 r.p.s7, .int .i64 r.p.s8, .int .i64 r.p.s9, .int .i64 r.p.s10, .int .i64 r.p.s11] 27))
  have HF := hid ((Frm.refl M0 w).alloc (.cells #[.int .i64 r.k, .int .i64 r.e, .int .i64 r.w, .int .i64 r.n, .int .i64 r.q, .string r.t, .int .i64 r.p.s0, .int .i64 r.p.s1, .int .i64 r.p.s2, .int .i64 r.p.s3, .int .i64 r.p.s4, .int .i64 r.p.s5, .int .i64 r.p.s6, .int .i64 r.p.s7, .int .i64 r.p.s8, .int .i64 r.p.s9, .int .i64 r.p.s10, .int .i64 r.p.s11] 27))
  obtain ⟨b, hb⟩ : ∃ b, b = w.heap.size := ⟨_, rfl⟩
  obtain ⟨w1, hw1⟩ : ∃ x, x = w.alloc (.cells #[.int .i64 r.k, .int .i64 r.e, .int .i64 r.w, .int .i64 r.n, .int .i64 r.q, .string r.t, .int .i64 r.p.s0, .int .i64 r.p.s1, .int .i64 r.p.s2, .int .i64 r.p.s3, .int .i64 r.p.s4, .int .i64 r.p.s5, .int .i64 r.p.s6, .int .i64 r.p.s7, .int .i64 r.p.s8, .int .i64 r.p.s9, .int .i64 r.p.s10, .int .i64 r.p.s11] 27) := ⟨_, rfl⟩
  rw [← hw1, ← hb] at HH
  rw [← hw1] at HF
  rw [← hw1, ← hb]
  clear hw1 hb
  have HSF : Hid (∀ wx, Frm M0 w1 wx → wx.cell? ⟨b, 0, none⟩ = some (.int .i64 r.k)) := hid (fun wx hx => cell_at (hx.heap HH.out (fun h => h)) 0)
  have HFq := hid ((Frm.refl M0 w1).drew)
  go_region_held3 (fun wx => wx.cell? ⟨b, 0, none⟩ = some (.int .i64 r.k)) (first | with_reducible exact HSF.out _ HFq.out | with_reducible exact HSF.out _ (Frm.alloc HFq.out _) | with_reducible exact HSF.out _ (Frm.drew (Frm.alloc (Frm.refl M0 _) _)) | with_reducible exact HSF.out _ (Frm.putN (Frm.putN HFq.out _ _ _ (Nat.le_refl _)) _ _ _ (Nat.le_refl _)) | go_keep)
    (((with_reducible refine (kinds_calls _).mono ?_); (rintro _ wk ⟨B, t1, t2, rfl, HB, HC1, HC2, hf⟩); (first | (with_reducible have hx := Frm.then0 HFq.out hf) | ((with_reducible have hx := Frm.then0 (Frm.drew (Frm.alloc (Frm.refl M0 w1) _)) hf); (have hq := hf.heap (show (w1.alloc (.cells #[.string ⟨#[]⟩, .nilFunc] 103)).drew.heap[w1.heap.size]? = _ from new1 w1 _) (fun h => h)); (have e0 : wk.cell? ⟨w1.heap.size, 0, none⟩ = some (.string ⟨#[]⟩) := cell_at hq 0); (have e1 : wk.cell? ⟨w1.heap.size, 1, none⟩ = some .nilFunc := cell_at hq 1); (have z0 : wk.frozen? ⟨w1.heap.size, 0, none⟩ = false := frozen_at hq 0); (have z1 : wk.frozen? ⟨w1.heap.size, 1, none⟩ = false := frozen_at hq 1); (have HQ := hid hq); clear hq)); clear HFq; have HFq := hid hx; clear hx hf;
      (have hl1 := look_hit (P := Tryz.prog) (T := 105) Tryz.underlying105 Tryz.underlying3 HB.out r.k _ (HLK.out t1 t2) true); (have hl2 := fun o => look_hit (P := Tryz.prog) (T := 105) Tryz.underlying105 Tryz.underlying3 (((Frm.refl M0 wk).alloc o).heap HB.out (fun h => h)) r.k _ (HLK.out t1 t2) true)))
  all_goals
    first
    | (fail_if_success (have hzz := e0)
       have hh : (wk.alloc (.cells #[.string nm, fnv fn (cap t1 t2)] 103)).heap[wk.heap.size]? = some (.cells #[.string nm, fnv fn (cap t1 t2)] 103 (0, 0)) := new1 wk _
       have hF : Frm M0 w1 (wk.alloc (.cells #[.string nm, fnv fn (cap t1 t2)] 103)) := HFq.out.alloc _
       have hc1 := ((Frm.refl M0 wk).alloc (.cells #[.string nm, fnv fn (cap t1 t2)] 103)).cell HC1.out (fun h => h)
       have hc2 := ((Frm.refl M0 wk).alloc (.cells #[.string nm, fnv fn (cap t1 t2)] 103)).cell HC2.out (fun h => h)
       revert hh hF hc1 hc2
       clear hl1 hl2
       generalize wk.alloc (.cells #[.string nm, fnv fn (cap t1 t2)] 103) = wr
       generalize wk.heap.size = tb
       intro hh hF hc1 hc2)
    | (have hne : ¬ t1 = w1.heap.size := (fun e => (by have := HC1.out; rw [e, e0] at this; cases this))
       have hne2 : ¬ t2 = w1.heap.size := (fun e => (by have := HC2.out; rw [e, e0] at this; cases this))
       have hh : ((wk.setCell ⟨w1.heap.size, 0, none⟩ (.string nm)).setCell ⟨w1.heap.size, 1, none⟩ (fnv fn (cap t1 t2))).heap[w1.heap.size]? = some (.cells #[.string nm, fnv fn (cap t1 t2)] 103 (0, 0)) := heap_set_at (heap_set_at HQ.out _) _
       have hF : Frm M0 w1 ((wk.setCell ⟨w1.heap.size, 0, none⟩ (.string nm)).setCell ⟨w1.heap.size, 1, none⟩ (fnv fn (cap t1 t2))) := (HFq.out.putN _ _ _ (Nat.le_refl _)).putN _ _ _ (Nat.le_refl _)
       have hp : Frm (· = w1.heap.size) wk ((wk.setCell ⟨w1.heap.size, 0, none⟩ (.string nm)).setCell ⟨w1.heap.size, 1, none⟩ (fnv fn (cap t1 t2))) := ((Frm.refl (fun x => x = w1.heap.size) wk).put _ _ _ (fun _ => rfl)).put _ _ _ (fun _ => rfl)
       have hc1 := hp.cell HC1.out hne
       have hc2 := hp.cell HC2.out hne2
       revert hh hF hc1 hc2
       clear hp hne hne2 hl1 hl2 HQ e0 e1 z0 z1
       generalize (wk.setCell ⟨w1.heap.size, 0, none⟩ (.string nm)).setCell ⟨w1.heap.size, 1, none⟩ (fnv fn (cap t1 t2)) = wr
       generalize w1.heap.size = tb
       intro hh hF hc1 hc2)
  all_goals
    have c1 : wr.cell? ⟨b, 1, none⟩ = some (.int .i64 r.e) := cell_at (hF.heap HH.out (fun h => h)) 1
    have e1 : wr.cell? ⟨tb, 1, none⟩ = some (fnv fn (cap t1 t2)) := cell_at hh 1
    have HB18 := hid (hF.heap HH.out (fun h => h))
    have HFr := hid (HF.out.then0 hF)
    have hm := HM.out t1 t2 wr hc1 hc2
    rw [HV.out] at hm
    have HMM := hid hm
    clear hm hh hF hc1 hc2 HSF HFq
    clear hcf
    go_wp2_with fail
    refine (btw_calls _ _ _ _).mono ?_
    rintro _ _ ⟨rfl, rfl⟩
    obtain ⟨b1, HB1⟩ : ∃ b, Hid (btw r.e 1 1099511627776 = b) := ⟨_, rfl⟩
    rw [HB1.out]
    cases b1
    case false =>
      go_wp2_with fail
      go_ret
      exact ⟨by first | rfl | (rw [HB1.out]; rfl), HFr.out⟩
    case true =>
      have hcf := HCF.out
      go_wp2_with (refine wpList_load_row_w (by kernel_rfl) 27 (.tmp 1) (by with_reducible rfl) b (by kernel_rfl) _ _ _ _ HB18.out Tryz.underlying27 rfl (by kernel_rfl) ?_)
      refine HMM.out.mono ?_
      rintro _ w9 ⟨rfl, hf9⟩
      have HF9 := hid (HFr.out.then0 hf9)
      clear hf9
      go_wp2_with fail
      go_ret
      exact ⟨by first | rfl | (rw [HB1.out]; rfl), HF9.out⟩
end Go.Proofs.YtonlmkcolndaaaaGreatDoor
