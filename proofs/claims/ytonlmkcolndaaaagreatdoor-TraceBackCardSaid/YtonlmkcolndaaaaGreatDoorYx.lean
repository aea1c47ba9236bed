/- A message that may be, made of any; TraceRecords: the walk of the law. No condition. -/
import Derived.Test.YtonlmkcolndaaaaGreatDoorYw
import Derived.LoopN
import Derived.RegionTactic
namespace Go.Proofs.YtonlmkcolndaaaaGreatDoor
set_option linter.unusedVariables false
set_option linter.unusedSimpArgs false
set_option maxRecDepth 20000
open Go.RowKit

def Mg.good (m : Mg) : Mg := ⟨1 + m.k % 8 % 2, m.e % 8, m.s % 8, m.u % 8, m.v % 8 % 4, m.t % 8 % 5⟩

theorem mod8 (x : Int) : wrap64 ((IntKind.u64.wrap x).tmod 8) = x % 8 := by
  have h : IntKind.u64.wrap x = x % 18446744073709551616 := by simp [IntKind.wrap, IntKind.bits, IntKind.signed]
  rw [h, Int.tmod_eq_emod_of_nonneg (by omega)]
  unfold wrap64
  omega

set_option maxHeartbeats 2000000 in
theorem good14_calls (m : Mg) (w : World) : Calls Tryz.prog 25 #[m.val] w fun r w' => r = .returned m.good.val ∧ Frm M0 w w' := by
  obtain ⟨k, e, s, u, v, t⟩ := m
  unfold Mg.val Mg.good
  simp only []
  go_enter Tryz.func25, Tryz.ntmps25
  go_wp2_with fail
  refine wp_loop_rounds 7 ?_
  rw [rounds_succ]
  go_wp2_with fail
  rw [rounds_succ]
  go_wp2_with fail
  rw [rounds_succ]
  go_wp2_with fail
  rw [rounds_succ]
  go_wp2_with fail
  rw [rounds_succ]
  go_wp2_with fail
  rw [rounds_succ]
  go_wp2_with fail
  rw [rounds_succ]
  go_wp2_with fail
  simp only [mod8]
  obtain ⟨k8, hk8⟩ : ∃ y, y = k % 8 := ⟨_, rfl⟩
  obtain ⟨e8, he8⟩ : ∃ y, y = e % 8 := ⟨_, rfl⟩
  obtain ⟨s8, hs8⟩ : ∃ y, y = s % 8 := ⟨_, rfl⟩
  obtain ⟨u8, hu8⟩ : ∃ y, y = u % 8 := ⟨_, rfl⟩
  obtain ⟨v8, hv8⟩ : ∃ y, y = v % 8 := ⟨_, rfl⟩
  obtain ⟨t8, ht8⟩ : ∃ y, y = t % 8 := ⟨_, rfl⟩
  rw [← hk8, ← he8, ← hs8, ← hu8, ← hv8, ← ht8]
  have K := hid hk8; have E := hid he8; have S := hid hs8; have U := hid hu8; have V := hid hv8; have T := hid ht8
  have kb : 0 ≤ k8 ∧ k8 < 8 := by omega
  have vb : 0 ≤ v8 ∧ v8 < 8 := by omega
  have tb : 0 ≤ t8 ∧ t8 < 8 := by omega
  clear hk8 he8 hs8 hu8 hv8 ht8
  have e1 : k8.tmod 2 = k8 % 2 := Int.tmod_eq_emod_of_nonneg (by omega)
  have e2 : v8.tmod 4 = v8 % 4 := Int.tmod_eq_emod_of_nonneg (by omega)
  have e3 : t8.tmod 5 = t8 % 5 := Int.tmod_eq_emod_of_nonneg (by omega)
  obtain ⟨w1, hw1⟩ : ∃ w1, w1 = ((w.alloc (.cells #[.int .i64 k, .int .i64 e, .int .i64 s, .int .i64 u, .int .i64 v, .int .i64 t] 29)).alloc (.cells #[.int .i64 0, .int .i64 0, .int .i64 0, .int .i64 0, .int .i64 0, .int .i64 0] 29)).alloc (.cells #[.int .i64 k8, .int .i64 e8, .int .i64 s8, .int .i64 u8, .int .i64 v8, .int .i64 t8] 3) := ⟨_, rfl⟩
  have hf1 : Frm M0 w w1 := by rw [hw1]; exact (((Frm.refl _ _).alloc _).alloc _).alloc _
  have hz : w1.heap.size = w.heap.size + 1 + 1 + 1 := by rw [hw1]; simp
  have hb1 : w1.heap[w.heap.size + 1]? = some (.cells #[.int .i64 0, .int .i64 0, .int .i64 0, .int .i64 0, .int .i64 0, .int .i64 0] 29 (0, 0)) := by
    rw [hw1]
    refine ((Frm.refl M0 _).alloc _).heap ?_ (fun h => h)
    have := heap_alloc_new (w.alloc (.cells #[.int .i64 k, .int .i64 e, .int .i64 s, .int .i64 u, .int .i64 v, .int .i64 t] 29)) (.cells #[.int .i64 0, .int .i64 0, .int .i64 0, .int .i64 0, .int .i64 0, .int .i64 0] 29)
    simpa using this
  have hb2 : w1.heap[w.heap.size + 1 + 1]? = some (.cells #[.int .i64 k8, .int .i64 e8, .int .i64 s8, .int .i64 u8, .int .i64 v8, .int .i64 t8] 3 (0, 0)) := by
    rw [hw1]
    have := heap_alloc_new ((w.alloc (.cells #[.int .i64 k, .int .i64 e, .int .i64 s, .int .i64 u, .int .i64 v, .int .i64 t] 29)).alloc (.cells #[.int .i64 0, .int .i64 0, .int .i64 0, .int .i64 0, .int .i64 0, .int .i64 0] 29)) (.cells #[.int .i64 k8, .int .i64 e8, .int .i64 s8, .int .i64 u8, .int .i64 v8, .int .i64 t8] 3)
    simpa using this
  rw [← hw1]
  clear hw1
  have c0 : w1.cell? ⟨w.heap.size + 1 + 1, 0, none⟩ = some (.int .i64 k8) := by rw [cell_at hb2]; rfl
  have c1 : w1.cell? ⟨w.heap.size + 1 + 1, 1, none⟩ = some (.int .i64 e8) := by rw [cell_at hb2]; rfl
  have c2 : w1.cell? ⟨w.heap.size + 1 + 1, 2, none⟩ = some (.int .i64 s8) := by rw [cell_at hb2]; rfl
  have c3 : w1.cell? ⟨w.heap.size + 1 + 1, 3, none⟩ = some (.int .i64 u8) := by rw [cell_at hb2]; rfl
  have c4 : w1.cell? ⟨w.heap.size + 1 + 1, 4, none⟩ = some (.int .i64 v8) := by rw [cell_at hb2]; rfl
  have c5 : w1.cell? ⟨w.heap.size + 1 + 1, 5, none⟩ = some (.int .i64 t8) := by rw [cell_at hb2]; rfl
  have b0 : w1.cell? ⟨w.heap.size + 1, 0, none⟩ = some (.int .i64 0) := by rw [cell_at hb1]; rfl
  have f0 : w1.frozen? ⟨w.heap.size + 1, 0, none⟩ = false := frozen_at hb1 _
  have b1 : w1.cell? ⟨w.heap.size + 1, 1, none⟩ = some (.int .i64 0) := by rw [cell_at hb1]; rfl
  have f1 : w1.frozen? ⟨w.heap.size + 1, 1, none⟩ = false := frozen_at hb1 _
  have b2 : w1.cell? ⟨w.heap.size + 1, 2, none⟩ = some (.int .i64 0) := by rw [cell_at hb1]; rfl
  have f2 : w1.frozen? ⟨w.heap.size + 1, 2, none⟩ = false := frozen_at hb1 _
  have b3 : w1.cell? ⟨w.heap.size + 1, 3, none⟩ = some (.int .i64 0) := by rw [cell_at hb1]; rfl
  have f3 : w1.frozen? ⟨w.heap.size + 1, 3, none⟩ = false := frozen_at hb1 _
  have b4 : w1.cell? ⟨w.heap.size + 1, 4, none⟩ = some (.int .i64 0) := by rw [cell_at hb1]; rfl
  have f4 : w1.frozen? ⟨w.heap.size + 1, 4, none⟩ = false := frozen_at hb1 _
  have b5 : w1.cell? ⟨w.heap.size + 1, 5, none⟩ = some (.int .i64 0) := by rw [cell_at hb1]; rfl
  have f5 : w1.frozen? ⟨w.heap.size + 1, 5, none⟩ = false := frozen_at hb1 _
  have HF := hid hf1
  have hlt : w.heap.size + 1 < w1.heap.size := by omega
  clear hf1 hb1 hb2 hz
  go_region
  go_wp2_with fail
  refine bodyPost_ret (v := .agg #[.int .i64 (1 + k8 % 2), .int .i64 e8, .int .i64 s8, .int .i64 u8, .int .i64 (v8 % 4), .int .i64 (t8 % 5)]) (by simp [results, Tryz.results25, go_sem, hlt, b0, b1, b2, b3, b4, b5]) rfl ⟨by rw [K.out, E.out, S.out, U.out, V.out, T.out], ?_⟩
  have h6 := (((((((HF.out.mono (M' := fun b => b = w.heap.size + 1) (fun _ _ h => h.elim)).put (w.heap.size + 1) 0 (.int .i64 (1 + k8 % 2)) (fun _ => rfl)).put (w.heap.size + 1) 1 (.int .i64 e8) (fun _ => rfl)).put (w.heap.size + 1) 2 (.int .i64 s8) (fun _ => rfl)).put (w.heap.size + 1) 3 (.int .i64 u8) (fun _ => rfl)).put (w.heap.size + 1) 4 (.int .i64 (v8 % 4)) (fun _ => rfl)).put (w.heap.size + 1) 5 (.int .i64 (t8 % 5)) (fun _ => rfl)).drew
  exact h6.mono (fun b hb e => by have e' : b = w.heap.size + 1 := e; omega)
theorem good14_right (m : Mg) : msgB m.good = true := by
  rw [msgB_iff]
  unfold Mg.good Mg.five
  simp only [List.mem_cons, List.not_mem_nil, or_false, forall_eq_or_imp, forall_eq]
  omega
theorem good_small (r : Rc) : (goodR r).small := by
  have B : ∀ n l m : Int, 0 < m → l ≤ nearF n l m ∧ nearF n l m < l + m := fun n l m h => near_bd h
  have be := B r.e 1 9 (by omega)
  have w1 := B r.w 0 4 (by omega); have w2 := B r.w 0 16 (by omega); have w3 := B r.w 1 4 (by omega)
  have n1 := B r.n 0 50 (by omega); have n2 := B r.n 1 6 (by omega); have n3 := B r.n 1 5 (by omega); have n4 := B r.n 0 7 (by omega)
  have q1 := B r.q 1 20 (by omega); have q2 := B r.q 1 9 (by omega)
  unfold goodR
  simp only []
  repeat' split
  all_goals
    intro x hx
    simp only [Rc.four, List.mem_cons, List.not_mem_nil, or_false] at hx
    rcases hx with rfl | rfl | rfl | rfl <;> omega
theorem words_le2 {r : Rc} (h : rightB r = true) : (wordsS r).size ≤ 4000 := by
  have hf := right_fine h
  obtain ⟨hk, _, _, _, _, ht, _, hc⟩ := right_facts h
  unfold wordsS
  rw [if_pos h]
  have hb : ∀ x ∈ partsA r ++ partsT r ++ partsP r, x.size ≤ 300 := by
    intro x hx
    rcases List.mem_append.1 hx with hx | hx
    · rcases List.mem_append.1 hx with hx | hx
      · rcases List.mem_cons.1 hx with rfl | hx
        · exact Nat.le_trans (nameS_size _) (by decide)
        · exact Nat.le_trans (words_bound _ hf.ns x hx) (by decide)
      · unfold partsT at hx
        split at hx
        · cases hx
        · simp only [List.mem_singleton] at hx; subst hx; omega
    · unfold partsP at hx
      split at hx
      · rename_i h3; simp only [List.mem_singleton] at hx; subst hx; exact Nat.le_trans (textS_size _ (hf.p h3)) (by decide)
      · cases hx
  have h1 := joinS_size 300 _ hb
  have h2 := (parts_len r).1
  have e : (joinS (partsA r ++ partsT r ++ partsP r)).size = (Lib.join ((partsA r ++ partsT r ++ partsP r).map (·.data.toList)) [32]).length := str_size _
  rw [e]
  exact Nat.le_trans h1 (Nat.le_trans (Nat.mul_le_mul_right _ h2) (by decide))
theorem msgS_le2 (m : Mg) : (msgS m).size ≤ 200 := by
  unfold msgS
  split
  · rename_i h
    obtain ⟨hk, h5⟩ := msgB_iff.1 h
    have hb : ∀ x ∈ kndW m.k :: words m.five, x.size ≤ 21 := fun z hz => by
      rcases List.mem_cons.1 hz with rfl | hz
      · rcases knd_cases hk with h | h <;> rw [h] <;> decide
      · exact words_bound _ (fun x hx => by have := h5 x hx; omega) z hz
    have h1 := joinS_size 21 _ hb
    have e : (joinS (kndW m.k :: words m.five)).size = (Lib.join ((kndW m.k :: words m.five).map (·.data.toList)) [32]).length := str_size _
    rw [e]
    rw [List.length_cons, words_len] at h1
    exact Nat.le_trans h1 (show (5 + 1) * (21 + 1) ≤ 200 by decide)
  · decide

set_option maxRecDepth 20000 in
set_option maxHeartbeats 16000000 in
attribute [-go_sem] run_eql_struct in
attribute [local go_sem] eql_rec eql_msg in
theorem traceRecords_walk (W : World) (hg : Glob W) (r : Rc) (hr : r.ok) (m : Mg) (hm : m.ok) :
    Calls Tryz.prog 6 #[r.val, m.val] W fun y w' => y = .returned (.bool true) ∧ Below W.heap.size W w' := by
  have hts : r.t.size ≤ 9223372036854775807 := hr.2.1
  have HG := hid hg
  have HGR := hid (good_right r)
  have HGM := hid (good14_right m)
  have HGS := hid (good_small r)
  obtain ⟨g, HGg⟩ : ∃ g, Hid (goodR r = g) := ⟨_, rfl⟩
  obtain ⟨x, HGx⟩ : ∃ x, Hid (m.good = x) := ⟨_, rfl⟩
  have HC24 : Hid (∀ wx, Calls Tryz.prog 24 #[.agg #[.int .i64 r.k, .int .i64 r.e, .int .i64 r.w, .int .i64 r.n, .int .i64 r.q, .string r.t, .int .i64 r.p.s0, .int .i64 r.p.s1, .int .i64 r.p.s2, .int .i64 r.p.s3, .int .i64 r.p.s4, .int .i64 r.p.s5, .int .i64 r.p.s6, .int .i64 r.p.s7, .int .i64 r.p.s8, .int .i64 r.p.s9, .int .i64 r.p.s10, .int .i64 r.p.s11]] wx fun y w' => y = .returned (.agg #[.int .i64 g.k, .int .i64 g.e, .int .i64 g.w, .int .i64 g.n, .int .i64 g.q, .string g.t, .int .i64 g.p.s0, .int .i64 g.p.s1, .int .i64 g.p.s2, .int .i64 g.p.s3, .int .i64 g.p.s4, .int .i64 g.p.s5, .int .i64 g.p.s6, .int .i64 g.p.s7, .int .i64 g.p.s8, .int .i64 g.p.s9, .int .i64 g.p.s10, .int .i64 g.p.s11]) ∧ Frm M0 wx w') := hid (fun wx => by
    have h := rgood_calls r wx hts
    rw [HGg.out] at h; exact h)
  have HC25 : Hid (∀ wx, Calls Tryz.prog 25 #[.agg #[.int .i64 m.k, .int .i64 m.e, .int .i64 m.s, .int .i64 m.u, .int .i64 m.v, .int .i64 m.t]] wx fun y w' => y = .returned (.agg #[.int .i64 x.k, .int .i64 x.e, .int .i64 x.s, .int .i64 x.u, .int .i64 x.v, .int .i64 x.t]) ∧ Frm M0 wx w') := hid (fun wx => by
    have h := good14_calls m wx
    rw [HGx.out] at h; exact h)
  rw [HGg.out] at HGR HGS
  rw [HGx.out] at HGM
  have HFI : Hid g.fine := hid (right_fine HGR.out)
  have HVr : Hid (r.val = .agg #[.int .i64 r.k, .int .i64 r.e, .int .i64 r.w, .int .i64 r.n, .int .i64 r.q, .string r.t, .int .i64 r.p.s0, .int .i64 r.p.s1, .int .i64 r.p.s2, .int .i64 r.p.s3, .int .i64 r.p.s4, .int .i64 r.p.s5, .int .i64 r.p.s6, .int .i64 r.p.s7, .int .i64 r.p.s8, .int .i64 r.p.s9, .int .i64 r.p.s10, .int .i64 r.p.s11]) := rfl
  have HVm : Hid (m.val = .agg #[.int .i64 m.k, .int .i64 m.e, .int .i64 m.s, .int .i64 m.u, .int .i64 m.v, .int .i64 m.t]) := rfl
  have HVg : Hid (g.val = .agg #[.int .i64 g.k, .int .i64 g.e, .int .i64 g.w, .int .i64 g.n, .int .i64 g.q, .string g.t, .int .i64 g.p.s0, .int .i64 g.p.s1, .int .i64 g.p.s2, .int .i64 g.p.s3, .int .i64 g.p.s4, .int .i64 g.p.s5, .int .i64 g.p.s6, .int .i64 g.p.s7, .int .i64 g.p.s8, .int .i64 g.p.s9, .int .i64 g.p.s10, .int .i64 g.p.s11]) := rfl
  have HVx : Hid (x.val = .agg #[.int .i64 x.k, .int .i64 x.e, .int .i64 x.s, .int .i64 x.u, .int .i64 x.v, .int .i64 x.t]) := rfl
  have HRZ : Hid (Rc.zero.val = .agg #[.int .i64 0, .int .i64 0, .int .i64 0, .int .i64 0, .int .i64 0, .string ⟨#[]⟩, .int .i64 0, .int .i64 0, .int .i64 0, .int .i64 0, .int .i64 0, .int .i64 0, .int .i64 0, .int .i64 0, .int .i64 0, .int .i64 0, .int .i64 0, .int .i64 0]) := rfl
  have HMZ : Hid (Mg.zero.val = .agg #[.int .i64 0, .int .i64 0, .int .i64 0, .int .i64 0, .int .i64 0, .int .i64 0]) := rfl
  obtain ⟨y, HY⟩ : ∃ y, Hid (wordsS g = y) := ⟨_, rfl⟩
  obtain ⟨z, HZ⟩ : ∃ z, Hid (msgS x = z) := ⟨_, rfl⟩
  have HYS : Hid (y.size ≤ 4000) := hid (by rw [← HY.out]; exact words_le2 HGR.out)
  have HZS : Hid (z.size ≤ 200) := hid (by rw [← HZ.out]; exact msgS_le2 x)
  have R1 : Hid (recF y = (g, 0)) := hid (by rw [← HY.out]; exact recF_back HGR.out HGS.out)
  have R2 : Hid (msgF z = (x, 0)) := hid (by rw [← HZ.out]; exact msgF_back HGM.out)
  have R3 : Hid (recF z = (Rc.zero, 2)) := hid (by rw [← HZ.out]; exact recF_msg HGM.out)
  have R4 : Hid (msgF y = (Mg.zero, 2)) := hid (by rw [← HY.out]; exact msgF_rec HGR.out)
  rw [HVr.out, HVm.out]
  clear hts hg hr hm
  go_enter Tryz.func6, Tryz.ntmps6
  go_wp2_with fail
  refine (tlives_calls _ (HG.out.frm (((Frm.refl M0 W).alloc _).alloc _))).mono ?_
  rintro _ w1 ⟨rfl, hf⟩
  obtain ⟨h2, h3⟩ := new2 W (.cells #[.int .i64 r.k, .int .i64 r.e, .int .i64 r.w, .int .i64 r.n, .int .i64 r.q, .string r.t, .int .i64 r.p.s0, .int .i64 r.p.s1, .int .i64 r.p.s2, .int .i64 r.p.s3, .int .i64 r.p.s4, .int .i64 r.p.s5, .int .i64 r.p.s6, .int .i64 r.p.s7, .int .i64 r.p.s8, .int .i64 r.p.s9, .int .i64 r.p.s10, .int .i64 r.p.s11] 27) (.cells #[.int .i64 m.k, .int .i64 m.e, .int .i64 m.s, .int .i64 m.u, .int .i64 m.v, .int .i64 m.t] 29)
  obtain ⟨b2, hb2⟩ : ∃ x, x = W.heap.size := ⟨_, rfl⟩
  have S1 : Hid (Sb M0 w1 fun x => (Frm M0 W x ∧ x.heap[b2]? = some (.cells #[.int .i64 r.k, .int .i64 r.e, .int .i64 r.w, .int .i64 r.n, .int .i64 r.q, .string r.t, .int .i64 r.p.s0, .int .i64 r.p.s1, .int .i64 r.p.s2, .int .i64 r.p.s3, .int .i64 r.p.s4, .int .i64 r.p.s5, .int .i64 r.p.s6, .int .i64 r.p.s7, .int .i64 r.p.s8, .int .i64 r.p.s9, .int .i64 r.p.s10, .int .i64 r.p.s11] 27 (0, 0))) ∧ x.heap[b2 + 1]? = some (.cells #[.int .i64 m.k, .int .i64 m.e, .int .i64 m.s, .int .i64 m.u, .int .i64 m.v, .int .i64 m.t] 29 (0, 0))) := hid fun wx hx => by
    rw [hb2]
    exact ⟨⟨((((Frm.refl M0 W).alloc _).alloc _).then0 hf).then0 hx, (hf.same hx).heap h2 (fun h => h)⟩, (hf.same hx).heap h3 (fun h => h)⟩
  rw [← hb2]
  clear hf h2 h3 hb2
  go_upto_region 3 with fail
  apply wp_region_G 6 (fun i => if i = 4 then some (.cells #[.int .i64 0, .int .i64 0, .int .i64 0, .int .i64 0, .int .i64 0, .string ⟨#[]⟩, .int .i64 0, .int .i64 0, .int .i64 0, .int .i64 0, .int .i64 0, .int .i64 0, .int .i64 0, .int .i64 0, .int .i64 0, .int .i64 0, .int .i64 0, .int .i64 0] 27) else if i = 5 then some (.cells #[.int .i64 0, .int .i64 0, .int .i64 0, .int .i64 0, .int .i64 0, .int .i64 0] 29) else none) (valsL ((.agg #[.int .i64 r.k, .int .i64 r.e, .int .i64 r.w, .int .i64 r.n, .int .i64 r.q, .string r.t, .int .i64 r.p.s0, .int .i64 r.p.s1, .int .i64 r.p.s2, .int .i64 r.p.s3, .int .i64 r.p.s4, .int .i64 r.p.s5, .int .i64 r.p.s6, .int .i64 r.p.s7, .int .i64 r.p.s8, .int .i64 r.p.s9, .int .i64 r.p.s10, .int .i64 r.p.s11]) :: _ :: (.agg #[.int .i64 m.k, .int .i64 m.e, .int .i64 m.s, .int .i64 m.u, .int .i64 m.v, .int .i64 m.t]) :: _ :: (.pointer none) :: (.pointer none) :: [])) ?hm1 ?hB1 ?hal1 ?main1
  case hm1 => kernel_rfl
  case hB1 => kernel_rfl
  case hal1 =>
    intro i o obj ho hi
    by_cases h4 : i = 4
    · subst h4; obtain rfl := Option.some.inj hi; obtain rfl := Option.some.inj ho; exact ⟨rfl, fun a w => rfl⟩
    by_cases h5 : i = 5
    · subst h5; obtain rfl := Option.some.inj hi; obtain rfl := Option.some.inj ho; exact ⟨rfl, fun a w => rfl⟩
    rw [if_neg h4, if_neg h5] at hi
    cases hi
  rotate_left 2
  intro ops QT HO HQ
  obtain ⟨ho0, HO⟩ := HO
  refine wpG_v ho0.out rfl ?_ ?_
  · simp only [valsL_zero, valsL_succ]; apply FY_in rfl; intro wx hx
    exact fu_load_row_g 27 (.tmp 2) rfl (b2) (by kernel_rfl) _ _ _ _ ((S1.out wx hx).1.2) Tryz.underlying27 rfl (by kernel_rfl)
  simp only [Act.put, List.setIfInBounds_toArray, List.set_cons_zero, List.set_cons_succ, valsL_zero, valsL_succ]
  obtain ⟨ho1, HO⟩ := HO
  refine wpG_v ho1.out rfl ?_ ?_
  · simp only [valsL_zero, valsL_succ]; apply FY_in rfl; intro wx hx
    go_simp
    exact ⟨rfl, (HC24.out _).mono (fun e w' h => ⟨h.1, h.2⟩)⟩
  simp only [Act.put, List.setIfInBounds_toArray, List.set_cons_zero, List.set_cons_succ, valsL_zero, valsL_succ]
  obtain ⟨ho2, HO⟩ := HO
  refine wpG_v ho2.out rfl ?_ ?_
  · simp only [valsL_zero, valsL_succ]; apply FY_in rfl; intro wx hx
    exact fu_load_row_g 29 (.tmp 3) rfl (b2 + 1) (by kernel_rfl) _ _ _ _ ((S1.out wx hx).2) Tryz.underlying29 rfl (by kernel_rfl)
  simp only [Act.put, List.setIfInBounds_toArray, List.set_cons_zero, List.set_cons_succ, valsL_zero, valsL_succ]
  obtain ⟨ho3, HO⟩ := HO
  refine wpG_v ho3.out rfl ?_ ?_
  · simp only [valsL_zero, valsL_succ]; apply FY_in rfl; intro wx hx
    go_simp
    exact ⟨rfl, (HC25.out _).mono (fun e w' h => ⟨h.1, h.2⟩)⟩
  simp only [Act.put, List.setIfInBounds_toArray, List.set_cons_zero, List.set_cons_succ, valsL_zero, valsL_succ]
  obtain ⟨ho4, HO⟩ := HO
  refine wpG_new _ _ ho4.out rfl fun b5 => ?_
  simp only [Act.put, List.setIfInBounds_toArray, List.set_cons_zero, List.set_cons_succ]
  obtain ⟨ho5, HO⟩ := HO
  refine wpG_new _ _ ho5.out rfl fun b6 => ?_
  simp only [Act.put, List.setIfInBounds_toArray, List.set_cons_zero, List.set_cons_succ]
  refine HQ.out _ _ ?_
  intro wr hf hE hN
  simp only [List.drop_succ_cons, List.drop_zero]
  clear HQ HO ho0 ho1 ho2 ho3 ho4 ho5
  have h5 : w1.heap.size ≤ b5 ∧ wr.heap[b5]? = some (.cells #[.int .i64 0, .int .i64 0, .int .i64 0, .int .i64 0, .int .i64 0, .string ⟨#[]⟩, .int .i64 0, .int .i64 0, .int .i64 0, .int .i64 0, .int .i64 0, .int .i64 0, .int .i64 0, .int .i64 0, .int .i64 0, .int .i64 0, .int .i64 0, .int .i64 0] 27 (0, 0)) := hE 4 _ (by omega) rfl
  have h6 : w1.heap.size ≤ b6 ∧ wr.heap[b6]? = some (.cells #[.int .i64 0, .int .i64 0, .int .i64 0, .int .i64 0, .int .i64 0, .int .i64 0] 29 (0, 0)) := hE 5 _ (by omega) rfl
  have hne : b5 ≠ b6 := fun h => by have := hN 4 5 _ _ (by omega) (by omega) rfl rfl h; omega
  have H5 := hid h5.2
  have H6' := hid (((frm_setRow wr b5 #[.int .i64 g.k, .int .i64 g.e, .int .i64 g.w, .int .i64 g.n, .int .i64 g.q, .string g.t, .int .i64 g.p.s0, .int .i64 g.p.s1, .int .i64 g.p.s2, .int .i64 g.p.s3, .int .i64 g.p.s4, .int .i64 g.p.s5, .int .i64 g.p.s6, .int .i64 g.p.s7, .int .i64 g.p.s8, .int .i64 g.p.s9, .int .i64 g.p.s10, .int .i64 g.p.s11])).heap h6.2 (fun e => hne e.symm))
  have hfr : Frm M0 w1 ((wr.setRow b5 #[.int .i64 g.k, .int .i64 g.e, .int .i64 g.w, .int .i64 g.n, .int .i64 g.q, .string g.t, .int .i64 g.p.s0, .int .i64 g.p.s1, .int .i64 g.p.s2, .int .i64 g.p.s3, .int .i64 g.p.s4, .int .i64 g.p.s5, .int .i64 g.p.s6, .int .i64 g.p.s7, .int .i64 g.p.s8, .int .i64 g.p.s9, .int .i64 g.p.s10, .int .i64 g.p.s11]).setRow b6 #[.int .i64 x.k, .int .i64 x.e, .int .i64 x.s, .int .i64 x.u, .int .i64 x.v, .int .i64 x.t]) := (hf.setRow _ _ h5.1).setRow _ _ h6.1
  go_upto_region 4 with (first | (refine wpList_store_row rfl 27 (.tmp 5) (.tmp 18) (by with_reducible rfl) b5 #[.int .i64 g.k, .int .i64 g.e, .int .i64 g.w, .int .i64 g.n, .int .i64 g.q, .string g.t, .int .i64 g.p.s0, .int .i64 g.p.s1, .int .i64 g.p.s2, .int .i64 g.p.s3, .int .i64 g.p.s4, .int .i64 g.p.s5, .int .i64 g.p.s6, .int .i64 g.p.s7, .int .i64 g.p.s8, .int .i64 g.p.s9, .int .i64 g.p.s10, .int .i64 g.p.s11] (by kernel_rfl) (by kernel_rfl) _ _ H5.out (by kernel_rfl) (by rfl) (by simp [Value.oneCell']) ?_) | (refine wpList_store_row rfl 29 (.tmp 6) (.tmp 20) (by with_reducible rfl) b6 #[.int .i64 x.k, .int .i64 x.e, .int .i64 x.s, .int .i64 x.u, .int .i64 x.v, .int .i64 x.t] (by kernel_rfl) (by kernel_rfl) _ _ H6'.out (by kernel_rfl) (by rfl) (by simp [Value.oneCell']) ?_))
  have hP5 := (frm_setRow (wr.setRow b5 #[.int .i64 g.k, .int .i64 g.e, .int .i64 g.w, .int .i64 g.n, .int .i64 g.q, .string g.t, .int .i64 g.p.s0, .int .i64 g.p.s1, .int .i64 g.p.s2, .int .i64 g.p.s3, .int .i64 g.p.s4, .int .i64 g.p.s5, .int .i64 g.p.s6, .int .i64 g.p.s7, .int .i64 g.p.s8, .int .i64 g.p.s9, .int .i64 g.p.s10, .int .i64 g.p.s11]) b6 #[.int .i64 x.k, .int .i64 x.e, .int .i64 x.s, .int .i64 x.u, .int .i64 x.v, .int .i64 x.t]).heap (setRow_heap _ b5 _ #[.int .i64 g.k, .int .i64 g.e, .int .i64 g.w, .int .i64 g.n, .int .i64 g.q, .string g.t, .int .i64 g.p.s0, .int .i64 g.p.s1, .int .i64 g.p.s2, .int .i64 g.p.s3, .int .i64 g.p.s4, .int .i64 g.p.s5, .int .i64 g.p.s6, .int .i64 g.p.s7, .int .i64 g.p.s8, .int .i64 g.p.s9, .int .i64 g.p.s10, .int .i64 g.p.s11] _ _ H5.out) hne
  have hP6 := setRow_heap _ b6 _ #[.int .i64 x.k, .int .i64 x.e, .int .i64 x.s, .int .i64 x.u, .int .i64 x.v, .int .i64 x.t] _ _ H6'.out
  obtain ⟨w2, hw2⟩ : ∃ qq, qq = (wr.setRow b5 #[.int .i64 g.k, .int .i64 g.e, .int .i64 g.w, .int .i64 g.n, .int .i64 g.q, .string g.t, .int .i64 g.p.s0, .int .i64 g.p.s1, .int .i64 g.p.s2, .int .i64 g.p.s3, .int .i64 g.p.s4, .int .i64 g.p.s5, .int .i64 g.p.s6, .int .i64 g.p.s7, .int .i64 g.p.s8, .int .i64 g.p.s9, .int .i64 g.p.s10, .int .i64 g.p.s11]).setRow b6 #[.int .i64 x.k, .int .i64 x.e, .int .i64 x.s, .int .i64 x.u, .int .i64 x.v, .int .i64 x.t] := ⟨_, rfl⟩
  rw [← hw2] at hfr hP5 hP6 ⊢
  have S2 : Hid (Sb M0 w2 fun q => (Frm M0 W q ∧ q.heap[b5]? = some (.cells #[.int .i64 g.k, .int .i64 g.e, .int .i64 g.w, .int .i64 g.n, .int .i64 g.q, .string g.t, .int .i64 g.p.s0, .int .i64 g.p.s1, .int .i64 g.p.s2, .int .i64 g.p.s3, .int .i64 g.p.s4, .int .i64 g.p.s5, .int .i64 g.p.s6, .int .i64 g.p.s7, .int .i64 g.p.s8, .int .i64 g.p.s9, .int .i64 g.p.s10, .int .i64 g.p.s11] 27 (0, 0))) ∧ q.heap[b6]? = some (.cells #[.int .i64 x.k, .int .i64 x.e, .int .i64 x.s, .int .i64 x.u, .int .i64 x.v, .int .i64 x.t] 29 (0, 0))) := hid (((S1.out.step hfr).map fun q h => h.1.1).and (Sb.heap hP5 (fun h => h)) |>.and (Sb.heap hP6 (fun h => h)))
  clear hE hN h5 h6 hne H5 H6' hfr hP5 hP6 hw2 hf S1
  go_wp2_with (refine wpList_load_row_w (by kernel_rfl) 27 (.tmp 5) (by with_reducible rfl) b5 (by kernel_rfl) _ _ _ _ S2.out.now.1.2 Tryz.underlying27 rfl (by kernel_rfl) ?_)
  rw [← HVg.out]
  refine (rwords_calls g _ (HG.out.frm S2.out.now.1.1).tab HFI.out).mono ?_
  rintro _ w3 ⟨rfl, hf⟩
  rw [HY.out, HVg.out]
  have S3 := hid (S2.out.step hf)
  clear hf S2
  go_wp2_with fail
  refine (trecord_calls y _ (by have := HYS.out; omega) (HG.out.frm S3.out.now.1.1)).mono ?_
  rintro _ w4 ⟨rfl, hf⟩
  rw [R1.out]
  simp only []
  rw [HVg.out]
  have S4 := hid (S3.out.step hf)
  clear hf S3
  have HZb := hid (new1 w4 (.cells #[.int .i64 0, .int .i64 0, .int .i64 0, .int .i64 0, .int .i64 0, .string ⟨#[]⟩, .int .i64 0, .int .i64 0, .int .i64 0, .int .i64 0, .int .i64 0, .int .i64 0, .int .i64 0, .int .i64 0, .int .i64 0, .int .i64 0, .int .i64 0, .int .i64 0] 27))
  go_upto_region 5 with (refine wpList_store_row rfl 27 (.tmp 7) (.tmp 25) (by with_reducible rfl) w4.heap.size #[.int .i64 g.k, .int .i64 g.e, .int .i64 g.w, .int .i64 g.n, .int .i64 g.q, .string g.t, .int .i64 g.p.s0, .int .i64 g.p.s1, .int .i64 g.p.s2, .int .i64 g.p.s3, .int .i64 g.p.s4, .int .i64 g.p.s5, .int .i64 g.p.s6, .int .i64 g.p.s7, .int .i64 g.p.s8, .int .i64 g.p.s9, .int .i64 g.p.s10, .int .i64 g.p.s11] (by kernel_rfl) (by kernel_rfl) _ _ HZb.out (by kernel_rfl) (by rfl) (by simp [Value.oneCell']) ?_)
  have hfr := ((Frm.refl M0 w4).alloc (.cells #[.int .i64 0, .int .i64 0, .int .i64 0, .int .i64 0, .int .i64 0, .string ⟨#[]⟩, .int .i64 0, .int .i64 0, .int .i64 0, .int .i64 0, .int .i64 0, .int .i64 0, .int .i64 0, .int .i64 0, .int .i64 0, .int .i64 0, .int .i64 0, .int .i64 0] 27)).setRow w4.heap.size #[.int .i64 g.k, .int .i64 g.e, .int .i64 g.w, .int .i64 g.n, .int .i64 g.q, .string g.t, .int .i64 g.p.s0, .int .i64 g.p.s1, .int .i64 g.p.s2, .int .i64 g.p.s3, .int .i64 g.p.s4, .int .i64 g.p.s5, .int .i64 g.p.s6, .int .i64 g.p.s7, .int .i64 g.p.s8, .int .i64 g.p.s9, .int .i64 g.p.s10, .int .i64 g.p.s11] (Nat.le_refl _)
  have hPb := setRow_heap _ w4.heap.size _ #[.int .i64 g.k, .int .i64 g.e, .int .i64 g.w, .int .i64 g.n, .int .i64 g.q, .string g.t, .int .i64 g.p.s0, .int .i64 g.p.s1, .int .i64 g.p.s2, .int .i64 g.p.s3, .int .i64 g.p.s4, .int .i64 g.p.s5, .int .i64 g.p.s6, .int .i64 g.p.s7, .int .i64 g.p.s8, .int .i64 g.p.s9, .int .i64 g.p.s10, .int .i64 g.p.s11] _ _ HZb.out
  obtain ⟨b7, hblk⟩ : ∃ qq, qq = w4.heap.size := ⟨_, rfl⟩
  obtain ⟨w5, hwn⟩ : ∃ qq, qq = (w4.alloc (.cells #[.int .i64 0, .int .i64 0, .int .i64 0, .int .i64 0, .int .i64 0, .string ⟨#[]⟩, .int .i64 0, .int .i64 0, .int .i64 0, .int .i64 0, .int .i64 0, .int .i64 0, .int .i64 0, .int .i64 0, .int .i64 0, .int .i64 0, .int .i64 0, .int .i64 0] 27)).setRow w4.heap.size #[.int .i64 g.k, .int .i64 g.e, .int .i64 g.w, .int .i64 g.n, .int .i64 g.q, .string g.t, .int .i64 g.p.s0, .int .i64 g.p.s1, .int .i64 g.p.s2, .int .i64 g.p.s3, .int .i64 g.p.s4, .int .i64 g.p.s5, .int .i64 g.p.s6, .int .i64 g.p.s7, .int .i64 g.p.s8, .int .i64 g.p.s9, .int .i64 g.p.s10, .int .i64 g.p.s11] := ⟨_, rfl⟩
  rw [← hwn] at hfr hPb ⊢
  rw [← hblk] at hPb ⊢
  clear hwn hblk HZb
  have S5 := hid ((S4.out.step hfr).and (Sb.heap hPb (fun h => h)))
  clear hfr hPb S4
  go_wp2_with (refine wpList_load_row_w (by kernel_rfl) 29 (.tmp 6) (by with_reducible rfl) b6 (by kernel_rfl) _ _ _ _ S5.out.now.1.2 Tryz.underlying29 rfl (by kernel_rfl) ?_)
  rw [← HVx.out]
  refine (tmsg_calls x _ (HG.out.frm S5.out.now.1.1.1).tab).mono ?_
  rintro _ w6 ⟨rfl, hf⟩
  rw [HZ.out, HVx.out]
  have S6 := hid (S5.out.step hf)
  clear hf S5
  go_wp2_with fail
  refine (tmessage_calls z _ (by have := HZS.out; omega) (HG.out.frm S6.out.now.1.1.1)).mono ?_
  rintro _ w7 ⟨rfl, hf⟩
  rw [R2.out]
  simp only []
  rw [HVx.out]
  have S7 := hid (S6.out.step hf)
  clear hf S6
  have HZb := hid (new1 w7 (.cells #[.int .i64 0, .int .i64 0, .int .i64 0, .int .i64 0, .int .i64 0, .int .i64 0] 29))
  go_upto_region 6 with (refine wpList_store_row rfl 29 (.tmp 9) (.tmp 31) (by with_reducible rfl) w7.heap.size #[.int .i64 x.k, .int .i64 x.e, .int .i64 x.s, .int .i64 x.u, .int .i64 x.v, .int .i64 x.t] (by kernel_rfl) (by kernel_rfl) _ _ HZb.out (by kernel_rfl) (by rfl) (by simp [Value.oneCell']) ?_)
  have hfr := ((Frm.refl M0 w7).alloc (.cells #[.int .i64 0, .int .i64 0, .int .i64 0, .int .i64 0, .int .i64 0, .int .i64 0] 29)).setRow w7.heap.size #[.int .i64 x.k, .int .i64 x.e, .int .i64 x.s, .int .i64 x.u, .int .i64 x.v, .int .i64 x.t] (Nat.le_refl _)
  have hPb := setRow_heap _ w7.heap.size _ #[.int .i64 x.k, .int .i64 x.e, .int .i64 x.s, .int .i64 x.u, .int .i64 x.v, .int .i64 x.t] _ _ HZb.out
  obtain ⟨b9, hblk⟩ : ∃ qq, qq = w7.heap.size := ⟨_, rfl⟩
  obtain ⟨w8, hwn⟩ : ∃ qq, qq = (w7.alloc (.cells #[.int .i64 0, .int .i64 0, .int .i64 0, .int .i64 0, .int .i64 0, .int .i64 0] 29)).setRow w7.heap.size #[.int .i64 x.k, .int .i64 x.e, .int .i64 x.s, .int .i64 x.u, .int .i64 x.v, .int .i64 x.t] := ⟨_, rfl⟩
  rw [← hwn] at hfr hPb ⊢
  rw [← hblk] at hPb ⊢
  clear hwn hblk HZb
  have S8 := hid ((S7.out.step hfr).and (Sb.heap hPb (fun h => h)))
  clear hfr hPb S7
  go_wp2_with (refine wpList_load_row_w (by kernel_rfl) 29 (.tmp 6) (by with_reducible rfl) b6 (by kernel_rfl) _ _ _ _ S8.out.now.1.1.2 Tryz.underlying29 rfl (by kernel_rfl) ?_)
  rw [← HVx.out]
  refine (tmsg_calls x _ (HG.out.frm S8.out.now.1.1.1.1).tab).mono ?_
  rintro _ w9 ⟨rfl, hf⟩
  rw [HZ.out, HVx.out]
  have S9 := hid (S8.out.step hf)
  clear hf S8
  go_wp2_with fail
  refine (trecord_calls z _ (by have := HZS.out; omega) (HG.out.frm S9.out.now.1.1.1.1)).mono ?_
  rintro _ w10 ⟨rfl, hf⟩
  rw [R3.out]
  simp only []
  rw [HRZ.out]
  have S10 := hid (S9.out.step hf)
  clear hf S9
  have HZb := hid (new1 w10 (.cells #[.int .i64 0, .int .i64 0, .int .i64 0, .int .i64 0, .int .i64 0, .string ⟨#[]⟩, .int .i64 0, .int .i64 0, .int .i64 0, .int .i64 0, .int .i64 0, .int .i64 0, .int .i64 0, .int .i64 0, .int .i64 0, .int .i64 0, .int .i64 0, .int .i64 0] 27))
  go_upto_region 7 with (refine wpList_store_row rfl 27 (.tmp 11) (.tmp 37) (by with_reducible rfl) w10.heap.size #[.int .i64 0, .int .i64 0, .int .i64 0, .int .i64 0, .int .i64 0, .string ⟨#[]⟩, .int .i64 0, .int .i64 0, .int .i64 0, .int .i64 0, .int .i64 0, .int .i64 0, .int .i64 0, .int .i64 0, .int .i64 0, .int .i64 0, .int .i64 0, .int .i64 0] (by kernel_rfl) (by kernel_rfl) _ _ HZb.out (by kernel_rfl) (by rfl) (by simp [Value.oneCell']) ?_)
  have hfr := ((Frm.refl M0 w10).alloc (.cells #[.int .i64 0, .int .i64 0, .int .i64 0, .int .i64 0, .int .i64 0, .string ⟨#[]⟩, .int .i64 0, .int .i64 0, .int .i64 0, .int .i64 0, .int .i64 0, .int .i64 0, .int .i64 0, .int .i64 0, .int .i64 0, .int .i64 0, .int .i64 0, .int .i64 0] 27)).setRow w10.heap.size #[.int .i64 0, .int .i64 0, .int .i64 0, .int .i64 0, .int .i64 0, .string ⟨#[]⟩, .int .i64 0, .int .i64 0, .int .i64 0, .int .i64 0, .int .i64 0, .int .i64 0, .int .i64 0, .int .i64 0, .int .i64 0, .int .i64 0, .int .i64 0, .int .i64 0] (Nat.le_refl _)
  have hPb := setRow_heap _ w10.heap.size _ #[.int .i64 0, .int .i64 0, .int .i64 0, .int .i64 0, .int .i64 0, .string ⟨#[]⟩, .int .i64 0, .int .i64 0, .int .i64 0, .int .i64 0, .int .i64 0, .int .i64 0, .int .i64 0, .int .i64 0, .int .i64 0, .int .i64 0, .int .i64 0, .int .i64 0] _ _ HZb.out
  obtain ⟨b11, hblk⟩ : ∃ qq, qq = w10.heap.size := ⟨_, rfl⟩
  obtain ⟨w11, hwn⟩ : ∃ qq, qq = (w10.alloc (.cells #[.int .i64 0, .int .i64 0, .int .i64 0, .int .i64 0, .int .i64 0, .string ⟨#[]⟩, .int .i64 0, .int .i64 0, .int .i64 0, .int .i64 0, .int .i64 0, .int .i64 0, .int .i64 0, .int .i64 0, .int .i64 0, .int .i64 0, .int .i64 0, .int .i64 0] 27)).setRow w10.heap.size #[.int .i64 0, .int .i64 0, .int .i64 0, .int .i64 0, .int .i64 0, .string ⟨#[]⟩, .int .i64 0, .int .i64 0, .int .i64 0, .int .i64 0, .int .i64 0, .int .i64 0, .int .i64 0, .int .i64 0, .int .i64 0, .int .i64 0, .int .i64 0, .int .i64 0] := ⟨_, rfl⟩
  rw [← hwn] at hfr hPb ⊢
  rw [← hblk] at hPb ⊢
  clear hwn hblk HZb
  have S11 := hid ((S10.out.step hfr).and (Sb.heap hPb (fun h => h)))
  clear hfr hPb S10
  go_wp2_with (refine wpList_load_row_w (by kernel_rfl) 27 (.tmp 5) (by with_reducible rfl) b5 (by kernel_rfl) _ _ _ _ S11.out.now.1.1.1.1.2 Tryz.underlying27 rfl (by kernel_rfl) ?_)
  rw [← HVg.out]
  refine (rwords_calls g _ (HG.out.frm S11.out.now.1.1.1.1.1).tab HFI.out).mono ?_
  rintro _ w12 ⟨rfl, hf⟩
  rw [HY.out, HVg.out]
  have S12 := hid (S11.out.step hf)
  clear hf S11
  go_wp2_with fail
  refine (tmessage_calls y _ (by have := HYS.out; omega) (HG.out.frm S12.out.now.1.1.1.1.1)).mono ?_
  rintro _ w13 ⟨rfl, hf⟩
  rw [R4.out]
  simp only []
  rw [HMZ.out]
  have S13 := hid (S12.out.step hf)
  clear hf S12
  have HZb := hid (new1 w13 (.cells #[.int .i64 0, .int .i64 0, .int .i64 0, .int .i64 0, .int .i64 0, .int .i64 0] 29))
  go_upto_region 8 with (refine wpList_store_row rfl 29 (.tmp 13) (.tmp 43) (by with_reducible rfl) w13.heap.size #[.int .i64 0, .int .i64 0, .int .i64 0, .int .i64 0, .int .i64 0, .int .i64 0] (by kernel_rfl) (by kernel_rfl) _ _ HZb.out (by kernel_rfl) (by rfl) (by simp [Value.oneCell']) ?_)
  have hfr := ((Frm.refl M0 w13).alloc (.cells #[.int .i64 0, .int .i64 0, .int .i64 0, .int .i64 0, .int .i64 0, .int .i64 0] 29)).setRow w13.heap.size #[.int .i64 0, .int .i64 0, .int .i64 0, .int .i64 0, .int .i64 0, .int .i64 0] (Nat.le_refl _)
  have hPb := setRow_heap _ w13.heap.size _ #[.int .i64 0, .int .i64 0, .int .i64 0, .int .i64 0, .int .i64 0, .int .i64 0] _ _ HZb.out
  obtain ⟨b13, hblk⟩ : ∃ qq, qq = w13.heap.size := ⟨_, rfl⟩
  obtain ⟨w14, hwn⟩ : ∃ qq, qq = (w13.alloc (.cells #[.int .i64 0, .int .i64 0, .int .i64 0, .int .i64 0, .int .i64 0, .int .i64 0] 29)).setRow w13.heap.size #[.int .i64 0, .int .i64 0, .int .i64 0, .int .i64 0, .int .i64 0, .int .i64 0] := ⟨_, rfl⟩
  rw [← hwn] at hfr hPb ⊢
  rw [← hblk] at hPb ⊢
  clear hwn hblk HZb
  have S14 := hid ((S13.out.step hfr).and (Sb.heap hPb (fun h => h)))
  clear hfr hPb S13
  go_upto_region 8 with fail
  have hqr : req ⟨g.k, g.e, g.w, g.n, g.q, g.t, ⟨g.p.s0, g.p.s1, g.p.s2, g.p.s3, g.p.s4, g.p.s5, g.p.s6, g.p.s7, g.p.s8, g.p.s9, g.p.s10, g.p.s11⟩⟩ ⟨g.k, g.e, g.w, g.n, g.q, g.t, ⟨g.p.s0, g.p.s1, g.p.s2, g.p.s3, g.p.s4, g.p.s5, g.p.s6, g.p.s7, g.p.s8, g.p.s9, g.p.s10, g.p.s11⟩⟩ = true := by unfold req; exact decide_eq_true rfl
  have hqm : meq ⟨x.k, x.e, x.s, x.u, x.v, x.t⟩ ⟨x.k, x.e, x.s, x.u, x.v, x.t⟩ = true := by unfold meq; exact decide_eq_true rfl
  apply wp_region_N 24 (valsL ((.agg #[.int .i64 g.k, .int .i64 g.e, .int .i64 g.w, .int .i64 g.n, .int .i64 g.q, .string g.t, .int .i64 g.p.s0, .int .i64 g.p.s1, .int .i64 g.p.s2, .int .i64 g.p.s3, .int .i64 g.p.s4, .int .i64 g.p.s5, .int .i64 g.p.s6, .int .i64 g.p.s7, .int .i64 g.p.s8, .int .i64 g.p.s9, .int .i64 g.p.s10, .int .i64 g.p.s11]) :: (.agg #[.int .i64 g.k, .int .i64 g.e, .int .i64 g.w, .int .i64 g.n, .int .i64 g.q, .string g.t, .int .i64 g.p.s0, .int .i64 g.p.s1, .int .i64 g.p.s2, .int .i64 g.p.s3, .int .i64 g.p.s4, .int .i64 g.p.s5, .int .i64 g.p.s6, .int .i64 g.p.s7, .int .i64 g.p.s8, .int .i64 g.p.s9, .int .i64 g.p.s10, .int .i64 g.p.s11]) :: _ :: _ :: _ :: _ :: _ :: _ :: (.agg #[.int .i64 x.k, .int .i64 x.e, .int .i64 x.s, .int .i64 x.u, .int .i64 x.v, .int .i64 x.t]) :: (.agg #[.int .i64 x.k, .int .i64 x.e, .int .i64 x.s, .int .i64 x.u, .int .i64 x.v, .int .i64 x.t]) :: _ :: _ :: _ :: _ :: _ :: _ :: _ :: _ :: _ :: _ :: _ :: _ :: _ :: _ :: [])) ?hB2 ?main2
  case hB2 => kernel_rfl
  rotate_left 20
  intro ops QT HO HQ
  obtain ⟨ho0, HO⟩ := HO
  refine wpG_v ho0.out rfl ?_ ?_
  · simp only [valsL_zero, valsL_succ]; apply FY_in rfl; intro wx hx
    exact fu_load_row_g 27 (.tmp 7) rfl (b7) (by kernel_rfl) _ _ _ _ ((S14.out wx hx).1.1.1.2) Tryz.underlying27 rfl (by kernel_rfl)
  simp only [Act.put, List.setIfInBounds_toArray, List.set_cons_zero, List.set_cons_succ, valsL_zero, valsL_succ]
  obtain ⟨ho1, HO⟩ := HO
  refine wpG_v ho1.out rfl ?_ ?_
  · simp only [valsL_zero, valsL_succ]; apply FY_in rfl; intro wx hx
    exact fu_load_row_g 27 (.tmp 5) rfl (b5) (by kernel_rfl) _ _ _ _ ((S14.out wx hx).1.1.1.1.1.2) Tryz.underlying27 rfl (by kernel_rfl)
  simp only [Act.put, List.setIfInBounds_toArray, List.set_cons_zero, List.set_cons_succ, valsL_zero, valsL_succ]
  obtain ⟨ho2, HO⟩ := HO
  refine wpG_v ho2.out rfl ?_ ?_
  · simp only [valsL_zero, valsL_succ]; apply FY_in rfl; intro wx hx
    go_simp
    exact ⟨rfl, rfl⟩
  simp only [Act.put, List.setIfInBounds_toArray, List.set_cons_zero, List.set_cons_succ, valsL_zero, valsL_succ]
  obtain ⟨ho3, HO⟩ := HO
  refine wpG_v ho3.out rfl ?_ ?_
  · simp only [valsL_zero, valsL_succ]; apply FY_in rfl; intro wx hx
    go_simp
    exact ⟨rfl, rfl⟩
  simp only [Act.put, List.setIfInBounds_toArray, List.set_cons_zero, List.set_cons_succ, valsL_zero, valsL_succ]
  obtain ⟨ho4, HO⟩ := HO
  refine wpG_v ho4.out rfl ?_ ?_
  · simp only [valsL_zero, valsL_succ]; apply FY_yes (d := 48) rfl ho3.out (by rfl) (by kernel_rfl); intro wx hx
    go_simp
    exact ⟨rfl, rfl⟩
  simp only [Act.put, List.setIfInBounds_toArray, List.set_cons_zero, List.set_cons_succ, valsL_zero, valsL_succ]
  obtain ⟨ho5, HO⟩ := HO
  refine wpG_v ho5.out rfl ?_ ?_
  · simp only [valsL_zero, valsL_succ]; apply FY_yes (d := 48) rfl ho3.out (by rfl) (by kernel_rfl); intro wx hx
    go_simp
    exact ⟨rfl, rfl⟩
  simp only [Act.put, List.setIfInBounds_toArray, List.set_cons_zero, List.set_cons_succ, valsL_zero, valsL_succ]
  obtain ⟨ho6, HO⟩ := HO
  refine wpG_v ho6.out rfl ?_ ?_
  · simp only [valsL_zero, valsL_succ]; apply FY_in rfl; intro wx hx
    go_simp
    exact ⟨rfl, rfl⟩
  simp only [Act.put, List.setIfInBounds_toArray, List.set_cons_zero, List.set_cons_succ, valsL_zero, valsL_succ]
  obtain ⟨ho7, HO⟩ := HO
  refine wpG_v ho7.out rfl ?_ ?_
  · simp only [valsL_zero, valsL_succ]; apply FY_in rfl; intro wx hx
    go_simp
    exact ⟨rfl, rfl⟩
  simp only [Act.put, List.setIfInBounds_toArray, List.set_cons_zero, List.set_cons_succ, valsL_zero, valsL_succ]
  obtain ⟨ho8, HO⟩ := HO
  refine wpG_v ho8.out rfl ?_ ?_
  · simp only [valsL_zero, valsL_succ]; apply FY_yes (d := 52) rfl ho7.out (by rfl) (by kernel_rfl); intro wx hx
    exact fu_load_row_g 29 (.tmp 9) rfl (b9) (by kernel_rfl) _ _ _ _ ((S14.out wx hx).1.1.2) Tryz.underlying29 rfl (by kernel_rfl)
  simp only [Act.put, List.setIfInBounds_toArray, List.set_cons_zero, List.set_cons_succ, valsL_zero, valsL_succ]
  obtain ⟨ho9, HO⟩ := HO
  refine wpG_v ho9.out rfl ?_ ?_
  · simp only [valsL_zero, valsL_succ]; apply FY_yes (d := 52) rfl ho7.out (by rfl) (by kernel_rfl); intro wx hx
    exact fu_load_row_g 29 (.tmp 6) rfl (b6) (by kernel_rfl) _ _ _ _ ((S14.out wx hx).1.1.1.1.2) Tryz.underlying29 rfl (by kernel_rfl)
  simp only [Act.put, List.setIfInBounds_toArray, List.set_cons_zero, List.set_cons_succ, valsL_zero, valsL_succ]
  obtain ⟨ho10, HO⟩ := HO
  refine wpG_v ho10.out rfl ?_ ?_
  · simp only [valsL_zero, valsL_succ]; apply FY_yes (d := 52) rfl ho7.out (by rfl) (by kernel_rfl); intro wx hx
    go_simp
    exact ⟨rfl, rfl⟩
  simp only [Act.put, List.setIfInBounds_toArray, List.set_cons_zero, List.set_cons_succ, valsL_zero, valsL_succ]
  obtain ⟨ho11, HO⟩ := HO
  refine wpG_v ho11.out rfl ?_ ?_
  · simp only [valsL_zero, valsL_succ]; apply FY_in rfl; intro wx hx
    go_simp
    exact ⟨rfl, rfl⟩
  simp only [Act.put, List.setIfInBounds_toArray, List.set_cons_zero, List.set_cons_succ, valsL_zero, valsL_succ]
  obtain ⟨ho12, HO⟩ := HO
  refine wpG_v ho12.out rfl ?_ ?_
  · simp only [valsL_zero, valsL_succ]; apply FY_in rfl; intro wx hx
    go_simp
    exact ⟨rfl, rfl⟩
  simp only [Act.put, List.setIfInBounds_toArray, List.set_cons_zero, List.set_cons_succ, valsL_zero, valsL_succ]
  obtain ⟨ho13, HO⟩ := HO
  refine wpG_v ho13.out rfl ?_ ?_
  · simp only [valsL_zero, valsL_succ]; apply FY_yes (d := 57) rfl ho12.out (by rfl) (by kernel_rfl); intro wx hx
    go_simp
    exact ⟨rfl, rfl⟩
  simp only [Act.put, List.setIfInBounds_toArray, List.set_cons_zero, List.set_cons_succ, valsL_zero, valsL_succ]
  obtain ⟨ho14, HO⟩ := HO
  refine wpG_v ho14.out rfl ?_ ?_
  · simp only [valsL_zero, valsL_succ]; apply FY_yes (d := 57) rfl ho12.out (by rfl) (by kernel_rfl); intro wx hx
    go_simp
    exact ⟨rfl, rfl⟩
  simp only [Act.put, List.setIfInBounds_toArray, List.set_cons_zero, List.set_cons_succ, valsL_zero, valsL_succ]
  obtain ⟨ho15, HO⟩ := HO
  refine wpG_v ho15.out rfl ?_ ?_
  · simp only [valsL_zero, valsL_succ]; apply FY_in rfl; intro wx hx
    go_simp
    exact ⟨rfl, rfl⟩
  simp only [Act.put, List.setIfInBounds_toArray, List.set_cons_zero, List.set_cons_succ, valsL_zero, valsL_succ]
  obtain ⟨ho16, HO⟩ := HO
  refine wpG_v ho16.out rfl ?_ ?_
  · simp only [valsL_zero, valsL_succ]; apply FY_in rfl; intro wx hx
    go_simp
    exact ⟨rfl, rfl⟩
  simp only [Act.put, List.setIfInBounds_toArray, List.set_cons_zero, List.set_cons_succ, valsL_zero, valsL_succ]
  obtain ⟨ho17, HO⟩ := HO
  refine wpG_v ho17.out rfl ?_ ?_
  · simp only [valsL_zero, valsL_succ]; apply FY_yes (d := 61) rfl ho16.out (by rfl) (by kernel_rfl); intro wx hx
    go_simp
    exact ⟨rfl, rfl⟩
  simp only [Act.put, List.setIfInBounds_toArray, List.set_cons_zero, List.set_cons_succ, valsL_zero, valsL_succ]
  obtain ⟨ho18, HO⟩ := HO
  refine wpG_v ho18.out rfl ?_ ?_
  · simp only [valsL_zero, valsL_succ]; apply FY_yes (d := 61) rfl ho16.out (by rfl) (by kernel_rfl); intro wx hx
    go_simp
    exact ⟨rfl, rfl⟩
  simp only [Act.put, List.setIfInBounds_toArray, List.set_cons_zero, List.set_cons_succ, valsL_zero, valsL_succ]
  obtain ⟨ho19, HO⟩ := HO
  refine wpG_v ho19.out rfl ?_ ?_
  · simp only [valsL_zero, valsL_succ]; apply FY_in rfl; intro wx hx
    go_simp
    exact ⟨rfl, rfl⟩
  simp only [Act.put, List.setIfInBounds_toArray, List.set_cons_zero, List.set_cons_succ, valsL_zero, valsL_succ]
  obtain ⟨ho20, HO⟩ := HO
  refine wpG_v ho20.out rfl ?_ ?_
  · simp only [valsL_zero, valsL_succ]; apply FY_in rfl; intro wx hx
    go_simp
    exact ⟨rfl, rfl⟩
  simp only [Act.put, List.setIfInBounds_toArray, List.set_cons_zero, List.set_cons_succ, valsL_zero, valsL_succ]
  obtain ⟨ho21, HO⟩ := HO
  refine wpG_v ho21.out rfl ?_ ?_
  · simp only [valsL_zero, valsL_succ]; apply FY_yes (d := 65) rfl ho20.out (by rfl) (by kernel_rfl); intro wx hx
    go_simp
    exact ⟨rfl, rfl⟩
  simp only [Act.put, List.setIfInBounds_toArray, List.set_cons_zero, List.set_cons_succ, valsL_zero, valsL_succ]
  obtain ⟨ho22, HO⟩ := HO
  refine wpG_v ho22.out rfl ?_ ?_
  · simp only [valsL_zero, valsL_succ]; apply FY_yes (d := 65) rfl ho20.out (by rfl) (by kernel_rfl); intro wx hx
    go_simp
    exact ⟨rfl, rfl⟩
  simp only [Act.put, List.setIfInBounds_toArray, List.set_cons_zero, List.set_cons_succ, valsL_zero, valsL_succ]
  obtain ⟨ho23, HO⟩ := HO
  refine wpG_v ho23.out rfl ?_ ?_
  · simp only [valsL_zero, valsL_succ]; apply FY_in rfl; intro wx hx
    go_simp
    exact ⟨rfl, rfl⟩
  simp only [Act.put, List.setIfInBounds_toArray, List.set_cons_zero, List.set_cons_succ, valsL_zero, valsL_succ]
  refine HQ.out _ _ ?_
  intro wr hf
  simp only [List.drop_succ_cons, List.drop_zero]
  clear HQ HO ho0 ho1 ho2 ho3 ho4 ho5 ho6 ho7 ho8 ho9 ho10 ho11 ho12 ho13 ho14 ho15 ho16 ho17 ho18 ho19 ho20 ho21 ho22 ho23
  have SE := hid (S14.out.step hf)
  clear hf
  go_wp2_with fail
  go_ret
  exact ⟨by first | rfl | simp, SE.out.now.1.1.1.1.1.1.below⟩
end Go.Proofs.YtonlmkcolndaaaaGreatDoor
