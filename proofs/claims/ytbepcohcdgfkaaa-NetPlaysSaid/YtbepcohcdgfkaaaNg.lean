/- A message that may be, made of any. No condition. -/
import Derived.Test.YtbepcohcdgfkaaaNn
namespace Go.Proofs.Ytbepcohcdgfkaaa
set_option linter.unusedVariables false
set_option linter.unusedSimpArgs false
open Go.RowKit Go.Conc

def Mg.good (m : Mg) : Mg := ⟨1 + m.k % 8 % 2, m.e % 8, m.s % 8, m.u % 8, m.v % 8 % 4, m.t % 8 % 5⟩

theorem mod8 (x : Int) : wrap64 ((IntKind.u64.wrap x).tmod 8) = x % 8 := by
  have h : IntKind.u64.wrap x = x % 18446744073709551616 := by simp [IntKind.wrap, IntKind.bits, IntKind.signed]
  rw [h, Int.tmod_eq_emod_of_nonneg (by omega)]
  unfold wrap64
  omega

set_option maxHeartbeats 2000000 in
theorem good_calls (m : Mg) (w : World) : Calls Try.prog 12 #[m.val] w fun r w' => r = .returned m.good.val ∧ Frm M0 w w' := by
  obtain ⟨k, e, s, u, v, t⟩ := m
  unfold Mg.val Mg.good
  simp only []
  go_enter Try.func12, Try.ntmps12
  go_wp2_with fail
  refine wp_loop_rounds 7 ?_
  rw [rounds_succ]
  go_wp2_with fail
  rw [rounds_succ]
  go_wp2_with fail
  rw [rounds_succ]
  go_wp2_with fail
  rw [rounds_succ]
  go_wp2_with fail
  rw [rounds_succ]
  go_wp2_with fail
  rw [rounds_succ]
  go_wp2_with fail
  rw [rounds_succ]
  go_wp2_with fail
  simp only [mod8]
  obtain ⟨k8, hk8⟩ : ∃ y, y = k % 8 := ⟨_, rfl⟩
  obtain ⟨e8, he8⟩ : ∃ y, y = e % 8 := ⟨_, rfl⟩
  obtain ⟨s8, hs8⟩ : ∃ y, y = s % 8 := ⟨_, rfl⟩
  obtain ⟨u8, hu8⟩ : ∃ y, y = u % 8 := ⟨_, rfl⟩
  obtain ⟨v8, hv8⟩ : ∃ y, y = v % 8 := ⟨_, rfl⟩
  obtain ⟨t8, ht8⟩ : ∃ y, y = t % 8 := ⟨_, rfl⟩
  rw [← hk8, ← he8, ← hs8, ← hu8, ← hv8, ← ht8]
  have K := hid hk8; have E := hid he8; have S := hid hs8; have U := hid hu8; have V := hid hv8; have T := hid ht8
  have kb : 0 ≤ k8 ∧ k8 < 8 := by omega
  have vb : 0 ≤ v8 ∧ v8 < 8 := by omega
  have tb : 0 ≤ t8 ∧ t8 < 8 := by omega
  clear hk8 he8 hs8 hu8 hv8 ht8
  have e1 : k8.tmod 2 = k8 % 2 := Int.tmod_eq_emod_of_nonneg (by omega)
  have e2 : v8.tmod 4 = v8 % 4 := Int.tmod_eq_emod_of_nonneg (by omega)
  have e3 : t8.tmod 5 = t8 % 5 := Int.tmod_eq_emod_of_nonneg (by omega)
  obtain ⟨w1, hw1⟩ : ∃ w1, w1 = ((w.alloc (.cells #[.int .i64 k, .int .i64 e, .int .i64 s, .int .i64 u, .int .i64 v, .int .i64 t] 29)).alloc (.cells #[.int .i64 0, .int .i64 0, .int .i64 0, .int .i64 0, .int .i64 0, .int .i64 0] 29)).alloc (.cells #[.int .i64 k8, .int .i64 e8, .int .i64 s8, .int .i64 u8, .int .i64 v8, .int .i64 t8] 3) := ⟨_, rfl⟩
  have hf1 : Frm M0 w w1 := by rw [hw1]; exact (((Frm.refl _ _).alloc _).alloc _).alloc _
  have hz : w1.heap.size = w.heap.size + 1 + 1 + 1 := by rw [hw1]; simp
  have hb1 : w1.heap[w.heap.size + 1]? = some (.cells #[.int .i64 0, .int .i64 0, .int .i64 0, .int .i64 0, .int .i64 0, .int .i64 0] 29 (0, 0)) := by
    rw [hw1]
    refine ((Frm.refl M0 _).alloc _).heap ?_ (fun h => h)
    have := heap_alloc_new (w.alloc (.cells #[.int .i64 k, .int .i64 e, .int .i64 s, .int .i64 u, .int .i64 v, .int .i64 t] 29)) (.cells #[.int .i64 0, .int .i64 0, .int .i64 0, .int .i64 0, .int .i64 0, .int .i64 0] 29)
    simpa using this
  have hb2 : w1.heap[w.heap.size + 1 + 1]? = some (.cells #[.int .i64 k8, .int .i64 e8, .int .i64 s8, .int .i64 u8, .int .i64 v8, .int .i64 t8] 3 (0, 0)) := by
    rw [hw1]
    have := heap_alloc_new ((w.alloc (.cells #[.int .i64 k, .int .i64 e, .int .i64 s, .int .i64 u, .int .i64 v, .int .i64 t] 29)).alloc (.cells #[.int .i64 0, .int .i64 0, .int .i64 0, .int .i64 0, .int .i64 0, .int .i64 0] 29)) (.cells #[.int .i64 k8, .int .i64 e8, .int .i64 s8, .int .i64 u8, .int .i64 v8, .int .i64 t8] 3)
    simpa using this
  rw [← hw1]
  clear hw1
  have c0 : w1.cell? ⟨w.heap.size + 1 + 1, 0, none⟩ = some (.int .i64 k8) := by rw [cell_at hb2]; rfl
  have c1 : w1.cell? ⟨w.heap.size + 1 + 1, 1, none⟩ = some (.int .i64 e8) := by rw [cell_at hb2]; rfl
  have c2 : w1.cell? ⟨w.heap.size + 1 + 1, 2, none⟩ = some (.int .i64 s8) := by rw [cell_at hb2]; rfl
  have c3 : w1.cell? ⟨w.heap.size + 1 + 1, 3, none⟩ = some (.int .i64 u8) := by rw [cell_at hb2]; rfl
  have c4 : w1.cell? ⟨w.heap.size + 1 + 1, 4, none⟩ = some (.int .i64 v8) := by rw [cell_at hb2]; rfl
  have c5 : w1.cell? ⟨w.heap.size + 1 + 1, 5, none⟩ = some (.int .i64 t8) := by rw [cell_at hb2]; rfl
  have b0 : w1.cell? ⟨w.heap.size + 1, 0, none⟩ = some (.int .i64 0) := by rw [cell_at hb1]; rfl
  have f0 : w1.frozen? ⟨w.heap.size + 1, 0, none⟩ = false := frozen_at hb1 _
  have b1 : w1.cell? ⟨w.heap.size + 1, 1, none⟩ = some (.int .i64 0) := by rw [cell_at hb1]; rfl
  have f1 : w1.frozen? ⟨w.heap.size + 1, 1, none⟩ = false := frozen_at hb1 _
  have b2 : w1.cell? ⟨w.heap.size + 1, 2, none⟩ = some (.int .i64 0) := by rw [cell_at hb1]; rfl
  have f2 : w1.frozen? ⟨w.heap.size + 1, 2, none⟩ = false := frozen_at hb1 _
  have b3 : w1.cell? ⟨w.heap.size + 1, 3, none⟩ = some (.int .i64 0) := by rw [cell_at hb1]; rfl
  have f3 : w1.frozen? ⟨w.heap.size + 1, 3, none⟩ = false := frozen_at hb1 _
  have b4 : w1.cell? ⟨w.heap.size + 1, 4, none⟩ = some (.int .i64 0) := by rw [cell_at hb1]; rfl
  have f4 : w1.frozen? ⟨w.heap.size + 1, 4, none⟩ = false := frozen_at hb1 _
  have b5 : w1.cell? ⟨w.heap.size + 1, 5, none⟩ = some (.int .i64 0) := by rw [cell_at hb1]; rfl
  have f5 : w1.frozen? ⟨w.heap.size + 1, 5, none⟩ = false := frozen_at hb1 _
  have HF := hid hf1
  have hlt : w.heap.size + 1 < w1.heap.size := by omega
  clear hf1 hb1 hb2 hz
  go_region
  go_wp2_with fail
  refine bodyPost_ret (v := .agg #[.int .i64 (1 + k8 % 2), .int .i64 e8, .int .i64 s8, .int .i64 u8, .int .i64 (v8 % 4), .int .i64 (t8 % 5)]) (by simp [results, Try.results12, go_sem, hlt, b0, b1, b2, b3, b4, b5]) rfl ⟨by rw [K.out, E.out, S.out, U.out, V.out, T.out], ?_⟩
  have h6 := (((((((HF.out.mono (M' := fun b => b = w.heap.size + 1) (fun _ _ h => h.elim)).put (w.heap.size + 1) 0 (.int .i64 (1 + k8 % 2)) (fun _ => rfl)).put (w.heap.size + 1) 1 (.int .i64 e8) (fun _ => rfl)).put (w.heap.size + 1) 2 (.int .i64 s8) (fun _ => rfl)).put (w.heap.size + 1) 3 (.int .i64 u8) (fun _ => rfl)).put (w.heap.size + 1) 4 (.int .i64 (v8 % 4)) (fun _ => rfl)).put (w.heap.size + 1) 5 (.int .i64 (t8 % 5)) (fun _ => rfl)).drew
  exact h6.mono (fun b hb e => by have e' : b = w.heap.size + 1 := e; omega)
end Go.Proofs.Ytbepcohcdgfkaaa
