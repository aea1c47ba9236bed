/- A new net. No condition. -/
import Derived.Test.YtbepcohcdgfkaaaNe
namespace Go.Proofs.Ytbepcohcdgfkaaa
set_option linter.unusedVariables false
set_option linter.unusedSimpArgs false
open Go.RowKit Go.Conc

theorem max_if (x y : Int) : (if x < y then y else x) = max x y := by omega
theorem run_min2 {P : Program} (w : World) (ts : Array TypeId) (t : TypeId) (a b : Int) :
    (Builtin.min_ ts t #[.int .i64 a, .int .i64 b]).run P w = .ok (.int .i64 (min a b)) w := by
  simp only [Builtin.min_, List.foldlM_cons, List.foldlM_nil, Builtin.min2, min_if, Sem.run_bind, Sem.run_pure, Result.andThen_ok]
theorem run_max2 {P : Program} (w : World) (ts : Array TypeId) (t : TypeId) (a b : Int) :
    (Builtin.max_ ts t #[.int .i64 a, .int .i64 b]).run P w = .ok (.int .i64 (max a b)) w := by
  simp only [Builtin.max_, List.foldlM_cons, List.foldlM_nil, Builtin.max2, max_if, Sem.run_bind, Sem.run_pure, Result.andThen_ok]
attribute [-go_sem] run_max_int2 run_min_int2
attribute [local go_sem] run_min2 run_max2

/-- The room that a number names. -/
def roomOf (x : Int) : Nat := (min (max x 1) 64).toNat
theorem roomOf_eq (x : Int) : min (max x 1) 64 = (roomOf x : Int) ∧ 1 ≤ roomOf x ∧ roomOf x ≤ 64 := by unfold roomOf; omega

theorem mk_chan (w : World) (r : Nat) (hr : r ≤ 64) : (Instr.makeChan 61 (.int .i64 (r : Int))).run Try.prog w = .ok (.chan (some w.heap.size)) (w.alloc (.chan r #[] false 0 0 false)) := by
  obtain ⟨i, hi, hz, hs, hy⟩ := info_parts (show (Try.prog.info? 64).map (fun i => (i.zero, i.size, i.bytes)) = some (some (.agg #[]), 0, 0) by kernel_rfl)
  exact run_makeChan (dir := .both) (e := 64) Try.underlying61 hi .i64 r (by omega) (by rw [hy]; omega)

set_option maxHeartbeats 1000000 in
theorem new_calls (x : Int) (w : World) : Calls Try.prog 10 #[.int .i64 x] w fun r w' => r = .returned (pn (w.heap.size + 1)) ∧ NetR w' (w.heap.size + 1) w.heap.size none ⟨roomOf x, [], 0, 0⟩ ∧ Frm M0 w w' := by
  obtain ⟨hr, r1, r2⟩ := roomOf_eq x
  generalize roomOf x = r at *
  have hm : ∀ w, (Instr.makeChan 61 (.int .i64 (r : Int))).run Try.prog w = .ok (.chan (some w.heap.size)) (w.alloc (.chan r #[] false 0 0 false)) := fun w => mk_chan w r r2
  go_enter Try.func10, Try.ntmps10
  go_wp2_with fail
  go_loopw [12] (fun i12 wr => ∃ j : Nat, j ≤ r ∧ i12 = .int .i64 j ∧ Hid (wr.heap[w.heap.size + 1]? = some (.cells #[.slice none 0 0, .chan (some w.heap.size), .int .i64 0, .int .i64 0] 63 (0, 0))) ∧ Hid (∃ buf s, buf.size = j ∧ wr.heap[w.heap.size]? = some (.chan r buf false s 0 false)) ∧ Hid (Frm M0 w wr)) (fun i _ => r - (intOf i).toNat)
  case atStart =>
    refine ⟨0, Nat.zero_le _, rfl, hid ?_, hid ⟨#[], 0, rfl, ?_⟩, hid (((Frm.refl _ _).alloc _).alloc _)⟩
    · have := heap_alloc_new (w.alloc (.chan r #[] false 0 0 false)) (.cells #[.slice none 0 0, .chan (some w.heap.size), .int .i64 0, .int .i64 0] 63)
      simpa using this
    · exact ((Frm.refl M0 _).alloc _).heap (heap_alloc_new w _) (fun h => h)
  case round =>
    obtain ⟨j, hj, rfl, HN, HC, HF⟩ := hrel
    by_cases hlt : j < r
    · obtain ⟨buf, s, hbs, hc⟩ := HC.out
      obtain ⟨⟨e0, e1, e2, e3⟩, _⟩ := netCells HN.out
      have HC2 := hid hc
      clear hc
      go_upto_region 5 with fail
      refine wp_region_in ?_
      change InReg _ _ _ (0 :: 1 :: 2 :: 3 :: 4 :: [5]) _ _
      refine inReg_value (v := pn (w.heap.size + 1)) (w1 := wr) (some 14) rfl rfl rfl (by go_simp) ?_
      refine inReg_value (v := pn (w.heap.size + 1)) (w1 := wr) (some 15) rfl rfl rfl (by go_simp) ?_
      refine inReg_value (v := .pointer (some ⟨w.heap.size + 1, 1, none⟩)) (w1 := wr) (some 16) rfl rfl rfl (by go_simp) ?_
      refine inReg_value (v := .chan (some w.heap.size)) (w1 := wr) (some 17) rfl rfl rfl (by go_simp) ?_
      refine inReg_value (v := .agg #[]) (w1 := wr) (some 18) rfl rfl rfl (by go_simp) ?_
      refine inReg_send (v := .agg #[]) (z := .tuple #[]) none rfl rfl rfl (by go_simp; rfl) HC2.out (by omega) ?_
      refine inReg_end ?_
      simp only [Act.put, List.setIfInBounds_toArray, List.set_cons_zero, List.set_cons_succ]
      go_wp2_with fail
      have hf4 : Frm (fun b => b = w.heap.size) wr (wr.setChan w.heap.size r (buf.push (.agg #[])) false (s + 1) 0 false) := (Frm.refl _ _).setChan _ _ _ _ _ _ _ (fun _ => rfl)
      refine ⟨⟨j + 1, by omega, by go_num, hid ?_, hid ⟨buf.push (.agg #[]), s + 1, by simp [hbs], ?_⟩, hid (HF.out.trans hf4 ?_)⟩, by simp [intOf]; omega⟩
      · exact hf4.heap HN.out (by show ¬ w.heap.size + 1 = w.heap.size; omega)
      · exact heap_setChan _ _ _ _ _ _ _ _ ((Array.getElem?_eq_some_iff.1 HC2.out).1)
      · intro b hb e; have e' : b = w.heap.size := e; omega
    · obtain rfl : j = r := by omega
      go_wp2_with fail
      go_ret
      obtain ⟨buf, s, hbs, hc⟩ := HC.out
      refine ⟨rfl, ⟨_, buf, s, 0, rfl, HN.out, hc, by simp [hbs], r2, r1, World.ownsRow_nil _ _ _ _, by omega, by simp, by simp⟩, HF.out⟩
end Go.Proofs.Ytbepcohcdgfkaaa
