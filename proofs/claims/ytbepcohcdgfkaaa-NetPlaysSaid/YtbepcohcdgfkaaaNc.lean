/- The walks of Drop, Twice, All of a net; slices.Clone of messages; the methods of a net that isn't there. No condition. -/
import Derived.Test.YtbepcohcdgfkaaaNa
namespace Go.Proofs.Ytbepcohcdgfkaaa
set_option linter.unusedVariables false
set_option linter.unusedSimpArgs false
open Go.RowKit Go.Conc

theorem eqNilM (w : World) (a : Option Addr) (n c n' c' : Nat) : (binOp .eql 22 (.slice a n c) (.slice none n' c')).run Try.prog w = .ok (.bool a.isNone) w := Lib.run_eql_slice_nil w _ 29 a n c n' c' Try.underlying22
attribute [local go_sem] eqNilM

/-- slices.Clone of messages: new memory (a nil one stays nil), which reads as the same. -/
theorem clone_calls (v : Value) (l : List Mg) (w : World) (hl : l.length ≤ 1000000) (hr : Rd w 6 v l.length (msgs l)) :
    Calls Try.prog 35 #[v] w fun e w' => ∃ v', e = .returned v' ∧ w'.ownsRow w.heap.size 29 6 v' l.length (msgs l) ∧ Frm M0 w w' := by
  have HR := hid hr
  rcases hr.2 with ⟨rfl, h0⟩ | ⟨x, cap, rfl, h1, h2, h4⟩
  · have hl0 : l = [] := List.eq_nil_of_length_eq_zero h0
    subst hl0
    clear h0 hr
    go_enter Try.func35, Try.ntmps35
    go_wp2
    go_ret
    exact ⟨_, rfl, World.ownsRow_nil _ _ _ _, Frm.refl _ _⟩
  · clear hr h4
    go_enter Try.func35, Try.ntmps35
    go_wp2_with (first | (at_builtin; refine wpList_append_src rfl (.tmp 5) (.tmp 6) 22 rfl w.heap.size 29 Mg.zero.val 6 48 Try.underlying22 info29 rfl (by decide) _ 0 [] rfl (World.ownsRow_made w #[] 0 (Nat.le_refl _) (by unfold maxLen; omega) rfl) _ l.length (msgs l) rfl (HR.out.frm0 (Frm.alloc (Frm.refl _ _) _)) (msgs_one _) (by unfold maxLen; omega) (by omega) (by simp) ?_; intro v2 w2 ho2 hg2))
    go_ret
    exact ⟨_, rfl, by simpa using ho2, ((Frm.refl _ _).alloc _).grown hg2 (fun k hk hlt => by simp [Act.eval, Value.ownBlock] at hk; omega)⟩

theorem place_nil (x : Int) (w : World) :
    Calls Try.prog 33 #[.pointer none, .int .i64 x] w fun r w' => r = .returned (.tuple #[.int .i64 0, .bool false]) ∧ w = w' := by
  go_enter Try.func33, Try.ntmps33
  go_wp2
  go_ret2
  exact ⟨rfl, rfl⟩
theorem take_nil (x : Int) (w : World) :
    Calls Try.prog 13 #[.pointer none, .int .i64 x] w fun r w' => r = .returned (.tuple #[Mg.zero.val, .bool false]) ∧ Frm M0 w w' := by
  go_enter Try.func13, Try.ntmps13
  go_wp2_with fail
  refine (place_nil x _).mono ?_
  rintro r w' ⟨rfl, rfl⟩
  go_wp2_with fail
  exact bodyPost_ret (v := .tuple #[Mg.zero.val, .bool false]) (by simp [results, Try.results13, go_sem, Mg.zero, Mg.val]) rfl ⟨rfl, ((Frm.refl M0 w).alloc _)⟩
theorem send_nil (m : Mg) (w : World) :
    Calls Try.prog 11 #[.pointer none, m.val] w fun r w' => r = .returned (.int .i64 1) ∧ Frm M0 w w' := by
  obtain ⟨k, e, s, u, v, t⟩ := m
  unfold Mg.val
  simp only []
  go_enter Try.func11, Try.ntmps11
  go_wp2_with fail
  go_ret
  exact ⟨rfl, (Frm.refl M0 w).alloc _⟩
theorem drop_nil (x : Int) (w : World) :
    Calls Try.prog 19 #[.pointer none, .int .i64 x] w fun r w' => r = .returned (.bool false) ∧ Frm M0 w w' := by
  go_enter Try.func19, Try.ntmps19
  go_wp2_with fail
  refine (take_nil x w).mono ?_
  rintro r w1 ⟨rfl, hf⟩
  rw [show Mg.zero.val = .agg #[.int .i64 0, .int .i64 0, .int .i64 0, .int .i64 0, .int .i64 0, .int .i64 0] from rfl]
  go_wp2_with fail
  go_ret
  exact ⟨rfl, hf.alloc _⟩
theorem len_nil (w : World) : Calls Try.prog 14 #[.pointer none] w fun r w' => r = .returned (.int .i64 0) ∧ w = w' := by
  go_enter Try.func14, Try.ntmps14
  go_wp2
  go_ret
  exact ⟨rfl, rfl⟩
theorem sent_nil (w : World) : Calls Try.prog 15 #[.pointer none] w fun r w' => r = .returned (.int .i64 0) ∧ w = w' := by
  go_enter Try.func15, Try.ntmps15
  go_wp2
  go_ret
  exact ⟨rfl, rfl⟩
theorem lost_nil (w : World) : Calls Try.prog 21 #[.pointer none] w fun r w' => r = .returned (.int .i64 0) ∧ w = w' := by
  go_enter Try.func21, Try.ntmps21
  go_wp2
  go_ret
  exact ⟨rfl, rfl⟩
theorem all_nil (w : World) : Calls Try.prog 22 #[.pointer none] w fun r w' => r = .returned (.slice none 0 0) ∧ w = w' := by
  go_enter Try.func22, Try.ntmps22
  go_wp2
  go_ret
  exact ⟨rfl, rfl⟩
theorem twice_nil (x : Int) (w : World) :
    Calls Try.prog 20 #[.pointer none, .int .i64 x] w fun r w' => r = .returned (.int .i64 1) ∧ w = w' := by
  go_enter Try.func20, Try.ntmps20
  go_wp2
  go_ret
  exact ⟨rfl, rfl⟩
theorem index_nil (f : Value) (w : World) : Calls Try.prog 41 #[.slice none 0 0, f] w fun r w' => r = .returned (.int .i64 (-1)) ∧ w = w' := by
  go_enter Try.func41, Try.ntmps41
  go_wp2_with fail
  refine wp_loop_rounds 1 ?_
  rw [rounds_succ]
  go_wp2_with fail
  go_ret
  exact ⟨rfl, rfl⟩
theorem del_nil (f : Value) (w : World) : Calls Try.prog 36 #[.slice none 0 0, f] w fun r w' => r = .returned (.slice none 0 0) ∧ w = w' := by
  go_enter Try.func36, Try.ntmps36
  go_wp2_with fail
  refine (index_nil f w).mono ?_
  rintro r w' ⟨rfl, rfl⟩
  go_wp2_with fail
  go_ret
  exact ⟨rfl, rfl⟩
theorem of_nil (x : Int) (w : World) :
    Calls Try.prog 23 #[.pointer none, .int .i64 x] w fun r w' => r = .returned (.slice none 0 0) ∧ Frm M0 w w' := by
  go_enter Try.func23, Try.ntmps23
  go_wp2_with fail
  refine (all_nil _).mono ?_
  rintro r w' ⟨rfl, rfl⟩
  go_wp2_with fail
  refine (del_nil _ _).mono ?_
  rintro r w' ⟨rfl, rfl⟩
  go_wp2_with fail
  go_ret
  exact ⟨rfl, (Frm.refl M0 w).alloc _⟩

/-- NetNil's walk. -/
theorem netNil_walk (W : World) (m : Mg) (_ok : m.ok) (x : Int) (_wx : (Lit.int .i64 x).wf = true) :
    Calls Try.prog 8 #[m.val, .int .i64 x] W fun e w' => e = .returned (.bool true) ∧ Below W.heap.size W w' := by
  obtain ⟨k, e, s, u, v, t⟩ := m
  have HS := hid (send_nil ⟨k, e, s, u, v, t⟩)
  unfold Mg.val at HS ⊢
  simp only [] at HS ⊢
  clear _ok _wx
  go_enter Try.func8, Try.ntmps8
  go_wp2_with fail
  have hbx : (W.alloc (.cells #[.int .i64 k, .int .i64 e, .int .i64 s, .int .i64 u, .int .i64 v, .int .i64 t] 29)).heap[W.heap.size]? = some (.cells #[.int .i64 k, .int .i64 e, .int .i64 s, .int .i64 u, .int .i64 v, .int .i64 t] 29 (0, 0)) := heap_alloc_new W _
  have HB := hid hbx
  clear hbx
  refine (lives_calls _).mono ?_
  rintro e' w1 ⟨rfl, hf1⟩
  have HB1 := hid (hf1.heap HB.out (fun h => h))
  have HF1 := hid ((Frm.refl M0 W).alloc (.cells #[.int .i64 k, .int .i64 e, .int .i64 s, .int .i64 u, .int .i64 v, .int .i64 t] 29) |>.then0 hf1)
  clear hf1 HB
  go_wp2_with fail
  refine (take_nil x _).mono ?_
  rintro e' w2 ⟨rfl, hf2⟩
  rw [show Mg.zero.val = .agg #[.int .i64 0, .int .i64 0, .int .i64 0, .int .i64 0, .int .i64 0, .int .i64 0] from rfl]
  have hf3 := hf2.alloc (.cells #[.int .i64 0, .int .i64 0, .int .i64 0, .int .i64 0, .int .i64 0, .int .i64 0] 29)
  have hb3 := hf3.heap HB1.out (fun h => h)
  have HF3 := hid (HF1.out.then0 hf3)
  go_upto_region 5 with fail
  obtain ⟨w3, hw3⟩ : ∃ w3, w3 = w2.alloc (.cells #[.int .i64 0, .int .i64 0, .int .i64 0, .int .i64 0, .int .i64 0, .int .i64 0] 29) := ⟨_, rfl⟩
  rw [← hw3] at hb3 HF3 ⊢
  have hcs : w3.cell? ⟨W.heap.size, 0, none⟩ = some (.int .i64 k) ∧ w3.cell? ⟨W.heap.size, 1, none⟩ = some (.int .i64 e) ∧ w3.cell? ⟨W.heap.size, 2, none⟩ = some (.int .i64 s) ∧ w3.cell? ⟨W.heap.size, 3, none⟩ = some (.int .i64 u) ∧ w3.cell? ⟨W.heap.size, 4, none⟩ = some (.int .i64 v) ∧ w3.cell? ⟨W.heap.size, 5, none⟩ = some (.int .i64 t) := ⟨cell_at hb3 0, cell_at hb3 1, cell_at hb3 2, cell_at hb3 3, cell_at hb3 4, cell_at hb3 5⟩
  clear hw3 hf2 hf3 HF1 HB1
  go_wp2_with fail
  refine (HS.out _).mono ?_
  rintro e' w4 ⟨rfl, hf4⟩
  have HF4 := hid (HF3.out.then0 hf4)
  clear hf4
  go_wp2_with fail
  refine (drop_nil x _).mono ?_
  rintro e' w5 ⟨rfl, hf5⟩
  have HF5 := hid (HF4.out.then0 hf5)
  clear hf5
  go_wp2_with fail
  refine (twice_nil x _).mono ?_
  rintro e' w6 ⟨rfl, rfl⟩
  go_wp2_with fail
  refine (all_nil _).mono ?_
  rintro e' w6 ⟨rfl, rfl⟩
  go_wp2_with fail
  refine (len_nil _).mono ?_
  rintro e' w6 ⟨rfl, rfl⟩
  go_wp2_with fail
  refine (sent_nil _).mono ?_
  rintro e' w6 ⟨rfl, rfl⟩
  go_wp2_with fail
  refine (lost_nil _).mono ?_
  rintro e' w6 ⟨rfl, rfl⟩
  go_wp2_with fail
  refine (of_nil x _).mono ?_
  rintro e' w6 ⟨rfl, hf6⟩
  have HF6 := hid (HF5.out.then0 hf6)
  clear hf6
  go_wp2_with fail
  go_ret
  exact ⟨rfl, HF6.out.below⟩
end Go.Proofs.Ytbepcohcdgfkaaa
