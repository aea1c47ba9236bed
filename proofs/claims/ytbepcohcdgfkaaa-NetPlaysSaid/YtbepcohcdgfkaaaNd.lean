/- slices.Delete of one message: the row in place, one shorter. No condition. -/
import Derived.Test.YtbepcohcdgfkaaaNu
import Derived.Lib.SliceRun
namespace Go.Proofs.Ytbepcohcdgfkaaa
set_option linter.unusedVariables false
set_option linter.unusedSimpArgs false
open Go.RowKit Go.Conc

theorem setCells_far {g : Nat} : ∀ (vs : List Value) (o : Nat) {w : World} (k : Nat), k ≠ g → (w.setCells g o vs).heap[k]? = w.heap[k]?
  | [], _, _, _, _ => rfl
  | v :: r, o, w, k, hk => by
    rw [World.setCells, setCells_far r (o + 1) k hk]
    exact Below.heap_setCell w ⟨g, o, none⟩ v k hk
theorem setCells_same (g : Nat) : ∀ (vs : List Value) (o : Nat) (w : World), (w.setCells g o vs).os = w.os ∧ (w.setCells g o vs).tape = w.tape ∧ (w.setCells g o vs).output = w.output ∧ (w.setCells g o vs).heap.size = w.heap.size
  | [], _, _ => ⟨rfl, rfl, rfl, rfl⟩
  | v :: r, o, w => by
    obtain ⟨h1, h2, h3, h4⟩ := setCells_same g r (o + 1) (w.setCell ⟨g, o, none⟩ v)
    rw [World.setCells]
    exact ⟨h1, h2, h3, by rw [h4]; simp [World.setCell]⟩
theorem setCells_row {g : Nat} {e : TypeId} : ∀ (vs : List Value) (o : Nat) (w : World) (cur : Array Value), w.heap[g]? = some (.cells cur e (0, 0)) → o + vs.length ≤ cur.size →
    ∃ cur', (w.setCells g o vs).heap[g]? = some (.cells cur' e (0, 0)) ∧ cur'.size = cur.size ∧ cur'.toList = cur.toList.take o ++ vs ++ cur.toList.drop (o + vs.length)
  | [], o, w, cur, h, _ => ⟨cur, h, rfl, by simp⟩
  | v :: r, o, w, cur, h, hl => by
    have h2 := heap_set_at (o := o) h v
    simp only [List.length_cons] at hl
    obtain ⟨cur', h3, h4, h5⟩ := setCells_row r (o + 1) (w.setCell ⟨g, o, none⟩ v) _ h2 (by simp; omega)
    refine ⟨cur', h3, by rw [h4]; simp, ?_⟩
    rw [h5, Array.toList_setIfInBounds]
    have ho : o < cur.toList.length := by rw [Array.length_toList]; omega
    rw [List.take_set, List.drop_set_of_lt (by omega)]
    simp only [List.length_cons]
    rw [show o + 1 + r.length = o + (r.length + 1) by omega]
    congr 1
    rw [List.take_succ_eq_append_getElem ho, List.set_append_right _ _ (by rw [List.length_take]; omega)]
    have ho' : o < cur.size := by omega
    simp [Nat.min_eq_left (Nat.le_of_lt ho')]
theorem Frm.setCells {M : Nat → Prop} {a w : World} (h : Frm M a w) (g o : Nat) (vs : List Value) (hg : g < a.heap.size → M g) : Frm M a (w.setCells g o vs) := by
  obtain ⟨h1, h2, h3, h4⟩ := setCells_same g vs o w
  exact h.trans (M' := fun b => b = g) ⟨h1, h2, h3, by rw [h4]; exact Nat.le_refl _, fun k _ hk => setCells_far vs o k hk⟩ (fun b hb e => by subst e; exact hg hb)

theorem msgs_take : ∀ (l : List Mg) (k : Nat), (msgs l).take (k * 6) = msgs (l.take k) := by
  intro l
  induction l with
  | nil => intro k; simp [msgs]
  | cons m l ih =>
    intro k
    rcases k with _ | k
    · simp [msgs]
    · have e : (k + 1) * 6 = k * 6 + 1 + 1 + 1 + 1 + 1 + 1 := by omega
      have := ih k
      simp only [msgs, List.flatMap_cons, Mg.cells, e, List.cons_append, List.nil_append, List.take_succ_cons] at *
      rw [this]
theorem msgs_drop : ∀ (l : List Mg) (k : Nat), (msgs l).drop (k * 6) = msgs (l.drop k) := by
  intro l
  induction l with
  | nil => intro k; simp [msgs]
  | cons m l ih =>
    intro k
    rcases k with _ | k
    · simp
    · have e : (k + 1) * 6 = k * 6 + 1 + 1 + 1 + 1 + 1 + 1 := by omega
      have := ih k
      simp only [msgs, List.flatMap_cons, Mg.cells, e, List.cons_append, List.nil_append, List.drop_succ_cons] at *
      rw [this]

theorem zero29 : ∀ w, (zeroValue 29).run Try.prog w = .ok Mg.zero.val w := Try.zeroValue29
theorem run_clear_msg (w : World) (ty : TypeId) (b o c : Nat)
    (hc : ∀ j, j < 6 → (w.cell? ⟨b, o + j, none⟩).isSome = true) (hf : ∀ j, j < 6 → w.frozen? ⟨b, o + j, none⟩ = false) :
    (Builtin.clear_ #[22] ty #[.slice (some ⟨b, o, none⟩) 1 c]).run Try.prog w = .ok (.tuple #[]) (w.setCells b o Mg.zero.cells) := by
  have hzc : (Builtin.zeroCells Mg.zero.val.cells 1).toList = Mg.zero.cells := by
    have e : Mg.zero.val.cells = Mg.zero.cells.toArray := by simp [Mg.zero, Mg.val, Mg.cells, Value.cells]
    rw [e]
    simp [Builtin.zeroCells, Mg.cells, List.range_succ]
  have hst := run_storeCells_cells (P := Try.prog) b o Mg.zero.cells 0 w hc hf (by intro v hv'; simp only [Mg.cells, List.mem_cons, List.not_mem_nil, or_false] at hv'; rcases hv' with rfl | rfl | rfl | rfl | rfl | rfl <;> rfl)
  simp only [Nat.add_zero] at hst
  unfold Builtin.clear_
  simp [run_underlying Try.underlying22, -Array.size_map, zero29]
  change ((Sem.run Try.prog (storeCells ⟨b, o, none⟩ (Builtin.zeroCells Mg.zero.val.cells 1).toList) w).andThen _) = _
  rw [hzc, hst]; rfl

theorem cell_at {w : World} {g : Nat} {cur : Array Value} {e : TypeId} {f : Nat × Nat} (hh : w.heap[g]? = some (.cells cur e f)) (o : Nat) : w.cell? ⟨g, o, none⟩ = cur[o]? := by
  simp [World.cell?, hh]
theorem frozen_at {w : World} {g : Nat} {cur : Array Value} {e : TypeId} (hh : w.heap[g]? = some (.cells cur e (0, 0))) (o : Nat) : w.frozen? ⟨g, o, none⟩ = false := by
  simp [World.frozen?, hh]

/-- What a message's leaving makes of its row. -/
theorem delete_mem (g cap k m : Nat) (l : List Mg) (cur : Array Value) (w : World) (hh : w.heap[g]? = some (.cells cur 29 (0, 0))) (hl : l.length = k + 1 + m) (hn : l.length ≤ cap) (hm : cap ≤ maxLen) (hcs : cur.size = cap * 6)
    (ht : cur.toList.take (l.length * 6) = msgs l) :
    ∃ news W1, news.length = m * 6 ∧ W1 = w.setCells g (0 + k * 6) news ∧ (∀ u ∈ news, u.oneCell' = true) ∧
      (∀ t u, news[t]? = some u → w.cell? ((if cap = k + 1 then (⟨g, 0, none⟩ : Addr) else ⟨g, 0 + (k + 1) * 6, none⟩).add t) = some u) ∧
      (∀ t, t < news.length → (w.cell? ⟨g, 0 + k * 6 + t, none⟩).isSome = true ∧ w.frozen? ⟨g, 0 + k * 6 + t, none⟩ = false) ∧
      (∀ ty, (Builtin.clear_ #[22] ty #[.slice (some ⟨g, 0 + (k + m) * 6, none⟩) 1 (cap - (k + m))]).run Try.prog W1 = .ok (.tuple #[]) (W1.setCells g (0 + (k + m) * 6) Mg.zero.cells)) ∧
      Frm (fun b => b = g) w (W1.setCells g (0 + (k + m) * 6) Mg.zero.cells) ∧
      (W1.setCells g (0 + (k + m) * 6) Mg.zero.cells).ownsRow 0 29 6 (.slice (some ⟨g, 0, none⟩) (k + m) cap) (k + m) (msgs (l.eraseIdx k)) := by
  have hnl : (msgs (l.drop (k + 1))).length = m * 6 := by rw [msgs_len, List.length_drop]; omega
  have hcur : ∀ j, j < l.length * 6 → (msgs l)[j]? = cur[j]? := by
    intro j hj; rw [← ht, List.getElem?_take, if_pos hj, Array.getElem?_toList]
  obtain ⟨cur1, c1, c2, c3⟩ := setCells_row (e := 29) (msgs (l.drop (k + 1))) (0 + k * 6) w cur hh (by rw [hnl]; omega)
  obtain ⟨cur2, d1, d2, d3⟩ := setCells_row (e := 29) Mg.zero.cells (0 + (k + m) * 6) _ cur1 c1 (by simp only [Mg.cells, List.length_cons, List.length_nil]; omega)
  refine ⟨_, _, hnl, rfl, msgs_one _, ?_, ?_, ?_, ?_, ?_⟩
  · intro t u hu
    have htl : t < m * 6 := by rw [← hnl]; exact (List.getElem?_eq_some_iff.1 hu).1
    rw [if_neg (by omega), add_none, cell_at hh, Nat.zero_add, ← hcur _ (by omega), ← List.getElem?_drop, msgs_drop]
    exact hu
  · intro t htl
    rw [hnl] at htl
    refine ⟨?_, frozen_at hh _⟩
    rw [cell_at hh, Array.getElem?_eq_getElem (by omega)]; rfl
  · intro ty
    refine run_clear_msg _ ty g _ _ (fun j hj => ?_) (fun j hj => frozen_at c1 _)
    rw [cell_at c1, Array.getElem?_eq_getElem (by omega)]; rfl
  · exact ((Frm.refl (fun b => b = g) w).setCells g _ _ (fun _ => rfl)).setCells g _ _ (fun _ => rfl)
  · refine ⟨?_, .inr ⟨g, cap, cur2, rfl, Nat.zero_le _, d1, by omega, hm, by omega, ?_⟩⟩
    · rw [msgs_len, List.length_eraseIdx, if_pos (by omega)]; omega
    · have e0 : cur.toList.take (k * 6) = msgs (l.take k) := by
        rw [← msgs_take, ← ht, List.take_take, Nat.min_eq_left (by omega)]
      have e1 : cur1.toList.take ((k + m) * 6) = msgs (l.eraseIdx k) := by
        rw [c3, Nat.zero_add, e0, List.eraseIdx_eq_take_drop_succ, msgs_app]
        refine List.take_left' ?_
        rw [List.length_append, hnl, msgs_len, List.length_take]; omega
      rw [d3, Nat.zero_add, List.append_assoc, List.take_append_of_le_length (by rw [List.length_take, Array.length_toList]; omega), List.take_take, Nat.min_self]
      exact e1

set_option maxHeartbeats 1000000 in
theorem delete_calls (g cap k m : Nat) (l : List Mg) (cur : Array Value) (w : World) (hh : w.heap[g]? = some (.cells cur 29 (0, 0))) (hl : l.length = k + 1 + m) (hn : l.length ≤ cap) (hm : cap ≤ maxLen) (hcs : cur.size = cap * 6)
    (ht : cur.toList.take (l.length * 6) = msgs l) :
    Calls Try.prog 34 #[.slice (some ⟨g, 0, none⟩) (k + 1 + m) cap, .int .i64 k, .int .i64 ((k : Int) + 1)] w
      fun r w' => r = .returned (.slice (some ⟨g, 0, none⟩) (k + m) cap) ∧ w'.ownsRow 0 29 6 (.slice (some ⟨g, 0, none⟩) (k + m) cap) (k + m) (msgs (l.eraseIdx k)) ∧ Frm (fun b => b = g) w w' := by
  obtain ⟨news, W1, e1, e2, e3, e4, e5, e6, e7, e8⟩ := delete_mem g cap k m l cur w.drew hh hl hn hm hcs ht
  obtain ⟨A, hA, e4⟩ : ∃ A : Addr, (if cap = k + 1 then some (⟨g, 0, none⟩ : Addr) else some ⟨g, (k + 1) * 6, none⟩) = some A ∧ (∀ t u, news[t]? = some u → w.drew.cell? (A.add t) = some u) := by
    refine ⟨_, ?_, e4⟩
    rw [Nat.zero_add]
    split <;> rfl
  simp only [Nat.zero_add ((k + m) * 6)] at e6 e7 e8
  have s1 := hid e1
  have hW := hid e2
  have s2 := hid e3
  have hsrc := hid e4
  have s3 := hid e5
  have HF := hid e7
  have HO := hid e8
  have q7 : cap ≤ 9223372036854775807 := hm
  obtain ⟨i29, hi29, hz29, hs29, hy29⟩ := info_parts info29
  have qi : 0 ≤ (k : Int) + 1 ∧ (k : Int) + 1 ≤ (k : Int) + 1 + (m : Int) := by omega
  have q0 : k + 1 + m ≤ cap := by omega
  have q1 : k ≤ cap := by omega
  have q2 : k + 1 ≤ cap := by omega
  have q3 : k + 1 ≤ k + 1 + m := by omega
  have q4 : cap ≠ k + m := by omega
  have q5 : k + 1 + m - (k + m) = 1 := by omega
  have q6 : k + 1 + m - (k + 1) = m := by omega
  clear e1 e2 e3 e4 e5 e7 e8 hh ht hcs hm hl hn
  go_enter Try.func34, Try.ntmps34
  go_wp2_with fail
  go_region_law (refine step_append_room rfl (.tmp 22) (.tmp 25) 22 rfl 29 i29 6 Try.underlying22 hi29 hs29 g 0 k cap (by simp [Act.eval, Act.put]) A m (cap - (k + 1)) news (by simp [Act.eval, Act.put]) s1.out hsrc.out s2.out (by omega) s3.out ?_; rw [← hW.out])
  go_wp2
  go_ret
  exact ⟨rfl, HO.out, (Frm.refl _ w).drew.same HF.out⟩
end Go.Proofs.Ytbepcohcdgfkaaa
