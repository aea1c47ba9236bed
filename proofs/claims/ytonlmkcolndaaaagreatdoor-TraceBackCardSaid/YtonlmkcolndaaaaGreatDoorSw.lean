/- A struct or an array that lies in a block, whole or as a part of it: loaded, stored. No condition. -/
import Derived.Test.YtonlmkcolndaaaaGreatDoorFr
import Derived.Laws.Tables
import Derived.BigFrame
import Derived.Deep.WholeRow
namespace Go.Proofs.YtonlmkcolndaaaaGreatDoor
set_option linter.unusedVariables false
set_option linter.unusedSimpArgs false
set_option maxRecDepth 20000
open Go.RowKit

/-- The cells vs laid over cur from k on. -/
def putL : Array Value → Nat → List Value → Array Value
  | cur, _, [] => cur
  | cur, k, v :: r => putL (cur.setIfInBounds k v) (k + 1) r
theorem putL_heap {w : World} {g : Nat} {t : TypeId} {cur new : Array Value} {o : Nat} {vs : List Value} (h : w.heap[g]? = some (.cells (putL cur o vs) t (0, 0))) (e : putL cur o vs = new) : Hid (w.heap[g]? = some (.cells new t (0, 0))) := by rw [e] at h; exact h
section
variable {P : Program}
theorem addr_add (g o j : Nat) : (⟨g, o, none⟩ : Addr).add j = ⟨g, o + j, none⟩ := add_none g o j
theorem run_storeCells_off (g o : Nat) (t : TypeId) : ∀ (vs : List Value) (i : Nat) (cur : Array Value) (w : World), w.heap[g]? = some (.cells cur t (0, 0)) → o + i + vs.length ≤ cur.size → (∀ v ∈ vs, v.oneCell' = true) →
    ∃ w', (storeCells ⟨g, o, none⟩ vs i).run P w = .ok () w' ∧ w'.heap[g]? = some (.cells (putL cur (o + i) vs) t (0, 0)) ∧ Frm (fun x => x = g) w w'
  | [], i, cur, w, hg, _, _ => ⟨w, rfl, hg, Frm.refl _ _⟩
  | v :: r, i, cur, w, hg, hl, h1 => by
    have hi : o + i < cur.size := by simp at hl; omega
    have hcell : w.cell? ⟨g, o + i, none⟩ = some cur[o + i] := by simp [World.cell?, hg, hi]
    have hfro : w.frozen? ⟨g, o + i, none⟩ = false := by simp [World.frozen?, hg]
    have hst : (store ((⟨g, o, none⟩ : Addr).add i) v).run P w = .ok () (w.setCell ⟨g, o + i, none⟩ v) := by
      rw [addr_add, run_store P w _ v _ (h1 v (by simp)), hcell]
      simp [hfro]
    obtain ⟨w', h2, h3, h4⟩ := run_storeCells_off g o t r (i + 1) (cur.setIfInBounds (o + i) v) (w.setCell ⟨g, o + i, none⟩ v) (heap_set_at hg v) (by simp at hl ⊢; omega) (fun x hx => h1 x (by simp [hx]))
    exact ⟨w', by simp only [storeCells, Sem.run_bind, hst, Result.andThen_ok, h2], h3, ((Frm.refl (fun x => x = g) w).put g (o + i) v (fun _ => rfl)).same h4⟩
theorem wpList_store_at {ops : Array Oper} {rest : List Oper} {op : Oper} {a : Act} {w : World} {Q : Exit → Act → World → Prop} (hw : Region.wanted op (yielded ops a.tmps) = true) (ty : TypeId) (x y : Operand) (ho : op.op = .store ty x y)
    (g o : Nat) (hx : a.eval x = .pointer (some ⟨g, o, none⟩)) (cs : Array Value) (hy : a.eval y = .agg cs) (t : TypeId) (cur : Array Value) (hg : w.heap[g]? = some (.cells cur t (0, 0)))
    (hi : (P.info? ty).map (·.size) = some cs.size) (hl : o + cs.size ≤ cur.size) (h1 : cs.all (·.oneCell') = true)
    (h : ∀ w', w'.heap[g]? = some (.cells (putL cur o cs.toList) t (0, 0)) → Frm (fun x => x = g) w w' → wpList P ops Q rest (a.put op.dst undef) w') : wpList P ops Q (op :: rest) a w := by
  refine BigFrame.wpList_want hw fun K hK => ?_
  obtain ⟨w', h2, h3, h4⟩ := run_storeCells_off (P := P) g o t cs.toList 0 cur w hg (by simpa using hl) (fun v hv => (Array.all_eq_true_iff_forall_mem.1 h1) v (by simpa using hv))
  have hst : (storeVar ty ⟨g, o, none⟩ (.agg cs)).run P w = .ok () w' := by
    cases hq : P.info? ty with
    | none => simp [hq] at hi
    | some i =>
      have hs : cs.size = i.size := by simp [hq] at hi; omega
      simp [storeVar, sizeOf, typeInfo, hq, Value.cells, hs, h2]
  unfold Oper.wp execOp
  simp only [ho, hx, hy, Instr.storeAt, Instr.sureAddr, Sem.run_bind, Sem.run_pure, Result.andThen_ok, hst]
  exact hK _ _ (h w' h3 h4)
theorem wpList_load_at {ops : Array Oper} {rest : List Oper} {op : Oper} {a : Act} {w : World} {Q : Exit → Act → World → Prop} (hw : Region.wanted op (yielded ops a.tmps) = true) (ty : TypeId) (x : Operand) (ho : op.op = .load ty x)
    (g o : Nat) (hx : a.eval x = .pointer (some ⟨g, o, none⟩)) (t : TypeId) (cur : Array Value) (fr : Nat × Nat) (hg : w.heap[g]? = some (.cells cur t fr)) (cs : Array Value) (hc : cs = cur.extract o (o + cs.size)) (hl : o + cs.size ≤ cur.size)
    (d : TypeDesc) (hu : P.underlying ty = some d) (hd : (match d with | .struct _ | .array _ _ => true | _ => false) = true) (hi : (P.info? ty).map (·.size) = some cs.size)
    (h : wpList P ops Q rest (a.put op.dst (.agg cs)) w) : wpList P ops Q (op :: rest) a w := by
  refine BigFrame.wpList_want hw fun K hK => ?_
  have hl : (loadCells ⟨g, o, none⟩ cs.toList.length).run P w = .ok cs.toList.toArray w :=
    run_loadCells_list (P := P) w ⟨g, o, none⟩ cs.toList (fun j v hv => by
      rw [addr_add]
      have hj : j < cs.size := by have := (List.getElem?_eq_some_iff.1 hv).1; simpa using this
      have h1 : cs[j]? = some v := by simpa using hv
      rw [hc] at h1
      rw [Array.getElem?_extract] at h1
      simp only [World.cell?, hg, if_true]
      split at h1
      · exact h1
      · cases h1)
  clear hc
  have hrun : (loadVar ty ⟨g, o, none⟩).run P w = .ok (.agg cs) w := by
    cases hq : P.info? ty with
    | none => simp [hq] at hi
    | some i =>
      have hs : i.size = cs.size := by simpa [hq] using hi
      have hagg : (isAgg ty).run P w = .ok true w := by
        unfold isAgg
        rw [Sem.run_bind, run_underlying hu w]
        cases d <;> simp_all
      simp only [Array.length_toList, Array.toArray_toList] at hl
      simp [loadVar, Sem.run_bind, hagg, sizeOf, typeInfo, hq, hs, hl]
  unfold Oper.wp execOp
  simp only [ho, hx, Instr.loadAt, Instr.sureAddr, Sem.run_bind, Sem.run_pure, Result.andThen_ok, hrun]
  exact hK _ _ h
end
end Go.Proofs.YtonlmkcolndaaaaGreatDoor
