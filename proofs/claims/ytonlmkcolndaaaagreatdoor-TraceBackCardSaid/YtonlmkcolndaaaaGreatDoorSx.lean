/- One cell of a block known whole: loaded, stored. No condition. -/
import Derived.Test.YtonlmkcolndaaaaGreatDoorSw
namespace Go.Proofs.YtonlmkcolndaaaaGreatDoor
set_option linter.unusedVariables false
set_option linter.unusedSimpArgs false
set_option maxRecDepth 20000
open Go.RowKit

section
variable {P : Program}
theorem wpList_store_v {ops : Array Oper} {rest : List Oper} {op : Oper} {a : Act} {w : World} {Q : Exit → Act → World → Prop} (hw : Region.wanted op (yielded ops a.tmps) = true) (ty : TypeId) (x y : Operand) (ho : op.op = .store ty x y)
    (g o : Nat) (hx : a.eval x = .pointer (some ⟨g, o, none⟩)) (u : Value) (hy : a.eval y = u) (cs : Array Value) (hcs : u.cells = cs) (t : TypeId) (cur : Array Value) (hg : w.heap[g]? = some (.cells cur t (0, 0)))
    (hi : (P.info? ty).map (·.size) = some cs.size) (hl : o + cs.size ≤ cur.size) (h1 : cs.all (·.oneCell') = true)
    (h : ∀ w', w'.heap[g]? = some (.cells (putL cur o cs.toList) t (0, 0)) → Frm (fun x => x = g) w w' → wpList P ops Q rest (a.put op.dst undef) w') : wpList P ops Q (op :: rest) a w := by
  refine BigFrame.wpList_want hw fun K hK => ?_
  obtain ⟨w', h2, h3, h4⟩ := run_storeCells_off (P := P) g o t cs.toList 0 cur w hg (by simpa using hl) (fun v hv => (Array.all_eq_true_iff_forall_mem.1 h1) v (by simpa using hv))
  have hst : (storeVar ty ⟨g, o, none⟩ u).run P w = .ok () w' := by
    cases hq : P.info? ty with
    | none => simp [hq] at hi
    | some i =>
      have hs : cs.size = i.size := by simp [hq] at hi; omega
      simp [storeVar, sizeOf, typeInfo, hq, hcs, hs, h2]
  unfold Oper.wp execOp
  simp only [ho, hx, hy, Instr.storeAt, Instr.sureAddr, Sem.run_bind, Sem.run_pure, Result.andThen_ok, hst]
  exact hK _ _ (h w' h3 h4)
theorem wpList_load_v {ops : Array Oper} {rest : List Oper} {op : Oper} {a : Act} {w : World} {Q : Exit → Act → World → Prop} (hw : Region.wanted op (yielded ops a.tmps) = true) (ty : TypeId) (x : Operand) (ho : op.op = .load ty x)
    (g o : Nat) (hx : a.eval x = .pointer (some ⟨g, o, none⟩)) (t : TypeId) (cur : Array Value) (fr : Nat × Nat) (hg : w.heap[g]? = some (.cells cur t fr)) (v : Value) (hv : cur[o]? = some v)
    (d : TypeDesc) (hu : P.underlying ty = some d) (hd : (match d with | .struct _ | .array _ _ => false | _ => true) = true)
    (h : wpList P ops Q rest (a.put op.dst v) w) : wpList P ops Q (op :: rest) a w := by
  refine BigFrame.wpList_want hw fun K hK => ?_
  have hc : w.cell? ⟨g, o, none⟩ = some v := by simp [World.cell?, hg, hv]
  have hagg : (isAgg ty).run P w = .ok false w := by
    unfold isAgg
    rw [Sem.run_bind, run_underlying hu w]
    cases d <;> simp_all
  have hrun : (loadVar ty ⟨g, o, none⟩).run P w = .ok v w := by
    simp [loadVar, Sem.run_bind, hagg, go_sem, hc]
  unfold Oper.wp execOp
  simp only [ho, hx, Instr.loadAt, Instr.sureAddr, Sem.run_bind, Sem.run_pure, Result.andThen_ok, hrun]
  exact hK _ _ h
end
end Go.Proofs.YtonlmkcolndaaaaGreatDoor
