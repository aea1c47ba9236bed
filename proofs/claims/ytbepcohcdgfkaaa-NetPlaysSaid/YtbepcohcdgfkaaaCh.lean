/- Regions that hold a communication over a buffered channel, in one goroutine: operation by operation, at the machine; what follows is the walk's again. No condition. -/
import Derived.Test.YtbepcohcdgfkaaaFr
import Derived.Conc.LoneSelect
namespace Go.Proofs.Ytbepcohcdgfkaaa
set_option linter.unusedVariables false
set_option linter.unusedSimpArgs false
open Go.RowKit Go.Conc

/-- From the operations l of a region on. -/
def InReg (P : Program) (ops : Array Oper) (Q : Exit → Act → World → Prop) (l : List Nat) (a : Act) (w : World) : Prop :=
  ∀ (b : Frame) (k : List Item) (cs : List Frame), ∃ e a' w', Q e a' w' ∧ Arrives P (lone (b.at a (.inRegion ops l :: k)) cs w) b k cs e a' w'

section
variable {P : Program} {ops : Array Oper} {Q : Exit → Act → World → Prop} {a : Act} {w : World} {i : Nat} {rest : List Nat} {o : Oper}

theorem wp_region_in {id : Nat} {l : List Oper} (h : InReg P l.toArray Q (List.range l.length) a w) : (Code.region id l.toArray false).wp P Q a w := by
  intro b k cs
  obtain ⟨e, a', w', hq, harr⟩ := h b k cs
  exact ⟨e, a', w', hq, .of_steps (.one (by simpa using step_region (P := P) (b := b) (a := a) (k := k) (cs := cs) (w := w) (ops := l.toArray) (id := id))) harr⟩

theorem inReg_end (h : Q .normal a w) : InReg P ops Q [] a w := fun b k cs => ⟨.normal, a, w, h, .one step_region_end⟩

theorem inReg_value {v : Value} {w1 : World} (d : Option Tmp) (ho : ops[i]? = some o) (hd : o.dst = d) (hw : Region.wanted o (yielded ops a.tmps) = true) (hr : (execOp a.eval o).run P w = .ok (.value v) w1)
    (h : InReg P ops Q rest (a.put d v) w1) : InReg P ops Q (i :: rest) a w := by
  subst hd
  intro b k cs
  obtain ⟨e, a', w', hq, harr⟩ := h b k cs
  refine ⟨e, a', w', hq, .of_steps (.one (step_lone_go ?_)) harr⟩
  have hfin : (b.at a (.inRegion ops (i :: rest) :: k)).finish v = b.at (a.put o.dst v) (.inRegion ops rest :: k) := by rw [Frame.finish_at, ho]; rfl
  have hg := stepG_op (P := P) (b := b) (k := k) (cs := cs) (w := w) (rest := rest) ho hw
  rw [hg, ← hfin]; simp [stepG.apply, hr]

theorem stepG_comm {b : Frame} {k : List Item} {cs : List Frame} {cases : Array CommCase} {blocking : Bool} {shape : CommShape} (ho : ops[i]? = some o) (hw : Region.wanted o (yielded ops a.tmps) = true)
    (hr : (execOp a.eval o).run P w = .ok (.comm cases blocking shape) w) :
    ∃ es, stepG P true (G (b.at a (.inRegion ops (i :: rest) :: k)) cs) w = .comm (G (b.at a (.inRegion ops (i :: rest) :: k)) cs) cases blocking shape w es := by
  have hg := stepG_op (P := P) (b := b) (k := k) (cs := cs) (w := w) (rest := rest) ho hw
  unfold G
  rw [hg]
  simp only [stepG.apply, Sem.runT_eq, if_true, hr, GStep.after]
  exact ⟨_, rfl⟩

theorem inReg_of_step {v : Value} {w1 : World} (ho : ops[i]? = some o) (hstep : ∀ (b : Frame) (k : List Item) (cs : List Frame), step P (solo (G (b.at a (.inRegion ops (i :: rest) :: k)) cs) w) = .next (solo (G ((b.at a (.inRegion ops (i :: rest) :: k)).finish v) cs) w1))
    (h : InReg P ops Q rest (a.put o.dst v) w1) : InReg P ops Q (i :: rest) a w := by
  intro b k cs
  obtain ⟨e, a', w', hq, harr⟩ := h b k cs
  refine ⟨e, a', w', hq, .of_steps (.one ?_) harr⟩
  have hfin : (b.at a (.inRegion ops (i :: rest) :: k)).finish v = b.at (a.put o.dst v) (.inRegion ops rest :: k) := by rw [Frame.finish_at, ho]; rfl
  rw [← hfin]
  exact hstep b k cs

/-- 'select { case <-ch: .. default: .. }', something in the buffer. -/
theorem inReg_select_recv {c cap s r : Nat} {buf : Array Value} {z : Value} {tm closed : Bool} (d : Option Tmp) (ho : ops[i]? = some o) (hd : o.dst = d) (hw : Region.wanted o (yielded ops a.tmps) = true)
    (hr : (execOp a.eval o).run P w = .ok (.comm #[rcase c z] false .select) w) (hc : w.heap[c]? = some (.chan cap buf closed s r tm)) (hsome : 0 < buf.size)
    (h : InReg P ops Q rest (a.put d (.tuple #[goInt 0, .bool true, buf.getD 0 undef])) (w.setChan c cap (buf.extract 1 buf.size) closed s (r + 1) tm)) : InReg P ops Q (i :: rest) a w :=
  inReg_of_step ho (fun b k cs => by obtain ⟨es, hg⟩ := stepG_comm (b := b) (k := k) (cs := cs) (rest := rest) ho hw hr; exact step_lone_select_recv_buf hg hc hsome) (by rw [hd]; exact h)
/-- 'select { case <-ch: .. default: .. }', the buffer empty. -/
theorem inReg_select_default {c cap s r : Nat} {z : Value} {tm : Bool} (d : Option Tmp) (ho : ops[i]? = some o) (hd : o.dst = d) (hw : Region.wanted o (yielded ops a.tmps) = true)
    (hr : (execOp a.eval o).run P w = .ok (.comm #[rcase c z] false .select) w) (hc : w.heap[c]? = some (.chan cap #[] false s r tm))
    (h : InReg P ops Q rest (a.put d (.tuple #[goInt (-1), .bool false, z])) w) : InReg P ops Q (i :: rest) a w :=
  inReg_of_step ho (fun b k cs => by obtain ⟨es, hg⟩ := stepG_comm (b := b) (k := k) (cs := cs) (rest := rest) ho hw hr; exact step_lone_select_default hg hc) (by rw [hd]; exact h)
/-- 'ch <- v', with room. -/
theorem inReg_send {c cap s r : Nat} {buf : Array Value} {v z : Value} {tm : Bool} (d : Option Tmp) (ho : ops[i]? = some o) (hd : o.dst = d) (hw : Region.wanted o (yielded ops a.tmps) = true)
    (hr : (execOp a.eval o).run P w = .ok (.comm #[scase c v z] true .send) w) (hc : w.heap[c]? = some (.chan cap buf false s r tm)) (hroom : buf.size < cap)
    (h : InReg P ops Q rest (a.put d undef) (w.setChan c cap (buf.push v) false (s + 1) r tm)) : InReg P ops Q (i :: rest) a w :=
  inReg_of_step ho (fun b k cs => by obtain ⟨es, hg⟩ := stepG_comm (b := b) (k := k) (cs := cs) (rest := rest) ho hw hr; exact step_lone_send_room hg hc hroom) (by rw [hd]; exact h)
end
end Go.Proofs.Ytbepcohcdgfkaaa
