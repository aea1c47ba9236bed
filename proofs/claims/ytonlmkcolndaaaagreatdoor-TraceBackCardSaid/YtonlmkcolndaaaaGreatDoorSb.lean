/- What holds in every world that grew out of one, but for some blocks. No condition. -/
import Derived.Test.YtonlmkcolndaaaaGreatDoorFr
namespace Go.Proofs.YtonlmkcolndaaaaGreatDoor
set_option linter.unusedVariables false
set_option linter.unusedSimpArgs false
set_option maxRecDepth 20000
open Go.RowKit

theorem sb_cell {w : World} {g : Nat} {cur : Array Value} {e : TypeId} {f : Nat × Nat} (hh : w.heap[g]? = some (.cells cur e f)) (o : Nat) : w.cell? ⟨g, o, none⟩ = cur[o]? := by
  simp [World.cell?, hh]
theorem sb_free {w : World} {g : Nat} {cur : Array Value} {e : TypeId} (hh : w.heap[g]? = some (.cells cur e (0, 0))) (o : Nat) : w.frozen? ⟨g, o, none⟩ = false := by
  simp [World.frozen?, hh]
theorem sb_lt {w : World} {g : Nat} {o : Obj} (hh : w.heap[g]? = some o) : g < w.heap.size := (Array.getElem?_eq_some_iff.1 hh).1
/-- P holds in every world that grew out of w, whatever became of the blocks X. -/
def Sb (X : Nat → Prop) (w : World) (P : World → Prop) : Prop := ∀ wx, Frm X w wx → P wx
section
variable {X : Nat → Prop} {w w' : World} {P Q : World → Prop}
theorem Sb.now (h : Sb X w P) : P w := h w (Frm.refl _ _)
theorem Sb.step (h : Sb X w P) (hf : Frm M0 w w') : Sb X w' P := fun wx hx => h wx ((hf.mono (fun _ _ h => h.elim)).trans hx (fun _ _ h => h))
theorem Sb.stepX (h : Sb X w P) (hf : Frm X w w') : Sb X w' P := fun wx hx => h wx (hf.trans hx (fun _ _ h => h))
theorem Sb.at0 (h : Sb X w P) (hf : Frm M0 w w') : P w' := (h.step hf).now
theorem Sb.alloc (h : Sb X w P) (o : Obj) : Sb X (w.alloc o) P := h.step ((Frm.refl M0 w).alloc o)
theorem Sb.put (h : Sb X w P) (b o : Nat) (u : Value) (hb : X b) : Sb X (w.setCell ⟨b, o, none⟩ u) P := h.stepX ((Frm.refl X w).put b o u (fun _ => hb))
theorem Sb.drew (h : Sb X w P) : Sb X w.drew P := h.stepX ((Frm.refl X w).drew)
theorem Sb.drewN (h : Sb X w P) (n : Nat) : Sb X (w.drewN n) P := h.stepX ((Frm.refl X w).drewN n)
theorem Sb.and (h : Sb X w P) (k : Sb X w Q) : Sb X w (fun x => P x ∧ Q x) := fun wx hx => ⟨h wx hx, k wx hx⟩
theorem Sb.map (h : Sb X w P) (k : ∀ x, P x → Q x) : Sb X w Q := fun wx hx => k wx (h wx hx)
theorem Sb.heap {b : Nat} {o : Obj} (h : w.heap[b]? = some o) (hb : ¬ X b) : Sb X w (fun x => x.heap[b]? = some o) := fun wx hx => hx.heap h hb
theorem Sb.rd {size n : Nat} {v : Value} {xs : List Value} (h : Rd w size v n xs) (hb : ∀ k, v.ownBlock = some k → ¬ X k) : Sb X w (fun x => Rd x size v n xs) := fun wx hx => h.frm hx hb
theorem Sb.frm {W : World} (h : Frm X W w) : Sb X w (fun x => Frm X W x) := fun wx hx => h.trans hx (fun _ _ h => h)
theorem Sb.frm0 {W : World} (h : Frm M0 W w) (hX : ∀ b, X b → W.heap.size ≤ b) : Sb X w (fun x => Frm M0 W x) := fun wx hx => h.trans hx (fun b hb hm => by have := hX b hm; omega)
end
/-- The values of a region's operations. -/
def valsL : List Value → Nat → Value
  | [], _ => undef
  | v :: _, 0 => v
  | _ :: l, n + 1 => valsL l n
theorem valsL_zero (v : Value) (l : List Value) : valsL (v :: l) 0 = v := rfl
theorem valsL_succ (v : Value) (l : List Value) (n : Nat) : valsL (v :: l) (n + 1) = valsL l n := rfl
end Go.Proofs.YtonlmkcolndaaaaGreatDoor
