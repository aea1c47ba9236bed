/- codec's writers and the reference's, each by one plain function of what came in: numW, textW, listW. -/
import Derived.Test.YtonlmkcolndaaaaGreatDoorCe
namespace Go.Proofs.YtonlmkcolndaaaaGreatDoor
set_option linter.unusedVariables false
set_option linter.unusedSimpArgs false
set_option maxRecDepth 20000
open Go.RowKit Cp
namespace Cp
def numW (l : List Int) (n : Int) : List Int × Int := if mayB n = true then (l ++ dig n.toNat, 0) else (l, 1)
def textW (l : List Int) (s : ByteArray) : List Int × Int := if s.size ≤ 64 then (l ++ dig s.size ++ sb s, 0) else (l, 12)
def listW (l xs : List Int) : List Int × Int := if 64 < xs.length then (l, 12) else if allB xs = true then (l ++ dig xs.length ++ digs xs, 0) else (l, 1)
theorem numW_len (l : List Int) (n : Int) : (numW l n).1.length ≤ l.length + 9 := by
  unfold numW
  split
  · rename_i h
    have h1 := mayB_true h
    have := dig_len9 (n := n.toNat) (by omega)
    rw [List.length_append]; omega
  · simp
theorem textW_len (l : List Int) (s : ByteArray) : (textW l s).1.length ≤ l.length + 73 := by
  unfold textW
  split
  · have := dig_len9 (n := s.size) (by omega)
    have := sb_len s
    rw [List.length_append, List.length_append]; omega
  · simp
end Cp

/-- What a writer is said to do: it answers bytes in whatever memory, and an error; nothing that was there has turned. -/
def Wrote (w : World) (r : List Int × Int) (e : Ending) (w' : World) : Prop :=
  ∃ v', e = .returned (.tuple #[v', .int .i64 r.2]) ∧ Rd w' 1 v' r.1.length (ints .u8 r.1) ∧ Frm M0 w w'

theorem frm_of {w w' : World} (h : Below w.heap.size w w') : Frm M0 w w' := Frm.ofBelow h (fun k h1 h2 => by omega)

theorem Rd.new {w : World} {k : IntKind} {y : Int} {e : TypeId} : Rd (w.alloc (.cells #[.int k y] e)) 1 (.slice (some ⟨w.heap.size, 0, none⟩) 1 1) [y].length (ints k [y]) := by
  refine ⟨rfl, .inr ⟨⟨w.heap.size, 0, none⟩, 1, rfl, Nat.le_refl _, by unfold maxLen; omega, fun j u hu => ?_⟩⟩
  have hj : j = 0 := by
    rcases j with _ | j
    · rfl
    · simp at hu
  subst hj
  simp only [ints, List.map_cons, List.map_nil, List.getElem?_cons_zero, Option.some.injEq] at hu
  subst hu
  rw [add_none, World.cell?_alloc_at _ _ _ _ rfl]
  rfl
end Go.Proofs.YtonlmkcolndaaaaGreatDoor
