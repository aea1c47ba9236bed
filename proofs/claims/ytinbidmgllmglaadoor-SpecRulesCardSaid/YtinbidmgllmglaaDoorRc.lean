/- The walk of the document's reader: GetList. No condition. -/
import Derived.Test.YtinbidmgllmglaaDoorRb
namespace Go.Proofs.YtinbidmgllmglaaDoor
set_option linter.unusedVariables false
set_option linter.unusedSimpArgs false
set_option maxRecDepth 20000
open Go.RowKit Cp

/-- What List gives: the numbers, what is left, the error. -/
def listE (l : List Int) (e : Int) : List Int × List Int × Int :=
  if (getF l e).2.2 ≠ 0 then ([], (getF l e).2.1, (getF l e).2.2)
  else if 64 < (getF l e).1.toNat then ([], [], 2)
  else if (numsF (getF l e).1.toNat (getF l e).2.1 0).2.2 = 0 then numsF (getF l e).1.toNat (getF l e).2.1 0
  else ([], (numsF (getF l e).1.toNat (getF l e).2.1 0).2.1, (numsF (getF l e).1.toNat (getF l e).2.1 0).2.2)
theorem listE_0 (l : List Int) : listE l 0 = listF l := by
  unfold listE listF getF
  rw [if_pos rfl]
  cases h : rdAux 0 0 l with
  | none => simp
  | some p => obtain ⟨n, r⟩ := p; simp
theorem listE_ne (l : List Int) (e : Int) (he : e ≠ 0) : listE l e = ([], l, e) := by
  unfold listE getF
  rw [if_neg he, if_pos he]
theorem getF_err (l : List Int) (h : (getF l 0).2.2 ≠ 0) : getF l 0 = (0, [], 2) := by
  unfold getF at *
  rw [if_pos rfl] at *
  cases hr : rdAux 0 0 l with
  | none => rfl
  | some p => obtain ⟨n, r⟩ := p; rw [hr] at h; exact absurd rfl h
theorem numsF_sub (l : List Int) : ∀ k, (∀ x ∈ (numsF k l 0).2.1, x ∈ l) ∧ (numsF k l 0).2.1.length ≤ l.length := by
  intro k
  induction k with
  | zero => exact ⟨fun x h => h, Nat.le_refl _⟩
  | succ k ih =>
    rw [numsF]
    obtain ⟨n, h1, h2, h3, h4⟩ := getF_sub (numsF k l 0).2.1 (numsF k l 0).2.2
    exact ⟨fun x hx => ih.1 x (h3 x hx), Nat.le_trans h4 ih.2⟩
theorem numsF_dead (l : List Int) (k : Nat) (h : (numsF k l 0).2 = ([], 2)) : ∀ d, (numsF (k + d) l 0).2 = ([], 2) := by
  intro d
  induction d with
  | zero => exact h
  | succ d ih =>
    rw [Nat.add_succ, numsF]
    rw [Prod.ext_iff] at ih
    simp only [ih.1, ih.2]
    rfl
theorem numsF_step (l : List Int) (k : Nat) (xs lk : List Int) (h : numsF k l 0 = (xs, lk, 0)) : numsF (k + 1) l 0 = (xs ++ [(getF lk 0).1], (getF lk 0).2.1, (getF lk 0).2.2) := by rw [numsF, h]

def RefL (w0 w w' : World) (L : List Int × List Int × Int) (r : Ending) : Prop :=
  ∃ v' vl, r = .returned (.tuple #[rv v' L.2.2, vl]) ∧ Hid (RdB w0 v' L.2.1) ∧ Hid (Rd w' 1 vl L.1.length (ints .i64 L.1)) ∧ Hid (∀ k, vl.ownBlock = some k → w.heap.size ≤ k) ∧ Frm M0 w w'

end Go.Proofs.YtinbidmgllmglaaDoor
