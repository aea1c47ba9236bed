/- The walks of the document's reader: GetText, GetList. No condition. -/
import Derived.Test.YtinbidmgllmglaaDoorRa
namespace Go.Proofs.YtinbidmgllmglaaDoor
set_option linter.unusedVariables false
set_option linter.unusedSimpArgs false
set_option maxRecDepth 20000
open Go.RowKit Cp

theorem getF_sub (l : List Int) (e : Int) : ∃ n : Nat, (getF l e).1 = (n : Int) ∧ n ≤ 4611686018427387903 ∧ (∀ x ∈ (getF l e).2.1, x ∈ l) ∧ (getF l e).2.1.length ≤ l.length := by
  unfold getF
  split
  · split
    · exact ⟨0, rfl, by omega, by simp, by simp⟩
    · rename_i n r h
      have h2 : ∀ (l : List Int) (i acc : Nat), rdAux i acc l = some (n, r) → n ≤ 4611686018427387903 ∧ (∀ x ∈ r, x ∈ l) ∧ r.length ≤ l.length := by
        intro l
        induction l with
        | nil => intro i acc h; simp [rdAux] at h
        | cons c l ih =>
          intro i acc h
          rw [rdAux] at h
          split at h
          · cases h
          · split at h
            · obtain ⟨h1, h2, h3⟩ := ih _ _ h
              exact ⟨h1, fun x hx => List.mem_cons_of_mem _ (h2 x hx), by simp only [List.length_cons]; omega⟩
            · split at h
              · cases h
              · cases h
                rename_i h9 h128 hbad
                exact ⟨by omega, fun x hx => List.mem_cons_of_mem _ hx, by simp⟩
      obtain ⟨h1, h3, h4⟩ := h2 l 0 0 h
      exact ⟨n, rfl, h1, h3, h4⟩
  · exact ⟨0, rfl, by omega, fun x hx => hx, Nat.le_refl _⟩

/-- What Text gives: the text, what is left, the error. -/
def textE (l : List Int) (e : Int) : List Int × List Int × Int :=
  if (getF l e).2.2 ≠ 0 then ([], (getF l e).2.1, (getF l e).2.2)
  else if (getF l e).1.toNat ≤ 64 ∧ (getF l e).1.toNat ≤ (getF l e).2.1.length then ((getF l e).2.1.take (getF l e).1.toNat, (getF l e).2.1.drop (getF l e).1.toNat, 0) else ([], [], 2)
theorem textE_0 (l : List Int) : textE l 0 = textF l := by
  unfold textE textF getF
  rw [if_pos rfl]
  cases h : rdAux 0 0 l with
  | none => simp
  | some p => obtain ⟨n, r⟩ := p; simp
theorem textE_ne (l : List Int) (e : Int) (he : e ≠ 0) : textE l e = ([], l, e) := by
  unfold textE getF
  rw [if_neg he, if_pos he]

end Go.Proofs.YtinbidmgllmglaaDoor
