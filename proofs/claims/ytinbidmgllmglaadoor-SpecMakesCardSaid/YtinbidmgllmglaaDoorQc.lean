/- The reference's record.Read. No condition. -/
import Derived.Test.YtinbidmgllmglaaDoorQb
import Derived.Test.YtinbidmgllmglaaDoorKz
namespace Go.Proofs.YtinbidmgllmglaaDoor
set_option linter.unusedVariables false
set_option linter.unusedSimpArgs false
set_option maxRecDepth 20000
open Go.RowKit Cp

/-- What the reference answers. -/
def rreadOk (l : List Int) (a : Rc × List Int × Int) : Prop := endF a.2.1 a.2.2 = 0 ∧ (rbytesF a.1).2 = 0 ∧ strOfNums (rbytesF a.1).1 = strOfNums l
def Bytey (l : List Int) : Prop := ∀ x ∈ l, 0 ≤ x ∧ x < 256
theorem getF_ok {l : List Int} (e : Int) (h : Bytey l ∧ l.length ≤ 1000000) : Bytey (getF l e).2.1 ∧ (getF l e).2.1.length ≤ 1000000 := by
  obtain ⟨_, _, _, h1, h2⟩ := getF_sub l e
  exact ⟨fun x hx => h.1 x (h1 x hx), by omega⟩
theorem textE_ok {l : List Int} (e : Int) (h : Bytey l ∧ l.length ≤ 1000000) : Bytey (textE l e).2.1 ∧ (textE l e).2.1.length ≤ 1000000 := by
  have h1 := getF_ok e h
  unfold textE
  split
  · exact h1
  · split
    · exact ⟨fun x hx => h1.1 x (List.mem_of_mem_drop hx), by rw [List.length_drop]; omega⟩
    · exact ⟨(fun x hx => by cases hx), by simp⟩
theorem textE_len (l : List Int) (e : Int) : (textE l e).1.length ≤ 64 := by
  unfold textE
  split
  · simp
  · split
    · rename_i h; rw [List.length_take]; omega
    · simp

end Go.Proofs.YtinbidmgllmglaaDoor
