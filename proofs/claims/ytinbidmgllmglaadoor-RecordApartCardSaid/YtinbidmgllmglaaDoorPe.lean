/- Two records that may be, held by their bytes and words. Plain Lean. -/
import Derived.Test.YtinbidmgllmglaaDoorPc
import Derived.Test.YtinbidmgllmglaaDoorWw
namespace Go.Proofs.YtinbidmgllmglaaDoor
set_option linter.unusedVariables false
set_option linter.unusedSimpArgs false
set_option maxRecDepth 20000
open Go.RowKit Cp

theorem wire_inj {g h : Rc} (hg : rightB g = true) (hh : rightB h = true) (e : wireL g = wireL h) : g = h := by
  have a := read_good hg
  rw [e, read_good hh] at a
  exact (Prod.mk.inj a).1.symm
theorem words_some {g : Rc} (hg : rightB g = true) : (wordsS g).toList.isEmpty = false := by
  have hk : g.k = 1 ∨ g.k = 2 ∨ g.k = 3 ∨ g.k = 4 ∨ g.k = 5 ∨ g.k = 6 ∨ g.k = 7 := by
    obtain ⟨hk, _⟩ := right_facts hg
    omega
  have hn : ∃ c l, (nameS g.k).data.toList = c :: l := by
    rcases hk with h | h | h | h | h | h | h <;> rw [h] <;> exact ⟨_, _, rfl⟩
  obtain ⟨c, l, hn⟩ := hn
  have e : (wordsS g).toList = Lib.join ((partsA g ++ partsT g ++ partsP g).map (·.data.toList)) [32] := by
    rw [Lib.toList_data]
    unfold wordsS; rw [if_pos hg]; rfl
  rw [e]
  have e2 : (partsA g ++ partsT g ++ partsP g).map (·.data.toList) = (c :: l) :: ((words g.four ++ partsT g ++ partsP g).map (·.data.toList)) := by
    rw [← hn]; simp [partsA]
  rw [e2, Lib.join_cons]
  rfl
theorem right_fine {g : Rc} (hg : rightB g = true) : g.fine := by
  obtain ⟨hk, he, hw, hn, hq, ht, _, hc⟩ := right_facts hg
  refine ⟨?_, by omega, fun h3 x hx => ?_⟩
  · intro x hx
    simp only [Rc.four, List.mem_cons, List.not_mem_nil, or_false] at hx
    rcases hx with rfl | rfl | rfl | rfl <;> omega
  · have := nums_le (hc h3) x hx
    omega
end Go.Proofs.YtinbidmgllmglaaDoor
