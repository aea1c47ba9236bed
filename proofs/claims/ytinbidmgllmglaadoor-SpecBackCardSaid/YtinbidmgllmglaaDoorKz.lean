/- record.Read. No condition. -/
import Derived.Test.YtinbidmgllmglaaDoorKy
import Derived.Test.YtinbidmgllmglaaDoorSw
import Derived.Test.YtinbidmgllmglaaDoorCs
import Derived.Test.YtinbidmgllmglaaDoorRc
namespace Go.Proofs.YtinbidmgllmglaaDoor
set_option linter.unusedVariables false
set_option linter.unusedSimpArgs false
set_option maxRecDepth 20000
open Go.RowKit Cp

/-- 12 numbers are a spec; others are none. -/
def mkSp (l : List Int) : Sp := if l.length = 12 then Sp.ofL l else Sp.zero
theorem make_u (v : Value) (l : List Int) (w : World) (hr : Rd w 1 v l.length (ints .i64 l)) (hm : l.length ≤ 1000000) :
    Calls Tryd.prog 25 #[v] w fun r w' => ∃ e : Int, r = .returned (.tuple #[(mkSp l).val, .int .i64 e]) ∧ Frm M0 w w' := by
  by_cases h : l.length = 12
  · refine (make_ok v l w hr h).mono ?_
    rintro _ w' ⟨rfl, hf⟩
    exact ⟨0, by unfold mkSp; rw [if_pos h], hf⟩
  · refine (make_bad v l w hr h hm).mono ?_
    rintro _ w' ⟨rfl, hf⟩
    exact ⟨1, by unfold mkSp; rw [if_neg h], hf⟩

/-- The five numbers and the text; what is left, the error. -/
def read5 (l : List Int) : Rc × List Int × Int :=
  let a := getF l 0; let b := getF a.2.1 a.2.2; let c := getF b.2.1 b.2.2; let d := getF c.2.1 c.2.2; let e := getF d.2.1 d.2.2
  let t := textE e.2.1 e.2.2
  (⟨a.1, b.1, c.1, d.1, e.1, strOfNums t.1, Sp.zero⟩, t.2.1, t.2.2)
/-- .. the spec, too. -/
def read6 (l : List Int) : Rc × List Int × Int :=
  let a := read5 l
  if a.1.k = 3 then (let s := listE a.2.1 a.2.2; ({ a.1 with p := mkSp s.1 }, s.2.1, s.2.2)) else a
def readF (l : List Int) : Rc × Int := let a := read6 l; if endF a.2.1 a.2.2 = 0 ∧ rightB a.1 = true then (a.1, 0) else (Rc.zero, 2)
theorem listE_len (l : List Int) (e : Int) : (listE l e).1.length ≤ 64 := by
  by_cases he : e = 0
  · subst he
    rw [listE_0]
    unfold listF
    split
    · simp
    · split
      · simp
      · split
        · rw [numsF_len]; omega
        · simp
  · rw [listE_ne l e he]; simp

end Go.Proofs.YtinbidmgllmglaaDoor
