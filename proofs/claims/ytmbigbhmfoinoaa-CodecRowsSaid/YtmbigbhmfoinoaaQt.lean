/- A region that draws its order, whose calls may make memory but turn none that was there: one walk in the order of the text (over the kit's wp_region_quiet, at the class of worlds that come of the one ahead so). -/
import Derived.Test.YtmbigbhmfoinoaaFr
import Derived.Deep.QuietTactic
import Derived.BigQuiet
namespace Go.Proofs.Ytmbigbhmfoinoaa
set_option linter.unusedVariables false
set_option linter.unusedSimpArgs false
open Go.RowKit

/-- A world in which nothing of w0 has turned. -/
structure FW (w0 : World) where
  w : World
  h : Frm M0 w0 w
instance (w0 : World) : Nonempty (FW w0) := ⟨⟨w0, Frm.refl _ _⟩⟩

theorem FW.same {w0 : World} {P : Program} {f : FuncId} {args : Array Value} {x : FW w0} {v : Value} (h : Calls P f args x.w fun e w' => e = .returned v ∧ x.w = w') :
    Calls P f args x.w fun e w'' => e = .returned v ∧ ∃ y : FW w0, w'' = y.w := h.mono fun e w' ⟨he, hw⟩ => ⟨he, x, hw.symm⟩
theorem FW.frm {w0 : World} {P : Program} {f : FuncId} {args : Array Value} {x : FW w0} {v : Value} (h : Calls P f args x.w fun e w' => e = .returned v ∧ Frm M0 x.w w') :
    Calls P f args x.w fun e w'' => e = .returned v ∧ ∃ y : FW w0, w'' = y.w := h.mono fun e w' ⟨he, hw⟩ => ⟨he, ⟨w', x.h.then0 hw⟩, rfl⟩

theorem wp_region_fw {P : Program} {id : Nat} {Q : Exit → Act → World → Prop} {a : Act} {w : World} {l : List Oper} (hm : P.follows .mixedOrders = true) (hB : Region.lexB .any l.toArray = true)
    (h : wpQuiet P l.toArray (fun w' => ∃ x : FW w, w' = x.w) (fun a' => ∀ w', (∃ x : FW w, w' = x.w) → Q .normal a' w') l a) : (Code.region id l.toArray true).wp P Q a w :=
  wp_region_quiet (C := fun w' => ∃ x : FW w, w' = x.w) hm hB ⟨⟨w.drew, (Frm.refl _ _).drew⟩, rfl⟩ (by simpa using h)
end Go.Proofs.Ytmbigbhmfoinoaa
