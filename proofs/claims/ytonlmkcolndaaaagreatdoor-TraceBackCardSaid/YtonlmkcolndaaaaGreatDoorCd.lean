/- The walks of codec's writers: may, digits, Clone, Number, Text, List, Size. Each ends in the plain list that Cp tells. -/
import Derived.Test.YtonlmkcolndaaaaGreatDoorFr
import Derived.Test.YtonlmkcolndaaaaGreatDoorCp
namespace Go.Proofs.YtonlmkcolndaaaaGreatDoor
set_option linter.unusedVariables false
set_option linter.unusedSimpArgs false
set_option maxRecDepth 20000
open Go.RowKit Cp

def sizeF (n : Int) : Int := if mayB n = true then ((dig n.toNat).length : Int) else 0

theorem info5 : (Tryz.prog.info? 5).map (fun i => (i.zero, i.size, i.bytes)) = some (some (.int .u8 0), 1, 1) := by kernel_rfl

/-- A slice held against nil. -/
theorem eqNilB (w : World) (a : Option Addr) (n c n' c' : Nat) : (binOp .eql 84 (.slice a n c) (.slice none n' c')).run Tryz.prog w = .ok (.bool a.isNone) w := Lib.run_eql_slice_nil w _ 5 a n c n' c' Tryz.underlying84
attribute [local go_sem] eqNilB

theorem or128 (m : Nat) : bits .or .u8 ((m : Int) % 256) 128 = 128 + ((m % 128 : Nat) : Int) := by
  have h : ∀ k : Fin 256, bits .or .u8 ((k.val : Nat) : Int) 128 = 128 + ((k.val % 128 : Nat) : Int) := by decide +kernel
  have e : ((m : Int) % 256) = ((m % 256 : Nat) : Int) := by omega
  rw [e, h ⟨m % 256, by omega⟩]
  simp only
  congr 2
  omega

/-! ### List -/
end Go.Proofs.YtonlmkcolndaaaaGreatDoor
