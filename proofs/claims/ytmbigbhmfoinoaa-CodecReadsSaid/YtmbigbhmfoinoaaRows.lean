/-
  No cell of these rows narrows 'for every input' (looked for: loops, veiled, ifaces, maps, wideKeys, modest, calm, conditions, laid).
  DERIVED. THE GIVEN ROWS OF THIS SEAT. 7 by the template 'for every input the law returns true; each argument reads behind the call as it read before'; 0 by the template 'total and deterministic' (their statements: YtmbigbhmfoinoaaTotals.lean).
  GIVEN WITH THE SEED: the statements are not yours to turn. If you find one false, say at which input.
  Laid BY PROGRAM, IN A SANDBOX (cutbox-rows.mjs): the forced cells as the released guide's own fill.sh prints them over the translation 296c780fcc09b075… (all of the seat's roots in one cut). By AI agents, Wed Nov 11 2026. No macro, syntax, notation, axiom, sorry.
-/
import Derived.Test.YtmbigbhmfoinoaaChecked
import GoSem.Claim
import GoSem.ClaimJoined
import GoSem.ClaimMapViews
import Derived.JoinedTies
import Derived.KernelRfl
namespace Go.Proofs.Ytmbigbhmfoinoaa
/- THE CELL 'sum', in the pinned program and in every row, IS THE sha256 OF THE DUMP (.gsa) THAT YtmbigbhmfoinoaaProg.lean LOADS. Nothing in Lean hashes anything: it is a label: what it is worth is what the hold of that sum in a sandbox is worth. -/
noncomputable def Try.pinned : Pinned := { name := "ytmbigbhmfoinoaa", sum := "296c780fcc09b0753a664ae1e026bd09484567ef1253c2ceb19f1cafafd1b65f", checked := Try.checked }
namespace Rows
def none {H : Type} : Left H := { results := [], args := [] }

/-- 'pacesetterlaw03.CodecSizes': WHATEVER THE INPUT: true; the input reads as it did. -/
def codecSizesSpec : ChangeSpec := { name := "codecSizes", fn := fun _ => fun
  | [d1, d2] => { results := [.lit (.bool true)], args := [d1, d2] }
  | _ => none }
def codecSizesRow : OpenClaim := { program := "ytmbigbhmfoinoaa", sum := "296c780fcc09b0753a664ae1e026bd09484567ef1253c2ceb19f1cafafd1b65f", func := "pacesetter/pacesetterlaw03.CodecSizes", spec := "codecSizes", apart := false }
def CodecSizesSaid : Prop := codecSizesRow.holds Try.pinned (OpenSpec.ofChange codecSizesSpec)

/-- ITS FALSE NEIGHBOUR: 'it returns false'. Refute it at one input. -/
def codecSizesWrong : ChangeSpec := { name := "codecSizes", fn := fun _ => fun
  | [d1, d2] => { results := [.lit (.bool false)], args := [d1, d2] }
  | _ => none }
def CodecSizesWrongFalsely : Prop := codecSizesRow.holds Try.pinned (OpenSpec.ofChange codecSizesWrong)

/-- 'pacesetterlaw03.CodecReads': WHATEVER THE INPUT: true; the input reads as it did. -/
def codecReadsSpec : ChangeSpec := { name := "codecReads", fn := fun _ => fun
  | [d1, d2] => { results := [.lit (.bool true)], args := [d1, d2] }
  | _ => none }
def codecReadsRow : OpenClaim := { program := "ytmbigbhmfoinoaa", sum := "296c780fcc09b0753a664ae1e026bd09484567ef1253c2ceb19f1cafafd1b65f", func := "pacesetter/pacesetterlaw03.CodecReads", spec := "codecReads", apart := false }
def CodecReadsSaid : Prop := codecReadsRow.holds Try.pinned (OpenSpec.ofChange codecReadsSpec)

/-- ITS FALSE NEIGHBOUR: 'it returns false'. Refute it at one input. -/
def codecReadsWrong : ChangeSpec := { name := "codecReads", fn := fun _ => fun
  | [d1, d2] => { results := [.lit (.bool false)], args := [d1, d2] }
  | _ => none }
def CodecReadsWrongFalsely : Prop := codecReadsRow.holds Try.pinned (OpenSpec.ofChange codecReadsWrong)

/-- 'pacesetterlaw03.CodecWrites': WHATEVER THE INPUT: true; the input reads as it did. -/
def codecWritesSpec : ChangeSpec := { name := "codecWrites", fn := fun _ => fun
  | [d1, d2, d3] => { results := [.lit (.bool true)], args := [d1, d2, d3] }
  | _ => none }
def codecWritesRow : OpenClaim := { program := "ytmbigbhmfoinoaa", sum := "296c780fcc09b0753a664ae1e026bd09484567ef1253c2ceb19f1cafafd1b65f", func := "pacesetter/pacesetterlaw03.CodecWrites", spec := "codecWrites", unfollowed := true, recurses := true, apart := false }
def CodecWritesSaid : Prop := codecWritesRow.holds Try.pinned (OpenSpec.ofChange codecWritesSpec)

/-- ITS FALSE NEIGHBOUR: 'it returns false'. Refute it at one input. -/
def codecWritesWrong : ChangeSpec := { name := "codecWrites", fn := fun _ => fun
  | [d1, d2, d3] => { results := [.lit (.bool false)], args := [d1, d2, d3] }
  | _ => none }
def CodecWritesWrongFalsely : Prop := codecWritesRow.holds Try.pinned (OpenSpec.ofChange codecWritesWrong)

/-- 'pacesetterlaw03.CodecRows': WHATEVER THE INPUT: true; the input reads as it did. -/
def codecRowsSpec : ChangeSpec := { name := "codecRows", fn := fun _ => fun
  | [d] => { results := [.lit (.bool true)], args := [d] }
  | _ => none }
def codecRowsRow : OpenClaim := { program := "ytmbigbhmfoinoaa", sum := "296c780fcc09b0753a664ae1e026bd09484567ef1253c2ceb19f1cafafd1b65f", func := "pacesetter/pacesetterlaw03.CodecRows", spec := "codecRows", unfollowed := true, recurses := true, apart := false }
def CodecRowsSaid : Prop := codecRowsRow.holds Try.pinned (OpenSpec.ofChange codecRowsSpec)

/-- ITS FALSE NEIGHBOUR: 'it returns false'. Refute it at one input. -/
def codecRowsWrong : ChangeSpec := { name := "codecRows", fn := fun _ => fun
  | [d] => { results := [.lit (.bool false)], args := [d] }
  | _ => none }
def CodecRowsWrongFalsely : Prop := codecRowsRow.holds Try.pinned (OpenSpec.ofChange codecRowsWrong)

/-- 'pacesetterlaw03.CodecOnly': WHATEVER THE INPUT: true; the input reads as it did. -/
def codecOnlySpec : ChangeSpec := { name := "codecOnly", fn := fun _ => fun
  | [d] => { results := [.lit (.bool true)], args := [d] }
  | _ => none }
def codecOnlyRow : OpenClaim := { program := "ytmbigbhmfoinoaa", sum := "296c780fcc09b0753a664ae1e026bd09484567ef1253c2ceb19f1cafafd1b65f", func := "pacesetter/pacesetterlaw03.CodecOnly", spec := "codecOnly", apart := false }
def CodecOnlySaid : Prop := codecOnlyRow.holds Try.pinned (OpenSpec.ofChange codecOnlySpec)

/-- ITS FALSE NEIGHBOUR: 'it returns false'. Refute it at one input. -/
def codecOnlyWrong : ChangeSpec := { name := "codecOnly", fn := fun _ => fun
  | [d] => { results := [.lit (.bool false)], args := [d] }
  | _ => none }
def CodecOnlyWrongFalsely : Prop := codecOnlyRow.holds Try.pinned (OpenSpec.ofChange codecOnlyWrong)

/-- 'pacesetterlaw03.CodecNil': WHATEVER THE INPUT: true; the input reads as it did. -/
def codecNilSpec : ChangeSpec := { name := "codecNil", fn := fun _ => fun
  | [d] => { results := [.lit (.bool true)], args := [d] }
  | _ => none }
def codecNilRow : OpenClaim := { program := "ytmbigbhmfoinoaa", sum := "296c780fcc09b0753a664ae1e026bd09484567ef1253c2ceb19f1cafafd1b65f", func := "pacesetter/pacesetterlaw03.CodecNil", spec := "codecNil", apart := false }
def CodecNilSaid : Prop := codecNilRow.holds Try.pinned (OpenSpec.ofChange codecNilSpec)

/-- ITS FALSE NEIGHBOUR: 'it returns false'. Refute it at one input. -/
def codecNilWrong : ChangeSpec := { name := "codecNil", fn := fun _ => fun
  | [d] => { results := [.lit (.bool false)], args := [d] }
  | _ => none }
def CodecNilWrongFalsely : Prop := codecNilRow.holds Try.pinned (OpenSpec.ofChange codecNilWrong)

/-- 'pacesetterlaw03.CodecBack': WHATEVER THE INPUT: true; the input reads as it did. -/
def codecBackSpec : ChangeSpec := { name := "codecBack", fn := fun _ => fun
  | [d1, d2, d3] => { results := [.lit (.bool true)], args := [d1, d2, d3] }
  | _ => none }
def codecBackRow : OpenClaim := { program := "ytmbigbhmfoinoaa", sum := "296c780fcc09b0753a664ae1e026bd09484567ef1253c2ceb19f1cafafd1b65f", func := "pacesetter/pacesetterlaw03.CodecBack", spec := "codecBack", unfollowed := true, recurses := true, apart := false }
def CodecBackSaid : Prop := codecBackRow.holds Try.pinned (OpenSpec.ofChange codecBackSpec)

/-- ITS FALSE NEIGHBOUR: 'it returns false'. Refute it at one input. -/
def codecBackWrong : ChangeSpec := { name := "codecBack", fn := fun _ => fun
  | [d1, d2, d3] => { results := [.lit (.bool false)], args := [d1, d2, d3] }
  | _ => none }
def CodecBackWrongFalsely : Prop := codecBackRow.holds Try.pinned (OpenSpec.ofChange codecBackWrong)

/- THE SECOND FORM. 'bulk': how many values and letters a reading holds, each counted each time it is reached (what is shared counts as often as it is met; a slice's spare places count too). A statement '..UptoSaid' is the law's where the arguments, and the package variables that the reading takes, are together of bulk at most 1048576: NARROWER than '..Said'. Prove '..Said' where nothing that the law and all that it calls make is longer than what came in: it says more and counts as full. Else prove '..UptoSaid'. A law counts once. -/
mutual
def uptoBulk {H : Type} : DataW H → Nat
  | .lit (.string bytes) => bytes.length + 1
  | .lit _ => 1
  | .nil => 1
  | .ptr d => uptoBulk d + 1
  | .slice elems spare => uptoBulkAll elems + uptoBulkAll spare + 1
  | .agg parts => uptoBulkAll parts + 1
  | .iface _ d => uptoBulk d + 1
  | .map entries => uptoBulkEntries entries + 1
  | .held _ => 1
def uptoBulkAll {H : Type} : List (DataW H) → Nat
  | [] => 0
  | d :: r => uptoBulk d + uptoBulkAll r
def uptoBulkEntries {H : Type} : List (Lit × DataW H) → Nat
  | [] => 0
  | x :: r => uptoBulkEntry x + uptoBulkEntries r
def uptoBulkEntry {H : Type} : Lit × DataW H → Nat
  | (.string bytes, d) => bytes.length + uptoBulk d + 1
  | (_, d) => uptoBulk d + 1
 end
def uptoSmall : (H : Type) → List (DataW H) → Bool := fun _ ds => decide (uptoBulkAll ds ≤ 1048576)
def OpenSpec.upto (s : _root_.Go.ChangeSpec) : _root_.Go.OpenSpec := { _root_.Go.OpenSpec.ofChange s with cond := some uptoSmall }

/-- 'pacesetterlaw03.CodecSizes', WHERE WHAT IT READS IS OF BULK AT MOST 1048576: true; the input reads as it did. -/
def codecSizesUptoRow : OpenClaim := { program := "ytmbigbhmfoinoaa", sum := "296c780fcc09b0753a664ae1e026bd09484567ef1253c2ceb19f1cafafd1b65f", func := "pacesetter/pacesetterlaw03.CodecSizes", spec := "codecSizes", apart := false, narrowed := true }
def CodecSizesUptoSaid : Prop := codecSizesUptoRow.holds Try.pinned (OpenSpec.upto codecSizesSpec)

/-- 'pacesetterlaw03.CodecReads', WHERE WHAT IT READS IS OF BULK AT MOST 1048576: true; the input reads as it did. -/
def codecReadsUptoRow : OpenClaim := { program := "ytmbigbhmfoinoaa", sum := "296c780fcc09b0753a664ae1e026bd09484567ef1253c2ceb19f1cafafd1b65f", func := "pacesetter/pacesetterlaw03.CodecReads", spec := "codecReads", apart := false, narrowed := true }
def CodecReadsUptoSaid : Prop := codecReadsUptoRow.holds Try.pinned (OpenSpec.upto codecReadsSpec)

/-- 'pacesetterlaw03.CodecWrites', WHERE WHAT IT READS IS OF BULK AT MOST 1048576: true; the input reads as it did. -/
def codecWritesUptoRow : OpenClaim := { program := "ytmbigbhmfoinoaa", sum := "296c780fcc09b0753a664ae1e026bd09484567ef1253c2ceb19f1cafafd1b65f", func := "pacesetter/pacesetterlaw03.CodecWrites", spec := "codecWrites", unfollowed := true, recurses := true, apart := false, narrowed := true }
def CodecWritesUptoSaid : Prop := codecWritesUptoRow.holds Try.pinned (OpenSpec.upto codecWritesSpec)

/-- 'pacesetterlaw03.CodecRows', WHERE WHAT IT READS IS OF BULK AT MOST 1048576: true; the input reads as it did. -/
def codecRowsUptoRow : OpenClaim := { program := "ytmbigbhmfoinoaa", sum := "296c780fcc09b0753a664ae1e026bd09484567ef1253c2ceb19f1cafafd1b65f", func := "pacesetter/pacesetterlaw03.CodecRows", spec := "codecRows", unfollowed := true, recurses := true, apart := false, narrowed := true }
def CodecRowsUptoSaid : Prop := codecRowsUptoRow.holds Try.pinned (OpenSpec.upto codecRowsSpec)

/-- 'pacesetterlaw03.CodecOnly', WHERE WHAT IT READS IS OF BULK AT MOST 1048576: true; the input reads as it did. -/
def codecOnlyUptoRow : OpenClaim := { program := "ytmbigbhmfoinoaa", sum := "296c780fcc09b0753a664ae1e026bd09484567ef1253c2ceb19f1cafafd1b65f", func := "pacesetter/pacesetterlaw03.CodecOnly", spec := "codecOnly", apart := false, narrowed := true }
def CodecOnlyUptoSaid : Prop := codecOnlyUptoRow.holds Try.pinned (OpenSpec.upto codecOnlySpec)

/-- 'pacesetterlaw03.CodecNil', WHERE WHAT IT READS IS OF BULK AT MOST 1048576: true; the input reads as it did. -/
def codecNilUptoRow : OpenClaim := { program := "ytmbigbhmfoinoaa", sum := "296c780fcc09b0753a664ae1e026bd09484567ef1253c2ceb19f1cafafd1b65f", func := "pacesetter/pacesetterlaw03.CodecNil", spec := "codecNil", apart := false, narrowed := true }
def CodecNilUptoSaid : Prop := codecNilUptoRow.holds Try.pinned (OpenSpec.upto codecNilSpec)

/-- 'pacesetterlaw03.CodecBack', WHERE WHAT IT READS IS OF BULK AT MOST 1048576: true; the input reads as it did. -/
def codecBackUptoRow : OpenClaim := { program := "ytmbigbhmfoinoaa", sum := "296c780fcc09b0753a664ae1e026bd09484567ef1253c2ceb19f1cafafd1b65f", func := "pacesetter/pacesetterlaw03.CodecBack", spec := "codecBack", unfollowed := true, recurses := true, apart := false, narrowed := true }
def CodecBackUptoSaid : Prop := codecBackUptoRow.holds Try.pinned (OpenSpec.upto codecBackSpec)

end Rows
end Go.Proofs.Ytmbigbhmfoinoaa
