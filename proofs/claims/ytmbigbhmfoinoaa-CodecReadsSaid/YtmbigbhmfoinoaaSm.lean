/- The walk of the reference's Same over lists of whole numbers: two that read as one list are the same. -/
import Derived.Test.YtmbigbhmfoinoaaCs
import Derived.Test.YtmbigbhmfoinoaaFt
import Derived.Deep.QuietTactic
import Derived.BigQuiet
namespace Go.Proofs.Ytmbigbhmfoinoaa
set_option linter.unusedVariables false
set_option linter.unusedSimpArgs false
open Go.RowKit Cp
set_option maxRecDepth 100000 in
set_option maxHeartbeats 1000000 in
theorem same_calls (va vb : Value) (l : List Int) (w : World) (hl : l.length ≤ 1000000) (hra : Rd w 1 va l.length (ints .i64 l)) (hrb : Rd w 1 vb l.length (ints .i64 l)) :
    Calls Try.prog 28 #[va, vb] w fun e w' => e = .returned (.bool true) ∧ Frm M0 w w' := by
  obtain ⟨a, ca, rfl, ha⟩ := hra.shape
  obtain ⟨b, cb, rfl, hb⟩ := hrb.shape
  have HA := hid hra
  have HB := hid hrb
  clear hra hrb
  go_enter Try.func28, Try.ntmps28
  go_wp2_with fail
  go_loopw [5] (fun i5 wr => ∃ k : Nat, k ≤ l.length ∧ i5 = .int .i64 k ∧ Hid (Frm M0 w wr)) (fun i _ => l.length - (intOf i).toNat)
  case atStart => exact ⟨0, Nat.zero_le _, rfl, hid (Frm.refl _ _)⟩
  case round =>
    obtain ⟨k, hk, rfl, HF⟩ := hrel
    by_cases hlt : k < l.length
    · obtain ⟨b1, o1, rfl⟩ := ha (by omega)
      obtain ⟨b2, o2, rfl⟩ := hb (by omega)
      obtain ⟨x, HX, hc⟩ := (HA.out.frm0 HF.out).cellAt k hlt
      obtain ⟨y, HY, hd⟩ := (HB.out.frm0 HF.out).cellAt k hlt
      obtain rfl : x = y := Option.some.inj (HX.out.symm.trans HY.out)
      go_wp2_with fail
      go_quiet (fail)
      go_wp2_with fail
      exact ⟨⟨k + 1, by omega, by go_num, hid (HF.out.drewN nq)⟩, by simp [intOf]; omega⟩
    · go_wp2_with fail
      go_ret
      exact ⟨rfl, HF.out⟩
end Go.Proofs.Ytmbigbhmfoinoaa
