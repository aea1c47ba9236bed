/- The walks of the law's own small functions: lives (the document's example stands), few. -/
import Derived.Test.YtmbigbhmfoinoaaCs
namespace Go.Proofs.Ytmbigbhmfoinoaa
set_option linter.unusedVariables false
set_option linter.unusedSimpArgs false
open Go.RowKit Cp

theorem dig300 : dig 300 = [172, 2] := by rw [dig_ge (by omega), dig_lt (by omega)]; rfl
theorem rd300 : rdAux 0 0 [172, 2] = some (300, []) := by decide
theorem str_ab : (sb ⟨#[97, 98]⟩) = [97, 98] := rfl

set_option maxRecDepth 100000 in
set_option maxHeartbeats 1000000 in
theorem lives_calls (w : World) : Calls Try.prog 10 #[] w fun e w' => e = .returned (.bool true) ∧ Frm M0 w w' := by
  go_enter Try.func10, Try.ntmps10
  go_wp2_with fail
  refine (number_ok (.slice none 0 0) [] 300 w (by simp) (Rd.nil _ _) (by decide)).mono ?_
  rintro e w1 ⟨va, rfl, ho1, hb1⟩
  have hf1 : Frm M0 w w1 := Frm.ofBelow hb1 (fun k h1 h2 => by omega)
  have e300 : ([] : List Int) ++ dig (300 : Int).toNat = [172, 2] := dig300
  rw [e300] at ho1
  have HO1 := hid ho1
  have HF1 := hid hf1
  clear ho1 hb1 hf1 e300
  go_wp2_with fail
  refine (text_ok (.slice none 0 0) [] ⟨#[97, 98]⟩ w1 (by simp) (Rd.nil _ _) (by decide)).mono ?_
  rintro e w2 ⟨vb, rfl, ho2, hb2⟩
  have hf2 : Frm M0 w1 w2 := Frm.ofBelow hb2 (fun k h1 h2 => by omega)
  have e2 : ([] : List Int) ++ dig (ByteArray.mk #[97, 98]).size ++ sb ⟨#[97, 98]⟩ = [2, 97, 98] := by
    have e : (ByteArray.mk #[97, 98]).size = 2 := rfl
    rw [e, dig_lt (by omega)]; rfl
  rw [e2] at ho2
  have HO2 := hid ho2
  have HF2 := hid hf2
  clear ho2 hb2 hf2 e2
  go_wp2_with fail
  refine (read_calls va [172, 2] w2 (by simp) ((Rd.ofOwns HO1.out).frm0 HF2.out) (by decide)).mono ?_
  rintro e w3 ⟨rb, rfl, hge, hr3, hf3⟩
  have HR3 := hid hr3
  have HF3 := hid hf3
  clear hr3 hf3
  go_wp2_with fail
  refine (rnum0_calls rb [172, 2] w3 HR3.out).mono ?_
  rintro e w4 (⟨n, l', h1, rfl, hr4, hf4⟩ | ⟨h1, _⟩)
  · rw [rd300] at h1
    simp only [Option.some.injEq, Prod.mk.injEq] at h1
    obtain ⟨rfl, rfl⟩ := h1
    have HR4 := hid hr4
    have hf4' : Frm M0 w2 w4 := (HF3.out.trans hf4 (fun b hb e => by omega))
    have HF4 := hid hf4'
    clear hr4 hf4 hf4'
    have c1 := run_str (P := Try.prog) 25 9 5 Try.underlying25 Try.underlying9 Try.underlying5 (((Rd.ofOwns HO1.out).frm0 HF2.out).frm0 HF4.out)
    have c2 := run_str (P := Try.prog) 25 9 5 Try.underlying25 Try.underlying9 Try.underlying5 ((Rd.ofOwns HO2.out).frm0 HF4.out)
    have s1 : strOfNums [172, 2] = ⟨#[172, 2]⟩ := rfl
    have s2 : strOfNums [2, 97, 98] = ⟨#[2, 97, 98]⟩ := rfl
    rw [s1] at c1
    rw [s2] at c2
    clear s1 s2
    go_wp2_with fail
    refine (end_calls rb [] 0 w4 HR4.out).mono ?_
    rintro e w5 ⟨rfl, rfl⟩
    have he : endF [] 0 = 0 := by decide
    rw [he]
    clear he
    go_wp2_with fail
    go_ret
    exact ⟨rfl, (HF1.out.then0 HF2.out).then0 HF4.out⟩
  · rw [rd300] at h1; cases h1
end Go.Proofs.Ytmbigbhmfoinoaa
