/- The reference's Digits. -/
import Derived.Test.YtonlmkcolndaaaaGreatDoorWi
namespace Go.Proofs.YtonlmkcolndaaaaGreatDoor
set_option linter.unusedVariables false
set_option linter.unusedSimpArgs false
set_option maxRecDepth 20000
open Go.RowKit

theorem dig_piece_fin : ∀ d : Fin 10, ((⟨#[48, 49, 50, 51, 52, 53, 54, 55, 56, 57]⟩ : ByteArray).extract d.val (d.val + 1)).data.toList = [UInt8.ofNat (48 + d.val)] := by decide
theorem dig_app (d : Nat) (h : d < 10) (acc : ByteArray) : (((⟨#[48, 49, 50, 51, 52, 53, 54, 55, 56, 57]⟩ : ByteArray).extract d (d + 1)) ++ acc).data.toList = UInt8.ofNat (48 + d) :: acc.data.toList := by
  have := dig_piece_fin ⟨d, h⟩
  rw [ByteArray.data_append, Array.toList_append, this]; rfl
theorem dec_step (m : Nat) (h : ¬ m < 10) : Lib.decDigits m = Lib.decDigits (m / 10) ++ [UInt8.ofNat (48 + m % 10)] := by
  rw [Lib.decDigits, dif_neg h]
theorem str_eq_of {s : ByteArray} {l : List UInt8} (h : s.data.toList = l) : s = str l := by rw [← h, str_of]
set_option maxHeartbeats 2000000 in
theorem digits_nat (N : Nat) (w : World) (hN : N ≤ 9223372036854775807) : Calls Tryz.prog 35 #[.int .i64 N] w fun e w' => e = .returned (.string (str (Lib.decDigits N))) ∧ w' = w := by
  have h1 : ((N : Int) == -9223372036854775808) = false := beq_eq_false_iff_ne.2 (by omega)
  have h2 : ¬ (N : Int) < 0 := by omega
  go_enter Tryz.func35, Tryz.ntmps35
  go_wp2_with fail
  go_loopw [0, 3] (fun n0 s3 wr => ∃ (m : Nat) (acc : ByteArray), n0 = .int .i64 m ∧ s3 = .string acc ∧ m ≤ 9223372036854775807 ∧ Hid (Lib.decDigits N = Lib.decDigits m ++ acc.data.toList) ∧ wr = w) (fun n0 _ _ => (intOf n0).toNat)
  case atStart => exact ⟨N, ⟨#[]⟩, rfl, rfl, hN, hid (by simp), rfl⟩
  case round =>
    clear h1 h2
    obtain ⟨m, acc, rfl, rfl, hm, HA, rfl⟩ := hrel
    have hsz : acc.size ≤ 21 := by
      have h : (Lib.decDigits N).length = (Lib.decDigits m).length + acc.size := by rw [HA.out, List.length_append, Array.length_toList]; rfl
      have h2 : (Lib.decDigits N).length ≤ 21 := by
        have h2 := Lib.itoa_length_le (N : Int) (by omega) (by omega)
        rwa [Lib.itoa_nonneg] at h2
      omega
    have hlim : ¬ 9223372036854775807 < min (m % 10 + 1) 10 - m % 10 + acc.size := by omega
    by_cases h0 : m / 10 = 0
    · have hb : ((m : Int) / 10 == 0) = true := beq_iff_eq.2 (by omega)
      go_wp2_with fail
      go_ret
      refine ⟨congrArg (fun x => Ending.returned (Value.string x)) (str_eq_of ?_), rfl⟩
      rw [dig_app _ (by omega), HA.out, Lib.decDigits_one (by omega), Nat.mod_eq_of_lt (by omega)]; rfl
    · have hb : ((m : Int) / 10 == 0) = false := beq_eq_false_iff_ne.2 (by omega)
      go_wp2_with fail
      refine ⟨⟨m / 10, _, by simp, rfl, by omega, hid ?_, trivial⟩, by simp [intOf]; omega⟩
      rw [dig_app _ (by omega), HA.out, dec_step m (by omega), List.append_assoc]; rfl
set_option maxHeartbeats 2000000 in
theorem ddigits_calls (n : Int) (w : World) (h0 : -9223372036854775808 ≤ n) (h1 : n ≤ 9223372036854775807) : Calls Tryz.prog 35 #[.int .i64 n] w fun e w' => e = .returned (.string (str (Lib.itoa n))) ∧ w' = w := by
  by_cases hn : n < 0
  case neg =>
    obtain ⟨N, rfl⟩ : ∃ N : Nat, n = N := ⟨n.toNat, by omega⟩
    rw [Lib.itoa_nonneg]
    exact digits_nat N w (by omega)
  by_cases hm : n = -9223372036854775808
  case pos =>
    subst hm
    go_enter Tryz.func35, Tryz.ntmps35
    go_wp2_with fail
    go_ret
    have e : Lib.itoa (-9223372036854775808) = [45, 57, 50, 50, 51, 51, 55, 50, 48, 51, 54, 56, 53, 52, 55, 55, 53, 56, 48, 56] := by decide +kernel
    exact ⟨by rw [e]; rfl, rfl⟩
  case neg =>
    obtain ⟨N, rfl⟩ : ∃ N : Nat, n = -(N : Int) := ⟨n.natAbs, by omega⟩
    have hb : ((-(N : Int)) == -9223372036854775808) = false := beq_eq_false_iff_ne.2 hm
    go_enter Tryz.func35, Tryz.ntmps35
    go_wp2_with fail
    refine (digits_nat N _ (by omega)).mono ?_
    rintro _ w1 ⟨rfl, rfl⟩
    have hz : (str (Lib.decDigits N)).size ≤ 21 := by
      have h2 := Lib.itoa_length_le (N : Int) (by omega) (by omega)
      rw [Lib.itoa_nonneg] at h2
      show (Lib.decDigits N).toArray.size ≤ 21
      rw [List.size_toArray]; exact h2
    obtain ⟨s, HS⟩ : ∃ s, Hid (str (Lib.decDigits N) = s) := ⟨_, rfl⟩
    rw [HS.out] at hz ⊢
    have hlim : ¬ 9223372036854775807 < 1 + s.size := by omega
    go_wp2_with fail
    go_ret
    refine ⟨congrArg (fun x => Ending.returned (Value.string x)) (str_eq_of ?_), rfl⟩
    rw [Lib.itoa_neg N (by omega), ← HS.out, ByteArray.data_append, Array.toList_append]; rfl
end Go.Proofs.YtonlmkcolndaaaaGreatDoor
