/- What the reader's bit work comes to, as sums. No Go in sight. -/
import Derived.WalkKit
import Derived.Test.YtonlmkcolndaaaaGreatDoorCp
namespace Go.Proofs.YtonlmkcolndaaaaGreatDoor
set_option linter.unusedVariables false
set_option linter.unusedSimpArgs false
set_option maxRecDepth 20000
open Go.RowKit
namespace Cp
theorem andNot128 (x : Int) (h0 : 0 ≤ x) (h1 : x < 256) : bits .andNot .u8 x 128 = ((x.toNat % 128 : Nat) : Int) := by
  obtain ⟨k, rfl⟩ := Int.eq_ofNat_of_zero_le h0
  have h : ∀ k : Fin 256, bits .andNot .u8 ((k.val : Nat) : Int) 128 = (((k.val) % 128 : Nat) : Int) := by decide +kernel
  rw [h ⟨k, by omega⟩, Int.toNat_natCast]

theorem pow128 (i : Nat) : (128 : Nat) ^ i = 2 ^ (7 * i) := by rw [Nat.pow_mul]

theorem pow128_le {i : Nat} (h : i ≤ 8) : (128 : Nat) ^ i ≤ 72057594037927936 := by
  have := Nat.pow_le_pow_right (n := 128) (by omega) h
  have e : (128 : Nat) ^ 8 = 72057594037927936 := by decide
  omega

theorem wrap_le {n : Int} (h0 : 0 ≤ n) (h : n < 9223372036854775808) : wrap64 n = n := by unfold wrap64; omega

theorem digit_lt {m i d : Nat} (hm : m < 128 ^ i) (hd : d < 128) : m + d * 128 ^ i < 128 ^ (i + 1) := by
  rw [Nat.pow_succ]
  have : d * 128 ^ i ≤ 127 * 128 ^ i := Nat.mul_le_mul_right _ (by omega)
  omega

theorem pow128_lt {i : Nat} (h : i ≤ 8) : (128 : Nat) ^ (i + 1) ≤ 9223372036854775808 := by
  have := Nat.pow_le_pow_right (n := 128) (by omega) (show i + 1 ≤ 9 by omega)
  have e : (128 : Nat) ^ 9 = 9223372036854775808 := by decide
  omega

theorem or_digit (m i : Nat) (x : Int) (h0 : 0 ≤ x) (h1 : x < 256) (hi : i ≤ 8) (hm : m < 128 ^ i) :
    bits .or .i64 (m : Int) (wrap64 (wrap64 (bits .andNot .u8 x 128) * 2 ^ (7 * i))) = ((m + x.toNat % 128 * 128 ^ i : Nat) : Int) := by
  have hd : x.toNat % 128 < 128 := by omega
  have hlt := digit_lt hm hd
  have hp := pow128_lt hi
  have hp2 := pow128_le hi
  rw [andNot128 x h0 h1]
  generalize x.toNat % 128 = d at *
  rw [wrap_le (n := (d : Int)) (by omega) (by omega)]
  have e1 : ((d : Nat) : Int) * 2 ^ (7 * i) = ((d * 128 ^ i : Nat) : Int) := by rw [pow128]; norm_cast
  have hle : d * 128 ^ i ≤ m + d * 128 ^ i := Nat.le_add_left _ _
  rw [e1, wrap_le (by omega) (by omega)]
  have hk : ∀ n : Int, 0 ≤ n → n < 2 ^ 63 → IntKind.i64.wrap n = n := by
    intro n a b
    have : (2 : Int) ^ 63 = 9223372036854775808 := by decide
    rw [IntKind.wrap_i64]; omega
  have e63 : (2 : Nat) ^ 63 = 9223372036854775808 := by decide
  rw [(bits_nat .i64 63 (by decide) hk m (d * 128 ^ i) (by omega) (by omega)).2]
  congr 1
  rw [pow128, ← Nat.shiftLeft_eq, Nat.or_comm, ← Nat.shiftLeft_add_eq_or_of_lt (by rw [← pow128]; exact hm), Nat.add_comm]

theorem rdAux_step {i n : Nat} {l : List Int} {x : Int} (hx : l[i]? = some x) (hi : i < 9) (h : 128 ≤ x) :
    rdAux i n (l.drop i) = rdAux (i + 1) (n + x.toNat % 128 * 128 ^ i) (l.drop (i + 1)) := by
  obtain ⟨hl, rfl⟩ := List.getElem?_eq_some_iff.1 hx
  rw [List.drop_eq_getElem_cons hl, rdAux, if_neg (by omega), if_pos h]
theorem rdAux_end {i n : Nat} {l : List Int} (h : l.length ≤ i) : rdAux i n (l.drop i) = none := by
  rw [List.drop_of_length_le h, rdAux]
theorem rdAux_nine {i n : Nat} {l : List Int} (h : 9 ≤ i) : rdAux i n l = none := by
  cases l with
  | nil => rw [rdAux]
  | cons c l => rw [rdAux, if_pos h]
theorem rdAux_bad {i n : Nat} {l : List Int} {x : Int} (hx : l[i]? = some x) (h : x < 128) (hb : (x = 0 ∧ 0 < i) ∨ 4611686018427387903 < n + x.toNat % 128 * 128 ^ i) :
    rdAux i n (l.drop i) = none := by
  obtain ⟨hl, rfl⟩ := List.getElem?_eq_some_iff.1 hx
  rw [List.drop_eq_getElem_cons hl, rdAux]
  by_cases h9 : 9 ≤ i
  · rw [if_pos h9]
  · rw [if_neg h9, if_neg (by omega), if_pos hb]
theorem rdAux_good {i n : Nat} {l : List Int} {x : Int} (hx : l[i]? = some x) (hi : i < 9) (h : x < 128) (h1 : ¬ (x = 0 ∧ 0 < i)) (h2 : n + x.toNat % 128 * 128 ^ i ≤ 4611686018427387903) :
    rdAux i n (l.drop i) = some (n + x.toNat % 128 * 128 ^ i, l.drop (i + 1)) := by
  obtain ⟨hl, rfl⟩ := List.getElem?_eq_some_iff.1 hx
  rw [List.drop_eq_getElem_cons hl, rdAux, if_neg (by omega), if_neg (by omega), if_neg (by omega)]
end Cp
end Go.Proofs.YtonlmkcolndaaaaGreatDoor
