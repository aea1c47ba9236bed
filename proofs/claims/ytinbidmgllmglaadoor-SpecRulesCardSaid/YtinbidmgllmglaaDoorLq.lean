/- The plain side of the laws that read back what was written: digits are read as the number that they are of. No Go in sight. -/
import Derived.Test.YtinbidmgllmglaaDoorCb
import Derived.Test.YtinbidmgllmglaaDoorCs
namespace Go.Proofs.YtinbidmgllmglaaDoor
set_option linter.unusedVariables false
set_option linter.unusedSimpArgs false
set_option maxRecDepth 20000
open Go.RowKit Cp

theorem rdAux_dig : ∀ (k m i acc : Nat) (rest : List Int), m ≤ k → i + (dig m).length ≤ 9 → (m = 0 → i = 0) → acc + m * 128 ^ i ≤ 4611686018427387903 → rdAux i acc (dig m ++ rest) = some (acc + m * 128 ^ i, rest) := by
  intro k
  induction k with
  | zero =>
    intro m i acc rest h1 h2 h3 h4
    obtain rfl : m = 0 := by omega
    obtain rfl := h3 rfl
    rw [dig_lt (by omega)]
    simp only [List.cons_append, List.nil_append]
    rw [rdAux, if_neg (by omega), if_neg (by decide), if_neg]
    · simp
    · rintro (h | h)
      · omega
      · simp at h; omega
  | succ k ih =>
    intro m i acc rest h1 h2 h3 h4
    by_cases hm : m < 128
    · rw [dig_lt hm] at h2 ⊢
      simp only [List.cons_append, List.nil_append]
      have e : ((m : Nat) : Int).toNat % 128 = m := by rw [Int.toNat_natCast]; omega
      rw [rdAux, if_neg (by simp at h2; omega), if_neg (by omega), e, if_neg]
      rintro (⟨h5, h6⟩ | h)
      · have := h3 (by omega); omega
      · omega
    · have hd := dig_ge (n := m) (by omega)
      rw [hd] at h2 ⊢
      rw [List.cons_append]
      have hl := dig_len_pos (m / 128)
      rw [List.length_cons] at h2
      have e : ((128 : Int) + ((m % 128 : Nat) : Int)).toNat % 128 = m % 128 := by
        have : ((128 : Int) + ((m % 128 : Nat) : Int)).toNat = 128 + m % 128 := by omega
        rw [this]; omega
      rw [rdAux, if_neg (by omega), if_pos (by omega), e]
      have hs : acc + m % 128 * 128 ^ i + m / 128 * 128 ^ (i + 1) = acc + m * 128 ^ i := by
        have hdm : m = m / 128 * 128 + m % 128 := by omega
        rw [Nat.pow_succ]
        generalize 128 ^ i = p at *
        have : m * p = (m / 128 * 128 + m % 128) * p := by rw [← hdm]
        rw [this, Nat.add_mul, Nat.mul_assoc, Nat.mul_comm 128 p]
        omega
      rw [ih (m / 128) (i + 1) (acc + m % 128 * 128 ^ i) rest (by omega) (by omega) (by omega) (by omega), hs]

theorem rd_dig {m : Nat} (h : m ≤ 4611686018427387903) (rest : List Int) : rdAux 0 0 (dig m ++ rest) = some (m, rest) := by
  have := rdAux_dig m m 0 0 rest (Nat.le_refl _) (by have := dig_len9 h; omega) (fun _ => rfl) (by simpa using h)
  simpa using this

theorem getF_dig {m : Int} (h : 0 ≤ m) (h2 : m ≤ 4611686018427387903) (rest : List Int) : getF (dig m.toNat ++ rest) 0 = (m, rest, 0) := by
  unfold getF
  rw [if_pos rfl, rd_dig (by omega)]
  simp only [Prod.mk.injEq, and_self, and_true]
  omega

theorem numsF_digs (xs : List Int) (rest : List Int) (hx : ∀ x ∈ xs, 0 ≤ x ∧ x ≤ 4611686018427387903) : ∀ k, k ≤ xs.length → numsF k (digs xs ++ rest) 0 = (xs.take k, digs (xs.drop k) ++ rest, 0) := by
  intro k
  induction k with
  | zero => intro _; rfl
  | succ k ih =>
    intro hk
    rw [numsF, ih (by omega)]
    have hlt : k < xs.length := by omega
    rw [List.drop_eq_getElem_cons hlt, digs, List.append_assoc]
    have hb := hx xs[k] (List.getElem_mem hlt)
    simp only []
    rw [getF_dig hb.1 hb.2]
    simp only []
    rw [← List.take_succ_eq_append_getElem hlt]

theorem listF_digs (xs : List Int) (rest : List Int) (hx : ∀ x ∈ xs, 0 ≤ x ∧ x ≤ 4611686018427387903) (h64 : xs.length ≤ 64) : listF (dig xs.length ++ digs xs ++ rest) = (xs, rest, 0) := by
  have h := numsF_digs xs rest hx xs.length (Nat.le_refl _)
  rw [List.take_length, List.drop_length] at h
  unfold listF
  rw [List.append_assoc, rd_dig (by omega)]
  simp only []
  rw [if_neg (by omega), h]
  simp [digs]

theorem textF_sb (s rest : List Int) (h : s.length ≤ 64) : textF (dig s.length ++ s ++ rest) = (s, rest, 0) := by
  unfold textF
  rw [List.append_assoc, rd_dig (by omega)]
  simp only []
  rw [if_pos ⟨h, by simp⟩]
  simp

theorem dig_bytes (n : Nat) : ∀ x ∈ dig n, 0 ≤ x ∧ x < 256 := dig_byte n n (Nat.le_refl _)
theorem digs_bytes (l : List Int) : ∀ x ∈ digs l, 0 ≤ x ∧ x < 256 := by
  induction l with
  | nil => intro x hx; cases hx
  | cons n l ih =>
    intro x hx
    rw [digs] at hx
    rcases List.mem_append.1 hx with h | h
    · exact dig_bytes _ x h
    · exact ih x h
end Go.Proofs.YtinbidmgllmglaaDoor
