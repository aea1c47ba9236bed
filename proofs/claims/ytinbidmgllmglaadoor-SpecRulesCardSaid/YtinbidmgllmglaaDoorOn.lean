/- Bytes that are read as a number are those that are written of it. Plain lists, no condition. -/
import Derived.Test.YtinbidmgllmglaaDoorLq
namespace Go.Proofs.YtinbidmgllmglaaDoor
set_option linter.unusedVariables false
set_option linter.unusedSimpArgs false
set_option maxRecDepth 20000
open Go.RowKit Cp

theorem rdAux_only : ∀ (l : List Int) (i acc m : Nat) (r : List Int), (∀ x ∈ l, 0 ≤ x ∧ x < 256) → rdAux i acc l = some (m, r) →
    ∃ d, l = dig d ++ r ∧ m = acc + d * 128 ^ i ∧ (0 < i → 0 < d) ∧ m ≤ 4611686018427387903 := by
  intro l
  induction l with
  | nil => intro i acc m r _ h; rw [rdAux] at h; cases h
  | cons c l ih =>
    intro i acc m r hb h
    have hc := hb c (by simp)
    rw [rdAux] at h
    by_cases h9 : 9 ≤ i
    · rw [if_pos h9] at h; cases h
    · rw [if_neg h9] at h
      by_cases h128 : 128 ≤ c
      · rw [if_pos h128] at h
        obtain ⟨d, hl, hm, hd, hM⟩ := ih _ _ _ _ (fun x hx => hb x (by simp [hx])) h
        have hd0 := hd (by omega)
        refine ⟨d * 128 + c.toNat % 128, ?_, ?_, fun _ => by omega, hM⟩
        · have e1 : (d * 128 + c.toNat % 128) % 128 = c.toNat % 128 := by omega
          have e2 : (d * 128 + c.toNat % 128) / 128 = d := by omega
          rw [dig_ge (by omega), e1, e2, List.cons_append, ← hl]
          congr 1
          omega
        · rw [hm, Nat.pow_succ]
          generalize 128 ^ i = p
          rw [Nat.add_mul, Nat.mul_comm p 128, ← Nat.mul_assoc]
          omega
      · rw [if_neg h128] at h
        by_cases hbad : (c = 0 ∧ 0 < i) ∨ 4611686018427387903 < acc + c.toNat % 128 * 128 ^ i
        · rw [if_pos hbad] at h; cases h
        · rw [if_neg hbad] at h
          simp only [Option.some.injEq, Prod.mk.injEq] at h
          obtain ⟨rfl, rfl⟩ := h
          have e1 : c.toNat % 128 = c.toNat := by omega
          refine ⟨c.toNat, ?_, by rw [e1], fun hi => ?_, by omega⟩
          · rw [dig_lt (by omega)]
            have : ((c.toNat : Nat) : Int) = c := by omega
            rw [this]; rfl
          · rcases Nat.eq_zero_or_pos c.toNat with h0 | h0
            · exact absurd (Or.inl ⟨by omega, hi⟩) hbad
            · exact h0

theorem rd_only {l : List Int} {m : Nat} {r : List Int} (hb : ∀ x ∈ l, 0 ≤ x ∧ x < 256) (h : rdAux 0 0 l = some (m, r)) : l = dig m ++ r ∧ m ≤ 4611686018427387903 := by
  obtain ⟨d, hl, hm, _, hM⟩ := rdAux_only l 0 0 m r hb h
  have : m = d := by rw [hm]; simp
  rw [this]; exact ⟨hl, by omega⟩
end Go.Proofs.YtinbidmgllmglaaDoor
