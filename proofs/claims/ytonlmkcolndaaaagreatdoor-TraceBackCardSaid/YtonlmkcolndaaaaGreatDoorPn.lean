/- A number and its digits: what Atoi reads, what the reference counts. Plain Lean, no condition. -/
import Derived.Test.YtonlmkcolndaaaaGreatDoorVi
namespace Go.Proofs.YtonlmkcolndaaaaGreatDoor
set_option linter.unusedVariables false
set_option linter.unusedSimpArgs false
set_option maxRecDepth 20000

/-- What the reference counts of digits. -/
def valL (acc : Int) (l : List UInt8) : Int := l.foldl (fun a c => 10 * a + (c.toNat : Int) - 48) acc
def isNeg (l : List UInt8) : Bool := l.head? == some 45
def valS (l : List UInt8) : Int := if isNeg l = true then -(valL 0 ((l.drop 1).take 10)) else valL 0 (l.take 10)
/-- How many digits there are. -/
def digN (l : List UInt8) : Nat := if isNeg l = true then l.length - 1 else l.length
/-- The number of a text, if it is one's. -/
def numF (l : List UInt8) : Option Int := if digN l ≤ 9 ∧ Lib.itoa (valS l) = l then some (valS l) else none

theorem dig_toNat {d : Nat} (h : d < 10) : (UInt8.ofNat (48 + d)).toNat = 48 + d := by
  rw [UInt8.toNat_ofNat']; omega
theorem dec_bytes : ∀ (N : Nat), ∀ c ∈ Lib.decDigits N, 48 ≤ c.toNat ∧ c.toNat ≤ 57 := by
  intro N
  induction N using Nat.strongRecOn with
  | ind N ih =>
    intro c hc
    rw [Lib.decDigits] at hc
    split at hc
    · rename_i h
      simp only [List.mem_singleton] at hc
      subst hc
      rw [dig_toNat h]; omega
    · rcases List.mem_append.1 hc with h1 | h1
      · exact ih (N / 10) (by omega) c h1
      · simp only [List.mem_singleton] at h1
        subst h1
        rw [dig_toNat (by omega)]; omega
theorem dec_ne (N : Nat) : Lib.decDigits N ≠ [] := by
  rw [Lib.decDigits]; split <;> simp
theorem dec_head (N : Nat) : ∃ c l, Lib.decDigits N = c :: l ∧ 48 ≤ c.toNat := by
  cases h : Lib.decDigits N with
  | nil => exact absurd h (dec_ne N)
  | cons c l => exact ⟨c, l, rfl, (dec_bytes N c (by rw [h]; simp)).1⟩
theorem valL_dec : ∀ (N : Nat), valL 0 (Lib.decDigits N) = N := by
  intro N
  induction N using Nat.strongRecOn with
  | ind N ih =>
    rw [Lib.decDigits]
    split
    · rename_i h
      simp only [valL, List.foldl_cons, List.foldl_nil, dig_toNat h]; omega
    · have h := ih (N / 10) (by omega)
      unfold valL at h ⊢
      rw [List.foldl_append, h]
      simp only [List.foldl_cons, List.foldl_nil, dig_toNat (show N % 10 < 10 by omega)]; omega
theorem parse_app (r : List UInt8) : ∀ (l : List UInt8) (acc : Nat), Lib.parseUint10 acc (l ++ r) = match Lib.parseUint10 acc l with | .ok a => Lib.parseUint10 a r | e => e := by
  intro l
  induction l with
  | nil => intro acc; rfl
  | cons c l ih =>
    intro acc
    simp only [List.cons_append, Lib.parseUint10]
    split
    · split
      · rfl
      · split
        · rfl
        · exact ih _
    · rfl
theorem parse_dec : ∀ (N : Nat), N < 18446744073709551616 → Lib.parseUint10 0 (Lib.decDigits N) = .ok N := by
  intro N
  induction N using Nat.strongRecOn with
  | ind N ih =>
    intro hN
    rw [Lib.decDigits]
    split
    · rename_i h
      simp only [Lib.parseUint10, dig_toNat h]
      rw [if_pos (by omega), if_neg (by omega), if_neg (by omega)]
      congr 1; omega
    · rw [parse_app, ih (N / 10) (by omega) (by omega)]
      simp only [Lib.parseUint10, dig_toNat (show N % 10 < 10 by omega)]
      rw [if_pos (by omega), if_neg (by omega), if_neg (by omega)]
      congr 1; omega
theorem neg_itoa (u : Int) : isNeg (Lib.itoa u) = decide (u < 0) := by
  unfold Lib.itoa isNeg
  by_cases h : u < 0
  · rw [if_pos h]; simp [h]
  · rw [if_neg h]
    obtain ⟨c, l, e, hc⟩ := dec_head u.toNat
    have : c ≠ 45 := by intro e; subst e; exact absurd hc (by decide)
    rw [e]; simp [h, this]
theorem atoi_itoa (u : Int) (h0 : -9223372036854775808 ≤ u) (h1 : u ≤ 9223372036854775807) : Lib.atoiAll (Lib.itoa u) = .ok u := by
  unfold Lib.itoa
  by_cases h : u < 0
  · rw [if_pos h]
    unfold Lib.atoiAll
    simp only []
    rw [if_pos (by right; rfl)]
    have hp : Lib.parseMag (Lib.decDigits u.natAbs) = .ok u.natAbs := by
      unfold Lib.parseMag; rw [if_neg (dec_ne _), parse_dec _ (by omega)]
    rw [hp]
    simp only []
    rw [if_neg (by intro hh; exact hh.1 rfl), if_neg (by omega), if_pos (by rfl)]
    congr 1; omega
  · rw [if_neg h]
    obtain ⟨c, l, e, hc⟩ := dec_head u.toNat
    have hb := dec_bytes u.toNat c (by rw [e]; simp)
    have hp : Lib.parseMag (Lib.decDigits u.toNat) = .ok u.toNat := by
      unfold Lib.parseMag; rw [if_neg (dec_ne _), parse_dec _ (by omega)]
    rw [e] at hp ⊢
    unfold Lib.atoiAll
    simp only []
    rw [if_neg (by omega), hp]
    simp only []
    rw [if_neg (by omega), if_neg (by omega), if_neg (by omega)]
    congr 1; omega
theorem itoa_inj {u v : Int} (h0 : -9223372036854775808 ≤ u ∧ u ≤ 9223372036854775807) (h1 : -9223372036854775808 ≤ v ∧ v ≤ 9223372036854775807) (h : Lib.itoa u = Lib.itoa v) : u = v := by
  have a := atoi_itoa u h0.1 h0.2
  rw [h, atoi_itoa v h1.1 h1.2] at a
  injection a with a
  exact a.symm
theorem val_itoa (u : Int) (h : digN (Lib.itoa u) ≤ 9) : valS (Lib.itoa u) = u := by
  unfold valS
  unfold digN at h
  rw [neg_itoa] at h ⊢
  by_cases hu : u < 0
  · simp only [hu, decide_true, if_true] at h ⊢
    unfold Lib.itoa at h ⊢
    rw [if_pos hu] at h ⊢
    simp only [List.drop_succ_cons, List.drop_zero, List.length_cons] at h ⊢
    rw [List.take_of_length_le (by omega), valL_dec]; omega
  · have hf : decide (u < 0) = false := by simpa using hu
    simp only [hf, Bool.false_eq_true, if_false] at h ⊢
    unfold Lib.itoa at h ⊢
    rw [if_neg hu] at h ⊢
    rw [List.take_of_length_le (by omega), valL_dec]; omega
theorem valL_snoc (l : List UInt8) (c : UInt8) : valL 0 (l ++ [c]) = 10 * valL 0 l + (c.toNat : Int) - 48 := by
  unfold valL; rw [List.foldl_append]; rfl
theorem valL_bound (l : List UInt8) : ∀ k, k ≤ l.length → -(23 * ((10 : Int) ^ k - 1)) ≤ valL 0 (l.take k) ∧ valL 0 (l.take k) ≤ 23 * ((10 : Int) ^ k - 1)
  | 0, _ => by simp [valL]
  | k + 1, h => by
    have ih := valL_bound l k (by omega)
    have e : l[k]? = some l[k] := List.getElem?_eq_getElem (by omega)
    rw [take_snoc e, valL_snoc, Int.pow_succ]
    have hc := l[k].toNat_lt
    omega
theorem valL_small (l : List UInt8) (k : Nat) (h : k ≤ l.length) (hk : k ≤ 10) : -229999999977 ≤ valL 0 (l.take k) ∧ valL 0 (l.take k) ≤ 229999999977 := by
  have hb := valL_bound l k h
  have hp : (10 : Int) ^ k ≤ 10 ^ 10 := by
    have : (10 : Nat) ^ k ≤ 10 ^ 10 := Nat.pow_le_pow_right (by omega) hk
    exact_mod_cast this
  have e : (10 : Int) ^ 10 = 10000000000 := rfl
  omega
theorem digN_itoa (u : Int) : digN (Lib.itoa u) = Lib.nDigits u.natAbs := by
  unfold digN
  rw [neg_itoa]
  by_cases hu : u < 0
  · simp only [hu, decide_true, if_true]
    unfold Lib.itoa
    rw [if_pos hu, List.length_cons, Lib.decDigits_length]; omega
  · have hf : decide (u < 0) = false := by simpa using hu
    simp only [hf, Bool.false_eq_true, if_false]
    unfold Lib.itoa
    rw [if_neg hu, Lib.decDigits_length, show u.toNat = u.natAbs by omega]
theorem small_itoa {u : Int} (h : digN (Lib.itoa u) ≤ 9) : -1000000000 < u ∧ u < 1000000000 := by
  rw [digN_itoa] at h
  have h1 := Lib.lt_pow_nDigits u.natAbs
  have h2 : (10 : Nat) ^ Lib.nDigits u.natAbs ≤ 10 ^ 9 := Nat.pow_le_pow_right (by omega) h
  have e : (10 : Nat) ^ 9 = 1000000000 := rfl
  omega
theorem numF_some {l : List UInt8} {u : Int} : numF l = some u ↔ digN l ≤ 9 ∧ Lib.itoa u = l := by
  unfold numF
  constructor
  · intro h
    split at h
    · rename_i hh
      injection h with h
      subst h
      exact hh
    · cases h
  · rintro ⟨h1, rfl⟩
    have hv := val_itoa u h1
    rw [if_pos ⟨h1, by rw [hv]⟩, hv]
theorem numF_small {l : List UInt8} {u : Int} (h : numF l = some u) : -1000000000 < u ∧ u < 1000000000 := by
  obtain ⟨h1, rfl⟩ := numF_some.1 h
  exact small_itoa h1
theorem numF_atoi {l : List UInt8} {u : Int} (h : numF l = some u) : Lib.atoiAll l = .ok u := by
  have hs := numF_small h
  obtain ⟨h1, rfl⟩ := numF_some.1 h
  exact atoi_itoa u (by omega) (by omega)
theorem numF_none {l : List UInt8} (h : ∀ v, Lib.atoiAll l ≠ .ok v) : numF l = none := by
  cases hn : numF l with
  | none => rfl
  | some u => exact absurd (numF_atoi hn) (h u)
theorem numF_of_atoi {l : List UInt8} {v : Int} (h : Lib.atoiAll l = .ok v) : numF l = if digN l ≤ 9 ∧ Lib.itoa v = l then some v else none := by
  split
  · rename_i hh; exact numF_some.2 hh
  · rename_i hh
    cases hn : numF l with
    | none => rfl
    | some u =>
      have := numF_atoi hn
      rw [h] at this
      injection this with this
      subst this
      exact absurd (numF_some.1 hn) hh
theorem trim_len (l : List UInt8) : (Lib.trimPrefix l [45]).length = digN l := by
  unfold Lib.trimPrefix Lib.hasPrefix digN isNeg
  cases l with
  | nil => rfl
  | cons c l =>
    by_cases h : c = 45
    · subst h; simp [List.isPrefixOf]
    · have h2 : ¬ (45 = c) := fun e => h e.symm
      simp [List.isPrefixOf, h, h2]
end Go.Proofs.YtonlmkcolndaaaaGreatDoor
