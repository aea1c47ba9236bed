/- The plain side of codec: a number's digits, what is written. No Go in sight, no condition. -/
import Derived.RowKit
namespace Go.Proofs.YtonlmkcolndaaaaGreatDoor
set_option linter.unusedVariables false
set_option linter.unusedSimpArgs false
set_option maxRecDepth 20000
namespace Cp

def MAX : Int := 4611686018427387903
def mayB (n : Int) : Bool := decide (0 ≤ n) && decide (n ≤ MAX)

theorem mayB_true {n : Int} (h : mayB n = true) : 0 ≤ n ∧ n ≤ 4611686018427387903 := by
  unfold mayB MAX at h
  rw [Bool.and_eq_true] at h
  exact ⟨of_decide_eq_true h.1, of_decide_eq_true h.2⟩
theorem mayB_of {n : Int} (h : 0 ≤ n) (h2 : n ≤ 4611686018427387903) : mayB n = true := by
  unfold mayB MAX
  rw [decide_eq_true h, decide_eq_true h2]; rfl
theorem mayB_false {n : Int} (h : mayB n = false) : n < 0 ∨ 4611686018427387903 < n := by
  by_cases h1 : 0 ≤ n
  · by_cases h2 : n ≤ 4611686018427387903
    · rw [mayB_of h1 h2] at h; cases h
    · exact .inr (by omega)
  · exact .inl (by omega)

/-- A number's digits, of seven bits, the least first; all but the last bear 128. -/
def dig (n : Nat) : List Int := if n < 128 then [(n : Int)] else (128 + ((n % 128 : Nat) : Int)) :: dig (n / 128)
termination_by n
decreasing_by omega

theorem dig_lt {n : Nat} (h : n < 128) : dig n = [(n : Int)] := by rw [dig, if_pos h]
theorem dig_ge {n : Nat} (h : 128 ≤ n) : dig n = (128 + ((n % 128 : Nat) : Int)) :: dig (n / 128) := by rw [dig, if_neg (by omega)]

theorem dig_len_pos (n : Nat) : 1 ≤ (dig n).length := by
  by_cases h : n < 128
  · rw [dig_lt h]; simp
  · rw [dig_ge (by omega)]; simp

theorem dig_len_le : ∀ (k n : Nat), n < 128 ^ k → 1 ≤ k → (dig n).length ≤ k := by
  intro k
  induction k with
  | zero => intro n _ h; omega
  | succ k ih =>
    intro n hn _
    by_cases h : n < 128
    · rw [dig_lt h]; simp
    · rw [dig_ge (by omega), List.length_cons]
      have hk : 1 ≤ k := by
        rcases k with _ | k
        · simp at hn; omega
        · omega
      have := ih (n / 128) (by rw [Nat.pow_succ] at hn; omega) hk
      omega

theorem dig_len9 {n : Nat} (h : n ≤ 4611686018427387903) : (dig n).length ≤ 9 := by
  refine dig_len_le 9 n ?_ (by omega)
  have e : (128 : Nat) ^ 9 = 9223372036854775808 := by decide
  rw [e]; omega

theorem dig_byte : ∀ (k n : Nat), n ≤ k → ∀ x ∈ dig n, 0 ≤ x ∧ x < 256 := by
  intro k
  induction k with
  | zero => intro n h x hx; rw [dig_lt (by omega)] at hx; simp at hx; omega
  | succ k ih =>
    intro n h x hx
    by_cases h1 : n < 128
    · rw [dig_lt h1] at hx; simp at hx; omega
    · rw [dig_ge (by omega)] at hx
      rcases List.mem_cons.1 hx with rfl | hx
      · omega
      · exact ih (n / 128) (by omega) x hx

/-- The digits of a list's numbers. -/
def digs : List Int → List Int
  | [] => []
  | n :: l => dig n.toNat ++ digs l

theorem digs_app (a b : List Int) : digs (a ++ b) = digs a ++ digs b := by
  induction a with
  | nil => rfl
  | cons n a ih => simp [digs, ih]

theorem digs_len (l : List Int) (h : ∀ x ∈ l, 0 ≤ x ∧ x ≤ 4611686018427387903) : (digs l).length ≤ 9 * l.length := by
  induction l with
  | nil => simp [digs]
  | cons n l ih =>
    have h1 := h n (by simp)
    have h2 := ih (fun x hx => h x (by simp [hx]))
    have h3 := dig_len9 (n := n.toNat) (by omega)
    simp only [digs, List.length_append, List.length_cons]
    omega

/-- May all numbers of a list be? -/
def allB (l : List Int) : Bool := l.all mayB
theorem allB_le {l : List Int} (h : allB l = true) : ∀ x ∈ l, 0 ≤ x ∧ x ≤ 4611686018427387903 := fun x hx => mayB_true (List.all_eq_true.1 h x hx)
theorem allB_take {l : List Int} {k : Nat} {x : Int} (h : allB (l.take k) = true) (hk : l[k]? = some x) (hm : mayB x = true) : allB (l.take (k + 1)) = true := by
  obtain ⟨hi, rfl⟩ := List.getElem?_eq_some_iff.1 hk
  rw [List.take_succ_eq_append_getElem hi]
  unfold allB at *
  rw [List.all_append, h]
  simp [hm]
theorem allB_not {l : List Int} {k : Nat} {x : Int} (hk : l[k]? = some x) (hm : mayB x = false) : allB l = false := by
  unfold allB
  rw [List.all_eq_false]
  exact ⟨x, List.mem_of_getElem? hk, by rw [hm]; decide⟩

/-- A number is read: i digits have been, they make n; what it is, and what is left. -/
def rdAux : Nat → Nat → List Int → Option (Nat × List Int)
  | _, _, [] => none
  | i, n, c :: l =>
    if 9 ≤ i then none
    else if 128 ≤ c then rdAux (i + 1) (n + c.toNat % 128 * 128 ^ i) l
    else if (c = 0 ∧ 0 < i) ∨ 4611686018427387903 < n + c.toNat % 128 * 128 ^ i then none
    else some (n + c.toNat % 128 * 128 ^ i, l)
/-- What a reader gives, what is left in it, its error. -/
def getF (l : List Int) (e : Int) : Int × List Int × Int :=
  if e = 0 then (match rdAux 0 0 l with | none => (0, [], 2) | some (n, r) => ((n : Int), r, 0)) else (0, l, e)
end Cp
end Go.Proofs.YtonlmkcolndaaaaGreatDoor
