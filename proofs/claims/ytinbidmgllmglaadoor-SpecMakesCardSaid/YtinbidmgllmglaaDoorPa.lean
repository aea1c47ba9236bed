/- Records: the two checks agree; what is read is what was written. Plain Lean, no condition. -/
import Derived.Test.YtinbidmgllmglaaDoorQc
import Derived.Test.YtinbidmgllmglaaDoorOn
namespace Go.Proofs.YtinbidmgllmglaaDoor
set_option linter.unusedVariables false
set_option linter.unusedSimpArgs false
set_option maxRecDepth 20000
open Go.RowKit Cp

theorem and_cg {a b b' : Bool} (h : a = true → b = b') : (a && b) = (a && b') := by cases a <;> simp_all
theorem btw_true {n lo hi : Int} : btw n lo hi = true ↔ lo ≤ n ∧ n ≤ hi := by simp [btw]
theorem step_first (s n : Int) : stepF s n 0 true = bif !decide (s = 0) then decide (n = 0) else btw n 1 100 := by
  unfold stepF btw
  by_cases hs : s = 0 <;> simp [hs]
  have : (0 < n) ↔ (1 ≤ n) := by omega
  simp [this]
theorem step_next (s n last : Int) (h0 : 0 ≤ last) (h1 : last ≤ 100) : stepF s n last false = rstepF s n last := by
  have hw : wrap64 (last + 1) = last + 1 := by unfold wrap64; omega
  unfold stepF rstepF btw
  rw [hw]
  by_cases hs : s = 0
  · by_cases hn : n = 0
    · simp [hs, hn]
    · by_cases hl : last = 0
      · simp [hs, hn, hl]
      · have h2 : 0 < last := by omega
        have h3 : (last < n) ↔ (last + 1 ≤ n) := by omega
        simp [hs, hn, hl, h2, h3]
  · simp [hs]
theorem stepF_le {s n last : Int} {f : Bool} (h : stepF s n last f = true) (h0 : 0 ≤ last) : 0 ≤ n ∧ n ≤ 100 := by
  unfold stepF at h
  by_cases hs : s = 0
  · cases f
    · by_cases hn : n = 0
      · omega
      · by_cases hl : last = 0
        · simp [hs, hn, hl] at h
        · simp [hs, hn, hl] at h; omega
    · simp [hs] at h; omega
  · simp [hs] at h; omega
theorem conds_all (p : Sp) : p.conds.all id = p.rconds.all id := by
  unfold Sp.conds Sp.rconds
  simp only [List.all_cons, List.all_nil, id_eq, Bool.and_true, IntWalk.i64_left]
  refine and_cg fun h0 => and_cg fun h1 => and_cg fun h2 => ?_
  rw [btw_true] at h0 h1 h2
  have e3 : (btw p.s3 0 p.s1 && (decide (0 < p.s3) || decide (0 < p.s2))) = (btw p.s3 0 p.s1 && !((p.s3 == 0) && (p.s2 == 0))) := by
    refine and_cg fun h3 => ?_
    rw [btw_true] at h3
    rw [Bool.eq_iff_iff]
    simp
    omega
  rw [e3]
  refine and_cg fun _ => ?_
  have e4 : (btw p.s4 0 2 && ((p.s4 != 2) || decide (p.s1 ≤ p.s2))) = (btw p.s4 0 2 && !((p.s4 == 2) && decide (p.s2 < p.s1))) := by
    refine and_cg fun _ => ?_
    rw [Bool.eq_iff_iff]
    simp
  rw [e4]
  refine and_cg fun _ => ?_
  have e5 : p.stepB 0 = p.rstepB 0 := step_first _ _
  rw [e5]
  refine and_cg fun h5 => ?_
  have b5 := stepF_le (s := p.s4) (n := p.s5) (last := 0) (f := true) (by rw [← e5] at h5; exact h5) (by omega)
  have e6 : p.stepB 1 = p.rstepB 1 := step_next _ _ _ b5.1 b5.2
  rw [e6]
  refine and_cg fun h6 => ?_
  have b6 := stepF_le (s := p.s4) (n := p.s6) (last := p.s5) (f := false) (by rw [← e6] at h6; exact h6) b5.1
  have e7 : p.stepB 2 = p.rstepB 2 := step_next _ _ _ b6.1 b6.2
  rw [e7]
  refine and_cg fun h7 => ?_
  have b7 := stepF_le (s := p.s4) (n := p.s7) (last := p.s6) (f := false) (by rw [← e7] at h7; exact h7) b6.1
  have e8 : p.stepB 3 = p.rstepB 3 := step_next _ _ _ b7.1 b7.2
  rw [e8]
theorem chkE_eq (p : Sp) : p.chkE = p.rchkE := by unfold Sp.chkE Sp.rchkE; rw [conds_all]
theorem chkE_zero (p : Sp) : p.chkE = 0 ↔ p.conds.all id = true := by
  unfold Sp.chkE
  cases p.conds.all id <;> simp
/-- The numbers of a spec that may be. -/
theorem nums_le {p : Sp} (h : p.chkE = 0) : ∀ x ∈ p.nums, 0 ≤ x ∧ x ≤ 4611686018427387903 := by
  rw [chkE_zero] at h
  unfold Sp.conds at h
  simp only [List.all_cons, List.all_nil, id_eq, Bool.and_true, Bool.and_eq_true, btw_true, IntWalk.i64_left] at h
  obtain ⟨h0, h1, h2, h3, h4, h5, h6, h7, h8, h9, h10, h11⟩ := h
  have hw : wrap64 (16 - p.s1) = 16 - p.s1 := by unfold wrap64; omega
  rw [hw] at h2
  have b5 := stepF_le (s := p.s4) (n := p.s5) (last := 0) (f := true) h5 (by omega)
  have b6 := stepF_le (s := p.s4) (n := p.s6) (last := p.s5) (f := false) h6 b5.1
  have b7 := stepF_le (s := p.s4) (n := p.s7) (last := p.s6) (f := false) h7 b6.1
  have b8 := stepF_le (s := p.s4) (n := p.s8) (last := p.s7) (f := false) h8 b7.1
  have h31 := h3.1
  have h41 := h4.1
  intro x hx
  simp only [Sp.nums, List.mem_cons, List.not_mem_nil, or_false] at hx
  rcases hx with rfl | rfl | rfl | rfl | rfl | rfl | rfl | rfl | rfl | rfl | rfl | rfl <;> omega

theorem req_iff (a b c d e : Int) (t : ByteArray) (p : Sp) : req ⟨a, b, c, d, e, t, p⟩ Rc.zero = true ↔ a = 0 ∧ b = 0 ∧ c = 0 ∧ d = 0 ∧ e = 0 ∧ t = .empty ∧ p = Sp.zero := by
  simp [req, Rc.zero]
theorem sneq_iff (p : Sp) : (!(sneq p Sp.zero)) = true ↔ p = Sp.zero := by simp [sneq]
theorem sneq_f (p : Sp) : sneq p Sp.zero = false ↔ p = Sp.zero := by simp [sneq]
theorem right_eq (r : Rc) : rightB r = rrightB r := by
  obtain ⟨k, e, v, n, q, t, p⟩ := r
  have he : ByteArray.empty = ⟨#[]⟩ := rfl
  unfold rightB rrightB
  refine and_cg fun _ => ?_
  by_cases h : 1 ≤ k ∧ k ≤ 7
  case neg =>
    have h0 : mayK ⟨k, e, v, n, q, t, p⟩ = false := by
      unfold mayK
      rw [if_neg (show ¬ k = 1 by omega), if_neg (show ¬ k = 2 by omega), if_neg (show ¬ k = 3 by omega), if_neg (show ¬ k = 4 by omega), if_neg (show ¬ k = 5 by omega), if_neg (show ¬ k = 6 by omega), if_neg (show ¬ k = 7 by omega)]
    have h1 : rmayK ⟨k, e, v, n, q, t, p⟩ = false := by
      unfold rmayK
      rw [if_neg (show ¬ k = 1 by omega), if_neg (show ¬ k = 2 by omega), if_neg (show ¬ k = 3 by omega), if_neg (show ¬ k = 4 by omega), if_neg (show ¬ k = 5 by omega), if_neg (show ¬ k = 6 by omega), if_neg (show ¬ k = 7 by omega)]
    rw [h0, h1]; simp
  have hk : k = 1 ∨ k = 2 ∨ k = 3 ∨ k = 4 ∨ k = 5 ∨ k = 6 ∨ k = 7 := by omega
  rcases hk with rfl | rfl | rfl | rfl | rfl | rfl | rfl <;> rw [Bool.eq_iff_iff] <;>
    simp only [mayK, rmayK, leadB, publishB, beginB, moveB, intentB, ackB, unitB, stepB, rk1, rk2, rk3, rk4, rk5, rk6, rk7, if_true, if_false, bareB, cond_true, cond_false, Bool.and_eq_true, req_iff, sneq_iff, decide_eq_true_eq, beq_iff_eq, chkE_eq, he, Bool.not_eq_true',
      (show ¬ (1 : Int) = 3 by omega), (show ¬ (2 : Int) = 3 by omega), (show ¬ (4 : Int) = 3 by omega), (show ¬ (5 : Int) = 3 by omega), (show ¬ (6 : Int) = 3 by omega), (show ¬ (7 : Int) = 3 by omega)] <;> simp
  all_goals (try simp only [req_iff, he, sneq_f, true_and])
  all_goals (constructor <;> intro hh <;> simp_all)
end Go.Proofs.YtinbidmgllmglaaDoor
