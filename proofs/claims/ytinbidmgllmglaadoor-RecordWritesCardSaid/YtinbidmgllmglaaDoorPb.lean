/- Records: what is read is what was written. Plain Lean, no condition. -/
import Derived.Test.YtinbidmgllmglaaDoorPa
namespace Go.Proofs.YtinbidmgllmglaaDoor
set_option linter.unusedVariables false
set_option linter.unusedSimpArgs false
set_option maxRecDepth 20000
open Go.RowKit Cp

/-- What a record that may be is like. -/
theorem right_facts {r : Rc} (h : rightB r = true) : (1 ≤ r.k ∧ r.k ≤ 7) ∧ (1 ≤ r.e ∧ r.e ≤ 1099511627776) ∧ (0 ≤ r.w ∧ r.w ≤ 1099511627776) ∧ (0 ≤ r.n ∧ r.n ≤ 1099511627776) ∧ (0 ≤ r.q ∧ r.q ≤ 1099511627776) ∧ r.t.size ≤ 64 ∧
    (r.k ≠ 3 → r.p = Sp.zero) ∧ (r.k = 3 → r.p.chkE = 0) := by
  have he : (ByteArray.empty).size = 0 := rfl
  obtain ⟨k, e, v, n, q, t, p⟩ := r
  unfold rightB at h
  rw [Bool.and_eq_true, btw_true] at h
  obtain ⟨h1, h2⟩ := h
  by_cases hk : 1 ≤ k ∧ k ≤ 7
  case neg =>
    exfalso
    unfold mayK at h2
    rw [if_neg (show ¬ k = 1 by omega), if_neg (show ¬ k = 2 by omega), if_neg (show ¬ k = 3 by omega), if_neg (show ¬ k = 4 by omega), if_neg (show ¬ k = 5 by omega), if_neg (show ¬ k = 6 by omega), if_neg (show ¬ k = 7 by omega)] at h2
    cases h2
  have hk' : k = 1 ∨ k = 2 ∨ k = 3 ∨ k = 4 ∨ k = 5 ∨ k = 6 ∨ k = 7 := by omega
  simp only [] at h1
  rcases hk' with rfl | rfl | rfl | rfl | rfl | rfl | rfl
  · have h3 : leadB ⟨1, e, v, n, q, t, p⟩ = true := h2
    simp only [leadB, Bool.and_eq_true, btw_true, req_iff] at h3
    obtain ⟨a, b, c, _, _, _, _, _, rfl, rfl⟩ := h3
    exact ⟨by simp, by simp only []; omega, by simp only []; omega, by simp only []; omega, by simp only []; omega, by simp [he], fun _ => rfl, fun h => by simp at h⟩
  · have h3 : publishB ⟨2, e, v, n, q, t, p⟩ = true := h2
    simp only [publishB, Bool.and_eq_true, btw_true, req_iff] at h3
    obtain ⟨a, b, _, _, hv, _, hq, _, hp⟩ := h3
    exact ⟨by simp, by simp only []; omega, by simp only []; omega, by simp only []; omega, by simp only []; omega, by simp only []; omega, fun _ => hp, fun h => by simp at h⟩
  · have h3 : beginB ⟨3, e, v, n, q, t, p⟩ = true := h2
    simp only [beginB, Bool.and_eq_true, btw_true, req_iff, decide_eq_true_eq] at h3
    obtain ⟨a, b, _, _, hv, _, hq, rfl, _⟩ := h3
    exact ⟨by simp, by simp only []; omega, by simp only []; omega, by simp only []; omega, by simp only []; omega, by simp [he], fun h => absurd rfl h, fun _ => a⟩
  · have h3 : moveB ⟨4, e, v, n, q, t, p⟩ = true := h2
    simp only [moveB, Bool.and_eq_true, btw_true, req_iff] at h3
    obtain ⟨a, b, _, _, hv, _, hq, _, hp⟩ := h3
    exact ⟨by simp, by simp only []; omega, by simp only []; omega, by simp only []; omega, by simp only []; omega, by simp only []; omega, fun _ => hp, fun h => by simp at h⟩
  · have h3 : intentB ⟨5, e, v, n, q, t, p⟩ = true := h2
    simp only [intentB, unitB, Bool.and_eq_true, btw_true, req_iff] at h3
    obtain ⟨⟨a, b, _, _, _, _, _, rfl, hp⟩, c⟩ := h3
    exact ⟨by simp, by simp only []; omega, by simp only []; omega, by simp only []; omega, by simp only []; omega, by simp [he], fun _ => hp, fun h => by simp at h⟩
  · have h3 : ackB ⟨6, e, v, n, q, t, p⟩ = true := h2
    simp only [ackB, unitB, Bool.and_eq_true, btw_true, req_iff, decide_eq_true_eq] at h3
    obtain ⟨⟨a, b, _, _, _, _, _, rfl, hp⟩, c⟩ := h3
    exact ⟨by simp, by simp only []; omega, by simp only []; omega, by simp only []; omega, by simp only []; omega, by simp [he], fun _ => hp, fun h => by simp at h⟩
  · have h3 : stepB ⟨7, e, v, n, q, t, p⟩ = true := h2
    simp only [stepB, Bool.and_eq_true, btw_true, req_iff] at h3
    obtain ⟨a, b, c, _, _, _, _, hq, _, hp⟩ := h3
    exact ⟨by simp, by simp only []; omega, by simp only []; omega, by simp only []; omega, by simp only []; omega, by simp only []; omega, fun _ => hp, fun h => by simp at h⟩

theorem numW_ok {l : List Int} {n : Int} (h0 : 0 ≤ n) (h1 : n ≤ 1099511627776) : (numW l n).1 = l ++ dig n.toNat := by
  unfold numW; rw [if_pos (mayB_of h0 (by omega))]
theorem textW_ok {l : List Int} {s : ByteArray} (h : s.size ≤ 64) : (textW l s).1 = l ++ dig s.size ++ sb s := by unfold textW; rw [if_pos h]
theorem listW_ok {l xs : List Int} (h : xs.length ≤ 64) (hx : ∀ x ∈ xs, 0 ≤ x ∧ x ≤ 4611686018427387903) : (listW l xs).1 = l ++ dig xs.length ++ digs xs := by
  unfold listW
  rw [if_neg (by omega), if_pos (by unfold allB; rw [List.all_eq_true]; exact fun x hx' => mayB_of (hx x hx').1 (hx x hx').2)]

theorem wire6_eq {r : Rc} (h : rightB r = true) : wire6 r = dig r.k.toNat ++ (dig r.e.toNat ++ (dig r.w.toNat ++ (dig r.n.toNat ++ (dig r.q.toNat ++ (dig r.t.size ++ sb r.t))))) := by
  obtain ⟨hk, he, hw, hn, hq, ht, _⟩ := right_facts h
  unfold wire6
  rw [numW_ok (n := r.k) (by omega) (by omega), numW_ok (n := r.e) (by omega) (by omega), numW_ok hw.1 hw.2, numW_ok hn.1 hn.2, numW_ok hq.1 hq.2, textW_ok ht]
  simp only [List.nil_append, List.append_assoc]
theorem textE_sb {t : ByteArray} (h : t.size ≤ 64) (rest : List Int) : textE (dig t.size ++ sb t ++ rest) 0 = (sb t, rest, 0) := by
  rw [textE_0, ← sb_len t]
  exact textF_sb (sb t) rest (by rw [sb_len]; exact h)
/-- A record that may be is read of its bytes, whatever stands behind them. -/
theorem read_wire {r : Rc} (h : rightB r = true) (rest : List Int) : read6 (wireL r ++ rest) = (r, rest, 0) := by
  obtain ⟨hk, he, hw, hn, hq, ht, hp, hc⟩ := right_facts h
  have h5 : ∀ rest, read5 (wire6 r ++ rest) = ({ r with p := Sp.zero }, rest, 0) := by
    intro rest
    rw [wire6_eq h]
    simp only [List.append_assoc]
    unfold read5
    simp only []
    rw [getF_dig (m := r.k) (by omega) (by omega), getF_dig (m := r.e) (by omega) (by omega), getF_dig hw.1 (by omega), getF_dig hn.1 (by omega), getF_dig hq.1 (by omega), ← List.append_assoc (dig r.t.size), textE_sb ht]
    simp only [strOfNums_sb]
  by_cases h3 : r.k = 3
  · have hl := nums_le (hc h3)
    have e1 : wireL r = wire6 r ++ (dig r.p.nums.length ++ digs r.p.nums) := by
      unfold wireL
      rw [if_pos h3, listW_ok (by simp [Sp.nums]) hl, List.append_assoc]
    unfold read6
    rw [e1, List.append_assoc, h5]
    simp only []
    rw [if_pos h3, listE_0, listF_digs _ _ hl (by simp [Sp.nums])]
    simp only [mkSp]
    rw [if_pos (by rfl), Sp.ofL_nums]
  · have e1 : wireL r = wire6 r := by unfold wireL; rw [if_neg h3]
    unfold read6
    rw [e1, h5]
    simp only []
    rw [if_neg h3, ← hp h3]

theorem getF_back {l : List Int} {e : Int} (hb : Bytey l) (h : (getF l e).2.2 = 0) : e = 0 ∧ l = dig (getF l e).1.toNat ++ (getF l e).2.1 ∧ 0 ≤ (getF l e).1 ∧ (getF l e).1 ≤ 4611686018427387903 ∧ Bytey (getF l e).2.1 := by
  unfold getF at *
  by_cases he : e = 0
  · rw [if_pos he] at h ⊢
    cases hq : rdAux 0 0 l with
    | none => rw [hq] at h; simp at h
    | some p =>
      obtain ⟨n, r⟩ := p
      have := rd_only hb hq
      refine ⟨he, by simpa using this.1, by simp, by simp; omega, fun x hx => hb x ?_⟩
      rw [this.1]; exact List.mem_append.2 (.inr hx)
  · rw [if_neg he] at h; exact absurd h he
theorem textE_back {l : List Int} {e : Int} (hb : Bytey l) (h : (textE l e).2.2 = 0) : e = 0 ∧ l = dig (textE l e).1.length ++ ((textE l e).1 ++ (textE l e).2.1) ∧ (textE l e).1.length ≤ 64 ∧ Bytey (textE l e).1 ∧ Bytey (textE l e).2.1 := by
  unfold textE at *
  by_cases h1 : (getF l e).2.2 = 0
  · obtain ⟨he, hl, h0, h2, hby⟩ := getF_back hb h1
    rw [if_neg (by simpa using h1)] at h ⊢
    by_cases h3 : (getF l e).1.toNat ≤ 64 ∧ (getF l e).1.toNat ≤ (getF l e).2.1.length
    · rw [if_pos h3] at h ⊢
      refine ⟨he, ?_, ?_, fun x hx => hby x (List.mem_of_mem_take hx), fun x hx => hby x (List.mem_of_mem_drop hx)⟩
      · simp only [List.take_append_drop]
        rw [List.length_take, Nat.min_eq_left h3.2]
        exact hl
      · simp only [List.length_take]; omega
    · rw [if_neg h3] at h; simp at h
  · rw [if_pos h1] at h; exact absurd h h1
theorem numsF_back : ∀ (k : Nat) (l : List Int), Bytey l → (numsF k l 0).2.2 = 0 → l = digs (numsF k l 0).1 ++ (numsF k l 0).2.1 ∧ (∀ x ∈ (numsF k l 0).1, 0 ≤ x ∧ x ≤ 4611686018427387903) ∧ Bytey (numsF k l 0).2.1
  | 0, l, hb, _ => ⟨by simp [numsF, digs], by simp [numsF], by simpa [numsF] using hb⟩
  | k + 1, l, hb, h => by
    obtain ⟨⟨xs, l', e'⟩, hq⟩ : ∃ g, g = numsF k l 0 := ⟨_, rfl⟩
    have e : numsF (k + 1) l 0 = (xs ++ [(getF l' e').1], (getF l' e').2.1, (getF l' e').2.2) := by rw [numsF, ← hq]
    have hb0 : Bytey l' := by
      have := (numsF_sub l k).1
      rw [← hq] at this
      exact fun x hx => hb x (this x hx)
    rw [e] at h ⊢
    simp only [] at h ⊢
    obtain ⟨he, hl, h0, h1, hby⟩ := getF_back hb0 h
    subst he
    have ih := numsF_back k l hb (by rw [← hq])
    rw [← hq] at ih
    simp only [] at ih
    refine ⟨?_, fun x hx => ?_, hby⟩
    · rw [digs_app, List.append_assoc, ih.1]
      congr 1
      rw [hl]
      simp [digs, getF_dig h0 h1]
    · rcases List.mem_append.1 hx with hx | hx
      · exact ih.2.1 x hx
      · rw [List.mem_singleton] at hx; subst hx; exact ⟨h0, h1⟩
theorem listE_back {l : List Int} {e : Int} (hb : Bytey l) (h : (listE l e).2.2 = 0) : e = 0 ∧ l = dig (listE l e).1.length ++ (digs (listE l e).1 ++ (listE l e).2.1) ∧ (listE l e).1.length ≤ 64 ∧ (∀ x ∈ (listE l e).1, 0 ≤ x ∧ x ≤ 4611686018427387903) := by
  unfold listE at *
  by_cases h1 : (getF l e).2.2 = 0
  · obtain ⟨he, hl, h0, h2, hby⟩ := getF_back hb h1
    rw [if_neg (by simpa using h1)] at h ⊢
    by_cases h3 : 64 < (getF l e).1.toNat
    · rw [if_pos h3] at h; simp at h
    · rw [if_neg h3] at h ⊢
      by_cases h4 : (numsF (getF l e).1.toNat (getF l e).2.1 0).2.2 = 0
      · rw [if_pos h4] at h ⊢
        obtain ⟨a, b, c⟩ := numsF_back _ _ hby h4
        have hlen := numsF_len (getF l e).1.toNat (getF l e).2.1 0
        refine ⟨he, ?_, by omega, b⟩
        rw [hlen, ← a]
        exact hl
      · rw [if_neg h4] at h; exact absurd h h4
  · rw [if_pos h1] at h; exact absurd h h1
theorem listE_ne_err {l : List Int} {e : Int} (h : e ≠ 0) : (listE l e).2.2 ≠ 0 := by rw [listE_ne l e h]; exact h
theorem endF_back {l : List Int} {e : Int} (h : endF l e = 0) : e = 0 ∧ l = [] := by
  unfold endF at h
  split at h
  · cases h
  · rename_i h1
    exact ⟨h, by
      cases l with
      | nil => rfl
      | cons a b => exact absurd ⟨h, by simp⟩ h1⟩

/-- Bytes that are read as a record that may be are those that are written of it. -/
theorem wire_read {l : List Int} (hb : Bytey l) (he : endF (read6 l).2.1 (read6 l).2.2 = 0) (hr : rightB (read6 l).1 = true) : wireL (read6 l).1 = l := by
  obtain ⟨hE, hL⟩ := endF_back he
  clear he
  have h6 := wire6_eq hr
  obtain ⟨_, _, _, _, _, _, hp, hc⟩ := right_facts hr
  -- the five numbers and the text
  have h5 : ∀ (x : List Int × Int), (read5 l).2.2 = 0 → Bytey (read5 l).2.1 ∧ l = dig (read5 l).1.k.toNat ++ (dig (read5 l).1.e.toNat ++ (dig (read5 l).1.w.toNat ++ (dig (read5 l).1.n.toNat ++ (dig (read5 l).1.q.toNat ++ (dig (read5 l).1.t.size ++ (sb (read5 l).1.t ++ (read5 l).2.1)))))) := by
    intro _ h0
    unfold read5 at h0 ⊢
    simp only [] at h0 ⊢
    have ok : ∀ (l : List Int) (e : Int), Bytey l → Bytey (getF l e).2.1 := fun l e h x hx => by
      obtain ⟨_, _, _, h1, _⟩ := getF_sub l e
      exact h x (h1 x hx)
    have y1 := ok l 0 hb
    have y2 := ok _ (getF l 0).2.2 y1
    have y3 := ok _ (getF (getF l 0).2.1 (getF l 0).2.2).2.2 y2
    have y4 := ok _ (getF (getF (getF l 0).2.1 (getF l 0).2.2).2.1 (getF (getF l 0).2.1 (getF l 0).2.2).2.2).2.2 y3
    have y5 := ok _ (getF (getF (getF (getF l 0).2.1 (getF l 0).2.2).2.1 (getF (getF l 0).2.1 (getF l 0).2.2).2.2).2.1 (getF (getF (getF l 0).2.1 (getF l 0).2.2).2.1 (getF (getF l 0).2.1 (getF l 0).2.2).2.2).2.2).2.2 y4
    obtain ⟨t0, tl, t64, tb, tr⟩ := textE_back y5 h0
    obtain ⟨z4, m5, _⟩ := getF_back y4 t0
    obtain ⟨z3, m4, _⟩ := getF_back y3 z4
    obtain ⟨z2, m3, _⟩ := getF_back y2 z3
    obtain ⟨z1, m2, _⟩ := getF_back y1 z2
    obtain ⟨_, m1, _⟩ := getF_back hb z1
    refine ⟨tr, ?_⟩
    rw [strOfNums_size, sb_str tb, ← tl, ← m5, ← m4, ← m3, ← m2, ← m1]
  by_cases h3 : (read5 l).1.k = 3
  · have e6 : read6 l = ({ (read5 l).1 with p := mkSp (listE (read5 l).2.1 (read5 l).2.2).1 }, (listE (read5 l).2.1 (read5 l).2.2).2.1, (listE (read5 l).2.1 (read5 l).2.2).2.2) := by
      unfold read6; simp only []; rw [if_pos h3]
    rw [e6] at hE hL hr h6 hc ⊢
    simp only [] at hE hL
    have hce : (mkSp (listE (read5 l).2.1 (read5 l).2.2).1).chkE = 0 := hc h3
    -- the error of the list
    by_cases h50 : (read5 l).2.2 = 0
    · obtain ⟨hby, hl5⟩ := h5 ([], 0) h50
      obtain ⟨_, hll, hl64, hlx⟩ := listE_back hby hE
      have h12 : (listE (read5 l).2.1 (read5 l).2.2).1.length = 12 := by
        refine Classical.byContradiction fun hne => ?_
        rw [mkSp, if_neg hne] at hce
        have : Sp.zero.chkE ≠ 0 := by decide
        exact this hce
      have e1 : wireL { (read5 l).1 with p := mkSp (listE (read5 l).2.1 (read5 l).2.2).1 } = wire6 { (read5 l).1 with p := mkSp (listE (read5 l).2.1 (read5 l).2.2).1 } ++ (dig (listE (read5 l).2.1 (read5 l).2.2).1.length ++ digs (listE (read5 l).2.1 (read5 l).2.2).1) := by
        unfold wireL
        rw [if_pos h3]
        have en : (mkSp (listE (read5 l).2.1 (read5 l).2.2).1).nums = (listE (read5 l).2.1 (read5 l).2.2).1 := by rw [mkSp, if_pos h12, Sp.nums_ofL h12]
        simp only [en]
        rw [listW_ok (by omega) hlx, List.append_assoc]
      rw [e1, h6]
      rw [hL, List.append_nil] at hll
      conv => rhs; rw [hl5]
      rw [hll.symm]
      simp only [List.append_assoc]
    · exact absurd hE (listE_ne_err h50)
  · have e6 : read6 l = read5 l := by unfold read6; simp only []; rw [if_neg h3]
    rw [e6] at hE hL hr h6 ⊢
    obtain ⟨_, hl5⟩ := h5 ([], 0) hE
    have e1 : wireL (read5 l).1 = wire6 (read5 l).1 := by unfold wireL; rw [if_neg h3]
    rw [e1, h6]
    conv => rhs; rw [hl5]
    rw [hL, List.append_nil]
end Go.Proofs.YtinbidmgllmglaaDoor
