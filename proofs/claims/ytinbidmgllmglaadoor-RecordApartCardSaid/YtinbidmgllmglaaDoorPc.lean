/- The reference's records made of any may be; with a byte less, or more, none is read. Plain Lean, no condition. -/
import Derived.Test.YtinbidmgllmglaaDoorGr
import Derived.Test.YtinbidmgllmglaaDoorZa
namespace Go.Proofs.YtinbidmgllmglaaDoor
set_option linter.unusedVariables false
set_option linter.unusedSimpArgs false
set_option maxRecDepth 20000
open Go.RowKit Cp

theorem goodSp_ok (p : Sp) : (goodSp p).chkE = 0 := by
  have b0 := near_bd (n := p.s0) (least := 1) (many := 6) (by omega)
  have b1 := near_bd (n := p.s1) (least := 1) (many := 5) (by omega)
  have b4 := near_bd (n := p.s4) (least := 0) (many := 3) (by omega)
  have b2 := near_bd (n := p.s2) (least := 0) (many := 4) (by omega)
  have b2' := near_bd (n := p.s2) (least := 0) (many := 2) (by omega)
  have b3 := near_bd (n := p.s3) (least := 0) (many := nearF p.s1 1 5 + 1) (by omega)
  have b5 := near_bd (n := p.s5) (least := 0) (many := 60) (by omega)
  have b6 := near_bd (n := p.s6) (least := 0) (many := 60) (by omega)
  have b7 := near_bd (n := p.s7) (least := 0) (many := 60) (by omega)
  have b8 := near_bd (n := p.s8) (least := 0) (many := 60) (by omega)
  have b9 := near_bd (n := p.s9) (least := 1) (many := 9) (by omega)
  have b10 := near_bd (n := p.s10) (least := 0) (many := 4) (by omega)
  have b11 := near_bd (n := p.s11) (least := 1) (many := 60) (by omega)
  rw [chkE_zero]
  have hS : (0 ≤ gSurge p ∧ gSurge p ≤ 16 - nearF p.s1 1 5) ∧ (nearF p.s4 0 3 = 2 → nearF p.s1 1 5 ≤ gSurge p) := by
    unfold gSurge
    split <;> omega
  have hU : 0 ≤ gUn p ∧ gUn p ≤ nearF p.s1 1 5 ∧ (0 < gUn p ∨ 0 < gSurge p) := by
    unfold gUn
    split <;> omega
  have hw : wrap64 (16 - nearF p.s1 1 5) = 16 - nearF p.s1 1 5 := by unfold wrap64; omega
  have hT : stepF (nearF p.s4 0 3) (gSt p).1 0 true = true ∧ stepF (nearF p.s4 0 3) (gSt p).2.1 (gSt p).1 false = true ∧ stepF (nearF p.s4 0 3) (gSt p).2.2.1 (gSt p).2.1 false = true ∧ stepF (nearF p.s4 0 3) (gSt p).2.2.2 (gSt p).2.2.1 false = true := by
    unfold gSt gSteps
    generalize nearF p.s4 0 3 = s at *
    generalize nearF p.s5 0 60 = m0 at *
    generalize nearF p.s6 0 60 = n1 at *
    generalize nearF p.s7 0 60 = n2 at *
    generalize nearF p.s8 0 60 = n3 at *
    have zero : ∀ last, stepF s 0 last false = true := by intro last; unfold stepF; by_cases h : s = 0 <;> simp [h]
    have next : ∀ last n, s = 0 → 0 < last → 0 < n → last + n ≤ 100 → stepF s (last + n) last false = true := by
      intro last n hs h1 h2 h3
      have e1 : ¬ last + n = 0 := by omega
      have e2 : ¬ last = 0 := by omega
      unfold stepF
      simp [hs, e1, e2]
      omega
    by_cases hs : s = 0
    · have first : stepF s (m0 + 1) 0 true = true := by unfold stepF; simp [hs]; omega
      rw [if_pos hs]
      by_cases h1 : n1 = 0 ∨ 100 < m0 + 1 + n1
      · rw [if_pos h1]; exact ⟨first, zero _, zero _, zero _⟩
      · rw [if_neg h1]
        by_cases h2 : n2 = 0 ∨ 100 < m0 + 1 + n1 + n2
        · rw [if_pos h2]; exact ⟨first, next _ _ hs (by omega) (by omega) (by omega), zero _, zero _⟩
        · rw [if_neg h2]
          by_cases h3 : n3 = 0 ∨ 100 < m0 + 1 + n1 + n2 + n3
          · rw [if_pos h3]; exact ⟨first, next _ _ hs (by omega) (by omega) (by omega), next _ _ hs (by omega) (by omega) (by omega), zero _⟩
          · rw [if_neg h3]; exact ⟨first, next _ _ hs (by omega) (by omega) (by omega), next _ _ hs (by omega) (by omega) (by omega), next _ _ hs (by omega) (by omega) (by omega)⟩
    · rw [if_neg hs]
      have f0 : stepF s 0 0 true = true := by unfold stepF; simp [hs]
      exact ⟨f0, zero _, zero _, zero _⟩
  unfold Sp.conds
  simp only [List.all_cons, List.all_nil, id_eq, Bool.and_true, Bool.and_eq_true, btw_true, IntWalk.i64_left]
  simp only [goodSp]
  rw [hw]
  refine ⟨by omega, by omega, by omega, ⟨by omega, by rw [Bool.or_eq_true]; exact hU.2.2.imp decide_eq_true decide_eq_true⟩, ⟨by omega, ?_⟩, hT.1, hT.2.1, hT.2.2.1, hT.2.2.2, by omega, by omega, by omega⟩
  have := hS.2
  by_cases h : nearF p.s4 0 3 = 2
  · simp [this h]
  · simp [h]

theorem goodT_size (t : ByteArray) : 1 ≤ (goodT t).size ∧ (goodT t).size ≤ 21 := by
  unfold goodT
  split
  · rename_i h
    rw [ByteArray.size_append]
    have : (⟨#[116]⟩ : ByteArray).size = 1 := rfl
    omega
  · rw [ByteArray.size_append, ByteArray.size_extract]
    have : (⟨#[116]⟩ : ByteArray).size = 1 := rfl
    omega
theorem good_right (r : Rc) : rightB (goodR r) = true := by
  have bk := near_bd (n := r.k) (least := 1) (many := 7) (by omega)
  have be := near_bd (n := r.e) (least := 1) (many := 9) (by omega)
  have he : ByteArray.empty = ⟨#[]⟩ := rfl
  have ht := goodT_size r.t
  have hk : nearF r.k 1 7 = 1 ∨ nearF r.k 1 7 = 2 ∨ nearF r.k 1 7 = 3 ∨ nearF r.k 1 7 = 4 ∨ nearF r.k 1 7 = 5 ∨ nearF r.k 1 7 = 6 ∨ nearF r.k 1 7 = 7 := by omega
  have B : ∀ n l m : Int, 0 < m → l ≤ nearF n l m ∧ nearF n l m < l + m := fun n l m h => near_bd h
  have t1 : (1 : Int) ≤ (goodT r.t).size ∧ ((goodT r.t).size : Int) ≤ 64 := by omega
  rcases hk with h | h | h | h | h | h | h
  · have e : goodR r = ⟨1, nearF r.e 1 9, nearF r.w 0 4, nearF r.n 0 50, nearF r.q 1 20, ⟨#[]⟩, Sp.zero⟩ := by simp [goodR, h]
    rw [e]
    have := B r.w 0 4 (by omega); have := B r.n 0 50 (by omega); have := B r.q 1 20 (by omega)
    simp only [rightB, mayK, if_true, leadB, Bool.and_eq_true, btw_true, req_iff, he, true_and, and_true]
    omega
  · have e : goodR r = ⟨2, nearF r.e 1 9, 0, nearF r.n 1 6, 0, goodT r.t, Sp.zero⟩ := by simp [goodR, h]
    rw [e]
    have := B r.n 1 6 (by omega)
    have hm : mayK ⟨2, nearF r.e 1 9, 0, nearF r.n 1 6, 0, goodT r.t, Sp.zero⟩ = publishB ⟨2, nearF r.e 1 9, 0, nearF r.n 1 6, 0, goodT r.t, Sp.zero⟩ := rfl
    simp only [rightB, hm, publishB, Bool.and_eq_true, btw_true, req_iff, true_and, and_true]
    omega
  · have e : goodR r = ⟨3, nearF r.e 1 9, 0, nearF r.n 0 50, 0, ⟨#[]⟩, goodSp r.p⟩ := by simp [goodR, h]
    rw [e]
    have := B r.n 0 50 (by omega)
    have hm : mayK ⟨3, nearF r.e 1 9, 0, nearF r.n 0 50, 0, ⟨#[]⟩, goodSp r.p⟩ = beginB ⟨3, nearF r.e 1 9, 0, nearF r.n 0 50, 0, ⟨#[]⟩, goodSp r.p⟩ := rfl
    simp only [rightB, hm, beginB, Bool.and_eq_true, btw_true, req_iff, he, true_and, and_true, goodSp_ok, decide_true]
    omega
  · have e : goodR r = ⟨4, nearF r.e 1 9, 0, nearF r.n 1 5, 0, goodT r.t, Sp.zero⟩ := by simp [goodR, h]
    rw [e]
    have := B r.n 1 5 (by omega)
    have hm : mayK ⟨4, nearF r.e 1 9, 0, nearF r.n 1 5, 0, goodT r.t, Sp.zero⟩ = moveB ⟨4, nearF r.e 1 9, 0, nearF r.n 1 5, 0, goodT r.t, Sp.zero⟩ := rfl
    simp only [rightB, hm, moveB, Bool.and_eq_true, btw_true, req_iff, true_and, and_true]
    omega
  · have e : goodR r = ⟨5, nearF r.e 1 9, nearF r.w 0 16, nearF r.n 0 7, nearF r.q 1 9, ⟨#[]⟩, Sp.zero⟩ := by simp [goodR, h]
    rw [e]
    have := B r.w 0 16 (by omega); have := B r.n 0 7 (by omega); have := B r.q 1 9 (by omega)
    have hm : mayK ⟨5, nearF r.e 1 9, nearF r.w 0 16, nearF r.n 0 7, nearF r.q 1 9, ⟨#[]⟩, Sp.zero⟩ = intentB ⟨5, nearF r.e 1 9, nearF r.w 0 16, nearF r.n 0 7, nearF r.q 1 9, ⟨#[]⟩, Sp.zero⟩ := rfl
    simp only [rightB, hm, intentB, unitB, Bool.and_eq_true, btw_true, req_iff, he, true_and, and_true]
    omega
  · have e : goodR r = ⟨6, nearF r.e 1 9, nearF r.w 0 16, 0, nearF r.q 1 9, ⟨#[]⟩, Sp.zero⟩ := by simp [goodR, h]
    rw [e]
    have := B r.w 0 16 (by omega); have := B r.q 1 9 (by omega)
    have hm : mayK ⟨6, nearF r.e 1 9, nearF r.w 0 16, 0, nearF r.q 1 9, ⟨#[]⟩, Sp.zero⟩ = ackB ⟨6, nearF r.e 1 9, nearF r.w 0 16, 0, nearF r.q 1 9, ⟨#[]⟩, Sp.zero⟩ := rfl
    simp only [rightB, hm, ackB, unitB, Bool.and_eq_true, btw_true, req_iff, he, true_and, and_true, decide_true]
    omega
  · have e : goodR r = ⟨7, nearF r.e 1 9, nearF r.w 1 4, nearF r.n 0 50, 0, goodT r.t, Sp.zero⟩ := by simp [goodR, h]
    rw [e]
    have := B r.w 1 4 (by omega); have := B r.n 0 50 (by omega)
    have hm : mayK ⟨7, nearF r.e 1 9, nearF r.w 1 4, nearF r.n 0 50, 0, goodT r.t, Sp.zero⟩ = stepB ⟨7, nearF r.e 1 9, nearF r.w 1 4, nearF r.n 0 50, 0, goodT r.t, Sp.zero⟩ := rfl
    simp only [rightB, hm, stepB, Bool.and_eq_true, btw_true, req_iff, true_and, and_true]
    omega

theorem wire_bytey {r : Rc} (h : rightB r = true) : Bytey (wireL r) := by
  have h6 : Bytey (wire6 r) := by
    rw [wire6_eq h]
    intro x hx
    simp only [List.mem_append] at hx
    rcases hx with hx | hx | hx | hx | hx | hx | hx
    · exact dig_bytes _ x hx
    · exact dig_bytes _ x hx
    · exact dig_bytes _ x hx
    · exact dig_bytes _ x hx
    · exact dig_bytes _ x hx
    · exact dig_bytes _ x hx
    · exact sb_byte _ x hx
  obtain ⟨_, _, _, _, _, _, _, hc⟩ := right_facts h
  unfold wireL
  split
  · rename_i h3
    rw [listW_ok (by simp [Sp.nums]) (nums_le (hc h3))]
    intro x hx
    simp only [List.mem_append] at hx
    rcases hx with (hx | hx) | hx
    · exact h6 x hx
    · exact dig_bytes _ x hx
    · exact digs_bytes _ x hx
  · exact h6
theorem wire_len {r : Rc} (h : rightB r = true) : 0 < (wireL r).length ∧ (wireL r).length ≤ 1000 := by
  obtain ⟨hk, he, hw, hn, hq, ht, _, hc⟩ := right_facts h
  have d1 := dig_len9 (n := r.k.toNat) (by omega)
  have d2 := dig_len9 (n := r.e.toNat) (by omega)
  have d3 := dig_len9 (n := r.w.toNat) (by omega)
  have d4 := dig_len9 (n := r.n.toNat) (by omega)
  have d5 := dig_len9 (n := r.q.toNat) (by omega)
  have d6 := dig_len9 (n := r.t.size) (by omega)
  have p1 := dig_len_pos r.k.toNat
  have s1 := sb_len r.t
  have h6 : 0 < (wire6 r).length ∧ (wire6 r).length ≤ 200 := by
    rw [wire6_eq h]
    simp only [List.length_append]
    omega
  unfold wireL
  split
  · rename_i h3
    have hl := nums_le (hc h3)
    rw [listW_ok (by simp [Sp.nums]) hl]
    simp only [List.length_append]
    have n1 := digs_len r.p.nums hl
    have n2 : r.p.nums.length = 12 := by simp [Sp.nums]
    have n3 := dig_len9 (n := r.p.nums.length) (by omega)
    omega
  · omega
theorem bytes_good {r : Rc} (h : rightB r = true) : bytesF r = (wireL r, 0) := by unfold bytesF; rw [if_pos h]
theorem read_good {r : Rc} (h : rightB r = true) : readF (wireL r) = (r, 0) := by
  have := read_wire h []
  rw [List.append_nil] at this
  unfold readF
  rw [this]
  simp only []
  rw [if_pos ⟨rfl, h⟩]
theorem read_more {r : Rc} (h : rightB r = true) (x : Int) : readF (wireL r ++ [x]) = (Rc.zero, 2) := by
  unfold readF
  rw [read_wire h [x]]
  simp only []
  rw [if_neg (fun hh => by have := hh.1; simp [endF] at this)]
theorem read_less {r : Rc} (h : rightB r = true) : readF ((wireL r).take ((wireL r).length - 1)) = (Rc.zero, 2) := by
  have hb := wire_bytey h
  have hlen := wire_len h
  have hb' : Bytey ((wireL r).take ((wireL r).length - 1)) := fun x hx => hb x (List.mem_of_mem_take hx)
  rcases read_bytes hb' with ⟨_, hr, hy⟩ | ⟨hz, _⟩
  · exfalso
    obtain ⟨r', hr'⟩ : ∃ r', r' = (readF ((wireL r).take ((wireL r).length - 1))).1 := ⟨_, rfl⟩
    rw [← hr'] at hr hy
    rw [bytes_good hr] at hy
    simp only [Prod.mk.injEq, and_true] at hy
    have hs : wireL r = wireL r' ++ [(wireL r)[(wireL r).length - 1]'(by omega)] := by
      rw [hy]
      conv => lhs; rw [← List.take_append_drop ((wireL r).length - 1) (wireL r)]
      congr 1
      rw [List.drop_eq_getElem_cons (by omega)]
      congr 1
      exact List.drop_of_length_le (by omega)
    have a1 := read_wire h []
    rw [List.append_nil, hs, read_wire hr] at a1
    simp at a1
  · exact hz
end Go.Proofs.YtinbidmgllmglaaDoor
