/- CodecOnly: bytes that are read to their end as numbers are those that are written of these. The walk of the law, for every slice of bytes. -/
import Derived.Test.YtmbigbhmfoinoaaLq
import Derived.Test.YtmbigbhmfoinoaaCl
import Derived.Test.YtmbigbhmfoinoaaCg
import Derived.Test.YtmbigbhmfoinoaaFt
namespace Go.Proofs.Ytmbigbhmfoinoaa
set_option linter.unusedVariables false
set_option linter.unusedSimpArgs false
open Go.RowKit Cp

theorem rdAux_only : ∀ (l : List Int) (i acc m : Nat) (r : List Int), (∀ x ∈ l, 0 ≤ x ∧ x < 256) → rdAux i acc l = some (m, r) →
    ∃ d, l = dig d ++ r ∧ m = acc + d * 128 ^ i ∧ (0 < i → 0 < d) ∧ m ≤ 4611686018427387903 := by
  intro l
  induction l with
  | nil => intro i acc m r _ h; rw [rdAux] at h; cases h
  | cons c l ih =>
    intro i acc m r hb h
    have hc := hb c (by simp)
    rw [rdAux] at h
    by_cases h9 : 9 ≤ i
    · rw [if_pos h9] at h; cases h
    · rw [if_neg h9] at h
      by_cases h128 : 128 ≤ c
      · rw [if_pos h128] at h
        obtain ⟨d, hl, hm, hd, hM⟩ := ih _ _ _ _ (fun x hx => hb x (by simp [hx])) h
        have hd0 := hd (by omega)
        refine ⟨d * 128 + c.toNat % 128, ?_, ?_, fun _ => by omega, hM⟩
        · have e1 : (d * 128 + c.toNat % 128) % 128 = c.toNat % 128 := by omega
          have e2 : (d * 128 + c.toNat % 128) / 128 = d := by omega
          rw [dig_ge (by omega), e1, e2, List.cons_append, ← hl]
          congr 1
          omega
        · rw [hm, Nat.pow_succ]
          generalize 128 ^ i = p
          rw [Nat.add_mul, Nat.mul_comm p 128, ← Nat.mul_assoc]
          omega
      · rw [if_neg h128] at h
        by_cases hbad : (c = 0 ∧ 0 < i) ∨ 4611686018427387903 < acc + c.toNat % 128 * 128 ^ i
        · rw [if_pos hbad] at h; cases h
        · rw [if_neg hbad] at h
          simp only [Option.some.injEq, Prod.mk.injEq] at h
          obtain ⟨rfl, rfl⟩ := h
          have e1 : c.toNat % 128 = c.toNat := by omega
          refine ⟨c.toNat, ?_, by rw [e1], fun hi => ?_, by omega⟩
          · rw [dig_lt (by omega)]
            have : ((c.toNat : Nat) : Int) = c := by omega
            rw [this]; rfl
          · rcases Nat.eq_zero_or_pos c.toNat with h0 | h0
            · exact absurd (Or.inl ⟨by omega, hi⟩) hbad
            · exact h0

theorem rd_only {l : List Int} {m : Nat} {r : List Int} (hb : ∀ x ∈ l, 0 ≤ x ∧ x < 256) (h : rdAux 0 0 l = some (m, r)) : l = dig m ++ r ∧ m ≤ 4611686018427387903 := by
  obtain ⟨d, hl, hm, _, hM⟩ := rdAux_only l 0 0 m r hb h
  have : m = d := by rw [hm]; simp
  rw [this]; exact ⟨hl, by omega⟩

theorem few_calls (v : Value) (l : List Int) (w : World) (hr : Rd w 1 v l.length (ints .u8 l)) :
    Calls Try.prog 12 #[v] w fun e w' => ∃ v', e = .returned v' ∧ (∀ w0, Rd w0 1 v l.length (ints .u8 l) → Rd w0 1 v' (l.take 100).length (ints .u8 (l.take 100))) ∧ w = w' := by
  obtain ⟨a, c, rfl, hab⟩ := hr.shape
  obtain ⟨_, hc1, hc2⟩ := hr.cap
  clear hr
  obtain ⟨l', hl'⟩ : ∃ l', l' = l.take 100 := ⟨_, rfl⟩
  rw [← hl']
  by_cases h : l.length ≤ 100
  · have e : l' = l := by rw [hl']; exact List.take_of_length_le h
    subst e
    clear hl'
    go_enter Try.func12, Try.ntmps12
    go_wp2_with fail
    go_ret
    exact ⟨_, rfl, fun _ h => h, rfl⟩
  · obtain ⟨b, o, rfl⟩ := hab (by omega)
    have HL := hid hl'
    clear hl'
    go_enter Try.func12, Try.ntmps12
    go_wp2_with fail
    go_ret
    exact ⟨_, rfl, fun w0 hr => by rw [HL.out]; exact hr.take 100 (by omega), rfl⟩

set_option maxRecDepth 100000 in
set_option maxHeartbeats 4000000 in
theorem codecOnly_walk (W : World) (v : Value) (l0 : List Int) (hr : Rd W 1 v l0.length (ints .u8 l0)) (hwf : ∀ x ∈ l0, (Lit.int .u8 x).wf = true) :
    Calls Try.prog 7 #[v] W fun e w' => e = .returned (.bool true) ∧ Below W.heap.size W w' := by
  have hby : Hid (∀ x ∈ l0.take 100, 0 ≤ x ∧ x < 256) := fun x hx => wf_u8 (hwf x (List.mem_of_mem_take hx))
  have hl100 : (l0.take 100).length ≤ 100 := by rw [List.length_take]; omega
  have HR := hid hr
  clear hr hwf
  go_enter Try.func7, Try.ntmps7
  go_wp2_with fail
  refine (lives_calls W).mono ?_
  rintro e w1 ⟨rfl, hf1⟩
  have HF1 := hid hf1
  clear hf1
  go_wp2_with fail
  refine (few_calls v l0 w1 (HR.out.frm0 HF1.out)).mono ?_
  rintro e w2 ⟨vb, rfl, hrb, rfl⟩
  generalize l0.take 100 = l at *
  have HB := hid (hrb W HR.out)
  clear hrb
  go_wp2_with fail
  refine (read_calls vb l w1 (by omega) (HB.out.frm0 HF1.out) hby.out).mono ?_
  rintro e w2 ⟨rb, rfl, hrb, hr2, hf2⟩
  have HR2 := hid hr2
  have HF12 := hid hf2
  have HF2 := hid (HF1.out.then0 hf2)
  have hWrb : W.heap.size ≤ rb := Nat.le_trans HF1.out.size hrb
  clear hr2 hf2
  go_wp2_with fail
  go_loopw [4, 5] (fun v4 i5 wr => ∃ (k : Nat) (lo lr : List Int), i5 = .int .i64 k ∧ k ≤ 100 ∧ k ≤ lo.length ∧ lo.length + lr.length = l.length ∧ Hid (lo ++ lr = l) ∧ Hid (Rd wr 1 v4 lo.length (ints .u8 lo)) ∧ Hid (∀ j, v4.ownBlock = some j → rb < j) ∧ Hid (Rdr wr rb lr 0) ∧ Hid (Frm (· = rb) w2 wr)) (fun _ i _ => 100 - (intOf i).toNat)
  case atStart => exact ⟨0, [], l, rfl, by omega, by simp, by simp, hid (by simp), hid (Rd.nil _ _), hid (fun j hj => by cases hj), HR2, hid (Frm.refl _ _)⟩
  case round =>
    obtain ⟨k, lo, lr, rfl, hk, hklo, hlen, HE, HO, HN, HR, HF⟩ := hrel
    have HFin : Hid (Frm M0 W wr) := HF2.out.trans HF.out (fun b hlt e => by omega)
    have HBr : Hid (Rd wr 1 vb l.length (ints .u8 l)) := HB.out.frm0 HFin.out
    by_cases hlr : 0 < lr.length
    · have hk100 : k < 100 := by omega
      go_wp2_with fail
      refine (left_calls rb lr 0 wr HR.out).mono ?_
      rintro e w3 ⟨rfl, rfl⟩
      go_wp2_with fail
      refine (left_calls rb lr 0 wr HR.out).mono ?_
      rintro e w3 ⟨rfl, rfl⟩
      go_wp2_with fail
      refine (rnum0_calls rb lr wr HR.out).mono ?_
      rintro e w3 (⟨m, l', h1, rfl, hr3, hf3⟩ | ⟨h1, rfl, hr3, hf3⟩)
      · have hby2 : ∀ x ∈ lr, 0 ≤ x ∧ x < 256 := fun x hx => hby.out x (by rw [← HE.out]; exact List.mem_append.2 (.inr hx))
        have honly := rd_only hby2 h1
        have hm := honly.2
        have hdl := dig_len_pos m
        have hll : lr.length = (dig m).length + l'.length := by rw [honly.1, List.length_append]
        have HL := hid honly.1
        have HR3 := hid hr3
        have HO3 := hid (HO.out.frm hf3 (fun j hj e => by have := HN.out j hj; omega))
        have HF3 := hid (HF.out.same hf3)
        have hmB : Hid (mayB (m : Int) = true) := mayB_of (by omega) (by omega)
        have hrbs : rb < w3.heap.size := by obtain ⟨v, ha, _⟩ := hr3; exact (Array.getElem?_eq_some_iff.1 ha).1
        clear h1 hr3 hf3 hby2 honly
        go_wp2_with fail
        refine (err_calls rb l' 0 w3 HR3.out).mono ?_
        rintro e w4 ⟨rfl, rfl⟩
        go_wp2_with fail
        refine (number_ok _ lo m w3 (by omega) HO3.out hmB.out).mono ?_
        rintro e w4 ⟨v5, rfl, ho4, hb4⟩
        rw [Int.toNat_natCast] at ho4
        have HO4 := hid (Rd.ofOwns ho4)
        have HN4 : Hid (∀ j, v5.ownBlock = some j → rb < j) := fun j hj => by have := (ho4.lt j hj).1; omega
        have HR4 := hid (HR3.out.frm0 (frm_of hb4))
        have HF4 := hid (HF3.out.then0 (frm_of hb4))
        clear ho4 hb4
        go_wp2_with fail
        refine (size_calls m w4).mono ?_
        rintro e w5 ⟨rfl, hb5⟩
        have hsz : sizeF (m : Int) = ((dig m).length : Int) := by unfold sizeF; rw [if_pos hmB.out, Int.toNat_natCast]
        rw [hsz]
        have HO5 := hid (HO4.out.frm0 (frm_of hb5))
        have HR5 := hid (HR4.out.frm0 (frm_of hb5))
        have HF5 := hid (HF4.out.then0 (frm_of hb5))
        clear hb5 hsz
        go_wp2_with fail
        refine (left_calls rb l' 0 w5 HR5.out).mono ?_
        rintro e w6 ⟨rfl, rfl⟩
        have hne : (((dig m).length : Int) != ((lr.length : Int) - (l'.length : Int))) = false := by rw [bne_eq_false_iff_eq]; omega
        go_wp2_with fail
        refine ⟨⟨k + 1, lo ++ dig m, l', by go_num, by omega, by rw [List.length_append]; omega, by rw [List.length_append]; omega, hid (by rw [List.append_assoc, ← HL.out]; exact HE.out), HO5, HN4, HR5, HF5⟩, by simp [intOf]; omega⟩
      · have HR3 := hid hr3
        have HF3 := hid (HFin.out.trans hf3 (fun b hlt e => by omega))
        clear h1 hr3 hf3
        go_wp2_with fail
        refine (err_calls rb [] 2 w3 HR3.out).mono ?_
        rintro e w4 ⟨rfl, rfl⟩
        go_wp2_with fail
        refine (left_calls rb [] 2 w3 HR3.out).mono ?_
        rintro e w4 ⟨rfl, rfl⟩
        go_wp2_with fail
        refine (rnumE_calls rb [] 2 w3 HR3.out (by decide)).mono ?_
        rintro e w4 ⟨rfl, rfl⟩
        go_wp2_with fail
        refine (rtextE_calls rb [] 2 w3 HR3.out (by decide)).mono ?_
        rintro e w4 ⟨rfl, rfl⟩
        go_wp2_with fail
        refine (rlistE_calls rb [] 2 w3 HR3.out (by decide)).mono ?_
        rintro e w4 ⟨rfl, rfl⟩
        go_wp2_with fail
        refine (end_calls rb [] 2 w3 HR3.out).mono ?_
        rintro e w4 ⟨rfl, rfl⟩
        have he : endF [] 2 = 2 := by decide
        rw [he]
        clear he
        go_wp2_with fail
        go_ret
        exact ⟨rfl, HF3.out.below⟩
    · have hl0 : lr = [] := List.eq_nil_of_length_eq_zero (by omega)
      subst hl0
      have HE2 : Hid (lo = l) := by have := HE.out; rw [List.append_nil] at this; exact this
      have tail : True := trivial
      have cv := fun (x : Value) (y : List Int) (h : Rd wr 1 x y.length (ints .u8 y)) => run_str (P := Try.prog) 25 9 5 Try.underlying25 Try.underlying9 Try.underlying5 h
      have c1 := cv _ _ HO.out
      have c2 := cv _ _ HBr.out
      rw [HE2.out] at c1
      clear cv
      by_cases hk100 : k < 100
      · go_wp2_with fail
        refine (left_calls rb [] 0 wr HR.out).mono ?_
        rintro e w3 ⟨rfl, rfl⟩
        go_wp2_with fail
        refine (end_calls rb [] 0 wr HR.out).mono ?_
        rintro e w3 ⟨rfl, rfl⟩
        have he : endF [] 0 = 0 := by decide
        rw [he]
        clear he
        go_wp2_with fail
        go_ret
        exact ⟨rfl, HFin.out.below⟩
      · go_wp2_with fail
        refine (end_calls rb [] 0 wr HR.out).mono ?_
        rintro e w3 ⟨rfl, rfl⟩
        have he : endF [] 0 = 0 := by decide
        rw [he]
        clear he
        go_wp2_with fail
        go_ret
        exact ⟨rfl, HFin.out.below⟩
end Go.Proofs.Ytmbigbhmfoinoaa
