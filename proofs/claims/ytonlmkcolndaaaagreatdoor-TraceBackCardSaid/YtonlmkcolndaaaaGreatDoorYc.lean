/- The error of a word, on both sides; slices.Index over texts. -/
import Derived.Test.YtonlmkcolndaaaaGreatDoorYb
import Derived.Test.YtonlmkcolndaaaaGreatDoorSi
import Derived.Test.YtonlmkcolndaaaaGreatDoorVn
namespace Go.Proofs.YtonlmkcolndaaaaGreatDoor
set_option linter.unusedVariables false
set_option linter.unusedSimpArgs false
set_option maxRecDepth 20000
open Go.RowKit

theorem sindex_calls (v : Value) (l : List ByteArray) (x : ByteArray) (w : World) (h : Rd w 1 v l.length (strs l)) (hl : l.length ≤ 1000000) :
    Calls Tryz.prog 38 #[v, .string x] w fun e w' => e = .returned (.int .i64 (Lib.idxOfS l x)) ∧ w = w' := by
  obtain ⟨a, c, rfl, hsh⟩ := h.shape
  by_cases h0 : 0 < l.length
  · obtain ⟨b, o, rfl⟩ := hsh h0
    have := Tryz.slices_Index_string b o l.length c l x w (Nat.le_refl _) (by omega) (fun j hj => by
      rw [List.getD_eq_getElem?_getD, List.getElem?_eq_getElem hj]; exact h.strAt j hj)
    rw [List.take_length] at this
    exact this.mono fun e w' h => ⟨h.1, h.2.symm⟩
  · have e : l = [] := List.eq_nil_of_length_eq_zero (by omega)
    subst e
    exact (Tryz.slices_Index_string_empty a c x w).mono fun e w' h => ⟨h.1, h.2.symm⟩
theorem idx_miss {l : List ByteArray} {x : ByteArray} (h : ∀ j, j < l.length → l.getD j ByteArray.empty ≠ x) : Lib.idxOfS l x = -1 := by
  have := Lib.idxOfS_miss l l.length x h
  rwa [List.take_length] at this
theorem idx_hit {l : List ByteArray} {x : ByteArray} {k : Nat} (hk : k < l.length) (h : l.getD k ByteArray.empty = x) (hne : ∀ j, j < k → l.getD j ByteArray.empty ≠ x) : Lib.idxOfS l x = k := by
  have := Lib.idxOfS_hit l l.length k x hk (Nat.le_refl _) h hne
  rwa [List.take_length] at this
theorem idx_cases (l : List ByteArray) (x : ByteArray) : Lib.idxOfS l x = -1 ∨ ∃ k : Nat, k < l.length ∧ Lib.idxOfS l x = k ∧ l.getD k ByteArray.empty = x := by
  by_cases h : ∃ k, k < l.length ∧ l.getD k ByteArray.empty = x
  · right
    have hP : ∃ k, k < l.length ∧ l.getD k ByteArray.empty = x := h
    have key : ∀ n, (∃ k, k ≤ n ∧ k < l.length ∧ l.getD k ByteArray.empty = x) → ∃ k, k < l.length ∧ l.getD k ByteArray.empty = x ∧ ∀ j, j < k → l.getD j ByteArray.empty ≠ x := by
      intro n
      induction n with
      | zero => rintro ⟨k, h1, h2, h3⟩; exact ⟨k, h2, h3, fun j hj => by omega⟩
      | succ n ih =>
        rintro ⟨k, h1, h2, h3⟩
        by_cases hq : ∃ j, j ≤ n ∧ j < l.length ∧ l.getD j ByteArray.empty = x
        · exact ih hq
        · exact ⟨k, h2, h3, fun j hj hjx => hq ⟨j, by omega, by omega, hjx⟩⟩
    obtain ⟨k0, hk0, hx0⟩ := hP
    obtain ⟨k, h1, h2, h3⟩ := key k0 ⟨k0, Nat.le_refl _, hk0, hx0⟩
    exact ⟨k, h1, idx_hit h1 h2 h3, h2⟩
  · left; exact idx_miss fun j hj hx => h ⟨j, hj, hx⟩
theorem idx_bd (l : List ByteArray) (x : ByteArray) : -1 ≤ Lib.idxOfS l x ∧ Lib.idxOfS l x < l.length := by
  rcases idx_cases l x with h | ⟨k, h1, h2, _⟩ <;> omega

/-- The error of a word. -/
def errnoF (s : ByteArray) : Int × Bool := (max (Lib.idxOfS errL s) 0, decide (0 ≤ Lib.idxOfS errL s))
attribute [-go_sem] run_max_int2 run_min_int2 in
attribute [local go_sem] run_mn2 run_mx2 in
theorem errno_calls (s : ByteArray) (w : World) : Calls Tryz.prog 22 #[.string s] w fun x w' => x = .returned (.tuple #[.int .i64 (errnoF s).1, .bool (errnoF s).2]) ∧ Frm M0 w w' := by
  have HE : Hid (errnoF s = (max (Lib.idxOfS errL s) 0, decide (0 ≤ Lib.idxOfS errL s))) := rfl
  go_enter Tryz.func22, Tryz.ntmps22
  go_wp2_with fail
  refine (etab_calls _).mono ?_
  rintro _ w1 ⟨b, rfl, hr, hf⟩
  have HF := hid hf
  clear hf
  go_wp2_with fail
  refine (sindex_calls _ errL s _ hr (by decide)).mono ?_
  rintro _ w2 ⟨rfl, rfl⟩
  clear hr
  obtain ⟨i, hi⟩ : ∃ i, i = Lib.idxOfS errL s := ⟨_, rfl⟩
  rw [← hi] at HE ⊢
  clear hi
  go_wp2_with fail
  go_ret2
  exact ⟨by rw [HE.out]; rfl, HF.out⟩
theorem err_len : ∀ k : Fin 14, wordE k.val = errL.getD k.val ByteArray.empty := by decide +kernel
set_option maxRecDepth 20000 in
set_option maxHeartbeats 2000000 in
theorem rerrno_calls (s : ByteArray) (w : World) : Calls Tryz.prog 23 #[.string s] w fun x w' => x = .returned (.tuple #[.int .i64 (errnoF s).1, .bool (errnoF s).2]) ∧ Frm M0 w w' := by
  obtain ⟨E, HE⟩ : ∃ E, Hid (errnoF s = E) := ⟨_, rfl⟩
  rw [HE.out]
  have HEE : Hid (E = (max (Lib.idxOfS errL s) 0, decide (0 ≤ Lib.idxOfS errL s))) := hid (by rw [← HE.out]; rfl)
  go_enter Tryz.func23, Tryz.ntmps23
  go_wp2_with fail
  go_loopw [4] (fun i4 wr => ∃ k : Nat, k ≤ 14 ∧ i4 = .int .i64 k ∧ Hid (∀ j, j < k → errL.getD j ByteArray.empty ≠ s) ∧ Hid (Frm M0 w wr)) (fun i _ => 14 - (intOf i).toNat)
  case atStart => exact ⟨0, by omega, rfl, hid (fun j hj => by omega), hid (Frm.refl _ _)⟩
  case round =>
    obtain ⟨k, hk, rfl, HN, HF⟩ := hrel
    by_cases hlt : k < 14
    · have HW := hid (err_len ⟨k, hlt⟩)
      simp only [] at HW
      go_wp2_with fail
      refine (rword_calls k _).mono ?_
      rintro _ w2 ⟨rfl, hf⟩
      have HF2 := hid (HF.out.then0 hf)
      clear hf
      obtain ⟨x, HX⟩ : ∃ x, Hid (wordE k = x) := ⟨_, rfl⟩
      rw [HX.out]
      by_cases hx : x = s
      · have hb : (x.toList == s.toList) = true := by rw [hx]; simp
        have HR : Hid (E = ((k : Int), true)) := hid (by
          have hi := idx_hit (l := errL) (x := s) (k := k) hlt (by rw [← HW.out, HX.out, hx]) HN.out
          rw [HEE.out, hi, decide_eq_true (show (0 : Int) ≤ (k : Int) by omega), show max (k : Int) 0 = k by omega])
        clear hx
        go_wp2_with fail
        go_ret2
        exact ⟨by rw [HR.out]; rfl, HF2.out⟩
      · have hb : (x.toList == s.toList) = false := by
          rw [beq_eq_false_iff_ne]; intro h; exact hx ((Go.Lib.bytes_beq_iff x s).1 (by simp [h]))
        have HNN : Hid (∀ j, j < k + 1 → errL.getD j ByteArray.empty ≠ s) := hid (fun j hj => by
          by_cases hjk : j < k
          · exact HN.out j hjk
          · obtain rfl : j = k := by omega
            rw [← HW.out, HX.out]; exact hx)
        clear hx
        go_wp2_with fail
        exact ⟨⟨k + 1, by omega, by go_num, HNN, HF2⟩, by simp [intOf]; omega⟩
    · obtain rfl : k = 14 := by omega
      have HR : Hid (E = (0, false)) := hid (by
        have hi := idx_miss (l := errL) (x := s) HN.out
        rw [HEE.out, hi]; rfl)
      go_wp2_with fail
      go_ret2
      exact ⟨by rw [HR.out]; rfl, HF.out⟩
end Go.Proofs.YtonlmkcolndaaaaGreatDoor
