/- CodecNil: the walks of codec's reader at nil, and of the law. No condition. -/
import Derived.Test.YtmbigbhmfoinoaaCl
import Derived.Test.YtmbigbhmfoinoaaFt
namespace Go.Proofs.Ytmbigbhmfoinoaa
set_option linter.unusedVariables false
set_option linter.unusedSimpArgs false
open Go.RowKit Cp

abbrev np : Value := .pointer none
theorem nerr_calls (w : World) : Calls Try.prog 15 #[np] w fun r w' => r = .returned (.int .i64 1) ∧ w = w' := by
  go_enter Try.func15, Try.ntmps15
  go_wp2
  go_ret
  exact ⟨rfl, rfl⟩
theorem nleft_calls (w : World) : Calls Try.prog 16 #[np] w fun r w' => r = .returned (.int .i64 0) ∧ w = w' := by
  go_enter Try.func16, Try.ntmps16
  go_wp2
  go_ret
  exact ⟨rfl, rfl⟩
theorem nend_calls (w : World) : Calls Try.prog 17 #[np] w fun r w' => r = .returned (.int .i64 1) ∧ w = w' := by
  go_enter Try.func17, Try.ntmps17
  go_wp2_with fail
  refine (nerr_calls w).mono ?_
  rintro r w' ⟨rfl, rfl⟩
  go_wp2_with fail
  refine (nerr_calls w).mono ?_
  rintro r w' ⟨rfl, rfl⟩
  go_wp2_with fail
  go_ret
  exact ⟨rfl, rfl⟩
theorem nnum_calls (w : World) : Calls Try.prog 25 #[np] w fun r w' => r = .returned (.int .i64 0) ∧ w = w' := by
  go_enter Try.func25, Try.ntmps25
  go_wp2_with fail
  go_step3
  go_wp2_with fail
  refine (nerr_calls w).mono ?_
  rintro r w' ⟨rfl, rfl⟩
  go_wp2_with fail
  rw [Exit.noGoto_ret]
  go_ret
  exact ⟨rfl, rfl⟩
theorem ntext_calls (w : World) : Calls Try.prog 26 #[np] w fun r w' => r = .returned (.string ⟨#[]⟩) ∧ w = w' := by
  go_enter Try.func26, Try.ntmps26
  go_wp2_with fail
  refine (nnum_calls w).mono ?_
  rintro r w' ⟨rfl, rfl⟩
  go_wp2_with fail
  refine (nleft_calls w).mono ?_
  rintro r w' ⟨rfl, rfl⟩
  go_wp2_with fail
  go_ret
  exact ⟨rfl, rfl⟩
theorem nlist_calls (w : World) : Calls Try.prog 27 #[np] w fun r w' => r = .returned (.slice none 0 0) ∧ w = w' := by
  go_enter Try.func27, Try.ntmps27
  go_wp2_with fail
  refine (nnum_calls w).mono ?_
  rintro r w' ⟨rfl, rfl⟩
  go_wp2_with fail
  refine wp_loop_rounds 1 ?_
  rw [rounds_succ]
  go_wp2_with fail
  refine (nerr_calls w).mono ?_
  rintro r w' ⟨rfl, rfl⟩
  go_wp2_with fail
  go_ret
  exact ⟨rfl, rfl⟩

set_option maxRecDepth 100000 in
set_option maxHeartbeats 2000000 in
theorem nil_core (n X : Int) (w : World) (HX : Hid (sizeF n = X)) (h : (decide (0 < X) == (decide (0 ≤ n) && decide (n ≤ 4611686018427387903))) = true) :
    Calls Try.prog 8 #[.int .i64 n] w fun e w' => e = .returned (.bool true) ∧ Below w.heap.size w w' := by
  have H := hid h
  clear h
  go_enter Try.func8, Try.ntmps8
  go_wp2_with fail
  refine (lives_calls w).mono ?_
  rintro e w1 ⟨rfl, hf1⟩
  have HF1 := hid hf1.below
  clear hf1
  go_wp2_with fail
  refine (nnum_calls w1).mono ?_
  rintro r w' ⟨rfl, rfl⟩
  go_wp2_with fail
  refine (ntext_calls w1).mono ?_
  rintro r w' ⟨rfl, rfl⟩
  go_wp2_with fail
  refine (nlist_calls w1).mono ?_
  rintro r w' ⟨rfl, rfl⟩
  go_wp2_with fail
  refine (nerr_calls w1).mono ?_
  rintro r w' ⟨rfl, rfl⟩
  go_wp2_with fail
  refine (nleft_calls w1).mono ?_
  rintro r w' ⟨rfl, rfl⟩
  go_wp2_with fail
  refine (nend_calls w1).mono ?_
  rintro r w' ⟨rfl, rfl⟩
  go_wp2_with fail
  refine (size_calls n w1).mono ?_
  rintro r w2 ⟨rfl, hb2⟩
  rw [HX.out]
  have HF2 := hid (HF1.out.trans (hb2.mono HF1.out.size))
  clear hb2
  by_cases h0 : 0 ≤ n
  · have d0 := decide_eq_true h0
    go_wp2_with fail
    go_ret
    refine ⟨?_, HF2.out⟩
    have h := H.out
    rw [d0] at h
    exact congrArg (fun b => Ending.returned (.bool b)) (by simpa using h)
  · have d0 := decide_eq_false h0
    go_wp2_with fail
    go_ret
    refine ⟨?_, HF2.out⟩
    have h := H.out
    rw [d0] at h
    exact congrArg (fun b => Ending.returned (.bool b)) (by simpa using h)

theorem codecNil_walk (n : Int) (_wn : (Lit.int .i64 n).wf = true) (w : World) :
    Calls Try.prog 8 #[.int .i64 n] w fun e w' => e = .returned (.bool true) ∧ Below w.heap.size w w' := by
  refine nil_core n _ w (hid rfl) ?_
  cases hm : mayB n with
  | true =>
    have h := mayB_true hm
    have := dig_len_pos n.toNat
    unfold sizeF
    rw [if_pos hm, decide_eq_true h.1, decide_eq_true h.2, decide_eq_true (by omega)]; rfl
  | false =>
    unfold sizeF
    rw [if_neg (by rw [hm]; decide)]
    rcases mayB_false hm with h | h
    · rw [decide_eq_false (p := 0 ≤ n) (by omega)]; rfl
    · rw [decide_eq_false (p := n ≤ 4611686018427387903) (by omega), Bool.and_false]; rfl
end Go.Proofs.Ytmbigbhmfoinoaa
