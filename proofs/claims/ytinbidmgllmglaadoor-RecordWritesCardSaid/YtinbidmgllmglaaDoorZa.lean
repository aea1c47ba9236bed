/- Records: the document's example; what the reference reads is what the program reads. No condition. -/
import Derived.Test.YtinbidmgllmglaaDoorPb
import Derived.Test.YtinbidmgllmglaaDoorFt
namespace Go.Proofs.YtinbidmgllmglaaDoor
set_option linter.unusedVariables false
set_option linter.unusedSimpArgs false
set_option maxRecDepth 20000
open Go.RowKit Cp

theorem lives_bytes : bytesF ⟨1, 1, 0, 5, 10, ⟨#[]⟩, Sp.zero⟩ = ([1, 1, 0, 5, 10, 0], 0) := by
  have hr : rightB ⟨1, 1, 0, 5, 10, ⟨#[]⟩, Sp.zero⟩ = true := by decide
  unfold bytesF
  rw [if_pos hr]
  have e : wireL ⟨1, 1, 0, 5, 10, ⟨#[]⟩, Sp.zero⟩ = wire6 ⟨1, 1, 0, 5, 10, ⟨#[]⟩, Sp.zero⟩ := by unfold wireL; rw [if_neg (by decide)]
  rw [e, wire6_eq hr]
  simp only [Prod.mk.injEq, and_true]
  show dig 1 ++ (dig 1 ++ (dig 0 ++ (dig 5 ++ (dig 10 ++ (dig 0 ++ sb ⟨#[]⟩))))) = _
  rw [dig_lt (by decide), dig_lt (by decide), dig_lt (by decide), dig_lt (by decide)]
  rfl
set_option maxRecDepth 20000 in
set_option maxHeartbeats 2000000 in
theorem rlives_calls (w : World) : Calls Tryd.prog 9 #[] w fun x w' => x = .returned (.bool true) ∧ Frm M0 w w' := by
  have HV : Hid (Rc.val ⟨1, 1, 0, 5, 10, ⟨#[]⟩, Sp.zero⟩ = .agg #[.int .i64 1, .int .i64 1, .int .i64 0, .int .i64 5, .int .i64 10, .string ⟨#[]⟩, .int .i64 0, .int .i64 0, .int .i64 0, .int .i64 0, .int .i64 0, .int .i64 0, .int .i64 0, .int .i64 0, .int .i64 0, .int .i64 0, .int .i64 0, .int .i64 0]) := rfl
  go_enter Tryd.func9, Tryd.ntmps9
  go_wp2_with fail
  rw [← HV.out]
  refine (bytes_calls _ _ (by decide)).mono ?_
  rintro _ w1 ⟨v1, rfl, hr, hf⟩
  rw [lives_bytes] at hr ⊢
  have hs := run_str (P := Tryd.prog) 29 9 5 Tryd.underlying29 Tryd.underlying9 Tryd.underlying5 hr
  have he : strOfNums [1, 1, 0, 5, 10, 0] = ⟨#[1, 1, 0, 5, 10, 0]⟩ := rfl
  rw [he] at hs
  have HF := hid hf
  clear hr hf he
  go_wp2_with fail
  refine (name_calls 7 _).mono ?_
  rintro _ w2 ⟨rfl, hf⟩
  have hn : nameS 7 = ⟨#[115, 116, 101, 112]⟩ := rfl
  rw [hn]
  have HF2 := hid (HF.out.then0 hf)
  clear hn hf hs
  go_wp2_with fail
  go_ret
  exact ⟨rfl, HF2.out⟩
theorem rreadOk_iff {l : List Int} (hb : Bytey l) : rreadOk l (read6 l) ↔ (endF (read6 l).2.1 (read6 l).2.2 = 0 ∧ rightB (read6 l).1 = true) := by
  unfold rreadOk rbytesF
  rw [← right_eq]
  constructor
  · rintro ⟨h1, h2, _⟩
    refine ⟨h1, ?_⟩
    cases h : rightB (read6 l).1 with
    | true => rfl
    | false => rw [h] at h2; simp at h2
  · rintro ⟨h1, h2⟩
    rw [if_pos h2]
    exact ⟨h1, rfl, by rw [wire_read hb h1 h2]⟩
/-- What is read is written again. -/
theorem read_bytes {l : List Int} (hb : Bytey l) : ((readF l).2 = 0 ∧ rightB (readF l).1 = true ∧ bytesF (readF l).1 = (l, 0)) ∨ (readF l = (Rc.zero, 2) ∧ bytesF (readF l).1 = ([], 1)) := by
  by_cases h : endF (read6 l).2.1 (read6 l).2.2 = 0 ∧ rightB (read6 l).1 = true
  · left
    have e : readF l = ((read6 l).1, 0) := by unfold readF; simp only []; rw [if_pos h]
    rw [e]
    refine ⟨rfl, h.2, ?_⟩
    unfold bytesF
    rw [if_pos h.2, wire_read hb h.1 h.2]
  · right
    have e : readF l = (Rc.zero, 2) := by unfold readF; simp only []; rw [if_neg h]
    rw [e]
    refine ⟨rfl, ?_⟩
    have : rightB Rc.zero = false := by decide
    unfold bytesF
    rw [this]; rfl
theorem read_small {l : List Int} (hb : Bytey l) : (readF l).1.t.size ≤ 64 := by
  rcases read_bytes hb with ⟨_, h, _⟩ | ⟨h, _⟩
  · exact (right_facts h).2.2.2.2.2.1
  · rw [h]; decide
theorem RdB.later {W w : World} {v : Value} {l : List Int} (h : RdB W v l) (hf : Frm M0 W w) : RdB w v l := fun wx hx => h wx (hf.then0 hx)
end Go.Proofs.YtinbidmgllmglaaDoor
