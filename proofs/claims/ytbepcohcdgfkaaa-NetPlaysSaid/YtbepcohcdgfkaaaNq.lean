/- Rows of messages that come in: cut, read. A net that is sent good messages. No condition. -/
import Derived.Test.YtbepcohcdgfkaaaNl
namespace Go.Proofs.Ytbepcohcdgfkaaa
set_option linter.unusedVariables false
set_option linter.unusedSimpArgs false
open Go.RowKit Go.Conc

theorem Rd.take6 {w : World} {x : Addr} {n c : Nat} {l : List Mg} (h : Rd w 6 (.slice (some x) n c) l.length (msgs l)) (i : Nat) (hi : i ≤ l.length) :
    Rd w 6 (.slice (some x) i c) (l.take i).length (msgs (l.take i)) := by
  rcases h.2 with ⟨h2, h0⟩ | ⟨x', cap, h2, h3, h4, h6⟩
  · cases h2
  · simp only [Value.slice.injEq, Option.some.injEq] at h2
    obtain ⟨rfl, rfl, rfl⟩ := h2
    have e : (l.take i).length = i := by rw [List.length_take]; omega
    refine ⟨by rw [msgs_len], .inr ⟨x, c, by rw [e], by omega, by omega, fun j u hu => h6 j u ?_⟩⟩
    rw [← msgs_take, List.getElem?_take] at hu
    split at hu
    · exact hu
    · cases hu
/-- The cells of a message of a row. -/
theorem Rd.msgAt {w : World} {b o n c : Nat} {l : List Mg} (h : Rd w 6 (.slice (some ⟨b, o, none⟩) n c) l.length (msgs l)) (k : Nat) (hk : k < l.length) :
    ∃ m, Hid (l[k]? = some m) ∧ w.cell? ⟨b, o + k * 6, none⟩ = some (.int .i64 m.k) ∧ w.cell? ⟨b, o + k * 6 + 1, none⟩ = some (.int .i64 m.e) ∧ w.cell? ⟨b, o + k * 6 + 2, none⟩ = some (.int .i64 m.s) ∧
      w.cell? ⟨b, o + k * 6 + 3, none⟩ = some (.int .i64 m.u) ∧ w.cell? ⟨b, o + k * 6 + 4, none⟩ = some (.int .i64 m.v) ∧ w.cell? ⟨b, o + k * 6 + 5, none⟩ = some (.int .i64 m.t) := by
  rcases h.2 with ⟨h2, _⟩ | ⟨x, cap', h2, _, _, hc⟩
  · cases h2
  · simp only [Value.slice.injEq, Option.some.injEq] at h2
    obtain ⟨rfl, rfl, rfl⟩ := h2
    obtain ⟨m, hm⟩ : ∃ m, l[k]? = some m := ⟨_, List.getElem?_eq_getElem hk⟩
    have hh : ∀ j u, j < 6 → m.cells[j]? = some u → w.cell? ⟨b, o + k * 6 + j, none⟩ = some u := by
      intro j u hj hu
      rw [Nat.add_assoc, ← add_none]
      refine hc _ _ ?_
      rw [Nat.mul_comm k 6, msgs_get l k m hm j hj]; exact hu
    exact ⟨m, hid hm, hh 0 _ (by omega) rfl, hh 1 _ (by omega) rfl, hh 2 _ (by omega) rfl, hh 3 _ (by omega) rfl, hh 4 _ (by omega) rfl, hh 5 _ (by omega) rfl⟩

theorem good_right (m : Mg) : rightB m.good = true := by
  unfold rightB Mg.good
  rw [mn5_nonneg]
  simp only [Bool.and_eq_true, Bool.or_eq_true, decide_eq_true_eq]
  refine ⟨by omega, ⟨⟨⟨⟨by omega, by omega⟩, by omega⟩, by omega⟩, by omega⟩⟩
theorem good_send (N : Net) (m : Mg) (h : N.l.length < N.room) : N.send m.good = ({ N with l := N.l ++ [m.good], sent := wrap64 (N.sent + 1) }, 0) := by
  unfold Net.send; rw [if_neg (by rw [good_right]; decide), if_pos h]
theorem good_full (N : Net) (m : Mg) (h : ¬ N.l.length < N.room) : N.send m.good = ({ N with lost := wrap64 (N.lost + 1) }, 4) := by
  unfold Net.send; rw [if_neg (by rw [good_right]; decide), if_neg h]
theorem roomOf_64 : roomOf 64 = 64 := by decide

/-- The net behind the sending of good messages. -/
def sentN (l : List Mg) : Net := ⟨64, l.map Mg.good, l.length, 0⟩
theorem sentN_send (l : List Mg) (m : Mg) (h : l.length < 64) : (sentN l).send m.good = (sentN (l ++ [m]), 0) := by
  rw [good_send _ _ (by simpa [sentN] using h)]
  simp only [sentN, List.map_append, List.map_cons, List.map_nil, List.length_append, List.length_cons, List.length_nil]
  congr 2
  unfold wrap64
  omega
end Go.Proofs.Ytbepcohcdgfkaaa
