/- A slice of messages that came in reads as a list of messages. No condition. -/
import Derived.Test.YtbepcohcdgfkaaaNt
import Derived.Test.YtbepcohcdgfkaaaFt
import Derived.Deep.Slices
import Derived.ChangeSame
import Derived.OpenShut
namespace Go.Proofs.Ytbepcohcdgfkaaa
set_option linter.unusedVariables false
set_option linter.unusedSimpArgs false
open Go.RowKit Go.ChangeShapes Go.WideShapes Go.Deep

theorem flatMap_get {α : Type} (n : Nat) (enc : α → List Value) (he : ∀ a, (enc a).length = n) : ∀ (l : List α) (i r : Nat) (a : α), l[i]? = some a → r < n → (l.flatMap enc)[i * n + r]? = (enc a)[r]? := by
  intro l
  induction l with
  | nil => intro i r a h; simp at h
  | cons b l ih =>
    intro i r a h hr
    rw [List.flatMap_cons]
    rcases i with _ | i
    · simp only [List.getElem?_cons_zero, Option.some.injEq] at h
      subst h
      rw [List.getElem?_append_left (by rw [he]; omega)]
      simp
    · rw [List.getElem?_append_right (by rw [he]; rw [Nat.succ_mul]; omega), he, show (i + 1) * n + r - n = i * n + r by rw [Nat.succ_mul]; omega]
      exact ih i r a (by simpa using h) hr
theorem flatMap_len {α : Type} (n : Nat) (enc : α → List Value) (he : ∀ a, (enc a).length = n) (l : List α) : (l.flatMap enc).length = l.length * n := by
  induction l with
  | nil => simp
  | cons b l ih => rw [List.flatMap_cons, List.length_append, ih, he, List.length_cons, Nat.succ_mul]; omega
/-- What is known of each element is known of a list. -/
theorem rd_elems {α : Type} (w : World) (n : Nat) (hn : 0 < n) (enc : α → List Value) (he : ∀ a, (enc a).length = n) (ok : α → Prop) (x : Addr) (len cap : Nat) (hl : len ≤ cap) (hm : cap ≤ maxLen)
    (h : ∀ i, i < len → ∃ a, ok a ∧ ∀ r, r < n → w.cell? (x.add (i * n + r)) = (enc a)[r]?) :
    ∃ l : List α, Rd w n (.slice (some x) len cap) l.length (l.flatMap enc) ∧ ∀ a ∈ l, ok a := by
  have hl' : ∀ k, k ≤ len → ∃ l : List α, l.length = k ∧ (∀ a ∈ l, ok a) ∧ ∀ i a, l[i]? = some a → ∀ r, r < n → w.cell? (x.add (i * n + r)) = (enc a)[r]? := by
    intro k
    induction k with
    | zero => intro _; exact ⟨[], rfl, by simp, by simp⟩
    | succ k ih =>
      intro hk
      obtain ⟨l, h1, h2, h3⟩ := ih (by omega)
      obtain ⟨a, ha, hc⟩ := h k (by omega)
      refine ⟨l ++ [a], by simp [h1], ?_, ?_⟩
      · intro y hy
        rcases List.mem_append.1 hy with hy | hy
        · exact h2 y hy
        · rw [List.mem_singleton.1 hy]; exact ha
      · intro i y hy r hr
        by_cases hi : i < l.length
        · rw [List.getElem?_append_left hi] at hy
          exact h3 i y hy r hr
        · have hlt := (List.getElem?_eq_some_iff.1 hy).1
          simp only [List.length_append, List.length_cons, List.length_nil] at hlt
          obtain rfl : i = k := by omega
          rw [List.getElem?_append_right (by omega), h1, Nat.sub_self, List.getElem?_cons_zero, Option.some.injEq] at hy
          subst hy
          exact hc r hr
  obtain ⟨l, h1, h2, h3⟩ := hl' len (Nat.le_refl _)
  refine ⟨l, ⟨flatMap_len n enc he l, .inr ⟨x, cap, by rw [h1], by omega, hm, fun j u hu => ?_⟩⟩, h2⟩
  have hj := (List.getElem?_eq_some_iff.1 hu).1
  rw [flatMap_len n enc he] at hj
  have hi : j / n < l.length := (Nat.div_lt_iff_lt_mul hn).2 hj
  have e : j / n * n + j % n = j := by rw [Nat.mul_comm]; exact Nat.div_add_mod j n
  have hr := Nat.mod_lt j hn
  obtain ⟨a, ha⟩ : ∃ a, l[j / n]? = some a := ⟨_, List.getElem?_eq_getElem hi⟩
  rw [← e, flatMap_get n enc he l _ _ a ha hr] at hu
  rw [← e, h3 _ a ha _ hr]
  exact hu

def Mg.ok (m : Mg) : Prop := (Lit.int .i64 m.k).wf = true ∧ (Lit.int .i64 m.e).wf = true ∧ (Lit.int .i64 m.s).wf = true ∧ (Lit.int .i64 m.u).wf = true ∧ (Lit.int .i64 m.v).wf = true ∧ (Lit.int .i64 m.t).wf = true

section
variable {H : Type} {enc : TypeId × Value → H} {w : World} {base : Nat} {spare : Nat → Bool} {held : Bool}
theorem msg_trod {fuel : Nat} {cs : List Value} {x : DataW H × List MemPlace} (h : DataW.trod enc Try.prog w base spare held fuel 29 cs = some x) : ∃ m : Mg, cs = m.cells ∧ m.ok := by
  obtain ⟨xs, n, _, _, hc, hl, hf⟩ := DataW.trod_struct Try.underlying29 h
  have hc6 : cs.length = 6 := hc.trans (by kernel_rfl)
  have h1 : Try.prog.cellsOf 3 = 1 := by kernel_rfl
  match cs, hc6 with
  | [c0, c1, c2, c3, c4, c5], _ =>
    have fld : ∀ (i : Nat) (f : Field) (c : Value), f.type = 3 → DataW.trod enc Try.prog w base spare held n f.type (([c0, c1, c2, c3, c4, c5].drop f.offset).take (Try.prog.cellsOf f.type)) = xs[i]? → i < 6 → ([c0, c1, c2, c3, c4, c5].drop f.offset).take 1 = [c] → ∃ y, c = .int .i64 y ∧ (Lit.int .i64 y).wf = true := by
      intro i f c ht hh hi hcc
      rw [ht, h1, hcc] at hh
      have hx : xs[i]? = some (xs[i]'(by have : xs.length = 6 := hl; omega)) := List.getElem?_eq_getElem _
      rw [hx] at hh
      obtain ⟨y, hy, _, hw⟩ := DataW.trod_int Try.underlying3 hh
      exact ⟨y, by simpa using hy, hw⟩
    obtain ⟨y0, rfl, w0⟩ := fld 0 _ c0 rfl (hf 0 _ rfl) (by omega) rfl
    obtain ⟨y1, rfl, w1⟩ := fld 1 _ c1 rfl (hf 1 _ rfl) (by omega) rfl
    obtain ⟨y2, rfl, w2⟩ := fld 2 _ c2 rfl (hf 2 _ rfl) (by omega) rfl
    obtain ⟨y3, rfl, w3⟩ := fld 3 _ c3 rfl (hf 3 _ rfl) (by omega) rfl
    obtain ⟨y4, rfl, w4⟩ := fld 4 _ c4 rfl (hf 4 _ rfl) (by omega) rfl
    obtain ⟨y5, rfl, w5⟩ := fld 5 _ c5 rfl (hf 5 _ rfl) (by omega) rfl
    exact ⟨⟨y0, y1, y2, y3, y4, y5⟩, rfl, w0, w1, w2, w3, w4, w5⟩
theorem open_msgs {fuel : Nat} {cs : List Value} {x : DataW H × List MemPlace} (h : DataW.trod enc Try.prog w base spare held fuel 22 cs = some x) :
    ∃ v, cs = [v] ∧ ∃ l : List Mg, Rd w 6 v l.length (msgs l) ∧ ∀ m ∈ l, m.ok := by
  rcases Go.Deep.open_slice Try.underlying22 h with ⟨rfl, _⟩ | ⟨a, len, cap, m, n, D, Pl, rfl, hb, hl, hm, hmm, hx, hi⟩
  · exact ⟨_, rfl, [], Rd.nil _ _, by simp⟩
  · refine ⟨_, rfl, rd_elems w 6 (by decide) Mg.cells (fun _ => rfl) Mg.ok a len cap hl hm fun i hil => ?_⟩
    have him : i < m := by rw [hmm]; split <;> omega
    obtain ⟨cs', hc, ht⟩ := hi i him
    have h6 : Try.prog.cellsOf 29 = 6 := by kernel_rfl
    rw [h6] at hc
    obtain ⟨mg, rfl, hok⟩ := msg_trod ht
    obtain ⟨_, _, hat⟩ := World.cells?_some hc
    refine ⟨mg, hok, fun r hr => ?_⟩
    rw [← Go.Deep.add_add]; exact hat r hr
end
end Go.Proofs.Ytbepcohcdgfkaaa
