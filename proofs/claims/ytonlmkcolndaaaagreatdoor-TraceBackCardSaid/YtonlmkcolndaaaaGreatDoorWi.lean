/- strconv.Itoa and strings.Join as the walks here take them. -/
import Derived.Test.YtonlmkcolndaaaaGreatDoorFe
import Derived.Test.YtonlmkcolndaaaaGreatDoorSh
import Derived.Lib.ItoaLen
namespace Go.Proofs.YtonlmkcolndaaaaGreatDoor
set_option linter.unusedVariables false
set_option linter.unusedSimpArgs false
set_option maxRecDepth 20000
open Go.RowKit

/-- The library's table of powers of ten reads as it was laid. -/
abbrev Tab (w : World) : Prop := Lib.TabIs Tryz.prog w "internal/strconv.uint64pow10" .u64 Lib.pow10Tab
theorem Tab.frm {w w' : World} (h : Tab w) (hf : Frm M0 w w') : Tab w' := by
  have h0 : w.var? Tryz.prog "internal/strconv.uint64pow10" = _ := h
  show w'.var? Tryz.prog "internal/strconv.uint64pow10" = _
  rw [← h0]
  unfold World.var? at h0 ⊢
  obtain ⟨g, hg⟩ : ∃ g, Tryz.prog.globalNamed "internal/strconv.uint64pow10" = g := ⟨_, rfl⟩
  rw [hg] at h0 ⊢
  cases g with
  | none => rfl
  | some g =>
    simp only [Option.bind_some] at h0 ⊢
    have hb : g < w.heap.size := by
      apply Classical.byContradiction; intro hn
      rw [Array.getElem?_eq_none (by omega)] at h0
      cases h0
    rw [hf.block g hb (fun h => h)]

/-- A text as the list of its bytes. -/
abbrev str (l : List UInt8) : ByteArray := ⟨l.toArray⟩
theorem str_list (l : List UInt8) : (str l).data.toList = l := rfl
theorem str_of (s : ByteArray) : str s.data.toList = s := by cases s; rfl

theorem itoa_calls (n : Int) (w : World) (h0 : -9223372036854775808 ≤ n) (h1 : n ≤ 9223372036854775807) (ht : Tab w) :
    Calls Tryz.prog 32 #[.int .i64 n] w fun e w' => e = .returned (.string (str (Lib.itoa n))) ∧ Frm M0 w w' := by
  refine (Tryz.strconv_Itoa n h0 h1 w ht).mono ?_
  rintro e w' ⟨rfl, k, os, rfl⟩
  refine ⟨rfl, rfl, rfl, rfl, ?_, ?_⟩
  · simp [Sort.grow, World.drewN]
  · intro i hi _
    show (w.heap ++ os)[i]? = w.heap[i]?
    exact Array.getElem?_append_left hi

/-- Texts as cells. -/
abbrev strCell (s : ByteArray) : List Value := [.string s]
abbrev strs (l : List ByteArray) : List Value := l.flatMap strCell
theorem strs_len (a : ByteArray) : (strCell a).length = 1 := rfl
theorem strs_one (a : ByteArray) : ∀ u ∈ strCell a, u.oneCell' = true := by intro u hu; simp at hu; subst hu; rfl
theorem strs_get (l : List ByteArray) (j : Nat) (x : ByteArray) (h : l[j]? = some x) : (strs l)[j]? = some (.string x) := by
  have := els_get (enc := strCell) (sz := 1) strs_len l j 0 x h (by omega)
  simpa using this

theorem join_calls (v : Value) (xs : List ByteArray) (sep : ByteArray) (w : World) (h : Rd w 1 v xs.length (strs xs)) (hne : 0 < xs.length) (hN : xs.length ≤ 140737488355328)
    (hlen : (Lib.join (xs.map (·.data.toList)) sep.data.toList).length ≤ 140737488355328) :
    Calls Tryz.prog 33 #[v, .string sep] w fun e w' => e = .returned (.string (str (Lib.join (xs.map (·.data.toList)) sep.data.toList))) ∧ Frm M0 w w' := by
  obtain ⟨a, c, rfl, hsh⟩ := h.shape
  obtain ⟨b, o, rfl⟩ := hsh hne
  rcases h.2 with ⟨h2, _⟩ | ⟨x, cap, h2, h3, h4, h6⟩
  · cases h2
  simp only [Value.slice.injEq, Option.some.injEq] at h2
  obtain ⟨rfl, _, rfl⟩ := h2
  have hc : ∀ (j : Nat) x, xs[j]? = some x → w.cell? ⟨b, o + j, none⟩ = some (.string x) := by
    intro j x hx
    have := h6 j _ (strs_get xs j x hx)
    rwa [add_none] at this
  obtain ⟨x0, hx0⟩ : ∃ x, xs[0]? = some x := ⟨xs[0], List.getElem?_eq_getElem hne⟩
  have hb : b < w.heap.size := World.block_lt_of_cell? _ _ (hc 0 x0 hx0)
  refine (Tryz.strings_Join b o c xs sep w hc hb hN h3 hlen).mono ?_
  rintro e w' ⟨rfl, hbw⟩
  exact ⟨rfl, hbw.os, hbw.tape, hbw.output, hbw.size, fun k hk _ => hbw.block k hk⟩
end Go.Proofs.YtonlmkcolndaaaaGreatDoor
