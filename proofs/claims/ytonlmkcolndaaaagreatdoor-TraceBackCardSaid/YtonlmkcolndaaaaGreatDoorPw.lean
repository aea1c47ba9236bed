/- A text's pieces between single blanks: what Split hands back, what the reference gathers byte by byte. Plain Lean, no condition. -/
import Derived.Test.YtonlmkcolndaaaaGreatDoorVi
namespace Go.Proofs.YtonlmkcolndaaaaGreatDoor
set_option linter.unusedVariables false
set_option linter.unusedSimpArgs false
set_option maxRecDepth 20000
open Go.RowKit

def splitL : List UInt8 → List (List UInt8)
  | [] => [[]]
  | c :: l => if c = 32 then [] :: splitL l else match splitL l with | x :: r => (c :: x) :: r | [] => [[c]]
theorem splitL_ne (l : List UInt8) : ∃ x r, splitL l = x :: r := by
  cases l with
  | nil => exact ⟨_, _, rfl⟩
  | cons c l =>
    unfold splitL
    split
    · exact ⟨_, _, rfl⟩
    · split <;> exact ⟨_, _, rfl⟩
theorem splitL_cons_ne {c : UInt8} {l x : List UInt8} {r : List (List UInt8)} (h : c ≠ 32) (e : splitL l = x :: r) : splitL (c :: l) = (c :: x) :: r := by
  rw [splitL, if_neg h, e]
theorem splitL_blank (l : List UInt8) : splitL (32 :: l) = [] :: splitL l := by rw [splitL, if_pos rfl]
/-- One byte more. -/
def snocW (W : List (List UInt8)) (c : UInt8) : List (List UInt8) := if c = 32 then W ++ [[]] else W.dropLast ++ [W.getLastD [] ++ [c]]
theorem snocW_cons (x : List UInt8) (W : List (List UInt8)) (c : UInt8) (h : W ≠ []) : snocW (x :: W) c = x :: snocW W c := by
  obtain ⟨y, r, rfl⟩ := List.exists_cons_of_ne_nil h
  unfold snocW
  split
  · rfl
  · rw [List.dropLast_cons_cons, List.cons_append]
    simp [List.getLastD]
theorem splitL_snoc : ∀ (l : List UInt8) (c : UInt8), splitL (l ++ [c]) = snocW (splitL l) c
  | [], c => by
    show splitL (c :: []) = snocW [[]] c
    by_cases h : c = 32
    · subst h; rw [splitL_blank]; rfl
    · rw [splitL_cons_ne h (show splitL [] = [] :: [] from rfl)]; unfold snocW; rw [if_neg h]; rfl
  | a :: l, c => by
    have ih := splitL_snoc l c
    obtain ⟨x, r, e⟩ := splitL_ne l
    rw [List.cons_append]
    by_cases h : a = 32
    · subst h
      rw [splitL_blank, splitL_blank, ih, snocW_cons _ _ _ (by rw [e]; simp)]
    · have e1 := splitL_cons_ne h e
      rw [e1]
      rw [e] at ih
      cases r with
      | nil =>
        by_cases hc : c = 32
        · unfold snocW at ih ⊢
          rw [if_pos hc] at ih ⊢
          rw [splitL_cons_ne h ih]; rfl
        · unfold snocW at ih ⊢
          rw [if_neg hc] at ih ⊢
          have ih' : splitL (l ++ [c]) = (x ++ [c]) :: [] := ih
          rw [splitL_cons_ne h ih']; rfl
      | cons y r =>
        rw [snocW_cons _ _ _ (by simp)] at ih ⊢
        rw [splitL_cons_ne h ih]
theorem index_cons (b : UInt8) (l : List UInt8) : Lib.index (b :: l) [32] = if b = 32 then 0 else if Lib.index l [32] = -1 then -1 else Lib.index l [32] + 1 := by
  rw [Lib.index]
  by_cases h : b = 32
  · subst h; simp [List.isPrefixOf]
  · have h2 : ¬ 32 = b := fun e => h e.symm
    simp [List.isPrefixOf, h, h2]
theorem splitL_miss : ∀ (l : List UInt8), Lib.index l [32] = -1 → splitL l = [l]
  | [], _ => rfl
  | b :: l, h => by
    rw [index_cons] at h
    by_cases hb : b = 32
    · rw [if_pos hb] at h; omega
    · rw [if_neg hb] at h
      by_cases hl : Lib.index l [32] = -1
      · exact splitL_cons_ne hb (splitL_miss l hl)
      · rw [if_neg hl] at h
        have := Lib.index_ge l [32]
        omega
theorem splitL_hit : ∀ (l : List UInt8) (i : Nat), Lib.index l [32] = i → splitL l = l.take i :: splitL (l.drop (i + 1))
  | [], i, h => by
    have : Lib.index [] [32] = -1 := rfl
    omega
  | b :: l, i, h => by
    rw [index_cons] at h
    by_cases hb : b = 32
    · rw [if_pos hb] at h
      obtain rfl : i = 0 := by omega
      subst hb
      rw [splitL_blank]; rfl
    · rw [if_neg hb] at h
      by_cases hl : Lib.index l [32] = -1
      · rw [if_pos hl] at h; omega
      · rw [if_neg hl] at h
        have hg := Lib.index_ge l [32]
        obtain ⟨j, rfl⟩ : ∃ j, i = j + 1 := ⟨i - 1, by omega⟩
        have ih := splitL_hit l j (by omega)
        rw [splitL_cons_ne hb ih]; rfl
theorem splitB_list : ∀ (k : Nat) (s : ByteArray), Lib.countB s ⟨#[32]⟩ = k → (Lib.splitB ⟨#[32]⟩ 0 k s).map (·.data.toList) = splitL s.data.toList
  | 0, s, hk => by
    rcases Lib.indexB_cases s ⟨#[32]⟩ with hix | ⟨i, hix, _⟩
    · rw [Lib.splitB_zero, splitL_miss _ hix]; rfl
    · have := Lib.countB_hit s ⟨#[32]⟩ i (by decide) hix; omega
  | k + 1, s, hk => by
    rcases Lib.indexB_cases s ⟨#[32]⟩ with hix | ⟨i, hix, hroom⟩
    · rw [Lib.countB_miss s _ hix] at hk; omega
    · have hc := Lib.countB_hit s ⟨#[32]⟩ i (by decide) hix
      rw [Lib.splitB_hit _ 0 k s i hix, List.map_cons, splitB_list k _ (by omega), splitL_hit _ i hix]
      congr 1
      · rw [← Lib.toList_data, Lib.extract_toList]; simp
      · congr 1
        rw [← Lib.toList_data, Lib.extract_toList]
        show List.take (s.size - (i + 1)) (List.drop (i + 1) s.data.toList) = _
        rw [List.take_of_length_le (by rw [List.length_drop]; simp)]
theorem splitS_list (s : ByteArray) : (splitS s).map (·.data.toList) = splitL s.data.toList := splitB_list _ s rfl
theorem splitL_len : ∀ (l : List UInt8), (splitL l).length ≤ l.length + 1
  | [] => by simp [splitL]
  | c :: l => by
    have ih := splitL_len l
    obtain ⟨x, r, e⟩ := splitL_ne l
    by_cases h : c = 32
    · subst h; rw [splitL_blank]; simp; omega
    · rw [splitL_cons_ne h e]; rw [e] at ih; simp at ih ⊢; omega
theorem splitL_mem : ∀ (l : List UInt8), ∀ x ∈ splitL l, x.length ≤ l.length
  | [], x, h => by simp [splitL] at h; subst h; simp
  | c :: l, x, h => by
    have ih := splitL_mem l
    obtain ⟨y, r, e⟩ := splitL_ne l
    by_cases hc : c = 32
    · subst hc; rw [splitL_blank] at h
      rcases List.mem_cons.1 h with rfl | h
      · simp
      · have := ih x h; simp; omega
    · rw [splitL_cons_ne hc e] at h
      rw [e] at ih
      rcases List.mem_cons.1 h with rfl | h
      · have := ih y (by simp); simp; omega
      · have := ih x (by simp [h]); simp; omega
end Go.Proofs.YtonlmkcolndaaaaGreatDoor
