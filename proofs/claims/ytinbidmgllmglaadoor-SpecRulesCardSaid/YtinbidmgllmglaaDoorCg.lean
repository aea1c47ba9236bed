/- codec's writers and the reference's, each by one plain function of what came in: numW, textW, listW. -/
import Derived.Test.YtinbidmgllmglaaDoorCe
namespace Go.Proofs.YtinbidmgllmglaaDoor
set_option linter.unusedVariables false
set_option linter.unusedSimpArgs false
set_option maxRecDepth 20000
open Go.RowKit Cp
namespace Cp
def numW (l : List Int) (n : Int) : List Int × Int := if mayB n = true then (l ++ dig n.toNat, 0) else (l, 1)
def textW (l : List Int) (s : ByteArray) : List Int × Int := if s.size ≤ 64 then (l ++ dig s.size ++ sb s, 0) else (l, 12)
def listW (l xs : List Int) : List Int × Int := if 64 < xs.length then (l, 12) else if allB xs = true then (l ++ dig xs.length ++ digs xs, 0) else (l, 1)
theorem numW_len (l : List Int) (n : Int) : (numW l n).1.length ≤ l.length + 9 := by
  unfold numW
  split
  · rename_i h
    have h1 := mayB_true h
    have := dig_len9 (n := n.toNat) (by omega)
    rw [List.length_append]; omega
  · simp
theorem textW_len (l : List Int) (s : ByteArray) : (textW l s).1.length ≤ l.length + 73 := by
  unfold textW
  split
  · have := dig_len9 (n := s.size) (by omega)
    have := sb_len s
    rw [List.length_append, List.length_append]; omega
  · simp
end Cp

/-- What a writer is said to do: it answers bytes in whatever memory, and an error; nothing that was there has turned. -/
def Wrote (w : World) (r : List Int × Int) (e : Ending) (w' : World) : Prop :=
  ∃ v', e = .returned (.tuple #[v', .int .i64 r.2]) ∧ Rd w' 1 v' r.1.length (ints .u8 r.1) ∧ Frm M0 w w'

theorem frm_of {w w' : World} (h : Below w.heap.size w w') : Frm M0 w w' := Frm.ofBelow h (fun k h1 h2 => by omega)

theorem number_w (v : Value) (l : List Int) (n : Int) (w : World) (hl : l.length ≤ 1000000) (hr : Rd w 1 v l.length (ints .u8 l)) :
    Calls Tryd.prog 32 #[v, .int .i64 n] w (Wrote w (numW l n)) := by
  cases hm : mayB n with
  | true => refine (number_ok v l n w hl hr hm).mono ?_
            rintro e w' ⟨v', rfl, ho, hb⟩
            exact ⟨v', by simp [numW, hm], by simpa [numW, hm] using Rd.ofOwns ho, frm_of hb⟩
  | false => refine (number_bad v l n w hl hr hm).mono ?_
             rintro e w' ⟨rfl, rfl⟩
             exact ⟨v, by simp [numW, hm], by simpa [numW, hm] using hr, Frm.refl _ _⟩
theorem rnumber_w (v : Value) (l : List Int) (n : Int) (w : World) (hl : l.length ≤ 1000000) (hr : Rd w 1 v l.length (ints .u8 l)) :
    Calls Tryd.prog 35 #[v, .int .i64 n] w (Wrote w (numW l n)) := by
  cases hm : mayB n with
  | true => refine (rnumber_ok v l n w hl hr hm).mono ?_
            rintro e w' ⟨v', rfl, ho, hb⟩
            exact ⟨v', by simp [numW, hm], by simpa [numW, hm] using Rd.ofOwns ho, frm_of hb⟩
  | false => refine (rnumber_bad v n w hm).mono ?_
             rintro e w' ⟨rfl, rfl⟩
             exact ⟨v, by simp [numW, hm], by simpa [numW, hm] using hr, Frm.refl _ _⟩
theorem text_w (v : Value) (l : List Int) (s : ByteArray) (w : World) (hl : l.length ≤ 900000) (hr : Rd w 1 v l.length (ints .u8 l)) (hs : s.size ≤ 140737488355328) :
    Calls Tryd.prog 33 #[v, .string s] w (Wrote w (textW l s)) := by
  by_cases hm : s.size ≤ 64
  · refine (text_ok v l s w hl hr hm).mono ?_
    rintro e w' ⟨v', rfl, ho, hb⟩
    exact ⟨v', by simp [textW, hm], by simpa [textW, hm] using Rd.ofOwns ho, frm_of hb⟩
  · refine (text_bad v s w (by omega) hs).mono ?_
    rintro e w' ⟨rfl, rfl⟩
    exact ⟨v, by simp [textW, hm], by simpa [textW, hm] using hr, Frm.refl _ _⟩
theorem rtext_w (v : Value) (l : List Int) (s : ByteArray) (w : World) (hl : l.length ≤ 900000) (hr : Rd w 1 v l.length (ints .u8 l)) (hs : s.size ≤ 140737488355328) :
    Calls Tryd.prog 36 #[v, .string s] w (Wrote w (textW l s)) := by
  by_cases hm : s.size ≤ 64
  · refine (rtext_ok v l s w hl hr hm).mono ?_
    rintro e w' ⟨v', rfl, ho, hb⟩
    exact ⟨v', by simp [textW, hm], by simpa [textW, hm] using Rd.ofOwns ho, frm_of hb⟩
  · refine (rtext_bad v s w (by omega) hs).mono ?_
    rintro e w' ⟨rfl, rfl⟩
    exact ⟨v, by simp [textW, hm], by simpa [textW, hm] using hr, Frm.refl _ _⟩
theorem list_w (v vl : Value) (l xs : List Int) (w : World) (hl : l.length ≤ 900000) (hr : Rd w 1 v l.length (ints .u8 l)) (hx : xs.length ≤ 1000000) (hrx : Rd w 1 vl xs.length (ints .i64 xs)) :
    Calls Tryd.prog 34 #[v, vl] w (Wrote w (listW l xs)) := by
  by_cases h64 : 64 < xs.length
  · obtain ⟨a, c, rfl, _⟩ := hrx.shape
    refine (list_over v a xs.length c w h64 (by omega)).mono ?_
    rintro e w' ⟨rfl, rfl⟩
    exact ⟨v, by simp [listW, h64], by simpa [listW, h64] using hr, Frm.refl _ _⟩
  · cases hm : allB xs with
    | true => refine (list_ok v vl l xs w hl hr (by omega) hrx hm).mono ?_
              rintro e w' ⟨v', rfl, ho, hb⟩
              exact ⟨v', by simp [listW, h64, hm], by simpa [listW, h64, hm] using Rd.ofOwns ho, frm_of hb⟩
    | false => refine (list_bad v vl xs w (by omega) hrx hm).mono ?_
               rintro e w' ⟨rfl, rfl⟩
               exact ⟨v, by simp [listW, h64, hm], by simpa [listW, h64, hm] using hr, Frm.refl _ _⟩
theorem rlist_w (v vl : Value) (l xs : List Int) (w : World) (hl : l.length ≤ 900000) (hr : Rd w 1 v l.length (ints .u8 l)) (hx : xs.length ≤ 1000000) (hrx : Rd w 1 vl xs.length (ints .i64 xs)) :
    Calls Tryd.prog 37 #[v, vl] w (Wrote w (listW l xs)) := by
  by_cases h64 : 64 < xs.length
  · obtain ⟨a, c, rfl, _⟩ := hrx.shape
    refine (rlist_over v a xs.length c w h64 (by omega)).mono ?_
    rintro e w' ⟨rfl, rfl⟩
    exact ⟨v, by simp [listW, h64], by simpa [listW, h64] using hr, Frm.refl _ _⟩
  · refine (rlist_calls v vl l xs w hl hr (by omega) hrx).mono ?_
    rintro e w' ⟨hb, ⟨hm, v', rfl, ho⟩ | ⟨hm, rfl⟩⟩
    · exact ⟨v', by simp [listW, h64, hm], by simpa [listW, h64, hm] using Rd.ofOwns ho, frm_of hb⟩
    · exact ⟨v, by simp [listW, h64, hm], by simpa [listW, h64, hm] using hr.frm0 (frm_of hb), frm_of hb⟩
theorem Rd.new {w : World} {k : IntKind} {y : Int} {e : TypeId} : Rd (w.alloc (.cells #[.int k y] e)) 1 (.slice (some ⟨w.heap.size, 0, none⟩) 1 1) [y].length (ints k [y]) := by
  refine ⟨rfl, .inr ⟨⟨w.heap.size, 0, none⟩, 1, rfl, Nat.le_refl _, by unfold maxLen; omega, fun j u hu => ?_⟩⟩
  have hj : j = 0 := by
    rcases j with _ | j
    · rfl
    · simp at hu
  subst hj
  simp only [ints, List.map_cons, List.map_nil, List.getElem?_cons_zero, Option.some.injEq] at hu
  subst hu
  rw [add_none, World.cell?_alloc_at _ _ _ _ rfl]
  rfl
end Go.Proofs.YtinbidmgllmglaaDoor
