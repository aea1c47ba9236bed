/- strings.Split, strings.TrimPrefix, strconv.Atoi as the walks here take them, and what they want of the library's variables. -/
import Derived.Test.YtonlmkcolndaaaaGreatDoorWi
import Derived.Test.YtonlmkcolndaaaaGreatDoorSb
import Derived.Test.YtonlmkcolndaaaaGreatDoorSi
import Derived.Test.YtonlmkcolndaaaaGreatDoorCg
namespace Go.Proofs.YtonlmkcolndaaaaGreatDoor
set_option linter.unusedVariables false
set_option linter.unusedSimpArgs false
set_option maxRecDepth 20000
open Go.RowKit

theorem var_frm {w w' : World} {name : String} {x : Array Value} (h : w.var? Tryz.prog name = some x) (hf : Frm M0 w w') : w'.var? Tryz.prog name = some x := by
  rw [← h]
  unfold World.var? at h ⊢
  obtain ⟨g, hg⟩ : ∃ g, Tryz.prog.globalNamed name = g := ⟨_, rfl⟩
  rw [hg] at h ⊢
  cases g with
  | none => rfl
  | some g =>
    simp only [Option.bind_some] at h ⊢
    have hb : g < w.heap.size := by
      apply Classical.byContradiction; intro hn
      rw [Array.getElem?_eq_none (by omega)] at h
      cases h
    rw [hf.block g hb (fun h => h)]
/-- The library's variables are as they were laid. -/
structure Glob (w : World) : Prop where
  tab : Tab w
  mx : ∃ m, w.cell? ⟨1, 0, none⟩ = some (.int .i64 m)
  syn : ∃ tp p, w.var? Tryz.prog "strconv.ErrSyntax" = some #[.iface tp p]
  rng : ∃ tp p, w.var? Tryz.prog "strconv.ErrRange" = some #[.iface tp p]
theorem Glob.frm {w w' : World} (h : Glob w) (hf : Frm M0 w w') : Glob w' := by
  obtain ⟨h1, ⟨m, h2⟩, ⟨t3, p3, h3⟩, ⟨t4, p4, h4⟩⟩ := h
  exact ⟨h1.frm hf, ⟨m, hf.cell h2 (fun h => h)⟩, ⟨t3, p3, var_frm h3 hf⟩, ⟨t4, p4, var_frm h4 hf⟩⟩
theorem frm_bytes (w : World) (e : TypeId) (s : ByteArray) : Frm M0 w (Lib.bytesWorld w e s) := ⟨rfl, rfl, rfl, by rw [Lib.bytesWorld_size]; omega, fun k hk _ => Lib.bytesWorld_at_old w e s k hk⟩

/-- The pieces of a text between single blanks. -/
def splitS (s : ByteArray) : List ByteArray := Lib.splitB ⟨#[32]⟩ 0 (Lib.countB s ⟨#[32]⟩) s
theorem splitS_len (s : ByteArray) : (splitS s).length = Lib.countB s ⟨#[32]⟩ + 1 := Lib.splitB_all _ (by decide) _ _ _ rfl
theorem split_calls (s : ByteArray) (w : World) (hs : s.size ≤ 1000000) (hg : Glob w) : Calls Tryz.prog 60 #[.string s, .string ⟨#[32]⟩] w fun e w' =>
    ∃ b, e = .returned (.slice (some ⟨b, 0, none⟩) (splitS s).length (splitS s).length) ∧ Rd w' 1 (.slice (some ⟨b, 0, none⟩) (splitS s).length (splitS s).length) (splitS s).length (strs (splitS s)) ∧ Frm M0 w w' := by
  obtain ⟨m, hm⟩ := hg.mx
  refine (Tryz.strings_Split s ⟨#[32]⟩ m w (by omega) hm (by decide)).mono ?_
  rintro e w' ⟨rfl, rfl⟩
  have hle : Lib.countB s ⟨#[32]⟩ ≤ s.size := Lib.countB_le _ (by decide) _ _ (Nat.le_refl _)
  refine ⟨w.heap.size, by rw [splitS_len], ⟨by rw [els_len strs_len], .inr ⟨⟨w.heap.size, 0, none⟩, (splitS s).length, rfl, Nat.le_refl _, by rw [splitS_len]; unfold maxLen; omega, fun j u hu => ?_⟩⟩, (Frm.refl M0 w).alloc _⟩
  rw [add_none, World.cell?_alloc_at _ _ _ _ rfl, Nat.zero_add]
  show ((splitS s).map Value.string).toArray[j]? = some u
  rw [List.getElem?_toArray, ← hu]
  rw [show strs (splitS s) = (splitS s).map Value.string from (List.map_eq_flatMap ..).symm]
theorem trim_calls (s p : ByteArray) (w : World) : Calls Tryz.prog 62 #[.string s, .string p] w fun e w' => e = .returned (.string (str (Lib.trimPrefix s.data.toList p.data.toList))) ∧ Frm M0 w w' :=
  (Tryz.strings_TrimPrefix s p w).mono fun e w' h => ⟨h.1, by rw [h.2]; exact Frm.refl _ _⟩
theorem atoi_ok (s : ByteArray) (v : Int) (w : World) (hs : s.size ≤ 1000000) (h : Lib.atoiAll s.data.toList = .ok v) : Calls Tryz.prog 61 #[.string s] w fun e w' => e = .returned (.tuple #[.int .i64 v, .nilIface]) ∧ Frm M0 w w' := by
  refine (Tryz.strconv_Atoi_ok s (by omega) v h w).mono ?_
  rintro e w' ⟨rfl, hw⟩
  refine ⟨rfl, ?_⟩
  rcases hw with rfl | ⟨t, rfl⟩
  · exact Frm.refl _ _
  · exact frm_bytes _ _ _
theorem atoi_no (s : ByteArray) (w : World) (hs : s.size ≤ 1000000) (hg : Glob w) (h : ∀ v, Lib.atoiAll s.data.toList ≠ .ok v) : Calls Tryz.prog 61 #[.string s] w fun e w' => ∃ n T N, e = .returned (.tuple #[.int .i64 n, .iface T (.pointer (some ⟨N, 0, none⟩))]) ∧ Frm M0 w w' := by
  cases hc : Lib.atoiAll s.data.toList
  · exact absurd hc (h _)
  · obtain ⟨t, p, hv⟩ := hg.syn
    exact (Tryz.strconv_Atoi_syntax_var s (by omega) hc t p w hv).mono fun e w' ⟨N, he, _, _, hb⟩ => ⟨_, _, N, he, frm_of hb⟩
  · obtain ⟨t, p, hv⟩ := hg.rng
    exact (Tryz.strconv_Atoi_range_var s (by omega) hc t p w hv).mono fun e w' ⟨N, he, _, _, hb⟩ => ⟨_, _, N, he, frm_of hb⟩
end Go.Proofs.YtonlmkcolndaaaaGreatDoor
