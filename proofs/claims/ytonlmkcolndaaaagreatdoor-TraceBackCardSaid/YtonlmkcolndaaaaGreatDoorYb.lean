/- The trace's tables of words, in, Word of both sides. -/
import Derived.Test.YtonlmkcolndaaaaGreatDoorYa
import Derived.Test.YtonlmkcolndaaaaGreatDoorWi
import Derived.Test.YtonlmkcolndaaaaGreatDoorSg
import Derived.Test.YtonlmkcolndaaaaGreatDoorSx
import Derived.Test.YtonlmkcolndaaaaGreatDoorMx
namespace Go.Proofs.YtonlmkcolndaaaaGreatDoor
set_option linter.unusedVariables false
set_option linter.unusedSimpArgs false
set_option maxRecDepth 20000
open Go.RowKit

def errL : List ByteArray := [⟨#[111, 107]⟩, ⟨#[97, 114, 103]⟩, ⟨#[102, 111, 114, 109]⟩, ⟨#[99, 114, 99]⟩, ⟨#[102, 117, 108, 108]⟩, ⟨#[110, 111, 110, 101]⟩, ⟨#[116, 104, 101, 114, 101]⟩, ⟨#[114, 101, 118]⟩, ⟨#[101, 112, 111, 99, 104]⟩, ⟨#[108, 101, 97, 115, 101]⟩, ⟨#[115, 116, 97, 116, 101]⟩, ⟨#[115, 112, 101, 99]⟩, ⟨#[111, 118, 101, 114]⟩, ⟨#[108, 111, 115, 116]⟩]
def didL : List ByteArray := [⟨#[110, 111, 116, 104, 105, 110, 103]⟩, ⟨#[99, 111, 109, 109, 105, 116, 116, 101, 100]⟩, ⟨#[115, 101, 110, 116]⟩, ⟨#[104, 101, 97, 114, 100]⟩]
def kndL : List ByteArray := [⟨#[]⟩, ⟨#[99, 111, 109, 109, 97, 110, 100]⟩, ⟨#[114, 101, 112, 111, 114, 116]⟩]
theorem rd_new (w : World) (l : List ByteArray) (hl : l.length ≤ 1000000 := by decide) : Rd (w.alloc (.cells (l.map Value.string).toArray 9)) 1 (.slice (some ⟨w.heap.size, 0, none⟩) l.length l.length) l.length (strs l) := by
  refine ⟨by rw [els_len strs_len], .inr ⟨⟨w.heap.size, 0, none⟩, l.length, rfl, Nat.le_refl _, by unfold maxLen; omega, fun j u hu => ?_⟩⟩
  rw [add_none, World.cell?_alloc_at _ _ _ _ rfl, Nat.zero_add]
  show (l.map Value.string).toArray[j]? = some u
  rw [List.getElem?_toArray, ← hu, show strs l = l.map Value.string from (List.map_eq_flatMap ..).symm]
/-- A slice of texts, its cell. -/
theorem Rd.strAt {w : World} {b o n c : Nat} {l : List ByteArray} (h : Rd w 1 (.slice (some ⟨b, o, none⟩) n c) l.length (strs l)) (i : Nat) (hi : i < l.length) : w.cell? ⟨b, o + i, none⟩ = some (.string (l[i])) := by
  rcases h.2 with ⟨h2, _⟩ | ⟨x, cap', h2, _, _, hc⟩
  · cases h2
  · simp only [Value.slice.injEq, Option.some.injEq] at h2
    obtain ⟨rfl, rfl, rfl⟩ := h2
    rw [← add_none]
    exact hc i _ (strs_get l i _ (List.getElem?_eq_getElem hi))
theorem did_calls (w : World) : Calls Tryz.prog 29 #[] w fun e w' => ∃ b, w.heap.size ≤ b ∧ e = .returned (.slice (some ⟨b, 0, none⟩) 4 4) ∧ Rd w' 1 (.slice (some ⟨b, 0, none⟩) 4 4) 4 (strs didL) ∧ Frm M0 w w' := by
  have HR := hid (rd_new w didL)
  go_enter Tryz.func29, Tryz.ntmps29
  go_wp2_with fail
  go_ret
  exact ⟨w.heap.size, Nat.le_refl _, rfl, HR.out, (Frm.refl M0 w).alloc _⟩
theorem knd_calls (w : World) : Calls Tryz.prog 31 #[] w fun e w' => ∃ b, w.heap.size ≤ b ∧ e = .returned (.slice (some ⟨b, 0, none⟩) 3 3) ∧ Rd w' 1 (.slice (some ⟨b, 0, none⟩) 3 3) 3 (strs kndL) ∧ Frm M0 w w' := by
  have HR := hid (rd_new w kndL)
  go_enter Tryz.func31, Tryz.ntmps31
  go_wp2_with fail
  go_ret
  exact ⟨w.heap.size, Nat.le_refl _, rfl, HR.out, (Frm.refl M0 w).alloc _⟩
theorem etab_calls (w : World) : Calls Tryz.prog 36 #[] w fun e w' => ∃ b, e = .returned (.slice (some ⟨b, 0, none⟩) 14 14) ∧ Rd w' 1 (.slice (some ⟨b, 0, none⟩) 14 14) 14 (strs errL) ∧ Frm M0 w w' := by
  have HR := hid (rd_new w errL)
  go_enter Tryz.func36, Tryz.ntmps36
  go_wp2_with fail
  go_ret
  exact ⟨w.heap.size, rfl, HR.out, (Frm.refl M0 w).alloc _⟩

/-- Is there such a word? -/
def inB (l : List ByteArray) (i : Int) : Bool := decide (0 ≤ i) && (decide (i < l.length) && !(l.getD i.toNat ⟨#[]⟩).toList.isEmpty)
theorem in_calls (v : Value) (l : List ByteArray) (i : Int) (w : World) (h : Rd w 1 v l.length (strs l)) : Calls Tryz.prog 28 #[v, .int .i64 i] w fun e w' => e = .returned (.bool (inB l i)) ∧ Frm M0 w w' := by
  obtain ⟨a, c, rfl, hsh⟩ := h.shape
  have HI : Hid (inB l i = (decide (0 ≤ i) && (decide (i < l.length) && !(l.getD i.toNat ⟨#[]⟩).toList.isEmpty))) := rfl
  by_cases h0 : 0 ≤ i
  · by_cases h1 : i < l.length
    · obtain ⟨k, rfl⟩ : ∃ k : Nat, i = k := ⟨i.toNat, by omega⟩
      obtain ⟨b, o, rfl⟩ := hsh (by omega)
      have hc := h.strAt k (by omega)
      obtain ⟨x, hx⟩ : ∃ x, x = l[k]'(by omega) := ⟨_, rfl⟩
      rw [← hx] at hc
      have HX : Hid (inB l k = !x.toList.isEmpty) := hid (by
        rw [HI.out, decide_eq_true h0, decide_eq_true h1, hx, Int.toNat_natCast, List.getD_eq_getElem?_getD, List.getElem?_eq_getElem (by omega)]; rfl)
      clear hx h hsh
      cases hxe : x.toList.isEmpty
      · have hxe' : (!x.toList.isEmpty) = true := by rw [hxe]; rfl
        rw [HX.out, hxe']
        clear HX HI
        go_enter Tryz.func28, Tryz.ntmps28
        go_wp2_with fail
        go_ret
        exact ⟨by first | rfl | simp [hxe], Frm.refl _ _⟩
      · have hxe' : (!x.toList.isEmpty) = false := by rw [hxe]; rfl
        rw [HX.out, hxe']
        clear HX HI
        go_enter Tryz.func28, Tryz.ntmps28
        go_wp2_with fail
        go_ret
        exact ⟨by first | rfl | simp [hxe], Frm.refl _ _⟩
    · have HX : Hid (inB l i = false) := hid (by rw [HI.out, decide_eq_false h1]; simp)
      rw [HX.out]
      clear HX HI h hsh
      go_enter Tryz.func28, Tryz.ntmps28
      go_wp2_with fail
      go_ret
      exact ⟨rfl, Frm.refl _ _⟩
  · have HX : Hid (inB l i = false) := hid (by rw [HI.out, decide_eq_false h0]; simp)
    rw [HX.out]
    clear HX HI h hsh
    go_enter Tryz.func28, Tryz.ntmps28
    go_wp2_with fail
    go_ret
    exact ⟨rfl, Frm.refl _ _⟩
/-- An error's word. -/
def wordE (e : Int) : ByteArray := if 0 ≤ e ∧ e < 14 then errL.getD e.toNat ⟨#[]⟩ else ⟨#[]⟩
theorem err_some : ∀ k : Fin 14, (errL.getD k.val ⟨#[]⟩).toList.isEmpty = false := by decide +kernel
theorem inB_err (e : Int) : inB errL e = decide (0 ≤ e ∧ e < 14) := by
  unfold inB
  rw [show errL.length = 14 from rfl]
  by_cases h : 0 ≤ e ∧ e < 14
  · have := err_some ⟨e.toNat, by omega⟩
    simp only [] at this
    rw [this, decide_eq_true h.1, decide_eq_true (show e < ((14 : Nat) : Int) by omega), decide_eq_true h]; rfl
  · rw [decide_eq_false h]
    by_cases h0 : 0 ≤ e
    · rw [decide_eq_false (show ¬ e < ((14 : Nat) : Int) by omega)]; simp
    · rw [decide_eq_false h0]; rfl
set_option maxRecDepth 20000 in
theorem tword_calls (e : Int) (w : World) : Calls Tryz.prog 14 #[.int .i64 e] w fun x w' => x = .returned (.string (wordE e)) ∧ Frm M0 w w' := by
  have HW : Hid (wordE e = if 0 ≤ e ∧ e < 14 then errL.getD e.toNat ⟨#[]⟩ else ⟨#[]⟩) := rfl
  go_enter Tryz.func14, Tryz.ntmps14
  go_wp2_with fail
  refine (etab_calls _).mono ?_
  rintro _ w1 ⟨b, rfl, hr, hf⟩
  have HF := hid hf
  clear hf
  go_wp2_with fail
  refine (in_calls _ errL e _ hr).mono ?_
  rintro _ w2 ⟨rfl, hf⟩
  have HF2 := hid (HF.out.then0 hf)
  rw [inB_err]
  clear hf hr HF
  by_cases h : 0 ≤ e ∧ e < 14
  · rw [decide_eq_true h]
    obtain ⟨k, rfl⟩ : ∃ k : Nat, e = k := ⟨e.toNat, by omega⟩
    have hk : k < 14 := by omega
    have HX : Hid (wordE k = errL[k]) := hid (by rw [HW.out, if_pos h, Int.toNat_natCast, List.getD_eq_getElem?_getD, List.getElem?_eq_getElem hk]; rfl)
    clear h
    go_wp2_with fail
    refine (etab_calls _).mono ?_
    rintro _ w3 ⟨b3, rfl, hr, hf⟩
    have HF3 := hid (HF2.out.then0 hf)
    have hc := hr.strAt k hk
    rw [Nat.zero_add] at hc
    have hk0 : (0 : Int) ≤ (k : Int) := by omega
    have hk1 : (k : Int) < 14 := by omega
    clear hf hr
    go_wp2_with fail
    go_ret
    exact ⟨by rw [HX.out]; rfl, HF3.out⟩
  · rw [decide_eq_false h]
    have HX : Hid (wordE e = ⟨#[]⟩) := hid (by rw [HW.out, if_neg h])
    clear h
    go_wp2_with fail
    go_ret
    exact ⟨by rw [HX.out]; rfl, HF2.out⟩
set_option maxRecDepth 20000 in
theorem rword_calls (e : Int) (w : World) : Calls Tryz.prog 15 #[.int .i64 e] w fun x w' => x = .returned (.string (wordE e)) ∧ Frm M0 w w' := by
  have HW : Hid (wordE e = if 0 ≤ e ∧ e < 14 then errL.getD e.toNat ⟨#[]⟩ else ⟨#[]⟩) := rfl
  by_cases h : 0 ≤ e ∧ e < 14
  · obtain ⟨k, rfl⟩ : ∃ k : Nat, e = k := ⟨e.toNat, by omega⟩
    have hk : k < 14 := by omega
    have HX : Hid (wordE k = errL[k]) := hid (by rw [HW.out, if_pos h, Int.toNat_natCast, List.getD_eq_getElem?_getD, List.getElem?_eq_getElem hk]; rfl)
    have hk0 : (0 : Int) ≤ (k : Int) := by omega
    have hk1 : (k : Int) ≤ 13 := by omega
    have hk2 : (k : Int) < 14 := by omega
    obtain ⟨x, hx⟩ : ∃ x, x = errL[k] := ⟨_, rfl⟩
    have HC : Hid ((#[Value.string ⟨#[111, 107]⟩, Value.string ⟨#[97, 114, 103]⟩, Value.string ⟨#[102, 111, 114, 109]⟩, Value.string ⟨#[99, 114, 99]⟩, Value.string ⟨#[102, 117, 108, 108]⟩, Value.string ⟨#[110, 111, 110, 101]⟩, Value.string ⟨#[116, 104, 101, 114, 101]⟩, Value.string ⟨#[114, 101, 118]⟩, Value.string ⟨#[101, 112, 111, 99, 104]⟩, Value.string ⟨#[108, 101, 97, 115, 101]⟩, Value.string ⟨#[115, 116, 97, 116, 101]⟩, Value.string ⟨#[115, 112, 101, 99]⟩, Value.string ⟨#[111, 118, 101, 114]⟩, Value.string ⟨#[108, 111, 115, 116]⟩] : Array Value)[k]? = some (.string x)) := hid (by
      show (errL.map Value.string).toArray[k]? = _
      rw [List.getElem?_toArray, List.getElem?_map, List.getElem?_eq_getElem hk, hx]; rfl)
    have HN := hid (new1 w (.cells #[.string ⟨#[111, 107]⟩, .string ⟨#[97, 114, 103]⟩, .string ⟨#[102, 111, 114, 109]⟩, .string ⟨#[99, 114, 99]⟩, .string ⟨#[102, 117, 108, 108]⟩, .string ⟨#[110, 111, 110, 101]⟩, .string ⟨#[116, 104, 101, 114, 101]⟩, .string ⟨#[114, 101, 118]⟩, .string ⟨#[101, 112, 111, 99, 104]⟩, .string ⟨#[108, 101, 97, 115, 101]⟩, .string ⟨#[115, 116, 97, 116, 101]⟩, .string ⟨#[115, 112, 101, 99]⟩, .string ⟨#[111, 118, 101, 114]⟩, .string ⟨#[108, 111, 115, 116]⟩] 9))
    rw [← hx] at HX
    clear h hx
    go_enter Tryz.func15, Tryz.ntmps15
    go_wp2_with (refine wpList_load_v (by kernel_rfl) 9 (.tmp 11) (by with_reducible rfl) w.heap.size k (by kernel_rfl) _ _ _ HN.out (.string x) HC.out _ Tryz.underlying9 rfl ?_)
    go_ret
    exact ⟨by rw [HX.out]; rfl, (Frm.refl M0 w).alloc _⟩
  · have HX : Hid (wordE e = ⟨#[]⟩) := hid (by rw [HW.out, if_neg h])
    by_cases h0 : e < 0
    · go_enter Tryz.func15, Tryz.ntmps15
      go_wp2_with fail
      go_ret
      exact ⟨by rw [HX.out]; rfl, Frm.refl _ _⟩
    · have h1 : 13 < e := by omega
      go_enter Tryz.func15, Tryz.ntmps15
      go_wp2_with fail
      go_ret
      exact ⟨by rw [HX.out]; rfl, Frm.refl _ _⟩
end Go.Proofs.YtonlmkcolndaaaaGreatDoor
