/- The reference's Words. -/
import Derived.Test.YtonlmkcolndaaaaGreatDoorPw
import Derived.Test.YtonlmkcolndaaaaGreatDoorSg
namespace Go.Proofs.YtonlmkcolndaaaaGreatDoor
set_option linter.unusedVariables false
set_option linter.unusedSimpArgs false
set_option maxRecDepth 20000
open Go.RowKit

/-- A slice of our own: one element set. -/
theorem owns_set1 {w : World} {base : Nat} {e : TypeId} {n : Nat} {g cap : Nat} {xs : List Value} (h : w.ownsRow base e 1 (.slice (some ⟨g, 0, none⟩) n cap) n xs) (i : Nat) (hi : i < n) (u : Value) :
    (w.setCell ⟨g, i, none⟩ u).ownsRow base e 1 (.slice (some ⟨g, 0, none⟩) n cap) n (xs.set i u) := by
  refine ⟨by rw [List.length_set]; exact h.1, ?_⟩
  rcases h.2 with ⟨h2, h3⟩ | ⟨g', cap', cur, hv, hg, hh, h1, h3, h4, h5⟩
  · cases h2
  · simp only [Value.slice.injEq, Option.some.injEq, Addr.mk.injEq, and_true, true_and] at hv
    obtain ⟨rfl, rfl⟩ := hv
    refine .inr ⟨g, cap, cur.setIfInBounds i u, rfl, hg, heap_set_at hh u, h1, h3, by simpa using h4, ?_⟩
    rw [Array.toList_setIfInBounds, List.take_set, h5]
/-- Where a slice of our own that is not empty lies. -/
theorem owns_at {w : World} {base : Nat} {e : TypeId} {size n : Nat} {v : Value} {xs : List Value} (h : w.ownsRow base e size v n xs) (hn : 0 < n) :
    ∃ g cap cur, v = .slice (some ⟨g, 0, none⟩) n cap ∧ base ≤ g ∧ Hid (w.heap[g]? = some (.cells cur e (0, 0))) ∧ n ≤ cap ∧ cap ≤ 9223372036854775807 := by
  rcases h.2 with ⟨h2, h3⟩ | ⟨g, cap, cur, hv, hg, hh, h1, h3, h4, h5⟩
  · omega
  · exact ⟨g, cap, cur, hv, hg, hid hh, h1, by unfold maxLen at h3; omega⟩
theorem owns_one (w : World) (e : TypeId) (u : Value) : (w.alloc (.cells #[u] e)).ownsRow w.heap.size e 1 (.slice (some ⟨w.heap.size, 0, none⟩) 1 1) 1 [u] :=
  ⟨rfl, .inr ⟨w.heap.size, 1, #[u], rfl, Nat.le_refl _, new1 w _, Nat.le_refl _, by unfold maxLen; omega, rfl, rfl⟩⟩

theorem strs_set (L : List ByteArray) (i : Nat) (s : ByteArray) : (strs L).set i (.string s) = strs (L.set i s) := by
  have e : ∀ L : List ByteArray, strs L = L.map Value.string := fun L => (List.map_eq_flatMap ..).symm
  rw [e, e, List.map_set]
theorem set_last (L : List ByteArray) (s : ByteArray) (h : 0 < L.length) : L.set (L.length - 1) s = L.dropLast ++ [s] := by
  rw [List.set_eq_take_append_cons_drop, if_pos (by omega), List.dropLast_eq_take, List.drop_of_length_le (by omega)]
/-- What Words hands back. -/
def WordsP (s : ByteArray) (w : World) (e : Ending) (w' : World) : Prop :=
  ∃ (v : Value) (L : List ByteArray), e = .returned v ∧ Hid (L.map (·.data.toList) = splitL s.data.toList) ∧ Rd w' 1 v L.length (strs L) ∧ Frm M0 w w'

theorem sbw_index {s : ByteArray} {i : Nat} (h : i < s.size) : s.data.toList[i]? = some s[i] := by
  rw [List.getElem?_eq_getElem (by simpa using h)]; rfl
set_option maxRecDepth 20000 in
set_option maxHeartbeats 4000000 in
theorem refwords_calls (s : ByteArray) (w : World) (hs : s.size ≤ 1000000) : Calls Tryz.prog 41 #[.string s] w (WordsP s w) := by
  have HOW := hid (owns_one w 9 (.string ⟨#[]⟩))
  go_enter Tryz.func41, Tryz.ntmps41
  go_wp2_with fail
  have hF0 := (Frm.refl M0 w).alloc (.cells #[.string ⟨#[]⟩] 9)
  obtain ⟨B, hB⟩ : ∃ x, x = w.heap.size := ⟨_, rfl⟩
  obtain ⟨w1, hw1⟩ : ∃ x, x = w.alloc (.cells #[.string ⟨#[]⟩] 9) := ⟨_, rfl⟩
  rw [← hB] at HOW ⊢
  rw [← hw1] at HOW hF0 ⊢
  have HF0 := hid hF0
  have HB := hid hB
  clear hB hw1 hF0
  go_loopw [3, 4] (fun s3 s4 wr => ∃ (k : Nat) (L : List ByteArray), k ≤ s.size ∧ s4 = .int .i64 k ∧ 0 < L.length ∧ L.length ≤ k + 1 ∧ Hid (L.map (·.data.toList) = splitL (s.data.toList.take k)) ∧ Hid (wr.ownsRow B 9 1 s3 L.length (strs L)) ∧ Hid (Frm M0 w wr)) (fun _ i _ => s.size - (intOf i).toNat)
  case atStart => exact ⟨0, [⟨#[]⟩], Nat.zero_le _, rfl, by simp, by simp, hid rfl, HOW, HF0⟩
  case round =>
    clear HOW HF0
    obtain ⟨k, L, hk, rfl, hL0, hL1, HL, HO, HF⟩ := hrel
    obtain ⟨g, cap, cur, rfl, hg, HH, hc1, hc2⟩ := owns_at HO.out hL0
    by_cases hlt : k < s.size
    · by_cases hb : s[k].toNat = 32
      · have hb' : (((s[k].toNat : Nat) : Int) == 32) = true := by simp [hb]
        have HS : Hid ((L ++ [⟨#[]⟩] : List ByteArray).map (·.data.toList) = splitL (s.data.toList.take (k + 1))) := hid (by
          rw [take_snoc (sbw_index hlt), splitL_snoc, ← HL.out, List.map_append]
          unfold snocW; rw [if_pos (UInt8.toNat_inj.1 hb)]; rfl)
        clear hb
        go_wp2_with (first | (at_builtin; refine wpList_push_el strs_len strs_one rfl (.tmp 16) (.tmp 17) 59 rfl B 9 (.string ⟨#[]⟩) 16 Tryz.underlying59 (by kernel_rfl) rfl (by decide) _ L ⟨#[]⟩ #[.string ⟨#[]⟩] rfl rfl HO.out rfl (by omega) (by omega) (by have := HF.out.size; have := HB.out; omega) ?_; intro v2 w2 ho2 hg2; have HO2 := hid ho2; have HG2 := hid hg2; clear ho2 hg2))
        exact ⟨⟨k + 1, L ++ [⟨#[]⟩], by omega, by go_num, by simp, by simp; omega, HS, HO2, hid (HF.out.grown HG2.out (fun j hj hlt' => by have h1 := (HO.out.lt j hj).1; have h2 := HB.out; omega))⟩, by simp [intOf]; omega⟩
      · have hb' : (((s[k].toNat : Nat) : Int) == 32) = false := by simp; omega
        have hlast : L[L.length - 1]? = some (L[L.length - 1]'(by omega)) := List.getElem?_eq_getElem (by omega)
        obtain ⟨x, hx⟩ : ∃ x, x = L[L.length - 1]'(by omega) := ⟨_, rfl⟩
        rw [← hx] at hlast
        have HX := hid hlast
        have hcell : wr.cell? ⟨g, L.length - 1, none⟩ = some (.string x) := by
          have h1 := HO.out.cells (g := g) rfl (L.length - 1) (.string x) (strs_get L _ x hlast)
          rw [add_none] at h1; simpa using h1
        have HC := hid hcell
        clear hlast hx hcell
        have hxs : x.size ≤ s.size := by
          have h1 : x.data.toList ∈ splitL (s.data.toList.take k) := by rw [← HL.out]; exact List.mem_map_of_mem (List.mem_of_getElem? HX.out)
          have h2 := splitL_mem _ _ h1
          rw [List.length_take] at h2
          simp at h2
          have e : x.size = x.data.size := rfl
          omega
        have hw1 : IntKind.i64.wrap ((L.length : Int) - 1) = (L.length : Int) - 1 := IntWalk.i64_in _ (by omega)
        have hw2 : ((L.length : Int) - 1).toNat = L.length - 1 := by omega
        have hw3 : IntKind.i64.wrap ((k : Int) + 1) = (k : Int) + 1 := IntWalk.i64_in _ (by omega)
        have hw4 : ((k : Int) + 1).toNat = k + 1 := by omega
        have hw5 : (0 : Int) ≤ (L.length : Int) - 1 := by omega
        have hw6 : (L.length : Int) - 1 < L.length := by omega
        have H1 := hid hw1
        have H2 := hid hw2
        have H3 := hid hw3
        have H4 := hid hw4
        clear hw1 hw2 hw3 hw4
        go_wp2_with fail
        apply wp_region_G 13 (fun _ => none) (valsL (_ :: _ :: _ :: _ :: _ :: _ :: _ :: _ :: _ :: _ :: _ :: _ :: _ :: [])) ?hm1 ?hB1 ?hal1 ?main1
        case hm1 => kernel_rfl
        case hB1 => kernel_rfl
        case hal1 =>
          intro i o obj ho hi
          cases hi
        rotate_left 13
        intro ops QT HO HQ
        obtain ⟨ho0, HO⟩ := HO
        refine wpG_v ho0.out rfl ?_ ?_
        · simp only [valsL_zero, valsL_succ]; apply FY_in rfl; intro wx hx
          go_simp
          exact ⟨rfl, rfl⟩
        simp only [Act.put, List.setIfInBounds_toArray, List.set_cons_zero, List.set_cons_succ, valsL_zero, valsL_succ]
        obtain ⟨ho1, HO⟩ := HO
        refine wpG_v ho1.out rfl ?_ ?_
        · simp only [valsL_zero, valsL_succ]; apply FY_in rfl; intro wx hx
          go_simp
          exact ⟨rfl, rfl⟩
        simp only [Act.put, List.setIfInBounds_toArray, List.set_cons_zero, List.set_cons_succ, valsL_zero, valsL_succ]
        obtain ⟨ho2, HO⟩ := HO
        refine wpG_v ho2.out rfl ?_ ?_
        · simp only [valsL_zero, valsL_succ]; apply FY_in rfl; intro wx hx
          go_simp
          exact ⟨rfl, rfl⟩
        simp only [Act.put, List.setIfInBounds_toArray, List.set_cons_zero, List.set_cons_succ, valsL_zero, valsL_succ]
        obtain ⟨ho3, HO⟩ := HO
        refine wpG_v ho3.out rfl ?_ ?_
        · simp only [valsL_zero, valsL_succ]; apply FY_in rfl; intro wx hx
          have h := H1.out
          go_simp
          exact ⟨rfl, rfl⟩
        simp only [Act.put, List.setIfInBounds_toArray, List.set_cons_zero, List.set_cons_succ, valsL_zero, valsL_succ]
        obtain ⟨ho4, HO⟩ := HO
        refine wpG_v ho4.out rfl ?_ ?_
        · simp only [valsL_zero, valsL_succ]; apply FY_in rfl; intro wx hx
          have h := H2.out
          have h1 : (1 : Int) ≤ L.length := by omega
          go_simp
          exact ⟨rfl, rfl⟩
        simp only [Act.put, List.setIfInBounds_toArray, List.set_cons_zero, List.set_cons_succ, valsL_zero, valsL_succ]
        obtain ⟨ho5, HO⟩ := HO
        refine wpG_v ho5.out rfl ?_ ?_
        · simp only [valsL_zero, valsL_succ]; apply FY_in rfl; intro wx hx
          have h := hx.cell HC.out (fun h => h)
          go_simp
          exact ⟨rfl, rfl⟩
        simp only [Act.put, List.setIfInBounds_toArray, List.set_cons_zero, List.set_cons_succ, valsL_zero, valsL_succ]
        obtain ⟨ho6, HO⟩ := HO
        refine wpG_v ho6.out rfl ?_ ?_
        · simp only [valsL_zero, valsL_succ]; apply FY_in rfl; intro wx hx
          go_simp
          exact ⟨rfl, rfl⟩
        simp only [Act.put, List.setIfInBounds_toArray, List.set_cons_zero, List.set_cons_succ, valsL_zero, valsL_succ]
        obtain ⟨ho7, HO⟩ := HO
        refine wpG_v ho7.out rfl ?_ ?_
        · simp only [valsL_zero, valsL_succ]; apply FY_in rfl; intro wx hx
          go_simp
          exact ⟨rfl, rfl⟩
        simp only [Act.put, List.setIfInBounds_toArray, List.set_cons_zero, List.set_cons_succ, valsL_zero, valsL_succ]
        obtain ⟨ho8, HO⟩ := HO
        refine wpG_v ho8.out rfl ?_ ?_
        · simp only [valsL_zero, valsL_succ]; apply FY_in rfl; intro wx hx
          go_simp
          exact ⟨rfl, rfl⟩
        simp only [Act.put, List.setIfInBounds_toArray, List.set_cons_zero, List.set_cons_succ, valsL_zero, valsL_succ]
        obtain ⟨ho9, HO⟩ := HO
        refine wpG_v ho9.out rfl ?_ ?_
        · simp only [valsL_zero, valsL_succ]; apply FY_in rfl; intro wx hx
          have h := H3.out
          go_simp
          exact ⟨rfl, rfl⟩
        simp only [Act.put, List.setIfInBounds_toArray, List.set_cons_zero, List.set_cons_succ, valsL_zero, valsL_succ]
        obtain ⟨ho10, HO⟩ := HO
        refine wpG_v ho10.out rfl ?_ ?_
        · simp only [valsL_zero, valsL_succ]; apply FY_in rfl; intro wx hx
          have h := H4.out
          have h1 : (0 : Int) ≤ (k : Int) + 1 := by omega
          have h2 : (k : Int) + 1 ≤ s.size := by omega
          have h3 : (k : Int) ≤ (k : Int) + 1 := by omega
          go_simp
          exact ⟨rfl, rfl⟩
        simp only [Act.put, List.setIfInBounds_toArray, List.set_cons_zero, List.set_cons_succ, valsL_zero, valsL_succ]
        obtain ⟨ho11, HO⟩ := HO
        refine wpG_v ho11.out rfl ?_ ?_
        · simp only [valsL_zero, valsL_succ]; apply FY_in rfl; intro wx hx
          have hl : ¬ 9223372036854775807 < x.size + (min (k + 1) s.size - k) := by omega
          go_simp
          exact ⟨rfl, rfl⟩
        simp only [Act.put, List.setIfInBounds_toArray, List.set_cons_zero, List.set_cons_succ, valsL_zero, valsL_succ]
        obtain ⟨ho12, HO⟩ := HO
        refine wpG_v ho12.out rfl ?_ ?_
        · simp only [valsL_zero, valsL_succ]; apply FY_in rfl; intro wx hx
          have h := H2.out
          have h1 : (1 : Int) ≤ L.length := by omega
          go_simp
          exact ⟨rfl, rfl⟩
        simp only [Act.put, List.setIfInBounds_toArray, List.set_cons_zero, List.set_cons_succ, valsL_zero, valsL_succ]
        refine HQ.out _ _ ?_
        intro wr hf hE hN
        simp only [List.drop_succ_cons, List.drop_zero]
        clear HQ HO hE hN ho0 ho1 ho2 ho3 ho4 ho5 ho6 ho7 ho8 ho9 ho10 ho11 ho12
        have HF2 := hid (HF.out.then0 hf)
        have HO2 := hid (hf.owns HO.out (fun _ _ h => h))
        have hh := hf.heap HH.out (fun h => h)
        have hfz := sb_free hh (L.length - 1)
        have hcc := hf.cell HC.out (fun h => h)
        clear hf hh
        have h := H2.out
        have h1 : (1 : Int) ≤ L.length := by omega
        go_wp2_with fail
        refine ⟨⟨k + 1, L.set (L.length - 1) (x ++ s.extract k (k + 1)), by omega, by go_num, by rw [List.length_set]; omega, by rw [List.length_set]; omega, hid ?_, hid ?_, hid ?_⟩, by simp [intOf]; omega⟩
        · have hlx : (L.map (·.data.toList)).getLastD [] = x.data.toList := by
            rw [List.getLastD_eq_getLast?, List.getLast?_eq_getElem?, List.length_map, List.getElem?_map, HX.out]; rfl
          rw [take_snoc (sbw_index hlt), splitL_snoc, ← HL.out, set_last _ _ hL0, List.map_append]
          unfold snocW
          rw [if_neg (fun e => hb (by rw [e]; rfl)), hlx, List.map_dropLast]
          congr 1
          show [(x ++ s.extract k (k + 1)).data.toList] = _
          have e : (s.extract k (k + 1)).data.toList = [s[k]] := by
            rw [← Lib.toList_data, Lib.extract_toList, List.drop_eq_getElem_cons (by simpa using hlt), show k + 1 - k = 0 + 1 by omega, List.take_succ_cons]; rfl
          rw [ByteArray.data_append, Array.toList_append, e]
        · rw [List.length_set, ← strs_set]
          exact owns_set1 HO2.out _ (by omega) _
        · exact HF2.out.putN _ _ _ (by have := HB.out; omega)
    · obtain rfl : k = s.size := by omega
      have ht : s.data.toList.take s.size = s.data.toList := List.take_of_length_le (by simp)
      have hl := HL.out
      rw [ht] at hl
      have HLL := hid hl
      clear hl ht
      go_wp2_with fail
      go_ret
      exact ⟨_, L, rfl, HLL, Rd.ofOwns HO.out, HF.out⟩
end Go.Proofs.YtonlmkcolndaaaaGreatDoor
