/- record.Words. -/
import Derived.Test.YtinbidmgllmglaaDoorWt
import Derived.Test.YtinbidmgllmglaaDoorKn
import Derived.Test.YtinbidmgllmglaaDoorSw
import Derived.Lib.OwnKind
namespace Go.Proofs.YtinbidmgllmglaaDoor
set_option linter.unusedVariables false
set_option linter.unusedSimpArgs false
set_option maxRecDepth 20000
open Go.RowKit

def Rc.four (r : Rc) : List Int := [r.e, r.w, r.n, r.q]
/-- Its numbers are ints, its text is short. -/
structure Rc.fine (r : Rc) : Prop where
  ns : ∀ x ∈ r.four, -9223372036854775808 ≤ x ∧ x ≤ 9223372036854775807
  t : r.t.size ≤ 100000
  p : r.k = 3 → r.p.small
def partsA (r : Rc) : List ByteArray := nameS r.k :: words r.four
def partsT (r : Rc) : List ByteArray := if r.t.toList.isEmpty = true then [] else [r.t]
def partsP (r : Rc) : List ByteArray := if r.k = 3 then [textS r.p] else []
/-- A record's words. -/
def wordsS (r : Rc) : ByteArray := if rightB r = true then joinS (partsA r ++ partsT r ++ partsP r) else ⟨#[]⟩

theorem nameS_size (k : Int) : (nameS k).size ≤ 21 := by
  unfold nameS
  repeat' split
  all_goals decide
theorem textS_size (p : Sp) (h : p.small) : (textS p).size ≤ 264 := by
  have := joinS_size 21 (words p.nums) (words_bound _ h)
  rw [words_len, nums_len] at this
  show (Lib.join ((words p.nums).map (·.data.toList)) [32]).toArray.size ≤ 264
  rw [List.size_toArray]; exact this
theorem parts_bound (r : Rc) (h : r.fine) : ∀ x ∈ partsA r ++ partsT r ++ partsP r, x.size ≤ 100000 := by
  intro x hx
  rcases List.mem_append.1 hx with hx | hx
  · rcases List.mem_append.1 hx with hx | hx
    · rcases List.mem_cons.1 hx with rfl | hx
      · exact Nat.le_trans (nameS_size _) (by decide)
      · exact Nat.le_trans (words_bound _ h.ns x hx) (by decide)
    · unfold partsT at hx
      split at hx
      · cases hx
      · simp only [List.mem_singleton] at hx; subst hx; exact h.t
  · unfold partsP at hx
    split at hx
    · rename_i h3; simp only [List.mem_singleton] at hx; subst hx; exact Nat.le_trans (textS_size _ (h.p h3)) (by decide)
    · cases hx
theorem parts_len (r : Rc) : (partsA r ++ partsT r ++ partsP r).length ≤ 7 ∧ 0 < (partsA r ++ partsT r ++ partsP r).length := by
  have h1 : (partsA r).length = 5 := by simp [partsA, words, Rc.four]
  have h2 : (partsT r).length ≤ 1 := by unfold partsT; split <;> simp
  have h3 : (partsP r).length ≤ 1 := by unfold partsP; split <;> simp
  rw [List.length_append, List.length_append]; omega

set_option maxHeartbeats 4000000 in
theorem rwords_calls (r : Rc) (w : World) (ht : Tab w) (hr : r.fine) : Calls Tryd.prog 15 #[r.val] w fun e w' => e = .returned (.string (wordsS r)) ∧ Frm M0 w w' := by
  have HT := hid ht; clear ht
  have HY := hid hr; clear hr
  have HV : Hid (r.val = .agg #[.int .i64 r.k, .int .i64 r.e, .int .i64 r.w, .int .i64 r.n, .int .i64 r.q, .string r.t, .int .i64 r.p.s0, .int .i64 r.p.s1, .int .i64 r.p.s2, .int .i64 r.p.s3, .int .i64 r.p.s4, .int .i64 r.p.s5, .int .i64 r.p.s6, .int .i64 r.p.s7, .int .i64 r.p.s8, .int .i64 r.p.s9, .int .i64 r.p.s10, .int .i64 r.p.s11]) := rfl
  rw [HV.out]
  go_enter Tryd.func15, Tryd.ntmps15
  go_wp2_with (refine wpList_load_row rfl 26 (.tmp 1) (by with_reducible rfl) w.heap.size rfl _ _ _ _ (heap_alloc_last w _) Tryd.underlying26 rfl (by kernel_rfl) ?_)
  rw [← HV.out]
  refine (right_calls r _).mono ?_
  rintro _ w1 ⟨rfl, hf⟩
  obtain ⟨b, hb⟩ : ∃ b, b = w.heap.size := ⟨_, rfl⟩
  have HH := hid (hf.heap (heap_alloc_last w (.cells #[.int .i64 r.k, .int .i64 r.e, .int .i64 r.w, .int .i64 r.n, .int .i64 r.q, .string r.t, .int .i64 r.p.s0, .int .i64 r.p.s1, .int .i64 r.p.s2, .int .i64 r.p.s3, .int .i64 r.p.s4, .int .i64 r.p.s5, .int .i64 r.p.s6, .int .i64 r.p.s7, .int .i64 r.p.s8, .int .i64 r.p.s9, .int .i64 r.p.s10, .int .i64 r.p.s11] 26)) (fun h => h))
  have HF := hid (((Frm.refl M0 w).alloc (.cells #[.int .i64 r.k, .int .i64 r.e, .int .i64 r.w, .int .i64 r.n, .int .i64 r.q, .string r.t, .int .i64 r.p.s0, .int .i64 r.p.s1, .int .i64 r.p.s2, .int .i64 r.p.s3, .int .i64 r.p.s4, .int .i64 r.p.s5, .int .i64 r.p.s6, .int .i64 r.p.s7, .int .i64 r.p.s8, .int .i64 r.p.s9, .int .i64 r.p.s10, .int .i64 r.p.s11] 26)).then0 hf)
  rw [← hb] at HH ⊢
  rw [HV.out]
  clear hf hb
  obtain ⟨x, HX⟩ : ∃ x, Hid (rightB r = x) := ⟨_, rfl⟩
  rw [HX.out]
  cases x
  · go_wp2_with fail
    go_ret
    exact ⟨by unfold wordsS; rw [if_neg (by rw [HX.out]; decide)]; rfl, HF.out⟩
  have c0 : w1.cell? ⟨b, 0, none⟩ = some (.int .i64 r.k) := cell_at HH.out 0
  go_wp2_with fail
  refine (name_calls r.k _).mono ?_
  rintro _ w2 ⟨rfl, hf⟩
  have H2 := hid (hf.heap HH.out (fun h => h))
  have F2 := hid (HF.out.then0 hf)
  clear hf c0 HH HF
  go_upto_region 4 with fail
  have O3 := hid ((World.ownsRow_lit (base := w2.heap.size) (e := 9) (size := 1) w2 #[.string (nameS r.k)] 1 (Nat.le_refl _) (by unfold maxLen; omega) rfl))
  have H3 := hid (((Frm.refl M0 w2).alloc (.cells #[.string (nameS r.k)] 9)).heap H2.out (fun h => h))
  have F3 := hid (F2.out.alloc (.cells #[.string (nameS r.k)] 9))
  have hbs : b < w2.heap.size := (Array.getElem?_eq_some_iff.1 H2.out).1
  have hws : w.heap.size ≤ w2.heap.size := F2.out.size
  obtain ⟨s0, hs0⟩ : ∃ s0, s0 = w2.heap.size := ⟨_, rfl⟩
  obtain ⟨w3, hw3⟩ : ∃ x, x = w2.alloc (.cells #[.string (nameS r.k)] 9) := ⟨_, rfl⟩
  rw [← hw3, ← hs0] at O3
  rw [← hs0] at hbs hws
  have hs3 : s0 ≤ w3.heap.size := by rw [hs0, hw3]; exact ((Frm.refl M0 w2).alloc (.cells #[.string (nameS r.k)] 9)).size
  rw [← hw3] at H3 F3
  rw [← hw3, ← hs0]
  clear hw3 H2 F2 hs0
  have c1 : w3.cell? ⟨b, 1, none⟩ = some (.int .i64 r.e) := cell_at H3.out 1
  have c2 : w3.cell? ⟨b, 2, none⟩ = some (.int .i64 r.w) := cell_at H3.out 2
  have c3 : w3.cell? ⟨b, 3, none⟩ = some (.int .i64 r.n) := cell_at H3.out 3
  have c4 : w3.cell? ⟨b, 4, none⟩ = some (.int .i64 r.q) := cell_at H3.out 4
  go_wp2_with fail
  have H4 := hid (((Frm.refl M0 w3).alloc (.cells #[.int .i64 r.e, .int .i64 r.w, .int .i64 r.n, .int .i64 r.q] 3)).heap H3.out (fun h => h))
  have F4 := hid (F3.out.alloc (.cells #[.int .i64 r.e, .int .i64 r.w, .int .i64 r.n, .int .i64 r.q] 3))
  have O4 := hid (O3.out.alloc (.cells #[.int .i64 r.e, .int .i64 r.w, .int .i64 r.n, .int .i64 r.q] 3))
  have R4 := hid (Rd.ofOwns (World.ownsRow_lit (base := w3.heap.size) (e := 3) (size := 1) w3 #[.int .i64 r.e, .int .i64 r.w, .int .i64 r.n, .int .i64 r.q] 4 (Nat.le_refl _) (by unfold maxLen; omega) rfl))
  obtain ⟨g, hg⟩ : ∃ g, g = w3.heap.size := ⟨_, rfl⟩
  obtain ⟨w4, hw4⟩ : ∃ x, x = w3.alloc (.cells #[.int .i64 r.e, .int .i64 r.w, .int .i64 r.n, .int .i64 r.q] 3) := ⟨_, rfl⟩
  rw [← hw4] at H4 F4 O4 R4
  rw [← hg] at R4
  rw [← hw4, ← hg]
  have G4 := hid (show w4.heap[g]? = some (.cells #[.int .i64 r.e, .int .i64 r.w, .int .i64 r.n, .int .i64 r.q] 3 (0, 0)) by rw [hw4, hg]; exact new1 w3 _)
  have hs4 : s0 ≤ w4.heap.size := by rw [hw4]; exact Nat.le_trans hs3 ((Frm.refl M0 w3).alloc _).size
  clear hw4 H3 F3 O3 hg c1 c2 c3 c4
  obtain ⟨L, hL⟩ : ∃ L, L = r.four := ⟨_, rfl⟩
  have R5 : Hid (Rd w4 1 (.slice (some ⟨g, 0, none⟩) 4 4) L.length (ints .i64 L)) := by rw [hL]; exact R4
  have HA : Hid (partsA r = nameS r.k :: words L) := by rw [hL]; rfl
  have HP : Hid (∀ x ∈ L, -9223372036854775808 ≤ x ∧ x ≤ 9223372036854775807) := by rw [hL]; exact HY.out.ns
  have HN : Hid (L.length = 4) := by rw [hL]; rfl
  clear hL R4
  have HB := hid (And.intro hbs (And.intro hws hs4))
  clear hbs hws hs4 hs3
  go_loopw [3, 5, 23] (fun v3 _s5 i9 wr => ∃ k : Nat, k ≤ 4 ∧ i9 = .int .i64 k ∧ Hid (wr.ownsRow s0 9 1 v3 (nameS r.k :: words (L.take k)).length (strs (nameS r.k :: words (L.take k)))) ∧ Hid (Frm (fun x => s0 ≤ x ∧ x ≠ g) w4 wr)) (fun _ _ i _ => 4 - (intOf i).toNat)
  case atStart => exact ⟨0, Nat.zero_le _, rfl, O4, hid (Frm.refl _ _)⟩
  case round =>
    clear O4
    obtain ⟨k, hk, rfl, HO, HF⟩ := hrel
    have hlw : (nameS r.k :: words (L.take k)).length = k + 1 := by rw [List.length_cons, words_len, List.length_take, HN.out]; omega
    have HLW := hid hlw; clear hlw
    have hF : Frm M0 w wr := F4.out.trans HF.out (fun j hj hm => by have := HB.out.2.1; omega)
    have HFF := hid hF; clear hF
    have HG := hid (HF.out.heap G4.out (fun h => h.2 rfl))
    have HS : Hid (s0 ≤ wr.heap.size) := hid (Nat.le_trans HB.out.2.2 HF.out.size)
    by_cases hlt : k < 4
    · have hkL : k < L.length := by rw [HN.out]; exact hlt
      obtain ⟨x, HX, hc⟩ := (R5.out.frm HF.out (fun j hj h => h.2 (Option.some.inj hj).symm)).cellAt k hkL
      rw [Nat.zero_add] at hc
      have hx := HP.out x (List.mem_of_getElem? HX.out)
      have HXB := hid hx
      clear hx hkL
      go_wp2_with fail
      refine (itoa_calls x _ HXB.out.1 HXB.out.2 (HT.out.frm HFF.out)).mono ?_
      rintro _ w5 ⟨rfl, hf⟩
      have HO2 := hid (hf.owns HO.out (fun _ _ h => h))
      have HF2 := hid (HF.out.then0 hf)
      have HG2 := hid (hf.heap HG.out (fun h => h))
      clear hf hc
      go_wp2_with (first | (at_builtin; refine wpList_push_el strs_len strs_one rfl (.tmp 27) (.tmp 30) 62 rfl s0 9 (.string ⟨#[]⟩) 16 Tryd.underlying62 (by kernel_rfl) rfl (by decide) _ (nameS r.k :: words (L.take k)) (str (Lib.itoa x)) #[.string (str (Lib.itoa x))] rfl rfl HO2.out rfl (by rw [HLW.out]; omega) (by rw [HLW.out]; omega) (Nat.le_trans HB.out.2.2 HF2.out.size) ?_; intro v3 w6 ho3 hg3; have HO3 := hid ho3; have HG3 := hid hg3; clear ho3 hg3))
      refine ⟨⟨k + 1, by omega, by go_num, hid ?_, hid ?_⟩, by simp [intOf]; omega⟩
      · rw [take_snoc HX.out, ← words_snoc]; exact HO3.out
      · refine HF2.out.grown HG3.out (fun j hj hlt' => ⟨(HO2.out.lt j hj).1, ?_⟩)
        rintro rfl
        obtain ⟨c, fz, hcc⟩ := Lib.ownsRow_kind HO2.out _ hj
        rw [HG2.out] at hcc
        simp at hcc
    · obtain rfl : k = 4 := by omega
      have ht : L.take 4 = L := List.take_of_length_le (by rw [HN.out]; omega)
      have hO := HO.out
      rw [ht, ← HA.out] at hO
      have HO5 := hid hO
      have hH := HF.out.heap H4.out (fun h => by have := HB.out.1; omega)
      have HH := hid hH
      have HTT := hid (HT.out.frm HFF.out)
      clear HO hO ht hH HLW R5 HG
      -- behind the loop
      have HLA : Hid ((partsA r).length = 5) := by rw [HA.out]; exact hid (by rw [List.length_cons, words_len, HN.out])
      have c5 : wr.cell? ⟨b, 5, none⟩ = some (.string r.t) := cell_at HH.out 5
      have hj : ∀ (l : List ByteArray), l = partsA r ++ partsT r ++ partsP r → (Lib.join (l.map (·.data.toList)) [32]).length ≤ 140737488355328 := by
        rintro l rfl
        have h1 := joinS_size 100000 _ (parts_bound r HY.out)
        have h2 := (parts_len r).1
        exact Nat.le_trans h1 (Nat.le_trans (Nat.mul_le_mul_right _ h2) (by decide))
      have HJ := hid hj; clear hj
      by_cases hE : r.t.toList.isEmpty = true
      case pos =>
        have HE := hid hE
        go_upto_region 11 with fail
        clear c5 hE
        have c0 : wr.cell? ⟨b, 0, none⟩ = some (.int .i64 r.k) := cell_at HH.out 0
        by_cases hk : r.k = 3
        case neg =>
          have HK := hid hk
          have hkb : (r.k == 3) = false := beq_eq_false_iff_ne.2 hk
          clear hk
          go_upto_region 13 with fail
          clear c0 hkb
          have hR := Rd.ofOwns HO5.out
          obtain ⟨aj, cj, hjv, _⟩ := hR.shape
          have HRR := hid hR; clear hR
          have HEQ : Hid (partsA r = partsA r ++ partsT r ++ partsP r) := hid (by unfold partsT partsP; rw [if_pos HE.out, if_neg HK.out]; try simp)
          clear HO5
          subst hjv
          go_wp2_with fail
          refine (join_calls _ (partsA r) ⟨#[32]⟩ _ HRR.out (by rw [HLA.out]; omega) (by rw [HLA.out]; omega) (HJ.out _ HEQ.out)).mono ?_
          rintro _ wz ⟨rfl, hf⟩
          go_wp2_with fail
          go_ret
          exact ⟨by unfold wordsS; rw [if_pos HX.out, ← HEQ.out]; rfl, HFF.out.then0 hf⟩
        case pos =>
          have HK := hid hk
          have hkb : (r.k == 3) = true := beq_iff_eq.2 hk
          clear hk
          have HPV : Hid (r.p.val = .agg #[.int .i64 r.p.s0, .int .i64 r.p.s1, .int .i64 r.p.s2, .int .i64 r.p.s3, .int .i64 r.p.s4, .int .i64 r.p.s5, .int .i64 r.p.s6, .int .i64 r.p.s7, .int .i64 r.p.s8, .int .i64 r.p.s9, .int .i64 r.p.s10, .int .i64 r.p.s11]) := rfl
          go_upto_region 12 with fail
          clear c0 hkb
          go_wp2_with (refine wpList_load_at (by kernel_rfl) 24 (.tmp 45) (by with_reducible rfl) b 6 (by kernel_rfl) _ _ _ HH.out #[.int .i64 r.p.s0, .int .i64 r.p.s1, .int .i64 r.p.s2, .int .i64 r.p.s3, .int .i64 r.p.s4, .int .i64 r.p.s5, .int .i64 r.p.s6, .int .i64 r.p.s7, .int .i64 r.p.s8, .int .i64 r.p.s9, .int .i64 r.p.s10, .int .i64 r.p.s11] (by kernel_rfl) (by simp) _ Tryd.underlying24 rfl (by kernel_rfl) ?_)
          rw [← HPV.out]
          refine (stext_calls r.p _ (HT.out.frm HFF.out) (HY.out.p HK.out)).mono ?_
          rintro _ w8 ⟨rfl, hf⟩
          have HO8 := hid (hf.owns HO5.out (fun _ _ h => h))
          have F8 := hid (HFF.out.then0 hf)
          have Z8 : Hid (s0 ≤ w8.heap.size) := hid (Nat.le_trans HS.out hf.size)
          clear hf
          go_upto_region 13 with (at_builtin; refine wpList_push_el strs_len strs_one rfl (.tmp 44) (.tmp 48) 62 rfl s0 9 (.string ⟨#[]⟩) 16 Tryd.underlying62 (by kernel_rfl) rfl (by decide) _ (partsA r) (textS r.p) #[.string (textS r.p)] rfl rfl HO8.out rfl (by rw [HLA.out]; omega) (by rw [HLA.out]; omega) Z8.out ?_; intro v9 w9 ho hg; have HO9 := hid ho; have HG9 := hid hg; clear ho hg)
          have F9 := hid (F8.out.grown HG9.out (fun j hj hlt' => absurd (HO8.out.lt j hj).1 (by have := HB.out.2.1; omega)))
          have HL9 : Hid ((partsA r ++ [textS r.p]).length = 6) := hid (by rw [List.length_append, HLA.out]; rfl)
          clear HG9 HO8 HO5
          have hR := Rd.ofOwns HO9.out
          obtain ⟨aj, cj, hjv, _⟩ := hR.shape
          have HRR := hid hR; clear hR
          have HEQ : Hid (partsA r ++ [textS r.p] = partsA r ++ partsT r ++ partsP r) := hid (by unfold partsT partsP; rw [if_pos HE.out, if_pos HK.out]; try simp)
          clear HO9
          subst hjv
          go_wp2_with fail
          refine (join_calls _ (partsA r ++ [textS r.p]) ⟨#[32]⟩ _ HRR.out (by rw [HL9.out]; omega) (by rw [HL9.out]; omega) (HJ.out _ HEQ.out)).mono ?_
          rintro _ wz ⟨rfl, hf⟩
          go_wp2_with fail
          go_ret
          exact ⟨by unfold wordsS; rw [if_pos HX.out, ← HEQ.out]; rfl, F9.out.then0 hf⟩
      case neg =>
        have HE := hid hE
        have hE2 : r.t.toList.isEmpty = false := by simpa using hE
        clear hE
        go_upto_region 11 with (at_builtin; refine wpList_push_el strs_len strs_one rfl (.tmp 36) (.tmp 39) 62 rfl s0 9 (.string ⟨#[]⟩) 16 Tryd.underlying62 (by kernel_rfl) rfl (by decide) _ (partsA r) r.t #[.string r.t] rfl rfl HO5.out rfl (by rw [HLA.out]; omega) (by rw [HLA.out]; omega) HS.out ?_; intro v7 w7 ho hg; have HO7 := hid ho; have HG7 := hid hg; clear ho hg)
        have hq : Frm (fun x => s0 ≤ x) wr w7 := (Frm.refl _ _).grown HG7.out (fun j hj _ => (HO5.out.lt j hj).1)
        have H7 := hid (hq.heap HH.out (fun h => by have h' : s0 ≤ b := h; have := HB.out.1; omega))
        have F7 := hid (HFF.out.trans hq (fun j hj hm => by have hm' : s0 ≤ j := hm; have := HB.out.2.1; omega))
        have Z7 : Hid (s0 ≤ w7.heap.size) := hid (Nat.le_trans HS.out hq.size)
        have HL7 : Hid ((partsA r ++ [r.t]).length = 6) := hid (by rw [List.length_append, HLA.out]; rfl)
        clear c5 hE2 hq HG7 HO5
        have c0 : w7.cell? ⟨b, 0, none⟩ = some (.int .i64 r.k) := cell_at H7.out 0
        by_cases hk : r.k = 3
        case neg =>
          have HK := hid hk
          have hkb : (r.k == 3) = false := beq_eq_false_iff_ne.2 hk
          clear hk
          go_upto_region 13 with fail
          clear c0 hkb
          have hR := Rd.ofOwns HO7.out
          obtain ⟨aj, cj, hjv, _⟩ := hR.shape
          have HRR := hid hR; clear hR
          have HEQ : Hid (partsA r ++ [r.t] = partsA r ++ partsT r ++ partsP r) := hid (by unfold partsT partsP; rw [if_neg HE.out, if_neg HK.out]; try simp)
          clear HO7
          subst hjv
          go_wp2_with fail
          refine (join_calls _ (partsA r ++ [r.t]) ⟨#[32]⟩ _ HRR.out (by rw [HL7.out]; omega) (by rw [HL7.out]; omega) (HJ.out _ HEQ.out)).mono ?_
          rintro _ wz ⟨rfl, hf⟩
          go_wp2_with fail
          go_ret
          exact ⟨by unfold wordsS; rw [if_pos HX.out, ← HEQ.out]; rfl, F7.out.then0 hf⟩
        case pos =>
          have HK := hid hk
          have hkb : (r.k == 3) = true := beq_iff_eq.2 hk
          clear hk
          have HPV : Hid (r.p.val = .agg #[.int .i64 r.p.s0, .int .i64 r.p.s1, .int .i64 r.p.s2, .int .i64 r.p.s3, .int .i64 r.p.s4, .int .i64 r.p.s5, .int .i64 r.p.s6, .int .i64 r.p.s7, .int .i64 r.p.s8, .int .i64 r.p.s9, .int .i64 r.p.s10, .int .i64 r.p.s11]) := rfl
          go_upto_region 12 with fail
          clear c0 hkb
          go_wp2_with (refine wpList_load_at (by kernel_rfl) 24 (.tmp 45) (by with_reducible rfl) b 6 (by kernel_rfl) _ _ _ H7.out #[.int .i64 r.p.s0, .int .i64 r.p.s1, .int .i64 r.p.s2, .int .i64 r.p.s3, .int .i64 r.p.s4, .int .i64 r.p.s5, .int .i64 r.p.s6, .int .i64 r.p.s7, .int .i64 r.p.s8, .int .i64 r.p.s9, .int .i64 r.p.s10, .int .i64 r.p.s11] (by kernel_rfl) (by simp) _ Tryd.underlying24 rfl (by kernel_rfl) ?_)
          rw [← HPV.out]
          refine (stext_calls r.p _ (HT.out.frm F7.out) (HY.out.p HK.out)).mono ?_
          rintro _ w8 ⟨rfl, hf⟩
          have HO8 := hid (hf.owns HO7.out (fun _ _ h => h))
          have F8 := hid (F7.out.then0 hf)
          have Z8 : Hid (s0 ≤ w8.heap.size) := hid (Nat.le_trans Z7.out hf.size)
          clear hf
          go_upto_region 13 with (at_builtin; refine wpList_push_el strs_len strs_one rfl (.tmp 44) (.tmp 48) 62 rfl s0 9 (.string ⟨#[]⟩) 16 Tryd.underlying62 (by kernel_rfl) rfl (by decide) _ (partsA r ++ [r.t]) (textS r.p) #[.string (textS r.p)] rfl rfl HO8.out rfl (by rw [HL7.out]; omega) (by rw [HL7.out]; omega) Z8.out ?_; intro v9 w9 ho hg; have HO9 := hid ho; have HG9 := hid hg; clear ho hg)
          have F9 := hid (F8.out.grown HG9.out (fun j hj hlt' => absurd (HO8.out.lt j hj).1 (by have := HB.out.2.1; omega)))
          have HL9 : Hid ((partsA r ++ [r.t] ++ [textS r.p]).length = 7) := hid (by rw [List.length_append, HL7.out]; rfl)
          clear HG9 HO8 HO7
          have hR := Rd.ofOwns HO9.out
          obtain ⟨aj, cj, hjv, _⟩ := hR.shape
          have HRR := hid hR; clear hR
          have HEQ : Hid (partsA r ++ [r.t] ++ [textS r.p] = partsA r ++ partsT r ++ partsP r) := hid (by unfold partsT partsP; rw [if_neg HE.out, if_pos HK.out]; try simp)
          clear HO9
          subst hjv
          go_wp2_with fail
          refine (join_calls _ (partsA r ++ [r.t] ++ [textS r.p]) ⟨#[32]⟩ _ HRR.out (by rw [HL9.out]; omega) (by rw [HL9.out]; omega) (HJ.out _ HEQ.out)).mono ?_
          rintro _ wz ⟨rfl, hf⟩
          go_wp2_with fail
          go_ret
          exact ⟨by unfold wordsS; rw [if_pos HX.out, ← HEQ.out]; rfl, F9.out.then0 hf⟩
end Go.Proofs.YtinbidmgllmglaaDoor
