/- SpecRules: the walk of the law. No condition. -/
import Derived.Test.YtinbidmgllmglaaDoorQ5a
namespace Go.Proofs.YtinbidmgllmglaaDoor
set_option linter.unusedVariables false
set_option linter.unusedSimpArgs false
set_option maxRecDepth 20000
open Go.RowKit

theorem st_first {s n : Int} (h : stepF s n 0 true = true) : if s = 0 then 1 ≤ n ∧ n ≤ 100 else n = 0 := by
  rw [step_first] at h
  by_cases hs : s = 0
  · simp [hs, btw_true] at h ⊢; exact h
  · simp [hs] at h ⊢; exact h
theorem st_next {s n last : Int} (h0 : 0 ≤ last) (h1 : last ≤ 100) (h : stepF s n last false = true) : if s = 0 then n = 0 ∨ 0 < last ∧ last < n ∧ n ≤ 100 else n = 0 := by
  rw [step_next s n last h0 h1] at h
  unfold rstepF at h
  have hw : wrap64 (last + 1) = last + 1 := by unfold wrap64; omega
  by_cases hs : s = 0
  · subst hs
    simp only [if_true]
    by_cases hn : n = 0
    · exact .inl hn
    · right
      simp [hn, btw_true, hw] at h
      omega
  · rw [if_neg hs]
    simpa [hs] using h
/-- What holds of the steps of a spec that may be. -/
def Rising (l : List Int) : Prop := (∀ (k : Nat) (x : Int), l[k]? = some x → 1 ≤ x ∧ x ≤ 100) ∧ ∀ (k : Nat) (x y : Int), l[k]? = some y → l[k + 1]? = some x → y < x
theorem rising_steps {s a b c d : Int} (h1 : if s = 0 then 1 ≤ a ∧ a ≤ 100 else a = 0) (h2 : if s = 0 then b = 0 ∨ 0 < a ∧ a < b ∧ b ≤ 100 else b = 0) (h3 : if s = 0 then c = 0 ∨ 0 < b ∧ b < c ∧ c ≤ 100 else c = 0) (h4 : if s = 0 then d = 0 ∨ 0 < c ∧ c < d ∧ d ≤ 100 else d = 0) :
    Rising ([a, b, c, d].takeWhile (fun n => n != 0)) ∧ (0 < ([a, b, c, d].takeWhile (fun n => n != 0)).length ↔ s = 0) ∧ ([a, b, c, d].takeWhile (fun n => n != 0)).length ≤ 4 := by
  have hle := (List.takeWhile_sublist (p := fun n : Int => n != 0) (l := [a, b, c, d])).length_le
  simp only [List.length_cons, List.length_nil] at hle
  have key : ∀ l : List Int, l ≠ [] → (∀ x ∈ l, 1 ≤ x ∧ x ≤ 100) → (∀ (k : Nat) (x y : Int), l[k]? = some y → l[k + 1]? = some x → y < x) → s = 0 → Rising l ∧ (0 < l.length ↔ s = 0) := fun l h0 h5 h6 h7 =>
    ⟨⟨fun k x hx => h5 x (List.mem_of_getElem? hx), h6⟩, by constructor; (intro _; exact h7); intro _; exact List.length_pos_iff.2 h0⟩
  by_cases hs : s = 0
  · rw [if_pos hs] at h1 h2 h3 h4
    have ha : a ≠ 0 := by omega
    by_cases hb : b = 0
    · have e : [a, b, c, d].takeWhile (fun n => n != 0) = [a] := by simp [List.takeWhile_cons, ha, hb]
      rw [e]
      have := key [a] (by simp) (by simpa using h1) (by intro k x y _ hx; simp at hx) hs
      exact ⟨this.1, this.2, by simp⟩
    · by_cases hc : c = 0
      · have e : [a, b, c, d].takeWhile (fun n => n != 0) = [a, b] := by simp [List.takeWhile_cons, ha, hb, hc]
        rw [e]
        have := key [a, b] (by simp) (by intro x hx; simp at hx; omega) (by
          intro k x y hy hx
          rcases k with _ | k
          · simp at hx hy; omega
          · simp at hx) hs
        exact ⟨this.1, this.2, by simp⟩
      · by_cases hd : d = 0
        · have e : [a, b, c, d].takeWhile (fun n => n != 0) = [a, b, c] := by simp [List.takeWhile_cons, ha, hb, hc, hd]
          rw [e]
          have := key [a, b, c] (by simp) (by intro x hx; simp at hx; omega) (by
            intro k x y hy hx
            rcases k with _ | _ | k
            · simp at hx hy; omega
            · simp at hx hy; omega
            · simp at hx) hs
          exact ⟨this.1, this.2, by simp⟩
        · have e : [a, b, c, d].takeWhile (fun n => n != 0) = [a, b, c, d] := by simp [List.takeWhile_cons, ha, hb, hc, hd]
          rw [e]
          have := key [a, b, c, d] (by simp) (by intro x hx; simp at hx; omega) (by
            intro k x y hy hx
            rcases k with _ | _ | _ | k
            · simp at hx hy; omega
            · simp at hx hy; omega
            · simp at hx hy; omega
            · simp at hx) hs
          exact ⟨this.1, this.2, by simp⟩
  · rw [if_neg hs] at h1
    have e : [a, b, c, d].takeWhile (fun n => n != 0) = [] := by simp [List.takeWhile_cons, h1]
    rw [e]
    exact ⟨⟨fun k x hx => by simp at hx, fun k x y hx => by simp at hx⟩, by simp [hs], by simp⟩
/-- What the document promises of a spec that may be. -/
structure Rules (p : Sp) : Prop where
  d : 1 ≤ p.s1 ∧ p.s1 ≤ 16
  lo : needF 0 p.s1 p.s3 = p.s1 - p.s3
  hi : roomF 0 p.s1 p.s2 = p.s1 + p.s2
  u : 0 ≤ p.s3 ∧ p.s3 ≤ p.s1 ∧ 0 ≤ p.s2 ∧ p.s2 ≤ 16 - p.s1 ∧ (0 < p.s3 ∨ 0 < p.s2)
  st : 0 ≤ p.s4 ∧ p.s4 ≤ 2 ∧ (p.s4 = 2 → p.s1 ≤ p.s2)
  ends : 1 ≤ p.s9 ∧ 1 ≤ p.s11
  steps : Rising (stepsF p) ∧ (0 < (stepsF p).length ↔ p.s4 = 0) ∧ (stepsF p).length ≤ 4
theorem rules_of {p : Sp} (h : p.chkE = 0) : Rules p := by
  rw [chkE_zero] at h
  unfold Sp.conds at h
  simp only [List.all_cons, List.all_nil, id_eq, Bool.and_true, Bool.and_eq_true, btw_true, IntWalk.i64_left, Bool.or_eq_true, decide_eq_true_eq, bne_iff_ne] at h
  obtain ⟨h0, h1, h2, h3, h4, h5, h6, h7, h8, h9, h10, h11⟩ := h
  have hw : wrap64 (16 - p.s1) = 16 - p.s1 := by unfold wrap64; omega
  rw [hw] at h2
  have b5 := stepF_le (s := p.s4) (n := p.s5) (last := 0) (f := true) h5 (by omega)
  have b6 := stepF_le (s := p.s4) (n := p.s6) (last := p.s5) (f := false) h6 b5.1
  have b7 := stepF_le (s := p.s4) (n := p.s7) (last := p.s6) (f := false) h7 b6.1
  refine ⟨h1, ?_, ?_, ?_, ?_, ⟨h9.1, h11.1⟩, rising_steps (st_first h5) (st_next b5.1 b5.2 h6) (st_next b6.1 b6.2 h7) (st_next b7.1 b7.2 h8)⟩
  · unfold needF leastF cutF; omega
  · unfold roomF cutF; omega
  · omega
  · omega

set_option maxRecDepth 20000 in
set_option maxHeartbeats 16000000 in
theorem specRules_walk (W : World) (hg : Glob W) (s : Sp) (hok : s.ok) :
    Calls Tryd.prog 8 #[s.val] W fun y w' => y = .returned (.bool true) ∧ Below W.heap.size W w' := by
  have HG := hid hg
  clear hg hok
  have HVs : Hid (s.val = .agg #[.int .i64 s.s0, .int .i64 s.s1, .int .i64 s.s2, .int .i64 s.s3, .int .i64 s.s4, .int .i64 s.s5, .int .i64 s.s6, .int .i64 s.s7, .int .i64 s.s8, .int .i64 s.s9, .int .i64 s.s10, .int .i64 s.s11]) := rfl
  rw [HVs.out]
  go_enter Tryd.func8, Tryd.ntmps8
  go_wp2_with fail
  refine (slives_calls _ (HG.out.frm ((Frm.refl M0 W).alloc _))).mono ?_
  rintro _ w1 ⟨rfl, hf⟩
  obtain ⟨b, hb⟩ : ∃ x, x = W.heap.size := ⟨_, rfl⟩
  have S1 : Hid (Sb M0 w1 fun x => x.heap[b]? = some (.cells #[.int .i64 s.s0, .int .i64 s.s1, .int .i64 s.s2, .int .i64 s.s3, .int .i64 s.s4, .int .i64 s.s5, .int .i64 s.s6, .int .i64 s.s7, .int .i64 s.s8, .int .i64 s.s9, .int .i64 s.s10, .int .i64 s.s11] 24 (0, 0)) ∧ Frm M0 W x) :=
    hid fun wx hx => ⟨hb ▸ (hf.same hx).heap (new1 W _) (fun h => h), (((Frm.refl M0 W).alloc _).then0 hf).then0 hx⟩
  rw [← hb]
  clear hb hf HG
  go_upto_region 4 with (first | (refine wpList_load_row_w (by kernel_rfl) 24 (.tmp 1) (by with_reducible rfl) b (by kernel_rfl) _ _ _ _ S1.out.now.1 Tryd.underlying24 rfl (by kernel_rfl) ?_) | (refine wpList_store_row rfl 24 (.tmp 3) (.tmp 14) (by with_reducible rfl) w1.heap.size #[.int .i64 s.s0, .int .i64 s.s1, .int .i64 s.s2, .int .i64 s.s3, .int .i64 s.s4, .int .i64 s.s5, .int .i64 s.s6, .int .i64 s.s7, .int .i64 s.s8, .int .i64 s.s9, .int .i64 s.s10, .int .i64 s.s11] (by kernel_rfl) (by kernel_rfl) _ _ (new1 w1 _) (by kernel_rfl) (by rfl) (by simp [Value.oneCell']) ?_))
  have hfr := ((Frm.refl M0 w1).alloc (.cells #[.int .i64 0, .int .i64 0, .int .i64 0, .int .i64 0, .int .i64 0, .int .i64 0, .int .i64 0, .int .i64 0, .int .i64 0, .int .i64 0, .int .i64 0, .int .i64 0] 24)).setRow w1.heap.size #[.int .i64 s.s0, .int .i64 s.s1, .int .i64 s.s2, .int .i64 s.s3, .int .i64 s.s4, .int .i64 s.s5, .int .i64 s.s6, .int .i64 s.s7, .int .i64 s.s8, .int .i64 s.s9, .int .i64 s.s10, .int .i64 s.s11] (Nat.le_refl _)
  have hP3 := setRow_heap _ w1.heap.size _ #[.int .i64 s.s0, .int .i64 s.s1, .int .i64 s.s2, .int .i64 s.s3, .int .i64 s.s4, .int .i64 s.s5, .int .i64 s.s6, .int .i64 s.s7, .int .i64 s.s8, .int .i64 s.s9, .int .i64 s.s10, .int .i64 s.s11] _ _ (new1 w1 (.cells #[.int .i64 0, .int .i64 0, .int .i64 0, .int .i64 0, .int .i64 0, .int .i64 0, .int .i64 0, .int .i64 0, .int .i64 0, .int .i64 0, .int .i64 0, .int .i64 0] 24))
  obtain ⟨c, hblk⟩ : ∃ x, x = w1.heap.size := ⟨_, rfl⟩
  have hcs : w1.heap.size ≤ c := by omega
  have HCS : Hid (W.heap.size ≤ c) := hid (by have := S1.out.now.2.size; omega)
  obtain ⟨w2, hwn⟩ : ∃ x, x = (w1.alloc (.cells #[.int .i64 0, .int .i64 0, .int .i64 0, .int .i64 0, .int .i64 0, .int .i64 0, .int .i64 0, .int .i64 0, .int .i64 0, .int .i64 0, .int .i64 0, .int .i64 0] 24)).setRow w1.heap.size #[.int .i64 s.s0, .int .i64 s.s1, .int .i64 s.s2, .int .i64 s.s3, .int .i64 s.s4, .int .i64 s.s5, .int .i64 s.s6, .int .i64 s.s7, .int .i64 s.s8, .int .i64 s.s9, .int .i64 s.s10, .int .i64 s.s11] := ⟨_, rfl⟩
  rw [← hwn] at hfr hP3
  rw [← hwn]
  rw [← hblk] at hP3 ⊢
  clear hwn hblk
  have S2 := hid (S1.out.step hfr)
  have HC2 := hid hP3
  have hcb : b ≠ c := fun e => by
    have h1 := sb_lt S1.out.now.1
    have h2 := hcs
    omega
  have HCB := hid hcb
  clear hfr hP3 S1 hcb hcs
  go_wp2_with (refine wpList_load_row_w (by kernel_rfl) 24 (.tmp 1) (by with_reducible rfl) b (by kernel_rfl) _ _ _ _ S2.out.now.1 Tryd.underlying24 rfl (by kernel_rfl) ?_)
  rw [← HVs.out]
  refine (check_calls s _).mono ?_
  rintro _ w3 ⟨rfl, hf⟩
  rw [HVs.out]
  have S3 := hid (S2.out.step hf)
  have HC3 := hid (hf.heap HC2.out (fun h => h))
  clear hf S2 HC2
  rcases chkE_cases s with h | h
  · obtain ⟨G, HGE⟩ : ∃ G, Hid (G = s) := ⟨_, rfl⟩
    have HGK : Hid (G.chkE = 0) := hid (by rw [HGE.out]; exact h)
    have HRU := hid (rules_of HGK.out)
    have HVG : Hid (G.val = .agg #[.int .i64 G.s0, .int .i64 G.s1, .int .i64 G.s2, .int .i64 G.s3, .int .i64 G.s4, .int .i64 G.s5, .int .i64 G.s6, .int .i64 G.s7, .int .i64 G.s8, .int .i64 G.s9, .int .i64 G.s10, .int .i64 G.s11]) := rfl
    rw [h]
    have S4 : Hid (Sb M0 w3 fun x => (x.heap[b]? = some (.cells #[.int .i64 s.s0, .int .i64 s.s1, .int .i64 s.s2, .int .i64 s.s3, .int .i64 s.s4, .int .i64 s.s5, .int .i64 s.s6, .int .i64 s.s7, .int .i64 s.s8, .int .i64 s.s9, .int .i64 s.s10, .int .i64 s.s11] 24 (0, 0)) ∧ Frm M0 W x) ∧ x.heap[c]? = some (.cells #[.int .i64 G.s0, .int .i64 G.s1, .int .i64 G.s2, .int .i64 G.s3, .int .i64 G.s4, .int .i64 G.s5, .int .i64 G.s6, .int .i64 G.s7, .int .i64 G.s8, .int .i64 G.s9, .int .i64 G.s10, .int .i64 G.s11] 24 (0, 0))) := hid (by rw [HGE.out]; exact S3.out.and (Sb.heap HC3.out (fun h => h)))
    clear h S3 HC3
    go_wp2_with (refine wpList_load_row_w (by kernel_rfl) 24 (.tmp 3) (by with_reducible rfl) c (by kernel_rfl) _ _ _ _ S4.out.now.2 Tryd.underlying24 rfl (by kernel_rfl) ?_)
    rw [← HVG.out]
    refine (check_calls G _).mono ?_
    rintro _ w5 ⟨rfl, hf⟩
    rw [HVG.out, HGK.out]
    have S5 := hid (S4.out.step hf)
    clear hf S4
    go_wp2_with (refine wpList_load_row_w (by kernel_rfl) 24 (.tmp 3) (by with_reducible rfl) c (by kernel_rfl) _ _ _ _ S5.out.now.2 Tryd.underlying24 rfl (by kernel_rfl) ?_)
    rw [← HVG.out]
    refine (budget_calls G _).mono ?_
    rintro _ w6 ⟨rfl, hf⟩
    rw [HVG.out, HRU.out.lo, HRU.out.hi]
    have S6 := hid (S5.out.step hf)
    clear hf S5
    go_wp2_with (refine wpList_load_row_w (by kernel_rfl) 24 (.tmp 3) (by with_reducible rfl) c (by kernel_rfl) _ _ _ _ S6.out.now.2 Tryd.underlying24 rfl (by kernel_rfl) ?_)
    rw [← HVG.out]
    refine (steps_calls G _).mono ?_
    rintro _ w7 ⟨v, rfl, ho, hf⟩
    rw [HVG.out]
    obtain ⟨L, HL⟩ : ∃ x, Hid (stepsF G = x) := ⟨_, rfl⟩
    rw [HL.out] at ho
    have HST : Hid (Rising L ∧ (0 < L.length ↔ G.s4 = 0) ∧ L.length ≤ 4) := hid (by rw [← HL.out]; exact HRU.out.steps)
    have hL4 := HST.out.2.2
    have HR7 := hid (Rd.ofOwns ho)
    obtain ⟨a7, c7, rfl, hsh⟩ := HR7.out.shape
    have HSH := hid hsh
    have S7 := hid ((S6.out.step hf).and (Sb.rd HR7.out (fun _ _ h => h)))
    clear hf ho S6 HR7 hsh
    go_wp2_with fail
    go_loopw [11] (fun i11 wr => ∃ k : Nat, k ≤ L.length ∧ i11 = .int .i64 k ∧ Hid (Frm M0 w7 wr)) (fun i _ => L.length - (intOf i).toNat)
    case atStart => exact ⟨0, Nat.zero_le _, rfl, hid (Frm.refl _ _)⟩
    case round =>
      obtain ⟨k, hk, rfl, HF⟩ := hrel
      have S8 := hid (S7.out.step HF.out)
      by_cases hlt : k < L.length
      · obtain ⟨b7, o7, rfl⟩ := HSH.out (by omega)
        have hltI : (k : Int) < (L.length : Int) := by omega
        obtain ⟨x, HX, hc⟩ := S8.out.now.2.cellAt k hlt
        have HCX := hid hc
        have hx := HST.out.1.1 k x HX.out
        have q1 : ¬ x < 1 := by omega
        have q2 : ¬ 100 < x := by omega
        clear hc hx
        by_cases hk0 : 0 < k
        · obtain ⟨y, HY, hc⟩ := S8.out.now.2.cellAt (k - 1) (by omega)
          have HCY := hid hc
          have hy := HST.out.1.2 (k - 1) x y HY.out (by rw [show k - 1 + 1 = k by omega]; exact HX.out)
          have q3 : (0 : Int) < k := by omega
          have q4 : ¬ x ≤ y := by omega
          have h1 : IntKind.i64.wrap ((k : Int) - 1) = (k : Int) - 1 := IntWalk.i64_in _ (by omega)
          have h2 : ((k : Int) - 1).toNat = k - 1 := by omega
          have H1 := hid h1
          have H2 := hid h2
          clear hc hy h1 h2
          go_wp2_with fail
          apply wp_region_G 27 (fun _ => none) (valsL (_ :: _ :: _ :: _ :: _ :: _ :: _ :: _ :: _ :: _ :: _ :: _ :: _ :: _ :: _ :: _ :: _ :: _ :: _ :: _ :: _ :: _ :: _ :: _ :: _ :: _ :: _ :: [])) ?hm1 ?hB1 ?hal1 ?main1
          case hm1 => kernel_rfl
          case hB1 => kernel_rfl
          case hal1 =>
            intro i o obj ho hi
            cases hi
          rotate_left 27
          intro ops QT HO HQ
          obtain ⟨ho0, HO⟩ := HO
          refine wpG_v ho0.out rfl ?_ ?_
          · simp only [valsL_zero, valsL_succ]; apply FY_in rfl; intro wx hx
            go_simp
            exact ⟨rfl, rfl⟩
          simp only [Act.put, List.setIfInBounds_toArray, List.set_cons_zero, List.set_cons_succ, valsL_zero, valsL_succ]
          obtain ⟨ho1, HO⟩ := HO
          refine wpG_v ho1.out rfl ?_ ?_
          · simp only [valsL_zero, valsL_succ]; apply FY_in rfl; intro wx hx
            go_simp
            exact ⟨rfl, rfl⟩
          simp only [Act.put, List.setIfInBounds_toArray, List.set_cons_zero, List.set_cons_succ, valsL_zero, valsL_succ]
          obtain ⟨ho2, HO⟩ := HO
          refine wpG_v ho2.out rfl ?_ ?_
          · simp only [valsL_zero, valsL_succ]; apply FY_in rfl; intro wx hx
            go_simp
            exact ⟨rfl, rfl⟩
          simp only [Act.put, List.setIfInBounds_toArray, List.set_cons_zero, List.set_cons_succ, valsL_zero, valsL_succ]
          obtain ⟨ho3, HO⟩ := HO
          refine wpG_v ho3.out rfl ?_ ?_
          · simp only [valsL_zero, valsL_succ]; apply FY_in rfl; intro wx hx
            have hc := hx.cell HCX.out (fun h => h)
            go_simp
            exact ⟨rfl, rfl⟩
          simp only [Act.put, List.setIfInBounds_toArray, List.set_cons_zero, List.set_cons_succ, valsL_zero, valsL_succ]
          obtain ⟨ho4, HO⟩ := HO
          refine wpG_v ho4.out rfl ?_ ?_
          · simp only [valsL_zero, valsL_succ]; apply FY_in rfl; intro wx hx
            have hd : decide (x < 1) = false := decide_eq_false (by omega)
            go_simp
            exact ⟨rfl, rfl⟩
          simp only [Act.put, List.setIfInBounds_toArray, List.set_cons_zero, List.set_cons_succ, valsL_zero, valsL_succ]
          obtain ⟨ho5, HO⟩ := HO
          refine wpG_v ho5.out rfl ?_ ?_
          · simp only [valsL_zero, valsL_succ]; apply FY_in rfl; intro wx hx
            go_simp
            exact ⟨rfl, rfl⟩
          simp only [Act.put, List.setIfInBounds_toArray, List.set_cons_zero, List.set_cons_succ, valsL_zero, valsL_succ]
          obtain ⟨ho6, HO⟩ := HO
          refine wpG_v ho6.out rfl ?_ ?_
          · simp only [valsL_zero, valsL_succ]; apply FY_yes (d := 49) rfl ho5.out (by rfl) (by kernel_rfl); intro wx hx
            go_simp
            exact ⟨rfl, rfl⟩
          simp only [Act.put, List.setIfInBounds_toArray, List.set_cons_zero, List.set_cons_succ, valsL_zero, valsL_succ]
          obtain ⟨ho7, HO⟩ := HO
          refine wpG_v ho7.out rfl ?_ ?_
          · simp only [valsL_zero, valsL_succ]; apply FY_yes (d := 49) rfl ho5.out (by rfl) (by kernel_rfl); intro wx hx
            go_simp
            exact ⟨rfl, rfl⟩
          simp only [Act.put, List.setIfInBounds_toArray, List.set_cons_zero, List.set_cons_succ, valsL_zero, valsL_succ]
          obtain ⟨ho8, HO⟩ := HO
          refine wpG_v ho8.out rfl ?_ ?_
          · simp only [valsL_zero, valsL_succ]; apply FY_yes (d := 49) rfl ho5.out (by rfl) (by kernel_rfl); intro wx hx
            go_simp
            exact ⟨rfl, rfl⟩
          simp only [Act.put, List.setIfInBounds_toArray, List.set_cons_zero, List.set_cons_succ, valsL_zero, valsL_succ]
          obtain ⟨ho9, HO⟩ := HO
          refine wpG_v ho9.out rfl ?_ ?_
          · simp only [valsL_zero, valsL_succ]; apply FY_yes (d := 49) rfl ho5.out (by rfl) (by kernel_rfl); intro wx hx
            have hc := hx.cell HCX.out (fun h => h)
            go_simp
            exact ⟨rfl, rfl⟩
          simp only [Act.put, List.setIfInBounds_toArray, List.set_cons_zero, List.set_cons_succ, valsL_zero, valsL_succ]
          obtain ⟨ho10, HO⟩ := HO
          refine wpG_v ho10.out rfl ?_ ?_
          · simp only [valsL_zero, valsL_succ]; apply FY_yes (d := 49) rfl ho5.out (by rfl) (by kernel_rfl); intro wx hx
            have hd : decide (100 < x) = false := decide_eq_false (by omega)
            go_simp
            exact ⟨rfl, rfl⟩
          simp only [Act.put, List.setIfInBounds_toArray, List.set_cons_zero, List.set_cons_succ, valsL_zero, valsL_succ]
          obtain ⟨ho11, HO⟩ := HO
          refine wpG_v ho11.out rfl ?_ ?_
          · simp only [valsL_zero, valsL_succ]; apply FY_in rfl; intro wx hx
            go_simp
            exact ⟨rfl, rfl⟩
          simp only [Act.put, List.setIfInBounds_toArray, List.set_cons_zero, List.set_cons_succ, valsL_zero, valsL_succ]
          obtain ⟨ho12, HO⟩ := HO
          refine wpG_v ho12.out rfl ?_ ?_
          · simp only [valsL_zero, valsL_succ]; apply FY_in rfl; intro wx hx
            go_simp
            exact ⟨rfl, rfl⟩
          simp only [Act.put, List.setIfInBounds_toArray, List.set_cons_zero, List.set_cons_succ, valsL_zero, valsL_succ]
          obtain ⟨ho13, HO⟩ := HO
          refine wpG_v ho13.out rfl ?_ ?_
          · simp only [valsL_zero, valsL_succ]; apply FY_yes (d := 56) rfl ho12.out (by rfl) (by kernel_rfl); intro wx hx
            go_simp
            exact ⟨rfl, rfl⟩
          simp only [Act.put, List.setIfInBounds_toArray, List.set_cons_zero, List.set_cons_succ, valsL_zero, valsL_succ]
          obtain ⟨ho14, HO⟩ := HO
          refine wpG_v ho14.out rfl ?_ ?_
          · simp only [valsL_zero, valsL_succ]; apply FY_yes (d := 56) rfl ho12.out (by rfl) (by kernel_rfl); intro wx hx
            have hd : decide ((0 : Int) < (k : Int)) = true := decide_eq_true (by omega)
            go_simp
            exact ⟨rfl, rfl⟩
          simp only [Act.put, List.setIfInBounds_toArray, List.set_cons_zero, List.set_cons_succ, valsL_zero, valsL_succ]
          obtain ⟨ho15, HO⟩ := HO
          refine wpG_v ho15.out rfl ?_ ?_
          · simp only [valsL_zero, valsL_succ]; apply FY_yes (d := 56) rfl ho12.out (by rfl) (by kernel_rfl); intro wx hx
            go_simp
            exact ⟨rfl, rfl⟩
          simp only [Act.put, List.setIfInBounds_toArray, List.set_cons_zero, List.set_cons_succ, valsL_zero, valsL_succ]
          obtain ⟨ho16, HO⟩ := HO
          refine wpG_v ho16.out rfl ?_ ?_
          · simp only [valsL_zero, valsL_succ]; apply FY_yes (d := 59) rfl ho15.out (by rfl) (by kernel_rfl); intro wx hx
            go_simp
            exact ⟨rfl, rfl⟩
          simp only [Act.put, List.setIfInBounds_toArray, List.set_cons_zero, List.set_cons_succ, valsL_zero, valsL_succ]
          obtain ⟨ho17, HO⟩ := HO
          refine wpG_v ho17.out rfl ?_ ?_
          · simp only [valsL_zero, valsL_succ]; apply FY_yes (d := 59) rfl ho15.out (by rfl) (by kernel_rfl); intro wx hx
            go_simp
            exact ⟨rfl, rfl⟩
          simp only [Act.put, List.setIfInBounds_toArray, List.set_cons_zero, List.set_cons_succ, valsL_zero, valsL_succ]
          obtain ⟨ho18, HO⟩ := HO
          refine wpG_v ho18.out rfl ?_ ?_
          · simp only [valsL_zero, valsL_succ]; apply FY_yes (d := 59) rfl ho15.out (by rfl) (by kernel_rfl); intro wx hx
            go_simp
            exact ⟨rfl, rfl⟩
          simp only [Act.put, List.setIfInBounds_toArray, List.set_cons_zero, List.set_cons_succ, valsL_zero, valsL_succ]
          obtain ⟨ho19, HO⟩ := HO
          refine wpG_v ho19.out rfl ?_ ?_
          · simp only [valsL_zero, valsL_succ]; apply FY_yes (d := 59) rfl ho15.out (by rfl) (by kernel_rfl); intro wx hx
            have hc := hx.cell HCX.out (fun h => h)
            go_simp
            exact ⟨rfl, rfl⟩
          simp only [Act.put, List.setIfInBounds_toArray, List.set_cons_zero, List.set_cons_succ, valsL_zero, valsL_succ]
          obtain ⟨ho20, HO⟩ := HO
          refine wpG_v ho20.out rfl ?_ ?_
          · simp only [valsL_zero, valsL_succ]; apply FY_yes (d := 59) rfl ho15.out (by rfl) (by kernel_rfl); intro wx hx
            go_simp
            exact ⟨rfl, rfl⟩
          simp only [Act.put, List.setIfInBounds_toArray, List.set_cons_zero, List.set_cons_succ, valsL_zero, valsL_succ]
          obtain ⟨ho21, HO⟩ := HO
          refine wpG_v ho21.out rfl ?_ ?_
          · simp only [valsL_zero, valsL_succ]; apply FY_yes (d := 59) rfl ho15.out (by rfl) (by kernel_rfl); intro wx hx
            go_simp
            exact ⟨rfl, rfl⟩
          simp only [Act.put, List.setIfInBounds_toArray, List.set_cons_zero, List.set_cons_succ, valsL_zero, valsL_succ]
          obtain ⟨ho22, HO⟩ := HO
          refine wpG_v ho22.out rfl ?_ ?_
          · simp only [valsL_zero, valsL_succ]; apply FY_yes (d := 59) rfl ho15.out (by rfl) (by kernel_rfl); intro wx hx
            have h := H1.out
            go_simp
            exact ⟨rfl, rfl⟩
          simp only [Act.put, List.setIfInBounds_toArray, List.set_cons_zero, List.set_cons_succ, valsL_zero, valsL_succ]
          obtain ⟨ho23, HO⟩ := HO
          refine wpG_v ho23.out rfl ?_ ?_
          · simp only [valsL_zero, valsL_succ]; apply FY_yes (d := 59) rfl ho15.out (by rfl) (by kernel_rfl); intro wx hx
            have h := H2.out
            have h1 : (1 : Int) ≤ k := by omega
            have h2 : (k : Int) - 1 < L.length := by omega
            have h3 : (0 : Int) ≤ (k : Int) - 1 := by omega
            go_simp
            exact ⟨rfl, rfl⟩
          simp only [Act.put, List.setIfInBounds_toArray, List.set_cons_zero, List.set_cons_succ, valsL_zero, valsL_succ]
          obtain ⟨ho24, HO⟩ := HO
          refine wpG_v ho24.out rfl ?_ ?_
          · simp only [valsL_zero, valsL_succ]; apply FY_yes (d := 59) rfl ho15.out (by rfl) (by kernel_rfl); intro wx hx
            have hc := hx.cell HCY.out (fun h => h)
            go_simp
            exact ⟨rfl, rfl⟩
          simp only [Act.put, List.setIfInBounds_toArray, List.set_cons_zero, List.set_cons_succ, valsL_zero, valsL_succ]
          obtain ⟨ho25, HO⟩ := HO
          refine wpG_v ho25.out rfl ?_ ?_
          · simp only [valsL_zero, valsL_succ]; apply FY_yes (d := 59) rfl ho15.out (by rfl) (by kernel_rfl); intro wx hx
            have hd : decide (x ≤ y) = false := decide_eq_false (by omega)
            go_simp
            exact ⟨rfl, rfl⟩
          simp only [Act.put, List.setIfInBounds_toArray, List.set_cons_zero, List.set_cons_succ, valsL_zero, valsL_succ]
          obtain ⟨ho26, HO⟩ := HO
          refine wpG_v ho26.out rfl ?_ ?_
          · simp only [valsL_zero, valsL_succ]; apply FY_yes (d := 56) rfl ho12.out (by rfl) (by kernel_rfl); intro wx hx
            go_simp
            exact ⟨rfl, rfl⟩
          simp only [Act.put, List.setIfInBounds_toArray, List.set_cons_zero, List.set_cons_succ, valsL_zero, valsL_succ]
          refine HQ.out _ _ ?_
          intro wr hf hE hN
          simp only [List.drop_succ_cons, List.drop_zero]
          clear HQ HO hE hN ho0 ho1 ho2 ho3 ho4 ho5 ho6 ho7 ho8 ho9 ho10 ho11 ho12 ho13 ho14 ho15 ho16 ho17 ho18 ho19 ho20 ho21 ho22 ho23 ho24 ho25 ho26
          have HF2 := hid (HF.out.then0 hf)
          clear hf
          go_wp2_with fail
          exact ⟨⟨k + 1, by omega, by go_num, HF2⟩, by simp [intOf]; omega⟩
        · have q3 : ¬ (0 : Int) < k := by omega
          have q3' : k = 0 := by omega
          have Q3 := hid q3'
          clear q3'
          go_wp2_with fail
          apply wp_region_G 27 (fun _ => none) (valsL (_ :: _ :: _ :: _ :: _ :: _ :: _ :: _ :: _ :: _ :: _ :: _ :: _ :: _ :: _ :: _ :: _ :: _ :: _ :: _ :: _ :: _ :: _ :: _ :: _ :: _ :: _ :: [])) ?hm2 ?hB2 ?hal2 ?main2
          case hm2 => kernel_rfl
          case hB2 => kernel_rfl
          case hal2 =>
            intro i o obj ho hi
            cases hi
          rotate_left 27
          intro ops QT HO HQ
          obtain ⟨ho0, HO⟩ := HO
          refine wpG_v ho0.out rfl ?_ ?_
          · simp only [valsL_zero, valsL_succ]; apply FY_in rfl; intro wx hx
            go_simp
            exact ⟨rfl, rfl⟩
          simp only [Act.put, List.setIfInBounds_toArray, List.set_cons_zero, List.set_cons_succ, valsL_zero, valsL_succ]
          obtain ⟨ho1, HO⟩ := HO
          refine wpG_v ho1.out rfl ?_ ?_
          · simp only [valsL_zero, valsL_succ]; apply FY_in rfl; intro wx hx
            go_simp
            exact ⟨rfl, rfl⟩
          simp only [Act.put, List.setIfInBounds_toArray, List.set_cons_zero, List.set_cons_succ, valsL_zero, valsL_succ]
          obtain ⟨ho2, HO⟩ := HO
          refine wpG_v ho2.out rfl ?_ ?_
          · simp only [valsL_zero, valsL_succ]; apply FY_in rfl; intro wx hx
            go_simp
            exact ⟨rfl, rfl⟩
          simp only [Act.put, List.setIfInBounds_toArray, List.set_cons_zero, List.set_cons_succ, valsL_zero, valsL_succ]
          obtain ⟨ho3, HO⟩ := HO
          refine wpG_v ho3.out rfl ?_ ?_
          · simp only [valsL_zero, valsL_succ]; apply FY_in rfl; intro wx hx
            have hc := hx.cell HCX.out (fun h => h)
            go_simp
            exact ⟨rfl, rfl⟩
          simp only [Act.put, List.setIfInBounds_toArray, List.set_cons_zero, List.set_cons_succ, valsL_zero, valsL_succ]
          obtain ⟨ho4, HO⟩ := HO
          refine wpG_v ho4.out rfl ?_ ?_
          · simp only [valsL_zero, valsL_succ]; apply FY_in rfl; intro wx hx
            have hd : decide (x < 1) = false := decide_eq_false (by omega)
            go_simp
            exact ⟨rfl, rfl⟩
          simp only [Act.put, List.setIfInBounds_toArray, List.set_cons_zero, List.set_cons_succ, valsL_zero, valsL_succ]
          obtain ⟨ho5, HO⟩ := HO
          refine wpG_v ho5.out rfl ?_ ?_
          · simp only [valsL_zero, valsL_succ]; apply FY_in rfl; intro wx hx
            go_simp
            exact ⟨rfl, rfl⟩
          simp only [Act.put, List.setIfInBounds_toArray, List.set_cons_zero, List.set_cons_succ, valsL_zero, valsL_succ]
          obtain ⟨ho6, HO⟩ := HO
          refine wpG_v ho6.out rfl ?_ ?_
          · simp only [valsL_zero, valsL_succ]; apply FY_yes (d := 49) rfl ho5.out (by rfl) (by kernel_rfl); intro wx hx
            go_simp
            exact ⟨rfl, rfl⟩
          simp only [Act.put, List.setIfInBounds_toArray, List.set_cons_zero, List.set_cons_succ, valsL_zero, valsL_succ]
          obtain ⟨ho7, HO⟩ := HO
          refine wpG_v ho7.out rfl ?_ ?_
          · simp only [valsL_zero, valsL_succ]; apply FY_yes (d := 49) rfl ho5.out (by rfl) (by kernel_rfl); intro wx hx
            go_simp
            exact ⟨rfl, rfl⟩
          simp only [Act.put, List.setIfInBounds_toArray, List.set_cons_zero, List.set_cons_succ, valsL_zero, valsL_succ]
          obtain ⟨ho8, HO⟩ := HO
          refine wpG_v ho8.out rfl ?_ ?_
          · simp only [valsL_zero, valsL_succ]; apply FY_yes (d := 49) rfl ho5.out (by rfl) (by kernel_rfl); intro wx hx
            go_simp
            exact ⟨rfl, rfl⟩
          simp only [Act.put, List.setIfInBounds_toArray, List.set_cons_zero, List.set_cons_succ, valsL_zero, valsL_succ]
          obtain ⟨ho9, HO⟩ := HO
          refine wpG_v ho9.out rfl ?_ ?_
          · simp only [valsL_zero, valsL_succ]; apply FY_yes (d := 49) rfl ho5.out (by rfl) (by kernel_rfl); intro wx hx
            have hc := hx.cell HCX.out (fun h => h)
            go_simp
            exact ⟨rfl, rfl⟩
          simp only [Act.put, List.setIfInBounds_toArray, List.set_cons_zero, List.set_cons_succ, valsL_zero, valsL_succ]
          obtain ⟨ho10, HO⟩ := HO
          refine wpG_v ho10.out rfl ?_ ?_
          · simp only [valsL_zero, valsL_succ]; apply FY_yes (d := 49) rfl ho5.out (by rfl) (by kernel_rfl); intro wx hx
            have hd : decide (100 < x) = false := decide_eq_false (by omega)
            go_simp
            exact ⟨rfl, rfl⟩
          simp only [Act.put, List.setIfInBounds_toArray, List.set_cons_zero, List.set_cons_succ, valsL_zero, valsL_succ]
          obtain ⟨ho11, HO⟩ := HO
          refine wpG_v ho11.out rfl ?_ ?_
          · simp only [valsL_zero, valsL_succ]; apply FY_in rfl; intro wx hx
            go_simp
            exact ⟨rfl, rfl⟩
          simp only [Act.put, List.setIfInBounds_toArray, List.set_cons_zero, List.set_cons_succ, valsL_zero, valsL_succ]
          obtain ⟨ho12, HO⟩ := HO
          refine wpG_v ho12.out rfl ?_ ?_
          · simp only [valsL_zero, valsL_succ]; apply FY_in rfl; intro wx hx
            go_simp
            exact ⟨rfl, rfl⟩
          simp only [Act.put, List.setIfInBounds_toArray, List.set_cons_zero, List.set_cons_succ, valsL_zero, valsL_succ]
          obtain ⟨ho13, HO⟩ := HO
          refine wpG_v ho13.out rfl ?_ ?_
          · simp only [valsL_zero, valsL_succ]; apply FY_yes (d := 56) rfl ho12.out (by rfl) (by kernel_rfl); intro wx hx
            go_simp
            exact ⟨rfl, rfl⟩
          simp only [Act.put, List.setIfInBounds_toArray, List.set_cons_zero, List.set_cons_succ, valsL_zero, valsL_succ]
          obtain ⟨ho14, HO⟩ := HO
          refine wpG_v ho14.out rfl ?_ ?_
          · simp only [valsL_zero, valsL_succ]; apply FY_yes (d := 56) rfl ho12.out (by rfl) (by kernel_rfl); intro wx hx
            have hd : decide ((0 : Int) < (k : Int)) = false := decide_eq_false (by omega)
            go_simp
            exact ⟨rfl, rfl⟩
          simp only [Act.put, List.setIfInBounds_toArray, List.set_cons_zero, List.set_cons_succ, valsL_zero, valsL_succ]
          obtain ⟨ho15, HO⟩ := HO
          refine wpG_v ho15.out rfl ?_ ?_
          · simp only [valsL_zero, valsL_succ]; apply FY_yes (d := 56) rfl ho12.out (by rfl) (by kernel_rfl); intro wx hx
            go_simp
            exact ⟨rfl, rfl⟩
          simp only [Act.put, List.setIfInBounds_toArray, List.set_cons_zero, List.set_cons_succ, valsL_zero, valsL_succ]
          obtain ⟨ho16, HO⟩ := HO
          refine wpG_v ho16.out rfl ?_ ?_
          · simp only [valsL_zero, valsL_succ]; exact FY_no (d := 59) rfl ho15.out (by rfl) (by kernel_rfl)
          simp only [Act.put, List.setIfInBounds_toArray, List.set_cons_zero, List.set_cons_succ, valsL_zero, valsL_succ]
          obtain ⟨ho17, HO⟩ := HO
          refine wpG_v ho17.out rfl ?_ ?_
          · simp only [valsL_zero, valsL_succ]; exact FY_no (d := 59) rfl ho15.out (by rfl) (by kernel_rfl)
          simp only [Act.put, List.setIfInBounds_toArray, List.set_cons_zero, List.set_cons_succ, valsL_zero, valsL_succ]
          obtain ⟨ho18, HO⟩ := HO
          refine wpG_v ho18.out rfl ?_ ?_
          · simp only [valsL_zero, valsL_succ]; exact FY_no (d := 59) rfl ho15.out (by rfl) (by kernel_rfl)
          simp only [Act.put, List.setIfInBounds_toArray, List.set_cons_zero, List.set_cons_succ, valsL_zero, valsL_succ]
          obtain ⟨ho19, HO⟩ := HO
          refine wpG_v ho19.out rfl ?_ ?_
          · simp only [valsL_zero, valsL_succ]; exact FY_no (d := 59) rfl ho15.out (by rfl) (by kernel_rfl)
          simp only [Act.put, List.setIfInBounds_toArray, List.set_cons_zero, List.set_cons_succ, valsL_zero, valsL_succ]
          obtain ⟨ho20, HO⟩ := HO
          refine wpG_v ho20.out rfl ?_ ?_
          · simp only [valsL_zero, valsL_succ]; exact FY_no (d := 59) rfl ho15.out (by rfl) (by kernel_rfl)
          simp only [Act.put, List.setIfInBounds_toArray, List.set_cons_zero, List.set_cons_succ, valsL_zero, valsL_succ]
          obtain ⟨ho21, HO⟩ := HO
          refine wpG_v ho21.out rfl ?_ ?_
          · simp only [valsL_zero, valsL_succ]; exact FY_no (d := 59) rfl ho15.out (by rfl) (by kernel_rfl)
          simp only [Act.put, List.setIfInBounds_toArray, List.set_cons_zero, List.set_cons_succ, valsL_zero, valsL_succ]
          obtain ⟨ho22, HO⟩ := HO
          refine wpG_v ho22.out rfl ?_ ?_
          · simp only [valsL_zero, valsL_succ]; exact FY_no (d := 59) rfl ho15.out (by rfl) (by kernel_rfl)
          simp only [Act.put, List.setIfInBounds_toArray, List.set_cons_zero, List.set_cons_succ, valsL_zero, valsL_succ]
          obtain ⟨ho23, HO⟩ := HO
          refine wpG_v ho23.out rfl ?_ ?_
          · simp only [valsL_zero, valsL_succ]; exact FY_no (d := 59) rfl ho15.out (by rfl) (by kernel_rfl)
          simp only [Act.put, List.setIfInBounds_toArray, List.set_cons_zero, List.set_cons_succ, valsL_zero, valsL_succ]
          obtain ⟨ho24, HO⟩ := HO
          refine wpG_v ho24.out rfl ?_ ?_
          · simp only [valsL_zero, valsL_succ]; exact FY_no (d := 59) rfl ho15.out (by rfl) (by kernel_rfl)
          simp only [Act.put, List.setIfInBounds_toArray, List.set_cons_zero, List.set_cons_succ, valsL_zero, valsL_succ]
          obtain ⟨ho25, HO⟩ := HO
          refine wpG_v ho25.out rfl ?_ ?_
          · simp only [valsL_zero, valsL_succ]; exact FY_no (d := 59) rfl ho15.out (by rfl) (by kernel_rfl)
          simp only [Act.put, List.setIfInBounds_toArray, List.set_cons_zero, List.set_cons_succ, valsL_zero, valsL_succ]
          obtain ⟨ho26, HO⟩ := HO
          refine wpG_v ho26.out rfl ?_ ?_
          · simp only [valsL_zero, valsL_succ]; apply FY_yes (d := 56) rfl ho12.out (by rfl) (by kernel_rfl); intro wx hx
            go_simp
            exact ⟨rfl, rfl⟩
          simp only [Act.put, List.setIfInBounds_toArray, List.set_cons_zero, List.set_cons_succ, valsL_zero, valsL_succ]
          refine HQ.out _ _ ?_
          intro wr hf hE hN
          simp only [List.drop_succ_cons, List.drop_zero]
          clear HQ HO hE hN ho0 ho1 ho2 ho3 ho4 ho5 ho6 ho7 ho8 ho9 ho10 ho11 ho12 ho13 ho14 ho15 ho16 ho17 ho18 ho19 ho20 ho21 ho22 ho23 ho24 ho25 ho26
          have HF2 := hid (HF.out.then0 hf)
          clear hf
          go_wp2_with fail
          exact ⟨⟨k + 1, by omega, by go_num, HF2⟩, by simp [intOf]; omega⟩
      · obtain rfl : k = L.length := by omega
        have hru := HRU.out
        have d := hru.d
        have u := hru.u
        have st := hru.st
        have en := hru.ends
        have hls := HST.out.2.1
        have HBE := hid S8.out.now.1.1.2.below
        have c1 := sb_cell S8.out.now.1.2 1
        have c4 := sb_cell S8.out.now.1.2 4
        have c6 := sb_cell S8.out.now.1.2 9
        have c8 := sb_cell S8.out.now.1.2 11
        have r1 : 0 ≤ G.s1 - G.s3 := by omega
        have r2 : G.s1 - G.s3 ≤ G.s1 := by omega
        have r3 : G.s1 ≤ G.s1 + G.s2 := by omega
        have r4 : G.s1 + G.s2 ≤ 16 := by omega
        have r5 : 1 ≤ G.s9 := en.1
        have r6 : 1 ≤ G.s11 := en.2
        by_cases z1 : G.s1 - G.s3 < G.s1
        · by_cases z4 : G.s4 = 0
          · have r7 : (0 : Int) < L.length := by have := hls.2 z4; omega
            have z5 : (G.s4 == 0) = true := by simp [z4]
            have z6 : (G.s4 != 2) = true := by simp [z4]
            clear hls hru d u st en z4
            go_wp2_with fail
            all_goals (try (exfalso; have hq : ¬ L = [] := (by assumption); have := List.length_pos_iff.2 hq; omega))
            all_goals (try (exfalso; have hq : L = [] := (by assumption); rw [hq, List.length_nil] at r7; omega))
            all_goals go_ret
            all_goals exact ⟨by first | rfl | simp, HBE.out⟩
          · have r7 : ¬ (0 : Int) < L.length := by intro h; exact z4 (hls.1 (by omega))
            have z5 : (G.s4 == 0) = false := by simp [z4]
            by_cases z2 : G.s4 = 2
            · have z6 : (G.s4 != 2) = false := by simp [z2]
              have r8 : 2 * G.s1 ≤ G.s1 + G.s2 := by have := st.2.2 z2; omega
              have r9 : wrap64 (2 * G.s1) = 2 * G.s1 := by unfold wrap64; omega
              clear hls hru d u st en z4
              go_wp2_with fail
              all_goals (try (exfalso; have hq : ¬ L = [] := (by assumption); have := List.length_pos_iff.2 hq; omega))
              all_goals (try (exfalso; have hq : L = [] := (by assumption); rw [hq, List.length_nil] at r7; omega))
              all_goals go_ret
              all_goals exact ⟨by first | rfl | simp, HBE.out⟩
            · have z6 : (G.s4 != 2) = true := by simp [z2]
              clear hls hru d u st en z4
              go_wp2_with fail
              all_goals (try (exfalso; have hq : ¬ L = [] := (by assumption); have := List.length_pos_iff.2 hq; omega))
              all_goals (try (exfalso; have hq : L = [] := (by assumption); rw [hq, List.length_nil] at r7; omega))
              all_goals go_ret
              all_goals exact ⟨by first | rfl | simp, HBE.out⟩
        · have z9 : G.s1 < G.s1 + G.s2 := by omega
          by_cases z4 : G.s4 = 0
          · have r7 : (0 : Int) < L.length := by have := hls.2 z4; omega
            have z5 : (G.s4 == 0) = true := by simp [z4]
            have z6 : (G.s4 != 2) = true := by simp [z4]
            clear hls hru d u st en z4
            go_wp2_with fail
            all_goals (try (exfalso; have hq : ¬ L = [] := (by assumption); have := List.length_pos_iff.2 hq; omega))
            all_goals (try (exfalso; have hq : L = [] := (by assumption); rw [hq, List.length_nil] at r7; omega))
            all_goals go_ret
            all_goals exact ⟨by first | rfl | simp, HBE.out⟩
          · have r7 : ¬ (0 : Int) < L.length := by intro h; exact z4 (hls.1 (by omega))
            have z5 : (G.s4 == 0) = false := by simp [z4]
            by_cases z2 : G.s4 = 2
            · have z6 : (G.s4 != 2) = false := by simp [z2]
              have r8 : 2 * G.s1 ≤ G.s1 + G.s2 := by have := st.2.2 z2; omega
              have r9 : wrap64 (2 * G.s1) = 2 * G.s1 := by unfold wrap64; omega
              clear hls hru d u st en z4
              go_wp2_with fail
              all_goals (try (exfalso; have hq : ¬ L = [] := (by assumption); have := List.length_pos_iff.2 hq; omega))
              all_goals (try (exfalso; have hq : L = [] := (by assumption); rw [hq, List.length_nil] at r7; omega))
              all_goals go_ret
              all_goals exact ⟨by first | rfl | simp, HBE.out⟩
            · have z6 : (G.s4 != 2) = true := by simp [z2]
              clear hls hru d u st en z4
              go_wp2_with fail
              all_goals (try (exfalso; have hq : ¬ L = [] := (by assumption); have := List.length_pos_iff.2 hq; omega))
              all_goals (try (exfalso; have hq : L = [] := (by assumption); rw [hq, List.length_nil] at r7; omega))
              all_goals go_ret
              all_goals exact ⟨by first | rfl | simp, HBE.out⟩
  · obtain ⟨G, HGE⟩ : ∃ G, Hid (goodSp s = G) := ⟨_, rfl⟩
    have HGK : Hid (G.chkE = 0) := hid (by rw [← HGE.out]; exact goodSp_ok s)
    have HRU := hid (rules_of HGK.out)
    have HVG : Hid (G.val = .agg #[.int .i64 G.s0, .int .i64 G.s1, .int .i64 G.s2, .int .i64 G.s3, .int .i64 G.s4, .int .i64 G.s5, .int .i64 G.s6, .int .i64 G.s7, .int .i64 G.s8, .int .i64 G.s9, .int .i64 G.s10, .int .i64 G.s11]) := rfl
    rw [h]
    clear h
    go_wp2_with (refine wpList_load_row_w (by kernel_rfl) 24 (.tmp 1) (by with_reducible rfl) b (by kernel_rfl) _ _ _ _ S3.out.now.1 Tryd.underlying24 rfl (by kernel_rfl) ?_)
    rw [← HVs.out]
    refine (sgood_calls s _).mono ?_
    rintro _ w4a ⟨rfl, hf⟩
    rw [HGE.out, HVG.out]
    have S3a := hid (S3.out.step hf)
    have HC3a := hid (hf.heap HC3.out (fun h => h))
    clear hf S3 HC3
    go_upto_region 7 with (refine wpList_store_row rfl 24 (.tmp 3) (.tmp 23) (by with_reducible rfl) c #[.int .i64 G.s0, .int .i64 G.s1, .int .i64 G.s2, .int .i64 G.s3, .int .i64 G.s4, .int .i64 G.s5, .int .i64 G.s6, .int .i64 G.s7, .int .i64 G.s8, .int .i64 G.s9, .int .i64 G.s10, .int .i64 G.s11] (by kernel_rfl) (by kernel_rfl) _ _ HC3a.out (by kernel_rfl) (by rfl) (by simp [Value.oneCell']) ?_)
    have hfr : Frm (fun x => x = c) w4a (w4a.setRow c #[.int .i64 G.s0, .int .i64 G.s1, .int .i64 G.s2, .int .i64 G.s3, .int .i64 G.s4, .int .i64 G.s5, .int .i64 G.s6, .int .i64 G.s7, .int .i64 G.s8, .int .i64 G.s9, .int .i64 G.s10, .int .i64 G.s11]) := frm_setRow w4a c _
    have hP3 := setRow_heap _ c _ #[.int .i64 G.s0, .int .i64 G.s1, .int .i64 G.s2, .int .i64 G.s3, .int .i64 G.s4, .int .i64 G.s5, .int .i64 G.s6, .int .i64 G.s7, .int .i64 G.s8, .int .i64 G.s9, .int .i64 G.s10, .int .i64 G.s11] _ _ HC3a.out
    have hf0 := (S3a.out.now.2).trans hfr (fun k hk (hm : k = c) => by have := HCS.out; omega)
    have hB := hfr.heap S3a.out.now.1 (fun h => HCB.out h)
    obtain ⟨w4, hwn⟩ : ∃ x, x = w4a.setRow c #[.int .i64 G.s0, .int .i64 G.s1, .int .i64 G.s2, .int .i64 G.s3, .int .i64 G.s4, .int .i64 G.s5, .int .i64 G.s6, .int .i64 G.s7, .int .i64 G.s8, .int .i64 G.s9, .int .i64 G.s10, .int .i64 G.s11] := ⟨_, rfl⟩
    rw [← hwn] at hP3 hf0 hB
    rw [← hwn]
    have S4 : Hid (Sb M0 w4 fun x => (x.heap[b]? = some (.cells #[.int .i64 s.s0, .int .i64 s.s1, .int .i64 s.s2, .int .i64 s.s3, .int .i64 s.s4, .int .i64 s.s5, .int .i64 s.s6, .int .i64 s.s7, .int .i64 s.s8, .int .i64 s.s9, .int .i64 s.s10, .int .i64 s.s11] 24 (0, 0)) ∧ Frm M0 W x) ∧ x.heap[c]? = some (.cells #[.int .i64 G.s0, .int .i64 G.s1, .int .i64 G.s2, .int .i64 G.s3, .int .i64 G.s4, .int .i64 G.s5, .int .i64 G.s6, .int .i64 G.s7, .int .i64 G.s8, .int .i64 G.s9, .int .i64 G.s10, .int .i64 G.s11] 24 (0, 0))) := hid fun wx hx => ⟨⟨hx.heap hB (fun h => h), hf0.same hx⟩, hx.heap hP3 (fun h => h)⟩
    clear hwn hfr hP3 hf0 hB S3a HC3a
    go_wp2_with (refine wpList_load_row_w (by kernel_rfl) 24 (.tmp 3) (by with_reducible rfl) c (by kernel_rfl) _ _ _ _ S4.out.now.2 Tryd.underlying24 rfl (by kernel_rfl) ?_)
    rw [← HVG.out]
    refine (check_calls G _).mono ?_
    rintro _ w5 ⟨rfl, hf⟩
    rw [HVG.out, HGK.out]
    have S5 := hid (S4.out.step hf)
    clear hf S4
    go_wp2_with (refine wpList_load_row_w (by kernel_rfl) 24 (.tmp 3) (by with_reducible rfl) c (by kernel_rfl) _ _ _ _ S5.out.now.2 Tryd.underlying24 rfl (by kernel_rfl) ?_)
    rw [← HVG.out]
    refine (budget_calls G _).mono ?_
    rintro _ w6 ⟨rfl, hf⟩
    rw [HVG.out, HRU.out.lo, HRU.out.hi]
    have S6 := hid (S5.out.step hf)
    clear hf S5
    go_wp2_with (refine wpList_load_row_w (by kernel_rfl) 24 (.tmp 3) (by with_reducible rfl) c (by kernel_rfl) _ _ _ _ S6.out.now.2 Tryd.underlying24 rfl (by kernel_rfl) ?_)
    rw [← HVG.out]
    refine (steps_calls G _).mono ?_
    rintro _ w7 ⟨v, rfl, ho, hf⟩
    rw [HVG.out]
    obtain ⟨L, HL⟩ : ∃ x, Hid (stepsF G = x) := ⟨_, rfl⟩
    rw [HL.out] at ho
    have HST : Hid (Rising L ∧ (0 < L.length ↔ G.s4 = 0) ∧ L.length ≤ 4) := hid (by rw [← HL.out]; exact HRU.out.steps)
    have hL4 := HST.out.2.2
    have HR7 := hid (Rd.ofOwns ho)
    obtain ⟨a7, c7, rfl, hsh⟩ := HR7.out.shape
    have HSH := hid hsh
    have S7 := hid ((S6.out.step hf).and (Sb.rd HR7.out (fun _ _ h => h)))
    clear hf ho S6 HR7 hsh
    go_wp2_with fail
    go_loopw [11] (fun i11 wr => ∃ k : Nat, k ≤ L.length ∧ i11 = .int .i64 k ∧ Hid (Frm M0 w7 wr)) (fun i _ => L.length - (intOf i).toNat)
    case atStart => exact ⟨0, Nat.zero_le _, rfl, hid (Frm.refl _ _)⟩
    case round =>
      obtain ⟨k, hk, rfl, HF⟩ := hrel
      have S8 := hid (S7.out.step HF.out)
      by_cases hlt : k < L.length
      · obtain ⟨b7, o7, rfl⟩ := HSH.out (by omega)
        have hltI : (k : Int) < (L.length : Int) := by omega
        obtain ⟨x, HX, hc⟩ := S8.out.now.2.cellAt k hlt
        have HCX := hid hc
        have hx := HST.out.1.1 k x HX.out
        have q1 : ¬ x < 1 := by omega
        have q2 : ¬ 100 < x := by omega
        clear hc hx
        by_cases hk0 : 0 < k
        · obtain ⟨y, HY, hc⟩ := S8.out.now.2.cellAt (k - 1) (by omega)
          have HCY := hid hc
          have hy := HST.out.1.2 (k - 1) x y HY.out (by rw [show k - 1 + 1 = k by omega]; exact HX.out)
          have q3 : (0 : Int) < k := by omega
          have q4 : ¬ x ≤ y := by omega
          have h1 : IntKind.i64.wrap ((k : Int) - 1) = (k : Int) - 1 := IntWalk.i64_in _ (by omega)
          have h2 : ((k : Int) - 1).toNat = k - 1 := by omega
          have H1 := hid h1
          have H2 := hid h2
          clear hc hy h1 h2
          go_wp2_with fail
          apply wp_region_G 27 (fun _ => none) (valsL (_ :: _ :: _ :: _ :: _ :: _ :: _ :: _ :: _ :: _ :: _ :: _ :: _ :: _ :: _ :: _ :: _ :: _ :: _ :: _ :: _ :: _ :: _ :: _ :: _ :: _ :: _ :: [])) ?hm3 ?hB3 ?hal3 ?main3
          case hm3 => kernel_rfl
          case hB3 => kernel_rfl
          case hal3 =>
            intro i o obj ho hi
            cases hi
          rotate_left 27
          intro ops QT HO HQ
          obtain ⟨ho0, HO⟩ := HO
          refine wpG_v ho0.out rfl ?_ ?_
          · simp only [valsL_zero, valsL_succ]; apply FY_in rfl; intro wx hx
            go_simp
            exact ⟨rfl, rfl⟩
          simp only [Act.put, List.setIfInBounds_toArray, List.set_cons_zero, List.set_cons_succ, valsL_zero, valsL_succ]
          obtain ⟨ho1, HO⟩ := HO
          refine wpG_v ho1.out rfl ?_ ?_
          · simp only [valsL_zero, valsL_succ]; apply FY_in rfl; intro wx hx
            go_simp
            exact ⟨rfl, rfl⟩
          simp only [Act.put, List.setIfInBounds_toArray, List.set_cons_zero, List.set_cons_succ, valsL_zero, valsL_succ]
          obtain ⟨ho2, HO⟩ := HO
          refine wpG_v ho2.out rfl ?_ ?_
          · simp only [valsL_zero, valsL_succ]; apply FY_in rfl; intro wx hx
            go_simp
            exact ⟨rfl, rfl⟩
          simp only [Act.put, List.setIfInBounds_toArray, List.set_cons_zero, List.set_cons_succ, valsL_zero, valsL_succ]
          obtain ⟨ho3, HO⟩ := HO
          refine wpG_v ho3.out rfl ?_ ?_
          · simp only [valsL_zero, valsL_succ]; apply FY_in rfl; intro wx hx
            have hc := hx.cell HCX.out (fun h => h)
            go_simp
            exact ⟨rfl, rfl⟩
          simp only [Act.put, List.setIfInBounds_toArray, List.set_cons_zero, List.set_cons_succ, valsL_zero, valsL_succ]
          obtain ⟨ho4, HO⟩ := HO
          refine wpG_v ho4.out rfl ?_ ?_
          · simp only [valsL_zero, valsL_succ]; apply FY_in rfl; intro wx hx
            have hd : decide (x < 1) = false := decide_eq_false (by omega)
            go_simp
            exact ⟨rfl, rfl⟩
          simp only [Act.put, List.setIfInBounds_toArray, List.set_cons_zero, List.set_cons_succ, valsL_zero, valsL_succ]
          obtain ⟨ho5, HO⟩ := HO
          refine wpG_v ho5.out rfl ?_ ?_
          · simp only [valsL_zero, valsL_succ]; apply FY_in rfl; intro wx hx
            go_simp
            exact ⟨rfl, rfl⟩
          simp only [Act.put, List.setIfInBounds_toArray, List.set_cons_zero, List.set_cons_succ, valsL_zero, valsL_succ]
          obtain ⟨ho6, HO⟩ := HO
          refine wpG_v ho6.out rfl ?_ ?_
          · simp only [valsL_zero, valsL_succ]; apply FY_yes (d := 49) rfl ho5.out (by rfl) (by kernel_rfl); intro wx hx
            go_simp
            exact ⟨rfl, rfl⟩
          simp only [Act.put, List.setIfInBounds_toArray, List.set_cons_zero, List.set_cons_succ, valsL_zero, valsL_succ]
          obtain ⟨ho7, HO⟩ := HO
          refine wpG_v ho7.out rfl ?_ ?_
          · simp only [valsL_zero, valsL_succ]; apply FY_yes (d := 49) rfl ho5.out (by rfl) (by kernel_rfl); intro wx hx
            go_simp
            exact ⟨rfl, rfl⟩
          simp only [Act.put, List.setIfInBounds_toArray, List.set_cons_zero, List.set_cons_succ, valsL_zero, valsL_succ]
          obtain ⟨ho8, HO⟩ := HO
          refine wpG_v ho8.out rfl ?_ ?_
          · simp only [valsL_zero, valsL_succ]; apply FY_yes (d := 49) rfl ho5.out (by rfl) (by kernel_rfl); intro wx hx
            go_simp
            exact ⟨rfl, rfl⟩
          simp only [Act.put, List.setIfInBounds_toArray, List.set_cons_zero, List.set_cons_succ, valsL_zero, valsL_succ]
          obtain ⟨ho9, HO⟩ := HO
          refine wpG_v ho9.out rfl ?_ ?_
          · simp only [valsL_zero, valsL_succ]; apply FY_yes (d := 49) rfl ho5.out (by rfl) (by kernel_rfl); intro wx hx
            have hc := hx.cell HCX.out (fun h => h)
            go_simp
            exact ⟨rfl, rfl⟩
          simp only [Act.put, List.setIfInBounds_toArray, List.set_cons_zero, List.set_cons_succ, valsL_zero, valsL_succ]
          obtain ⟨ho10, HO⟩ := HO
          refine wpG_v ho10.out rfl ?_ ?_
          · simp only [valsL_zero, valsL_succ]; apply FY_yes (d := 49) rfl ho5.out (by rfl) (by kernel_rfl); intro wx hx
            have hd : decide (100 < x) = false := decide_eq_false (by omega)
            go_simp
            exact ⟨rfl, rfl⟩
          simp only [Act.put, List.setIfInBounds_toArray, List.set_cons_zero, List.set_cons_succ, valsL_zero, valsL_succ]
          obtain ⟨ho11, HO⟩ := HO
          refine wpG_v ho11.out rfl ?_ ?_
          · simp only [valsL_zero, valsL_succ]; apply FY_in rfl; intro wx hx
            go_simp
            exact ⟨rfl, rfl⟩
          simp only [Act.put, List.setIfInBounds_toArray, List.set_cons_zero, List.set_cons_succ, valsL_zero, valsL_succ]
          obtain ⟨ho12, HO⟩ := HO
          refine wpG_v ho12.out rfl ?_ ?_
          · simp only [valsL_zero, valsL_succ]; apply FY_in rfl; intro wx hx
            go_simp
            exact ⟨rfl, rfl⟩
          simp only [Act.put, List.setIfInBounds_toArray, List.set_cons_zero, List.set_cons_succ, valsL_zero, valsL_succ]
          obtain ⟨ho13, HO⟩ := HO
          refine wpG_v ho13.out rfl ?_ ?_
          · simp only [valsL_zero, valsL_succ]; apply FY_yes (d := 56) rfl ho12.out (by rfl) (by kernel_rfl); intro wx hx
            go_simp
            exact ⟨rfl, rfl⟩
          simp only [Act.put, List.setIfInBounds_toArray, List.set_cons_zero, List.set_cons_succ, valsL_zero, valsL_succ]
          obtain ⟨ho14, HO⟩ := HO
          refine wpG_v ho14.out rfl ?_ ?_
          · simp only [valsL_zero, valsL_succ]; apply FY_yes (d := 56) rfl ho12.out (by rfl) (by kernel_rfl); intro wx hx
            have hd : decide ((0 : Int) < (k : Int)) = true := decide_eq_true (by omega)
            go_simp
            exact ⟨rfl, rfl⟩
          simp only [Act.put, List.setIfInBounds_toArray, List.set_cons_zero, List.set_cons_succ, valsL_zero, valsL_succ]
          obtain ⟨ho15, HO⟩ := HO
          refine wpG_v ho15.out rfl ?_ ?_
          · simp only [valsL_zero, valsL_succ]; apply FY_yes (d := 56) rfl ho12.out (by rfl) (by kernel_rfl); intro wx hx
            go_simp
            exact ⟨rfl, rfl⟩
          simp only [Act.put, List.setIfInBounds_toArray, List.set_cons_zero, List.set_cons_succ, valsL_zero, valsL_succ]
          obtain ⟨ho16, HO⟩ := HO
          refine wpG_v ho16.out rfl ?_ ?_
          · simp only [valsL_zero, valsL_succ]; apply FY_yes (d := 59) rfl ho15.out (by rfl) (by kernel_rfl); intro wx hx
            go_simp
            exact ⟨rfl, rfl⟩
          simp only [Act.put, List.setIfInBounds_toArray, List.set_cons_zero, List.set_cons_succ, valsL_zero, valsL_succ]
          obtain ⟨ho17, HO⟩ := HO
          refine wpG_v ho17.out rfl ?_ ?_
          · simp only [valsL_zero, valsL_succ]; apply FY_yes (d := 59) rfl ho15.out (by rfl) (by kernel_rfl); intro wx hx
            go_simp
            exact ⟨rfl, rfl⟩
          simp only [Act.put, List.setIfInBounds_toArray, List.set_cons_zero, List.set_cons_succ, valsL_zero, valsL_succ]
          obtain ⟨ho18, HO⟩ := HO
          refine wpG_v ho18.out rfl ?_ ?_
          · simp only [valsL_zero, valsL_succ]; apply FY_yes (d := 59) rfl ho15.out (by rfl) (by kernel_rfl); intro wx hx
            go_simp
            exact ⟨rfl, rfl⟩
          simp only [Act.put, List.setIfInBounds_toArray, List.set_cons_zero, List.set_cons_succ, valsL_zero, valsL_succ]
          obtain ⟨ho19, HO⟩ := HO
          refine wpG_v ho19.out rfl ?_ ?_
          · simp only [valsL_zero, valsL_succ]; apply FY_yes (d := 59) rfl ho15.out (by rfl) (by kernel_rfl); intro wx hx
            have hc := hx.cell HCX.out (fun h => h)
            go_simp
            exact ⟨rfl, rfl⟩
          simp only [Act.put, List.setIfInBounds_toArray, List.set_cons_zero, List.set_cons_succ, valsL_zero, valsL_succ]
          obtain ⟨ho20, HO⟩ := HO
          refine wpG_v ho20.out rfl ?_ ?_
          · simp only [valsL_zero, valsL_succ]; apply FY_yes (d := 59) rfl ho15.out (by rfl) (by kernel_rfl); intro wx hx
            go_simp
            exact ⟨rfl, rfl⟩
          simp only [Act.put, List.setIfInBounds_toArray, List.set_cons_zero, List.set_cons_succ, valsL_zero, valsL_succ]
          obtain ⟨ho21, HO⟩ := HO
          refine wpG_v ho21.out rfl ?_ ?_
          · simp only [valsL_zero, valsL_succ]; apply FY_yes (d := 59) rfl ho15.out (by rfl) (by kernel_rfl); intro wx hx
            go_simp
            exact ⟨rfl, rfl⟩
          simp only [Act.put, List.setIfInBounds_toArray, List.set_cons_zero, List.set_cons_succ, valsL_zero, valsL_succ]
          obtain ⟨ho22, HO⟩ := HO
          refine wpG_v ho22.out rfl ?_ ?_
          · simp only [valsL_zero, valsL_succ]; apply FY_yes (d := 59) rfl ho15.out (by rfl) (by kernel_rfl); intro wx hx
            have h := H1.out
            go_simp
            exact ⟨rfl, rfl⟩
          simp only [Act.put, List.setIfInBounds_toArray, List.set_cons_zero, List.set_cons_succ, valsL_zero, valsL_succ]
          obtain ⟨ho23, HO⟩ := HO
          refine wpG_v ho23.out rfl ?_ ?_
          · simp only [valsL_zero, valsL_succ]; apply FY_yes (d := 59) rfl ho15.out (by rfl) (by kernel_rfl); intro wx hx
            have h := H2.out
            have h1 : (1 : Int) ≤ k := by omega
            have h2 : (k : Int) - 1 < L.length := by omega
            have h3 : (0 : Int) ≤ (k : Int) - 1 := by omega
            go_simp
            exact ⟨rfl, rfl⟩
          simp only [Act.put, List.setIfInBounds_toArray, List.set_cons_zero, List.set_cons_succ, valsL_zero, valsL_succ]
          obtain ⟨ho24, HO⟩ := HO
          refine wpG_v ho24.out rfl ?_ ?_
          · simp only [valsL_zero, valsL_succ]; apply FY_yes (d := 59) rfl ho15.out (by rfl) (by kernel_rfl); intro wx hx
            have hc := hx.cell HCY.out (fun h => h)
            go_simp
            exact ⟨rfl, rfl⟩
          simp only [Act.put, List.setIfInBounds_toArray, List.set_cons_zero, List.set_cons_succ, valsL_zero, valsL_succ]
          obtain ⟨ho25, HO⟩ := HO
          refine wpG_v ho25.out rfl ?_ ?_
          · simp only [valsL_zero, valsL_succ]; apply FY_yes (d := 59) rfl ho15.out (by rfl) (by kernel_rfl); intro wx hx
            have hd : decide (x ≤ y) = false := decide_eq_false (by omega)
            go_simp
            exact ⟨rfl, rfl⟩
          simp only [Act.put, List.setIfInBounds_toArray, List.set_cons_zero, List.set_cons_succ, valsL_zero, valsL_succ]
          obtain ⟨ho26, HO⟩ := HO
          refine wpG_v ho26.out rfl ?_ ?_
          · simp only [valsL_zero, valsL_succ]; apply FY_yes (d := 56) rfl ho12.out (by rfl) (by kernel_rfl); intro wx hx
            go_simp
            exact ⟨rfl, rfl⟩
          simp only [Act.put, List.setIfInBounds_toArray, List.set_cons_zero, List.set_cons_succ, valsL_zero, valsL_succ]
          refine HQ.out _ _ ?_
          intro wr hf hE hN
          simp only [List.drop_succ_cons, List.drop_zero]
          clear HQ HO hE hN ho0 ho1 ho2 ho3 ho4 ho5 ho6 ho7 ho8 ho9 ho10 ho11 ho12 ho13 ho14 ho15 ho16 ho17 ho18 ho19 ho20 ho21 ho22 ho23 ho24 ho25 ho26
          have HF2 := hid (HF.out.then0 hf)
          clear hf
          go_wp2_with fail
          exact ⟨⟨k + 1, by omega, by go_num, HF2⟩, by simp [intOf]; omega⟩
        · have q3 : ¬ (0 : Int) < k := by omega
          have q3' : k = 0 := by omega
          have Q3 := hid q3'
          clear q3'
          go_wp2_with fail
          apply wp_region_G 27 (fun _ => none) (valsL (_ :: _ :: _ :: _ :: _ :: _ :: _ :: _ :: _ :: _ :: _ :: _ :: _ :: _ :: _ :: _ :: _ :: _ :: _ :: _ :: _ :: _ :: _ :: _ :: _ :: _ :: _ :: [])) ?hm4 ?hB4 ?hal4 ?main4
          case hm4 => kernel_rfl
          case hB4 => kernel_rfl
          case hal4 =>
            intro i o obj ho hi
            cases hi
          rotate_left 27
          intro ops QT HO HQ
          obtain ⟨ho0, HO⟩ := HO
          refine wpG_v ho0.out rfl ?_ ?_
          · simp only [valsL_zero, valsL_succ]; apply FY_in rfl; intro wx hx
            go_simp
            exact ⟨rfl, rfl⟩
          simp only [Act.put, List.setIfInBounds_toArray, List.set_cons_zero, List.set_cons_succ, valsL_zero, valsL_succ]
          obtain ⟨ho1, HO⟩ := HO
          refine wpG_v ho1.out rfl ?_ ?_
          · simp only [valsL_zero, valsL_succ]; apply FY_in rfl; intro wx hx
            go_simp
            exact ⟨rfl, rfl⟩
          simp only [Act.put, List.setIfInBounds_toArray, List.set_cons_zero, List.set_cons_succ, valsL_zero, valsL_succ]
          obtain ⟨ho2, HO⟩ := HO
          refine wpG_v ho2.out rfl ?_ ?_
          · simp only [valsL_zero, valsL_succ]; apply FY_in rfl; intro wx hx
            go_simp
            exact ⟨rfl, rfl⟩
          simp only [Act.put, List.setIfInBounds_toArray, List.set_cons_zero, List.set_cons_succ, valsL_zero, valsL_succ]
          obtain ⟨ho3, HO⟩ := HO
          refine wpG_v ho3.out rfl ?_ ?_
          · simp only [valsL_zero, valsL_succ]; apply FY_in rfl; intro wx hx
            have hc := hx.cell HCX.out (fun h => h)
            go_simp
            exact ⟨rfl, rfl⟩
          simp only [Act.put, List.setIfInBounds_toArray, List.set_cons_zero, List.set_cons_succ, valsL_zero, valsL_succ]
          obtain ⟨ho4, HO⟩ := HO
          refine wpG_v ho4.out rfl ?_ ?_
          · simp only [valsL_zero, valsL_succ]; apply FY_in rfl; intro wx hx
            have hd : decide (x < 1) = false := decide_eq_false (by omega)
            go_simp
            exact ⟨rfl, rfl⟩
          simp only [Act.put, List.setIfInBounds_toArray, List.set_cons_zero, List.set_cons_succ, valsL_zero, valsL_succ]
          obtain ⟨ho5, HO⟩ := HO
          refine wpG_v ho5.out rfl ?_ ?_
          · simp only [valsL_zero, valsL_succ]; apply FY_in rfl; intro wx hx
            go_simp
            exact ⟨rfl, rfl⟩
          simp only [Act.put, List.setIfInBounds_toArray, List.set_cons_zero, List.set_cons_succ, valsL_zero, valsL_succ]
          obtain ⟨ho6, HO⟩ := HO
          refine wpG_v ho6.out rfl ?_ ?_
          · simp only [valsL_zero, valsL_succ]; apply FY_yes (d := 49) rfl ho5.out (by rfl) (by kernel_rfl); intro wx hx
            go_simp
            exact ⟨rfl, rfl⟩
          simp only [Act.put, List.setIfInBounds_toArray, List.set_cons_zero, List.set_cons_succ, valsL_zero, valsL_succ]
          obtain ⟨ho7, HO⟩ := HO
          refine wpG_v ho7.out rfl ?_ ?_
          · simp only [valsL_zero, valsL_succ]; apply FY_yes (d := 49) rfl ho5.out (by rfl) (by kernel_rfl); intro wx hx
            go_simp
            exact ⟨rfl, rfl⟩
          simp only [Act.put, List.setIfInBounds_toArray, List.set_cons_zero, List.set_cons_succ, valsL_zero, valsL_succ]
          obtain ⟨ho8, HO⟩ := HO
          refine wpG_v ho8.out rfl ?_ ?_
          · simp only [valsL_zero, valsL_succ]; apply FY_yes (d := 49) rfl ho5.out (by rfl) (by kernel_rfl); intro wx hx
            go_simp
            exact ⟨rfl, rfl⟩
          simp only [Act.put, List.setIfInBounds_toArray, List.set_cons_zero, List.set_cons_succ, valsL_zero, valsL_succ]
          obtain ⟨ho9, HO⟩ := HO
          refine wpG_v ho9.out rfl ?_ ?_
          · simp only [valsL_zero, valsL_succ]; apply FY_yes (d := 49) rfl ho5.out (by rfl) (by kernel_rfl); intro wx hx
            have hc := hx.cell HCX.out (fun h => h)
            go_simp
            exact ⟨rfl, rfl⟩
          simp only [Act.put, List.setIfInBounds_toArray, List.set_cons_zero, List.set_cons_succ, valsL_zero, valsL_succ]
          obtain ⟨ho10, HO⟩ := HO
          refine wpG_v ho10.out rfl ?_ ?_
          · simp only [valsL_zero, valsL_succ]; apply FY_yes (d := 49) rfl ho5.out (by rfl) (by kernel_rfl); intro wx hx
            have hd : decide (100 < x) = false := decide_eq_false (by omega)
            go_simp
            exact ⟨rfl, rfl⟩
          simp only [Act.put, List.setIfInBounds_toArray, List.set_cons_zero, List.set_cons_succ, valsL_zero, valsL_succ]
          obtain ⟨ho11, HO⟩ := HO
          refine wpG_v ho11.out rfl ?_ ?_
          · simp only [valsL_zero, valsL_succ]; apply FY_in rfl; intro wx hx
            go_simp
            exact ⟨rfl, rfl⟩
          simp only [Act.put, List.setIfInBounds_toArray, List.set_cons_zero, List.set_cons_succ, valsL_zero, valsL_succ]
          obtain ⟨ho12, HO⟩ := HO
          refine wpG_v ho12.out rfl ?_ ?_
          · simp only [valsL_zero, valsL_succ]; apply FY_in rfl; intro wx hx
            go_simp
            exact ⟨rfl, rfl⟩
          simp only [Act.put, List.setIfInBounds_toArray, List.set_cons_zero, List.set_cons_succ, valsL_zero, valsL_succ]
          obtain ⟨ho13, HO⟩ := HO
          refine wpG_v ho13.out rfl ?_ ?_
          · simp only [valsL_zero, valsL_succ]; apply FY_yes (d := 56) rfl ho12.out (by rfl) (by kernel_rfl); intro wx hx
            go_simp
            exact ⟨rfl, rfl⟩
          simp only [Act.put, List.setIfInBounds_toArray, List.set_cons_zero, List.set_cons_succ, valsL_zero, valsL_succ]
          obtain ⟨ho14, HO⟩ := HO
          refine wpG_v ho14.out rfl ?_ ?_
          · simp only [valsL_zero, valsL_succ]; apply FY_yes (d := 56) rfl ho12.out (by rfl) (by kernel_rfl); intro wx hx
            have hd : decide ((0 : Int) < (k : Int)) = false := decide_eq_false (by omega)
            go_simp
            exact ⟨rfl, rfl⟩
          simp only [Act.put, List.setIfInBounds_toArray, List.set_cons_zero, List.set_cons_succ, valsL_zero, valsL_succ]
          obtain ⟨ho15, HO⟩ := HO
          refine wpG_v ho15.out rfl ?_ ?_
          · simp only [valsL_zero, valsL_succ]; apply FY_yes (d := 56) rfl ho12.out (by rfl) (by kernel_rfl); intro wx hx
            go_simp
            exact ⟨rfl, rfl⟩
          simp only [Act.put, List.setIfInBounds_toArray, List.set_cons_zero, List.set_cons_succ, valsL_zero, valsL_succ]
          obtain ⟨ho16, HO⟩ := HO
          refine wpG_v ho16.out rfl ?_ ?_
          · simp only [valsL_zero, valsL_succ]; exact FY_no (d := 59) rfl ho15.out (by rfl) (by kernel_rfl)
          simp only [Act.put, List.setIfInBounds_toArray, List.set_cons_zero, List.set_cons_succ, valsL_zero, valsL_succ]
          obtain ⟨ho17, HO⟩ := HO
          refine wpG_v ho17.out rfl ?_ ?_
          · simp only [valsL_zero, valsL_succ]; exact FY_no (d := 59) rfl ho15.out (by rfl) (by kernel_rfl)
          simp only [Act.put, List.setIfInBounds_toArray, List.set_cons_zero, List.set_cons_succ, valsL_zero, valsL_succ]
          obtain ⟨ho18, HO⟩ := HO
          refine wpG_v ho18.out rfl ?_ ?_
          · simp only [valsL_zero, valsL_succ]; exact FY_no (d := 59) rfl ho15.out (by rfl) (by kernel_rfl)
          simp only [Act.put, List.setIfInBounds_toArray, List.set_cons_zero, List.set_cons_succ, valsL_zero, valsL_succ]
          obtain ⟨ho19, HO⟩ := HO
          refine wpG_v ho19.out rfl ?_ ?_
          · simp only [valsL_zero, valsL_succ]; exact FY_no (d := 59) rfl ho15.out (by rfl) (by kernel_rfl)
          simp only [Act.put, List.setIfInBounds_toArray, List.set_cons_zero, List.set_cons_succ, valsL_zero, valsL_succ]
          obtain ⟨ho20, HO⟩ := HO
          refine wpG_v ho20.out rfl ?_ ?_
          · simp only [valsL_zero, valsL_succ]; exact FY_no (d := 59) rfl ho15.out (by rfl) (by kernel_rfl)
          simp only [Act.put, List.setIfInBounds_toArray, List.set_cons_zero, List.set_cons_succ, valsL_zero, valsL_succ]
          obtain ⟨ho21, HO⟩ := HO
          refine wpG_v ho21.out rfl ?_ ?_
          · simp only [valsL_zero, valsL_succ]; exact FY_no (d := 59) rfl ho15.out (by rfl) (by kernel_rfl)
          simp only [Act.put, List.setIfInBounds_toArray, List.set_cons_zero, List.set_cons_succ, valsL_zero, valsL_succ]
          obtain ⟨ho22, HO⟩ := HO
          refine wpG_v ho22.out rfl ?_ ?_
          · simp only [valsL_zero, valsL_succ]; exact FY_no (d := 59) rfl ho15.out (by rfl) (by kernel_rfl)
          simp only [Act.put, List.setIfInBounds_toArray, List.set_cons_zero, List.set_cons_succ, valsL_zero, valsL_succ]
          obtain ⟨ho23, HO⟩ := HO
          refine wpG_v ho23.out rfl ?_ ?_
          · simp only [valsL_zero, valsL_succ]; exact FY_no (d := 59) rfl ho15.out (by rfl) (by kernel_rfl)
          simp only [Act.put, List.setIfInBounds_toArray, List.set_cons_zero, List.set_cons_succ, valsL_zero, valsL_succ]
          obtain ⟨ho24, HO⟩ := HO
          refine wpG_v ho24.out rfl ?_ ?_
          · simp only [valsL_zero, valsL_succ]; exact FY_no (d := 59) rfl ho15.out (by rfl) (by kernel_rfl)
          simp only [Act.put, List.setIfInBounds_toArray, List.set_cons_zero, List.set_cons_succ, valsL_zero, valsL_succ]
          obtain ⟨ho25, HO⟩ := HO
          refine wpG_v ho25.out rfl ?_ ?_
          · simp only [valsL_zero, valsL_succ]; exact FY_no (d := 59) rfl ho15.out (by rfl) (by kernel_rfl)
          simp only [Act.put, List.setIfInBounds_toArray, List.set_cons_zero, List.set_cons_succ, valsL_zero, valsL_succ]
          obtain ⟨ho26, HO⟩ := HO
          refine wpG_v ho26.out rfl ?_ ?_
          · simp only [valsL_zero, valsL_succ]; apply FY_yes (d := 56) rfl ho12.out (by rfl) (by kernel_rfl); intro wx hx
            go_simp
            exact ⟨rfl, rfl⟩
          simp only [Act.put, List.setIfInBounds_toArray, List.set_cons_zero, List.set_cons_succ, valsL_zero, valsL_succ]
          refine HQ.out _ _ ?_
          intro wr hf hE hN
          simp only [List.drop_succ_cons, List.drop_zero]
          clear HQ HO hE hN ho0 ho1 ho2 ho3 ho4 ho5 ho6 ho7 ho8 ho9 ho10 ho11 ho12 ho13 ho14 ho15 ho16 ho17 ho18 ho19 ho20 ho21 ho22 ho23 ho24 ho25 ho26
          have HF2 := hid (HF.out.then0 hf)
          clear hf
          go_wp2_with fail
          exact ⟨⟨k + 1, by omega, by go_num, HF2⟩, by simp [intOf]; omega⟩
      · obtain rfl : k = L.length := by omega
        have hru := HRU.out
        have d := hru.d
        have u := hru.u
        have st := hru.st
        have en := hru.ends
        have hls := HST.out.2.1
        have HBE := hid S8.out.now.1.1.2.below
        have c1 := sb_cell S8.out.now.1.2 1
        have c4 := sb_cell S8.out.now.1.2 4
        have c6 := sb_cell S8.out.now.1.2 9
        have c8 := sb_cell S8.out.now.1.2 11
        have r1 : 0 ≤ G.s1 - G.s3 := by omega
        have r2 : G.s1 - G.s3 ≤ G.s1 := by omega
        have r3 : G.s1 ≤ G.s1 + G.s2 := by omega
        have r4 : G.s1 + G.s2 ≤ 16 := by omega
        have r5 : 1 ≤ G.s9 := en.1
        have r6 : 1 ≤ G.s11 := en.2
        by_cases z1 : G.s1 - G.s3 < G.s1
        · by_cases z4 : G.s4 = 0
          · have r7 : (0 : Int) < L.length := by have := hls.2 z4; omega
            have z5 : (G.s4 == 0) = true := by simp [z4]
            have z6 : (G.s4 != 2) = true := by simp [z4]
            clear hls hru d u st en z4
            go_wp2_with fail
            all_goals (try (exfalso; have hq : ¬ L = [] := (by assumption); have := List.length_pos_iff.2 hq; omega))
            all_goals (try (exfalso; have hq : L = [] := (by assumption); rw [hq, List.length_nil] at r7; omega))
            all_goals go_ret
            all_goals exact ⟨by first | rfl | simp, HBE.out⟩
          · have r7 : ¬ (0 : Int) < L.length := by intro h; exact z4 (hls.1 (by omega))
            have z5 : (G.s4 == 0) = false := by simp [z4]
            by_cases z2 : G.s4 = 2
            · have z6 : (G.s4 != 2) = false := by simp [z2]
              have r8 : 2 * G.s1 ≤ G.s1 + G.s2 := by have := st.2.2 z2; omega
              have r9 : wrap64 (2 * G.s1) = 2 * G.s1 := by unfold wrap64; omega
              clear hls hru d u st en z4
              go_wp2_with fail
              all_goals (try (exfalso; have hq : ¬ L = [] := (by assumption); have := List.length_pos_iff.2 hq; omega))
              all_goals (try (exfalso; have hq : L = [] := (by assumption); rw [hq, List.length_nil] at r7; omega))
              all_goals go_ret
              all_goals exact ⟨by first | rfl | simp, HBE.out⟩
            · have z6 : (G.s4 != 2) = true := by simp [z2]
              clear hls hru d u st en z4
              go_wp2_with fail
              all_goals (try (exfalso; have hq : ¬ L = [] := (by assumption); have := List.length_pos_iff.2 hq; omega))
              all_goals (try (exfalso; have hq : L = [] := (by assumption); rw [hq, List.length_nil] at r7; omega))
              all_goals go_ret
              all_goals exact ⟨by first | rfl | simp, HBE.out⟩
        · have z9 : G.s1 < G.s1 + G.s2 := by omega
          by_cases z4 : G.s4 = 0
          · have r7 : (0 : Int) < L.length := by have := hls.2 z4; omega
            have z5 : (G.s4 == 0) = true := by simp [z4]
            have z6 : (G.s4 != 2) = true := by simp [z4]
            clear hls hru d u st en z4
            go_wp2_with fail
            all_goals (try (exfalso; have hq : ¬ L = [] := (by assumption); have := List.length_pos_iff.2 hq; omega))
            all_goals (try (exfalso; have hq : L = [] := (by assumption); rw [hq, List.length_nil] at r7; omega))
            all_goals go_ret
            all_goals exact ⟨by first | rfl | simp, HBE.out⟩
          · have r7 : ¬ (0 : Int) < L.length := by intro h; exact z4 (hls.1 (by omega))
            have z5 : (G.s4 == 0) = false := by simp [z4]
            by_cases z2 : G.s4 = 2
            · have z6 : (G.s4 != 2) = false := by simp [z2]
              have r8 : 2 * G.s1 ≤ G.s1 + G.s2 := by have := st.2.2 z2; omega
              have r9 : wrap64 (2 * G.s1) = 2 * G.s1 := by unfold wrap64; omega
              clear hls hru d u st en z4
              go_wp2_with fail
              all_goals (try (exfalso; have hq : ¬ L = [] := (by assumption); have := List.length_pos_iff.2 hq; omega))
              all_goals (try (exfalso; have hq : L = [] := (by assumption); rw [hq, List.length_nil] at r7; omega))
              all_goals go_ret
              all_goals exact ⟨by first | rfl | simp, HBE.out⟩
            · have z6 : (G.s4 != 2) = true := by simp [z2]
              clear hls hru d u st en z4
              go_wp2_with fail
              all_goals (try (exfalso; have hq : ¬ L = [] := (by assumption); have := List.length_pos_iff.2 hq; omega))
              all_goals (try (exfalso; have hq : L = [] := (by assumption); rw [hq, List.length_nil] at r7; omega))
              all_goals go_ret
              all_goals exact ⟨by first | rfl | simp, HBE.out⟩
end Go.Proofs.YtinbidmgllmglaaDoor
