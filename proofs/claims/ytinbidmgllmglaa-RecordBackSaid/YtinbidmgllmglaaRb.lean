/- The walks of the document's reader: GetText, GetList. No condition. -/
import Derived.Test.YtinbidmgllmglaaRa
namespace Go.Proofs.Ytinbidmgllmglaa
set_option linter.unusedVariables false
set_option linter.unusedSimpArgs false
open Go.RowKit Cp

theorem getNum_calls (w0 : World) (v : Value) (l : List Int) (e : Int) (w : World) (hw : Frm M0 w0 w) (hr : RdB w0 v l) (hy : ∀ x ∈ l, 0 ≤ x ∧ x < 256) (hl : l.length ≤ 1000000) :
    Calls Try.prog 19 #[rv v e] w fun r w' => RefB w0 w w' (getF l e).2.1 (getF l e).2.2 r (fun x => .tuple #[x, .int .i64 (getF l e).1]) := by
  by_cases he : e = 0
  · subst he; exact getNum0_calls w0 v l w hw hr hy hl
  · have : getF l e = (0, l, e) := by unfold getF; rw [if_neg he]
    rw [this]
    exact getNumE_calls w0 v l e w hr he
theorem getF_sub (l : List Int) (e : Int) : ∃ n : Nat, (getF l e).1 = (n : Int) ∧ n ≤ 4611686018427387903 ∧ (∀ x ∈ (getF l e).2.1, x ∈ l) ∧ (getF l e).2.1.length ≤ l.length := by
  unfold getF
  split
  · split
    · exact ⟨0, rfl, by omega, by simp, by simp⟩
    · rename_i n r h
      have h2 : ∀ (l : List Int) (i acc : Nat), rdAux i acc l = some (n, r) → n ≤ 4611686018427387903 ∧ (∀ x ∈ r, x ∈ l) ∧ r.length ≤ l.length := by
        intro l
        induction l with
        | nil => intro i acc h; simp [rdAux] at h
        | cons c l ih =>
          intro i acc h
          rw [rdAux] at h
          split at h
          · cases h
          · split at h
            · obtain ⟨h1, h2, h3⟩ := ih _ _ h
              exact ⟨h1, fun x hx => List.mem_cons_of_mem _ (h2 x hx), by simp only [List.length_cons]; omega⟩
            · split at h
              · cases h
              · cases h
                rename_i h9 h128 hbad
                exact ⟨by omega, fun x hx => List.mem_cons_of_mem _ hx, by simp⟩
      obtain ⟨h1, h3, h4⟩ := h2 l 0 0 h
      exact ⟨n, rfl, h1, h3, h4⟩
  · exact ⟨0, rfl, by omega, fun x hx => hx, Nat.le_refl _⟩

/-- What Text gives: the text, what is left, the error. -/
def textE (l : List Int) (e : Int) : List Int × List Int × Int :=
  if (getF l e).2.2 ≠ 0 then ([], (getF l e).2.1, (getF l e).2.2)
  else if (getF l e).1.toNat ≤ 64 ∧ (getF l e).1.toNat ≤ (getF l e).2.1.length then ((getF l e).2.1.take (getF l e).1.toNat, (getF l e).2.1.drop (getF l e).1.toNat, 0) else ([], [], 2)
theorem textE_0 (l : List Int) : textE l 0 = textF l := by
  unfold textE textF getF
  rw [if_pos rfl]
  cases h : rdAux 0 0 l with
  | none => simp
  | some p => obtain ⟨n, r⟩ := p; simp
theorem textE_ne (l : List Int) (e : Int) (he : e ≠ 0) : textE l e = ([], l, e) := by
  unfold textE getF
  rw [if_neg he, if_pos he]

set_option maxRecDepth 100000 in
set_option maxHeartbeats 4000000 in
theorem getText_calls (w0 : World) (v : Value) (l : List Int) (e : Int) (w : World) (hw : Frm M0 w0 w) (hr : RdB w0 v l) (hy : ∀ x ∈ l, 0 ≤ x ∧ x < 256) (hl : l.length ≤ 1000000) :
    Calls Try.prog 20 #[rv v e] w fun r w' => RefB w0 w w' (textE l e).2.1 (textE l e).2.2 r (fun x => .tuple #[x, .string (strOfNums (textE l e).1)]) := by
  obtain ⟨T, hT⟩ : ∃ T, T = textE l e := ⟨_, rfl⟩
  rw [← hT]
  unfold textE at hT
  obtain ⟨n, hn, hn2, hsub, hlen⟩ := getF_sub l e
  have hG := fun wz (hz : Frm M0 w wz) => getNum_calls w0 v l e wz (hw.then0 hz) hr hy hl
  obtain ⟨⟨g, l', e'⟩, hg⟩ : ∃ g, g = getF l e := ⟨_, rfl⟩
  rw [← hg] at hT hn hsub hlen hG
  simp only [] at hT hn hsub hlen hG
  subst hn
  rw [Int.toNat_natCast] at hT
  obtain ⟨a, c, rfl, hab, hc1, hc2⟩ := hr.shape
  have HG : Hid (∀ wz, Frm M0 w wz → Calls Try.prog 19 #[.agg #[.slice a l.length c, .int .i64 e]] wz fun r w' => RefB w0 wz w' l' e' r (fun x => .tuple #[x, .int .i64 (n : Int)])) := hid hG
  have HT := hid hT
  have HW := hid hw
  clear hT hG hg hsub hr hy hw
  go_enter Try.func20, Try.ntmps20
  go_wp2_with fail
  refine (HG.out _ (((Frm.refl M0 w).alloc _).alloc _)).mono ?_
  rintro r w3 ⟨v3, rfl, hr3, hf3⟩
  obtain ⟨a3, c3, rfl, hab3, hc31, hc32⟩ := hr3.out.shape
  have hb1 := hf3.heap (new2 w (.cells #[.slice a l.length c, .int .i64 e] 51) (.cells #[.slice none 0 0, .int .i64 0] 51)).2 (fun h => h)
  have HF3 := hid ((((Frm.refl M0 w).alloc _).alloc _).then0 hf3)
  have HB1 := hid hb1
  clear hb1 hf3 HG
  unfold rv
  go_upto_region 2 with fail
  obtain ⟨w4, hw4⟩ : ∃ w4, w4 = w3.alloc (.cells #[.slice a3 l'.length c3, .int .i64 e'] 51) := ⟨_, rfl⟩
  have hb4 := new1 w3 (.cells #[.slice a3 l'.length c3, .int .i64 e'] 51)
  have hf4 : Frm M0 w3 w4 := by rw [hw4]; exact (Frm.refl _ _).alloc _
  rw [← hw4] at hb4 ⊢
  have hb14 := hf4.heap HB1.out (fun h => h)
  obtain ⟨⟨p0, p1⟩, q0, q1⟩ := two hb4
  obtain ⟨⟨r0, r1⟩, t0, t1⟩ := two hb14
  have hz1 := (Array.getElem?_eq_some_iff.1 hb14).1
  have hz3 := (Array.getElem?_eq_some_iff.1 HB1.out).1
  have HF4 := hid (HF3.out.then0 hf4)
  have HB14 := hid hb14
  have HB4 := hid hb4
  clear hw4 hb4 hf4 hb14 HB1 HF3
  by_cases he' : e' = 0
  · subst he'
    by_cases hok : n ≤ 64 ∧ n ≤ l'.length
    · have hT2 := HT.out
      rw [if_neg (by simp), if_pos hok] at hT2
      have HT2 := hid hT2
      obtain ⟨h64, hnl⟩ := hok
      have g1 : decide ((64 : Int) < (n : Int)) = false := by rw [decide_eq_false_iff_not]; omega
      have g2 : decide ((l'.length : Int) < (n : Int)) = false := by rw [decide_eq_false_iff_not]; omega
      clear hT2 HT
      by_cases hn0 : n = 0
      · subst hn0
        cases a3 with
        | none =>
          have hc0 : l' = [] ∧ c3 = 0 := by
            rcases (hr3.out w0 (Frm.refl _ _)).2 with ⟨h, h0⟩ | ⟨x, cap, h, _⟩
            · simp only [Value.slice.injEq] at h; exact ⟨List.eq_nil_of_length_eq_zero h0, h.2.2⟩
            · cases h
          obtain ⟨rfl, rfl⟩ := hc0
          simp only [List.length_nil] at HB4 hr3
          obtain ⟨S2, hS2⟩ : ∃ S2, S2 = strOfNums ([] : List Int) := ⟨_, rfl⟩
          have HSF : Hid (∀ wx, Frm (fun b => b = w.heap.size + 1) w4 wx → (wx.cell? ⟨w3.heap.size, 0, none⟩ = some (.slice none 0 0)) ∧ (convert 22 9 (.slice none 0 0)).run Try.prog wx = .ok (.string S2) wx) := by
            refine hid fun wx hf => ⟨(two (hf.heap HB4.out (by omega))).1.1, ?_⟩
            rw [hS2]
            exact run_str (l := []) _ _ 5 Try.underlying22 Try.underlying9 Try.underlying5 (Rd.nil _ _)
          have HS2 := hid hS2
          clear hS2
          go_upto_region 4 with fail
          go_region_held3 (fun wx => (wx.cell? ⟨w3.heap.size, 0, none⟩ = some (.slice none 0 0)) ∧ (convert 22 9 (.slice none 0 0)).run Try.prog wx = .ok (.string S2) wx) (first | with_reducible exact HSF.out _ (Frm.drew (Frm.refl _ _)) | with_reducible exact HSF.out _ (Frm.drew (put2 HB14.out _ _).2) | with_reducible exact HSF.out _ (put2 HB14.out _ _).2)
            (fail)
          all_goals
            go_wp2_with fail
          refine bodyPost_ret (v := .tuple #[rv (.slice none 0 0) 0, .string S2]) (by simp [results, Try.results20, go_sem, r0, r1, hz1]) rfl ?_
          have hfl := ((HF4.out.putN (w.heap.size + 1) 0 (.slice none 0 0) (by omega)).putN (w.heap.size + 1) 1 (.int .i64 0) (by omega)).drew
          rw [HT2.out, HS2.out]
          exact ⟨_, rfl, hr3, hfl⟩
        | some x =>
          obtain ⟨S2, hS2⟩ : ∃ S2, S2 = strOfNums ([] : List Int) := ⟨_, rfl⟩
          have HSF : Hid (∀ wx, Frm (fun b => b = w.heap.size + 1) w4 wx → (wx.cell? ⟨w3.heap.size, 0, none⟩ = some (.slice (some x) l'.length c3)) ∧ (convert 22 9 (.slice (some x) 0 c3)).run Try.prog wx = .ok (.string S2) wx) := by
            refine hid fun wx hf => ⟨(two (hf.heap HB4.out (by omega))).1.1, ?_⟩
            rw [hS2]
            exact run_str (l := []) _ _ 5 Try.underlying22 Try.underlying9 Try.underlying5 ⟨by simp, .inr ⟨x, c3, rfl, Nat.zero_le _, hc32, fun j u hu => by simp at hu⟩⟩
          have HS2 := hid hS2
          clear hS2
          go_upto_region 4 with fail
          go_region_held3 (fun wx => (wx.cell? ⟨w3.heap.size, 0, none⟩ = some (.slice (some x) l'.length c3)) ∧ (convert 22 9 (.slice (some x) 0 c3)).run Try.prog wx = .ok (.string S2) wx) (first | with_reducible exact HSF.out _ (Frm.drew (Frm.refl _ _)) | with_reducible exact HSF.out _ (Frm.drew (put2 HB14.out _ _).2) | with_reducible exact HSF.out _ (put2 HB14.out _ _).2)
            (fail)
          all_goals
            go_wp2_with fail
          refine bodyPost_ret (v := .tuple #[rv (.slice (some x) l'.length c3) 0, .string S2]) (by simp [results, Try.results20, go_sem, r0, r1, hz1]) rfl ?_
          have hfl := ((HF4.out.putN (w.heap.size + 1) 0 (.slice (some x) l'.length c3) (by omega)).putN (w.heap.size + 1) 1 (.int .i64 0) (by omega)).drew
          rw [HT2.out, HS2.out]
          exact ⟨_, rfl, hr3, hfl⟩
      · obtain ⟨b, o, rfl⟩ := hab3.out (by omega)
        obtain ⟨A, hA, hrA⟩ := cutB hr3.out n hnl
        obtain ⟨S2, hS2⟩ : ∃ S2, S2 = strOfNums (l'.take n) := ⟨_, rfl⟩
        have HSF : Hid (∀ wx, Frm (fun b => b = w.heap.size + 1) w4 wx → (wx.cell? ⟨w3.heap.size, 0, none⟩ = some (.slice (some ⟨b, o, none⟩) l'.length c3)) ∧ (convert 22 9 (.slice (some ⟨b, o, none⟩) n c3)).run Try.prog wx = .ok (.string S2) wx) := by
          refine hid fun wx hf => ⟨(two (hf.heap HB4.out (by omega))).1.1, ?_⟩
          rw [hS2]
          exact run_str _ _ 5 Try.underlying22 Try.underlying9 Try.underlying5 ((hr3.out.take n hnl) wx ((HW.out.then0 HF4.out).trans hf (fun b hb e => by have := HW.out.size; omega)))
        have HA := hid hrA
        have HS2 := hid hS2
        have k1 : n ≤ l'.length := hnl
        have k2 : n ≤ c3 := by omega
        have k3 : (0 : Int) ≤ (n : Int) := by omega
        have k4 : (n : Int) ≤ (l'.length : Int) := by omega
        have k5 : (n : Int) ≤ (c3 : Int) := by omega
        clear hrA hS2 hn0
        go_upto_region 4 with fail
        go_region_held3 (fun wx => (wx.cell? ⟨w3.heap.size, 0, none⟩ = some (.slice (some ⟨b, o, none⟩) l'.length c3)) ∧ (convert 22 9 (.slice (some ⟨b, o, none⟩) n c3)).run Try.prog wx = .ok (.string S2) wx) (first | with_reducible exact HSF.out _ (Frm.drew (Frm.refl _ _)) | with_reducible exact HSF.out _ (Frm.drew (put2 HB14.out _ _).2) | with_reducible exact HSF.out _ (put2 HB14.out _ _).2)
          (fail)
        all_goals
          go_wp2_with fail
        refine bodyPost_ret (v := .tuple #[rv (.slice (some A) (l'.length - n) (c3 - n)) 0, .string S2]) (by simp [results, Try.results20, go_sem, r0, r1, hz1]) rfl ?_
        have hfl := ((HF4.out.putN (w.heap.size + 1) 0 (.slice (some A) (l'.length - n) (c3 - n)) (by omega)).putN (w.heap.size + 1) 1 (.int .i64 0) (by omega)).drew
        rw [HT2.out, HS2.out]
        exact ⟨_, rfl, HA, hfl⟩
    · have hT2 := HT.out
      rw [if_neg (by simp), if_neg hok] at hT2
      have HT2 := hid hT2
      have hbd := bad_calls w0 (.slice a3 l'.length c3) l' 0 w4 hr3.out
      have HBD : Hid (Calls Try.prog 41 #[.agg #[.slice a3 l'.length c3, .int .i64 0]] w4 fun r w' => RefB w0 w4 w' [] 2 r (fun x => x)) := hbd
      clear hT2 HT hbd
      by_cases h64 : n ≤ 64
      · have hnl : ¬ n ≤ l'.length := fun h => hok ⟨h64, h⟩
        have g2 : (l'.length : Int) < (n : Int) := by omega
        clear hok
        go_wp2_with fail
        refine HBD.out.mono ?_
        rintro r w8 ⟨v8, rfl, hr8, hf8⟩
        obtain ⟨a8, c8, rfl, hn8, _, _⟩ := hr8.out.shape
        have hbb := hf8.heap HB14.out (fun h => h)
        obtain ⟨⟨r0, r1⟩, t0, t1⟩ := two hbb
        have hzz := (Array.getElem?_eq_some_iff.1 hbb).1
        have HF8 := hid (HF4.out.then0 hf8)
        clear hbb hf8 HBD
        go_wp2_with fail
        refine bodyPost_ret (v := .tuple #[rv (.slice a8 ([] : List Int).length c8) 2, .string ⟨#[]⟩]) (by simp [results, Try.results20, go_sem, r0, r1, hzz]) rfl ?_
        have hfl := (HF8.out.putN (w.heap.size + 1) 0 (.slice a8 ([] : List Int).length c8) (by omega)).putN (w.heap.size + 1) 1 (.int .i64 2) (by omega)
        rw [HT2.out]
        exact ⟨_, rfl, hr8, hfl⟩
      · have g1 : (64 : Int) < (n : Int) := by omega
        clear hok h64
        go_wp2_with fail
        refine HBD.out.mono ?_
        rintro r w8 ⟨v8, rfl, hr8, hf8⟩
        obtain ⟨a8, c8, rfl, hn8, _, _⟩ := hr8.out.shape
        have hbb := hf8.heap HB14.out (fun h => h)
        obtain ⟨⟨r0, r1⟩, t0, t1⟩ := two hbb
        have hzz := (Array.getElem?_eq_some_iff.1 hbb).1
        have HF8 := hid (HF4.out.then0 hf8)
        clear hbb hf8 HBD
        go_wp2_with fail
        refine bodyPost_ret (v := .tuple #[rv (.slice a8 ([] : List Int).length c8) 2, .string ⟨#[]⟩]) (by simp [results, Try.results20, go_sem, r0, r1, hzz]) rfl ?_
        have hfl := (HF8.out.putN (w.heap.size + 1) 0 (.slice a8 ([] : List Int).length c8) (by omega)).putN (w.heap.size + 1) 1 (.int .i64 2) (by omega)
        rw [HT2.out]
        exact ⟨_, rfl, hr8, hfl⟩
  · have hT2 := HT.out
    rw [if_pos he'] at hT2
    have HT2 := hid hT2
    have hbd := bad_calls w0 (.slice a3 l'.length c3) l' e' w4 hr3.out
    rw [show badF l' e' = (l', e') by unfold badF; rw [if_neg he']] at hbd
    have HBD : Hid (Calls Try.prog 41 #[.agg #[.slice a3 l'.length c3, .int .i64 e']] w4 fun r w' => RefB w0 w4 w' l' e' r (fun x => x)) := hbd
    have g0 : (e' != 0) = true := by simp [he']
    clear hT2 HT hbd he'
    go_wp2_with fail
    refine HBD.out.mono ?_
    rintro r w8 ⟨v8, rfl, hr8, hf8⟩
    obtain ⟨a8, c8, rfl, hn8, _, _⟩ := hr8.out.shape
    have hbb := hf8.heap HB14.out (fun h => h)
    obtain ⟨⟨r0, r1⟩, t0, t1⟩ := two hbb
    have hzz := (Array.getElem?_eq_some_iff.1 hbb).1
    have HF8 := hid (HF4.out.then0 hf8)
    clear hbb hf8 HBD
    go_wp2_with fail
    refine bodyPost_ret (v := .tuple #[rv (.slice a8 l'.length c8) e', .string ⟨#[]⟩]) (by simp [results, Try.results20, go_sem, r0, r1, hzz]) rfl ?_
    have hfl := (HF8.out.putN (w.heap.size + 1) 0 (.slice a8 l'.length c8) (by omega)).putN (w.heap.size + 1) 1 (.int .i64 e') (by omega)
    rw [HT2.out]
    exact ⟨_, rfl, hr8, hfl⟩
end Go.Proofs.Ytinbidmgllmglaa
