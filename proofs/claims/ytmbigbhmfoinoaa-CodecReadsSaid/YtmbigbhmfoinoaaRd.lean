/- The walk of the law's 'read': what is read of both is the same. No condition. -/
import Derived.Test.YtmbigbhmfoinoaaRc
import Derived.Test.YtmbigbhmfoinoaaSm
namespace Go.Proofs.Ytmbigbhmfoinoaa
set_option linter.unusedVariables false
set_option linter.unusedSimpArgs false
open Go.RowKit Cp

theorem Frm.up {w w' : World} (h : Frm M0 w w') (M : Nat → Prop) : Frm M w w' := h.mono (fun _ _ h => h.elim)
theorem strOfNums_empty : strOfNums ([] : List Int) = ⟨#[]⟩ := rfl
theorem rtext_calls (rb : Nat) (l : List Int) (e : Int) (w : World) (h : Rdr w rb l e) :
    Calls Try.prog 26 #[rp rb] w fun r w' => r = .returned (.string (strOfNums (textE l e).1)) ∧ Rdr w' rb (textE l e).2.1 (textE l e).2.2 ∧ Frm (· = rb) w w' := by
  by_cases he : e = 0
  · subst he; rw [textE_0]; exact rtext0_calls rb l w h
  · rw [textE_ne l e he]
    refine (rtextE_calls rb l e w h he).mono ?_
    rintro r w' ⟨rfl, rfl⟩
    exact ⟨rfl, h, Frm.refl _ _⟩
theorem rlist_calls' (rb : Nat) (l : List Int) (e : Int) (w : World) (h : Rdr w rb l e) :
    Calls Try.prog 27 #[rp rb] w fun r w' => ∃ v, r = .returned v ∧ Hid (Rd w' 1 v (listE l e).1.length (ints .i64 (listE l e).1)) ∧ Rdr w' rb (listE l e).2.1 (listE l e).2.2 ∧ Frm (· = rb) w w' := by
  by_cases he : e = 0
  · subst he; rw [listE_0]
    refine (rlist0_calls rb l w h).mono ?_
    rintro r w' ⟨v, rfl, h1, h2, h3⟩
    exact ⟨v, rfl, hid (Rd.ofOwns h1), h2, h3⟩
  · rw [listE_ne l e he]
    refine (rlistE_calls rb l e w h he).mono ?_
    rintro r w' ⟨rfl, rfl⟩
    exact ⟨_, rfl, hid (Rd.nil _ _), h, Frm.refl _ _⟩
theorem Rdr.bytes {w : World} {rb : Nat} {l : List Int} {e : Int} (h : Rdr w rb l e) : (∀ x ∈ l, 0 ≤ x ∧ x < 256) ∧ l.length ≤ 1000000 ∧ rb < w.heap.size := by
  obtain ⟨v, h1, _, _, h2, h3⟩ := h
  exact ⟨h2, h3, (Array.getElem?_eq_some_iff.1 h1).1⟩
theorem listE_len (l : List Int) (e : Int) : (listE l e).1.length ≤ 64 := by
  unfold listE
  split
  · simp
  · split
    · simp
    · split
      · rw [numsF_len]; omega
      · simp

/-- What a step of reading leaves. -/
def Both (w0 w w' : World) (rb : Nat) (r : Ending) : Prop :=
  ∃ v' l' e', r = .returned (.tuple #[rv v' e', .bool true]) ∧ Hid (Rdr w' rb l' e') ∧ Hid (RdB w0 v' l') ∧ Frm (· = rb) w w'

set_option maxRecDepth 100000 in
set_option maxHeartbeats 4000000 in
theorem read_both (w0 : World) (rb : Nat) (v : Value) (l : List Int) (e kind : Int) (w : World) (hw : Frm M0 w0 w) (h : Rdr w rb l e) (hr : RdB w0 v l) (h0 : w0.heap.size ≤ rb) :
    Calls Try.prog 14 #[rp rb, rv v e, .int .i64 kind] w fun r w' => Both w0 w w' rb r := by
  obtain ⟨hy, hl, hrb⟩ := h.bytes
  have HGN : Hid (∀ wz, Frm M0 w wz → Calls Try.prog 30 #[.agg #[v, .int .i64 e]] wz fun r w' => RefB w0 wz w' (getF l e).2.1 (getF l e).2.2 r (fun x => .tuple #[x, .int .i64 (getF l e).1])) := hid fun wz hz => getNum_calls w0 v l e wz (hw.then0 hz) hr hy hl
  have HGT : Hid (∀ wz, Frm M0 w wz → Calls Try.prog 31 #[.agg #[v, .int .i64 e]] wz fun r w' => RefB w0 wz w' (textE l e).2.1 (textE l e).2.2 r (fun x => .tuple #[x, .string (strOfNums (textE l e).1)])) := hid fun wz hz => getText_calls w0 v l e wz (hw.then0 hz) hr hy hl
  have HGL : Hid (∀ wz, Frm M0 w wz → Calls Try.prog 32 #[.agg #[v, .int .i64 e]] wz fun r w' => RefL w0 wz w' (listE l e) r) := hid fun wz hz => getList_calls w0 v l e wz (hw.then0 hz) hr hy hl
  have HPN : Hid (∀ wz, Frm M0 w wz → Calls Try.prog 25 #[rp rb] wz fun r w' => r = .returned (.int .i64 (getF l e).1) ∧ Rdr w' rb (getF l e).2.1 (getF l e).2.2 ∧ Frm (· = rb) wz w') := hid fun wz hz => rnum_calls rb l e wz (h.frm0 hz)
  have HPT : Hid (∀ wz, Frm M0 w wz → Calls Try.prog 26 #[rp rb] wz fun r w' => r = .returned (.string (strOfNums (textE l e).1)) ∧ Rdr w' rb (textE l e).2.1 (textE l e).2.2 ∧ Frm (· = rb) wz w') := hid fun wz hz => rtext_calls rb l e wz (h.frm0 hz)
  have HPL : Hid (∀ wz, Frm M0 w wz → Calls Try.prog 27 #[rp rb] wz fun r w' => ∃ v, r = .returned v ∧ Hid (Rd w' 1 v (listE l e).1.length (ints .i64 (listE l e).1)) ∧ Rdr w' rb (listE l e).2.1 (listE l e).2.2 ∧ Frm (· = rb) wz w') := hid fun wz hz => rlist_calls' rb l e wz (h.frm0 hz)
  have hlen := listE_len l e
  obtain ⟨⟨gn, ln, en⟩, hgn⟩ : ∃ g, g = getF l e := ⟨_, rfl⟩
  obtain ⟨⟨gt, lt, et⟩, hgt⟩ : ∃ g, g = textE l e := ⟨_, rfl⟩
  obtain ⟨⟨gl, ll, el⟩, hgl⟩ : ∃ g, g = listE l e := ⟨_, rfl⟩
  rw [← hgn] at HGN HPN
  rw [← hgt] at HGT HPT
  rw [← hgl] at HGL HPL hlen
  simp only [] at HGN HPN HGT HPT HPL hlen
  obtain ⟨a, c, rfl, _, _, _⟩ := hr.shape
  obtain ⟨K, hK⟩ : ∃ K, K = (IntKind.u64.wrap kind).tmod 3 := ⟨_, rfl⟩
  have HK := hid hK
  have HRB := hid hr
  clear hgn hgt hgl hr h hw hK
  go_enter Try.func14, Try.ntmps14
  have hk3 : K = 0 ∨ K = 1 ∨ K = 2 := by
    have h1 : IntKind.u64.wrap kind = kind % 18446744073709551616 := by simp [IntKind.wrap, IntKind.bits, IntKind.signed]
    have := HK.out
    rw [h1, Int.tmod_eq_emod_of_nonneg (by omega)] at this
    omega
  go_upto_region 2 with fail
  rw [← HK.out]
  obtain ⟨hb0, hb1⟩ := new2 w (.cells #[.slice a l.length c, .int .i64 e] 32) (.cells #[.slice none 0 0, .int .i64 0] 32)
  obtain ⟨w2, hw2⟩ : ∃ w2, w2 = (w.alloc (.cells #[.slice a l.length c, .int .i64 e] 32)).alloc (.cells #[.slice none 0 0, .int .i64 0] 32) := ⟨_, rfl⟩
  have hf2 : Frm M0 w w2 := by rw [hw2]; exact ((Frm.refl _ _).alloc _).alloc _
  rw [← hw2] at hb0 hb1 ⊢
  obtain ⟨⟨p0, p1⟩, q0, q1⟩ := two hb0
  have HB1 := hid hb1
  have HF2 := hid hf2
  clear hw2 hb0 hb1 hf2 HK
  rcases hk3 with rfl | rfl | rfl
  · go_wp2_with fail
    refine (HGN.out _ HF2.out).mono ?_
    rintro r w3 ⟨v3, rfl, hr3, hf3⟩
    obtain ⟨a3, c3, rfl, hab3, hc31, hc32⟩ := hr3.out.shape
    go_upto_region 4 with fail
    obtain ⟨w4, hw4⟩ : ∃ w4, w4 = w3.alloc (.cells #[.slice a3 ln.length c3, .int .i64 en] 32) := ⟨_, rfl⟩
    have hb8 := new1 w3 (.cells #[.slice a3 ln.length c3, .int .i64 en] 32)
    have hf4 : Frm M0 w3 w4 := by rw [hw4]; exact (Frm.refl _ _).alloc _
    unfold rv
    rw [← hw4] at hb8 ⊢
    have HB8 := hid hb8
    have HB14 := hid (hf4.heap (hf3.heap HB1.out (fun h => h)) (fun h => h))
    have HF4 := hid ((HF2.out.then0 hf3).then0 hf4)
    have HF34 := hid hf4
    have hz3 := hf3.size
    have hz4 := hf4.size
    have hzb := (Array.getElem?_eq_some_iff.1 HB1.out).1
    have HSF : Hid (∀ wx, Frm (fun b => b = rb ∨ b = w.heap.size + 1) w4 wx → wx.cell? ⟨w3.heap.size, 0, none⟩ = some (.slice a3 ln.length c3) ∧ wx.cell? ⟨w3.heap.size, 1, none⟩ = some (.int .i64 en)) := hid fun wx hf => (two (hf.heap HB8.out (by omega))).1
    clear hw4 hb8 hf4 hf3
    go_region_held3 (fun wx => wx.cell? ⟨w3.heap.size, 0, none⟩ = some (.slice a3 ln.length c3) ∧ wx.cell? ⟨w3.heap.size, 1, none⟩ = some (.int .i64 en)) (first | with_reducible exact HSF.out _ (Frm.drew (Frm.refl _ _)) | with_reducible exact HSF.out _ HF5a.out | with_reducible exact HSF.out _ (Frm.trans HF5a.out (put2 HB15.out _ _).2 HOR.out))
      (first
        | (go_at_call 25; refine (HPN.out _ HF4.out.drew).mono ?_; rintro r w5 ⟨rfl, hrd, hf5⟩; have HF5 := hid hf5; have hx := ((Frm.refl (fun b => b = rb) w4).drew.same hf5).mono (M' := fun b => b = rb ∨ b = w.heap.size + 1) (fun _ _ h => .inl h); have HF5a := hid hx; have HOR : Hid (∀ b, b < w4.heap.size → b = w.heap.size + 1 → b = rb ∨ b = w.heap.size + 1) := hid (fun _ _ h => .inr h); have HB15 := hid (hf5.heap HB14.out (by omega)); obtain ⟨⟨r0, r1⟩, t0, t1⟩ := two HB15.out; have hz5 := (Array.getElem?_eq_some_iff.1 HB15.out).1; clear hf5 hx)
  )
    all_goals
      go_wp2_with fail
      refine bodyPost_ret (v := .tuple #[rv (.slice a3 ln.length c3) en, .bool true]) (by simp [results, Try.results14, go_sem, r0, r1, hz5]) rfl ?_
      have hpt := (put2 HB15.out (.slice a3 ln.length c3) (.int .i64 en)).2
      have hfin : Frm (· = rb) w _ := (HF4.out.up (· = rb)).trans ((Frm.refl (· = rb) w4).drew.same HF5.out) (fun b _ h => h) |>.trans hpt (fun b hb h => by have h' : b = w.heap.size + 1 := h; omega)
      first
        | exact ⟨_, ln, en, rfl, hid (hrd.frm hpt (fun k hk => by have h' : k = w.heap.size + 1 := hk; omega)), hr3, hfin⟩
        | exact ⟨_, ln, en, rfl, hid ((hrd.frm hpt (fun k hk => by have h' : k = w.heap.size + 1 := hk; omega)).frm0 (Frm.refl _ _).drew), hr3, hfin.drew⟩
  · go_wp2_with fail
    refine (HGT.out _ HF2.out).mono ?_
    rintro r w3 ⟨v3, rfl, hr3, hf3⟩
    obtain ⟨a3, c3, rfl, hab3, hc31, hc32⟩ := hr3.out.shape
    go_upto_region 7 with fail
    obtain ⟨w4, hw4⟩ : ∃ w4, w4 = w3.alloc (.cells #[.slice a3 lt.length c3, .int .i64 et] 32) := ⟨_, rfl⟩
    have hb8 := new1 w3 (.cells #[.slice a3 lt.length c3, .int .i64 et] 32)
    have hf4 : Frm M0 w3 w4 := by rw [hw4]; exact (Frm.refl _ _).alloc _
    unfold rv
    rw [← hw4] at hb8 ⊢
    have HB8 := hid hb8
    have HB14 := hid (hf4.heap (hf3.heap HB1.out (fun h => h)) (fun h => h))
    have HF4 := hid ((HF2.out.then0 hf3).then0 hf4)
    have HF34 := hid hf4
    have hz3 := hf3.size
    have hz4 := hf4.size
    have hzb := (Array.getElem?_eq_some_iff.1 HB1.out).1
    have HSF : Hid (∀ wx, Frm (fun b => b = rb ∨ b = w.heap.size + 1) w4 wx → wx.cell? ⟨w3.heap.size, 0, none⟩ = some (.slice a3 lt.length c3) ∧ wx.cell? ⟨w3.heap.size, 1, none⟩ = some (.int .i64 et)) := hid fun wx hf => (two (hf.heap HB8.out (by omega))).1
    clear hw4 hb8 hf4 hf3
    go_region_held3 (fun wx => wx.cell? ⟨w3.heap.size, 0, none⟩ = some (.slice a3 lt.length c3) ∧ wx.cell? ⟨w3.heap.size, 1, none⟩ = some (.int .i64 et)) (first | with_reducible exact HSF.out _ (Frm.drew (Frm.refl _ _)) | with_reducible exact HSF.out _ HF5a.out | with_reducible exact HSF.out _ (Frm.trans HF5a.out (put2 HB15.out _ _).2 HOR.out))
      (first
        | (go_at_call 26; refine (HPT.out _ HF4.out.drew).mono ?_; rintro r w5 ⟨rfl, hrd, hf5⟩; have HF5 := hid hf5; have hx := ((Frm.refl (fun b => b = rb) w4).drew.same hf5).mono (M' := fun b => b = rb ∨ b = w.heap.size + 1) (fun _ _ h => .inl h); have HF5a := hid hx; have HOR : Hid (∀ b, b < w4.heap.size → b = w.heap.size + 1 → b = rb ∨ b = w.heap.size + 1) := hid (fun _ _ h => .inr h); have HB15 := hid (hf5.heap HB14.out (by omega)); obtain ⟨⟨r0, r1⟩, t0, t1⟩ := two HB15.out; have hz5 := (Array.getElem?_eq_some_iff.1 HB15.out).1; clear hf5 hx)
  )
    all_goals
      go_wp2_with fail
      refine bodyPost_ret (v := .tuple #[rv (.slice a3 lt.length c3) et, .bool true]) (by simp [results, Try.results14, go_sem, r0, r1, hz5]) rfl ?_
      have hpt := (put2 HB15.out (.slice a3 lt.length c3) (.int .i64 et)).2
      have hfin : Frm (· = rb) w _ := (HF4.out.up (· = rb)).trans ((Frm.refl (· = rb) w4).drew.same HF5.out) (fun b _ h => h) |>.trans hpt (fun b hb h => by have h' : b = w.heap.size + 1 := h; omega)
      first
        | exact ⟨_, lt, et, rfl, hid (hrd.frm hpt (fun k hk => by have h' : k = w.heap.size + 1 := hk; omega)), hr3, hfin⟩
        | exact ⟨_, lt, et, rfl, hid ((hrd.frm hpt (fun k hk => by have h' : k = w.heap.size + 1 := hk; omega)).frm0 (Frm.refl _ _).drew), hr3, hfin.drew⟩
  · go_wp2_with fail
    refine (HGL.out _ HF2.out).mono ?_
    rintro r w3 ⟨v3, vl, rfl, hr3, hrl, hkl, hf3⟩
    obtain ⟨a3, c3, rfl, hab3, hc31, hc32⟩ := hr3.out.shape
    obtain ⟨a7, n7, c7, rfl, hn7⟩ := hrl.out.shapeL
    go_upto_region 9 with fail
    obtain ⟨w4, hw4⟩ : ∃ w4, w4 = w3.alloc (.cells #[.slice a3 ll.length c3, .int .i64 el] 32) := ⟨_, rfl⟩
    have hb8 := new1 w3 (.cells #[.slice a3 ll.length c3, .int .i64 el] 32)
    have hf4 : Frm M0 w3 w4 := by rw [hw4]; exact (Frm.refl _ _).alloc _
    unfold rv
    rw [← hw4] at hb8 ⊢
    have HB8 := hid hb8
    have HB14 := hid (hf4.heap (hf3.heap HB1.out (fun h => h)) (fun h => h))
    have HF4 := hid ((HF2.out.then0 hf3).then0 hf4)
    have HF34 := hid hf4
    have hz3 := hf3.size
    have hz4 := hf4.size
    have hzb := (Array.getElem?_eq_some_iff.1 HB1.out).1
    have HSF : Hid (∀ wx, Frm (fun b => b = rb ∨ b = w.heap.size + 1) w4 wx → wx.cell? ⟨w3.heap.size, 0, none⟩ = some (.slice a3 ll.length c3) ∧ wx.cell? ⟨w3.heap.size, 1, none⟩ = some (.int .i64 el)) := hid fun wx hf => (two (hf.heap HB8.out (by omega))).1
    clear hw4 hb8 hf4 hf3
    go_region_held3 (fun wx => wx.cell? ⟨w3.heap.size, 0, none⟩ = some (.slice a3 ll.length c3) ∧ wx.cell? ⟨w3.heap.size, 1, none⟩ = some (.int .i64 el)) (first | with_reducible exact HSF.out _ (Frm.drew (Frm.refl _ _)) | with_reducible exact HSF.out _ HF5a.out | with_reducible exact HSF.out _ (Frm.trans HF5a.out (put2 HB15.out _ _).2 HOR.out))
      (first
        | (go_at_call 27; refine (HPL.out _ HF4.out.drew).mono ?_; rintro r w5 ⟨v5, rfl, hrv, hrd, hf5⟩; obtain ⟨a6, n6, c6, rfl, hn6⟩ := hrv.out.shapeL; have hrl5 := ((hrl.out.frm0 HF34.out).frm0 (Frm.refl _ w4).drew).frm hf5 (fun k hk e => by have := hkl.out k hk; have h' : k = rb := e; omega); have HRL := hid hrl5; clear hrl5; have HF5 := hid hf5; have hx := ((Frm.refl (fun b => b = rb) w4).drew.same hf5).mono (M' := fun b => b = rb ∨ b = w.heap.size + 1) (fun _ _ h => .inl h); have HF5a := hid hx; have HOR : Hid (∀ b, b < w4.heap.size → b = w.heap.size + 1 → b = rb ∨ b = w.heap.size + 1) := hid (fun _ _ h => .inr h); have HB15 := hid (hf5.heap HB14.out (by omega)); obtain ⟨⟨r0, r1⟩, t0, t1⟩ := two HB15.out; have hz5 := (Array.getElem?_eq_some_iff.1 HB15.out).1; clear hf5 hx)
        | (go_at_call 28; refine (same_calls _ _ gl _ (by omega) hrv.out HRL.out).mono ?_; rintro r w6 ⟨rfl, hf6⟩; have hx := HF5a.out.then0 hf6; clear HF5a; have HF5a := hid hx; have HB16 := hid (hf6.heap HB15.out (fun h => h)); clear HB15; have HB15 := HB16; clear HB16 r0 r1 t0 t1; obtain ⟨⟨r0, r1⟩, t0, t1⟩ := two HB15.out; have hz6 := (Array.getElem?_eq_some_iff.1 HB15.out).1; have hy := HF5.out.then0 hf6; clear HF5 hx; have HF5 := hid hy; have hrd6 := hrd.frm0 hf6; clear hrd; have hrd := hrd6; clear hrd6 hy hf6))
    all_goals
      go_wp2_with fail
      refine bodyPost_ret (v := .tuple #[rv (.slice a3 ll.length c3) el, .bool true]) (by simp [results, Try.results14, go_sem, r0, r1, hz6]) rfl ?_
      have hpt := (put2 HB15.out (.slice a3 ll.length c3) (.int .i64 el)).2
      have hfin : Frm (· = rb) w _ := (HF4.out.up (· = rb)).trans ((Frm.refl (· = rb) w4).drew.same HF5.out) (fun b _ h => h) |>.trans hpt (fun b hb h => by have h' : b = w.heap.size + 1 := h; omega)
      first
        | exact ⟨_, ll, el, rfl, hid (hrd.frm hpt (fun k hk => by have h' : k = w.heap.size + 1 := hk; omega)), hr3, hfin⟩
        | exact ⟨_, ll, el, rfl, hid ((hrd.frm hpt (fun k hk => by have h' : k = w.heap.size + 1 := hk; omega)).frm0 (Frm.refl _ _).drew), hr3, hfin.drew⟩
end Go.Proofs.Ytmbigbhmfoinoaa
