/- The walks of the document's net: Take, Drop, Twice. No condition. -/
import Derived.Test.YtbepcohcdgfkaaaNx
import Derived.Deep.RegionHeld3
import Derived.RegionTactic
import Derived.ChangeAlike
namespace Go.Proofs.Ytbepcohcdgfkaaa
set_option linter.unusedVariables false
set_option linter.unusedSimpArgs false
open Go.RowKit Go.Conc

theorem cut_from {b o ca : Nat} (l : List Mg) (k : Nat) (hk : k < l.length) : ∃ A : Addr, (if ca = k + 1 then (some ⟨b, o, none⟩ : Option Addr) else some ⟨b, o + (k + 1) * 6, none⟩) = some A ∧
    ∀ wx, Rd wx 6 (.slice (some ⟨b, o, none⟩) l.length ca) l.length (msgs l) → Rd wx 6 (.slice (some A) (l.length - (k + 1)) (ca - (k + 1))) (l.drop (k + 1)).length (msgs (l.drop (k + 1))) := by
  by_cases h : ca = k + 1
  · refine ⟨⟨b, o, none⟩, by rw [if_pos h], fun wx hr => ?_⟩
    have hc := hr.cap
    have e : l.drop (k + 1) = [] := List.drop_of_length_le (by omega)
    rw [e]
    exact hr.cutAll (enc := Mg.cells) mg_len (by omega) _ (by omega)
  · exact ⟨⟨b, o + (k + 1) * 6, none⟩, by rw [if_neg h], fun wx hr => hr.cutFrom (enc := Mg.cells) mg_len (k + 1) (by omega)⟩

set_option maxHeartbeats 1000000 in
theorem refTake_none (N : Net) (v : Value) (x : Int) (w : World) (h : Rd w 6 v N.l.length (msgs N.l)) (hv : VL w v) (h0 : N.l.length = 0) :
    Calls Try.prog 26 #[rn N.room v N.sent N.lost, .int .i64 x] w fun r w' => RefP w w' v N r (fun y => .tuple #[y, Mg.zero.val, .bool false]) := by
  obtain ⟨room, l, s, y⟩ := N
  simp only [] at h h0 ⊢
  have H := hid h
  obtain ⟨a, ca, rfl, _⟩ := h.shapeN
  have hl : l = [] := List.eq_nil_of_length_eq_zero h0
  subst hl
  have HP : Hid (∀ wz, Frm M0 w wz → Calls Try.prog 40 #[rn room (.slice a 0 ca) s y, .int .i64 x] wz fun r w' => r = .returned (.int .i64 (-1)) ∧ Frm M0 wz w') := hid fun wz hf => refPlace_none room s y _ x wz (h.frm0 hf)
  unfold rn at HP
  clear h h0
  go_enter Try.func26, Try.ntmps26
  go_wp2_with fail
  refine (HP.out _ ((((Frm.refl M0 w).alloc _).alloc _).alloc _)).mono ?_
  rintro r w4 ⟨rfl, hf4⟩
  obtain ⟨hb0, hb1, hb2⟩ := new3 w (.cells #[.int .i64 room, .slice a 0 ca, .int .i64 s, .int .i64 y] 48) (.cells #[.int .i64 0, .slice none 0 0, .int .i64 0, .int .i64 0] 48) (.cells #[.int .i64 0, .int .i64 0, .int .i64 0, .int .i64 0, .int .i64 0, .int .i64 0] 29)
  obtain ⟨⟨p0, p1, p2, p3⟩, q0, q1, q2, q3⟩ := four (hf4.heap hb0 (fun h => h))
  obtain ⟨⟨r0, r1, r2, r3⟩, t0, t1, t2, t3⟩ := four (hf4.heap hb1 (fun h => h))
  obtain ⟨⟨c0, c1, c2, c3, c4, c5⟩, d0, d1, d2, d3, d4, d5⟩ := six (hf4.heap hb2 (fun h => h))
  have hz : w.heap.size + 1 + 1 < w4.heap.size := (Array.getElem?_eq_some_iff.1 (hf4.heap hb2 (fun h => h))).1
  have HF4 := hid (((((Frm.refl M0 w).alloc _).alloc _).alloc _).then0 hf4)
  clear hb0 hb1 hb2 hf4 HP
  go_wp2_with fail
  refine bodyPost_ret (v := .tuple #[rn room (.slice a 0 ca) s y, Mg.zero.val, .bool false]) (by simp [results, Try.results26, go_sem, p0, p1, p2, p3, r0, r1, r2, r3, c0, c1, c2, c3, c4, c5, Mg.zero, Mg.val]) rfl ?_
  have hz0 : w.heap.size ≤ w.heap.size + 1 := by omega
  have hz1 : w.heap.size ≤ w.heap.size + 1 + 1 := by omega
  have hfl := (((((((((HF4.out.putN (w.heap.size + 1) 0 (.int .i64 room) hz0).putN _ 1 (.slice a 0 ca) hz0).putN _ 2 (.int .i64 s) hz0).putN _ 3 (.int .i64 y) hz0).putN (w.heap.size + 1 + 1) 0 (.int .i64 0) hz1).putN _ 1 (.int .i64 0) hz1).putN _ 2 (.int .i64 0) hz1).putN _ 3 (.int .i64 0) hz1).putN _ 4 (.int .i64 0) hz1).putN _ 5 (.int .i64 0) hz1
  exact ⟨_, rfl, hid (H.out.frm0 hfl), hid ⟨fun k hk => .inl hk, hv.frm hfl⟩, hfl⟩

set_option maxHeartbeats 1000000 in
theorem refTake_some (N : Net) (v : Value) (x : Int) (wx : (Lit.int .i64 x).wf = true) (w : World) (h : Rd w 6 v N.l.length (msgs N.l)) (hv : VL w v) (h0 : 0 < N.l.length) (hl : N.l.length ≤ 1000) :
    Calls Try.prog 26 #[rn N.room v N.sent N.lost, .int .i64 x] w fun r w' => RefP w w' v (N.take x).1 r (fun y => .tuple #[y, (N.take x).2.1.val, .bool true]) := by
  obtain ⟨R', hR'⟩ : ∃ R', R' = N.take x := ⟨_, rfl⟩
  rw [← hR']
  unfold Net.take at hR'
  rw [if_neg (by omega)] at hR'
  obtain ⟨k, hk, hkl⟩ := pl_bound x N.l.length h0
  have hpl := hk
  rw [hk, Int.toNat_natCast] at hR'
  obtain ⟨mg, hmg⟩ : ∃ mg, N.l[k]? = some mg := ⟨_, List.getElem?_eq_getElem hkl⟩
  have hgd : N.l.getD k Mg.zero = mg := by rw [List.getD_eq_getElem?_getD, hmg]; rfl
  rw [hgd, List.eraseIdx_eq_take_drop_succ] at hR'
  obtain ⟨room, l, s, y⟩ := N
  simp only [] at h h0 hl hR' hkl hmg hpl ⊢
  have H := hid h
  obtain ⟨a, ca, rfl, hab⟩ := h.shapeN
  obtain ⟨b, o, rfl⟩ := hab (by omega)
  obtain ⟨_, hc1, hc2⟩ := h.cap
  obtain ⟨A, hA, hcut⟩ := cut_from (b := b) (o := o) (ca := ca) l k hkl
  have HCUT := hid hcut
  have HM := hid hmg
  have HR' := hid hR'
  have HP : Hid (∀ wz, Frm M0 w wz → Calls Try.prog 40 #[rn room (.slice (some ⟨b, o, none⟩) l.length ca) s y, .int .i64 x] wz fun r w' => r = .returned (.int .i64 k) ∧ Frm M0 wz w') := hid fun wz hf => by rw [← hpl]; exact refPlace_some room s y _ l x wx wz (h.frm0 hf) h0
  unfold rn at HP
  obtain ⟨gk, ge, gs, gu, gv, gt⟩ := mg
  clear h hab hcut hmg hR' hpl hgd hk
  go_enter Try.func26, Try.ntmps26
  go_wp2_with fail
  refine (HP.out _ ((((Frm.refl M0 w).alloc _).alloc _).alloc _)).mono ?_
  rintro r w4 ⟨rfl, hf4⟩
  obtain ⟨hb0, hb1, hb2⟩ := new3 w (.cells #[.int .i64 room, .slice (some ⟨b, o, none⟩) l.length ca, .int .i64 s, .int .i64 y] 48) (.cells #[.int .i64 0, .slice none 0 0, .int .i64 0, .int .i64 0] 48) (.cells #[.int .i64 0, .int .i64 0, .int .i64 0, .int .i64 0, .int .i64 0, .int .i64 0] 29)
  have hb0' := hf4.heap hb0 (fun h => h)
  have hb1' := hf4.heap hb1 (fun h => h)
  have hb2' := hf4.heap hb2 (fun h => h)
  obtain ⟨⟨p0, p1, p2, p3⟩, q0, q1, q2, q3⟩ := four hb0'
  have hz : w.heap.size + 1 + 1 < w4.heap.size := (Array.getElem?_eq_some_iff.1 hb2').1
  have HF4 := hid (((((Frm.refl M0 w).alloc _).alloc _).alloc _).then0 hf4)
  obtain ⟨m', HM', m0, m1, m2, m3, m4, m5⟩ := (H.out.frm0 HF4.out).msgAt k hkl
  obtain rfl : m' = ⟨gk, ge, gs, gu, gv, gt⟩ := by have h1 := HM'.out; rw [HM.out] at h1; exact (Option.some.inj h1).symm
  simp only [] at m0 m1 m2 m3 m4 m5
  have HB0 := hid hb0'
  have HB1 := hid hb1'
  have HB2 := hid hb2'
  have hkl' : (k : Int) < l.length := by omega
  clear hb0 hb1 hb2 hf4 HP hb0' hb1' hb2' HM'
  go_upto_region 5 with fail
  obtain ⟨w5, hw5⟩ : ∃ w5, w5 = w4.alloc (.cells #[.int .i64 gk, .int .i64 ge, .int .i64 gs, .int .i64 gu, .int .i64 gv, .int .i64 gt] 29) := ⟨_, rfl⟩
  have hf5 : Frm M0 w4 w5 := by rw [hw5]; exact (Frm.refl _ _).alloc _
  have hz5 : w5.heap.size = w4.heap.size + 1 := by rw [hw5]; simp
  have hbm : w5.heap[w4.heap.size]? = some (.cells #[.int .i64 gk, .int .i64 ge, .int .i64 gs, .int .i64 gu, .int .i64 gv, .int .i64 gt] 29 (0, 0)) := by rw [hw5]; exact new1 _ _
  rw [← hw5]
  clear hw5
  have HF5 := hid (HF4.out.then0 hf5)
  have HB0' := hid (hf5.heap HB0.out (fun h => h))
  have HB1' := hid (hf5.heap HB1.out (fun h => h))
  have HB2' := hid (hf5.heap HB2.out (fun h => h))
  have HBM := hid hbm
  obtain ⟨⟨p0, p1, p2, p3⟩, q0, q1, q2, q3⟩ := four HB0'.out
  have hq1 : k ≤ l.length := by omega
  have hq2 : k ≤ ca := by omega
  clear hbm hf5 m0 m1 m2 m3 m4 m5 HB0 HB1 HB2 HF4
  go_upto_region 7 with (at_builtin; refine wpList_push_els mg_len mg_one rfl _ _ 22 rfl w5.heap.size 29 Mg.zero.val 48 Try.underlying22 info29 rfl (by decide) (.slice none 0 0) [] rfl (World.ownsRow_nil _ _ _ _) _ (l.take k) rfl ((H.out.frm0 HF5.out).cutTo (enc := Mg.cells) mg_len k (by omega)) (by rw [List.length_take]; simp only [List.length_nil]; omega) (by rw [List.length_take]; simp only [List.length_nil]; omega) (Nat.le_refl _) ?_; intro v6 w6 ho6 hg6)
  have hf6 : Frm M0 w5 w6 := (Frm.refl _ _).grown hg6 (fun k hk _ => by cases hk)
  have HO6 : Hid (w6.ownsRow w5.heap.size 29 6 v6 (l.take k).length ((l.take k).flatMap Mg.cells)) := hid ho6
  have HF6 := hid (HF5.out.then0 hf6)
  have HB0 := hid (hf6.heap HB0'.out (fun h => h))
  have HB1 := hid (hf6.heap HB1'.out (fun h => h))
  have HB2 := hid (hf6.heap HB2'.out (fun h => h))
  have HBM' := hid (hf6.heap HBM.out (fun h => h))
  obtain ⟨⟨p0, p1, p2, p3⟩, q0, q1, q2, q3⟩ := four HB0.out
  have hz6 := hf6.size
  have hq3 : k + 1 ≤ l.length := by omega
  have hq4 : k + 1 ≤ ca := by omega
  have hq5 : (k : Int) + 1 ≤ l.length := by omega
  clear ho6 hg6 hf6 HB0' HB1' HB2' HBM HF5
  go_upto_region 8 with (at_builtin; refine wpList_push_els mg_len mg_one rfl _ _ 22 rfl w5.heap.size 29 Mg.zero.val 48 Try.underlying22 info29 rfl (by decide) v6 (l.take k) rfl HO6.out _ (l.drop (k + 1)) rfl (HCUT.out _ (H.out.frm0 HF6.out)) (by rw [List.length_take, List.length_drop]; omega) (by rw [List.length_take, List.length_drop]; omega) (by omega) ?_; intro v7 w7 ho7 hg7; obtain ⟨a7, n7, c7, rfl, hn7⟩ := (Rd.ofOwns ho7).shapeL; have hf7 : Frm (fun b => w5.heap.size ≤ b) w6 w7 := (Frm.refl _ _).grown hg7 (fun k hk _ => (HO6.out.lt k hk).1); have HB0' := hid (hf7.heap HB0.out (by omega)); have HB1' := hid (hf7.heap HB1.out (by omega)); have HB2' := hid (hf7.heap HB2.out (by omega)); have HBM := hid (hf7.heap HBM'.out (by omega)); obtain ⟨⟨p0, p1, p2, p3⟩, q0, q1, q2, q3⟩ := four HB0'.out; have HO7 := hid ho7; have HF7 := hid hf7; have hz7 := hf7.size; clear hf7 ho7 hg7 HB0 HB1 HB2 HBM')
  obtain ⟨w8, hw8⟩ : ∃ w8, w8 = w7.setCell ⟨w.heap.size, 1, none⟩ (.slice a7 n7 c7) := ⟨_, rfl⟩
  have hf8 : Frm (fun b => b = w.heap.size) w7 w8 := by rw [hw8]; exact (Frm.refl _ _).put _ _ _ (fun _ => rfl)
  have hh8 : w8.heap[w.heap.size]? = some (.cells #[.int .i64 room, .slice a7 n7 c7, .int .i64 s, .int .i64 y] 48 (0, 0)) := by rw [hw8]; exact heap_set_at HB0'.out _
  rw [← hw8]
  obtain ⟨⟨p0, p1, p2, p3⟩, q0, q1, q2, q3⟩ := four hh8
  obtain ⟨⟨r0, r1, r2, r3⟩, t0, t1, t2, t3⟩ := four (hf8.heap HB1'.out (by omega))
  obtain ⟨⟨c0, c1, c2, c3, c4, c5⟩, d0, d1, d2, d3, d4, d5⟩ := six (hf8.heap HB2'.out (by omega))
  obtain ⟨⟨m0, m1, m2, m3, m4, m5⟩, _⟩ := six (hf8.heap HBM.out (by omega))
  have hz8 : w8.heap.size = w7.heap.size := by rw [hw8]; simp [World.setCell]
  have hz80 : w.heap.size + 1 + 1 < w8.heap.size := by omega
  have HF8 := hid hf8
  have HR8 := hid ((Rd.ofOwns HO7.out).frm hf8 (fun k hk e => by have := (HO7.out.lt k hk).1; omega))
  have hzn : w4.heap.size ≠ w.heap.size + 1 := by omega
  clear hw8 hf8 hh8 HB0' HB1' HB2' HBM hz7 hz8
  go_region
  all_goals
    go_wp2_with fail
    refine bodyPost_ret (v := .tuple #[rn room (.slice a7 n7 c7) s y, .agg #[.int .i64 gk, .int .i64 ge, .int .i64 gs, .int .i64 gu, .int .i64 gv, .int .i64 gt], .bool true]) (by simp [results, Try.results26, go_sem, p0, p1, p2, p3, r0, r1, r2, r3, c0, c1, c2, c3, c4, c5]) rfl ?_
  have hfb := (((((((((((Frm.refl (fun b => b = w.heap.size + 1 ∨ b = w.heap.size + 1 + 1) w8).put (w.heap.size + 1) 0 (.int .i64 room) (fun _ => .inl rfl)).put (w.heap.size + 1) 1 (.slice a7 n7 c7) (fun _ => .inl rfl)).put (w.heap.size + 1) 2 (.int .i64 s) (fun _ => .inl rfl)).put (w.heap.size + 1) 3 (.int .i64 y) (fun _ => .inl rfl)).put (w.heap.size + 1 + 1) 0 (.int .i64 gk) (fun _ => .inr rfl)).put (w.heap.size + 1 + 1) 1 (.int .i64 ge) (fun _ => .inr rfl)).put (w.heap.size + 1 + 1) 2 (.int .i64 gs) (fun _ => .inr rfl)).put (w.heap.size + 1 + 1) 3 (.int .i64 gu) (fun _ => .inr rfl)).put (w.heap.size + 1 + 1) 4 (.int .i64 gv) (fun _ => .inr rfl)).put (w.heap.size + 1 + 1) 5 (.int .i64 gt) (fun _ => .inr rfl)).drew
  have hfw : Frm M0 w w8 := (((HF6.out.mono (M' := fun b => w.heap.size ≤ b) (fun _ _ h => h.elim)).trans HF7.out (fun b hb h => by omega)).trans HF8.out (fun b hb h => by omega)).mono (fun b hb h => by omega)
  have hfl : Frm M0 w _ := (hfw.mono (M' := fun b => w.heap.size ≤ b) (fun _ _ h => h.elim) |>.trans hfb (fun b hb h => by omega)).mono (fun b hb h => by omega)
  rw [HR'.out]
  refine ⟨_, rfl, hid ?_, hid ⟨fun k hk => .inr (by have := (HO7.out.lt k hk).1; omega), fun k hk => by have := (HO7.out.lt k hk).2; have := HF8.out.size; have := hfb.size; omega⟩, hfl⟩
  exact HR8.out.frm hfb (fun k hk e => by have := (HO7.out.lt k hk).1; omega)

theorem refTake_calls (N : Net) (v : Value) (x : Int) (wx : (Lit.int .i64 x).wf = true) (w : World) (h : Rd w 6 v N.l.length (msgs N.l)) (hv : VL w v) (hl : N.l.length ≤ 1000) :
    Calls Try.prog 26 #[rn N.room v N.sent N.lost, .int .i64 x] w fun r w' => RefP w w' v (N.take x).1 r (fun y => .tuple #[y, (N.take x).2.1.val, .bool (N.take x).2.2]) := by
  by_cases h0 : N.l.length = 0
  · have e : N.take x = (N, Mg.zero, false) := by unfold Net.take; rw [if_pos h0]
    rw [e]
    exact refTake_none N v x w h hv h0
  · have e : (N.take x).2.2 = true := by unfold Net.take; rw [if_neg h0]
    rw [e]
    exact refTake_some N v x wx w h hv (by omega) hl

set_option maxHeartbeats 1000000 in
theorem refDrop_calls (N : Net) (v : Value) (x : Int) (wx : (Lit.int .i64 x).wf = true) (w : World) (h : Rd w 6 v N.l.length (msgs N.l)) (hv : VL w v) (hl : N.l.length ≤ 1000) :
    Calls Try.prog 27 #[rn N.room v N.sent N.lost, .int .i64 x] w fun r w' => RefP w w' v (N.drop x).1 r (fun y => .tuple #[y, .bool (N.drop x).2]) := by
  have hT : ∀ wz, Frm M0 w wz → Calls Try.prog 26 #[.agg #[.int .i64 N.room, v, .int .i64 N.sent, .int .i64 N.lost], .int .i64 x] wz fun r w' => RefP wz w' v (N.take x).1 r (fun y => .tuple #[y, (N.take x).2.1.val, .bool (N.take x).2.2]) := fun wz hf => refTake_calls N v x wx wz (h.frm0 hf) (hv.frm hf) hl
  obtain ⟨R', hR'⟩ : ∃ R', R' = N.drop x := ⟨_, rfl⟩
  rw [← hR']
  obtain ⟨T, hTT⟩ : ∃ T, T = N.take x := ⟨_, rfl⟩
  rw [← hTT] at hT
  have hcase : (T.2.2 = false ∧ R' = (T.1, false)) ∨ (T.2.2 = true ∧ R' = ({ T.1 with lost := wrap64 (T.1.lost + 1) }, true)) := by
    rw [hR', hTT]
    unfold Net.drop Net.take
    by_cases h0 : N.l.length = 0
    · rw [if_pos h0, if_pos h0]; exact .inl ⟨rfl, rfl⟩
    · rw [if_neg h0, if_neg h0]; exact .inr ⟨rfl, rfl⟩
  obtain ⟨⟨room, l, s, y⟩, ⟨gk, ge, gs, gu, gv, gt⟩, tb⟩ := T
  simp only [] at hT hcase
  rw [show (Mg.mk gk ge gs gu gv gt).val = .agg #[.int .i64 gk, .int .i64 ge, .int .i64 gs, .int .i64 gu, .int .i64 gv, .int .i64 gt] from rfl] at hT
  obtain ⟨room0, l0, s0, y0⟩ := N
  simp only [] at hT ⊢
  obtain ⟨a0, n0, ca0, rfl, _⟩ := h.shapeL
  have HT := hid hT
  have HC := hid hcase
  clear hT hR' hTT hcase h hl
  go_enter Try.func27, Try.ntmps27
  go_wp2_with fail
  refine (HT.out _ (((Frm.refl M0 w).alloc _).alloc _)).mono ?_
  rintro r w3 ⟨v3, rfl, hr3, hk3, hf3⟩
  obtain ⟨a3, n3, c3, rfl, hn3⟩ := hr3.out.shapeL
  obtain ⟨hb0, hb1⟩ := new2 w (.cells #[.int .i64 room0, .slice a0 n0 ca0, .int .i64 s0, .int .i64 y0] 48) (.cells #[.int .i64 0, .slice none 0 0, .int .i64 0, .int .i64 0] 48)
  have hb1' := hf3.heap hb1 (fun h => h)
  have hz1 : w.heap.size + 1 < w3.heap.size := (Array.getElem?_eq_some_iff.1 hb1').1
  have HB1 := hid hb1'
  have HF3 := hid ((((Frm.refl M0 w).alloc _).alloc _).then0 hf3)
  have hkb : Hid (∀ k, (Value.slice a3 n3 c3).ownBlock = some k → (k ≠ w.heap.size + 1 ∧ k < w3.heap.size) ∧ ((Value.slice a0 n0 ca0).ownBlock = some k ∨ w.heap.size ≤ k)) := by
    refine hid fun k hk => ?_
    have h2 := hk3.out.2 k hk
    rcases hk3.out.1 k hk with h1 | h1
    · have := hv k h1; exact ⟨by omega, .inl h1⟩
    · simp at h1; exact ⟨by omega, .inr (by omega)⟩
  clear hb0 hb1 hf3 hb1' HT hv hk3
  simp only [] at hr3
  unfold rn
  go_upto_region 2 with fail
  obtain ⟨w5, hw5⟩ : ∃ w5, w5 = (w3.alloc (.cells #[.int .i64 room, .slice a3 n3 c3, .int .i64 s, .int .i64 y] 48)).alloc (.cells #[.int .i64 gk, .int .i64 ge, .int .i64 gs, .int .i64 gu, .int .i64 gv, .int .i64 gt] 29) := ⟨_, rfl⟩
  have hf5 : Frm M0 w3 w5 := by rw [hw5]; exact ((Frm.refl _ _).alloc _).alloc _
  have hb6 : w5.heap[w3.heap.size]? = some (.cells #[.int .i64 room, .slice a3 n3 c3, .int .i64 s, .int .i64 y] 48 (0, 0)) := by rw [hw5]; exact (new2 _ _ _).1
  rw [← hw5]
  obtain ⟨⟨p0, p1, p2, p3⟩, q0, q1, q2, q3⟩ := four hb6
  obtain ⟨⟨r0, r1, r2, r3⟩, t0, t1, t2, t3⟩ := four (hf5.heap HB1.out (fun h => h))
  have HB1' := hid (hf5.heap HB1.out (fun h => h))
  have hz5 := (Array.getElem?_eq_some_iff.1 hb6).1
  have hz51 : w.heap.size + 1 < w5.heap.size := (Array.getElem?_eq_some_iff.1 HB1'.out).1
  have hzn : w3.heap.size ≠ w.heap.size + 1 := by omega
  have HF5 := hid (HF3.out.then0 hf5)
  have HR5 := hid (hr3.out.frm0 hf5)
  have HZ5 := hid hf5.size
  clear hw5 hf5 hb6 hr3 HB1
  rcases HC.out with ⟨rfl, he⟩ | ⟨rfl, he⟩
  · have HE := hid he
    clear HC he
    go_wp2_with fail
    refine bodyPost_ret (v := .tuple #[.agg #[.int .i64 room, .slice a3 n3 c3, .int .i64 s, .int .i64 y], .bool false]) (by simp [results, Try.results27, go_sem, p0, p1, p2, p3, r0, r1, r2, r3]) rfl ?_
    have hfb := (put4 HB1'.out (.int .i64 (room : Int)) (.slice a3 n3 c3) (.int .i64 s) (.int .i64 y)).2
    have hfl := HF5.out.trans hfb (fun b hb h => by have h' : b = w.heap.size + 1 := h; omega)
    rw [HE.out]
    exact ⟨_, rfl, hid (HR5.out.frm hfb (fun k hk e => (hkb.out k hk).1.1 e)), hid ⟨fun k hk => (hkb.out k hk).2, fun k hk => Nat.lt_of_lt_of_le (Nat.lt_of_lt_of_le (hkb.out k hk).1.2 HZ5.out) hfb.size⟩, hfl⟩
  · have HE := hid he
    clear HC he
    go_wp2_with fail
    refine bodyPost_ret (v := .tuple #[.agg #[.int .i64 room, .slice a3 n3 c3, .int .i64 s, .int .i64 (wrap64 (y + 1))], .bool true]) (by simp [results, Try.results27, go_sem, p0, p1, p2, p3, r0, r1, r2, r3]) rfl ?_
    have hfb := (((((Frm.refl (fun b => b = w3.heap.size ∨ b = w.heap.size + 1) w5).put w3.heap.size 3 (.int .i64 (wrap64 (y + 1))) (fun _ => .inl rfl)).put (w.heap.size + 1) 0 (.int .i64 (room : Int)) (fun _ => .inr rfl)).put (w.heap.size + 1) 1 (.slice a3 n3 c3) (fun _ => .inr rfl)).put (w.heap.size + 1) 2 (.int .i64 s) (fun _ => .inr rfl)).put (w.heap.size + 1) 3 (.int .i64 (wrap64 (y + 1))) (fun _ => .inr rfl)
    have hz3 := HF3.out.size
    have hfl := HF5.out.trans hfb (fun b hb h => by omega)
    rw [HE.out]
    exact ⟨_, rfl, hid (HR5.out.frm hfb (fun k hk e => by have := (hkb.out k hk).1; omega)), hid ⟨fun k hk => (hkb.out k hk).2, fun k hk => Nat.lt_of_lt_of_le (Nat.lt_of_lt_of_le (hkb.out k hk).1.2 HZ5.out) hfb.size⟩, hfl⟩

set_option maxHeartbeats 1000000 in
theorem refTwice_calls (N : Net) (v : Value) (x : Int) (wx : (Lit.int .i64 x).wf = true) (w : World) (h : Rd w 6 v N.l.length (msgs N.l)) (hv : VL w v) (hl : N.l.length ≤ 1000) :
    Calls Try.prog 28 #[rn N.room v N.sent N.lost, .int .i64 x] w fun r w' => RefP w w' v (N.twice x).1 r (fun y => .tuple #[y, .int .i64 (N.twice x).2]) := by
  obtain ⟨R', hR'⟩ : ∃ R', R' = N.twice x := ⟨_, rfl⟩
  rw [← hR']
  unfold Net.twice at hR'
  by_cases h0 : N.l.length = 0
  · rw [if_pos h0] at hR'
    have HR' := hid hR'
    obtain ⟨room, l, s, y⟩ := N
    simp only [] at h h0 hl ⊢
    have H := hid h
    obtain ⟨a, ca, rfl, _⟩ := h.shapeN
    have hl0 : l = [] := List.eq_nil_of_length_eq_zero h0
    subst hl0
    have HP : Hid (∀ wz, Frm M0 w wz → Calls Try.prog 40 #[.agg #[.int .i64 room, .slice a 0 ca, .int .i64 s, .int .i64 y], .int .i64 x] wz fun r w' => r = .returned (.int .i64 (-1)) ∧ Frm M0 wz w') := hid fun wz hf => refPlace_none room s y _ x wz (h.frm0 hf)
    clear h h0 hl hR'
    go_enter Try.func28, Try.ntmps28
    go_wp2_with fail
    refine (HP.out _ (((Frm.refl M0 w).alloc _).alloc _)).mono ?_
    rintro r w4 ⟨rfl, hf4⟩
    obtain ⟨hb0, hb1⟩ := new2 w (.cells #[.int .i64 room, .slice a 0 ca, .int .i64 s, .int .i64 y] 48) (.cells #[.int .i64 0, .slice none 0 0, .int .i64 0, .int .i64 0] 48)
    obtain ⟨⟨p0, p1, p2, p3⟩, q0, q1, q2, q3⟩ := four (hf4.heap hb0 (fun h => h))
    obtain ⟨⟨r0, r1, r2, r3⟩, t0, t1, t2, t3⟩ := four (hf4.heap hb1 (fun h => h))
    have hz : w.heap.size + 1 < w4.heap.size := (Array.getElem?_eq_some_iff.1 (hf4.heap hb1 (fun h => h))).1
    have HF4 := hid ((((Frm.refl M0 w).alloc _).alloc _).then0 hf4)
    clear hb0 hb1 hf4 HP
    go_wp2_with fail
    refine bodyPost_ret (v := .tuple #[rn room (.slice a 0 ca) s y, .int .i64 5]) (by simp [results, Try.results28, go_sem, p0, p1, p2, p3, r0, r1, r2, r3]) rfl ?_
    have hz0 : w.heap.size ≤ w.heap.size + 1 := by omega
    have hfl := (((HF4.out.putN (w.heap.size + 1) 0 (.int .i64 room) hz0).putN _ 1 (.slice a 0 ca) hz0).putN _ 2 (.int .i64 s) hz0).putN _ 3 (.int .i64 y) hz0
    rw [HR'.out]
    exact ⟨_, rfl, hid (H.out.frm0 hfl), hid ⟨fun k hk => .inl hk, hv.frm hfl⟩, hfl⟩
  · rw [if_neg h0] at hR'
    obtain ⟨k, hk, hkl⟩ := pl_bound x N.l.length (by omega)
    have hpl := hk
    rw [hk, Int.toNat_natCast] at hR'
    obtain ⟨mg, hmg⟩ : ∃ mg, N.l[k]? = some mg := ⟨_, List.getElem?_eq_getElem hkl⟩
    have hgd : N.l.getD k Mg.zero = mg := by rw [List.getD_eq_getElem?_getD, hmg]; rfl
    rw [hgd] at hR'
    unfold Net.push at hR'
    obtain ⟨room, l, s, y⟩ := N
    simp only [] at h h0 hl hR' hkl hmg hpl ⊢
    have H := hid h
    obtain ⟨a, ca, rfl, hab⟩ := h.shapeN
    obtain ⟨b, o, rfl⟩ := hab (by omega)
    obtain ⟨_, hc1, hc2⟩ := h.cap
    have HM := hid hmg
    have HP : Hid (∀ wz, Frm M0 w wz → Calls Try.prog 40 #[.agg #[.int .i64 room, .slice (some ⟨b, o, none⟩) l.length ca, .int .i64 s, .int .i64 y], .int .i64 x] wz fun r w' => r = .returned (.int .i64 k) ∧ Frm M0 wz w') := hid fun wz hf => by rw [← hpl]; exact refPlace_some room s y _ l x wx wz (h.frm0 hf) (by omega)
    have HPU : Hid (∀ wz, Frm M0 w wz → Calls Try.prog 39 #[.agg #[.int .i64 room, .slice (some ⟨b, o, none⟩) l.length ca, .int .i64 s, .int .i64 y], mg.val] wz fun r w' => ∃ v', r = .returned (rn room v' s y) ∧ Hid (Rd w' 6 v' (l ++ [mg]).length (msgs (l ++ [mg]))) ∧ Hid (∀ k, v'.ownBlock = some k → wz.heap.size ≤ k ∧ k < w'.heap.size) ∧ Frm M0 wz w') := hid fun wz hf => refPush_calls room s y _ l mg wz (h.frm0 hf) hl
    obtain ⟨gk, ge, gs, gu, gv, gt⟩ := mg
    unfold Mg.val at HPU
    simp only [] at HPU
    have HR' := hid hR'
    clear h hab hmg hR' hpl hgd hk h0
    go_enter Try.func28, Try.ntmps28
    go_wp2_with fail
    refine (HP.out _ (((Frm.refl M0 w).alloc _).alloc _)).mono ?_
    rintro r w4 ⟨rfl, hf4⟩
    obtain ⟨hb0, hb1⟩ := new2 w (.cells #[.int .i64 room, .slice (some ⟨b, o, none⟩) l.length ca, .int .i64 s, .int .i64 y] 48) (.cells #[.int .i64 0, .slice none 0 0, .int .i64 0, .int .i64 0] 48)
    have hb0' := hf4.heap hb0 (fun h => h)
    have hb1' := hf4.heap hb1 (fun h => h)
    obtain ⟨⟨p0, p1, p2, p3⟩, q0, q1, q2, q3⟩ := four hb0'
    obtain ⟨⟨r0, r1, r2, r3⟩, t0, t1, t2, t3⟩ := four hb1'
    have hz : w.heap.size + 1 < w4.heap.size := (Array.getElem?_eq_some_iff.1 hb1').1
    have HF4 := hid ((((Frm.refl M0 w).alloc _).alloc _).then0 hf4)
    have HB0 := hid hb0'
    have HB1 := hid hb1'
    clear hb0 hb1 hf4 HP hb0' hb1'
    by_cases hr : l.length < room
    · have hr' := HR'.out
      rw [if_pos hr] at hr'
      have HE := hid hr'
      have hge : decide ((room : Int) ≤ (l.length : Int)) = false := by rw [decide_eq_false_iff_not]; omega
      obtain ⟨m', HM', m0, m1, m2, m3, m4, m5⟩ := (H.out.frm0 HF4.out).msgAt k hkl
      obtain rfl : m' = ⟨gk, ge, gs, gu, gv, gt⟩ := by have h1 := HM'.out; rw [HM.out] at h1; exact (Option.some.inj h1).symm
      simp only [] at m0 m1 m2 m3 m4 m5
      have hkl' : (k : Int) < l.length := by omega
      have hk0 : (0 : Int) ≤ (k : Int) := by omega
      have HSF : Hid (∀ wx, Frm (fun b => b = w.heap.size + 1) w4 wx → (wx.cell? ⟨w.heap.size, 0, none⟩ = some (.int .i64 room) ∧ wx.cell? ⟨w.heap.size, 1, none⟩ = some (.slice (some ⟨b, o, none⟩) l.length ca) ∧ wx.cell? ⟨w.heap.size, 2, none⟩ = some (.int .i64 s) ∧ wx.cell? ⟨w.heap.size, 3, none⟩ = some (.int .i64 y)) ∧ wx.cell? ⟨b, o + k * 6, none⟩ = some (.int .i64 gk) ∧ wx.cell? ⟨b, o + k * 6 + 1, none⟩ = some (.int .i64 ge) ∧ wx.cell? ⟨b, o + k * 6 + 2, none⟩ = some (.int .i64 gs) ∧ wx.cell? ⟨b, o + k * 6 + 3, none⟩ = some (.int .i64 gu) ∧ wx.cell? ⟨b, o + k * 6 + 4, none⟩ = some (.int .i64 gv) ∧ wx.cell? ⟨b, o + k * 6 + 5, none⟩ = some (.int .i64 gt)) := by
        refine hid fun wx hf => ?_
        obtain ⟨m', HM', m0, m1, m2, m3, m4, m5⟩ := (H.out.frm0 (HF4.out.trans hf (fun b hb e => by omega))).msgAt k hkl
        obtain rfl : m' = ⟨gk, ge, gs, gu, gv, gt⟩ := by have h1 := HM'.out; rw [HM.out] at h1; exact (Option.some.inj h1).symm
        exact ⟨(four (hf.heap HB0.out (by omega))).1, m0, m1, m2, m3, m4, m5⟩
      clear hr' HR' HM'
      go_wp2_with fail
      go_region_held3 (fun wx => (wx.cell? ⟨w.heap.size, 0, none⟩ = some (.int .i64 room) ∧ wx.cell? ⟨w.heap.size, 1, none⟩ = some (.slice (some ⟨b, o, none⟩) l.length ca) ∧ wx.cell? ⟨w.heap.size, 2, none⟩ = some (.int .i64 s) ∧ wx.cell? ⟨w.heap.size, 3, none⟩ = some (.int .i64 y)) ∧ wx.cell? ⟨b, o + k * 6, none⟩ = some (.int .i64 gk) ∧ wx.cell? ⟨b, o + k * 6 + 1, none⟩ = some (.int .i64 ge) ∧ wx.cell? ⟨b, o + k * 6 + 2, none⟩ = some (.int .i64 gs) ∧ wx.cell? ⟨b, o + k * 6 + 3, none⟩ = some (.int .i64 gu) ∧ wx.cell? ⟨b, o + k * 6 + 4, none⟩ = some (.int .i64 gv) ∧ wx.cell? ⟨b, o + k * 6 + 5, none⟩ = some (.int .i64 gt)) (first | exact HSF.out _ (HF6.out.mono (fun _ _ h => h.elim)) | exact HSF.out _ (Frm.refl _ _).drew | exact HSF.out _ ((HF6.out.mono (fun _ _ h => h.elim)).same (put4 HB6.out _ _ _ _).2))
        (first | (go_at_call 39; refine (HPU.out _ HF4.out.drew).mono ?_; rintro r w6 ⟨v6, rfl, hr6, hk6, hf6⟩; obtain ⟨a6, n6, c6, rfl, hn6⟩ := hr6.out.shapeL; have HF6 := hid ((Frm.refl M0 w4).drew.then0 hf6); have HB6 := hid (HF6.out.heap HB1.out (fun h => h)); obtain ⟨⟨r0, r1, r2, r3⟩, t0, t1, t2, t3⟩ := four HB6.out; have hz6 : w.heap.size + 1 < w6.heap.size := (Array.getElem?_eq_some_iff.1 HB6.out).1; clear hf6))
      all_goals
        go_wp2_with fail
        refine bodyPost_ret (v := .tuple #[rn room (.slice a6 n6 c6) s y, .int .i64 0]) (by simp [results, Try.results28, go_sem, r0, r1, r2, r3]) rfl ?_
      have hfb := (put4 HB6.out (.int .i64 (room : Int)) (.slice a6 n6 c6) (.int .i64 s) (.int .i64 y)).2
      have hfl := (HF4.out.then0 HF6.out).trans hfb (fun b hb h => by have h' : b = w.heap.size + 1 := h; omega)
      have hk7 : ∀ k, (Value.slice a6 n6 c6).ownBlock = some k → w4.heap.size ≤ k ∧ k < w6.heap.size := hk6.out
      rw [HE.out]
      exact ⟨_, rfl, hid (hr6.out.frm hfb (fun k hk e => by have := hk7 k hk; have e' : k = w.heap.size + 1 := e; omega)), hid ⟨fun k hk => .inr (by have := hk7 k hk; omega), fun k hk => Nat.lt_of_lt_of_le (hk7 k hk).2 hfb.size⟩, hfl⟩
    · have hr' := HR'.out
      rw [if_neg hr] at hr'
      have HE := hid hr'
      clear hr' HR' HPU
      go_wp2_with fail
      refine bodyPost_ret (v := .tuple #[rn room (.slice (some ⟨b, o, none⟩) l.length ca) s (wrap64 (y + 1)), .int .i64 4]) (by simp [results, Try.results28, go_sem, p0, p1, p2, p3, r0, r1, r2, r3]) rfl ?_
      have hz0 : w.heap.size ≤ w.heap.size + 1 := by omega
      have hfl := ((((HF4.out.putN w.heap.size 3 (.int .i64 (wrap64 (y + 1))) (Nat.le_refl _)).putN (w.heap.size + 1) 0 (.int .i64 room) hz0).putN _ 1 (.slice (some ⟨b, o, none⟩) l.length ca) hz0).putN _ 2 (.int .i64 s) hz0).putN _ 3 (.int .i64 (wrap64 (y + 1))) hz0
      rw [HE.out]
      exact ⟨_, rfl, hid (H.out.frm0 hfl), hid ⟨fun k hk => .inl hk, hv.frm hfl⟩, hfl⟩
end Go.Proofs.Ytbepcohcdgfkaaa
