/- The walks of the document's net: New, Right, Place, push, Send. No condition. -/
import Derived.Test.YtbepcohcdgfkaaaNo
import Derived.Test.YtbepcohcdgfkaaaFe
namespace Go.Proofs.Ytbepcohcdgfkaaa
set_option linter.unusedVariables false
set_option linter.unusedSimpArgs false
open Go.RowKit Go.Conc
attribute [-go_sem] run_max_int2 run_min_int2
attribute [local go_sem] run_min2 run_max2 run_min5

/-- The document's net, by value. -/
abbrev rn (room : Int) (v : Value) (s x : Int) : Value := .agg #[.int .i64 room, v, .int .i64 s, .int .i64 x]
theorem mg_len (m : Mg) : (Mg.cells m).length = 6 := rfl
theorem mg_one (m : Mg) : ∀ u ∈ Mg.cells m, u.oneCell' = true := by
  intro u hu
  simp only [Mg.cells, List.mem_cons, List.not_mem_nil, or_false] at hu
  rcases hu with rfl | rfl | rfl | rfl | rfl | rfl <;> rfl

theorem refNew_calls (x : Int) (w : World) : Calls Try.prog 24 #[.int .i64 x] w fun r w' => r = .returned (rn (roomOf x) (.slice none 0 0) 0 0) ∧ Frm M0 w w' := by
  obtain ⟨hr, r1, r2⟩ := roomOf_eq x
  have HR := hid hr
  obtain ⟨y, hy⟩ : ∃ y, y = min (max x 1) 64 := ⟨_, rfl⟩
  rw [← hy] at HR
  have HY := hid hy
  clear hr hy r1 r2
  go_enter Try.func24, Try.ntmps24
  go_wp2_with fail
  exact bodyPost_ret (v := rn (min (max x 1) 64) (.slice none 0 0) 0 0) (by simp [results, Try.results24, go_sem]) rfl ⟨by rw [← HY.out, HR.out], (Frm.refl M0 w).alloc _⟩

theorem refRight_calls (m : Mg) (w : World) : Calls Try.prog 38 #[m.val] w fun r w' => r = .returned (.bool (rightB m)) ∧ Frm M0 w w' := by
  obtain ⟨k, e, s, u, v, t⟩ := m
  unfold Mg.val
  simp only []
  have hf := hid (fun (o : Obj) => (Frm.refl M0 w).alloc o)
  by_cases hk : k = 1
  · have h1 : (k == 1) = true := beq_iff_eq.2 hk
    have hr : Hid (rightB ⟨k, e, s, u, v, t⟩ = decide (0 ≤ mn5 e s u v t)) := by unfold Hid rightB; rw [decide_eq_true hk]; rfl
    clear hk
    go_enter Try.func38, Try.ntmps38
    go_wp2
    go_ret
    exact ⟨by rw [hr.out]; rfl, hf.out _⟩
  · have h1 : (k == 1) = false := beq_eq_false_iff_ne.2 hk
    by_cases hk2 : k = 2
    · have h2 : (k == 2) = true := beq_iff_eq.2 hk2
      have hr : Hid (rightB ⟨k, e, s, u, v, t⟩ = decide (0 ≤ mn5 e s u v t)) := by unfold Hid rightB; rw [decide_eq_false hk, decide_eq_true hk2]; rfl
      clear hk hk2
      go_enter Try.func38, Try.ntmps38
      go_wp2
      go_ret
      exact ⟨by rw [hr.out]; rfl, hf.out _⟩
    · have h2 : (k == 2) = false := beq_eq_false_iff_ne.2 hk2
      have hr : Hid (rightB ⟨k, e, s, u, v, t⟩ = false) := by unfold Hid rightB; rw [decide_eq_false hk, decide_eq_false hk2]; rfl
      clear hk hk2
      go_enter Try.func38, Try.ntmps38
      go_wp2
      go_ret
      exact ⟨by rw [hr.out]; rfl, hf.out _⟩

theorem refPlace_some (room s y : Int) (v : Value) (l : List Mg) (x : Int) (wx : (Lit.int .i64 x).wf = true) (w : World) (h : Rd w 6 v l.length (msgs l)) (h0 : 0 < l.length) :
    Calls Try.prog 40 #[rn room v s y, .int .i64 x] w fun r w' => r = .returned (.int .i64 (pl x l.length)) ∧ Frm M0 w w' := by
  obtain ⟨a, ca, rfl, _⟩ := h.shapeN
  obtain ⟨_, hc1, hc2⟩ := h.cap
  obtain ⟨b1, b2⟩ := wf_i64 wx
  have hpl : Hid (pl x l.length = Int.tmod (if x < 0 then -(x + 1) else x) l.length) := rfl
  generalize hL : l.length = L at *
  have hz : ((L : Int) == 0) = false := by rw [beq_eq_false_iff_ne]; omega
  have hz2 : (L : Int) ≠ 0 := by omega
  clear h wx hL
  cases hx : decide (x < 0) with
  | true =>
    have hx0 : x < 0 := of_decide_eq_true hx
    rw [hpl.out, if_pos hx0, Int.neg_tmod]
    have e1 : wrap64 (x + 1) = x + 1 := by unfold wrap64; omega
    have e2 : wrap64 (-(x + 1)) = -(x + 1) := by unfold wrap64; omega
    go_enter Try.func40, Try.ntmps40
    go_wp2_with fail
    go_ret
    exact ⟨rfl, (Frm.refl M0 w).alloc _⟩
  | false =>
    have hx0 : ¬ x < 0 := of_decide_eq_false hx
    rw [hpl.out, if_neg hx0, Int.tmod_eq_emod_of_nonneg (by omega)]
    go_enter Try.func40, Try.ntmps40
    go_wp2_with fail
    go_ret
    exact ⟨rfl, (Frm.refl M0 w).alloc _⟩
theorem refPlace_none (room s y : Int) (v : Value) (x : Int) (w : World) (h : Rd w 6 v 0 []) :
    Calls Try.prog 40 #[rn room v s y, .int .i64 x] w fun r w' => r = .returned (.int .i64 (-1)) ∧ Frm M0 w w' := by
  obtain ⟨a, ca, rfl, _⟩ := h.shapeN
  clear h
  go_enter Try.func40, Try.ntmps40
  go_wp2_with fail
  go_ret
  exact ⟨rfl, (Frm.refl M0 w).alloc _⟩

set_option maxHeartbeats 1000000 in
theorem refPush_calls (room s y : Int) (v : Value) (l : List Mg) (g : Mg) (w : World) (h : Rd w 6 v l.length (msgs l)) (hl : l.length ≤ 1000) :
    Calls Try.prog 39 #[rn room v s y, g.val] w fun r w' => ∃ v', r = .returned (rn room v' s y) ∧ Hid (Rd w' 6 v' (l ++ [g]).length (msgs (l ++ [g]))) ∧ Hid (∀ k, v'.ownBlock = some k → w.heap.size ≤ k ∧ k < w'.heap.size) ∧ Frm M0 w w' := by
  have H := hid h
  obtain ⟨gk, ge, gs, gu, gv, gt⟩ := g
  obtain ⟨a, ca, rfl, _⟩ := h.shapeN
  unfold Mg.val
  simp only []
  clear h
  go_enter Try.func39, Try.ntmps39
  go_upto_region 2 with fail
  obtain ⟨w3, hw3⟩ : ∃ w3, w3 = ((w.alloc (.cells #[.int .i64 room, .slice a l.length ca, .int .i64 s, .int .i64 y] 48)).alloc (.cells #[.int .i64 gk, .int .i64 ge, .int .i64 gs, .int .i64 gu, .int .i64 gv, .int .i64 gt] 29)).alloc (.cells #[.int .i64 0, .slice none 0 0, .int .i64 0, .int .i64 0] 48) := ⟨_, rfl⟩
  obtain ⟨hb0, hb1, hb2⟩ := new3 w (.cells #[.int .i64 room, .slice a l.length ca, .int .i64 s, .int .i64 y] 48) (.cells #[.int .i64 gk, .int .i64 ge, .int .i64 gs, .int .i64 gu, .int .i64 gv, .int .i64 gt] 29) (.cells #[.int .i64 0, .slice none 0 0, .int .i64 0, .int .i64 0] 48)
  have hf3 : Frm M0 w w3 := by rw [hw3]; exact (((Frm.refl _ _).alloc _).alloc _).alloc _
  have hz3 : w3.heap.size = w.heap.size + 1 + 1 + 1 := by rw [hw3]; simp
  rw [← hw3] at hb0 hb1 hb2 ⊢
  clear hw3
  have H3 := hid (H.out.frm0 hf3)
  obtain ⟨⟨p0, p1, p2, p3⟩, q0, q1, q2, q3⟩ := four hb0
  have HB0 := hid hb0
  have HB1 := hid hb1
  have HB2 := hid hb2
  have HF3 := hid hf3
  clear hb0 hb1 hb2 hf3
  go_upto_region 3 with (at_builtin; refine wpList_push_els mg_len mg_one rfl _ _ 22 rfl w3.heap.size 29 Mg.zero.val 48 Try.underlying22 info29 rfl (by decide) (.slice none 0 0) [] rfl (World.ownsRow_nil _ _ _ _) _ l rfl H3.out (by simp only [List.length_nil]; omega) (by simp only [List.length_nil]; omega) (Nat.le_refl _) ?_; intro v4 w4 ho4 hg4)
  have hf4 : Frm M0 w3 w4 := (Frm.refl _ _).grown hg4 (fun k hk _ => by cases hk)
  obtain ⟨⟨c0, c1, c2, c3, c4, c5⟩, _⟩ := six (hf4.heap HB1.out (fun h => h))
  have hb0 := hf4.heap HB0.out (fun h => h)
  have hb2 := hf4.heap HB2.out (fun h => h)
  have HO4 : Hid (w4.ownsRow w3.heap.size 29 6 v4 l.length (l.flatMap Mg.cells)) := hid ho4
  have HF4 := hid (HF3.out.then0 hf4)
  have HB0' := hid hb0
  have HB2' := hid hb2
  have hz4 := hf4.size
  clear ho4 hg4 hf4 hb0 hb2 p0 p1 p2 p3 q0 q1 q2 q3 HB0 HB1 HB2 HF3
  go_upto_region 4 with (at_builtin; refine wpList_push_el mg_len mg_one rfl _ _ 22 rfl w3.heap.size 29 Mg.zero.val 48 Try.underlying22 info29 rfl (by decide) v4 l ⟨gk, ge, gs, gu, gv, gt⟩ _ rfl rfl HO4.out rfl (by omega) (by omega) (by omega) ?_; intro v5 w5 ho5 hg5; obtain ⟨a5, n5, ca5, rfl, hn5⟩ := (Rd.ofOwns ho5).shapeL; have hf5 : Frm (fun b => w3.heap.size ≤ b) w4 w5 := (Frm.refl _ _).grown hg5 (fun k hk _ => (HO4.out.lt k hk).1); have hb0 := hf5.heap HB0'.out (by omega); obtain ⟨⟨p0, p1, p2, p3⟩, q0, q1, q2, q3⟩ := four hb0; obtain ⟨⟨r0, r1, r2, r3⟩, t0, t1, t2, t3⟩ := four (hf5.heap HB2'.out (by omega)); have HO5 := hid ho5; have HF5 := hid hf5; have hz5 := hf5.size; clear hb0 hf5 ho5 hg5)
  go_wp2_with fail
  have hfb : Frm (fun b => b = w.heap.size ∨ b = w.heap.size + 1 + 1) w5 (((((w5.setCell ⟨w.heap.size, 1, none⟩ (.slice a5 n5 ca5)).setCell ⟨w.heap.size + 1 + 1, 0, none⟩ (.int .i64 room)).setCell ⟨w.heap.size + 1 + 1, 1, none⟩ (.slice a5 n5 ca5)).setCell ⟨w.heap.size + 1 + 1, 2, none⟩ (.int .i64 s)).setCell ⟨w.heap.size + 1 + 1, 3, none⟩ (.int .i64 y)) :=
    (((((Frm.refl _ _).put _ 1 _ (fun _ => .inl rfl)).put _ 0 _ (fun _ => .inr rfl)).put _ 1 _ (fun _ => .inr rfl)).put _ 2 _ (fun _ => .inr rfl)).put _ 3 _ (fun _ => .inr rfl)
  have hz0 := HF4.out.size
  refine bodyPost_ret (v := rn room (.slice a5 n5 ca5) s y) (by simp [results, Try.results39, go_sem, p0, p1, p2, p3, r0, r1, r2, r3]) rfl ⟨_, rfl, hid ?_, hid (fun k hk => by have := HO5.out.lt k hk; have := hfb.size; omega), ?_⟩
  · exact (Rd.ofOwns HO5.out).frm hfb (fun k hk e => by have := (HO5.out.lt k hk).1; omega)
  · exact (((HF4.out.mono (M' := fun b => w.heap.size ≤ b) (fun _ _ h => h.elim)).trans HF5.out (fun b hb h => by omega)).trans hfb (fun b hb h => by omega)).mono (fun b hb h => by omega)

/-- The slice lies in a block that is there. -/
def VL (w : World) (v : Value) : Prop := ∀ k, v.ownBlock = some k → k < w.heap.size
theorem VL.frm {M : Nat → Prop} {w w' : World} {v : Value} (h : VL w v) (hf : Frm M w w') : VL w' v := fun k hk => Nat.lt_of_lt_of_le (h k hk) hf.size
/-- A net by value, as the document's functions give it. -/
def RefP (w w' : World) (vin : Value) (N : Net) (r : Ending) (f : Value → Value) : Prop :=
  ∃ v', r = .returned (f (rn N.room v' N.sent N.lost)) ∧ Hid (Rd w' 6 v' N.l.length (msgs N.l)) ∧ Hid ((∀ k, v'.ownBlock = some k → vin.ownBlock = some k ∨ w.heap.size ≤ k) ∧ VL w' v') ∧ Frm M0 w w'

set_option maxHeartbeats 1000000 in
theorem refSend_calls (N : Net) (v : Value) (g : Mg) (w : World) (h : Rd w 6 v N.l.length (msgs N.l)) (hv : VL w v) (hl : N.l.length ≤ 1000) :
    Calls Try.prog 25 #[rn N.room v N.sent N.lost, g.val] w fun r w' => RefP w w' v (N.send g).1 r (fun x => .tuple #[x, .int .i64 (N.send g).2]) := by
  obtain ⟨R', hR'⟩ : ∃ R', R' = N.send g := ⟨_, rfl⟩
  rw [← hR']
  obtain ⟨room, l, s, y⟩ := N
  simp only [] at h hl ⊢
  have H := hid h
  obtain ⟨a, ca, rfl, _⟩ := h.shapeN
  have hR := refRight_calls g
  obtain ⟨R, hRR⟩ : ∃ R, R = rightB g := ⟨_, rfl⟩
  rw [← hRR] at hR
  have hcase : (R = false ∧ R' = (⟨room, l, s, y⟩, 1)) ∨ (R = true ∧ l.length < room ∧ R' = (⟨room, l ++ [g], wrap64 (s + 1), y⟩, 0)) ∨ (R = true ∧ room ≤ l.length ∧ R' = (⟨room, l, s, wrap64 (y + 1)⟩, 4)) := by
    rw [hR']
    unfold Net.send
    rw [← hRR]
    cases R with
    | false => exact .inl ⟨rfl, rfl⟩
    | true =>
      by_cases hr : l.length < room
      · exact .inr (.inl ⟨rfl, hr, by rw [if_neg (by decide), if_pos hr]⟩)
      · exact .inr (.inr ⟨rfl, by omega, by rw [if_neg (by decide), if_neg hr]⟩)
  clear hR'
  obtain ⟨gk, ge, gs, gu, gv, gt⟩ := g
  unfold Mg.val at hR ⊢
  simp only [] at hR ⊢
  have HR := hid hR
  have HC := hid hcase
  clear h hR hRR hcase
  go_enter Try.func25, Try.ntmps25
  go_wp2_with fail
  refine (HR.out _).mono ?_
  rintro r w4 ⟨rfl, hf4⟩
  obtain ⟨hb0, hb1, hb2⟩ := new3 w (.cells #[.int .i64 room, .slice a l.length ca, .int .i64 s, .int .i64 y] 48) (.cells #[.int .i64 gk, .int .i64 ge, .int .i64 gs, .int .i64 gu, .int .i64 gv, .int .i64 gt] 29) (.cells #[.int .i64 0, .slice none 0 0, .int .i64 0, .int .i64 0] 48)
  have hz4 := hf4.size
  have hz3 : (((w.alloc (.cells #[.int .i64 room, .slice a l.length ca, .int .i64 s, .int .i64 y] 48)).alloc (.cells #[.int .i64 gk, .int .i64 ge, .int .i64 gs, .int .i64 gu, .int .i64 gv, .int .i64 gt] 29)).alloc (.cells #[.int .i64 0, .slice none 0 0, .int .i64 0, .int .i64 0] 48)).heap.size = w.heap.size + 1 + 1 + 1 := by simp
  rw [hz3] at hz4
  have hb0' := hf4.heap hb0 (fun h => h)
  have hb2' := hf4.heap hb2 (fun h => h)
  obtain ⟨⟨p0, p1, p2, p3⟩, q0, q1, q2, q3⟩ := four hb0'
  obtain ⟨⟨c0, c1, c2, c3, c4, c5⟩, _⟩ := six (hf4.heap hb1 (fun h => h))
  obtain ⟨⟨r0, r1, r2, r3⟩, t0, t1, t2, t3⟩ := four hb2'
  have HB0 := hid hb0'
  have HB2 := hid hb2'
  have HF4 := hid (((((Frm.refl M0 w).alloc _).alloc _).alloc _).then0 hf4)
  clear hb0 hb1 hb2 hz3 hb0' hb2' hf4 HR
  go_upto_region 2 with fail
  have hz0 : w.heap.size + 1 + 1 < w4.heap.size := by omega
  rcases HC.out with ⟨rfl, he⟩ | ⟨rfl, hlt, he⟩ | ⟨rfl, hle, he⟩
  · have HE := hid he
    clear HC he
    go_wp2_with fail
    refine bodyPost_ret (v := .tuple #[rn room (.slice a l.length ca) s y, .int .i64 1]) (by simp [results, Try.results25, go_sem, p0, p1, p2, p3, r0, r1, r2, r3]) rfl ?_
    have hfb := HF4.out.trans (put4 HB2.out (.int .i64 (room : Int)) (.slice a l.length ca) (.int .i64 s) (.int .i64 y)).2 (fun b hb h => by have h' : b = w.heap.size + 1 + 1 := h; omega)
    rw [HE.out]
    exact ⟨_, rfl, hid (H.out.frm0 hfb), hid ⟨fun k hk => .inl hk, hv.frm hfb⟩, hfb⟩
  · have HE := hid he
    clear HC he
    have hge : decide ((room : Int) ≤ (l.length : Int)) = false := by rw [decide_eq_false_iff_not]; omega
    have hf5 := HF4.out.putN w.heap.size 2 (.int .i64 (wrap64 (s + 1))) (Nat.le_refl _)
    have HPU := hid (refPush_calls room (wrap64 (s + 1)) y (.slice a l.length ca) l ⟨gk, ge, gs, gu, gv, gt⟩ _ (H.out.frm0 hf5) hl)
    have HZ5 : Hid ((w4.setCell ⟨w.heap.size, 2, none⟩ (.int .i64 (wrap64 (s + 1)))).heap.size = w4.heap.size) := by unfold Hid; simp [World.setCell]
    have hsz5 : (w4.setCell ⟨w.heap.size, 2, none⟩ (.int .i64 (wrap64 (s + 1)))).heap.size = w4.heap.size := by simp [World.setCell]
    have HF5 := hid hf5
    have hb5 := ((Frm.refl (fun b => b = w.heap.size) w4).put w.heap.size 2 (.int .i64 (wrap64 (s + 1))) (fun _ => rfl)).heap HB2.out (by omega)
    have HB5 := hid hb5
    clear hf5 hsz5 hb5
    go_wp2_with fail
    refine HPU.out.mono ?_
    rintro r w6 ⟨v6, rfl, hr6, hk6, hf6⟩
    obtain ⟨a6, n6, c6, rfl, hn6⟩ := hr6.out.shapeL
    obtain ⟨⟨r0, r1, r2, r3⟩, t0, t1, t2, t3⟩ := four (hf6.heap HB5.out (fun h => h))
    have HF6 := hid (HF5.out.then0 hf6)
    have HB6 := hid (hf6.heap HB5.out (fun h => h))
    have hz6 : w.heap.size + 1 + 1 < w6.heap.size := (Array.getElem?_eq_some_iff.1 HB6.out).1
    clear hf6 HB5 HPU HF5
    go_wp2_with fail
    refine bodyPost_ret (v := .tuple #[rn room (.slice a6 n6 c6) (wrap64 (s + 1)) y, .int .i64 0]) (by simp [results, Try.results25, go_sem, r0, r1, r2, r3]) rfl ?_
    have hfl := (((Frm.refl M0 w).then0 HF6.out).trans (put4 HB6.out (.int .i64 (room : Int)) (.slice a6 n6 c6) (.int .i64 (wrap64 (s + 1))) (.int .i64 y)).2 (fun b hb h => by have h' : b = w.heap.size + 1 + 1 := h; omega) : Frm M0 w _)
    rw [HE.out]
    have hk7 : ∀ k, (Value.slice a6 n6 c6).ownBlock = some k → w4.heap.size ≤ k ∧ k < w6.heap.size := fun k hk => by have := hk6.out k hk; rw [HZ5.out] at this; exact this
    refine ⟨_, rfl, hid ?_, hid ⟨fun k hk => .inr (by have := hk7 k hk; omega), fun k hk => Nat.lt_of_lt_of_le (hk7 k hk).2 (put4 HB6.out (.int .i64 (room : Int)) (.slice a6 n6 c6) (.int .i64 (wrap64 (s + 1))) (.int .i64 y)).2.size⟩, hfl⟩
    exact hr6.out.frm (put4 HB6.out _ _ _ _).2 (fun k hk e => by have := hk7 k hk; omega)
  · have HE := hid he
    clear HC he
    have hge : decide ((room : Int) ≤ (l.length : Int)) = true := by rw [decide_eq_true_eq]; omega
    go_wp2_with fail
    refine bodyPost_ret (v := .tuple #[rn room (.slice a l.length ca) s (wrap64 (y + 1)), .int .i64 4]) (by simp [results, Try.results25, go_sem, p0, p1, p2, p3, r0, r1, r2, r3]) rfl ?_
    have hfl := (((((HF4.out.putN w.heap.size 3 (.int .i64 (wrap64 (y + 1))) (by omega)).putN (w.heap.size + 1 + 1) 0 (.int .i64 room) (by omega)).putN (w.heap.size + 1 + 1) 1 (.slice a l.length ca) (by omega)).putN (w.heap.size + 1 + 1) 2 (.int .i64 s) (by omega)).putN (w.heap.size + 1 + 1) 3 (.int .i64 (wrap64 (y + 1))) (by omega))
    rw [HE.out]
    exact ⟨_, rfl, hid (H.out.frm0 hfl), hid ⟨fun k hk => .inl hk, hv.frm hfl⟩, hfl⟩
end Go.Proofs.Ytbepcohcdgfkaaa
