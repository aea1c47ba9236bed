/- The walks of a net's methods that do not take messages out: push without room, Send, Lost, place, Twice, New. No condition. -/
import Derived.Test.YtbepcohcdgfkaaaNt
import Derived.Conc.SmallLaws
namespace Go.Proofs.Ytbepcohcdgfkaaa
set_option linter.unusedVariables false
set_option linter.unusedSimpArgs false
open Go.RowKit Go.Conc

theorem lost_calls (nb c : Nat) (vb : Option Nat) (N : Net) (w : World) (h : NetR w nb c vb N) :
    Calls Try.prog 21 #[pn nb] w fun r w' => r = .returned (.int .i64 N.lost) ∧ w = w' := by
  obtain ⟨v, buf, s, r, hv, h1, _⟩ := h
  obtain ⟨⟨c0, c1, c2, c3⟩, _⟩ := netCells h1
  clear h1 hv
  go_enter Try.func21, Try.ntmps21
  go_wp2
  go_ret
  exact ⟨rfl, rfl⟩

set_option maxHeartbeats 1000000 in
theorem push_full (nb c : Nat) (vb : Option Nat) (N : Net) (m : Mg) (w : World) (h : NetR w nb c vb N) (hroom : N.room ≤ N.l.length) :
    Calls Try.prog 32 #[pn nb, m.val] w fun r w' => r = .returned (.int .i64 4) ∧ NetR w' nb c vb { N with lost := wrap64 (N.lost + 1) } ∧ Frm (NF nb c vb) w w' := by
  have hlt := h.lt
  obtain ⟨v, buf, s, r, hv, h1, h2, h3, h4, h5, h6, h7, h8, h9⟩ := h
  obtain ⟨⟨c0, c1, c2, c3⟩, ⟨f0, f1, f2, f3⟩⟩ := netCells h1
  have hb : buf = #[] := Array.eq_empty_of_size_eq_zero (by omega)
  subst hb
  have n1 : nb < w.heap.size := (Array.getElem?_eq_some_iff.1 h1).1
  have H1 := hid h1
  have H2 := hid h2
  have H6 := hid h6
  have HV := hid hv
  have HLT := hid hlt
  clear h1 h2 h6 hv hlt
  obtain ⟨mk, me, ms, mu, mv, mt⟩ := m
  unfold Mg.val
  simp only []
  go_enter Try.func32, Try.ntmps32
  go_upto_region 2 with fail
  refine wp_region_in ?_
  have HC2 : (w.alloc (.cells #[.int .i64 mk, .int .i64 me, .int .i64 ms, .int .i64 mu, .int .i64 mv, .int .i64 mt] 29)).heap[c]? = some (.chan N.room #[] false s r false) := (Frm.refl M0 w |>.alloc _).heap H2.out (fun h => h)
  change InReg _ _ _ (0 :: [1, 2]) _ _
  refine inReg_select_default (z := .agg #[]) (some 9) rfl rfl rfl (by go_simp; rfl) HC2 ?_
  refine inReg_value (v := .int .i64 (-1)) (w1 := w.alloc (.cells #[.int .i64 mk, .int .i64 me, .int .i64 ms, .int .i64 mu, .int .i64 mv, .int .i64 mt] 29)) (some 10) rfl rfl rfl (by go_simp) ?_
  refine inReg_value (v := .bool false) (w1 := w.alloc (.cells #[.int .i64 mk, .int .i64 me, .int .i64 ms, .int .i64 mu, .int .i64 mv, .int .i64 mt] 29)) (some 11) rfl rfl rfl (by go_simp) ?_
  refine inReg_end ?_
  simp only [Act.put, List.setIfInBounds_toArray, List.set_cons_zero, List.set_cons_succ]
  clear HC2
  go_wp2_with fail
  go_ret
  have hfe : Frm (fun b => b = nb) w ((w.setCell ⟨nb, 3, none⟩ (.int .i64 (wrap64 (N.lost + 1)))).alloc (.cells #[.int .i64 mk, .int .i64 me, .int .i64 ms, .int .i64 mu, .int .i64 mv, .int .i64 mt] 29)) :=
    ((Frm.refl (fun b => b = nb) w).put nb 3 _ (fun _ => rfl)).alloc _
  have hal : Frm M0 (w.setCell ⟨nb, 3, none⟩ (.int .i64 (wrap64 (N.lost + 1)))) ((w.setCell ⟨nb, 3, none⟩ (.int .i64 (wrap64 (N.lost + 1)))).alloc (.cells #[.int .i64 mk, .int .i64 me, .int .i64 ms, .int .i64 mu, .int .i64 mv, .int .i64 mt] 29)) := (Frm.refl _ _).alloc _
  exact ⟨rfl, ⟨v, #[], s, r, HV.out, hal.heap (heap_set_at H1.out _) (fun h => h), hfe.heap H2.out (fun e => h7 e), h3, h4, h5, hfe.owns H6.out (fun k hk e => h8 (by rw [← HV.out, hk, e])), h7, h8, h9⟩, hfe.mono (fun b _ h => Or.inl h)⟩

/-- What Send does to a net. -/
def Net.send (N : Net) (m : Mg) : Net × Int :=
  if rightB m = false then (N, 1) else if N.l.length < N.room then ({ N with l := N.l ++ [m], sent := wrap64 (N.sent + 1) }, 0) else ({ N with lost := wrap64 (N.lost + 1) }, 4)

/-- A call turned the net at (nb, c, vb): it is N' now; nothing beside its blocks has turned. -/
def Turned (w w' : World) (nb c : Nat) (vb : Option Nat) (N' : Net) : Prop :=
  ∃ vb', NetR w' nb c vb' N' ∧ Frm (NF nb c vb) w w' ∧ (vb' = vb ∨ ∃ g, vb' = some g ∧ w.heap.size ≤ g)

theorem Turned.same {w w' : World} {nb c : Nat} {vb : Option Nat} {N : Net} (h : NetR w nb c vb N) (hf : Frm M0 w w') : Turned w w' nb c vb N :=
  ⟨vb, h.frm hf (fun _ _ h => h), hf.mono (fun _ _ h => h.elim), .inl rfl⟩
theorem Turned.ofFrm0 {w w1 w' : World} {nb c : Nat} {vb : Option Nat} {N' : Net} (h : Turned w1 w' nb c vb N') (hf : Frm M0 w w1) : Turned w w' nb c vb N' := by
  obtain ⟨vb', h1, h2, h3⟩ := h
  refine ⟨vb', h1, (hf.mono (fun _ _ h => h.elim)).same h2, ?_⟩
  rcases h3 with h | ⟨g, h, hg⟩
  · exact .inl h
  · exact .inr ⟨g, h, Nat.le_trans hf.size hg⟩

theorem push_calls (nb c : Nat) (vb : Option Nat) (N : Net) (m : Mg) (w : World) (h : NetR w nb c vb N) :
    Calls Try.prog 32 #[pn nb, m.val] w fun r w' => r = .returned (.int .i64 (N.push m).2) ∧ Turned w w' nb c vb (N.push m).1 := by
  by_cases hr : N.l.length < N.room
  · have e : N.push m = ({ N with l := N.l ++ [m] }, 0) := by unfold Net.push; rw [if_pos hr]
    rw [e]
    refine (push_room nb c vb N m w h hr).mono ?_
    rintro r w' ⟨rfl, vb', h1, h2, h3⟩
    exact ⟨rfl, vb', h1, h2, h3⟩
  · have e : N.push m = ({ N with lost := wrap64 (N.lost + 1) }, 4) := by unfold Net.push; rw [if_neg hr]
    rw [e]
    refine (push_full nb c vb N m w h (by omega)).mono ?_
    rintro r w' ⟨rfl, h1, h2⟩
    exact ⟨rfl, vb, h1, h2, .inl rfl⟩

theorem send_calls (nb c : Nat) (vb : Option Nat) (N : Net) (m : Mg) (w : World) (h : NetR w nb c vb N) :
    Calls Try.prog 11 #[pn nb, m.val] w fun r w' => r = .returned (.int .i64 (N.send m).2) ∧ Turned w w' nb c vb (N.send m).1 := by
  have hnb : nb < w.heap.size := h.lt nb (.inl rfl)
  have H := hid h
  clear h
  obtain ⟨mk, me, ms, mu, mv, mt⟩ := m
  cases hr : rightB ⟨mk, me, ms, mu, mv, mt⟩ with
  | false =>
    have e : Hid (N.send ⟨mk, me, ms, mu, mv, mt⟩ = (N, 1)) := by unfold Hid Net.send; rw [if_pos hr]
    have HR := hid hr
    clear hr
    unfold Mg.val
    simp only []
    go_enter Try.func11, Try.ntmps11
    go_wp2_with fail
    refine (right_calls ⟨mk, me, ms, mu, mv, mt⟩ _).mono ?_
    rintro r w1 ⟨rfl, hf1⟩
    rw [HR.out]
    have HF := hid (((Frm.refl M0 w).alloc _).then0 hf1)
    clear hf1
    go_wp2_with fail
    go_ret
    exact ⟨by rw [e.out]; rfl, by rw [e.out]; exact Turned.same H.out HF.out⟩
  | true =>
    have e : Hid (N.send ⟨mk, me, ms, mu, mv, mt⟩ = if N.l.length < N.room then ({ N with l := N.l ++ [⟨mk, me, ms, mu, mv, mt⟩], sent := wrap64 (N.sent + 1) }, 0) else ({ N with lost := wrap64 (N.lost + 1) }, 4)) := by
      unfold Hid Net.send; rw [if_neg (by rw [hr]; decide)]
    have HR := hid hr
    clear hr
    unfold Mg.val
    simp only []
    go_enter Try.func11, Try.ntmps11
    go_wp2_with fail
    refine (right_calls ⟨mk, me, ms, mu, mv, mt⟩ _).mono ?_
    rintro r w1 ⟨rfl, hf1⟩
    rw [HR.out]
    have hfa := ((Frm.refl M0 w).alloc (.cells #[.int .i64 mk, .int .i64 me, .int .i64 ms, .int .i64 mu, .int .i64 mv, .int .i64 mt] 29))
    have hbox := hf1.heap (heap_alloc_new w (.cells #[.int .i64 mk, .int .i64 me, .int .i64 ms, .int .i64 mu, .int .i64 mv, .int .i64 mt] 29)) (fun h => h)
    have HF := hid (hfa.then0 hf1)
    have m0 : w1.cell? ⟨w.heap.size, 0, none⟩ = some (.int .i64 mk) := by simp [World.cell?, hbox]
    have m1 : w1.cell? ⟨w.heap.size, 1, none⟩ = some (.int .i64 me) := by simp [World.cell?, hbox]
    have m2 : w1.cell? ⟨w.heap.size, 2, none⟩ = some (.int .i64 ms) := by simp [World.cell?, hbox]
    have m3 : w1.cell? ⟨w.heap.size, 3, none⟩ = some (.int .i64 mu) := by simp [World.cell?, hbox]
    have m4 : w1.cell? ⟨w.heap.size, 4, none⟩ = some (.int .i64 mv) := by simp [World.cell?, hbox]
    have m5 : w1.cell? ⟨w.heap.size, 5, none⟩ = some (.int .i64 mt) := by simp [World.cell?, hbox]
    clear hf1 hfa hbox
    go_wp2_with fail
    refine (push_calls nb c vb N ⟨mk, me, ms, mu, mv, mt⟩ w1 (H.out.frm HF.out (fun _ _ h => h))).mono ?_
    rintro r w2 ⟨rfl, ht⟩
    by_cases hroom : N.l.length < N.room
    · have e2 : N.push ⟨mk, me, ms, mu, mv, mt⟩ = ({ N with l := N.l ++ [⟨mk, me, ms, mu, mv, mt⟩] }, 0) := by unfold Net.push; rw [if_pos hroom]
      rw [e2] at ht ⊢
      have e3 := e.out
      rw [if_pos hroom] at e3
      have E3 := hid e3
      obtain ⟨vb', h1, h2, h3⟩ := ht
      have HF2 := hid h2
      have H3 := hid h3
      obtain ⟨v, buf, s, r, hv, g1, g2, g3, g4, g5, g6, g7, g8, g9⟩ := h1
      obtain ⟨⟨c0, c1, c2, c3⟩, ⟨f0, f1, f2, f3⟩⟩ := netCells g1
      have G1 := hid g1
      have G2 := hid g2
      have G6 := hid g6
      have HV := hid hv
      have G3 := hid g3
      clear e2 e3 h2 h3 g1 g2 g6 hv g3 e m0 m1 m2 m3 m4 m5
      simp only []
      go_wp2_with fail
      go_ret
      have hs := (Frm.refl (fun b => b = nb) w2).put nb 2 (.int .i64 (wrap64 (N.sent + 1))) (fun _ => rfl)
      refine ⟨by rw [E3.out]; rfl, ?_⟩
      rw [E3.out]
      refine Turned.ofFrm0 (w1 := w1) ⟨vb', ⟨v, buf, s, r, HV.out, heap_set_at G1.out _, hs.heap G2.out (fun e => g7 e), G3.out, g4, g5, hs.owns G6.out (fun k hk e => g8 (by rw [← HV.out, hk, e])), g7, g8, g9⟩, HF2.out.trans hs (fun b _ h => Or.inl h), H3.out⟩ HF.out
    · have e2 : N.push ⟨mk, me, ms, mu, mv, mt⟩ = ({ N with lost := wrap64 (N.lost + 1) }, 4) := by unfold Net.push; rw [if_neg hroom]
      rw [e2] at ht ⊢
      have e3 := e.out
      rw [if_neg hroom] at e3
      have E3 := hid e3
      have HT := hid ht
      clear e2 e3 ht e
      go_wp2_with fail
      go_ret
      exact ⟨by rw [E3.out]; rfl, by rw [E3.out]; exact HT.out.ofFrm0 HF.out⟩
end Go.Proofs.Ytbepcohcdgfkaaa
