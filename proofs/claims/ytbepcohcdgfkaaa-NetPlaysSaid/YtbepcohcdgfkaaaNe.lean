/- A net's place and Take. No condition. -/
import Derived.Test.YtbepcohcdgfkaaaNd
import Derived.Test.YtbepcohcdgfkaaaFt
namespace Go.Proofs.Ytbepcohcdgfkaaa
set_option linter.unusedVariables false
set_option linter.unusedSimpArgs false
open Go.RowKit Go.Conc

/-- The place that a number names among n. -/
def pl (x : Int) (n : Nat) : Int := Int.tmod (if x < 0 then -(x + 1) else x) n
theorem pl_bound (x : Int) (n : Nat) (hn : 0 < n) : ∃ k : Nat, pl x n = (k : Int) ∧ k < n := by
  have h0 : 0 ≤ (if x < 0 then -(x + 1) else x) := by split <;> omega
  have h1 : 0 ≤ pl x n := Int.tmod_nonneg _ h0
  have h2 : pl x n < n := Int.tmod_lt_of_pos _ (by omega)
  exact ⟨(pl x n).toNat, by omega, by omega⟩

theorem place_some (nb c : Nat) (vb : Option Nat) (N : Net) (x : Int) (wx : (Lit.int .i64 x).wf = true) (w : World) (h : NetR w nb c vb N) (h0 : 0 < N.l.length) :
    Calls Try.prog 33 #[pn nb, .int .i64 x] w fun r w' => r = .returned (.tuple #[.int .i64 (pl x N.l.length), .bool true]) ∧ w' = w := by
  have hlen := len_calls nb c vb N w h
  obtain ⟨v, buf, s, r, hv, h1, h2, h3, h4, h5, h6, h7⟩ := h
  obtain ⟨⟨c0, c1, c2, c3⟩, _⟩ := netCells h1
  obtain ⟨a, ca, rfl, _⟩ := (Rd.ofOwns h6).shapeN
  obtain ⟨b1, b2⟩ := wf_i64 wx
  have hpl : Hid (pl x N.l.length = Int.tmod (if x < 0 then -(x + 1) else x) N.l.length) := rfl
  generalize hL : N.l.length = L at *
  have hz : ((L : Int) == 0) = false := by rw [beq_eq_false_iff_ne]; omega
  have hz2 : (L : Int) ≠ 0 := by omega
  clear h1 h2 h6 hv h3 wx h4 h5 h7 hL
  cases hx : decide (x < 0) with
  | true =>
    have hx0 : x < 0 := of_decide_eq_true hx
    rw [hpl.out, if_pos hx0, Int.neg_tmod]
    have e1 : wrap64 (x + 1) = x + 1 := by unfold wrap64; omega
    have e2 : wrap64 (-(x + 1)) = -(x + 1) := by unfold wrap64; omega
    go_enter Try.func33, Try.ntmps33
    go_wp2_with fail
    refine hlen.mono ?_
    rintro r w' ⟨rfl, rfl⟩
    go_wp2_with fail
    go_ret2
    exact ⟨rfl, rfl⟩
  | false =>
    have hx0 : ¬ x < 0 := of_decide_eq_false hx
    rw [hpl.out, if_neg hx0, Int.tmod_eq_emod_of_nonneg (by omega)]
    go_enter Try.func33, Try.ntmps33
    go_wp2_with fail
    refine hlen.mono ?_
    rintro r w' ⟨rfl, rfl⟩
    go_wp2_with fail
    go_ret2
    exact ⟨rfl, rfl⟩
theorem place_none (nb c : Nat) (vb : Option Nat) (N : Net) (x : Int) (w : World) (h : NetR w nb c vb N) (h0 : N.l.length = 0) :
    Calls Try.prog 33 #[pn nb, .int .i64 x] w fun r w' => r = .returned (.tuple #[.int .i64 0, .bool false]) ∧ w' = w := by
  have hlen := len_calls nb c vb N w h
  rw [h0] at hlen
  clear h
  go_enter Try.func33, Try.ntmps33
  go_wp2_with fail
  refine hlen.mono ?_
  rintro r w' ⟨rfl, rfl⟩
  go_wp2_with fail
  go_ret2
  exact ⟨rfl, rfl⟩

/-- What Take does to a net. -/
def Net.take (N : Net) (x : Int) : Net × Mg × Bool :=
  if N.l.length = 0 then (N, Mg.zero, false) else ({ N with l := N.l.eraseIdx (pl x N.l.length).toNat }, N.l.getD (pl x N.l.length).toNat Mg.zero, true)

theorem take_none (nb c : Nat) (vb : Option Nat) (N : Net) (x : Int) (w : World) (h : NetR w nb c vb N) (h0 : N.l.length = 0) :
    Calls Try.prog 13 #[pn nb, .int .i64 x] w fun r w' => r = .returned (.tuple #[Mg.zero.val, .bool false]) ∧ Frm M0 w w' := by
  have hp : Hid (∀ o, Calls Try.prog 33 #[pn nb, .int .i64 x] (w.alloc o) fun r w' => r = .returned (.tuple #[.int .i64 0, .bool false]) ∧ w' = w.alloc o) :=
    fun o => place_none nb c vb N x _ (h.frm ((Frm.refl M0 w).alloc o) (fun _ _ h => h)) h0
  clear h
  go_enter Try.func13, Try.ntmps13
  go_wp2_with fail
  refine (hp.out _).mono ?_
  rintro r w' ⟨rfl, rfl⟩
  go_wp2_with fail
  exact bodyPost_ret (v := .tuple #[Mg.zero.val, .bool false]) (by simp [results, Try.results13, go_sem, Mg.zero, Mg.val]) rfl ⟨rfl, ((Frm.refl M0 w).alloc _)⟩

set_option maxHeartbeats 1000000 in
theorem take_some (nb c : Nat) (vb : Option Nat) (N : Net) (x : Int) (wx : (Lit.int .i64 x).wf = true) (w : World) (h : NetR w nb c vb N) (h0 : 0 < N.l.length) :
    Calls Try.prog 13 #[pn nb, .int .i64 x] w fun r w' => r = .returned (.tuple #[(N.l.getD (pl x N.l.length).toNat Mg.zero).val, .bool true]) ∧
      Turned w w' nb c vb { N with l := N.l.eraseIdx (pl x N.l.length).toNat } := by
  obtain ⟨k, hk, hkl⟩ := pl_bound x N.l.length h0
  have hp : Hid (∀ o, Calls Try.prog 33 #[pn nb, .int .i64 x] (w.alloc o) fun r w' => r = .returned (.tuple #[.int .i64 k, .bool true]) ∧ w' = w.alloc o) :=
    fun o => by rw [← hk]; exact place_some nb c vb N x wx _ (h.frm ((Frm.refl M0 w).alloc o) (fun _ _ h => h)) h0
  rw [hk, Int.toNat_natCast]
  obtain ⟨v, buf, s, r, hv, h1, h2, h3, h4, h5, h6, h7, h8, h9⟩ := h
  rcases h6 with ⟨h6a, ⟨_, h6n⟩ | ⟨g, cap, cur, rfl, _, hg, hn, hcm, hcs, ht⟩⟩
  · omega
  obtain ⟨mg, hmg⟩ : ∃ mg, N.l[k]? = some mg := ⟨_, List.getElem?_eq_getElem hkl⟩
  have hgd : N.l.getD k Mg.zero = mg := by rw [List.getD_eq_getElem?_getD, hmg]; rfl
  rw [hgd]
  have hgn : g ≠ nb := fun e => h8 (by rw [← hv, ← e]; rfl)
  have hgc : g ≠ c := fun e => h9 (by rw [← hv, ← e]; rfl)
  have hcell : ∀ j, j < 6 → cur[k * 6 + j]? = mg.cells[j]? := by
    intro j hj
    rw [← msgs_get N.l k mg hmg j hj, ← ht, List.getElem?_take, if_pos (by omega), Array.getElem?_toList, Nat.mul_comm k 6]
  obtain ⟨m, hm⟩ : ∃ m, N.l.length = k + 1 + m := ⟨N.l.length - (k + 1), by omega⟩
  obtain ⟨mk, me, ms, mu, mv, mt⟩ := mg
  obtain ⟨⟨c0, c1, c2, c3⟩, ⟨f0, f1, f2, f3⟩⟩ := netCells h1
  have m0 : w.cell? ⟨g, k * 6, none⟩ = some (.int .i64 mk) := (cell_at hg _).trans (hcell 0 (by omega))
  have m1 : w.cell? ⟨g, k * 6 + 1, none⟩ = some (.int .i64 me) := (cell_at hg _).trans (hcell 1 (by omega))
  have m2 : w.cell? ⟨g, k * 6 + 2, none⟩ = some (.int .i64 ms) := (cell_at hg _).trans (hcell 2 (by omega))
  have m3 : w.cell? ⟨g, k * 6 + 3, none⟩ = some (.int .i64 mu) := (cell_at hg _).trans (hcell 3 (by omega))
  have m4 : w.cell? ⟨g, k * 6 + 4, none⟩ = some (.int .i64 mv) := (cell_at hg _).trans (hcell 4 (by omega))
  have m5 : w.cell? ⟨g, k * 6 + 5, none⟩ = some (.int .i64 mt) := (cell_at hg _).trans (hcell 5 (by omega))
  have n1 : nb < w.heap.size := (Array.getElem?_eq_some_iff.1 h1).1
  have n2 : g < w.heap.size := (Array.getElem?_eq_some_iff.1 hg).1
  have n3 : c < w.heap.size := (Array.getElem?_eq_some_iff.1 h2).1
  have hlt : (k : Int) < N.l.length := by omega
  have hlt2 : k < k + 1 + m := by omega
  have H1 := hid h1
  have H2 := hid h2
  have HG := hid hg
  have HT := hid ht
  have HCS := hid hcs
  have HV := hid hv
  have HM := hid hm
  have HL := hid hlt
  unfold Mg.val
  simp only []
  rw [hm] at c0
  clear h1 h2 hg ht hcs hv hm hk hlt hcell hmg hgd h6a
  go_enter Try.func13, Try.ntmps13
  go_wp2_with fail
  refine (hp.out _).mono ?_
  rintro r w' ⟨rfl, rfl⟩
  go_wp2_with fail
  obtain ⟨w0, hw0⟩ : ∃ w0, w0 = (w.alloc (.cells #[.int .i64 0, .int .i64 0, .int .i64 0, .int .i64 0, .int .i64 0, .int .i64 0] 29)).alloc (.cells #[.int .i64 mk, .int .i64 me, .int .i64 ms, .int .i64 mu, .int .i64 mv, .int .i64 mt] 29) := ⟨_, rfl⟩
  have hf0 : Frm M0 w w0 := by rw [hw0]; exact ((Frm.refl _ _).alloc _).alloc _
  have hsz : w0.heap.size = w.heap.size + 2 := by rw [hw0]; simp
  have hb1 : w0.heap[w.heap.size]? = some (.cells #[.int .i64 0, .int .i64 0, .int .i64 0, .int .i64 0, .int .i64 0, .int .i64 0] 29 (0, 0)) := by
    rw [hw0]; exact ((Frm.refl M0 _).alloc _).heap (heap_alloc_new w _) (fun h => h)
  have hb2 : w0.heap[w.heap.size + 1]? = some (.cells #[.int .i64 mk, .int .i64 me, .int .i64 ms, .int .i64 mu, .int .i64 mv, .int .i64 mt] 29 (0, 0)) := by
    rw [hw0]
    have := heap_alloc_new (w.alloc (.cells #[.int .i64 0, .int .i64 0, .int .i64 0, .int .i64 0, .int .i64 0, .int .i64 0] 29)) (.cells #[.int .i64 mk, .int .i64 me, .int .i64 ms, .int .i64 mu, .int .i64 mv, .int .i64 mt] 29)
    simpa using this
  rw [← hw0]
  refine (delete_calls g cap k m N.l cur w0 (hf0.heap HG.out (fun h => h)) HM.out hn hcm HCS.out HT.out).mono ?_
  rintro r1 w2 ⟨rfl, ho2, hf2⟩
  have hfa : Frm (fun b => b = g) w w2 := (hf0.mono (fun _ _ h => h.elim)).same hf2
  have hx1 := hf2.heap hb1 (by show ¬ w.heap.size = g; omega)
  have hx2 := hf2.heap hb2 (by show ¬ w.heap.size + 1 = g; omega)
  have hn2 := hfa.heap H1.out (fun e => hgn e.symm)
  have hc2 := hfa.heap H2.out (fun e => hgc e.symm)
  have hz2 := hf2.size
  rw [hsz] at hz2
  obtain ⟨⟨d0, d1, d2, d3⟩, ⟨g0, g1, g2, g3⟩⟩ := netCells hn2
  have HF := hid hfa
  have HO := hid ho2
  have HX1 := hid hx1
  have HX2 := hid hx2
  have HN2 := hid hn2
  have HC2 := hid hc2
  have y0 : w2.cell? ⟨w.heap.size + 1, 0, none⟩ = some (.int .i64 mk) := by simp [World.cell?, hx2]
  have y1 : w2.cell? ⟨w.heap.size + 1, 1, none⟩ = some (.int .i64 me) := by simp [World.cell?, hx2]
  have y2 : w2.cell? ⟨w.heap.size + 1, 2, none⟩ = some (.int .i64 ms) := by simp [World.cell?, hx2]
  have y3 : w2.cell? ⟨w.heap.size + 1, 3, none⟩ = some (.int .i64 mu) := by simp [World.cell?, hx2]
  have y4 : w2.cell? ⟨w.heap.size + 1, 4, none⟩ = some (.int .i64 mv) := by simp [World.cell?, hx2]
  have y5 : w2.cell? ⟨w.heap.size + 1, 5, none⟩ = some (.int .i64 mt) := by simp [World.cell?, hx2]
  clear hfa ho2 hx1 hx2 hn2 hc2 hf2 hf0 hb1 hb2 hw0 hsz m0 m1 m2 m3 m4 m5 c0 c1 c2 c3 f0 f1 f2 f3 hp
  go_upto_region 6 with fail
  obtain ⟨w3, hw3⟩ : ∃ w3, w3 = w2.setCell ⟨nb, 0, none⟩ (.slice (some ⟨g, 0, none⟩) (k + m) cap) := ⟨_, rfl⟩
  have hf3 : Frm (fun b => b = nb) w2 w3 := by rw [hw3]; exact (Frm.refl (fun b => b = nb) w2).put nb 0 _ (fun _ => rfl)
  have hn3 : w3.heap[nb]? = some (.cells #[.slice (some ⟨g, 0, none⟩) (k + m) cap, .chan (some c), .int .i64 N.sent, .int .i64 N.lost] 63 (0, 0)) := by rw [hw3]; exact heap_set_at HN2.out _
  have hc3 := hf3.heap HC2.out (fun e => h7 e)
  have ho3 := hf3.owns HO.out (fun j hj e => hgn (by simp only [Value.ownBlock, Option.some.injEq] at hj; rw [hj, e]))
  rw [← hw3]
  clear hw3
  obtain ⟨⟨e0, e1, e2, e3⟩, _⟩ := netCells hn3
  have HC3 := hid hc3
  refine wp_region_in ?_
  change InReg _ _ _ (0 :: 1 :: 2 :: 3 :: 4 :: [5]) _ _
  refine inReg_value (v := pn nb) (w1 := w3) (some 36) rfl rfl rfl (by go_simp) ?_
  refine inReg_value (v := pn nb) (w1 := w3) (some 37) rfl rfl rfl (by go_simp) ?_
  refine inReg_value (v := .pointer (some ⟨nb, 1, none⟩)) (w1 := w3) (some 38) rfl rfl rfl (by go_simp) ?_
  refine inReg_value (v := .chan (some c)) (w1 := w3) (some 39) rfl rfl rfl (by go_simp) ?_
  refine inReg_value (v := .agg #[]) (w1 := w3) (some 40) rfl rfl rfl (by go_simp) ?_
  refine inReg_send (v := .agg #[]) (z := .tuple #[]) none rfl rfl rfl (by go_simp; rfl) hc3 (by omega) ?_
  refine inReg_end ?_
  obtain ⟨w4, hw4⟩ : ∃ w4, w4 = w3.setChan c N.room (buf.push (.agg #[])) false (s + 1) r false := ⟨_, rfl⟩
  have hf4 : Frm (fun b => b = c) w3 w4 := by rw [hw4]; exact (Frm.refl _ _).setChan _ _ _ _ _ _ _ (fun _ => rfl)
  have hc4 : w4.heap[c]? = some (.chan N.room (buf.push (.agg #[])) false (s + 1) r false) := by rw [hw4]; exact heap_setChan _ _ _ _ _ _ _ _ ((Array.getElem?_eq_some_iff.1 hc3).1)
  rw [← hw4]
  clear hw4
  simp only [Act.put, List.setIfInBounds_toArray, List.set_cons_zero, List.set_cons_succ]
  have hg4 : Frm (fun b => b = nb ∨ b = c) w2 w4 := (hf3.mono (fun _ _ h => .inl h)).trans hf4 (fun b _ h => .inr h)
  have hx1 := hg4.heap HX1.out (by show ¬ (w.heap.size = nb ∨ w.heap.size = c); omega)
  have hx2 := hg4.heap HX2.out (by show ¬ (w.heap.size + 1 = nb ∨ w.heap.size + 1 = c); omega)
  have hz4 := hg4.size
  have hl4 : w.heap.size < w4.heap.size := by omega
  have t0 : w4.cell? ⟨w.heap.size + 1, 0, none⟩ = some (.int .i64 mk) := by simp [World.cell?, hx2]
  have t1 : w4.cell? ⟨w.heap.size + 1, 1, none⟩ = some (.int .i64 me) := by simp [World.cell?, hx2]
  have t2 : w4.cell? ⟨w.heap.size + 1, 2, none⟩ = some (.int .i64 ms) := by simp [World.cell?, hx2]
  have t3 : w4.cell? ⟨w.heap.size + 1, 3, none⟩ = some (.int .i64 mu) := by simp [World.cell?, hx2]
  have t4 : w4.cell? ⟨w.heap.size + 1, 4, none⟩ = some (.int .i64 mv) := by simp [World.cell?, hx2]
  have t5 : w4.cell? ⟨w.heap.size + 1, 5, none⟩ = some (.int .i64 mt) := by simp [World.cell?, hx2]
  have u0 : w4.cell? ⟨w.heap.size, 0, none⟩ = some (.int .i64 0) ∧ w4.frozen? ⟨w.heap.size, 0, none⟩ = false := by simp [World.cell?, World.frozen?, hx1]
  have u1 : w4.cell? ⟨w.heap.size, 1, none⟩ = some (.int .i64 0) ∧ w4.frozen? ⟨w.heap.size, 1, none⟩ = false := by simp [World.cell?, World.frozen?, hx1]
  have u2 : w4.cell? ⟨w.heap.size, 2, none⟩ = some (.int .i64 0) ∧ w4.frozen? ⟨w.heap.size, 2, none⟩ = false := by simp [World.cell?, World.frozen?, hx1]
  have u3 : w4.cell? ⟨w.heap.size, 3, none⟩ = some (.int .i64 0) ∧ w4.frozen? ⟨w.heap.size, 3, none⟩ = false := by simp [World.cell?, World.frozen?, hx1]
  have u4 : w4.cell? ⟨w.heap.size, 4, none⟩ = some (.int .i64 0) ∧ w4.frozen? ⟨w.heap.size, 4, none⟩ = false := by simp [World.cell?, World.frozen?, hx1]
  have u5 : w4.cell? ⟨w.heap.size, 5, none⟩ = some (.int .i64 0) ∧ w4.frozen? ⟨w.heap.size, 5, none⟩ = false := by simp [World.cell?, World.frozen?, hx1]
  obtain ⟨u0a, u0b⟩ := u0; obtain ⟨u1a, u1b⟩ := u1; obtain ⟨u2a, u2b⟩ := u2; obtain ⟨u3a, u3b⟩ := u3; obtain ⟨u4a, u4b⟩ := u4; obtain ⟨u5a, u5b⟩ := u5
  have HF4 := hid hg4
  have HC4 := hid hc4
  have HN4 := hid (hf4.heap hn3 (by show ¬ nb = c; omega))
  have HO4 := hid (hf4.owns ho3 (fun j hj e => hgc (by simp only [Value.ownBlock, Option.some.injEq] at hj; rw [hj, e])))
  clear hx1 hx2 hg4 hf4 hf3 hc4 hn3 ho3 hc3 e0 e1 e2 e3 y0 y1 y2 y3 y4 y5 d0 d1 d2 d3 g0 g1 g2 g3
  go_wp2_with fail
  refine bodyPost_ret (v := .tuple #[.agg #[.int .i64 mk, .int .i64 me, .int .i64 ms, .int .i64 mu, .int .i64 mv, .int .i64 mt], .bool true]) (by simp [results, Try.results13, go_sem, hl4, u0a, u1a, u2a, u3a, u4a, u5a]) rfl ⟨rfl, some g, ⟨.slice (some ⟨g, 0, none⟩) (k + m) cap, buf.push (.agg #[]), s + 1, r, rfl, ?_, ?_, ?_, h4, h5, ?_, h7, ?_, ?_⟩, ?_, ?_⟩
  all_goals
    have hfe : Frm (fun b => b = w.heap.size) w4 ((((((w4.setCell ⟨w.heap.size, 0, none⟩ (.int .i64 mk)).setCell ⟨w.heap.size, 1, none⟩ (.int .i64 me)).setCell ⟨w.heap.size, 2, none⟩ (.int .i64 ms)).setCell ⟨w.heap.size, 3, none⟩ (.int .i64 mu)).setCell ⟨w.heap.size, 4, none⟩ (.int .i64 mv)).setCell ⟨w.heap.size, 5, none⟩ (.int .i64 mt)) :=
      ((((((Frm.refl (fun b => b = w.heap.size) w4).put _ _ _ (fun _ => rfl)).put _ _ _ (fun _ => rfl)).put _ _ _ (fun _ => rfl)).put _ _ _ (fun _ => rfl)).put _ _ _ (fun _ => rfl)).put _ _ _ (fun _ => rfl)
  · exact hfe.heap HN4.out (by show ¬ nb = w.heap.size; omega)
  · exact hfe.heap HC4.out (by show ¬ c = w.heap.size; omega)
  · have := HM.out
    simp only [Array.size_push, List.length_eraseIdx]; rw [if_pos hkl]; omega
  · have := HM.out
    have e : (N.l.eraseIdx k).length = k + m := by rw [List.length_eraseIdx, if_pos hkl]; omega
    show World.ownsRow _ 0 _ 6 _ (N.l.eraseIdx k).length _
    rw [e]
    exact hfe.owns HO4.out (fun j hj e => by simp only [Value.ownBlock, Option.some.injEq] at hj; omega)
  · intro e; exact hgn (Option.some.inj e)
  · intro e; exact hgc (Option.some.inj e)
  · have hV : vb = some g := HV.out.symm
    refine ((HF.out.mono (M' := NF nb c vb) (fun b _ h => .inr (.inr (by rw [hV]; exact congrArg some h.symm)))).trans HF4.out (fun b hb h => ?_)).trans hfe (fun b hb h => ?_)
    · rcases h with h | h
      · exact .inl h
      · exact .inr (.inl h)
    · have h' : b = w.heap.size := h
      omega
  · exact .inl HV.out
theorem take_calls (nb c : Nat) (vb : Option Nat) (N : Net) (x : Int) (wx : (Lit.int .i64 x).wf = true) (w : World) (h : NetR w nb c vb N) :
    Calls Try.prog 13 #[pn nb, .int .i64 x] w fun r w' => r = .returned (.tuple #[(N.take x).2.1.val, .bool (N.take x).2.2]) ∧ Turned w w' nb c vb (N.take x).1 := by
  by_cases h0 : N.l.length = 0
  · have e : N.take x = (N, Mg.zero, false) := by unfold Net.take; rw [if_pos h0]
    rw [e]
    refine (take_none nb c vb N x w h h0).mono ?_
    rintro r w' ⟨rfl, hf⟩
    exact ⟨rfl, Turned.same h hf⟩
  · have e : N.take x = ({ N with l := N.l.eraseIdx (pl x N.l.length).toNat }, N.l.getD (pl x N.l.length).toNat Mg.zero, true) := by unfold Net.take; rw [if_neg h0]
    rw [e]
    exact take_some nb c vb N x wx w h (by omega)
end Go.Proofs.Ytbepcohcdgfkaaa
