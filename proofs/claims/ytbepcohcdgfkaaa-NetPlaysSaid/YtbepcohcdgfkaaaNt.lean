/- A net in memory: the struct, its channel of tokens, its row of messages. What turns it, and what leaves it as it is. No condition. -/
import Derived.Test.YtbepcohcdgfkaaaCh
import Derived.Deep.AppendLies
import Derived.Deep.DeepCutAuto
import Derived.Deep.RegionLaw
namespace Go.Proofs.Ytbepcohcdgfkaaa
set_option linter.unusedVariables false
set_option linter.unusedSimpArgs false
open Go.RowKit Go.Conc

/-- A message. -/
structure Mg where
  k : Int
  e : Int
  s : Int
  u : Int
  v : Int
  t : Int
def Mg.val (m : Mg) : Value := .agg #[.int .i64 m.k, .int .i64 m.e, .int .i64 m.s, .int .i64 m.u, .int .i64 m.v, .int .i64 m.t]
def Mg.cells (m : Mg) : List Value := [.int .i64 m.k, .int .i64 m.e, .int .i64 m.s, .int .i64 m.u, .int .i64 m.v, .int .i64 m.t]
def Mg.zero : Mg := ⟨0, 0, 0, 0, 0, 0⟩
def msgs (l : List Mg) : List Value := l.flatMap Mg.cells
theorem msgs_len (l : List Mg) : (msgs l).length = l.length * 6 := by
  induction l with
  | nil => rfl
  | cons m l ih => simp only [msgs, List.flatMap_cons, List.length_append, List.length_cons] at *; rw [ih]; simp [Mg.cells]; omega
theorem msgs_app (a b : List Mg) : msgs (a ++ b) = msgs a ++ msgs b := by simp [msgs]
theorem msgs_one (l : List Mg) : ∀ u ∈ msgs l, u.oneCell' = true := by
  intro u hu
  obtain ⟨m, _, hm⟩ := List.mem_flatMap.1 hu
  simp only [Mg.cells, List.mem_cons, List.not_mem_nil, or_false] at hm
  rcases hm with rfl | rfl | rfl | rfl | rfl | rfl <;> rfl
theorem msgs_get : ∀ (l : List Mg) (i : Nat) (m : Mg), l[i]? = some m → ∀ j, j < 6 → (msgs l)[6 * i + j]? = (Mg.cells m)[j]? := by
  intro l
  induction l with
  | nil => intro i m h; simp at h
  | cons x l ih =>
    intro i m h j hj
    have hx : (Mg.cells x).length = 6 := rfl
    rw [msgs, List.flatMap_cons]
    rcases i with _ | i
    · simp only [List.getElem?_cons_zero, Option.some.injEq] at h
      subst h
      rw [List.getElem?_append_left (by rw [hx]; omega)]
      simp
    · rw [List.getElem?_append_right (by rw [hx]; omega), hx]
      have e : 6 * (i + 1) + j - 6 = 6 * i + j := by omega
      rw [e]
      exact ih i m (by simpa using h) j hj

/-- A net, as it is told. -/
structure Net where
  room : Nat
  l : List Mg
  sent : Int
  lost : Int

/-- The blocks of a net: the struct, the channel, the messages' row. -/
def NF (nb c : Nat) (vb : Option Nat) : Nat → Prop := fun b => b = nb ∨ b = c ∨ vb = some b

/-- The block nb is a net over the channel c; its messages lie in the block vb. -/
def NetR (w : World) (nb c : Nat) (vb : Option Nat) (N : Net) : Prop :=
  ∃ v buf s r, v.ownBlock = vb ∧ w.heap[nb]? = some (.cells #[v, .chan (some c), .int .i64 N.sent, .int .i64 N.lost] 63 (0, 0)) ∧
    w.heap[c]? = some (.chan N.room buf false s r false) ∧ buf.size + N.l.length = N.room ∧ N.room ≤ 64 ∧ 1 ≤ N.room ∧
    w.ownsRow 0 29 6 v N.l.length (msgs N.l) ∧ c ≠ nb ∧ vb ≠ some nb ∧ vb ≠ some c

abbrev pn (nb : Nat) : Value := .pointer (some ⟨nb, 0, none⟩)

theorem NetR.frm {M : Nat → Prop} {w w' : World} {nb c : Nat} {vb : Option Nat} {N : Net} (h : NetR w nb c vb N) (hf : Frm M w w') (h0 : ∀ b, NF nb c vb b → ¬ M b) : NetR w' nb c vb N := by
  obtain ⟨v, buf, s, r, hv, h1, h2, h3, h4, h5, h6, h7⟩ := h
  exact ⟨v, buf, s, r, hv, hf.heap h1 (h0 _ (.inl rfl)), hf.heap h2 (h0 _ (.inr (.inl rfl))), h3, h4, h5, hf.owns h6 (fun k hk => h0 _ (.inr (.inr (by rw [← hv]; exact hk)))), h7⟩
theorem NetR.lt {w : World} {nb c : Nat} {vb : Option Nat} {N : Net} (h : NetR w nb c vb N) : ∀ b, NF nb c vb b → b < w.heap.size := by
  obtain ⟨v, buf, s, r, hv, h1, h2, h3, h4, h5, h6, h7⟩ := h
  rintro b (rfl | rfl | hb)
  · exact (Array.getElem?_eq_some_iff.1 h1).1
  · exact (Array.getElem?_eq_some_iff.1 h2).1
  · exact (h6.lt b (by rw [hv]; exact hb)).2
theorem Frm.setChan {M : Nat → Prop} {a w : World} (h : Frm M a w) (c cap : Nat) (buf : Array Value) (cl : Bool) (s r : Nat) (tm : Bool) (hc : c < a.heap.size → M c) : Frm M a (w.setChan c cap buf cl s r tm) :=
  h.trans (M' := fun b => b = c) ⟨rfl, rfl, rfl, by rw [size_setChan]; exact Nat.le_refl _, fun k hk hn => by simp only [World.setChan]; rw [Array.getElem?_setIfInBounds_ne (fun e => hn e.symm)]⟩ (fun b hb e => by subst e; exact hc hb)

theorem netCells {w : World} {nb c : Nat} {v : Value} {x y : Int} (h : w.heap[nb]? = some (.cells #[v, .chan (some c), .int .i64 x, .int .i64 y] 63 (0, 0))) :
    (w.cell? ⟨nb, 0, none⟩ = some v ∧ w.cell? ⟨nb, 1, none⟩ = some (.chan (some c)) ∧ w.cell? ⟨nb, 2, none⟩ = some (.int .i64 x) ∧ w.cell? ⟨nb, 3, none⟩ = some (.int .i64 y)) ∧
    (w.frozen? ⟨nb, 0, none⟩ = false ∧ w.frozen? ⟨nb, 1, none⟩ = false ∧ w.frozen? ⟨nb, 2, none⟩ = false ∧ w.frozen? ⟨nb, 3, none⟩ = false) := by
  refine ⟨⟨?_, ?_, ?_, ?_⟩, ⟨?_, ?_, ?_, ?_⟩⟩ <;> simp [World.cell?, World.frozen?, h]

theorem len_calls (nb c : Nat) (vb : Option Nat) (N : Net) (w : World) (h : NetR w nb c vb N) :
    Calls Try.prog 14 #[pn nb] w fun r w' => r = .returned (.int .i64 N.l.length) ∧ w = w' := by
  obtain ⟨v, buf, s, r, hv, h1, h2, h3, h4, h5, h6, h7⟩ := h
  obtain ⟨⟨c0, c1, c2, c3⟩, _⟩ := netCells h1
  obtain ⟨a, ca, rfl, _⟩ := (Rd.ofOwns h6).shapeN
  clear h1 h2 h6 hv h3
  go_enter Try.func14, Try.ntmps14
  go_wp2
  go_ret
  exact ⟨rfl, rfl⟩
theorem sent_calls (nb c : Nat) (vb : Option Nat) (N : Net) (w : World) (h : NetR w nb c vb N) :
    Calls Try.prog 15 #[pn nb] w fun r w' => r = .returned (.int .i64 N.sent) ∧ w = w' := by
  obtain ⟨v, buf, s, r, hv, h1, _⟩ := h
  obtain ⟨⟨c0, c1, c2, c3⟩, _⟩ := netCells h1
  clear h1 hv
  go_enter Try.func15, Try.ntmps15
  go_wp2
  go_ret
  exact ⟨rfl, rfl⟩

/-- The least of five. -/
def mn5 (a b c d e : Int) : Int := min (min (min (min a b) c) d) e
theorem mn5_nonneg (a b c d e : Int) : decide (0 ≤ mn5 a b c d e) = (decide (0 ≤ a) && decide (0 ≤ b) && decide (0 ≤ c) && decide (0 ≤ d) && decide (0 ≤ e)) := by
  rw [Bool.eq_iff_iff]
  simp only [Bool.and_eq_true, decide_eq_true_eq]
  unfold mn5
  omega
theorem min_if (x y : Int) : (if y < x then y else x) = min x y := by omega
theorem run_min5 {P : Program} (w : World) (ts : Array TypeId) (t : TypeId) (a b c d e : Int) :
    (Builtin.min_ ts t #[.int .i64 a, .int .i64 b, .int .i64 c, .int .i64 d, .int .i64 e]).run P w = .ok (.int .i64 (mn5 a b c d e)) w := by
  simp only [Builtin.min_, List.foldlM_cons, List.foldlM_nil, Builtin.min2, min_if, Sem.run_bind, Sem.run_pure, Result.andThen_ok]
  rfl
attribute [local go_sem] run_min5

/-- May a message be? -/
def rightB (m : Mg) : Bool := (decide (m.k = 1) || decide (m.k = 2)) && decide (0 ≤ mn5 m.e m.s m.u m.v m.t)
theorem right_calls (m : Mg) (w : World) : Calls Try.prog 31 #[m.val] w fun r w' => r = .returned (.bool (rightB m)) ∧ Frm M0 w w' := by
  obtain ⟨k, e, s, u, v, t⟩ := m
  unfold Mg.val
  simp only []
  have hf := hid (fun (o : Obj) => (Frm.refl M0 w).alloc o)
  by_cases hk : k = 1
  · have h1 : (k == 1) = true := beq_iff_eq.2 hk
    have hr : Hid (rightB ⟨k, e, s, u, v, t⟩ = decide (0 ≤ mn5 e s u v t)) := by unfold Hid rightB; rw [decide_eq_true hk]; rfl
    clear hk
    go_enter Try.func31, Try.ntmps31
    go_wp2
    go_ret
    exact ⟨by rw [hr.out]; rfl, hf.out _⟩
  · have h1 : (k == 1) = false := beq_eq_false_iff_ne.2 hk
    by_cases hk2 : k = 2
    · have h2 : (k == 2) = true := beq_iff_eq.2 hk2
      have hr : Hid (rightB ⟨k, e, s, u, v, t⟩ = decide (0 ≤ mn5 e s u v t)) := by unfold Hid rightB; rw [decide_eq_false hk, decide_eq_true hk2]; rfl
      clear hk hk2
      go_enter Try.func31, Try.ntmps31
      go_wp2
      go_ret
      exact ⟨by rw [hr.out]; rfl, hf.out _⟩
    · have h2 : (k == 2) = false := beq_eq_false_iff_ne.2 hk2
      have hr : Hid (rightB ⟨k, e, s, u, v, t⟩ = false) := by unfold Hid rightB; rw [decide_eq_false hk, decide_eq_false hk2]; rfl
      clear hk hk2
      go_enter Try.func31, Try.ntmps31
      go_wp2
      go_ret
      exact ⟨by rw [hr.out]; rfl, hf.out _⟩

theorem cells_new (w : World) (c : Array Value) (e : TypeId) : ∀ j u, c.toList[j]? = some u → (w.alloc (.cells c e)).cell? ((⟨w.heap.size, 0, none⟩ : Addr).add j) = some u := by
  intro j u h
  rw [add_none, Nat.zero_add, World.cell?_alloc_at _ _ _ _ rfl]
  simpa using h

theorem info29 : (Try.prog.info? 29).map (fun i => (i.zero, i.size, i.bytes)) = some (some Mg.zero.val, 6, 48) := by kernel_rfl

/-- What push does to a net. -/
def Net.push (N : Net) (m : Mg) : Net × Int := if N.l.length < N.room then ({ N with l := N.l ++ [m] }, 0) else ({ N with lost := wrap64 (N.lost + 1) }, 4)

set_option maxHeartbeats 1000000 in
theorem push_room (nb c : Nat) (vb : Option Nat) (N : Net) (m : Mg) (w : World) (h : NetR w nb c vb N) (hroom : N.l.length < N.room) :
    Calls Try.prog 32 #[pn nb, m.val] w fun r w' => r = .returned (.int .i64 0) ∧ ∃ vb', NetR w' nb c vb' { N with l := N.l ++ [m] } ∧ Frm (NF nb c vb) w w' ∧ (vb' = vb ∨ ∃ g, vb' = some g ∧ w.heap.size ≤ g) := by
  obtain ⟨v, buf, s, r, hv, h1, h2, h3, h4, h5, h6, h7, h8, h9⟩ := h
  obtain ⟨⟨c0, c1, c2, c3⟩, ⟨f0, f1, f2, f3⟩⟩ := netCells h1
  have hb : 0 < buf.size := by omega
  have n1 : nb < w.heap.size := (Array.getElem?_eq_some_iff.1 h1).1
  have H1 := hid h1
  have H2 := hid h2
  have H6 := hid h6
  have HV := hid hv
  clear h1 h2 h6 hv
  obtain ⟨mk, me, ms, mu, mv, mt⟩ := m
  unfold Mg.val
  simp only []
  go_enter Try.func32, Try.ntmps32
  go_upto_region 2 with fail
  refine wp_region_in ?_
  have HC2 : (w.alloc (.cells #[.int .i64 mk, .int .i64 me, .int .i64 ms, .int .i64 mu, .int .i64 mv, .int .i64 mt] 29)).heap[c]? = some (.chan N.room buf false s r false) := (Frm.refl M0 w |>.alloc _).heap H2.out (fun h => h)
  change InReg _ _ _ (0 :: [1, 2]) _ _
  refine inReg_select_recv (z := .agg #[]) (some 9) rfl rfl rfl (by go_simp; rfl) HC2 hb ?_
  obtain ⟨w1, hw1⟩ : ∃ w1, w1 = w.alloc (.cells #[.int .i64 mk, .int .i64 me, .int .i64 ms, .int .i64 mu, .int .i64 mv, .int .i64 mt] 29) := ⟨_, rfl⟩
  have hbox : w1.heap[w.heap.size]? = some (.cells #[.int .i64 mk, .int .i64 me, .int .i64 ms, .int .i64 mu, .int .i64 mv, .int .i64 mt] 29 (0, 0)) := by rw [hw1]; exact heap_alloc_new _ _
  have hf1 : Frm M0 w w1 := by rw [hw1]; exact (Frm.refl _ _).alloc _
  rw [← hw1]
  rw [← hw1] at HC2
  obtain ⟨w2, hw2⟩ : ∃ w2, w2 = w1.setChan c N.room (buf.extract 1 buf.size) false s (r + 1) false := ⟨_, rfl⟩
  have hf2 : Frm (· = c) w1 w2 := by rw [hw2]; exact (Frm.refl _ _).setChan _ _ _ _ _ _ _ (fun _ => rfl)
  have hc2 : w2.heap[c]? = some (.chan N.room (buf.extract 1 buf.size) false s (r + 1) false) := by rw [hw2]; exact heap_setChan _ _ _ _ _ _ _ _ ((Array.getElem?_eq_some_iff.1 HC2).1)
  rw [← hw2]
  have hc1 : c < w.heap.size := (Array.getElem?_eq_some_iff.1 H2.out).1
  have hbox2 := hf2.heap hbox (by show ¬ w.heap.size = c; omega)
  have hf : Frm (NF nb c vb) w w2 := (hf1.mono (fun _ _ h => h.elim)).trans hf2 (fun b _ h => .inr (.inl h))
  have hn2 := (hf1.heap H1.out (fun h => h))
  have hn3 := hf2.heap hn2 (by show ¬ nb = c; omega)
  have ho3 := hf2.owns (hf1.owns H6.out (fun _ _ h => h)) (fun k hk e => by rw [HV.out] at hk; exact h9 (by rw [hk, e]))
  obtain ⟨⟨d0, d1, d2, d3⟩, ⟨g0, g1, g2, g3⟩⟩ := netCells hn3
  have hz : w.heap.size < w2.heap.size := (Array.getElem?_eq_some_iff.1 hbox2).1
  have HX2 := hid hbox2
  have HC3 := hid hc2
  have HF := hid hf
  have HN3 := hid hn3
  have HO3 := hid ho3
  have m0 : w2.cell? ⟨w.heap.size, 0, none⟩ = some (.int .i64 mk) := by simp [World.cell?, hbox2]
  have m1 : w2.cell? ⟨w.heap.size, 1, none⟩ = some (.int .i64 me) := by simp [World.cell?, hbox2]
  have m2 : w2.cell? ⟨w.heap.size, 2, none⟩ = some (.int .i64 ms) := by simp [World.cell?, hbox2]
  have m3 : w2.cell? ⟨w.heap.size, 3, none⟩ = some (.int .i64 mu) := by simp [World.cell?, hbox2]
  have m4 : w2.cell? ⟨w.heap.size, 4, none⟩ = some (.int .i64 mv) := by simp [World.cell?, hbox2]
  have m5 : w2.cell? ⟨w.heap.size, 5, none⟩ = some (.int .i64 mt) := by simp [World.cell?, hbox2]
  clear c0 c1 c2 c3 f0 f1 f2 f3 hbox hf1 hf2 hc2 hbox2 hf hn2 hn3 ho3 hw1 hw2 HC2
  refine inReg_value (v := .int .i64 0) (w1 := w2) (some 10) rfl rfl rfl (by go_simp) ?_
  refine inReg_value (v := .bool true) (w1 := w2) (some 11) rfl rfl rfl (by go_simp) ?_
  refine inReg_end ?_
  simp only [Act.put, List.setIfInBounds_toArray, List.set_cons_zero, List.set_cons_succ]
  go_wp2_with fail
  obtain ⟨i29, hi29, hz29, hs29, hy29⟩ := info_parts info29
  have hown := hid (HO3.out.drew.alloc (.cells #[.int .i64 mk, .int .i64 me, .int .i64 ms, .int .i64 mu, .int .i64 mv, .int .i64 mt] 29))
  have hnews := hid (cells_new w2.drew #[.int .i64 mk, .int .i64 me, .int .i64 ms, .int .i64 mu, .int .i64 mv, .int .i64 mt] 29)
  have hN3b := hid (((Frm.refl M0 w2).drew.alloc (.cells #[.int .i64 mk, .int .i64 me, .int .i64 ms, .int .i64 mu, .int .i64 mv, .int .i64 mt] 29)).heap HN3.out (fun h => h))
  have n2 : nb < w2.heap.size := by omega
  go_region_law (refine step_append_lies _ rfl (.tmp 23) (.tmp 25) 22 rfl 0 29 i29 Mg.zero.val 6 48 Try.underlying22 hi29 hz29 hs29 hy29 rfl (by decide) v N.l.length (msgs N.l) rfl hown.out ⟨w2.heap.size, 0, none⟩ 1 1 [.int .i64 mk, .int .i64 me, .int .i64 ms, .int .i64 mu, .int .i64 mv, .int .i64 mt] rfl rfl hnews.out (msgs_one [⟨mk, me, ms, mu, mv, mt⟩]) (by decide) (by unfold maxLen; omega) (by omega) (Nat.zero_le _) _ rfl ?_; intro g cap w5 ho5 hg5 hv5 hlt5; have hn5 := (Frm.refl (fun b => v.ownBlock = some b) _ |>.grown hg5 (fun k hk _ => hk)).heap hN3b.out (fun e => h8 (by rw [← HV.out, e])); obtain ⟨⟨e0, e1, e2, e3⟩, ⟨k0, k1, k2, k3⟩⟩ := netCells hn5; have HO5 := hid ho5; have HG5 := hid hg5; have HV5 := hid hv5; have HN5 := hid hn5; clear ho5 hg5 hv5 hn5)
  all_goals
    go_wp2_with fail
    go_ret
    have hfe : Frm (fun b => v.ownBlock = some b ∨ b = nb) w2 (w5.setCell ⟨nb, 0, none⟩ (.slice (some ⟨g, 0, none⟩) (N.l.length + 1) cap)) :=
      ((((Frm.refl _ _).drew.alloc _).grown HG5.out (fun k hk _ => .inl hk))).put nb 0 _ (fun _ => .inr rfl)
    have hgn : g ≠ nb := by
      rcases HV5.out with h | h
      · intro e; exact h8 (by rw [← HV.out, h, e])
      · rw [h]; simp; omega
    have hgc : g ≠ c := by
      rcases HV5.out with h | h
      · intro e; exact h9 (by rw [← HV.out, h, e])
      · rw [h]; simp; omega
    refine ⟨rfl, some g, ⟨_, buf.extract 1 buf.size, s, r + 1, rfl, heap_set_at HN5.out _, hfe.heap HC3.out ?_, ?_, h4, h5, ?_, h7, ?_, ?_⟩, ?_, ?_⟩
    · rintro (h | h)
      · exact h9 (by rw [← HV.out, h])
      · exact h7 h
    · simp only [Array.size_extract, List.length_append, List.length_cons, List.length_nil]; omega
    · have hs := (Frm.refl (fun b => b = nb) w5).put nb 0 (.slice (some ⟨g, 0, none⟩) (N.l.length + 1) cap) (fun _ => rfl)
      have ho := hs.owns HO5.out (fun k hk e => by simp only [Value.ownBlock, Option.some.injEq] at hk; omega)
      rw [List.length_append, msgs_app]
      exact ho
    · intro e; exact hgn (Option.some.inj e)
    · intro e; exact hgc (Option.some.inj e)
    · refine HF.out.trans hfe (fun b hb h => ?_)
      rcases h with h | h
      · exact .inr (.inr (by rw [← HV.out]; exact h))
      · exact .inl h
    · rcases HV5.out with h | h
      · exact .inl (by rw [← HV.out]; exact h.symm)
      · exact .inr ⟨g, rfl, by rw [h]; simp; omega⟩
end Go.Proofs.Ytbepcohcdgfkaaa
