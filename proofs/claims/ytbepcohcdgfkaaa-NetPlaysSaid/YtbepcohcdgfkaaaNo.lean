/- The walk of Of: those of a unit, in new memory. No condition. -/
import Derived.Test.YtbepcohcdgfkaaaNv
namespace Go.Proofs.Ytbepcohcdgfkaaa
set_option linter.unusedVariables false
set_option linter.unusedSimpArgs false
open Go.RowKit Go.Conc

/-- Those of a unit. -/
def fl (x : Int) (l : List Mg) : List Mg := l.filter (fun m => m.u == x)
theorem fl_app (x : Int) (a b : List Mg) : fl x (a ++ b) = fl x a ++ fl x b := by unfold fl; exact List.filter_append _ _
theorem fl_one (x : Int) (m : Mg) : fl x [m] = if m.u = x then [m] else [] := by
  unfold fl
  by_cases h : m.u = x <;> simp [h]

theorem of1_calls (x : Int) (m : Mg) (bx : Nat) (w : World) (hb : w.cell? ⟨bx, 0, none⟩ = some (.int .i64 x)) :
    Calls Try.prog 37 #[m.val, .pointer (some ⟨bx, 0, none⟩)] w fun r w' => r = .returned (.bool (m.u != x)) ∧ Frm M0 w w' := by
  have hlt : bx < w.heap.size := World.block_lt_of_cell? w _ hb
  have hb2 : bx ≠ w.heap.size := by omega
  obtain ⟨k, e, s, u, v, t⟩ := m
  unfold Mg.val
  simp only []
  go_enter Try.func37, Try.ntmps37
  go_wp2_with fail
  go_ret
  exact ⟨rfl, (Frm.refl M0 w).alloc _⟩

set_option maxRecDepth 100000 in
theorem index_calls (x : Int) (v : Value) (l : List Mg) (bx : Nat) (w : World) (hr : Rd w 6 v l.length (msgs l)) (hb : w.cell? ⟨bx, 0, none⟩ = some (.int .i64 x)) :
    Calls Try.prog 41 #[v, .func (.func 37) #[] #[.pointer (some ⟨bx, 0, none⟩)]] w
      fun e w' => ∃ i : Int, e = .returned (.int .i64 i) ∧ Hid ((i = -1 ∧ fl x l = l) ∨ (∃ k : Nat, i = k ∧ k < l.length ∧ fl x (l.take (k + 1)) = l.take k)) ∧ Frm M0 w w' := by
  have HR := hid hr
  have HB := hid hb
  obtain ⟨a, c, rfl, hab⟩ := hr.shapeN
  have HAB := hid hab
  obtain ⟨_, hc1, hc2⟩ := hr.cap
  clear hr hb hab
  go_enter Try.func41, Try.ntmps41
  go_wp2_with fail
  go_loopw [8] (fun i8 wr => ∃ k : Nat, k ≤ l.length ∧ i8 = .int .i64 k ∧ Hid (fl x (l.take k) = l.take k) ∧ Hid (Frm M0 w wr)) (fun i _ => l.length - (intOf i).toNat)
  case atStart => exact ⟨0, Nat.zero_le _, rfl, hid rfl, hid (Frm.refl _ _)⟩
  case round =>
    obtain ⟨k, hk, rfl, HA, HF⟩ := hrel
    by_cases hlt : k < l.length
    · obtain ⟨b, o, rfl⟩ := HAB.out (by omega)
      obtain ⟨m, HM, m0, m1, m2, m3, m4, m5⟩ := (HR.out.frm0 HF.out).msgAt k hlt
      have hlt' : (k : Int) < l.length := by omega
      have hc := of1_calls x m bx wr (HF.out.cell HB.out (fun h => h))
      unfold Mg.val at hc
      have HC := hid hc
      clear hc
      by_cases hu : m.u = x
      · have e1 : (m.u != x) = false := by simp [hu]
        rw [e1] at HC
        have HU := hid hu
        clear e1 hu
        go_wp2_with fail
        refine HC.out.mono ?_
        rintro r w2 ⟨rfl, hf⟩
        have HF2 := hid (HF.out.then0 hf)
        clear hf
        go_wp2_with fail
        exact ⟨⟨k + 1, by omega, by go_num, by unfold Hid; rw [take_snoc HM.out, fl_app, HA.out, fl_one, if_pos HU.out], HF2⟩, by simp [intOf]; omega⟩
      · have e1 : (m.u != x) = true := by simp [hu]
        rw [e1] at HC
        have HU := hid hu
        clear e1 hu
        go_wp2_with fail
        refine HC.out.mono ?_
        rintro r w2 ⟨rfl, hf⟩
        have HF2 := hid (HF.out.then0 hf)
        clear hf
        go_wp2_with fail
        go_ret
        exact ⟨_, rfl, hid (.inr ⟨k, rfl, hlt, by rw [take_snoc HM.out, fl_app, HA.out, fl_one, if_neg HU.out, List.append_nil]⟩), HF2.out⟩
    · obtain rfl : k = l.length := by omega
      go_wp2_with fail
      go_ret
      have h := HA.out
      rw [List.take_length] at h
      exact ⟨_, rfl, hid (.inl ⟨rfl, h⟩), HF.out⟩

theorem zero_cells (n : Nat) : (Builtin.zeroCells Mg.zero.val.cells n).toList.length = n * 6 ∧ ∀ v ∈ (Builtin.zeroCells Mg.zero.val.cells n).toList, v.oneCell' = true := by
  have e : Mg.zero.val.cells = #[.int .i64 0, .int .i64 0, .int .i64 0, .int .i64 0, .int .i64 0, .int .i64 0] := by simp [Mg.zero, Mg.val, Value.cells]
  rw [e]
  unfold Builtin.zeroCells
  refine ⟨by simp, ?_⟩
  intro v hv
  simp only [Array.toList_map, List.mem_map] at hv
  obtain ⟨i, _, rfl⟩ := hv
  have h6 : i % 6 < 6 := Nat.mod_lt _ (by omega)
  have : ∀ j, j < 6 → (#[Value.int .i64 0, .int .i64 0, .int .i64 0, .int .i64 0, .int .i64 0, .int .i64 0][j]!).oneCell' = true := by decide
  exact this _ h6
theorem run_clear_msgs (w : World) (ty : TypeId) (b o n c : Nat) (hn : 0 < n) (news : List Value) (hnews : news = (Builtin.zeroCells Mg.zero.val.cells n).toList)
    (hc : ∀ j, j < news.length → (w.cell? ⟨b, o + j, none⟩).isSome = true) (hf : ∀ j, j < news.length → w.frozen? ⟨b, o + j, none⟩ = false) :
    (Builtin.clear_ #[22] ty #[.slice (some ⟨b, o, none⟩) n c]).run Try.prog w = .ok (.tuple #[]) (w.setCells b o news) := by
  obtain ⟨n, rfl⟩ : ∃ m, n = m + 1 := ⟨n - 1, by omega⟩
  have hst := run_storeCells_cells (P := Try.prog) b o news 0 w hc hf (by rw [hnews]; exact (zero_cells _).2)
  simp only [Nat.add_zero] at hst
  unfold Builtin.clear_
  simp [run_underlying Try.underlying22, -Array.size_map, zero29]
  change ((Sem.run Try.prog (storeCells ⟨b, o, none⟩ (Builtin.zeroCells Mg.zero.val.cells (n + 1)).toList) w).andThen _) = _
  rw [← hnews, hst]; rfl

set_option maxHeartbeats 1000000 in
theorem del_calls (x : Int) (g cap : Nat) (l : List Mg) (bx : Nat) (cur : Array Value) (w : World) (hh : w.heap[g]? = some (.cells cur 29 (0, 0))) (hn : l.length ≤ cap) (hm : cap ≤ maxLen) (hcs : cur.size = cap * 6)
    (ht : cur.toList.take (l.length * 6) = msgs l) (hb : w.cell? ⟨bx, 0, none⟩ = some (.int .i64 x)) (hbg : bx ≠ g) :
    Calls Try.prog 36 #[.slice (some ⟨g, 0, none⟩) l.length cap, .func (.func 37) #[] #[.pointer (some ⟨bx, 0, none⟩)]] w
      fun e w' => ∃ n', e = .returned (.slice (some ⟨g, 0, none⟩) n' cap) ∧ Hid (n' = (fl x l).length ∧ w'.ownsRow 0 29 6 (.slice (some ⟨g, 0, none⟩) n' cap) n' (msgs (fl x l))) ∧ Frm (fun b => b = g) w w' := by
  have how : w.ownsRow 0 29 6 (.slice (some ⟨g, 0, none⟩) l.length cap) l.length (msgs l) := ⟨msgs_len l, .inr ⟨g, cap, cur, rfl, Nat.zero_le _, hh, hn, hm, by omega, ht⟩⟩
  have HOW := hid how
  have hi := index_calls x _ l bx w (Rd.ofOwns how) hb
  have HI := hid hi
  have HH := hid hh
  have HTT := hid ht
  have HB := hid hb
  have hcs' := hid hcs
  unfold maxLen at hm
  clear hi how hh ht hb hcs
  go_enter Try.func36, Try.ntmps36
  go_wp2_with fail
  refine HI.out.mono ?_
  rintro r w1 ⟨i, rfl, hi, hf⟩
  have HF1 := hid hf
  clear hf HI
  rcases hi.out with ⟨rfl, he⟩ | ⟨k, rfl, hk, he⟩
  · have HE := hid he
    clear hi he
    go_wp2_with fail
    go_ret
    exact ⟨_, rfl, hid ⟨by rw [HE.out], by rw [HE.out]; exact HF1.out.owns HOW.out (fun _ _ h => h)⟩, HF1.out.mono (fun _ _ h => h.elim)⟩
  · have HE := hid he
    have hne : ((k : Int) == -1) = false := by rw [beq_eq_false_iff_ne]; omega
    clear hi he
    go_wp2_with fail
    go_loopw [5, 6] (fun i5 j6 wr => ∃ (i j : Nat) (cur : Array Value), j ≤ l.length ∧ i < j ∧ i5 = .int .i64 i ∧ j6 = .int .i64 j ∧ Hid (wr.heap[g]? = some (.cells cur 29 (0, 0))) ∧ Hid (cur.size = cap * 6) ∧
      Hid (i = (fl x (l.take j)).length) ∧ Hid (cur.toList.take (i * 6) = msgs (fl x (l.take j))) ∧ Hid (∀ t, j * 6 ≤ t → t < l.length * 6 → cur[t]? = (msgs l)[t]?) ∧ Hid (Frm (fun b => b = g) w wr)) (fun _ j _ => l.length - (intOf j).toNat)
    case atStart =>
      refine ⟨k, k + 1, cur, by omega, by omega, rfl, by go_num, hid (HF1.out.heap HH.out (fun h => h)), hcs', ?_, ?_, ?_, hid (HF1.out.mono (fun _ _ h => h.elim))⟩
      · unfold Hid; rw [HE.out, List.length_take]; omega
      · unfold Hid; rw [HE.out, ← msgs_take, ← HTT.out, List.take_take, Nat.min_eq_left (by omega)]
      · refine hid fun t _ h2 => ?_
        rw [← HTT.out, List.getElem?_take, if_pos h2, Array.getElem?_toList]
    case round =>
      clear HF1 HE
      obtain ⟨i, j, cur, hj, hij, rfl, rfl, HC, HS, HI, HT, HR, HF⟩ := hrel
      by_cases hlt : j < l.length
      · obtain ⟨m, hmm⟩ : ∃ m, l[j]? = some m := ⟨_, List.getElem?_eq_getElem hlt⟩
        have hcell : ∀ r, r < 6 → cur[j * 6 + r]? = m.cells[r]? := by
          intro r hr; rw [HR.out _ (by omega) (by omega), Nat.mul_comm j 6]; exact msgs_get l j m hmm r hr
        have hc := of1_calls x m bx
        obtain ⟨gk, ge, gs, gu, gv, gt⟩ := m
        have m0 : wr.cell? ⟨g, j * 6, none⟩ = some (.int .i64 gk) := (cell_at HC.out _).trans (hcell 0 (by omega))
        have m1 : wr.cell? ⟨g, j * 6 + 1, none⟩ = some (.int .i64 ge) := (cell_at HC.out _).trans (hcell 1 (by omega))
        have m2 : wr.cell? ⟨g, j * 6 + 2, none⟩ = some (.int .i64 gs) := (cell_at HC.out _).trans (hcell 2 (by omega))
        have m3 : wr.cell? ⟨g, j * 6 + 3, none⟩ = some (.int .i64 gu) := (cell_at HC.out _).trans (hcell 3 (by omega))
        have m4 : wr.cell? ⟨g, j * 6 + 4, none⟩ = some (.int .i64 gv) := (cell_at HC.out _).trans (hcell 4 (by omega))
        have m5 : wr.cell? ⟨g, j * 6 + 5, none⟩ = some (.int .i64 gt) := (cell_at HC.out _).trans (hcell 5 (by omega))
        have hlt' : (j : Int) < l.length := by omega
        have HM := hid hmm
        have hc' := hc (wr.alloc (.cells #[.int .i64 gk, .int .i64 ge, .int .i64 gs, .int .i64 gu, .int .i64 gv, .int .i64 gt] 29)) (((HF.out.alloc (.cells #[.int .i64 gk, .int .i64 ge, .int .i64 gs, .int .i64 gu, .int .i64 gv, .int .i64 gt] 29))).cell HB.out (fun e => hbg e))
        simp only [Mg.val] at hc'
        have HCC := hid hc'
        have hgl := (Array.getElem?_eq_some_iff.1 HC.out).1
        have hfz := frozen_at HC.out
        clear hc hc' hcell hmm
        by_cases hu : gu = x
        · have e1 : (gu != x) = false := by simp [hu]
          rw [e1] at HCC
          have HU := hid hu
          clear e1 hu
          go_wp2_with fail
          refine HCC.out.mono ?_
          rintro r w2 ⟨rfl, hf⟩
          have HF2 := hid ((HF.out.alloc (.cells #[.int .i64 gk, .int .i64 ge, .int .i64 gs, .int .i64 gu, .int .i64 gv, .int .i64 gt] 29)).then0 hf)
          have HC2 := hid ((((Frm.refl M0 wr).alloc (.cells #[.int .i64 gk, .int .i64 ge, .int .i64 gs, .int .i64 gu, .int .i64 gv, .int .i64 gt] 29)).then0 hf).heap HC.out (fun h => h))
          have hbx := hf.heap (heap_alloc_new wr (.cells #[.int .i64 gk, .int .i64 ge, .int .i64 gs, .int .i64 gu, .int .i64 gv, .int .i64 gt] 29)) (fun h => h)
          obtain ⟨⟨c0, c1, c2, c3, c4, c5⟩, _⟩ := six hbx
          have hex : ∀ r, r < 6 → ∃ y, w2.cell? ⟨g, i * 6 + r, none⟩ = some y := by
            intro r hr
            have := HS.out
            exact ⟨_, (cell_at HC2.out _).trans (Array.getElem?_eq_getElem (by omega))⟩
          obtain ⟨y0, d0⟩ := hex 0 (by omega)
          obtain ⟨y1, d1⟩ := hex 1 (by omega)
          obtain ⟨y2, d2⟩ := hex 2 (by omega)
          obtain ⟨y3, d3⟩ := hex 3 (by omega)
          obtain ⟨y4, d4⟩ := hex 4 (by omega)
          obtain ⟨y5, d5⟩ := hex 5 (by omega)
          rw [Nat.add_zero] at d0
          have hfz2 := frozen_at HC2.out
          have hgl2 := (Array.getElem?_eq_some_iff.1 HC2.out).1
          have hi' : (i : Int) < l.length := by omega
          have hi'' : i < l.length := by omega
          clear hf hfz hex hbx
          go_wp2_with fail
          have hS := HS.out
          obtain ⟨cur', h1, h2, h3⟩ := setCells_row (e := 29) [.int .i64 gk, .int .i64 ge, .int .i64 gs, .int .i64 gu, .int .i64 gv, .int .i64 gt] (i * 6) w2 cur HC2.out (by simp only [List.length_cons, List.length_nil]; omega)
          have hfr := (Frm.refl (fun b => b = g) w2).setCells g (i * 6) [.int .i64 gk, .int .i64 ge, .int .i64 gs, .int .i64 gu, .int .i64 gv, .int .i64 gt] (fun _ => rfl)
          simp only [List.length_cons, List.length_nil] at h3
          refine ⟨⟨i + 1, j + 1, cur', by omega, by omega, by go_num, by go_num, hid h1, hid (by rw [h2, hS]), ?_, ?_, ?_, hid (HF2.out.same hfr)⟩, by simp [intOf]; omega⟩
          · unfold Hid; rw [take_snoc HM.out, fl_app, fl_one, if_pos HU.out, List.length_append, ← HI.out]; rfl
          · unfold Hid
            rw [take_snoc HM.out, fl_app, fl_one, if_pos HU.out, msgs_app, ← HT.out, h3]
            refine List.take_left' ?_
            simp only [List.length_append, List.length_take, List.length_cons, List.length_nil, Array.length_toList]
            omega
          · refine hid fun t t1 t2 => ?_
            rw [← Array.getElem?_toList, h3, List.getElem?_append_right (by simp only [List.length_append, List.length_take, List.length_cons, List.length_nil, Array.length_toList]; omega), List.getElem?_drop]
            have e : i * 6 + 6 + (t - (cur.toList.take (i * 6) ++ [Value.int .i64 gk, .int .i64 ge, .int .i64 gs, .int .i64 gu, .int .i64 gv, .int .i64 gt]).length) = t := by
              simp only [List.length_append, List.length_take, List.length_cons, List.length_nil, Array.length_toList]; omega
            rw [show i * 6 + (0 + 1 + 1 + 1 + 1 + 1 + 1) = i * 6 + 6 from rfl, e, Array.getElem?_toList]
            exact HR.out t (by omega) t2
        · have e1 : (gu != x) = true := by simp [hu]
          rw [e1] at HCC
          have HU := hid hu
          clear e1 hu
          go_wp2_with fail
          refine HCC.out.mono ?_
          rintro r w2 ⟨rfl, hf⟩
          have HF2 := hid ((HF.out.alloc (.cells #[.int .i64 gk, .int .i64 ge, .int .i64 gs, .int .i64 gu, .int .i64 gv, .int .i64 gt] 29)).then0 hf)
          have HC2 := hid ((((Frm.refl M0 wr).alloc (.cells #[.int .i64 gk, .int .i64 ge, .int .i64 gs, .int .i64 gu, .int .i64 gv, .int .i64 gt] 29)).then0 hf).heap HC.out (fun h => h))
          clear hf hfz
          go_wp2_with fail
          refine ⟨⟨i, j + 1, cur, by omega, by omega, rfl, by go_num, HC2, HS, ?_, ?_, hid (fun t h1 h2 => HR.out t (by omega) h2), HF2⟩, by simp [intOf]; omega⟩
          · unfold Hid; rw [take_snoc HM.out, fl_app, fl_one, if_neg HU.out, List.append_nil]; exact HI.out
          · unfold Hid; rw [take_snoc HM.out, fl_app, fl_one, if_neg HU.out, List.append_nil]; exact HT.out
      · obtain rfl : j = l.length := by omega
        have hS := HS.out
        rw [List.take_length] at HI HT
        obtain ⟨news, hnews⟩ : ∃ news, news = (Builtin.zeroCells Mg.zero.val.cells (l.length - i)).toList := ⟨_, rfl⟩
        have hnl : news.length = (l.length - i) * 6 := by rw [hnews]; exact (zero_cells _).1
        have ecl : ∀ ty, (Builtin.clear_ #[22] ty #[.slice (some ⟨g, i * 6, none⟩) (l.length - i) (cap - i)]).run Try.prog wr = .ok (.tuple #[]) (wr.setCells g (i * 6) news) := by
          intro ty
          refine run_clear_msgs wr ty g _ _ _ (by omega) news hnews (fun r hr => ?_) (fun r hr => frozen_at HC.out _)
          rw [cell_at HC.out, Array.getElem?_eq_getElem (by omega)]; rfl
        obtain ⟨cur', h1, h2, h3⟩ := setCells_row (e := 29) news (i * 6) wr cur HC.out (by omega)
        have hfr := (Frm.refl (fun b => b = g) wr).setCells g (i * 6) news (fun _ => rfl)
        have HH1 := hid h1
        have HH2 := hid h2
        have HH3 := hid h3
        have HFR := hid hfr
        have q1 : i ≤ cap := by omega
        have q2 : i ≤ l.length := by omega
        have q3 : cap ≠ i := by omega
        clear h1 h2 h3 hfr hnews hnl hS HH HOW HTT hne hcs'
        go_wp2_with fail
        go_ret
        refine ⟨i, rfl, hid ⟨HI.out, by rw [msgs_len, ← HI.out], .inr ⟨g, cap, cur', rfl, Nat.zero_le _, HH1.out, by omega, hm, by rw [HH2.out, HS.out], ?_⟩⟩, HF.out.same HFR.out⟩
        rw [HH3.out, List.append_assoc, List.take_append_of_le_length (by rw [List.length_take, Array.length_toList, HS.out]; omega), List.take_take, Nat.min_self]
        exact HT.out

theorem all_calls (nb c : Nat) (vb : Option Nat) (N : Net) (w : World) (h : NetR w nb c vb N) :
    Calls Try.prog 22 #[pn nb] w fun r w' => ∃ v', r = .returned v' ∧ Hid (w'.ownsRow w.heap.size 29 6 v' N.l.length (msgs N.l)) ∧ Frm M0 w w' := by
  obtain ⟨v, buf, s, r, hv, h1, h2, h3, h4, h5, h6, _⟩ := h
  obtain ⟨⟨c0, c1, c2, c3⟩, _⟩ := netCells h1
  have hc := clone_calls v N.l w (by omega) (Rd.ofOwns h6)
  have HC := hid hc
  obtain ⟨a, ca, rfl, _⟩ := (Rd.ofOwns h6).shapeN
  clear h1 h2 h6 hv hc h3
  go_enter Try.func22, Try.ntmps22
  go_wp2_with fail
  refine HC.out.mono ?_
  rintro r w1 ⟨v', rfl, ho, hf⟩
  have HO := hid ho
  have HF := hid hf
  clear ho hf
  obtain ⟨a', ca', rfl, _⟩ := (Rd.ofOwns HO.out).shapeN
  go_wp2_with fail
  go_ret
  exact ⟨_, rfl, HO, HF.out⟩

theorem of_calls (nb c : Nat) (vb : Option Nat) (N : Net) (x : Int) (w : World) (h : NetR w nb c vb N) :
    Calls Try.prog 23 #[pn nb, .int .i64 x] w fun r w' => ∃ v', r = .returned v' ∧ Hid (Rd w' 6 v' (fl x N.l).length (msgs (fl x N.l))) ∧ Frm M0 w w' := by
  have ha := all_calls nb c vb N _ (h.frm ((Frm.refl M0 w).alloc (.cells #[.int .i64 x] 3)) (fun _ _ h => h))
  have HA := hid ha
  clear ha h
  go_enter Try.func23, Try.ntmps23
  go_wp2_with fail
  refine HA.out.mono ?_
  rintro r w1 ⟨v', rfl, ho, hf⟩
  have hbx := hf.heap (heap_alloc_new w (.cells #[.int .i64 x] 3)) (fun h => h)
  have hb : w1.cell? ⟨w.heap.size, 0, none⟩ = some (.int .i64 x) := cell_at hbx 0
  have HF := hid (((Frm.refl M0 w).alloc (.cells #[.int .i64 x] 3)).then0 hf)
  have hd : Calls Try.prog 36 #[v', .func (.func 37) #[] #[.pointer (some ⟨w.heap.size, 0, none⟩)]] w1
      fun e w' => ∃ v2, e = .returned v2 ∧ Hid (Rd w' 6 v2 (fl x N.l).length (msgs (fl x N.l))) ∧ Frm (fun b => w.heap.size ≤ b) w1 w' := by
    rcases ho.out.2 with ⟨rfl, h0⟩ | ⟨g, cap, cur, rfl, hg, hh, h1, h2, h3, h4⟩
    · refine (del_nil _ w1).mono ?_
      rintro r w2 ⟨rfl, rfl⟩
      have e : N.l = [] := by
        have := ho.out.1
        rw [h0, msgs_len] at this
        simp only [Nat.zero_mul] at this
        exact List.eq_nil_of_length_eq_zero (by omega)
      exact ⟨_, rfl, hid (by rw [e]; exact Rd.nil _ _), Frm.refl _ _⟩
    · refine (del_calls x g cap N.l w.heap.size cur w1 hh h1 h2 h3 h4 hb (by simp at hg; omega)).mono ?_
      rintro r w2 ⟨n', rfl, h, hf2⟩
      have h := h.out
      refine ⟨_, rfl, hid (by rw [← h.1]; exact Rd.ofOwns h.2), hf2.mono (fun b _ e => by subst e; simp at hg; omega)⟩
  have HD := hid hd
  clear hd ho hf hbx hb HA
  go_wp2_with fail
  refine HD.out.mono ?_
  rintro r w2 ⟨v2, rfl, hr, hf2⟩
  have HF2 := hid (HF.out.trans hf2 (fun b hb h => absurd h (by omega)))
  clear hf2
  obtain ⟨a', ca', rfl, _⟩ := hr.out.shapeN
  go_wp2_with fail
  go_ret
  exact ⟨_, rfl, hr, HF2.out⟩
end Go.Proofs.Ytbepcohcdgfkaaa
