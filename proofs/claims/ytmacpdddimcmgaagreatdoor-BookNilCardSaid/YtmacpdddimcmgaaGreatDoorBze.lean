/- What a record does to a book: Apply, whole; a new book. A book of all records; a book that isn't there. Two specs held against each other. No condition. A book that isn't there; the document's example. BookNil. -/
import Derived.Test.YtmacpdddimcmgaaGreatDoorBzd
namespace Go.Proofs.YtmacpdddimcmgaaGreatDoor
set_option linter.unusedVariables false
set_option linter.unusedSimpArgs false
set_option maxRecDepth 20000
open Go.RowKit
set_option maxRecDepth 20000 in
set_option maxHeartbeats 4000000 in
theorem apply_no (b : Nat) (p : BkP) (B : Bk) (r : Rc) (w : World) (h : BkAt w b p B) (ho : B.Ok) (hT : TabS w b p) (hc : ¬ B.check r = 0) :
    Calls Tryz.prog 16 #[bp b, r.val] w fun x w' => x = .returned (.int .i64 (B.check r)) ∧ Frm M0 w w' := by
  have HB := hid h
  have HOk := hid ho
  have HTS := hid hT
  obtain ⟨E, hE⟩ : ∃ q, B.check r = q := ⟨_, rfl⟩
  rw [hE] at hc ⊢
  have HE := hid hE
  have e1 : (E != 0) = true := bne_yes hc
  clear h ho hT hc hE
  have HV : Hid (r.val = .agg #[.int .i64 r.k, .int .i64 r.e, .int .i64 r.w, .int .i64 r.n, .int .i64 r.q, .string r.t, .int .i64 r.p.s0, .int .i64 r.p.s1, .int .i64 r.p.s2, .int .i64 r.p.s3, .int .i64 r.p.s4, .int .i64 r.p.s5, .int .i64 r.p.s6, .int .i64 r.p.s7, .int .i64 r.p.s8, .int .i64 r.p.s9, .int .i64 r.p.s10, .int .i64 r.p.s11]) := rfl
  rw [HV.out]
  go_enter Tryz.func16, Tryz.ntmps16
  go_upto_region 1 with fail
  (obtain ⟨b3, hbb3⟩ : ∃ q, q = w.heap.size := ⟨_, rfl⟩); (obtain ⟨w1, hww1⟩ : ∃ q, q = w.alloc (.cells #[.int .i64 r.k, .int .i64 r.e, .int .i64 r.w, .int .i64 r.n, .int .i64 r.q, .string r.t, .int .i64 r.p.s0, .int .i64 r.p.s1, .int .i64 r.p.s2, .int .i64 r.p.s3, .int .i64 r.p.s4, .int .i64 r.p.s5, .int .i64 r.p.s6, .int .i64 r.p.s7, .int .i64 r.p.s8, .int .i64 r.p.s9, .int .i64 r.p.s10, .int .i64 r.p.s11] 37) := ⟨_, rfl⟩); have hn := new1 w (.cells #[.int .i64 r.k, .int .i64 r.e, .int .i64 r.w, .int .i64 r.n, .int .i64 r.q, .string r.t, .int .i64 r.p.s0, .int .i64 r.p.s1, .int .i64 r.p.s2, .int .i64 r.p.s3, .int .i64 r.p.s4, .int .i64 r.p.s5, .int .i64 r.p.s6, .int .i64 r.p.s7, .int .i64 r.p.s8, .int .i64 r.p.s9, .int .i64 r.p.s10, .int .i64 r.p.s11] 37); have hf := (Frm.refl M0 w).alloc (.cells #[.int .i64 r.k, .int .i64 r.e, .int .i64 r.w, .int .i64 r.n, .int .i64 r.q, .string r.t, .int .i64 r.p.s0, .int .i64 r.p.s1, .int .i64 r.p.s2, .int .i64 r.p.s3, .int .i64 r.p.s4, .int .i64 r.p.s5, .int .i64 r.p.s6, .int .i64 r.p.s7, .int .i64 r.p.s8, .int .i64 r.p.s9, .int .i64 r.p.s10, .int .i64 r.p.s11] 37); rw [← hww1] at hn hf ⊢; rw [← hbb3] at hn ⊢; clear hww1
  have HB1 := hid (HB.out.frm0 hf)
  have HF1 := hid hf
  have H3 := hid hn
  clear hn hf hbb3
  go_wp2_with (refine wpList_load_row_w (by kernel_rfl) 37 (.tmp 3) (by with_reducible rfl) b3 (by kernel_rfl) _ _ _ _ H3.out Tryz.underlying37 rfl (by kernel_rfl) ?_)
  refine (HV.out ▸ bcheck_calls b p B r w1 HB1.out HOk.out (HTS.out _ (HF1.out.mono (fun _ _ h => h.elim)))).mono ?_
  rintro _ w2 ⟨rfl, hf⟩
  rw [HE.out]
  have HF2 := hid (HF1.out.then0 hf)
  clear hf
  go_wp2_with fail
  go_ret
  exact ⟨rfl, HF2.out⟩
theorem took_of {b : Nat} {p : BkP} {B : Bk} {w w' : World} {x : Ending} (h : x = .returned (.int .i64 0) ∧ BkAt w' b p B ∧ Frm (bkM b p) w w') : Took b p B w x w' :=
  ⟨h.1, p.hv, h.2.1, h.2.2, fun k hk => .inl hk⟩
abbrev Gave (b : Nat) (p : BkP) (B : Bk) (e : Int) (w : World) (x : Ending) (w' : World) : Prop :=
  x = .returned (.int .i64 e) ∧ ∃ hv', BkAt w' b { p with hv := hv' } B ∧ Frm (bkM b p) w w' ∧ ∀ k, hv'.ownBlock = some k → p.hv.ownBlock = some k ∨ w.heap.size ≤ k
theorem bapply_calls (b : Nat) (p : BkP) (B : Bk) (r : Rc) (w : World) (h : BkAt w b p B) (ho : B.Ok) (hT : TabS w b p) :
    Calls Tryz.prog 16 #[bp b, r.val] w fun x w' => Gave b p (B.apply r).1 (B.apply r).2 w x w' := by
  by_cases hc : B.check r = 0
  case neg =>
    have e : B.apply r = (B, B.check r) := by unfold Bk.apply; rw [if_neg hc]
    rw [e]
    refine (apply_no b p B r w h ho hT hc).mono ?_
    rintro x w' ⟨rfl, hf⟩
    exact ⟨rfl, p.hv, h.frm0 hf, hf.mono (fun _ _ h => h.elim), fun k hk => .inl hk⟩
  case pos =>
    have e : B.apply r = (B.does r, 0) := by unfold Bk.apply; rw [if_pos hc]
    rw [e]
    have hk := right_kind (check_zero hc).1
    have hkk : r.k = 1 ∨ r.k = 2 ∨ r.k = 3 ∨ r.k = 4 ∨ r.k = 5 ∨ r.k = 6 ∨ r.k = 7 := by omega
    rcases hkk with hk | hk | hk | hk | hk | hk | hk
    · exact (apply_lead b p B r w h ho hT hc hk).mono fun x w' h => took_of h
    · exact (apply_publish b p B r w h ho hT hc hk).mono fun x w' h => took_of h
    · exact apply_begin b p B r w h ho hT hc hk
    · exact apply_move b p B r w h ho hT hc hk
    · exact (apply_intent b p B r w h ho hT hc hk).mono fun x w' h => took_of h
    · exact (apply_ack b p B r w h ho hT hc hk).mono fun x w' h => took_of h
    · exact apply_step b p B r w h ho hT hc hk
def usK : Nat → List Un
  | 0 => List.replicate 16 ⟨0, 0, false⟩
  | k + 1 => (usK k).set k ⟨0, 0, true⟩
theorem usK_len : ∀ k, (usK k).length = 16
  | 0 => by unfold usK; rw [List.length_replicate]
  | k + 1 => by unfold usK; rw [List.length_set]; exact usK_len k
theorem usK_at : ∀ k : Fin 16, (usK k.val)[k.val]? = some ⟨0, 0, false⟩ := by decide +kernel
theorem usK_all : usK 16 = List.replicate 16 ⟨0, 0, true⟩ := by decide +kernel
set_option maxRecDepth 20000 in
set_option maxHeartbeats 8000000 in
theorem bnew_calls (m : Int) (w : World) :
    Calls Tryz.prog 14 #[.int .i64 m] w fun x w' => ∃ b p, x = .returned (bp b) ∧ BkAt w' b p (Bk.new (cutF m)) ∧ (∀ k, bkM b p k → w.heap.size ≤ k) ∧ Frm M0 w w' := by
  go_enter Tryz.func14, Tryz.ntmps14
  go_wp2_with fail
  refine (lnew_calls m _).mono ?_
  rintro _ w1 ⟨tb, TB, rfl, ht, hz, hf⟩
  have HT1 := hid ht
  have HZ1 := hid hz
  have HF1 := hid hf
  clear ht hz hf
  go_wp2_with fail
  refine (knew_calls _).mono ?_
  rintro _ w2 ⟨sb, SB, rfl, hs, hz, hf⟩
  have HS2 := hid hs
  have HZ2 := hid hz
  have HT2 := hid (HT1.out.frm0 hf)
  have HF2 := hid (HF1.out.then0 hf)
  have HSZ := hid (And.intro HF1.out.size hf.size)
  have HTL := hid (And.intro (sb_lt HT1.out.1) (sb_lt HT1.out.2.1))
  have HS2L : Hid (w2.heap[sb]? = some (.cells #[.map (some SB), .int .i64 0] 125 (0, 0)) ∧ w2.heap[SB]? = some (smapO [])) := hid (And.intro hs.1 hs.2.1)
  clear hs hz hf HT1 HF1
  go_upto_region 2 with fail
  obtain ⟨b, hb⟩ : ∃ q, q = w2.heap.size := ⟨_, rfl⟩
  obtain ⟨w3, hw3⟩ : ∃ q, q = w2.alloc (.cells ((Tryz.zeroCells76.setIfInBounds 0 (Value.pointer (some ⟨tb, 0, none⟩))).setIfInBounds 1 (Value.pointer (some ⟨sb, 0, none⟩))) 76) := ⟨_, rfl⟩
  have hn : (w2.alloc (.cells ((Tryz.zeroCells76.setIfInBounds 0 (Value.pointer (some ⟨tb, 0, none⟩))).setIfInBounds 1 (Value.pointer (some ⟨sb, 0, none⟩))) 76)).heap[w2.heap.size]? = some (.cells (bkCells ⟨tb, TB, sb, SB, .slice none 0 0⟩ Vw.zero (usK 0)).toArray 76 (0, 0)) := by
    have hzc : ((Tryz.zeroCells76.setIfInBounds 0 (Value.pointer (some ⟨tb, 0, none⟩))).setIfInBounds 1 (Value.pointer (some ⟨sb, 0, none⟩))) = (bkCells ⟨tb, TB, sb, SB, .slice none 0 0⟩ Vw.zero (usK 0)).toArray := by kernel_rfl
    rw [← hzc]
    exact new1 w2 _
  have hf := (Frm.refl M0 w2).alloc (.cells ((Tryz.zeroCells76.setIfInBounds 0 (Value.pointer (some ⟨tb, 0, none⟩))).setIfInBounds 1 (Value.pointer (some ⟨sb, 0, none⟩))) 76)
  rw [← hw3] at hn hf ⊢
  rw [← hb] at hn ⊢
  have H3 := hid hn
  have HF3 := hid (HF2.out.then0 hf)
  have HT3 := hid (HT2.out.frm0 hf)
  have HS3 := hid (HS2.out.frm0 hf)
  have HB := hid hb
  clear hn hf hw3 hb HT2 HS2 HF2
  go_wp2_with fail
  go_loopw [10] (fun i10 wr => ∃ k : Nat, k ≤ 16 ∧ i10 = .int .i64 k ∧ Hid (wr.heap[b]? = some (.cells (bkCells ⟨tb, TB, sb, SB, .slice none 0 0⟩ Vw.zero (usK k)).toArray 76 (0, 0))) ∧ Hid (Frm (fun j => j = b) w3 wr)) (fun i _ => 16 - (intOf i).toNat)
  case atStart => exact ⟨0, by omega, rfl, H3, hid (Frm.refl _ _)⟩
  case round =>
    obtain ⟨k, hk, rfl, HH, HF⟩ := hrel
    by_cases hlt : k < 16
    · have hu := usK_at ⟨k, hlt⟩
      have hcell : wr.cell? ⟨b, 24 + k * 3 + 2, none⟩ = some (.bool false) := by
        rw [sb_cell HH.out, List.getElem?_toArray, Nat.add_assoc, bk_units, List.getElem?_append_left (by rw [els_len un_len, usK_len]; omega), els_get un_len _ k 2 ⟨0, 0, false⟩ hu (by omega)]
        rfl
      have hz := sb_free HH.out (24 + k * 3 + 2)
      have HU := hid hu
      have HLT := hid hlt
      clear hu
      go_wp2_with fail
      refine ⟨⟨k + 1, HLT.out, by go_num, hid ?_, hid (HF.out.put b _ _ (fun _ => rfl))⟩, by have := HLT.out; simp [intOf]; omega⟩
      rw [heap_set_at HH.out, List.setIfInBounds_toArray, bk_unit_done _ _ _ _ _ HU.out]
      rfl
    · obtain rfl : k = 16 := by omega
      have h1 := HH.out
      rw [usK_all] at h1
      have H16 := hid h1
      clear h1
      go_wp2_with fail
      go_ret
      have hb := HB.out
      have hz := HSZ.out
      have hz1 := HZ1.out
      have hz2 := HZ2.out
      have htl := HTL.out
      have hne : tb ≠ b ∧ TB ≠ b ∧ sb ≠ b ∧ SB ≠ b := by
        have a1 := sb_lt HS2L.out.1
        have a2 := sb_lt HS2L.out.2
        omega
      refine ⟨b, ⟨tb, TB, sb, SB, .slice none 0 0⟩, rfl, ⟨H16.out, HT3.out.frm HF.out hne.1 hne.2.1, HS3.out.frm HF.out hne.2.2.1 hne.2.2.2, Ow.nil _ _ _, by simp [Bk.new], by show TB ≠ SB; omega⟩, ?_, HF3.out.trans HF.out (fun j hj e => by have e : j = b := e; omega)⟩
      intro j hj
      rcases hj with h | h | h | h | h | h
      · rw [h]; omega
      · rw [h]; exact hz1.1
      · rw [h]; exact hz1.2
      · rw [h]; show w.heap.size ≤ sb; omega
      · rw [h]; show w.heap.size ≤ SB; omega
      · cases h
end Go.Proofs.YtmacpdddimcmgaaGreatDoor
namespace Go.Proofs.YtmacpdddimcmgaaGreatDoor
set_option linter.unusedVariables false
set_option linter.unusedSimpArgs false
set_option maxRecDepth 20000
open Go.RowKit
theorem Bk.all_snoc : ∀ (l : List Rc) (B : Bk) (r : Rc), B.all (l ++ [r]) = (((B.all l).1.apply r).1, (B.all l).2 + if ((B.all l).1.apply r).2 = 0 then 1 else 0)
  | [], B, r => by
    show ((B.apply r).1, (if (B.apply r).2 = 0 then (1 : Int) else 0) + 0) = ((B.apply r).1, 0 + if (B.apply r).2 = 0 then (1 : Int) else 0)
    congr 1
    omega
  | x :: l, B, r => by
    show ((Bk.all (B.apply x).1 (l ++ [r])).1, (if (B.apply x).2 = 0 then (1 : Int) else 0) + (Bk.all (B.apply x).1 (l ++ [r])).2) = _
    rw [Bk.all_snoc l (B.apply x).1 r]
    show _ = (((Bk.all (B.apply x).1 l).1.apply r).1, ((if (B.apply x).2 = 0 then (1 : Int) else 0) + (Bk.all (B.apply x).1 l).2) + if ((Bk.all (B.apply x).1 l).1.apply r).2 = 0 then (1 : Int) else 0)
    congr 1
    simp only []
    omega
theorem Bk.all_cnt : ∀ (l : List Rc) (B : Bk), 0 ≤ (B.all l).2 ∧ (B.all l).2 ≤ l.length
  | [], B => by show (0 : Int) ≤ 0 ∧ (0 : Int) ≤ 0; omega
  | x :: l, B => by
    have := Bk.all_cnt l (B.apply x).1
    show 0 ≤ (if (B.apply x).2 = 0 then (1 : Int) else 0) + (Bk.all (B.apply x).1 l).2 ∧ (if (B.apply x).2 = 0 then (1 : Int) else 0) + (Bk.all (B.apply x).1 l).2 ≤ ((x :: l).length : Int)
    rw [List.length_cons]
    split <;> omega
theorem Rd.recAt {w : World} {b o n c : Nat} {l : List Rc} (h : Rd w 18 (.slice (some ⟨b, o, none⟩) n c) l.length (l.flatMap Rc.cells)) (i : Nat) (r : Rc) (hi : l[i]? = some r) :
    ∀ j u, (Rc.cells r)[j]? = some u → w.cell? ⟨b, o + i * 18 + j, none⟩ = some u := by
  intro j u hu
  have hj : j < 18 := by have := (List.getElem?_eq_some_iff.1 hu).1; rw [rcc_len] at this; exact this
  rcases h.2 with ⟨h2, _⟩ | ⟨x, cap', h2, _, _, hc⟩
  · cases h2
  · simp only [Value.slice.injEq, Option.some.injEq] at h2
    obtain ⟨rfl, rfl, rfl⟩ := h2
    rw [Nat.add_assoc, ← add_none]
    refine hc (i * 18 + j) u ?_
    rw [els_get rcc_len l i j r hi hj]
    exact hu
theorem bkM_tab {b : Nat} {p : BkP} {w0 w : World} (ht : Tab w0) (hf : Frm M0 w0 w) (hm : ∀ k, bkM b p k → w0.heap.size ≤ k) : TabS w b p := fun wx hx =>
  ht.frm (hf.trans hx (fun k hk e => by have := hm k e; omega))
set_option maxRecDepth 20000 in
set_option maxHeartbeats 8000000 in
theorem ball_calls (v : Value) (l : List Rc) (m : Int) (w : World) (hT : Tab w) (hr : Rd w 18 v l.length (l.flatMap Rc.cells)) (hl : l.length ≤ 1000000) :
    Calls Tryz.prog 24 #[.int .i64 m, v] w fun x w' => ∃ b p, x = .returned (.tuple #[bp b, .int .i64 ((Bk.new (cutF m)).all l).2]) ∧ BkAt w' b p ((Bk.new (cutF m)).all l).1 ∧ (∀ k, bkM b p k → w.heap.size ≤ k) ∧ Frm M0 w w' := by
  have HT := hid hT
  have HR := hid hr
  have HL := hid hl
  obtain ⟨a, c, rfl, hsh⟩ : ∃ a c, v = .slice a l.length c ∧ (0 < l.length * 18 → ∃ b o, a = some ⟨b, o, none⟩) := hr.shapeN
  have HSH := hid hsh
  obtain ⟨B0, hB0⟩ : ∃ q, Bk.new (cutF m) = q := ⟨_, rfl⟩
  have HOK : Hid B0.Ok := by rw [← hB0]; exact hid (Bk.ok_new (cutF_bd m))
  have HN := hid (bnew_calls m w)
  rw [hB0] at HN ⊢
  clear hT hr hl hsh hB0
  go_enter Tryz.func24, Tryz.ntmps24
  go_wp2_with fail
  refine HN.out.mono ?_
  rintro _ w1 ⟨b, p, rfl, hb, hm, hf⟩
  have HB1 := hid hb
  have HM1 := hid hm
  have HF1 := hid hf
  clear hb hm hf HN
  go_wp2_with fail
  go_loopw [7, 14] (fun n7 i14 wr => ∃ (k : Nat) (p' : BkP), k ≤ l.length ∧ i14 = .int .i64 k ∧ n7 = .int .i64 (B0.all (l.take k)).2 ∧ Hid (BkAt wr b p' (B0.all (l.take k)).1) ∧ Hid (∀ j, bkM b p' j → w.heap.size ≤ j) ∧ Hid (Frm M0 w wr)) (fun _ i _ => l.length - (intOf i).toNat)
  case atStart => exact ⟨0, p, Nat.zero_le _, rfl, rfl, HB1, HM1, HF1⟩
  case round =>
    obtain ⟨k, p', hk, rfl, rfl, HB, HM, HF⟩ := hrel
    by_cases hlt : k < l.length
    · as_aux_lemma =>
      obtain ⟨bb, oo, rfl⟩ := HSH.out (by omega)
      obtain ⟨r, hr⟩ : ∃ r, l[k]? = some r := ⟨_, List.getElem?_eq_getElem hlt⟩
      have HRK := hid hr
      have HLT := hid hlt
      have HC : Hid (∀ j u, (#[.int .i64 r.k, .int .i64 r.e, .int .i64 r.w, .int .i64 r.n, .int .i64 r.q, .string r.t, .int .i64 r.p.s0, .int .i64 r.p.s1, .int .i64 r.p.s2, .int .i64 r.p.s3, .int .i64 r.p.s4, .int .i64 r.p.s5, .int .i64 r.p.s6, .int .i64 r.p.s7, .int .i64 r.p.s8, .int .i64 r.p.s9, .int .i64 r.p.s10, .int .i64 r.p.s11]).toList[j]? = some u → wr.cell? ⟨bb, oo + k * 18 + j, none⟩ = some u) := hid ((HR.out.frm0 HF.out).recAt k r hr)
      have HC2 : Hid (∀ j u, (#[.int .i64 r.k, .int .i64 r.e, .int .i64 r.w, .int .i64 r.n, .int .i64 r.q, .string r.t, .int .i64 r.p.s0, .int .i64 r.p.s1, .int .i64 r.p.s2, .int .i64 r.p.s3, .int .i64 r.p.s4, .int .i64 r.p.s5, .int .i64 r.p.s6, .int .i64 r.p.s7, .int .i64 r.p.s8, .int .i64 r.p.s9, .int .i64 r.p.s10, .int .i64 r.p.s11]).toList[j]? = some u → (wr.alloc (.cells #[.int .i64 0, .int .i64 0, .int .i64 0, .int .i64 0, .int .i64 0, .string ⟨#[]⟩, .int .i64 0, .int .i64 0, .int .i64 0, .int .i64 0, .int .i64 0, .int .i64 0, .int .i64 0, .int .i64 0, .int .i64 0, .int .i64 0, .int .i64 0, .int .i64 0] 37)).cell? ⟨bb, oo + k * 18 + j, none⟩ = some u) := hid ((HR.out.frm0 (HF.out.alloc _)).recAt k r hr)
      obtain ⟨BK, CK, hBK⟩ : ∃ a c, B0.all (l.take k) = (a, c) := ⟨_, _, rfl⟩
      have HCB : Hid (0 ≤ CK ∧ CK ≤ 1000000) := by
        have h1 := Bk.all_cnt (l.take k) B0
        rw [hBK] at h1
        have h2 := HL.out
        have h3 : (l.take k).length ≤ l.length := by rw [List.length_take]; omega
        simp only [] at h1
        exact hid (And.intro h1.1 (by omega))
      have HS := hid (Bk.all_snoc (l.take k) B0 r)
      have HOK2 := hid (Bk.ok_all (l.take k) B0 HOK.out)
      rw [hBK] at HB HS HOK2 ⊢
      simp only [] at HB HS HOK2 ⊢
      rw [← take_snoc hr] at HS
      have hlen : ¬ l.length ≤ k := by omega
      clear hr hBK
      have HN := hid (new1 wr (.cells #[.int .i64 0, .int .i64 0, .int .i64 0, .int .i64 0, .int .i64 0, .string ⟨#[]⟩, .int .i64 0, .int .i64 0, .int .i64 0, .int .i64 0, .int .i64 0, .int .i64 0, .int .i64 0, .int .i64 0, .int .i64 0, .int .i64 0, .int .i64 0, .int .i64 0] 37))
      go_upto_region 5 with (first | (refine wpList_load_c (by kernel_rfl) 37 (.tmp 16) (by with_reducible rfl) bb (oo + k * 18) (by kernel_rfl) #[.int .i64 r.k, .int .i64 r.e, .int .i64 r.w, .int .i64 r.n, .int .i64 r.q, .string r.t, .int .i64 r.p.s0, .int .i64 r.p.s1, .int .i64 r.p.s2, .int .i64 r.p.s3, .int .i64 r.p.s4, .int .i64 r.p.s5, .int .i64 r.p.s6, .int .i64 r.p.s7, .int .i64 r.p.s8, .int .i64 r.p.s9, .int .i64 r.p.s10, .int .i64 r.p.s11] (HC.out) _ Tryz.underlying37 rfl (by kernel_rfl) ?_) | (refine wpList_load_c (by kernel_rfl) 37 (.tmp 16) (by with_reducible rfl) bb (oo + k * 18) (by kernel_rfl) #[.int .i64 r.k, .int .i64 r.e, .int .i64 r.w, .int .i64 r.n, .int .i64 r.q, .string r.t, .int .i64 r.p.s0, .int .i64 r.p.s1, .int .i64 r.p.s2, .int .i64 r.p.s3, .int .i64 r.p.s4, .int .i64 r.p.s5, .int .i64 r.p.s6, .int .i64 r.p.s7, .int .i64 r.p.s8, .int .i64 r.p.s9, .int .i64 r.p.s10, .int .i64 r.p.s11] (HC2.out) _ Tryz.underlying37 rfl (by kernel_rfl) ?_) | (refine wpList_store_row rfl 37 (.tmp 9) (.tmp 17) (by with_reducible rfl) wr.heap.size #[.int .i64 r.k, .int .i64 r.e, .int .i64 r.w, .int .i64 r.n, .int .i64 r.q, .string r.t, .int .i64 r.p.s0, .int .i64 r.p.s1, .int .i64 r.p.s2, .int .i64 r.p.s3, .int .i64 r.p.s4, .int .i64 r.p.s5, .int .i64 r.p.s6, .int .i64 r.p.s7, .int .i64 r.p.s8, .int .i64 r.p.s9, .int .i64 r.p.s10, .int .i64 r.p.s11] (by kernel_rfl) (by kernel_rfl) _ _ HN.out (by kernel_rfl) (by rfl) (by simp [Value.oneCell']) ?_))
      (obtain ⟨b9, hbb9⟩ : ∃ q, q = wr.heap.size := ⟨_, rfl⟩); (obtain ⟨w4, hww4⟩ : ∃ q, q = (wr.alloc (.cells #[.int .i64 0, .int .i64 0, .int .i64 0, .int .i64 0, .int .i64 0, .string ⟨#[]⟩, .int .i64 0, .int .i64 0, .int .i64 0, .int .i64 0, .int .i64 0, .int .i64 0, .int .i64 0, .int .i64 0, .int .i64 0, .int .i64 0, .int .i64 0, .int .i64 0] 37)).setRow wr.heap.size #[.int .i64 r.k, .int .i64 r.e, .int .i64 r.w, .int .i64 r.n, .int .i64 r.q, .string r.t, .int .i64 r.p.s0, .int .i64 r.p.s1, .int .i64 r.p.s2, .int .i64 r.p.s3, .int .i64 r.p.s4, .int .i64 r.p.s5, .int .i64 r.p.s6, .int .i64 r.p.s7, .int .i64 r.p.s8, .int .i64 r.p.s9, .int .i64 r.p.s10, .int .i64 r.p.s11] := ⟨_, rfl⟩); have hn := setRow_heap _ wr.heap.size _ #[.int .i64 r.k, .int .i64 r.e, .int .i64 r.w, .int .i64 r.n, .int .i64 r.q, .string r.t, .int .i64 r.p.s0, .int .i64 r.p.s1, .int .i64 r.p.s2, .int .i64 r.p.s3, .int .i64 r.p.s4, .int .i64 r.p.s5, .int .i64 r.p.s6, .int .i64 r.p.s7, .int .i64 r.p.s8, .int .i64 r.p.s9, .int .i64 r.p.s10, .int .i64 r.p.s11] _ _ HN.out; have hf : Frm M0 wr ((wr.alloc (.cells #[.int .i64 0, .int .i64 0, .int .i64 0, .int .i64 0, .int .i64 0, .string ⟨#[]⟩, .int .i64 0, .int .i64 0, .int .i64 0, .int .i64 0, .int .i64 0, .int .i64 0, .int .i64 0, .int .i64 0, .int .i64 0, .int .i64 0, .int .i64 0, .int .i64 0] 37)).setRow wr.heap.size #[.int .i64 r.k, .int .i64 r.e, .int .i64 r.w, .int .i64 r.n, .int .i64 r.q, .string r.t, .int .i64 r.p.s0, .int .i64 r.p.s1, .int .i64 r.p.s2, .int .i64 r.p.s3, .int .i64 r.p.s4, .int .i64 r.p.s5, .int .i64 r.p.s6, .int .i64 r.p.s7, .int .i64 r.p.s8, .int .i64 r.p.s9, .int .i64 r.p.s10, .int .i64 r.p.s11]) := ((Frm.refl M0 wr).alloc _).setRow _ _ (Nat.le_refl _); rw [← hww4] at hn hf ⊢; rw [← hbb9] at hn ⊢; clear hww4
      have HB4 := hid (HB.out.frm0 hf)
      have HF4 := hid (HF.out.then0 hf)
      have H9 := hid hn
      clear hf hn hbb9 HC HC2 HN HB HF
      go_wp2_with (refine wpList_load_row_w (by kernel_rfl) 37 (.tmp 9) (by with_reducible rfl) b9 (by kernel_rfl) _ _ _ _ H9.out Tryz.underlying37 rfl (by kernel_rfl) ?_)
      have HV : Hid (r.val = .agg #[.int .i64 r.k, .int .i64 r.e, .int .i64 r.w, .int .i64 r.n, .int .i64 r.q, .string r.t, .int .i64 r.p.s0, .int .i64 r.p.s1, .int .i64 r.p.s2, .int .i64 r.p.s3, .int .i64 r.p.s4, .int .i64 r.p.s5, .int .i64 r.p.s6, .int .i64 r.p.s7, .int .i64 r.p.s8, .int .i64 r.p.s9, .int .i64 r.p.s10, .int .i64 r.p.s11]) := rfl
      refine (HV.out ▸ bapply_calls b p' BK r w4 HB4.out HOK2.out (bkM_tab HT.out HF4.out HM.out)).mono ?_
      rintro _ w5 ⟨rfl, hv', hb, hf, hm⟩
      have HB5 := hid hb
      have HF5 := hid (HF4.out.trans hf (fun j hj e => by have := HM.out j e; omega))
      have HM5 : Hid (∀ j, bkM b { p' with hv := hv' } j → w.heap.size ≤ j) := hid fun j hj => by
        rcases hj with h | h | h | h | h | h
        · exact HM.out j (.inl h)
        · exact HM.out j (.inr (.inl h))
        · exact HM.out j (.inr (.inr (.inl h)))
        · exact HM.out j (.inr (.inr (.inr (.inl h))))
        · exact HM.out j (.inr (.inr (.inr (.inr (.inl h)))))
        · rcases hm j h with e | e
          · exact HM.out j (.inr (.inr (.inr (.inr (.inr e)))))
          · exact Nat.le_trans HF4.out.size e
      obtain ⟨B', E', hap⟩ : ∃ a c, BK.apply r = (a, c) := ⟨_, _, rfl⟩
      rw [hap] at HB5 HS ⊢
      simp only [] at HB5 HS ⊢
      have hkw : wrap64 ((k : Int) + 1) = (k : Int) + 1 := wrap_of (by have := HL.out; have := HLT.out; omega)
      have hcw : wrap64 (CK + 1) = CK + 1 := wrap_of (by have := HCB.out; omega)
      clear hb hf hm hap HB4 HF4
      by_cases h0 : E' = 0
      · have e0 := beq_yes h0
        rw [if_pos h0] at HS
        clear h0
        go_wp2_with fail
        first | rw [hkw] | skip
        first | rw [hcw] | skip
        exact ⟨⟨k + 1, _, HLT.out, by go_num, by rw [HS.out], by rw [HS.out]; exact HB5, HM5, HF5⟩, by have := HLT.out; simp [intOf]; omega⟩
      · have e0 := beq_no h0
        rw [if_neg h0] at HS
        clear h0
        go_wp2_with fail
        first | rw [hkw] | skip
        exact ⟨⟨k + 1, _, HLT.out, by go_num, by rw [HS.out, Int.add_zero], by rw [HS.out]; exact HB5, HM5, HF5⟩, by have := HLT.out; simp [intOf]; omega⟩
    · as_aux_lemma =>
      obtain rfl : k = l.length := by omega
      have hb := HB.out
      rw [List.take_length] at hb ⊢
      have HBL := hid hb
      clear hb
      go_wp2_with fail
      go_ret2
      exact ⟨b, p', rfl, HBL.out, HM.out, HF.out⟩
end Go.Proofs.YtmacpdddimcmgaaGreatDoor
namespace Go.Proofs.YtmacpdddimcmgaaGreatDoor
set_option linter.unusedVariables false
set_option linter.unusedSimpArgs false
set_option maxRecDepth 20000
open Go.RowKit
def seqB (a b : Sp) : Bool := decide (a = b)
end Go.Proofs.YtmacpdddimcmgaaGreatDoor
namespace Go.Proofs.YtmacpdddimcmgaaGreatDoor
set_option linter.unusedVariables false
set_option linter.unusedSimpArgs false
set_option maxRecDepth 20000
open Go.RowKit
abbrev nilP : Value := .pointer none
theorem digest_nil (n : Int) (w : World) : Calls Tryz.prog 17 #[nilP, .int .i64 n] w fun x w' => x = .returned (.tuple #[.string ⟨#[]⟩, .bool false]) ∧ Frm M0 w w' := by
  go_enter Tryz.func17, Tryz.ntmps17
  go_wp2_with fail
  go_ret2
  exact ⟨rfl, Frm.refl _ _⟩
theorem versions_nil (w : World) : Calls Tryz.prog 21 #[nilP] w fun x w' => x = .returned (.slice none 0 0) ∧ Frm M0 w w' := by
  go_enter Tryz.func21, Tryz.ntmps21
  go_wp2_with fail
  go_ret
  exact ⟨rfl, Frm.refl _ _⟩
theorem units_nil (w : World) : Calls Tryz.prog 20 #[nilP] w fun x w' => x = .returned (.slice none 0 0) ∧ Frm M0 w w' := by
  go_enter Tryz.func20, Tryz.ntmps20
  go_wp2_with fail
  go_ret
  exact ⟨rfl, Frm.refl _ _⟩
theorem history_nil (w : World) : Calls Tryz.prog 19 #[nilP] w fun x w' => x = .returned (.slice none 0 0) ∧ Frm M0 w w' := by
  go_enter Tryz.func19, Tryz.ntmps19
  go_wp2_with fail
  go_ret
  exact ⟨rfl, Frm.refl _ _⟩
theorem free_nil (n : Int) (w : World) : Calls Tryz.prog 23 #[nilP, .int .i64 n] w fun x w' => x = .returned (.bool false) ∧ Frm M0 w w' := by
  go_enter Tryz.func23, Tryz.ntmps23
  go_wp2_with fail
  go_ret
  exact ⟨rfl, Frm.refl _ _⟩
set_option maxRecDepth 20000 in
set_option maxHeartbeats 4000000 in
theorem check_nil (r : Rc) (w : World) : Calls Tryz.prog 22 #[nilP, r.val] w fun x w' => x = .returned (.int .i64 1) ∧ Frm M0 w w' := by
  have HV : Hid (r.val = .agg #[.int .i64 r.k, .int .i64 r.e, .int .i64 r.w, .int .i64 r.n, .int .i64 r.q, .string r.t, .int .i64 r.p.s0, .int .i64 r.p.s1, .int .i64 r.p.s2, .int .i64 r.p.s3, .int .i64 r.p.s4, .int .i64 r.p.s5, .int .i64 r.p.s6, .int .i64 r.p.s7, .int .i64 r.p.s8, .int .i64 r.p.s9, .int .i64 r.p.s10, .int .i64 r.p.s11]) := rfl
  rw [HV.out]
  go_enter Tryz.func22, Tryz.ntmps22
  go_wp2_with fail
  go_ret
  exact ⟨rfl, (Frm.refl M0 w).alloc _⟩
set_option maxRecDepth 20000 in
set_option maxHeartbeats 4000000 in
theorem apply_nil (r : Rc) (w : World) : Calls Tryz.prog 16 #[nilP, r.val] w fun x w' => x = .returned (.int .i64 1) ∧ Frm M0 w w' := by
  have HV : Hid (r.val = .agg #[.int .i64 r.k, .int .i64 r.e, .int .i64 r.w, .int .i64 r.n, .int .i64 r.q, .string r.t, .int .i64 r.p.s0, .int .i64 r.p.s1, .int .i64 r.p.s2, .int .i64 r.p.s3, .int .i64 r.p.s4, .int .i64 r.p.s5, .int .i64 r.p.s6, .int .i64 r.p.s7, .int .i64 r.p.s8, .int .i64 r.p.s9, .int .i64 r.p.s10, .int .i64 r.p.s11]) := rfl
  rw [HV.out]
  go_enter Tryz.func16, Tryz.ntmps16
  go_upto_region 1 with fail
  (obtain ⟨b3, hbb3⟩ : ∃ q, q = w.heap.size := ⟨_, rfl⟩); (obtain ⟨w1, hww1⟩ : ∃ q, q = w.alloc (.cells #[.int .i64 r.k, .int .i64 r.e, .int .i64 r.w, .int .i64 r.n, .int .i64 r.q, .string r.t, .int .i64 r.p.s0, .int .i64 r.p.s1, .int .i64 r.p.s2, .int .i64 r.p.s3, .int .i64 r.p.s4, .int .i64 r.p.s5, .int .i64 r.p.s6, .int .i64 r.p.s7, .int .i64 r.p.s8, .int .i64 r.p.s9, .int .i64 r.p.s10, .int .i64 r.p.s11] 37) := ⟨_, rfl⟩); have hn := new1 w (.cells #[.int .i64 r.k, .int .i64 r.e, .int .i64 r.w, .int .i64 r.n, .int .i64 r.q, .string r.t, .int .i64 r.p.s0, .int .i64 r.p.s1, .int .i64 r.p.s2, .int .i64 r.p.s3, .int .i64 r.p.s4, .int .i64 r.p.s5, .int .i64 r.p.s6, .int .i64 r.p.s7, .int .i64 r.p.s8, .int .i64 r.p.s9, .int .i64 r.p.s10, .int .i64 r.p.s11] 37); have hf := (Frm.refl M0 w).alloc (.cells #[.int .i64 r.k, .int .i64 r.e, .int .i64 r.w, .int .i64 r.n, .int .i64 r.q, .string r.t, .int .i64 r.p.s0, .int .i64 r.p.s1, .int .i64 r.p.s2, .int .i64 r.p.s3, .int .i64 r.p.s4, .int .i64 r.p.s5, .int .i64 r.p.s6, .int .i64 r.p.s7, .int .i64 r.p.s8, .int .i64 r.p.s9, .int .i64 r.p.s10, .int .i64 r.p.s11] 37); rw [← hww1] at hn hf ⊢; rw [← hbb3] at hn ⊢; clear hww1
  have HF1 := hid hf
  have H3 := hid hn
  clear hn hf hbb3
  go_wp2_with (refine wpList_load_row_w (by kernel_rfl) 37 (.tmp 3) (by with_reducible rfl) b3 (by kernel_rfl) _ _ _ _ H3.out Tryz.underlying37 rfl (by kernel_rfl) ?_)
  refine (HV.out ▸ check_nil r w1).mono ?_
  rintro _ w2 ⟨rfl, hf⟩
  have HF2 := hid (HF1.out.then0 hf)
  clear hf
  go_wp2_with fail
  go_ret
  exact ⟨rfl, HF2.out⟩
set_option maxRecDepth 20000 in
set_option maxHeartbeats 4000000 in
theorem view_nil (w : World) : Calls Tryz.prog 15 #[nilP] w fun x w' => x = .returned Vw.zero.val ∧ Frm M0 w w' := by
  have HV : Hid (Vw.zero.val = .agg #[.int .i64 0, .int .i64 0, .int .i64 0, .int .i64 0, .int .i64 0, .int .i64 0, .int .i64 0, .int .i64 0, .int .i64 0, .int .i64 0, .int .i64 0, .int .i64 0, .int .i64 0, .int .i64 0, .int .i64 0, .int .i64 0, .int .i64 0, .int .i64 0, .int .i64 0, .int .i64 0, .int .i64 0, .int .i64 0]) := rfl
  rw [HV.out]
  go_enter Tryz.func15, Tryz.ntmps15
  have HN := hid (new1 w (.cells #[.int .i64 0, .int .i64 0, .int .i64 0, .int .i64 0, .int .i64 0, .int .i64 0, .int .i64 0, .int .i64 0, .int .i64 0, .int .i64 0, .int .i64 0, .int .i64 0, .int .i64 0, .int .i64 0, .int .i64 0, .int .i64 0, .int .i64 0, .int .i64 0, .int .i64 0, .int .i64 0, .int .i64 0, .int .i64 0] 32))
  go_wp2_with (refine wpList_store_row rfl 32 (.tmp 2) (.tmp 5) (by with_reducible rfl) w.heap.size #[.int .i64 0, .int .i64 0, .int .i64 0, .int .i64 0, .int .i64 0, .int .i64 0, .int .i64 0, .int .i64 0, .int .i64 0, .int .i64 0, .int .i64 0, .int .i64 0, .int .i64 0, .int .i64 0, .int .i64 0, .int .i64 0, .int .i64 0, .int .i64 0, .int .i64 0, .int .i64 0, .int .i64 0, .int .i64 0] (by kernel_rfl) (by kernel_rfl) _ _ HN.out (by kernel_rfl) (by rfl) (by simp [Value.oneCell']) ?_)
  refine bodyPost_ret (results_cell1 (by rfl) _ w.heap.size _ _ _ _ rfl (setRow_heap _ _ _ _ _ _ HN.out) Tryz.underlying32 rfl (by kernel_rfl)) rfl ?_
  exact ⟨rfl, ((Frm.refl M0 w).alloc _).setRow _ _ (Nat.le_refl _)⟩
def veq (a b : Vw) : Bool := decide (a = b)
set_option maxHeartbeats 2000000 in
set_option maxRecDepth 20000 in
theorem eq_vw (w : World) (x0 x1 x2 x3 x4 x5 x6 x7 x8 x9 a0 a1 a2 a3 a4 a5 a6 a7 a8 a9 a10 a11 y0 y1 y2 y3 y4 y5 y6 y7 y8 y9 b0 b1 b2 b3 b4 b5 b6 b7 b8 b9 b10 b11 : Int) :
    (Op.equalIn (9996 + 1 + 1 + 1 + 1) 32 (.agg #[.int .i64 x0, .int .i64 x1, .int .i64 x2, .int .i64 x3, .int .i64 x4, .int .i64 x5, .int .i64 x6, .int .i64 x7, .int .i64 x8, .int .i64 x9, .int .i64 a0, .int .i64 a1, .int .i64 a2, .int .i64 a3, .int .i64 a4, .int .i64 a5, .int .i64 a6, .int .i64 a7, .int .i64 a8, .int .i64 a9, .int .i64 a10, .int .i64 a11]) (.agg #[.int .i64 y0, .int .i64 y1, .int .i64 y2, .int .i64 y3, .int .i64 y4, .int .i64 y5, .int .i64 y6, .int .i64 y7, .int .i64 y8, .int .i64 y9, .int .i64 b0, .int .i64 b1, .int .i64 b2, .int .i64 b3, .int .i64 b4, .int .i64 b5, .int .i64 b6, .int .i64 b7, .int .i64 b8, .int .i64 b9, .int .i64 b10, .int .i64 b11])).run Tryz.prog w = .ok (veq (Vw.mk x0 x1 x2 x3 x4 x5 x6 x7 x8 x9 (Sp.mk a0 a1 a2 a3 a4 a5 a6 a7 a8 a9 a10 a11)) (Vw.mk y0 y1 y2 y3 y4 y5 y6 y7 y8 y9 (Sp.mk b0 b1 b2 b3 b4 b5 b6 b7 b8 b9 b10 b11))) w := by
  rw [run_equalIn_struct w (9996 + 1 + 1 + 1) _ _ _ Tryz.underlying32 (by kernel_rfl)]
  have he : ∀ x y : Int, (Op.equalIn (9996 + 1 + 1 + 1) 3 (.int .i64 x) (.int .i64 y)).run Tryz.prog w = .ok (x == y) w := fun x y => run_equalIn_int w (9996 + 1 + 1) _ _ _ x y Tryz.underlying3
  refine Eq.trans (eqFields_cons (by decide) (part_int w _ _ x0 rfl) (part_int w _ _ y0 rfl) (he _ _) (eqFields_cons (by decide) (part_int w _ _ x1 rfl) (part_int w _ _ y1 rfl) (he _ _) (eqFields_cons (by decide) (part_int w _ _ x2 rfl) (part_int w _ _ y2 rfl) (he _ _) (eqFields_cons (by decide) (part_int w _ _ x3 rfl) (part_int w _ _ y3 rfl) (he _ _) (eqFields_cons (by decide) (part_int w _ _ x4 rfl) (part_int w _ _ y4 rfl) (he _ _) (eqFields_cons (by decide) (part_int w _ _ x5 rfl) (part_int w _ _ y5 rfl) (he _ _) (eqFields_cons (by decide) (part_int w _ _ x6 rfl) (part_int w _ _ y6 rfl) (he _ _) (eqFields_cons (by decide) (part_int w _ _ x7 rfl) (part_int w _ _ y7 rfl) (he _ _) (eqFields_cons (by decide) (part_int w _ _ x8 rfl) (part_int w _ _ y8 rfl) (he _ _) (eqFields_cons (by decide) (part_int w _ _ x9 rfl) (part_int w _ _ y9 rfl) (he _ _) (eqFields_cons (by decide) (part_spec w _ 10) (part_spec w _ 10) (eq_sp w 9996 a0 a1 a2 a3 a4 a5 a6 a7 a8 a9 a10 a11 b0 b1 b2 b3 b4 b5 b6 b7 b8 b9 b10 b11) rfl))))))))))) ?_
  congr 1
  unfold veq
  rw [Bool.eq_iff_iff]
  simp only [Bool.and_eq_true, beq_iff_eq, decide_eq_true_eq, Vw.mk.injEq, and_true]
theorem eql_vw (w : World) (x0 x1 x2 x3 x4 x5 x6 x7 x8 x9 a0 a1 a2 a3 a4 a5 a6 a7 a8 a9 a10 a11 y0 y1 y2 y3 y4 y5 y6 y7 y8 y9 b0 b1 b2 b3 b4 b5 b6 b7 b8 b9 b10 b11 : Int) :
    (binOp .eql 32 (.agg #[.int .i64 x0, .int .i64 x1, .int .i64 x2, .int .i64 x3, .int .i64 x4, .int .i64 x5, .int .i64 x6, .int .i64 x7, .int .i64 x8, .int .i64 x9, .int .i64 a0, .int .i64 a1, .int .i64 a2, .int .i64 a3, .int .i64 a4, .int .i64 a5, .int .i64 a6, .int .i64 a7, .int .i64 a8, .int .i64 a9, .int .i64 a10, .int .i64 a11]) (.agg #[.int .i64 y0, .int .i64 y1, .int .i64 y2, .int .i64 y3, .int .i64 y4, .int .i64 y5, .int .i64 y6, .int .i64 y7, .int .i64 y8, .int .i64 y9, .int .i64 b0, .int .i64 b1, .int .i64 b2, .int .i64 b3, .int .i64 b4, .int .i64 b5, .int .i64 b6, .int .i64 b7, .int .i64 b8, .int .i64 b9, .int .i64 b10, .int .i64 b11])).run Tryz.prog w = .ok (.bool (veq (Vw.mk x0 x1 x2 x3 x4 x5 x6 x7 x8 x9 (Sp.mk a0 a1 a2 a3 a4 a5 a6 a7 a8 a9 a10 a11)) (Vw.mk y0 y1 y2 y3 y4 y5 y6 y7 y8 y9 (Sp.mk b0 b1 b2 b3 b4 b5 b6 b7 b8 b9 b10 b11)))) w := by
  rw [run_eql_struct, show (10000 : Nat) = 9996 + 1 + 1 + 1 + 1 from rfl, eq_vw]; rfl
set_option maxRecDepth 20000 in
theorem field_vw3 (w : World) (x0 x1 x2 x3 x4 x5 x6 x7 x8 x9 y0 y1 y2 y3 y4 y5 y6 y7 y8 y9 y10 y11 : Int) : (Instr.field 32 (.agg #[.int .i64 x0, .int .i64 x1, .int .i64 x2, .int .i64 x3, .int .i64 x4, .int .i64 x5, .int .i64 x6, .int .i64 x7, .int .i64 x8, .int .i64 x9, .int .i64 y0, .int .i64 y1, .int .i64 y2, .int .i64 y3, .int .i64 y4, .int .i64 y5, .int .i64 y6, .int .i64 y7, .int .i64 y8, .int .i64 y9, .int .i64 y10, .int .i64 y11]) 3).run Tryz.prog w = .ok (.int .i64 x3) w := by
  have h := part_int w #[.int .i64 x0, .int .i64 x1, .int .i64 x2, .int .i64 x3, .int .i64 x4, .int .i64 x5, .int .i64 x6, .int .i64 x7, .int .i64 x8, .int .i64 x9, .int .i64 y0, .int .i64 y1, .int .i64 y2, .int .i64 y3, .int .i64 y4, .int .i64 y5, .int .i64 y6, .int .i64 y7, .int .i64 y8, .int .i64 y9, .int .i64 y10, .int .i64 y11] 3 x3 rfl
  simp [Instr.field, run_underlying Tryz.underlying32, asAgg, h, Result.andThen]
set_option maxRecDepth 20000 in
theorem field_vw5 (w : World) (x0 x1 x2 x3 x4 x5 x6 x7 x8 x9 y0 y1 y2 y3 y4 y5 y6 y7 y8 y9 y10 y11 : Int) : (Instr.field 32 (.agg #[.int .i64 x0, .int .i64 x1, .int .i64 x2, .int .i64 x3, .int .i64 x4, .int .i64 x5, .int .i64 x6, .int .i64 x7, .int .i64 x8, .int .i64 x9, .int .i64 y0, .int .i64 y1, .int .i64 y2, .int .i64 y3, .int .i64 y4, .int .i64 y5, .int .i64 y6, .int .i64 y7, .int .i64 y8, .int .i64 y9, .int .i64 y10, .int .i64 y11]) 5).run Tryz.prog w = .ok (.int .i64 x5) w := by
  have h := part_int w #[.int .i64 x0, .int .i64 x1, .int .i64 x2, .int .i64 x3, .int .i64 x4, .int .i64 x5, .int .i64 x6, .int .i64 x7, .int .i64 x8, .int .i64 x9, .int .i64 y0, .int .i64 y1, .int .i64 y2, .int .i64 y3, .int .i64 y4, .int .i64 y5, .int .i64 y6, .int .i64 y7, .int .i64 y8, .int .i64 y9, .int .i64 y10, .int .i64 y11] 5 x5 rfl
  simp [Instr.field, run_underlying Tryz.underlying32, asAgg, h, Result.andThen]
set_option maxRecDepth 20000 in
set_option maxHeartbeats 4000000 in
theorem some_calls (w : World) : Calls Tryz.prog 30 #[.int .i64 1] w fun x w' => x = .returned lifeSp.val ∧ Frm M0 w w' := by
  go_enter Tryz.func30, Tryz.ntmps30
  go_wp2_with fail
  refine bodyPost_ret (results_cell1 (by rfl) _ w.heap.size _ _ _ _ rfl (new1 w _) Tryz.underlying30 rfl (by kernel_rfl)) rfl ?_
  exact ⟨rfl, (Frm.refl M0 w).alloc _⟩
theorem rd_recs (w : World) (cs : Array Value) (l : List Rc) (n : Nat) (hn : l.length = n) (hl : n ≤ 1000000) (h : cs.toList = l.flatMap Rc.cells) : Rd (w.alloc (.cells cs 37)) 18 (.slice (some ⟨w.heap.size, 0, none⟩) n n) l.length (l.flatMap Rc.cells) := by
  subst hn
  refine ⟨els_len rcc_len _, .inr ⟨⟨w.heap.size, 0, none⟩, l.length, rfl, Nat.le_refl _, by unfold maxLen; omega, fun j u hu => ?_⟩⟩
  rw [add_none, World.cell?_alloc_at _ _ _ _ rfl, Nat.zero_add, ← Array.getElem?_toList, h]
  exact hu
theorem cut2 : cutF 2 = 2 := by unfold cutF; omega
set_option maxRecDepth 20000 in
set_option maxHeartbeats 4000000 in
theorem blives_calls (w : World) (hT : Tab w) : Calls Tryz.prog 11 #[] w fun x w' => x = .returned (.bool true) ∧ Frm M0 w w' := by
  have HT := hid hT
  have HSV : Hid (lifeSp.val = .agg #[.int .i64 1, .int .i64 1, .int .i64 1, .int .i64 0, .int .i64 1, .int .i64 0, .int .i64 0, .int .i64 0, .int .i64 0, .int .i64 1, .int .i64 0, .int .i64 9]) := rfl
  obtain ⟨BB, CC, hbc⟩ : ∃ a c, (Bk.new 2).all lifeL = (a, c) := ⟨_, _, rfl⟩
  have hla := life_all
  have hinv := Bk.inv_all lifeL _ (Bk.inv_new 2)
  rw [hbc] at hla hinv
  have HLA := hid hla
  have HIN := hid hinv
  have HBC := hid hbc
  clear hT hla hinv hbc
  go_enter Tryz.func11, Tryz.ntmps11
  go_wp2_with fail
  refine (some_calls _).mono ?_
  rintro _ w1 ⟨rfl, hf⟩
  rw [HSV.out]
  have HF1 := hid hf
  clear hf
  go_wp2_with fail
  refine (ball_calls _ lifeL 2 _ (HT.out.frm (HF1.out.alloc _)) (rd_recs w1 _ lifeL 4 rfl (by decide) (by kernel_rfl)) (by decide)).mono ?_
  rw [cut2, HBC.out]
  rintro _ w2 ⟨b, p, rfl, hb, -, hf⟩
  have HB2 := hid hb
  have HF2 : Hid (Frm M0 w w2) := hid ((HF1.out.alloc _).then0 hf)
  have hcc : CC = 4 := HLA.out.1
  subst hcc
  clear hb hf HF1
  go_wp2_with fail
  refine (view_calls b p BB w2 HB2.out).mono ?_
  rintro _ w3 ⟨rfl, hf⟩
  have HV : Hid (BB.w.val = .agg #[.int .i64 BB.w.epoch, .int .i64 BB.w.leader, .int .i64 BB.w.until', .int .i64 BB.w.stable, .int .i64 BB.w.from', .int .i64 BB.w.phase, .int .i64 BB.w.step, .int .i64 BB.w.since, .int .i64 BB.w.begun, .int .i64 BB.w.seq, .int .i64 BB.w.spec.s0, .int .i64 BB.w.spec.s1, .int .i64 BB.w.spec.s2, .int .i64 BB.w.spec.s3, .int .i64 BB.w.spec.s4, .int .i64 BB.w.spec.s5, .int .i64 BB.w.spec.s6, .int .i64 BB.w.spec.s7, .int .i64 BB.w.spec.s8, .int .i64 BB.w.spec.s9, .int .i64 BB.w.spec.s10, .int .i64 BB.w.spec.s11]) := rfl
  rw [HV.out]
  have HB3 := hid (HB2.out.frm0 hf)
  have HF3 := hid (HF2.out.then0 hf)
  have hfl := field_vw3 w3 BB.w.epoch BB.w.leader BB.w.until' BB.w.stable BB.w.from' BB.w.phase BB.w.step BB.w.since BB.w.begun BB.w.seq BB.w.spec.s0 BB.w.spec.s1 BB.w.spec.s2 BB.w.spec.s3 BB.w.spec.s4 BB.w.spec.s5 BB.w.spec.s6 BB.w.spec.s7 BB.w.spec.s8 BB.w.spec.s9 BB.w.spec.s10 BB.w.spec.s11
  have e1 := beq_yes HLA.out.2.1
  clear hf HB2 HF2
  go_wp2_with fail
  clear hfl
  refine (view_calls b p BB w3 HB3.out).mono ?_
  rintro _ w4 ⟨rfl, hf⟩
  rw [HV.out]
  have HB4 := hid (HB3.out.frm0 hf)
  have HF4 := hid (HF3.out.then0 hf)
  have hfl := field_vw5 w4 BB.w.epoch BB.w.leader BB.w.until' BB.w.stable BB.w.from' BB.w.phase BB.w.step BB.w.since BB.w.begun BB.w.seq BB.w.spec.s0 BB.w.spec.s1 BB.w.spec.s2 BB.w.spec.s3 BB.w.spec.s4 BB.w.spec.s5 BB.w.spec.s6 BB.w.spec.s7 BB.w.spec.s8 BB.w.spec.s9 BB.w.spec.s10 BB.w.spec.s11
  have e2 := beq_yes HLA.out.2.2.1
  clear hf HB3 HF3
  go_wp2_with fail
  clear hfl
  refine (history_calls b p BB w4 HB4.out HIN.out.hi).mono ?_
  rintro _ w5 ⟨v, rfl, ho, hf⟩
  have HB5 := hid (HB4.out.frm0 hf)
  have HF5 := hid (HF4.out.then0 hf)
  obtain ⟨a, m, c, rfl, hm⟩ := (Rd.ofOwns ho).shapeL
  have hm2 : m = 2 := by rw [hm.out.1]; exact HLA.out.2.2.2.1
  subst hm2
  clear hf ho hm HB4 HF4
  go_wp2_with fail
  refine (units_calls b p BB w5 HB5.out).mono ?_
  rintro _ w6 ⟨v, rfl, ho, hf⟩
  have HF6 := hid (HF5.out.then0 hf)
  obtain ⟨a, m, c, rfl, hm⟩ := (Rd.ofOwns ho).shapeL
  have hm2 : m = 16 := hm.out.1
  subst hm2
  clear hf ho hm HB5 HF5
  go_wp2_with fail
  go_ret
  exact ⟨rfl, HF6.out⟩
end Go.Proofs.YtmacpdddimcmgaaGreatDoor
namespace Go.Proofs.YtmacpdddimcmgaaGreatDoor
set_option linter.unusedVariables false
set_option linter.unusedSimpArgs false
set_option maxRecDepth 20000
open Go.RowKit
set_option maxRecDepth 20000 in
set_option maxHeartbeats 8000000 in
attribute [-go_sem] run_eql_struct in
attribute [local go_sem] eql_vw in
theorem bookNil_walk (W : World) (hg : Glob W) (r : Rc) (hok : r.ok) (n : Int) (hn : (Lit.int .i64 n).wf = true) :
    Calls Tryz.prog 8 #[r.val, .int .i64 n] W fun y w' => y = .returned (.bool true) ∧ Below W.heap.size W w' := by
  have HG := hid hg
  have HV : Hid (r.val = .agg #[.int .i64 r.k, .int .i64 r.e, .int .i64 r.w, .int .i64 r.n, .int .i64 r.q, .string r.t, .int .i64 r.p.s0, .int .i64 r.p.s1, .int .i64 r.p.s2, .int .i64 r.p.s3, .int .i64 r.p.s4, .int .i64 r.p.s5, .int .i64 r.p.s6, .int .i64 r.p.s7, .int .i64 r.p.s8, .int .i64 r.p.s9, .int .i64 r.p.s10, .int .i64 r.p.s11]) := rfl
  rw [HV.out]
  clear hg hok hn
  go_enter Tryz.func8, Tryz.ntmps8
  go_upto_region 1 with fail
  (obtain ⟨b2, hbb2⟩ : ∃ q, q = W.heap.size := ⟨_, rfl⟩); (obtain ⟨w1, hww1⟩ : ∃ q, q = W.alloc (.cells #[.int .i64 r.k, .int .i64 r.e, .int .i64 r.w, .int .i64 r.n, .int .i64 r.q, .string r.t, .int .i64 r.p.s0, .int .i64 r.p.s1, .int .i64 r.p.s2, .int .i64 r.p.s3, .int .i64 r.p.s4, .int .i64 r.p.s5, .int .i64 r.p.s6, .int .i64 r.p.s7, .int .i64 r.p.s8, .int .i64 r.p.s9, .int .i64 r.p.s10, .int .i64 r.p.s11] 37) := ⟨_, rfl⟩); have hn := new1 W (.cells #[.int .i64 r.k, .int .i64 r.e, .int .i64 r.w, .int .i64 r.n, .int .i64 r.q, .string r.t, .int .i64 r.p.s0, .int .i64 r.p.s1, .int .i64 r.p.s2, .int .i64 r.p.s3, .int .i64 r.p.s4, .int .i64 r.p.s5, .int .i64 r.p.s6, .int .i64 r.p.s7, .int .i64 r.p.s8, .int .i64 r.p.s9, .int .i64 r.p.s10, .int .i64 r.p.s11] 37); have hf := (Frm.refl M0 W).alloc (.cells #[.int .i64 r.k, .int .i64 r.e, .int .i64 r.w, .int .i64 r.n, .int .i64 r.q, .string r.t, .int .i64 r.p.s0, .int .i64 r.p.s1, .int .i64 r.p.s2, .int .i64 r.p.s3, .int .i64 r.p.s4, .int .i64 r.p.s5, .int .i64 r.p.s6, .int .i64 r.p.s7, .int .i64 r.p.s8, .int .i64 r.p.s9, .int .i64 r.p.s10, .int .i64 r.p.s11] 37); rw [← hww1] at hn hf ⊢; rw [← hbb2] at hn ⊢; clear hww1
  have HF1 := hid hf
  have H2 := hid hn
  clear hn hf hbb2
  go_wp2_with fail
  refine (blives_calls w1 (HG.out.tab.frm HF1.out)).mono ?_
  rintro _ w2 ⟨rfl, hf⟩
  have HF2 := hid (HF1.out.then0 hf)
  have H22 := hid (hf.heap H2.out (fun h => h))
  clear hf HF1 H2
  go_wp2_with fail
  refine (digest_nil n w2).mono ?_
  rintro _ w3 ⟨rfl, hf⟩
  have HF3 := hid (HF2.out.then0 hf)
  have H23 := hid (hf.heap H22.out (fun h => h))
  clear hf HF2 H22
  go_wp2_with (refine wpList_load_row_w (by kernel_rfl) 37 (.tmp 2) (by with_reducible rfl) b2 (by kernel_rfl) _ _ _ _ H23.out Tryz.underlying37 rfl (by kernel_rfl) ?_)
  refine (HV.out ▸ check_nil r w3).mono ?_
  rintro _ w4 ⟨rfl, hf⟩
  have HF4 := hid (HF3.out.then0 hf)
  have H24 := hid (hf.heap H23.out (fun h => h))
  clear hf HF3 H23
  go_wp2_with (refine wpList_load_row_w (by kernel_rfl) 37 (.tmp 2) (by with_reducible rfl) b2 (by kernel_rfl) _ _ _ _ H24.out Tryz.underlying37 rfl (by kernel_rfl) ?_)
  refine (HV.out ▸ apply_nil r w4).mono ?_
  rintro _ w5 ⟨rfl, hf⟩
  have HF5 := hid (HF4.out.then0 hf)
  clear hf HF4 H24
  go_wp2_with fail
  refine (view_nil w5).mono ?_
  rintro _ w6 ⟨rfl, hf⟩
  have HZ : Hid (Vw.zero.val = .agg #[.int .i64 0, .int .i64 0, .int .i64 0, .int .i64 0, .int .i64 0, .int .i64 0, .int .i64 0, .int .i64 0, .int .i64 0, .int .i64 0, .int .i64 0, .int .i64 0, .int .i64 0, .int .i64 0, .int .i64 0, .int .i64 0, .int .i64 0, .int .i64 0, .int .i64 0, .int .i64 0, .int .i64 0, .int .i64 0]) := rfl
  rw [HZ.out]
  have HF6 := hid (HF5.out.then0 hf)
  have hv : veq (Vw.mk 0 0 0 0 0 0 0 0 0 0 (Sp.mk 0 0 0 0 0 0 0 0 0 0 0 0)) (Vw.mk 0 0 0 0 0 0 0 0 0 0 (Sp.mk 0 0 0 0 0 0 0 0 0 0 0 0)) = true := by decide
  clear hf HF5
  go_wp2_with fail
  refine (units_nil w6).mono ?_
  rintro _ w7 ⟨rfl, hf⟩
  have HF7 := hid (HF6.out.then0 hf)
  clear hf HF6
  go_wp2_with fail
  refine (versions_nil w7).mono ?_
  rintro _ w8 ⟨rfl, hf⟩
  have HF8 := hid (HF7.out.then0 hf)
  clear hf HF7
  go_wp2_with fail
  refine (history_nil w8).mono ?_
  rintro _ w9 ⟨rfl, hf⟩
  have HF9 := hid (HF8.out.then0 hf)
  clear hf HF8
  go_wp2_with fail
  refine (free_nil n w9).mono ?_
  rintro _ wa ⟨rfl, hf⟩
  have HFa := hid (HF9.out.then0 hf)
  clear hf HF9
  go_wp2_with fail
  go_ret
  exact ⟨rfl, HFa.out.below⟩
end Go.Proofs.YtmacpdddimcmgaaGreatDoor
