/- What a book tells: Digest, View, Units, History, Free. Why a book refuses a record: lead, publish, begin. Why a book refuses a record: move, intent, ack, step. Why a book refuses a record: ack, step. What book.checks holds. -/
import Derived.Test.YtmacpdddimcmgaaGreatDoorBzb
import Derived.Lib.SliceRun
namespace Go.Proofs.YtmacpdddimcmgaaGreatDoor
set_option linter.unusedVariables false
set_option linter.unusedSimpArgs false
set_option maxRecDepth 20000
open Go.RowKit
def Vw.val (W : Vw) : Value := .agg #[.int .i64 W.epoch, .int .i64 W.leader, .int .i64 W.until', .int .i64 W.stable, .int .i64 W.from', .int .i64 W.phase, .int .i64 W.step, .int .i64 W.since, .int .i64 W.begun, .int .i64 W.seq, .int .i64 W.spec.s0, .int .i64 W.spec.s1, .int .i64 W.spec.s2, .int .i64 W.spec.s3, .int .i64 W.spec.s4, .int .i64 W.spec.s5, .int .i64 W.spec.s6, .int .i64 W.spec.s7, .int .i64 W.spec.s8, .int .i64 W.spec.s9, .int .i64 W.spec.s10, .int .i64 W.spec.s11]
theorem infoU : (Tryz.prog.info? 46).map (fun i => (i.zero, i.size, i.bytes)) = some (some (.agg #[.int .i64 0, .int .i64 0, .bool false]), 3, 24) := by kernel_rfl
theorem infoR : (Tryz.prog.info? 37).map (fun i => (i.zero, i.size, i.bytes)) = some (some (.agg #[.int .i64 0, .int .i64 0, .int .i64 0, .int .i64 0, .int .i64 0, .string ⟨#[]⟩, .int .i64 0, .int .i64 0, .int .i64 0, .int .i64 0, .int .i64 0, .int .i64 0, .int .i64 0, .int .i64 0, .int .i64 0, .int .i64 0, .int .i64 0, .int .i64 0]), 18, 152) := by kernel_rfl
theorem eqNilU (w : World) (a : Option Addr) (n c n' c' : Nat) : (binOp .eql 43 (.slice a n c) (.slice none n' c')).run Tryz.prog w = .ok (.bool a.isNone) w := Lib.run_eql_slice_nil w _ 46 a n c n' c' Tryz.underlying43
theorem eqNilR (w : World) (a : Option Addr) (n c n' c' : Nat) : (binOp .eql 22 (.slice a n c) (.slice none n' c')).run Tryz.prog w = .ok (.bool a.isNone) w := Lib.run_eql_slice_nil w _ 37 a n c n' c' Tryz.underlying22
set_option maxRecDepth 20000 in
set_option maxHeartbeats 4000000 in
attribute [local go_sem] eqNilU in
theorem uclone_calls (b o c : Nat) (us : List Un) (w : World) (h : Rd w 3 (.slice (some ⟨b, o, none⟩) us.length c) us.length (us.flatMap Un.cells)) (hl : us.length ≤ 1000000) :
    Calls Tryz.prog 41 #[.slice (some ⟨b, o, none⟩) us.length c] w fun x w' => ∃ v, x = .returned v ∧ w'.ownsRow w.heap.size 46 3 v us.length (us.flatMap Un.cells) ∧ Frm M0 w w' := by
  have HR := hid h
  have HL := hid hl
  clear h hl
  go_enter Tryz.func41, Tryz.ntmps41
  have HO := hid (World.ownsRow_lit w (base := w.heap.size) (e := 46) (size := 3) #[] 0 (Nat.le_refl _) (by decide) rfl)
  have HR2 := hid (HR.out.frm0 ((Frm.refl M0 w).alloc (.cells #[] 46)))
  go_wp2_with (at_builtin; refine wpList_push_els un_len un_one rfl _ _ 43 rfl w.heap.size 46 _ 24 Tryz.underlying43 infoU rfl (by decide) _ [] rfl HO.out _ us rfl HR2.out (by have := HL.out; simp; omega) (by have := HL.out; simp; omega) (by simp) ?_; intro v3 w3 ho3 hg3; have HO3 := hid ho3; have HG3 := hid hg3; clear ho3 hg3)
  go_ret
  refine ⟨v3, rfl, ?_, ?_⟩
  · have := HO3.out
    rw [List.nil_append] at this
    exact this
  · exact ((Frm.refl M0 w).alloc _).grown HG3.out (fun k hk hlt => by have := Option.some.inj hk; simp at this; omega)
set_option maxRecDepth 20000 in
set_option maxHeartbeats 4000000 in
attribute [local go_sem] eqNilR in
theorem rclone_calls (v : Value) (l : List Rc) (w : World) (h : Rd w 18 v l.length (l.flatMap Rc.cells)) (hl : l.length ≤ 1000000) :
    Calls Tryz.prog 40 #[v] w fun x w' => ∃ v, x = .returned v ∧ w'.ownsRow w.heap.size 37 18 v l.length (l.flatMap Rc.cells) ∧ Frm M0 w w' := by
  have HL := hid hl
  obtain ⟨x, m, c, rfl, HM⟩ := h.shapeL
  cases x with
  | none =>
    have h0 : l.length = 0 := by
      rcases h.2 with ⟨_, h0⟩ | ⟨y, cap, hv, _⟩
      · exact h0
      · cases hv
    have e : l = [] := List.eq_nil_of_length_eq_zero h0
    subst e
    clear h hl h0 HM HL
    go_enter Tryz.func40, Tryz.ntmps40
    go_wp2_with fail
    go_ret
    exact ⟨_, rfl, World.ownsRow_nil _ _ _ _, Frm.refl _ _⟩
  | some y =>
    have HR := hid h
    clear h hl HM
    go_enter Tryz.func40, Tryz.ntmps40
    have HO := hid (World.ownsRow_lit w (base := w.heap.size) (e := 37) (size := 18) #[] 0 (Nat.le_refl _) (by decide) rfl)
    have HR2 := hid (HR.out.frm0 ((Frm.refl M0 w).alloc (.cells #[] 37)))
    go_wp2_with (at_builtin; refine wpList_push_els rcc_len rcc_one rfl _ _ 22 rfl w.heap.size 37 _ 152 Tryz.underlying22 infoR rfl (by decide) _ [] rfl HO.out _ l rfl HR2.out (by have := HL.out; simp; omega) (by have := HL.out; simp; omega) (by simp) ?_; intro v3 w3 ho3 hg3; have HO3 := hid ho3; have HG3 := hid hg3; clear ho3 hg3)
    go_ret
    refine ⟨v3, rfl, ?_, ?_⟩
    · have := HO3.out
      rw [List.nil_append] at this
      exact this
    · exact ((Frm.refl M0 w).alloc _).grown HG3.out (fun k hk hlt => by have := Option.some.inj hk; simp at this; omega)
abbrev bp (b : Nat) : Value := .pointer (some ⟨b, 0, none⟩)
set_option maxRecDepth 20000 in
set_option maxHeartbeats 4000000 in
theorem digest_calls (b : Nat) (p : BkP) (B : Bk) (n : Int) (w : World) (h : BkAt w b p B) (hT : Tab w) (hn : i64R n) (hr : vsOk B.vs) :
    Calls Tryz.prog 17 #[bp b, .int .i64 n] w fun x w' => x = .returned (.tuple #[.string (kvE 0 B.vs n).1, .bool (B.digest n).isSome]) ∧ Frm M0 w w' := by
  have HB := hid h
  have HT := hid hT
  have HN := hid (And.intro hn hr)
  have hk := kvE_is hn B.vs hr
  obtain ⟨T, hTT⟩ : ∃ q, (kvE 0 B.vs n).1 = q := ⟨_, rfl⟩
  obtain ⟨R, hR⟩ : ∃ q, (kvE 0 B.vs n).2 = q := ⟨_, rfl⟩
  obtain ⟨D, hD⟩ : ∃ q, (B.digest n).isSome = q := ⟨_, rfl⟩
  have hk2 : decide (0 < R) = D := by rw [← hD, ← hR]; exact hk
  have HK := hid (And.intro hTT (And.intro hR hk2))
  rw [hTT, hD]
  clear h hT hn hr hk hTT hR hD hk2
  go_enter Tryz.func17, Tryz.ntmps17
  go_upto_region 3 with fail
  apply wp_region_G 11 (fun _ => none) (valsL (_ :: _ :: _ :: _ :: _ :: _ :: _ :: _ :: _ :: _ :: _ :: [])) ?hm1 ?hB1 ?hal1 ?main1
  case hm1 => kernel_rfl
  case hB1 => kernel_rfl
  case hal1 =>
    intro i o obj ho hi
    cases hi
  rotate_left 11
  intro ops QT HO HQ
  obtain ⟨ho0, HO⟩ := HO
  refine wpG_v ho0.out rfl ?_ ?_
  · simp only [valsL_zero, valsL_succ]; apply FY_in rfl; intro wx hx
    go_simp
    exact ⟨rfl, rfl⟩
  simp only [Act.put, List.setIfInBounds_toArray, List.set_cons_zero, List.set_cons_succ, valsL_zero, valsL_succ]
  obtain ⟨ho1, HO⟩ := HO
  refine wpG_v ho1.out rfl ?_ ?_
  · simp only [valsL_zero, valsL_succ]; apply FY_in rfl; intro wx hx
    go_simp
    exact ⟨rfl, rfl⟩
  simp only [Act.put, List.setIfInBounds_toArray, List.set_cons_zero, List.set_cons_succ, valsL_zero, valsL_succ]
  obtain ⟨ho2, HO⟩ := HO
  refine wpG_v ho2.out rfl ?_ ?_
  · simp only [valsL_zero, valsL_succ]; apply FY_in rfl; intro wx hx
    go_simp
    exact ⟨rfl, rfl⟩
  simp only [Act.put, List.setIfInBounds_toArray, List.set_cons_zero, List.set_cons_succ, valsL_zero, valsL_succ]
  obtain ⟨ho3, HO⟩ := HO
  refine wpG_v ho3.out rfl ?_ ?_
  · simp only [valsL_zero, valsL_succ]; apply FY_in rfl; intro wx hx
    have hc := (HB.out.frm0 hx).c1
    go_simp
    exact ⟨rfl, rfl⟩
  simp only [Act.put, List.setIfInBounds_toArray, List.set_cons_zero, List.set_cons_succ, valsL_zero, valsL_succ]
  obtain ⟨ho4, HO⟩ := HO
  refine wpG_v ho4.out rfl ?_ ?_
  · simp only [valsL_zero, valsL_succ]; apply FY_in rfl; intro wx hx
    go_simp
    exact ⟨rfl, rfl⟩
  simp only [Act.put, List.setIfInBounds_toArray, List.set_cons_zero, List.set_cons_succ, valsL_zero, valsL_succ]
  obtain ⟨ho5, HO⟩ := HO
  refine wpG_v ho5.out rfl ?_ ?_
  · simp only [valsL_zero, valsL_succ]; apply FY_in rfl; intro wx hx
    go_simp
    exact ⟨rfl, (itoa_calls _ _ HN.out.1.1 HN.out.1.2 (HT.out.frm hx)).mono (fun e w' h => ⟨h.1, h.2⟩)⟩
  simp only [Act.put, List.setIfInBounds_toArray, List.set_cons_zero, List.set_cons_succ, valsL_zero, valsL_succ]
  obtain ⟨ho6, HO⟩ := HO
  refine wpG_v ho6.out rfl ?_ ?_
  · simp only [valsL_zero, valsL_succ]; apply FY_in rfl; intro wx hx
    go_simp
    exact ⟨rfl, (kget_calls p.sb p.SB B.vs n _ (HB.out.frm0 hx).sto HN.out.1 HN.out.2).mono (fun e w' h => ⟨h.1, h.2⟩)⟩
  simp only [Act.put, List.setIfInBounds_toArray, List.set_cons_zero, List.set_cons_succ, valsL_zero, valsL_succ]
  obtain ⟨ho7, HO⟩ := HO
  refine wpG_v ho7.out rfl ?_ ?_
  · simp only [valsL_zero, valsL_succ]; apply FY_in rfl; intro wx hx
    go_simp
    exact ⟨rfl, rfl⟩
  simp only [Act.put, List.setIfInBounds_toArray, List.set_cons_zero, List.set_cons_succ, valsL_zero, valsL_succ]
  obtain ⟨ho8, HO⟩ := HO
  refine wpG_v ho8.out rfl ?_ ?_
  · simp only [valsL_zero, valsL_succ]; apply FY_in rfl; intro wx hx
    go_simp
    exact ⟨rfl, rfl⟩
  simp only [Act.put, List.setIfInBounds_toArray, List.set_cons_zero, List.set_cons_succ, valsL_zero, valsL_succ]
  obtain ⟨ho9, HO⟩ := HO
  refine wpG_v ho9.out rfl ?_ ?_
  · simp only [valsL_zero, valsL_succ]; apply FY_in rfl; intro wx hx
    go_simp
    exact ⟨rfl, rfl⟩
  simp only [Act.put, List.setIfInBounds_toArray, List.set_cons_zero, List.set_cons_succ, valsL_zero, valsL_succ]
  obtain ⟨ho10, HO⟩ := HO
  refine wpG_v ho10.out rfl ?_ ?_
  · simp only [valsL_zero, valsL_succ]; apply FY_in rfl; intro wx hx
    go_simp
    exact ⟨rfl, rfl⟩
  simp only [Act.put, List.setIfInBounds_toArray, List.set_cons_zero, List.set_cons_succ, valsL_zero, valsL_succ]
  refine HQ.out _ _ ?_
  intro w1 hf hE hN
  simp only [List.drop_succ_cons, List.drop_zero]
  clear HQ HO hE hN ho0 ho1 ho2 ho3 ho4 ho5 ho6 ho7 ho8 ho9 ho10
  have HF := hid hf
  clear hf
  rw [HK.out.2.1, HK.out.1]
  go_wp2_with fail
  go_ret2
  exact ⟨by rw [← HK.out.2.2]; rfl, HF.out⟩
set_option maxRecDepth 20000 in
set_option maxHeartbeats 4000000 in
theorem view_calls (b : Nat) (p : BkP) (B : Bk) (w : World) (h : BkAt w b p B) :
    Calls Tryz.prog 15 #[bp b] w fun x w' => x = .returned B.w.val ∧ Frm M0 w w' := by
  have HB := hid h
  have HV : Hid (B.w.val = .agg #[.int .i64 B.w.epoch, .int .i64 B.w.leader, .int .i64 B.w.until', .int .i64 B.w.stable, .int .i64 B.w.from', .int .i64 B.w.phase, .int .i64 B.w.step, .int .i64 B.w.since, .int .i64 B.w.begun, .int .i64 B.w.seq, .int .i64 B.w.spec.s0, .int .i64 B.w.spec.s1, .int .i64 B.w.spec.s2, .int .i64 B.w.spec.s3, .int .i64 B.w.spec.s4, .int .i64 B.w.spec.s5, .int .i64 B.w.spec.s6, .int .i64 B.w.spec.s7, .int .i64 B.w.spec.s8, .int .i64 B.w.spec.s9, .int .i64 B.w.spec.s10, .int .i64 B.w.spec.s11]) := rfl
  rw [HV.out]
  clear h
  go_enter Tryz.func15, Tryz.ntmps15
  have HN := hid (new1 w (.cells #[.int .i64 0, .int .i64 0, .int .i64 0, .int .i64 0, .int .i64 0, .int .i64 0, .int .i64 0, .int .i64 0, .int .i64 0, .int .i64 0, .int .i64 0, .int .i64 0, .int .i64 0, .int .i64 0, .int .i64 0, .int .i64 0, .int .i64 0, .int .i64 0, .int .i64 0, .int .i64 0, .int .i64 0, .int .i64 0] 32))
  have HC : Hid (∀ j v, (#[.int .i64 B.w.epoch, .int .i64 B.w.leader, .int .i64 B.w.until', .int .i64 B.w.stable, .int .i64 B.w.from', .int .i64 B.w.phase, .int .i64 B.w.step, .int .i64 B.w.since, .int .i64 B.w.begun, .int .i64 B.w.seq, .int .i64 B.w.spec.s0, .int .i64 B.w.spec.s1, .int .i64 B.w.spec.s2, .int .i64 B.w.spec.s3, .int .i64 B.w.spec.s4, .int .i64 B.w.spec.s5, .int .i64 B.w.spec.s6, .int .i64 B.w.spec.s7, .int .i64 B.w.spec.s8, .int .i64 B.w.spec.s9, .int .i64 B.w.spec.s10, .int .i64 B.w.spec.s11]).toList[j]? = some v → (w.alloc (.cells #[.int .i64 0, .int .i64 0, .int .i64 0, .int .i64 0, .int .i64 0, .int .i64 0, .int .i64 0, .int .i64 0, .int .i64 0, .int .i64 0, .int .i64 0, .int .i64 0, .int .i64 0, .int .i64 0, .int .i64 0, .int .i64 0, .int .i64 0, .int .i64 0, .int .i64 0, .int .i64 0, .int .i64 0, .int .i64 0] 32)).cell? ⟨b, 2 + j, none⟩ = some v) := hid (HB.out.frm0 ((Frm.refl M0 w).alloc _)).view
  go_wp2_with (first | (refine wpList_load_c (by kernel_rfl) 32 (.tmp 8) (by with_reducible rfl) b 2 (by kernel_rfl) #[.int .i64 B.w.epoch, .int .i64 B.w.leader, .int .i64 B.w.until', .int .i64 B.w.stable, .int .i64 B.w.from', .int .i64 B.w.phase, .int .i64 B.w.step, .int .i64 B.w.since, .int .i64 B.w.begun, .int .i64 B.w.seq, .int .i64 B.w.spec.s0, .int .i64 B.w.spec.s1, .int .i64 B.w.spec.s2, .int .i64 B.w.spec.s3, .int .i64 B.w.spec.s4, .int .i64 B.w.spec.s5, .int .i64 B.w.spec.s6, .int .i64 B.w.spec.s7, .int .i64 B.w.spec.s8, .int .i64 B.w.spec.s9, .int .i64 B.w.spec.s10, .int .i64 B.w.spec.s11] (HC.out) _ Tryz.underlying32 rfl (by kernel_rfl) ?_) | (refine wpList_store_row rfl 32 (.tmp 2) (.tmp 9) (by with_reducible rfl) w.heap.size #[.int .i64 B.w.epoch, .int .i64 B.w.leader, .int .i64 B.w.until', .int .i64 B.w.stable, .int .i64 B.w.from', .int .i64 B.w.phase, .int .i64 B.w.step, .int .i64 B.w.since, .int .i64 B.w.begun, .int .i64 B.w.seq, .int .i64 B.w.spec.s0, .int .i64 B.w.spec.s1, .int .i64 B.w.spec.s2, .int .i64 B.w.spec.s3, .int .i64 B.w.spec.s4, .int .i64 B.w.spec.s5, .int .i64 B.w.spec.s6, .int .i64 B.w.spec.s7, .int .i64 B.w.spec.s8, .int .i64 B.w.spec.s9, .int .i64 B.w.spec.s10, .int .i64 B.w.spec.s11] (by kernel_rfl) (by kernel_rfl) _ _ HN.out (by kernel_rfl) (by rfl) (by simp [Value.oneCell']) ?_))
  refine bodyPost_ret (results_cell1 (by rfl) _ w.heap.size _ _ _ _ rfl (setRow_heap _ _ _ _ _ _ HN.out) Tryz.underlying32 rfl (by kernel_rfl)) rfl ?_
  exact ⟨rfl, ((Frm.refl M0 w).alloc _).setRow _ _ (Nat.le_refl _)⟩
set_option maxRecDepth 20000 in
set_option maxHeartbeats 4000000 in
theorem units_calls (b : Nat) (p : BkP) (B : Bk) (w : World) (h : BkAt w b p B) :
    Calls Tryz.prog 20 #[bp b] w fun x w' => ∃ v, x = .returned v ∧ w'.ownsRow w.heap.size 46 3 v 16 (B.us.flatMap Un.cells) ∧ Frm M0 w w' := by
  have HB := hid h
  have HU : Hid (Calls Tryz.prog 41 #[.slice (some ⟨b, 24, none⟩) 16 16] w fun x w' => ∃ v, x = .returned v ∧ w'.ownsRow w.heap.size 46 3 v 16 (B.us.flatMap Un.cells) ∧ Frm M0 w w') := by
    have h1 := h.units
    have h2 := uclone_calls b 24 16 B.us w (by rw [h.len] at h1 ⊢; exact h1) (by rw [h.len]; omega)
    rw [h.len] at h2
    exact h2
  clear h
  go_enter Tryz.func20, Tryz.ntmps20
  go_wp2_with fail
  refine HU.out.mono ?_
  rintro _ w1 ⟨v, rfl, ho, hf⟩
  have HO := hid ho
  have HF := hid hf
  clear ho hf
  go_wp2_with fail
  go_ret
  exact ⟨v, rfl, HO.out, HF.out⟩
set_option maxRecDepth 20000 in
set_option maxHeartbeats 4000000 in
theorem history_calls (b : Nat) (p : BkP) (B : Bk) (w : World) (h : BkAt w b p B) (hl : B.h.length ≤ 24) :
    Calls Tryz.prog 19 #[bp b] w fun x w' => ∃ v, x = .returned v ∧ w'.ownsRow w.heap.size 37 18 v B.h.length (B.h.flatMap Rc.cells) ∧ Frm M0 w w' := by
  have HB := hid h
  have HC := hid (rclone_calls p.hv B.h w h.his.rd (by omega))
  have hc := h.hist
  clear h hl
  go_enter Tryz.func19, Tryz.ntmps19
  go_wp2_with fail
  refine HC.out.mono ?_
  rintro _ w1 ⟨v, rfl, ho, hf⟩
  have HO := hid ho
  have HF := hid hf
  clear ho hf
  go_wp2_with fail
  go_ret
  exact ⟨v, rfl, HO.out, HF.out⟩
set_option maxRecDepth 20000 in
set_option maxHeartbeats 4000000 in
theorem bfree_calls (b : Nat) (p : BkP) (B : Bk) (now : Int) (w : World) (h : BkAt w b p B) (hm : 0 ≤ B.m ∧ B.m ≤ 1048576) (hl : Lb B.l) :
    Calls Tryz.prog 23 #[bp b, .int .i64 now] w fun x w' => x = .returned (.bool (freeF B.m B.l now)) ∧ Frm M0 w w' := by
  have HC := hid (tfree_calls p.tb p.TB B.m B.l now w h.tab hm (fun x hx => (hl x hx).1))
  have hc := h.c0
  clear h hm hl
  unfold leadS at HC
  go_enter Tryz.func23, Tryz.ntmps23
  go_wp2_with fail
  refine HC.out.mono ?_
  rintro _ w1 ⟨rfl, hf⟩
  have HF := hid hf
  obtain ⟨R, hR⟩ : ∃ q, freeF B.m B.l now = q := ⟨_, rfl⟩
  rw [hR]
  have HR := hid hR
  clear hf hR
  go_wp2_with fail
  go_ret
  exact ⟨by rw [HR.out]; rfl, HF.out⟩
end Go.Proofs.YtmacpdddimcmgaaGreatDoor
namespace Go.Proofs.YtmacpdddimcmgaaGreatDoor
set_option linter.unusedVariables false
set_option linter.unusedSimpArgs false
set_option maxRecDepth 20000
open Go.RowKit
theorem Bk.Ok.vsok {B : Bk} (h : B.Ok) : vsOk B.vs := fun x hx => by have := (h.vk x hx).1; exact ⟨by omega, by omega⟩
theorem Bk.Ok.lb {B : Bk} (h : B.Ok) : Lb B.l := fun x hx => by have := h.lu x hx; exact ⟨by omega, by omega⟩
theorem beq_no {a b : Int} (h : ¬ a = b) : (a == b) = false := by simpa using h
theorem beq_yes {a b : Int} (h : a = b) : (a == b) = true := by simpa using h
theorem bne_no {a b : Int} (h : a = b) : (a != b) = false := by simp [h]
theorem bne_yes {a b : Int} (h : ¬ a = b) : (a != b) = true := by simp [h]
set_option maxRecDepth 20000 in
set_option maxHeartbeats 4000000 in
theorem blead_calls (b : Nat) (p : BkP) (B : Bk) (r : Rc) (w : World) (h : BkAt w b p B) (ho : B.Ok) :
    Calls Tryz.prog 75 #[bp b, r.val] w fun x w' => x = .returned (.int .i64 (B.leadE r)) ∧ Frm M0 w w' := by
  obtain ⟨R, HR⟩ : ∃ R, Hid (B.leadE r = R) := ⟨_, rfl⟩
  rw [HR.out]
  have HB := hid h
  have HO := hid ho
  clear h ho
  have HV : Hid (r.val = .agg #[.int .i64 r.k, .int .i64 r.e, .int .i64 r.w, .int .i64 r.n, .int .i64 r.q, .string r.t, .int .i64 r.p.s0, .int .i64 r.p.s1, .int .i64 r.p.s2, .int .i64 r.p.s3, .int .i64 r.p.s4, .int .i64 r.p.s5, .int .i64 r.p.s6, .int .i64 r.p.s7, .int .i64 r.p.s8, .int .i64 r.p.s9, .int .i64 r.p.s10, .int .i64 r.p.s11]) := rfl
  rw [HV.out]
  go_enter Tryz.func75, Tryz.ntmps75
  go_upto_region 1 with fail
  (obtain ⟨b3, hbb3⟩ : ∃ q, q = w.heap.size := ⟨_, rfl⟩); (obtain ⟨w1, hww1⟩ : ∃ q, q = w.alloc (.cells #[.int .i64 r.k, .int .i64 r.e, .int .i64 r.w, .int .i64 r.n, .int .i64 r.q, .string r.t, .int .i64 r.p.s0, .int .i64 r.p.s1, .int .i64 r.p.s2, .int .i64 r.p.s3, .int .i64 r.p.s4, .int .i64 r.p.s5, .int .i64 r.p.s6, .int .i64 r.p.s7, .int .i64 r.p.s8, .int .i64 r.p.s9, .int .i64 r.p.s10, .int .i64 r.p.s11] 37) := ⟨_, rfl⟩); have hn := new1 w (.cells #[.int .i64 r.k, .int .i64 r.e, .int .i64 r.w, .int .i64 r.n, .int .i64 r.q, .string r.t, .int .i64 r.p.s0, .int .i64 r.p.s1, .int .i64 r.p.s2, .int .i64 r.p.s3, .int .i64 r.p.s4, .int .i64 r.p.s5, .int .i64 r.p.s6, .int .i64 r.p.s7, .int .i64 r.p.s8, .int .i64 r.p.s9, .int .i64 r.p.s10, .int .i64 r.p.s11] 37); have hf := (Frm.refl M0 w).alloc (.cells #[.int .i64 r.k, .int .i64 r.e, .int .i64 r.w, .int .i64 r.n, .int .i64 r.q, .string r.t, .int .i64 r.p.s0, .int .i64 r.p.s1, .int .i64 r.p.s2, .int .i64 r.p.s3, .int .i64 r.p.s4, .int .i64 r.p.s5, .int .i64 r.p.s6, .int .i64 r.p.s7, .int .i64 r.p.s8, .int .i64 r.p.s9, .int .i64 r.p.s10, .int .i64 r.p.s11] 37); rw [← hww1] at hn hf ⊢; rw [← hbb3] at hn ⊢; clear hww1
  have HB1 := hid (HB.out.frm0 hf)
  have HF1 := hid hf
  have H3 := hid hn
  clear hn hf hbb3
  have c1 : w1.cell? ⟨b3, 1, none⟩ = some (.int .i64 r.e) := sb_cell H3.out 1
  have c3 : w1.cell? ⟨b3, 3, none⟩ = some (.int .i64 r.n) := sb_cell H3.out 3
  have d2 := HB1.out.c2
  by_cases h1 : r.e = B.w.epoch
  · have hR := HR.out
    unfold Bk.leadE at hR
    rw [if_pos h1] at hR
    have h1' := beq_yes h1
    clear h1 HR
    by_cases h2 : B.w.leader = r.w
    · have h2' := bne_no h2
      go_upto_region 4 with fail
      obtain ⟨hd, hhd⟩ : ∃ q, holdsF B.l r.w r.e r.n = q := ⟨_, rfl⟩
      rw [hhd] at hR
      have hR2 : R = if hd = false then 9 else 0 := by
        rw [← hR]
        cases hd
        · rw [if_pos (.inr rfl)]; rfl
        · rw [if_neg (by intro h; rcases h with h | h; exact h h2; cases h)]; rfl
      have HR2 := hid hR2
      have HHD := hid hhd
      clear hR hR2 hhd h2 c1 c3 d2 h1'
      apply wp_region_G 21 (fun _ => none) (valsL (_ :: _ :: _ :: _ :: _ :: _ :: _ :: _ :: _ :: _ :: _ :: _ :: _ :: _ :: _ :: _ :: _ :: _ :: _ :: _ :: _ :: [])) ?hm1 ?hB1 ?hal1 ?main1
      case hm1 => kernel_rfl
      case hB1 => kernel_rfl
      case hal1 =>
        intro i o obj ho hi
        cases hi
      rotate_left 21
      intro ops QT HO HQ
      obtain ⟨ho0, HO⟩ := HO
      refine wpG_v ho0.out rfl ?_ ?_
      · simp only [valsL_zero, valsL_succ]; apply FY_in rfl; intro wx hx
        go_simp
        exact ⟨rfl, rfl⟩
      simp only [Act.put, List.setIfInBounds_toArray, List.set_cons_zero, List.set_cons_succ, valsL_zero, valsL_succ]
      obtain ⟨ho1, HO⟩ := HO
      refine wpG_v ho1.out rfl ?_ ?_
      · simp only [valsL_zero, valsL_succ]; apply FY_in rfl; intro wx hx
        go_simp
        exact ⟨rfl, rfl⟩
      simp only [Act.put, List.setIfInBounds_toArray, List.set_cons_zero, List.set_cons_succ, valsL_zero, valsL_succ]
      obtain ⟨ho2, HO⟩ := HO
      refine wpG_v ho2.out rfl ?_ ?_
      · simp only [valsL_zero, valsL_succ]; apply FY_in rfl; intro wx hx
        go_simp
        exact ⟨rfl, rfl⟩
      simp only [Act.put, List.setIfInBounds_toArray, List.set_cons_zero, List.set_cons_succ, valsL_zero, valsL_succ]
      obtain ⟨ho3, HO⟩ := HO
      refine wpG_v ho3.out rfl ?_ ?_
      · simp only [valsL_zero, valsL_succ]; apply FY_in rfl; intro wx hx
        go_simp
        exact ⟨rfl, rfl⟩
      simp only [Act.put, List.setIfInBounds_toArray, List.set_cons_zero, List.set_cons_succ, valsL_zero, valsL_succ]
      obtain ⟨ho4, HO⟩ := HO
      refine wpG_v ho4.out rfl ?_ ?_
      · simp only [valsL_zero, valsL_succ]; apply FY_in rfl; intro wx hx
        have hc0 := sb_cell (hx.heap H3.out (fun h => h))
        have hz0 := (HB1.out.frm0 hx).c0
        have hz1 := (HB1.out.frm0 hx).c3
        go_simp
        exact ⟨rfl, rfl⟩
      simp only [Act.put, List.setIfInBounds_toArray, List.set_cons_zero, List.set_cons_succ, valsL_zero, valsL_succ]
      obtain ⟨ho5, HO⟩ := HO
      refine wpG_v ho5.out rfl ?_ ?_
      · simp only [valsL_zero, valsL_succ]; apply FY_in rfl; intro wx hx
        go_simp
        exact ⟨rfl, rfl⟩
      simp only [Act.put, List.setIfInBounds_toArray, List.set_cons_zero, List.set_cons_succ, valsL_zero, valsL_succ]
      obtain ⟨ho6, HO⟩ := HO
      refine wpG_v ho6.out rfl ?_ ?_
      · simp only [valsL_zero, valsL_succ]; apply FY_in rfl; intro wx hx
        have hc0 := sb_cell (hx.heap H3.out (fun h => h))
        have hz0 := (HB1.out.frm0 hx).c0
        have hz1 := (HB1.out.frm0 hx).c3
        go_simp
        exact ⟨rfl, rfl⟩
      simp only [Act.put, List.setIfInBounds_toArray, List.set_cons_zero, List.set_cons_succ, valsL_zero, valsL_succ]
      obtain ⟨ho7, HO⟩ := HO
      refine wpG_v ho7.out rfl ?_ ?_
      · simp only [valsL_zero, valsL_succ]; apply FY_in rfl; intro wx hx
        go_simp
        exact ⟨rfl, rfl⟩
      simp only [Act.put, List.setIfInBounds_toArray, List.set_cons_zero, List.set_cons_succ, valsL_zero, valsL_succ]
      obtain ⟨ho8, HO⟩ := HO
      refine wpG_v ho8.out rfl ?_ ?_
      · simp only [valsL_zero, valsL_succ]; apply FY_in rfl; intro wx hx
        go_simp
        exact ⟨rfl, rfl⟩
      simp only [Act.put, List.setIfInBounds_toArray, List.set_cons_zero, List.set_cons_succ, valsL_zero, valsL_succ]
      obtain ⟨ho9, HO⟩ := HO
      refine wpG_v ho9.out rfl ?_ ?_
      · simp only [valsL_zero, valsL_succ]; apply FY_yes (d := 22) rfl ho8.out (by rfl) (by kernel_rfl); intro wx hx
        go_simp
        exact ⟨rfl, rfl⟩
      simp only [Act.put, List.setIfInBounds_toArray, List.set_cons_zero, List.set_cons_succ, valsL_zero, valsL_succ]
      obtain ⟨ho10, HO⟩ := HO
      refine wpG_v ho10.out rfl ?_ ?_
      · simp only [valsL_zero, valsL_succ]; apply FY_yes (d := 22) rfl ho8.out (by rfl) (by kernel_rfl); intro wx hx
        go_simp
        exact ⟨rfl, rfl⟩
      simp only [Act.put, List.setIfInBounds_toArray, List.set_cons_zero, List.set_cons_succ, valsL_zero, valsL_succ]
      obtain ⟨ho11, HO⟩ := HO
      refine wpG_v ho11.out rfl ?_ ?_
      · simp only [valsL_zero, valsL_succ]; apply FY_yes (d := 22) rfl ho8.out (by rfl) (by kernel_rfl); intro wx hx
        go_simp
        exact ⟨rfl, rfl⟩
      simp only [Act.put, List.setIfInBounds_toArray, List.set_cons_zero, List.set_cons_succ, valsL_zero, valsL_succ]
      obtain ⟨ho12, HO⟩ := HO
      refine wpG_v ho12.out rfl ?_ ?_
      · simp only [valsL_zero, valsL_succ]; apply FY_yes (d := 22) rfl ho8.out (by rfl) (by kernel_rfl); intro wx hx
        have hc0 := sb_cell (hx.heap H3.out (fun h => h))
        have hz0 := (HB1.out.frm0 hx).c0
        have hz1 := (HB1.out.frm0 hx).c3
        go_simp
        exact ⟨rfl, rfl⟩
      simp only [Act.put, List.setIfInBounds_toArray, List.set_cons_zero, List.set_cons_succ, valsL_zero, valsL_succ]
      obtain ⟨ho13, HO⟩ := HO
      refine wpG_v ho13.out rfl ?_ ?_
      · simp only [valsL_zero, valsL_succ]; apply FY_yes (d := 22) rfl ho8.out (by rfl) (by kernel_rfl); intro wx hx
        go_simp
        exact ⟨rfl, rfl⟩
      simp only [Act.put, List.setIfInBounds_toArray, List.set_cons_zero, List.set_cons_succ, valsL_zero, valsL_succ]
      obtain ⟨ho14, HO⟩ := HO
      refine wpG_v ho14.out rfl ?_ ?_
      · simp only [valsL_zero, valsL_succ]; apply FY_yes (d := 22) rfl ho8.out (by rfl) (by kernel_rfl); intro wx hx
        have hc0 := sb_cell (hx.heap H3.out (fun h => h))
        have hz0 := (HB1.out.frm0 hx).c0
        have hz1 := (HB1.out.frm0 hx).c3
        go_simp
        exact ⟨rfl, rfl⟩
      simp only [Act.put, List.setIfInBounds_toArray, List.set_cons_zero, List.set_cons_succ, valsL_zero, valsL_succ]
      obtain ⟨ho15, HO⟩ := HO
      refine wpG_v ho15.out rfl ?_ ?_
      · simp only [valsL_zero, valsL_succ]; apply FY_yes (d := 22) rfl ho8.out (by rfl) (by kernel_rfl); intro wx hx
        go_simp
        exact ⟨rfl, rfl⟩
      simp only [Act.put, List.setIfInBounds_toArray, List.set_cons_zero, List.set_cons_succ, valsL_zero, valsL_succ]
      obtain ⟨ho16, HO⟩ := HO
      refine wpG_v ho16.out rfl ?_ ?_
      · simp only [valsL_zero, valsL_succ]; apply FY_yes (d := 22) rfl ho8.out (by rfl) (by kernel_rfl); intro wx hx
        have hc0 := sb_cell (hx.heap H3.out (fun h => h))
        have hz0 := (HB1.out.frm0 hx).c0
        have hz1 := (HB1.out.frm0 hx).c3
        go_simp
        exact ⟨rfl, rfl⟩
      simp only [Act.put, List.setIfInBounds_toArray, List.set_cons_zero, List.set_cons_succ, valsL_zero, valsL_succ]
      obtain ⟨ho17, HO⟩ := HO
      refine wpG_v ho17.out rfl ?_ ?_
      · simp only [valsL_zero, valsL_succ]; apply FY_yes (d := 22) rfl ho8.out (by rfl) (by kernel_rfl); intro wx hx
        go_simp
        exact ⟨rfl, rfl⟩
      simp only [Act.put, List.setIfInBounds_toArray, List.set_cons_zero, List.set_cons_succ, valsL_zero, valsL_succ]
      obtain ⟨ho18, HO⟩ := HO
      refine wpG_v ho18.out rfl ?_ ?_
      · simp only [valsL_zero, valsL_succ]; apply FY_yes (d := 22) rfl ho8.out (by rfl) (by kernel_rfl); intro wx hx
        have hc0 := sb_cell (hx.heap H3.out (fun h => h))
        have hz0 := (HB1.out.frm0 hx).c0
        have hz1 := (HB1.out.frm0 hx).c3
        go_simp
        exact ⟨rfl, rfl⟩
      simp only [Act.put, List.setIfInBounds_toArray, List.set_cons_zero, List.set_cons_succ, valsL_zero, valsL_succ]
      obtain ⟨ho19, HO⟩ := HO
      refine wpG_v ho19.out rfl ?_ ?_
      · simp only [valsL_zero, valsL_succ]; apply FY_yes (d := 22) rfl ho8.out (by rfl) (by kernel_rfl); intro wx hx
        go_simp
        exact ⟨rfl, (holds_calls p.tb p.TB B.m B.l _ _ _ _ (HB1.out.frm0 hx).tab).mono (fun e w' h => ⟨h.1, h.2⟩)⟩
      simp only [Act.put, List.setIfInBounds_toArray, List.set_cons_zero, List.set_cons_succ, valsL_zero, valsL_succ]
      obtain ⟨ho20, HO⟩ := HO
      refine wpG_v ho20.out rfl ?_ ?_
      · simp only [valsL_zero, valsL_succ]; apply FY_yes (d := 22) rfl ho8.out (by rfl) (by kernel_rfl); intro wx hx
        go_simp
        exact ⟨rfl, rfl⟩
      simp only [Act.put, List.setIfInBounds_toArray, List.set_cons_zero, List.set_cons_succ, valsL_zero, valsL_succ]
      refine HQ.out _ _ ?_
      intro w2 hf hE hN
      simp only [List.drop_succ_cons, List.drop_zero]
      clear HQ HO hE hN ho0 ho1 ho2 ho3 ho4 ho5 ho6 ho7 ho8 ho9 ho10 ho11 ho12 ho13 ho14 ho15 ho16 ho17 ho18 ho19 ho20
      have HF2 := hid (HF1.out.then0 hf)
      clear hf h2'
      rw [HHD.out]
      cases hd with
      | false =>
        have hR : R = 9 := HR2.out
        subst hR
        clear HR2
        go_wp2_with fail
        go_ret
        exact ⟨rfl, HF2.out⟩
      | true =>
        have hR : R = 0 := HR2.out
        subst hR
        clear HR2
        go_wp2_with fail
        go_ret
        exact ⟨rfl, HF2.out⟩
    · rw [if_pos (.inl h2)] at hR
      subst hR
      have h2' := bne_yes h2
      clear h2
      go_upto_region 4 with fail
      clear c1 c3 d2 h1'
      apply wp_region_G 21 (fun _ => none) (valsL (_ :: _ :: _ :: _ :: _ :: _ :: _ :: _ :: _ :: _ :: _ :: _ :: _ :: _ :: _ :: _ :: _ :: _ :: _ :: _ :: _ :: [])) ?hm2 ?hB2 ?hal2 ?main2
      case hm2 => kernel_rfl
      case hB2 => kernel_rfl
      case hal2 =>
        intro i o obj ho hi
        cases hi
      rotate_left 21
      intro ops QT HO HQ
      obtain ⟨ho0, HO⟩ := HO
      refine wpG_v ho0.out rfl ?_ ?_
      · simp only [valsL_zero, valsL_succ]; apply FY_in rfl; intro wx hx
        go_simp
        exact ⟨rfl, rfl⟩
      simp only [Act.put, List.setIfInBounds_toArray, List.set_cons_zero, List.set_cons_succ, valsL_zero, valsL_succ]
      obtain ⟨ho1, HO⟩ := HO
      refine wpG_v ho1.out rfl ?_ ?_
      · simp only [valsL_zero, valsL_succ]; apply FY_in rfl; intro wx hx
        go_simp
        exact ⟨rfl, rfl⟩
      simp only [Act.put, List.setIfInBounds_toArray, List.set_cons_zero, List.set_cons_succ, valsL_zero, valsL_succ]
      obtain ⟨ho2, HO⟩ := HO
      refine wpG_v ho2.out rfl ?_ ?_
      · simp only [valsL_zero, valsL_succ]; apply FY_in rfl; intro wx hx
        go_simp
        exact ⟨rfl, rfl⟩
      simp only [Act.put, List.setIfInBounds_toArray, List.set_cons_zero, List.set_cons_succ, valsL_zero, valsL_succ]
      obtain ⟨ho3, HO⟩ := HO
      refine wpG_v ho3.out rfl ?_ ?_
      · simp only [valsL_zero, valsL_succ]; apply FY_in rfl; intro wx hx
        go_simp
        exact ⟨rfl, rfl⟩
      simp only [Act.put, List.setIfInBounds_toArray, List.set_cons_zero, List.set_cons_succ, valsL_zero, valsL_succ]
      obtain ⟨ho4, HO⟩ := HO
      refine wpG_v ho4.out rfl ?_ ?_
      · simp only [valsL_zero, valsL_succ]; apply FY_in rfl; intro wx hx
        have hc0 := sb_cell (hx.heap H3.out (fun h => h))
        have hz0 := (HB1.out.frm0 hx).c0
        have hz1 := (HB1.out.frm0 hx).c3
        go_simp
        exact ⟨rfl, rfl⟩
      simp only [Act.put, List.setIfInBounds_toArray, List.set_cons_zero, List.set_cons_succ, valsL_zero, valsL_succ]
      obtain ⟨ho5, HO⟩ := HO
      refine wpG_v ho5.out rfl ?_ ?_
      · simp only [valsL_zero, valsL_succ]; apply FY_in rfl; intro wx hx
        go_simp
        exact ⟨rfl, rfl⟩
      simp only [Act.put, List.setIfInBounds_toArray, List.set_cons_zero, List.set_cons_succ, valsL_zero, valsL_succ]
      obtain ⟨ho6, HO⟩ := HO
      refine wpG_v ho6.out rfl ?_ ?_
      · simp only [valsL_zero, valsL_succ]; apply FY_in rfl; intro wx hx
        have hc0 := sb_cell (hx.heap H3.out (fun h => h))
        have hz0 := (HB1.out.frm0 hx).c0
        have hz1 := (HB1.out.frm0 hx).c3
        go_simp
        exact ⟨rfl, rfl⟩
      simp only [Act.put, List.setIfInBounds_toArray, List.set_cons_zero, List.set_cons_succ, valsL_zero, valsL_succ]
      obtain ⟨ho7, HO⟩ := HO
      refine wpG_v ho7.out rfl ?_ ?_
      · simp only [valsL_zero, valsL_succ]; apply FY_in rfl; intro wx hx
        go_simp
        exact ⟨rfl, rfl⟩
      simp only [Act.put, List.setIfInBounds_toArray, List.set_cons_zero, List.set_cons_succ, valsL_zero, valsL_succ]
      obtain ⟨ho8, HO⟩ := HO
      refine wpG_v ho8.out rfl ?_ ?_
      · simp only [valsL_zero, valsL_succ]; apply FY_in rfl; intro wx hx
        go_simp
        exact ⟨rfl, rfl⟩
      simp only [Act.put, List.setIfInBounds_toArray, List.set_cons_zero, List.set_cons_succ, valsL_zero, valsL_succ]
      obtain ⟨ho9, HO⟩ := HO
      refine wpG_v ho9.out rfl ?_ ?_
      · simp only [valsL_zero, valsL_succ]; exact FY_no (d := 22) rfl ho8.out (by rfl) (by kernel_rfl)
      simp only [Act.put, List.setIfInBounds_toArray, List.set_cons_zero, List.set_cons_succ, valsL_zero, valsL_succ]
      obtain ⟨ho10, HO⟩ := HO
      refine wpG_v ho10.out rfl ?_ ?_
      · simp only [valsL_zero, valsL_succ]; exact FY_no (d := 22) rfl ho8.out (by rfl) (by kernel_rfl)
      simp only [Act.put, List.setIfInBounds_toArray, List.set_cons_zero, List.set_cons_succ, valsL_zero, valsL_succ]
      obtain ⟨ho11, HO⟩ := HO
      refine wpG_v ho11.out rfl ?_ ?_
      · simp only [valsL_zero, valsL_succ]; exact FY_no (d := 22) rfl ho8.out (by rfl) (by kernel_rfl)
      simp only [Act.put, List.setIfInBounds_toArray, List.set_cons_zero, List.set_cons_succ, valsL_zero, valsL_succ]
      obtain ⟨ho12, HO⟩ := HO
      refine wpG_v ho12.out rfl ?_ ?_
      · simp only [valsL_zero, valsL_succ]; exact FY_no (d := 22) rfl ho8.out (by rfl) (by kernel_rfl)
      simp only [Act.put, List.setIfInBounds_toArray, List.set_cons_zero, List.set_cons_succ, valsL_zero, valsL_succ]
      obtain ⟨ho13, HO⟩ := HO
      refine wpG_v ho13.out rfl ?_ ?_
      · simp only [valsL_zero, valsL_succ]; exact FY_no (d := 22) rfl ho8.out (by rfl) (by kernel_rfl)
      simp only [Act.put, List.setIfInBounds_toArray, List.set_cons_zero, List.set_cons_succ, valsL_zero, valsL_succ]
      obtain ⟨ho14, HO⟩ := HO
      refine wpG_v ho14.out rfl ?_ ?_
      · simp only [valsL_zero, valsL_succ]; exact FY_no (d := 22) rfl ho8.out (by rfl) (by kernel_rfl)
      simp only [Act.put, List.setIfInBounds_toArray, List.set_cons_zero, List.set_cons_succ, valsL_zero, valsL_succ]
      obtain ⟨ho15, HO⟩ := HO
      refine wpG_v ho15.out rfl ?_ ?_
      · simp only [valsL_zero, valsL_succ]; exact FY_no (d := 22) rfl ho8.out (by rfl) (by kernel_rfl)
      simp only [Act.put, List.setIfInBounds_toArray, List.set_cons_zero, List.set_cons_succ, valsL_zero, valsL_succ]
      obtain ⟨ho16, HO⟩ := HO
      refine wpG_v ho16.out rfl ?_ ?_
      · simp only [valsL_zero, valsL_succ]; exact FY_no (d := 22) rfl ho8.out (by rfl) (by kernel_rfl)
      simp only [Act.put, List.setIfInBounds_toArray, List.set_cons_zero, List.set_cons_succ, valsL_zero, valsL_succ]
      obtain ⟨ho17, HO⟩ := HO
      refine wpG_v ho17.out rfl ?_ ?_
      · simp only [valsL_zero, valsL_succ]; exact FY_no (d := 22) rfl ho8.out (by rfl) (by kernel_rfl)
      simp only [Act.put, List.setIfInBounds_toArray, List.set_cons_zero, List.set_cons_succ, valsL_zero, valsL_succ]
      obtain ⟨ho18, HO⟩ := HO
      refine wpG_v ho18.out rfl ?_ ?_
      · simp only [valsL_zero, valsL_succ]; exact FY_no (d := 22) rfl ho8.out (by rfl) (by kernel_rfl)
      simp only [Act.put, List.setIfInBounds_toArray, List.set_cons_zero, List.set_cons_succ, valsL_zero, valsL_succ]
      obtain ⟨ho19, HO⟩ := HO
      refine wpG_v ho19.out rfl ?_ ?_
      · simp only [valsL_zero, valsL_succ]; exact FY_no (d := 22) rfl ho8.out (by rfl) (by kernel_rfl)
      simp only [Act.put, List.setIfInBounds_toArray, List.set_cons_zero, List.set_cons_succ, valsL_zero, valsL_succ]
      obtain ⟨ho20, HO⟩ := HO
      refine wpG_v ho20.out rfl ?_ ?_
      · simp only [valsL_zero, valsL_succ]; exact FY_no (d := 22) rfl ho8.out (by rfl) (by kernel_rfl)
      simp only [Act.put, List.setIfInBounds_toArray, List.set_cons_zero, List.set_cons_succ, valsL_zero, valsL_succ]
      refine HQ.out _ _ ?_
      intro w2 hf hE hN
      simp only [List.drop_succ_cons, List.drop_zero]
      clear HQ HO hE hN ho0 ho1 ho2 ho3 ho4 ho5 ho6 ho7 ho8 ho9 ho10 ho11 ho12 ho13 ho14 ho15 ho16 ho17 ho18 ho19 ho20
      have HF2 := hid (HF1.out.then0 hf)
      clear hf h2'
      go_wp2_with fail
      go_ret
      exact ⟨rfl, HF2.out⟩
  · have hR := HR.out
    unfold Bk.leadE at hR
    rw [if_neg h1] at hR
    have h1' := beq_no h1
    clear h1 HR
    by_cases h2 : r.e = wrap64 (B.w.epoch + 1)
    · rw [if_pos h2] at hR
      have h2' := beq_yes h2
      clear h2
      obtain ⟨fr, hfr⟩ : ∃ q, freeF B.m B.l r.n = q := ⟨_, rfl⟩
      rw [hfr] at hR
      have HR := hid hR
      have HFR := hid hfr
      clear hR hfr
      go_wp2_with fail
      refine (bfree_calls b p B r.n _ HB1.out HO.out.mg HO.out.lb).mono ?_
      rintro _ w2 ⟨rfl, hf⟩
      rw [HFR.out]
      have HF2 := hid (HF1.out.then0 hf)
      clear hf c1 c3 d2 h1' h2'
      cases fr with
      | false =>
        have hR : 9 = R := HR.out
        subst hR
        go_wp2_with fail
        go_ret
        exact ⟨rfl, HF2.out⟩
      | true =>
        have hR : 0 = R := HR.out
        subst hR
        go_wp2_with fail
        go_ret
        exact ⟨rfl, HF2.out⟩
    · rw [if_neg h2] at hR
      subst hR
      have h2' := beq_no h2
      clear h2
      go_wp2_with fail
      go_ret
      exact ⟨rfl, HF1.out⟩
set_option maxRecDepth 20000 in
set_option maxHeartbeats 4000000 in
theorem bpublish_calls (b : Nat) (p : BkP) (B : Bk) (r : Rc) (w : World) (h : BkAt w b p B) (ho : B.Ok) (hT : Tab w) (hn : i64R r.n) :
    Calls Tryz.prog 76 #[bp b, r.val] w fun x w' => x = .returned (.int .i64 (B.publishE r)) ∧ Frm M0 w w' := by
  obtain ⟨R, HR⟩ : ∃ R, Hid (B.publishE r = R) := ⟨_, rfl⟩
  rw [HR.out]
  have HB := hid h
  have HO := hid ho
  have HT := hid hT
  have HN := hid hn
  clear h ho hT hn
  have HV : Hid (r.val = .agg #[.int .i64 r.k, .int .i64 r.e, .int .i64 r.w, .int .i64 r.n, .int .i64 r.q, .string r.t, .int .i64 r.p.s0, .int .i64 r.p.s1, .int .i64 r.p.s2, .int .i64 r.p.s3, .int .i64 r.p.s4, .int .i64 r.p.s5, .int .i64 r.p.s6, .int .i64 r.p.s7, .int .i64 r.p.s8, .int .i64 r.p.s9, .int .i64 r.p.s10, .int .i64 r.p.s11]) := rfl
  rw [HV.out]
  go_enter Tryz.func76, Tryz.ntmps76
  go_upto_region 1 with fail
  (obtain ⟨b3, hbb3⟩ : ∃ q, q = w.heap.size := ⟨_, rfl⟩); (obtain ⟨w1, hww1⟩ : ∃ q, q = w.alloc (.cells #[.int .i64 r.k, .int .i64 r.e, .int .i64 r.w, .int .i64 r.n, .int .i64 r.q, .string r.t, .int .i64 r.p.s0, .int .i64 r.p.s1, .int .i64 r.p.s2, .int .i64 r.p.s3, .int .i64 r.p.s4, .int .i64 r.p.s5, .int .i64 r.p.s6, .int .i64 r.p.s7, .int .i64 r.p.s8, .int .i64 r.p.s9, .int .i64 r.p.s10, .int .i64 r.p.s11] 37) := ⟨_, rfl⟩); have hn := new1 w (.cells #[.int .i64 r.k, .int .i64 r.e, .int .i64 r.w, .int .i64 r.n, .int .i64 r.q, .string r.t, .int .i64 r.p.s0, .int .i64 r.p.s1, .int .i64 r.p.s2, .int .i64 r.p.s3, .int .i64 r.p.s4, .int .i64 r.p.s5, .int .i64 r.p.s6, .int .i64 r.p.s7, .int .i64 r.p.s8, .int .i64 r.p.s9, .int .i64 r.p.s10, .int .i64 r.p.s11] 37); have hf := (Frm.refl M0 w).alloc (.cells #[.int .i64 r.k, .int .i64 r.e, .int .i64 r.w, .int .i64 r.n, .int .i64 r.q, .string r.t, .int .i64 r.p.s0, .int .i64 r.p.s1, .int .i64 r.p.s2, .int .i64 r.p.s3, .int .i64 r.p.s4, .int .i64 r.p.s5, .int .i64 r.p.s6, .int .i64 r.p.s7, .int .i64 r.p.s8, .int .i64 r.p.s9, .int .i64 r.p.s10, .int .i64 r.p.s11] 37); rw [← hww1] at hn hf ⊢; rw [← hbb3] at hn ⊢; clear hww1
  have HB1 := hid (HB.out.frm0 hf)
  have HF1 := hid hf
  have H3 := hid hn
  clear hn hf hbb3
  have c3 : w1.cell? ⟨b3, 3, none⟩ = some (.int .i64 r.n) := sb_cell H3.out 3
  go_wp2_with fail
  refine (digest_calls b p B r.n _ HB1.out (HT.out.frm HF1.out) HN.out HO.out.vsok).mono ?_
  rintro _ w2 ⟨rfl, hf⟩
  obtain ⟨I, hI⟩ : ∃ q, (B.digest r.n).isSome = q := ⟨_, rfl⟩
  have hR := HR.out
  unfold Bk.publishE at hR
  rw [hI] at hR ⊢
  have HF2 := hid (HF1.out.then0 hf)
  have HB2 := hid (HB1.out.frm0 hf)
  clear hI c3 hf HR HB1
  cases I with
  | true =>
    have hR : 6 = R := hR
    subst hR
    go_wp2_with fail
    go_ret
    exact ⟨rfl, HF2.out⟩
  | false =>
    rw [if_neg (by decide)] at hR
    have HR := hid hR
    have d1 := HB2.out.c1
    clear hR
    go_wp2_with fail
    refine (klen_calls p.sb p.SB B.vs _ HB2.out.sto HO.out.vsok HO.out.nd HO.out.inv.vs).mono ?_
    rintro _ w3 ⟨rfl, hf⟩
    have HF3 := hid (HF2.out.then0 hf)
    clear hf d1
    by_cases h64 : 64 ≤ B.vs.length
    · have hR := HR.out
      rw [if_pos h64] at hR
      subst hR
      have h64' : (64 : Int) ≤ (B.vs.length : Int) := by omega
      go_wp2_with fail
      go_ret
      exact ⟨rfl, HF3.out⟩
    · have hR := HR.out
      rw [if_neg h64] at hR
      subst hR
      have h64' : ¬ (64 : Int) ≤ (B.vs.length : Int) := by omega
      go_wp2_with fail
      go_ret
      exact ⟨rfl, HF3.out⟩
set_option maxRecDepth 20000 in
set_option maxHeartbeats 4000000 in
theorem bbegin_calls (b : Nat) (p : BkP) (B : Bk) (r : Rc) (w : World) (h : BkAt w b p B) (ho : B.Ok) (hT : Tab w) (hn : i64R r.p.s0) :
    Calls Tryz.prog 77 #[bp b, r.val] w fun x w' => x = .returned (.int .i64 (B.beginE r)) ∧ Frm M0 w w' := by
  obtain ⟨R, HR⟩ : ∃ R, Hid (B.beginE r = R) := ⟨_, rfl⟩
  rw [HR.out]
  have HB := hid h
  have HO := hid ho
  have HT := hid hT
  have HN := hid hn
  clear h ho hT hn
  have HV : Hid (r.val = .agg #[.int .i64 r.k, .int .i64 r.e, .int .i64 r.w, .int .i64 r.n, .int .i64 r.q, .string r.t, .int .i64 r.p.s0, .int .i64 r.p.s1, .int .i64 r.p.s2, .int .i64 r.p.s3, .int .i64 r.p.s4, .int .i64 r.p.s5, .int .i64 r.p.s6, .int .i64 r.p.s7, .int .i64 r.p.s8, .int .i64 r.p.s9, .int .i64 r.p.s10, .int .i64 r.p.s11]) := rfl
  rw [HV.out]
  go_enter Tryz.func77, Tryz.ntmps77
  go_upto_region 1 with fail
  (obtain ⟨b3, hbb3⟩ : ∃ q, q = w.heap.size := ⟨_, rfl⟩); (obtain ⟨w1, hww1⟩ : ∃ q, q = w.alloc (.cells #[.int .i64 r.k, .int .i64 r.e, .int .i64 r.w, .int .i64 r.n, .int .i64 r.q, .string r.t, .int .i64 r.p.s0, .int .i64 r.p.s1, .int .i64 r.p.s2, .int .i64 r.p.s3, .int .i64 r.p.s4, .int .i64 r.p.s5, .int .i64 r.p.s6, .int .i64 r.p.s7, .int .i64 r.p.s8, .int .i64 r.p.s9, .int .i64 r.p.s10, .int .i64 r.p.s11] 37) := ⟨_, rfl⟩); have hn := new1 w (.cells #[.int .i64 r.k, .int .i64 r.e, .int .i64 r.w, .int .i64 r.n, .int .i64 r.q, .string r.t, .int .i64 r.p.s0, .int .i64 r.p.s1, .int .i64 r.p.s2, .int .i64 r.p.s3, .int .i64 r.p.s4, .int .i64 r.p.s5, .int .i64 r.p.s6, .int .i64 r.p.s7, .int .i64 r.p.s8, .int .i64 r.p.s9, .int .i64 r.p.s10, .int .i64 r.p.s11] 37); have hf := (Frm.refl M0 w).alloc (.cells #[.int .i64 r.k, .int .i64 r.e, .int .i64 r.w, .int .i64 r.n, .int .i64 r.q, .string r.t, .int .i64 r.p.s0, .int .i64 r.p.s1, .int .i64 r.p.s2, .int .i64 r.p.s3, .int .i64 r.p.s4, .int .i64 r.p.s5, .int .i64 r.p.s6, .int .i64 r.p.s7, .int .i64 r.p.s8, .int .i64 r.p.s9, .int .i64 r.p.s10, .int .i64 r.p.s11] 37); rw [← hww1] at hn hf ⊢; rw [← hbb3] at hn ⊢; clear hww1
  have HB1 := hid (HB.out.frm0 hf)
  have HF1 := hid hf
  have H3 := hid hn
  clear hn hf hbb3
  have c6 : w1.cell? ⟨b3, 6, none⟩ = some (.int .i64 r.p.s0) := sb_cell H3.out 6
  go_wp2_with fail
  refine (digest_calls b p B r.p.s0 _ HB1.out (HT.out.frm HF1.out) HN.out HO.out.vsok).mono ?_
  rintro _ w2 ⟨rfl, hf⟩
  obtain ⟨I, hI⟩ : ∃ q, (B.digest r.p.s0).isSome = q := ⟨_, rfl⟩
  obtain ⟨O, hO⟩ : ∃ q, openF B.w.phase = q := ⟨_, rfl⟩
  have hR := HR.out
  unfold Bk.beginE at hR
  rw [hI, hO] at hR
  rw [hI]
  have HF2 := hid (HF1.out.then0 hf)
  have HB2 := hid (HB1.out.frm0 hf)
  have H32 := hid (hf.heap H3.out (fun h => h))
  have HRR := hid hR
  have HOO := hid hO
  have d7 := HB2.out.c7
  clear hI hO c6 hf HR HB1 H3 hR
  go_wp2_with fail
  refine (popen_calls _ _).mono ?_
  rintro _ w3 ⟨rfl, hf⟩
  rw [HOO.out]
  have HF3 := hid (HF2.out.then0 hf)
  have HB3 := hid (HB2.out.frm0 hf)
  have H33 := hid (hf.heap H32.out (fun h => h))
  clear hf d7 HB2 H32 HF2
  cases O with
  | true =>
    have hR : 10 = R := HRR.out
    subst hR
    go_wp2_with fail
    go_ret
    exact ⟨rfl, HF3.out⟩
  | false =>
    cases I with
    | false =>
      have hR : 5 = R := HRR.out
      subst hR
      go_wp2_with fail
      go_ret
      exact ⟨rfl, HF3.out⟩
    | true =>
      have hR : (if r.p.s0 = B.w.stable then (6 : Int) else 0) = R := HRR.out
      clear HRR
      go_upto_region 6 with fail
      by_cases hs : r.p.s0 = B.w.stable
      · rw [if_pos hs] at hR
        subst hR
        have hs' := beq_yes hs
        clear hs
        apply wp_region_G 9 (fun _ => none) (valsL (_ :: _ :: _ :: _ :: _ :: _ :: _ :: _ :: _ :: [])) ?hm3 ?hB3 ?hal3 ?main3
        case hm3 => kernel_rfl
        case hB3 => kernel_rfl
        case hal3 =>
          intro i o obj ho hi
          cases hi
        rotate_left 9
        intro ops QT HO HQ
        obtain ⟨ho0, HO⟩ := HO
        refine wpG_v ho0.out rfl ?_ ?_
        · simp only [valsL_zero, valsL_succ]; apply FY_in rfl; intro wx hx
          go_simp
          exact ⟨rfl, rfl⟩
        simp only [Act.put, List.setIfInBounds_toArray, List.set_cons_zero, List.set_cons_succ, valsL_zero, valsL_succ]
        obtain ⟨ho1, HO⟩ := HO
        refine wpG_v ho1.out rfl ?_ ?_
        · simp only [valsL_zero, valsL_succ]; apply FY_in rfl; intro wx hx
          go_simp
          exact ⟨rfl, rfl⟩
        simp only [Act.put, List.setIfInBounds_toArray, List.set_cons_zero, List.set_cons_succ, valsL_zero, valsL_succ]
        obtain ⟨ho2, HO⟩ := HO
        refine wpG_v ho2.out rfl ?_ ?_
        · simp only [valsL_zero, valsL_succ]; apply FY_in rfl; intro wx hx
          have hc0 := sb_cell (hx.heap H33.out (fun h => h))
          have hz0 := (HB3.out.frm0 hx).c5
          go_simp
          exact ⟨rfl, rfl⟩
        simp only [Act.put, List.setIfInBounds_toArray, List.set_cons_zero, List.set_cons_succ, valsL_zero, valsL_succ]
        obtain ⟨ho3, HO⟩ := HO
        refine wpG_v ho3.out rfl ?_ ?_
        · simp only [valsL_zero, valsL_succ]; apply FY_in rfl; intro wx hx
          go_simp
          exact ⟨rfl, rfl⟩
        simp only [Act.put, List.setIfInBounds_toArray, List.set_cons_zero, List.set_cons_succ, valsL_zero, valsL_succ]
        obtain ⟨ho4, HO⟩ := HO
        refine wpG_v ho4.out rfl ?_ ?_
        · simp only [valsL_zero, valsL_succ]; apply FY_in rfl; intro wx hx
          go_simp
          exact ⟨rfl, rfl⟩
        simp only [Act.put, List.setIfInBounds_toArray, List.set_cons_zero, List.set_cons_succ, valsL_zero, valsL_succ]
        obtain ⟨ho5, HO⟩ := HO
        refine wpG_v ho5.out rfl ?_ ?_
        · simp only [valsL_zero, valsL_succ]; apply FY_in rfl; intro wx hx
          go_simp
          exact ⟨rfl, rfl⟩
        simp only [Act.put, List.setIfInBounds_toArray, List.set_cons_zero, List.set_cons_succ, valsL_zero, valsL_succ]
        obtain ⟨ho6, HO⟩ := HO
        refine wpG_v ho6.out rfl ?_ ?_
        · simp only [valsL_zero, valsL_succ]; apply FY_in rfl; intro wx hx
          go_simp
          exact ⟨rfl, rfl⟩
        simp only [Act.put, List.setIfInBounds_toArray, List.set_cons_zero, List.set_cons_succ, valsL_zero, valsL_succ]
        obtain ⟨ho7, HO⟩ := HO
        refine wpG_v ho7.out rfl ?_ ?_
        · simp only [valsL_zero, valsL_succ]; apply FY_in rfl; intro wx hx
          have hc0 := sb_cell (hx.heap H33.out (fun h => h))
          have hz0 := (HB3.out.frm0 hx).c5
          go_simp
          exact ⟨rfl, rfl⟩
        simp only [Act.put, List.setIfInBounds_toArray, List.set_cons_zero, List.set_cons_succ, valsL_zero, valsL_succ]
        obtain ⟨ho8, HO⟩ := HO
        refine wpG_v ho8.out rfl ?_ ?_
        · simp only [valsL_zero, valsL_succ]; apply FY_in rfl; intro wx hx
          go_simp
          exact ⟨rfl, rfl⟩
        simp only [Act.put, List.setIfInBounds_toArray, List.set_cons_zero, List.set_cons_succ, valsL_zero, valsL_succ]
        refine HQ.out _ _ ?_
        intro w4 hf hE hN
        simp only [List.drop_succ_cons, List.drop_zero]
        clear HQ HO hE hN ho0 ho1 ho2 ho3 ho4 ho5 ho6 ho7 ho8
        have HF4 := hid (HF3.out.then0 hf)
        clear hf hs'
        go_wp2_with fail
        go_ret
        exact ⟨rfl, HF4.out⟩
      · rw [if_neg hs] at hR
        subst hR
        have hs' := beq_no hs
        clear hs
        apply wp_region_G 9 (fun _ => none) (valsL (_ :: _ :: _ :: _ :: _ :: _ :: _ :: _ :: _ :: [])) ?hm4 ?hB4 ?hal4 ?main4
        case hm4 => kernel_rfl
        case hB4 => kernel_rfl
        case hal4 =>
          intro i o obj ho hi
          cases hi
        rotate_left 9
        intro ops QT HO HQ
        obtain ⟨ho0, HO⟩ := HO
        refine wpG_v ho0.out rfl ?_ ?_
        · simp only [valsL_zero, valsL_succ]; apply FY_in rfl; intro wx hx
          go_simp
          exact ⟨rfl, rfl⟩
        simp only [Act.put, List.setIfInBounds_toArray, List.set_cons_zero, List.set_cons_succ, valsL_zero, valsL_succ]
        obtain ⟨ho1, HO⟩ := HO
        refine wpG_v ho1.out rfl ?_ ?_
        · simp only [valsL_zero, valsL_succ]; apply FY_in rfl; intro wx hx
          go_simp
          exact ⟨rfl, rfl⟩
        simp only [Act.put, List.setIfInBounds_toArray, List.set_cons_zero, List.set_cons_succ, valsL_zero, valsL_succ]
        obtain ⟨ho2, HO⟩ := HO
        refine wpG_v ho2.out rfl ?_ ?_
        · simp only [valsL_zero, valsL_succ]; apply FY_in rfl; intro wx hx
          have hc0 := sb_cell (hx.heap H33.out (fun h => h))
          have hz0 := (HB3.out.frm0 hx).c5
          go_simp
          exact ⟨rfl, rfl⟩
        simp only [Act.put, List.setIfInBounds_toArray, List.set_cons_zero, List.set_cons_succ, valsL_zero, valsL_succ]
        obtain ⟨ho3, HO⟩ := HO
        refine wpG_v ho3.out rfl ?_ ?_
        · simp only [valsL_zero, valsL_succ]; apply FY_in rfl; intro wx hx
          go_simp
          exact ⟨rfl, rfl⟩
        simp only [Act.put, List.setIfInBounds_toArray, List.set_cons_zero, List.set_cons_succ, valsL_zero, valsL_succ]
        obtain ⟨ho4, HO⟩ := HO
        refine wpG_v ho4.out rfl ?_ ?_
        · simp only [valsL_zero, valsL_succ]; apply FY_in rfl; intro wx hx
          go_simp
          exact ⟨rfl, rfl⟩
        simp only [Act.put, List.setIfInBounds_toArray, List.set_cons_zero, List.set_cons_succ, valsL_zero, valsL_succ]
        obtain ⟨ho5, HO⟩ := HO
        refine wpG_v ho5.out rfl ?_ ?_
        · simp only [valsL_zero, valsL_succ]; apply FY_in rfl; intro wx hx
          go_simp
          exact ⟨rfl, rfl⟩
        simp only [Act.put, List.setIfInBounds_toArray, List.set_cons_zero, List.set_cons_succ, valsL_zero, valsL_succ]
        obtain ⟨ho6, HO⟩ := HO
        refine wpG_v ho6.out rfl ?_ ?_
        · simp only [valsL_zero, valsL_succ]; apply FY_in rfl; intro wx hx
          go_simp
          exact ⟨rfl, rfl⟩
        simp only [Act.put, List.setIfInBounds_toArray, List.set_cons_zero, List.set_cons_succ, valsL_zero, valsL_succ]
        obtain ⟨ho7, HO⟩ := HO
        refine wpG_v ho7.out rfl ?_ ?_
        · simp only [valsL_zero, valsL_succ]; apply FY_in rfl; intro wx hx
          have hc0 := sb_cell (hx.heap H33.out (fun h => h))
          have hz0 := (HB3.out.frm0 hx).c5
          go_simp
          exact ⟨rfl, rfl⟩
        simp only [Act.put, List.setIfInBounds_toArray, List.set_cons_zero, List.set_cons_succ, valsL_zero, valsL_succ]
        obtain ⟨ho8, HO⟩ := HO
        refine wpG_v ho8.out rfl ?_ ?_
        · simp only [valsL_zero, valsL_succ]; apply FY_in rfl; intro wx hx
          go_simp
          exact ⟨rfl, rfl⟩
        simp only [Act.put, List.setIfInBounds_toArray, List.set_cons_zero, List.set_cons_succ, valsL_zero, valsL_succ]
        refine HQ.out _ _ ?_
        intro w4 hf hE hN
        simp only [List.drop_succ_cons, List.drop_zero]
        clear HQ HO hE hN ho0 ho1 ho2 ho3 ho4 ho5 ho6 ho7 ho8
        have HF4 := hid (HF3.out.then0 hf)
        clear hf hs'
        go_wp2_with fail
        go_ret
        exact ⟨rfl, HF4.out⟩
end Go.Proofs.YtmacpdddimcmgaaGreatDoor
namespace Go.Proofs.YtmacpdddimcmgaaGreatDoor
set_option linter.unusedVariables false
set_option linter.unusedSimpArgs false
set_option maxRecDepth 20000
open Go.RowKit
theorem betweenF_len (f t : Int) : (betweenF f t).length ≤ 9 := betw_len f t 9
set_option maxRecDepth 20000 in
set_option maxHeartbeats 4000000 in
theorem bmove_calls (b : Nat) (p : BkP) (B : Bk) (r : Rc) (w : World) (h : BkAt w b p B) :
    Calls Tryz.prog 78 #[bp b, r.val] w fun x w' => x = .returned (.int .i64 (B.moveE r)) ∧ Frm M0 w w' := by
  obtain ⟨R, HR⟩ : ∃ R, Hid (B.moveE r = R) := ⟨_, rfl⟩
  rw [HR.out]
  have HB := hid h
  clear h
  have HV : Hid (r.val = .agg #[.int .i64 r.k, .int .i64 r.e, .int .i64 r.w, .int .i64 r.n, .int .i64 r.q, .string r.t, .int .i64 r.p.s0, .int .i64 r.p.s1, .int .i64 r.p.s2, .int .i64 r.p.s3, .int .i64 r.p.s4, .int .i64 r.p.s5, .int .i64 r.p.s6, .int .i64 r.p.s7, .int .i64 r.p.s8, .int .i64 r.p.s9, .int .i64 r.p.s10, .int .i64 r.p.s11]) := rfl
  rw [HV.out]
  go_enter Tryz.func78, Tryz.ntmps78
  go_upto_region 1 with fail
  (obtain ⟨b3, hbb3⟩ : ∃ q, q = w.heap.size := ⟨_, rfl⟩); (obtain ⟨w1, hww1⟩ : ∃ q, q = w.alloc (.cells #[.int .i64 r.k, .int .i64 r.e, .int .i64 r.w, .int .i64 r.n, .int .i64 r.q, .string r.t, .int .i64 r.p.s0, .int .i64 r.p.s1, .int .i64 r.p.s2, .int .i64 r.p.s3, .int .i64 r.p.s4, .int .i64 r.p.s5, .int .i64 r.p.s6, .int .i64 r.p.s7, .int .i64 r.p.s8, .int .i64 r.p.s9, .int .i64 r.p.s10, .int .i64 r.p.s11] 37) := ⟨_, rfl⟩); have hn := new1 w (.cells #[.int .i64 r.k, .int .i64 r.e, .int .i64 r.w, .int .i64 r.n, .int .i64 r.q, .string r.t, .int .i64 r.p.s0, .int .i64 r.p.s1, .int .i64 r.p.s2, .int .i64 r.p.s3, .int .i64 r.p.s4, .int .i64 r.p.s5, .int .i64 r.p.s6, .int .i64 r.p.s7, .int .i64 r.p.s8, .int .i64 r.p.s9, .int .i64 r.p.s10, .int .i64 r.p.s11] 37); have hf := (Frm.refl M0 w).alloc (.cells #[.int .i64 r.k, .int .i64 r.e, .int .i64 r.w, .int .i64 r.n, .int .i64 r.q, .string r.t, .int .i64 r.p.s0, .int .i64 r.p.s1, .int .i64 r.p.s2, .int .i64 r.p.s3, .int .i64 r.p.s4, .int .i64 r.p.s5, .int .i64 r.p.s6, .int .i64 r.p.s7, .int .i64 r.p.s8, .int .i64 r.p.s9, .int .i64 r.p.s10, .int .i64 r.p.s11] 37); rw [← hww1] at hn hf ⊢; rw [← hbb3] at hn ⊢; clear hww1
  have HB1 := hid (HB.out.frm0 hf)
  have HF1 := hid hf
  have H3 := hid hn
  clear hn hf hbb3
  have c5 : w1.cell? ⟨b3, 5, none⟩ = some (.string r.t) := sb_cell H3.out 5
  go_wp2_with fail
  refine (pof_calls r.t _).mono ?_
  rintro _ w2 ⟨rfl, hf⟩
  obtain ⟨V, I, hVI⟩ : ∃ a c, ofF r.t = (a, c) := ⟨_, _, rfl⟩
  have hR := HR.out
  unfold Bk.moveE at hR
  rw [hVI] at hR ⊢
  simp only [] at hR ⊢
  have HRR := hid hR
  have HF2 := hid (HF1.out.then0 hf)
  have HB2 := hid (HB1.out.frm0 hf)
  have H32 := hid (hf.heap H3.out (fun h => h))
  clear hVI hf c5 HR hR HB1 H3 HF1
  cases I with
  | false =>
    have hR := HRR.out
    rw [if_pos (.inl rfl)] at hR
    subst hR
    go_wp2_with fail
    go_ret
    exact ⟨rfl, HF2.out⟩
  | true =>
    by_cases h0 : V = 0
    · have hR := HRR.out
      rw [if_pos (.inr (.inl h0))] at hR
      subst hR
      have h0' := beq_yes h0
      clear h0
      go_wp2_with fail
      go_ret
      exact ⟨rfl, HF2.out⟩
    · by_cases h3 : V = 3
      · have hR := HRR.out
        rw [if_pos (.inr (.inr h3))] at hR
        subst hR
        have h0' := beq_no h0
        have h3' := beq_yes h3
        clear h0 h3
        go_wp2_with fail
        go_ret
        exact ⟨rfl, HF2.out⟩
      · have hR := HRR.out
        rw [if_neg (by rintro (h | h | h); cases h; exact h0 h; exact h3 h)] at hR
        have h0' := beq_no h0
        have h3' := beq_no h3
        obtain ⟨L, hL⟩ : ∃ q, betweenF B.w.phase r.n = q := ⟨_, rfl⟩
        have hLl : L.length ≤ 9 := by rw [← hL]; exact betweenF_len _ _
        rw [hL] at hR
        obtain ⟨D, hD⟩ : ∃ q, decide (V ∈ L) = q := ⟨_, rfl⟩
        have HR2 := hid hR
        have HL := hid (And.intro hL hLl)
        have HD := hid hD
        clear h0 h3 hR hL hLl hD HRR
        go_upto_region 4 with fail
        clear h0' h3'
        apply wp_region_S [7, 9] (valsL (_ :: _ :: _ :: _ :: _ :: _ :: _ :: undef :: _ :: undef :: _ :: [])) (fun _ => 2) (fun _ => fun wx => Frm M0 w2 wx) (fun i u => i = 9 → u = .bool D) (fun c E wx => Frm M0 w2 wx ∧ (c = 1 → Rd wx 1 (E 7) L.length (ints .i64 L))) ?hm1 ?hB1 ?hU1 ?hI1 ?hG1 ?hZ1 ?main1
        case hm1 => kernel_rfl
        case hB1 => kernel_rfl
        case hU1 =>
          exact fun _ => ⟨.bool D, fun _ => rfl⟩
        case hI1 =>
          exact fun c E wx hc hj _ _ => (fun c E wx hc hj => hj.1) c E wx hc hj
        case hG1 =>
          exact fun c E wx wy hc hj hf => ⟨hj.1.then0 hf, fun h => (hj.2 h).frm0 hf⟩
        case hZ1 =>
          exact fun wx hf => ⟨hf, fun h => by cases h⟩
        rotate_left 9
        intro ops QT HO HQ
        obtain ⟨ho0, HO⟩ := HO
        refine wpS_V ho0.out rfl ?_ ?_
        · simp only [valsL_zero, valsL_succ]; apply FI_in rfl; intro wx hx
          go_simp
          exact ⟨rfl, rfl⟩
        simp only [Act.put, List.setIfInBounds_toArray, List.set_cons_zero, List.set_cons_succ, valsL_zero, valsL_succ]
        obtain ⟨ho1, HO⟩ := HO
        refine wpS_V ho1.out rfl ?_ ?_
        · simp only [valsL_zero, valsL_succ]; apply FI_in rfl; intro wx hx
          go_simp
          exact ⟨rfl, rfl⟩
        simp only [Act.put, List.setIfInBounds_toArray, List.set_cons_zero, List.set_cons_succ, valsL_zero, valsL_succ]
        obtain ⟨ho2, HO⟩ := HO
        refine wpS_V ho2.out rfl ?_ ?_
        · simp only [valsL_zero, valsL_succ]; apply FI_in rfl; intro wx hx
          go_simp
          exact ⟨rfl, rfl⟩
        simp only [Act.put, List.setIfInBounds_toArray, List.set_cons_zero, List.set_cons_succ, valsL_zero, valsL_succ]
        obtain ⟨ho3, HO⟩ := HO
        refine wpS_V ho3.out rfl ?_ ?_
        · simp only [valsL_zero, valsL_succ]; apply FI_in rfl; intro wx hx
          go_simp
          exact ⟨rfl, rfl⟩
        simp only [Act.put, List.setIfInBounds_toArray, List.set_cons_zero, List.set_cons_succ, valsL_zero, valsL_succ]
        obtain ⟨ho4, HO⟩ := HO
        refine wpS_V ho4.out rfl ?_ ?_
        · simp only [valsL_zero, valsL_succ]; apply FI_in rfl; intro wx hx
          have hc0 := sb_cell (hx.heap H32.out (fun h => h))
          have hz0 := (HB2.out.frm0 hx).c7
          go_simp
          exact ⟨rfl, rfl⟩
        simp only [Act.put, List.setIfInBounds_toArray, List.set_cons_zero, List.set_cons_succ, valsL_zero, valsL_succ]
        obtain ⟨ho5, HO⟩ := HO
        refine wpS_V ho5.out rfl ?_ ?_
        · simp only [valsL_zero, valsL_succ]; apply FI_in rfl; intro wx hx
          go_simp
          exact ⟨rfl, rfl⟩
        simp only [Act.put, List.setIfInBounds_toArray, List.set_cons_zero, List.set_cons_succ, valsL_zero, valsL_succ]
        obtain ⟨ho6, HO⟩ := HO
        refine wpS_V ho6.out rfl ?_ ?_
        · simp only [valsL_zero, valsL_succ]; apply FI_in rfl; intro wx hx
          have hc0 := sb_cell (hx.heap H32.out (fun h => h))
          have hz0 := (HB2.out.frm0 hx).c7
          go_simp
          exact ⟨rfl, rfl⟩
        simp only [Act.put, List.setIfInBounds_toArray, List.set_cons_zero, List.set_cons_succ, valsL_zero, valsL_succ]
        obtain ⟨ho7, HO⟩ := HO
        refine wpS_W (c := 0) ho7.out rfl (FW_in rfl fun wx hx => ?_) fun u7 g7 => ?_
        · go_simp
          exact (pbetween_calls _ _ _).mono (fun e w' h => by obtain ⟨v, rfl, ho, hf⟩ := h; rw [HL.out.1] at ho; exact ⟨v, rfl, hx.1.then0 hf, Rd.ofOwns ho⟩)
        simp only [Act.put, List.setIfInBounds_toArray, List.set_cons_zero, List.set_cons_succ, valsL_zero, valsL_succ]
        obtain ⟨ho8, HO⟩ := HO
        refine wpS_V ho8.out rfl ?_ ?_
        · simp only [valsL_zero, valsL_succ]; apply FI_in rfl; intro wx hx
          go_simp
          exact ⟨rfl, rfl⟩
        simp only [Act.put, List.setIfInBounds_toArray, List.set_cons_zero, List.set_cons_succ, valsL_zero, valsL_succ]
        obtain ⟨ho9, HO⟩ := HO
        refine wpS_W (c := 1) ho9.out rfl (FW_in rfl fun wx hx => ?_) fun u9 g9 => ?_
        · go_simp
          exact (icontains_calls u7 L V wx (hx.2 rfl) (by have := HL.out.2; omega)).mono (fun e w' h => by obtain ⟨rfl, rfl⟩ := h; exact ⟨_, rfl, by rw [HD.out], hx.1⟩)
        obtain rfl := g9 rfl
        simp only [Act.put, List.setIfInBounds_toArray, List.set_cons_zero, List.set_cons_succ, valsL_zero, valsL_succ]
        obtain ⟨ho10, HO⟩ := HO
        refine wpS_V ho10.out rfl ?_ ?_
        · simp only [valsL_zero, valsL_succ]; apply FI_in rfl; intro wx hx
          go_simp
          exact ⟨rfl, rfl⟩
        simp only [Act.put, List.setIfInBounds_toArray, List.set_cons_zero, List.set_cons_succ, valsL_zero, valsL_succ]
        refine HQ.out _ _ ?_
        intro w3 hj
        clear HQ HO ho0 ho1 ho2 ho3 ho4 ho5 ho6 ho7 ho8 ho9 ho10
        have HF3 := hid (HF2.out.then0 hj.1)
        clear hj
        cases D with
        | true =>
          have hm : V ∈ L := of_decide_eq_true HD.out
          have hR := HR2.out
          rw [if_pos hm] at hR
          subst hR
          clear hm
          go_wp2_with fail
          go_ret
          exact ⟨rfl, HF3.out⟩
        | false =>
          have hm : ¬ V ∈ L := of_decide_eq_false HD.out
          have hR := HR2.out
          rw [if_neg hm] at hR
          subst hR
          clear hm
          go_wp2_with fail
          go_ret
          exact ⟨rfl, HF3.out⟩
set_option maxRecDepth 20000 in
set_option maxHeartbeats 4000000 in
theorem bintent_calls (b : Nat) (p : BkP) (B : Bk) (r : Rc) (w : World) (h : BkAt w b p B) :
    Calls Tryz.prog 79 #[bp b, r.val] w fun x w' => x = .returned (.int .i64 (B.intentE r)) ∧ Frm M0 w w' := by
  obtain ⟨R, HR⟩ : ∃ R, Hid (B.intentE r = R) := ⟨_, rfl⟩
  rw [HR.out]
  have HB := hid h
  clear h
  have HV : Hid (r.val = .agg #[.int .i64 r.k, .int .i64 r.e, .int .i64 r.w, .int .i64 r.n, .int .i64 r.q, .string r.t, .int .i64 r.p.s0, .int .i64 r.p.s1, .int .i64 r.p.s2, .int .i64 r.p.s3, .int .i64 r.p.s4, .int .i64 r.p.s5, .int .i64 r.p.s6, .int .i64 r.p.s7, .int .i64 r.p.s8, .int .i64 r.p.s9, .int .i64 r.p.s10, .int .i64 r.p.s11]) := rfl
  rw [HV.out]
  go_enter Tryz.func79, Tryz.ntmps79
  go_upto_region 1 with fail
  (obtain ⟨b3, hbb3⟩ : ∃ q, q = w.heap.size := ⟨_, rfl⟩); (obtain ⟨w1, hww1⟩ : ∃ q, q = w.alloc (.cells #[.int .i64 r.k, .int .i64 r.e, .int .i64 r.w, .int .i64 r.n, .int .i64 r.q, .string r.t, .int .i64 r.p.s0, .int .i64 r.p.s1, .int .i64 r.p.s2, .int .i64 r.p.s3, .int .i64 r.p.s4, .int .i64 r.p.s5, .int .i64 r.p.s6, .int .i64 r.p.s7, .int .i64 r.p.s8, .int .i64 r.p.s9, .int .i64 r.p.s10, .int .i64 r.p.s11] 37) := ⟨_, rfl⟩); have hn := new1 w (.cells #[.int .i64 r.k, .int .i64 r.e, .int .i64 r.w, .int .i64 r.n, .int .i64 r.q, .string r.t, .int .i64 r.p.s0, .int .i64 r.p.s1, .int .i64 r.p.s2, .int .i64 r.p.s3, .int .i64 r.p.s4, .int .i64 r.p.s5, .int .i64 r.p.s6, .int .i64 r.p.s7, .int .i64 r.p.s8, .int .i64 r.p.s9, .int .i64 r.p.s10, .int .i64 r.p.s11] 37); have hf := (Frm.refl M0 w).alloc (.cells #[.int .i64 r.k, .int .i64 r.e, .int .i64 r.w, .int .i64 r.n, .int .i64 r.q, .string r.t, .int .i64 r.p.s0, .int .i64 r.p.s1, .int .i64 r.p.s2, .int .i64 r.p.s3, .int .i64 r.p.s4, .int .i64 r.p.s5, .int .i64 r.p.s6, .int .i64 r.p.s7, .int .i64 r.p.s8, .int .i64 r.p.s9, .int .i64 r.p.s10, .int .i64 r.p.s11] 37); rw [← hww1] at hn hf ⊢; rw [← hbb3] at hn ⊢; clear hww1
  have HB1 := hid (HB.out.frm0 hf)
  have HF1 := hid hf
  have H3 := hid hn
  clear hn hf hbb3
  have d7 := HB1.out.c7
  by_cases h1 : B.w.phase ≠ 1 ∧ B.w.phase ≠ 4
  · have hR := HR.out
    unfold Bk.intentE at hR
    rw [if_pos h1] at hR
    subst hR
    have e1 := bne_yes h1.1
    have e2 := bne_yes h1.2
    clear h1 HR
    go_wp2_with fail
    go_ret
    exact ⟨rfl, HF1.out⟩
  · have hR := HR.out
    unfold Bk.intentE at hR
    rw [if_neg h1] at hR
    have HR2 := hid hR
    clear hR HR
    have key : ∃ x, Hid ((B.w.phase != 1) = x) ∧ (x = true → (B.w.phase != 4) = false) := by
      refine ⟨_, hid rfl, fun h => ?_⟩
      simp at h
      refine bne_no (Classical.byContradiction fun h4 => h1 ⟨h, h4⟩)
    clear h1
    obtain ⟨x, HX, hx⟩ := key
    cases x with
    | true =>
      have e1 : (B.w.phase != 1) = true := HX.out
      have e2 := hx rfl
      clear hx HX
      go_upto_region 3 with fail
      clear e1 e2 d7
      by_cases h1 : r.q = wrap64 (B.w.seq + 1)
      case neg =>
        have hR := HR2.out
        rw [if_pos h1] at hR
        subst hR
        have e1 : (r.q != IntKind.i64.wrap (B.w.seq + 1)) = true := by rw [Go.IntWalk.i64_left]; exact bne_yes h1
        clear h1
        apply wp_region_G 9 (fun _ => none) (valsL (_ :: _ :: _ :: _ :: _ :: _ :: _ :: _ :: _ :: [])) ?hm2 ?hB2 ?hal2 ?main2
        case hm2 => kernel_rfl
        case hB2 => kernel_rfl
        case hal2 =>
          intro i o obj ho hi
          cases hi
        rotate_left 9
        intro ops QT HO HQ
        obtain ⟨ho0, HO⟩ := HO
        refine wpG_v ho0.out rfl ?_ ?_
        · simp only [valsL_zero, valsL_succ]; apply FY_in rfl; intro wx hx
          go_simp
          exact ⟨rfl, rfl⟩
        simp only [Act.put, List.setIfInBounds_toArray, List.set_cons_zero, List.set_cons_succ, valsL_zero, valsL_succ]
        obtain ⟨ho1, HO⟩ := HO
        refine wpG_v ho1.out rfl ?_ ?_
        · simp only [valsL_zero, valsL_succ]; apply FY_in rfl; intro wx hx
          have hc0 := sb_cell (hx.heap H3.out (fun h => h))
          have hz0 := (HB1.out.frm0 hx).c11
          go_simp
          exact ⟨rfl, rfl⟩
        simp only [Act.put, List.setIfInBounds_toArray, List.set_cons_zero, List.set_cons_succ, valsL_zero, valsL_succ]
        obtain ⟨ho2, HO⟩ := HO
        refine wpG_v ho2.out rfl ?_ ?_
        · simp only [valsL_zero, valsL_succ]; apply FY_in rfl; intro wx hx
          go_simp
          exact ⟨rfl, rfl⟩
        simp only [Act.put, List.setIfInBounds_toArray, List.set_cons_zero, List.set_cons_succ, valsL_zero, valsL_succ]
        obtain ⟨ho3, HO⟩ := HO
        refine wpG_v ho3.out rfl ?_ ?_
        · simp only [valsL_zero, valsL_succ]; apply FY_in rfl; intro wx hx
          go_simp
          exact ⟨rfl, rfl⟩
        simp only [Act.put, List.setIfInBounds_toArray, List.set_cons_zero, List.set_cons_succ, valsL_zero, valsL_succ]
        obtain ⟨ho4, HO⟩ := HO
        refine wpG_v ho4.out rfl ?_ ?_
        · simp only [valsL_zero, valsL_succ]; apply FY_in rfl; intro wx hx
          go_simp
          exact ⟨rfl, rfl⟩
        simp only [Act.put, List.setIfInBounds_toArray, List.set_cons_zero, List.set_cons_succ, valsL_zero, valsL_succ]
        obtain ⟨ho5, HO⟩ := HO
        refine wpG_v ho5.out rfl ?_ ?_
        · simp only [valsL_zero, valsL_succ]; apply FY_in rfl; intro wx hx
          go_simp
          exact ⟨rfl, rfl⟩
        simp only [Act.put, List.setIfInBounds_toArray, List.set_cons_zero, List.set_cons_succ, valsL_zero, valsL_succ]
        obtain ⟨ho6, HO⟩ := HO
        refine wpG_v ho6.out rfl ?_ ?_
        · simp only [valsL_zero, valsL_succ]; apply FY_in rfl; intro wx hx
          have hc0 := sb_cell (hx.heap H3.out (fun h => h))
          have hz0 := (HB1.out.frm0 hx).c11
          go_simp
          exact ⟨rfl, rfl⟩
        simp only [Act.put, List.setIfInBounds_toArray, List.set_cons_zero, List.set_cons_succ, valsL_zero, valsL_succ]
        obtain ⟨ho7, HO⟩ := HO
        refine wpG_v ho7.out rfl ?_ ?_
        · simp only [valsL_zero, valsL_succ]; apply FY_in rfl; intro wx hx
          go_simp
          exact ⟨rfl, rfl⟩
        simp only [Act.put, List.setIfInBounds_toArray, List.set_cons_zero, List.set_cons_succ, valsL_zero, valsL_succ]
        obtain ⟨ho8, HO⟩ := HO
        refine wpG_v ho8.out rfl ?_ ?_
        · simp only [valsL_zero, valsL_succ]; apply FY_in rfl; intro wx hx
          go_simp
          exact ⟨rfl, rfl⟩
        simp only [Act.put, List.setIfInBounds_toArray, List.set_cons_zero, List.set_cons_succ, valsL_zero, valsL_succ]
        refine HQ.out _ _ ?_
        intro w2 hf hE hN
        simp only [List.drop_succ_cons, List.drop_zero]
        clear HQ HO hE hN ho0 ho1 ho2 ho3 ho4 ho5 ho6 ho7 ho8
        have HF2 := hid (HF1.out.then0 hf)
        clear hf e1
        go_wp2_with fail
        go_ret
        exact ⟨rfl, HF2.out⟩
      case pos =>
        have hR := HR2.out
        rw [if_neg (fun h => h h1)] at hR
        have e1 : (r.q != IntKind.i64.wrap (B.w.seq + 1)) = false := by rw [Go.IntWalk.i64_left]; exact bne_no h1
        clear h1 HR2
        have HR3 := hid hR
        clear hR
        apply wp_region_G 9 (fun _ => none) (valsL (_ :: _ :: _ :: _ :: _ :: _ :: _ :: _ :: _ :: [])) ?hm3 ?hB3 ?hal3 ?main3
        case hm3 => kernel_rfl
        case hB3 => kernel_rfl
        case hal3 =>
          intro i o obj ho hi
          cases hi
        rotate_left 9
        intro ops QT HO HQ
        obtain ⟨ho0, HO⟩ := HO
        refine wpG_v ho0.out rfl ?_ ?_
        · simp only [valsL_zero, valsL_succ]; apply FY_in rfl; intro wx hx
          go_simp
          exact ⟨rfl, rfl⟩
        simp only [Act.put, List.setIfInBounds_toArray, List.set_cons_zero, List.set_cons_succ, valsL_zero, valsL_succ]
        obtain ⟨ho1, HO⟩ := HO
        refine wpG_v ho1.out rfl ?_ ?_
        · simp only [valsL_zero, valsL_succ]; apply FY_in rfl; intro wx hx
          have hc0 := sb_cell (hx.heap H3.out (fun h => h))
          have hz0 := (HB1.out.frm0 hx).c11
          go_simp
          exact ⟨rfl, rfl⟩
        simp only [Act.put, List.setIfInBounds_toArray, List.set_cons_zero, List.set_cons_succ, valsL_zero, valsL_succ]
        obtain ⟨ho2, HO⟩ := HO
        refine wpG_v ho2.out rfl ?_ ?_
        · simp only [valsL_zero, valsL_succ]; apply FY_in rfl; intro wx hx
          go_simp
          exact ⟨rfl, rfl⟩
        simp only [Act.put, List.setIfInBounds_toArray, List.set_cons_zero, List.set_cons_succ, valsL_zero, valsL_succ]
        obtain ⟨ho3, HO⟩ := HO
        refine wpG_v ho3.out rfl ?_ ?_
        · simp only [valsL_zero, valsL_succ]; apply FY_in rfl; intro wx hx
          go_simp
          exact ⟨rfl, rfl⟩
        simp only [Act.put, List.setIfInBounds_toArray, List.set_cons_zero, List.set_cons_succ, valsL_zero, valsL_succ]
        obtain ⟨ho4, HO⟩ := HO
        refine wpG_v ho4.out rfl ?_ ?_
        · simp only [valsL_zero, valsL_succ]; apply FY_in rfl; intro wx hx
          go_simp
          exact ⟨rfl, rfl⟩
        simp only [Act.put, List.setIfInBounds_toArray, List.set_cons_zero, List.set_cons_succ, valsL_zero, valsL_succ]
        obtain ⟨ho5, HO⟩ := HO
        refine wpG_v ho5.out rfl ?_ ?_
        · simp only [valsL_zero, valsL_succ]; apply FY_in rfl; intro wx hx
          go_simp
          exact ⟨rfl, rfl⟩
        simp only [Act.put, List.setIfInBounds_toArray, List.set_cons_zero, List.set_cons_succ, valsL_zero, valsL_succ]
        obtain ⟨ho6, HO⟩ := HO
        refine wpG_v ho6.out rfl ?_ ?_
        · simp only [valsL_zero, valsL_succ]; apply FY_in rfl; intro wx hx
          have hc0 := sb_cell (hx.heap H3.out (fun h => h))
          have hz0 := (HB1.out.frm0 hx).c11
          go_simp
          exact ⟨rfl, rfl⟩
        simp only [Act.put, List.setIfInBounds_toArray, List.set_cons_zero, List.set_cons_succ, valsL_zero, valsL_succ]
        obtain ⟨ho7, HO⟩ := HO
        refine wpG_v ho7.out rfl ?_ ?_
        · simp only [valsL_zero, valsL_succ]; apply FY_in rfl; intro wx hx
          go_simp
          exact ⟨rfl, rfl⟩
        simp only [Act.put, List.setIfInBounds_toArray, List.set_cons_zero, List.set_cons_succ, valsL_zero, valsL_succ]
        obtain ⟨ho8, HO⟩ := HO
        refine wpG_v ho8.out rfl ?_ ?_
        · simp only [valsL_zero, valsL_succ]; apply FY_in rfl; intro wx hx
          go_simp
          exact ⟨rfl, rfl⟩
        simp only [Act.put, List.setIfInBounds_toArray, List.set_cons_zero, List.set_cons_succ, valsL_zero, valsL_succ]
        refine HQ.out _ _ ?_
        intro w2 hf hE hN
        simp only [List.drop_succ_cons, List.drop_zero]
        clear HQ HO hE hN ho0 ho1 ho2 ho3 ho4 ho5 ho6 ho7 ho8
        have HF2 := hid (HF1.out.then0 hf)
        have HB2 := hid (HB1.out.frm0 hf)
        have H32 := hid (hf.heap H3.out (fun h => h))
        clear hf
        go_upto_region 5 with fail
        clear e1
        by_cases h2 : r.n = 0
        · have hR := HR3.out
          rw [if_neg (fun h => h.1 h2)] at hR
          subst hR
          have e2 := bne_no h2
          clear h2
          apply wp_region_G 24 (fun _ => none) (valsL (_ :: _ :: _ :: _ :: _ :: _ :: _ :: _ :: _ :: _ :: _ :: _ :: _ :: _ :: _ :: _ :: _ :: _ :: _ :: _ :: _ :: _ :: _ :: _ :: [])) ?hm4 ?hB4 ?hal4 ?main4
          case hm4 => kernel_rfl
          case hB4 => kernel_rfl
          case hal4 =>
            intro i o obj ho hi
            cases hi
          rotate_left 24
          intro ops QT HO HQ
          obtain ⟨ho0, HO⟩ := HO
          refine wpG_v ho0.out rfl ?_ ?_
          · simp only [valsL_zero, valsL_succ]; apply FY_in rfl; intro wx hx
            go_simp
            exact ⟨rfl, rfl⟩
          simp only [Act.put, List.setIfInBounds_toArray, List.set_cons_zero, List.set_cons_succ, valsL_zero, valsL_succ]
          obtain ⟨ho1, HO⟩ := HO
          refine wpG_v ho1.out rfl ?_ ?_
          · simp only [valsL_zero, valsL_succ]; apply FY_in rfl; intro wx hx
            have hc0 := sb_cell (hx.heap H32.out (fun h => h))
            have hz0 := (HB2.out.frm0 hx).c12
            have hz1 := (HB2.out.frm0 hx).c6
            go_simp
            exact ⟨rfl, rfl⟩
          simp only [Act.put, List.setIfInBounds_toArray, List.set_cons_zero, List.set_cons_succ, valsL_zero, valsL_succ]
          obtain ⟨ho2, HO⟩ := HO
          refine wpG_v ho2.out rfl ?_ ?_
          · simp only [valsL_zero, valsL_succ]; apply FY_in rfl; intro wx hx
            go_simp
            exact ⟨rfl, rfl⟩
          simp only [Act.put, List.setIfInBounds_toArray, List.set_cons_zero, List.set_cons_succ, valsL_zero, valsL_succ]
          obtain ⟨ho3, HO⟩ := HO
          refine wpG_v ho3.out rfl ?_ ?_
          · simp only [valsL_zero, valsL_succ]; apply FY_in rfl; intro wx hx
            go_simp
            exact ⟨rfl, rfl⟩
          simp only [Act.put, List.setIfInBounds_toArray, List.set_cons_zero, List.set_cons_succ, valsL_zero, valsL_succ]
          obtain ⟨ho4, HO⟩ := HO
          refine wpG_v ho4.out rfl ?_ ?_
          · simp only [valsL_zero, valsL_succ]; exact FY_no (d := 34) rfl ho3.out (by rfl) (by kernel_rfl)
          simp only [Act.put, List.setIfInBounds_toArray, List.set_cons_zero, List.set_cons_succ, valsL_zero, valsL_succ]
          obtain ⟨ho5, HO⟩ := HO
          refine wpG_v ho5.out rfl ?_ ?_
          · simp only [valsL_zero, valsL_succ]; exact FY_no (d := 34) rfl ho3.out (by rfl) (by kernel_rfl)
          simp only [Act.put, List.setIfInBounds_toArray, List.set_cons_zero, List.set_cons_succ, valsL_zero, valsL_succ]
          obtain ⟨ho6, HO⟩ := HO
          refine wpG_v ho6.out rfl ?_ ?_
          · simp only [valsL_zero, valsL_succ]; exact FY_no (d := 34) rfl ho3.out (by rfl) (by kernel_rfl)
          simp only [Act.put, List.setIfInBounds_toArray, List.set_cons_zero, List.set_cons_succ, valsL_zero, valsL_succ]
          obtain ⟨ho7, HO⟩ := HO
          refine wpG_v ho7.out rfl ?_ ?_
          · simp only [valsL_zero, valsL_succ]; exact FY_no (d := 34) rfl ho3.out (by rfl) (by kernel_rfl)
          simp only [Act.put, List.setIfInBounds_toArray, List.set_cons_zero, List.set_cons_succ, valsL_zero, valsL_succ]
          obtain ⟨ho8, HO⟩ := HO
          refine wpG_v ho8.out rfl ?_ ?_
          · simp only [valsL_zero, valsL_succ]; exact FY_no (d := 34) rfl ho3.out (by rfl) (by kernel_rfl)
          simp only [Act.put, List.setIfInBounds_toArray, List.set_cons_zero, List.set_cons_succ, valsL_zero, valsL_succ]
          obtain ⟨ho9, HO⟩ := HO
          refine wpG_v ho9.out rfl ?_ ?_
          · simp only [valsL_zero, valsL_succ]; exact FY_no (d := 34) rfl ho3.out (by rfl) (by kernel_rfl)
          simp only [Act.put, List.setIfInBounds_toArray, List.set_cons_zero, List.set_cons_succ, valsL_zero, valsL_succ]
          obtain ⟨ho10, HO⟩ := HO
          refine wpG_v ho10.out rfl ?_ ?_
          · simp only [valsL_zero, valsL_succ]; exact FY_no (d := 34) rfl ho3.out (by rfl) (by kernel_rfl)
          simp only [Act.put, List.setIfInBounds_toArray, List.set_cons_zero, List.set_cons_succ, valsL_zero, valsL_succ]
          obtain ⟨ho11, HO⟩ := HO
          refine wpG_v ho11.out rfl ?_ ?_
          · simp only [valsL_zero, valsL_succ]; exact FY_no (d := 34) rfl ho3.out (by rfl) (by kernel_rfl)
          simp only [Act.put, List.setIfInBounds_toArray, List.set_cons_zero, List.set_cons_succ, valsL_zero, valsL_succ]
          obtain ⟨ho12, HO⟩ := HO
          refine wpG_v ho12.out rfl ?_ ?_
          · simp only [valsL_zero, valsL_succ]; exact FY_no (d := 34) rfl ho3.out (by rfl) (by kernel_rfl)
          simp only [Act.put, List.setIfInBounds_toArray, List.set_cons_zero, List.set_cons_succ, valsL_zero, valsL_succ]
          obtain ⟨ho13, HO⟩ := HO
          refine wpG_v ho13.out rfl ?_ ?_
          · simp only [valsL_zero, valsL_succ]; apply FY_in rfl; intro wx hx
            go_simp
            exact ⟨rfl, rfl⟩
          simp only [Act.put, List.setIfInBounds_toArray, List.set_cons_zero, List.set_cons_succ, valsL_zero, valsL_succ]
          obtain ⟨ho14, HO⟩ := HO
          refine wpG_v ho14.out rfl ?_ ?_
          · simp only [valsL_zero, valsL_succ]; apply FY_in rfl; intro wx hx
            go_simp
            exact ⟨rfl, rfl⟩
          simp only [Act.put, List.setIfInBounds_toArray, List.set_cons_zero, List.set_cons_succ, valsL_zero, valsL_succ]
          obtain ⟨ho15, HO⟩ := HO
          refine wpG_v ho15.out rfl ?_ ?_
          · simp only [valsL_zero, valsL_succ]; exact FY_no (d := 45) rfl ho14.out (by rfl) (by kernel_rfl)
          simp only [Act.put, List.setIfInBounds_toArray, List.set_cons_zero, List.set_cons_succ, valsL_zero, valsL_succ]
          obtain ⟨ho16, HO⟩ := HO
          refine wpG_v ho16.out rfl ?_ ?_
          · simp only [valsL_zero, valsL_succ]; exact FY_no (d := 45) rfl ho14.out (by rfl) (by kernel_rfl)
          simp only [Act.put, List.setIfInBounds_toArray, List.set_cons_zero, List.set_cons_succ, valsL_zero, valsL_succ]
          obtain ⟨ho17, HO⟩ := HO
          refine wpG_v ho17.out rfl ?_ ?_
          · simp only [valsL_zero, valsL_succ]; exact FY_no (d := 45) rfl ho14.out (by rfl) (by kernel_rfl)
          simp only [Act.put, List.setIfInBounds_toArray, List.set_cons_zero, List.set_cons_succ, valsL_zero, valsL_succ]
          obtain ⟨ho18, HO⟩ := HO
          refine wpG_v ho18.out rfl ?_ ?_
          · simp only [valsL_zero, valsL_succ]; exact FY_no (d := 45) rfl ho14.out (by rfl) (by kernel_rfl)
          simp only [Act.put, List.setIfInBounds_toArray, List.set_cons_zero, List.set_cons_succ, valsL_zero, valsL_succ]
          obtain ⟨ho19, HO⟩ := HO
          refine wpG_v ho19.out rfl ?_ ?_
          · simp only [valsL_zero, valsL_succ]; exact FY_no (d := 45) rfl ho14.out (by rfl) (by kernel_rfl)
          simp only [Act.put, List.setIfInBounds_toArray, List.set_cons_zero, List.set_cons_succ, valsL_zero, valsL_succ]
          obtain ⟨ho20, HO⟩ := HO
          refine wpG_v ho20.out rfl ?_ ?_
          · simp only [valsL_zero, valsL_succ]; exact FY_no (d := 45) rfl ho14.out (by rfl) (by kernel_rfl)
          simp only [Act.put, List.setIfInBounds_toArray, List.set_cons_zero, List.set_cons_succ, valsL_zero, valsL_succ]
          obtain ⟨ho21, HO⟩ := HO
          refine wpG_v ho21.out rfl ?_ ?_
          · simp only [valsL_zero, valsL_succ]; exact FY_no (d := 45) rfl ho14.out (by rfl) (by kernel_rfl)
          simp only [Act.put, List.setIfInBounds_toArray, List.set_cons_zero, List.set_cons_succ, valsL_zero, valsL_succ]
          obtain ⟨ho22, HO⟩ := HO
          refine wpG_v ho22.out rfl ?_ ?_
          · simp only [valsL_zero, valsL_succ]; exact FY_no (d := 45) rfl ho14.out (by rfl) (by kernel_rfl)
          simp only [Act.put, List.setIfInBounds_toArray, List.set_cons_zero, List.set_cons_succ, valsL_zero, valsL_succ]
          obtain ⟨ho23, HO⟩ := HO
          refine wpG_v ho23.out rfl ?_ ?_
          · simp only [valsL_zero, valsL_succ]; apply FY_in rfl; intro wx hx
            go_simp
            exact ⟨rfl, rfl⟩
          simp only [Act.put, List.setIfInBounds_toArray, List.set_cons_zero, List.set_cons_succ, valsL_zero, valsL_succ]
          refine HQ.out _ _ ?_
          intro w3 hf hE hN
          simp only [List.drop_succ_cons, List.drop_zero]
          clear HQ HO hE hN ho0 ho1 ho2 ho3 ho4 ho5 ho6 ho7 ho8 ho9 ho10 ho11 ho12 ho13 ho14 ho15 ho16 ho17 ho18 ho19 ho20 ho21 ho22 ho23
          have HF3 := hid (HF2.out.then0 hf)
          clear hf e2
          go_wp2_with fail
          go_ret
          exact ⟨rfl, HF3.out⟩
        · have e2 := bne_yes h2
          by_cases h3 : r.n = B.w.spec.s0
          · have hR := HR3.out
            rw [if_neg (fun h => h.2.1 h3)] at hR
            subst hR
            have e3 := bne_no h3
            clear h2 h3
            apply wp_region_G 24 (fun _ => none) (valsL (_ :: _ :: _ :: _ :: _ :: _ :: _ :: _ :: _ :: _ :: _ :: _ :: _ :: _ :: _ :: _ :: _ :: _ :: _ :: _ :: _ :: _ :: _ :: _ :: [])) ?hm5 ?hB5 ?hal5 ?main5
            case hm5 => kernel_rfl
            case hB5 => kernel_rfl
            case hal5 =>
              intro i o obj ho hi
              cases hi
            rotate_left 24
            intro ops QT HO HQ
            obtain ⟨ho0, HO⟩ := HO
            refine wpG_v ho0.out rfl ?_ ?_
            · simp only [valsL_zero, valsL_succ]; apply FY_in rfl; intro wx hx
              go_simp
              exact ⟨rfl, rfl⟩
            simp only [Act.put, List.setIfInBounds_toArray, List.set_cons_zero, List.set_cons_succ, valsL_zero, valsL_succ]
            obtain ⟨ho1, HO⟩ := HO
            refine wpG_v ho1.out rfl ?_ ?_
            · simp only [valsL_zero, valsL_succ]; apply FY_in rfl; intro wx hx
              have hc0 := sb_cell (hx.heap H32.out (fun h => h))
              have hz0 := (HB2.out.frm0 hx).c12
              have hz1 := (HB2.out.frm0 hx).c6
              go_simp
              exact ⟨rfl, rfl⟩
            simp only [Act.put, List.setIfInBounds_toArray, List.set_cons_zero, List.set_cons_succ, valsL_zero, valsL_succ]
            obtain ⟨ho2, HO⟩ := HO
            refine wpG_v ho2.out rfl ?_ ?_
            · simp only [valsL_zero, valsL_succ]; apply FY_in rfl; intro wx hx
              go_simp
              exact ⟨rfl, rfl⟩
            simp only [Act.put, List.setIfInBounds_toArray, List.set_cons_zero, List.set_cons_succ, valsL_zero, valsL_succ]
            obtain ⟨ho3, HO⟩ := HO
            refine wpG_v ho3.out rfl ?_ ?_
            · simp only [valsL_zero, valsL_succ]; apply FY_in rfl; intro wx hx
              go_simp
              exact ⟨rfl, rfl⟩
            simp only [Act.put, List.setIfInBounds_toArray, List.set_cons_zero, List.set_cons_succ, valsL_zero, valsL_succ]
            obtain ⟨ho4, HO⟩ := HO
            refine wpG_v ho4.out rfl ?_ ?_
            · simp only [valsL_zero, valsL_succ]; apply FY_yes (d := 34) rfl ho3.out (by rfl) (by kernel_rfl); intro wx hx
              go_simp
              exact ⟨rfl, rfl⟩
            simp only [Act.put, List.setIfInBounds_toArray, List.set_cons_zero, List.set_cons_succ, valsL_zero, valsL_succ]
            obtain ⟨ho5, HO⟩ := HO
            refine wpG_v ho5.out rfl ?_ ?_
            · simp only [valsL_zero, valsL_succ]; apply FY_yes (d := 34) rfl ho3.out (by rfl) (by kernel_rfl); intro wx hx
              have hc0 := sb_cell (hx.heap H32.out (fun h => h))
              have hz0 := (HB2.out.frm0 hx).c12
              have hz1 := (HB2.out.frm0 hx).c6
              go_simp
              exact ⟨rfl, rfl⟩
            simp only [Act.put, List.setIfInBounds_toArray, List.set_cons_zero, List.set_cons_succ, valsL_zero, valsL_succ]
            obtain ⟨ho6, HO⟩ := HO
            refine wpG_v ho6.out rfl ?_ ?_
            · simp only [valsL_zero, valsL_succ]; apply FY_yes (d := 34) rfl ho3.out (by rfl) (by kernel_rfl); intro wx hx
              go_simp
              exact ⟨rfl, rfl⟩
            simp only [Act.put, List.setIfInBounds_toArray, List.set_cons_zero, List.set_cons_succ, valsL_zero, valsL_succ]
            obtain ⟨ho7, HO⟩ := HO
            refine wpG_v ho7.out rfl ?_ ?_
            · simp only [valsL_zero, valsL_succ]; apply FY_yes (d := 34) rfl ho3.out (by rfl) (by kernel_rfl); intro wx hx
              go_simp
              exact ⟨rfl, rfl⟩
            simp only [Act.put, List.setIfInBounds_toArray, List.set_cons_zero, List.set_cons_succ, valsL_zero, valsL_succ]
            obtain ⟨ho8, HO⟩ := HO
            refine wpG_v ho8.out rfl ?_ ?_
            · simp only [valsL_zero, valsL_succ]; apply FY_yes (d := 34) rfl ho3.out (by rfl) (by kernel_rfl); intro wx hx
              go_simp
              exact ⟨rfl, rfl⟩
            simp only [Act.put, List.setIfInBounds_toArray, List.set_cons_zero, List.set_cons_succ, valsL_zero, valsL_succ]
            obtain ⟨ho9, HO⟩ := HO
            refine wpG_v ho9.out rfl ?_ ?_
            · simp only [valsL_zero, valsL_succ]; apply FY_yes (d := 34) rfl ho3.out (by rfl) (by kernel_rfl); intro wx hx
              go_simp
              exact ⟨rfl, rfl⟩
            simp only [Act.put, List.setIfInBounds_toArray, List.set_cons_zero, List.set_cons_succ, valsL_zero, valsL_succ]
            obtain ⟨ho10, HO⟩ := HO
            refine wpG_v ho10.out rfl ?_ ?_
            · simp only [valsL_zero, valsL_succ]; apply FY_yes (d := 34) rfl ho3.out (by rfl) (by kernel_rfl); intro wx hx
              go_simp
              exact ⟨rfl, rfl⟩
            simp only [Act.put, List.setIfInBounds_toArray, List.set_cons_zero, List.set_cons_succ, valsL_zero, valsL_succ]
            obtain ⟨ho11, HO⟩ := HO
            refine wpG_v ho11.out rfl ?_ ?_
            · simp only [valsL_zero, valsL_succ]; apply FY_yes (d := 34) rfl ho3.out (by rfl) (by kernel_rfl); intro wx hx
              have hc0 := sb_cell (hx.heap H32.out (fun h => h))
              have hz0 := (HB2.out.frm0 hx).c12
              have hz1 := (HB2.out.frm0 hx).c6
              go_simp
              exact ⟨rfl, rfl⟩
            simp only [Act.put, List.setIfInBounds_toArray, List.set_cons_zero, List.set_cons_succ, valsL_zero, valsL_succ]
            obtain ⟨ho12, HO⟩ := HO
            refine wpG_v ho12.out rfl ?_ ?_
            · simp only [valsL_zero, valsL_succ]; apply FY_yes (d := 34) rfl ho3.out (by rfl) (by kernel_rfl); intro wx hx
              go_simp
              exact ⟨rfl, rfl⟩
            simp only [Act.put, List.setIfInBounds_toArray, List.set_cons_zero, List.set_cons_succ, valsL_zero, valsL_succ]
            obtain ⟨ho13, HO⟩ := HO
            refine wpG_v ho13.out rfl ?_ ?_
            · simp only [valsL_zero, valsL_succ]; apply FY_in rfl; intro wx hx
              go_simp
              exact ⟨rfl, rfl⟩
            simp only [Act.put, List.setIfInBounds_toArray, List.set_cons_zero, List.set_cons_succ, valsL_zero, valsL_succ]
            obtain ⟨ho14, HO⟩ := HO
            refine wpG_v ho14.out rfl ?_ ?_
            · simp only [valsL_zero, valsL_succ]; apply FY_in rfl; intro wx hx
              go_simp
              exact ⟨rfl, rfl⟩
            simp only [Act.put, List.setIfInBounds_toArray, List.set_cons_zero, List.set_cons_succ, valsL_zero, valsL_succ]
            obtain ⟨ho15, HO⟩ := HO
            refine wpG_v ho15.out rfl ?_ ?_
            · simp only [valsL_zero, valsL_succ]; exact FY_no (d := 45) rfl ho14.out (by rfl) (by kernel_rfl)
            simp only [Act.put, List.setIfInBounds_toArray, List.set_cons_zero, List.set_cons_succ, valsL_zero, valsL_succ]
            obtain ⟨ho16, HO⟩ := HO
            refine wpG_v ho16.out rfl ?_ ?_
            · simp only [valsL_zero, valsL_succ]; exact FY_no (d := 45) rfl ho14.out (by rfl) (by kernel_rfl)
            simp only [Act.put, List.setIfInBounds_toArray, List.set_cons_zero, List.set_cons_succ, valsL_zero, valsL_succ]
            obtain ⟨ho17, HO⟩ := HO
            refine wpG_v ho17.out rfl ?_ ?_
            · simp only [valsL_zero, valsL_succ]; exact FY_no (d := 45) rfl ho14.out (by rfl) (by kernel_rfl)
            simp only [Act.put, List.setIfInBounds_toArray, List.set_cons_zero, List.set_cons_succ, valsL_zero, valsL_succ]
            obtain ⟨ho18, HO⟩ := HO
            refine wpG_v ho18.out rfl ?_ ?_
            · simp only [valsL_zero, valsL_succ]; exact FY_no (d := 45) rfl ho14.out (by rfl) (by kernel_rfl)
            simp only [Act.put, List.setIfInBounds_toArray, List.set_cons_zero, List.set_cons_succ, valsL_zero, valsL_succ]
            obtain ⟨ho19, HO⟩ := HO
            refine wpG_v ho19.out rfl ?_ ?_
            · simp only [valsL_zero, valsL_succ]; exact FY_no (d := 45) rfl ho14.out (by rfl) (by kernel_rfl)
            simp only [Act.put, List.setIfInBounds_toArray, List.set_cons_zero, List.set_cons_succ, valsL_zero, valsL_succ]
            obtain ⟨ho20, HO⟩ := HO
            refine wpG_v ho20.out rfl ?_ ?_
            · simp only [valsL_zero, valsL_succ]; exact FY_no (d := 45) rfl ho14.out (by rfl) (by kernel_rfl)
            simp only [Act.put, List.setIfInBounds_toArray, List.set_cons_zero, List.set_cons_succ, valsL_zero, valsL_succ]
            obtain ⟨ho21, HO⟩ := HO
            refine wpG_v ho21.out rfl ?_ ?_
            · simp only [valsL_zero, valsL_succ]; exact FY_no (d := 45) rfl ho14.out (by rfl) (by kernel_rfl)
            simp only [Act.put, List.setIfInBounds_toArray, List.set_cons_zero, List.set_cons_succ, valsL_zero, valsL_succ]
            obtain ⟨ho22, HO⟩ := HO
            refine wpG_v ho22.out rfl ?_ ?_
            · simp only [valsL_zero, valsL_succ]; exact FY_no (d := 45) rfl ho14.out (by rfl) (by kernel_rfl)
            simp only [Act.put, List.setIfInBounds_toArray, List.set_cons_zero, List.set_cons_succ, valsL_zero, valsL_succ]
            obtain ⟨ho23, HO⟩ := HO
            refine wpG_v ho23.out rfl ?_ ?_
            · simp only [valsL_zero, valsL_succ]; apply FY_in rfl; intro wx hx
              go_simp
              exact ⟨rfl, rfl⟩
            simp only [Act.put, List.setIfInBounds_toArray, List.set_cons_zero, List.set_cons_succ, valsL_zero, valsL_succ]
            refine HQ.out _ _ ?_
            intro w3 hf hE hN
            simp only [List.drop_succ_cons, List.drop_zero]
            clear HQ HO hE hN ho0 ho1 ho2 ho3 ho4 ho5 ho6 ho7 ho8 ho9 ho10 ho11 ho12 ho13 ho14 ho15 ho16 ho17 ho18 ho19 ho20 ho21 ho22 ho23
            have HF3 := hid (HF2.out.then0 hf)
            clear hf e2 e3
            go_wp2_with fail
            go_ret
            exact ⟨rfl, HF3.out⟩
          · have e3 := bne_yes h3
            by_cases h4 : r.n = B.w.from'
            · have hR := HR3.out
              rw [if_neg (fun h => h.2.2 h4)] at hR
              subst hR
              have e4 := bne_no h4
              clear h2 h3 h4
              apply wp_region_G 24 (fun _ => none) (valsL (_ :: _ :: _ :: _ :: _ :: _ :: _ :: _ :: _ :: _ :: _ :: _ :: _ :: _ :: _ :: _ :: _ :: _ :: _ :: _ :: _ :: _ :: _ :: _ :: [])) ?hm6 ?hB6 ?hal6 ?main6
              case hm6 => kernel_rfl
              case hB6 => kernel_rfl
              case hal6 =>
                intro i o obj ho hi
                cases hi
              rotate_left 24
              intro ops QT HO HQ
              obtain ⟨ho0, HO⟩ := HO
              refine wpG_v ho0.out rfl ?_ ?_
              · simp only [valsL_zero, valsL_succ]; apply FY_in rfl; intro wx hx
                go_simp
                exact ⟨rfl, rfl⟩
              simp only [Act.put, List.setIfInBounds_toArray, List.set_cons_zero, List.set_cons_succ, valsL_zero, valsL_succ]
              obtain ⟨ho1, HO⟩ := HO
              refine wpG_v ho1.out rfl ?_ ?_
              · simp only [valsL_zero, valsL_succ]; apply FY_in rfl; intro wx hx
                have hc0 := sb_cell (hx.heap H32.out (fun h => h))
                have hz0 := (HB2.out.frm0 hx).c12
                have hz1 := (HB2.out.frm0 hx).c6
                go_simp
                exact ⟨rfl, rfl⟩
              simp only [Act.put, List.setIfInBounds_toArray, List.set_cons_zero, List.set_cons_succ, valsL_zero, valsL_succ]
              obtain ⟨ho2, HO⟩ := HO
              refine wpG_v ho2.out rfl ?_ ?_
              · simp only [valsL_zero, valsL_succ]; apply FY_in rfl; intro wx hx
                go_simp
                exact ⟨rfl, rfl⟩
              simp only [Act.put, List.setIfInBounds_toArray, List.set_cons_zero, List.set_cons_succ, valsL_zero, valsL_succ]
              obtain ⟨ho3, HO⟩ := HO
              refine wpG_v ho3.out rfl ?_ ?_
              · simp only [valsL_zero, valsL_succ]; apply FY_in rfl; intro wx hx
                go_simp
                exact ⟨rfl, rfl⟩
              simp only [Act.put, List.setIfInBounds_toArray, List.set_cons_zero, List.set_cons_succ, valsL_zero, valsL_succ]
              obtain ⟨ho4, HO⟩ := HO
              refine wpG_v ho4.out rfl ?_ ?_
              · simp only [valsL_zero, valsL_succ]; apply FY_yes (d := 34) rfl ho3.out (by rfl) (by kernel_rfl); intro wx hx
                go_simp
                exact ⟨rfl, rfl⟩
              simp only [Act.put, List.setIfInBounds_toArray, List.set_cons_zero, List.set_cons_succ, valsL_zero, valsL_succ]
              obtain ⟨ho5, HO⟩ := HO
              refine wpG_v ho5.out rfl ?_ ?_
              · simp only [valsL_zero, valsL_succ]; apply FY_yes (d := 34) rfl ho3.out (by rfl) (by kernel_rfl); intro wx hx
                have hc0 := sb_cell (hx.heap H32.out (fun h => h))
                have hz0 := (HB2.out.frm0 hx).c12
                have hz1 := (HB2.out.frm0 hx).c6
                go_simp
                exact ⟨rfl, rfl⟩
              simp only [Act.put, List.setIfInBounds_toArray, List.set_cons_zero, List.set_cons_succ, valsL_zero, valsL_succ]
              obtain ⟨ho6, HO⟩ := HO
              refine wpG_v ho6.out rfl ?_ ?_
              · simp only [valsL_zero, valsL_succ]; apply FY_yes (d := 34) rfl ho3.out (by rfl) (by kernel_rfl); intro wx hx
                go_simp
                exact ⟨rfl, rfl⟩
              simp only [Act.put, List.setIfInBounds_toArray, List.set_cons_zero, List.set_cons_succ, valsL_zero, valsL_succ]
              obtain ⟨ho7, HO⟩ := HO
              refine wpG_v ho7.out rfl ?_ ?_
              · simp only [valsL_zero, valsL_succ]; apply FY_yes (d := 34) rfl ho3.out (by rfl) (by kernel_rfl); intro wx hx
                go_simp
                exact ⟨rfl, rfl⟩
              simp only [Act.put, List.setIfInBounds_toArray, List.set_cons_zero, List.set_cons_succ, valsL_zero, valsL_succ]
              obtain ⟨ho8, HO⟩ := HO
              refine wpG_v ho8.out rfl ?_ ?_
              · simp only [valsL_zero, valsL_succ]; apply FY_yes (d := 34) rfl ho3.out (by rfl) (by kernel_rfl); intro wx hx
                go_simp
                exact ⟨rfl, rfl⟩
              simp only [Act.put, List.setIfInBounds_toArray, List.set_cons_zero, List.set_cons_succ, valsL_zero, valsL_succ]
              obtain ⟨ho9, HO⟩ := HO
              refine wpG_v ho9.out rfl ?_ ?_
              · simp only [valsL_zero, valsL_succ]; apply FY_yes (d := 34) rfl ho3.out (by rfl) (by kernel_rfl); intro wx hx
                go_simp
                exact ⟨rfl, rfl⟩
              simp only [Act.put, List.setIfInBounds_toArray, List.set_cons_zero, List.set_cons_succ, valsL_zero, valsL_succ]
              obtain ⟨ho10, HO⟩ := HO
              refine wpG_v ho10.out rfl ?_ ?_
              · simp only [valsL_zero, valsL_succ]; apply FY_yes (d := 34) rfl ho3.out (by rfl) (by kernel_rfl); intro wx hx
                go_simp
                exact ⟨rfl, rfl⟩
              simp only [Act.put, List.setIfInBounds_toArray, List.set_cons_zero, List.set_cons_succ, valsL_zero, valsL_succ]
              obtain ⟨ho11, HO⟩ := HO
              refine wpG_v ho11.out rfl ?_ ?_
              · simp only [valsL_zero, valsL_succ]; apply FY_yes (d := 34) rfl ho3.out (by rfl) (by kernel_rfl); intro wx hx
                have hc0 := sb_cell (hx.heap H32.out (fun h => h))
                have hz0 := (HB2.out.frm0 hx).c12
                have hz1 := (HB2.out.frm0 hx).c6
                go_simp
                exact ⟨rfl, rfl⟩
              simp only [Act.put, List.setIfInBounds_toArray, List.set_cons_zero, List.set_cons_succ, valsL_zero, valsL_succ]
              obtain ⟨ho12, HO⟩ := HO
              refine wpG_v ho12.out rfl ?_ ?_
              · simp only [valsL_zero, valsL_succ]; apply FY_yes (d := 34) rfl ho3.out (by rfl) (by kernel_rfl); intro wx hx
                go_simp
                exact ⟨rfl, rfl⟩
              simp only [Act.put, List.setIfInBounds_toArray, List.set_cons_zero, List.set_cons_succ, valsL_zero, valsL_succ]
              obtain ⟨ho13, HO⟩ := HO
              refine wpG_v ho13.out rfl ?_ ?_
              · simp only [valsL_zero, valsL_succ]; apply FY_in rfl; intro wx hx
                go_simp
                exact ⟨rfl, rfl⟩
              simp only [Act.put, List.setIfInBounds_toArray, List.set_cons_zero, List.set_cons_succ, valsL_zero, valsL_succ]
              obtain ⟨ho14, HO⟩ := HO
              refine wpG_v ho14.out rfl ?_ ?_
              · simp only [valsL_zero, valsL_succ]; apply FY_in rfl; intro wx hx
                go_simp
                exact ⟨rfl, rfl⟩
              simp only [Act.put, List.setIfInBounds_toArray, List.set_cons_zero, List.set_cons_succ, valsL_zero, valsL_succ]
              obtain ⟨ho15, HO⟩ := HO
              refine wpG_v ho15.out rfl ?_ ?_
              · simp only [valsL_zero, valsL_succ]; apply FY_yes (d := 45) rfl ho14.out (by rfl) (by kernel_rfl); intro wx hx
                go_simp
                exact ⟨rfl, rfl⟩
              simp only [Act.put, List.setIfInBounds_toArray, List.set_cons_zero, List.set_cons_succ, valsL_zero, valsL_succ]
              obtain ⟨ho16, HO⟩ := HO
              refine wpG_v ho16.out rfl ?_ ?_
              · simp only [valsL_zero, valsL_succ]; apply FY_yes (d := 45) rfl ho14.out (by rfl) (by kernel_rfl); intro wx hx
                have hc0 := sb_cell (hx.heap H32.out (fun h => h))
                have hz0 := (HB2.out.frm0 hx).c12
                have hz1 := (HB2.out.frm0 hx).c6
                go_simp
                exact ⟨rfl, rfl⟩
              simp only [Act.put, List.setIfInBounds_toArray, List.set_cons_zero, List.set_cons_succ, valsL_zero, valsL_succ]
              obtain ⟨ho17, HO⟩ := HO
              refine wpG_v ho17.out rfl ?_ ?_
              · simp only [valsL_zero, valsL_succ]; apply FY_yes (d := 45) rfl ho14.out (by rfl) (by kernel_rfl); intro wx hx
                go_simp
                exact ⟨rfl, rfl⟩
              simp only [Act.put, List.setIfInBounds_toArray, List.set_cons_zero, List.set_cons_succ, valsL_zero, valsL_succ]
              obtain ⟨ho18, HO⟩ := HO
              refine wpG_v ho18.out rfl ?_ ?_
              · simp only [valsL_zero, valsL_succ]; apply FY_yes (d := 45) rfl ho14.out (by rfl) (by kernel_rfl); intro wx hx
                go_simp
                exact ⟨rfl, rfl⟩
              simp only [Act.put, List.setIfInBounds_toArray, List.set_cons_zero, List.set_cons_succ, valsL_zero, valsL_succ]
              obtain ⟨ho19, HO⟩ := HO
              refine wpG_v ho19.out rfl ?_ ?_
              · simp only [valsL_zero, valsL_succ]; apply FY_yes (d := 45) rfl ho14.out (by rfl) (by kernel_rfl); intro wx hx
                go_simp
                exact ⟨rfl, rfl⟩
              simp only [Act.put, List.setIfInBounds_toArray, List.set_cons_zero, List.set_cons_succ, valsL_zero, valsL_succ]
              obtain ⟨ho20, HO⟩ := HO
              refine wpG_v ho20.out rfl ?_ ?_
              · simp only [valsL_zero, valsL_succ]; apply FY_yes (d := 45) rfl ho14.out (by rfl) (by kernel_rfl); intro wx hx
                go_simp
                exact ⟨rfl, rfl⟩
              simp only [Act.put, List.setIfInBounds_toArray, List.set_cons_zero, List.set_cons_succ, valsL_zero, valsL_succ]
              obtain ⟨ho21, HO⟩ := HO
              refine wpG_v ho21.out rfl ?_ ?_
              · simp only [valsL_zero, valsL_succ]; apply FY_yes (d := 45) rfl ho14.out (by rfl) (by kernel_rfl); intro wx hx
                have hc0 := sb_cell (hx.heap H32.out (fun h => h))
                have hz0 := (HB2.out.frm0 hx).c12
                have hz1 := (HB2.out.frm0 hx).c6
                go_simp
                exact ⟨rfl, rfl⟩
              simp only [Act.put, List.setIfInBounds_toArray, List.set_cons_zero, List.set_cons_succ, valsL_zero, valsL_succ]
              obtain ⟨ho22, HO⟩ := HO
              refine wpG_v ho22.out rfl ?_ ?_
              · simp only [valsL_zero, valsL_succ]; apply FY_yes (d := 45) rfl ho14.out (by rfl) (by kernel_rfl); intro wx hx
                go_simp
                exact ⟨rfl, rfl⟩
              simp only [Act.put, List.setIfInBounds_toArray, List.set_cons_zero, List.set_cons_succ, valsL_zero, valsL_succ]
              obtain ⟨ho23, HO⟩ := HO
              refine wpG_v ho23.out rfl ?_ ?_
              · simp only [valsL_zero, valsL_succ]; apply FY_in rfl; intro wx hx
                go_simp
                exact ⟨rfl, rfl⟩
              simp only [Act.put, List.setIfInBounds_toArray, List.set_cons_zero, List.set_cons_succ, valsL_zero, valsL_succ]
              refine HQ.out _ _ ?_
              intro w3 hf hE hN
              simp only [List.drop_succ_cons, List.drop_zero]
              clear HQ HO hE hN ho0 ho1 ho2 ho3 ho4 ho5 ho6 ho7 ho8 ho9 ho10 ho11 ho12 ho13 ho14 ho15 ho16 ho17 ho18 ho19 ho20 ho21 ho22 ho23
              have HF3 := hid (HF2.out.then0 hf)
              clear hf e2 e3 e4
              go_wp2_with fail
              go_ret
              exact ⟨rfl, HF3.out⟩
            · have hR := HR3.out
              rw [if_pos ⟨h2, h3, h4⟩] at hR
              subst hR
              have e4 := bne_yes h4
              clear h2 h3 h4
              apply wp_region_G 24 (fun _ => none) (valsL (_ :: _ :: _ :: _ :: _ :: _ :: _ :: _ :: _ :: _ :: _ :: _ :: _ :: _ :: _ :: _ :: _ :: _ :: _ :: _ :: _ :: _ :: _ :: _ :: [])) ?hm7 ?hB7 ?hal7 ?main7
              case hm7 => kernel_rfl
              case hB7 => kernel_rfl
              case hal7 =>
                intro i o obj ho hi
                cases hi
              rotate_left 24
              intro ops QT HO HQ
              obtain ⟨ho0, HO⟩ := HO
              refine wpG_v ho0.out rfl ?_ ?_
              · simp only [valsL_zero, valsL_succ]; apply FY_in rfl; intro wx hx
                go_simp
                exact ⟨rfl, rfl⟩
              simp only [Act.put, List.setIfInBounds_toArray, List.set_cons_zero, List.set_cons_succ, valsL_zero, valsL_succ]
              obtain ⟨ho1, HO⟩ := HO
              refine wpG_v ho1.out rfl ?_ ?_
              · simp only [valsL_zero, valsL_succ]; apply FY_in rfl; intro wx hx
                have hc0 := sb_cell (hx.heap H32.out (fun h => h))
                have hz0 := (HB2.out.frm0 hx).c12
                have hz1 := (HB2.out.frm0 hx).c6
                go_simp
                exact ⟨rfl, rfl⟩
              simp only [Act.put, List.setIfInBounds_toArray, List.set_cons_zero, List.set_cons_succ, valsL_zero, valsL_succ]
              obtain ⟨ho2, HO⟩ := HO
              refine wpG_v ho2.out rfl ?_ ?_
              · simp only [valsL_zero, valsL_succ]; apply FY_in rfl; intro wx hx
                go_simp
                exact ⟨rfl, rfl⟩
              simp only [Act.put, List.setIfInBounds_toArray, List.set_cons_zero, List.set_cons_succ, valsL_zero, valsL_succ]
              obtain ⟨ho3, HO⟩ := HO
              refine wpG_v ho3.out rfl ?_ ?_
              · simp only [valsL_zero, valsL_succ]; apply FY_in rfl; intro wx hx
                go_simp
                exact ⟨rfl, rfl⟩
              simp only [Act.put, List.setIfInBounds_toArray, List.set_cons_zero, List.set_cons_succ, valsL_zero, valsL_succ]
              obtain ⟨ho4, HO⟩ := HO
              refine wpG_v ho4.out rfl ?_ ?_
              · simp only [valsL_zero, valsL_succ]; apply FY_yes (d := 34) rfl ho3.out (by rfl) (by kernel_rfl); intro wx hx
                go_simp
                exact ⟨rfl, rfl⟩
              simp only [Act.put, List.setIfInBounds_toArray, List.set_cons_zero, List.set_cons_succ, valsL_zero, valsL_succ]
              obtain ⟨ho5, HO⟩ := HO
              refine wpG_v ho5.out rfl ?_ ?_
              · simp only [valsL_zero, valsL_succ]; apply FY_yes (d := 34) rfl ho3.out (by rfl) (by kernel_rfl); intro wx hx
                have hc0 := sb_cell (hx.heap H32.out (fun h => h))
                have hz0 := (HB2.out.frm0 hx).c12
                have hz1 := (HB2.out.frm0 hx).c6
                go_simp
                exact ⟨rfl, rfl⟩
              simp only [Act.put, List.setIfInBounds_toArray, List.set_cons_zero, List.set_cons_succ, valsL_zero, valsL_succ]
              obtain ⟨ho6, HO⟩ := HO
              refine wpG_v ho6.out rfl ?_ ?_
              · simp only [valsL_zero, valsL_succ]; apply FY_yes (d := 34) rfl ho3.out (by rfl) (by kernel_rfl); intro wx hx
                go_simp
                exact ⟨rfl, rfl⟩
              simp only [Act.put, List.setIfInBounds_toArray, List.set_cons_zero, List.set_cons_succ, valsL_zero, valsL_succ]
              obtain ⟨ho7, HO⟩ := HO
              refine wpG_v ho7.out rfl ?_ ?_
              · simp only [valsL_zero, valsL_succ]; apply FY_yes (d := 34) rfl ho3.out (by rfl) (by kernel_rfl); intro wx hx
                go_simp
                exact ⟨rfl, rfl⟩
              simp only [Act.put, List.setIfInBounds_toArray, List.set_cons_zero, List.set_cons_succ, valsL_zero, valsL_succ]
              obtain ⟨ho8, HO⟩ := HO
              refine wpG_v ho8.out rfl ?_ ?_
              · simp only [valsL_zero, valsL_succ]; apply FY_yes (d := 34) rfl ho3.out (by rfl) (by kernel_rfl); intro wx hx
                go_simp
                exact ⟨rfl, rfl⟩
              simp only [Act.put, List.setIfInBounds_toArray, List.set_cons_zero, List.set_cons_succ, valsL_zero, valsL_succ]
              obtain ⟨ho9, HO⟩ := HO
              refine wpG_v ho9.out rfl ?_ ?_
              · simp only [valsL_zero, valsL_succ]; apply FY_yes (d := 34) rfl ho3.out (by rfl) (by kernel_rfl); intro wx hx
                go_simp
                exact ⟨rfl, rfl⟩
              simp only [Act.put, List.setIfInBounds_toArray, List.set_cons_zero, List.set_cons_succ, valsL_zero, valsL_succ]
              obtain ⟨ho10, HO⟩ := HO
              refine wpG_v ho10.out rfl ?_ ?_
              · simp only [valsL_zero, valsL_succ]; apply FY_yes (d := 34) rfl ho3.out (by rfl) (by kernel_rfl); intro wx hx
                go_simp
                exact ⟨rfl, rfl⟩
              simp only [Act.put, List.setIfInBounds_toArray, List.set_cons_zero, List.set_cons_succ, valsL_zero, valsL_succ]
              obtain ⟨ho11, HO⟩ := HO
              refine wpG_v ho11.out rfl ?_ ?_
              · simp only [valsL_zero, valsL_succ]; apply FY_yes (d := 34) rfl ho3.out (by rfl) (by kernel_rfl); intro wx hx
                have hc0 := sb_cell (hx.heap H32.out (fun h => h))
                have hz0 := (HB2.out.frm0 hx).c12
                have hz1 := (HB2.out.frm0 hx).c6
                go_simp
                exact ⟨rfl, rfl⟩
              simp only [Act.put, List.setIfInBounds_toArray, List.set_cons_zero, List.set_cons_succ, valsL_zero, valsL_succ]
              obtain ⟨ho12, HO⟩ := HO
              refine wpG_v ho12.out rfl ?_ ?_
              · simp only [valsL_zero, valsL_succ]; apply FY_yes (d := 34) rfl ho3.out (by rfl) (by kernel_rfl); intro wx hx
                go_simp
                exact ⟨rfl, rfl⟩
              simp only [Act.put, List.setIfInBounds_toArray, List.set_cons_zero, List.set_cons_succ, valsL_zero, valsL_succ]
              obtain ⟨ho13, HO⟩ := HO
              refine wpG_v ho13.out rfl ?_ ?_
              · simp only [valsL_zero, valsL_succ]; apply FY_in rfl; intro wx hx
                go_simp
                exact ⟨rfl, rfl⟩
              simp only [Act.put, List.setIfInBounds_toArray, List.set_cons_zero, List.set_cons_succ, valsL_zero, valsL_succ]
              obtain ⟨ho14, HO⟩ := HO
              refine wpG_v ho14.out rfl ?_ ?_
              · simp only [valsL_zero, valsL_succ]; apply FY_in rfl; intro wx hx
                go_simp
                exact ⟨rfl, rfl⟩
              simp only [Act.put, List.setIfInBounds_toArray, List.set_cons_zero, List.set_cons_succ, valsL_zero, valsL_succ]
              obtain ⟨ho15, HO⟩ := HO
              refine wpG_v ho15.out rfl ?_ ?_
              · simp only [valsL_zero, valsL_succ]; apply FY_yes (d := 45) rfl ho14.out (by rfl) (by kernel_rfl); intro wx hx
                go_simp
                exact ⟨rfl, rfl⟩
              simp only [Act.put, List.setIfInBounds_toArray, List.set_cons_zero, List.set_cons_succ, valsL_zero, valsL_succ]
              obtain ⟨ho16, HO⟩ := HO
              refine wpG_v ho16.out rfl ?_ ?_
              · simp only [valsL_zero, valsL_succ]; apply FY_yes (d := 45) rfl ho14.out (by rfl) (by kernel_rfl); intro wx hx
                have hc0 := sb_cell (hx.heap H32.out (fun h => h))
                have hz0 := (HB2.out.frm0 hx).c12
                have hz1 := (HB2.out.frm0 hx).c6
                go_simp
                exact ⟨rfl, rfl⟩
              simp only [Act.put, List.setIfInBounds_toArray, List.set_cons_zero, List.set_cons_succ, valsL_zero, valsL_succ]
              obtain ⟨ho17, HO⟩ := HO
              refine wpG_v ho17.out rfl ?_ ?_
              · simp only [valsL_zero, valsL_succ]; apply FY_yes (d := 45) rfl ho14.out (by rfl) (by kernel_rfl); intro wx hx
                go_simp
                exact ⟨rfl, rfl⟩
              simp only [Act.put, List.setIfInBounds_toArray, List.set_cons_zero, List.set_cons_succ, valsL_zero, valsL_succ]
              obtain ⟨ho18, HO⟩ := HO
              refine wpG_v ho18.out rfl ?_ ?_
              · simp only [valsL_zero, valsL_succ]; apply FY_yes (d := 45) rfl ho14.out (by rfl) (by kernel_rfl); intro wx hx
                go_simp
                exact ⟨rfl, rfl⟩
              simp only [Act.put, List.setIfInBounds_toArray, List.set_cons_zero, List.set_cons_succ, valsL_zero, valsL_succ]
              obtain ⟨ho19, HO⟩ := HO
              refine wpG_v ho19.out rfl ?_ ?_
              · simp only [valsL_zero, valsL_succ]; apply FY_yes (d := 45) rfl ho14.out (by rfl) (by kernel_rfl); intro wx hx
                go_simp
                exact ⟨rfl, rfl⟩
              simp only [Act.put, List.setIfInBounds_toArray, List.set_cons_zero, List.set_cons_succ, valsL_zero, valsL_succ]
              obtain ⟨ho20, HO⟩ := HO
              refine wpG_v ho20.out rfl ?_ ?_
              · simp only [valsL_zero, valsL_succ]; apply FY_yes (d := 45) rfl ho14.out (by rfl) (by kernel_rfl); intro wx hx
                go_simp
                exact ⟨rfl, rfl⟩
              simp only [Act.put, List.setIfInBounds_toArray, List.set_cons_zero, List.set_cons_succ, valsL_zero, valsL_succ]
              obtain ⟨ho21, HO⟩ := HO
              refine wpG_v ho21.out rfl ?_ ?_
              · simp only [valsL_zero, valsL_succ]; apply FY_yes (d := 45) rfl ho14.out (by rfl) (by kernel_rfl); intro wx hx
                have hc0 := sb_cell (hx.heap H32.out (fun h => h))
                have hz0 := (HB2.out.frm0 hx).c12
                have hz1 := (HB2.out.frm0 hx).c6
                go_simp
                exact ⟨rfl, rfl⟩
              simp only [Act.put, List.setIfInBounds_toArray, List.set_cons_zero, List.set_cons_succ, valsL_zero, valsL_succ]
              obtain ⟨ho22, HO⟩ := HO
              refine wpG_v ho22.out rfl ?_ ?_
              · simp only [valsL_zero, valsL_succ]; apply FY_yes (d := 45) rfl ho14.out (by rfl) (by kernel_rfl); intro wx hx
                go_simp
                exact ⟨rfl, rfl⟩
              simp only [Act.put, List.setIfInBounds_toArray, List.set_cons_zero, List.set_cons_succ, valsL_zero, valsL_succ]
              obtain ⟨ho23, HO⟩ := HO
              refine wpG_v ho23.out rfl ?_ ?_
              · simp only [valsL_zero, valsL_succ]; apply FY_in rfl; intro wx hx
                go_simp
                exact ⟨rfl, rfl⟩
              simp only [Act.put, List.setIfInBounds_toArray, List.set_cons_zero, List.set_cons_succ, valsL_zero, valsL_succ]
              refine HQ.out _ _ ?_
              intro w3 hf hE hN
              simp only [List.drop_succ_cons, List.drop_zero]
              clear HQ HO hE hN ho0 ho1 ho2 ho3 ho4 ho5 ho6 ho7 ho8 ho9 ho10 ho11 ho12 ho13 ho14 ho15 ho16 ho17 ho18 ho19 ho20 ho21 ho22 ho23
              have HF3 := hid (HF2.out.then0 hf)
              clear hf e2 e3 e4
              go_wp2_with fail
              go_ret
              exact ⟨rfl, HF3.out⟩
    | false =>
      have e1 : (B.w.phase != 1) = false := HX.out
      clear hx HX
      go_upto_region 3 with fail
      clear e1 d7
      by_cases h1 : r.q = wrap64 (B.w.seq + 1)
      case neg =>
        have hR := HR2.out
        rw [if_pos h1] at hR
        subst hR
        have e1 : (r.q != IntKind.i64.wrap (B.w.seq + 1)) = true := by rw [Go.IntWalk.i64_left]; exact bne_yes h1
        clear h1
        apply wp_region_G 9 (fun _ => none) (valsL (_ :: _ :: _ :: _ :: _ :: _ :: _ :: _ :: _ :: [])) ?hm8 ?hB8 ?hal8 ?main8
        case hm8 => kernel_rfl
        case hB8 => kernel_rfl
        case hal8 =>
          intro i o obj ho hi
          cases hi
        rotate_left 9
        intro ops QT HO HQ
        obtain ⟨ho0, HO⟩ := HO
        refine wpG_v ho0.out rfl ?_ ?_
        · simp only [valsL_zero, valsL_succ]; apply FY_in rfl; intro wx hx
          go_simp
          exact ⟨rfl, rfl⟩
        simp only [Act.put, List.setIfInBounds_toArray, List.set_cons_zero, List.set_cons_succ, valsL_zero, valsL_succ]
        obtain ⟨ho1, HO⟩ := HO
        refine wpG_v ho1.out rfl ?_ ?_
        · simp only [valsL_zero, valsL_succ]; apply FY_in rfl; intro wx hx
          have hc0 := sb_cell (hx.heap H3.out (fun h => h))
          have hz0 := (HB1.out.frm0 hx).c11
          go_simp
          exact ⟨rfl, rfl⟩
        simp only [Act.put, List.setIfInBounds_toArray, List.set_cons_zero, List.set_cons_succ, valsL_zero, valsL_succ]
        obtain ⟨ho2, HO⟩ := HO
        refine wpG_v ho2.out rfl ?_ ?_
        · simp only [valsL_zero, valsL_succ]; apply FY_in rfl; intro wx hx
          go_simp
          exact ⟨rfl, rfl⟩
        simp only [Act.put, List.setIfInBounds_toArray, List.set_cons_zero, List.set_cons_succ, valsL_zero, valsL_succ]
        obtain ⟨ho3, HO⟩ := HO
        refine wpG_v ho3.out rfl ?_ ?_
        · simp only [valsL_zero, valsL_succ]; apply FY_in rfl; intro wx hx
          go_simp
          exact ⟨rfl, rfl⟩
        simp only [Act.put, List.setIfInBounds_toArray, List.set_cons_zero, List.set_cons_succ, valsL_zero, valsL_succ]
        obtain ⟨ho4, HO⟩ := HO
        refine wpG_v ho4.out rfl ?_ ?_
        · simp only [valsL_zero, valsL_succ]; apply FY_in rfl; intro wx hx
          go_simp
          exact ⟨rfl, rfl⟩
        simp only [Act.put, List.setIfInBounds_toArray, List.set_cons_zero, List.set_cons_succ, valsL_zero, valsL_succ]
        obtain ⟨ho5, HO⟩ := HO
        refine wpG_v ho5.out rfl ?_ ?_
        · simp only [valsL_zero, valsL_succ]; apply FY_in rfl; intro wx hx
          go_simp
          exact ⟨rfl, rfl⟩
        simp only [Act.put, List.setIfInBounds_toArray, List.set_cons_zero, List.set_cons_succ, valsL_zero, valsL_succ]
        obtain ⟨ho6, HO⟩ := HO
        refine wpG_v ho6.out rfl ?_ ?_
        · simp only [valsL_zero, valsL_succ]; apply FY_in rfl; intro wx hx
          have hc0 := sb_cell (hx.heap H3.out (fun h => h))
          have hz0 := (HB1.out.frm0 hx).c11
          go_simp
          exact ⟨rfl, rfl⟩
        simp only [Act.put, List.setIfInBounds_toArray, List.set_cons_zero, List.set_cons_succ, valsL_zero, valsL_succ]
        obtain ⟨ho7, HO⟩ := HO
        refine wpG_v ho7.out rfl ?_ ?_
        · simp only [valsL_zero, valsL_succ]; apply FY_in rfl; intro wx hx
          go_simp
          exact ⟨rfl, rfl⟩
        simp only [Act.put, List.setIfInBounds_toArray, List.set_cons_zero, List.set_cons_succ, valsL_zero, valsL_succ]
        obtain ⟨ho8, HO⟩ := HO
        refine wpG_v ho8.out rfl ?_ ?_
        · simp only [valsL_zero, valsL_succ]; apply FY_in rfl; intro wx hx
          go_simp
          exact ⟨rfl, rfl⟩
        simp only [Act.put, List.setIfInBounds_toArray, List.set_cons_zero, List.set_cons_succ, valsL_zero, valsL_succ]
        refine HQ.out _ _ ?_
        intro w2 hf hE hN
        simp only [List.drop_succ_cons, List.drop_zero]
        clear HQ HO hE hN ho0 ho1 ho2 ho3 ho4 ho5 ho6 ho7 ho8
        have HF2 := hid (HF1.out.then0 hf)
        clear hf e1
        go_wp2_with fail
        go_ret
        exact ⟨rfl, HF2.out⟩
      case pos =>
        have hR := HR2.out
        rw [if_neg (fun h => h h1)] at hR
        have e1 : (r.q != IntKind.i64.wrap (B.w.seq + 1)) = false := by rw [Go.IntWalk.i64_left]; exact bne_no h1
        clear h1 HR2
        have HR3 := hid hR
        clear hR
        apply wp_region_G 9 (fun _ => none) (valsL (_ :: _ :: _ :: _ :: _ :: _ :: _ :: _ :: _ :: [])) ?hm9 ?hB9 ?hal9 ?main9
        case hm9 => kernel_rfl
        case hB9 => kernel_rfl
        case hal9 =>
          intro i o obj ho hi
          cases hi
        rotate_left 9
        intro ops QT HO HQ
        obtain ⟨ho0, HO⟩ := HO
        refine wpG_v ho0.out rfl ?_ ?_
        · simp only [valsL_zero, valsL_succ]; apply FY_in rfl; intro wx hx
          go_simp
          exact ⟨rfl, rfl⟩
        simp only [Act.put, List.setIfInBounds_toArray, List.set_cons_zero, List.set_cons_succ, valsL_zero, valsL_succ]
        obtain ⟨ho1, HO⟩ := HO
        refine wpG_v ho1.out rfl ?_ ?_
        · simp only [valsL_zero, valsL_succ]; apply FY_in rfl; intro wx hx
          have hc0 := sb_cell (hx.heap H3.out (fun h => h))
          have hz0 := (HB1.out.frm0 hx).c11
          go_simp
          exact ⟨rfl, rfl⟩
        simp only [Act.put, List.setIfInBounds_toArray, List.set_cons_zero, List.set_cons_succ, valsL_zero, valsL_succ]
        obtain ⟨ho2, HO⟩ := HO
        refine wpG_v ho2.out rfl ?_ ?_
        · simp only [valsL_zero, valsL_succ]; apply FY_in rfl; intro wx hx
          go_simp
          exact ⟨rfl, rfl⟩
        simp only [Act.put, List.setIfInBounds_toArray, List.set_cons_zero, List.set_cons_succ, valsL_zero, valsL_succ]
        obtain ⟨ho3, HO⟩ := HO
        refine wpG_v ho3.out rfl ?_ ?_
        · simp only [valsL_zero, valsL_succ]; apply FY_in rfl; intro wx hx
          go_simp
          exact ⟨rfl, rfl⟩
        simp only [Act.put, List.setIfInBounds_toArray, List.set_cons_zero, List.set_cons_succ, valsL_zero, valsL_succ]
        obtain ⟨ho4, HO⟩ := HO
        refine wpG_v ho4.out rfl ?_ ?_
        · simp only [valsL_zero, valsL_succ]; apply FY_in rfl; intro wx hx
          go_simp
          exact ⟨rfl, rfl⟩
        simp only [Act.put, List.setIfInBounds_toArray, List.set_cons_zero, List.set_cons_succ, valsL_zero, valsL_succ]
        obtain ⟨ho5, HO⟩ := HO
        refine wpG_v ho5.out rfl ?_ ?_
        · simp only [valsL_zero, valsL_succ]; apply FY_in rfl; intro wx hx
          go_simp
          exact ⟨rfl, rfl⟩
        simp only [Act.put, List.setIfInBounds_toArray, List.set_cons_zero, List.set_cons_succ, valsL_zero, valsL_succ]
        obtain ⟨ho6, HO⟩ := HO
        refine wpG_v ho6.out rfl ?_ ?_
        · simp only [valsL_zero, valsL_succ]; apply FY_in rfl; intro wx hx
          have hc0 := sb_cell (hx.heap H3.out (fun h => h))
          have hz0 := (HB1.out.frm0 hx).c11
          go_simp
          exact ⟨rfl, rfl⟩
        simp only [Act.put, List.setIfInBounds_toArray, List.set_cons_zero, List.set_cons_succ, valsL_zero, valsL_succ]
        obtain ⟨ho7, HO⟩ := HO
        refine wpG_v ho7.out rfl ?_ ?_
        · simp only [valsL_zero, valsL_succ]; apply FY_in rfl; intro wx hx
          go_simp
          exact ⟨rfl, rfl⟩
        simp only [Act.put, List.setIfInBounds_toArray, List.set_cons_zero, List.set_cons_succ, valsL_zero, valsL_succ]
        obtain ⟨ho8, HO⟩ := HO
        refine wpG_v ho8.out rfl ?_ ?_
        · simp only [valsL_zero, valsL_succ]; apply FY_in rfl; intro wx hx
          go_simp
          exact ⟨rfl, rfl⟩
        simp only [Act.put, List.setIfInBounds_toArray, List.set_cons_zero, List.set_cons_succ, valsL_zero, valsL_succ]
        refine HQ.out _ _ ?_
        intro w2 hf hE hN
        simp only [List.drop_succ_cons, List.drop_zero]
        clear HQ HO hE hN ho0 ho1 ho2 ho3 ho4 ho5 ho6 ho7 ho8
        have HF2 := hid (HF1.out.then0 hf)
        have HB2 := hid (HB1.out.frm0 hf)
        have H32 := hid (hf.heap H3.out (fun h => h))
        clear hf
        go_upto_region 5 with fail
        clear e1
        by_cases h2 : r.n = 0
        · have hR := HR3.out
          rw [if_neg (fun h => h.1 h2)] at hR
          subst hR
          have e2 := bne_no h2
          clear h2
          apply wp_region_G 24 (fun _ => none) (valsL (_ :: _ :: _ :: _ :: _ :: _ :: _ :: _ :: _ :: _ :: _ :: _ :: _ :: _ :: _ :: _ :: _ :: _ :: _ :: _ :: _ :: _ :: _ :: _ :: [])) ?hm10 ?hB10 ?hal10 ?main10
          case hm10 => kernel_rfl
          case hB10 => kernel_rfl
          case hal10 =>
            intro i o obj ho hi
            cases hi
          rotate_left 24
          intro ops QT HO HQ
          obtain ⟨ho0, HO⟩ := HO
          refine wpG_v ho0.out rfl ?_ ?_
          · simp only [valsL_zero, valsL_succ]; apply FY_in rfl; intro wx hx
            go_simp
            exact ⟨rfl, rfl⟩
          simp only [Act.put, List.setIfInBounds_toArray, List.set_cons_zero, List.set_cons_succ, valsL_zero, valsL_succ]
          obtain ⟨ho1, HO⟩ := HO
          refine wpG_v ho1.out rfl ?_ ?_
          · simp only [valsL_zero, valsL_succ]; apply FY_in rfl; intro wx hx
            have hc0 := sb_cell (hx.heap H32.out (fun h => h))
            have hz0 := (HB2.out.frm0 hx).c12
            have hz1 := (HB2.out.frm0 hx).c6
            go_simp
            exact ⟨rfl, rfl⟩
          simp only [Act.put, List.setIfInBounds_toArray, List.set_cons_zero, List.set_cons_succ, valsL_zero, valsL_succ]
          obtain ⟨ho2, HO⟩ := HO
          refine wpG_v ho2.out rfl ?_ ?_
          · simp only [valsL_zero, valsL_succ]; apply FY_in rfl; intro wx hx
            go_simp
            exact ⟨rfl, rfl⟩
          simp only [Act.put, List.setIfInBounds_toArray, List.set_cons_zero, List.set_cons_succ, valsL_zero, valsL_succ]
          obtain ⟨ho3, HO⟩ := HO
          refine wpG_v ho3.out rfl ?_ ?_
          · simp only [valsL_zero, valsL_succ]; apply FY_in rfl; intro wx hx
            go_simp
            exact ⟨rfl, rfl⟩
          simp only [Act.put, List.setIfInBounds_toArray, List.set_cons_zero, List.set_cons_succ, valsL_zero, valsL_succ]
          obtain ⟨ho4, HO⟩ := HO
          refine wpG_v ho4.out rfl ?_ ?_
          · simp only [valsL_zero, valsL_succ]; exact FY_no (d := 34) rfl ho3.out (by rfl) (by kernel_rfl)
          simp only [Act.put, List.setIfInBounds_toArray, List.set_cons_zero, List.set_cons_succ, valsL_zero, valsL_succ]
          obtain ⟨ho5, HO⟩ := HO
          refine wpG_v ho5.out rfl ?_ ?_
          · simp only [valsL_zero, valsL_succ]; exact FY_no (d := 34) rfl ho3.out (by rfl) (by kernel_rfl)
          simp only [Act.put, List.setIfInBounds_toArray, List.set_cons_zero, List.set_cons_succ, valsL_zero, valsL_succ]
          obtain ⟨ho6, HO⟩ := HO
          refine wpG_v ho6.out rfl ?_ ?_
          · simp only [valsL_zero, valsL_succ]; exact FY_no (d := 34) rfl ho3.out (by rfl) (by kernel_rfl)
          simp only [Act.put, List.setIfInBounds_toArray, List.set_cons_zero, List.set_cons_succ, valsL_zero, valsL_succ]
          obtain ⟨ho7, HO⟩ := HO
          refine wpG_v ho7.out rfl ?_ ?_
          · simp only [valsL_zero, valsL_succ]; exact FY_no (d := 34) rfl ho3.out (by rfl) (by kernel_rfl)
          simp only [Act.put, List.setIfInBounds_toArray, List.set_cons_zero, List.set_cons_succ, valsL_zero, valsL_succ]
          obtain ⟨ho8, HO⟩ := HO
          refine wpG_v ho8.out rfl ?_ ?_
          · simp only [valsL_zero, valsL_succ]; exact FY_no (d := 34) rfl ho3.out (by rfl) (by kernel_rfl)
          simp only [Act.put, List.setIfInBounds_toArray, List.set_cons_zero, List.set_cons_succ, valsL_zero, valsL_succ]
          obtain ⟨ho9, HO⟩ := HO
          refine wpG_v ho9.out rfl ?_ ?_
          · simp only [valsL_zero, valsL_succ]; exact FY_no (d := 34) rfl ho3.out (by rfl) (by kernel_rfl)
          simp only [Act.put, List.setIfInBounds_toArray, List.set_cons_zero, List.set_cons_succ, valsL_zero, valsL_succ]
          obtain ⟨ho10, HO⟩ := HO
          refine wpG_v ho10.out rfl ?_ ?_
          · simp only [valsL_zero, valsL_succ]; exact FY_no (d := 34) rfl ho3.out (by rfl) (by kernel_rfl)
          simp only [Act.put, List.setIfInBounds_toArray, List.set_cons_zero, List.set_cons_succ, valsL_zero, valsL_succ]
          obtain ⟨ho11, HO⟩ := HO
          refine wpG_v ho11.out rfl ?_ ?_
          · simp only [valsL_zero, valsL_succ]; exact FY_no (d := 34) rfl ho3.out (by rfl) (by kernel_rfl)
          simp only [Act.put, List.setIfInBounds_toArray, List.set_cons_zero, List.set_cons_succ, valsL_zero, valsL_succ]
          obtain ⟨ho12, HO⟩ := HO
          refine wpG_v ho12.out rfl ?_ ?_
          · simp only [valsL_zero, valsL_succ]; exact FY_no (d := 34) rfl ho3.out (by rfl) (by kernel_rfl)
          simp only [Act.put, List.setIfInBounds_toArray, List.set_cons_zero, List.set_cons_succ, valsL_zero, valsL_succ]
          obtain ⟨ho13, HO⟩ := HO
          refine wpG_v ho13.out rfl ?_ ?_
          · simp only [valsL_zero, valsL_succ]; apply FY_in rfl; intro wx hx
            go_simp
            exact ⟨rfl, rfl⟩
          simp only [Act.put, List.setIfInBounds_toArray, List.set_cons_zero, List.set_cons_succ, valsL_zero, valsL_succ]
          obtain ⟨ho14, HO⟩ := HO
          refine wpG_v ho14.out rfl ?_ ?_
          · simp only [valsL_zero, valsL_succ]; apply FY_in rfl; intro wx hx
            go_simp
            exact ⟨rfl, rfl⟩
          simp only [Act.put, List.setIfInBounds_toArray, List.set_cons_zero, List.set_cons_succ, valsL_zero, valsL_succ]
          obtain ⟨ho15, HO⟩ := HO
          refine wpG_v ho15.out rfl ?_ ?_
          · simp only [valsL_zero, valsL_succ]; exact FY_no (d := 45) rfl ho14.out (by rfl) (by kernel_rfl)
          simp only [Act.put, List.setIfInBounds_toArray, List.set_cons_zero, List.set_cons_succ, valsL_zero, valsL_succ]
          obtain ⟨ho16, HO⟩ := HO
          refine wpG_v ho16.out rfl ?_ ?_
          · simp only [valsL_zero, valsL_succ]; exact FY_no (d := 45) rfl ho14.out (by rfl) (by kernel_rfl)
          simp only [Act.put, List.setIfInBounds_toArray, List.set_cons_zero, List.set_cons_succ, valsL_zero, valsL_succ]
          obtain ⟨ho17, HO⟩ := HO
          refine wpG_v ho17.out rfl ?_ ?_
          · simp only [valsL_zero, valsL_succ]; exact FY_no (d := 45) rfl ho14.out (by rfl) (by kernel_rfl)
          simp only [Act.put, List.setIfInBounds_toArray, List.set_cons_zero, List.set_cons_succ, valsL_zero, valsL_succ]
          obtain ⟨ho18, HO⟩ := HO
          refine wpG_v ho18.out rfl ?_ ?_
          · simp only [valsL_zero, valsL_succ]; exact FY_no (d := 45) rfl ho14.out (by rfl) (by kernel_rfl)
          simp only [Act.put, List.setIfInBounds_toArray, List.set_cons_zero, List.set_cons_succ, valsL_zero, valsL_succ]
          obtain ⟨ho19, HO⟩ := HO
          refine wpG_v ho19.out rfl ?_ ?_
          · simp only [valsL_zero, valsL_succ]; exact FY_no (d := 45) rfl ho14.out (by rfl) (by kernel_rfl)
          simp only [Act.put, List.setIfInBounds_toArray, List.set_cons_zero, List.set_cons_succ, valsL_zero, valsL_succ]
          obtain ⟨ho20, HO⟩ := HO
          refine wpG_v ho20.out rfl ?_ ?_
          · simp only [valsL_zero, valsL_succ]; exact FY_no (d := 45) rfl ho14.out (by rfl) (by kernel_rfl)
          simp only [Act.put, List.setIfInBounds_toArray, List.set_cons_zero, List.set_cons_succ, valsL_zero, valsL_succ]
          obtain ⟨ho21, HO⟩ := HO
          refine wpG_v ho21.out rfl ?_ ?_
          · simp only [valsL_zero, valsL_succ]; exact FY_no (d := 45) rfl ho14.out (by rfl) (by kernel_rfl)
          simp only [Act.put, List.setIfInBounds_toArray, List.set_cons_zero, List.set_cons_succ, valsL_zero, valsL_succ]
          obtain ⟨ho22, HO⟩ := HO
          refine wpG_v ho22.out rfl ?_ ?_
          · simp only [valsL_zero, valsL_succ]; exact FY_no (d := 45) rfl ho14.out (by rfl) (by kernel_rfl)
          simp only [Act.put, List.setIfInBounds_toArray, List.set_cons_zero, List.set_cons_succ, valsL_zero, valsL_succ]
          obtain ⟨ho23, HO⟩ := HO
          refine wpG_v ho23.out rfl ?_ ?_
          · simp only [valsL_zero, valsL_succ]; apply FY_in rfl; intro wx hx
            go_simp
            exact ⟨rfl, rfl⟩
          simp only [Act.put, List.setIfInBounds_toArray, List.set_cons_zero, List.set_cons_succ, valsL_zero, valsL_succ]
          refine HQ.out _ _ ?_
          intro w3 hf hE hN
          simp only [List.drop_succ_cons, List.drop_zero]
          clear HQ HO hE hN ho0 ho1 ho2 ho3 ho4 ho5 ho6 ho7 ho8 ho9 ho10 ho11 ho12 ho13 ho14 ho15 ho16 ho17 ho18 ho19 ho20 ho21 ho22 ho23
          have HF3 := hid (HF2.out.then0 hf)
          clear hf e2
          go_wp2_with fail
          go_ret
          exact ⟨rfl, HF3.out⟩
        · have e2 := bne_yes h2
          by_cases h3 : r.n = B.w.spec.s0
          · have hR := HR3.out
            rw [if_neg (fun h => h.2.1 h3)] at hR
            subst hR
            have e3 := bne_no h3
            clear h2 h3
            apply wp_region_G 24 (fun _ => none) (valsL (_ :: _ :: _ :: _ :: _ :: _ :: _ :: _ :: _ :: _ :: _ :: _ :: _ :: _ :: _ :: _ :: _ :: _ :: _ :: _ :: _ :: _ :: _ :: _ :: [])) ?hm11 ?hB11 ?hal11 ?main11
            case hm11 => kernel_rfl
            case hB11 => kernel_rfl
            case hal11 =>
              intro i o obj ho hi
              cases hi
            rotate_left 24
            intro ops QT HO HQ
            obtain ⟨ho0, HO⟩ := HO
            refine wpG_v ho0.out rfl ?_ ?_
            · simp only [valsL_zero, valsL_succ]; apply FY_in rfl; intro wx hx
              go_simp
              exact ⟨rfl, rfl⟩
            simp only [Act.put, List.setIfInBounds_toArray, List.set_cons_zero, List.set_cons_succ, valsL_zero, valsL_succ]
            obtain ⟨ho1, HO⟩ := HO
            refine wpG_v ho1.out rfl ?_ ?_
            · simp only [valsL_zero, valsL_succ]; apply FY_in rfl; intro wx hx
              have hc0 := sb_cell (hx.heap H32.out (fun h => h))
              have hz0 := (HB2.out.frm0 hx).c12
              have hz1 := (HB2.out.frm0 hx).c6
              go_simp
              exact ⟨rfl, rfl⟩
            simp only [Act.put, List.setIfInBounds_toArray, List.set_cons_zero, List.set_cons_succ, valsL_zero, valsL_succ]
            obtain ⟨ho2, HO⟩ := HO
            refine wpG_v ho2.out rfl ?_ ?_
            · simp only [valsL_zero, valsL_succ]; apply FY_in rfl; intro wx hx
              go_simp
              exact ⟨rfl, rfl⟩
            simp only [Act.put, List.setIfInBounds_toArray, List.set_cons_zero, List.set_cons_succ, valsL_zero, valsL_succ]
            obtain ⟨ho3, HO⟩ := HO
            refine wpG_v ho3.out rfl ?_ ?_
            · simp only [valsL_zero, valsL_succ]; apply FY_in rfl; intro wx hx
              go_simp
              exact ⟨rfl, rfl⟩
            simp only [Act.put, List.setIfInBounds_toArray, List.set_cons_zero, List.set_cons_succ, valsL_zero, valsL_succ]
            obtain ⟨ho4, HO⟩ := HO
            refine wpG_v ho4.out rfl ?_ ?_
            · simp only [valsL_zero, valsL_succ]; apply FY_yes (d := 34) rfl ho3.out (by rfl) (by kernel_rfl); intro wx hx
              go_simp
              exact ⟨rfl, rfl⟩
            simp only [Act.put, List.setIfInBounds_toArray, List.set_cons_zero, List.set_cons_succ, valsL_zero, valsL_succ]
            obtain ⟨ho5, HO⟩ := HO
            refine wpG_v ho5.out rfl ?_ ?_
            · simp only [valsL_zero, valsL_succ]; apply FY_yes (d := 34) rfl ho3.out (by rfl) (by kernel_rfl); intro wx hx
              have hc0 := sb_cell (hx.heap H32.out (fun h => h))
              have hz0 := (HB2.out.frm0 hx).c12
              have hz1 := (HB2.out.frm0 hx).c6
              go_simp
              exact ⟨rfl, rfl⟩
            simp only [Act.put, List.setIfInBounds_toArray, List.set_cons_zero, List.set_cons_succ, valsL_zero, valsL_succ]
            obtain ⟨ho6, HO⟩ := HO
            refine wpG_v ho6.out rfl ?_ ?_
            · simp only [valsL_zero, valsL_succ]; apply FY_yes (d := 34) rfl ho3.out (by rfl) (by kernel_rfl); intro wx hx
              go_simp
              exact ⟨rfl, rfl⟩
            simp only [Act.put, List.setIfInBounds_toArray, List.set_cons_zero, List.set_cons_succ, valsL_zero, valsL_succ]
            obtain ⟨ho7, HO⟩ := HO
            refine wpG_v ho7.out rfl ?_ ?_
            · simp only [valsL_zero, valsL_succ]; apply FY_yes (d := 34) rfl ho3.out (by rfl) (by kernel_rfl); intro wx hx
              go_simp
              exact ⟨rfl, rfl⟩
            simp only [Act.put, List.setIfInBounds_toArray, List.set_cons_zero, List.set_cons_succ, valsL_zero, valsL_succ]
            obtain ⟨ho8, HO⟩ := HO
            refine wpG_v ho8.out rfl ?_ ?_
            · simp only [valsL_zero, valsL_succ]; apply FY_yes (d := 34) rfl ho3.out (by rfl) (by kernel_rfl); intro wx hx
              go_simp
              exact ⟨rfl, rfl⟩
            simp only [Act.put, List.setIfInBounds_toArray, List.set_cons_zero, List.set_cons_succ, valsL_zero, valsL_succ]
            obtain ⟨ho9, HO⟩ := HO
            refine wpG_v ho9.out rfl ?_ ?_
            · simp only [valsL_zero, valsL_succ]; apply FY_yes (d := 34) rfl ho3.out (by rfl) (by kernel_rfl); intro wx hx
              go_simp
              exact ⟨rfl, rfl⟩
            simp only [Act.put, List.setIfInBounds_toArray, List.set_cons_zero, List.set_cons_succ, valsL_zero, valsL_succ]
            obtain ⟨ho10, HO⟩ := HO
            refine wpG_v ho10.out rfl ?_ ?_
            · simp only [valsL_zero, valsL_succ]; apply FY_yes (d := 34) rfl ho3.out (by rfl) (by kernel_rfl); intro wx hx
              go_simp
              exact ⟨rfl, rfl⟩
            simp only [Act.put, List.setIfInBounds_toArray, List.set_cons_zero, List.set_cons_succ, valsL_zero, valsL_succ]
            obtain ⟨ho11, HO⟩ := HO
            refine wpG_v ho11.out rfl ?_ ?_
            · simp only [valsL_zero, valsL_succ]; apply FY_yes (d := 34) rfl ho3.out (by rfl) (by kernel_rfl); intro wx hx
              have hc0 := sb_cell (hx.heap H32.out (fun h => h))
              have hz0 := (HB2.out.frm0 hx).c12
              have hz1 := (HB2.out.frm0 hx).c6
              go_simp
              exact ⟨rfl, rfl⟩
            simp only [Act.put, List.setIfInBounds_toArray, List.set_cons_zero, List.set_cons_succ, valsL_zero, valsL_succ]
            obtain ⟨ho12, HO⟩ := HO
            refine wpG_v ho12.out rfl ?_ ?_
            · simp only [valsL_zero, valsL_succ]; apply FY_yes (d := 34) rfl ho3.out (by rfl) (by kernel_rfl); intro wx hx
              go_simp
              exact ⟨rfl, rfl⟩
            simp only [Act.put, List.setIfInBounds_toArray, List.set_cons_zero, List.set_cons_succ, valsL_zero, valsL_succ]
            obtain ⟨ho13, HO⟩ := HO
            refine wpG_v ho13.out rfl ?_ ?_
            · simp only [valsL_zero, valsL_succ]; apply FY_in rfl; intro wx hx
              go_simp
              exact ⟨rfl, rfl⟩
            simp only [Act.put, List.setIfInBounds_toArray, List.set_cons_zero, List.set_cons_succ, valsL_zero, valsL_succ]
            obtain ⟨ho14, HO⟩ := HO
            refine wpG_v ho14.out rfl ?_ ?_
            · simp only [valsL_zero, valsL_succ]; apply FY_in rfl; intro wx hx
              go_simp
              exact ⟨rfl, rfl⟩
            simp only [Act.put, List.setIfInBounds_toArray, List.set_cons_zero, List.set_cons_succ, valsL_zero, valsL_succ]
            obtain ⟨ho15, HO⟩ := HO
            refine wpG_v ho15.out rfl ?_ ?_
            · simp only [valsL_zero, valsL_succ]; exact FY_no (d := 45) rfl ho14.out (by rfl) (by kernel_rfl)
            simp only [Act.put, List.setIfInBounds_toArray, List.set_cons_zero, List.set_cons_succ, valsL_zero, valsL_succ]
            obtain ⟨ho16, HO⟩ := HO
            refine wpG_v ho16.out rfl ?_ ?_
            · simp only [valsL_zero, valsL_succ]; exact FY_no (d := 45) rfl ho14.out (by rfl) (by kernel_rfl)
            simp only [Act.put, List.setIfInBounds_toArray, List.set_cons_zero, List.set_cons_succ, valsL_zero, valsL_succ]
            obtain ⟨ho17, HO⟩ := HO
            refine wpG_v ho17.out rfl ?_ ?_
            · simp only [valsL_zero, valsL_succ]; exact FY_no (d := 45) rfl ho14.out (by rfl) (by kernel_rfl)
            simp only [Act.put, List.setIfInBounds_toArray, List.set_cons_zero, List.set_cons_succ, valsL_zero, valsL_succ]
            obtain ⟨ho18, HO⟩ := HO
            refine wpG_v ho18.out rfl ?_ ?_
            · simp only [valsL_zero, valsL_succ]; exact FY_no (d := 45) rfl ho14.out (by rfl) (by kernel_rfl)
            simp only [Act.put, List.setIfInBounds_toArray, List.set_cons_zero, List.set_cons_succ, valsL_zero, valsL_succ]
            obtain ⟨ho19, HO⟩ := HO
            refine wpG_v ho19.out rfl ?_ ?_
            · simp only [valsL_zero, valsL_succ]; exact FY_no (d := 45) rfl ho14.out (by rfl) (by kernel_rfl)
            simp only [Act.put, List.setIfInBounds_toArray, List.set_cons_zero, List.set_cons_succ, valsL_zero, valsL_succ]
            obtain ⟨ho20, HO⟩ := HO
            refine wpG_v ho20.out rfl ?_ ?_
            · simp only [valsL_zero, valsL_succ]; exact FY_no (d := 45) rfl ho14.out (by rfl) (by kernel_rfl)
            simp only [Act.put, List.setIfInBounds_toArray, List.set_cons_zero, List.set_cons_succ, valsL_zero, valsL_succ]
            obtain ⟨ho21, HO⟩ := HO
            refine wpG_v ho21.out rfl ?_ ?_
            · simp only [valsL_zero, valsL_succ]; exact FY_no (d := 45) rfl ho14.out (by rfl) (by kernel_rfl)
            simp only [Act.put, List.setIfInBounds_toArray, List.set_cons_zero, List.set_cons_succ, valsL_zero, valsL_succ]
            obtain ⟨ho22, HO⟩ := HO
            refine wpG_v ho22.out rfl ?_ ?_
            · simp only [valsL_zero, valsL_succ]; exact FY_no (d := 45) rfl ho14.out (by rfl) (by kernel_rfl)
            simp only [Act.put, List.setIfInBounds_toArray, List.set_cons_zero, List.set_cons_succ, valsL_zero, valsL_succ]
            obtain ⟨ho23, HO⟩ := HO
            refine wpG_v ho23.out rfl ?_ ?_
            · simp only [valsL_zero, valsL_succ]; apply FY_in rfl; intro wx hx
              go_simp
              exact ⟨rfl, rfl⟩
            simp only [Act.put, List.setIfInBounds_toArray, List.set_cons_zero, List.set_cons_succ, valsL_zero, valsL_succ]
            refine HQ.out _ _ ?_
            intro w3 hf hE hN
            simp only [List.drop_succ_cons, List.drop_zero]
            clear HQ HO hE hN ho0 ho1 ho2 ho3 ho4 ho5 ho6 ho7 ho8 ho9 ho10 ho11 ho12 ho13 ho14 ho15 ho16 ho17 ho18 ho19 ho20 ho21 ho22 ho23
            have HF3 := hid (HF2.out.then0 hf)
            clear hf e2 e3
            go_wp2_with fail
            go_ret
            exact ⟨rfl, HF3.out⟩
          · have e3 := bne_yes h3
            by_cases h4 : r.n = B.w.from'
            · have hR := HR3.out
              rw [if_neg (fun h => h.2.2 h4)] at hR
              subst hR
              have e4 := bne_no h4
              clear h2 h3 h4
              apply wp_region_G 24 (fun _ => none) (valsL (_ :: _ :: _ :: _ :: _ :: _ :: _ :: _ :: _ :: _ :: _ :: _ :: _ :: _ :: _ :: _ :: _ :: _ :: _ :: _ :: _ :: _ :: _ :: _ :: [])) ?hm12 ?hB12 ?hal12 ?main12
              case hm12 => kernel_rfl
              case hB12 => kernel_rfl
              case hal12 =>
                intro i o obj ho hi
                cases hi
              rotate_left 24
              intro ops QT HO HQ
              obtain ⟨ho0, HO⟩ := HO
              refine wpG_v ho0.out rfl ?_ ?_
              · simp only [valsL_zero, valsL_succ]; apply FY_in rfl; intro wx hx
                go_simp
                exact ⟨rfl, rfl⟩
              simp only [Act.put, List.setIfInBounds_toArray, List.set_cons_zero, List.set_cons_succ, valsL_zero, valsL_succ]
              obtain ⟨ho1, HO⟩ := HO
              refine wpG_v ho1.out rfl ?_ ?_
              · simp only [valsL_zero, valsL_succ]; apply FY_in rfl; intro wx hx
                have hc0 := sb_cell (hx.heap H32.out (fun h => h))
                have hz0 := (HB2.out.frm0 hx).c12
                have hz1 := (HB2.out.frm0 hx).c6
                go_simp
                exact ⟨rfl, rfl⟩
              simp only [Act.put, List.setIfInBounds_toArray, List.set_cons_zero, List.set_cons_succ, valsL_zero, valsL_succ]
              obtain ⟨ho2, HO⟩ := HO
              refine wpG_v ho2.out rfl ?_ ?_
              · simp only [valsL_zero, valsL_succ]; apply FY_in rfl; intro wx hx
                go_simp
                exact ⟨rfl, rfl⟩
              simp only [Act.put, List.setIfInBounds_toArray, List.set_cons_zero, List.set_cons_succ, valsL_zero, valsL_succ]
              obtain ⟨ho3, HO⟩ := HO
              refine wpG_v ho3.out rfl ?_ ?_
              · simp only [valsL_zero, valsL_succ]; apply FY_in rfl; intro wx hx
                go_simp
                exact ⟨rfl, rfl⟩
              simp only [Act.put, List.setIfInBounds_toArray, List.set_cons_zero, List.set_cons_succ, valsL_zero, valsL_succ]
              obtain ⟨ho4, HO⟩ := HO
              refine wpG_v ho4.out rfl ?_ ?_
              · simp only [valsL_zero, valsL_succ]; apply FY_yes (d := 34) rfl ho3.out (by rfl) (by kernel_rfl); intro wx hx
                go_simp
                exact ⟨rfl, rfl⟩
              simp only [Act.put, List.setIfInBounds_toArray, List.set_cons_zero, List.set_cons_succ, valsL_zero, valsL_succ]
              obtain ⟨ho5, HO⟩ := HO
              refine wpG_v ho5.out rfl ?_ ?_
              · simp only [valsL_zero, valsL_succ]; apply FY_yes (d := 34) rfl ho3.out (by rfl) (by kernel_rfl); intro wx hx
                have hc0 := sb_cell (hx.heap H32.out (fun h => h))
                have hz0 := (HB2.out.frm0 hx).c12
                have hz1 := (HB2.out.frm0 hx).c6
                go_simp
                exact ⟨rfl, rfl⟩
              simp only [Act.put, List.setIfInBounds_toArray, List.set_cons_zero, List.set_cons_succ, valsL_zero, valsL_succ]
              obtain ⟨ho6, HO⟩ := HO
              refine wpG_v ho6.out rfl ?_ ?_
              · simp only [valsL_zero, valsL_succ]; apply FY_yes (d := 34) rfl ho3.out (by rfl) (by kernel_rfl); intro wx hx
                go_simp
                exact ⟨rfl, rfl⟩
              simp only [Act.put, List.setIfInBounds_toArray, List.set_cons_zero, List.set_cons_succ, valsL_zero, valsL_succ]
              obtain ⟨ho7, HO⟩ := HO
              refine wpG_v ho7.out rfl ?_ ?_
              · simp only [valsL_zero, valsL_succ]; apply FY_yes (d := 34) rfl ho3.out (by rfl) (by kernel_rfl); intro wx hx
                go_simp
                exact ⟨rfl, rfl⟩
              simp only [Act.put, List.setIfInBounds_toArray, List.set_cons_zero, List.set_cons_succ, valsL_zero, valsL_succ]
              obtain ⟨ho8, HO⟩ := HO
              refine wpG_v ho8.out rfl ?_ ?_
              · simp only [valsL_zero, valsL_succ]; apply FY_yes (d := 34) rfl ho3.out (by rfl) (by kernel_rfl); intro wx hx
                go_simp
                exact ⟨rfl, rfl⟩
              simp only [Act.put, List.setIfInBounds_toArray, List.set_cons_zero, List.set_cons_succ, valsL_zero, valsL_succ]
              obtain ⟨ho9, HO⟩ := HO
              refine wpG_v ho9.out rfl ?_ ?_
              · simp only [valsL_zero, valsL_succ]; apply FY_yes (d := 34) rfl ho3.out (by rfl) (by kernel_rfl); intro wx hx
                go_simp
                exact ⟨rfl, rfl⟩
              simp only [Act.put, List.setIfInBounds_toArray, List.set_cons_zero, List.set_cons_succ, valsL_zero, valsL_succ]
              obtain ⟨ho10, HO⟩ := HO
              refine wpG_v ho10.out rfl ?_ ?_
              · simp only [valsL_zero, valsL_succ]; apply FY_yes (d := 34) rfl ho3.out (by rfl) (by kernel_rfl); intro wx hx
                go_simp
                exact ⟨rfl, rfl⟩
              simp only [Act.put, List.setIfInBounds_toArray, List.set_cons_zero, List.set_cons_succ, valsL_zero, valsL_succ]
              obtain ⟨ho11, HO⟩ := HO
              refine wpG_v ho11.out rfl ?_ ?_
              · simp only [valsL_zero, valsL_succ]; apply FY_yes (d := 34) rfl ho3.out (by rfl) (by kernel_rfl); intro wx hx
                have hc0 := sb_cell (hx.heap H32.out (fun h => h))
                have hz0 := (HB2.out.frm0 hx).c12
                have hz1 := (HB2.out.frm0 hx).c6
                go_simp
                exact ⟨rfl, rfl⟩
              simp only [Act.put, List.setIfInBounds_toArray, List.set_cons_zero, List.set_cons_succ, valsL_zero, valsL_succ]
              obtain ⟨ho12, HO⟩ := HO
              refine wpG_v ho12.out rfl ?_ ?_
              · simp only [valsL_zero, valsL_succ]; apply FY_yes (d := 34) rfl ho3.out (by rfl) (by kernel_rfl); intro wx hx
                go_simp
                exact ⟨rfl, rfl⟩
              simp only [Act.put, List.setIfInBounds_toArray, List.set_cons_zero, List.set_cons_succ, valsL_zero, valsL_succ]
              obtain ⟨ho13, HO⟩ := HO
              refine wpG_v ho13.out rfl ?_ ?_
              · simp only [valsL_zero, valsL_succ]; apply FY_in rfl; intro wx hx
                go_simp
                exact ⟨rfl, rfl⟩
              simp only [Act.put, List.setIfInBounds_toArray, List.set_cons_zero, List.set_cons_succ, valsL_zero, valsL_succ]
              obtain ⟨ho14, HO⟩ := HO
              refine wpG_v ho14.out rfl ?_ ?_
              · simp only [valsL_zero, valsL_succ]; apply FY_in rfl; intro wx hx
                go_simp
                exact ⟨rfl, rfl⟩
              simp only [Act.put, List.setIfInBounds_toArray, List.set_cons_zero, List.set_cons_succ, valsL_zero, valsL_succ]
              obtain ⟨ho15, HO⟩ := HO
              refine wpG_v ho15.out rfl ?_ ?_
              · simp only [valsL_zero, valsL_succ]; apply FY_yes (d := 45) rfl ho14.out (by rfl) (by kernel_rfl); intro wx hx
                go_simp
                exact ⟨rfl, rfl⟩
              simp only [Act.put, List.setIfInBounds_toArray, List.set_cons_zero, List.set_cons_succ, valsL_zero, valsL_succ]
              obtain ⟨ho16, HO⟩ := HO
              refine wpG_v ho16.out rfl ?_ ?_
              · simp only [valsL_zero, valsL_succ]; apply FY_yes (d := 45) rfl ho14.out (by rfl) (by kernel_rfl); intro wx hx
                have hc0 := sb_cell (hx.heap H32.out (fun h => h))
                have hz0 := (HB2.out.frm0 hx).c12
                have hz1 := (HB2.out.frm0 hx).c6
                go_simp
                exact ⟨rfl, rfl⟩
              simp only [Act.put, List.setIfInBounds_toArray, List.set_cons_zero, List.set_cons_succ, valsL_zero, valsL_succ]
              obtain ⟨ho17, HO⟩ := HO
              refine wpG_v ho17.out rfl ?_ ?_
              · simp only [valsL_zero, valsL_succ]; apply FY_yes (d := 45) rfl ho14.out (by rfl) (by kernel_rfl); intro wx hx
                go_simp
                exact ⟨rfl, rfl⟩
              simp only [Act.put, List.setIfInBounds_toArray, List.set_cons_zero, List.set_cons_succ, valsL_zero, valsL_succ]
              obtain ⟨ho18, HO⟩ := HO
              refine wpG_v ho18.out rfl ?_ ?_
              · simp only [valsL_zero, valsL_succ]; apply FY_yes (d := 45) rfl ho14.out (by rfl) (by kernel_rfl); intro wx hx
                go_simp
                exact ⟨rfl, rfl⟩
              simp only [Act.put, List.setIfInBounds_toArray, List.set_cons_zero, List.set_cons_succ, valsL_zero, valsL_succ]
              obtain ⟨ho19, HO⟩ := HO
              refine wpG_v ho19.out rfl ?_ ?_
              · simp only [valsL_zero, valsL_succ]; apply FY_yes (d := 45) rfl ho14.out (by rfl) (by kernel_rfl); intro wx hx
                go_simp
                exact ⟨rfl, rfl⟩
              simp only [Act.put, List.setIfInBounds_toArray, List.set_cons_zero, List.set_cons_succ, valsL_zero, valsL_succ]
              obtain ⟨ho20, HO⟩ := HO
              refine wpG_v ho20.out rfl ?_ ?_
              · simp only [valsL_zero, valsL_succ]; apply FY_yes (d := 45) rfl ho14.out (by rfl) (by kernel_rfl); intro wx hx
                go_simp
                exact ⟨rfl, rfl⟩
              simp only [Act.put, List.setIfInBounds_toArray, List.set_cons_zero, List.set_cons_succ, valsL_zero, valsL_succ]
              obtain ⟨ho21, HO⟩ := HO
              refine wpG_v ho21.out rfl ?_ ?_
              · simp only [valsL_zero, valsL_succ]; apply FY_yes (d := 45) rfl ho14.out (by rfl) (by kernel_rfl); intro wx hx
                have hc0 := sb_cell (hx.heap H32.out (fun h => h))
                have hz0 := (HB2.out.frm0 hx).c12
                have hz1 := (HB2.out.frm0 hx).c6
                go_simp
                exact ⟨rfl, rfl⟩
              simp only [Act.put, List.setIfInBounds_toArray, List.set_cons_zero, List.set_cons_succ, valsL_zero, valsL_succ]
              obtain ⟨ho22, HO⟩ := HO
              refine wpG_v ho22.out rfl ?_ ?_
              · simp only [valsL_zero, valsL_succ]; apply FY_yes (d := 45) rfl ho14.out (by rfl) (by kernel_rfl); intro wx hx
                go_simp
                exact ⟨rfl, rfl⟩
              simp only [Act.put, List.setIfInBounds_toArray, List.set_cons_zero, List.set_cons_succ, valsL_zero, valsL_succ]
              obtain ⟨ho23, HO⟩ := HO
              refine wpG_v ho23.out rfl ?_ ?_
              · simp only [valsL_zero, valsL_succ]; apply FY_in rfl; intro wx hx
                go_simp
                exact ⟨rfl, rfl⟩
              simp only [Act.put, List.setIfInBounds_toArray, List.set_cons_zero, List.set_cons_succ, valsL_zero, valsL_succ]
              refine HQ.out _ _ ?_
              intro w3 hf hE hN
              simp only [List.drop_succ_cons, List.drop_zero]
              clear HQ HO hE hN ho0 ho1 ho2 ho3 ho4 ho5 ho6 ho7 ho8 ho9 ho10 ho11 ho12 ho13 ho14 ho15 ho16 ho17 ho18 ho19 ho20 ho21 ho22 ho23
              have HF3 := hid (HF2.out.then0 hf)
              clear hf e2 e3 e4
              go_wp2_with fail
              go_ret
              exact ⟨rfl, HF3.out⟩
            · have hR := HR3.out
              rw [if_pos ⟨h2, h3, h4⟩] at hR
              subst hR
              have e4 := bne_yes h4
              clear h2 h3 h4
              apply wp_region_G 24 (fun _ => none) (valsL (_ :: _ :: _ :: _ :: _ :: _ :: _ :: _ :: _ :: _ :: _ :: _ :: _ :: _ :: _ :: _ :: _ :: _ :: _ :: _ :: _ :: _ :: _ :: _ :: [])) ?hm13 ?hB13 ?hal13 ?main13
              case hm13 => kernel_rfl
              case hB13 => kernel_rfl
              case hal13 =>
                intro i o obj ho hi
                cases hi
              rotate_left 24
              intro ops QT HO HQ
              obtain ⟨ho0, HO⟩ := HO
              refine wpG_v ho0.out rfl ?_ ?_
              · simp only [valsL_zero, valsL_succ]; apply FY_in rfl; intro wx hx
                go_simp
                exact ⟨rfl, rfl⟩
              simp only [Act.put, List.setIfInBounds_toArray, List.set_cons_zero, List.set_cons_succ, valsL_zero, valsL_succ]
              obtain ⟨ho1, HO⟩ := HO
              refine wpG_v ho1.out rfl ?_ ?_
              · simp only [valsL_zero, valsL_succ]; apply FY_in rfl; intro wx hx
                have hc0 := sb_cell (hx.heap H32.out (fun h => h))
                have hz0 := (HB2.out.frm0 hx).c12
                have hz1 := (HB2.out.frm0 hx).c6
                go_simp
                exact ⟨rfl, rfl⟩
              simp only [Act.put, List.setIfInBounds_toArray, List.set_cons_zero, List.set_cons_succ, valsL_zero, valsL_succ]
              obtain ⟨ho2, HO⟩ := HO
              refine wpG_v ho2.out rfl ?_ ?_
              · simp only [valsL_zero, valsL_succ]; apply FY_in rfl; intro wx hx
                go_simp
                exact ⟨rfl, rfl⟩
              simp only [Act.put, List.setIfInBounds_toArray, List.set_cons_zero, List.set_cons_succ, valsL_zero, valsL_succ]
              obtain ⟨ho3, HO⟩ := HO
              refine wpG_v ho3.out rfl ?_ ?_
              · simp only [valsL_zero, valsL_succ]; apply FY_in rfl; intro wx hx
                go_simp
                exact ⟨rfl, rfl⟩
              simp only [Act.put, List.setIfInBounds_toArray, List.set_cons_zero, List.set_cons_succ, valsL_zero, valsL_succ]
              obtain ⟨ho4, HO⟩ := HO
              refine wpG_v ho4.out rfl ?_ ?_
              · simp only [valsL_zero, valsL_succ]; apply FY_yes (d := 34) rfl ho3.out (by rfl) (by kernel_rfl); intro wx hx
                go_simp
                exact ⟨rfl, rfl⟩
              simp only [Act.put, List.setIfInBounds_toArray, List.set_cons_zero, List.set_cons_succ, valsL_zero, valsL_succ]
              obtain ⟨ho5, HO⟩ := HO
              refine wpG_v ho5.out rfl ?_ ?_
              · simp only [valsL_zero, valsL_succ]; apply FY_yes (d := 34) rfl ho3.out (by rfl) (by kernel_rfl); intro wx hx
                have hc0 := sb_cell (hx.heap H32.out (fun h => h))
                have hz0 := (HB2.out.frm0 hx).c12
                have hz1 := (HB2.out.frm0 hx).c6
                go_simp
                exact ⟨rfl, rfl⟩
              simp only [Act.put, List.setIfInBounds_toArray, List.set_cons_zero, List.set_cons_succ, valsL_zero, valsL_succ]
              obtain ⟨ho6, HO⟩ := HO
              refine wpG_v ho6.out rfl ?_ ?_
              · simp only [valsL_zero, valsL_succ]; apply FY_yes (d := 34) rfl ho3.out (by rfl) (by kernel_rfl); intro wx hx
                go_simp
                exact ⟨rfl, rfl⟩
              simp only [Act.put, List.setIfInBounds_toArray, List.set_cons_zero, List.set_cons_succ, valsL_zero, valsL_succ]
              obtain ⟨ho7, HO⟩ := HO
              refine wpG_v ho7.out rfl ?_ ?_
              · simp only [valsL_zero, valsL_succ]; apply FY_yes (d := 34) rfl ho3.out (by rfl) (by kernel_rfl); intro wx hx
                go_simp
                exact ⟨rfl, rfl⟩
              simp only [Act.put, List.setIfInBounds_toArray, List.set_cons_zero, List.set_cons_succ, valsL_zero, valsL_succ]
              obtain ⟨ho8, HO⟩ := HO
              refine wpG_v ho8.out rfl ?_ ?_
              · simp only [valsL_zero, valsL_succ]; apply FY_yes (d := 34) rfl ho3.out (by rfl) (by kernel_rfl); intro wx hx
                go_simp
                exact ⟨rfl, rfl⟩
              simp only [Act.put, List.setIfInBounds_toArray, List.set_cons_zero, List.set_cons_succ, valsL_zero, valsL_succ]
              obtain ⟨ho9, HO⟩ := HO
              refine wpG_v ho9.out rfl ?_ ?_
              · simp only [valsL_zero, valsL_succ]; apply FY_yes (d := 34) rfl ho3.out (by rfl) (by kernel_rfl); intro wx hx
                go_simp
                exact ⟨rfl, rfl⟩
              simp only [Act.put, List.setIfInBounds_toArray, List.set_cons_zero, List.set_cons_succ, valsL_zero, valsL_succ]
              obtain ⟨ho10, HO⟩ := HO
              refine wpG_v ho10.out rfl ?_ ?_
              · simp only [valsL_zero, valsL_succ]; apply FY_yes (d := 34) rfl ho3.out (by rfl) (by kernel_rfl); intro wx hx
                go_simp
                exact ⟨rfl, rfl⟩
              simp only [Act.put, List.setIfInBounds_toArray, List.set_cons_zero, List.set_cons_succ, valsL_zero, valsL_succ]
              obtain ⟨ho11, HO⟩ := HO
              refine wpG_v ho11.out rfl ?_ ?_
              · simp only [valsL_zero, valsL_succ]; apply FY_yes (d := 34) rfl ho3.out (by rfl) (by kernel_rfl); intro wx hx
                have hc0 := sb_cell (hx.heap H32.out (fun h => h))
                have hz0 := (HB2.out.frm0 hx).c12
                have hz1 := (HB2.out.frm0 hx).c6
                go_simp
                exact ⟨rfl, rfl⟩
              simp only [Act.put, List.setIfInBounds_toArray, List.set_cons_zero, List.set_cons_succ, valsL_zero, valsL_succ]
              obtain ⟨ho12, HO⟩ := HO
              refine wpG_v ho12.out rfl ?_ ?_
              · simp only [valsL_zero, valsL_succ]; apply FY_yes (d := 34) rfl ho3.out (by rfl) (by kernel_rfl); intro wx hx
                go_simp
                exact ⟨rfl, rfl⟩
              simp only [Act.put, List.setIfInBounds_toArray, List.set_cons_zero, List.set_cons_succ, valsL_zero, valsL_succ]
              obtain ⟨ho13, HO⟩ := HO
              refine wpG_v ho13.out rfl ?_ ?_
              · simp only [valsL_zero, valsL_succ]; apply FY_in rfl; intro wx hx
                go_simp
                exact ⟨rfl, rfl⟩
              simp only [Act.put, List.setIfInBounds_toArray, List.set_cons_zero, List.set_cons_succ, valsL_zero, valsL_succ]
              obtain ⟨ho14, HO⟩ := HO
              refine wpG_v ho14.out rfl ?_ ?_
              · simp only [valsL_zero, valsL_succ]; apply FY_in rfl; intro wx hx
                go_simp
                exact ⟨rfl, rfl⟩
              simp only [Act.put, List.setIfInBounds_toArray, List.set_cons_zero, List.set_cons_succ, valsL_zero, valsL_succ]
              obtain ⟨ho15, HO⟩ := HO
              refine wpG_v ho15.out rfl ?_ ?_
              · simp only [valsL_zero, valsL_succ]; apply FY_yes (d := 45) rfl ho14.out (by rfl) (by kernel_rfl); intro wx hx
                go_simp
                exact ⟨rfl, rfl⟩
              simp only [Act.put, List.setIfInBounds_toArray, List.set_cons_zero, List.set_cons_succ, valsL_zero, valsL_succ]
              obtain ⟨ho16, HO⟩ := HO
              refine wpG_v ho16.out rfl ?_ ?_
              · simp only [valsL_zero, valsL_succ]; apply FY_yes (d := 45) rfl ho14.out (by rfl) (by kernel_rfl); intro wx hx
                have hc0 := sb_cell (hx.heap H32.out (fun h => h))
                have hz0 := (HB2.out.frm0 hx).c12
                have hz1 := (HB2.out.frm0 hx).c6
                go_simp
                exact ⟨rfl, rfl⟩
              simp only [Act.put, List.setIfInBounds_toArray, List.set_cons_zero, List.set_cons_succ, valsL_zero, valsL_succ]
              obtain ⟨ho17, HO⟩ := HO
              refine wpG_v ho17.out rfl ?_ ?_
              · simp only [valsL_zero, valsL_succ]; apply FY_yes (d := 45) rfl ho14.out (by rfl) (by kernel_rfl); intro wx hx
                go_simp
                exact ⟨rfl, rfl⟩
              simp only [Act.put, List.setIfInBounds_toArray, List.set_cons_zero, List.set_cons_succ, valsL_zero, valsL_succ]
              obtain ⟨ho18, HO⟩ := HO
              refine wpG_v ho18.out rfl ?_ ?_
              · simp only [valsL_zero, valsL_succ]; apply FY_yes (d := 45) rfl ho14.out (by rfl) (by kernel_rfl); intro wx hx
                go_simp
                exact ⟨rfl, rfl⟩
              simp only [Act.put, List.setIfInBounds_toArray, List.set_cons_zero, List.set_cons_succ, valsL_zero, valsL_succ]
              obtain ⟨ho19, HO⟩ := HO
              refine wpG_v ho19.out rfl ?_ ?_
              · simp only [valsL_zero, valsL_succ]; apply FY_yes (d := 45) rfl ho14.out (by rfl) (by kernel_rfl); intro wx hx
                go_simp
                exact ⟨rfl, rfl⟩
              simp only [Act.put, List.setIfInBounds_toArray, List.set_cons_zero, List.set_cons_succ, valsL_zero, valsL_succ]
              obtain ⟨ho20, HO⟩ := HO
              refine wpG_v ho20.out rfl ?_ ?_
              · simp only [valsL_zero, valsL_succ]; apply FY_yes (d := 45) rfl ho14.out (by rfl) (by kernel_rfl); intro wx hx
                go_simp
                exact ⟨rfl, rfl⟩
              simp only [Act.put, List.setIfInBounds_toArray, List.set_cons_zero, List.set_cons_succ, valsL_zero, valsL_succ]
              obtain ⟨ho21, HO⟩ := HO
              refine wpG_v ho21.out rfl ?_ ?_
              · simp only [valsL_zero, valsL_succ]; apply FY_yes (d := 45) rfl ho14.out (by rfl) (by kernel_rfl); intro wx hx
                have hc0 := sb_cell (hx.heap H32.out (fun h => h))
                have hz0 := (HB2.out.frm0 hx).c12
                have hz1 := (HB2.out.frm0 hx).c6
                go_simp
                exact ⟨rfl, rfl⟩
              simp only [Act.put, List.setIfInBounds_toArray, List.set_cons_zero, List.set_cons_succ, valsL_zero, valsL_succ]
              obtain ⟨ho22, HO⟩ := HO
              refine wpG_v ho22.out rfl ?_ ?_
              · simp only [valsL_zero, valsL_succ]; apply FY_yes (d := 45) rfl ho14.out (by rfl) (by kernel_rfl); intro wx hx
                go_simp
                exact ⟨rfl, rfl⟩
              simp only [Act.put, List.setIfInBounds_toArray, List.set_cons_zero, List.set_cons_succ, valsL_zero, valsL_succ]
              obtain ⟨ho23, HO⟩ := HO
              refine wpG_v ho23.out rfl ?_ ?_
              · simp only [valsL_zero, valsL_succ]; apply FY_in rfl; intro wx hx
                go_simp
                exact ⟨rfl, rfl⟩
              simp only [Act.put, List.setIfInBounds_toArray, List.set_cons_zero, List.set_cons_succ, valsL_zero, valsL_succ]
              refine HQ.out _ _ ?_
              intro w3 hf hE hN
              simp only [List.drop_succ_cons, List.drop_zero]
              clear HQ HO hE hN ho0 ho1 ho2 ho3 ho4 ho5 ho6 ho7 ho8 ho9 ho10 ho11 ho12 ho13 ho14 ho15 ho16 ho17 ho18 ho19 ho20 ho21 ho22 ho23
              have HF3 := hid (HF2.out.then0 hf)
              clear hf e2 e3 e4
              go_wp2_with fail
              go_ret
              exact ⟨rfl, HF3.out⟩
end Go.Proofs.YtmacpdddimcmgaaGreatDoor
namespace Go.Proofs.YtmacpdddimcmgaaGreatDoor
set_option linter.unusedVariables false
set_option linter.unusedSimpArgs false
set_option maxRecDepth 20000
open Go.RowKit
set_option maxRecDepth 20000 in
set_option maxHeartbeats 4000000 in
theorem back_calls (b : Nat) (p : BkP) (B : Bk) (r : Rc) (w : World) (h : BkAt w b p B) (hw : 0 ≤ r.w ∧ r.w ≤ 15) :
    Calls Tryz.prog 80 #[bp b, r.val] w fun x w' => x = .returned (.int .i64 (B.ackE r)) ∧ Frm M0 w w' := by
  obtain ⟨R, HR⟩ : ∃ R, Hid (B.ackE r = R) := ⟨_, rfl⟩
  rw [HR.out]
  have HB := hid h
  obtain ⟨j, hj⟩ : ∃ j : Nat, r.w = j := ⟨r.w.toNat, by omega⟩
  have hj16 : j < 16 := by omega
  have HJ := hid hj16
  obtain ⟨u1, u2, u3, hu⟩ : ∃ a c d, B.us.getD j ⟨0, 0, true⟩ = ⟨a, c, d⟩ := ⟨_, _, _, rfl⟩
  have HU : Hid (∀ wx : World, BkAt wx b p B → ∀ jj v, (#[Value.int .i64 u1, .int .i64 u2, .bool u3]).toList[jj]? = some v → wx.cell? ⟨b, 24 + j * 3 + jj, none⟩ = some v) := hid fun wx hx jj v hv => by
    rw [Nat.add_assoc]
    refine hx.unit hj16 jj v ?_
    rw [hu]
    exact hv
  have hR := HR.out
  unfold Bk.ackE Bk.unit at hR
  rw [hj, Int.toNat_natCast, hu] at hR
  simp only [] at hR
  have HRR := hid hR
  clear h hu hR HR hw hj16
  have HJE := hid hj
  clear hj
  have HV : Hid (r.val = .agg #[.int .i64 r.k, .int .i64 r.e, .int .i64 r.w, .int .i64 r.n, .int .i64 r.q, .string r.t, .int .i64 r.p.s0, .int .i64 r.p.s1, .int .i64 r.p.s2, .int .i64 r.p.s3, .int .i64 r.p.s4, .int .i64 r.p.s5, .int .i64 r.p.s6, .int .i64 r.p.s7, .int .i64 r.p.s8, .int .i64 r.p.s9, .int .i64 r.p.s10, .int .i64 r.p.s11]) := rfl
  rw [HV.out]
  go_enter Tryz.func80, Tryz.ntmps80
  go_upto_region 1 with fail
  (obtain ⟨b3, hbb3⟩ : ∃ q, q = w.heap.size := ⟨_, rfl⟩); (obtain ⟨w1, hww1⟩ : ∃ q, q = w.alloc (.cells #[.int .i64 r.k, .int .i64 r.e, .int .i64 r.w, .int .i64 r.n, .int .i64 r.q, .string r.t, .int .i64 r.p.s0, .int .i64 r.p.s1, .int .i64 r.p.s2, .int .i64 r.p.s3, .int .i64 r.p.s4, .int .i64 r.p.s5, .int .i64 r.p.s6, .int .i64 r.p.s7, .int .i64 r.p.s8, .int .i64 r.p.s9, .int .i64 r.p.s10, .int .i64 r.p.s11] 37) := ⟨_, rfl⟩); have hn := new1 w (.cells #[.int .i64 r.k, .int .i64 r.e, .int .i64 r.w, .int .i64 r.n, .int .i64 r.q, .string r.t, .int .i64 r.p.s0, .int .i64 r.p.s1, .int .i64 r.p.s2, .int .i64 r.p.s3, .int .i64 r.p.s4, .int .i64 r.p.s5, .int .i64 r.p.s6, .int .i64 r.p.s7, .int .i64 r.p.s8, .int .i64 r.p.s9, .int .i64 r.p.s10, .int .i64 r.p.s11] 37); have hf := (Frm.refl M0 w).alloc (.cells #[.int .i64 r.k, .int .i64 r.e, .int .i64 r.w, .int .i64 r.n, .int .i64 r.q, .string r.t, .int .i64 r.p.s0, .int .i64 r.p.s1, .int .i64 r.p.s2, .int .i64 r.p.s3, .int .i64 r.p.s4, .int .i64 r.p.s5, .int .i64 r.p.s6, .int .i64 r.p.s7, .int .i64 r.p.s8, .int .i64 r.p.s9, .int .i64 r.p.s10, .int .i64 r.p.s11] 37); rw [← hww1] at hn hf ⊢; rw [← hbb3] at hn ⊢; clear hww1
  have HB1 := hid (HB.out.frm0 hf)
  have HF1 := hid hf
  have H3 := hid hn
  clear hn hf hbb3
  have HW : Hid (∀ wx, Frm M0 w1 wx → wx.cell? ⟨b3, 2, none⟩ = some (.int .i64 (j : Int))) := hid fun wx hx => by
    rw [← HJE.out]; exact sb_cell (hx.heap H3.out (fun h => h)) 2
  apply wp_region_G 8 (fun i => if i = 7 then some (.cells #[.int .i64 0, .int .i64 0, .bool false] 46) else none) (valsL (_ :: _ :: _ :: _ :: _ :: _ :: (.agg #[.int .i64 u1, .int .i64 u2, .bool u3]) :: (.pointer none) :: [])) ?hm1 ?hB1 ?hal1 ?main1
  case hm1 => kernel_rfl
  case hB1 => kernel_rfl
  case hal1 =>
    intro i o obj ho hi
    by_cases h7 : i = 7
    · subst h7; obtain rfl := Option.some.inj hi; obtain rfl := Option.some.inj ho; exact ⟨rfl, fun a w => rfl⟩
    rw [if_neg h7] at hi
    cases hi
  rotate_left 6
  intro ops QT HO HQ
  obtain ⟨ho0, HO⟩ := HO
  refine wpG_v ho0.out rfl ?_ ?_
  · simp only [valsL_zero, valsL_succ]; apply FY_in rfl; intro wx hx
    go_simp
    exact ⟨rfl, rfl⟩
  simp only [Act.put, List.setIfInBounds_toArray, List.set_cons_zero, List.set_cons_succ, valsL_zero, valsL_succ]
  obtain ⟨ho1, HO⟩ := HO
  refine wpG_v ho1.out rfl ?_ ?_
  · simp only [valsL_zero, valsL_succ]; apply FY_in rfl; intro wx hx
    go_simp
    exact ⟨rfl, rfl⟩
  simp only [Act.put, List.setIfInBounds_toArray, List.set_cons_zero, List.set_cons_succ, valsL_zero, valsL_succ]
  obtain ⟨ho2, HO⟩ := HO
  refine wpG_v ho2.out rfl ?_ ?_
  · simp only [valsL_zero, valsL_succ]; apply FY_in rfl; intro wx hx
    have hz := HW.out wx hx
    go_simp
    exact ⟨rfl, rfl⟩
  simp only [Act.put, List.setIfInBounds_toArray, List.set_cons_zero, List.set_cons_succ, valsL_zero, valsL_succ]
  obtain ⟨ho3, HO⟩ := HO
  refine wpG_v ho3.out rfl ?_ ?_
  · simp only [valsL_zero, valsL_succ]; apply FY_in rfl; intro wx hx
    go_simp
    exact ⟨rfl, rfl⟩
  simp only [Act.put, List.setIfInBounds_toArray, List.set_cons_zero, List.set_cons_succ, valsL_zero, valsL_succ]
  obtain ⟨ho4, HO⟩ := HO
  refine wpG_v ho4.out rfl ?_ ?_
  · simp only [valsL_zero, valsL_succ]; apply FY_in rfl; intro wx hx
    go_simp
    exact ⟨rfl, rfl⟩
  simp only [Act.put, List.setIfInBounds_toArray, List.set_cons_zero, List.set_cons_succ, valsL_zero, valsL_succ]
  obtain ⟨ho5, HO⟩ := HO
  refine wpG_v ho5.out rfl ?_ ?_
  · simp only [valsL_zero, valsL_succ]; apply FY_in rfl; intro wx hx
    have hq : (j : Int) < 16 := (by have := HJ.out; omega)
    go_simp
    exact ⟨rfl, rfl⟩
  simp only [Act.put, List.setIfInBounds_toArray, List.set_cons_zero, List.set_cons_succ, valsL_zero, valsL_succ]
  obtain ⟨ho6, HO⟩ := HO
  refine wpG_v ho6.out rfl ?_ ?_
  · simp only [valsL_zero, valsL_succ]; apply FY_in rfl; intro wx hx
    exact fu_load_c 46 (.tmp 11) rfl b (24 + j * 3) (by kernel_rfl) #[.int .i64 u1, .int .i64 u2, .bool u3] (HU.out wx (HB1.out.frm0 hx)) _ Tryz.underlying46 rfl (by kernel_rfl)
  simp only [Act.put, List.setIfInBounds_toArray, List.set_cons_zero, List.set_cons_succ, valsL_zero, valsL_succ]
  obtain ⟨ho7, HO⟩ := HO
  refine wpG_new _ _ ho7.out rfl fun b5 => ?_
  simp only [Act.put, List.setIfInBounds_toArray, List.set_cons_zero, List.set_cons_succ]
  refine HQ.out _ _ ?_
  intro w2 hf hE hN
  simp only [List.drop_succ_cons, List.drop_zero]
  clear HQ HO ho0 ho1 ho2 ho3 ho4 ho5 ho6 ho7
  have h5 : w1.heap.size ≤ b5 ∧ w2.heap[b5]? = some (.cells #[.int .i64 0, .int .i64 0, .bool false] 46 (0, 0)) := hE 7 _ (by omega) rfl
  have HN5 := hid h5.2
  have HF2 := hid (HF1.out.then0 hf)
  have H32 := hid (hf.heap H3.out (fun h => h))
  have HZ := hid (And.intro h5.1 HF1.out.size)
  clear hf hE hN h5 HU
  go_upto_region 2 with (refine wpList_store_row rfl 46 (.tmp 5) (.tmp 12) (by with_reducible rfl) b5 (#[.int .i64 u1, .int .i64 u2, .bool u3]) (by kernel_rfl) (by kernel_rfl) _ _ HN5.out (by kernel_rfl) (by rfl) (by simp [Value.oneCell']) ?_)
  have hn := setRow_heap _ b5 _ #[.int .i64 u1, .int .i64 u2, .bool u3] _ _ HN5.out
  have hf : Frm (fun k => k = b5) w2 (w2.setRow b5 #[.int .i64 u1, .int .i64 u2, .bool u3]) := frm_setRow _ _ _
  obtain ⟨w3, hw3⟩ : ∃ q, q = w2.setRow b5 #[.int .i64 u1, .int .i64 u2, .bool u3] := ⟨_, rfl⟩
  rw [← hw3] at hn hf ⊢
  have hne : b3 ≠ b5 := by have := sb_lt H3.out; have := HZ.out; omega
  have H33 := hid (hf.heap H32.out hne)
  have HF3 := hid (HF2.out.trans hf (fun k hk e => by have := HZ.out; have e : k = b5 := e; omega))
  have c1 : w3.cell? ⟨b5, 1, none⟩ = some (.int .i64 u2) := sb_cell hn 1
  have c2 : w3.cell? ⟨b5, 2, none⟩ = some (.bool u3) := sb_cell hn 2
  have c4 : w3.cell? ⟨b3, 4, none⟩ = some (.int .i64 r.q) := sb_cell H33.out 4
  clear hn hf hw3 hne HF2 H32 HN5
  by_cases h1 : u2 = r.q
  case neg =>
    have hR := HRR.out
    rw [if_pos h1] at hR
    subst hR
    have e1 := bne_yes h1
    clear h1
    go_wp2_with fail
    go_ret
    exact ⟨rfl, HF3.out⟩
  case pos =>
    have hR := HRR.out
    rw [if_neg (fun h => h h1)] at hR
    have e1 := bne_no h1
    clear h1
    cases u3 with
    | true =>
      have hR : 10 = R := hR
      subst hR
      go_wp2_with fail
      go_ret
      exact ⟨rfl, HF3.out⟩
    | false =>
      have hR : 0 = R := hR
      subst hR
      go_wp2_with fail
      go_ret
      exact ⟨rfl, HF3.out⟩
theorem BkAt.spec {w : World} {b : Nat} {p : BkP} {B : Bk} (h : BkAt w b p B) : ∀ j v, (#[Value.int .i64 B.w.spec.s0, .int .i64 B.w.spec.s1, .int .i64 B.w.spec.s2, .int .i64 B.w.spec.s3, .int .i64 B.w.spec.s4, .int .i64 B.w.spec.s5, .int .i64 B.w.spec.s6, .int .i64 B.w.spec.s7, .int .i64 B.w.spec.s8, .int .i64 B.w.spec.s9, .int .i64 B.w.spec.s10, .int .i64 B.w.spec.s11]).toList[j]? = some v → w.cell? ⟨b, 12 + j, none⟩ = some v := by
  intro j v hv
  have := h.view (10 + j) v (by
    show ([Value.int .i64 B.w.epoch, .int .i64 B.w.leader, .int .i64 B.w.until', .int .i64 B.w.stable, .int .i64 B.w.from', .int .i64 B.w.phase, .int .i64 B.w.step, .int .i64 B.w.since, .int .i64 B.w.begun, .int .i64 B.w.seq] ++ [Value.int .i64 B.w.spec.s0, .int .i64 B.w.spec.s1, .int .i64 B.w.spec.s2, .int .i64 B.w.spec.s3, .int .i64 B.w.spec.s4, .int .i64 B.w.spec.s5, .int .i64 B.w.spec.s6, .int .i64 B.w.spec.s7, .int .i64 B.w.spec.s8, .int .i64 B.w.spec.s9, .int .i64 B.w.spec.s10, .int .i64 B.w.spec.s11])[10 + j]? = some v
    rw [List.getElem?_append_right (by simp)]
    simpa using hv)
  rw [show 12 + j = 2 + (10 + j) by omega]
  exact this
theorem str_is {s : ByteArray} {l : List UInt8} (h : s = ⟨l.toArray⟩) : s.toList = l := by rw [h, ByteArray.toList_eq]
theorem str_isnt {s : ByteArray} {l : List UInt8} (h : ¬ s = ⟨l.toArray⟩) : (s.toList == l) = false := by
  rw [beq_eq_false_iff_ne]
  intro e
  apply h
  rw [ByteArray.toList_eq] at e
  cases s with | mk d => exact congrArg ByteArray.mk (Array.toList_inj.1 e)
set_option maxRecDepth 20000 in
set_option maxHeartbeats 4000000 in
theorem bstep_calls (b : Nat) (p : BkP) (B : Bk) (r : Rc) (w : World) (h : BkAt w b p B) :
    Calls Tryz.prog 81 #[bp b, r.val] w fun x w' => x = .returned (.int .i64 (B.stepE r)) ∧ Frm M0 w w' := by
  obtain ⟨R, HR⟩ : ∃ R, Hid (B.stepE r = R) := ⟨_, rfl⟩
  rw [HR.out]
  have HB := hid h
  clear h
  have HV : Hid (r.val = .agg #[.int .i64 r.k, .int .i64 r.e, .int .i64 r.w, .int .i64 r.n, .int .i64 r.q, .string r.t, .int .i64 r.p.s0, .int .i64 r.p.s1, .int .i64 r.p.s2, .int .i64 r.p.s3, .int .i64 r.p.s4, .int .i64 r.p.s5, .int .i64 r.p.s6, .int .i64 r.p.s7, .int .i64 r.p.s8, .int .i64 r.p.s9, .int .i64 r.p.s10, .int .i64 r.p.s11]) := rfl
  rw [HV.out]
  go_enter Tryz.func81, Tryz.ntmps81
  go_upto_region 1 with fail
  (obtain ⟨b3, hbb3⟩ : ∃ q, q = w.heap.size := ⟨_, rfl⟩); (obtain ⟨w1, hww1⟩ : ∃ q, q = w.alloc (.cells #[.int .i64 r.k, .int .i64 r.e, .int .i64 r.w, .int .i64 r.n, .int .i64 r.q, .string r.t, .int .i64 r.p.s0, .int .i64 r.p.s1, .int .i64 r.p.s2, .int .i64 r.p.s3, .int .i64 r.p.s4, .int .i64 r.p.s5, .int .i64 r.p.s6, .int .i64 r.p.s7, .int .i64 r.p.s8, .int .i64 r.p.s9, .int .i64 r.p.s10, .int .i64 r.p.s11] 37) := ⟨_, rfl⟩); have hn := new1 w (.cells #[.int .i64 r.k, .int .i64 r.e, .int .i64 r.w, .int .i64 r.n, .int .i64 r.q, .string r.t, .int .i64 r.p.s0, .int .i64 r.p.s1, .int .i64 r.p.s2, .int .i64 r.p.s3, .int .i64 r.p.s4, .int .i64 r.p.s5, .int .i64 r.p.s6, .int .i64 r.p.s7, .int .i64 r.p.s8, .int .i64 r.p.s9, .int .i64 r.p.s10, .int .i64 r.p.s11] 37); have hf := (Frm.refl M0 w).alloc (.cells #[.int .i64 r.k, .int .i64 r.e, .int .i64 r.w, .int .i64 r.n, .int .i64 r.q, .string r.t, .int .i64 r.p.s0, .int .i64 r.p.s1, .int .i64 r.p.s2, .int .i64 r.p.s3, .int .i64 r.p.s4, .int .i64 r.p.s5, .int .i64 r.p.s6, .int .i64 r.p.s7, .int .i64 r.p.s8, .int .i64 r.p.s9, .int .i64 r.p.s10, .int .i64 r.p.s11] 37); rw [← hww1] at hn hf ⊢; rw [← hbb3] at hn ⊢; clear hww1
  have HB1 := hid (HB.out.frm0 hf)
  have HF1 := hid hf
  have H3 := hid hn
  clear hn hf hbb3
  have d7 := HB1.out.c7
  have c5 : w1.cell? ⟨b3, 5, none⟩ = some (.string r.t) := sb_cell H3.out 5
  have hR := HR.out
  unfold Bk.stepE at hR
  by_cases h1 : B.w.phase = 1
  case neg =>
    rw [if_pos h1] at hR
    subst hR
    have e1 := bne_yes h1
    clear h1 HR
    go_wp2_with fail
    go_ret
    exact ⟨rfl, HF1.out⟩
  case pos =>
    rw [if_neg (fun h => h h1)] at hR
    have e1 := bne_no h1
    have HR1 := hid hR
    clear h1 HR hR
    by_cases h2 : r.t = passedS
    · rw [if_neg (fun h => h.1 h2)] at HR1
      have e2 : r.t.toList = [112, 97, 115, 115, 101, 100] := str_is h2
      clear h2
      have HR2 := HR1
      clear HR1
      go_upto_region 5 with fail
      clear e1 e2 c5 d7
      by_cases h4 : r.w = wrap64 (B.w.step + 1)
      case neg =>
        have hR := HR2.out
        rw [if_pos (.inl h4)] at hR
        subst hR
        have e4 : (r.w != IntKind.i64.wrap (B.w.step + 1)) = true := by rw [Go.IntWalk.i64_left]; exact bne_yes h4
        clear h4
        apply wp_region_G 21 (fun _ => none) (valsL (_ :: _ :: _ :: _ :: _ :: _ :: _ :: _ :: _ :: _ :: _ :: _ :: _ :: _ :: _ :: _ :: _ :: _ :: _ :: _ :: _ :: [])) ?hm2 ?hB2 ?hal2 ?main2
        case hm2 => kernel_rfl
        case hB2 => kernel_rfl
        case hal2 =>
          intro i o obj ho hi
          cases hi
        rotate_left 21
        intro ops QT HO HQ
        obtain ⟨ho0, HO⟩ := HO
        refine wpG_v ho0.out rfl ?_ ?_
        · simp only [valsL_zero, valsL_succ]; apply FY_in rfl; intro wx hx
          go_simp
          exact ⟨rfl, rfl⟩
        simp only [Act.put, List.setIfInBounds_toArray, List.set_cons_zero, List.set_cons_succ, valsL_zero, valsL_succ]
        obtain ⟨ho1, HO⟩ := HO
        refine wpG_v ho1.out rfl ?_ ?_
        · simp only [valsL_zero, valsL_succ]; apply FY_in rfl; intro wx hx
          have hc0 := sb_cell (hx.heap H3.out (fun h => h))
          have hz0 := (HB1.out.frm0 hx).c8
          go_simp
          exact ⟨rfl, rfl⟩
        simp only [Act.put, List.setIfInBounds_toArray, List.set_cons_zero, List.set_cons_succ, valsL_zero, valsL_succ]
        obtain ⟨ho2, HO⟩ := HO
        refine wpG_v ho2.out rfl ?_ ?_
        · simp only [valsL_zero, valsL_succ]; apply FY_in rfl; intro wx hx
          go_simp
          exact ⟨rfl, rfl⟩
        simp only [Act.put, List.setIfInBounds_toArray, List.set_cons_zero, List.set_cons_succ, valsL_zero, valsL_succ]
        obtain ⟨ho3, HO⟩ := HO
        refine wpG_v ho3.out rfl ?_ ?_
        · simp only [valsL_zero, valsL_succ]; apply FY_in rfl; intro wx hx
          go_simp
          exact ⟨rfl, rfl⟩
        simp only [Act.put, List.setIfInBounds_toArray, List.set_cons_zero, List.set_cons_succ, valsL_zero, valsL_succ]
        obtain ⟨ho4, HO⟩ := HO
        refine wpG_v ho4.out rfl ?_ ?_
        · simp only [valsL_zero, valsL_succ]; apply FY_in rfl; intro wx hx
          go_simp
          exact ⟨rfl, rfl⟩
        simp only [Act.put, List.setIfInBounds_toArray, List.set_cons_zero, List.set_cons_succ, valsL_zero, valsL_succ]
        obtain ⟨ho5, HO⟩ := HO
        refine wpG_v ho5.out rfl ?_ ?_
        · simp only [valsL_zero, valsL_succ]; apply FY_in rfl; intro wx hx
          go_simp
          exact ⟨rfl, rfl⟩
        simp only [Act.put, List.setIfInBounds_toArray, List.set_cons_zero, List.set_cons_succ, valsL_zero, valsL_succ]
        obtain ⟨ho6, HO⟩ := HO
        refine wpG_v ho6.out rfl ?_ ?_
        · simp only [valsL_zero, valsL_succ]; apply FY_in rfl; intro wx hx
          have hc0 := sb_cell (hx.heap H3.out (fun h => h))
          have hz0 := (HB1.out.frm0 hx).c8
          go_simp
          exact ⟨rfl, rfl⟩
        simp only [Act.put, List.setIfInBounds_toArray, List.set_cons_zero, List.set_cons_succ, valsL_zero, valsL_succ]
        obtain ⟨ho7, HO⟩ := HO
        refine wpG_v ho7.out rfl ?_ ?_
        · simp only [valsL_zero, valsL_succ]; apply FY_in rfl; intro wx hx
          go_simp
          exact ⟨rfl, rfl⟩
        simp only [Act.put, List.setIfInBounds_toArray, List.set_cons_zero, List.set_cons_succ, valsL_zero, valsL_succ]
        obtain ⟨ho8, HO⟩ := HO
        refine wpG_v ho8.out rfl ?_ ?_
        · simp only [valsL_zero, valsL_succ]; apply FY_in rfl; intro wx hx
          go_simp
          exact ⟨rfl, rfl⟩
        simp only [Act.put, List.setIfInBounds_toArray, List.set_cons_zero, List.set_cons_succ, valsL_zero, valsL_succ]
        obtain ⟨ho9, HO⟩ := HO
        refine wpG_v ho9.out rfl ?_ ?_
        · simp only [valsL_zero, valsL_succ]; apply FY_in rfl; intro wx hx
          go_simp
          exact ⟨rfl, rfl⟩
        simp only [Act.put, List.setIfInBounds_toArray, List.set_cons_zero, List.set_cons_succ, valsL_zero, valsL_succ]
        obtain ⟨ho10, HO⟩ := HO
        refine wpG_v ho10.out rfl ?_ ?_
        · simp only [valsL_zero, valsL_succ]; exact FY_no (d := 31) rfl ho9.out (by rfl) (by kernel_rfl)
        simp only [Act.put, List.setIfInBounds_toArray, List.set_cons_zero, List.set_cons_succ, valsL_zero, valsL_succ]
        obtain ⟨ho11, HO⟩ := HO
        refine wpG_v ho11.out rfl ?_ ?_
        · simp only [valsL_zero, valsL_succ]; exact FY_no (d := 31) rfl ho9.out (by rfl) (by kernel_rfl)
        simp only [Act.put, List.setIfInBounds_toArray, List.set_cons_zero, List.set_cons_succ, valsL_zero, valsL_succ]
        obtain ⟨ho12, HO⟩ := HO
        refine wpG_v ho12.out rfl ?_ ?_
        · simp only [valsL_zero, valsL_succ]; exact FY_no (d := 31) rfl ho9.out (by rfl) (by kernel_rfl)
        simp only [Act.put, List.setIfInBounds_toArray, List.set_cons_zero, List.set_cons_succ, valsL_zero, valsL_succ]
        obtain ⟨ho13, HO⟩ := HO
        refine wpG_v ho13.out rfl ?_ ?_
        · simp only [valsL_zero, valsL_succ]; exact FY_no (d := 31) rfl ho9.out (by rfl) (by kernel_rfl)
        simp only [Act.put, List.setIfInBounds_toArray, List.set_cons_zero, List.set_cons_succ, valsL_zero, valsL_succ]
        obtain ⟨ho14, HO⟩ := HO
        refine wpG_v ho14.out rfl ?_ ?_
        · simp only [valsL_zero, valsL_succ]; exact FY_no (d := 31) rfl ho9.out (by rfl) (by kernel_rfl)
        simp only [Act.put, List.setIfInBounds_toArray, List.set_cons_zero, List.set_cons_succ, valsL_zero, valsL_succ]
        obtain ⟨ho15, HO⟩ := HO
        refine wpG_v ho15.out rfl ?_ ?_
        · simp only [valsL_zero, valsL_succ]; exact FY_no (d := 31) rfl ho9.out (by rfl) (by kernel_rfl)
        simp only [Act.put, List.setIfInBounds_toArray, List.set_cons_zero, List.set_cons_succ, valsL_zero, valsL_succ]
        obtain ⟨ho16, HO⟩ := HO
        refine wpG_v ho16.out rfl ?_ ?_
        · simp only [valsL_zero, valsL_succ]; exact FY_no (d := 31) rfl ho9.out (by rfl) (by kernel_rfl)
        simp only [Act.put, List.setIfInBounds_toArray, List.set_cons_zero, List.set_cons_succ, valsL_zero, valsL_succ]
        obtain ⟨ho17, HO⟩ := HO
        refine wpG_v ho17.out rfl ?_ ?_
        · simp only [valsL_zero, valsL_succ]; exact FY_no (d := 31) rfl ho9.out (by rfl) (by kernel_rfl)
        simp only [Act.put, List.setIfInBounds_toArray, List.set_cons_zero, List.set_cons_succ, valsL_zero, valsL_succ]
        obtain ⟨ho18, HO⟩ := HO
        refine wpG_v ho18.out rfl ?_ ?_
        · simp only [valsL_zero, valsL_succ]; exact FY_no (d := 31) rfl ho9.out (by rfl) (by kernel_rfl)
        simp only [Act.put, List.setIfInBounds_toArray, List.set_cons_zero, List.set_cons_succ, valsL_zero, valsL_succ]
        obtain ⟨ho19, HO⟩ := HO
        refine wpG_v ho19.out rfl ?_ ?_
        · simp only [valsL_zero, valsL_succ]; exact FY_no (d := 31) rfl ho9.out (by rfl) (by kernel_rfl)
        simp only [Act.put, List.setIfInBounds_toArray, List.set_cons_zero, List.set_cons_succ, valsL_zero, valsL_succ]
        obtain ⟨ho20, HO⟩ := HO
        refine wpG_v ho20.out rfl ?_ ?_
        · simp only [valsL_zero, valsL_succ]; apply FY_in rfl; intro wx hx
          go_simp
          exact ⟨rfl, rfl⟩
        simp only [Act.put, List.setIfInBounds_toArray, List.set_cons_zero, List.set_cons_succ, valsL_zero, valsL_succ]
        refine HQ.out _ _ ?_
        intro w2 hf hE hN
        simp only [List.drop_succ_cons, List.drop_zero]
        clear HQ HO hE hN ho0 ho1 ho2 ho3 ho4 ho5 ho6 ho7 ho8 ho9 ho10 ho11 ho12 ho13 ho14 ho15 ho16 ho17 ho18 ho19 ho20
        have HF2 := hid (HF1.out.then0 hf)
        clear hf e4
        go_wp2_with fail
        go_ret
        exact ⟨rfl, HF2.out⟩
      case pos =>
        have e4 : (r.w != IntKind.i64.wrap (B.w.step + 1)) = false := by rw [Go.IntWalk.i64_left]; exact bne_no h4
        have hR := HR2.out
        have hN : stepsN B.w.spec = ((stepsF B.w.spec).length : Int) := rfl
        obtain ⟨N, hNN⟩ : ∃ q, (stepsF B.w.spec).length = q := ⟨_, rfl⟩
        rw [hN, hNN] at hR
        have HNN := hid hNN
        have HR3 : Hid ((if (N : Int) < r.w then (7 : Int) else 0) = R) := by
          show (if (N : Int) < r.w then (7 : Int) else 0) = R
          rw [← hR]
          by_cases hq : (N : Int) < r.w
          · rw [if_pos hq, if_pos (.inr hq)]
          · rw [if_neg hq, if_neg (by rintro (h | h); exact h h4; exact hq h)]
        have HSV : Hid (B.w.spec.val = .agg #[.int .i64 B.w.spec.s0, .int .i64 B.w.spec.s1, .int .i64 B.w.spec.s2, .int .i64 B.w.spec.s3, .int .i64 B.w.spec.s4, .int .i64 B.w.spec.s5, .int .i64 B.w.spec.s6, .int .i64 B.w.spec.s7, .int .i64 B.w.spec.s8, .int .i64 B.w.spec.s9, .int .i64 B.w.spec.s10, .int .i64 B.w.spec.s11]) := rfl
        clear h4 hR hN hNN HR2
        apply wp_region_S [17, 18] (valsL (_ :: _ :: _ :: _ :: _ :: _ :: _ :: _ :: _ :: _ :: _ :: _ :: _ :: _ :: _ :: _ :: (.agg #[.int .i64 B.w.spec.s0, .int .i64 B.w.spec.s1, .int .i64 B.w.spec.s2, .int .i64 B.w.spec.s3, .int .i64 B.w.spec.s4, .int .i64 B.w.spec.s5, .int .i64 B.w.spec.s6, .int .i64 B.w.spec.s7, .int .i64 B.w.spec.s8, .int .i64 B.w.spec.s9, .int .i64 B.w.spec.s10, .int .i64 B.w.spec.s11]) :: undef :: undef :: _ :: _ :: _ :: [])) (fun _ => 2) (fun _ => fun wx => Frm M0 w1 wx) (fun i u => i = 18 → u = .int .i64 (N : Int)) (fun c E wx => Frm M0 w1 wx ∧ (c = 1 → ∃ a k, E 17 = .slice a N k)) ?hm3 ?hB3 ?hU3 ?hI3 ?hG3 ?hZ3 ?main3
        case hm3 => kernel_rfl
        case hB3 => kernel_rfl
        case hU3 =>
          exact fun _ => ⟨.int .i64 (N : Int), fun _ => rfl⟩
        case hI3 =>
          exact fun c E wx hc hj _ _ => (fun c E wx hc hj => hj.1) c E wx hc hj
        case hG3 =>
          exact fun c E wx wy hc hj hf => ⟨hj.1.then0 hf, hj.2⟩
        case hZ3 =>
          exact fun wx hf => ⟨hf, fun h => by cases h⟩
        rotate_left 19
        intro ops QT HO HQ
        obtain ⟨ho0, HO⟩ := HO
        refine wpS_V ho0.out rfl ?_ ?_
        · simp only [valsL_zero, valsL_succ]; apply FI_in rfl; intro wx hx
          go_simp
          exact ⟨rfl, rfl⟩
        simp only [Act.put, List.setIfInBounds_toArray, List.set_cons_zero, List.set_cons_succ, valsL_zero, valsL_succ]
        obtain ⟨ho1, HO⟩ := HO
        refine wpS_V ho1.out rfl ?_ ?_
        · simp only [valsL_zero, valsL_succ]; apply FI_in rfl; intro wx hx
          have hc0 := sb_cell (hx.heap H3.out (fun h => h))
          have hz0 := (HB1.out.frm0 hx).c8
          go_simp
          exact ⟨rfl, rfl⟩
        simp only [Act.put, List.setIfInBounds_toArray, List.set_cons_zero, List.set_cons_succ, valsL_zero, valsL_succ]
        obtain ⟨ho2, HO⟩ := HO
        refine wpS_V ho2.out rfl ?_ ?_
        · simp only [valsL_zero, valsL_succ]; apply FI_in rfl; intro wx hx
          go_simp
          exact ⟨rfl, rfl⟩
        simp only [Act.put, List.setIfInBounds_toArray, List.set_cons_zero, List.set_cons_succ, valsL_zero, valsL_succ]
        obtain ⟨ho3, HO⟩ := HO
        refine wpS_V ho3.out rfl ?_ ?_
        · simp only [valsL_zero, valsL_succ]; apply FI_in rfl; intro wx hx
          go_simp
          exact ⟨rfl, rfl⟩
        simp only [Act.put, List.setIfInBounds_toArray, List.set_cons_zero, List.set_cons_succ, valsL_zero, valsL_succ]
        obtain ⟨ho4, HO⟩ := HO
        refine wpS_V ho4.out rfl ?_ ?_
        · simp only [valsL_zero, valsL_succ]; apply FI_in rfl; intro wx hx
          go_simp
          exact ⟨rfl, rfl⟩
        simp only [Act.put, List.setIfInBounds_toArray, List.set_cons_zero, List.set_cons_succ, valsL_zero, valsL_succ]
        obtain ⟨ho5, HO⟩ := HO
        refine wpS_V ho5.out rfl ?_ ?_
        · simp only [valsL_zero, valsL_succ]; apply FI_in rfl; intro wx hx
          go_simp
          exact ⟨rfl, rfl⟩
        simp only [Act.put, List.setIfInBounds_toArray, List.set_cons_zero, List.set_cons_succ, valsL_zero, valsL_succ]
        obtain ⟨ho6, HO⟩ := HO
        refine wpS_V ho6.out rfl ?_ ?_
        · simp only [valsL_zero, valsL_succ]; apply FI_in rfl; intro wx hx
          have hc0 := sb_cell (hx.heap H3.out (fun h => h))
          have hz0 := (HB1.out.frm0 hx).c8
          go_simp
          exact ⟨rfl, rfl⟩
        simp only [Act.put, List.setIfInBounds_toArray, List.set_cons_zero, List.set_cons_succ, valsL_zero, valsL_succ]
        obtain ⟨ho7, HO⟩ := HO
        refine wpS_V ho7.out rfl ?_ ?_
        · simp only [valsL_zero, valsL_succ]; apply FI_in rfl; intro wx hx
          go_simp
          exact ⟨rfl, rfl⟩
        simp only [Act.put, List.setIfInBounds_toArray, List.set_cons_zero, List.set_cons_succ, valsL_zero, valsL_succ]
        obtain ⟨ho8, HO⟩ := HO
        refine wpS_V ho8.out rfl ?_ ?_
        · simp only [valsL_zero, valsL_succ]; apply FI_in rfl; intro wx hx
          go_simp
          exact ⟨rfl, rfl⟩
        simp only [Act.put, List.setIfInBounds_toArray, List.set_cons_zero, List.set_cons_succ, valsL_zero, valsL_succ]
        obtain ⟨ho9, HO⟩ := HO
        refine wpS_V ho9.out rfl ?_ ?_
        · simp only [valsL_zero, valsL_succ]; apply FI_in rfl; intro wx hx
          go_simp
          exact ⟨rfl, rfl⟩
        simp only [Act.put, List.setIfInBounds_toArray, List.set_cons_zero, List.set_cons_succ, valsL_zero, valsL_succ]
        obtain ⟨ho10, HO⟩ := HO
        refine wpS_V ho10.out rfl ?_ ?_
        · simp only [valsL_zero, valsL_succ]; apply FI_yes (d := 31) rfl ho9.out (by rfl) (by kernel_rfl); intro wx hx
          go_simp
          exact ⟨rfl, rfl⟩
        simp only [Act.put, List.setIfInBounds_toArray, List.set_cons_zero, List.set_cons_succ, valsL_zero, valsL_succ]
        obtain ⟨ho11, HO⟩ := HO
        refine wpS_V ho11.out rfl ?_ ?_
        · simp only [valsL_zero, valsL_succ]; apply FI_yes (d := 31) rfl ho9.out (by rfl) (by kernel_rfl); intro wx hx
          have hc0 := sb_cell (hx.heap H3.out (fun h => h))
          have hz0 := (HB1.out.frm0 hx).c8
          go_simp
          exact ⟨rfl, rfl⟩
        simp only [Act.put, List.setIfInBounds_toArray, List.set_cons_zero, List.set_cons_succ, valsL_zero, valsL_succ]
        obtain ⟨ho12, HO⟩ := HO
        refine wpS_V ho12.out rfl ?_ ?_
        · simp only [valsL_zero, valsL_succ]; apply FI_yes (d := 31) rfl ho9.out (by rfl) (by kernel_rfl); intro wx hx
          go_simp
          exact ⟨rfl, rfl⟩
        simp only [Act.put, List.setIfInBounds_toArray, List.set_cons_zero, List.set_cons_succ, valsL_zero, valsL_succ]
        obtain ⟨ho13, HO⟩ := HO
        refine wpS_V ho13.out rfl ?_ ?_
        · simp only [valsL_zero, valsL_succ]; apply FI_yes (d := 31) rfl ho9.out (by rfl) (by kernel_rfl); intro wx hx
          go_simp
          exact ⟨rfl, rfl⟩
        simp only [Act.put, List.setIfInBounds_toArray, List.set_cons_zero, List.set_cons_succ, valsL_zero, valsL_succ]
        obtain ⟨ho14, HO⟩ := HO
        refine wpS_V ho14.out rfl ?_ ?_
        · simp only [valsL_zero, valsL_succ]; apply FI_yes (d := 31) rfl ho9.out (by rfl) (by kernel_rfl); intro wx hx
          go_simp
          exact ⟨rfl, rfl⟩
        simp only [Act.put, List.setIfInBounds_toArray, List.set_cons_zero, List.set_cons_succ, valsL_zero, valsL_succ]
        obtain ⟨ho15, HO⟩ := HO
        refine wpS_V ho15.out rfl ?_ ?_
        · simp only [valsL_zero, valsL_succ]; apply FI_yes (d := 31) rfl ho9.out (by rfl) (by kernel_rfl); intro wx hx
          go_simp
          exact ⟨rfl, rfl⟩
        simp only [Act.put, List.setIfInBounds_toArray, List.set_cons_zero, List.set_cons_succ, valsL_zero, valsL_succ]
        obtain ⟨ho16, HO⟩ := HO
        refine wpS_V ho16.out rfl ?_ ?_
        · simp only [valsL_zero, valsL_succ]; apply FI_yes (d := 31) rfl ho9.out (by rfl) (by kernel_rfl); intro wx hx
          exact fu_load_c 30 (.tmp 37) rfl b 12 (by kernel_rfl) #[.int .i64 B.w.spec.s0, .int .i64 B.w.spec.s1, .int .i64 B.w.spec.s2, .int .i64 B.w.spec.s3, .int .i64 B.w.spec.s4, .int .i64 B.w.spec.s5, .int .i64 B.w.spec.s6, .int .i64 B.w.spec.s7, .int .i64 B.w.spec.s8, .int .i64 B.w.spec.s9, .int .i64 B.w.spec.s10, .int .i64 B.w.spec.s11] (HB1.out.frm0 hx).spec _ Tryz.underlying30 rfl (by kernel_rfl)
        simp only [Act.put, List.setIfInBounds_toArray, List.set_cons_zero, List.set_cons_succ, valsL_zero, valsL_succ]
        obtain ⟨ho17, HO⟩ := HO
        refine wpS_W (c := 0) ho17.out rfl (FW_yes (d := 31) rfl ho9.out (by rfl) (by kernel_rfl) fun wx hx => ?_) fun u17 g17 => ?_
        · go_simp
          exact (HSV.out ▸ steps_calls B.w.spec wx).mono (fun e w' h => by obtain ⟨v, rfl, ho, hf⟩ := h; rw [HNN.out] at ho; obtain ⟨a, k, rfl, _⟩ := (Rd.ofOwns ho).shape; exact ⟨_, rfl, hx.1.then0 hf, a, k, rfl⟩)
        simp only [Act.put, List.setIfInBounds_toArray, List.set_cons_zero, List.set_cons_succ, valsL_zero, valsL_succ]
        obtain ⟨ho18, HO⟩ := HO
        refine wpS_W (c := 1) ho18.out rfl (FW_yes (d := 31) rfl ho9.out (by rfl) (by kernel_rfl) fun wx hx => ?_) fun u18 g18 => ?_
        · obtain ⟨a18, k18, h18⟩ := hx.2 rfl
          have h18 : u17 = .slice a18 N k18 := h18
          subst h18
          go_simp
          exact ⟨rfl, hx.1⟩
        obtain rfl := g18 rfl
        simp only [Act.put, List.setIfInBounds_toArray, List.set_cons_zero, List.set_cons_succ, valsL_zero, valsL_succ]
        obtain ⟨ho19, HO⟩ := HO
        refine wpS_V ho19.out rfl ?_ ?_
        · simp only [valsL_zero, valsL_succ]; apply FI_yes (d := 31) rfl ho9.out (by rfl) (by kernel_rfl); intro wx hx
          go_simp
          exact ⟨rfl, rfl⟩
        simp only [Act.put, List.setIfInBounds_toArray, List.set_cons_zero, List.set_cons_succ, valsL_zero, valsL_succ]
        obtain ⟨ho20, HO⟩ := HO
        refine wpS_V ho20.out rfl ?_ ?_
        · simp only [valsL_zero, valsL_succ]; apply FI_in rfl; intro wx hx
          go_simp
          exact ⟨rfl, rfl⟩
        simp only [Act.put, List.setIfInBounds_toArray, List.set_cons_zero, List.set_cons_succ, valsL_zero, valsL_succ]
        obtain ⟨ho21, HO⟩ := HO
        refine wpS_V ho21.out rfl ?_ ?_
        · simp only [valsL_zero, valsL_succ]; apply FI_in rfl; intro wx hx
          go_simp
          exact ⟨rfl, rfl⟩
        simp only [Act.put, List.setIfInBounds_toArray, List.set_cons_zero, List.set_cons_succ, valsL_zero, valsL_succ]
        refine HQ.out _ _ ?_
        intro w2 hj
        clear HQ HO ho0 ho1 ho2 ho3 ho4 ho5 ho6 ho7 ho8 ho9 ho10 ho11 ho12 ho13 ho14 ho15 ho16 ho17 ho18 ho19 ho20 ho21
        have HF2 := hid (HF1.out.then0 hj.1)
        clear hj e4
        by_cases h5 : (N : Int) < r.w
        · have hR := HR3.out
          rw [if_pos h5] at hR
          subst hR
          go_wp2_with fail
          go_ret
          exact ⟨rfl, HF2.out⟩
        · have hR := HR3.out
          rw [if_neg h5] at hR
          subst hR
          go_wp2_with fail
          go_ret
          exact ⟨rfl, HF2.out⟩
    · by_cases h3 : r.t = promoteS
      · rw [if_neg (fun h => h.2 h3)] at HR1
        have e2 : (r.t.toList == [112, 97, 115, 115, 101, 100]) = false := str_isnt h2
        have e3 : r.t.toList = [112, 114, 111, 109, 111, 116, 101] := str_is h3
        rw [e3] at e2
        clear h2 h3 e2
        have HR2 := HR1
        clear HR1
        go_upto_region 5 with fail
        clear e1 e3 c5 d7
        by_cases h4 : r.w = wrap64 (B.w.step + 1)
        case neg =>
          have hR := HR2.out
          rw [if_pos (.inl h4)] at hR
          subst hR
          have e4 : (r.w != IntKind.i64.wrap (B.w.step + 1)) = true := by rw [Go.IntWalk.i64_left]; exact bne_yes h4
          clear h4
          apply wp_region_G 21 (fun _ => none) (valsL (_ :: _ :: _ :: _ :: _ :: _ :: _ :: _ :: _ :: _ :: _ :: _ :: _ :: _ :: _ :: _ :: _ :: _ :: _ :: _ :: _ :: [])) ?hm4 ?hB4 ?hal4 ?main4
          case hm4 => kernel_rfl
          case hB4 => kernel_rfl
          case hal4 =>
            intro i o obj ho hi
            cases hi
          rotate_left 21
          intro ops QT HO HQ
          obtain ⟨ho0, HO⟩ := HO
          refine wpG_v ho0.out rfl ?_ ?_
          · simp only [valsL_zero, valsL_succ]; apply FY_in rfl; intro wx hx
            go_simp
            exact ⟨rfl, rfl⟩
          simp only [Act.put, List.setIfInBounds_toArray, List.set_cons_zero, List.set_cons_succ, valsL_zero, valsL_succ]
          obtain ⟨ho1, HO⟩ := HO
          refine wpG_v ho1.out rfl ?_ ?_
          · simp only [valsL_zero, valsL_succ]; apply FY_in rfl; intro wx hx
            have hc0 := sb_cell (hx.heap H3.out (fun h => h))
            have hz0 := (HB1.out.frm0 hx).c8
            go_simp
            exact ⟨rfl, rfl⟩
          simp only [Act.put, List.setIfInBounds_toArray, List.set_cons_zero, List.set_cons_succ, valsL_zero, valsL_succ]
          obtain ⟨ho2, HO⟩ := HO
          refine wpG_v ho2.out rfl ?_ ?_
          · simp only [valsL_zero, valsL_succ]; apply FY_in rfl; intro wx hx
            go_simp
            exact ⟨rfl, rfl⟩
          simp only [Act.put, List.setIfInBounds_toArray, List.set_cons_zero, List.set_cons_succ, valsL_zero, valsL_succ]
          obtain ⟨ho3, HO⟩ := HO
          refine wpG_v ho3.out rfl ?_ ?_
          · simp only [valsL_zero, valsL_succ]; apply FY_in rfl; intro wx hx
            go_simp
            exact ⟨rfl, rfl⟩
          simp only [Act.put, List.setIfInBounds_toArray, List.set_cons_zero, List.set_cons_succ, valsL_zero, valsL_succ]
          obtain ⟨ho4, HO⟩ := HO
          refine wpG_v ho4.out rfl ?_ ?_
          · simp only [valsL_zero, valsL_succ]; apply FY_in rfl; intro wx hx
            go_simp
            exact ⟨rfl, rfl⟩
          simp only [Act.put, List.setIfInBounds_toArray, List.set_cons_zero, List.set_cons_succ, valsL_zero, valsL_succ]
          obtain ⟨ho5, HO⟩ := HO
          refine wpG_v ho5.out rfl ?_ ?_
          · simp only [valsL_zero, valsL_succ]; apply FY_in rfl; intro wx hx
            go_simp
            exact ⟨rfl, rfl⟩
          simp only [Act.put, List.setIfInBounds_toArray, List.set_cons_zero, List.set_cons_succ, valsL_zero, valsL_succ]
          obtain ⟨ho6, HO⟩ := HO
          refine wpG_v ho6.out rfl ?_ ?_
          · simp only [valsL_zero, valsL_succ]; apply FY_in rfl; intro wx hx
            have hc0 := sb_cell (hx.heap H3.out (fun h => h))
            have hz0 := (HB1.out.frm0 hx).c8
            go_simp
            exact ⟨rfl, rfl⟩
          simp only [Act.put, List.setIfInBounds_toArray, List.set_cons_zero, List.set_cons_succ, valsL_zero, valsL_succ]
          obtain ⟨ho7, HO⟩ := HO
          refine wpG_v ho7.out rfl ?_ ?_
          · simp only [valsL_zero, valsL_succ]; apply FY_in rfl; intro wx hx
            go_simp
            exact ⟨rfl, rfl⟩
          simp only [Act.put, List.setIfInBounds_toArray, List.set_cons_zero, List.set_cons_succ, valsL_zero, valsL_succ]
          obtain ⟨ho8, HO⟩ := HO
          refine wpG_v ho8.out rfl ?_ ?_
          · simp only [valsL_zero, valsL_succ]; apply FY_in rfl; intro wx hx
            go_simp
            exact ⟨rfl, rfl⟩
          simp only [Act.put, List.setIfInBounds_toArray, List.set_cons_zero, List.set_cons_succ, valsL_zero, valsL_succ]
          obtain ⟨ho9, HO⟩ := HO
          refine wpG_v ho9.out rfl ?_ ?_
          · simp only [valsL_zero, valsL_succ]; apply FY_in rfl; intro wx hx
            go_simp
            exact ⟨rfl, rfl⟩
          simp only [Act.put, List.setIfInBounds_toArray, List.set_cons_zero, List.set_cons_succ, valsL_zero, valsL_succ]
          obtain ⟨ho10, HO⟩ := HO
          refine wpG_v ho10.out rfl ?_ ?_
          · simp only [valsL_zero, valsL_succ]; exact FY_no (d := 31) rfl ho9.out (by rfl) (by kernel_rfl)
          simp only [Act.put, List.setIfInBounds_toArray, List.set_cons_zero, List.set_cons_succ, valsL_zero, valsL_succ]
          obtain ⟨ho11, HO⟩ := HO
          refine wpG_v ho11.out rfl ?_ ?_
          · simp only [valsL_zero, valsL_succ]; exact FY_no (d := 31) rfl ho9.out (by rfl) (by kernel_rfl)
          simp only [Act.put, List.setIfInBounds_toArray, List.set_cons_zero, List.set_cons_succ, valsL_zero, valsL_succ]
          obtain ⟨ho12, HO⟩ := HO
          refine wpG_v ho12.out rfl ?_ ?_
          · simp only [valsL_zero, valsL_succ]; exact FY_no (d := 31) rfl ho9.out (by rfl) (by kernel_rfl)
          simp only [Act.put, List.setIfInBounds_toArray, List.set_cons_zero, List.set_cons_succ, valsL_zero, valsL_succ]
          obtain ⟨ho13, HO⟩ := HO
          refine wpG_v ho13.out rfl ?_ ?_
          · simp only [valsL_zero, valsL_succ]; exact FY_no (d := 31) rfl ho9.out (by rfl) (by kernel_rfl)
          simp only [Act.put, List.setIfInBounds_toArray, List.set_cons_zero, List.set_cons_succ, valsL_zero, valsL_succ]
          obtain ⟨ho14, HO⟩ := HO
          refine wpG_v ho14.out rfl ?_ ?_
          · simp only [valsL_zero, valsL_succ]; exact FY_no (d := 31) rfl ho9.out (by rfl) (by kernel_rfl)
          simp only [Act.put, List.setIfInBounds_toArray, List.set_cons_zero, List.set_cons_succ, valsL_zero, valsL_succ]
          obtain ⟨ho15, HO⟩ := HO
          refine wpG_v ho15.out rfl ?_ ?_
          · simp only [valsL_zero, valsL_succ]; exact FY_no (d := 31) rfl ho9.out (by rfl) (by kernel_rfl)
          simp only [Act.put, List.setIfInBounds_toArray, List.set_cons_zero, List.set_cons_succ, valsL_zero, valsL_succ]
          obtain ⟨ho16, HO⟩ := HO
          refine wpG_v ho16.out rfl ?_ ?_
          · simp only [valsL_zero, valsL_succ]; exact FY_no (d := 31) rfl ho9.out (by rfl) (by kernel_rfl)
          simp only [Act.put, List.setIfInBounds_toArray, List.set_cons_zero, List.set_cons_succ, valsL_zero, valsL_succ]
          obtain ⟨ho17, HO⟩ := HO
          refine wpG_v ho17.out rfl ?_ ?_
          · simp only [valsL_zero, valsL_succ]; exact FY_no (d := 31) rfl ho9.out (by rfl) (by kernel_rfl)
          simp only [Act.put, List.setIfInBounds_toArray, List.set_cons_zero, List.set_cons_succ, valsL_zero, valsL_succ]
          obtain ⟨ho18, HO⟩ := HO
          refine wpG_v ho18.out rfl ?_ ?_
          · simp only [valsL_zero, valsL_succ]; exact FY_no (d := 31) rfl ho9.out (by rfl) (by kernel_rfl)
          simp only [Act.put, List.setIfInBounds_toArray, List.set_cons_zero, List.set_cons_succ, valsL_zero, valsL_succ]
          obtain ⟨ho19, HO⟩ := HO
          refine wpG_v ho19.out rfl ?_ ?_
          · simp only [valsL_zero, valsL_succ]; exact FY_no (d := 31) rfl ho9.out (by rfl) (by kernel_rfl)
          simp only [Act.put, List.setIfInBounds_toArray, List.set_cons_zero, List.set_cons_succ, valsL_zero, valsL_succ]
          obtain ⟨ho20, HO⟩ := HO
          refine wpG_v ho20.out rfl ?_ ?_
          · simp only [valsL_zero, valsL_succ]; apply FY_in rfl; intro wx hx
            go_simp
            exact ⟨rfl, rfl⟩
          simp only [Act.put, List.setIfInBounds_toArray, List.set_cons_zero, List.set_cons_succ, valsL_zero, valsL_succ]
          refine HQ.out _ _ ?_
          intro w2 hf hE hN
          simp only [List.drop_succ_cons, List.drop_zero]
          clear HQ HO hE hN ho0 ho1 ho2 ho3 ho4 ho5 ho6 ho7 ho8 ho9 ho10 ho11 ho12 ho13 ho14 ho15 ho16 ho17 ho18 ho19 ho20
          have HF2 := hid (HF1.out.then0 hf)
          clear hf e4
          go_wp2_with fail
          go_ret
          exact ⟨rfl, HF2.out⟩
        case pos =>
          have e4 : (r.w != IntKind.i64.wrap (B.w.step + 1)) = false := by rw [Go.IntWalk.i64_left]; exact bne_no h4
          have hR := HR2.out
          have hN : stepsN B.w.spec = ((stepsF B.w.spec).length : Int) := rfl
          obtain ⟨N, hNN⟩ : ∃ q, (stepsF B.w.spec).length = q := ⟨_, rfl⟩
          rw [hN, hNN] at hR
          have HNN := hid hNN
          have HR3 : Hid ((if (N : Int) < r.w then (7 : Int) else 0) = R) := by
            show (if (N : Int) < r.w then (7 : Int) else 0) = R
            rw [← hR]
            by_cases hq : (N : Int) < r.w
            · rw [if_pos hq, if_pos (.inr hq)]
            · rw [if_neg hq, if_neg (by rintro (h | h); exact h h4; exact hq h)]
          have HSV : Hid (B.w.spec.val = .agg #[.int .i64 B.w.spec.s0, .int .i64 B.w.spec.s1, .int .i64 B.w.spec.s2, .int .i64 B.w.spec.s3, .int .i64 B.w.spec.s4, .int .i64 B.w.spec.s5, .int .i64 B.w.spec.s6, .int .i64 B.w.spec.s7, .int .i64 B.w.spec.s8, .int .i64 B.w.spec.s9, .int .i64 B.w.spec.s10, .int .i64 B.w.spec.s11]) := rfl
          clear h4 hR hN hNN HR2
          apply wp_region_S [17, 18] (valsL (_ :: _ :: _ :: _ :: _ :: _ :: _ :: _ :: _ :: _ :: _ :: _ :: _ :: _ :: _ :: _ :: (.agg #[.int .i64 B.w.spec.s0, .int .i64 B.w.spec.s1, .int .i64 B.w.spec.s2, .int .i64 B.w.spec.s3, .int .i64 B.w.spec.s4, .int .i64 B.w.spec.s5, .int .i64 B.w.spec.s6, .int .i64 B.w.spec.s7, .int .i64 B.w.spec.s8, .int .i64 B.w.spec.s9, .int .i64 B.w.spec.s10, .int .i64 B.w.spec.s11]) :: undef :: undef :: _ :: _ :: _ :: [])) (fun _ => 2) (fun _ => fun wx => Frm M0 w1 wx) (fun i u => i = 18 → u = .int .i64 (N : Int)) (fun c E wx => Frm M0 w1 wx ∧ (c = 1 → ∃ a k, E 17 = .slice a N k)) ?hm5 ?hB5 ?hU5 ?hI5 ?hG5 ?hZ5 ?main5
          case hm5 => kernel_rfl
          case hB5 => kernel_rfl
          case hU5 =>
            exact fun _ => ⟨.int .i64 (N : Int), fun _ => rfl⟩
          case hI5 =>
            exact fun c E wx hc hj _ _ => (fun c E wx hc hj => hj.1) c E wx hc hj
          case hG5 =>
            exact fun c E wx wy hc hj hf => ⟨hj.1.then0 hf, hj.2⟩
          case hZ5 =>
            exact fun wx hf => ⟨hf, fun h => by cases h⟩
          rotate_left 19
          intro ops QT HO HQ
          obtain ⟨ho0, HO⟩ := HO
          refine wpS_V ho0.out rfl ?_ ?_
          · simp only [valsL_zero, valsL_succ]; apply FI_in rfl; intro wx hx
            go_simp
            exact ⟨rfl, rfl⟩
          simp only [Act.put, List.setIfInBounds_toArray, List.set_cons_zero, List.set_cons_succ, valsL_zero, valsL_succ]
          obtain ⟨ho1, HO⟩ := HO
          refine wpS_V ho1.out rfl ?_ ?_
          · simp only [valsL_zero, valsL_succ]; apply FI_in rfl; intro wx hx
            have hc0 := sb_cell (hx.heap H3.out (fun h => h))
            have hz0 := (HB1.out.frm0 hx).c8
            go_simp
            exact ⟨rfl, rfl⟩
          simp only [Act.put, List.setIfInBounds_toArray, List.set_cons_zero, List.set_cons_succ, valsL_zero, valsL_succ]
          obtain ⟨ho2, HO⟩ := HO
          refine wpS_V ho2.out rfl ?_ ?_
          · simp only [valsL_zero, valsL_succ]; apply FI_in rfl; intro wx hx
            go_simp
            exact ⟨rfl, rfl⟩
          simp only [Act.put, List.setIfInBounds_toArray, List.set_cons_zero, List.set_cons_succ, valsL_zero, valsL_succ]
          obtain ⟨ho3, HO⟩ := HO
          refine wpS_V ho3.out rfl ?_ ?_
          · simp only [valsL_zero, valsL_succ]; apply FI_in rfl; intro wx hx
            go_simp
            exact ⟨rfl, rfl⟩
          simp only [Act.put, List.setIfInBounds_toArray, List.set_cons_zero, List.set_cons_succ, valsL_zero, valsL_succ]
          obtain ⟨ho4, HO⟩ := HO
          refine wpS_V ho4.out rfl ?_ ?_
          · simp only [valsL_zero, valsL_succ]; apply FI_in rfl; intro wx hx
            go_simp
            exact ⟨rfl, rfl⟩
          simp only [Act.put, List.setIfInBounds_toArray, List.set_cons_zero, List.set_cons_succ, valsL_zero, valsL_succ]
          obtain ⟨ho5, HO⟩ := HO
          refine wpS_V ho5.out rfl ?_ ?_
          · simp only [valsL_zero, valsL_succ]; apply FI_in rfl; intro wx hx
            go_simp
            exact ⟨rfl, rfl⟩
          simp only [Act.put, List.setIfInBounds_toArray, List.set_cons_zero, List.set_cons_succ, valsL_zero, valsL_succ]
          obtain ⟨ho6, HO⟩ := HO
          refine wpS_V ho6.out rfl ?_ ?_
          · simp only [valsL_zero, valsL_succ]; apply FI_in rfl; intro wx hx
            have hc0 := sb_cell (hx.heap H3.out (fun h => h))
            have hz0 := (HB1.out.frm0 hx).c8
            go_simp
            exact ⟨rfl, rfl⟩
          simp only [Act.put, List.setIfInBounds_toArray, List.set_cons_zero, List.set_cons_succ, valsL_zero, valsL_succ]
          obtain ⟨ho7, HO⟩ := HO
          refine wpS_V ho7.out rfl ?_ ?_
          · simp only [valsL_zero, valsL_succ]; apply FI_in rfl; intro wx hx
            go_simp
            exact ⟨rfl, rfl⟩
          simp only [Act.put, List.setIfInBounds_toArray, List.set_cons_zero, List.set_cons_succ, valsL_zero, valsL_succ]
          obtain ⟨ho8, HO⟩ := HO
          refine wpS_V ho8.out rfl ?_ ?_
          · simp only [valsL_zero, valsL_succ]; apply FI_in rfl; intro wx hx
            go_simp
            exact ⟨rfl, rfl⟩
          simp only [Act.put, List.setIfInBounds_toArray, List.set_cons_zero, List.set_cons_succ, valsL_zero, valsL_succ]
          obtain ⟨ho9, HO⟩ := HO
          refine wpS_V ho9.out rfl ?_ ?_
          · simp only [valsL_zero, valsL_succ]; apply FI_in rfl; intro wx hx
            go_simp
            exact ⟨rfl, rfl⟩
          simp only [Act.put, List.setIfInBounds_toArray, List.set_cons_zero, List.set_cons_succ, valsL_zero, valsL_succ]
          obtain ⟨ho10, HO⟩ := HO
          refine wpS_V ho10.out rfl ?_ ?_
          · simp only [valsL_zero, valsL_succ]; apply FI_yes (d := 31) rfl ho9.out (by rfl) (by kernel_rfl); intro wx hx
            go_simp
            exact ⟨rfl, rfl⟩
          simp only [Act.put, List.setIfInBounds_toArray, List.set_cons_zero, List.set_cons_succ, valsL_zero, valsL_succ]
          obtain ⟨ho11, HO⟩ := HO
          refine wpS_V ho11.out rfl ?_ ?_
          · simp only [valsL_zero, valsL_succ]; apply FI_yes (d := 31) rfl ho9.out (by rfl) (by kernel_rfl); intro wx hx
            have hc0 := sb_cell (hx.heap H3.out (fun h => h))
            have hz0 := (HB1.out.frm0 hx).c8
            go_simp
            exact ⟨rfl, rfl⟩
          simp only [Act.put, List.setIfInBounds_toArray, List.set_cons_zero, List.set_cons_succ, valsL_zero, valsL_succ]
          obtain ⟨ho12, HO⟩ := HO
          refine wpS_V ho12.out rfl ?_ ?_
          · simp only [valsL_zero, valsL_succ]; apply FI_yes (d := 31) rfl ho9.out (by rfl) (by kernel_rfl); intro wx hx
            go_simp
            exact ⟨rfl, rfl⟩
          simp only [Act.put, List.setIfInBounds_toArray, List.set_cons_zero, List.set_cons_succ, valsL_zero, valsL_succ]
          obtain ⟨ho13, HO⟩ := HO
          refine wpS_V ho13.out rfl ?_ ?_
          · simp only [valsL_zero, valsL_succ]; apply FI_yes (d := 31) rfl ho9.out (by rfl) (by kernel_rfl); intro wx hx
            go_simp
            exact ⟨rfl, rfl⟩
          simp only [Act.put, List.setIfInBounds_toArray, List.set_cons_zero, List.set_cons_succ, valsL_zero, valsL_succ]
          obtain ⟨ho14, HO⟩ := HO
          refine wpS_V ho14.out rfl ?_ ?_
          · simp only [valsL_zero, valsL_succ]; apply FI_yes (d := 31) rfl ho9.out (by rfl) (by kernel_rfl); intro wx hx
            go_simp
            exact ⟨rfl, rfl⟩
          simp only [Act.put, List.setIfInBounds_toArray, List.set_cons_zero, List.set_cons_succ, valsL_zero, valsL_succ]
          obtain ⟨ho15, HO⟩ := HO
          refine wpS_V ho15.out rfl ?_ ?_
          · simp only [valsL_zero, valsL_succ]; apply FI_yes (d := 31) rfl ho9.out (by rfl) (by kernel_rfl); intro wx hx
            go_simp
            exact ⟨rfl, rfl⟩
          simp only [Act.put, List.setIfInBounds_toArray, List.set_cons_zero, List.set_cons_succ, valsL_zero, valsL_succ]
          obtain ⟨ho16, HO⟩ := HO
          refine wpS_V ho16.out rfl ?_ ?_
          · simp only [valsL_zero, valsL_succ]; apply FI_yes (d := 31) rfl ho9.out (by rfl) (by kernel_rfl); intro wx hx
            exact fu_load_c 30 (.tmp 37) rfl b 12 (by kernel_rfl) #[.int .i64 B.w.spec.s0, .int .i64 B.w.spec.s1, .int .i64 B.w.spec.s2, .int .i64 B.w.spec.s3, .int .i64 B.w.spec.s4, .int .i64 B.w.spec.s5, .int .i64 B.w.spec.s6, .int .i64 B.w.spec.s7, .int .i64 B.w.spec.s8, .int .i64 B.w.spec.s9, .int .i64 B.w.spec.s10, .int .i64 B.w.spec.s11] (HB1.out.frm0 hx).spec _ Tryz.underlying30 rfl (by kernel_rfl)
          simp only [Act.put, List.setIfInBounds_toArray, List.set_cons_zero, List.set_cons_succ, valsL_zero, valsL_succ]
          obtain ⟨ho17, HO⟩ := HO
          refine wpS_W (c := 0) ho17.out rfl (FW_yes (d := 31) rfl ho9.out (by rfl) (by kernel_rfl) fun wx hx => ?_) fun u17 g17 => ?_
          · go_simp
            exact (HSV.out ▸ steps_calls B.w.spec wx).mono (fun e w' h => by obtain ⟨v, rfl, ho, hf⟩ := h; rw [HNN.out] at ho; obtain ⟨a, k, rfl, _⟩ := (Rd.ofOwns ho).shape; exact ⟨_, rfl, hx.1.then0 hf, a, k, rfl⟩)
          simp only [Act.put, List.setIfInBounds_toArray, List.set_cons_zero, List.set_cons_succ, valsL_zero, valsL_succ]
          obtain ⟨ho18, HO⟩ := HO
          refine wpS_W (c := 1) ho18.out rfl (FW_yes (d := 31) rfl ho9.out (by rfl) (by kernel_rfl) fun wx hx => ?_) fun u18 g18 => ?_
          · obtain ⟨a18, k18, h18⟩ := hx.2 rfl
            have h18 : u17 = .slice a18 N k18 := h18
            subst h18
            go_simp
            exact ⟨rfl, hx.1⟩
          obtain rfl := g18 rfl
          simp only [Act.put, List.setIfInBounds_toArray, List.set_cons_zero, List.set_cons_succ, valsL_zero, valsL_succ]
          obtain ⟨ho19, HO⟩ := HO
          refine wpS_V ho19.out rfl ?_ ?_
          · simp only [valsL_zero, valsL_succ]; apply FI_yes (d := 31) rfl ho9.out (by rfl) (by kernel_rfl); intro wx hx
            go_simp
            exact ⟨rfl, rfl⟩
          simp only [Act.put, List.setIfInBounds_toArray, List.set_cons_zero, List.set_cons_succ, valsL_zero, valsL_succ]
          obtain ⟨ho20, HO⟩ := HO
          refine wpS_V ho20.out rfl ?_ ?_
          · simp only [valsL_zero, valsL_succ]; apply FI_in rfl; intro wx hx
            go_simp
            exact ⟨rfl, rfl⟩
          simp only [Act.put, List.setIfInBounds_toArray, List.set_cons_zero, List.set_cons_succ, valsL_zero, valsL_succ]
          obtain ⟨ho21, HO⟩ := HO
          refine wpS_V ho21.out rfl ?_ ?_
          · simp only [valsL_zero, valsL_succ]; apply FI_in rfl; intro wx hx
            go_simp
            exact ⟨rfl, rfl⟩
          simp only [Act.put, List.setIfInBounds_toArray, List.set_cons_zero, List.set_cons_succ, valsL_zero, valsL_succ]
          refine HQ.out _ _ ?_
          intro w2 hj
          clear HQ HO ho0 ho1 ho2 ho3 ho4 ho5 ho6 ho7 ho8 ho9 ho10 ho11 ho12 ho13 ho14 ho15 ho16 ho17 ho18 ho19 ho20 ho21
          have HF2 := hid (HF1.out.then0 hj.1)
          clear hj e4
          by_cases h5 : (N : Int) < r.w
          · have hR := HR3.out
            rw [if_pos h5] at hR
            subst hR
            go_wp2_with fail
            go_ret
            exact ⟨rfl, HF2.out⟩
          · have hR := HR3.out
            rw [if_neg h5] at hR
            subst hR
            go_wp2_with fail
            go_ret
            exact ⟨rfl, HF2.out⟩
      · have hR := HR1.out
        rw [if_pos ⟨h2, h3⟩] at hR
        subst hR
        have e2 : (r.t.toList == [112, 97, 115, 115, 101, 100]) = false := str_isnt h2
        have e3 : (r.t.toList == [112, 114, 111, 109, 111, 116, 101]) = false := str_isnt h3
        clear h2 h3
        go_wp2_with fail
        go_ret
        exact ⟨rfl, HF1.out⟩
end Go.Proofs.YtmacpdddimcmgaaGreatDoor
namespace Go.Proofs.YtmacpdddimcmgaaGreatDoor
set_option linter.unusedVariables false
set_option linter.unusedSimpArgs false
set_option maxRecDepth 20000
open Go.RowKit
def chkL : List (Int × Value) := [(1, fnv 75 #[]), (2, fnv 76 #[]), (3, fnv 77 #[]), (4, fnv 78 #[]), (5, fnv 79 #[]), (6, fnv 80 #[]), (7, fnv 81 #[])]
set_option maxHeartbeats 1000000 in
theorem checks_calls (w : World) : Calls Tryz.prog 46 #[] w fun r w' => ∃ B : Nat, r = .returned (.map (some B)) ∧ w'.heap[B]? = some (imapO chkL) ∧ w.heap.size ≤ B ∧ Frm M0 w w' := by
  go_enter Tryz.func46, Tryz.ntmps46
  go_wp2_with (first
    | (refine is_makeMap ?_; refine wpList_makeMap rfl _ (by rfl) ?_; intro B w' hb' hB hf'; have HB := hid hb'; have HF := hid hf'; have HZ := hid hB; clear hb' hf' hB)
    | (refine is_insert 1 ?_; refine wpList_insert (l := []) rfl _ _ _ (by rfl) Tryz.underlying97 Tryz.underlying3 (by rfl) HB.out 1 (by rfl) (by simp) ?_; intro w' hb' hf'; have hx : w'.heap[B]? = some (imapO [(1, fnv 75 #[])]) := hb'; have hy := HF.out.trans hf' (fun b hb e => by have e' : b = B := e; have := HZ.out; omega); clear HB HF; have HB := hid hx; have HF := hid hy; clear hx hy hb' hf')
    | (refine is_insert 2 ?_; refine wpList_insert (l := [(1, fnv 75 #[])]) rfl _ _ _ (by rfl) Tryz.underlying97 Tryz.underlying3 (by rfl) HB.out 2 (by rfl) (by simp) ?_; intro w' hb' hf'; have hx : w'.heap[B]? = some (imapO [(1, fnv 75 #[]), (2, fnv 76 #[])]) := hb'; have hy := HF.out.trans hf' (fun b hb e => by have e' : b = B := e; have := HZ.out; omega); clear HB HF; have HB := hid hx; have HF := hid hy; clear hx hy hb' hf')
    | (refine is_insert 3 ?_; refine wpList_insert (l := [(1, fnv 75 #[]), (2, fnv 76 #[])]) rfl _ _ _ (by rfl) Tryz.underlying97 Tryz.underlying3 (by rfl) HB.out 3 (by rfl) (by simp) ?_; intro w' hb' hf'; have hx : w'.heap[B]? = some (imapO [(1, fnv 75 #[]), (2, fnv 76 #[]), (3, fnv 77 #[])]) := hb'; have hy := HF.out.trans hf' (fun b hb e => by have e' : b = B := e; have := HZ.out; omega); clear HB HF; have HB := hid hx; have HF := hid hy; clear hx hy hb' hf')
    | (refine is_insert 4 ?_; refine wpList_insert (l := [(1, fnv 75 #[]), (2, fnv 76 #[]), (3, fnv 77 #[])]) rfl _ _ _ (by rfl) Tryz.underlying97 Tryz.underlying3 (by rfl) HB.out 4 (by rfl) (by simp) ?_; intro w' hb' hf'; have hx : w'.heap[B]? = some (imapO [(1, fnv 75 #[]), (2, fnv 76 #[]), (3, fnv 77 #[]), (4, fnv 78 #[])]) := hb'; have hy := HF.out.trans hf' (fun b hb e => by have e' : b = B := e; have := HZ.out; omega); clear HB HF; have HB := hid hx; have HF := hid hy; clear hx hy hb' hf')
    | (refine is_insert 5 ?_; refine wpList_insert (l := [(1, fnv 75 #[]), (2, fnv 76 #[]), (3, fnv 77 #[]), (4, fnv 78 #[])]) rfl _ _ _ (by rfl) Tryz.underlying97 Tryz.underlying3 (by rfl) HB.out 5 (by rfl) (by simp) ?_; intro w' hb' hf'; have hx : w'.heap[B]? = some (imapO [(1, fnv 75 #[]), (2, fnv 76 #[]), (3, fnv 77 #[]), (4, fnv 78 #[]), (5, fnv 79 #[])]) := hb'; have hy := HF.out.trans hf' (fun b hb e => by have e' : b = B := e; have := HZ.out; omega); clear HB HF; have HB := hid hx; have HF := hid hy; clear hx hy hb' hf')
    | (refine is_insert 6 ?_; refine wpList_insert (l := [(1, fnv 75 #[]), (2, fnv 76 #[]), (3, fnv 77 #[]), (4, fnv 78 #[]), (5, fnv 79 #[])]) rfl _ _ _ (by rfl) Tryz.underlying97 Tryz.underlying3 (by rfl) HB.out 6 (by rfl) (by simp) ?_; intro w' hb' hf'; have hx : w'.heap[B]? = some (imapO [(1, fnv 75 #[]), (2, fnv 76 #[]), (3, fnv 77 #[]), (4, fnv 78 #[]), (5, fnv 79 #[]), (6, fnv 80 #[])]) := hb'; have hy := HF.out.trans hf' (fun b hb e => by have e' : b = B := e; have := HZ.out; omega); clear HB HF; have HB := hid hx; have HF := hid hy; clear hx hy hb' hf')
    | (refine is_insert 7 ?_; refine wpList_insert (l := [(1, fnv 75 #[]), (2, fnv 76 #[]), (3, fnv 77 #[]), (4, fnv 78 #[]), (5, fnv 79 #[]), (6, fnv 80 #[])]) rfl _ _ _ (by rfl) Tryz.underlying97 Tryz.underlying3 (by rfl) HB.out 7 (by rfl) (by simp) ?_; intro w' hb' hf'; have hx : w'.heap[B]? = some (imapO [(1, fnv 75 #[]), (2, fnv 76 #[]), (3, fnv 77 #[]), (4, fnv 78 #[]), (5, fnv 79 #[]), (6, fnv 80 #[]), (7, fnv 81 #[])]) := hb'; have hy := HF.out.trans hf' (fun b hb e => by have e' : b = B := e; have := HZ.out; omega); clear HB HF; have HB := hid hx; have HF := hid hy; clear hx hy hb' hf'))
  go_ret
  exact ⟨B, rfl, HB.out, HZ.out, HF.out⟩
end Go.Proofs.YtmacpdddimcmgaaGreatDoor
