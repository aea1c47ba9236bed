/- The reference's spec that may be, made of any. No condition. -/
import Derived.Test.YtinbidmgllmglaaDoorSr
import Derived.Test.YtinbidmgllmglaaDoorSx
import Derived.Test.YtinbidmgllmglaaDoorRg
namespace Go.Proofs.YtinbidmgllmglaaDoor
set_option linter.unusedVariables false
set_option linter.unusedSimpArgs false
set_option maxRecDepth 20000
open Go.RowKit

def gSurge (p : Sp) : Int := if nearF p.s4 0 3 = 2 then nearF p.s1 1 5 + nearF p.s2 0 2 else nearF p.s2 0 4
def gUn (p : Sp) : Int := if gSurge p = 0 ∧ nearF p.s3 0 (nearF p.s1 1 5 + 1) = 0 then 1 else nearF p.s3 0 (nearF p.s1 1 5 + 1)
/-- The steps that a strategy's numbers make. -/
def gSteps (s n0 n1 n2 n3 : Int) : Int × Int × Int × Int :=
  if s = 0 then
    (if n1 = 0 ∨ 100 < n0 + n1 then (n0, 0, 0, 0) else
      (if n2 = 0 ∨ 100 < n0 + n1 + n2 then (n0, n0 + n1, 0, 0) else
        (if n3 = 0 ∨ 100 < n0 + n1 + n2 + n3 then (n0, n0 + n1, n0 + n1 + n2, 0) else (n0, n0 + n1, n0 + n1 + n2, n0 + n1 + n2 + n3))))
  else (0, 0, 0, 0)
def gSt (p : Sp) : Int × Int × Int × Int := gSteps (nearF p.s4 0 3) (nearF p.s5 0 60 + 1) (nearF p.s6 0 60) (nearF p.s7 0 60) (nearF p.s8 0 60)
def goodSp (p : Sp) : Sp := ⟨nearF p.s0 1 6, nearF p.s1 1 5, gSurge p, gUn p, nearF p.s4 0 3, (gSt p).1, (gSt p).2.1, (gSt p).2.2.1, (gSt p).2.2.2, nearF p.s9 1 9, nearF p.s10 0 4, nearF p.s11 1 60⟩
theorem near_bd {n least many : Int} (h : 0 < many) : least ≤ nearF n least many ∧ nearF n least many < least + many := by
  unfold nearF
  have h1 := Int.emod_nonneg (n % 18446744073709551616) (show many ≠ 0 by omega)
  have h2 := Int.emod_lt_of_pos (n % 18446744073709551616) h
  omega

set_option maxRecDepth 100000 in
set_option maxHeartbeats 8000000 in
attribute [local go_sem] FUpon in
theorem sgood_calls (p : Sp) (w : World) : Calls Tryd.prog 23 #[p.val] w fun x w' => x = .returned (goodSp p).val ∧ Frm M0 w w' := by
  obtain ⟨ver, Kver⟩ : ∃ x, Hid (nearF p.s0 1 6 = x) := ⟨_, rfl⟩
  have bver : 1 ≤ ver ∧ ver < 7 := by have := near_bd (n := p.s0) (least := 1) (many := 6) (by omega); have e := Kver.out; rw [e] at this; omega
  obtain ⟨lver, uver⟩ := bver
  obtain ⟨des, Kdes⟩ : ∃ x, Hid (nearF p.s1 1 5 = x) := ⟨_, rfl⟩
  have bdes : 1 ≤ des ∧ des < 6 := by have := near_bd (n := p.s1) (least := 1) (many := 5) (by omega); have e := Kdes.out; rw [e] at this; omega
  obtain ⟨ldes, udes⟩ := bdes
  obtain ⟨str, Kstr⟩ : ∃ x, Hid (nearF p.s4 0 3 = x) := ⟨_, rfl⟩
  have bstr : 0 ≤ str ∧ str < 3 := by have := near_bd (n := p.s4) (least := 0) (many := 3) (by omega); have e := Kstr.out; rw [e] at this; omega
  obtain ⟨lstr, ustr⟩ := bstr
  obtain ⟨su0, Ksu0⟩ : ∃ x, Hid (nearF p.s2 0 4 = x) := ⟨_, rfl⟩
  have bsu0 : 0 ≤ su0 ∧ su0 < 4 := by have := near_bd (n := p.s2) (least := 0) (many := 4) (by omega); have e := Ksu0.out; rw [e] at this; omega
  obtain ⟨lsu0, usu0⟩ := bsu0
  obtain ⟨su1, Ksu1⟩ : ∃ x, Hid (nearF p.s2 0 2 = x) := ⟨_, rfl⟩
  have bsu1 : 0 ≤ su1 ∧ su1 < 2 := by have := near_bd (n := p.s2) (least := 0) (many := 2) (by omega); have e := Ksu1.out; rw [e] at this; omega
  obtain ⟨lsu1, usu1⟩ := bsu1
  obtain ⟨m0, Km0⟩ : ∃ x, Hid (nearF p.s5 0 60 = x) := ⟨_, rfl⟩
  have bm0 : 0 ≤ m0 ∧ m0 < 60 := by have := near_bd (n := p.s5) (least := 0) (many := 60) (by omega); have e := Km0.out; rw [e] at this; omega
  obtain ⟨lm0, um0⟩ := bm0
  obtain ⟨n1, Kn1⟩ : ∃ x, Hid (nearF p.s6 0 60 = x) := ⟨_, rfl⟩
  have bn1 : 0 ≤ n1 ∧ n1 < 60 := by have := near_bd (n := p.s6) (least := 0) (many := 60) (by omega); have e := Kn1.out; rw [e] at this; omega
  obtain ⟨ln1, un1⟩ := bn1
  obtain ⟨n2, Kn2⟩ : ∃ x, Hid (nearF p.s7 0 60 = x) := ⟨_, rfl⟩
  have bn2 : 0 ≤ n2 ∧ n2 < 60 := by have := near_bd (n := p.s7) (least := 0) (many := 60) (by omega); have e := Kn2.out; rw [e] at this; omega
  obtain ⟨ln2, un2⟩ := bn2
  obtain ⟨n3, Kn3⟩ : ∃ x, Hid (nearF p.s8 0 60 = x) := ⟨_, rfl⟩
  have bn3 : 0 ≤ n3 ∧ n3 < 60 := by have := near_bd (n := p.s8) (least := 0) (many := 60) (by omega); have e := Kn3.out; rw [e] at this; omega
  obtain ⟨ln3, un3⟩ := bn3
  obtain ⟨win, Kwin⟩ : ∃ x, Hid (nearF p.s9 1 9 = x) := ⟨_, rfl⟩
  have bwin : 1 ≤ win ∧ win < 10 := by have := near_bd (n := p.s9) (least := 1) (many := 9) (by omega); have e := Kwin.out; rw [e] at this; omega
  obtain ⟨lwin, uwin⟩ := bwin
  obtain ⟨mb, Kmb⟩ : ∃ x, Hid (nearF p.s10 0 4 = x) := ⟨_, rfl⟩
  have bmb : 0 ≤ mb ∧ mb < 4 := by have := near_bd (n := p.s10) (least := 0) (many := 4) (by omega); have e := Kmb.out; rw [e] at this; omega
  obtain ⟨lmb, umb⟩ := bmb
  obtain ⟨dl, Kdl⟩ : ∃ x, Hid (nearF p.s11 1 60 = x) := ⟨_, rfl⟩
  have bdl : 1 ≤ dl ∧ dl < 61 := by have := near_bd (n := p.s11) (least := 1) (many := 60) (by omega); have e := Kdl.out; rw [e] at this; omega
  obtain ⟨ldl, udl⟩ := bdl
  obtain ⟨un0, Kun0⟩ : ∃ x, Hid (nearF p.s3 0 (des + 1) = x) := ⟨_, rfl⟩
  have bun0 : 0 ≤ un0 ∧ un0 < des + 1 := by have := near_bd (n := p.s3) (least := 0) (many := des + 1) (by omega); have e := Kun0.out; rw [e] at this; omega
  obtain ⟨lun0, uun0⟩ := bun0
  have HS : Hid (gSurge p = if str = 2 then des + su1 else su0) := hid (by unfold gSurge; rw [Kstr.out, Kdes.out, Ksu1.out, Ksu0.out])
  have HU : Hid (gUn p = if gSurge p = 0 ∧ un0 = 0 then 1 else un0) := hid (by unfold gUn; rw [Kdes.out, Kun0.out])
  have HST : Hid (gSt p = gSteps str (m0 + 1) n1 n2 n3) := hid (by unfold gSt; rw [Kstr.out, Km0.out, Kn1.out, Kn2.out, Kn3.out])
  have HG : Hid (goodSp p = ⟨ver, des, gSurge p, gUn p, str, (gSt p).1, (gSt p).2.1, (gSt p).2.2.1, (gSt p).2.2.2, win, mb, dl⟩) := hid (by unfold goodSp; rw [Kver.out, Kdes.out, Kstr.out, Kwin.out, Kmb.out, Kdl.out])
  unfold Sp.val
  go_enter Tryd.func23, Tryd.ntmps23
  go_wp2_with fail
  obtain ⟨hB, hT⟩ := new2 w (.cells #[.int .i64 p.s0, .int .i64 p.s1, .int .i64 p.s2, .int .i64 p.s3, .int .i64 p.s4, .int .i64 p.s5, .int .i64 p.s6, .int .i64 p.s7, .int .i64 p.s8, .int .i64 p.s9, .int .i64 p.s10, .int .i64 p.s11] 24) (.cells #[.int .i64 0, .int .i64 0, .int .i64 0, .int .i64 0, .int .i64 0, .int .i64 0, .int .i64 0, .int .i64 0, .int .i64 0, .int .i64 0, .int .i64 0, .int .i64 0] 24)
  have hF := ((Frm.refl M0 w).alloc (.cells #[.int .i64 p.s0, .int .i64 p.s1, .int .i64 p.s2, .int .i64 p.s3, .int .i64 p.s4, .int .i64 p.s5, .int .i64 p.s6, .int .i64 p.s7, .int .i64 p.s8, .int .i64 p.s9, .int .i64 p.s10, .int .i64 p.s11] 24)).alloc (.cells #[.int .i64 0, .int .i64 0, .int .i64 0, .int .i64 0, .int .i64 0, .int .i64 0, .int .i64 0, .int .i64 0, .int .i64 0, .int .i64 0, .int .i64 0, .int .i64 0] 24)
  obtain ⟨b, hb⟩ : ∃ x, x = w.heap.size := ⟨_, rfl⟩
  obtain ⟨w0, hw⟩ : ∃ x, x = (w.alloc (.cells #[.int .i64 p.s0, .int .i64 p.s1, .int .i64 p.s2, .int .i64 p.s3, .int .i64 p.s4, .int .i64 p.s5, .int .i64 p.s6, .int .i64 p.s7, .int .i64 p.s8, .int .i64 p.s9, .int .i64 p.s10, .int .i64 p.s11] 24)).alloc (.cells #[.int .i64 0, .int .i64 0, .int .i64 0, .int .i64 0, .int .i64 0, .int .i64 0, .int .i64 0, .int .i64 0, .int .i64 0, .int .i64 0, .int .i64 0, .int .i64 0] 24) := ⟨_, rfl⟩
  have hz : w0.heap.size = b + 2 := by rw [hw, hb]; simp
  have hs1 : (w.alloc (.cells #[.int .i64 p.s0, .int .i64 p.s1, .int .i64 p.s2, .int .i64 p.s3, .int .i64 p.s4, .int .i64 p.s5, .int .i64 p.s6, .int .i64 p.s7, .int .i64 p.s8, .int .i64 p.s9, .int .i64 p.s10, .int .i64 p.s11] 24)).heap.size = w.heap.size + 1 := by simp
  try rw [hs1]
  rw [← hw, ← hb] at hB hT
  rw [← hw] at hF
  rw [← hw, ← hb]
  have HBB := hid hb
  have B0 := hid hB
  have T0 := hid hT
  have F0 := hid hF
  clear hw hb hB hT hF hs1
  have HL : Hid (∀ wx, Frm M0 w0 wx → wx.heap[b]? = some (.cells #[.int .i64 p.s0, .int .i64 p.s1, .int .i64 p.s2, .int .i64 p.s3, .int .i64 p.s4, .int .i64 p.s5, .int .i64 p.s6, .int .i64 p.s7, .int .i64 p.s8, .int .i64 p.s9, .int .i64 p.s10, .int .i64 p.s11] 24 (0, 0))) := hid (fun wx hx => hx.heap B0.out (fun h => h))
  refine wp_region_Fl 10 11 [0, 1, 2, 3, 4, 5, 6, 7, 8, 9] ⟨some 3, .alloc 24, 0, "ref.go:167", #[], none⟩ (.cells #[.int .i64 0, .int .i64 0, .int .i64 0, .int .i64 0, .int .i64 0, .int .i64 0, .int .i64 0, .int .i64 0, .int .i64 0, .int .i64 0, .int .i64 0, .int .i64 0] 24) (by kernel_rfl) (by kernel_rfl) rfl rfl rfl (fun a w => rfl) ?_
  intro ops QT HO HQ
  obtain ⟨ho0, HO⟩ := HO
  refine wpF_cons _ (ptr b) ho0.out ?_ ?_
  · refine FY_in rfl fun wx hx => ?_
    go_simp
  simp only [Act.put, List.setIfInBounds_toArray, List.set_cons_zero, List.set_cons_succ]
  obtain ⟨ho1, HO⟩ := HO
  refine wpF_cons _ (.int .i64 p.s0) ho1.out ?_ ?_
  · refine FY_in rfl fun wx hx => ?_
    have hc : wx.cell? ⟨b, 0, none⟩ = some (.int .i64 p.s0) := cell_at (HL.out wx hx) 0
    go_simp
  simp only [Act.put, List.setIfInBounds_toArray, List.set_cons_zero, List.set_cons_succ]
  obtain ⟨ho2, HO⟩ := HO
  refine wpF_cons _ (.int .i64 ver) ho2.out ?_ ?_
  · refine FY_in rfl fun wx hx => ?_
    go_simp
    exact (snear_calls _ _ _ _ (by omega) (by omega) (by omega) (by omega)).mono fun e w' h => ⟨by rw [h.1, Kver.out], by rw [h.2]; exact Frm.refl _ _⟩
  simp only [Act.put, List.setIfInBounds_toArray, List.set_cons_zero, List.set_cons_succ]
  obtain ⟨ho3, HO⟩ := HO
  refine wpF_cons _ (.pointer (some ⟨b, 1, none⟩)) ho3.out ?_ ?_
  · refine FY_in rfl fun wx hx => ?_
    go_simp
  simp only [Act.put, List.setIfInBounds_toArray, List.set_cons_zero, List.set_cons_succ]
  obtain ⟨ho4, HO⟩ := HO
  refine wpF_cons _ (.int .i64 p.s1) ho4.out ?_ ?_
  · refine FY_in rfl fun wx hx => ?_
    have hc : wx.cell? ⟨b, 1, none⟩ = some (.int .i64 p.s1) := cell_at (HL.out wx hx) 1
    go_simp
  simp only [Act.put, List.setIfInBounds_toArray, List.set_cons_zero, List.set_cons_succ]
  obtain ⟨ho5, HO⟩ := HO
  refine wpF_cons _ (.int .i64 des) ho5.out ?_ ?_
  · refine FY_in rfl fun wx hx => ?_
    go_simp
    exact (snear_calls _ _ _ _ (by omega) (by omega) (by omega) (by omega)).mono fun e w' h => ⟨by rw [h.1, Kdes.out], by rw [h.2]; exact Frm.refl _ _⟩
  simp only [Act.put, List.setIfInBounds_toArray, List.set_cons_zero, List.set_cons_succ]
  obtain ⟨ho6, HO⟩ := HO
  refine wpF_cons _ (.pointer (some ⟨b, 4, none⟩)) ho6.out ?_ ?_
  · refine FY_in rfl fun wx hx => ?_
    go_simp
  simp only [Act.put, List.setIfInBounds_toArray, List.set_cons_zero, List.set_cons_succ]
  obtain ⟨ho7, HO⟩ := HO
  refine wpF_cons _ (.int .i64 p.s4) ho7.out ?_ ?_
  · refine FY_in rfl fun wx hx => ?_
    have hc : wx.cell? ⟨b, 4, none⟩ = some (.int .i64 p.s4) := cell_at (HL.out wx hx) 4
    go_simp
  simp only [Act.put, List.setIfInBounds_toArray, List.set_cons_zero, List.set_cons_succ]
  obtain ⟨ho8, HO⟩ := HO
  refine wpF_cons _ (.int .i64 str) ho8.out ?_ ?_
  · refine FY_in rfl fun wx hx => ?_
    go_simp
    exact (snear_calls _ _ _ _ (by omega) (by omega) (by omega) (by omega)).mono fun e w' h => ⟨by rw [h.1, Kstr.out], by rw [h.2]; exact Frm.refl _ _⟩
  simp only [Act.put, List.setIfInBounds_toArray, List.set_cons_zero, List.set_cons_succ]
  obtain ⟨ho9, HO⟩ := HO
  refine wpF_cons _ (.agg #[.int .i64 ver, .int .i64 des, .int .i64 0, .int .i64 0, .int .i64 str, .int .i64 0, .int .i64 0, .int .i64 0, .int .i64 0, .int .i64 0, .int .i64 0, .int .i64 0]) ho9.out ?_ ?_
  · refine FY_in rfl fun wx hx => ?_
    go_simp
  simp only [Act.put, List.setIfInBounds_toArray, List.set_cons_zero, List.set_cons_succ]
  refine HQ.out _ ?_
  intro g w2 hf2 hbx hh2
  refine .inl (wp_store_row 24 (.tmp 3) (.tmp 16) rfl g #[.int .i64 ver, .int .i64 des, .int .i64 0, .int .i64 0, .int .i64 str, .int .i64 0, .int .i64 0, .int .i64 0, .int .i64 0, .int .i64 0, .int .i64 0, .int .i64 0] (by kernel_rfl) (by kernel_rfl) _ _ hh2 (by kernel_rfl) rfl (by simp [Value.oneCell']) ?_)
  have G3 := hid (setRow_heap w2 g _ (#[.int .i64 ver, .int .i64 des, .int .i64 0, .int .i64 0, .int .i64 str, .int .i64 0, .int .i64 0, .int .i64 0, .int .i64 0, .int .i64 0, .int .i64 0, .int .i64 0]) _ _ hh2)
  have hfs := hf2.setRow g (#[.int .i64 ver, .int .i64 des, .int .i64 0, .int .i64 0, .int .i64 str, .int .i64 0, .int .i64 0, .int .i64 0, .int .i64 0, .int .i64 0, .int .i64 0, .int .i64 0]) hbx
  have B3 := hid (hfs.heap B0.out (fun h => h))
  have T3 := hid (hfs.heap T0.out (fun h => h))
  have F3 := hid (F0.out.then0 hfs)
  obtain ⟨w3, hw3⟩ : ∃ x, x = w2.setRow g (#[.int .i64 ver, .int .i64 des, .int .i64 0, .int .i64 0, .int .i64 str, .int .i64 0, .int .i64 0, .int .i64 0, .int .i64 0, .int .i64 0, .int .i64 0, .int .i64 0]) := ⟨_, rfl⟩
  rw [← hw3] at G3 B3 T3 F3
  rw [← hw3]
  have hgb : b + 2 ≤ g := by omega
  clear hw3 hfs hh2 hf2 HL B0 T0 F0 HO HQ hbx hz
  go_wp2_with (refine wpList_load_v (by kernel_rfl) 3 (.tmp 17) (by with_reducible rfl) b 2 (by kernel_rfl) _ _ _ B3.out (.int .i64 p.s2) (by kernel_rfl) _ Tryd.underlying3 rfl ?_)
  refine (snear_calls _ _ _ _ (by omega) (by omega) (by omega) (by omega)).mono ?_
  rintro _ _ ⟨rfl, rfl⟩
  rw [Ksu0.out]
  go_wp2_with (first | (refine wpList_store_v (by kernel_rfl) 3 (.tmp 20) (.tmp 19) (by with_reducible rfl) g 2 (by kernel_rfl) (.int .i64 su0) (by kernel_rfl) #[.int .i64 su0] rfl _ _ G3.out (by kernel_rfl) (by simp) (by simp [Value.oneCell']) ?_; intro w4 hh hp; have G4 : Hid (w4.heap[g]? = some (.cells #[.int .i64 ver, .int .i64 des, .int .i64 su0, .int .i64 0, .int .i64 str, .int .i64 0, .int .i64 0, .int .i64 0, .int .i64 0, .int .i64 0, .int .i64 0, .int .i64 0] 24 (0, 0))) := putL_heap hh (by kernel_rfl); have B4 := hid (hp.heap B3.out (by show ¬ b = g; omega)); have T4 := hid (hp.heap T3.out (by show ¬ b + 1 = g; omega)); have F4 := hid (F3.out.trans hp (fun x hx e => by have e' : x = g := e; have := HBB.out; omega)); clear hh hp G3 B3 T3 F3) | (refine wpList_load_v (by kernel_rfl) 3 (.tmp 21) (by with_reducible rfl) b 3 (by kernel_rfl) _ _ _ B4.out (.int .i64 p.s3) (by kernel_rfl) _ Tryd.underlying3 rfl ?_) | (refine wpList_load_v (by kernel_rfl) 3 (.tmp 23) (by with_reducible rfl) g 1 (by kernel_rfl) _ _ _ G4.out (.int .i64 des) (by kernel_rfl) _ Tryd.underlying3 rfl ?_))
  refine (snear_calls _ _ _ _ (by omega) (by omega) (by omega) (by omega)).mono ?_
  rintro _ _ ⟨rfl, rfl⟩
  rw [Kun0.out]
  go_upto_if 30 with (first | (refine wpList_store_v (by kernel_rfl) 3 (.tmp 27) (.tmp 26) (by with_reducible rfl) g 3 (by kernel_rfl) (.int .i64 un0) (by kernel_rfl) #[.int .i64 un0] rfl _ _ G4.out (by kernel_rfl) (by simp) (by simp [Value.oneCell']) ?_; intro w5 hh hp; have G5 : Hid (w5.heap[g]? = some (.cells #[.int .i64 ver, .int .i64 des, .int .i64 su0, .int .i64 un0, .int .i64 str, .int .i64 0, .int .i64 0, .int .i64 0, .int .i64 0, .int .i64 0, .int .i64 0, .int .i64 0] 24 (0, 0))) := putL_heap hh (by kernel_rfl); have B5 := hid (hp.heap B4.out (by show ¬ b = g; omega)); have T5 := hid (hp.heap T4.out (by show ¬ b + 1 = g; omega)); have F5 := hid (F4.out.trans hp (fun x hx e => by have e' : x = g := e; have := HBB.out; omega)); clear hh hp G4 B4 T4 F4) | (refine wpList_load_v (by kernel_rfl) 3 (.tmp 28) (by with_reducible rfl) g 4 (by kernel_rfl) _ _ _ G5.out (.int .i64 str) (by kernel_rfl) _ Tryd.underlying3 rfl ?_))
  go_cut [30] (fun s30 wx => s30 = .bool (str == 2) ∧ ∃ su : Int, Hid (gSurge p = su) ∧ Hid (0 ≤ su ∧ su ≤ 6) ∧ Hid (wx.heap[g]? = some (.cells #[.int .i64 ver, .int .i64 des, .int .i64 su, .int .i64 un0, .int .i64 str, .int .i64 0, .int .i64 0, .int .i64 0, .int .i64 0, .int .i64 0, .int .i64 0, .int .i64 0] 24 (0, 0))) ∧ Hid (wx.heap[b]? = some (.cells #[.int .i64 p.s0, .int .i64 p.s1, .int .i64 p.s2, .int .i64 p.s3, .int .i64 p.s4, .int .i64 p.s5, .int .i64 p.s6, .int .i64 p.s7, .int .i64 p.s8, .int .i64 p.s9, .int .i64 p.s10, .int .i64 p.s11] 24 (0, 0))) ∧ Hid (wx.heap[b + 1]? = some (.cells #[.int .i64 0, .int .i64 0, .int .i64 0, .int .i64 0, .int .i64 0, .int .i64 0, .int .i64 0, .int .i64 0, .int .i64 0, .int .i64 0, .int .i64 0, .int .i64 0] 24 (0, 0))) ∧ Hid (Frm M0 w wx))
  case first =>
    by_cases h2 : str = 2
    case pos =>
      have HS2 := hid h2
      have hs2 : (str == 2) = true := beq_iff_eq.2 h2
      clear h2
      go_wp2_with fail
      clear hs2
      have HSF : Hid (∀ wx, Frm M0 w5 wx → wx.cell? ⟨g, 1, none⟩ = some (.int .i64 des) ∧ wx.cell? ⟨b, 2, none⟩ = some (.int .i64 p.s2)) := hid (fun wx hx => ⟨cell_at (hx.heap G5.out (fun h => h)) 1, cell_at (hx.heap B5.out (fun h => h)) 2⟩)
      have HFq := hid ((Frm.refl M0 w5).drew)
      have HSG : Hid (∀ u, (w5.setCell ⟨g, 2, none⟩ u).drew.cell? ⟨g, 1, none⟩ = some (.int .i64 des) ∧ (w5.setCell ⟨g, 2, none⟩ u).drew.cell? ⟨b, 2, none⟩ = some (.int .i64 p.s2)) := hid (fun u => ⟨cell_at (heap_set_at (w := w5) G5.out (o := 2) u) 1, cell_at (((Frm.refl (fun x => x = g) w5).put g 2 u (fun _ => rfl)).heap B5.out (by show ¬ b = g; omega)) 2⟩)
      have ws : Hid (IntKind.i64.wrap (des + su1) = des + su1) := hid (by rw [IntWalk.i64_left]; unfold wrap64; omega)
      have c2 : w5.cell? ⟨g, 2, none⟩ = some (.int .i64 su0) := cell_at G5.out 2
      have z2 : w5.frozen? ⟨g, 2, none⟩ = false := frozen_at G5.out 2
      have hne : ¬ g = b := by omega
      have ks1 := Ksu1.out
      go_region_held3 (fun wx => wx.cell? ⟨g, 1, none⟩ = some (.int .i64 des) ∧ wx.cell? ⟨b, 2, none⟩ = some (.int .i64 p.s2)) (first | with_reducible exact HSF.out _ HFq.out | with_reducible exact HSG.out _ | go_keep)
        (((with_reducible refine (snear_calls _ _ _ _ (by decide) (by decide) (by decide) (by decide)).mono ?_); (rintro _ _ ⟨rfl, rfl⟩)))
      rw [ws.out]
      go_wp2_with fail
      go_meet
      have e1 := heap_set_at (w := w5) G5.out (o := 2) (.int .i64 (des + su1))
      have fp := (Frm.refl (fun x => x = g) w5).put g 2 (.int .i64 (des + su1)) (fun _ => rfl)
      exact ⟨by rw [HS2.out]; rfl, des + su1, hid (by rw [HS.out, if_pos HS2.out]), hid (by omega), hid e1, hid (fp.heap B5.out (by show ¬ b = g; omega)), hid (fp.heap T5.out (by show ¬ b + 1 = g; omega)), hid ((F5.out.trans fp (fun x hx e => by have e' : x = g := e; have := HBB.out; omega)).drew)⟩
    case neg =>
      have HS2 := hid h2
      have hs2 : (str == 2) = false := beq_eq_false_iff_ne.2 h2
      clear h2
      go_wp2_with fail
      go_meet
      exact ⟨by rw [hs2], su0, hid (by rw [HS.out, if_neg HS2.out]), hid (by omega), G5, B5, T5, F5⟩
  case rest =>
    obtain ⟨rfl, su, HSU, hsu, Gc, Bc, Tc, Fc⟩ := hcut
    clear G5 B5 T5 F5
    obtain ⟨wa, hwa⟩ : ∃ x, x = wc := ⟨_, rfl⟩
    rw [← hwa] at Gc Bc Tc Fc
    rw [← hwa]
    clear hwa
    obtain ⟨lsu, usu⟩ := hsu.out
    obtain ⟨G6, B6, T6, F6⟩ := And.intro Gc (And.intro Bc (And.intro Tc Fc))
    clear Gc Bc Tc Fc hsu
    go_upto_region 6 with fail
    go_cut [45] (fun s45 wx => s45 = .bool ((su == 0) && (un0 == 0)) ∧ Hid (wa = wx))
    case first =>
      by_cases hs0 : su = 0
      case pos =>
        have z0 : (su == 0) = true := beq_iff_eq.2 hs0
        clear hs0
        go_wp2_with (first | (refine wpList_load_v (by kernel_rfl) 3 (.tmp 38) (by with_reducible rfl) g 2 (by kernel_rfl) _ _ _ G6.out (.int .i64 su) (by kernel_rfl) _ Tryd.underlying3 rfl ?_) | (refine wpList_load_v (by kernel_rfl) 3 (.tmp 42) (by with_reducible rfl) g 3 (by kernel_rfl) _ _ _ G6.out (.int .i64 un0) (by kernel_rfl) _ Tryd.underlying3 rfl ?_))
        go_meet
        exact ⟨by rw [z0]; rfl, hid rfl⟩
      case neg =>
        have z0 : (su == 0) = false := beq_eq_false_iff_ne.2 hs0
        clear hs0
        go_wp2_with (refine wpList_load_v (by kernel_rfl) 3 (.tmp 38) (by with_reducible rfl) g 2 (by kernel_rfl) _ _ _ G6.out (.int .i64 su) (by kernel_rfl) _ Tryd.underlying3 rfl ?_)
        go_meet
        exact ⟨by rw [z0]; rfl, hid rfl⟩
    case rest =>
      obtain ⟨rfl, hw⟩ := hcut
      rw [← hw.out]
      clear hw
      obtain ⟨C, HC⟩ : ∃ c, Hid (((su == 0) && (un0 == 0)) = c) := ⟨_, rfl⟩
      rw [HC.out]
      go_upto_if 45 with fail
      go_cut [45] (fun s45 wx => ∃ un : Int, Hid (gUn p = un) ∧ Hid (0 ≤ un ∧ un ≤ 5) ∧ Hid (wx.heap[g]? = some (.cells #[.int .i64 ver, .int .i64 des, .int .i64 su, .int .i64 un, .int .i64 str, .int .i64 0, .int .i64 0, .int .i64 0, .int .i64 0, .int .i64 0, .int .i64 0, .int .i64 0] 24 (0, 0))) ∧ Hid (wx.heap[b]? = some (.cells #[.int .i64 p.s0, .int .i64 p.s1, .int .i64 p.s2, .int .i64 p.s3, .int .i64 p.s4, .int .i64 p.s5, .int .i64 p.s6, .int .i64 p.s7, .int .i64 p.s8, .int .i64 p.s9, .int .i64 p.s10, .int .i64 p.s11] 24 (0, 0))) ∧ Hid (wx.heap[b + 1]? = some (.cells #[.int .i64 0, .int .i64 0, .int .i64 0, .int .i64 0, .int .i64 0, .int .i64 0, .int .i64 0, .int .i64 0, .int .i64 0, .int .i64 0, .int .i64 0, .int .i64 0] 24 (0, 0))) ∧ Hid (Frm M0 w wx))
      case first =>
        cases C
        case false =>
          go_wp2_with fail
          go_meet
          exact ⟨un0, hid (by rw [HU.out, HSU.out, if_neg (fun h => by have e := HC.out; rw [h.1, h.2] at e; cases e)]), hid (by omega), G6, B6, T6, F6⟩
        case true =>
          go_wp2_with (refine wpList_store_v (by kernel_rfl) 3 (.tmp 46) (.const (.int .i64 1)) (by with_reducible rfl) g 3 (by kernel_rfl) (.int .i64 1) (by kernel_rfl) #[.int .i64 1] rfl _ _ G6.out (by kernel_rfl) (by simp) (by simp [Value.oneCell']) ?_; intro w7 hh hp; have G7 : Hid (w7.heap[g]? = some (.cells #[.int .i64 ver, .int .i64 des, .int .i64 su, .int .i64 1, .int .i64 str, .int .i64 0, .int .i64 0, .int .i64 0, .int .i64 0, .int .i64 0, .int .i64 0, .int .i64 0] 24 (0, 0))) := putL_heap hh (by kernel_rfl); have B7 := hid (hp.heap B6.out (by show ¬ b = g; omega)); have T7 := hid (hp.heap T6.out (by show ¬ b + 1 = g; omega)); have F7 := hid (F6.out.trans hp (fun x hx e => by have e' : x = g := e; have := HBB.out; omega)); clear hh hp G6 B6 T6 F6)
          go_meet
          exact ⟨1, hid (by rw [HU.out, HSU.out, if_pos (by have e := HC.out; simpa using e)]), hid (by omega), G7, B7, T7, F7⟩
      case rest =>
        obtain ⟨un, HUN, hun, Gc, Bc, Tc, Fc⟩ := hcut
        clear G6 B6 T6 F6
        obtain ⟨wd, hwd⟩ : ∃ x, x = wc := ⟨_, rfl⟩
        rw [← hwd] at Gc Bc Tc Fc
        rw [← hwd]
        clear hwd
        obtain ⟨lun, uun⟩ := hun.out
        obtain ⟨G8, B8, T8, F8⟩ := And.intro Gc (And.intro Bc (And.intro Tc Fc))
        clear Gc Bc Tc Fc hun HC
        go_upto_if 49 with (refine wpList_load_v (by kernel_rfl) 3 (.tmp 47) (by with_reducible rfl) g 4 (by kernel_rfl) _ _ _ G8.out (.int .i64 str) (by kernel_rfl) _ Tryd.underlying3 rfl ?_)
        go_cut [49] (fun s49 wx => ∃ a0 a1 a2 a3 : Int, Hid (gSt p = (a0, a1, a2, a3)) ∧ Hid (wx.heap[g]? = some (.cells #[.int .i64 ver, .int .i64 des, .int .i64 su, .int .i64 un, .int .i64 str, .int .i64 a0, .int .i64 a1, .int .i64 a2, .int .i64 a3, .int .i64 0, .int .i64 0, .int .i64 0] 24 (0, 0))) ∧ Hid (wx.heap[b]? = some (.cells #[.int .i64 p.s0, .int .i64 p.s1, .int .i64 p.s2, .int .i64 p.s3, .int .i64 p.s4, .int .i64 p.s5, .int .i64 p.s6, .int .i64 p.s7, .int .i64 p.s8, .int .i64 p.s9, .int .i64 p.s10, .int .i64 p.s11] 24 (0, 0))) ∧ Hid (wx.heap[b + 1]? = some (.cells #[.int .i64 0, .int .i64 0, .int .i64 0, .int .i64 0, .int .i64 0, .int .i64 0, .int .i64 0, .int .i64 0, .int .i64 0, .int .i64 0, .int .i64 0, .int .i64 0] 24 (0, 0))) ∧ Hid (Frm M0 w wx))
        case first =>
          by_cases h0 : str = 0
          case neg =>
            have H0 := hid h0
            have z0 : (str == 0) = false := beq_eq_false_iff_ne.2 h0
            clear h0
            go_wp2_with fail
            go_meet
            exact ⟨0, 0, 0, 0, hid (by rw [HST.out]; exact if_neg H0.out), G8, B8, T8, F8⟩
          have H0 := hid h0
          have z0 : (str == 0) = true := beq_iff_eq.2 h0
          clear h0
          go_wp2_with fail
          refine wp_loop_rounds 5 ?_
          rw [rounds_succ]
          go_wp2_with (refine wpList_load_v (by kernel_rfl) 3 (.tmp 56) (by with_reducible rfl) b 5 (by kernel_rfl) _ _ _ B8.out (.int .i64 p.s5) (by kernel_rfl) _ Tryd.underlying3 rfl ?_)
          refine (snear_calls _ _ _ _ (by omega) (by omega) (by omega) (by omega)).mono ?_
          rintro _ _ ⟨rfl, rfl⟩
          rw [Km0.out]
          have f0 : ((m0 + 1) == 0) = false := beq_eq_false_iff_ne.2 (by omega)
          have f1 : decide ((100 : Int) < m0 + 1) = false := decide_eq_false (by omega)
          go_wp2_with (refine wpList_store_v (by kernel_rfl) 3 (.tmp 77) (.tmp 75) (by with_reducible rfl) g 5 (by kernel_rfl) (.int .i64 (m0 + 1)) (by kernel_rfl) #[.int .i64 (m0 + 1)] rfl _ _ G8.out (by kernel_rfl) (by simp) (by simp [Value.oneCell']) ?_; intro w9 hh hp; have G9 : Hid (w9.heap[g]? = some (.cells #[.int .i64 ver, .int .i64 des, .int .i64 su, .int .i64 un, .int .i64 str, .int .i64 (m0 + 1), .int .i64 0, .int .i64 0, .int .i64 0, .int .i64 0, .int .i64 0, .int .i64 0] 24 (0, 0))) := putL_heap hh (by kernel_rfl); have B9 := hid (hp.heap B8.out (by show ¬ b = g; omega)); have T9 := hid (hp.heap T8.out (by show ¬ b + 1 = g; omega)); have F9 := hid (F8.out.trans hp (fun x hx e => by have e' : x = g := e; have := HBB.out; omega)); clear hh hp G8 B8 T8 F8)
          clear f0 f1
          rw [rounds_succ]
          go_wp2_with (refine wpList_load_v (by kernel_rfl) 3 (.tmp 56) (by with_reducible rfl) b 6 (by kernel_rfl) _ _ _ B9.out (.int .i64 p.s6) (by kernel_rfl) _ Tryd.underlying3 rfl ?_)
          refine (snear_calls _ _ _ _ (by omega) (by omega) (by omega) (by omega)).mono ?_
          rintro _ _ ⟨rfl, rfl⟩
          rw [Kn1.out]
          by_cases q1 : n1 = 0
          case pos =>
            have Q1 := hid q1
            have f0 : (n1 == 0) = true := beq_iff_eq.2 q1
            clear q1
            go_wp2_with fail
            go_meet
            exact ⟨(m0 + 1), 0, 0, 0, hid (by rw [HST.out]; unfold gSteps; rw [if_pos H0.out, if_pos (.inl Q1.out)]), G9, B9, T9, F9⟩
          have Q1 := hid q1
          have f10 : (n1 == 0) = false := beq_eq_false_iff_ne.2 q1
          clear q1
          by_cases r1 : 100 < (m0 + 1 + n1)
          case pos =>
            have R1 := hid r1
            have f1 : decide ((100 : Int) < (m0 + 1 + n1)) = true := decide_eq_true r1
            clear r1
            go_wp2_with fail
            go_meet
            exact ⟨(m0 + 1), 0, 0, 0, hid (by rw [HST.out]; unfold gSteps; rw [if_pos H0.out, if_pos (.inr R1.out)]), G9, B9, T9, F9⟩
          have R1 := hid r1
          have f1 : decide ((100 : Int) < (m0 + 1 + n1)) = false := decide_eq_false r1
          clear r1
          go_wp2_with (refine wpList_store_v (by kernel_rfl) 3 (.tmp 77) (.tmp 75) (by with_reducible rfl) g 6 (by kernel_rfl) (.int .i64 (m0 + 1 + n1)) (by kernel_rfl) #[.int .i64 (m0 + 1 + n1)] rfl _ _ G9.out (by kernel_rfl) (by simp) (by simp [Value.oneCell']) ?_; intro w10 hh hp; have G10 : Hid (w10.heap[g]? = some (.cells #[.int .i64 ver, .int .i64 des, .int .i64 su, .int .i64 un, .int .i64 str, .int .i64 (m0 + 1), .int .i64 (m0 + 1 + n1), .int .i64 0, .int .i64 0, .int .i64 0, .int .i64 0, .int .i64 0] 24 (0, 0))) := putL_heap hh (by kernel_rfl); have B10 := hid (hp.heap B9.out (by show ¬ b = g; omega)); have T10 := hid (hp.heap T9.out (by show ¬ b + 1 = g; omega)); have F10 := hid (F9.out.trans hp (fun x hx e => by have e' : x = g := e; have := HBB.out; omega)); clear hh hp G9 B9 T9 F9)
          clear f1
          rw [rounds_succ]
          go_wp2_with (refine wpList_load_v (by kernel_rfl) 3 (.tmp 56) (by with_reducible rfl) b 7 (by kernel_rfl) _ _ _ B10.out (.int .i64 p.s7) (by kernel_rfl) _ Tryd.underlying3 rfl ?_)
          refine (snear_calls _ _ _ _ (by omega) (by omega) (by omega) (by omega)).mono ?_
          rintro _ _ ⟨rfl, rfl⟩
          rw [Kn2.out]
          by_cases q2 : n2 = 0
          case pos =>
            have Q2 := hid q2
            have f0 : (n2 == 0) = true := beq_iff_eq.2 q2
            clear q2
            go_wp2_with fail
            go_meet
            exact ⟨(m0 + 1), (m0 + 1 + n1), 0, 0, hid (by rw [HST.out]; unfold gSteps; rw [if_pos H0.out, if_neg (fun h => h.elim Q1.out (fun x => (by have e := R1.out; omega))), if_pos (.inl Q2.out)]), G10, B10, T10, F10⟩
          have Q2 := hid q2
          have f20 : (n2 == 0) = false := beq_eq_false_iff_ne.2 q2
          clear q2
          by_cases r2 : 100 < (m0 + 1 + n1 + n2)
          case pos =>
            have R2 := hid r2
            have f1 : decide ((100 : Int) < (m0 + 1 + n1 + n2)) = true := decide_eq_true r2
            clear r2
            go_wp2_with fail
            go_meet
            exact ⟨(m0 + 1), (m0 + 1 + n1), 0, 0, hid (by rw [HST.out]; unfold gSteps; rw [if_pos H0.out, if_neg (fun h => h.elim Q1.out (fun x => (by have e := R1.out; omega))), if_pos (.inr R2.out)]), G10, B10, T10, F10⟩
          have R2 := hid r2
          have f1 : decide ((100 : Int) < (m0 + 1 + n1 + n2)) = false := decide_eq_false r2
          clear r2
          go_wp2_with (refine wpList_store_v (by kernel_rfl) 3 (.tmp 77) (.tmp 75) (by with_reducible rfl) g 7 (by kernel_rfl) (.int .i64 (m0 + 1 + n1 + n2)) (by kernel_rfl) #[.int .i64 (m0 + 1 + n1 + n2)] rfl _ _ G10.out (by kernel_rfl) (by simp) (by simp [Value.oneCell']) ?_; intro w11 hh hp; have G11 : Hid (w11.heap[g]? = some (.cells #[.int .i64 ver, .int .i64 des, .int .i64 su, .int .i64 un, .int .i64 str, .int .i64 (m0 + 1), .int .i64 (m0 + 1 + n1), .int .i64 (m0 + 1 + n1 + n2), .int .i64 0, .int .i64 0, .int .i64 0, .int .i64 0] 24 (0, 0))) := putL_heap hh (by kernel_rfl); have B11 := hid (hp.heap B10.out (by show ¬ b = g; omega)); have T11 := hid (hp.heap T10.out (by show ¬ b + 1 = g; omega)); have F11 := hid (F10.out.trans hp (fun x hx e => by have e' : x = g := e; have := HBB.out; omega)); clear hh hp G10 B10 T10 F10)
          clear f1
          rw [rounds_succ]
          go_wp2_with (refine wpList_load_v (by kernel_rfl) 3 (.tmp 56) (by with_reducible rfl) b 8 (by kernel_rfl) _ _ _ B11.out (.int .i64 p.s8) (by kernel_rfl) _ Tryd.underlying3 rfl ?_)
          refine (snear_calls _ _ _ _ (by omega) (by omega) (by omega) (by omega)).mono ?_
          rintro _ _ ⟨rfl, rfl⟩
          rw [Kn3.out]
          by_cases q3 : n3 = 0
          case pos =>
            have Q3 := hid q3
            have f0 : (n3 == 0) = true := beq_iff_eq.2 q3
            clear q3
            go_wp2_with fail
            go_meet
            exact ⟨(m0 + 1), (m0 + 1 + n1), (m0 + 1 + n1 + n2), 0, hid (by rw [HST.out]; unfold gSteps; rw [if_pos H0.out, if_neg (fun h => h.elim Q1.out (fun x => (by have e := R1.out; omega))), if_neg (fun h => h.elim Q2.out (fun x => (by have e := R2.out; omega))), if_pos (.inl Q3.out)]), G11, B11, T11, F11⟩
          have Q3 := hid q3
          have f30 : (n3 == 0) = false := beq_eq_false_iff_ne.2 q3
          clear q3
          by_cases r3 : 100 < (m0 + 1 + n1 + n2 + n3)
          case pos =>
            have R3 := hid r3
            have f1 : decide ((100 : Int) < (m0 + 1 + n1 + n2 + n3)) = true := decide_eq_true r3
            clear r3
            go_wp2_with fail
            go_meet
            exact ⟨(m0 + 1), (m0 + 1 + n1), (m0 + 1 + n1 + n2), 0, hid (by rw [HST.out]; unfold gSteps; rw [if_pos H0.out, if_neg (fun h => h.elim Q1.out (fun x => (by have e := R1.out; omega))), if_neg (fun h => h.elim Q2.out (fun x => (by have e := R2.out; omega))), if_pos (.inr R3.out)]), G11, B11, T11, F11⟩
          have R3 := hid r3
          have f1 : decide ((100 : Int) < (m0 + 1 + n1 + n2 + n3)) = false := decide_eq_false r3
          clear r3
          go_wp2_with (refine wpList_store_v (by kernel_rfl) 3 (.tmp 77) (.tmp 75) (by with_reducible rfl) g 8 (by kernel_rfl) (.int .i64 (m0 + 1 + n1 + n2 + n3)) (by kernel_rfl) #[.int .i64 (m0 + 1 + n1 + n2 + n3)] rfl _ _ G11.out (by kernel_rfl) (by simp) (by simp [Value.oneCell']) ?_; intro w12 hh hp; have G12 : Hid (w12.heap[g]? = some (.cells #[.int .i64 ver, .int .i64 des, .int .i64 su, .int .i64 un, .int .i64 str, .int .i64 (m0 + 1), .int .i64 (m0 + 1 + n1), .int .i64 (m0 + 1 + n1 + n2), .int .i64 (m0 + 1 + n1 + n2 + n3), .int .i64 0, .int .i64 0, .int .i64 0] 24 (0, 0))) := putL_heap hh (by kernel_rfl); have B12 := hid (hp.heap B11.out (by show ¬ b = g; omega)); have T12 := hid (hp.heap T11.out (by show ¬ b + 1 = g; omega)); have F12 := hid (F11.out.trans hp (fun x hx e => by have e' : x = g := e; have := HBB.out; omega)); clear hh hp G11 B11 T11 F11)
          clear f1
          rw [rounds_succ]
          go_wp2_with fail
          go_meet
          exact ⟨(m0 + 1), (m0 + 1 + n1), (m0 + 1 + n1 + n2), (m0 + 1 + n1 + n2 + n3), hid (by rw [HST.out]; unfold gSteps; rw [if_pos H0.out, if_neg (fun h => h.elim Q1.out (fun x => (by have e := R1.out; omega))), if_neg (fun h => h.elim Q2.out (fun x => (by have e := R2.out; omega))), if_neg (fun h => h.elim Q3.out (fun x => (by have e := R3.out; omega)))]), G12, B12, T12, F12⟩
        case rest =>
          obtain ⟨a0, a1, a2, a3, HA, Gc, Bc, Tc, Fc⟩ := hcut
          clear G8 B8 T8 F8
          obtain ⟨we, hwe⟩ : ∃ x, x = wc := ⟨_, rfl⟩
          rw [← hwe] at Gc Bc Tc Fc
          rw [← hwe]
          clear hwe
          obtain ⟨G30, B30, T30, F30⟩ := And.intro Gc (And.intro Bc (And.intro Tc Fc))
          clear Gc Bc Tc Fc
          go_wp2_with (refine wpList_load_v (by kernel_rfl) 3 (.tmp 78) (by with_reducible rfl) b 9 (by kernel_rfl) _ _ _ B30.out (.int .i64 p.s9) (by kernel_rfl) _ Tryd.underlying3 rfl ?_)
          refine (snear_calls _ _ _ _ (by omega) (by omega) (by omega) (by omega)).mono ?_
          rintro _ _ ⟨rfl, rfl⟩
          rw [Kwin.out]
          go_wp2_with (first | (refine wpList_store_v (by kernel_rfl) 3 (.tmp 81) (.tmp 80) (by with_reducible rfl) g 9 (by kernel_rfl) (.int .i64 win) (by kernel_rfl) #[.int .i64 win] rfl _ _ G30.out (by kernel_rfl) (by simp) (by simp [Value.oneCell']) ?_; intro w31 hh hp; have G31 : Hid (w31.heap[g]? = some (.cells #[.int .i64 ver, .int .i64 des, .int .i64 su, .int .i64 un, .int .i64 str, .int .i64 a0, .int .i64 a1, .int .i64 a2, .int .i64 a3, .int .i64 win, .int .i64 0, .int .i64 0] 24 (0, 0))) := putL_heap hh (by kernel_rfl); have B31 := hid (hp.heap B30.out (by show ¬ b = g; omega)); have T31 := hid (hp.heap T30.out (by show ¬ b + 1 = g; omega)); have F31 := hid (F30.out.trans hp (fun x hx e => by have e' : x = g := e; have := HBB.out; omega)); clear hh hp G30 B30 T30 F30) | (refine wpList_load_v (by kernel_rfl) 3 (.tmp 82) (by with_reducible rfl) b 10 (by kernel_rfl) _ _ _ B31.out (.int .i64 p.s10) (by kernel_rfl) _ Tryd.underlying3 rfl ?_))
          refine (snear_calls _ _ _ _ (by omega) (by omega) (by omega) (by omega)).mono ?_
          rintro _ _ ⟨rfl, rfl⟩
          rw [Kmb.out]
          go_wp2_with (first | (refine wpList_store_v (by kernel_rfl) 3 (.tmp 85) (.tmp 84) (by with_reducible rfl) g 10 (by kernel_rfl) (.int .i64 mb) (by kernel_rfl) #[.int .i64 mb] rfl _ _ G31.out (by kernel_rfl) (by simp) (by simp [Value.oneCell']) ?_; intro w32 hh hp; have G32 : Hid (w32.heap[g]? = some (.cells #[.int .i64 ver, .int .i64 des, .int .i64 su, .int .i64 un, .int .i64 str, .int .i64 a0, .int .i64 a1, .int .i64 a2, .int .i64 a3, .int .i64 win, .int .i64 mb, .int .i64 0] 24 (0, 0))) := putL_heap hh (by kernel_rfl); have B32 := hid (hp.heap B31.out (by show ¬ b = g; omega)); have T32 := hid (hp.heap T31.out (by show ¬ b + 1 = g; omega)); have F32 := hid (F31.out.trans hp (fun x hx e => by have e' : x = g := e; have := HBB.out; omega)); clear hh hp G31 B31 T31 F31) | (refine wpList_load_v (by kernel_rfl) 3 (.tmp 86) (by with_reducible rfl) b 11 (by kernel_rfl) _ _ _ B32.out (.int .i64 p.s11) (by kernel_rfl) _ Tryd.underlying3 rfl ?_))
          refine (snear_calls _ _ _ _ (by omega) (by omega) (by omega) (by omega)).mono ?_
          rintro _ _ ⟨rfl, rfl⟩
          rw [Kdl.out]
          go_wp2_with (first | (refine wpList_store_v (by kernel_rfl) 3 (.tmp 89) (.tmp 88) (by with_reducible rfl) g 11 (by kernel_rfl) (.int .i64 dl) (by kernel_rfl) #[.int .i64 dl] rfl _ _ G32.out (by kernel_rfl) (by simp) (by simp [Value.oneCell']) ?_; intro w33 hh hp; have G33 : Hid (w33.heap[g]? = some (.cells #[.int .i64 ver, .int .i64 des, .int .i64 su, .int .i64 un, .int .i64 str, .int .i64 a0, .int .i64 a1, .int .i64 a2, .int .i64 a3, .int .i64 win, .int .i64 mb, .int .i64 dl] 24 (0, 0))) := putL_heap hh (by kernel_rfl); have B33 := hid (hp.heap B32.out (by show ¬ b = g; omega)); have T33 := hid (hp.heap T32.out (by show ¬ b + 1 = g; omega)); have F33 := hid (F32.out.trans hp (fun x hx e => by have e' : x = g := e; have := HBB.out; omega)); clear hh hp G32 B32 T32 F32) | (refine wpList_load_row rfl 24 (.tmp 3) (by with_reducible rfl) g (by kernel_rfl) _ _ _ _ G33.out Tryd.underlying24 rfl (by kernel_rfl) ?_) | (refine wpList_store_row rfl 24 (.tmp 2) (.tmp 90) (by with_reducible rfl) (b + 1) #[.int .i64 ver, .int .i64 des, .int .i64 su, .int .i64 un, .int .i64 str, .int .i64 a0, .int .i64 a1, .int .i64 a2, .int .i64 a3, .int .i64 win, .int .i64 mb, .int .i64 dl] (by kernel_rfl) (by kernel_rfl) _ _ T33.out (by kernel_rfl) rfl (by simp [Value.oneCell']) ?_))
          refine bodyPost_ret (results_cell_row (by rfl) _ _ (b + 1) _ _ _ _ (by kernel_rfl) (setRow_heap _ _ _ _ _ _ T33.out) Tryd.underlying24 rfl (by kernel_rfl)) rfl ⟨by rw [HG.out, HSU.out, HUN.out, HA.out], F33.out.setRow _ _ (by have := HBB.out; omega)⟩
end Go.Proofs.YtinbidmgllmglaaDoor
