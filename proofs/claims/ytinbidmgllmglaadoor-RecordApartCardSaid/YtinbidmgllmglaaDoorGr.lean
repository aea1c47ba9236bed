/- The reference's record that may be, made of any. No condition. -/
import Derived.Test.YtinbidmgllmglaaDoorGs
import Derived.Test.YtinbidmgllmglaaDoorPb
namespace Go.Proofs.YtinbidmgllmglaaDoor
set_option linter.unusedVariables false
set_option linter.unusedSimpArgs false
set_option maxRecDepth 20000
open Go.RowKit

def goodT (t : ByteArray) : ByteArray := if t.size ≤ 20 then ⟨#[116]⟩ ++ t else ⟨#[116]⟩ ++ t.extract 0 20
def goodR (r : Rc) : Rc :=
  let k := nearF r.k 1 7
  let e := nearF r.e 1 9
  if k = 1 then ⟨1, e, nearF r.w 0 4, nearF r.n 0 50, nearF r.q 1 20, ⟨#[]⟩, Sp.zero⟩
  else if k = 2 then ⟨2, e, 0, nearF r.n 1 6, 0, goodT r.t, Sp.zero⟩
  else if k = 3 then ⟨3, e, 0, nearF r.n 0 50, 0, ⟨#[]⟩, goodSp r.p⟩
  else if k = 4 then ⟨4, e, 0, nearF r.n 1 5, 0, goodT r.t, Sp.zero⟩
  else if k = 5 then ⟨5, e, nearF r.w 0 16, nearF r.n 0 7, nearF r.q 1 9, ⟨#[]⟩, Sp.zero⟩
  else if k = 6 then ⟨6, e, nearF r.w 0 16, 0, nearF r.q 1 9, ⟨#[]⟩, Sp.zero⟩
  else ⟨7, e, nearF r.w 1 4, nearF r.n 0 50, 0, goodT r.t, Sp.zero⟩

set_option maxHeartbeats 1000000 in
theorem rnear10_calls (n least many : Int) (w : World) (h0 : 0 ≤ least) (h1 : least ≤ 1000000) (h2 : 0 < many) (h3 : many ≤ 1000000) : Calls Tryd.prog 47 #[.int .i64 n, .int .i64 least, .int .i64 many] w fun r w' => r = .returned (.int .i64 (nearF n least many)) ∧ w = w' := by
  have e1 : IntKind.u64.wrap n = n % 18446744073709551616 := by simp [IntKind.wrap, IntKind.bits, IntKind.signed]
  have e2 : IntKind.u64.wrap many = many := by simp [IntKind.wrap, IntKind.bits, IntKind.signed]; omega
  have hx : 0 ≤ n % 18446744073709551616 := Int.emod_nonneg _ (by omega)
  have e3 : (n % 18446744073709551616).tmod many = n % 18446744073709551616 % many := Int.tmod_eq_emod_of_nonneg hx
  have hy0 : 0 ≤ n % 18446744073709551616 % many := Int.emod_nonneg _ (by omega)
  have hy1 : n % 18446744073709551616 % many < many := Int.emod_lt_of_pos _ h2
  obtain ⟨y, hy⟩ : ∃ y, y = n % 18446744073709551616 % many := ⟨_, rfl⟩
  have HN : Hid (nearF n least many = least + y) := hid (by unfold nearF; rw [hy])
  rw [← hy] at e3 hy0 hy1
  obtain ⟨x, hxx⟩ : ∃ x, x = n % 18446744073709551616 := ⟨_, rfl⟩
  rw [← hxx] at e1 e3 hx
  have E1 := hid e1; have E2 := hid e2; have E3 := hid e3
  have hm0 : ¬ many = 0 := by omega
  have hmb : (many == 0) = false := beq_eq_false_iff_ne.2 hm0
  clear e1 e2 e3 hy hxx hm0
  have E4 : Hid (IntKind.u64.wrap y = y) := hid (by simp [IntKind.wrap, IntKind.bits, IntKind.signed]; omega)
  have E5 : Hid (wrap64 y = y) := hid (by unfold wrap64; omega)
  go_enter Tryd.func47, Tryd.ntmps47
  have e1 := E1.out; have e2 := E2.out; have e3 := E3.out; have e4 := E4.out; have e5 := E5.out
  go_wp2_with fail
  go_ret
  exact ⟨by rw [HN.out]; first | rfl | (simp [e1, e2, e3, e4, e5]; done) | (go_simp; rfl), rfl⟩

set_option maxRecDepth 100000 in
set_option maxHeartbeats 8000000 in
attribute [local go_sem] FUpon in
theorem rgood_calls (r : Rc) (w : World) (hts : r.t.size ≤ 9223372036854775807) : Calls Tryd.prog 19 #[r.val] w fun x w' => x = .returned (goodR r).val ∧ Frm M0 w w' := by
  obtain ⟨kk, Kkk⟩ : ∃ x, Hid (nearF r.k 1 7 = x) := ⟨_, rfl⟩
  have bkk : 1 ≤ kk ∧ kk < 8 := by have := near_bd (n := r.k) (least := 1) (many := 7) (by omega); have e := Kkk.out; rw [e] at this; omega
  obtain ⟨lkk, ukk⟩ := bkk
  obtain ⟨ee, Kee⟩ : ∃ x, Hid (nearF r.e 1 9 = x) := ⟨_, rfl⟩
  have HPV : Hid (r.p.val = .agg #[.int .i64 r.p.s0, .int .i64 r.p.s1, .int .i64 r.p.s2, .int .i64 r.p.s3, .int .i64 r.p.s4, .int .i64 r.p.s5, .int .i64 r.p.s6, .int .i64 r.p.s7, .int .i64 r.p.s8, .int .i64 r.p.s9, .int .i64 r.p.s10, .int .i64 r.p.s11]) := rfl
  have HVV : Hid (r.val = .agg #[.int .i64 r.k, .int .i64 r.e, .int .i64 r.w, .int .i64 r.n, .int .i64 r.q, .string r.t, .int .i64 r.p.s0, .int .i64 r.p.s1, .int .i64 r.p.s2, .int .i64 r.p.s3, .int .i64 r.p.s4, .int .i64 r.p.s5, .int .i64 r.p.s6, .int .i64 r.p.s7, .int .i64 r.p.s8, .int .i64 r.p.s9, .int .i64 r.p.s10, .int .i64 r.p.s11]) := rfl
  rw [HVV.out]
  go_enter Tryd.func19, Tryd.ntmps19
  go_wp2_with fail
  obtain ⟨hB, hT⟩ := new2 w (.cells #[.int .i64 r.k, .int .i64 r.e, .int .i64 r.w, .int .i64 r.n, .int .i64 r.q, .string r.t, .int .i64 r.p.s0, .int .i64 r.p.s1, .int .i64 r.p.s2, .int .i64 r.p.s3, .int .i64 r.p.s4, .int .i64 r.p.s5, .int .i64 r.p.s6, .int .i64 r.p.s7, .int .i64 r.p.s8, .int .i64 r.p.s9, .int .i64 r.p.s10, .int .i64 r.p.s11] 26) (.cells #[.int .i64 0, .int .i64 0, .int .i64 0, .int .i64 0, .int .i64 0, .string ⟨#[]⟩, .int .i64 0, .int .i64 0, .int .i64 0, .int .i64 0, .int .i64 0, .int .i64 0, .int .i64 0, .int .i64 0, .int .i64 0, .int .i64 0, .int .i64 0, .int .i64 0] 26)
  have hF := ((Frm.refl M0 w).alloc (.cells #[.int .i64 r.k, .int .i64 r.e, .int .i64 r.w, .int .i64 r.n, .int .i64 r.q, .string r.t, .int .i64 r.p.s0, .int .i64 r.p.s1, .int .i64 r.p.s2, .int .i64 r.p.s3, .int .i64 r.p.s4, .int .i64 r.p.s5, .int .i64 r.p.s6, .int .i64 r.p.s7, .int .i64 r.p.s8, .int .i64 r.p.s9, .int .i64 r.p.s10, .int .i64 r.p.s11] 26)).alloc (.cells #[.int .i64 0, .int .i64 0, .int .i64 0, .int .i64 0, .int .i64 0, .string ⟨#[]⟩, .int .i64 0, .int .i64 0, .int .i64 0, .int .i64 0, .int .i64 0, .int .i64 0, .int .i64 0, .int .i64 0, .int .i64 0, .int .i64 0, .int .i64 0, .int .i64 0] 26)
  obtain ⟨b, hb⟩ : ∃ x, x = w.heap.size := ⟨_, rfl⟩
  obtain ⟨w0, hw⟩ : ∃ x, x = (w.alloc (.cells #[.int .i64 r.k, .int .i64 r.e, .int .i64 r.w, .int .i64 r.n, .int .i64 r.q, .string r.t, .int .i64 r.p.s0, .int .i64 r.p.s1, .int .i64 r.p.s2, .int .i64 r.p.s3, .int .i64 r.p.s4, .int .i64 r.p.s5, .int .i64 r.p.s6, .int .i64 r.p.s7, .int .i64 r.p.s8, .int .i64 r.p.s9, .int .i64 r.p.s10, .int .i64 r.p.s11] 26)).alloc (.cells #[.int .i64 0, .int .i64 0, .int .i64 0, .int .i64 0, .int .i64 0, .string ⟨#[]⟩, .int .i64 0, .int .i64 0, .int .i64 0, .int .i64 0, .int .i64 0, .int .i64 0, .int .i64 0, .int .i64 0, .int .i64 0, .int .i64 0, .int .i64 0, .int .i64 0] 26) := ⟨_, rfl⟩
  have hz : w0.heap.size = b + 2 := by rw [hw, hb]; simp
  have hs1 : (w.alloc (.cells #[.int .i64 r.k, .int .i64 r.e, .int .i64 r.w, .int .i64 r.n, .int .i64 r.q, .string r.t, .int .i64 r.p.s0, .int .i64 r.p.s1, .int .i64 r.p.s2, .int .i64 r.p.s3, .int .i64 r.p.s4, .int .i64 r.p.s5, .int .i64 r.p.s6, .int .i64 r.p.s7, .int .i64 r.p.s8, .int .i64 r.p.s9, .int .i64 r.p.s10, .int .i64 r.p.s11] 26)).heap.size = w.heap.size + 1 := by simp
  try rw [hs1]
  rw [← hw, ← hb] at hB hT
  rw [← hw] at hF
  rw [← hw, ← hb]
  have HBB := hid hb
  have B0 := hid hB
  have T0 := hid hT
  have F0 := hid hF
  clear hw hb hB hT hF hs1
  have HL : Hid (∀ wx, Frm M0 w0 wx → wx.heap[b]? = some (.cells #[.int .i64 r.k, .int .i64 r.e, .int .i64 r.w, .int .i64 r.n, .int .i64 r.q, .string r.t, .int .i64 r.p.s0, .int .i64 r.p.s1, .int .i64 r.p.s2, .int .i64 r.p.s3, .int .i64 r.p.s4, .int .i64 r.p.s5, .int .i64 r.p.s6, .int .i64 r.p.s7, .int .i64 r.p.s8, .int .i64 r.p.s9, .int .i64 r.p.s10, .int .i64 r.p.s11] 26 (0, 0))) := hid (fun wx hx => hx.heap B0.out (fun h => h))
  refine wp_region_Fl 7 8 [0, 1, 2, 3, 4, 5, 6] ⟨some 3, .alloc 26, 0, "ref.go:128", #[], none⟩ (.cells #[.int .i64 0, .int .i64 0, .int .i64 0, .int .i64 0, .int .i64 0, .string ⟨#[]⟩, .int .i64 0, .int .i64 0, .int .i64 0, .int .i64 0, .int .i64 0, .int .i64 0, .int .i64 0, .int .i64 0, .int .i64 0, .int .i64 0, .int .i64 0, .int .i64 0] 26) (by kernel_rfl) (by kernel_rfl) rfl rfl rfl (fun a w => rfl) ?_
  intro ops QT HO HQ
  obtain ⟨ho0, HO⟩ := HO
  refine wpF_cons _ (ptr b) ho0.out ?_ ?_
  · refine FY_in rfl fun wx hx => ?_
    go_simp
  simp only [Act.put, List.setIfInBounds_toArray, List.set_cons_zero, List.set_cons_succ]
  obtain ⟨ho1, HO⟩ := HO
  refine wpF_cons _ (.int .i64 r.k) ho1.out ?_ ?_
  · refine FY_in rfl fun wx hx => ?_
    have hc : wx.cell? ⟨b, 0, none⟩ = some (.int .i64 r.k) := cell_at (HL.out wx hx) 0
    go_simp
  simp only [Act.put, List.setIfInBounds_toArray, List.set_cons_zero, List.set_cons_succ]
  obtain ⟨ho2, HO⟩ := HO
  refine wpF_cons _ (.int .i64 kk) ho2.out ?_ ?_
  · refine FY_in rfl fun wx hx => ?_
    go_simp
    exact (rnear10_calls _ _ _ _ (by omega) (by omega) (by omega) (by omega)).mono fun e w' h => ⟨by rw [h.1, Kkk.out], by rw [h.2]; exact Frm.refl _ _⟩
  simp only [Act.put, List.setIfInBounds_toArray, List.set_cons_zero, List.set_cons_succ]
  obtain ⟨ho3, HO⟩ := HO
  refine wpF_cons _ (.pointer (some ⟨b, 1, none⟩)) ho3.out ?_ ?_
  · refine FY_in rfl fun wx hx => ?_
    go_simp
  simp only [Act.put, List.setIfInBounds_toArray, List.set_cons_zero, List.set_cons_succ]
  obtain ⟨ho4, HO⟩ := HO
  refine wpF_cons _ (.int .i64 r.e) ho4.out ?_ ?_
  · refine FY_in rfl fun wx hx => ?_
    have hc : wx.cell? ⟨b, 1, none⟩ = some (.int .i64 r.e) := cell_at (HL.out wx hx) 1
    go_simp
  simp only [Act.put, List.setIfInBounds_toArray, List.set_cons_zero, List.set_cons_succ]
  obtain ⟨ho5, HO⟩ := HO
  refine wpF_cons _ (.int .i64 ee) ho5.out ?_ ?_
  · refine FY_in rfl fun wx hx => ?_
    go_simp
    exact (rnear10_calls _ _ _ _ (by omega) (by omega) (by omega) (by omega)).mono fun e w' h => ⟨by rw [h.1, Kee.out], by rw [h.2]; exact Frm.refl _ _⟩
  simp only [Act.put, List.setIfInBounds_toArray, List.set_cons_zero, List.set_cons_succ]
  obtain ⟨ho6, HO⟩ := HO
  refine wpF_cons _ (.agg #[.int .i64 kk, .int .i64 ee, .int .i64 0, .int .i64 0, .int .i64 0, .string ⟨#[]⟩, .int .i64 0, .int .i64 0, .int .i64 0, .int .i64 0, .int .i64 0, .int .i64 0, .int .i64 0, .int .i64 0, .int .i64 0, .int .i64 0, .int .i64 0, .int .i64 0]) ho6.out ?_ ?_
  · refine FY_in rfl fun wx hx => ?_
    go_simp
  simp only [Act.put, List.setIfInBounds_toArray, List.set_cons_zero, List.set_cons_succ]
  refine HQ.out _ ?_
  intro g w2 hf2 hbx hh2
  refine .inl (wp_store_row 26 (.tmp 3) (.tmp 11) rfl g #[.int .i64 kk, .int .i64 ee, .int .i64 0, .int .i64 0, .int .i64 0, .string ⟨#[]⟩, .int .i64 0, .int .i64 0, .int .i64 0, .int .i64 0, .int .i64 0, .int .i64 0, .int .i64 0, .int .i64 0, .int .i64 0, .int .i64 0, .int .i64 0, .int .i64 0] (by kernel_rfl) (by kernel_rfl) _ _ hh2 (by kernel_rfl) rfl (by simp [Value.oneCell']) ?_)
  have G3 := hid (setRow_heap w2 g _ (#[.int .i64 kk, .int .i64 ee, .int .i64 0, .int .i64 0, .int .i64 0, .string ⟨#[]⟩, .int .i64 0, .int .i64 0, .int .i64 0, .int .i64 0, .int .i64 0, .int .i64 0, .int .i64 0, .int .i64 0, .int .i64 0, .int .i64 0, .int .i64 0, .int .i64 0]) _ _ hh2)
  have hfs := hf2.setRow g (#[.int .i64 kk, .int .i64 ee, .int .i64 0, .int .i64 0, .int .i64 0, .string ⟨#[]⟩, .int .i64 0, .int .i64 0, .int .i64 0, .int .i64 0, .int .i64 0, .int .i64 0, .int .i64 0, .int .i64 0, .int .i64 0, .int .i64 0, .int .i64 0, .int .i64 0]) hbx
  have B3 := hid (hfs.heap B0.out (fun h => h))
  have T3 := hid (hfs.heap T0.out (fun h => h))
  have F3 := hid (F0.out.then0 hfs)
  obtain ⟨w3, hw3⟩ : ∃ x, x = w2.setRow g (#[.int .i64 kk, .int .i64 ee, .int .i64 0, .int .i64 0, .int .i64 0, .string ⟨#[]⟩, .int .i64 0, .int .i64 0, .int .i64 0, .int .i64 0, .int .i64 0, .int .i64 0, .int .i64 0, .int .i64 0, .int .i64 0, .int .i64 0, .int .i64 0, .int .i64 0]) := ⟨_, rfl⟩
  rw [← hw3] at G3 B3 T3 F3
  rw [← hw3]
  have hgb : b + 2 ≤ g := by omega
  clear hw3 hfs hh2 hf2 HL B0 T0 F0 HO HQ hbx hz
  clear ho0 ho1 ho2 ho3 ho4 ho5 ho6
  simp only [List.getElem_toArray, List.getElem_cons_succ, List.getElem_cons_zero, Act.put, List.setIfInBounds_toArray, List.set_cons_zero, List.set_cons_succ]
  go_upto_region 2 with fail
  go_cut [4] (fun s4 wx => s4 = .string (goodT r.t) ∧ Hid (w3 = wx))
  case first =>
    by_cases h20 : (r.t.size : Int) ≤ 20
    case pos =>
      have hm : min (r.t.size : Int) 20 = (r.t.size : Int) := by omega
      have H20 : Hid (r.t.size ≤ 20) := hid (by omega)
      go_wp2_with (first | (refine wpList_load_v (by kernel_rfl) 9 (.tmp 12) (by with_reducible rfl) b 5 (by kernel_rfl) _ _ _ B3.out (.string r.t) (by kernel_rfl) _ Tryd.underlying9 rfl ?_) | (refine wpList_load_v (by kernel_rfl) 9 (.tmp 14) (by with_reducible rfl) b 5 (by kernel_rfl) _ _ _ B3.out (.string r.t) (by kernel_rfl) _ Tryd.underlying9 rfl ?_))
      all_goals first
        | (exfalso; omega)
        | (go_meet; exact ⟨by unfold goodT; rw [if_pos H20.out], hid rfl⟩)
    case neg =>
      have hm : min (r.t.size : Int) 20 = 20 := by omega
      have H20 : Hid (¬ r.t.size ≤ 20) := hid (by omega)
      go_wp2_with (first | (refine wpList_load_v (by kernel_rfl) 9 (.tmp 12) (by with_reducible rfl) b 5 (by kernel_rfl) _ _ _ B3.out (.string r.t) (by kernel_rfl) _ Tryd.underlying9 rfl ?_) | (refine wpList_load_v (by kernel_rfl) 9 (.tmp 14) (by with_reducible rfl) b 5 (by kernel_rfl) _ _ _ B3.out (.string r.t) (by kernel_rfl) _ Tryd.underlying9 rfl ?_))
      all_goals first
        | (exfalso; omega)
        | (go_meet; exact ⟨by unfold goodT; rw [if_neg H20.out], hid rfl⟩)
  case rest =>
    obtain ⟨rfl, hw⟩ := hcut
    rw [← hw.out]
    clear hw
    obtain ⟨gt, Hgt⟩ : ∃ x, Hid (goodT r.t = x) := ⟨_, rfl⟩
    rw [Hgt.out]
    have hk : kk = 1 ∨ kk = 2 ∨ kk = 3 ∨ kk = 4 ∨ kk = 5 ∨ kk = 6 ∨ kk = 7 := by omega
    clear lkk ukk
    rcases hk with rfl | rfl | rfl | rfl | rfl | rfl | rfl
    · obtain ⟨x0, X0⟩ : ∃ x, Hid (nearF r.w 0 4 = x) := ⟨_, rfl⟩
      obtain ⟨x1, X1⟩ : ∃ x, Hid (nearF r.n 0 50 = x) := ⟨_, rfl⟩
      obtain ⟨x2, X2⟩ : ∃ x, Hid (nearF r.q 1 20 = x) := ⟨_, rfl⟩
      have HG : Hid (goodR r = ⟨1, ee, x0, x1, x2, ⟨#[]⟩, Sp.zero⟩) := hid (by simp [goodR, Kkk.out, Kee.out, X0.out, X1.out, X2.out])
      go_wp2_with (first | (refine wpList_load_v (by kernel_rfl) 3 (.tmp 20) (by with_reducible rfl) g 0 (by kernel_rfl) _ _ _ G3.out (.int .i64 1) (by kernel_rfl) _ Tryd.underlying3 rfl ?_) | (refine wpList_load_v (by kernel_rfl) 3 (.tmp 24) (by with_reducible rfl) b 2 (by kernel_rfl) _ _ _ B3.out (.int .i64 r.w) (by kernel_rfl) _ Tryd.underlying3 rfl ?_))
      refine (rnear10_calls _ _ _ _ (by decide) (by decide) (by decide) (by decide)).mono ?_
      rintro _ _ ⟨rfl, rfl⟩
      rw [X0.out]
      go_wp2_with (first | (refine wpList_store_v (by kernel_rfl) 3 (.tmp 27) (.tmp 26) (by with_reducible rfl) g 2 (by kernel_rfl) (.int .i64 x0) (by kernel_rfl) #[.int .i64 x0] rfl _ _ G3.out (by kernel_rfl) (by simp) (by simp [Value.oneCell']) ?_; intro w4 hh hp; have G4 : Hid (w4.heap[g]? = some (.cells #[.int .i64 1, .int .i64 ee, .int .i64 x0, .int .i64 0, .int .i64 0, .string ⟨#[]⟩, .int .i64 0, .int .i64 0, .int .i64 0, .int .i64 0, .int .i64 0, .int .i64 0, .int .i64 0, .int .i64 0, .int .i64 0, .int .i64 0, .int .i64 0, .int .i64 0] 26 (0, 0))) := putL_heap hh (by kernel_rfl); have B4 := hid (hp.heap B3.out (by show ¬ b = g; omega)); have T4 := hid (hp.heap T3.out (by show ¬ b + 1 = g; omega)); have F4 := hid (F3.out.trans hp (fun x hx e => by have e' : x = g := e; have := HBB.out; omega)); clear hh hp G3 B3 T3 F3) | (refine wpList_load_v (by kernel_rfl) 3 (.tmp 28) (by with_reducible rfl) b 3 (by kernel_rfl) _ _ _ B4.out (.int .i64 r.n) (by kernel_rfl) _ Tryd.underlying3 rfl ?_))
      refine (rnear10_calls _ _ _ _ (by decide) (by decide) (by decide) (by decide)).mono ?_
      rintro _ _ ⟨rfl, rfl⟩
      rw [X1.out]
      go_wp2_with (first | (refine wpList_store_v (by kernel_rfl) 3 (.tmp 31) (.tmp 30) (by with_reducible rfl) g 3 (by kernel_rfl) (.int .i64 x1) (by kernel_rfl) #[.int .i64 x1] rfl _ _ G4.out (by kernel_rfl) (by simp) (by simp [Value.oneCell']) ?_; intro w5 hh hp; have G5 : Hid (w5.heap[g]? = some (.cells #[.int .i64 1, .int .i64 ee, .int .i64 x0, .int .i64 x1, .int .i64 0, .string ⟨#[]⟩, .int .i64 0, .int .i64 0, .int .i64 0, .int .i64 0, .int .i64 0, .int .i64 0, .int .i64 0, .int .i64 0, .int .i64 0, .int .i64 0, .int .i64 0, .int .i64 0] 26 (0, 0))) := putL_heap hh (by kernel_rfl); have B5 := hid (hp.heap B4.out (by show ¬ b = g; omega)); have T5 := hid (hp.heap T4.out (by show ¬ b + 1 = g; omega)); have F5 := hid (F4.out.trans hp (fun x hx e => by have e' : x = g := e; have := HBB.out; omega)); clear hh hp G4 B4 T4 F4) | (refine wpList_load_v (by kernel_rfl) 3 (.tmp 32) (by with_reducible rfl) b 4 (by kernel_rfl) _ _ _ B5.out (.int .i64 r.q) (by kernel_rfl) _ Tryd.underlying3 rfl ?_))
      refine (rnear10_calls _ _ _ _ (by decide) (by decide) (by decide) (by decide)).mono ?_
      rintro _ _ ⟨rfl, rfl⟩
      rw [X2.out]
      go_wp2_with (first | (refine wpList_store_v (by kernel_rfl) 3 (.tmp 35) (.tmp 34) (by with_reducible rfl) g 4 (by kernel_rfl) (.int .i64 x2) (by kernel_rfl) #[.int .i64 x2] rfl _ _ G5.out (by kernel_rfl) (by simp) (by simp [Value.oneCell']) ?_; intro w6 hh hp; have G6 : Hid (w6.heap[g]? = some (.cells #[.int .i64 1, .int .i64 ee, .int .i64 x0, .int .i64 x1, .int .i64 x2, .string ⟨#[]⟩, .int .i64 0, .int .i64 0, .int .i64 0, .int .i64 0, .int .i64 0, .int .i64 0, .int .i64 0, .int .i64 0, .int .i64 0, .int .i64 0, .int .i64 0, .int .i64 0] 26 (0, 0))) := putL_heap hh (by kernel_rfl); have B6 := hid (hp.heap B5.out (by show ¬ b = g; omega)); have T6 := hid (hp.heap T5.out (by show ¬ b + 1 = g; omega)); have F6 := hid (F5.out.trans hp (fun x hx e => by have e' : x = g := e; have := HBB.out; omega)); clear hh hp G5 B5 T5 F5) | (refine wpList_load_row rfl 26 (.tmp 3) (by with_reducible rfl) g (by kernel_rfl) _ _ _ _ G6.out Tryd.underlying26 rfl (by kernel_rfl) ?_) | (refine wpList_store_row rfl 26 (.tmp 2) (.tmp 98) (by with_reducible rfl) (b + 1) #[.int .i64 1, .int .i64 ee, .int .i64 x0, .int .i64 x1, .int .i64 x2, .string ⟨#[]⟩, .int .i64 0, .int .i64 0, .int .i64 0, .int .i64 0, .int .i64 0, .int .i64 0, .int .i64 0, .int .i64 0, .int .i64 0, .int .i64 0, .int .i64 0, .int .i64 0] (by kernel_rfl) (by kernel_rfl) _ _ T6.out (by kernel_rfl) rfl (by simp [Value.oneCell']) ?_))
      refine bodyPost_ret (results_cell_row (by rfl) _ _ (b + 1) _ _ _ _ (by kernel_rfl) (setRow_heap _ _ _ _ _ _ T6.out) Tryd.underlying26 rfl (by kernel_rfl)) rfl ⟨by rw [HG.out]; rfl, F6.out.setRow _ _ (by have := HBB.out; omega)⟩
    · obtain ⟨x0, X0⟩ : ∃ x, Hid (nearF r.n 1 6 = x) := ⟨_, rfl⟩
      have HG : Hid (goodR r = ⟨2, ee, 0, x0, 0, gt, Sp.zero⟩) := hid (by simp [goodR, Kkk.out, Kee.out, X0.out, Hgt.out])
      go_wp2_with (first | (refine wpList_load_v (by kernel_rfl) 3 (.tmp 20) (by with_reducible rfl) g 0 (by kernel_rfl) _ _ _ G3.out (.int .i64 2) (by kernel_rfl) _ Tryd.underlying3 rfl ?_) | (refine wpList_load_v (by kernel_rfl) 3 (.tmp 38) (by with_reducible rfl) b 3 (by kernel_rfl) _ _ _ B3.out (.int .i64 r.n) (by kernel_rfl) _ Tryd.underlying3 rfl ?_))
      refine (rnear10_calls _ _ _ _ (by decide) (by decide) (by decide) (by decide)).mono ?_
      rintro _ _ ⟨rfl, rfl⟩
      rw [X0.out]
      go_wp2_with (first | (refine wpList_store_v (by kernel_rfl) 3 (.tmp 41) (.tmp 40) (by with_reducible rfl) g 3 (by kernel_rfl) (.int .i64 x0) (by kernel_rfl) #[.int .i64 x0] rfl _ _ G3.out (by kernel_rfl) (by simp) (by simp [Value.oneCell']) ?_; intro w4 hh hp; have G4 : Hid (w4.heap[g]? = some (.cells #[.int .i64 2, .int .i64 ee, .int .i64 0, .int .i64 x0, .int .i64 0, .string ⟨#[]⟩, .int .i64 0, .int .i64 0, .int .i64 0, .int .i64 0, .int .i64 0, .int .i64 0, .int .i64 0, .int .i64 0, .int .i64 0, .int .i64 0, .int .i64 0, .int .i64 0] 26 (0, 0))) := putL_heap hh (by kernel_rfl); have B4 := hid (hp.heap B3.out (by show ¬ b = g; omega)); have T4 := hid (hp.heap T3.out (by show ¬ b + 1 = g; omega)); have F4 := hid (F3.out.trans hp (fun x hx e => by have e' : x = g := e; have := HBB.out; omega)); clear hh hp G3 B3 T3 F3) | (refine wpList_store_v (by kernel_rfl) 9 (.tmp 43) (.tmp 42) (by with_reducible rfl) g 5 (by kernel_rfl) (.string gt) (by kernel_rfl) #[.string gt] rfl _ _ G4.out (by kernel_rfl) (by simp) (by simp [Value.oneCell']) ?_; intro w5 hh hp; have G5 : Hid (w5.heap[g]? = some (.cells #[.int .i64 2, .int .i64 ee, .int .i64 0, .int .i64 x0, .int .i64 0, .string gt, .int .i64 0, .int .i64 0, .int .i64 0, .int .i64 0, .int .i64 0, .int .i64 0, .int .i64 0, .int .i64 0, .int .i64 0, .int .i64 0, .int .i64 0, .int .i64 0] 26 (0, 0))) := putL_heap hh (by kernel_rfl); have B5 := hid (hp.heap B4.out (by show ¬ b = g; omega)); have T5 := hid (hp.heap T4.out (by show ¬ b + 1 = g; omega)); have F5 := hid (F4.out.trans hp (fun x hx e => by have e' : x = g := e; have := HBB.out; omega)); clear hh hp G4 B4 T4 F4) | (refine wpList_load_row rfl 26 (.tmp 3) (by with_reducible rfl) g (by kernel_rfl) _ _ _ _ G5.out Tryd.underlying26 rfl (by kernel_rfl) ?_) | (refine wpList_store_row rfl 26 (.tmp 2) (.tmp 98) (by with_reducible rfl) (b + 1) #[.int .i64 2, .int .i64 ee, .int .i64 0, .int .i64 x0, .int .i64 0, .string gt, .int .i64 0, .int .i64 0, .int .i64 0, .int .i64 0, .int .i64 0, .int .i64 0, .int .i64 0, .int .i64 0, .int .i64 0, .int .i64 0, .int .i64 0, .int .i64 0] (by kernel_rfl) (by kernel_rfl) _ _ T5.out (by kernel_rfl) rfl (by simp [Value.oneCell']) ?_))
      refine bodyPost_ret (results_cell_row (by rfl) _ _ (b + 1) _ _ _ _ (by kernel_rfl) (setRow_heap _ _ _ _ _ _ T5.out) Tryd.underlying26 rfl (by kernel_rfl)) rfl ⟨by rw [HG.out]; rfl, F5.out.setRow _ _ (by have := HBB.out; omega)⟩
    · obtain ⟨x0, X0⟩ : ∃ x, Hid (nearF r.n 0 50 = x) := ⟨_, rfl⟩
      obtain ⟨P, HP⟩ : ∃ x, Hid (goodSp r.p = x) := ⟨_, rfl⟩
      have HQV : Hid (P.val = .agg #[.int .i64 P.s0, .int .i64 P.s1, .int .i64 P.s2, .int .i64 P.s3, .int .i64 P.s4, .int .i64 P.s5, .int .i64 P.s6, .int .i64 P.s7, .int .i64 P.s8, .int .i64 P.s9, .int .i64 P.s10, .int .i64 P.s11]) := rfl
      have HG : Hid (goodR r = ⟨3, ee, 0, x0, 0, ⟨#[]⟩, P⟩) := hid (by simp [goodR, Kkk.out, Kee.out, X0.out, HP.out])
      go_wp2_with (first | (refine wpList_load_v (by kernel_rfl) 3 (.tmp 20) (by with_reducible rfl) g 0 (by kernel_rfl) _ _ _ G3.out (.int .i64 3) (by kernel_rfl) _ Tryd.underlying3 rfl ?_) | (refine wpList_load_v (by kernel_rfl) 3 (.tmp 46) (by with_reducible rfl) b 3 (by kernel_rfl) _ _ _ B3.out (.int .i64 r.n) (by kernel_rfl) _ Tryd.underlying3 rfl ?_))
      refine (rnear10_calls _ _ _ _ (by decide) (by decide) (by decide) (by decide)).mono ?_
      rintro _ _ ⟨rfl, rfl⟩
      rw [X0.out]
      go_wp2_with (first | (refine wpList_store_v (by kernel_rfl) 3 (.tmp 49) (.tmp 48) (by with_reducible rfl) g 3 (by kernel_rfl) (.int .i64 x0) (by kernel_rfl) #[.int .i64 x0] rfl _ _ G3.out (by kernel_rfl) (by simp) (by simp [Value.oneCell']) ?_; intro w4 hh hp; have G4 : Hid (w4.heap[g]? = some (.cells #[.int .i64 3, .int .i64 ee, .int .i64 0, .int .i64 x0, .int .i64 0, .string ⟨#[]⟩, .int .i64 0, .int .i64 0, .int .i64 0, .int .i64 0, .int .i64 0, .int .i64 0, .int .i64 0, .int .i64 0, .int .i64 0, .int .i64 0, .int .i64 0, .int .i64 0] 26 (0, 0))) := putL_heap hh (by kernel_rfl); have B4 := hid (hp.heap B3.out (by show ¬ b = g; omega)); have T4 := hid (hp.heap T3.out (by show ¬ b + 1 = g; omega)); have F4 := hid (F3.out.trans hp (fun x hx e => by have e' : x = g := e; have := HBB.out; omega)); clear hh hp G3 B3 T3 F3) | (refine wpList_load_at (by kernel_rfl) 24 (.tmp 50) (by with_reducible rfl) b 6 (by kernel_rfl) _ _ _ B4.out #[.int .i64 r.p.s0, .int .i64 r.p.s1, .int .i64 r.p.s2, .int .i64 r.p.s3, .int .i64 r.p.s4, .int .i64 r.p.s5, .int .i64 r.p.s6, .int .i64 r.p.s7, .int .i64 r.p.s8, .int .i64 r.p.s9, .int .i64 r.p.s10, .int .i64 r.p.s11] (by kernel_rfl) (by simp) _ Tryd.underlying24 rfl (by kernel_rfl) ?_))
      rw [← HPV.out]
      refine (sgood_calls r.p _).mono ?_
      rintro _ wg ⟨rfl, hf⟩
      rw [HP.out, HQV.out, HPV.out]
      have G9 := hid (hf.heap G4.out (fun h => h))
      have B9 := hid (hf.heap B4.out (fun h => h))
      have T9 := hid (hf.heap T4.out (fun h => h))
      have F9 := hid (F4.out.then0 hf)
      clear hf G4 B4 T4 F4
      go_wp2_with (first | (refine wpList_store_at (by kernel_rfl) 24 (.tmp 53) (.tmp 52) (by with_reducible rfl) g 6 (by kernel_rfl) #[.int .i64 P.s0, .int .i64 P.s1, .int .i64 P.s2, .int .i64 P.s3, .int .i64 P.s4, .int .i64 P.s5, .int .i64 P.s6, .int .i64 P.s7, .int .i64 P.s8, .int .i64 P.s9, .int .i64 P.s10, .int .i64 P.s11] (by kernel_rfl) _ _ G9.out (by kernel_rfl) (by simp) (by simp [Value.oneCell']) ?_; intro w10 hh hp; have G10 : Hid (w10.heap[g]? = some (.cells #[.int .i64 3, .int .i64 ee, .int .i64 0, .int .i64 x0, .int .i64 0, .string ⟨#[]⟩, .int .i64 P.s0, .int .i64 P.s1, .int .i64 P.s2, .int .i64 P.s3, .int .i64 P.s4, .int .i64 P.s5, .int .i64 P.s6, .int .i64 P.s7, .int .i64 P.s8, .int .i64 P.s9, .int .i64 P.s10, .int .i64 P.s11] 26 (0, 0))) := putL_heap hh (by kernel_rfl); have B10 := hid (hp.heap B9.out (by show ¬ b = g; omega)); have T10 := hid (hp.heap T9.out (by show ¬ b + 1 = g; omega)); have F10 := hid (F9.out.trans hp (fun x hx e => by have e' : x = g := e; have := HBB.out; omega)); clear hh hp G9 B9 T9 F9) | (refine wpList_load_row rfl 26 (.tmp 3) (by with_reducible rfl) g (by kernel_rfl) _ _ _ _ G10.out Tryd.underlying26 rfl (by kernel_rfl) ?_) | (refine wpList_store_row rfl 26 (.tmp 2) (.tmp 98) (by with_reducible rfl) (b + 1) #[.int .i64 3, .int .i64 ee, .int .i64 0, .int .i64 x0, .int .i64 0, .string ⟨#[]⟩, .int .i64 P.s0, .int .i64 P.s1, .int .i64 P.s2, .int .i64 P.s3, .int .i64 P.s4, .int .i64 P.s5, .int .i64 P.s6, .int .i64 P.s7, .int .i64 P.s8, .int .i64 P.s9, .int .i64 P.s10, .int .i64 P.s11] (by kernel_rfl) (by kernel_rfl) _ _ T10.out (by kernel_rfl) rfl (by simp [Value.oneCell']) ?_))
      refine bodyPost_ret (results_cell_row (by rfl) _ _ (b + 1) _ _ _ _ (by kernel_rfl) (setRow_heap _ _ _ _ _ _ T10.out) Tryd.underlying26 rfl (by kernel_rfl)) rfl ⟨by rw [HG.out]; rfl, F10.out.setRow _ _ (by have := HBB.out; omega)⟩
    · obtain ⟨x0, X0⟩ : ∃ x, Hid (nearF r.n 1 5 = x) := ⟨_, rfl⟩
      have HG : Hid (goodR r = ⟨4, ee, 0, x0, 0, gt, Sp.zero⟩) := hid (by simp [goodR, Kkk.out, Kee.out, X0.out, Hgt.out])
      go_wp2_with (first | (refine wpList_load_v (by kernel_rfl) 3 (.tmp 20) (by with_reducible rfl) g 0 (by kernel_rfl) _ _ _ G3.out (.int .i64 4) (by kernel_rfl) _ Tryd.underlying3 rfl ?_) | (refine wpList_load_v (by kernel_rfl) 3 (.tmp 56) (by with_reducible rfl) b 3 (by kernel_rfl) _ _ _ B3.out (.int .i64 r.n) (by kernel_rfl) _ Tryd.underlying3 rfl ?_))
      refine (rnear10_calls _ _ _ _ (by decide) (by decide) (by decide) (by decide)).mono ?_
      rintro _ _ ⟨rfl, rfl⟩
      rw [X0.out]
      go_wp2_with (first | (refine wpList_store_v (by kernel_rfl) 3 (.tmp 59) (.tmp 58) (by with_reducible rfl) g 3 (by kernel_rfl) (.int .i64 x0) (by kernel_rfl) #[.int .i64 x0] rfl _ _ G3.out (by kernel_rfl) (by simp) (by simp [Value.oneCell']) ?_; intro w4 hh hp; have G4 : Hid (w4.heap[g]? = some (.cells #[.int .i64 4, .int .i64 ee, .int .i64 0, .int .i64 x0, .int .i64 0, .string ⟨#[]⟩, .int .i64 0, .int .i64 0, .int .i64 0, .int .i64 0, .int .i64 0, .int .i64 0, .int .i64 0, .int .i64 0, .int .i64 0, .int .i64 0, .int .i64 0, .int .i64 0] 26 (0, 0))) := putL_heap hh (by kernel_rfl); have B4 := hid (hp.heap B3.out (by show ¬ b = g; omega)); have T4 := hid (hp.heap T3.out (by show ¬ b + 1 = g; omega)); have F4 := hid (F3.out.trans hp (fun x hx e => by have e' : x = g := e; have := HBB.out; omega)); clear hh hp G3 B3 T3 F3) | (refine wpList_store_v (by kernel_rfl) 9 (.tmp 61) (.tmp 60) (by with_reducible rfl) g 5 (by kernel_rfl) (.string gt) (by kernel_rfl) #[.string gt] rfl _ _ G4.out (by kernel_rfl) (by simp) (by simp [Value.oneCell']) ?_; intro w5 hh hp; have G5 : Hid (w5.heap[g]? = some (.cells #[.int .i64 4, .int .i64 ee, .int .i64 0, .int .i64 x0, .int .i64 0, .string gt, .int .i64 0, .int .i64 0, .int .i64 0, .int .i64 0, .int .i64 0, .int .i64 0, .int .i64 0, .int .i64 0, .int .i64 0, .int .i64 0, .int .i64 0, .int .i64 0] 26 (0, 0))) := putL_heap hh (by kernel_rfl); have B5 := hid (hp.heap B4.out (by show ¬ b = g; omega)); have T5 := hid (hp.heap T4.out (by show ¬ b + 1 = g; omega)); have F5 := hid (F4.out.trans hp (fun x hx e => by have e' : x = g := e; have := HBB.out; omega)); clear hh hp G4 B4 T4 F4) | (refine wpList_load_row rfl 26 (.tmp 3) (by with_reducible rfl) g (by kernel_rfl) _ _ _ _ G5.out Tryd.underlying26 rfl (by kernel_rfl) ?_) | (refine wpList_store_row rfl 26 (.tmp 2) (.tmp 98) (by with_reducible rfl) (b + 1) #[.int .i64 4, .int .i64 ee, .int .i64 0, .int .i64 x0, .int .i64 0, .string gt, .int .i64 0, .int .i64 0, .int .i64 0, .int .i64 0, .int .i64 0, .int .i64 0, .int .i64 0, .int .i64 0, .int .i64 0, .int .i64 0, .int .i64 0, .int .i64 0] (by kernel_rfl) (by kernel_rfl) _ _ T5.out (by kernel_rfl) rfl (by simp [Value.oneCell']) ?_))
      refine bodyPost_ret (results_cell_row (by rfl) _ _ (b + 1) _ _ _ _ (by kernel_rfl) (setRow_heap _ _ _ _ _ _ T5.out) Tryd.underlying26 rfl (by kernel_rfl)) rfl ⟨by rw [HG.out]; rfl, F5.out.setRow _ _ (by have := HBB.out; omega)⟩
    · obtain ⟨x0, X0⟩ : ∃ x, Hid (nearF r.w 0 16 = x) := ⟨_, rfl⟩
      obtain ⟨x1, X1⟩ : ∃ x, Hid (nearF r.n 0 7 = x) := ⟨_, rfl⟩
      obtain ⟨x2, X2⟩ : ∃ x, Hid (nearF r.q 1 9 = x) := ⟨_, rfl⟩
      have HG : Hid (goodR r = ⟨5, ee, x0, x1, x2, ⟨#[]⟩, Sp.zero⟩) := hid (by simp [goodR, Kkk.out, Kee.out, X0.out, X1.out, X2.out])
      go_wp2_with (first | (refine wpList_load_v (by kernel_rfl) 3 (.tmp 20) (by with_reducible rfl) g 0 (by kernel_rfl) _ _ _ G3.out (.int .i64 5) (by kernel_rfl) _ Tryd.underlying3 rfl ?_) | (refine wpList_load_v (by kernel_rfl) 3 (.tmp 64) (by with_reducible rfl) b 2 (by kernel_rfl) _ _ _ B3.out (.int .i64 r.w) (by kernel_rfl) _ Tryd.underlying3 rfl ?_))
      refine (rnear10_calls _ _ _ _ (by decide) (by decide) (by decide) (by decide)).mono ?_
      rintro _ _ ⟨rfl, rfl⟩
      rw [X0.out]
      go_wp2_with (first | (refine wpList_store_v (by kernel_rfl) 3 (.tmp 67) (.tmp 66) (by with_reducible rfl) g 2 (by kernel_rfl) (.int .i64 x0) (by kernel_rfl) #[.int .i64 x0] rfl _ _ G3.out (by kernel_rfl) (by simp) (by simp [Value.oneCell']) ?_; intro w4 hh hp; have G4 : Hid (w4.heap[g]? = some (.cells #[.int .i64 5, .int .i64 ee, .int .i64 x0, .int .i64 0, .int .i64 0, .string ⟨#[]⟩, .int .i64 0, .int .i64 0, .int .i64 0, .int .i64 0, .int .i64 0, .int .i64 0, .int .i64 0, .int .i64 0, .int .i64 0, .int .i64 0, .int .i64 0, .int .i64 0] 26 (0, 0))) := putL_heap hh (by kernel_rfl); have B4 := hid (hp.heap B3.out (by show ¬ b = g; omega)); have T4 := hid (hp.heap T3.out (by show ¬ b + 1 = g; omega)); have F4 := hid (F3.out.trans hp (fun x hx e => by have e' : x = g := e; have := HBB.out; omega)); clear hh hp G3 B3 T3 F3) | (refine wpList_load_v (by kernel_rfl) 3 (.tmp 68) (by with_reducible rfl) b 3 (by kernel_rfl) _ _ _ B4.out (.int .i64 r.n) (by kernel_rfl) _ Tryd.underlying3 rfl ?_))
      refine (rnear10_calls _ _ _ _ (by decide) (by decide) (by decide) (by decide)).mono ?_
      rintro _ _ ⟨rfl, rfl⟩
      rw [X1.out]
      go_wp2_with (first | (refine wpList_store_v (by kernel_rfl) 3 (.tmp 71) (.tmp 70) (by with_reducible rfl) g 3 (by kernel_rfl) (.int .i64 x1) (by kernel_rfl) #[.int .i64 x1] rfl _ _ G4.out (by kernel_rfl) (by simp) (by simp [Value.oneCell']) ?_; intro w5 hh hp; have G5 : Hid (w5.heap[g]? = some (.cells #[.int .i64 5, .int .i64 ee, .int .i64 x0, .int .i64 x1, .int .i64 0, .string ⟨#[]⟩, .int .i64 0, .int .i64 0, .int .i64 0, .int .i64 0, .int .i64 0, .int .i64 0, .int .i64 0, .int .i64 0, .int .i64 0, .int .i64 0, .int .i64 0, .int .i64 0] 26 (0, 0))) := putL_heap hh (by kernel_rfl); have B5 := hid (hp.heap B4.out (by show ¬ b = g; omega)); have T5 := hid (hp.heap T4.out (by show ¬ b + 1 = g; omega)); have F5 := hid (F4.out.trans hp (fun x hx e => by have e' : x = g := e; have := HBB.out; omega)); clear hh hp G4 B4 T4 F4) | (refine wpList_load_v (by kernel_rfl) 3 (.tmp 72) (by with_reducible rfl) b 4 (by kernel_rfl) _ _ _ B5.out (.int .i64 r.q) (by kernel_rfl) _ Tryd.underlying3 rfl ?_))
      refine (rnear10_calls _ _ _ _ (by decide) (by decide) (by decide) (by decide)).mono ?_
      rintro _ _ ⟨rfl, rfl⟩
      rw [X2.out]
      go_wp2_with (first | (refine wpList_store_v (by kernel_rfl) 3 (.tmp 75) (.tmp 74) (by with_reducible rfl) g 4 (by kernel_rfl) (.int .i64 x2) (by kernel_rfl) #[.int .i64 x2] rfl _ _ G5.out (by kernel_rfl) (by simp) (by simp [Value.oneCell']) ?_; intro w6 hh hp; have G6 : Hid (w6.heap[g]? = some (.cells #[.int .i64 5, .int .i64 ee, .int .i64 x0, .int .i64 x1, .int .i64 x2, .string ⟨#[]⟩, .int .i64 0, .int .i64 0, .int .i64 0, .int .i64 0, .int .i64 0, .int .i64 0, .int .i64 0, .int .i64 0, .int .i64 0, .int .i64 0, .int .i64 0, .int .i64 0] 26 (0, 0))) := putL_heap hh (by kernel_rfl); have B6 := hid (hp.heap B5.out (by show ¬ b = g; omega)); have T6 := hid (hp.heap T5.out (by show ¬ b + 1 = g; omega)); have F6 := hid (F5.out.trans hp (fun x hx e => by have e' : x = g := e; have := HBB.out; omega)); clear hh hp G5 B5 T5 F5) | (refine wpList_load_row rfl 26 (.tmp 3) (by with_reducible rfl) g (by kernel_rfl) _ _ _ _ G6.out Tryd.underlying26 rfl (by kernel_rfl) ?_) | (refine wpList_store_row rfl 26 (.tmp 2) (.tmp 98) (by with_reducible rfl) (b + 1) #[.int .i64 5, .int .i64 ee, .int .i64 x0, .int .i64 x1, .int .i64 x2, .string ⟨#[]⟩, .int .i64 0, .int .i64 0, .int .i64 0, .int .i64 0, .int .i64 0, .int .i64 0, .int .i64 0, .int .i64 0, .int .i64 0, .int .i64 0, .int .i64 0, .int .i64 0] (by kernel_rfl) (by kernel_rfl) _ _ T6.out (by kernel_rfl) rfl (by simp [Value.oneCell']) ?_))
      refine bodyPost_ret (results_cell_row (by rfl) _ _ (b + 1) _ _ _ _ (by kernel_rfl) (setRow_heap _ _ _ _ _ _ T6.out) Tryd.underlying26 rfl (by kernel_rfl)) rfl ⟨by rw [HG.out]; rfl, F6.out.setRow _ _ (by have := HBB.out; omega)⟩
    · obtain ⟨x0, X0⟩ : ∃ x, Hid (nearF r.w 0 16 = x) := ⟨_, rfl⟩
      obtain ⟨x1, X1⟩ : ∃ x, Hid (nearF r.q 1 9 = x) := ⟨_, rfl⟩
      have HG : Hid (goodR r = ⟨6, ee, x0, 0, x1, ⟨#[]⟩, Sp.zero⟩) := hid (by simp [goodR, Kkk.out, Kee.out, X0.out, X1.out])
      go_wp2_with (first | (refine wpList_load_v (by kernel_rfl) 3 (.tmp 20) (by with_reducible rfl) g 0 (by kernel_rfl) _ _ _ G3.out (.int .i64 6) (by kernel_rfl) _ Tryd.underlying3 rfl ?_) | (refine wpList_load_v (by kernel_rfl) 3 (.tmp 78) (by with_reducible rfl) b 2 (by kernel_rfl) _ _ _ B3.out (.int .i64 r.w) (by kernel_rfl) _ Tryd.underlying3 rfl ?_))
      refine (rnear10_calls _ _ _ _ (by decide) (by decide) (by decide) (by decide)).mono ?_
      rintro _ _ ⟨rfl, rfl⟩
      rw [X0.out]
      go_wp2_with (first | (refine wpList_store_v (by kernel_rfl) 3 (.tmp 81) (.tmp 80) (by with_reducible rfl) g 2 (by kernel_rfl) (.int .i64 x0) (by kernel_rfl) #[.int .i64 x0] rfl _ _ G3.out (by kernel_rfl) (by simp) (by simp [Value.oneCell']) ?_; intro w4 hh hp; have G4 : Hid (w4.heap[g]? = some (.cells #[.int .i64 6, .int .i64 ee, .int .i64 x0, .int .i64 0, .int .i64 0, .string ⟨#[]⟩, .int .i64 0, .int .i64 0, .int .i64 0, .int .i64 0, .int .i64 0, .int .i64 0, .int .i64 0, .int .i64 0, .int .i64 0, .int .i64 0, .int .i64 0, .int .i64 0] 26 (0, 0))) := putL_heap hh (by kernel_rfl); have B4 := hid (hp.heap B3.out (by show ¬ b = g; omega)); have T4 := hid (hp.heap T3.out (by show ¬ b + 1 = g; omega)); have F4 := hid (F3.out.trans hp (fun x hx e => by have e' : x = g := e; have := HBB.out; omega)); clear hh hp G3 B3 T3 F3) | (refine wpList_load_v (by kernel_rfl) 3 (.tmp 82) (by with_reducible rfl) b 4 (by kernel_rfl) _ _ _ B4.out (.int .i64 r.q) (by kernel_rfl) _ Tryd.underlying3 rfl ?_))
      refine (rnear10_calls _ _ _ _ (by decide) (by decide) (by decide) (by decide)).mono ?_
      rintro _ _ ⟨rfl, rfl⟩
      rw [X1.out]
      go_wp2_with (first | (refine wpList_store_v (by kernel_rfl) 3 (.tmp 85) (.tmp 84) (by with_reducible rfl) g 4 (by kernel_rfl) (.int .i64 x1) (by kernel_rfl) #[.int .i64 x1] rfl _ _ G4.out (by kernel_rfl) (by simp) (by simp [Value.oneCell']) ?_; intro w5 hh hp; have G5 : Hid (w5.heap[g]? = some (.cells #[.int .i64 6, .int .i64 ee, .int .i64 x0, .int .i64 0, .int .i64 x1, .string ⟨#[]⟩, .int .i64 0, .int .i64 0, .int .i64 0, .int .i64 0, .int .i64 0, .int .i64 0, .int .i64 0, .int .i64 0, .int .i64 0, .int .i64 0, .int .i64 0, .int .i64 0] 26 (0, 0))) := putL_heap hh (by kernel_rfl); have B5 := hid (hp.heap B4.out (by show ¬ b = g; omega)); have T5 := hid (hp.heap T4.out (by show ¬ b + 1 = g; omega)); have F5 := hid (F4.out.trans hp (fun x hx e => by have e' : x = g := e; have := HBB.out; omega)); clear hh hp G4 B4 T4 F4) | (refine wpList_load_row rfl 26 (.tmp 3) (by with_reducible rfl) g (by kernel_rfl) _ _ _ _ G5.out Tryd.underlying26 rfl (by kernel_rfl) ?_) | (refine wpList_store_row rfl 26 (.tmp 2) (.tmp 98) (by with_reducible rfl) (b + 1) #[.int .i64 6, .int .i64 ee, .int .i64 x0, .int .i64 0, .int .i64 x1, .string ⟨#[]⟩, .int .i64 0, .int .i64 0, .int .i64 0, .int .i64 0, .int .i64 0, .int .i64 0, .int .i64 0, .int .i64 0, .int .i64 0, .int .i64 0, .int .i64 0, .int .i64 0] (by kernel_rfl) (by kernel_rfl) _ _ T5.out (by kernel_rfl) rfl (by simp [Value.oneCell']) ?_))
      refine bodyPost_ret (results_cell_row (by rfl) _ _ (b + 1) _ _ _ _ (by kernel_rfl) (setRow_heap _ _ _ _ _ _ T5.out) Tryd.underlying26 rfl (by kernel_rfl)) rfl ⟨by rw [HG.out]; rfl, F5.out.setRow _ _ (by have := HBB.out; omega)⟩
    · obtain ⟨x0, X0⟩ : ∃ x, Hid (nearF r.w 1 4 = x) := ⟨_, rfl⟩
      obtain ⟨x1, X1⟩ : ∃ x, Hid (nearF r.n 0 50 = x) := ⟨_, rfl⟩
      have HG : Hid (goodR r = ⟨7, ee, x0, x1, 0, gt, Sp.zero⟩) := hid (by simp [goodR, Kkk.out, Kee.out, X0.out, X1.out, Hgt.out])
      go_wp2_with (first | (refine wpList_load_v (by kernel_rfl) 3 (.tmp 20) (by with_reducible rfl) g 0 (by kernel_rfl) _ _ _ G3.out (.int .i64 7) (by kernel_rfl) _ Tryd.underlying3 rfl ?_) | (refine wpList_load_v (by kernel_rfl) 3 (.tmp 88) (by with_reducible rfl) b 2 (by kernel_rfl) _ _ _ B3.out (.int .i64 r.w) (by kernel_rfl) _ Tryd.underlying3 rfl ?_))
      refine (rnear10_calls _ _ _ _ (by decide) (by decide) (by decide) (by decide)).mono ?_
      rintro _ _ ⟨rfl, rfl⟩
      rw [X0.out]
      go_wp2_with (first | (refine wpList_store_v (by kernel_rfl) 3 (.tmp 91) (.tmp 90) (by with_reducible rfl) g 2 (by kernel_rfl) (.int .i64 x0) (by kernel_rfl) #[.int .i64 x0] rfl _ _ G3.out (by kernel_rfl) (by simp) (by simp [Value.oneCell']) ?_; intro w4 hh hp; have G4 : Hid (w4.heap[g]? = some (.cells #[.int .i64 7, .int .i64 ee, .int .i64 x0, .int .i64 0, .int .i64 0, .string ⟨#[]⟩, .int .i64 0, .int .i64 0, .int .i64 0, .int .i64 0, .int .i64 0, .int .i64 0, .int .i64 0, .int .i64 0, .int .i64 0, .int .i64 0, .int .i64 0, .int .i64 0] 26 (0, 0))) := putL_heap hh (by kernel_rfl); have B4 := hid (hp.heap B3.out (by show ¬ b = g; omega)); have T4 := hid (hp.heap T3.out (by show ¬ b + 1 = g; omega)); have F4 := hid (F3.out.trans hp (fun x hx e => by have e' : x = g := e; have := HBB.out; omega)); clear hh hp G3 B3 T3 F3) | (refine wpList_load_v (by kernel_rfl) 3 (.tmp 92) (by with_reducible rfl) b 3 (by kernel_rfl) _ _ _ B4.out (.int .i64 r.n) (by kernel_rfl) _ Tryd.underlying3 rfl ?_))
      refine (rnear10_calls _ _ _ _ (by decide) (by decide) (by decide) (by decide)).mono ?_
      rintro _ _ ⟨rfl, rfl⟩
      rw [X1.out]
      go_wp2_with (first | (refine wpList_store_v (by kernel_rfl) 3 (.tmp 95) (.tmp 94) (by with_reducible rfl) g 3 (by kernel_rfl) (.int .i64 x1) (by kernel_rfl) #[.int .i64 x1] rfl _ _ G4.out (by kernel_rfl) (by simp) (by simp [Value.oneCell']) ?_; intro w5 hh hp; have G5 : Hid (w5.heap[g]? = some (.cells #[.int .i64 7, .int .i64 ee, .int .i64 x0, .int .i64 x1, .int .i64 0, .string ⟨#[]⟩, .int .i64 0, .int .i64 0, .int .i64 0, .int .i64 0, .int .i64 0, .int .i64 0, .int .i64 0, .int .i64 0, .int .i64 0, .int .i64 0, .int .i64 0, .int .i64 0] 26 (0, 0))) := putL_heap hh (by kernel_rfl); have B5 := hid (hp.heap B4.out (by show ¬ b = g; omega)); have T5 := hid (hp.heap T4.out (by show ¬ b + 1 = g; omega)); have F5 := hid (F4.out.trans hp (fun x hx e => by have e' : x = g := e; have := HBB.out; omega)); clear hh hp G4 B4 T4 F4) | (refine wpList_store_v (by kernel_rfl) 9 (.tmp 97) (.tmp 96) (by with_reducible rfl) g 5 (by kernel_rfl) (.string gt) (by kernel_rfl) #[.string gt] rfl _ _ G5.out (by kernel_rfl) (by simp) (by simp [Value.oneCell']) ?_; intro w6 hh hp; have G6 : Hid (w6.heap[g]? = some (.cells #[.int .i64 7, .int .i64 ee, .int .i64 x0, .int .i64 x1, .int .i64 0, .string gt, .int .i64 0, .int .i64 0, .int .i64 0, .int .i64 0, .int .i64 0, .int .i64 0, .int .i64 0, .int .i64 0, .int .i64 0, .int .i64 0, .int .i64 0, .int .i64 0] 26 (0, 0))) := putL_heap hh (by kernel_rfl); have B6 := hid (hp.heap B5.out (by show ¬ b = g; omega)); have T6 := hid (hp.heap T5.out (by show ¬ b + 1 = g; omega)); have F6 := hid (F5.out.trans hp (fun x hx e => by have e' : x = g := e; have := HBB.out; omega)); clear hh hp G5 B5 T5 F5) | (refine wpList_load_row rfl 26 (.tmp 3) (by with_reducible rfl) g (by kernel_rfl) _ _ _ _ G6.out Tryd.underlying26 rfl (by kernel_rfl) ?_) | (refine wpList_store_row rfl 26 (.tmp 2) (.tmp 98) (by with_reducible rfl) (b + 1) #[.int .i64 7, .int .i64 ee, .int .i64 x0, .int .i64 x1, .int .i64 0, .string gt, .int .i64 0, .int .i64 0, .int .i64 0, .int .i64 0, .int .i64 0, .int .i64 0, .int .i64 0, .int .i64 0, .int .i64 0, .int .i64 0, .int .i64 0, .int .i64 0] (by kernel_rfl) (by kernel_rfl) _ _ T6.out (by kernel_rfl) rfl (by simp [Value.oneCell']) ?_))
      refine bodyPost_ret (results_cell_row (by rfl) _ _ (b + 1) _ _ _ _ (by kernel_rfl) (setRow_heap _ _ _ _ _ _ T6.out) Tryd.underlying26 rfl (by kernel_rfl)) rfl ⟨by rw [HG.out]; rfl, F6.out.setRow _ _ (by have := HBB.out; omega)⟩
end Go.Proofs.YtinbidmgllmglaaDoor
