/- Parse, of the program. A region in the text's order whose operations yield one value each, whatever fresh memory was made: the same walk as for one that draws its order. No condition. A step's line: the reference's Line. -/
import Derived.Test.YtonlmkcolndaaaaGreatDoorTmb
namespace Go.Proofs.YtonlmkcolndaaaaGreatDoor
set_option linter.unusedVariables false
set_option linter.unusedSimpArgs false
set_option maxRecDepth 20000
open Go.RowKit

theorem rc_zero_fine : Rc.zero.fine := by
  refine ⟨?_, by decide, fun h => absurd h (by decide)⟩
  intro x hx
  simp only [Rc.four, Rc.zero, List.mem_cons, List.not_mem_nil, or_false, or_self] at hx
  subst hx; omega
theorem recF_fine (s : ByteArray) : (recF s).1.fine := by
  rcases recF_only s with h | ⟨_, _, h, _⟩
  · rw [h]; exact rc_zero_fine
  · exact right_fine h
theorem candO_fine (g : List UInt8 → Int) (s : ByteArray) : (candO g s).r.fine := by
  unfold candO
  simp only []
  split
  · exact recF_fine _
  · exact rc_zero_fine

set_option maxRecDepth 20000 in
set_option maxHeartbeats 8000000 in
theorem tparse_calls (s : ByteArray) (w : World) (hs : s.size ≤ 90000) (hg : Glob w) : Calls Tryz.prog 16 #[.string s] w fun x w' => x = .returned (.tuple #[(parF s).1.val, .int .i64 (parF s).2]) ∧ Frm M0 w w' := by
  obtain ⟨R, HR⟩ : ∃ R, Hid (parF s = R) := ⟨_, rfl⟩
  rw [HR.out]
  have HG := hid hg
  have HS := hid hs
  clear hg hs
  go_enter Tryz.func16, Tryz.ntmps16
  go_wp2_with fail
  refine (twords_calls s _ (by have := HS.out; omega) (HG.out.frm ((Frm.refl M0 w).alloc _))).mono ?_
  rintro _ w1 ⟨b, rfl, hb, hr, hf⟩
  obtain ⟨r0, hr0⟩ : ∃ x, x = w.heap.size := ⟨_, rfl⟩
  have hsz : (w.alloc (.cells #[.int .i64 0, .int .i64 0, .int .i64 0, .int .i64 0, .int .i64 0, .int .i64 0, .int .i64 0, .string ⟨#[]⟩, .int .i64 0, .int .i64 0, .int .i64 0, .int .i64 0, .int .i64 0, .int .i64 0, .int .i64 0, .int .i64 0, .int .i64 0, .int .i64 0, .int .i64 0, .int .i64 0, .int .i64 0, .int .i64 0, .int .i64 0, .int .i64 0, .int .i64 0, .int .i64 0] 35)).heap.size = w.heap.size + 1 := by simp
  rw [hsz] at hb
  have S1 : Hid (Sb (fun j => j = b) w1 fun x => x.heap[r0]? = some (.cells #[.int .i64 0, .int .i64 0, .int .i64 0, .int .i64 0, .int .i64 0, .int .i64 0, .int .i64 0, .string ⟨#[]⟩, .int .i64 0, .int .i64 0, .int .i64 0, .int .i64 0, .int .i64 0, .int .i64 0, .int .i64 0, .int .i64 0, .int .i64 0, .int .i64 0, .int .i64 0, .int .i64 0, .int .i64 0, .int .i64 0, .int .i64 0, .int .i64 0, .int .i64 0, .int .i64 0] 35 (0, 0)) ∧ Frm M0 w x) :=
    hid fun wx hx => by
      have hF : Frm M0 w wx := (((Frm.refl M0 w).alloc _).then0 hf).trans hx (fun j hj e => by have : j = b := e; omega)
      exact ⟨hx.heap (hr0 ▸ hf.heap (new1 w _) (fun h => h)) (by omega), hF⟩
  rw [← hr0]
  obtain ⟨L, hL⟩ : ∃ x, x = splitS s := ⟨_, rfl⟩
  obtain ⟨W, hW⟩ : ∃ x, x = splitL s.data.toList := ⟨_, rfl⟩
  have hLW : L.map (·.data.toList) = splitL s.data.toList := by rw [hL]; exact splitS_list s
  have HFW := hid (few_of (by have := HS.out; omega) hLW)
  rw [← hW] at hLW
  have HL := hid hLW
  have HW := hid hW
  rw [← hL] at hr
  obtain ⟨B1, hB1⟩ : ∃ x, x = w1.heap.size := ⟨_, rfl⟩
  rw [← hB1] at hr
  have HB := hid (And.intro hr0 (And.intro hb hB1))
  have HD1 : Hid (RdrAt w1 b B1 (L.drop 0)) := hid hr
  clear hL hW hLW hr hf hsz hr0 hb hB1
  go_wp2_with fail
  refine (did_calls _).mono ?_
  rintro _ w2 ⟨bk, hbk, rfl, hrk, hf⟩
  have S2 := hid (S1.out.step hf)
  have HD2 := hid (HD1.out.frm0 hf)
  have HK2 := hid hrk
  have HBK : Hid (bk ≠ b) := hid (by
    obtain ⟨v, _, _, h3, _⟩ := HD1.out
    have := HB.out.2.2
    omega)
  have HZ2 : Hid (B1 ≤ w2.heap.size) := hid (by have := hf.size; have := HB.out.2.2; omega)
  clear hbk hrk hf S1 HD1
  go_wp2_with fail
  refine (word1_calls b B1 L 0 _ HD2.out).mono ?_
  rintro _ w3 ⟨rfl, hr, hf⟩
  have S3 := hid (S2.out.stepX hf)
  have HD3 := hid hr
  have HK3 := hid (HK2.out.frm hf (fun j hj e => HBK.out ((Option.some.inj hj).trans e)))
  have HZ3 : Hid (B1 ≤ w3.heap.size) := hid (Nat.le_trans HZ2.out hf.size)
  clear hr hf S2 HD2 HK2 HZ2
  obtain ⟨x0, hx0⟩ : ∃ x, x = L.getD 0 ⟨#[]⟩ := ⟨_, rfl⟩
  have HX0 : Hid (x0.data.toList = wd W 0) := hid (by rw [hx0, wd_of HL.out])
  rw [← hx0]
  clear hx0
  go_wp2_with fail
  refine (sindex_calls _ didL x0 _ HK3.out (by decide)).mono ?_
  rintro _ w3' ⟨rfl, rfl⟩
  clear HK3
  obtain ⟨k0, hk0⟩ : ∃ k, k = Lib.idxOfS didL x0 := ⟨_, rfl⟩
  have HK0 : Hid (didF (wd W 0) = k0) := hid (by rw [hk0, ← HX0.out]; unfold didF; rw [str_data])
  rw [← hk0]
  clear hk0
  obtain ⟨bm, hbm⟩ : ∃ x, x = w3.heap.size := ⟨_, rfl⟩
  have HN0 := hid (new1 w3 (.cells #[.int .i64 0, .int .i64 0, .int .i64 0, .int .i64 0, .int .i64 0, .int .i64 0, .int .i64 0, .string ⟨#[]⟩, .int .i64 0, .int .i64 0, .int .i64 0, .int .i64 0, .int .i64 0, .int .i64 0, .int .i64 0, .int .i64 0, .int .i64 0, .int .i64 0, .int .i64 0, .int .i64 0, .int .i64 0, .int .i64 0, .int .i64 0, .int .i64 0, .int .i64 0, .int .i64 0] 35))
  go_upto_region 3 with (refine wpList_store_row rfl 35 (.tmp 5) (.tmp 13) (by with_reducible rfl) w3.heap.size #[.int .i64 k0, .int .i64 0, .int .i64 0, .int .i64 0, .int .i64 0, .int .i64 0, .int .i64 0, .string ⟨#[]⟩, .int .i64 0, .int .i64 0, .int .i64 0, .int .i64 0, .int .i64 0, .int .i64 0, .int .i64 0, .int .i64 0, .int .i64 0, .int .i64 0, .int .i64 0, .int .i64 0, .int .i64 0, .int .i64 0, .int .i64 0, .int .i64 0, .int .i64 0, .int .i64 0] (by kernel_rfl) (by kernel_rfl) _ _ HN0.out (by kernel_rfl) (by rfl) (by simp [Value.oneCell']) ?_)
  have hM4 := setRow_heap _ w3.heap.size _ #[.int .i64 k0, .int .i64 0, .int .i64 0, .int .i64 0, .int .i64 0, .int .i64 0, .int .i64 0, .string ⟨#[]⟩, .int .i64 0, .int .i64 0, .int .i64 0, .int .i64 0, .int .i64 0, .int .i64 0, .int .i64 0, .int .i64 0, .int .i64 0, .int .i64 0, .int .i64 0, .int .i64 0, .int .i64 0, .int .i64 0, .int .i64 0, .int .i64 0, .int .i64 0, .int .i64 0] _ _ HN0.out
  have hf4 : Frm M0 w3 ((w3.alloc (.cells #[.int .i64 0, .int .i64 0, .int .i64 0, .int .i64 0, .int .i64 0, .int .i64 0, .int .i64 0, .string ⟨#[]⟩, .int .i64 0, .int .i64 0, .int .i64 0, .int .i64 0, .int .i64 0, .int .i64 0, .int .i64 0, .int .i64 0, .int .i64 0, .int .i64 0, .int .i64 0, .int .i64 0, .int .i64 0, .int .i64 0, .int .i64 0, .int .i64 0, .int .i64 0, .int .i64 0] 35)).setRow w3.heap.size #[.int .i64 k0, .int .i64 0, .int .i64 0, .int .i64 0, .int .i64 0, .int .i64 0, .int .i64 0, .string ⟨#[]⟩, .int .i64 0, .int .i64 0, .int .i64 0, .int .i64 0, .int .i64 0, .int .i64 0, .int .i64 0, .int .i64 0, .int .i64 0, .int .i64 0, .int .i64 0, .int .i64 0, .int .i64 0, .int .i64 0, .int .i64 0, .int .i64 0, .int .i64 0, .int .i64 0]) := ((Frm.refl M0 w3).alloc _).setRow _ _ (Nat.le_refl _)
  obtain ⟨w4, hw4⟩ : ∃ x, x = (w3.alloc (.cells #[.int .i64 0, .int .i64 0, .int .i64 0, .int .i64 0, .int .i64 0, .int .i64 0, .int .i64 0, .string ⟨#[]⟩, .int .i64 0, .int .i64 0, .int .i64 0, .int .i64 0, .int .i64 0, .int .i64 0, .int .i64 0, .int .i64 0, .int .i64 0, .int .i64 0, .int .i64 0, .int .i64 0, .int .i64 0, .int .i64 0, .int .i64 0, .int .i64 0, .int .i64 0, .int .i64 0] 35)).setRow w3.heap.size #[.int .i64 k0, .int .i64 0, .int .i64 0, .int .i64 0, .int .i64 0, .int .i64 0, .int .i64 0, .string ⟨#[]⟩, .int .i64 0, .int .i64 0, .int .i64 0, .int .i64 0, .int .i64 0, .int .i64 0, .int .i64 0, .int .i64 0, .int .i64 0, .int .i64 0, .int .i64 0, .int .i64 0, .int .i64 0, .int .i64 0, .int .i64 0, .int .i64 0, .int .i64 0, .int .i64 0] := ⟨_, rfl⟩
  rw [← hw4] at hM4 hf4 ⊢
  rw [← hbm] at hM4 ⊢
  have HD4 := hid (HD3.out.frm0 hf4)
  have HM4 := hid hM4
  have HZ4 : Hid (B1 ≤ bm ∧ bm < w4.heap.size) := hid ⟨by have := HZ3.out; omega, sb_lt hM4⟩
  have HNB : Hid (bm ≠ b) := hid (by
    obtain ⟨v, _, _, h3, _⟩ := HD4.out
    have := HZ4.out
    omega)
  have S4 : Hid (Sb (fun j => j = b ∨ j = bm) w4 fun x => x.heap[r0]? = some (.cells #[.int .i64 0, .int .i64 0, .int .i64 0, .int .i64 0, .int .i64 0, .int .i64 0, .int .i64 0, .string ⟨#[]⟩, .int .i64 0, .int .i64 0, .int .i64 0, .int .i64 0, .int .i64 0, .int .i64 0, .int .i64 0, .int .i64 0, .int .i64 0, .int .i64 0, .int .i64 0, .int .i64 0, .int .i64 0, .int .i64 0, .int .i64 0, .int .i64 0, .int .i64 0, .int .i64 0] 35 (0, 0)) ∧ Frm M0 w x) := hid fun wx hx => by
    have h4 := (S3.out.step hf4).now
    have hBB := HB.out
    have hZZ := HZ4.out
    obtain ⟨v, _, _, h3, _⟩ := HD4.out
    have hF : Frm M0 w wx := h4.2.trans hx (fun j hj e => by rcases e with e | e <;> omega)
    exact ⟨hx.heap h4.1 (by omega), hF⟩
  clear hw4 hM4 hf4 hbm HN0 S3 HD3 HZ3
  go_wp2_with fail
  refine (word1_calls b B1 L 1 _ HD4.out).mono ?_
  rintro _ w5 ⟨rfl, hr, hf⟩
  have S5 := hid (S4.out.stepX (hf.mono (fun j hj e => .inl e)))
  have HD5 := hid hr
  have HM5 := hid (hf.heap HM4.out (fun e => HNB.out e))
  clear hr hf S4 HD4 HM4
  obtain ⟨x1, hx1⟩ : ∃ x, x = L.getD 1 ⟨#[]⟩ := ⟨_, rfl⟩
  have HX1 : Hid (str (wd W 1) = x1) := hid (by rw [hx1, wd_of HL.out, str_data])
  rw [← hx1]
  clear hx1
  go_wp2_with fail
  refine (errno_calls x1 _).mono ?_
  rintro _ w6 ⟨rfl, hf⟩
  have S6 := hid (S5.out.step hf)
  have HD6 := hid (HD5.out.frm0 hf)
  have HM6 := hid (hf.heap HM5.out (fun h => h))
  obtain ⟨e0, he0⟩ : ∃ e, e = (errnoF x1).1 := ⟨_, rfl⟩
  obtain ⟨e9, he9⟩ : ∃ e, e = (errnoF x1).2 := ⟨_, rfl⟩
  have HE0 : Hid ((errnoF (str (wd W 1))).1 = e0) := hid (by rw [HX1.out, he0])
  rw [← he0, ← he9]
  clear hf he0 he9 S5 HD5 HM5
  have c1 : w6.cell? ⟨bm, 1, none⟩ = some (.int .i64 0) := sb_cell HM6.out 1
  have z1 : w6.frozen? ⟨bm, 1, none⟩ = false := sb_free HM6.out 1
  go_upto_region 4 with fail
  have HM7 : Hid ((w6.setCell ⟨bm, 1, none⟩ (.int .i64 e0)).heap[bm]? = some (.cells #[.int .i64 k0, .int .i64 e0, .int .i64 0, .int .i64 0, .int .i64 0, .int .i64 0, .int .i64 0, .string ⟨#[]⟩, .int .i64 0, .int .i64 0, .int .i64 0, .int .i64 0, .int .i64 0, .int .i64 0, .int .i64 0, .int .i64 0, .int .i64 0, .int .i64 0, .int .i64 0, .int .i64 0, .int .i64 0, .int .i64 0, .int .i64 0, .int .i64 0, .int .i64 0, .int .i64 0] 35 (0, 0))) := hid (heap_set_at (o := 1) HM6.out (.int .i64 e0))
  have S7 := hid (S6.out.put bm 1 (.int .i64 e0) (.inr rfl))
  have HD7 := hid (HD6.out.frm ((Frm.refl (fun j => j = bm) w6).put bm 1 (.int .i64 e0) (fun _ => rfl)) (fun j hj e => by have h1 : j = bm := e; have := HZ4.out; omega))
  obtain ⟨w7, hw7⟩ : ∃ x, x = w6.setCell ⟨bm, 1, none⟩ (.int .i64 e0) := ⟨_, rfl⟩
  rw [← hw7] at HM7 S7 HD7 ⊢
  clear hw7 c1 z1 S6 HD6 HM6
  obtain ⟨t, ht⟩ : ∃ t, t = restS W 2 := ⟨_, rfl⟩
  have HRT := (trest_calls b B1 (L.drop 2) w7 HD7.out (by rw [List.length_drop]; have := HFW.out.len; omega) (fun x hx => HFW.out.sz x (List.mem_of_mem_drop hx)))
  rw [rest_of HL.out 2, ← ht] at HRT
  have HRT := hid HRT
  have HTS : Hid (t.size ≤ 90000) := hid (by rw [ht, HW.out]; exact Nat.le_trans (rest_size s 2 (by omega)) HS.out)
  have HCA : Hid (candO didF s = ⟨k0, e0, if k0 = 1 then (recF t).1 else Rc.zero, if k0 = 2 ∨ k0 = 3 then (msgF t).1 else Mg.zero⟩) := hid (by
    unfold candO
    rw [← HW.out, HK0.out, HE0.out, ← ht])
  have HFIN : Hid ((candO didF s).r.fine) := hid (candO_fine didF s)
  have c00 : w7.cell? ⟨bm, 0, none⟩ = some (.int .i64 k0) := sb_cell HM7.out 0
  clear ht HD7 HK0 HE0 HX0 HX1 HL HW
  by_cases h1 : k0 = 1
  · have hb1 : (k0 == 1) = true := by simp [h1]
    have HC1 : Hid (candO didF s = ⟨k0, e0, (recF t).1, Mg.zero⟩) := hid (by rw [HCA.out, if_pos h1, if_neg (by omega)])
    clear h1
    go_wp2_with fail
    refine HRT.out.mono ?_
    rintro _ w8 ⟨rfl, hf⟩
    have S8 := hid (S7.out.step hf)
    have HM8 := hid (hf.heap HM7.out (fun h => h))
    clear hf S7 HM7 c00 HRT
    go_wp2_with fail
    refine (trecord_calls t _ HTS.out (HG.out.frm S8.out.now.2)).mono ?_
    rintro _ w9 ⟨rfl, hf⟩
    have S9 := hid (S8.out.step hf)
    have HM9 := hid (hf.heap HM8.out (fun h => h))
    clear hf S8 HM8 hb1
    obtain ⟨r, hr⟩ : ∃ r, r = (recF t).1 := ⟨_, rfl⟩
    obtain ⟨q2, hq2⟩ : ∃ q, q = (recF t).2 := ⟨_, rfl⟩
    have HCQ : Hid (candO didF s = ⟨k0, e0, r, Mg.zero⟩) := hid (by rw [HC1.out, hr])
    have HVR : Hid (r.val = .agg #[.int .i64 r.k, .int .i64 r.e, .int .i64 r.w, .int .i64 r.n, .int .i64 r.q, .string r.t, .int .i64 r.p.s0, .int .i64 r.p.s1, .int .i64 r.p.s2, .int .i64 r.p.s3, .int .i64 r.p.s4, .int .i64 r.p.s5, .int .i64 r.p.s6, .int .i64 r.p.s7, .int .i64 r.p.s8, .int .i64 r.p.s9, .int .i64 r.p.s10, .int .i64 r.p.s11]) := rfl
    rw [← hr, ← hq2, HVR.out]
    clear hr hq2 HC1
    go_upto_region 10 with (refine wpList_store_at (by kernel_rfl) 27 (.tmp 31) (.tmp 29) (by with_reducible rfl) bm 2 (by kernel_rfl) #[.int .i64 r.k, .int .i64 r.e, .int .i64 r.w, .int .i64 r.n, .int .i64 r.q, .string r.t, .int .i64 r.p.s0, .int .i64 r.p.s1, .int .i64 r.p.s2, .int .i64 r.p.s3, .int .i64 r.p.s4, .int .i64 r.p.s5, .int .i64 r.p.s6, .int .i64 r.p.s7, .int .i64 r.p.s8, .int .i64 r.p.s9, .int .i64 r.p.s10, .int .i64 r.p.s11] (by kernel_rfl) _ _ HM9.out (by kernel_rfl) (by simp) (by simp [Value.oneCell']) ?_; intro w10 hh hp; have HM10 : Hid (w10.heap[bm]? = some (.cells #[.int .i64 k0, .int .i64 e0, .int .i64 r.k, .int .i64 r.e, .int .i64 r.w, .int .i64 r.n, .int .i64 r.q, .string r.t, .int .i64 r.p.s0, .int .i64 r.p.s1, .int .i64 r.p.s2, .int .i64 r.p.s3, .int .i64 r.p.s4, .int .i64 r.p.s5, .int .i64 r.p.s6, .int .i64 r.p.s7, .int .i64 r.p.s8, .int .i64 r.p.s9, .int .i64 r.p.s10, .int .i64 r.p.s11, .int .i64 0, .int .i64 0, .int .i64 0, .int .i64 0, .int .i64 0, .int .i64 0] 35 (0, 0))) := putL_heap hh (by kernel_rfl); have HP10 := hid hp; clear hh hp)
    have S10 := hid (S9.out.stepX (HP10.out.mono (fun j hj e => .inr e)))
    clear HP10 S9 HM9
    obtain ⟨c, HC⟩ : ∃ c, Hid (candO didF s = c) := ⟨_, rfl⟩
    have hcc : c = ⟨k0, e0, r, Mg.zero⟩ := by rw [← HC.out, HCQ.out]
    have HMC : Hid (w10.heap[bm]? = some (.cells #[.int .i64 c.d, .int .i64 c.e, .int .i64 c.r.k, .int .i64 c.r.e, .int .i64 c.r.w, .int .i64 c.r.n, .int .i64 c.r.q, .string c.r.t, .int .i64 c.r.p.s0, .int .i64 c.r.p.s1, .int .i64 c.r.p.s2, .int .i64 c.r.p.s3, .int .i64 c.r.p.s4, .int .i64 c.r.p.s5, .int .i64 c.r.p.s6, .int .i64 c.r.p.s7, .int .i64 c.r.p.s8, .int .i64 c.r.p.s9, .int .i64 c.r.p.s10, .int .i64 c.r.p.s11, .int .i64 c.m.k, .int .i64 c.m.e, .int .i64 c.m.s, .int .i64 c.m.u, .int .i64 c.m.v, .int .i64 c.m.t] 35 (0, 0))) := hid (by rw [hcc]; exact HM10.out)
    have HV : Hid (c.val = .agg #[.int .i64 c.d, .int .i64 c.e, .int .i64 c.r.k, .int .i64 c.r.e, .int .i64 c.r.w, .int .i64 c.r.n, .int .i64 c.r.q, .string c.r.t, .int .i64 c.r.p.s0, .int .i64 c.r.p.s1, .int .i64 c.r.p.s2, .int .i64 c.r.p.s3, .int .i64 c.r.p.s4, .int .i64 c.r.p.s5, .int .i64 c.r.p.s6, .int .i64 c.r.p.s7, .int .i64 c.r.p.s8, .int .i64 c.r.p.s9, .int .i64 c.r.p.s10, .int .i64 c.r.p.s11, .int .i64 c.m.k, .int .i64 c.m.e, .int .i64 c.m.s, .int .i64 c.m.u, .int .i64 c.m.v, .int .i64 c.m.t]) := rfl
    have HFI : Hid c.r.fine := hid (by rw [← HC.out]; exact HFIN.out)
    obtain ⟨y, HY⟩ : ∃ y, Hid (lineS c = y) := ⟨_, rfl⟩
    have HRR : Hid (R = if accB y s = true then (c, 0) else (Ot.zero, 2)) := hid (by rw [← HR.out, ← HY.out, ← HC.out]; rfl)
    clear hcc HM10 HCQ HC HFIN
    go_wp2_with (refine wpList_load_row_w (by kernel_rfl) 35 (.tmp 5) (by with_reducible rfl) bm (by kernel_rfl) _ _ _ _ HMC.out Tryz.underlying35 rfl (by kernel_rfl) ?_)
    rw [← HV.out]
    refine (tline_calls c _ (HG.out.frm S10.out.now.2).tab HFI.out).mono ?_
    rintro _ w11 ⟨rfl, hf⟩
    rw [HY.out]
    have S11 := hid (S10.out.step hf)
    have HM11 := hid (hf.heap HMC.out (fun h => h))
    clear hf S10 HMC
    by_cases hE : y.toList.isEmpty = true
    · have HRZ : Hid (R = (Ot.zero, 2)) := hid (by rw [HRR.out, if_neg (by rw [accB_iff]; intro h; rw [h.1] at hE; cases hE)])
      go_wp2_with (refine wpList_store_row rfl 35 (.tmp 2) (.tmp 51) (by with_reducible rfl) r0 #[.int .i64 0, .int .i64 0, .int .i64 0, .int .i64 0, .int .i64 0, .int .i64 0, .int .i64 0, .string ⟨#[]⟩, .int .i64 0, .int .i64 0, .int .i64 0, .int .i64 0, .int .i64 0, .int .i64 0, .int .i64 0, .int .i64 0, .int .i64 0, .int .i64 0, .int .i64 0, .int .i64 0, .int .i64 0, .int .i64 0, .int .i64 0, .int .i64 0, .int .i64 0, .int .i64 0] (by kernel_rfl) (by kernel_rfl) _ _ S11.out.now.1 (by kernel_rfl) (by rfl) (by simp [Value.oneCell']) ?_)
      refine bodyPost_ret (results_cell_slot (by rfl) _ _ r0 _ _ _ _ _ rfl rfl (setRow_heap _ _ _ _ _ _ S11.out.now.1) Tryz.underlying35 rfl (by kernel_rfl)) rfl ⟨by rw [HRZ.out]; rfl, S11.out.now.2.setRow _ _ (by have := HB.out; omega)⟩
    · have hE' : y.toList.isEmpty = false := by simpa using hE
      by_cases hq : y = s
      · have HRZ : Hid (R = (c, 0)) := hid (by rw [HRR.out, if_pos (accB_iff.2 ⟨hE', hq⟩)])
        have hq' : (y.toList == s.toList) = true := by rw [hq]; simp
        clear hE hq
        go_wp2_with (first | (refine wpList_load_row_w (by kernel_rfl) 35 (.tmp 5) (by with_reducible rfl) bm (by kernel_rfl) _ _ _ _ HM11.out Tryz.underlying35 rfl (by kernel_rfl) ?_) | (refine wpList_store_row rfl 35 (.tmp 2) (.tmp 52) (by with_reducible rfl) r0 #[.int .i64 c.d, .int .i64 c.e, .int .i64 c.r.k, .int .i64 c.r.e, .int .i64 c.r.w, .int .i64 c.r.n, .int .i64 c.r.q, .string c.r.t, .int .i64 c.r.p.s0, .int .i64 c.r.p.s1, .int .i64 c.r.p.s2, .int .i64 c.r.p.s3, .int .i64 c.r.p.s4, .int .i64 c.r.p.s5, .int .i64 c.r.p.s6, .int .i64 c.r.p.s7, .int .i64 c.r.p.s8, .int .i64 c.r.p.s9, .int .i64 c.r.p.s10, .int .i64 c.r.p.s11, .int .i64 c.m.k, .int .i64 c.m.e, .int .i64 c.m.s, .int .i64 c.m.u, .int .i64 c.m.v, .int .i64 c.m.t] (by kernel_rfl) (by kernel_rfl) _ _ S11.out.now.1 (by kernel_rfl) (by rfl) (by simp [Value.oneCell']) ?_))
        refine bodyPost_ret (results_cell_slot (by rfl) _ _ r0 _ _ _ _ _ rfl rfl (setRow_heap _ _ _ _ _ _ S11.out.now.1) Tryz.underlying35 rfl (by kernel_rfl)) rfl ⟨by rw [HRZ.out]; rfl, S11.out.now.2.setRow _ _ (by have := HB.out; omega)⟩
      · have HRZ : Hid (R = (Ot.zero, 2)) := hid (by rw [HRR.out, if_neg (by rw [accB_iff]; intro h; exact hq h.2)])
        have hq' : (y.toList == s.toList) = false := by
          rw [beq_eq_false_iff_ne]; intro h; exact hq ((Go.Lib.bytes_beq_iff y s).1 (by simp [h]))
        clear hE hq
        go_wp2_with (refine wpList_store_row rfl 35 (.tmp 2) (.tmp 51) (by with_reducible rfl) r0 #[.int .i64 0, .int .i64 0, .int .i64 0, .int .i64 0, .int .i64 0, .int .i64 0, .int .i64 0, .string ⟨#[]⟩, .int .i64 0, .int .i64 0, .int .i64 0, .int .i64 0, .int .i64 0, .int .i64 0, .int .i64 0, .int .i64 0, .int .i64 0, .int .i64 0, .int .i64 0, .int .i64 0, .int .i64 0, .int .i64 0, .int .i64 0, .int .i64 0, .int .i64 0, .int .i64 0] (by kernel_rfl) (by kernel_rfl) _ _ S11.out.now.1 (by kernel_rfl) (by rfl) (by simp [Value.oneCell']) ?_)
        refine bodyPost_ret (results_cell_slot (by rfl) _ _ r0 _ _ _ _ _ rfl rfl (setRow_heap _ _ _ _ _ _ S11.out.now.1) Tryz.underlying35 rfl (by kernel_rfl)) rfl ⟨by rw [HRZ.out]; rfl, S11.out.now.2.setRow _ _ (by have := HB.out; omega)⟩
  have hb1 : (k0 == 1) = false := by simp [h1]
  by_cases h2 : k0 = 2
  · have hb2 : (k0 == 2) = true := by simp [h2]
    have hb3 : (k0 == 3) = false := by simp [h2]
    have HC1 : Hid (candO didF s = ⟨k0, e0, Rc.zero, (msgF t).1⟩) := hid (by rw [HCA.out, if_neg h1, if_pos (by omega)])
    clear h1 h2
    go_wp2_with fail
    refine HRT.out.mono ?_
    rintro _ w8 ⟨rfl, hf⟩
    have S8 := hid (S7.out.step hf)
    have HM8 := hid (hf.heap HM7.out (fun h => h))
    clear hf S7 HM7 c00 HRT
    go_wp2_with fail
    refine (tmessage_calls t _ (by have := HTS.out; omega) (HG.out.frm S8.out.now.2)).mono ?_
    rintro _ w9 ⟨rfl, hf⟩
    have S9 := hid (S8.out.step hf)
    have HM9 := hid (hf.heap HM8.out (fun h => h))
    clear hf S8 HM8 hb1 hb2 hb3
    obtain ⟨m, hm⟩ : ∃ m, m = (msgF t).1 := ⟨_, rfl⟩
    obtain ⟨q2, hq2⟩ : ∃ q, q = (msgF t).2 := ⟨_, rfl⟩
    have HCQ : Hid (candO didF s = ⟨k0, e0, Rc.zero, m⟩) := hid (by rw [HC1.out, hm])
    have HVM : Hid (m.val = .agg #[.int .i64 m.k, .int .i64 m.e, .int .i64 m.s, .int .i64 m.u, .int .i64 m.v, .int .i64 m.t]) := rfl
    rw [← hm, ← hq2, HVM.out]
    clear hm hq2 HC1
    go_upto_region 10 with (refine wpList_store_at (by kernel_rfl) 29 (.tmp 41) (.tmp 39) (by with_reducible rfl) bm 20 (by kernel_rfl) #[.int .i64 m.k, .int .i64 m.e, .int .i64 m.s, .int .i64 m.u, .int .i64 m.v, .int .i64 m.t] (by kernel_rfl) _ _ HM9.out (by kernel_rfl) (by simp) (by simp [Value.oneCell']) ?_; intro w10 hh hp; have HM10 : Hid (w10.heap[bm]? = some (.cells #[.int .i64 k0, .int .i64 e0, .int .i64 0, .int .i64 0, .int .i64 0, .int .i64 0, .int .i64 0, .string ⟨#[]⟩, .int .i64 0, .int .i64 0, .int .i64 0, .int .i64 0, .int .i64 0, .int .i64 0, .int .i64 0, .int .i64 0, .int .i64 0, .int .i64 0, .int .i64 0, .int .i64 0, .int .i64 m.k, .int .i64 m.e, .int .i64 m.s, .int .i64 m.u, .int .i64 m.v, .int .i64 m.t] 35 (0, 0))) := putL_heap hh (by kernel_rfl); have HP10 := hid hp; clear hh hp)
    have S10 := hid (S9.out.stepX (HP10.out.mono (fun j hj e => .inr e)))
    clear HP10 S9 HM9
    obtain ⟨c, HC⟩ : ∃ c, Hid (candO didF s = c) := ⟨_, rfl⟩
    have hcc : c = ⟨k0, e0, Rc.zero, m⟩ := by rw [← HC.out, HCQ.out]
    have HMC : Hid (w10.heap[bm]? = some (.cells #[.int .i64 c.d, .int .i64 c.e, .int .i64 c.r.k, .int .i64 c.r.e, .int .i64 c.r.w, .int .i64 c.r.n, .int .i64 c.r.q, .string c.r.t, .int .i64 c.r.p.s0, .int .i64 c.r.p.s1, .int .i64 c.r.p.s2, .int .i64 c.r.p.s3, .int .i64 c.r.p.s4, .int .i64 c.r.p.s5, .int .i64 c.r.p.s6, .int .i64 c.r.p.s7, .int .i64 c.r.p.s8, .int .i64 c.r.p.s9, .int .i64 c.r.p.s10, .int .i64 c.r.p.s11, .int .i64 c.m.k, .int .i64 c.m.e, .int .i64 c.m.s, .int .i64 c.m.u, .int .i64 c.m.v, .int .i64 c.m.t] 35 (0, 0))) := hid (by rw [hcc]; exact HM10.out)
    have HV : Hid (c.val = .agg #[.int .i64 c.d, .int .i64 c.e, .int .i64 c.r.k, .int .i64 c.r.e, .int .i64 c.r.w, .int .i64 c.r.n, .int .i64 c.r.q, .string c.r.t, .int .i64 c.r.p.s0, .int .i64 c.r.p.s1, .int .i64 c.r.p.s2, .int .i64 c.r.p.s3, .int .i64 c.r.p.s4, .int .i64 c.r.p.s5, .int .i64 c.r.p.s6, .int .i64 c.r.p.s7, .int .i64 c.r.p.s8, .int .i64 c.r.p.s9, .int .i64 c.r.p.s10, .int .i64 c.r.p.s11, .int .i64 c.m.k, .int .i64 c.m.e, .int .i64 c.m.s, .int .i64 c.m.u, .int .i64 c.m.v, .int .i64 c.m.t]) := rfl
    have HFI : Hid c.r.fine := hid (by rw [← HC.out]; exact HFIN.out)
    obtain ⟨y, HY⟩ : ∃ y, Hid (lineS c = y) := ⟨_, rfl⟩
    have HRR : Hid (R = if accB y s = true then (c, 0) else (Ot.zero, 2)) := hid (by rw [← HR.out, ← HY.out, ← HC.out]; rfl)
    clear hcc HM10 HCQ HC HFIN
    go_wp2_with (refine wpList_load_row_w (by kernel_rfl) 35 (.tmp 5) (by with_reducible rfl) bm (by kernel_rfl) _ _ _ _ HMC.out Tryz.underlying35 rfl (by kernel_rfl) ?_)
    rw [← HV.out]
    refine (tline_calls c _ (HG.out.frm S10.out.now.2).tab HFI.out).mono ?_
    rintro _ w11 ⟨rfl, hf⟩
    rw [HY.out]
    have S11 := hid (S10.out.step hf)
    have HM11 := hid (hf.heap HMC.out (fun h => h))
    clear hf S10 HMC
    by_cases hE : y.toList.isEmpty = true
    · have HRZ : Hid (R = (Ot.zero, 2)) := hid (by rw [HRR.out, if_neg (by rw [accB_iff]; intro h; rw [h.1] at hE; cases hE)])
      go_wp2_with (refine wpList_store_row rfl 35 (.tmp 2) (.tmp 51) (by with_reducible rfl) r0 #[.int .i64 0, .int .i64 0, .int .i64 0, .int .i64 0, .int .i64 0, .int .i64 0, .int .i64 0, .string ⟨#[]⟩, .int .i64 0, .int .i64 0, .int .i64 0, .int .i64 0, .int .i64 0, .int .i64 0, .int .i64 0, .int .i64 0, .int .i64 0, .int .i64 0, .int .i64 0, .int .i64 0, .int .i64 0, .int .i64 0, .int .i64 0, .int .i64 0, .int .i64 0, .int .i64 0] (by kernel_rfl) (by kernel_rfl) _ _ S11.out.now.1 (by kernel_rfl) (by rfl) (by simp [Value.oneCell']) ?_)
      refine bodyPost_ret (results_cell_slot (by rfl) _ _ r0 _ _ _ _ _ rfl rfl (setRow_heap _ _ _ _ _ _ S11.out.now.1) Tryz.underlying35 rfl (by kernel_rfl)) rfl ⟨by rw [HRZ.out]; rfl, S11.out.now.2.setRow _ _ (by have := HB.out; omega)⟩
    · have hE' : y.toList.isEmpty = false := by simpa using hE
      by_cases hq : y = s
      · have HRZ : Hid (R = (c, 0)) := hid (by rw [HRR.out, if_pos (accB_iff.2 ⟨hE', hq⟩)])
        have hq' : (y.toList == s.toList) = true := by rw [hq]; simp
        clear hE hq
        go_wp2_with (first | (refine wpList_load_row_w (by kernel_rfl) 35 (.tmp 5) (by with_reducible rfl) bm (by kernel_rfl) _ _ _ _ HM11.out Tryz.underlying35 rfl (by kernel_rfl) ?_) | (refine wpList_store_row rfl 35 (.tmp 2) (.tmp 52) (by with_reducible rfl) r0 #[.int .i64 c.d, .int .i64 c.e, .int .i64 c.r.k, .int .i64 c.r.e, .int .i64 c.r.w, .int .i64 c.r.n, .int .i64 c.r.q, .string c.r.t, .int .i64 c.r.p.s0, .int .i64 c.r.p.s1, .int .i64 c.r.p.s2, .int .i64 c.r.p.s3, .int .i64 c.r.p.s4, .int .i64 c.r.p.s5, .int .i64 c.r.p.s6, .int .i64 c.r.p.s7, .int .i64 c.r.p.s8, .int .i64 c.r.p.s9, .int .i64 c.r.p.s10, .int .i64 c.r.p.s11, .int .i64 c.m.k, .int .i64 c.m.e, .int .i64 c.m.s, .int .i64 c.m.u, .int .i64 c.m.v, .int .i64 c.m.t] (by kernel_rfl) (by kernel_rfl) _ _ S11.out.now.1 (by kernel_rfl) (by rfl) (by simp [Value.oneCell']) ?_))
        refine bodyPost_ret (results_cell_slot (by rfl) _ _ r0 _ _ _ _ _ rfl rfl (setRow_heap _ _ _ _ _ _ S11.out.now.1) Tryz.underlying35 rfl (by kernel_rfl)) rfl ⟨by rw [HRZ.out]; rfl, S11.out.now.2.setRow _ _ (by have := HB.out; omega)⟩
      · have HRZ : Hid (R = (Ot.zero, 2)) := hid (by rw [HRR.out, if_neg (by rw [accB_iff]; intro h; exact hq h.2)])
        have hq' : (y.toList == s.toList) = false := by
          rw [beq_eq_false_iff_ne]; intro h; exact hq ((Go.Lib.bytes_beq_iff y s).1 (by simp [h]))
        clear hE hq
        go_wp2_with (refine wpList_store_row rfl 35 (.tmp 2) (.tmp 51) (by with_reducible rfl) r0 #[.int .i64 0, .int .i64 0, .int .i64 0, .int .i64 0, .int .i64 0, .int .i64 0, .int .i64 0, .string ⟨#[]⟩, .int .i64 0, .int .i64 0, .int .i64 0, .int .i64 0, .int .i64 0, .int .i64 0, .int .i64 0, .int .i64 0, .int .i64 0, .int .i64 0, .int .i64 0, .int .i64 0, .int .i64 0, .int .i64 0, .int .i64 0, .int .i64 0, .int .i64 0, .int .i64 0] (by kernel_rfl) (by kernel_rfl) _ _ S11.out.now.1 (by kernel_rfl) (by rfl) (by simp [Value.oneCell']) ?_)
        refine bodyPost_ret (results_cell_slot (by rfl) _ _ r0 _ _ _ _ _ rfl rfl (setRow_heap _ _ _ _ _ _ S11.out.now.1) Tryz.underlying35 rfl (by kernel_rfl)) rfl ⟨by rw [HRZ.out]; rfl, S11.out.now.2.setRow _ _ (by have := HB.out; omega)⟩
  by_cases h3 : k0 = 3
  · have h2 := h3
    have hb2 : (k0 == 2) = false := by simp [h2]
    have hb3 : (k0 == 3) = true := by simp [h2]
    have HC1 : Hid (candO didF s = ⟨k0, e0, Rc.zero, (msgF t).1⟩) := hid (by rw [HCA.out, if_neg h1, if_pos (by omega)])
    clear h1 h2 h3
    go_wp2_with fail
    refine HRT.out.mono ?_
    rintro _ w8 ⟨rfl, hf⟩
    have S8 := hid (S7.out.step hf)
    have HM8 := hid (hf.heap HM7.out (fun h => h))
    clear hf S7 HM7 c00 HRT
    go_wp2_with fail
    refine (tmessage_calls t _ (by have := HTS.out; omega) (HG.out.frm S8.out.now.2)).mono ?_
    rintro _ w9 ⟨rfl, hf⟩
    have S9 := hid (S8.out.step hf)
    have HM9 := hid (hf.heap HM8.out (fun h => h))
    clear hf S8 HM8 hb1 hb2 hb3
    obtain ⟨m, hm⟩ : ∃ m, m = (msgF t).1 := ⟨_, rfl⟩
    obtain ⟨q2, hq2⟩ : ∃ q, q = (msgF t).2 := ⟨_, rfl⟩
    have HCQ : Hid (candO didF s = ⟨k0, e0, Rc.zero, m⟩) := hid (by rw [HC1.out, hm])
    have HVM : Hid (m.val = .agg #[.int .i64 m.k, .int .i64 m.e, .int .i64 m.s, .int .i64 m.u, .int .i64 m.v, .int .i64 m.t]) := rfl
    rw [← hm, ← hq2, HVM.out]
    clear hm hq2 HC1
    go_upto_region 10 with (refine wpList_store_at (by kernel_rfl) 29 (.tmp 41) (.tmp 39) (by with_reducible rfl) bm 20 (by kernel_rfl) #[.int .i64 m.k, .int .i64 m.e, .int .i64 m.s, .int .i64 m.u, .int .i64 m.v, .int .i64 m.t] (by kernel_rfl) _ _ HM9.out (by kernel_rfl) (by simp) (by simp [Value.oneCell']) ?_; intro w10 hh hp; have HM10 : Hid (w10.heap[bm]? = some (.cells #[.int .i64 k0, .int .i64 e0, .int .i64 0, .int .i64 0, .int .i64 0, .int .i64 0, .int .i64 0, .string ⟨#[]⟩, .int .i64 0, .int .i64 0, .int .i64 0, .int .i64 0, .int .i64 0, .int .i64 0, .int .i64 0, .int .i64 0, .int .i64 0, .int .i64 0, .int .i64 0, .int .i64 0, .int .i64 m.k, .int .i64 m.e, .int .i64 m.s, .int .i64 m.u, .int .i64 m.v, .int .i64 m.t] 35 (0, 0))) := putL_heap hh (by kernel_rfl); have HP10 := hid hp; clear hh hp)
    have S10 := hid (S9.out.stepX (HP10.out.mono (fun j hj e => .inr e)))
    clear HP10 S9 HM9
    obtain ⟨c, HC⟩ : ∃ c, Hid (candO didF s = c) := ⟨_, rfl⟩
    have hcc : c = ⟨k0, e0, Rc.zero, m⟩ := by rw [← HC.out, HCQ.out]
    have HMC : Hid (w10.heap[bm]? = some (.cells #[.int .i64 c.d, .int .i64 c.e, .int .i64 c.r.k, .int .i64 c.r.e, .int .i64 c.r.w, .int .i64 c.r.n, .int .i64 c.r.q, .string c.r.t, .int .i64 c.r.p.s0, .int .i64 c.r.p.s1, .int .i64 c.r.p.s2, .int .i64 c.r.p.s3, .int .i64 c.r.p.s4, .int .i64 c.r.p.s5, .int .i64 c.r.p.s6, .int .i64 c.r.p.s7, .int .i64 c.r.p.s8, .int .i64 c.r.p.s9, .int .i64 c.r.p.s10, .int .i64 c.r.p.s11, .int .i64 c.m.k, .int .i64 c.m.e, .int .i64 c.m.s, .int .i64 c.m.u, .int .i64 c.m.v, .int .i64 c.m.t] 35 (0, 0))) := hid (by rw [hcc]; exact HM10.out)
    have HV : Hid (c.val = .agg #[.int .i64 c.d, .int .i64 c.e, .int .i64 c.r.k, .int .i64 c.r.e, .int .i64 c.r.w, .int .i64 c.r.n, .int .i64 c.r.q, .string c.r.t, .int .i64 c.r.p.s0, .int .i64 c.r.p.s1, .int .i64 c.r.p.s2, .int .i64 c.r.p.s3, .int .i64 c.r.p.s4, .int .i64 c.r.p.s5, .int .i64 c.r.p.s6, .int .i64 c.r.p.s7, .int .i64 c.r.p.s8, .int .i64 c.r.p.s9, .int .i64 c.r.p.s10, .int .i64 c.r.p.s11, .int .i64 c.m.k, .int .i64 c.m.e, .int .i64 c.m.s, .int .i64 c.m.u, .int .i64 c.m.v, .int .i64 c.m.t]) := rfl
    have HFI : Hid c.r.fine := hid (by rw [← HC.out]; exact HFIN.out)
    obtain ⟨y, HY⟩ : ∃ y, Hid (lineS c = y) := ⟨_, rfl⟩
    have HRR : Hid (R = if accB y s = true then (c, 0) else (Ot.zero, 2)) := hid (by rw [← HR.out, ← HY.out, ← HC.out]; rfl)
    clear hcc HM10 HCQ HC HFIN
    go_wp2_with (refine wpList_load_row_w (by kernel_rfl) 35 (.tmp 5) (by with_reducible rfl) bm (by kernel_rfl) _ _ _ _ HMC.out Tryz.underlying35 rfl (by kernel_rfl) ?_)
    rw [← HV.out]
    refine (tline_calls c _ (HG.out.frm S10.out.now.2).tab HFI.out).mono ?_
    rintro _ w11 ⟨rfl, hf⟩
    rw [HY.out]
    have S11 := hid (S10.out.step hf)
    have HM11 := hid (hf.heap HMC.out (fun h => h))
    clear hf S10 HMC
    by_cases hE : y.toList.isEmpty = true
    · have HRZ : Hid (R = (Ot.zero, 2)) := hid (by rw [HRR.out, if_neg (by rw [accB_iff]; intro h; rw [h.1] at hE; cases hE)])
      go_wp2_with (refine wpList_store_row rfl 35 (.tmp 2) (.tmp 51) (by with_reducible rfl) r0 #[.int .i64 0, .int .i64 0, .int .i64 0, .int .i64 0, .int .i64 0, .int .i64 0, .int .i64 0, .string ⟨#[]⟩, .int .i64 0, .int .i64 0, .int .i64 0, .int .i64 0, .int .i64 0, .int .i64 0, .int .i64 0, .int .i64 0, .int .i64 0, .int .i64 0, .int .i64 0, .int .i64 0, .int .i64 0, .int .i64 0, .int .i64 0, .int .i64 0, .int .i64 0, .int .i64 0] (by kernel_rfl) (by kernel_rfl) _ _ S11.out.now.1 (by kernel_rfl) (by rfl) (by simp [Value.oneCell']) ?_)
      refine bodyPost_ret (results_cell_slot (by rfl) _ _ r0 _ _ _ _ _ rfl rfl (setRow_heap _ _ _ _ _ _ S11.out.now.1) Tryz.underlying35 rfl (by kernel_rfl)) rfl ⟨by rw [HRZ.out]; rfl, S11.out.now.2.setRow _ _ (by have := HB.out; omega)⟩
    · have hE' : y.toList.isEmpty = false := by simpa using hE
      by_cases hq : y = s
      · have HRZ : Hid (R = (c, 0)) := hid (by rw [HRR.out, if_pos (accB_iff.2 ⟨hE', hq⟩)])
        have hq' : (y.toList == s.toList) = true := by rw [hq]; simp
        clear hE hq
        go_wp2_with (first | (refine wpList_load_row_w (by kernel_rfl) 35 (.tmp 5) (by with_reducible rfl) bm (by kernel_rfl) _ _ _ _ HM11.out Tryz.underlying35 rfl (by kernel_rfl) ?_) | (refine wpList_store_row rfl 35 (.tmp 2) (.tmp 52) (by with_reducible rfl) r0 #[.int .i64 c.d, .int .i64 c.e, .int .i64 c.r.k, .int .i64 c.r.e, .int .i64 c.r.w, .int .i64 c.r.n, .int .i64 c.r.q, .string c.r.t, .int .i64 c.r.p.s0, .int .i64 c.r.p.s1, .int .i64 c.r.p.s2, .int .i64 c.r.p.s3, .int .i64 c.r.p.s4, .int .i64 c.r.p.s5, .int .i64 c.r.p.s6, .int .i64 c.r.p.s7, .int .i64 c.r.p.s8, .int .i64 c.r.p.s9, .int .i64 c.r.p.s10, .int .i64 c.r.p.s11, .int .i64 c.m.k, .int .i64 c.m.e, .int .i64 c.m.s, .int .i64 c.m.u, .int .i64 c.m.v, .int .i64 c.m.t] (by kernel_rfl) (by kernel_rfl) _ _ S11.out.now.1 (by kernel_rfl) (by rfl) (by simp [Value.oneCell']) ?_))
        refine bodyPost_ret (results_cell_slot (by rfl) _ _ r0 _ _ _ _ _ rfl rfl (setRow_heap _ _ _ _ _ _ S11.out.now.1) Tryz.underlying35 rfl (by kernel_rfl)) rfl ⟨by rw [HRZ.out]; rfl, S11.out.now.2.setRow _ _ (by have := HB.out; omega)⟩
      · have HRZ : Hid (R = (Ot.zero, 2)) := hid (by rw [HRR.out, if_neg (by rw [accB_iff]; intro h; exact hq h.2)])
        have hq' : (y.toList == s.toList) = false := by
          rw [beq_eq_false_iff_ne]; intro h; exact hq ((Go.Lib.bytes_beq_iff y s).1 (by simp [h]))
        clear hE hq
        go_wp2_with (refine wpList_store_row rfl 35 (.tmp 2) (.tmp 51) (by with_reducible rfl) r0 #[.int .i64 0, .int .i64 0, .int .i64 0, .int .i64 0, .int .i64 0, .int .i64 0, .int .i64 0, .string ⟨#[]⟩, .int .i64 0, .int .i64 0, .int .i64 0, .int .i64 0, .int .i64 0, .int .i64 0, .int .i64 0, .int .i64 0, .int .i64 0, .int .i64 0, .int .i64 0, .int .i64 0, .int .i64 0, .int .i64 0, .int .i64 0, .int .i64 0, .int .i64 0, .int .i64 0] (by kernel_rfl) (by kernel_rfl) _ _ S11.out.now.1 (by kernel_rfl) (by rfl) (by simp [Value.oneCell']) ?_)
        refine bodyPost_ret (results_cell_slot (by rfl) _ _ r0 _ _ _ _ _ rfl rfl (setRow_heap _ _ _ _ _ _ S11.out.now.1) Tryz.underlying35 rfl (by kernel_rfl)) rfl ⟨by rw [HRZ.out]; rfl, S11.out.now.2.setRow _ _ (by have := HB.out; omega)⟩
  · have hb2 : (k0 == 2) = false := by simp [h2]
    have hb3 : (k0 == 3) = false := by simp [h3]
    have HCQ : Hid (candO didF s = ⟨k0, e0, Rc.zero, Mg.zero⟩) := hid (by rw [HCA.out, if_neg h1, if_neg (by omega)])
    clear h1 h2 h3
    go_upto_region 10 with fail
    obtain ⟨w10, hw10⟩ : ∃ x, x = w7 := ⟨_, rfl⟩
    have HM10 := HM7
    have S10 := S7
    rw [← hw10] at HM10 S10 ⊢
    clear hw10 c00 HRT S7 HM7 hb1 hb2 hb3
    obtain ⟨c, HC⟩ : ∃ c, Hid (candO didF s = c) := ⟨_, rfl⟩
    have hcc : c = ⟨k0, e0, Rc.zero, Mg.zero⟩ := by rw [← HC.out, HCQ.out]
    have HMC : Hid (w10.heap[bm]? = some (.cells #[.int .i64 c.d, .int .i64 c.e, .int .i64 c.r.k, .int .i64 c.r.e, .int .i64 c.r.w, .int .i64 c.r.n, .int .i64 c.r.q, .string c.r.t, .int .i64 c.r.p.s0, .int .i64 c.r.p.s1, .int .i64 c.r.p.s2, .int .i64 c.r.p.s3, .int .i64 c.r.p.s4, .int .i64 c.r.p.s5, .int .i64 c.r.p.s6, .int .i64 c.r.p.s7, .int .i64 c.r.p.s8, .int .i64 c.r.p.s9, .int .i64 c.r.p.s10, .int .i64 c.r.p.s11, .int .i64 c.m.k, .int .i64 c.m.e, .int .i64 c.m.s, .int .i64 c.m.u, .int .i64 c.m.v, .int .i64 c.m.t] 35 (0, 0))) := hid (by rw [hcc]; exact HM10.out)
    have HV : Hid (c.val = .agg #[.int .i64 c.d, .int .i64 c.e, .int .i64 c.r.k, .int .i64 c.r.e, .int .i64 c.r.w, .int .i64 c.r.n, .int .i64 c.r.q, .string c.r.t, .int .i64 c.r.p.s0, .int .i64 c.r.p.s1, .int .i64 c.r.p.s2, .int .i64 c.r.p.s3, .int .i64 c.r.p.s4, .int .i64 c.r.p.s5, .int .i64 c.r.p.s6, .int .i64 c.r.p.s7, .int .i64 c.r.p.s8, .int .i64 c.r.p.s9, .int .i64 c.r.p.s10, .int .i64 c.r.p.s11, .int .i64 c.m.k, .int .i64 c.m.e, .int .i64 c.m.s, .int .i64 c.m.u, .int .i64 c.m.v, .int .i64 c.m.t]) := rfl
    have HFI : Hid c.r.fine := hid (by rw [← HC.out]; exact HFIN.out)
    obtain ⟨y, HY⟩ : ∃ y, Hid (lineS c = y) := ⟨_, rfl⟩
    have HRR : Hid (R = if accB y s = true then (c, 0) else (Ot.zero, 2)) := hid (by rw [← HR.out, ← HY.out, ← HC.out]; rfl)
    clear hcc HM10 HCQ HC HFIN
    go_wp2_with (refine wpList_load_row_w (by kernel_rfl) 35 (.tmp 5) (by with_reducible rfl) bm (by kernel_rfl) _ _ _ _ HMC.out Tryz.underlying35 rfl (by kernel_rfl) ?_)
    rw [← HV.out]
    refine (tline_calls c _ (HG.out.frm S10.out.now.2).tab HFI.out).mono ?_
    rintro _ w11 ⟨rfl, hf⟩
    rw [HY.out]
    have S11 := hid (S10.out.step hf)
    have HM11 := hid (hf.heap HMC.out (fun h => h))
    clear hf S10 HMC
    by_cases hE : y.toList.isEmpty = true
    · have HRZ : Hid (R = (Ot.zero, 2)) := hid (by rw [HRR.out, if_neg (by rw [accB_iff]; intro h; rw [h.1] at hE; cases hE)])
      go_wp2_with (refine wpList_store_row rfl 35 (.tmp 2) (.tmp 51) (by with_reducible rfl) r0 #[.int .i64 0, .int .i64 0, .int .i64 0, .int .i64 0, .int .i64 0, .int .i64 0, .int .i64 0, .string ⟨#[]⟩, .int .i64 0, .int .i64 0, .int .i64 0, .int .i64 0, .int .i64 0, .int .i64 0, .int .i64 0, .int .i64 0, .int .i64 0, .int .i64 0, .int .i64 0, .int .i64 0, .int .i64 0, .int .i64 0, .int .i64 0, .int .i64 0, .int .i64 0, .int .i64 0] (by kernel_rfl) (by kernel_rfl) _ _ S11.out.now.1 (by kernel_rfl) (by rfl) (by simp [Value.oneCell']) ?_)
      refine bodyPost_ret (results_cell_slot (by rfl) _ _ r0 _ _ _ _ _ rfl rfl (setRow_heap _ _ _ _ _ _ S11.out.now.1) Tryz.underlying35 rfl (by kernel_rfl)) rfl ⟨by rw [HRZ.out]; rfl, S11.out.now.2.setRow _ _ (by have := HB.out; omega)⟩
    · have hE' : y.toList.isEmpty = false := by simpa using hE
      by_cases hq : y = s
      · have HRZ : Hid (R = (c, 0)) := hid (by rw [HRR.out, if_pos (accB_iff.2 ⟨hE', hq⟩)])
        have hq' : (y.toList == s.toList) = true := by rw [hq]; simp
        clear hE hq
        go_wp2_with (first | (refine wpList_load_row_w (by kernel_rfl) 35 (.tmp 5) (by with_reducible rfl) bm (by kernel_rfl) _ _ _ _ HM11.out Tryz.underlying35 rfl (by kernel_rfl) ?_) | (refine wpList_store_row rfl 35 (.tmp 2) (.tmp 52) (by with_reducible rfl) r0 #[.int .i64 c.d, .int .i64 c.e, .int .i64 c.r.k, .int .i64 c.r.e, .int .i64 c.r.w, .int .i64 c.r.n, .int .i64 c.r.q, .string c.r.t, .int .i64 c.r.p.s0, .int .i64 c.r.p.s1, .int .i64 c.r.p.s2, .int .i64 c.r.p.s3, .int .i64 c.r.p.s4, .int .i64 c.r.p.s5, .int .i64 c.r.p.s6, .int .i64 c.r.p.s7, .int .i64 c.r.p.s8, .int .i64 c.r.p.s9, .int .i64 c.r.p.s10, .int .i64 c.r.p.s11, .int .i64 c.m.k, .int .i64 c.m.e, .int .i64 c.m.s, .int .i64 c.m.u, .int .i64 c.m.v, .int .i64 c.m.t] (by kernel_rfl) (by kernel_rfl) _ _ S11.out.now.1 (by kernel_rfl) (by rfl) (by simp [Value.oneCell']) ?_))
        refine bodyPost_ret (results_cell_slot (by rfl) _ _ r0 _ _ _ _ _ rfl rfl (setRow_heap _ _ _ _ _ _ S11.out.now.1) Tryz.underlying35 rfl (by kernel_rfl)) rfl ⟨by rw [HRZ.out]; rfl, S11.out.now.2.setRow _ _ (by have := HB.out; omega)⟩
      · have HRZ : Hid (R = (Ot.zero, 2)) := hid (by rw [HRR.out, if_neg (by rw [accB_iff]; intro h; exact hq h.2)])
        have hq' : (y.toList == s.toList) = false := by
          rw [beq_eq_false_iff_ne]; intro h; exact hq ((Go.Lib.bytes_beq_iff y s).1 (by simp [h]))
        clear hE hq
        go_wp2_with (refine wpList_store_row rfl 35 (.tmp 2) (.tmp 51) (by with_reducible rfl) r0 #[.int .i64 0, .int .i64 0, .int .i64 0, .int .i64 0, .int .i64 0, .int .i64 0, .int .i64 0, .string ⟨#[]⟩, .int .i64 0, .int .i64 0, .int .i64 0, .int .i64 0, .int .i64 0, .int .i64 0, .int .i64 0, .int .i64 0, .int .i64 0, .int .i64 0, .int .i64 0, .int .i64 0, .int .i64 0, .int .i64 0, .int .i64 0, .int .i64 0, .int .i64 0, .int .i64 0] (by kernel_rfl) (by kernel_rfl) _ _ S11.out.now.1 (by kernel_rfl) (by rfl) (by simp [Value.oneCell']) ?_)
        refine bodyPost_ret (results_cell_slot (by rfl) _ _ r0 _ _ _ _ _ rfl rfl (setRow_heap _ _ _ _ _ _ S11.out.now.1) Tryz.underlying35 rfl (by kernel_rfl)) rfl ⟨by rw [HRZ.out]; rfl, S11.out.now.2.setRow _ _ (by have := HB.out; omega)⟩
end Go.Proofs.YtonlmkcolndaaaaGreatDoor
namespace Go.Proofs.YtonlmkcolndaaaaGreatDoor
set_option linter.unusedVariables false
set_option linter.unusedSimpArgs false
set_option maxRecDepth 20000
open Go.RowKit
section
variable {P : Program} {ops : Array Oper} {w0 : World} {vals : Nat → Value}
theorem sound_N {Q : Exit → Act → World → Prop} {QT : Act → (Nat → Nat) → Prop} {tail : List Oper} (HT : ∀ a E w, QT a E → Frm M0 w0 w → wpList P ops Q tail a w) :
    ∀ (l : List Oper) (k : Nat) (a : Act) (E : Nat → Nat) (w : World), (∀ j o, l[j]? = some o → ops[k + j]? = some o) → wpG P ops w0 (fun _ => none) vals QT l.length k a E → Frm M0 w0 w → wpList P ops Q (l ++ tail) a w
  | [], k, a, E, w, _, h, hf => HT a E w h hf
  | o :: l, k, a, E, w, ho, h, hf => by
    obtain ⟨o', ho', hst⟩ := h
    have h0 := ho 0 o rfl
    rw [Nat.add_zero] at h0
    obtain rfl : o' = o := Option.some.inj (ho'.symm.trans h0)
    obtain ⟨hy, hk⟩ := hst
    have hwp := hy.wp (Q := Q) (K := wpList P ops Q (l ++ tail)) h0 hf (fun w' hf' => sound_N HT l (k + 1) _ _ _ (fun j o hj => by
      have := ho (j + 1) o (by simpa using hj)
      rwa [show k + (j + 1) = k + 1 + j by omega] at this) hk (hf.then0 hf'))
    unfold wpOp at hwp
    rw [h0] at hwp
    exact hwp
end
theorem wp_region_N {P : Program} {id : Nat} {Q : Exit → Act → World → Prop} {a : Act} {w : World} {l : List Oper} (n : Nat) (vals : Nat → Value) (hB : decide (n ≤ l.length) = true)
    (h : ∀ (ops : Array Oper) (QT : Act → (Nat → Nat) → Prop), AllOps ops l 0 →
      Hid (∀ a' E, (∀ w', Frm M0 w w' → wpList P l.toArray Q (l.drop n) a' w') → QT a' E) →
      wpG P ops w (fun _ => none) vals QT n 0 a (fun _ => 0)) :
    (Code.region id l.toArray false).wp P Q a w := by
  refine wp_region_list ?_
  have hn : n ≤ l.length := of_decide_eq_true hB
  have hG := h l.toArray (fun a' E => ∀ w', Frm M0 w w' → wpList P l.toArray Q (l.drop n) a' w') (allOps_of l 0 fun j o hj => by simpa using hj) (hid fun _ _ h => h)
  have hlen : (l.take n).length = n := by rw [List.length_take]; omega
  rw [← hlen] at hG
  have := sound_N (Q := Q) (tail := l.drop n) (fun a E w hq hf => by
    have h1 := hq w hf
    rwa [hlen] at h1) (l.take n) 0 a (fun _ => 0) w (fun j o hj => by
      rw [Nat.zero_add]
      have h1 : j < (l.take n).length := (List.getElem?_eq_some_iff.1 hj).1
      rw [List.getElem?_take] at hj
      split at hj
      · simpa using hj
      · cases hj) hG (Frm.refl _ _)
  rw [List.take_append_drop] at this
  simpa using this
end Go.Proofs.YtonlmkcolndaaaaGreatDoor
namespace Go.Proofs.YtonlmkcolndaaaaGreatDoor
set_option linter.unusedVariables false
set_option linter.unusedSimpArgs false
set_option maxRecDepth 20000
open Go.RowKit

theorem rneq_iff {a b : Rc} : rneq a b = true ↔ a ≠ b := by unfold rneq req; simp
theorem mneq_iff {a b : Mg} : mneq a b = true ↔ a ≠ b := by unfold mneq meq; simp
theorem rneq_no {a b : Rc} (h : rneq a b = false) : a = b := by
  apply Classical.byContradiction; intro hn
  rw [rneq_iff.2 hn] at h; cases h
theorem mneq_no {a b : Mg} (h : mneq a b = false) : a = b := by
  apply Classical.byContradiction; intro hn
  rw [mneq_iff.2 hn] at h; cases h
theorem errw_ok {e : Int} (h : (wordE e).toList.isEmpty = false) : (0 ≤ e ∧ e ≤ 13) ∧ (wordE e).size ≤ 10 := by
  rw [errw_emp] at h
  have h2 : 0 ≤ e ∧ e ≤ 13 := by
    apply Classical.byContradiction; intro hn
    rw [decide_eq_false hn] at h; cases h
  obtain ⟨k, hk⟩ : ∃ k : Nat, e = k := ⟨e.toNat, by omega⟩
  exact ⟨h2, by rw [hk]; exact (err_ne_fin ⟨k, by omega⟩).2⟩
theorem did_cell (wx : World) (n : Nat) (hn : n < 4) : (wx.alloc (.cells #[.string ⟨#[110, 111, 116, 104, 105, 110, 103]⟩, .string ⟨#[99, 111, 109, 109, 105, 116, 116, 101, 100]⟩, .string ⟨#[115, 101, 110, 116]⟩, .string ⟨#[104, 101, 97, 114, 100]⟩] 9)).cell? ⟨wx.heap.size, n, none⟩ = some (.string (didW n)) := by
  have h1 := new1 wx (.cells #[.string ⟨#[110, 111, 116, 104, 105, 110, 103]⟩, .string ⟨#[99, 111, 109, 109, 105, 116, 116, 101, 100]⟩, .string ⟨#[115, 101, 110, 116]⟩, .string ⟨#[104, 101, 97, 114, 100]⟩] 9)
  have hc : n = 0 ∨ n = 1 ∨ n = 2 ∨ n = 3 := by omega
  rcases hc with rfl | rfl | rfl | rfl <;> exact cell_at h1 _

/-- What is behind the test. -/
def backS (o : Ot) : ByteArray := if o.d = 0 then ⟨#[]⟩ else if o.d = 1 then wordsS o.r else msgS o.m
theorem line_back {o : Ot} (h : lineB o = true) (h0 : o.d ≠ 0) : lineS o = didW o.d ++ ⟨#[32]⟩ ++ wordE o.e ++ ⟨#[32]⟩ ++ backS o := by
  rw [line_app h]
  unfold moreS backS
  rw [if_neg h0, if_neg h0]
  apply bya
  by_cases h1 : o.d = 1
  · rw [if_pos h1, if_pos h1]; simp only [bya_app, List.append_assoc]
  · rw [if_neg h1, if_neg h1]; simp only [bya_app, List.append_assoc]
theorem wr_ok {r : Rc} (h : r.fine) : True := trivial

set_option maxRecDepth 20000 in
set_option maxHeartbeats 8000000 in
attribute [-go_sem] run_eql_struct run_neq_struct in
attribute [local go_sem] neq_rec neq_msg in
theorem rline_calls (o : Ot) (w : World) (hr : o.r.fine) : Calls Tryz.prog 11 #[o.val] w fun x w' => x = .returned (.string (lineS o)) ∧ Frm M0 w w' := by
  have HV : Hid (o.val = .agg #[.int .i64 o.d, .int .i64 o.e, .int .i64 o.r.k, .int .i64 o.r.e, .int .i64 o.r.w, .int .i64 o.r.n, .int .i64 o.r.q, .string o.r.t, .int .i64 o.r.p.s0, .int .i64 o.r.p.s1, .int .i64 o.r.p.s2, .int .i64 o.r.p.s3, .int .i64 o.r.p.s4, .int .i64 o.r.p.s5, .int .i64 o.r.p.s6, .int .i64 o.r.p.s7, .int .i64 o.r.p.s8, .int .i64 o.r.p.s9, .int .i64 o.r.p.s10, .int .i64 o.r.p.s11, .int .i64 o.m.k, .int .i64 o.m.e, .int .i64 o.m.s, .int .i64 o.m.u, .int .i64 o.m.v, .int .i64 o.m.t]) := rfl
  have HVM : Hid (o.m.val = .agg #[.int .i64 o.m.k, .int .i64 o.m.e, .int .i64 o.m.s, .int .i64 o.m.u, .int .i64 o.m.v, .int .i64 o.m.t]) := rfl
  have HVR : Hid (o.r.val = .agg #[.int .i64 o.r.k, .int .i64 o.r.e, .int .i64 o.r.w, .int .i64 o.r.n, .int .i64 o.r.q, .string o.r.t, .int .i64 o.r.p.s0, .int .i64 o.r.p.s1, .int .i64 o.r.p.s2, .int .i64 o.r.p.s3, .int .i64 o.r.p.s4, .int .i64 o.r.p.s5, .int .i64 o.r.p.s6, .int .i64 o.r.p.s7, .int .i64 o.r.p.s8, .int .i64 o.r.p.s9, .int .i64 o.r.p.s10, .int .i64 o.r.p.s11]) := rfl
  obtain ⟨R, HRR⟩ : ∃ R, Hid (lineS o = R) := ⟨_, rfl⟩
  obtain ⟨Y, HY⟩ : ∃ Y, Hid (wordE o.e = Y) := ⟨_, rfl⟩
  rw [HV.out, HRR.out]
  have HR := hid hr
  clear hr
  go_enter Tryz.func11, Tryz.ntmps11
  go_upto_region 1 with fail
  obtain ⟨b, hb⟩ : ∃ b, b = w.heap.size := ⟨_, rfl⟩
  obtain ⟨w1, hw1⟩ : ∃ x, x = w.alloc (.cells #[.int .i64 o.d, .int .i64 o.e, .int .i64 o.r.k, .int .i64 o.r.e, .int .i64 o.r.w, .int .i64 o.r.n, .int .i64 o.r.q, .string o.r.t, .int .i64 o.r.p.s0, .int .i64 o.r.p.s1, .int .i64 o.r.p.s2, .int .i64 o.r.p.s3, .int .i64 o.r.p.s4, .int .i64 o.r.p.s5, .int .i64 o.r.p.s6, .int .i64 o.r.p.s7, .int .i64 o.r.p.s8, .int .i64 o.r.p.s9, .int .i64 o.r.p.s10, .int .i64 o.r.p.s11, .int .i64 o.m.k, .int .i64 o.m.e, .int .i64 o.m.s, .int .i64 o.m.u, .int .i64 o.m.v, .int .i64 o.m.t] 31) := ⟨_, rfl⟩
  have hh := new1 w (.cells #[.int .i64 o.d, .int .i64 o.e, .int .i64 o.r.k, .int .i64 o.r.e, .int .i64 o.r.w, .int .i64 o.r.n, .int .i64 o.r.q, .string o.r.t, .int .i64 o.r.p.s0, .int .i64 o.r.p.s1, .int .i64 o.r.p.s2, .int .i64 o.r.p.s3, .int .i64 o.r.p.s4, .int .i64 o.r.p.s5, .int .i64 o.r.p.s6, .int .i64 o.r.p.s7, .int .i64 o.r.p.s8, .int .i64 o.r.p.s9, .int .i64 o.r.p.s10, .int .i64 o.r.p.s11, .int .i64 o.m.k, .int .i64 o.m.e, .int .i64 o.m.s, .int .i64 o.m.u, .int .i64 o.m.v, .int .i64 o.m.t] 31)
  have hf0 := (Frm.refl M0 w).alloc (.cells #[.int .i64 o.d, .int .i64 o.e, .int .i64 o.r.k, .int .i64 o.r.e, .int .i64 o.r.w, .int .i64 o.r.n, .int .i64 o.r.q, .string o.r.t, .int .i64 o.r.p.s0, .int .i64 o.r.p.s1, .int .i64 o.r.p.s2, .int .i64 o.r.p.s3, .int .i64 o.r.p.s4, .int .i64 o.r.p.s5, .int .i64 o.r.p.s6, .int .i64 o.r.p.s7, .int .i64 o.r.p.s8, .int .i64 o.r.p.s9, .int .i64 o.r.p.s10, .int .i64 o.r.p.s11, .int .i64 o.m.k, .int .i64 o.m.e, .int .i64 o.m.s, .int .i64 o.m.u, .int .i64 o.m.v, .int .i64 o.m.t] 31)
  rw [← hw1] at hh hf0 ⊢
  rw [← hb] at hh ⊢
  have S1 : Hid (Sb M0 w1 fun x => x.heap[b]? = some (.cells #[.int .i64 o.d, .int .i64 o.e, .int .i64 o.r.k, .int .i64 o.r.e, .int .i64 o.r.w, .int .i64 o.r.n, .int .i64 o.r.q, .string o.r.t, .int .i64 o.r.p.s0, .int .i64 o.r.p.s1, .int .i64 o.r.p.s2, .int .i64 o.r.p.s3, .int .i64 o.r.p.s4, .int .i64 o.r.p.s5, .int .i64 o.r.p.s6, .int .i64 o.r.p.s7, .int .i64 o.r.p.s8, .int .i64 o.r.p.s9, .int .i64 o.r.p.s10, .int .i64 o.r.p.s11, .int .i64 o.m.k, .int .i64 o.m.e, .int .i64 o.m.s, .int .i64 o.m.u, .int .i64 o.m.v, .int .i64 o.m.t] 31 (0, 0)) ∧ Frm M0 w x) := hid ((Sb.heap hh (fun h => h)).and (Sb.frm hf0))
  clear hw1 hb hh hf0
  have c1 : w1.cell? ⟨b, 1, none⟩ = some (.int .i64 o.e) := cell_at S1.out.now.1 1
  go_wp2_with fail
  refine (rword_calls o.e _).mono ?_
  rintro _ w2 ⟨rfl, hf⟩
  rw [HY.out]
  have S2 := hid (S1.out.step hf)
  clear hf c1 S1
  have c0 : w2.cell? ⟨b, 0, none⟩ = some (.int .i64 o.d) := cell_at S2.out.now.1 0
  have c1 : w2.cell? ⟨b, 1, none⟩ = some (.int .i64 o.e) := cell_at S2.out.now.1 1
  go_upto_region 2 with fail
  by_cases hneg : o.d < 0
  · have hx : decide (o.d < 0) = true := decide_eq_true hneg
    have HZ : Hid (R = ⟨#[]⟩) := hid (by
      rw [← HRR.out]; unfold lineS; rw [if_neg]
      intro h
      have h2 := lineB_iff.1 h
      omega)
    apply wp_region_N 43 (valsL (_ :: _ :: _ :: _ :: _ :: _ :: _ :: _ :: _ :: _ :: _ :: _ :: _ :: _ :: _ :: _ :: _ :: _ :: _ :: _ :: _ :: _ :: _ :: _ :: _ :: _ :: _ :: _ :: _ :: _ :: _ :: _ :: _ :: _ :: _ :: _ :: _ :: _ :: _ :: _ :: _ :: _ :: _ :: [])) ?hB1 ?main1
    case hB1 => kernel_rfl
    rotate_left 43
    intro ops QT HO HQ
    obtain ⟨ho0, HO⟩ := HO
    refine wpG_v ho0.out rfl ?_ ?_
    · simp only [valsL_zero, valsL_succ]; apply FY_in rfl; intro wx hx
      go_simp
      exact ⟨rfl, rfl⟩
    simp only [Act.put, List.setIfInBounds_toArray, List.set_cons_zero, List.set_cons_succ, valsL_zero, valsL_succ]
    obtain ⟨ho1, HO⟩ := HO
    refine wpG_v ho1.out rfl ?_ ?_
    · simp only [valsL_zero, valsL_succ]; apply FY_in rfl; intro wx hx
      have hc0 := sb_cell ((S2.out wx hx).1)
      go_simp
      exact ⟨rfl, rfl⟩
    simp only [Act.put, List.setIfInBounds_toArray, List.set_cons_zero, List.set_cons_succ, valsL_zero, valsL_succ]
    obtain ⟨ho2, HO⟩ := HO
    refine wpG_v ho2.out rfl ?_ ?_
    · simp only [valsL_zero, valsL_succ]; apply FY_in rfl; intro wx hx
      go_simp
      exact ⟨rfl, rfl⟩
    simp only [Act.put, List.setIfInBounds_toArray, List.set_cons_zero, List.set_cons_succ, valsL_zero, valsL_succ]
    obtain ⟨ho3, HO⟩ := HO
    refine wpG_v ho3.out rfl ?_ ?_
    · simp only [valsL_zero, valsL_succ]; apply FY_in rfl; intro wx hx
      go_simp
      exact ⟨rfl, rfl⟩
    simp only [Act.put, List.setIfInBounds_toArray, List.set_cons_zero, List.set_cons_succ, valsL_zero, valsL_succ]
    obtain ⟨ho4, HO⟩ := HO
    refine wpG_v ho4.out rfl ?_ ?_
    · simp only [valsL_zero, valsL_succ]; exact FY_no (d := 12) rfl ho3.out (by rfl) (by kernel_rfl)
    simp only [Act.put, List.setIfInBounds_toArray, List.set_cons_zero, List.set_cons_succ, valsL_zero, valsL_succ]
    obtain ⟨ho5, HO⟩ := HO
    refine wpG_v ho5.out rfl ?_ ?_
    · simp only [valsL_zero, valsL_succ]; exact FY_no (d := 12) rfl ho3.out (by rfl) (by kernel_rfl)
    simp only [Act.put, List.setIfInBounds_toArray, List.set_cons_zero, List.set_cons_succ, valsL_zero, valsL_succ]
    obtain ⟨ho6, HO⟩ := HO
    refine wpG_v ho6.out rfl ?_ ?_
    · simp only [valsL_zero, valsL_succ]; exact FY_no (d := 12) rfl ho3.out (by rfl) (by kernel_rfl)
    simp only [Act.put, List.setIfInBounds_toArray, List.set_cons_zero, List.set_cons_succ, valsL_zero, valsL_succ]
    obtain ⟨ho7, HO⟩ := HO
    refine wpG_v ho7.out rfl ?_ ?_
    · simp only [valsL_zero, valsL_succ]; apply FY_in rfl; intro wx hx
      go_simp
      exact ⟨rfl, rfl⟩
    simp only [Act.put, List.setIfInBounds_toArray, List.set_cons_zero, List.set_cons_succ, valsL_zero, valsL_succ]
    obtain ⟨ho8, HO⟩ := HO
    refine wpG_v ho8.out rfl ?_ ?_
    · simp only [valsL_zero, valsL_succ]; apply FY_in rfl; intro wx hx
      go_simp
      exact ⟨rfl, rfl⟩
    simp only [Act.put, List.setIfInBounds_toArray, List.set_cons_zero, List.set_cons_succ, valsL_zero, valsL_succ]
    obtain ⟨ho9, HO⟩ := HO
    refine wpG_v ho9.out rfl ?_ ?_
    · simp only [valsL_zero, valsL_succ]; exact FY_no (d := 17) rfl ho8.out (by rfl) (by kernel_rfl)
    simp only [Act.put, List.setIfInBounds_toArray, List.set_cons_zero, List.set_cons_succ, valsL_zero, valsL_succ]
    obtain ⟨ho10, HO⟩ := HO
    refine wpG_v ho10.out rfl ?_ ?_
    · simp only [valsL_zero, valsL_succ]; exact FY_no (d := 17) rfl ho8.out (by rfl) (by kernel_rfl)
    simp only [Act.put, List.setIfInBounds_toArray, List.set_cons_zero, List.set_cons_succ, valsL_zero, valsL_succ]
    obtain ⟨ho11, HO⟩ := HO
    refine wpG_v ho11.out rfl ?_ ?_
    · simp only [valsL_zero, valsL_succ]; apply FY_in rfl; intro wx hx
      go_simp
      exact ⟨rfl, rfl⟩
    simp only [Act.put, List.setIfInBounds_toArray, List.set_cons_zero, List.set_cons_succ, valsL_zero, valsL_succ]
    obtain ⟨ho12, HO⟩ := HO
    refine wpG_v ho12.out rfl ?_ ?_
    · simp only [valsL_zero, valsL_succ]; apply FY_in rfl; intro wx hx
      go_simp
      exact ⟨rfl, rfl⟩
    simp only [Act.put, List.setIfInBounds_toArray, List.set_cons_zero, List.set_cons_succ, valsL_zero, valsL_succ]
    obtain ⟨ho13, HO⟩ := HO
    refine wpG_v ho13.out rfl ?_ ?_
    · simp only [valsL_zero, valsL_succ]; exact FY_no (d := 21) rfl ho12.out (by rfl) (by kernel_rfl)
    simp only [Act.put, List.setIfInBounds_toArray, List.set_cons_zero, List.set_cons_succ, valsL_zero, valsL_succ]
    obtain ⟨ho14, HO⟩ := HO
    refine wpG_v ho14.out rfl ?_ ?_
    · simp only [valsL_zero, valsL_succ]; exact FY_no (d := 21) rfl ho12.out (by rfl) (by kernel_rfl)
    simp only [Act.put, List.setIfInBounds_toArray, List.set_cons_zero, List.set_cons_succ, valsL_zero, valsL_succ]
    obtain ⟨ho15, HO⟩ := HO
    refine wpG_v ho15.out rfl ?_ ?_
    · simp only [valsL_zero, valsL_succ]; exact FY_no (d := 21) rfl ho12.out (by rfl) (by kernel_rfl)
    simp only [Act.put, List.setIfInBounds_toArray, List.set_cons_zero, List.set_cons_succ, valsL_zero, valsL_succ]
    obtain ⟨ho16, HO⟩ := HO
    refine wpG_v ho16.out rfl ?_ ?_
    · simp only [valsL_zero, valsL_succ]; exact FY_no (d := 21) rfl ho12.out (by rfl) (by kernel_rfl)
    simp only [Act.put, List.setIfInBounds_toArray, List.set_cons_zero, List.set_cons_succ, valsL_zero, valsL_succ]
    obtain ⟨ho17, HO⟩ := HO
    refine wpG_v ho17.out rfl ?_ ?_
    · simp only [valsL_zero, valsL_succ]; exact FY_un (d := 25) rfl ho16.out (by rfl) (by kernel_rfl)
    simp only [Act.put, List.setIfInBounds_toArray, List.set_cons_zero, List.set_cons_succ, valsL_zero, valsL_succ]
    obtain ⟨ho18, HO⟩ := HO
    refine wpG_v ho18.out rfl ?_ ?_
    · simp only [valsL_zero, valsL_succ]; exact FY_un (d := 25) rfl ho16.out (by rfl) (by kernel_rfl)
    simp only [Act.put, List.setIfInBounds_toArray, List.set_cons_zero, List.set_cons_succ, valsL_zero, valsL_succ]
    obtain ⟨ho19, HO⟩ := HO
    refine wpG_v ho19.out rfl ?_ ?_
    · simp only [valsL_zero, valsL_succ]; exact FY_un (d := 25) rfl ho16.out (by rfl) (by kernel_rfl)
    simp only [Act.put, List.setIfInBounds_toArray, List.set_cons_zero, List.set_cons_succ, valsL_zero, valsL_succ]
    obtain ⟨ho20, HO⟩ := HO
    refine wpG_v ho20.out rfl ?_ ?_
    · simp only [valsL_zero, valsL_succ]; exact FY_un (d := 25) rfl ho16.out (by rfl) (by kernel_rfl)
    simp only [Act.put, List.setIfInBounds_toArray, List.set_cons_zero, List.set_cons_succ, valsL_zero, valsL_succ]
    obtain ⟨ho21, HO⟩ := HO
    refine wpG_v ho21.out rfl ?_ ?_
    · simp only [valsL_zero, valsL_succ]; exact FY_no (d := 21) rfl ho12.out (by rfl) (by kernel_rfl)
    simp only [Act.put, List.setIfInBounds_toArray, List.set_cons_zero, List.set_cons_succ, valsL_zero, valsL_succ]
    obtain ⟨ho22, HO⟩ := HO
    refine wpG_v ho22.out rfl ?_ ?_
    · simp only [valsL_zero, valsL_succ]; apply FY_in rfl; intro wx hx
      go_simp
      exact ⟨rfl, rfl⟩
    simp only [Act.put, List.setIfInBounds_toArray, List.set_cons_zero, List.set_cons_succ, valsL_zero, valsL_succ]
    obtain ⟨ho23, HO⟩ := HO
    refine wpG_v ho23.out rfl ?_ ?_
    · simp only [valsL_zero, valsL_succ]; apply FY_in rfl; intro wx hx
      go_simp
      exact ⟨rfl, rfl⟩
    simp only [Act.put, List.setIfInBounds_toArray, List.set_cons_zero, List.set_cons_succ, valsL_zero, valsL_succ]
    obtain ⟨ho24, HO⟩ := HO
    refine wpG_v ho24.out rfl ?_ ?_
    · simp only [valsL_zero, valsL_succ]; exact FY_no (d := 32) rfl ho23.out (by rfl) (by kernel_rfl)
    simp only [Act.put, List.setIfInBounds_toArray, List.set_cons_zero, List.set_cons_succ, valsL_zero, valsL_succ]
    obtain ⟨ho25, HO⟩ := HO
    refine wpG_v ho25.out rfl ?_ ?_
    · simp only [valsL_zero, valsL_succ]; exact FY_no (d := 32) rfl ho23.out (by rfl) (by kernel_rfl)
    simp only [Act.put, List.setIfInBounds_toArray, List.set_cons_zero, List.set_cons_succ, valsL_zero, valsL_succ]
    obtain ⟨ho26, HO⟩ := HO
    refine wpG_v ho26.out rfl ?_ ?_
    · simp only [valsL_zero, valsL_succ]; exact FY_no (d := 32) rfl ho23.out (by rfl) (by kernel_rfl)
    simp only [Act.put, List.setIfInBounds_toArray, List.set_cons_zero, List.set_cons_succ, valsL_zero, valsL_succ]
    obtain ⟨ho27, HO⟩ := HO
    refine wpG_v ho27.out rfl ?_ ?_
    · simp only [valsL_zero, valsL_succ]; exact FY_no (d := 32) rfl ho23.out (by rfl) (by kernel_rfl)
    simp only [Act.put, List.setIfInBounds_toArray, List.set_cons_zero, List.set_cons_succ, valsL_zero, valsL_succ]
    obtain ⟨ho28, HO⟩ := HO
    refine wpG_v ho28.out rfl ?_ ?_
    · simp only [valsL_zero, valsL_succ]; exact FY_un (d := 36) rfl ho27.out (by rfl) (by kernel_rfl)
    simp only [Act.put, List.setIfInBounds_toArray, List.set_cons_zero, List.set_cons_succ, valsL_zero, valsL_succ]
    obtain ⟨ho29, HO⟩ := HO
    refine wpG_v ho29.out rfl ?_ ?_
    · simp only [valsL_zero, valsL_succ]; exact FY_un (d := 36) rfl ho27.out (by rfl) (by kernel_rfl)
    simp only [Act.put, List.setIfInBounds_toArray, List.set_cons_zero, List.set_cons_succ, valsL_zero, valsL_succ]
    obtain ⟨ho30, HO⟩ := HO
    refine wpG_v ho30.out rfl ?_ ?_
    · simp only [valsL_zero, valsL_succ]; exact FY_un (d := 36) rfl ho27.out (by rfl) (by kernel_rfl)
    simp only [Act.put, List.setIfInBounds_toArray, List.set_cons_zero, List.set_cons_succ, valsL_zero, valsL_succ]
    obtain ⟨ho31, HO⟩ := HO
    refine wpG_v ho31.out rfl ?_ ?_
    · simp only [valsL_zero, valsL_succ]; exact FY_un (d := 36) rfl ho27.out (by rfl) (by kernel_rfl)
    simp only [Act.put, List.setIfInBounds_toArray, List.set_cons_zero, List.set_cons_succ, valsL_zero, valsL_succ]
    obtain ⟨ho32, HO⟩ := HO
    refine wpG_v ho32.out rfl ?_ ?_
    · simp only [valsL_zero, valsL_succ]; exact FY_no (d := 32) rfl ho23.out (by rfl) (by kernel_rfl)
    simp only [Act.put, List.setIfInBounds_toArray, List.set_cons_zero, List.set_cons_succ, valsL_zero, valsL_succ]
    obtain ⟨ho33, HO⟩ := HO
    refine wpG_v ho33.out rfl ?_ ?_
    · simp only [valsL_zero, valsL_succ]; apply FY_in rfl; intro wx hx
      go_simp
      exact ⟨rfl, rfl⟩
    simp only [Act.put, List.setIfInBounds_toArray, List.set_cons_zero, List.set_cons_succ, valsL_zero, valsL_succ]
    obtain ⟨ho34, HO⟩ := HO
    refine wpG_v ho34.out rfl ?_ ?_
    · simp only [valsL_zero, valsL_succ]; apply FY_in rfl; intro wx hx
      go_simp
      exact ⟨rfl, rfl⟩
    simp only [Act.put, List.setIfInBounds_toArray, List.set_cons_zero, List.set_cons_succ, valsL_zero, valsL_succ]
    obtain ⟨ho35, HO⟩ := HO
    refine wpG_v ho35.out rfl ?_ ?_
    · simp only [valsL_zero, valsL_succ]; exact FY_no (d := 43) rfl ho34.out (by rfl) (by kernel_rfl)
    simp only [Act.put, List.setIfInBounds_toArray, List.set_cons_zero, List.set_cons_succ, valsL_zero, valsL_succ]
    obtain ⟨ho36, HO⟩ := HO
    refine wpG_v ho36.out rfl ?_ ?_
    · simp only [valsL_zero, valsL_succ]; exact FY_no (d := 43) rfl ho34.out (by rfl) (by kernel_rfl)
    simp only [Act.put, List.setIfInBounds_toArray, List.set_cons_zero, List.set_cons_succ, valsL_zero, valsL_succ]
    obtain ⟨ho37, HO⟩ := HO
    refine wpG_v ho37.out rfl ?_ ?_
    · simp only [valsL_zero, valsL_succ]; exact FY_no (d := 43) rfl ho34.out (by rfl) (by kernel_rfl)
    simp only [Act.put, List.setIfInBounds_toArray, List.set_cons_zero, List.set_cons_succ, valsL_zero, valsL_succ]
    obtain ⟨ho38, HO⟩ := HO
    refine wpG_v ho38.out rfl ?_ ?_
    · simp only [valsL_zero, valsL_succ]; exact FY_no (d := 43) rfl ho34.out (by rfl) (by kernel_rfl)
    simp only [Act.put, List.setIfInBounds_toArray, List.set_cons_zero, List.set_cons_succ, valsL_zero, valsL_succ]
    obtain ⟨ho39, HO⟩ := HO
    refine wpG_v ho39.out rfl ?_ ?_
    · simp only [valsL_zero, valsL_succ]; exact FY_un (d := 47) rfl ho38.out (by rfl) (by kernel_rfl)
    simp only [Act.put, List.setIfInBounds_toArray, List.set_cons_zero, List.set_cons_succ, valsL_zero, valsL_succ]
    obtain ⟨ho40, HO⟩ := HO
    refine wpG_v ho40.out rfl ?_ ?_
    · simp only [valsL_zero, valsL_succ]; exact FY_un (d := 47) rfl ho38.out (by rfl) (by kernel_rfl)
    simp only [Act.put, List.setIfInBounds_toArray, List.set_cons_zero, List.set_cons_succ, valsL_zero, valsL_succ]
    obtain ⟨ho41, HO⟩ := HO
    refine wpG_v ho41.out rfl ?_ ?_
    · simp only [valsL_zero, valsL_succ]; exact FY_un (d := 47) rfl ho38.out (by rfl) (by kernel_rfl)
    simp only [Act.put, List.setIfInBounds_toArray, List.set_cons_zero, List.set_cons_succ, valsL_zero, valsL_succ]
    obtain ⟨ho42, HO⟩ := HO
    refine wpG_v ho42.out rfl ?_ ?_
    · simp only [valsL_zero, valsL_succ]; exact FY_no (d := 43) rfl ho34.out (by rfl) (by kernel_rfl)
    simp only [Act.put, List.setIfInBounds_toArray, List.set_cons_zero, List.set_cons_succ, valsL_zero, valsL_succ]
    refine HQ.out _ _ ?_
    intro wr hf
    simp only [List.drop_succ_cons, List.drop_zero]
    clear HQ HO ho0 ho1 ho2 ho3 ho4 ho5 ho6 ho7 ho8 ho9 ho10 ho11 ho12 ho13 ho14 ho15 ho16 ho17 ho18 ho19 ho20 ho21 ho22 ho23 ho24 ho25 ho26 ho27 ho28 ho29 ho30 ho31 ho32 ho33 ho34 ho35 ho36 ho37 ho38 ho39 ho40 ho41 ho42
    have S3 := hid (S2.out.step hf)
    clear hf
    go_wp2_with fail
    go_ret
    exact ⟨by rw [HZ.out]; rfl, S3.out.now.2⟩
  by_cases hbig : (3 : Int) < o.d
  · have hx : decide (o.d < 0) = false := decide_eq_false hneg
    have hx2 : decide ((3 : Int) < o.d) = true := decide_eq_true hbig
    have HZ : Hid (R = ⟨#[]⟩) := hid (by
      rw [← HRR.out]; unfold lineS; rw [if_neg]
      intro h
      have h2 := lineB_iff.1 h
      omega)
    apply wp_region_N 43 (valsL (_ :: _ :: _ :: _ :: _ :: _ :: _ :: _ :: _ :: _ :: _ :: _ :: _ :: _ :: _ :: _ :: _ :: _ :: _ :: _ :: _ :: _ :: _ :: _ :: _ :: _ :: _ :: _ :: _ :: _ :: _ :: _ :: _ :: _ :: _ :: _ :: _ :: _ :: _ :: _ :: _ :: _ :: _ :: [])) ?hB2 ?main2
    case hB2 => kernel_rfl
    rotate_left 43
    intro ops QT HO HQ
    obtain ⟨ho0, HO⟩ := HO
    refine wpG_v ho0.out rfl ?_ ?_
    · simp only [valsL_zero, valsL_succ]; apply FY_in rfl; intro wx hx
      go_simp
      exact ⟨rfl, rfl⟩
    simp only [Act.put, List.setIfInBounds_toArray, List.set_cons_zero, List.set_cons_succ, valsL_zero, valsL_succ]
    obtain ⟨ho1, HO⟩ := HO
    refine wpG_v ho1.out rfl ?_ ?_
    · simp only [valsL_zero, valsL_succ]; apply FY_in rfl; intro wx hx
      have hc0 := sb_cell ((S2.out wx hx).1)
      go_simp
      exact ⟨rfl, rfl⟩
    simp only [Act.put, List.setIfInBounds_toArray, List.set_cons_zero, List.set_cons_succ, valsL_zero, valsL_succ]
    obtain ⟨ho2, HO⟩ := HO
    refine wpG_v ho2.out rfl ?_ ?_
    · simp only [valsL_zero, valsL_succ]; apply FY_in rfl; intro wx hx
      go_simp
      exact ⟨rfl, rfl⟩
    simp only [Act.put, List.setIfInBounds_toArray, List.set_cons_zero, List.set_cons_succ, valsL_zero, valsL_succ]
    obtain ⟨ho3, HO⟩ := HO
    refine wpG_v ho3.out rfl ?_ ?_
    · simp only [valsL_zero, valsL_succ]; apply FY_in rfl; intro wx hx
      go_simp
      exact ⟨rfl, rfl⟩
    simp only [Act.put, List.setIfInBounds_toArray, List.set_cons_zero, List.set_cons_succ, valsL_zero, valsL_succ]
    obtain ⟨ho4, HO⟩ := HO
    refine wpG_v ho4.out rfl ?_ ?_
    · simp only [valsL_zero, valsL_succ]; apply FY_yes (d := 12) rfl ho3.out (by rfl) (by kernel_rfl); intro wx hx
      go_simp
      exact ⟨rfl, rfl⟩
    simp only [Act.put, List.setIfInBounds_toArray, List.set_cons_zero, List.set_cons_succ, valsL_zero, valsL_succ]
    obtain ⟨ho5, HO⟩ := HO
    refine wpG_v ho5.out rfl ?_ ?_
    · simp only [valsL_zero, valsL_succ]; apply FY_yes (d := 12) rfl ho3.out (by rfl) (by kernel_rfl); intro wx hx
      have hc0 := sb_cell ((S2.out wx hx).1)
      go_simp
      exact ⟨rfl, rfl⟩
    simp only [Act.put, List.setIfInBounds_toArray, List.set_cons_zero, List.set_cons_succ, valsL_zero, valsL_succ]
    obtain ⟨ho6, HO⟩ := HO
    refine wpG_v ho6.out rfl ?_ ?_
    · simp only [valsL_zero, valsL_succ]; apply FY_yes (d := 12) rfl ho3.out (by rfl) (by kernel_rfl); intro wx hx
      go_simp
      exact ⟨rfl, rfl⟩
    simp only [Act.put, List.setIfInBounds_toArray, List.set_cons_zero, List.set_cons_succ, valsL_zero, valsL_succ]
    obtain ⟨ho7, HO⟩ := HO
    refine wpG_v ho7.out rfl ?_ ?_
    · simp only [valsL_zero, valsL_succ]; apply FY_in rfl; intro wx hx
      go_simp
      exact ⟨rfl, rfl⟩
    simp only [Act.put, List.setIfInBounds_toArray, List.set_cons_zero, List.set_cons_succ, valsL_zero, valsL_succ]
    obtain ⟨ho8, HO⟩ := HO
    refine wpG_v ho8.out rfl ?_ ?_
    · simp only [valsL_zero, valsL_succ]; apply FY_in rfl; intro wx hx
      go_simp
      exact ⟨rfl, rfl⟩
    simp only [Act.put, List.setIfInBounds_toArray, List.set_cons_zero, List.set_cons_succ, valsL_zero, valsL_succ]
    obtain ⟨ho9, HO⟩ := HO
    refine wpG_v ho9.out rfl ?_ ?_
    · simp only [valsL_zero, valsL_succ]; exact FY_no (d := 17) rfl ho8.out (by rfl) (by kernel_rfl)
    simp only [Act.put, List.setIfInBounds_toArray, List.set_cons_zero, List.set_cons_succ, valsL_zero, valsL_succ]
    obtain ⟨ho10, HO⟩ := HO
    refine wpG_v ho10.out rfl ?_ ?_
    · simp only [valsL_zero, valsL_succ]; exact FY_no (d := 17) rfl ho8.out (by rfl) (by kernel_rfl)
    simp only [Act.put, List.setIfInBounds_toArray, List.set_cons_zero, List.set_cons_succ, valsL_zero, valsL_succ]
    obtain ⟨ho11, HO⟩ := HO
    refine wpG_v ho11.out rfl ?_ ?_
    · simp only [valsL_zero, valsL_succ]; apply FY_in rfl; intro wx hx
      go_simp
      exact ⟨rfl, rfl⟩
    simp only [Act.put, List.setIfInBounds_toArray, List.set_cons_zero, List.set_cons_succ, valsL_zero, valsL_succ]
    obtain ⟨ho12, HO⟩ := HO
    refine wpG_v ho12.out rfl ?_ ?_
    · simp only [valsL_zero, valsL_succ]; apply FY_in rfl; intro wx hx
      go_simp
      exact ⟨rfl, rfl⟩
    simp only [Act.put, List.setIfInBounds_toArray, List.set_cons_zero, List.set_cons_succ, valsL_zero, valsL_succ]
    obtain ⟨ho13, HO⟩ := HO
    refine wpG_v ho13.out rfl ?_ ?_
    · simp only [valsL_zero, valsL_succ]; exact FY_no (d := 21) rfl ho12.out (by rfl) (by kernel_rfl)
    simp only [Act.put, List.setIfInBounds_toArray, List.set_cons_zero, List.set_cons_succ, valsL_zero, valsL_succ]
    obtain ⟨ho14, HO⟩ := HO
    refine wpG_v ho14.out rfl ?_ ?_
    · simp only [valsL_zero, valsL_succ]; exact FY_no (d := 21) rfl ho12.out (by rfl) (by kernel_rfl)
    simp only [Act.put, List.setIfInBounds_toArray, List.set_cons_zero, List.set_cons_succ, valsL_zero, valsL_succ]
    obtain ⟨ho15, HO⟩ := HO
    refine wpG_v ho15.out rfl ?_ ?_
    · simp only [valsL_zero, valsL_succ]; exact FY_no (d := 21) rfl ho12.out (by rfl) (by kernel_rfl)
    simp only [Act.put, List.setIfInBounds_toArray, List.set_cons_zero, List.set_cons_succ, valsL_zero, valsL_succ]
    obtain ⟨ho16, HO⟩ := HO
    refine wpG_v ho16.out rfl ?_ ?_
    · simp only [valsL_zero, valsL_succ]; exact FY_no (d := 21) rfl ho12.out (by rfl) (by kernel_rfl)
    simp only [Act.put, List.setIfInBounds_toArray, List.set_cons_zero, List.set_cons_succ, valsL_zero, valsL_succ]
    obtain ⟨ho17, HO⟩ := HO
    refine wpG_v ho17.out rfl ?_ ?_
    · simp only [valsL_zero, valsL_succ]; exact FY_un (d := 25) rfl ho16.out (by rfl) (by kernel_rfl)
    simp only [Act.put, List.setIfInBounds_toArray, List.set_cons_zero, List.set_cons_succ, valsL_zero, valsL_succ]
    obtain ⟨ho18, HO⟩ := HO
    refine wpG_v ho18.out rfl ?_ ?_
    · simp only [valsL_zero, valsL_succ]; exact FY_un (d := 25) rfl ho16.out (by rfl) (by kernel_rfl)
    simp only [Act.put, List.setIfInBounds_toArray, List.set_cons_zero, List.set_cons_succ, valsL_zero, valsL_succ]
    obtain ⟨ho19, HO⟩ := HO
    refine wpG_v ho19.out rfl ?_ ?_
    · simp only [valsL_zero, valsL_succ]; exact FY_un (d := 25) rfl ho16.out (by rfl) (by kernel_rfl)
    simp only [Act.put, List.setIfInBounds_toArray, List.set_cons_zero, List.set_cons_succ, valsL_zero, valsL_succ]
    obtain ⟨ho20, HO⟩ := HO
    refine wpG_v ho20.out rfl ?_ ?_
    · simp only [valsL_zero, valsL_succ]; exact FY_un (d := 25) rfl ho16.out (by rfl) (by kernel_rfl)
    simp only [Act.put, List.setIfInBounds_toArray, List.set_cons_zero, List.set_cons_succ, valsL_zero, valsL_succ]
    obtain ⟨ho21, HO⟩ := HO
    refine wpG_v ho21.out rfl ?_ ?_
    · simp only [valsL_zero, valsL_succ]; exact FY_no (d := 21) rfl ho12.out (by rfl) (by kernel_rfl)
    simp only [Act.put, List.setIfInBounds_toArray, List.set_cons_zero, List.set_cons_succ, valsL_zero, valsL_succ]
    obtain ⟨ho22, HO⟩ := HO
    refine wpG_v ho22.out rfl ?_ ?_
    · simp only [valsL_zero, valsL_succ]; apply FY_in rfl; intro wx hx
      go_simp
      exact ⟨rfl, rfl⟩
    simp only [Act.put, List.setIfInBounds_toArray, List.set_cons_zero, List.set_cons_succ, valsL_zero, valsL_succ]
    obtain ⟨ho23, HO⟩ := HO
    refine wpG_v ho23.out rfl ?_ ?_
    · simp only [valsL_zero, valsL_succ]; apply FY_in rfl; intro wx hx
      go_simp
      exact ⟨rfl, rfl⟩
    simp only [Act.put, List.setIfInBounds_toArray, List.set_cons_zero, List.set_cons_succ, valsL_zero, valsL_succ]
    obtain ⟨ho24, HO⟩ := HO
    refine wpG_v ho24.out rfl ?_ ?_
    · simp only [valsL_zero, valsL_succ]; exact FY_no (d := 32) rfl ho23.out (by rfl) (by kernel_rfl)
    simp only [Act.put, List.setIfInBounds_toArray, List.set_cons_zero, List.set_cons_succ, valsL_zero, valsL_succ]
    obtain ⟨ho25, HO⟩ := HO
    refine wpG_v ho25.out rfl ?_ ?_
    · simp only [valsL_zero, valsL_succ]; exact FY_no (d := 32) rfl ho23.out (by rfl) (by kernel_rfl)
    simp only [Act.put, List.setIfInBounds_toArray, List.set_cons_zero, List.set_cons_succ, valsL_zero, valsL_succ]
    obtain ⟨ho26, HO⟩ := HO
    refine wpG_v ho26.out rfl ?_ ?_
    · simp only [valsL_zero, valsL_succ]; exact FY_no (d := 32) rfl ho23.out (by rfl) (by kernel_rfl)
    simp only [Act.put, List.setIfInBounds_toArray, List.set_cons_zero, List.set_cons_succ, valsL_zero, valsL_succ]
    obtain ⟨ho27, HO⟩ := HO
    refine wpG_v ho27.out rfl ?_ ?_
    · simp only [valsL_zero, valsL_succ]; exact FY_no (d := 32) rfl ho23.out (by rfl) (by kernel_rfl)
    simp only [Act.put, List.setIfInBounds_toArray, List.set_cons_zero, List.set_cons_succ, valsL_zero, valsL_succ]
    obtain ⟨ho28, HO⟩ := HO
    refine wpG_v ho28.out rfl ?_ ?_
    · simp only [valsL_zero, valsL_succ]; exact FY_un (d := 36) rfl ho27.out (by rfl) (by kernel_rfl)
    simp only [Act.put, List.setIfInBounds_toArray, List.set_cons_zero, List.set_cons_succ, valsL_zero, valsL_succ]
    obtain ⟨ho29, HO⟩ := HO
    refine wpG_v ho29.out rfl ?_ ?_
    · simp only [valsL_zero, valsL_succ]; exact FY_un (d := 36) rfl ho27.out (by rfl) (by kernel_rfl)
    simp only [Act.put, List.setIfInBounds_toArray, List.set_cons_zero, List.set_cons_succ, valsL_zero, valsL_succ]
    obtain ⟨ho30, HO⟩ := HO
    refine wpG_v ho30.out rfl ?_ ?_
    · simp only [valsL_zero, valsL_succ]; exact FY_un (d := 36) rfl ho27.out (by rfl) (by kernel_rfl)
    simp only [Act.put, List.setIfInBounds_toArray, List.set_cons_zero, List.set_cons_succ, valsL_zero, valsL_succ]
    obtain ⟨ho31, HO⟩ := HO
    refine wpG_v ho31.out rfl ?_ ?_
    · simp only [valsL_zero, valsL_succ]; exact FY_un (d := 36) rfl ho27.out (by rfl) (by kernel_rfl)
    simp only [Act.put, List.setIfInBounds_toArray, List.set_cons_zero, List.set_cons_succ, valsL_zero, valsL_succ]
    obtain ⟨ho32, HO⟩ := HO
    refine wpG_v ho32.out rfl ?_ ?_
    · simp only [valsL_zero, valsL_succ]; exact FY_no (d := 32) rfl ho23.out (by rfl) (by kernel_rfl)
    simp only [Act.put, List.setIfInBounds_toArray, List.set_cons_zero, List.set_cons_succ, valsL_zero, valsL_succ]
    obtain ⟨ho33, HO⟩ := HO
    refine wpG_v ho33.out rfl ?_ ?_
    · simp only [valsL_zero, valsL_succ]; apply FY_in rfl; intro wx hx
      go_simp
      exact ⟨rfl, rfl⟩
    simp only [Act.put, List.setIfInBounds_toArray, List.set_cons_zero, List.set_cons_succ, valsL_zero, valsL_succ]
    obtain ⟨ho34, HO⟩ := HO
    refine wpG_v ho34.out rfl ?_ ?_
    · simp only [valsL_zero, valsL_succ]; apply FY_in rfl; intro wx hx
      go_simp
      exact ⟨rfl, rfl⟩
    simp only [Act.put, List.setIfInBounds_toArray, List.set_cons_zero, List.set_cons_succ, valsL_zero, valsL_succ]
    obtain ⟨ho35, HO⟩ := HO
    refine wpG_v ho35.out rfl ?_ ?_
    · simp only [valsL_zero, valsL_succ]; exact FY_no (d := 43) rfl ho34.out (by rfl) (by kernel_rfl)
    simp only [Act.put, List.setIfInBounds_toArray, List.set_cons_zero, List.set_cons_succ, valsL_zero, valsL_succ]
    obtain ⟨ho36, HO⟩ := HO
    refine wpG_v ho36.out rfl ?_ ?_
    · simp only [valsL_zero, valsL_succ]; exact FY_no (d := 43) rfl ho34.out (by rfl) (by kernel_rfl)
    simp only [Act.put, List.setIfInBounds_toArray, List.set_cons_zero, List.set_cons_succ, valsL_zero, valsL_succ]
    obtain ⟨ho37, HO⟩ := HO
    refine wpG_v ho37.out rfl ?_ ?_
    · simp only [valsL_zero, valsL_succ]; exact FY_no (d := 43) rfl ho34.out (by rfl) (by kernel_rfl)
    simp only [Act.put, List.setIfInBounds_toArray, List.set_cons_zero, List.set_cons_succ, valsL_zero, valsL_succ]
    obtain ⟨ho38, HO⟩ := HO
    refine wpG_v ho38.out rfl ?_ ?_
    · simp only [valsL_zero, valsL_succ]; exact FY_no (d := 43) rfl ho34.out (by rfl) (by kernel_rfl)
    simp only [Act.put, List.setIfInBounds_toArray, List.set_cons_zero, List.set_cons_succ, valsL_zero, valsL_succ]
    obtain ⟨ho39, HO⟩ := HO
    refine wpG_v ho39.out rfl ?_ ?_
    · simp only [valsL_zero, valsL_succ]; exact FY_un (d := 47) rfl ho38.out (by rfl) (by kernel_rfl)
    simp only [Act.put, List.setIfInBounds_toArray, List.set_cons_zero, List.set_cons_succ, valsL_zero, valsL_succ]
    obtain ⟨ho40, HO⟩ := HO
    refine wpG_v ho40.out rfl ?_ ?_
    · simp only [valsL_zero, valsL_succ]; exact FY_un (d := 47) rfl ho38.out (by rfl) (by kernel_rfl)
    simp only [Act.put, List.setIfInBounds_toArray, List.set_cons_zero, List.set_cons_succ, valsL_zero, valsL_succ]
    obtain ⟨ho41, HO⟩ := HO
    refine wpG_v ho41.out rfl ?_ ?_
    · simp only [valsL_zero, valsL_succ]; exact FY_un (d := 47) rfl ho38.out (by rfl) (by kernel_rfl)
    simp only [Act.put, List.setIfInBounds_toArray, List.set_cons_zero, List.set_cons_succ, valsL_zero, valsL_succ]
    obtain ⟨ho42, HO⟩ := HO
    refine wpG_v ho42.out rfl ?_ ?_
    · simp only [valsL_zero, valsL_succ]; exact FY_no (d := 43) rfl ho34.out (by rfl) (by kernel_rfl)
    simp only [Act.put, List.setIfInBounds_toArray, List.set_cons_zero, List.set_cons_succ, valsL_zero, valsL_succ]
    refine HQ.out _ _ ?_
    intro wr hf
    simp only [List.drop_succ_cons, List.drop_zero]
    clear HQ HO ho0 ho1 ho2 ho3 ho4 ho5 ho6 ho7 ho8 ho9 ho10 ho11 ho12 ho13 ho14 ho15 ho16 ho17 ho18 ho19 ho20 ho21 ho22 ho23 ho24 ho25 ho26 ho27 ho28 ho29 ho30 ho31 ho32 ho33 ho34 ho35 ho36 ho37 ho38 ho39 ho40 ho41 ho42
    have S3 := hid (S2.out.step hf)
    clear hf
    go_wp2_with fail
    go_ret
    exact ⟨by rw [HZ.out]; rfl, S3.out.now.2⟩
  have hx : decide (o.d < 0) = false := decide_eq_false hneg
  have hx2 : decide ((3 : Int) < o.d) = false := decide_eq_false hbig
  cases hE : Y.toList.isEmpty
  case true =>
    have HZ : Hid (R = ⟨#[]⟩) := hid (by
      rw [← HRR.out]; unfold lineS; rw [if_neg]
      intro h
      have h2 := lineB_iff.1 h
      have h3 := errw_emp o.e
      rw [HY.out, hE, decide_eq_true h2.2.1] at h3
      cases h3)
    apply wp_region_N 43 (valsL (_ :: _ :: _ :: _ :: _ :: _ :: _ :: _ :: _ :: _ :: _ :: _ :: _ :: _ :: _ :: _ :: _ :: _ :: _ :: _ :: _ :: _ :: _ :: _ :: _ :: _ :: _ :: _ :: _ :: _ :: _ :: _ :: _ :: _ :: _ :: _ :: _ :: _ :: _ :: _ :: _ :: _ :: _ :: [])) ?hB3 ?main3
    case hB3 => kernel_rfl
    rotate_left 43
    intro ops QT HO HQ
    obtain ⟨ho0, HO⟩ := HO
    refine wpG_v ho0.out rfl ?_ ?_
    · simp only [valsL_zero, valsL_succ]; apply FY_in rfl; intro wx hx
      go_simp
      exact ⟨rfl, rfl⟩
    simp only [Act.put, List.setIfInBounds_toArray, List.set_cons_zero, List.set_cons_succ, valsL_zero, valsL_succ]
    obtain ⟨ho1, HO⟩ := HO
    refine wpG_v ho1.out rfl ?_ ?_
    · simp only [valsL_zero, valsL_succ]; apply FY_in rfl; intro wx hx
      have hc0 := sb_cell ((S2.out wx hx).1)
      go_simp
      exact ⟨rfl, rfl⟩
    simp only [Act.put, List.setIfInBounds_toArray, List.set_cons_zero, List.set_cons_succ, valsL_zero, valsL_succ]
    obtain ⟨ho2, HO⟩ := HO
    refine wpG_v ho2.out rfl ?_ ?_
    · simp only [valsL_zero, valsL_succ]; apply FY_in rfl; intro wx hx
      go_simp
      exact ⟨rfl, rfl⟩
    simp only [Act.put, List.setIfInBounds_toArray, List.set_cons_zero, List.set_cons_succ, valsL_zero, valsL_succ]
    obtain ⟨ho3, HO⟩ := HO
    refine wpG_v ho3.out rfl ?_ ?_
    · simp only [valsL_zero, valsL_succ]; apply FY_in rfl; intro wx hx
      go_simp
      exact ⟨rfl, rfl⟩
    simp only [Act.put, List.setIfInBounds_toArray, List.set_cons_zero, List.set_cons_succ, valsL_zero, valsL_succ]
    obtain ⟨ho4, HO⟩ := HO
    refine wpG_v ho4.out rfl ?_ ?_
    · simp only [valsL_zero, valsL_succ]; apply FY_yes (d := 12) rfl ho3.out (by rfl) (by kernel_rfl); intro wx hx
      go_simp
      exact ⟨rfl, rfl⟩
    simp only [Act.put, List.setIfInBounds_toArray, List.set_cons_zero, List.set_cons_succ, valsL_zero, valsL_succ]
    obtain ⟨ho5, HO⟩ := HO
    refine wpG_v ho5.out rfl ?_ ?_
    · simp only [valsL_zero, valsL_succ]; apply FY_yes (d := 12) rfl ho3.out (by rfl) (by kernel_rfl); intro wx hx
      have hc0 := sb_cell ((S2.out wx hx).1)
      go_simp
      exact ⟨rfl, rfl⟩
    simp only [Act.put, List.setIfInBounds_toArray, List.set_cons_zero, List.set_cons_succ, valsL_zero, valsL_succ]
    obtain ⟨ho6, HO⟩ := HO
    refine wpG_v ho6.out rfl ?_ ?_
    · simp only [valsL_zero, valsL_succ]; apply FY_yes (d := 12) rfl ho3.out (by rfl) (by kernel_rfl); intro wx hx
      go_simp
      exact ⟨rfl, rfl⟩
    simp only [Act.put, List.setIfInBounds_toArray, List.set_cons_zero, List.set_cons_succ, valsL_zero, valsL_succ]
    obtain ⟨ho7, HO⟩ := HO
    refine wpG_v ho7.out rfl ?_ ?_
    · simp only [valsL_zero, valsL_succ]; apply FY_in rfl; intro wx hx
      go_simp
      exact ⟨rfl, rfl⟩
    simp only [Act.put, List.setIfInBounds_toArray, List.set_cons_zero, List.set_cons_succ, valsL_zero, valsL_succ]
    obtain ⟨ho8, HO⟩ := HO
    refine wpG_v ho8.out rfl ?_ ?_
    · simp only [valsL_zero, valsL_succ]; apply FY_in rfl; intro wx hx
      go_simp
      exact ⟨rfl, rfl⟩
    simp only [Act.put, List.setIfInBounds_toArray, List.set_cons_zero, List.set_cons_succ, valsL_zero, valsL_succ]
    obtain ⟨ho9, HO⟩ := HO
    refine wpG_v ho9.out rfl ?_ ?_
    · simp only [valsL_zero, valsL_succ]; apply FY_yes (d := 17) rfl ho8.out (by rfl) (by kernel_rfl); intro wx hx
      go_simp
      exact ⟨rfl, rfl⟩
    simp only [Act.put, List.setIfInBounds_toArray, List.set_cons_zero, List.set_cons_succ, valsL_zero, valsL_succ]
    obtain ⟨ho10, HO⟩ := HO
    refine wpG_v ho10.out rfl ?_ ?_
    · simp only [valsL_zero, valsL_succ]; apply FY_yes (d := 17) rfl ho8.out (by rfl) (by kernel_rfl); intro wx hx
      go_simp
      exact ⟨rfl, rfl⟩
    simp only [Act.put, List.setIfInBounds_toArray, List.set_cons_zero, List.set_cons_succ, valsL_zero, valsL_succ]
    obtain ⟨ho11, HO⟩ := HO
    refine wpG_v ho11.out rfl ?_ ?_
    · simp only [valsL_zero, valsL_succ]; apply FY_in rfl; intro wx hx
      go_simp
      exact ⟨rfl, rfl⟩
    simp only [Act.put, List.setIfInBounds_toArray, List.set_cons_zero, List.set_cons_succ, valsL_zero, valsL_succ]
    obtain ⟨ho12, HO⟩ := HO
    refine wpG_v ho12.out rfl ?_ ?_
    · simp only [valsL_zero, valsL_succ]; apply FY_in rfl; intro wx hx
      go_simp
      exact ⟨rfl, rfl⟩
    simp only [Act.put, List.setIfInBounds_toArray, List.set_cons_zero, List.set_cons_succ, valsL_zero, valsL_succ]
    obtain ⟨ho13, HO⟩ := HO
    refine wpG_v ho13.out rfl ?_ ?_
    · simp only [valsL_zero, valsL_succ]; exact FY_no (d := 21) rfl ho12.out (by rfl) (by kernel_rfl)
    simp only [Act.put, List.setIfInBounds_toArray, List.set_cons_zero, List.set_cons_succ, valsL_zero, valsL_succ]
    obtain ⟨ho14, HO⟩ := HO
    refine wpG_v ho14.out rfl ?_ ?_
    · simp only [valsL_zero, valsL_succ]; exact FY_no (d := 21) rfl ho12.out (by rfl) (by kernel_rfl)
    simp only [Act.put, List.setIfInBounds_toArray, List.set_cons_zero, List.set_cons_succ, valsL_zero, valsL_succ]
    obtain ⟨ho15, HO⟩ := HO
    refine wpG_v ho15.out rfl ?_ ?_
    · simp only [valsL_zero, valsL_succ]; exact FY_no (d := 21) rfl ho12.out (by rfl) (by kernel_rfl)
    simp only [Act.put, List.setIfInBounds_toArray, List.set_cons_zero, List.set_cons_succ, valsL_zero, valsL_succ]
    obtain ⟨ho16, HO⟩ := HO
    refine wpG_v ho16.out rfl ?_ ?_
    · simp only [valsL_zero, valsL_succ]; exact FY_no (d := 21) rfl ho12.out (by rfl) (by kernel_rfl)
    simp only [Act.put, List.setIfInBounds_toArray, List.set_cons_zero, List.set_cons_succ, valsL_zero, valsL_succ]
    obtain ⟨ho17, HO⟩ := HO
    refine wpG_v ho17.out rfl ?_ ?_
    · simp only [valsL_zero, valsL_succ]; exact FY_un (d := 25) rfl ho16.out (by rfl) (by kernel_rfl)
    simp only [Act.put, List.setIfInBounds_toArray, List.set_cons_zero, List.set_cons_succ, valsL_zero, valsL_succ]
    obtain ⟨ho18, HO⟩ := HO
    refine wpG_v ho18.out rfl ?_ ?_
    · simp only [valsL_zero, valsL_succ]; exact FY_un (d := 25) rfl ho16.out (by rfl) (by kernel_rfl)
    simp only [Act.put, List.setIfInBounds_toArray, List.set_cons_zero, List.set_cons_succ, valsL_zero, valsL_succ]
    obtain ⟨ho19, HO⟩ := HO
    refine wpG_v ho19.out rfl ?_ ?_
    · simp only [valsL_zero, valsL_succ]; exact FY_un (d := 25) rfl ho16.out (by rfl) (by kernel_rfl)
    simp only [Act.put, List.setIfInBounds_toArray, List.set_cons_zero, List.set_cons_succ, valsL_zero, valsL_succ]
    obtain ⟨ho20, HO⟩ := HO
    refine wpG_v ho20.out rfl ?_ ?_
    · simp only [valsL_zero, valsL_succ]; exact FY_un (d := 25) rfl ho16.out (by rfl) (by kernel_rfl)
    simp only [Act.put, List.setIfInBounds_toArray, List.set_cons_zero, List.set_cons_succ, valsL_zero, valsL_succ]
    obtain ⟨ho21, HO⟩ := HO
    refine wpG_v ho21.out rfl ?_ ?_
    · simp only [valsL_zero, valsL_succ]; exact FY_no (d := 21) rfl ho12.out (by rfl) (by kernel_rfl)
    simp only [Act.put, List.setIfInBounds_toArray, List.set_cons_zero, List.set_cons_succ, valsL_zero, valsL_succ]
    obtain ⟨ho22, HO⟩ := HO
    refine wpG_v ho22.out rfl ?_ ?_
    · simp only [valsL_zero, valsL_succ]; apply FY_in rfl; intro wx hx
      go_simp
      exact ⟨rfl, rfl⟩
    simp only [Act.put, List.setIfInBounds_toArray, List.set_cons_zero, List.set_cons_succ, valsL_zero, valsL_succ]
    obtain ⟨ho23, HO⟩ := HO
    refine wpG_v ho23.out rfl ?_ ?_
    · simp only [valsL_zero, valsL_succ]; apply FY_in rfl; intro wx hx
      go_simp
      exact ⟨rfl, rfl⟩
    simp only [Act.put, List.setIfInBounds_toArray, List.set_cons_zero, List.set_cons_succ, valsL_zero, valsL_succ]
    obtain ⟨ho24, HO⟩ := HO
    refine wpG_v ho24.out rfl ?_ ?_
    · simp only [valsL_zero, valsL_succ]; exact FY_no (d := 32) rfl ho23.out (by rfl) (by kernel_rfl)
    simp only [Act.put, List.setIfInBounds_toArray, List.set_cons_zero, List.set_cons_succ, valsL_zero, valsL_succ]
    obtain ⟨ho25, HO⟩ := HO
    refine wpG_v ho25.out rfl ?_ ?_
    · simp only [valsL_zero, valsL_succ]; exact FY_no (d := 32) rfl ho23.out (by rfl) (by kernel_rfl)
    simp only [Act.put, List.setIfInBounds_toArray, List.set_cons_zero, List.set_cons_succ, valsL_zero, valsL_succ]
    obtain ⟨ho26, HO⟩ := HO
    refine wpG_v ho26.out rfl ?_ ?_
    · simp only [valsL_zero, valsL_succ]; exact FY_no (d := 32) rfl ho23.out (by rfl) (by kernel_rfl)
    simp only [Act.put, List.setIfInBounds_toArray, List.set_cons_zero, List.set_cons_succ, valsL_zero, valsL_succ]
    obtain ⟨ho27, HO⟩ := HO
    refine wpG_v ho27.out rfl ?_ ?_
    · simp only [valsL_zero, valsL_succ]; exact FY_no (d := 32) rfl ho23.out (by rfl) (by kernel_rfl)
    simp only [Act.put, List.setIfInBounds_toArray, List.set_cons_zero, List.set_cons_succ, valsL_zero, valsL_succ]
    obtain ⟨ho28, HO⟩ := HO
    refine wpG_v ho28.out rfl ?_ ?_
    · simp only [valsL_zero, valsL_succ]; exact FY_un (d := 36) rfl ho27.out (by rfl) (by kernel_rfl)
    simp only [Act.put, List.setIfInBounds_toArray, List.set_cons_zero, List.set_cons_succ, valsL_zero, valsL_succ]
    obtain ⟨ho29, HO⟩ := HO
    refine wpG_v ho29.out rfl ?_ ?_
    · simp only [valsL_zero, valsL_succ]; exact FY_un (d := 36) rfl ho27.out (by rfl) (by kernel_rfl)
    simp only [Act.put, List.setIfInBounds_toArray, List.set_cons_zero, List.set_cons_succ, valsL_zero, valsL_succ]
    obtain ⟨ho30, HO⟩ := HO
    refine wpG_v ho30.out rfl ?_ ?_
    · simp only [valsL_zero, valsL_succ]; exact FY_un (d := 36) rfl ho27.out (by rfl) (by kernel_rfl)
    simp only [Act.put, List.setIfInBounds_toArray, List.set_cons_zero, List.set_cons_succ, valsL_zero, valsL_succ]
    obtain ⟨ho31, HO⟩ := HO
    refine wpG_v ho31.out rfl ?_ ?_
    · simp only [valsL_zero, valsL_succ]; exact FY_un (d := 36) rfl ho27.out (by rfl) (by kernel_rfl)
    simp only [Act.put, List.setIfInBounds_toArray, List.set_cons_zero, List.set_cons_succ, valsL_zero, valsL_succ]
    obtain ⟨ho32, HO⟩ := HO
    refine wpG_v ho32.out rfl ?_ ?_
    · simp only [valsL_zero, valsL_succ]; exact FY_no (d := 32) rfl ho23.out (by rfl) (by kernel_rfl)
    simp only [Act.put, List.setIfInBounds_toArray, List.set_cons_zero, List.set_cons_succ, valsL_zero, valsL_succ]
    obtain ⟨ho33, HO⟩ := HO
    refine wpG_v ho33.out rfl ?_ ?_
    · simp only [valsL_zero, valsL_succ]; apply FY_in rfl; intro wx hx
      go_simp
      exact ⟨rfl, rfl⟩
    simp only [Act.put, List.setIfInBounds_toArray, List.set_cons_zero, List.set_cons_succ, valsL_zero, valsL_succ]
    obtain ⟨ho34, HO⟩ := HO
    refine wpG_v ho34.out rfl ?_ ?_
    · simp only [valsL_zero, valsL_succ]; apply FY_in rfl; intro wx hx
      go_simp
      exact ⟨rfl, rfl⟩
    simp only [Act.put, List.setIfInBounds_toArray, List.set_cons_zero, List.set_cons_succ, valsL_zero, valsL_succ]
    obtain ⟨ho35, HO⟩ := HO
    refine wpG_v ho35.out rfl ?_ ?_
    · simp only [valsL_zero, valsL_succ]; exact FY_no (d := 43) rfl ho34.out (by rfl) (by kernel_rfl)
    simp only [Act.put, List.setIfInBounds_toArray, List.set_cons_zero, List.set_cons_succ, valsL_zero, valsL_succ]
    obtain ⟨ho36, HO⟩ := HO
    refine wpG_v ho36.out rfl ?_ ?_
    · simp only [valsL_zero, valsL_succ]; exact FY_no (d := 43) rfl ho34.out (by rfl) (by kernel_rfl)
    simp only [Act.put, List.setIfInBounds_toArray, List.set_cons_zero, List.set_cons_succ, valsL_zero, valsL_succ]
    obtain ⟨ho37, HO⟩ := HO
    refine wpG_v ho37.out rfl ?_ ?_
    · simp only [valsL_zero, valsL_succ]; exact FY_no (d := 43) rfl ho34.out (by rfl) (by kernel_rfl)
    simp only [Act.put, List.setIfInBounds_toArray, List.set_cons_zero, List.set_cons_succ, valsL_zero, valsL_succ]
    obtain ⟨ho38, HO⟩ := HO
    refine wpG_v ho38.out rfl ?_ ?_
    · simp only [valsL_zero, valsL_succ]; exact FY_no (d := 43) rfl ho34.out (by rfl) (by kernel_rfl)
    simp only [Act.put, List.setIfInBounds_toArray, List.set_cons_zero, List.set_cons_succ, valsL_zero, valsL_succ]
    obtain ⟨ho39, HO⟩ := HO
    refine wpG_v ho39.out rfl ?_ ?_
    · simp only [valsL_zero, valsL_succ]; exact FY_un (d := 47) rfl ho38.out (by rfl) (by kernel_rfl)
    simp only [Act.put, List.setIfInBounds_toArray, List.set_cons_zero, List.set_cons_succ, valsL_zero, valsL_succ]
    obtain ⟨ho40, HO⟩ := HO
    refine wpG_v ho40.out rfl ?_ ?_
    · simp only [valsL_zero, valsL_succ]; exact FY_un (d := 47) rfl ho38.out (by rfl) (by kernel_rfl)
    simp only [Act.put, List.setIfInBounds_toArray, List.set_cons_zero, List.set_cons_succ, valsL_zero, valsL_succ]
    obtain ⟨ho41, HO⟩ := HO
    refine wpG_v ho41.out rfl ?_ ?_
    · simp only [valsL_zero, valsL_succ]; exact FY_un (d := 47) rfl ho38.out (by rfl) (by kernel_rfl)
    simp only [Act.put, List.setIfInBounds_toArray, List.set_cons_zero, List.set_cons_succ, valsL_zero, valsL_succ]
    obtain ⟨ho42, HO⟩ := HO
    refine wpG_v ho42.out rfl ?_ ?_
    · simp only [valsL_zero, valsL_succ]; exact FY_no (d := 43) rfl ho34.out (by rfl) (by kernel_rfl)
    simp only [Act.put, List.setIfInBounds_toArray, List.set_cons_zero, List.set_cons_succ, valsL_zero, valsL_succ]
    refine HQ.out _ _ ?_
    intro wr hf
    simp only [List.drop_succ_cons, List.drop_zero]
    clear HQ HO ho0 ho1 ho2 ho3 ho4 ho5 ho6 ho7 ho8 ho9 ho10 ho11 ho12 ho13 ho14 ho15 ho16 ho17 ho18 ho19 ho20 ho21 ho22 ho23 ho24 ho25 ho26 ho27 ho28 ho29 ho30 ho31 ho32 ho33 ho34 ho35 ho36 ho37 ho38 ho39 ho40 ho41 ho42
    have S3 := hid (S2.out.step hf)
    clear hf
    go_wp2_with fail
    go_ret
    exact ⟨by rw [HZ.out]; rfl, S3.out.now.2⟩
  have hes : Y.size ≤ 10 := by
    have h := hE
    rw [← HY.out] at h ⊢
    exact (errw_ok h).2
  have HES := hid hes
  have HE13 : Hid (0 ≤ o.e ∧ o.e ≤ 13) := hid (by
    have h := hE
    rw [← HY.out] at h
    exact (errw_ok h).1)
  clear hes
  by_cases h0 : o.d = 0
  · have d0 : (o.d == 0) = true := by simp [h0]
    have d1 : (o.d == 1) = false := by simp [h0]
    have d2 : decide (o.d < 2) = true := decide_eq_true (by omega)
    have d2' : o.d < 2 := by omega
    have dn : (o.d != 1) = true := by simp [h0]
    cases hq : rneq ⟨o.r.k, o.r.e, o.r.w, o.r.n, o.r.q, o.r.t, ⟨o.r.p.s0, o.r.p.s1, o.r.p.s2, o.r.p.s3, o.r.p.s4, o.r.p.s5, o.r.p.s6, o.r.p.s7, o.r.p.s8, o.r.p.s9, o.r.p.s10, o.r.p.s11⟩⟩ ⟨0, 0, 0, 0, 0, ⟨#[]⟩, ⟨0, 0, 0, 0, 0, 0, 0, 0, 0, 0, 0, 0⟩⟩
    case true =>
      have HZ : Hid (R = ⟨#[]⟩) := hid (by
        rw [← HRR.out]; unfold lineS; rw [if_neg]
        intro h
        have h2 := lineB_iff.1 h
        have h3 := h2.2.2
        unfold moreB at h3
        rw [if_pos h0, Bool.and_eq_true, req_iff2] at h3
        exact rneq_iff.1 hq h3.1)
      apply wp_region_N 43 (valsL (_ :: _ :: _ :: _ :: _ :: _ :: _ :: _ :: _ :: _ :: _ :: _ :: _ :: _ :: _ :: _ :: _ :: _ :: (.agg #[.int .i64 o.r.k, .int .i64 o.r.e, .int .i64 o.r.w, .int .i64 o.r.n, .int .i64 o.r.q, .string o.r.t, .int .i64 o.r.p.s0, .int .i64 o.r.p.s1, .int .i64 o.r.p.s2, .int .i64 o.r.p.s3, .int .i64 o.r.p.s4, .int .i64 o.r.p.s5, .int .i64 o.r.p.s6, .int .i64 o.r.p.s7, .int .i64 o.r.p.s8, .int .i64 o.r.p.s9, .int .i64 o.r.p.s10, .int .i64 o.r.p.s11]) :: _ :: _ :: _ :: _ :: _ :: _ :: _ :: _ :: _ :: _ :: _ :: _ :: _ :: _ :: _ :: _ :: _ :: _ :: _ :: _ :: _ :: _ :: _ :: _ :: [])) ?hB4 ?main4
      case hB4 => kernel_rfl
      rotate_left 42
      intro ops QT HO HQ
      obtain ⟨ho0, HO⟩ := HO
      refine wpG_v ho0.out rfl ?_ ?_
      · simp only [valsL_zero, valsL_succ]; apply FY_in rfl; intro wx hx
        go_simp
        exact ⟨rfl, rfl⟩
      simp only [Act.put, List.setIfInBounds_toArray, List.set_cons_zero, List.set_cons_succ, valsL_zero, valsL_succ]
      obtain ⟨ho1, HO⟩ := HO
      refine wpG_v ho1.out rfl ?_ ?_
      · simp only [valsL_zero, valsL_succ]; apply FY_in rfl; intro wx hx
        have hc0 := sb_cell ((S2.out wx hx).1)
        go_simp
        exact ⟨rfl, rfl⟩
      simp only [Act.put, List.setIfInBounds_toArray, List.set_cons_zero, List.set_cons_succ, valsL_zero, valsL_succ]
      obtain ⟨ho2, HO⟩ := HO
      refine wpG_v ho2.out rfl ?_ ?_
      · simp only [valsL_zero, valsL_succ]; apply FY_in rfl; intro wx hx
        go_simp
        exact ⟨rfl, rfl⟩
      simp only [Act.put, List.setIfInBounds_toArray, List.set_cons_zero, List.set_cons_succ, valsL_zero, valsL_succ]
      obtain ⟨ho3, HO⟩ := HO
      refine wpG_v ho3.out rfl ?_ ?_
      · simp only [valsL_zero, valsL_succ]; apply FY_in rfl; intro wx hx
        go_simp
        exact ⟨rfl, rfl⟩
      simp only [Act.put, List.setIfInBounds_toArray, List.set_cons_zero, List.set_cons_succ, valsL_zero, valsL_succ]
      obtain ⟨ho4, HO⟩ := HO
      refine wpG_v ho4.out rfl ?_ ?_
      · simp only [valsL_zero, valsL_succ]; apply FY_yes (d := 12) rfl ho3.out (by rfl) (by kernel_rfl); intro wx hx
        go_simp
        exact ⟨rfl, rfl⟩
      simp only [Act.put, List.setIfInBounds_toArray, List.set_cons_zero, List.set_cons_succ, valsL_zero, valsL_succ]
      obtain ⟨ho5, HO⟩ := HO
      refine wpG_v ho5.out rfl ?_ ?_
      · simp only [valsL_zero, valsL_succ]; apply FY_yes (d := 12) rfl ho3.out (by rfl) (by kernel_rfl); intro wx hx
        have hc0 := sb_cell ((S2.out wx hx).1)
        go_simp
        exact ⟨rfl, rfl⟩
      simp only [Act.put, List.setIfInBounds_toArray, List.set_cons_zero, List.set_cons_succ, valsL_zero, valsL_succ]
      obtain ⟨ho6, HO⟩ := HO
      refine wpG_v ho6.out rfl ?_ ?_
      · simp only [valsL_zero, valsL_succ]; apply FY_yes (d := 12) rfl ho3.out (by rfl) (by kernel_rfl); intro wx hx
        go_simp
        exact ⟨rfl, rfl⟩
      simp only [Act.put, List.setIfInBounds_toArray, List.set_cons_zero, List.set_cons_succ, valsL_zero, valsL_succ]
      obtain ⟨ho7, HO⟩ := HO
      refine wpG_v ho7.out rfl ?_ ?_
      · simp only [valsL_zero, valsL_succ]; apply FY_in rfl; intro wx hx
        go_simp
        exact ⟨rfl, rfl⟩
      simp only [Act.put, List.setIfInBounds_toArray, List.set_cons_zero, List.set_cons_succ, valsL_zero, valsL_succ]
      obtain ⟨ho8, HO⟩ := HO
      refine wpG_v ho8.out rfl ?_ ?_
      · simp only [valsL_zero, valsL_succ]; apply FY_in rfl; intro wx hx
        go_simp
        exact ⟨rfl, rfl⟩
      simp only [Act.put, List.setIfInBounds_toArray, List.set_cons_zero, List.set_cons_succ, valsL_zero, valsL_succ]
      obtain ⟨ho9, HO⟩ := HO
      refine wpG_v ho9.out rfl ?_ ?_
      · simp only [valsL_zero, valsL_succ]; apply FY_yes (d := 17) rfl ho8.out (by rfl) (by kernel_rfl); intro wx hx
        go_simp
        exact ⟨rfl, rfl⟩
      simp only [Act.put, List.setIfInBounds_toArray, List.set_cons_zero, List.set_cons_succ, valsL_zero, valsL_succ]
      obtain ⟨ho10, HO⟩ := HO
      refine wpG_v ho10.out rfl ?_ ?_
      · simp only [valsL_zero, valsL_succ]; apply FY_yes (d := 17) rfl ho8.out (by rfl) (by kernel_rfl); intro wx hx
        go_simp
        exact ⟨rfl, rfl⟩
      simp only [Act.put, List.setIfInBounds_toArray, List.set_cons_zero, List.set_cons_succ, valsL_zero, valsL_succ]
      obtain ⟨ho11, HO⟩ := HO
      refine wpG_v ho11.out rfl ?_ ?_
      · simp only [valsL_zero, valsL_succ]; apply FY_in rfl; intro wx hx
        go_simp
        exact ⟨rfl, rfl⟩
      simp only [Act.put, List.setIfInBounds_toArray, List.set_cons_zero, List.set_cons_succ, valsL_zero, valsL_succ]
      obtain ⟨ho12, HO⟩ := HO
      refine wpG_v ho12.out rfl ?_ ?_
      · simp only [valsL_zero, valsL_succ]; apply FY_in rfl; intro wx hx
        go_simp
        exact ⟨rfl, rfl⟩
      simp only [Act.put, List.setIfInBounds_toArray, List.set_cons_zero, List.set_cons_succ, valsL_zero, valsL_succ]
      obtain ⟨ho13, HO⟩ := HO
      refine wpG_v ho13.out rfl ?_ ?_
      · simp only [valsL_zero, valsL_succ]; apply FY_yes (d := 21) rfl ho12.out (by rfl) (by kernel_rfl); intro wx hx
        go_simp
        exact ⟨rfl, rfl⟩
      simp only [Act.put, List.setIfInBounds_toArray, List.set_cons_zero, List.set_cons_succ, valsL_zero, valsL_succ]
      obtain ⟨ho14, HO⟩ := HO
      refine wpG_v ho14.out rfl ?_ ?_
      · simp only [valsL_zero, valsL_succ]; apply FY_yes (d := 21) rfl ho12.out (by rfl) (by kernel_rfl); intro wx hx
        have hc0 := sb_cell ((S2.out wx hx).1)
        go_simp
        exact ⟨rfl, rfl⟩
      simp only [Act.put, List.setIfInBounds_toArray, List.set_cons_zero, List.set_cons_succ, valsL_zero, valsL_succ]
      obtain ⟨ho15, HO⟩ := HO
      refine wpG_v ho15.out rfl ?_ ?_
      · simp only [valsL_zero, valsL_succ]; apply FY_yes (d := 21) rfl ho12.out (by rfl) (by kernel_rfl); intro wx hx
        go_simp
        exact ⟨rfl, rfl⟩
      simp only [Act.put, List.setIfInBounds_toArray, List.set_cons_zero, List.set_cons_succ, valsL_zero, valsL_succ]
      obtain ⟨ho16, HO⟩ := HO
      refine wpG_v ho16.out rfl ?_ ?_
      · simp only [valsL_zero, valsL_succ]; apply FY_yes (d := 21) rfl ho12.out (by rfl) (by kernel_rfl); intro wx hx
        go_simp
        exact ⟨rfl, rfl⟩
      simp only [Act.put, List.setIfInBounds_toArray, List.set_cons_zero, List.set_cons_succ, valsL_zero, valsL_succ]
      obtain ⟨ho17, HO⟩ := HO
      refine wpG_v ho17.out rfl ?_ ?_
      · simp only [valsL_zero, valsL_succ]; apply FY_yes (d := 25) rfl ho16.out (by rfl) (by kernel_rfl); intro wx hx
        go_simp
        exact ⟨rfl, rfl⟩
      simp only [Act.put, List.setIfInBounds_toArray, List.set_cons_zero, List.set_cons_succ, valsL_zero, valsL_succ]
      obtain ⟨ho18, HO⟩ := HO
      refine wpG_v ho18.out rfl ?_ ?_
      · simp only [valsL_zero, valsL_succ]; apply FY_yes (d := 25) rfl ho16.out (by rfl) (by kernel_rfl); intro wx hx
        exact fu_load_at_g 27 (.tmp 26) rfl (b) 2 (by kernel_rfl) _ _ _ _ _ ((S2.out wx hx).1) (by rfl) (by simp) Tryz.underlying27 rfl (by kernel_rfl)
      simp only [Act.put, List.setIfInBounds_toArray, List.set_cons_zero, List.set_cons_succ, valsL_zero, valsL_succ]
      obtain ⟨ho19, HO⟩ := HO
      refine wpG_v ho19.out rfl ?_ ?_
      · simp only [valsL_zero, valsL_succ]; apply FY_yes (d := 25) rfl ho16.out (by rfl) (by kernel_rfl); intro wx hx
        go_simp
        exact ⟨rfl, rfl⟩
      simp only [Act.put, List.setIfInBounds_toArray, List.set_cons_zero, List.set_cons_succ, valsL_zero, valsL_succ]
      obtain ⟨ho20, HO⟩ := HO
      refine wpG_v ho20.out rfl ?_ ?_
      · simp only [valsL_zero, valsL_succ]; apply FY_yes (d := 25) rfl ho16.out (by rfl) (by kernel_rfl); intro wx hx
        go_simp
        exact ⟨rfl, rfl⟩
      simp only [Act.put, List.setIfInBounds_toArray, List.set_cons_zero, List.set_cons_succ, valsL_zero, valsL_succ]
      obtain ⟨ho21, HO⟩ := HO
      refine wpG_v ho21.out rfl ?_ ?_
      · simp only [valsL_zero, valsL_succ]; apply FY_yes (d := 21) rfl ho12.out (by rfl) (by kernel_rfl); intro wx hx
        go_simp
        exact ⟨rfl, rfl⟩
      simp only [Act.put, List.setIfInBounds_toArray, List.set_cons_zero, List.set_cons_succ, valsL_zero, valsL_succ]
      obtain ⟨ho22, HO⟩ := HO
      refine wpG_v ho22.out rfl ?_ ?_
      · simp only [valsL_zero, valsL_succ]; apply FY_in rfl; intro wx hx
        go_simp
        exact ⟨rfl, rfl⟩
      simp only [Act.put, List.setIfInBounds_toArray, List.set_cons_zero, List.set_cons_succ, valsL_zero, valsL_succ]
      obtain ⟨ho23, HO⟩ := HO
      refine wpG_v ho23.out rfl ?_ ?_
      · simp only [valsL_zero, valsL_succ]; apply FY_in rfl; intro wx hx
        go_simp
        exact ⟨rfl, rfl⟩
      simp only [Act.put, List.setIfInBounds_toArray, List.set_cons_zero, List.set_cons_succ, valsL_zero, valsL_succ]
      obtain ⟨ho24, HO⟩ := HO
      refine wpG_v ho24.out rfl ?_ ?_
      · simp only [valsL_zero, valsL_succ]; exact FY_no (d := 32) rfl ho23.out (by rfl) (by kernel_rfl)
      simp only [Act.put, List.setIfInBounds_toArray, List.set_cons_zero, List.set_cons_succ, valsL_zero, valsL_succ]
      obtain ⟨ho25, HO⟩ := HO
      refine wpG_v ho25.out rfl ?_ ?_
      · simp only [valsL_zero, valsL_succ]; exact FY_no (d := 32) rfl ho23.out (by rfl) (by kernel_rfl)
      simp only [Act.put, List.setIfInBounds_toArray, List.set_cons_zero, List.set_cons_succ, valsL_zero, valsL_succ]
      obtain ⟨ho26, HO⟩ := HO
      refine wpG_v ho26.out rfl ?_ ?_
      · simp only [valsL_zero, valsL_succ]; exact FY_no (d := 32) rfl ho23.out (by rfl) (by kernel_rfl)
      simp only [Act.put, List.setIfInBounds_toArray, List.set_cons_zero, List.set_cons_succ, valsL_zero, valsL_succ]
      obtain ⟨ho27, HO⟩ := HO
      refine wpG_v ho27.out rfl ?_ ?_
      · simp only [valsL_zero, valsL_succ]; exact FY_no (d := 32) rfl ho23.out (by rfl) (by kernel_rfl)
      simp only [Act.put, List.setIfInBounds_toArray, List.set_cons_zero, List.set_cons_succ, valsL_zero, valsL_succ]
      obtain ⟨ho28, HO⟩ := HO
      refine wpG_v ho28.out rfl ?_ ?_
      · simp only [valsL_zero, valsL_succ]; exact FY_un (d := 36) rfl ho27.out (by rfl) (by kernel_rfl)
      simp only [Act.put, List.setIfInBounds_toArray, List.set_cons_zero, List.set_cons_succ, valsL_zero, valsL_succ]
      obtain ⟨ho29, HO⟩ := HO
      refine wpG_v ho29.out rfl ?_ ?_
      · simp only [valsL_zero, valsL_succ]; exact FY_un (d := 36) rfl ho27.out (by rfl) (by kernel_rfl)
      simp only [Act.put, List.setIfInBounds_toArray, List.set_cons_zero, List.set_cons_succ, valsL_zero, valsL_succ]
      obtain ⟨ho30, HO⟩ := HO
      refine wpG_v ho30.out rfl ?_ ?_
      · simp only [valsL_zero, valsL_succ]; exact FY_un (d := 36) rfl ho27.out (by rfl) (by kernel_rfl)
      simp only [Act.put, List.setIfInBounds_toArray, List.set_cons_zero, List.set_cons_succ, valsL_zero, valsL_succ]
      obtain ⟨ho31, HO⟩ := HO
      refine wpG_v ho31.out rfl ?_ ?_
      · simp only [valsL_zero, valsL_succ]; exact FY_un (d := 36) rfl ho27.out (by rfl) (by kernel_rfl)
      simp only [Act.put, List.setIfInBounds_toArray, List.set_cons_zero, List.set_cons_succ, valsL_zero, valsL_succ]
      obtain ⟨ho32, HO⟩ := HO
      refine wpG_v ho32.out rfl ?_ ?_
      · simp only [valsL_zero, valsL_succ]; exact FY_no (d := 32) rfl ho23.out (by rfl) (by kernel_rfl)
      simp only [Act.put, List.setIfInBounds_toArray, List.set_cons_zero, List.set_cons_succ, valsL_zero, valsL_succ]
      obtain ⟨ho33, HO⟩ := HO
      refine wpG_v ho33.out rfl ?_ ?_
      · simp only [valsL_zero, valsL_succ]; apply FY_in rfl; intro wx hx
        go_simp
        exact ⟨rfl, rfl⟩
      simp only [Act.put, List.setIfInBounds_toArray, List.set_cons_zero, List.set_cons_succ, valsL_zero, valsL_succ]
      obtain ⟨ho34, HO⟩ := HO
      refine wpG_v ho34.out rfl ?_ ?_
      · simp only [valsL_zero, valsL_succ]; apply FY_in rfl; intro wx hx
        go_simp
        exact ⟨rfl, rfl⟩
      simp only [Act.put, List.setIfInBounds_toArray, List.set_cons_zero, List.set_cons_succ, valsL_zero, valsL_succ]
      obtain ⟨ho35, HO⟩ := HO
      refine wpG_v ho35.out rfl ?_ ?_
      · simp only [valsL_zero, valsL_succ]; exact FY_no (d := 43) rfl ho34.out (by rfl) (by kernel_rfl)
      simp only [Act.put, List.setIfInBounds_toArray, List.set_cons_zero, List.set_cons_succ, valsL_zero, valsL_succ]
      obtain ⟨ho36, HO⟩ := HO
      refine wpG_v ho36.out rfl ?_ ?_
      · simp only [valsL_zero, valsL_succ]; exact FY_no (d := 43) rfl ho34.out (by rfl) (by kernel_rfl)
      simp only [Act.put, List.setIfInBounds_toArray, List.set_cons_zero, List.set_cons_succ, valsL_zero, valsL_succ]
      obtain ⟨ho37, HO⟩ := HO
      refine wpG_v ho37.out rfl ?_ ?_
      · simp only [valsL_zero, valsL_succ]; exact FY_no (d := 43) rfl ho34.out (by rfl) (by kernel_rfl)
      simp only [Act.put, List.setIfInBounds_toArray, List.set_cons_zero, List.set_cons_succ, valsL_zero, valsL_succ]
      obtain ⟨ho38, HO⟩ := HO
      refine wpG_v ho38.out rfl ?_ ?_
      · simp only [valsL_zero, valsL_succ]; exact FY_no (d := 43) rfl ho34.out (by rfl) (by kernel_rfl)
      simp only [Act.put, List.setIfInBounds_toArray, List.set_cons_zero, List.set_cons_succ, valsL_zero, valsL_succ]
      obtain ⟨ho39, HO⟩ := HO
      refine wpG_v ho39.out rfl ?_ ?_
      · simp only [valsL_zero, valsL_succ]; exact FY_un (d := 47) rfl ho38.out (by rfl) (by kernel_rfl)
      simp only [Act.put, List.setIfInBounds_toArray, List.set_cons_zero, List.set_cons_succ, valsL_zero, valsL_succ]
      obtain ⟨ho40, HO⟩ := HO
      refine wpG_v ho40.out rfl ?_ ?_
      · simp only [valsL_zero, valsL_succ]; exact FY_un (d := 47) rfl ho38.out (by rfl) (by kernel_rfl)
      simp only [Act.put, List.setIfInBounds_toArray, List.set_cons_zero, List.set_cons_succ, valsL_zero, valsL_succ]
      obtain ⟨ho41, HO⟩ := HO
      refine wpG_v ho41.out rfl ?_ ?_
      · simp only [valsL_zero, valsL_succ]; exact FY_un (d := 47) rfl ho38.out (by rfl) (by kernel_rfl)
      simp only [Act.put, List.setIfInBounds_toArray, List.set_cons_zero, List.set_cons_succ, valsL_zero, valsL_succ]
      obtain ⟨ho42, HO⟩ := HO
      refine wpG_v ho42.out rfl ?_ ?_
      · simp only [valsL_zero, valsL_succ]; exact FY_no (d := 43) rfl ho34.out (by rfl) (by kernel_rfl)
      simp only [Act.put, List.setIfInBounds_toArray, List.set_cons_zero, List.set_cons_succ, valsL_zero, valsL_succ]
      refine HQ.out _ _ ?_
      intro wr hf
      simp only [List.drop_succ_cons, List.drop_zero]
      clear HQ HO ho0 ho1 ho2 ho3 ho4 ho5 ho6 ho7 ho8 ho9 ho10 ho11 ho12 ho13 ho14 ho15 ho16 ho17 ho18 ho19 ho20 ho21 ho22 ho23 ho24 ho25 ho26 ho27 ho28 ho29 ho30 ho31 ho32 ho33 ho34 ho35 ho36 ho37 ho38 ho39 ho40 ho41 ho42
      have S3 := hid (S2.out.step hf)
      clear hf
      go_wp2_with fail
      go_ret
      exact ⟨by rw [HZ.out]; rfl, S3.out.now.2⟩
    cases hm : mneq ⟨o.m.k, o.m.e, o.m.s, o.m.u, o.m.v, o.m.t⟩ ⟨0, 0, 0, 0, 0, 0⟩
    case true =>
      have HZ : Hid (R = ⟨#[]⟩) := hid (by
        rw [← HRR.out]; unfold lineS; rw [if_neg]
        intro h
        have h2 := lineB_iff.1 h
        have h3 := h2.2.2
        unfold moreB at h3
        rw [if_pos h0, Bool.and_eq_true, meq_iff] at h3
        exact mneq_iff.1 hm h3.2)
      apply wp_region_N 43 (valsL (_ :: _ :: _ :: _ :: _ :: _ :: _ :: _ :: _ :: _ :: _ :: _ :: _ :: _ :: _ :: _ :: _ :: _ :: (.agg #[.int .i64 o.r.k, .int .i64 o.r.e, .int .i64 o.r.w, .int .i64 o.r.n, .int .i64 o.r.q, .string o.r.t, .int .i64 o.r.p.s0, .int .i64 o.r.p.s1, .int .i64 o.r.p.s2, .int .i64 o.r.p.s3, .int .i64 o.r.p.s4, .int .i64 o.r.p.s5, .int .i64 o.r.p.s6, .int .i64 o.r.p.s7, .int .i64 o.r.p.s8, .int .i64 o.r.p.s9, .int .i64 o.r.p.s10, .int .i64 o.r.p.s11]) :: _ :: _ :: _ :: _ :: _ :: _ :: _ :: _ :: _ :: _ :: (.agg #[.int .i64 o.m.k, .int .i64 o.m.e, .int .i64 o.m.s, .int .i64 o.m.u, .int .i64 o.m.v, .int .i64 o.m.t]) :: _ :: _ :: _ :: _ :: _ :: _ :: _ :: _ :: _ :: _ :: _ :: _ :: _ :: [])) ?hB5 ?main5
      case hB5 => kernel_rfl
      rotate_left 41
      intro ops QT HO HQ
      obtain ⟨ho0, HO⟩ := HO
      refine wpG_v ho0.out rfl ?_ ?_
      · simp only [valsL_zero, valsL_succ]; apply FY_in rfl; intro wx hx
        go_simp
        exact ⟨rfl, rfl⟩
      simp only [Act.put, List.setIfInBounds_toArray, List.set_cons_zero, List.set_cons_succ, valsL_zero, valsL_succ]
      obtain ⟨ho1, HO⟩ := HO
      refine wpG_v ho1.out rfl ?_ ?_
      · simp only [valsL_zero, valsL_succ]; apply FY_in rfl; intro wx hx
        have hc0 := sb_cell ((S2.out wx hx).1)
        go_simp
        exact ⟨rfl, rfl⟩
      simp only [Act.put, List.setIfInBounds_toArray, List.set_cons_zero, List.set_cons_succ, valsL_zero, valsL_succ]
      obtain ⟨ho2, HO⟩ := HO
      refine wpG_v ho2.out rfl ?_ ?_
      · simp only [valsL_zero, valsL_succ]; apply FY_in rfl; intro wx hx
        go_simp
        exact ⟨rfl, rfl⟩
      simp only [Act.put, List.setIfInBounds_toArray, List.set_cons_zero, List.set_cons_succ, valsL_zero, valsL_succ]
      obtain ⟨ho3, HO⟩ := HO
      refine wpG_v ho3.out rfl ?_ ?_
      · simp only [valsL_zero, valsL_succ]; apply FY_in rfl; intro wx hx
        go_simp
        exact ⟨rfl, rfl⟩
      simp only [Act.put, List.setIfInBounds_toArray, List.set_cons_zero, List.set_cons_succ, valsL_zero, valsL_succ]
      obtain ⟨ho4, HO⟩ := HO
      refine wpG_v ho4.out rfl ?_ ?_
      · simp only [valsL_zero, valsL_succ]; apply FY_yes (d := 12) rfl ho3.out (by rfl) (by kernel_rfl); intro wx hx
        go_simp
        exact ⟨rfl, rfl⟩
      simp only [Act.put, List.setIfInBounds_toArray, List.set_cons_zero, List.set_cons_succ, valsL_zero, valsL_succ]
      obtain ⟨ho5, HO⟩ := HO
      refine wpG_v ho5.out rfl ?_ ?_
      · simp only [valsL_zero, valsL_succ]; apply FY_yes (d := 12) rfl ho3.out (by rfl) (by kernel_rfl); intro wx hx
        have hc0 := sb_cell ((S2.out wx hx).1)
        go_simp
        exact ⟨rfl, rfl⟩
      simp only [Act.put, List.setIfInBounds_toArray, List.set_cons_zero, List.set_cons_succ, valsL_zero, valsL_succ]
      obtain ⟨ho6, HO⟩ := HO
      refine wpG_v ho6.out rfl ?_ ?_
      · simp only [valsL_zero, valsL_succ]; apply FY_yes (d := 12) rfl ho3.out (by rfl) (by kernel_rfl); intro wx hx
        go_simp
        exact ⟨rfl, rfl⟩
      simp only [Act.put, List.setIfInBounds_toArray, List.set_cons_zero, List.set_cons_succ, valsL_zero, valsL_succ]
      obtain ⟨ho7, HO⟩ := HO
      refine wpG_v ho7.out rfl ?_ ?_
      · simp only [valsL_zero, valsL_succ]; apply FY_in rfl; intro wx hx
        go_simp
        exact ⟨rfl, rfl⟩
      simp only [Act.put, List.setIfInBounds_toArray, List.set_cons_zero, List.set_cons_succ, valsL_zero, valsL_succ]
      obtain ⟨ho8, HO⟩ := HO
      refine wpG_v ho8.out rfl ?_ ?_
      · simp only [valsL_zero, valsL_succ]; apply FY_in rfl; intro wx hx
        go_simp
        exact ⟨rfl, rfl⟩
      simp only [Act.put, List.setIfInBounds_toArray, List.set_cons_zero, List.set_cons_succ, valsL_zero, valsL_succ]
      obtain ⟨ho9, HO⟩ := HO
      refine wpG_v ho9.out rfl ?_ ?_
      · simp only [valsL_zero, valsL_succ]; apply FY_yes (d := 17) rfl ho8.out (by rfl) (by kernel_rfl); intro wx hx
        go_simp
        exact ⟨rfl, rfl⟩
      simp only [Act.put, List.setIfInBounds_toArray, List.set_cons_zero, List.set_cons_succ, valsL_zero, valsL_succ]
      obtain ⟨ho10, HO⟩ := HO
      refine wpG_v ho10.out rfl ?_ ?_
      · simp only [valsL_zero, valsL_succ]; apply FY_yes (d := 17) rfl ho8.out (by rfl) (by kernel_rfl); intro wx hx
        go_simp
        exact ⟨rfl, rfl⟩
      simp only [Act.put, List.setIfInBounds_toArray, List.set_cons_zero, List.set_cons_succ, valsL_zero, valsL_succ]
      obtain ⟨ho11, HO⟩ := HO
      refine wpG_v ho11.out rfl ?_ ?_
      · simp only [valsL_zero, valsL_succ]; apply FY_in rfl; intro wx hx
        go_simp
        exact ⟨rfl, rfl⟩
      simp only [Act.put, List.setIfInBounds_toArray, List.set_cons_zero, List.set_cons_succ, valsL_zero, valsL_succ]
      obtain ⟨ho12, HO⟩ := HO
      refine wpG_v ho12.out rfl ?_ ?_
      · simp only [valsL_zero, valsL_succ]; apply FY_in rfl; intro wx hx
        go_simp
        exact ⟨rfl, rfl⟩
      simp only [Act.put, List.setIfInBounds_toArray, List.set_cons_zero, List.set_cons_succ, valsL_zero, valsL_succ]
      obtain ⟨ho13, HO⟩ := HO
      refine wpG_v ho13.out rfl ?_ ?_
      · simp only [valsL_zero, valsL_succ]; apply FY_yes (d := 21) rfl ho12.out (by rfl) (by kernel_rfl); intro wx hx
        go_simp
        exact ⟨rfl, rfl⟩
      simp only [Act.put, List.setIfInBounds_toArray, List.set_cons_zero, List.set_cons_succ, valsL_zero, valsL_succ]
      obtain ⟨ho14, HO⟩ := HO
      refine wpG_v ho14.out rfl ?_ ?_
      · simp only [valsL_zero, valsL_succ]; apply FY_yes (d := 21) rfl ho12.out (by rfl) (by kernel_rfl); intro wx hx
        have hc0 := sb_cell ((S2.out wx hx).1)
        go_simp
        exact ⟨rfl, rfl⟩
      simp only [Act.put, List.setIfInBounds_toArray, List.set_cons_zero, List.set_cons_succ, valsL_zero, valsL_succ]
      obtain ⟨ho15, HO⟩ := HO
      refine wpG_v ho15.out rfl ?_ ?_
      · simp only [valsL_zero, valsL_succ]; apply FY_yes (d := 21) rfl ho12.out (by rfl) (by kernel_rfl); intro wx hx
        go_simp
        exact ⟨rfl, rfl⟩
      simp only [Act.put, List.setIfInBounds_toArray, List.set_cons_zero, List.set_cons_succ, valsL_zero, valsL_succ]
      obtain ⟨ho16, HO⟩ := HO
      refine wpG_v ho16.out rfl ?_ ?_
      · simp only [valsL_zero, valsL_succ]; apply FY_yes (d := 21) rfl ho12.out (by rfl) (by kernel_rfl); intro wx hx
        go_simp
        exact ⟨rfl, rfl⟩
      simp only [Act.put, List.setIfInBounds_toArray, List.set_cons_zero, List.set_cons_succ, valsL_zero, valsL_succ]
      obtain ⟨ho17, HO⟩ := HO
      refine wpG_v ho17.out rfl ?_ ?_
      · simp only [valsL_zero, valsL_succ]; apply FY_yes (d := 25) rfl ho16.out (by rfl) (by kernel_rfl); intro wx hx
        go_simp
        exact ⟨rfl, rfl⟩
      simp only [Act.put, List.setIfInBounds_toArray, List.set_cons_zero, List.set_cons_succ, valsL_zero, valsL_succ]
      obtain ⟨ho18, HO⟩ := HO
      refine wpG_v ho18.out rfl ?_ ?_
      · simp only [valsL_zero, valsL_succ]; apply FY_yes (d := 25) rfl ho16.out (by rfl) (by kernel_rfl); intro wx hx
        exact fu_load_at_g 27 (.tmp 26) rfl (b) 2 (by kernel_rfl) _ _ _ _ _ ((S2.out wx hx).1) (by rfl) (by simp) Tryz.underlying27 rfl (by kernel_rfl)
      simp only [Act.put, List.setIfInBounds_toArray, List.set_cons_zero, List.set_cons_succ, valsL_zero, valsL_succ]
      obtain ⟨ho19, HO⟩ := HO
      refine wpG_v ho19.out rfl ?_ ?_
      · simp only [valsL_zero, valsL_succ]; apply FY_yes (d := 25) rfl ho16.out (by rfl) (by kernel_rfl); intro wx hx
        go_simp
        exact ⟨rfl, rfl⟩
      simp only [Act.put, List.setIfInBounds_toArray, List.set_cons_zero, List.set_cons_succ, valsL_zero, valsL_succ]
      obtain ⟨ho20, HO⟩ := HO
      refine wpG_v ho20.out rfl ?_ ?_
      · simp only [valsL_zero, valsL_succ]; apply FY_yes (d := 25) rfl ho16.out (by rfl) (by kernel_rfl); intro wx hx
        go_simp
        exact ⟨rfl, rfl⟩
      simp only [Act.put, List.setIfInBounds_toArray, List.set_cons_zero, List.set_cons_succ, valsL_zero, valsL_succ]
      obtain ⟨ho21, HO⟩ := HO
      refine wpG_v ho21.out rfl ?_ ?_
      · simp only [valsL_zero, valsL_succ]; apply FY_yes (d := 21) rfl ho12.out (by rfl) (by kernel_rfl); intro wx hx
        go_simp
        exact ⟨rfl, rfl⟩
      simp only [Act.put, List.setIfInBounds_toArray, List.set_cons_zero, List.set_cons_succ, valsL_zero, valsL_succ]
      obtain ⟨ho22, HO⟩ := HO
      refine wpG_v ho22.out rfl ?_ ?_
      · simp only [valsL_zero, valsL_succ]; apply FY_in rfl; intro wx hx
        go_simp
        exact ⟨rfl, rfl⟩
      simp only [Act.put, List.setIfInBounds_toArray, List.set_cons_zero, List.set_cons_succ, valsL_zero, valsL_succ]
      obtain ⟨ho23, HO⟩ := HO
      refine wpG_v ho23.out rfl ?_ ?_
      · simp only [valsL_zero, valsL_succ]; apply FY_in rfl; intro wx hx
        go_simp
        exact ⟨rfl, rfl⟩
      simp only [Act.put, List.setIfInBounds_toArray, List.set_cons_zero, List.set_cons_succ, valsL_zero, valsL_succ]
      obtain ⟨ho24, HO⟩ := HO
      refine wpG_v ho24.out rfl ?_ ?_
      · simp only [valsL_zero, valsL_succ]; apply FY_yes (d := 32) rfl ho23.out (by rfl) (by kernel_rfl); intro wx hx
        go_simp
        exact ⟨rfl, rfl⟩
      simp only [Act.put, List.setIfInBounds_toArray, List.set_cons_zero, List.set_cons_succ, valsL_zero, valsL_succ]
      obtain ⟨ho25, HO⟩ := HO
      refine wpG_v ho25.out rfl ?_ ?_
      · simp only [valsL_zero, valsL_succ]; apply FY_yes (d := 32) rfl ho23.out (by rfl) (by kernel_rfl); intro wx hx
        have hc0 := sb_cell ((S2.out wx hx).1)
        go_simp
        exact ⟨rfl, rfl⟩
      simp only [Act.put, List.setIfInBounds_toArray, List.set_cons_zero, List.set_cons_succ, valsL_zero, valsL_succ]
      obtain ⟨ho26, HO⟩ := HO
      refine wpG_v ho26.out rfl ?_ ?_
      · simp only [valsL_zero, valsL_succ]; apply FY_yes (d := 32) rfl ho23.out (by rfl) (by kernel_rfl); intro wx hx
        go_simp
        exact ⟨rfl, rfl⟩
      simp only [Act.put, List.setIfInBounds_toArray, List.set_cons_zero, List.set_cons_succ, valsL_zero, valsL_succ]
      obtain ⟨ho27, HO⟩ := HO
      refine wpG_v ho27.out rfl ?_ ?_
      · simp only [valsL_zero, valsL_succ]; apply FY_yes (d := 32) rfl ho23.out (by rfl) (by kernel_rfl); intro wx hx
        go_simp
        exact ⟨rfl, rfl⟩
      simp only [Act.put, List.setIfInBounds_toArray, List.set_cons_zero, List.set_cons_succ, valsL_zero, valsL_succ]
      obtain ⟨ho28, HO⟩ := HO
      refine wpG_v ho28.out rfl ?_ ?_
      · simp only [valsL_zero, valsL_succ]; apply FY_yes (d := 36) rfl ho27.out (by rfl) (by kernel_rfl); intro wx hx
        go_simp
        exact ⟨rfl, rfl⟩
      simp only [Act.put, List.setIfInBounds_toArray, List.set_cons_zero, List.set_cons_succ, valsL_zero, valsL_succ]
      obtain ⟨ho29, HO⟩ := HO
      refine wpG_v ho29.out rfl ?_ ?_
      · simp only [valsL_zero, valsL_succ]; apply FY_yes (d := 36) rfl ho27.out (by rfl) (by kernel_rfl); intro wx hx
        exact fu_load_at_g 29 (.tmp 37) rfl (b) 20 (by kernel_rfl) _ _ _ _ _ ((S2.out wx hx).1) (by rfl) (by simp) Tryz.underlying29 rfl (by kernel_rfl)
      simp only [Act.put, List.setIfInBounds_toArray, List.set_cons_zero, List.set_cons_succ, valsL_zero, valsL_succ]
      obtain ⟨ho30, HO⟩ := HO
      refine wpG_v ho30.out rfl ?_ ?_
      · simp only [valsL_zero, valsL_succ]; apply FY_yes (d := 36) rfl ho27.out (by rfl) (by kernel_rfl); intro wx hx
        go_simp
        exact ⟨rfl, rfl⟩
      simp only [Act.put, List.setIfInBounds_toArray, List.set_cons_zero, List.set_cons_succ, valsL_zero, valsL_succ]
      obtain ⟨ho31, HO⟩ := HO
      refine wpG_v ho31.out rfl ?_ ?_
      · simp only [valsL_zero, valsL_succ]; apply FY_yes (d := 36) rfl ho27.out (by rfl) (by kernel_rfl); intro wx hx
        go_simp
        exact ⟨rfl, rfl⟩
      simp only [Act.put, List.setIfInBounds_toArray, List.set_cons_zero, List.set_cons_succ, valsL_zero, valsL_succ]
      obtain ⟨ho32, HO⟩ := HO
      refine wpG_v ho32.out rfl ?_ ?_
      · simp only [valsL_zero, valsL_succ]; apply FY_yes (d := 32) rfl ho23.out (by rfl) (by kernel_rfl); intro wx hx
        go_simp
        exact ⟨rfl, rfl⟩
      simp only [Act.put, List.setIfInBounds_toArray, List.set_cons_zero, List.set_cons_succ, valsL_zero, valsL_succ]
      obtain ⟨ho33, HO⟩ := HO
      refine wpG_v ho33.out rfl ?_ ?_
      · simp only [valsL_zero, valsL_succ]; apply FY_in rfl; intro wx hx
        go_simp
        exact ⟨rfl, rfl⟩
      simp only [Act.put, List.setIfInBounds_toArray, List.set_cons_zero, List.set_cons_succ, valsL_zero, valsL_succ]
      obtain ⟨ho34, HO⟩ := HO
      refine wpG_v ho34.out rfl ?_ ?_
      · simp only [valsL_zero, valsL_succ]; apply FY_in rfl; intro wx hx
        go_simp
        exact ⟨rfl, rfl⟩
      simp only [Act.put, List.setIfInBounds_toArray, List.set_cons_zero, List.set_cons_succ, valsL_zero, valsL_succ]
      obtain ⟨ho35, HO⟩ := HO
      refine wpG_v ho35.out rfl ?_ ?_
      · simp only [valsL_zero, valsL_succ]; exact FY_no (d := 43) rfl ho34.out (by rfl) (by kernel_rfl)
      simp only [Act.put, List.setIfInBounds_toArray, List.set_cons_zero, List.set_cons_succ, valsL_zero, valsL_succ]
      obtain ⟨ho36, HO⟩ := HO
      refine wpG_v ho36.out rfl ?_ ?_
      · simp only [valsL_zero, valsL_succ]; exact FY_no (d := 43) rfl ho34.out (by rfl) (by kernel_rfl)
      simp only [Act.put, List.setIfInBounds_toArray, List.set_cons_zero, List.set_cons_succ, valsL_zero, valsL_succ]
      obtain ⟨ho37, HO⟩ := HO
      refine wpG_v ho37.out rfl ?_ ?_
      · simp only [valsL_zero, valsL_succ]; exact FY_no (d := 43) rfl ho34.out (by rfl) (by kernel_rfl)
      simp only [Act.put, List.setIfInBounds_toArray, List.set_cons_zero, List.set_cons_succ, valsL_zero, valsL_succ]
      obtain ⟨ho38, HO⟩ := HO
      refine wpG_v ho38.out rfl ?_ ?_
      · simp only [valsL_zero, valsL_succ]; exact FY_no (d := 43) rfl ho34.out (by rfl) (by kernel_rfl)
      simp only [Act.put, List.setIfInBounds_toArray, List.set_cons_zero, List.set_cons_succ, valsL_zero, valsL_succ]
      obtain ⟨ho39, HO⟩ := HO
      refine wpG_v ho39.out rfl ?_ ?_
      · simp only [valsL_zero, valsL_succ]; exact FY_un (d := 47) rfl ho38.out (by rfl) (by kernel_rfl)
      simp only [Act.put, List.setIfInBounds_toArray, List.set_cons_zero, List.set_cons_succ, valsL_zero, valsL_succ]
      obtain ⟨ho40, HO⟩ := HO
      refine wpG_v ho40.out rfl ?_ ?_
      · simp only [valsL_zero, valsL_succ]; exact FY_un (d := 47) rfl ho38.out (by rfl) (by kernel_rfl)
      simp only [Act.put, List.setIfInBounds_toArray, List.set_cons_zero, List.set_cons_succ, valsL_zero, valsL_succ]
      obtain ⟨ho41, HO⟩ := HO
      refine wpG_v ho41.out rfl ?_ ?_
      · simp only [valsL_zero, valsL_succ]; exact FY_un (d := 47) rfl ho38.out (by rfl) (by kernel_rfl)
      simp only [Act.put, List.setIfInBounds_toArray, List.set_cons_zero, List.set_cons_succ, valsL_zero, valsL_succ]
      obtain ⟨ho42, HO⟩ := HO
      refine wpG_v ho42.out rfl ?_ ?_
      · simp only [valsL_zero, valsL_succ]; exact FY_no (d := 43) rfl ho34.out (by rfl) (by kernel_rfl)
      simp only [Act.put, List.setIfInBounds_toArray, List.set_cons_zero, List.set_cons_succ, valsL_zero, valsL_succ]
      refine HQ.out _ _ ?_
      intro wr hf
      simp only [List.drop_succ_cons, List.drop_zero]
      clear HQ HO ho0 ho1 ho2 ho3 ho4 ho5 ho6 ho7 ho8 ho9 ho10 ho11 ho12 ho13 ho14 ho15 ho16 ho17 ho18 ho19 ho20 ho21 ho22 ho23 ho24 ho25 ho26 ho27 ho28 ho29 ho30 ho31 ho32 ho33 ho34 ho35 ho36 ho37 ho38 ho39 ho40 ho41 ho42
      have S3 := hid (S2.out.step hf)
      clear hf
      go_wp2_with fail
      go_ret
      exact ⟨by rw [HZ.out]; rfl, S3.out.now.2⟩
    have hb : lineB o = true := by
      rw [lineB_iff]
      refine ⟨by omega, HE13.out, ?_⟩
      unfold moreB
      have hr1 : req o.r Rc.zero = true := req_iff2.2 (rneq_no hq)
      have hm1 : meq o.m Mg.zero = true := meq_iff.2 (mneq_no hm)
      rw [if_pos h0, hr1, hm1]; rfl
    have HZ : Hid (R = didW o.d ++ ⟨#[32]⟩ ++ Y) := hid (by
      rw [← HRR.out, line_app hb, HY.out]
      unfold moreS
      rw [if_pos h0]
      apply bya
      rw [bya_app _ ⟨#[]⟩]; simp)
    apply wp_region_N 43 (valsL (_ :: _ :: _ :: _ :: _ :: _ :: _ :: _ :: _ :: _ :: _ :: _ :: _ :: _ :: _ :: _ :: _ :: _ :: (.agg #[.int .i64 o.r.k, .int .i64 o.r.e, .int .i64 o.r.w, .int .i64 o.r.n, .int .i64 o.r.q, .string o.r.t, .int .i64 o.r.p.s0, .int .i64 o.r.p.s1, .int .i64 o.r.p.s2, .int .i64 o.r.p.s3, .int .i64 o.r.p.s4, .int .i64 o.r.p.s5, .int .i64 o.r.p.s6, .int .i64 o.r.p.s7, .int .i64 o.r.p.s8, .int .i64 o.r.p.s9, .int .i64 o.r.p.s10, .int .i64 o.r.p.s11]) :: _ :: _ :: _ :: _ :: _ :: _ :: _ :: _ :: _ :: _ :: (.agg #[.int .i64 o.m.k, .int .i64 o.m.e, .int .i64 o.m.s, .int .i64 o.m.u, .int .i64 o.m.v, .int .i64 o.m.t]) :: _ :: _ :: _ :: _ :: _ :: _ :: _ :: _ :: _ :: _ :: _ :: _ :: _ :: [])) ?hB6 ?main6
    case hB6 => kernel_rfl
    rotate_left 41
    intro ops QT HO HQ
    obtain ⟨ho0, HO⟩ := HO
    refine wpG_v ho0.out rfl ?_ ?_
    · simp only [valsL_zero, valsL_succ]; apply FY_in rfl; intro wx hx
      go_simp
      exact ⟨rfl, rfl⟩
    simp only [Act.put, List.setIfInBounds_toArray, List.set_cons_zero, List.set_cons_succ, valsL_zero, valsL_succ]
    obtain ⟨ho1, HO⟩ := HO
    refine wpG_v ho1.out rfl ?_ ?_
    · simp only [valsL_zero, valsL_succ]; apply FY_in rfl; intro wx hx
      have hc0 := sb_cell ((S2.out wx hx).1)
      go_simp
      exact ⟨rfl, rfl⟩
    simp only [Act.put, List.setIfInBounds_toArray, List.set_cons_zero, List.set_cons_succ, valsL_zero, valsL_succ]
    obtain ⟨ho2, HO⟩ := HO
    refine wpG_v ho2.out rfl ?_ ?_
    · simp only [valsL_zero, valsL_succ]; apply FY_in rfl; intro wx hx
      go_simp
      exact ⟨rfl, rfl⟩
    simp only [Act.put, List.setIfInBounds_toArray, List.set_cons_zero, List.set_cons_succ, valsL_zero, valsL_succ]
    obtain ⟨ho3, HO⟩ := HO
    refine wpG_v ho3.out rfl ?_ ?_
    · simp only [valsL_zero, valsL_succ]; apply FY_in rfl; intro wx hx
      go_simp
      exact ⟨rfl, rfl⟩
    simp only [Act.put, List.setIfInBounds_toArray, List.set_cons_zero, List.set_cons_succ, valsL_zero, valsL_succ]
    obtain ⟨ho4, HO⟩ := HO
    refine wpG_v ho4.out rfl ?_ ?_
    · simp only [valsL_zero, valsL_succ]; apply FY_yes (d := 12) rfl ho3.out (by rfl) (by kernel_rfl); intro wx hx
      go_simp
      exact ⟨rfl, rfl⟩
    simp only [Act.put, List.setIfInBounds_toArray, List.set_cons_zero, List.set_cons_succ, valsL_zero, valsL_succ]
    obtain ⟨ho5, HO⟩ := HO
    refine wpG_v ho5.out rfl ?_ ?_
    · simp only [valsL_zero, valsL_succ]; apply FY_yes (d := 12) rfl ho3.out (by rfl) (by kernel_rfl); intro wx hx
      have hc0 := sb_cell ((S2.out wx hx).1)
      go_simp
      exact ⟨rfl, rfl⟩
    simp only [Act.put, List.setIfInBounds_toArray, List.set_cons_zero, List.set_cons_succ, valsL_zero, valsL_succ]
    obtain ⟨ho6, HO⟩ := HO
    refine wpG_v ho6.out rfl ?_ ?_
    · simp only [valsL_zero, valsL_succ]; apply FY_yes (d := 12) rfl ho3.out (by rfl) (by kernel_rfl); intro wx hx
      go_simp
      exact ⟨rfl, rfl⟩
    simp only [Act.put, List.setIfInBounds_toArray, List.set_cons_zero, List.set_cons_succ, valsL_zero, valsL_succ]
    obtain ⟨ho7, HO⟩ := HO
    refine wpG_v ho7.out rfl ?_ ?_
    · simp only [valsL_zero, valsL_succ]; apply FY_in rfl; intro wx hx
      go_simp
      exact ⟨rfl, rfl⟩
    simp only [Act.put, List.setIfInBounds_toArray, List.set_cons_zero, List.set_cons_succ, valsL_zero, valsL_succ]
    obtain ⟨ho8, HO⟩ := HO
    refine wpG_v ho8.out rfl ?_ ?_
    · simp only [valsL_zero, valsL_succ]; apply FY_in rfl; intro wx hx
      go_simp
      exact ⟨rfl, rfl⟩
    simp only [Act.put, List.setIfInBounds_toArray, List.set_cons_zero, List.set_cons_succ, valsL_zero, valsL_succ]
    obtain ⟨ho9, HO⟩ := HO
    refine wpG_v ho9.out rfl ?_ ?_
    · simp only [valsL_zero, valsL_succ]; apply FY_yes (d := 17) rfl ho8.out (by rfl) (by kernel_rfl); intro wx hx
      go_simp
      exact ⟨rfl, rfl⟩
    simp only [Act.put, List.setIfInBounds_toArray, List.set_cons_zero, List.set_cons_succ, valsL_zero, valsL_succ]
    obtain ⟨ho10, HO⟩ := HO
    refine wpG_v ho10.out rfl ?_ ?_
    · simp only [valsL_zero, valsL_succ]; apply FY_yes (d := 17) rfl ho8.out (by rfl) (by kernel_rfl); intro wx hx
      go_simp
      exact ⟨rfl, rfl⟩
    simp only [Act.put, List.setIfInBounds_toArray, List.set_cons_zero, List.set_cons_succ, valsL_zero, valsL_succ]
    obtain ⟨ho11, HO⟩ := HO
    refine wpG_v ho11.out rfl ?_ ?_
    · simp only [valsL_zero, valsL_succ]; apply FY_in rfl; intro wx hx
      go_simp
      exact ⟨rfl, rfl⟩
    simp only [Act.put, List.setIfInBounds_toArray, List.set_cons_zero, List.set_cons_succ, valsL_zero, valsL_succ]
    obtain ⟨ho12, HO⟩ := HO
    refine wpG_v ho12.out rfl ?_ ?_
    · simp only [valsL_zero, valsL_succ]; apply FY_in rfl; intro wx hx
      go_simp
      exact ⟨rfl, rfl⟩
    simp only [Act.put, List.setIfInBounds_toArray, List.set_cons_zero, List.set_cons_succ, valsL_zero, valsL_succ]
    obtain ⟨ho13, HO⟩ := HO
    refine wpG_v ho13.out rfl ?_ ?_
    · simp only [valsL_zero, valsL_succ]; apply FY_yes (d := 21) rfl ho12.out (by rfl) (by kernel_rfl); intro wx hx
      go_simp
      exact ⟨rfl, rfl⟩
    simp only [Act.put, List.setIfInBounds_toArray, List.set_cons_zero, List.set_cons_succ, valsL_zero, valsL_succ]
    obtain ⟨ho14, HO⟩ := HO
    refine wpG_v ho14.out rfl ?_ ?_
    · simp only [valsL_zero, valsL_succ]; apply FY_yes (d := 21) rfl ho12.out (by rfl) (by kernel_rfl); intro wx hx
      have hc0 := sb_cell ((S2.out wx hx).1)
      go_simp
      exact ⟨rfl, rfl⟩
    simp only [Act.put, List.setIfInBounds_toArray, List.set_cons_zero, List.set_cons_succ, valsL_zero, valsL_succ]
    obtain ⟨ho15, HO⟩ := HO
    refine wpG_v ho15.out rfl ?_ ?_
    · simp only [valsL_zero, valsL_succ]; apply FY_yes (d := 21) rfl ho12.out (by rfl) (by kernel_rfl); intro wx hx
      go_simp
      exact ⟨rfl, rfl⟩
    simp only [Act.put, List.setIfInBounds_toArray, List.set_cons_zero, List.set_cons_succ, valsL_zero, valsL_succ]
    obtain ⟨ho16, HO⟩ := HO
    refine wpG_v ho16.out rfl ?_ ?_
    · simp only [valsL_zero, valsL_succ]; apply FY_yes (d := 21) rfl ho12.out (by rfl) (by kernel_rfl); intro wx hx
      go_simp
      exact ⟨rfl, rfl⟩
    simp only [Act.put, List.setIfInBounds_toArray, List.set_cons_zero, List.set_cons_succ, valsL_zero, valsL_succ]
    obtain ⟨ho17, HO⟩ := HO
    refine wpG_v ho17.out rfl ?_ ?_
    · simp only [valsL_zero, valsL_succ]; apply FY_yes (d := 25) rfl ho16.out (by rfl) (by kernel_rfl); intro wx hx
      go_simp
      exact ⟨rfl, rfl⟩
    simp only [Act.put, List.setIfInBounds_toArray, List.set_cons_zero, List.set_cons_succ, valsL_zero, valsL_succ]
    obtain ⟨ho18, HO⟩ := HO
    refine wpG_v ho18.out rfl ?_ ?_
    · simp only [valsL_zero, valsL_succ]; apply FY_yes (d := 25) rfl ho16.out (by rfl) (by kernel_rfl); intro wx hx
      exact fu_load_at_g 27 (.tmp 26) rfl (b) 2 (by kernel_rfl) _ _ _ _ _ ((S2.out wx hx).1) (by rfl) (by simp) Tryz.underlying27 rfl (by kernel_rfl)
    simp only [Act.put, List.setIfInBounds_toArray, List.set_cons_zero, List.set_cons_succ, valsL_zero, valsL_succ]
    obtain ⟨ho19, HO⟩ := HO
    refine wpG_v ho19.out rfl ?_ ?_
    · simp only [valsL_zero, valsL_succ]; apply FY_yes (d := 25) rfl ho16.out (by rfl) (by kernel_rfl); intro wx hx
      go_simp
      exact ⟨rfl, rfl⟩
    simp only [Act.put, List.setIfInBounds_toArray, List.set_cons_zero, List.set_cons_succ, valsL_zero, valsL_succ]
    obtain ⟨ho20, HO⟩ := HO
    refine wpG_v ho20.out rfl ?_ ?_
    · simp only [valsL_zero, valsL_succ]; apply FY_yes (d := 25) rfl ho16.out (by rfl) (by kernel_rfl); intro wx hx
      go_simp
      exact ⟨rfl, rfl⟩
    simp only [Act.put, List.setIfInBounds_toArray, List.set_cons_zero, List.set_cons_succ, valsL_zero, valsL_succ]
    obtain ⟨ho21, HO⟩ := HO
    refine wpG_v ho21.out rfl ?_ ?_
    · simp only [valsL_zero, valsL_succ]; apply FY_yes (d := 21) rfl ho12.out (by rfl) (by kernel_rfl); intro wx hx
      go_simp
      exact ⟨rfl, rfl⟩
    simp only [Act.put, List.setIfInBounds_toArray, List.set_cons_zero, List.set_cons_succ, valsL_zero, valsL_succ]
    obtain ⟨ho22, HO⟩ := HO
    refine wpG_v ho22.out rfl ?_ ?_
    · simp only [valsL_zero, valsL_succ]; apply FY_in rfl; intro wx hx
      go_simp
      exact ⟨rfl, rfl⟩
    simp only [Act.put, List.setIfInBounds_toArray, List.set_cons_zero, List.set_cons_succ, valsL_zero, valsL_succ]
    obtain ⟨ho23, HO⟩ := HO
    refine wpG_v ho23.out rfl ?_ ?_
    · simp only [valsL_zero, valsL_succ]; apply FY_in rfl; intro wx hx
      go_simp
      exact ⟨rfl, rfl⟩
    simp only [Act.put, List.setIfInBounds_toArray, List.set_cons_zero, List.set_cons_succ, valsL_zero, valsL_succ]
    obtain ⟨ho24, HO⟩ := HO
    refine wpG_v ho24.out rfl ?_ ?_
    · simp only [valsL_zero, valsL_succ]; apply FY_yes (d := 32) rfl ho23.out (by rfl) (by kernel_rfl); intro wx hx
      go_simp
      exact ⟨rfl, rfl⟩
    simp only [Act.put, List.setIfInBounds_toArray, List.set_cons_zero, List.set_cons_succ, valsL_zero, valsL_succ]
    obtain ⟨ho25, HO⟩ := HO
    refine wpG_v ho25.out rfl ?_ ?_
    · simp only [valsL_zero, valsL_succ]; apply FY_yes (d := 32) rfl ho23.out (by rfl) (by kernel_rfl); intro wx hx
      have hc0 := sb_cell ((S2.out wx hx).1)
      go_simp
      exact ⟨rfl, rfl⟩
    simp only [Act.put, List.setIfInBounds_toArray, List.set_cons_zero, List.set_cons_succ, valsL_zero, valsL_succ]
    obtain ⟨ho26, HO⟩ := HO
    refine wpG_v ho26.out rfl ?_ ?_
    · simp only [valsL_zero, valsL_succ]; apply FY_yes (d := 32) rfl ho23.out (by rfl) (by kernel_rfl); intro wx hx
      go_simp
      exact ⟨rfl, rfl⟩
    simp only [Act.put, List.setIfInBounds_toArray, List.set_cons_zero, List.set_cons_succ, valsL_zero, valsL_succ]
    obtain ⟨ho27, HO⟩ := HO
    refine wpG_v ho27.out rfl ?_ ?_
    · simp only [valsL_zero, valsL_succ]; apply FY_yes (d := 32) rfl ho23.out (by rfl) (by kernel_rfl); intro wx hx
      go_simp
      exact ⟨rfl, rfl⟩
    simp only [Act.put, List.setIfInBounds_toArray, List.set_cons_zero, List.set_cons_succ, valsL_zero, valsL_succ]
    obtain ⟨ho28, HO⟩ := HO
    refine wpG_v ho28.out rfl ?_ ?_
    · simp only [valsL_zero, valsL_succ]; apply FY_yes (d := 36) rfl ho27.out (by rfl) (by kernel_rfl); intro wx hx
      go_simp
      exact ⟨rfl, rfl⟩
    simp only [Act.put, List.setIfInBounds_toArray, List.set_cons_zero, List.set_cons_succ, valsL_zero, valsL_succ]
    obtain ⟨ho29, HO⟩ := HO
    refine wpG_v ho29.out rfl ?_ ?_
    · simp only [valsL_zero, valsL_succ]; apply FY_yes (d := 36) rfl ho27.out (by rfl) (by kernel_rfl); intro wx hx
      exact fu_load_at_g 29 (.tmp 37) rfl (b) 20 (by kernel_rfl) _ _ _ _ _ ((S2.out wx hx).1) (by rfl) (by simp) Tryz.underlying29 rfl (by kernel_rfl)
    simp only [Act.put, List.setIfInBounds_toArray, List.set_cons_zero, List.set_cons_succ, valsL_zero, valsL_succ]
    obtain ⟨ho30, HO⟩ := HO
    refine wpG_v ho30.out rfl ?_ ?_
    · simp only [valsL_zero, valsL_succ]; apply FY_yes (d := 36) rfl ho27.out (by rfl) (by kernel_rfl); intro wx hx
      go_simp
      exact ⟨rfl, rfl⟩
    simp only [Act.put, List.setIfInBounds_toArray, List.set_cons_zero, List.set_cons_succ, valsL_zero, valsL_succ]
    obtain ⟨ho31, HO⟩ := HO
    refine wpG_v ho31.out rfl ?_ ?_
    · simp only [valsL_zero, valsL_succ]; apply FY_yes (d := 36) rfl ho27.out (by rfl) (by kernel_rfl); intro wx hx
      go_simp
      exact ⟨rfl, rfl⟩
    simp only [Act.put, List.setIfInBounds_toArray, List.set_cons_zero, List.set_cons_succ, valsL_zero, valsL_succ]
    obtain ⟨ho32, HO⟩ := HO
    refine wpG_v ho32.out rfl ?_ ?_
    · simp only [valsL_zero, valsL_succ]; apply FY_yes (d := 32) rfl ho23.out (by rfl) (by kernel_rfl); intro wx hx
      go_simp
      exact ⟨rfl, rfl⟩
    simp only [Act.put, List.setIfInBounds_toArray, List.set_cons_zero, List.set_cons_succ, valsL_zero, valsL_succ]
    obtain ⟨ho33, HO⟩ := HO
    refine wpG_v ho33.out rfl ?_ ?_
    · simp only [valsL_zero, valsL_succ]; apply FY_in rfl; intro wx hx
      go_simp
      exact ⟨rfl, rfl⟩
    simp only [Act.put, List.setIfInBounds_toArray, List.set_cons_zero, List.set_cons_succ, valsL_zero, valsL_succ]
    obtain ⟨ho34, HO⟩ := HO
    refine wpG_v ho34.out rfl ?_ ?_
    · simp only [valsL_zero, valsL_succ]; apply FY_in rfl; intro wx hx
      go_simp
      exact ⟨rfl, rfl⟩
    simp only [Act.put, List.setIfInBounds_toArray, List.set_cons_zero, List.set_cons_succ, valsL_zero, valsL_succ]
    obtain ⟨ho35, HO⟩ := HO
    refine wpG_v ho35.out rfl ?_ ?_
    · simp only [valsL_zero, valsL_succ]; apply FY_yes (d := 43) rfl ho34.out (by rfl) (by kernel_rfl); intro wx hx
      go_simp
      exact ⟨rfl, rfl⟩
    simp only [Act.put, List.setIfInBounds_toArray, List.set_cons_zero, List.set_cons_succ, valsL_zero, valsL_succ]
    obtain ⟨ho36, HO⟩ := HO
    refine wpG_v ho36.out rfl ?_ ?_
    · simp only [valsL_zero, valsL_succ]; apply FY_yes (d := 43) rfl ho34.out (by rfl) (by kernel_rfl); intro wx hx
      have hc0 := sb_cell ((S2.out wx hx).1)
      go_simp
      exact ⟨rfl, rfl⟩
    simp only [Act.put, List.setIfInBounds_toArray, List.set_cons_zero, List.set_cons_succ, valsL_zero, valsL_succ]
    obtain ⟨ho37, HO⟩ := HO
    refine wpG_v ho37.out rfl ?_ ?_
    · simp only [valsL_zero, valsL_succ]; apply FY_yes (d := 43) rfl ho34.out (by rfl) (by kernel_rfl); intro wx hx
      go_simp
      exact ⟨rfl, rfl⟩
    simp only [Act.put, List.setIfInBounds_toArray, List.set_cons_zero, List.set_cons_succ, valsL_zero, valsL_succ]
    obtain ⟨ho38, HO⟩ := HO
    refine wpG_v ho38.out rfl ?_ ?_
    · simp only [valsL_zero, valsL_succ]; apply FY_yes (d := 43) rfl ho34.out (by rfl) (by kernel_rfl); intro wx hx
      go_simp
      exact ⟨rfl, rfl⟩
    simp only [Act.put, List.setIfInBounds_toArray, List.set_cons_zero, List.set_cons_succ, valsL_zero, valsL_succ]
    obtain ⟨ho39, HO⟩ := HO
    refine wpG_v ho39.out rfl ?_ ?_
    · simp only [valsL_zero, valsL_succ]; exact FY_no (d := 47) rfl ho38.out (by rfl) (by kernel_rfl)
    simp only [Act.put, List.setIfInBounds_toArray, List.set_cons_zero, List.set_cons_succ, valsL_zero, valsL_succ]
    obtain ⟨ho40, HO⟩ := HO
    refine wpG_v ho40.out rfl ?_ ?_
    · simp only [valsL_zero, valsL_succ]; exact FY_no (d := 47) rfl ho38.out (by rfl) (by kernel_rfl)
    simp only [Act.put, List.setIfInBounds_toArray, List.set_cons_zero, List.set_cons_succ, valsL_zero, valsL_succ]
    obtain ⟨ho41, HO⟩ := HO
    refine wpG_v ho41.out rfl ?_ ?_
    · simp only [valsL_zero, valsL_succ]; exact FY_no (d := 47) rfl ho38.out (by rfl) (by kernel_rfl)
    simp only [Act.put, List.setIfInBounds_toArray, List.set_cons_zero, List.set_cons_succ, valsL_zero, valsL_succ]
    obtain ⟨ho42, HO⟩ := HO
    refine wpG_v ho42.out rfl ?_ ?_
    · simp only [valsL_zero, valsL_succ]; apply FY_yes (d := 43) rfl ho34.out (by rfl) (by kernel_rfl); intro wx hx
      go_simp
      exact ⟨rfl, rfl⟩
    simp only [Act.put, List.setIfInBounds_toArray, List.set_cons_zero, List.set_cons_succ, valsL_zero, valsL_succ]
    refine HQ.out _ _ ?_
    intro wq hf
    simp only [List.drop_succ_cons, List.drop_zero]
    clear HQ HO ho0 ho1 ho2 ho3 ho4 ho5 ho6 ho7 ho8 ho9 ho10 ho11 ho12 ho13 ho14 ho15 ho16 ho17 ho18 ho19 ho20 ho21 ho22 ho23 ho24 ho25 ho26 ho27 ho28 ho29 ho30 ho31 ho32 ho33 ho34 ho35 ho36 ho37 ho38 ho39 ho40 ho41 ho42
    have S3 := hid (S2.out.step hf)
    clear hf c0 c1 S2
    have S2 := S3
    clear S3
    have c0 : wq.cell? ⟨b, 0, none⟩ = some (.int .i64 o.d) := cell_at S2.out.now.1 0
    obtain ⟨n, hn⟩ : ∃ n : Nat, o.d = n := ⟨o.d.toNat, by omega⟩
    have hn4 : n < 4 := by omega
    obtain ⟨D, HD⟩ : ∃ D, Hid (didW n = D) := ⟨_, rfl⟩
    have hDs : D.size ≤ 10 := by rw [← HD.out]; exact did_sz_fin ⟨n, hn4⟩
    have hcw := did_cell wq n hn4
    rw [HD.out] at hcw
    have hn0 : (0 : Int) ≤ (n : Int) := by omega
    have hn1 : (n : Int) < 4 := by omega
    have hYs := HES.out
    have hl1 : ¬ 9223372036854775806 < D.size := by omega
    have hl1b : D.size ≤ 9223372036854775806 := by omega
    have hl2 : ¬ 9223372036854775807 < D.size + 1 + Y.size := by omega
    have hl2b : D.size + 1 + Y.size ≤ 9223372036854775807 := by omega
    have hbw : b < wq.heap.size := sb_lt S2.out.now.1
    have HDN : didW o.d = ⟨#[110, 111, 116, 104, 105, 110, 103]⟩ := by rw [h0]; rfl
    rw [HDN] at HZ
    clear HDN
    go_wp2_with fail
    go_ret
    exact ⟨by rw [HZ.out]; rfl, S2.out.now.2.alloc _⟩
  have d0 : (o.d == 0) = false := by simp [h0]
  by_cases h1 : o.d = 1
  · have d1 : (o.d == 1) = true := by simp [h1]
    have dn : (o.d != 1) = false := by simp [h1]
    have d2 : decide (o.d < 2) = true := decide_eq_true (by omega)
    have d2' : o.d < 2 := by omega
    cases hm : mneq ⟨o.m.k, o.m.e, o.m.s, o.m.u, o.m.v, o.m.t⟩ ⟨0, 0, 0, 0, 0, 0⟩
    case true =>
      have HZ : Hid (R = ⟨#[]⟩) := hid (by
        rw [← HRR.out]; unfold lineS; rw [if_neg]
        intro h
        have h2 := lineB_iff.1 h
        have h3 := h2.2.2
        unfold moreB at h3
        rw [if_neg h0, if_pos h1, Bool.and_eq_true, Bool.and_eq_true, meq_iff] at h3
        exact mneq_iff.1 hm h3.2.2)
      apply wp_region_N 43 (valsL (_ :: _ :: _ :: _ :: _ :: _ :: _ :: _ :: _ :: _ :: _ :: _ :: _ :: _ :: _ :: _ :: _ :: _ :: _ :: _ :: _ :: _ :: _ :: _ :: _ :: _ :: _ :: _ :: _ :: (.agg #[.int .i64 o.m.k, .int .i64 o.m.e, .int .i64 o.m.s, .int .i64 o.m.u, .int .i64 o.m.v, .int .i64 o.m.t]) :: _ :: _ :: _ :: _ :: _ :: _ :: _ :: _ :: _ :: _ :: _ :: _ :: _ :: [])) ?hB7 ?main7
      case hB7 => kernel_rfl
      rotate_left 42
      intro ops QT HO HQ
      obtain ⟨ho0, HO⟩ := HO
      refine wpG_v ho0.out rfl ?_ ?_
      · simp only [valsL_zero, valsL_succ]; apply FY_in rfl; intro wx hx
        go_simp
        exact ⟨rfl, rfl⟩
      simp only [Act.put, List.setIfInBounds_toArray, List.set_cons_zero, List.set_cons_succ, valsL_zero, valsL_succ]
      obtain ⟨ho1, HO⟩ := HO
      refine wpG_v ho1.out rfl ?_ ?_
      · simp only [valsL_zero, valsL_succ]; apply FY_in rfl; intro wx hx
        have hc0 := sb_cell ((S2.out wx hx).1)
        go_simp
        exact ⟨rfl, rfl⟩
      simp only [Act.put, List.setIfInBounds_toArray, List.set_cons_zero, List.set_cons_succ, valsL_zero, valsL_succ]
      obtain ⟨ho2, HO⟩ := HO
      refine wpG_v ho2.out rfl ?_ ?_
      · simp only [valsL_zero, valsL_succ]; apply FY_in rfl; intro wx hx
        go_simp
        exact ⟨rfl, rfl⟩
      simp only [Act.put, List.setIfInBounds_toArray, List.set_cons_zero, List.set_cons_succ, valsL_zero, valsL_succ]
      obtain ⟨ho3, HO⟩ := HO
      refine wpG_v ho3.out rfl ?_ ?_
      · simp only [valsL_zero, valsL_succ]; apply FY_in rfl; intro wx hx
        go_simp
        exact ⟨rfl, rfl⟩
      simp only [Act.put, List.setIfInBounds_toArray, List.set_cons_zero, List.set_cons_succ, valsL_zero, valsL_succ]
      obtain ⟨ho4, HO⟩ := HO
      refine wpG_v ho4.out rfl ?_ ?_
      · simp only [valsL_zero, valsL_succ]; apply FY_yes (d := 12) rfl ho3.out (by rfl) (by kernel_rfl); intro wx hx
        go_simp
        exact ⟨rfl, rfl⟩
      simp only [Act.put, List.setIfInBounds_toArray, List.set_cons_zero, List.set_cons_succ, valsL_zero, valsL_succ]
      obtain ⟨ho5, HO⟩ := HO
      refine wpG_v ho5.out rfl ?_ ?_
      · simp only [valsL_zero, valsL_succ]; apply FY_yes (d := 12) rfl ho3.out (by rfl) (by kernel_rfl); intro wx hx
        have hc0 := sb_cell ((S2.out wx hx).1)
        go_simp
        exact ⟨rfl, rfl⟩
      simp only [Act.put, List.setIfInBounds_toArray, List.set_cons_zero, List.set_cons_succ, valsL_zero, valsL_succ]
      obtain ⟨ho6, HO⟩ := HO
      refine wpG_v ho6.out rfl ?_ ?_
      · simp only [valsL_zero, valsL_succ]; apply FY_yes (d := 12) rfl ho3.out (by rfl) (by kernel_rfl); intro wx hx
        go_simp
        exact ⟨rfl, rfl⟩
      simp only [Act.put, List.setIfInBounds_toArray, List.set_cons_zero, List.set_cons_succ, valsL_zero, valsL_succ]
      obtain ⟨ho7, HO⟩ := HO
      refine wpG_v ho7.out rfl ?_ ?_
      · simp only [valsL_zero, valsL_succ]; apply FY_in rfl; intro wx hx
        go_simp
        exact ⟨rfl, rfl⟩
      simp only [Act.put, List.setIfInBounds_toArray, List.set_cons_zero, List.set_cons_succ, valsL_zero, valsL_succ]
      obtain ⟨ho8, HO⟩ := HO
      refine wpG_v ho8.out rfl ?_ ?_
      · simp only [valsL_zero, valsL_succ]; apply FY_in rfl; intro wx hx
        go_simp
        exact ⟨rfl, rfl⟩
      simp only [Act.put, List.setIfInBounds_toArray, List.set_cons_zero, List.set_cons_succ, valsL_zero, valsL_succ]
      obtain ⟨ho9, HO⟩ := HO
      refine wpG_v ho9.out rfl ?_ ?_
      · simp only [valsL_zero, valsL_succ]; apply FY_yes (d := 17) rfl ho8.out (by rfl) (by kernel_rfl); intro wx hx
        go_simp
        exact ⟨rfl, rfl⟩
      simp only [Act.put, List.setIfInBounds_toArray, List.set_cons_zero, List.set_cons_succ, valsL_zero, valsL_succ]
      obtain ⟨ho10, HO⟩ := HO
      refine wpG_v ho10.out rfl ?_ ?_
      · simp only [valsL_zero, valsL_succ]; apply FY_yes (d := 17) rfl ho8.out (by rfl) (by kernel_rfl); intro wx hx
        go_simp
        exact ⟨rfl, rfl⟩
      simp only [Act.put, List.setIfInBounds_toArray, List.set_cons_zero, List.set_cons_succ, valsL_zero, valsL_succ]
      obtain ⟨ho11, HO⟩ := HO
      refine wpG_v ho11.out rfl ?_ ?_
      · simp only [valsL_zero, valsL_succ]; apply FY_in rfl; intro wx hx
        go_simp
        exact ⟨rfl, rfl⟩
      simp only [Act.put, List.setIfInBounds_toArray, List.set_cons_zero, List.set_cons_succ, valsL_zero, valsL_succ]
      obtain ⟨ho12, HO⟩ := HO
      refine wpG_v ho12.out rfl ?_ ?_
      · simp only [valsL_zero, valsL_succ]; apply FY_in rfl; intro wx hx
        go_simp
        exact ⟨rfl, rfl⟩
      simp only [Act.put, List.setIfInBounds_toArray, List.set_cons_zero, List.set_cons_succ, valsL_zero, valsL_succ]
      obtain ⟨ho13, HO⟩ := HO
      refine wpG_v ho13.out rfl ?_ ?_
      · simp only [valsL_zero, valsL_succ]; apply FY_yes (d := 21) rfl ho12.out (by rfl) (by kernel_rfl); intro wx hx
        go_simp
        exact ⟨rfl, rfl⟩
      simp only [Act.put, List.setIfInBounds_toArray, List.set_cons_zero, List.set_cons_succ, valsL_zero, valsL_succ]
      obtain ⟨ho14, HO⟩ := HO
      refine wpG_v ho14.out rfl ?_ ?_
      · simp only [valsL_zero, valsL_succ]; apply FY_yes (d := 21) rfl ho12.out (by rfl) (by kernel_rfl); intro wx hx
        have hc0 := sb_cell ((S2.out wx hx).1)
        go_simp
        exact ⟨rfl, rfl⟩
      simp only [Act.put, List.setIfInBounds_toArray, List.set_cons_zero, List.set_cons_succ, valsL_zero, valsL_succ]
      obtain ⟨ho15, HO⟩ := HO
      refine wpG_v ho15.out rfl ?_ ?_
      · simp only [valsL_zero, valsL_succ]; apply FY_yes (d := 21) rfl ho12.out (by rfl) (by kernel_rfl); intro wx hx
        go_simp
        exact ⟨rfl, rfl⟩
      simp only [Act.put, List.setIfInBounds_toArray, List.set_cons_zero, List.set_cons_succ, valsL_zero, valsL_succ]
      obtain ⟨ho16, HO⟩ := HO
      refine wpG_v ho16.out rfl ?_ ?_
      · simp only [valsL_zero, valsL_succ]; apply FY_yes (d := 21) rfl ho12.out (by rfl) (by kernel_rfl); intro wx hx
        go_simp
        exact ⟨rfl, rfl⟩
      simp only [Act.put, List.setIfInBounds_toArray, List.set_cons_zero, List.set_cons_succ, valsL_zero, valsL_succ]
      obtain ⟨ho17, HO⟩ := HO
      refine wpG_v ho17.out rfl ?_ ?_
      · simp only [valsL_zero, valsL_succ]; exact FY_no (d := 25) rfl ho16.out (by rfl) (by kernel_rfl)
      simp only [Act.put, List.setIfInBounds_toArray, List.set_cons_zero, List.set_cons_succ, valsL_zero, valsL_succ]
      obtain ⟨ho18, HO⟩ := HO
      refine wpG_v ho18.out rfl ?_ ?_
      · simp only [valsL_zero, valsL_succ]; exact FY_no (d := 25) rfl ho16.out (by rfl) (by kernel_rfl)
      simp only [Act.put, List.setIfInBounds_toArray, List.set_cons_zero, List.set_cons_succ, valsL_zero, valsL_succ]
      obtain ⟨ho19, HO⟩ := HO
      refine wpG_v ho19.out rfl ?_ ?_
      · simp only [valsL_zero, valsL_succ]; exact FY_no (d := 25) rfl ho16.out (by rfl) (by kernel_rfl)
      simp only [Act.put, List.setIfInBounds_toArray, List.set_cons_zero, List.set_cons_succ, valsL_zero, valsL_succ]
      obtain ⟨ho20, HO⟩ := HO
      refine wpG_v ho20.out rfl ?_ ?_
      · simp only [valsL_zero, valsL_succ]; exact FY_no (d := 25) rfl ho16.out (by rfl) (by kernel_rfl)
      simp only [Act.put, List.setIfInBounds_toArray, List.set_cons_zero, List.set_cons_succ, valsL_zero, valsL_succ]
      obtain ⟨ho21, HO⟩ := HO
      refine wpG_v ho21.out rfl ?_ ?_
      · simp only [valsL_zero, valsL_succ]; apply FY_yes (d := 21) rfl ho12.out (by rfl) (by kernel_rfl); intro wx hx
        go_simp
        exact ⟨rfl, rfl⟩
      simp only [Act.put, List.setIfInBounds_toArray, List.set_cons_zero, List.set_cons_succ, valsL_zero, valsL_succ]
      obtain ⟨ho22, HO⟩ := HO
      refine wpG_v ho22.out rfl ?_ ?_
      · simp only [valsL_zero, valsL_succ]; apply FY_in rfl; intro wx hx
        go_simp
        exact ⟨rfl, rfl⟩
      simp only [Act.put, List.setIfInBounds_toArray, List.set_cons_zero, List.set_cons_succ, valsL_zero, valsL_succ]
      obtain ⟨ho23, HO⟩ := HO
      refine wpG_v ho23.out rfl ?_ ?_
      · simp only [valsL_zero, valsL_succ]; apply FY_in rfl; intro wx hx
        go_simp
        exact ⟨rfl, rfl⟩
      simp only [Act.put, List.setIfInBounds_toArray, List.set_cons_zero, List.set_cons_succ, valsL_zero, valsL_succ]
      obtain ⟨ho24, HO⟩ := HO
      refine wpG_v ho24.out rfl ?_ ?_
      · simp only [valsL_zero, valsL_succ]; apply FY_yes (d := 32) rfl ho23.out (by rfl) (by kernel_rfl); intro wx hx
        go_simp
        exact ⟨rfl, rfl⟩
      simp only [Act.put, List.setIfInBounds_toArray, List.set_cons_zero, List.set_cons_succ, valsL_zero, valsL_succ]
      obtain ⟨ho25, HO⟩ := HO
      refine wpG_v ho25.out rfl ?_ ?_
      · simp only [valsL_zero, valsL_succ]; apply FY_yes (d := 32) rfl ho23.out (by rfl) (by kernel_rfl); intro wx hx
        have hc0 := sb_cell ((S2.out wx hx).1)
        go_simp
        exact ⟨rfl, rfl⟩
      simp only [Act.put, List.setIfInBounds_toArray, List.set_cons_zero, List.set_cons_succ, valsL_zero, valsL_succ]
      obtain ⟨ho26, HO⟩ := HO
      refine wpG_v ho26.out rfl ?_ ?_
      · simp only [valsL_zero, valsL_succ]; apply FY_yes (d := 32) rfl ho23.out (by rfl) (by kernel_rfl); intro wx hx
        go_simp
        exact ⟨rfl, rfl⟩
      simp only [Act.put, List.setIfInBounds_toArray, List.set_cons_zero, List.set_cons_succ, valsL_zero, valsL_succ]
      obtain ⟨ho27, HO⟩ := HO
      refine wpG_v ho27.out rfl ?_ ?_
      · simp only [valsL_zero, valsL_succ]; apply FY_yes (d := 32) rfl ho23.out (by rfl) (by kernel_rfl); intro wx hx
        go_simp
        exact ⟨rfl, rfl⟩
      simp only [Act.put, List.setIfInBounds_toArray, List.set_cons_zero, List.set_cons_succ, valsL_zero, valsL_succ]
      obtain ⟨ho28, HO⟩ := HO
      refine wpG_v ho28.out rfl ?_ ?_
      · simp only [valsL_zero, valsL_succ]; apply FY_yes (d := 36) rfl ho27.out (by rfl) (by kernel_rfl); intro wx hx
        go_simp
        exact ⟨rfl, rfl⟩
      simp only [Act.put, List.setIfInBounds_toArray, List.set_cons_zero, List.set_cons_succ, valsL_zero, valsL_succ]
      obtain ⟨ho29, HO⟩ := HO
      refine wpG_v ho29.out rfl ?_ ?_
      · simp only [valsL_zero, valsL_succ]; apply FY_yes (d := 36) rfl ho27.out (by rfl) (by kernel_rfl); intro wx hx
        exact fu_load_at_g 29 (.tmp 37) rfl (b) 20 (by kernel_rfl) _ _ _ _ _ ((S2.out wx hx).1) (by rfl) (by simp) Tryz.underlying29 rfl (by kernel_rfl)
      simp only [Act.put, List.setIfInBounds_toArray, List.set_cons_zero, List.set_cons_succ, valsL_zero, valsL_succ]
      obtain ⟨ho30, HO⟩ := HO
      refine wpG_v ho30.out rfl ?_ ?_
      · simp only [valsL_zero, valsL_succ]; apply FY_yes (d := 36) rfl ho27.out (by rfl) (by kernel_rfl); intro wx hx
        go_simp
        exact ⟨rfl, rfl⟩
      simp only [Act.put, List.setIfInBounds_toArray, List.set_cons_zero, List.set_cons_succ, valsL_zero, valsL_succ]
      obtain ⟨ho31, HO⟩ := HO
      refine wpG_v ho31.out rfl ?_ ?_
      · simp only [valsL_zero, valsL_succ]; apply FY_yes (d := 36) rfl ho27.out (by rfl) (by kernel_rfl); intro wx hx
        go_simp
        exact ⟨rfl, rfl⟩
      simp only [Act.put, List.setIfInBounds_toArray, List.set_cons_zero, List.set_cons_succ, valsL_zero, valsL_succ]
      obtain ⟨ho32, HO⟩ := HO
      refine wpG_v ho32.out rfl ?_ ?_
      · simp only [valsL_zero, valsL_succ]; apply FY_yes (d := 32) rfl ho23.out (by rfl) (by kernel_rfl); intro wx hx
        go_simp
        exact ⟨rfl, rfl⟩
      simp only [Act.put, List.setIfInBounds_toArray, List.set_cons_zero, List.set_cons_succ, valsL_zero, valsL_succ]
      obtain ⟨ho33, HO⟩ := HO
      refine wpG_v ho33.out rfl ?_ ?_
      · simp only [valsL_zero, valsL_succ]; apply FY_in rfl; intro wx hx
        go_simp
        exact ⟨rfl, rfl⟩
      simp only [Act.put, List.setIfInBounds_toArray, List.set_cons_zero, List.set_cons_succ, valsL_zero, valsL_succ]
      obtain ⟨ho34, HO⟩ := HO
      refine wpG_v ho34.out rfl ?_ ?_
      · simp only [valsL_zero, valsL_succ]; apply FY_in rfl; intro wx hx
        go_simp
        exact ⟨rfl, rfl⟩
      simp only [Act.put, List.setIfInBounds_toArray, List.set_cons_zero, List.set_cons_succ, valsL_zero, valsL_succ]
      obtain ⟨ho35, HO⟩ := HO
      refine wpG_v ho35.out rfl ?_ ?_
      · simp only [valsL_zero, valsL_succ]; exact FY_no (d := 43) rfl ho34.out (by rfl) (by kernel_rfl)
      simp only [Act.put, List.setIfInBounds_toArray, List.set_cons_zero, List.set_cons_succ, valsL_zero, valsL_succ]
      obtain ⟨ho36, HO⟩ := HO
      refine wpG_v ho36.out rfl ?_ ?_
      · simp only [valsL_zero, valsL_succ]; exact FY_no (d := 43) rfl ho34.out (by rfl) (by kernel_rfl)
      simp only [Act.put, List.setIfInBounds_toArray, List.set_cons_zero, List.set_cons_succ, valsL_zero, valsL_succ]
      obtain ⟨ho37, HO⟩ := HO
      refine wpG_v ho37.out rfl ?_ ?_
      · simp only [valsL_zero, valsL_succ]; exact FY_no (d := 43) rfl ho34.out (by rfl) (by kernel_rfl)
      simp only [Act.put, List.setIfInBounds_toArray, List.set_cons_zero, List.set_cons_succ, valsL_zero, valsL_succ]
      obtain ⟨ho38, HO⟩ := HO
      refine wpG_v ho38.out rfl ?_ ?_
      · simp only [valsL_zero, valsL_succ]; exact FY_no (d := 43) rfl ho34.out (by rfl) (by kernel_rfl)
      simp only [Act.put, List.setIfInBounds_toArray, List.set_cons_zero, List.set_cons_succ, valsL_zero, valsL_succ]
      obtain ⟨ho39, HO⟩ := HO
      refine wpG_v ho39.out rfl ?_ ?_
      · simp only [valsL_zero, valsL_succ]; exact FY_un (d := 47) rfl ho38.out (by rfl) (by kernel_rfl)
      simp only [Act.put, List.setIfInBounds_toArray, List.set_cons_zero, List.set_cons_succ, valsL_zero, valsL_succ]
      obtain ⟨ho40, HO⟩ := HO
      refine wpG_v ho40.out rfl ?_ ?_
      · simp only [valsL_zero, valsL_succ]; exact FY_un (d := 47) rfl ho38.out (by rfl) (by kernel_rfl)
      simp only [Act.put, List.setIfInBounds_toArray, List.set_cons_zero, List.set_cons_succ, valsL_zero, valsL_succ]
      obtain ⟨ho41, HO⟩ := HO
      refine wpG_v ho41.out rfl ?_ ?_
      · simp only [valsL_zero, valsL_succ]; exact FY_un (d := 47) rfl ho38.out (by rfl) (by kernel_rfl)
      simp only [Act.put, List.setIfInBounds_toArray, List.set_cons_zero, List.set_cons_succ, valsL_zero, valsL_succ]
      obtain ⟨ho42, HO⟩ := HO
      refine wpG_v ho42.out rfl ?_ ?_
      · simp only [valsL_zero, valsL_succ]; exact FY_no (d := 43) rfl ho34.out (by rfl) (by kernel_rfl)
      simp only [Act.put, List.setIfInBounds_toArray, List.set_cons_zero, List.set_cons_succ, valsL_zero, valsL_succ]
      refine HQ.out _ _ ?_
      intro wr hf
      simp only [List.drop_succ_cons, List.drop_zero]
      clear HQ HO ho0 ho1 ho2 ho3 ho4 ho5 ho6 ho7 ho8 ho9 ho10 ho11 ho12 ho13 ho14 ho15 ho16 ho17 ho18 ho19 ho20 ho21 ho22 ho23 ho24 ho25 ho26 ho27 ho28 ho29 ho30 ho31 ho32 ho33 ho34 ho35 ho36 ho37 ho38 ho39 ho40 ho41 ho42
      have S3 := hid (S2.out.step hf)
      clear hf
      go_wp2_with fail
      go_ret
      exact ⟨by rw [HZ.out]; rfl, S3.out.now.2⟩
    by_cases he : o.e = 0
    case neg =>
      have he2 : (o.e == 0) = false := by simp [he]
      have hen : (o.e != 0) = true := by simp [he]
      have HZ : Hid (R = ⟨#[]⟩) := hid (by
        rw [← HRR.out]; unfold lineS; rw [if_neg]
        intro h
        have h2 := lineB_iff.1 h
        have h3 := h2.2.2
        unfold moreB at h3
        rw [if_neg h0, if_pos h1, Bool.and_eq_true, Bool.and_eq_true, decide_eq_true_eq] at h3
        exact he h3.2.1)
      apply wp_region_N 43 (valsL (_ :: _ :: _ :: _ :: _ :: _ :: _ :: _ :: _ :: _ :: _ :: _ :: _ :: _ :: _ :: _ :: _ :: _ :: _ :: _ :: _ :: _ :: _ :: _ :: _ :: _ :: _ :: _ :: _ :: (.agg #[.int .i64 o.m.k, .int .i64 o.m.e, .int .i64 o.m.s, .int .i64 o.m.u, .int .i64 o.m.v, .int .i64 o.m.t]) :: _ :: _ :: _ :: _ :: _ :: _ :: _ :: _ :: _ :: _ :: _ :: _ :: _ :: [])) ?hB8 ?main8
      case hB8 => kernel_rfl
      rotate_left 42
      intro ops QT HO HQ
      obtain ⟨ho0, HO⟩ := HO
      refine wpG_v ho0.out rfl ?_ ?_
      · simp only [valsL_zero, valsL_succ]; apply FY_in rfl; intro wx hx
        go_simp
        exact ⟨rfl, rfl⟩
      simp only [Act.put, List.setIfInBounds_toArray, List.set_cons_zero, List.set_cons_succ, valsL_zero, valsL_succ]
      obtain ⟨ho1, HO⟩ := HO
      refine wpG_v ho1.out rfl ?_ ?_
      · simp only [valsL_zero, valsL_succ]; apply FY_in rfl; intro wx hx
        have hc0 := sb_cell ((S2.out wx hx).1)
        go_simp
        exact ⟨rfl, rfl⟩
      simp only [Act.put, List.setIfInBounds_toArray, List.set_cons_zero, List.set_cons_succ, valsL_zero, valsL_succ]
      obtain ⟨ho2, HO⟩ := HO
      refine wpG_v ho2.out rfl ?_ ?_
      · simp only [valsL_zero, valsL_succ]; apply FY_in rfl; intro wx hx
        go_simp
        exact ⟨rfl, rfl⟩
      simp only [Act.put, List.setIfInBounds_toArray, List.set_cons_zero, List.set_cons_succ, valsL_zero, valsL_succ]
      obtain ⟨ho3, HO⟩ := HO
      refine wpG_v ho3.out rfl ?_ ?_
      · simp only [valsL_zero, valsL_succ]; apply FY_in rfl; intro wx hx
        go_simp
        exact ⟨rfl, rfl⟩
      simp only [Act.put, List.setIfInBounds_toArray, List.set_cons_zero, List.set_cons_succ, valsL_zero, valsL_succ]
      obtain ⟨ho4, HO⟩ := HO
      refine wpG_v ho4.out rfl ?_ ?_
      · simp only [valsL_zero, valsL_succ]; apply FY_yes (d := 12) rfl ho3.out (by rfl) (by kernel_rfl); intro wx hx
        go_simp
        exact ⟨rfl, rfl⟩
      simp only [Act.put, List.setIfInBounds_toArray, List.set_cons_zero, List.set_cons_succ, valsL_zero, valsL_succ]
      obtain ⟨ho5, HO⟩ := HO
      refine wpG_v ho5.out rfl ?_ ?_
      · simp only [valsL_zero, valsL_succ]; apply FY_yes (d := 12) rfl ho3.out (by rfl) (by kernel_rfl); intro wx hx
        have hc0 := sb_cell ((S2.out wx hx).1)
        go_simp
        exact ⟨rfl, rfl⟩
      simp only [Act.put, List.setIfInBounds_toArray, List.set_cons_zero, List.set_cons_succ, valsL_zero, valsL_succ]
      obtain ⟨ho6, HO⟩ := HO
      refine wpG_v ho6.out rfl ?_ ?_
      · simp only [valsL_zero, valsL_succ]; apply FY_yes (d := 12) rfl ho3.out (by rfl) (by kernel_rfl); intro wx hx
        go_simp
        exact ⟨rfl, rfl⟩
      simp only [Act.put, List.setIfInBounds_toArray, List.set_cons_zero, List.set_cons_succ, valsL_zero, valsL_succ]
      obtain ⟨ho7, HO⟩ := HO
      refine wpG_v ho7.out rfl ?_ ?_
      · simp only [valsL_zero, valsL_succ]; apply FY_in rfl; intro wx hx
        go_simp
        exact ⟨rfl, rfl⟩
      simp only [Act.put, List.setIfInBounds_toArray, List.set_cons_zero, List.set_cons_succ, valsL_zero, valsL_succ]
      obtain ⟨ho8, HO⟩ := HO
      refine wpG_v ho8.out rfl ?_ ?_
      · simp only [valsL_zero, valsL_succ]; apply FY_in rfl; intro wx hx
        go_simp
        exact ⟨rfl, rfl⟩
      simp only [Act.put, List.setIfInBounds_toArray, List.set_cons_zero, List.set_cons_succ, valsL_zero, valsL_succ]
      obtain ⟨ho9, HO⟩ := HO
      refine wpG_v ho9.out rfl ?_ ?_
      · simp only [valsL_zero, valsL_succ]; apply FY_yes (d := 17) rfl ho8.out (by rfl) (by kernel_rfl); intro wx hx
        go_simp
        exact ⟨rfl, rfl⟩
      simp only [Act.put, List.setIfInBounds_toArray, List.set_cons_zero, List.set_cons_succ, valsL_zero, valsL_succ]
      obtain ⟨ho10, HO⟩ := HO
      refine wpG_v ho10.out rfl ?_ ?_
      · simp only [valsL_zero, valsL_succ]; apply FY_yes (d := 17) rfl ho8.out (by rfl) (by kernel_rfl); intro wx hx
        go_simp
        exact ⟨rfl, rfl⟩
      simp only [Act.put, List.setIfInBounds_toArray, List.set_cons_zero, List.set_cons_succ, valsL_zero, valsL_succ]
      obtain ⟨ho11, HO⟩ := HO
      refine wpG_v ho11.out rfl ?_ ?_
      · simp only [valsL_zero, valsL_succ]; apply FY_in rfl; intro wx hx
        go_simp
        exact ⟨rfl, rfl⟩
      simp only [Act.put, List.setIfInBounds_toArray, List.set_cons_zero, List.set_cons_succ, valsL_zero, valsL_succ]
      obtain ⟨ho12, HO⟩ := HO
      refine wpG_v ho12.out rfl ?_ ?_
      · simp only [valsL_zero, valsL_succ]; apply FY_in rfl; intro wx hx
        go_simp
        exact ⟨rfl, rfl⟩
      simp only [Act.put, List.setIfInBounds_toArray, List.set_cons_zero, List.set_cons_succ, valsL_zero, valsL_succ]
      obtain ⟨ho13, HO⟩ := HO
      refine wpG_v ho13.out rfl ?_ ?_
      · simp only [valsL_zero, valsL_succ]; apply FY_yes (d := 21) rfl ho12.out (by rfl) (by kernel_rfl); intro wx hx
        go_simp
        exact ⟨rfl, rfl⟩
      simp only [Act.put, List.setIfInBounds_toArray, List.set_cons_zero, List.set_cons_succ, valsL_zero, valsL_succ]
      obtain ⟨ho14, HO⟩ := HO
      refine wpG_v ho14.out rfl ?_ ?_
      · simp only [valsL_zero, valsL_succ]; apply FY_yes (d := 21) rfl ho12.out (by rfl) (by kernel_rfl); intro wx hx
        have hc0 := sb_cell ((S2.out wx hx).1)
        go_simp
        exact ⟨rfl, rfl⟩
      simp only [Act.put, List.setIfInBounds_toArray, List.set_cons_zero, List.set_cons_succ, valsL_zero, valsL_succ]
      obtain ⟨ho15, HO⟩ := HO
      refine wpG_v ho15.out rfl ?_ ?_
      · simp only [valsL_zero, valsL_succ]; apply FY_yes (d := 21) rfl ho12.out (by rfl) (by kernel_rfl); intro wx hx
        go_simp
        exact ⟨rfl, rfl⟩
      simp only [Act.put, List.setIfInBounds_toArray, List.set_cons_zero, List.set_cons_succ, valsL_zero, valsL_succ]
      obtain ⟨ho16, HO⟩ := HO
      refine wpG_v ho16.out rfl ?_ ?_
      · simp only [valsL_zero, valsL_succ]; apply FY_yes (d := 21) rfl ho12.out (by rfl) (by kernel_rfl); intro wx hx
        go_simp
        exact ⟨rfl, rfl⟩
      simp only [Act.put, List.setIfInBounds_toArray, List.set_cons_zero, List.set_cons_succ, valsL_zero, valsL_succ]
      obtain ⟨ho17, HO⟩ := HO
      refine wpG_v ho17.out rfl ?_ ?_
      · simp only [valsL_zero, valsL_succ]; exact FY_no (d := 25) rfl ho16.out (by rfl) (by kernel_rfl)
      simp only [Act.put, List.setIfInBounds_toArray, List.set_cons_zero, List.set_cons_succ, valsL_zero, valsL_succ]
      obtain ⟨ho18, HO⟩ := HO
      refine wpG_v ho18.out rfl ?_ ?_
      · simp only [valsL_zero, valsL_succ]; exact FY_no (d := 25) rfl ho16.out (by rfl) (by kernel_rfl)
      simp only [Act.put, List.setIfInBounds_toArray, List.set_cons_zero, List.set_cons_succ, valsL_zero, valsL_succ]
      obtain ⟨ho19, HO⟩ := HO
      refine wpG_v ho19.out rfl ?_ ?_
      · simp only [valsL_zero, valsL_succ]; exact FY_no (d := 25) rfl ho16.out (by rfl) (by kernel_rfl)
      simp only [Act.put, List.setIfInBounds_toArray, List.set_cons_zero, List.set_cons_succ, valsL_zero, valsL_succ]
      obtain ⟨ho20, HO⟩ := HO
      refine wpG_v ho20.out rfl ?_ ?_
      · simp only [valsL_zero, valsL_succ]; exact FY_no (d := 25) rfl ho16.out (by rfl) (by kernel_rfl)
      simp only [Act.put, List.setIfInBounds_toArray, List.set_cons_zero, List.set_cons_succ, valsL_zero, valsL_succ]
      obtain ⟨ho21, HO⟩ := HO
      refine wpG_v ho21.out rfl ?_ ?_
      · simp only [valsL_zero, valsL_succ]; apply FY_yes (d := 21) rfl ho12.out (by rfl) (by kernel_rfl); intro wx hx
        go_simp
        exact ⟨rfl, rfl⟩
      simp only [Act.put, List.setIfInBounds_toArray, List.set_cons_zero, List.set_cons_succ, valsL_zero, valsL_succ]
      obtain ⟨ho22, HO⟩ := HO
      refine wpG_v ho22.out rfl ?_ ?_
      · simp only [valsL_zero, valsL_succ]; apply FY_in rfl; intro wx hx
        go_simp
        exact ⟨rfl, rfl⟩
      simp only [Act.put, List.setIfInBounds_toArray, List.set_cons_zero, List.set_cons_succ, valsL_zero, valsL_succ]
      obtain ⟨ho23, HO⟩ := HO
      refine wpG_v ho23.out rfl ?_ ?_
      · simp only [valsL_zero, valsL_succ]; apply FY_in rfl; intro wx hx
        go_simp
        exact ⟨rfl, rfl⟩
      simp only [Act.put, List.setIfInBounds_toArray, List.set_cons_zero, List.set_cons_succ, valsL_zero, valsL_succ]
      obtain ⟨ho24, HO⟩ := HO
      refine wpG_v ho24.out rfl ?_ ?_
      · simp only [valsL_zero, valsL_succ]; apply FY_yes (d := 32) rfl ho23.out (by rfl) (by kernel_rfl); intro wx hx
        go_simp
        exact ⟨rfl, rfl⟩
      simp only [Act.put, List.setIfInBounds_toArray, List.set_cons_zero, List.set_cons_succ, valsL_zero, valsL_succ]
      obtain ⟨ho25, HO⟩ := HO
      refine wpG_v ho25.out rfl ?_ ?_
      · simp only [valsL_zero, valsL_succ]; apply FY_yes (d := 32) rfl ho23.out (by rfl) (by kernel_rfl); intro wx hx
        have hc0 := sb_cell ((S2.out wx hx).1)
        go_simp
        exact ⟨rfl, rfl⟩
      simp only [Act.put, List.setIfInBounds_toArray, List.set_cons_zero, List.set_cons_succ, valsL_zero, valsL_succ]
      obtain ⟨ho26, HO⟩ := HO
      refine wpG_v ho26.out rfl ?_ ?_
      · simp only [valsL_zero, valsL_succ]; apply FY_yes (d := 32) rfl ho23.out (by rfl) (by kernel_rfl); intro wx hx
        go_simp
        exact ⟨rfl, rfl⟩
      simp only [Act.put, List.setIfInBounds_toArray, List.set_cons_zero, List.set_cons_succ, valsL_zero, valsL_succ]
      obtain ⟨ho27, HO⟩ := HO
      refine wpG_v ho27.out rfl ?_ ?_
      · simp only [valsL_zero, valsL_succ]; apply FY_yes (d := 32) rfl ho23.out (by rfl) (by kernel_rfl); intro wx hx
        go_simp
        exact ⟨rfl, rfl⟩
      simp only [Act.put, List.setIfInBounds_toArray, List.set_cons_zero, List.set_cons_succ, valsL_zero, valsL_succ]
      obtain ⟨ho28, HO⟩ := HO
      refine wpG_v ho28.out rfl ?_ ?_
      · simp only [valsL_zero, valsL_succ]; apply FY_yes (d := 36) rfl ho27.out (by rfl) (by kernel_rfl); intro wx hx
        go_simp
        exact ⟨rfl, rfl⟩
      simp only [Act.put, List.setIfInBounds_toArray, List.set_cons_zero, List.set_cons_succ, valsL_zero, valsL_succ]
      obtain ⟨ho29, HO⟩ := HO
      refine wpG_v ho29.out rfl ?_ ?_
      · simp only [valsL_zero, valsL_succ]; apply FY_yes (d := 36) rfl ho27.out (by rfl) (by kernel_rfl); intro wx hx
        exact fu_load_at_g 29 (.tmp 37) rfl (b) 20 (by kernel_rfl) _ _ _ _ _ ((S2.out wx hx).1) (by rfl) (by simp) Tryz.underlying29 rfl (by kernel_rfl)
      simp only [Act.put, List.setIfInBounds_toArray, List.set_cons_zero, List.set_cons_succ, valsL_zero, valsL_succ]
      obtain ⟨ho30, HO⟩ := HO
      refine wpG_v ho30.out rfl ?_ ?_
      · simp only [valsL_zero, valsL_succ]; apply FY_yes (d := 36) rfl ho27.out (by rfl) (by kernel_rfl); intro wx hx
        go_simp
        exact ⟨rfl, rfl⟩
      simp only [Act.put, List.setIfInBounds_toArray, List.set_cons_zero, List.set_cons_succ, valsL_zero, valsL_succ]
      obtain ⟨ho31, HO⟩ := HO
      refine wpG_v ho31.out rfl ?_ ?_
      · simp only [valsL_zero, valsL_succ]; apply FY_yes (d := 36) rfl ho27.out (by rfl) (by kernel_rfl); intro wx hx
        go_simp
        exact ⟨rfl, rfl⟩
      simp only [Act.put, List.setIfInBounds_toArray, List.set_cons_zero, List.set_cons_succ, valsL_zero, valsL_succ]
      obtain ⟨ho32, HO⟩ := HO
      refine wpG_v ho32.out rfl ?_ ?_
      · simp only [valsL_zero, valsL_succ]; apply FY_yes (d := 32) rfl ho23.out (by rfl) (by kernel_rfl); intro wx hx
        go_simp
        exact ⟨rfl, rfl⟩
      simp only [Act.put, List.setIfInBounds_toArray, List.set_cons_zero, List.set_cons_succ, valsL_zero, valsL_succ]
      obtain ⟨ho33, HO⟩ := HO
      refine wpG_v ho33.out rfl ?_ ?_
      · simp only [valsL_zero, valsL_succ]; apply FY_in rfl; intro wx hx
        go_simp
        exact ⟨rfl, rfl⟩
      simp only [Act.put, List.setIfInBounds_toArray, List.set_cons_zero, List.set_cons_succ, valsL_zero, valsL_succ]
      obtain ⟨ho34, HO⟩ := HO
      refine wpG_v ho34.out rfl ?_ ?_
      · simp only [valsL_zero, valsL_succ]; apply FY_in rfl; intro wx hx
        go_simp
        exact ⟨rfl, rfl⟩
      simp only [Act.put, List.setIfInBounds_toArray, List.set_cons_zero, List.set_cons_succ, valsL_zero, valsL_succ]
      obtain ⟨ho35, HO⟩ := HO
      refine wpG_v ho35.out rfl ?_ ?_
      · simp only [valsL_zero, valsL_succ]; apply FY_yes (d := 43) rfl ho34.out (by rfl) (by kernel_rfl); intro wx hx
        go_simp
        exact ⟨rfl, rfl⟩
      simp only [Act.put, List.setIfInBounds_toArray, List.set_cons_zero, List.set_cons_succ, valsL_zero, valsL_succ]
      obtain ⟨ho36, HO⟩ := HO
      refine wpG_v ho36.out rfl ?_ ?_
      · simp only [valsL_zero, valsL_succ]; apply FY_yes (d := 43) rfl ho34.out (by rfl) (by kernel_rfl); intro wx hx
        have hc0 := sb_cell ((S2.out wx hx).1)
        go_simp
        exact ⟨rfl, rfl⟩
      simp only [Act.put, List.setIfInBounds_toArray, List.set_cons_zero, List.set_cons_succ, valsL_zero, valsL_succ]
      obtain ⟨ho37, HO⟩ := HO
      refine wpG_v ho37.out rfl ?_ ?_
      · simp only [valsL_zero, valsL_succ]; apply FY_yes (d := 43) rfl ho34.out (by rfl) (by kernel_rfl); intro wx hx
        go_simp
        exact ⟨rfl, rfl⟩
      simp only [Act.put, List.setIfInBounds_toArray, List.set_cons_zero, List.set_cons_succ, valsL_zero, valsL_succ]
      obtain ⟨ho38, HO⟩ := HO
      refine wpG_v ho38.out rfl ?_ ?_
      · simp only [valsL_zero, valsL_succ]; apply FY_yes (d := 43) rfl ho34.out (by rfl) (by kernel_rfl); intro wx hx
        go_simp
        exact ⟨rfl, rfl⟩
      simp only [Act.put, List.setIfInBounds_toArray, List.set_cons_zero, List.set_cons_succ, valsL_zero, valsL_succ]
      obtain ⟨ho39, HO⟩ := HO
      refine wpG_v ho39.out rfl ?_ ?_
      · simp only [valsL_zero, valsL_succ]; apply FY_yes (d := 47) rfl ho38.out (by rfl) (by kernel_rfl); intro wx hx
        go_simp
        exact ⟨rfl, rfl⟩
      simp only [Act.put, List.setIfInBounds_toArray, List.set_cons_zero, List.set_cons_succ, valsL_zero, valsL_succ]
      obtain ⟨ho40, HO⟩ := HO
      refine wpG_v ho40.out rfl ?_ ?_
      · simp only [valsL_zero, valsL_succ]; apply FY_yes (d := 47) rfl ho38.out (by rfl) (by kernel_rfl); intro wx hx
        have hc0 := sb_cell ((S2.out wx hx).1)
        go_simp
        exact ⟨rfl, rfl⟩
      simp only [Act.put, List.setIfInBounds_toArray, List.set_cons_zero, List.set_cons_succ, valsL_zero, valsL_succ]
      obtain ⟨ho41, HO⟩ := HO
      refine wpG_v ho41.out rfl ?_ ?_
      · simp only [valsL_zero, valsL_succ]; apply FY_yes (d := 47) rfl ho38.out (by rfl) (by kernel_rfl); intro wx hx
        go_simp
        exact ⟨rfl, rfl⟩
      simp only [Act.put, List.setIfInBounds_toArray, List.set_cons_zero, List.set_cons_succ, valsL_zero, valsL_succ]
      obtain ⟨ho42, HO⟩ := HO
      refine wpG_v ho42.out rfl ?_ ?_
      · simp only [valsL_zero, valsL_succ]; apply FY_yes (d := 43) rfl ho34.out (by rfl) (by kernel_rfl); intro wx hx
        go_simp
        exact ⟨rfl, rfl⟩
      simp only [Act.put, List.setIfInBounds_toArray, List.set_cons_zero, List.set_cons_succ, valsL_zero, valsL_succ]
      refine HQ.out _ _ ?_
      intro wr hf
      simp only [List.drop_succ_cons, List.drop_zero]
      clear HQ HO ho0 ho1 ho2 ho3 ho4 ho5 ho6 ho7 ho8 ho9 ho10 ho11 ho12 ho13 ho14 ho15 ho16 ho17 ho18 ho19 ho20 ho21 ho22 ho23 ho24 ho25 ho26 ho27 ho28 ho29 ho30 ho31 ho32 ho33 ho34 ho35 ho36 ho37 ho38 ho39 ho40 ho41 ho42
      have S3 := hid (S2.out.step hf)
      clear hf
      go_wp2_with fail
      go_ret
      exact ⟨by rw [HZ.out]; rfl, S3.out.now.2⟩
    have he2 : (o.e == 0) = true := by simp [he]
    have hen : (o.e != 0) = false := by simp [he]
    have HBK : Hid (backS o = wordsS o.r) := hid (by unfold backS; rw [if_neg h0, if_pos h1])
    have HLB : Hid ((wordsS o.r).toList.isEmpty = false → lineB o = true) := hid (fun h => by
      rw [lineB_iff]
      refine ⟨by omega, HE13.out, ?_⟩
      unfold moreB
      have hm1 : meq o.m Mg.zero = true := meq_iff.2 (mneq_no hm)
      rw [if_neg h0, if_pos h1, h, decide_eq_true he, hm1]; rfl)
    have HLN : Hid ((wordsS o.r).toList.isEmpty = true → lineB o = false) := hid (fun h => by
      cases hb : lineB o with
      | false => rfl
      | true =>
        have h2 := (lineB_iff.1 hb).2.2
        unfold moreB at h2
        rw [if_neg h0, if_pos h1, h] at h2
        cases h2)
    apply wp_region_N 43 (valsL (_ :: _ :: _ :: _ :: _ :: _ :: _ :: _ :: _ :: _ :: _ :: _ :: _ :: _ :: _ :: _ :: _ :: _ :: _ :: _ :: _ :: _ :: _ :: _ :: _ :: _ :: _ :: _ :: _ :: (.agg #[.int .i64 o.m.k, .int .i64 o.m.e, .int .i64 o.m.s, .int .i64 o.m.u, .int .i64 o.m.v, .int .i64 o.m.t]) :: _ :: _ :: _ :: _ :: _ :: _ :: _ :: _ :: _ :: _ :: _ :: _ :: _ :: [])) ?hB9 ?main9
    case hB9 => kernel_rfl
    rotate_left 42
    intro ops QT HO HQ
    obtain ⟨ho0, HO⟩ := HO
    refine wpG_v ho0.out rfl ?_ ?_
    · simp only [valsL_zero, valsL_succ]; apply FY_in rfl; intro wx hx
      go_simp
      exact ⟨rfl, rfl⟩
    simp only [Act.put, List.setIfInBounds_toArray, List.set_cons_zero, List.set_cons_succ, valsL_zero, valsL_succ]
    obtain ⟨ho1, HO⟩ := HO
    refine wpG_v ho1.out rfl ?_ ?_
    · simp only [valsL_zero, valsL_succ]; apply FY_in rfl; intro wx hx
      have hc0 := sb_cell ((S2.out wx hx).1)
      go_simp
      exact ⟨rfl, rfl⟩
    simp only [Act.put, List.setIfInBounds_toArray, List.set_cons_zero, List.set_cons_succ, valsL_zero, valsL_succ]
    obtain ⟨ho2, HO⟩ := HO
    refine wpG_v ho2.out rfl ?_ ?_
    · simp only [valsL_zero, valsL_succ]; apply FY_in rfl; intro wx hx
      go_simp
      exact ⟨rfl, rfl⟩
    simp only [Act.put, List.setIfInBounds_toArray, List.set_cons_zero, List.set_cons_succ, valsL_zero, valsL_succ]
    obtain ⟨ho3, HO⟩ := HO
    refine wpG_v ho3.out rfl ?_ ?_
    · simp only [valsL_zero, valsL_succ]; apply FY_in rfl; intro wx hx
      go_simp
      exact ⟨rfl, rfl⟩
    simp only [Act.put, List.setIfInBounds_toArray, List.set_cons_zero, List.set_cons_succ, valsL_zero, valsL_succ]
    obtain ⟨ho4, HO⟩ := HO
    refine wpG_v ho4.out rfl ?_ ?_
    · simp only [valsL_zero, valsL_succ]; apply FY_yes (d := 12) rfl ho3.out (by rfl) (by kernel_rfl); intro wx hx
      go_simp
      exact ⟨rfl, rfl⟩
    simp only [Act.put, List.setIfInBounds_toArray, List.set_cons_zero, List.set_cons_succ, valsL_zero, valsL_succ]
    obtain ⟨ho5, HO⟩ := HO
    refine wpG_v ho5.out rfl ?_ ?_
    · simp only [valsL_zero, valsL_succ]; apply FY_yes (d := 12) rfl ho3.out (by rfl) (by kernel_rfl); intro wx hx
      have hc0 := sb_cell ((S2.out wx hx).1)
      go_simp
      exact ⟨rfl, rfl⟩
    simp only [Act.put, List.setIfInBounds_toArray, List.set_cons_zero, List.set_cons_succ, valsL_zero, valsL_succ]
    obtain ⟨ho6, HO⟩ := HO
    refine wpG_v ho6.out rfl ?_ ?_
    · simp only [valsL_zero, valsL_succ]; apply FY_yes (d := 12) rfl ho3.out (by rfl) (by kernel_rfl); intro wx hx
      go_simp
      exact ⟨rfl, rfl⟩
    simp only [Act.put, List.setIfInBounds_toArray, List.set_cons_zero, List.set_cons_succ, valsL_zero, valsL_succ]
    obtain ⟨ho7, HO⟩ := HO
    refine wpG_v ho7.out rfl ?_ ?_
    · simp only [valsL_zero, valsL_succ]; apply FY_in rfl; intro wx hx
      go_simp
      exact ⟨rfl, rfl⟩
    simp only [Act.put, List.setIfInBounds_toArray, List.set_cons_zero, List.set_cons_succ, valsL_zero, valsL_succ]
    obtain ⟨ho8, HO⟩ := HO
    refine wpG_v ho8.out rfl ?_ ?_
    · simp only [valsL_zero, valsL_succ]; apply FY_in rfl; intro wx hx
      go_simp
      exact ⟨rfl, rfl⟩
    simp only [Act.put, List.setIfInBounds_toArray, List.set_cons_zero, List.set_cons_succ, valsL_zero, valsL_succ]
    obtain ⟨ho9, HO⟩ := HO
    refine wpG_v ho9.out rfl ?_ ?_
    · simp only [valsL_zero, valsL_succ]; apply FY_yes (d := 17) rfl ho8.out (by rfl) (by kernel_rfl); intro wx hx
      go_simp
      exact ⟨rfl, rfl⟩
    simp only [Act.put, List.setIfInBounds_toArray, List.set_cons_zero, List.set_cons_succ, valsL_zero, valsL_succ]
    obtain ⟨ho10, HO⟩ := HO
    refine wpG_v ho10.out rfl ?_ ?_
    · simp only [valsL_zero, valsL_succ]; apply FY_yes (d := 17) rfl ho8.out (by rfl) (by kernel_rfl); intro wx hx
      go_simp
      exact ⟨rfl, rfl⟩
    simp only [Act.put, List.setIfInBounds_toArray, List.set_cons_zero, List.set_cons_succ, valsL_zero, valsL_succ]
    obtain ⟨ho11, HO⟩ := HO
    refine wpG_v ho11.out rfl ?_ ?_
    · simp only [valsL_zero, valsL_succ]; apply FY_in rfl; intro wx hx
      go_simp
      exact ⟨rfl, rfl⟩
    simp only [Act.put, List.setIfInBounds_toArray, List.set_cons_zero, List.set_cons_succ, valsL_zero, valsL_succ]
    obtain ⟨ho12, HO⟩ := HO
    refine wpG_v ho12.out rfl ?_ ?_
    · simp only [valsL_zero, valsL_succ]; apply FY_in rfl; intro wx hx
      go_simp
      exact ⟨rfl, rfl⟩
    simp only [Act.put, List.setIfInBounds_toArray, List.set_cons_zero, List.set_cons_succ, valsL_zero, valsL_succ]
    obtain ⟨ho13, HO⟩ := HO
    refine wpG_v ho13.out rfl ?_ ?_
    · simp only [valsL_zero, valsL_succ]; apply FY_yes (d := 21) rfl ho12.out (by rfl) (by kernel_rfl); intro wx hx
      go_simp
      exact ⟨rfl, rfl⟩
    simp only [Act.put, List.setIfInBounds_toArray, List.set_cons_zero, List.set_cons_succ, valsL_zero, valsL_succ]
    obtain ⟨ho14, HO⟩ := HO
    refine wpG_v ho14.out rfl ?_ ?_
    · simp only [valsL_zero, valsL_succ]; apply FY_yes (d := 21) rfl ho12.out (by rfl) (by kernel_rfl); intro wx hx
      have hc0 := sb_cell ((S2.out wx hx).1)
      go_simp
      exact ⟨rfl, rfl⟩
    simp only [Act.put, List.setIfInBounds_toArray, List.set_cons_zero, List.set_cons_succ, valsL_zero, valsL_succ]
    obtain ⟨ho15, HO⟩ := HO
    refine wpG_v ho15.out rfl ?_ ?_
    · simp only [valsL_zero, valsL_succ]; apply FY_yes (d := 21) rfl ho12.out (by rfl) (by kernel_rfl); intro wx hx
      go_simp
      exact ⟨rfl, rfl⟩
    simp only [Act.put, List.setIfInBounds_toArray, List.set_cons_zero, List.set_cons_succ, valsL_zero, valsL_succ]
    obtain ⟨ho16, HO⟩ := HO
    refine wpG_v ho16.out rfl ?_ ?_
    · simp only [valsL_zero, valsL_succ]; apply FY_yes (d := 21) rfl ho12.out (by rfl) (by kernel_rfl); intro wx hx
      go_simp
      exact ⟨rfl, rfl⟩
    simp only [Act.put, List.setIfInBounds_toArray, List.set_cons_zero, List.set_cons_succ, valsL_zero, valsL_succ]
    obtain ⟨ho17, HO⟩ := HO
    refine wpG_v ho17.out rfl ?_ ?_
    · simp only [valsL_zero, valsL_succ]; exact FY_no (d := 25) rfl ho16.out (by rfl) (by kernel_rfl)
    simp only [Act.put, List.setIfInBounds_toArray, List.set_cons_zero, List.set_cons_succ, valsL_zero, valsL_succ]
    obtain ⟨ho18, HO⟩ := HO
    refine wpG_v ho18.out rfl ?_ ?_
    · simp only [valsL_zero, valsL_succ]; exact FY_no (d := 25) rfl ho16.out (by rfl) (by kernel_rfl)
    simp only [Act.put, List.setIfInBounds_toArray, List.set_cons_zero, List.set_cons_succ, valsL_zero, valsL_succ]
    obtain ⟨ho19, HO⟩ := HO
    refine wpG_v ho19.out rfl ?_ ?_
    · simp only [valsL_zero, valsL_succ]; exact FY_no (d := 25) rfl ho16.out (by rfl) (by kernel_rfl)
    simp only [Act.put, List.setIfInBounds_toArray, List.set_cons_zero, List.set_cons_succ, valsL_zero, valsL_succ]
    obtain ⟨ho20, HO⟩ := HO
    refine wpG_v ho20.out rfl ?_ ?_
    · simp only [valsL_zero, valsL_succ]; exact FY_no (d := 25) rfl ho16.out (by rfl) (by kernel_rfl)
    simp only [Act.put, List.setIfInBounds_toArray, List.set_cons_zero, List.set_cons_succ, valsL_zero, valsL_succ]
    obtain ⟨ho21, HO⟩ := HO
    refine wpG_v ho21.out rfl ?_ ?_
    · simp only [valsL_zero, valsL_succ]; apply FY_yes (d := 21) rfl ho12.out (by rfl) (by kernel_rfl); intro wx hx
      go_simp
      exact ⟨rfl, rfl⟩
    simp only [Act.put, List.setIfInBounds_toArray, List.set_cons_zero, List.set_cons_succ, valsL_zero, valsL_succ]
    obtain ⟨ho22, HO⟩ := HO
    refine wpG_v ho22.out rfl ?_ ?_
    · simp only [valsL_zero, valsL_succ]; apply FY_in rfl; intro wx hx
      go_simp
      exact ⟨rfl, rfl⟩
    simp only [Act.put, List.setIfInBounds_toArray, List.set_cons_zero, List.set_cons_succ, valsL_zero, valsL_succ]
    obtain ⟨ho23, HO⟩ := HO
    refine wpG_v ho23.out rfl ?_ ?_
    · simp only [valsL_zero, valsL_succ]; apply FY_in rfl; intro wx hx
      go_simp
      exact ⟨rfl, rfl⟩
    simp only [Act.put, List.setIfInBounds_toArray, List.set_cons_zero, List.set_cons_succ, valsL_zero, valsL_succ]
    obtain ⟨ho24, HO⟩ := HO
    refine wpG_v ho24.out rfl ?_ ?_
    · simp only [valsL_zero, valsL_succ]; apply FY_yes (d := 32) rfl ho23.out (by rfl) (by kernel_rfl); intro wx hx
      go_simp
      exact ⟨rfl, rfl⟩
    simp only [Act.put, List.setIfInBounds_toArray, List.set_cons_zero, List.set_cons_succ, valsL_zero, valsL_succ]
    obtain ⟨ho25, HO⟩ := HO
    refine wpG_v ho25.out rfl ?_ ?_
    · simp only [valsL_zero, valsL_succ]; apply FY_yes (d := 32) rfl ho23.out (by rfl) (by kernel_rfl); intro wx hx
      have hc0 := sb_cell ((S2.out wx hx).1)
      go_simp
      exact ⟨rfl, rfl⟩
    simp only [Act.put, List.setIfInBounds_toArray, List.set_cons_zero, List.set_cons_succ, valsL_zero, valsL_succ]
    obtain ⟨ho26, HO⟩ := HO
    refine wpG_v ho26.out rfl ?_ ?_
    · simp only [valsL_zero, valsL_succ]; apply FY_yes (d := 32) rfl ho23.out (by rfl) (by kernel_rfl); intro wx hx
      go_simp
      exact ⟨rfl, rfl⟩
    simp only [Act.put, List.setIfInBounds_toArray, List.set_cons_zero, List.set_cons_succ, valsL_zero, valsL_succ]
    obtain ⟨ho27, HO⟩ := HO
    refine wpG_v ho27.out rfl ?_ ?_
    · simp only [valsL_zero, valsL_succ]; apply FY_yes (d := 32) rfl ho23.out (by rfl) (by kernel_rfl); intro wx hx
      go_simp
      exact ⟨rfl, rfl⟩
    simp only [Act.put, List.setIfInBounds_toArray, List.set_cons_zero, List.set_cons_succ, valsL_zero, valsL_succ]
    obtain ⟨ho28, HO⟩ := HO
    refine wpG_v ho28.out rfl ?_ ?_
    · simp only [valsL_zero, valsL_succ]; apply FY_yes (d := 36) rfl ho27.out (by rfl) (by kernel_rfl); intro wx hx
      go_simp
      exact ⟨rfl, rfl⟩
    simp only [Act.put, List.setIfInBounds_toArray, List.set_cons_zero, List.set_cons_succ, valsL_zero, valsL_succ]
    obtain ⟨ho29, HO⟩ := HO
    refine wpG_v ho29.out rfl ?_ ?_
    · simp only [valsL_zero, valsL_succ]; apply FY_yes (d := 36) rfl ho27.out (by rfl) (by kernel_rfl); intro wx hx
      exact fu_load_at_g 29 (.tmp 37) rfl (b) 20 (by kernel_rfl) _ _ _ _ _ ((S2.out wx hx).1) (by rfl) (by simp) Tryz.underlying29 rfl (by kernel_rfl)
    simp only [Act.put, List.setIfInBounds_toArray, List.set_cons_zero, List.set_cons_succ, valsL_zero, valsL_succ]
    obtain ⟨ho30, HO⟩ := HO
    refine wpG_v ho30.out rfl ?_ ?_
    · simp only [valsL_zero, valsL_succ]; apply FY_yes (d := 36) rfl ho27.out (by rfl) (by kernel_rfl); intro wx hx
      go_simp
      exact ⟨rfl, rfl⟩
    simp only [Act.put, List.setIfInBounds_toArray, List.set_cons_zero, List.set_cons_succ, valsL_zero, valsL_succ]
    obtain ⟨ho31, HO⟩ := HO
    refine wpG_v ho31.out rfl ?_ ?_
    · simp only [valsL_zero, valsL_succ]; apply FY_yes (d := 36) rfl ho27.out (by rfl) (by kernel_rfl); intro wx hx
      go_simp
      exact ⟨rfl, rfl⟩
    simp only [Act.put, List.setIfInBounds_toArray, List.set_cons_zero, List.set_cons_succ, valsL_zero, valsL_succ]
    obtain ⟨ho32, HO⟩ := HO
    refine wpG_v ho32.out rfl ?_ ?_
    · simp only [valsL_zero, valsL_succ]; apply FY_yes (d := 32) rfl ho23.out (by rfl) (by kernel_rfl); intro wx hx
      go_simp
      exact ⟨rfl, rfl⟩
    simp only [Act.put, List.setIfInBounds_toArray, List.set_cons_zero, List.set_cons_succ, valsL_zero, valsL_succ]
    obtain ⟨ho33, HO⟩ := HO
    refine wpG_v ho33.out rfl ?_ ?_
    · simp only [valsL_zero, valsL_succ]; apply FY_in rfl; intro wx hx
      go_simp
      exact ⟨rfl, rfl⟩
    simp only [Act.put, List.setIfInBounds_toArray, List.set_cons_zero, List.set_cons_succ, valsL_zero, valsL_succ]
    obtain ⟨ho34, HO⟩ := HO
    refine wpG_v ho34.out rfl ?_ ?_
    · simp only [valsL_zero, valsL_succ]; apply FY_in rfl; intro wx hx
      go_simp
      exact ⟨rfl, rfl⟩
    simp only [Act.put, List.setIfInBounds_toArray, List.set_cons_zero, List.set_cons_succ, valsL_zero, valsL_succ]
    obtain ⟨ho35, HO⟩ := HO
    refine wpG_v ho35.out rfl ?_ ?_
    · simp only [valsL_zero, valsL_succ]; apply FY_yes (d := 43) rfl ho34.out (by rfl) (by kernel_rfl); intro wx hx
      go_simp
      exact ⟨rfl, rfl⟩
    simp only [Act.put, List.setIfInBounds_toArray, List.set_cons_zero, List.set_cons_succ, valsL_zero, valsL_succ]
    obtain ⟨ho36, HO⟩ := HO
    refine wpG_v ho36.out rfl ?_ ?_
    · simp only [valsL_zero, valsL_succ]; apply FY_yes (d := 43) rfl ho34.out (by rfl) (by kernel_rfl); intro wx hx
      have hc0 := sb_cell ((S2.out wx hx).1)
      go_simp
      exact ⟨rfl, rfl⟩
    simp only [Act.put, List.setIfInBounds_toArray, List.set_cons_zero, List.set_cons_succ, valsL_zero, valsL_succ]
    obtain ⟨ho37, HO⟩ := HO
    refine wpG_v ho37.out rfl ?_ ?_
    · simp only [valsL_zero, valsL_succ]; apply FY_yes (d := 43) rfl ho34.out (by rfl) (by kernel_rfl); intro wx hx
      go_simp
      exact ⟨rfl, rfl⟩
    simp only [Act.put, List.setIfInBounds_toArray, List.set_cons_zero, List.set_cons_succ, valsL_zero, valsL_succ]
    obtain ⟨ho38, HO⟩ := HO
    refine wpG_v ho38.out rfl ?_ ?_
    · simp only [valsL_zero, valsL_succ]; apply FY_yes (d := 43) rfl ho34.out (by rfl) (by kernel_rfl); intro wx hx
      go_simp
      exact ⟨rfl, rfl⟩
    simp only [Act.put, List.setIfInBounds_toArray, List.set_cons_zero, List.set_cons_succ, valsL_zero, valsL_succ]
    obtain ⟨ho39, HO⟩ := HO
    refine wpG_v ho39.out rfl ?_ ?_
    · simp only [valsL_zero, valsL_succ]; apply FY_yes (d := 47) rfl ho38.out (by rfl) (by kernel_rfl); intro wx hx
      go_simp
      exact ⟨rfl, rfl⟩
    simp only [Act.put, List.setIfInBounds_toArray, List.set_cons_zero, List.set_cons_succ, valsL_zero, valsL_succ]
    obtain ⟨ho40, HO⟩ := HO
    refine wpG_v ho40.out rfl ?_ ?_
    · simp only [valsL_zero, valsL_succ]; apply FY_yes (d := 47) rfl ho38.out (by rfl) (by kernel_rfl); intro wx hx
      have hc0 := sb_cell ((S2.out wx hx).1)
      go_simp
      exact ⟨rfl, rfl⟩
    simp only [Act.put, List.setIfInBounds_toArray, List.set_cons_zero, List.set_cons_succ, valsL_zero, valsL_succ]
    obtain ⟨ho41, HO⟩ := HO
    refine wpG_v ho41.out rfl ?_ ?_
    · simp only [valsL_zero, valsL_succ]; apply FY_yes (d := 47) rfl ho38.out (by rfl) (by kernel_rfl); intro wx hx
      go_simp
      exact ⟨rfl, rfl⟩
    simp only [Act.put, List.setIfInBounds_toArray, List.set_cons_zero, List.set_cons_succ, valsL_zero, valsL_succ]
    obtain ⟨ho42, HO⟩ := HO
    refine wpG_v ho42.out rfl ?_ ?_
    · simp only [valsL_zero, valsL_succ]; apply FY_yes (d := 43) rfl ho34.out (by rfl) (by kernel_rfl); intro wx hx
      go_simp
      exact ⟨rfl, rfl⟩
    simp only [Act.put, List.setIfInBounds_toArray, List.set_cons_zero, List.set_cons_succ, valsL_zero, valsL_succ]
    refine HQ.out _ _ ?_
    intro wq hf
    simp only [List.drop_succ_cons, List.drop_zero]
    clear HQ HO ho0 ho1 ho2 ho3 ho4 ho5 ho6 ho7 ho8 ho9 ho10 ho11 ho12 ho13 ho14 ho15 ho16 ho17 ho18 ho19 ho20 ho21 ho22 ho23 ho24 ho25 ho26 ho27 ho28 ho29 ho30 ho31 ho32 ho33 ho34 ho35 ho36 ho37 ho38 ho39 ho40 ho41 ho42
    have S3 := hid (S2.out.step hf)
    clear hf c0 c1 S2
    have S2 := S3
    clear S3
    have c0 : wq.cell? ⟨b, 0, none⟩ = some (.int .i64 o.d) := cell_at S2.out.now.1 0
    obtain ⟨n, hn⟩ : ∃ n : Nat, o.d = n := ⟨o.d.toNat, by omega⟩
    have hn4 : n < 4 := by omega
    obtain ⟨D, HD⟩ : ∃ D, Hid (didW n = D) := ⟨_, rfl⟩
    have hDs : D.size ≤ 10 := by rw [← HD.out]; exact did_sz_fin ⟨n, hn4⟩
    have hcw := did_cell wq n hn4
    rw [HD.out] at hcw
    have hn0 : (0 : Int) ≤ (n : Int) := by omega
    have hn1 : (n : Int) < 4 := by omega
    have hYs := HES.out
    have hl1 : ¬ 9223372036854775806 < D.size := by omega
    have hl1b : D.size ≤ 9223372036854775806 := by omega
    have hl2 : ¬ 9223372036854775807 < D.size + 1 + Y.size := by omega
    have hl2b : D.size + 1 + Y.size ≤ 9223372036854775807 := by omega
    have hbw : b < wq.heap.size := sb_lt S2.out.now.1
    go_upto_region 5 with fail
    have S3 := hid (S2.out.alloc (.cells #[.string ⟨#[110, 111, 116, 104, 105, 110, 103]⟩, .string ⟨#[99, 111, 109, 109, 105, 116, 116, 101, 100]⟩, .string ⟨#[115, 101, 110, 116]⟩, .string ⟨#[104, 101, 97, 114, 100]⟩] 9))
    obtain ⟨w3, hw3⟩ : ∃ x, x = wq.alloc (.cells #[.string ⟨#[110, 111, 116, 104, 105, 110, 103]⟩, .string ⟨#[99, 111, 109, 109, 105, 116, 116, 101, 100]⟩, .string ⟨#[115, 101, 110, 116]⟩, .string ⟨#[104, 101, 97, 114, 100]⟩] 9) := ⟨_, rfl⟩
    rw [← hw3] at S3 ⊢
    have HDS := hid (And.intro hDs hYs)
    have HDN : Hid (didW o.d = D) := hid (by rw [hn]; exact HD.out)
    have H0 := hid h0
    have H1 := hid h1
    clear hw3 hn hn4 hDs hcw hn0 hn1 hYs hl1 hl1b hl2 hl2b hbw c0 S2 hneg hbig h0 h1 hm he
    have c0 : w3.cell? ⟨b, 0, none⟩ = some (.int .i64 o.d) := cell_at S3.out.now.1 0
    go_wp2_with (refine wpList_load_at (by kernel_rfl) 29 (.tmp 65) (by with_reducible rfl) b 20 (by kernel_rfl) _ _ _ S3.out.now.1 #[.int .i64 o.m.k, .int .i64 o.m.e, .int .i64 o.m.s, .int .i64 o.m.u, .int .i64 o.m.v, .int .i64 o.m.t] (by rfl) (by simp) _ Tryz.underlying29 rfl (by kernel_rfl) ?_)
    rw [← HVM.out]
    refine (rmsg_calls o.m _).mono ?_
    rintro _ w4 ⟨rfl, hf⟩
    have S4 := hid (S3.out.step hf)
    clear hf c0 S3
    have c0 : w4.cell? ⟨b, 0, none⟩ = some (.int .i64 o.d) := cell_at S4.out.now.1 0
    obtain ⟨y0, HY0⟩ : ∃ y, Hid (msgS o.m = y) := ⟨_, rfl⟩
    rw [HY0.out]
    go_wp2_with (refine wpList_load_at (by kernel_rfl) 27 (.tmp 71) (by with_reducible rfl) b 2 (by kernel_rfl) _ _ _ S4.out.now.1 #[.int .i64 o.r.k, .int .i64 o.r.e, .int .i64 o.r.w, .int .i64 o.r.n, .int .i64 o.r.q, .string o.r.t, .int .i64 o.r.p.s0, .int .i64 o.r.p.s1, .int .i64 o.r.p.s2, .int .i64 o.r.p.s3, .int .i64 o.r.p.s4, .int .i64 o.r.p.s5, .int .i64 o.r.p.s6, .int .i64 o.r.p.s7, .int .i64 o.r.p.s8, .int .i64 o.r.p.s9, .int .i64 o.r.p.s10, .int .i64 o.r.p.s11] (by rfl) (by simp) _ Tryz.underlying27 rfl (by kernel_rfl) ?_)
    rw [← HVR.out]
    refine (rwordsR_calls o.r _ HR.out).mono ?_
    rintro _ w5 ⟨rfl, hf⟩
    have S5 := hid (S4.out.step hf)
    clear hf c0 S4
    obtain ⟨y, HYY⟩ : ∃ y, Hid (wordsS o.r = y) := ⟨_, rfl⟩
    have hys := words_le HR.out
    rw [HYY.out] at hys HLB HLN HBK ⊢
    have hds := HDS.out
    have HDQ : Hid (didW o.d = ⟨#[99, 111, 109, 109, 105, 116, 116, 101, 100]⟩) := hid (by rw [H1.out]; rfl)
    have hl3c : ¬ 9223372036854775806 < D.size + 1 + Y.size := by omega
    have hl3b : D.size + 1 + Y.size ≤ 9223372036854775806 := by omega
    have hl4 : ¬ 9223372036854775807 < D.size + 1 + Y.size + 1 + y.size := by omega
    have hl4b : D.size + 1 + Y.size + 1 + y.size ≤ 9223372036854775807 := by omega
    cases hEy : y.toList.isEmpty
    case true =>
      have HZ : Hid (R = ⟨#[]⟩) := hid (by
        rw [← HRR.out]; unfold lineS; rw [HLN.out hEy]; rfl)
      go_wp2_with fail
      try simp only [Exit.inBlock, Exit.then]
      refine bodyPost_ret (v := .string ⟨#[]⟩) ?_ ?_ ?_
      · simp [results, Tryz.results11, go_sem]
      · rfl
      · exact ⟨by rw [HZ.out], S5.out.now.2⟩
    case false =>
      have HZ : Hid (R = ⟨#[99, 111, 109, 109, 105, 116, 116, 101, 100]⟩ ++ ⟨#[32]⟩ ++ Y ++ ⟨#[32]⟩ ++ y) := hid (by
        rw [← HRR.out, line_back (HLB.out hEy) H0.out, HBK.out, HDQ.out, HY.out])
      obtain ⟨hds1, hds2⟩ := hds
      go_wp2_with fail
      all_goals first
        | (exfalso; omega)
        | ((try simp only [Exit.inBlock, Exit.then])
           refine bodyPost_ret (v := .string (⟨#[99, 111, 109, 109, 105, 116, 116, 101, 100]⟩ ++ ⟨#[32]⟩ ++ Y ++ ⟨#[32]⟩ ++ y)) ?_ ?_ ?_
           · simp [results, Tryz.results11, go_sem]
           · rfl
           · exact ⟨by rw [HZ.out], S5.out.now.2⟩)
  · have d1 : (o.d == 1) = false := by simp [h1]
    have dn : (o.d != 1) = true := by simp [h1]
    have d2 : decide (o.d < 2) = false := decide_eq_false (by omega)
    have d2' : ¬ o.d < 2 := by omega
    cases hq : rneq ⟨o.r.k, o.r.e, o.r.w, o.r.n, o.r.q, o.r.t, ⟨o.r.p.s0, o.r.p.s1, o.r.p.s2, o.r.p.s3, o.r.p.s4, o.r.p.s5, o.r.p.s6, o.r.p.s7, o.r.p.s8, o.r.p.s9, o.r.p.s10, o.r.p.s11⟩⟩ ⟨0, 0, 0, 0, 0, ⟨#[]⟩, ⟨0, 0, 0, 0, 0, 0, 0, 0, 0, 0, 0, 0⟩⟩
    case true =>
      have HZ : Hid (R = ⟨#[]⟩) := hid (by
        rw [← HRR.out]; unfold lineS; rw [if_neg]
        intro h
        have h2 := lineB_iff.1 h
        have h3 := h2.2.2
        unfold moreB at h3
        rw [if_neg h0, if_neg h1, Bool.and_eq_true, req_iff2] at h3
        exact rneq_iff.1 hq h3.2)
      apply wp_region_N 43 (valsL (_ :: _ :: _ :: _ :: _ :: _ :: _ :: _ :: _ :: _ :: _ :: _ :: _ :: _ :: _ :: _ :: _ :: _ :: (.agg #[.int .i64 o.r.k, .int .i64 o.r.e, .int .i64 o.r.w, .int .i64 o.r.n, .int .i64 o.r.q, .string o.r.t, .int .i64 o.r.p.s0, .int .i64 o.r.p.s1, .int .i64 o.r.p.s2, .int .i64 o.r.p.s3, .int .i64 o.r.p.s4, .int .i64 o.r.p.s5, .int .i64 o.r.p.s6, .int .i64 o.r.p.s7, .int .i64 o.r.p.s8, .int .i64 o.r.p.s9, .int .i64 o.r.p.s10, .int .i64 o.r.p.s11]) :: _ :: _ :: _ :: _ :: _ :: _ :: _ :: _ :: _ :: _ :: _ :: _ :: _ :: _ :: _ :: _ :: _ :: _ :: _ :: _ :: _ :: _ :: _ :: _ :: [])) ?hB10 ?main10
      case hB10 => kernel_rfl
      rotate_left 42
      intro ops QT HO HQ
      obtain ⟨ho0, HO⟩ := HO
      refine wpG_v ho0.out rfl ?_ ?_
      · simp only [valsL_zero, valsL_succ]; apply FY_in rfl; intro wx hx
        go_simp
        exact ⟨rfl, rfl⟩
      simp only [Act.put, List.setIfInBounds_toArray, List.set_cons_zero, List.set_cons_succ, valsL_zero, valsL_succ]
      obtain ⟨ho1, HO⟩ := HO
      refine wpG_v ho1.out rfl ?_ ?_
      · simp only [valsL_zero, valsL_succ]; apply FY_in rfl; intro wx hx
        have hc0 := sb_cell ((S2.out wx hx).1)
        go_simp
        exact ⟨rfl, rfl⟩
      simp only [Act.put, List.setIfInBounds_toArray, List.set_cons_zero, List.set_cons_succ, valsL_zero, valsL_succ]
      obtain ⟨ho2, HO⟩ := HO
      refine wpG_v ho2.out rfl ?_ ?_
      · simp only [valsL_zero, valsL_succ]; apply FY_in rfl; intro wx hx
        go_simp
        exact ⟨rfl, rfl⟩
      simp only [Act.put, List.setIfInBounds_toArray, List.set_cons_zero, List.set_cons_succ, valsL_zero, valsL_succ]
      obtain ⟨ho3, HO⟩ := HO
      refine wpG_v ho3.out rfl ?_ ?_
      · simp only [valsL_zero, valsL_succ]; apply FY_in rfl; intro wx hx
        go_simp
        exact ⟨rfl, rfl⟩
      simp only [Act.put, List.setIfInBounds_toArray, List.set_cons_zero, List.set_cons_succ, valsL_zero, valsL_succ]
      obtain ⟨ho4, HO⟩ := HO
      refine wpG_v ho4.out rfl ?_ ?_
      · simp only [valsL_zero, valsL_succ]; apply FY_yes (d := 12) rfl ho3.out (by rfl) (by kernel_rfl); intro wx hx
        go_simp
        exact ⟨rfl, rfl⟩
      simp only [Act.put, List.setIfInBounds_toArray, List.set_cons_zero, List.set_cons_succ, valsL_zero, valsL_succ]
      obtain ⟨ho5, HO⟩ := HO
      refine wpG_v ho5.out rfl ?_ ?_
      · simp only [valsL_zero, valsL_succ]; apply FY_yes (d := 12) rfl ho3.out (by rfl) (by kernel_rfl); intro wx hx
        have hc0 := sb_cell ((S2.out wx hx).1)
        go_simp
        exact ⟨rfl, rfl⟩
      simp only [Act.put, List.setIfInBounds_toArray, List.set_cons_zero, List.set_cons_succ, valsL_zero, valsL_succ]
      obtain ⟨ho6, HO⟩ := HO
      refine wpG_v ho6.out rfl ?_ ?_
      · simp only [valsL_zero, valsL_succ]; apply FY_yes (d := 12) rfl ho3.out (by rfl) (by kernel_rfl); intro wx hx
        go_simp
        exact ⟨rfl, rfl⟩
      simp only [Act.put, List.setIfInBounds_toArray, List.set_cons_zero, List.set_cons_succ, valsL_zero, valsL_succ]
      obtain ⟨ho7, HO⟩ := HO
      refine wpG_v ho7.out rfl ?_ ?_
      · simp only [valsL_zero, valsL_succ]; apply FY_in rfl; intro wx hx
        go_simp
        exact ⟨rfl, rfl⟩
      simp only [Act.put, List.setIfInBounds_toArray, List.set_cons_zero, List.set_cons_succ, valsL_zero, valsL_succ]
      obtain ⟨ho8, HO⟩ := HO
      refine wpG_v ho8.out rfl ?_ ?_
      · simp only [valsL_zero, valsL_succ]; apply FY_in rfl; intro wx hx
        go_simp
        exact ⟨rfl, rfl⟩
      simp only [Act.put, List.setIfInBounds_toArray, List.set_cons_zero, List.set_cons_succ, valsL_zero, valsL_succ]
      obtain ⟨ho9, HO⟩ := HO
      refine wpG_v ho9.out rfl ?_ ?_
      · simp only [valsL_zero, valsL_succ]; apply FY_yes (d := 17) rfl ho8.out (by rfl) (by kernel_rfl); intro wx hx
        go_simp
        exact ⟨rfl, rfl⟩
      simp only [Act.put, List.setIfInBounds_toArray, List.set_cons_zero, List.set_cons_succ, valsL_zero, valsL_succ]
      obtain ⟨ho10, HO⟩ := HO
      refine wpG_v ho10.out rfl ?_ ?_
      · simp only [valsL_zero, valsL_succ]; apply FY_yes (d := 17) rfl ho8.out (by rfl) (by kernel_rfl); intro wx hx
        go_simp
        exact ⟨rfl, rfl⟩
      simp only [Act.put, List.setIfInBounds_toArray, List.set_cons_zero, List.set_cons_succ, valsL_zero, valsL_succ]
      obtain ⟨ho11, HO⟩ := HO
      refine wpG_v ho11.out rfl ?_ ?_
      · simp only [valsL_zero, valsL_succ]; apply FY_in rfl; intro wx hx
        go_simp
        exact ⟨rfl, rfl⟩
      simp only [Act.put, List.setIfInBounds_toArray, List.set_cons_zero, List.set_cons_succ, valsL_zero, valsL_succ]
      obtain ⟨ho12, HO⟩ := HO
      refine wpG_v ho12.out rfl ?_ ?_
      · simp only [valsL_zero, valsL_succ]; apply FY_in rfl; intro wx hx
        go_simp
        exact ⟨rfl, rfl⟩
      simp only [Act.put, List.setIfInBounds_toArray, List.set_cons_zero, List.set_cons_succ, valsL_zero, valsL_succ]
      obtain ⟨ho13, HO⟩ := HO
      refine wpG_v ho13.out rfl ?_ ?_
      · simp only [valsL_zero, valsL_succ]; apply FY_yes (d := 21) rfl ho12.out (by rfl) (by kernel_rfl); intro wx hx
        go_simp
        exact ⟨rfl, rfl⟩
      simp only [Act.put, List.setIfInBounds_toArray, List.set_cons_zero, List.set_cons_succ, valsL_zero, valsL_succ]
      obtain ⟨ho14, HO⟩ := HO
      refine wpG_v ho14.out rfl ?_ ?_
      · simp only [valsL_zero, valsL_succ]; apply FY_yes (d := 21) rfl ho12.out (by rfl) (by kernel_rfl); intro wx hx
        have hc0 := sb_cell ((S2.out wx hx).1)
        go_simp
        exact ⟨rfl, rfl⟩
      simp only [Act.put, List.setIfInBounds_toArray, List.set_cons_zero, List.set_cons_succ, valsL_zero, valsL_succ]
      obtain ⟨ho15, HO⟩ := HO
      refine wpG_v ho15.out rfl ?_ ?_
      · simp only [valsL_zero, valsL_succ]; apply FY_yes (d := 21) rfl ho12.out (by rfl) (by kernel_rfl); intro wx hx
        go_simp
        exact ⟨rfl, rfl⟩
      simp only [Act.put, List.setIfInBounds_toArray, List.set_cons_zero, List.set_cons_succ, valsL_zero, valsL_succ]
      obtain ⟨ho16, HO⟩ := HO
      refine wpG_v ho16.out rfl ?_ ?_
      · simp only [valsL_zero, valsL_succ]; apply FY_yes (d := 21) rfl ho12.out (by rfl) (by kernel_rfl); intro wx hx
        go_simp
        exact ⟨rfl, rfl⟩
      simp only [Act.put, List.setIfInBounds_toArray, List.set_cons_zero, List.set_cons_succ, valsL_zero, valsL_succ]
      obtain ⟨ho17, HO⟩ := HO
      refine wpG_v ho17.out rfl ?_ ?_
      · simp only [valsL_zero, valsL_succ]; apply FY_yes (d := 25) rfl ho16.out (by rfl) (by kernel_rfl); intro wx hx
        go_simp
        exact ⟨rfl, rfl⟩
      simp only [Act.put, List.setIfInBounds_toArray, List.set_cons_zero, List.set_cons_succ, valsL_zero, valsL_succ]
      obtain ⟨ho18, HO⟩ := HO
      refine wpG_v ho18.out rfl ?_ ?_
      · simp only [valsL_zero, valsL_succ]; apply FY_yes (d := 25) rfl ho16.out (by rfl) (by kernel_rfl); intro wx hx
        exact fu_load_at_g 27 (.tmp 26) rfl (b) 2 (by kernel_rfl) _ _ _ _ _ ((S2.out wx hx).1) (by rfl) (by simp) Tryz.underlying27 rfl (by kernel_rfl)
      simp only [Act.put, List.setIfInBounds_toArray, List.set_cons_zero, List.set_cons_succ, valsL_zero, valsL_succ]
      obtain ⟨ho19, HO⟩ := HO
      refine wpG_v ho19.out rfl ?_ ?_
      · simp only [valsL_zero, valsL_succ]; apply FY_yes (d := 25) rfl ho16.out (by rfl) (by kernel_rfl); intro wx hx
        go_simp
        exact ⟨rfl, rfl⟩
      simp only [Act.put, List.setIfInBounds_toArray, List.set_cons_zero, List.set_cons_succ, valsL_zero, valsL_succ]
      obtain ⟨ho20, HO⟩ := HO
      refine wpG_v ho20.out rfl ?_ ?_
      · simp only [valsL_zero, valsL_succ]; apply FY_yes (d := 25) rfl ho16.out (by rfl) (by kernel_rfl); intro wx hx
        go_simp
        exact ⟨rfl, rfl⟩
      simp only [Act.put, List.setIfInBounds_toArray, List.set_cons_zero, List.set_cons_succ, valsL_zero, valsL_succ]
      obtain ⟨ho21, HO⟩ := HO
      refine wpG_v ho21.out rfl ?_ ?_
      · simp only [valsL_zero, valsL_succ]; apply FY_yes (d := 21) rfl ho12.out (by rfl) (by kernel_rfl); intro wx hx
        go_simp
        exact ⟨rfl, rfl⟩
      simp only [Act.put, List.setIfInBounds_toArray, List.set_cons_zero, List.set_cons_succ, valsL_zero, valsL_succ]
      obtain ⟨ho22, HO⟩ := HO
      refine wpG_v ho22.out rfl ?_ ?_
      · simp only [valsL_zero, valsL_succ]; apply FY_in rfl; intro wx hx
        go_simp
        exact ⟨rfl, rfl⟩
      simp only [Act.put, List.setIfInBounds_toArray, List.set_cons_zero, List.set_cons_succ, valsL_zero, valsL_succ]
      obtain ⟨ho23, HO⟩ := HO
      refine wpG_v ho23.out rfl ?_ ?_
      · simp only [valsL_zero, valsL_succ]; apply FY_in rfl; intro wx hx
        go_simp
        exact ⟨rfl, rfl⟩
      simp only [Act.put, List.setIfInBounds_toArray, List.set_cons_zero, List.set_cons_succ, valsL_zero, valsL_succ]
      obtain ⟨ho24, HO⟩ := HO
      refine wpG_v ho24.out rfl ?_ ?_
      · simp only [valsL_zero, valsL_succ]; exact FY_no (d := 32) rfl ho23.out (by rfl) (by kernel_rfl)
      simp only [Act.put, List.setIfInBounds_toArray, List.set_cons_zero, List.set_cons_succ, valsL_zero, valsL_succ]
      obtain ⟨ho25, HO⟩ := HO
      refine wpG_v ho25.out rfl ?_ ?_
      · simp only [valsL_zero, valsL_succ]; exact FY_no (d := 32) rfl ho23.out (by rfl) (by kernel_rfl)
      simp only [Act.put, List.setIfInBounds_toArray, List.set_cons_zero, List.set_cons_succ, valsL_zero, valsL_succ]
      obtain ⟨ho26, HO⟩ := HO
      refine wpG_v ho26.out rfl ?_ ?_
      · simp only [valsL_zero, valsL_succ]; exact FY_no (d := 32) rfl ho23.out (by rfl) (by kernel_rfl)
      simp only [Act.put, List.setIfInBounds_toArray, List.set_cons_zero, List.set_cons_succ, valsL_zero, valsL_succ]
      obtain ⟨ho27, HO⟩ := HO
      refine wpG_v ho27.out rfl ?_ ?_
      · simp only [valsL_zero, valsL_succ]; exact FY_no (d := 32) rfl ho23.out (by rfl) (by kernel_rfl)
      simp only [Act.put, List.setIfInBounds_toArray, List.set_cons_zero, List.set_cons_succ, valsL_zero, valsL_succ]
      obtain ⟨ho28, HO⟩ := HO
      refine wpG_v ho28.out rfl ?_ ?_
      · simp only [valsL_zero, valsL_succ]; exact FY_un (d := 36) rfl ho27.out (by rfl) (by kernel_rfl)
      simp only [Act.put, List.setIfInBounds_toArray, List.set_cons_zero, List.set_cons_succ, valsL_zero, valsL_succ]
      obtain ⟨ho29, HO⟩ := HO
      refine wpG_v ho29.out rfl ?_ ?_
      · simp only [valsL_zero, valsL_succ]; exact FY_un (d := 36) rfl ho27.out (by rfl) (by kernel_rfl)
      simp only [Act.put, List.setIfInBounds_toArray, List.set_cons_zero, List.set_cons_succ, valsL_zero, valsL_succ]
      obtain ⟨ho30, HO⟩ := HO
      refine wpG_v ho30.out rfl ?_ ?_
      · simp only [valsL_zero, valsL_succ]; exact FY_un (d := 36) rfl ho27.out (by rfl) (by kernel_rfl)
      simp only [Act.put, List.setIfInBounds_toArray, List.set_cons_zero, List.set_cons_succ, valsL_zero, valsL_succ]
      obtain ⟨ho31, HO⟩ := HO
      refine wpG_v ho31.out rfl ?_ ?_
      · simp only [valsL_zero, valsL_succ]; exact FY_un (d := 36) rfl ho27.out (by rfl) (by kernel_rfl)
      simp only [Act.put, List.setIfInBounds_toArray, List.set_cons_zero, List.set_cons_succ, valsL_zero, valsL_succ]
      obtain ⟨ho32, HO⟩ := HO
      refine wpG_v ho32.out rfl ?_ ?_
      · simp only [valsL_zero, valsL_succ]; exact FY_no (d := 32) rfl ho23.out (by rfl) (by kernel_rfl)
      simp only [Act.put, List.setIfInBounds_toArray, List.set_cons_zero, List.set_cons_succ, valsL_zero, valsL_succ]
      obtain ⟨ho33, HO⟩ := HO
      refine wpG_v ho33.out rfl ?_ ?_
      · simp only [valsL_zero, valsL_succ]; apply FY_in rfl; intro wx hx
        go_simp
        exact ⟨rfl, rfl⟩
      simp only [Act.put, List.setIfInBounds_toArray, List.set_cons_zero, List.set_cons_succ, valsL_zero, valsL_succ]
      obtain ⟨ho34, HO⟩ := HO
      refine wpG_v ho34.out rfl ?_ ?_
      · simp only [valsL_zero, valsL_succ]; apply FY_in rfl; intro wx hx
        go_simp
        exact ⟨rfl, rfl⟩
      simp only [Act.put, List.setIfInBounds_toArray, List.set_cons_zero, List.set_cons_succ, valsL_zero, valsL_succ]
      obtain ⟨ho35, HO⟩ := HO
      refine wpG_v ho35.out rfl ?_ ?_
      · simp only [valsL_zero, valsL_succ]; exact FY_no (d := 43) rfl ho34.out (by rfl) (by kernel_rfl)
      simp only [Act.put, List.setIfInBounds_toArray, List.set_cons_zero, List.set_cons_succ, valsL_zero, valsL_succ]
      obtain ⟨ho36, HO⟩ := HO
      refine wpG_v ho36.out rfl ?_ ?_
      · simp only [valsL_zero, valsL_succ]; exact FY_no (d := 43) rfl ho34.out (by rfl) (by kernel_rfl)
      simp only [Act.put, List.setIfInBounds_toArray, List.set_cons_zero, List.set_cons_succ, valsL_zero, valsL_succ]
      obtain ⟨ho37, HO⟩ := HO
      refine wpG_v ho37.out rfl ?_ ?_
      · simp only [valsL_zero, valsL_succ]; exact FY_no (d := 43) rfl ho34.out (by rfl) (by kernel_rfl)
      simp only [Act.put, List.setIfInBounds_toArray, List.set_cons_zero, List.set_cons_succ, valsL_zero, valsL_succ]
      obtain ⟨ho38, HO⟩ := HO
      refine wpG_v ho38.out rfl ?_ ?_
      · simp only [valsL_zero, valsL_succ]; exact FY_no (d := 43) rfl ho34.out (by rfl) (by kernel_rfl)
      simp only [Act.put, List.setIfInBounds_toArray, List.set_cons_zero, List.set_cons_succ, valsL_zero, valsL_succ]
      obtain ⟨ho39, HO⟩ := HO
      refine wpG_v ho39.out rfl ?_ ?_
      · simp only [valsL_zero, valsL_succ]; exact FY_un (d := 47) rfl ho38.out (by rfl) (by kernel_rfl)
      simp only [Act.put, List.setIfInBounds_toArray, List.set_cons_zero, List.set_cons_succ, valsL_zero, valsL_succ]
      obtain ⟨ho40, HO⟩ := HO
      refine wpG_v ho40.out rfl ?_ ?_
      · simp only [valsL_zero, valsL_succ]; exact FY_un (d := 47) rfl ho38.out (by rfl) (by kernel_rfl)
      simp only [Act.put, List.setIfInBounds_toArray, List.set_cons_zero, List.set_cons_succ, valsL_zero, valsL_succ]
      obtain ⟨ho41, HO⟩ := HO
      refine wpG_v ho41.out rfl ?_ ?_
      · simp only [valsL_zero, valsL_succ]; exact FY_un (d := 47) rfl ho38.out (by rfl) (by kernel_rfl)
      simp only [Act.put, List.setIfInBounds_toArray, List.set_cons_zero, List.set_cons_succ, valsL_zero, valsL_succ]
      obtain ⟨ho42, HO⟩ := HO
      refine wpG_v ho42.out rfl ?_ ?_
      · simp only [valsL_zero, valsL_succ]; exact FY_no (d := 43) rfl ho34.out (by rfl) (by kernel_rfl)
      simp only [Act.put, List.setIfInBounds_toArray, List.set_cons_zero, List.set_cons_succ, valsL_zero, valsL_succ]
      refine HQ.out _ _ ?_
      intro wr hf
      simp only [List.drop_succ_cons, List.drop_zero]
      clear HQ HO ho0 ho1 ho2 ho3 ho4 ho5 ho6 ho7 ho8 ho9 ho10 ho11 ho12 ho13 ho14 ho15 ho16 ho17 ho18 ho19 ho20 ho21 ho22 ho23 ho24 ho25 ho26 ho27 ho28 ho29 ho30 ho31 ho32 ho33 ho34 ho35 ho36 ho37 ho38 ho39 ho40 ho41 ho42
      have S3 := hid (S2.out.step hf)
      clear hf
      go_wp2_with fail
      go_ret
      exact ⟨by rw [HZ.out]; rfl, S3.out.now.2⟩
    have HBK : Hid (backS o = msgS o.m) := hid (by unfold backS; rw [if_neg h0, if_neg h1])
    have HLB : Hid ((msgS o.m).toList.isEmpty = false → lineB o = true) := hid (fun h => by
      rw [lineB_iff]
      refine ⟨by omega, HE13.out, ?_⟩
      unfold moreB
      have hr1 : req o.r Rc.zero = true := req_iff2.2 (rneq_no hq)
      rw [if_neg h0, if_neg h1, h, hr1]; rfl)
    have HLN : Hid ((msgS o.m).toList.isEmpty = true → lineB o = false) := hid (fun h => by
      cases hb : lineB o with
      | false => rfl
      | true =>
        have h2 := (lineB_iff.1 hb).2.2
        unfold moreB at h2
        rw [if_neg h0, if_neg h1, h] at h2
        cases h2)
    apply wp_region_N 43 (valsL (_ :: _ :: _ :: _ :: _ :: _ :: _ :: _ :: _ :: _ :: _ :: _ :: _ :: _ :: _ :: _ :: _ :: _ :: (.agg #[.int .i64 o.r.k, .int .i64 o.r.e, .int .i64 o.r.w, .int .i64 o.r.n, .int .i64 o.r.q, .string o.r.t, .int .i64 o.r.p.s0, .int .i64 o.r.p.s1, .int .i64 o.r.p.s2, .int .i64 o.r.p.s3, .int .i64 o.r.p.s4, .int .i64 o.r.p.s5, .int .i64 o.r.p.s6, .int .i64 o.r.p.s7, .int .i64 o.r.p.s8, .int .i64 o.r.p.s9, .int .i64 o.r.p.s10, .int .i64 o.r.p.s11]) :: _ :: _ :: _ :: _ :: _ :: _ :: _ :: _ :: _ :: _ :: _ :: _ :: _ :: _ :: _ :: _ :: _ :: _ :: _ :: _ :: _ :: _ :: _ :: _ :: [])) ?hB11 ?main11
    case hB11 => kernel_rfl
    rotate_left 42
    intro ops QT HO HQ
    obtain ⟨ho0, HO⟩ := HO
    refine wpG_v ho0.out rfl ?_ ?_
    · simp only [valsL_zero, valsL_succ]; apply FY_in rfl; intro wx hx
      go_simp
      exact ⟨rfl, rfl⟩
    simp only [Act.put, List.setIfInBounds_toArray, List.set_cons_zero, List.set_cons_succ, valsL_zero, valsL_succ]
    obtain ⟨ho1, HO⟩ := HO
    refine wpG_v ho1.out rfl ?_ ?_
    · simp only [valsL_zero, valsL_succ]; apply FY_in rfl; intro wx hx
      have hc0 := sb_cell ((S2.out wx hx).1)
      go_simp
      exact ⟨rfl, rfl⟩
    simp only [Act.put, List.setIfInBounds_toArray, List.set_cons_zero, List.set_cons_succ, valsL_zero, valsL_succ]
    obtain ⟨ho2, HO⟩ := HO
    refine wpG_v ho2.out rfl ?_ ?_
    · simp only [valsL_zero, valsL_succ]; apply FY_in rfl; intro wx hx
      go_simp
      exact ⟨rfl, rfl⟩
    simp only [Act.put, List.setIfInBounds_toArray, List.set_cons_zero, List.set_cons_succ, valsL_zero, valsL_succ]
    obtain ⟨ho3, HO⟩ := HO
    refine wpG_v ho3.out rfl ?_ ?_
    · simp only [valsL_zero, valsL_succ]; apply FY_in rfl; intro wx hx
      go_simp
      exact ⟨rfl, rfl⟩
    simp only [Act.put, List.setIfInBounds_toArray, List.set_cons_zero, List.set_cons_succ, valsL_zero, valsL_succ]
    obtain ⟨ho4, HO⟩ := HO
    refine wpG_v ho4.out rfl ?_ ?_
    · simp only [valsL_zero, valsL_succ]; apply FY_yes (d := 12) rfl ho3.out (by rfl) (by kernel_rfl); intro wx hx
      go_simp
      exact ⟨rfl, rfl⟩
    simp only [Act.put, List.setIfInBounds_toArray, List.set_cons_zero, List.set_cons_succ, valsL_zero, valsL_succ]
    obtain ⟨ho5, HO⟩ := HO
    refine wpG_v ho5.out rfl ?_ ?_
    · simp only [valsL_zero, valsL_succ]; apply FY_yes (d := 12) rfl ho3.out (by rfl) (by kernel_rfl); intro wx hx
      have hc0 := sb_cell ((S2.out wx hx).1)
      go_simp
      exact ⟨rfl, rfl⟩
    simp only [Act.put, List.setIfInBounds_toArray, List.set_cons_zero, List.set_cons_succ, valsL_zero, valsL_succ]
    obtain ⟨ho6, HO⟩ := HO
    refine wpG_v ho6.out rfl ?_ ?_
    · simp only [valsL_zero, valsL_succ]; apply FY_yes (d := 12) rfl ho3.out (by rfl) (by kernel_rfl); intro wx hx
      go_simp
      exact ⟨rfl, rfl⟩
    simp only [Act.put, List.setIfInBounds_toArray, List.set_cons_zero, List.set_cons_succ, valsL_zero, valsL_succ]
    obtain ⟨ho7, HO⟩ := HO
    refine wpG_v ho7.out rfl ?_ ?_
    · simp only [valsL_zero, valsL_succ]; apply FY_in rfl; intro wx hx
      go_simp
      exact ⟨rfl, rfl⟩
    simp only [Act.put, List.setIfInBounds_toArray, List.set_cons_zero, List.set_cons_succ, valsL_zero, valsL_succ]
    obtain ⟨ho8, HO⟩ := HO
    refine wpG_v ho8.out rfl ?_ ?_
    · simp only [valsL_zero, valsL_succ]; apply FY_in rfl; intro wx hx
      go_simp
      exact ⟨rfl, rfl⟩
    simp only [Act.put, List.setIfInBounds_toArray, List.set_cons_zero, List.set_cons_succ, valsL_zero, valsL_succ]
    obtain ⟨ho9, HO⟩ := HO
    refine wpG_v ho9.out rfl ?_ ?_
    · simp only [valsL_zero, valsL_succ]; apply FY_yes (d := 17) rfl ho8.out (by rfl) (by kernel_rfl); intro wx hx
      go_simp
      exact ⟨rfl, rfl⟩
    simp only [Act.put, List.setIfInBounds_toArray, List.set_cons_zero, List.set_cons_succ, valsL_zero, valsL_succ]
    obtain ⟨ho10, HO⟩ := HO
    refine wpG_v ho10.out rfl ?_ ?_
    · simp only [valsL_zero, valsL_succ]; apply FY_yes (d := 17) rfl ho8.out (by rfl) (by kernel_rfl); intro wx hx
      go_simp
      exact ⟨rfl, rfl⟩
    simp only [Act.put, List.setIfInBounds_toArray, List.set_cons_zero, List.set_cons_succ, valsL_zero, valsL_succ]
    obtain ⟨ho11, HO⟩ := HO
    refine wpG_v ho11.out rfl ?_ ?_
    · simp only [valsL_zero, valsL_succ]; apply FY_in rfl; intro wx hx
      go_simp
      exact ⟨rfl, rfl⟩
    simp only [Act.put, List.setIfInBounds_toArray, List.set_cons_zero, List.set_cons_succ, valsL_zero, valsL_succ]
    obtain ⟨ho12, HO⟩ := HO
    refine wpG_v ho12.out rfl ?_ ?_
    · simp only [valsL_zero, valsL_succ]; apply FY_in rfl; intro wx hx
      go_simp
      exact ⟨rfl, rfl⟩
    simp only [Act.put, List.setIfInBounds_toArray, List.set_cons_zero, List.set_cons_succ, valsL_zero, valsL_succ]
    obtain ⟨ho13, HO⟩ := HO
    refine wpG_v ho13.out rfl ?_ ?_
    · simp only [valsL_zero, valsL_succ]; apply FY_yes (d := 21) rfl ho12.out (by rfl) (by kernel_rfl); intro wx hx
      go_simp
      exact ⟨rfl, rfl⟩
    simp only [Act.put, List.setIfInBounds_toArray, List.set_cons_zero, List.set_cons_succ, valsL_zero, valsL_succ]
    obtain ⟨ho14, HO⟩ := HO
    refine wpG_v ho14.out rfl ?_ ?_
    · simp only [valsL_zero, valsL_succ]; apply FY_yes (d := 21) rfl ho12.out (by rfl) (by kernel_rfl); intro wx hx
      have hc0 := sb_cell ((S2.out wx hx).1)
      go_simp
      exact ⟨rfl, rfl⟩
    simp only [Act.put, List.setIfInBounds_toArray, List.set_cons_zero, List.set_cons_succ, valsL_zero, valsL_succ]
    obtain ⟨ho15, HO⟩ := HO
    refine wpG_v ho15.out rfl ?_ ?_
    · simp only [valsL_zero, valsL_succ]; apply FY_yes (d := 21) rfl ho12.out (by rfl) (by kernel_rfl); intro wx hx
      go_simp
      exact ⟨rfl, rfl⟩
    simp only [Act.put, List.setIfInBounds_toArray, List.set_cons_zero, List.set_cons_succ, valsL_zero, valsL_succ]
    obtain ⟨ho16, HO⟩ := HO
    refine wpG_v ho16.out rfl ?_ ?_
    · simp only [valsL_zero, valsL_succ]; apply FY_yes (d := 21) rfl ho12.out (by rfl) (by kernel_rfl); intro wx hx
      go_simp
      exact ⟨rfl, rfl⟩
    simp only [Act.put, List.setIfInBounds_toArray, List.set_cons_zero, List.set_cons_succ, valsL_zero, valsL_succ]
    obtain ⟨ho17, HO⟩ := HO
    refine wpG_v ho17.out rfl ?_ ?_
    · simp only [valsL_zero, valsL_succ]; apply FY_yes (d := 25) rfl ho16.out (by rfl) (by kernel_rfl); intro wx hx
      go_simp
      exact ⟨rfl, rfl⟩
    simp only [Act.put, List.setIfInBounds_toArray, List.set_cons_zero, List.set_cons_succ, valsL_zero, valsL_succ]
    obtain ⟨ho18, HO⟩ := HO
    refine wpG_v ho18.out rfl ?_ ?_
    · simp only [valsL_zero, valsL_succ]; apply FY_yes (d := 25) rfl ho16.out (by rfl) (by kernel_rfl); intro wx hx
      exact fu_load_at_g 27 (.tmp 26) rfl (b) 2 (by kernel_rfl) _ _ _ _ _ ((S2.out wx hx).1) (by rfl) (by simp) Tryz.underlying27 rfl (by kernel_rfl)
    simp only [Act.put, List.setIfInBounds_toArray, List.set_cons_zero, List.set_cons_succ, valsL_zero, valsL_succ]
    obtain ⟨ho19, HO⟩ := HO
    refine wpG_v ho19.out rfl ?_ ?_
    · simp only [valsL_zero, valsL_succ]; apply FY_yes (d := 25) rfl ho16.out (by rfl) (by kernel_rfl); intro wx hx
      go_simp
      exact ⟨rfl, rfl⟩
    simp only [Act.put, List.setIfInBounds_toArray, List.set_cons_zero, List.set_cons_succ, valsL_zero, valsL_succ]
    obtain ⟨ho20, HO⟩ := HO
    refine wpG_v ho20.out rfl ?_ ?_
    · simp only [valsL_zero, valsL_succ]; apply FY_yes (d := 25) rfl ho16.out (by rfl) (by kernel_rfl); intro wx hx
      go_simp
      exact ⟨rfl, rfl⟩
    simp only [Act.put, List.setIfInBounds_toArray, List.set_cons_zero, List.set_cons_succ, valsL_zero, valsL_succ]
    obtain ⟨ho21, HO⟩ := HO
    refine wpG_v ho21.out rfl ?_ ?_
    · simp only [valsL_zero, valsL_succ]; apply FY_yes (d := 21) rfl ho12.out (by rfl) (by kernel_rfl); intro wx hx
      go_simp
      exact ⟨rfl, rfl⟩
    simp only [Act.put, List.setIfInBounds_toArray, List.set_cons_zero, List.set_cons_succ, valsL_zero, valsL_succ]
    obtain ⟨ho22, HO⟩ := HO
    refine wpG_v ho22.out rfl ?_ ?_
    · simp only [valsL_zero, valsL_succ]; apply FY_in rfl; intro wx hx
      go_simp
      exact ⟨rfl, rfl⟩
    simp only [Act.put, List.setIfInBounds_toArray, List.set_cons_zero, List.set_cons_succ, valsL_zero, valsL_succ]
    obtain ⟨ho23, HO⟩ := HO
    refine wpG_v ho23.out rfl ?_ ?_
    · simp only [valsL_zero, valsL_succ]; apply FY_in rfl; intro wx hx
      go_simp
      exact ⟨rfl, rfl⟩
    simp only [Act.put, List.setIfInBounds_toArray, List.set_cons_zero, List.set_cons_succ, valsL_zero, valsL_succ]
    obtain ⟨ho24, HO⟩ := HO
    refine wpG_v ho24.out rfl ?_ ?_
    · simp only [valsL_zero, valsL_succ]; apply FY_yes (d := 32) rfl ho23.out (by rfl) (by kernel_rfl); intro wx hx
      go_simp
      exact ⟨rfl, rfl⟩
    simp only [Act.put, List.setIfInBounds_toArray, List.set_cons_zero, List.set_cons_succ, valsL_zero, valsL_succ]
    obtain ⟨ho25, HO⟩ := HO
    refine wpG_v ho25.out rfl ?_ ?_
    · simp only [valsL_zero, valsL_succ]; apply FY_yes (d := 32) rfl ho23.out (by rfl) (by kernel_rfl); intro wx hx
      have hc0 := sb_cell ((S2.out wx hx).1)
      go_simp
      exact ⟨rfl, rfl⟩
    simp only [Act.put, List.setIfInBounds_toArray, List.set_cons_zero, List.set_cons_succ, valsL_zero, valsL_succ]
    obtain ⟨ho26, HO⟩ := HO
    refine wpG_v ho26.out rfl ?_ ?_
    · simp only [valsL_zero, valsL_succ]; apply FY_yes (d := 32) rfl ho23.out (by rfl) (by kernel_rfl); intro wx hx
      go_simp
      exact ⟨rfl, rfl⟩
    simp only [Act.put, List.setIfInBounds_toArray, List.set_cons_zero, List.set_cons_succ, valsL_zero, valsL_succ]
    obtain ⟨ho27, HO⟩ := HO
    refine wpG_v ho27.out rfl ?_ ?_
    · simp only [valsL_zero, valsL_succ]; apply FY_yes (d := 32) rfl ho23.out (by rfl) (by kernel_rfl); intro wx hx
      go_simp
      exact ⟨rfl, rfl⟩
    simp only [Act.put, List.setIfInBounds_toArray, List.set_cons_zero, List.set_cons_succ, valsL_zero, valsL_succ]
    obtain ⟨ho28, HO⟩ := HO
    refine wpG_v ho28.out rfl ?_ ?_
    · simp only [valsL_zero, valsL_succ]; exact FY_no (d := 36) rfl ho27.out (by rfl) (by kernel_rfl)
    simp only [Act.put, List.setIfInBounds_toArray, List.set_cons_zero, List.set_cons_succ, valsL_zero, valsL_succ]
    obtain ⟨ho29, HO⟩ := HO
    refine wpG_v ho29.out rfl ?_ ?_
    · simp only [valsL_zero, valsL_succ]; exact FY_no (d := 36) rfl ho27.out (by rfl) (by kernel_rfl)
    simp only [Act.put, List.setIfInBounds_toArray, List.set_cons_zero, List.set_cons_succ, valsL_zero, valsL_succ]
    obtain ⟨ho30, HO⟩ := HO
    refine wpG_v ho30.out rfl ?_ ?_
    · simp only [valsL_zero, valsL_succ]; exact FY_no (d := 36) rfl ho27.out (by rfl) (by kernel_rfl)
    simp only [Act.put, List.setIfInBounds_toArray, List.set_cons_zero, List.set_cons_succ, valsL_zero, valsL_succ]
    obtain ⟨ho31, HO⟩ := HO
    refine wpG_v ho31.out rfl ?_ ?_
    · simp only [valsL_zero, valsL_succ]; exact FY_no (d := 36) rfl ho27.out (by rfl) (by kernel_rfl)
    simp only [Act.put, List.setIfInBounds_toArray, List.set_cons_zero, List.set_cons_succ, valsL_zero, valsL_succ]
    obtain ⟨ho32, HO⟩ := HO
    refine wpG_v ho32.out rfl ?_ ?_
    · simp only [valsL_zero, valsL_succ]; apply FY_yes (d := 32) rfl ho23.out (by rfl) (by kernel_rfl); intro wx hx
      go_simp
      exact ⟨rfl, rfl⟩
    simp only [Act.put, List.setIfInBounds_toArray, List.set_cons_zero, List.set_cons_succ, valsL_zero, valsL_succ]
    obtain ⟨ho33, HO⟩ := HO
    refine wpG_v ho33.out rfl ?_ ?_
    · simp only [valsL_zero, valsL_succ]; apply FY_in rfl; intro wx hx
      go_simp
      exact ⟨rfl, rfl⟩
    simp only [Act.put, List.setIfInBounds_toArray, List.set_cons_zero, List.set_cons_succ, valsL_zero, valsL_succ]
    obtain ⟨ho34, HO⟩ := HO
    refine wpG_v ho34.out rfl ?_ ?_
    · simp only [valsL_zero, valsL_succ]; apply FY_in rfl; intro wx hx
      go_simp
      exact ⟨rfl, rfl⟩
    simp only [Act.put, List.setIfInBounds_toArray, List.set_cons_zero, List.set_cons_succ, valsL_zero, valsL_succ]
    obtain ⟨ho35, HO⟩ := HO
    refine wpG_v ho35.out rfl ?_ ?_
    · simp only [valsL_zero, valsL_succ]; apply FY_yes (d := 43) rfl ho34.out (by rfl) (by kernel_rfl); intro wx hx
      go_simp
      exact ⟨rfl, rfl⟩
    simp only [Act.put, List.setIfInBounds_toArray, List.set_cons_zero, List.set_cons_succ, valsL_zero, valsL_succ]
    obtain ⟨ho36, HO⟩ := HO
    refine wpG_v ho36.out rfl ?_ ?_
    · simp only [valsL_zero, valsL_succ]; apply FY_yes (d := 43) rfl ho34.out (by rfl) (by kernel_rfl); intro wx hx
      have hc0 := sb_cell ((S2.out wx hx).1)
      go_simp
      exact ⟨rfl, rfl⟩
    simp only [Act.put, List.setIfInBounds_toArray, List.set_cons_zero, List.set_cons_succ, valsL_zero, valsL_succ]
    obtain ⟨ho37, HO⟩ := HO
    refine wpG_v ho37.out rfl ?_ ?_
    · simp only [valsL_zero, valsL_succ]; apply FY_yes (d := 43) rfl ho34.out (by rfl) (by kernel_rfl); intro wx hx
      go_simp
      exact ⟨rfl, rfl⟩
    simp only [Act.put, List.setIfInBounds_toArray, List.set_cons_zero, List.set_cons_succ, valsL_zero, valsL_succ]
    obtain ⟨ho38, HO⟩ := HO
    refine wpG_v ho38.out rfl ?_ ?_
    · simp only [valsL_zero, valsL_succ]; apply FY_yes (d := 43) rfl ho34.out (by rfl) (by kernel_rfl); intro wx hx
      go_simp
      exact ⟨rfl, rfl⟩
    simp only [Act.put, List.setIfInBounds_toArray, List.set_cons_zero, List.set_cons_succ, valsL_zero, valsL_succ]
    obtain ⟨ho39, HO⟩ := HO
    refine wpG_v ho39.out rfl ?_ ?_
    · simp only [valsL_zero, valsL_succ]; exact FY_no (d := 47) rfl ho38.out (by rfl) (by kernel_rfl)
    simp only [Act.put, List.setIfInBounds_toArray, List.set_cons_zero, List.set_cons_succ, valsL_zero, valsL_succ]
    obtain ⟨ho40, HO⟩ := HO
    refine wpG_v ho40.out rfl ?_ ?_
    · simp only [valsL_zero, valsL_succ]; exact FY_no (d := 47) rfl ho38.out (by rfl) (by kernel_rfl)
    simp only [Act.put, List.setIfInBounds_toArray, List.set_cons_zero, List.set_cons_succ, valsL_zero, valsL_succ]
    obtain ⟨ho41, HO⟩ := HO
    refine wpG_v ho41.out rfl ?_ ?_
    · simp only [valsL_zero, valsL_succ]; exact FY_no (d := 47) rfl ho38.out (by rfl) (by kernel_rfl)
    simp only [Act.put, List.setIfInBounds_toArray, List.set_cons_zero, List.set_cons_succ, valsL_zero, valsL_succ]
    obtain ⟨ho42, HO⟩ := HO
    refine wpG_v ho42.out rfl ?_ ?_
    · simp only [valsL_zero, valsL_succ]; apply FY_yes (d := 43) rfl ho34.out (by rfl) (by kernel_rfl); intro wx hx
      go_simp
      exact ⟨rfl, rfl⟩
    simp only [Act.put, List.setIfInBounds_toArray, List.set_cons_zero, List.set_cons_succ, valsL_zero, valsL_succ]
    refine HQ.out _ _ ?_
    intro wq hf
    simp only [List.drop_succ_cons, List.drop_zero]
    clear HQ HO ho0 ho1 ho2 ho3 ho4 ho5 ho6 ho7 ho8 ho9 ho10 ho11 ho12 ho13 ho14 ho15 ho16 ho17 ho18 ho19 ho20 ho21 ho22 ho23 ho24 ho25 ho26 ho27 ho28 ho29 ho30 ho31 ho32 ho33 ho34 ho35 ho36 ho37 ho38 ho39 ho40 ho41 ho42
    have S3 := hid (S2.out.step hf)
    clear hf c0 c1 S2
    have S2 := S3
    clear S3
    have c0 : wq.cell? ⟨b, 0, none⟩ = some (.int .i64 o.d) := cell_at S2.out.now.1 0
    obtain ⟨n, hn⟩ : ∃ n : Nat, o.d = n := ⟨o.d.toNat, by omega⟩
    have hn4 : n < 4 := by omega
    obtain ⟨D, HD⟩ : ∃ D, Hid (didW n = D) := ⟨_, rfl⟩
    have hDs : D.size ≤ 10 := by rw [← HD.out]; exact did_sz_fin ⟨n, hn4⟩
    have hcw := did_cell wq n hn4
    rw [HD.out] at hcw
    have hn0 : (0 : Int) ≤ (n : Int) := by omega
    have hn1 : (n : Int) < 4 := by omega
    have hYs := HES.out
    have hl1 : ¬ 9223372036854775806 < D.size := by omega
    have hl1b : D.size ≤ 9223372036854775806 := by omega
    have hl2 : ¬ 9223372036854775807 < D.size + 1 + Y.size := by omega
    have hl2b : D.size + 1 + Y.size ≤ 9223372036854775807 := by omega
    have hbw : b < wq.heap.size := sb_lt S2.out.now.1
    go_upto_region 5 with fail
    have S3 := hid (S2.out.alloc (.cells #[.string ⟨#[110, 111, 116, 104, 105, 110, 103]⟩, .string ⟨#[99, 111, 109, 109, 105, 116, 116, 101, 100]⟩, .string ⟨#[115, 101, 110, 116]⟩, .string ⟨#[104, 101, 97, 114, 100]⟩] 9))
    obtain ⟨w3, hw3⟩ : ∃ x, x = wq.alloc (.cells #[.string ⟨#[110, 111, 116, 104, 105, 110, 103]⟩, .string ⟨#[99, 111, 109, 109, 105, 116, 116, 101, 100]⟩, .string ⟨#[115, 101, 110, 116]⟩, .string ⟨#[104, 101, 97, 114, 100]⟩] 9) := ⟨_, rfl⟩
    rw [← hw3] at S3 ⊢
    have HDS := hid (And.intro hDs hYs)
    have HDN : Hid (didW o.d = D) := hid (by rw [hn]; exact HD.out)
    have H0 := hid h0
    have H1 := hid h1
    clear hw3 hn hn4 hDs hcw hn0 hn1 hYs hl1 hl1b hl2 hl2b hbw c0 S2 hneg hbig h0 h1 hq
    have c0 : w3.cell? ⟨b, 0, none⟩ = some (.int .i64 o.d) := cell_at S3.out.now.1 0
    go_wp2_with (refine wpList_load_at (by kernel_rfl) 29 (.tmp 65) (by with_reducible rfl) b 20 (by kernel_rfl) _ _ _ S3.out.now.1 #[.int .i64 o.m.k, .int .i64 o.m.e, .int .i64 o.m.s, .int .i64 o.m.u, .int .i64 o.m.v, .int .i64 o.m.t] (by rfl) (by simp) _ Tryz.underlying29 rfl (by kernel_rfl) ?_)
    rw [← HVM.out]
    refine (rmsg_calls o.m _).mono ?_
    rintro _ w4 ⟨rfl, hf⟩
    have S4 := hid (S3.out.step hf)
    clear hf c0 S3
    have c0 : w4.cell? ⟨b, 0, none⟩ = some (.int .i64 o.d) := cell_at S4.out.now.1 0
    have S5 := S4
    obtain ⟨w5, hw5⟩ : ∃ x, x = w4 := ⟨_, rfl⟩
    rw [← hw5] at S5 c0 ⊢
    clear hw5 S4
    obtain ⟨y, HYY⟩ : ∃ y, Hid (msgS o.m = y) := ⟨_, rfl⟩
    have hys := msgS_le o.m
    rw [HYY.out] at hys HLB HLN HBK ⊢
    have hds := HDS.out
    have HDQ : Hid (didW o.d = D) := hid (by exact HDN.out)
    have hl3c : ¬ 9223372036854775806 < D.size + 1 + Y.size := by omega
    have hl3b : D.size + 1 + Y.size ≤ 9223372036854775806 := by omega
    have hl4 : ¬ 9223372036854775807 < D.size + 1 + Y.size + 1 + y.size := by omega
    have hl4b : D.size + 1 + Y.size + 1 + y.size ≤ 9223372036854775807 := by omega
    cases hEy : y.toList.isEmpty
    case true =>
      have HZ : Hid (R = ⟨#[]⟩) := hid (by
        rw [← HRR.out]; unfold lineS; rw [HLN.out hEy]; rfl)
      go_wp2_with fail
      try simp only [Exit.inBlock, Exit.then]
      refine bodyPost_ret (v := .string ⟨#[]⟩) ?_ ?_ ?_
      · simp [results, Tryz.results11, go_sem]
      · rfl
      · exact ⟨by rw [HZ.out], S5.out.now.2⟩
    case false =>
      have HZ : Hid (R = D ++ ⟨#[32]⟩ ++ Y ++ ⟨#[32]⟩ ++ y) := hid (by
        rw [← HRR.out, line_back (HLB.out hEy) H0.out, HBK.out, HDQ.out, HY.out])
      obtain ⟨hds1, hds2⟩ := hds
      go_wp2_with fail
      all_goals first
        | (exfalso; omega)
        | ((try simp only [Exit.inBlock, Exit.then])
           refine bodyPost_ret (v := .string (D ++ ⟨#[32]⟩ ++ Y ++ ⟨#[32]⟩ ++ y)) ?_ ?_ ?_
           · simp [results, Tryz.results11, go_sem]
           · rfl
           · exact ⟨by rw [HZ.out], S5.out.now.2⟩)
end Go.Proofs.YtonlmkcolndaaaaGreatDoor
