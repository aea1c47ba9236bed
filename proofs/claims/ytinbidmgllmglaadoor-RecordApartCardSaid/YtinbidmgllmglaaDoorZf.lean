/- RecordApart: the walk of the law, for every two records. No condition. -/
import Derived.Test.YtinbidmgllmglaaDoorPc
import Derived.Test.YtinbidmgllmglaaDoorMr
import Derived.Test.YtinbidmgllmglaaDoorPe
import Derived.Test.YtinbidmgllmglaaDoorRh
namespace Go.Proofs.YtinbidmgllmglaaDoor
set_option linter.unusedVariables false
set_option linter.unusedSimpArgs false
set_option maxRecDepth 20000
open Go.RowKit Cp

theorem neql_rec (w : World) (k e v n q k' e' v' n' q' : Int) (t t' : ByteArray) (a0 a1 a2 a3 a4 a5 a6 a7 a8 a9 a10 a11 b0 b1 b2 b3 b4 b5 b6 b7 b8 b9 b10 b11 : Int) :
    (binOp .neq 26 (.agg #[.int .i64 k, .int .i64 e, .int .i64 v, .int .i64 n, .int .i64 q, .string t, .int .i64 a0, .int .i64 a1, .int .i64 a2, .int .i64 a3, .int .i64 a4, .int .i64 a5, .int .i64 a6, .int .i64 a7, .int .i64 a8, .int .i64 a9, .int .i64 a10, .int .i64 a11]) (.agg #[.int .i64 k', .int .i64 e', .int .i64 v', .int .i64 n', .int .i64 q', .string t', .int .i64 b0, .int .i64 b1, .int .i64 b2, .int .i64 b3, .int .i64 b4, .int .i64 b5, .int .i64 b6, .int .i64 b7, .int .i64 b8, .int .i64 b9, .int .i64 b10, .int .i64 b11])).run Tryd.prog w
      = .ok (.bool (!req (Rc.mk k e v n q t (Sp.mk a0 a1 a2 a3 a4 a5 a6 a7 a8 a9 a10 a11)) (Rc.mk k' e' v' n' q' t' (Sp.mk b0 b1 b2 b3 b4 b5 b6 b7 b8 b9 b10 b11)))) w := by
  have h := eql_rec w k e v n q k' e' v' n' q' t t' a0 a1 a2 a3 a4 a5 a6 a7 a8 a9 a10 a11 b0 b1 b2 b3 b4 b5 b6 b7 b8 b9 b10 b11
  rw [run_eql_struct] at h
  rw [run_neq_struct]
  revert h
  generalize (Op.equalIn 10000 _ _ _).run Tryd.prog w = res
  intro h
  cases res with
  | ok b w' =>
    simp only [Result.andThen_ok] at h ⊢
    have h1 : (Result.ok (Value.bool b) w' : Result Value) = _ := h
    simp only [Result.ok.injEq, Value.bool.injEq] at h1
    obtain ⟨rfl, rfl⟩ := h1
    rfl
  | halt x w' => cases h

set_option maxRecDepth 20000 in
set_option maxHeartbeats 16000000 in
attribute [-go_sem] run_eql_struct run_neq_struct in
attribute [local go_sem] eql_rec neql_rec in
theorem recordApart_walk (W : World) (ht : Tab W) (r : Rc) (hok : r.ok) (s : Rc) (hoks : s.ok) :
    Calls Tryd.prog 4 #[r.val, s.val] W fun y w' => y = .returned (.bool true) ∧ Below W.heap.size W w' := by
  have hts : r.t.size ≤ 9223372036854775807 := hok.2.1
  have hts2 : s.t.size ≤ 9223372036854775807 := hoks.2.1
  have HT := hid ht
  clear hok hoks ht
  have HVr : Hid (r.val = .agg #[.int .i64 r.k, .int .i64 r.e, .int .i64 r.w, .int .i64 r.n, .int .i64 r.q, .string r.t, .int .i64 r.p.s0, .int .i64 r.p.s1, .int .i64 r.p.s2, .int .i64 r.p.s3, .int .i64 r.p.s4, .int .i64 r.p.s5, .int .i64 r.p.s6, .int .i64 r.p.s7, .int .i64 r.p.s8, .int .i64 r.p.s9, .int .i64 r.p.s10, .int .i64 r.p.s11]) := rfl
  have HVs : Hid (s.val = .agg #[.int .i64 s.k, .int .i64 s.e, .int .i64 s.w, .int .i64 s.n, .int .i64 s.q, .string s.t, .int .i64 s.p.s0, .int .i64 s.p.s1, .int .i64 s.p.s2, .int .i64 s.p.s3, .int .i64 s.p.s4, .int .i64 s.p.s5, .int .i64 s.p.s6, .int .i64 s.p.s7, .int .i64 s.p.s8, .int .i64 s.p.s9, .int .i64 s.p.s10, .int .i64 s.p.s11]) := rfl
  rw [HVr.out, HVs.out]
  go_enter Tryd.func4, Tryd.ntmps4
  go_wp2_with fail
  refine (rlives_calls _).mono ?_
  rintro _ w1 ⟨rfl, hf⟩
  obtain ⟨hB, hC⟩ := new2 W (.cells #[.int .i64 r.k, .int .i64 r.e, .int .i64 r.w, .int .i64 r.n, .int .i64 r.q, .string r.t, .int .i64 r.p.s0, .int .i64 r.p.s1, .int .i64 r.p.s2, .int .i64 r.p.s3, .int .i64 r.p.s4, .int .i64 r.p.s5, .int .i64 r.p.s6, .int .i64 r.p.s7, .int .i64 r.p.s8, .int .i64 r.p.s9, .int .i64 r.p.s10, .int .i64 r.p.s11] 26) (.cells #[.int .i64 s.k, .int .i64 s.e, .int .i64 s.w, .int .i64 s.n, .int .i64 s.q, .string s.t, .int .i64 s.p.s0, .int .i64 s.p.s1, .int .i64 s.p.s2, .int .i64 s.p.s3, .int .i64 s.p.s4, .int .i64 s.p.s5, .int .i64 s.p.s6, .int .i64 s.p.s7, .int .i64 s.p.s8, .int .i64 s.p.s9, .int .i64 s.p.s10, .int .i64 s.p.s11] 26)
  have B1 := hid (hf.heap hB (fun h => h))
  have C1 := hid (hf.heap hC (fun h => h))
  have F1 := hid ((((Frm.refl M0 W).alloc _).alloc _).then0 hf)
  have hs1 : (W.alloc (.cells #[.int .i64 r.k, .int .i64 r.e, .int .i64 r.w, .int .i64 r.n, .int .i64 r.q, .string r.t, .int .i64 r.p.s0, .int .i64 r.p.s1, .int .i64 r.p.s2, .int .i64 r.p.s3, .int .i64 r.p.s4, .int .i64 r.p.s5, .int .i64 r.p.s6, .int .i64 r.p.s7, .int .i64 r.p.s8, .int .i64 r.p.s9, .int .i64 r.p.s10, .int .i64 r.p.s11] 26)).heap.size = W.heap.size + 1 := by simp
  obtain ⟨b, hb⟩ : ∃ x, x = W.heap.size := ⟨_, rfl⟩
  try rw [hs1]
  rw [← hb] at B1 C1
  rw [← hb]
  have HBB := hid hb
  clear hf hB hC hs1 hb
  go_upto_region 3 with fail
  obtain ⟨⟨gk, ge, gw, gn, gq, gt, ⟨g0, g1, g2, g3, g4, g5, g6, g7, g8, g9, g10, g11⟩⟩, HG⟩ : ∃ g, Hid (goodR r = g) := ⟨_, rfl⟩
  obtain ⟨⟨hk, he, hw, hn, hq, ht, ⟨h0, h1, h2, h3, h4, h5, h6, h7, h8, h9, h10, h11⟩⟩, HH⟩ : ∃ g, Hid (goodR s = g) := ⟨_, rfl⟩
  refine wp_region_G 6 (fun i => if i = 4 then some (.cells #[.int .i64 0, .int .i64 0, .int .i64 0, .int .i64 0, .int .i64 0, .string ⟨#[]⟩, .int .i64 0, .int .i64 0, .int .i64 0, .int .i64 0, .int .i64 0, .int .i64 0, .int .i64 0, .int .i64 0, .int .i64 0, .int .i64 0, .int .i64 0, .int .i64 0] 26) else if i = 5 then some (.cells #[.int .i64 0, .int .i64 0, .int .i64 0, .int .i64 0, .int .i64 0, .string ⟨#[]⟩, .int .i64 0, .int .i64 0, .int .i64 0, .int .i64 0, .int .i64 0, .int .i64 0, .int .i64 0, .int .i64 0, .int .i64 0, .int .i64 0, .int .i64 0, .int .i64 0] 26) else none) (fun i => ([.agg #[.int .i64 r.k, .int .i64 r.e, .int .i64 r.w, .int .i64 r.n, .int .i64 r.q, .string r.t, .int .i64 r.p.s0, .int .i64 r.p.s1, .int .i64 r.p.s2, .int .i64 r.p.s3, .int .i64 r.p.s4, .int .i64 r.p.s5, .int .i64 r.p.s6, .int .i64 r.p.s7, .int .i64 r.p.s8, .int .i64 r.p.s9, .int .i64 r.p.s10, .int .i64 r.p.s11], .agg #[.int .i64 gk, .int .i64 ge, .int .i64 gw, .int .i64 gn, .int .i64 gq, .string gt, .int .i64 g0, .int .i64 g1, .int .i64 g2, .int .i64 g3, .int .i64 g4, .int .i64 g5, .int .i64 g6, .int .i64 g7, .int .i64 g8, .int .i64 g9, .int .i64 g10, .int .i64 g11], .agg #[.int .i64 s.k, .int .i64 s.e, .int .i64 s.w, .int .i64 s.n, .int .i64 s.q, .string s.t, .int .i64 s.p.s0, .int .i64 s.p.s1, .int .i64 s.p.s2, .int .i64 s.p.s3, .int .i64 s.p.s4, .int .i64 s.p.s5, .int .i64 s.p.s6, .int .i64 s.p.s7, .int .i64 s.p.s8, .int .i64 s.p.s9, .int .i64 s.p.s10, .int .i64 s.p.s11], .agg #[.int .i64 hk, .int .i64 he, .int .i64 hw, .int .i64 hn, .int .i64 hq, .string ht, .int .i64 h0, .int .i64 h1, .int .i64 h2, .int .i64 h3, .int .i64 h4, .int .i64 h5, .int .i64 h6, .int .i64 h7, .int .i64 h8, .int .i64 h9, .int .i64 h10, .int .i64 h11]] : List Value).getD i undef) (by kernel_rfl) (by kernel_rfl) ?_ ?_
  · intro i o obj ho hi
    by_cases h4 : i = 4
    · subst h4
      obtain rfl := Option.some.inj hi
      obtain rfl := Option.some.inj ho
      exact ⟨rfl, fun a w => rfl⟩
    · by_cases h5 : i = 5
      · subst h5
        obtain rfl := Option.some.inj hi
        obtain rfl := Option.some.inj ho
        exact ⟨rfl, fun a w => rfl⟩
      · rw [if_neg h4, if_neg h5] at hi; cases hi
  intro ops QT HO HQ
  obtain ⟨ho0, HO⟩ := HO
  refine wpG_val _ (.agg #[.int .i64 r.k, .int .i64 r.e, .int .i64 r.w, .int .i64 r.n, .int .i64 r.q, .string r.t, .int .i64 r.p.s0, .int .i64 r.p.s1, .int .i64 r.p.s2, .int .i64 r.p.s3, .int .i64 r.p.s4, .int .i64 r.p.s5, .int .i64 r.p.s6, .int .i64 r.p.s7, .int .i64 r.p.s8, .int .i64 r.p.s9, .int .i64 r.p.s10, .int .i64 r.p.s11]) ho0.out rfl rfl ?_ ?_
  · refine FY_in rfl fun wx hx => ?_
    exact fu_load_row rfl 26 (.tmp 2) rfl b rfl _ _ _ _ (hx.heap B1.out (fun h => h)) Tryd.underlying26 rfl (by kernel_rfl)
  simp only [Act.put, List.setIfInBounds_toArray, List.set_cons_zero, List.set_cons_succ]
  obtain ⟨ho1, HO⟩ := HO
  refine wpG_val _ (.agg #[.int .i64 gk, .int .i64 ge, .int .i64 gw, .int .i64 gn, .int .i64 gq, .string gt, .int .i64 g0, .int .i64 g1, .int .i64 g2, .int .i64 g3, .int .i64 g4, .int .i64 g5, .int .i64 g6, .int .i64 g7, .int .i64 g8, .int .i64 g9, .int .i64 g10, .int .i64 g11]) ho1.out rfl rfl ?_ ?_
  · refine FY_in rfl fun wx hx => ?_
    go_simp
    exact ⟨rfl, (rgood_calls r _ hts).mono fun e w' h => ⟨by rw [h.1, HG.out]; rfl, h.2⟩⟩
  simp only [Act.put, List.setIfInBounds_toArray, List.set_cons_zero, List.set_cons_succ]
  obtain ⟨ho2, HO⟩ := HO
  refine wpG_val _ (.agg #[.int .i64 s.k, .int .i64 s.e, .int .i64 s.w, .int .i64 s.n, .int .i64 s.q, .string s.t, .int .i64 s.p.s0, .int .i64 s.p.s1, .int .i64 s.p.s2, .int .i64 s.p.s3, .int .i64 s.p.s4, .int .i64 s.p.s5, .int .i64 s.p.s6, .int .i64 s.p.s7, .int .i64 s.p.s8, .int .i64 s.p.s9, .int .i64 s.p.s10, .int .i64 s.p.s11]) ho2.out rfl rfl ?_ ?_
  · refine FY_in rfl fun wx hx => ?_
    exact fu_load_row rfl 26 (.tmp 3) rfl (b + 1) rfl _ _ _ _ (hx.heap C1.out (fun h => h)) Tryd.underlying26 rfl (by kernel_rfl)
  simp only [Act.put, List.setIfInBounds_toArray, List.set_cons_zero, List.set_cons_succ]
  obtain ⟨ho3, HO⟩ := HO
  refine wpG_val _ (.agg #[.int .i64 hk, .int .i64 he, .int .i64 hw, .int .i64 hn, .int .i64 hq, .string ht, .int .i64 h0, .int .i64 h1, .int .i64 h2, .int .i64 h3, .int .i64 h4, .int .i64 h5, .int .i64 h6, .int .i64 h7, .int .i64 h8, .int .i64 h9, .int .i64 h10, .int .i64 h11]) ho3.out rfl rfl ?_ ?_
  · refine FY_in rfl fun wx hx => ?_
    go_simp
    exact ⟨rfl, (rgood_calls s _ hts2).mono fun e w' h => ⟨by rw [h.1, HH.out]; rfl, h.2⟩⟩
  simp only [Act.put, List.setIfInBounds_toArray, List.set_cons_zero, List.set_cons_succ]
  obtain ⟨ho4, HO⟩ := HO
  refine wpG_new _ _ ho4.out rfl fun c => ?_
  simp only [Act.put, List.setIfInBounds_toArray, List.set_cons_zero, List.set_cons_succ]
  obtain ⟨ho5, HO⟩ := HO
  refine wpG_new _ _ ho5.out rfl fun d => ?_
  simp only [Act.put, List.setIfInBounds_toArray, List.set_cons_zero, List.set_cons_succ]
  refine HQ.out _ _ ?_
  intro w2 hf hE hN
  obtain ⟨hc1, hc2⟩ := hE 4 _ (by omega) rfl
  obtain ⟨hd1, hd2⟩ := hE 5 _ (by omega) rfl
  have hcd : ¬ c = d := fun h => absurd (hN 4 5 _ _ (by omega) (by omega) rfl rfl h) (by decide)
  have hc2' : w2.heap[c]? = some (.cells #[.int .i64 0, .int .i64 0, .int .i64 0, .int .i64 0, .int .i64 0, .string ⟨#[]⟩, .int .i64 0, .int .i64 0, .int .i64 0, .int .i64 0, .int .i64 0, .int .i64 0, .int .i64 0, .int .i64 0, .int .i64 0, .int .i64 0, .int .i64 0, .int .i64 0] 26 (0, 0)) := hc2
  have hd2' : w2.heap[d]? = some (.cells #[.int .i64 0, .int .i64 0, .int .i64 0, .int .i64 0, .int .i64 0, .string ⟨#[]⟩, .int .i64 0, .int .i64 0, .int .i64 0, .int .i64 0, .int .i64 0, .int .i64 0, .int .i64 0, .int .i64 0, .int .i64 0, .int .i64 0, .int .i64 0, .int .i64 0] 26 (0, 0)) := hd2
  have hc1' : w1.heap.size ≤ c := hc1
  have hd1' : w1.heap.size ≤ d := hd1
  have F2 := hid (F1.out.then0 hf)
  have HD := hid (And.intro hcd (And.intro hc1' hd1'))
  clear hE hN hc1 hc2 hd1 hd2 hcd hc1' hd1' hf HQ ho0 ho1 ho2 ho3 ho4 ho5 HO
  simp only [List.drop_succ_cons, List.drop_zero]
  refine wpList_store_row rfl 26 (.tmp 5) (.tmp 14) (by with_reducible rfl) c #[.int .i64 gk, .int .i64 ge, .int .i64 gw, .int .i64 gn, .int .i64 gq, .string gt, .int .i64 g0, .int .i64 g1, .int .i64 g2, .int .i64 g3, .int .i64 g4, .int .i64 g5, .int .i64 g6, .int .i64 g7, .int .i64 g8, .int .i64 g9, .int .i64 g10, .int .i64 g11] (by kernel_rfl) (by kernel_rfl) _ _ hc2' (by kernel_rfl) rfl (by simp [Value.oneCell']) ?_
  have hxw3 := setRow_heap w2 c _ (#[.int .i64 gk, .int .i64 ge, .int .i64 gw, .int .i64 gn, .int .i64 gq, .string gt, .int .i64 g0, .int .i64 g1, .int .i64 g2, .int .i64 g3, .int .i64 g4, .int .i64 g5, .int .i64 g6, .int .i64 g7, .int .i64 g8, .int .i64 g9, .int .i64 g10, .int .i64 g11]) _ _ hc2'
  have hy := frm_setRow w2 c (#[.int .i64 gk, .int .i64 ge, .int .i64 gw, .int .i64 gn, .int .i64 gq, .string gt, .int .i64 g0, .int .i64 g1, .int .i64 g2, .int .i64 g3, .int .i64 g4, .int .i64 g5, .int .i64 g6, .int .i64 g7, .int .i64 g8, .int .i64 g9, .int .i64 g10, .int .i64 g11])
  have hzw3 := hy.heap hd2' (fun h => HD.out.1 h.symm)
  obtain ⟨w3, hwn⟩ : ∃ x, x = w2.setRow c (#[.int .i64 gk, .int .i64 ge, .int .i64 gw, .int .i64 gn, .int .i64 gq, .string gt, .int .i64 g0, .int .i64 g1, .int .i64 g2, .int .i64 g3, .int .i64 g4, .int .i64 g5, .int .i64 g6, .int .i64 g7, .int .i64 g8, .int .i64 g9, .int .i64 g10, .int .i64 g11]) := ⟨_, rfl⟩
  rw [← hwn] at hxw3 hy hzw3
  rw [← hwn]
  clear hwn hc2' hd2'
  have F3 := hid (F2.out.trans hy (fun j hj hm => by have := HD.out.2.1; have := F1.out.size; omega))
  clear hy
  refine wpList_store_row rfl 26 (.tmp 6) (.tmp 16) (by with_reducible rfl) d #[.int .i64 hk, .int .i64 he, .int .i64 hw, .int .i64 hn, .int .i64 hq, .string ht, .int .i64 h0, .int .i64 h1, .int .i64 h2, .int .i64 h3, .int .i64 h4, .int .i64 h5, .int .i64 h6, .int .i64 h7, .int .i64 h8, .int .i64 h9, .int .i64 h10, .int .i64 h11] (by kernel_rfl) (by kernel_rfl) _ _ hzw3 (by kernel_rfl) rfl (by simp [Value.oneCell']) ?_
  have hxw4 := setRow_heap w3 d _ (#[.int .i64 hk, .int .i64 he, .int .i64 hw, .int .i64 hn, .int .i64 hq, .string ht, .int .i64 h0, .int .i64 h1, .int .i64 h2, .int .i64 h3, .int .i64 h4, .int .i64 h5, .int .i64 h6, .int .i64 h7, .int .i64 h8, .int .i64 h9, .int .i64 h10, .int .i64 h11]) _ _ hzw3
  have hy := frm_setRow w3 d (#[.int .i64 hk, .int .i64 he, .int .i64 hw, .int .i64 hn, .int .i64 hq, .string ht, .int .i64 h0, .int .i64 h1, .int .i64 h2, .int .i64 h3, .int .i64 h4, .int .i64 h5, .int .i64 h6, .int .i64 h7, .int .i64 h8, .int .i64 h9, .int .i64 h10, .int .i64 h11])
  have hzw4 := hy.heap hxw3 (fun h => HD.out.1 h)
  obtain ⟨w4, hwn⟩ : ∃ x, x = w3.setRow d (#[.int .i64 hk, .int .i64 he, .int .i64 hw, .int .i64 hn, .int .i64 hq, .string ht, .int .i64 h0, .int .i64 h1, .int .i64 h2, .int .i64 h3, .int .i64 h4, .int .i64 h5, .int .i64 h6, .int .i64 h7, .int .i64 h8, .int .i64 h9, .int .i64 h10, .int .i64 h11]) := ⟨_, rfl⟩
  rw [← hwn] at hxw4 hy hzw4
  rw [← hwn]
  clear hwn hzw3 hxw3
  have F4 := hid (F3.out.trans hy (fun j hj hm => by have := HD.out.2.2; have := F1.out.size; omega))
  clear hy F2 F3
  have HC := hid hzw4
  have HDD := hid hxw4
  clear hzw4 hxw4
  have hrg := good_right r
  have hrh := good_right s
  rw [HG.out] at hrg
  rw [HH.out] at hrh
  have HRG := hid hrg
  have HRH := hid hrh
  have hg64 : gt.size ≤ 64 := (right_facts hrg).2.2.2.2.2.1
  have hh64 : ht.size ≤ 64 := (right_facts hrh).2.2.2.2.2.1
  have HBG := hid (bytes_good hrg)
  have HBH := hid (bytes_good hrh)
  clear hrg hrh
  have HVG : Hid (Rc.val ⟨gk, ge, gw, gn, gq, gt, ⟨g0, g1, g2, g3, g4, g5, g6, g7, g8, g9, g10, g11⟩⟩ = .agg #[.int .i64 gk, .int .i64 ge, .int .i64 gw, .int .i64 gn, .int .i64 gq, .string gt, .int .i64 g0, .int .i64 g1, .int .i64 g2, .int .i64 g3, .int .i64 g4, .int .i64 g5, .int .i64 g6, .int .i64 g7, .int .i64 g8, .int .i64 g9, .int .i64 g10, .int .i64 g11]) := rfl
  have HVH : Hid (Rc.val ⟨hk, he, hw, hn, hq, ht, ⟨h0, h1, h2, h3, h4, h5, h6, h7, h8, h9, h10, h11⟩⟩ = .agg #[.int .i64 hk, .int .i64 he, .int .i64 hw, .int .i64 hn, .int .i64 hq, .string ht, .int .i64 h0, .int .i64 h1, .int .i64 h2, .int .i64 h3, .int .i64 h4, .int .i64 h5, .int .i64 h6, .int .i64 h7, .int .i64 h8, .int .i64 h9, .int .i64 h10, .int .i64 h11]) := rfl
  go_wp2_with (refine wpList_load_row rfl 26 (.tmp 5) (by with_reducible rfl) c (by kernel_rfl) _ _ _ _ HC.out Tryd.underlying26 rfl (by kernel_rfl) ?_)
  rw [← HVG.out]
  refine (bytes_calls _ w4 (by show gt.size ≤ 100000; omega)).mono ?_
  rintro _ w5 ⟨v7, rfl, hr, hf⟩
  rw [HVG.out]
  rw [HBG.out] at hr ⊢
  simp only [] at hr ⊢
  obtain ⟨lg, HLG⟩ : ∃ l, Hid (wireL ⟨gk, ge, gw, gn, gq, gt, ⟨g0, g1, g2, g3, g4, g5, g6, g7, g8, g9, g10, g11⟩⟩ = l) := ⟨_, rfl⟩
  rw [HLG.out] at hr
  have R7 := hid hr
  have C5 := hid (hf.heap HC.out (fun h => h))
  have D5 := hid (hf.heap HDD.out (fun h => h))
  have F5 := hid (F4.out.then0 hf)
  clear hr hf HC HDD F4
  go_wp2_with (refine wpList_load_row rfl 26 (.tmp 6) (by with_reducible rfl) d (by kernel_rfl) _ _ _ _ D5.out Tryd.underlying26 rfl (by kernel_rfl) ?_)
  rw [← HVH.out]
  refine (bytes_calls _ w5 (by show ht.size ≤ 100000; omega)).mono ?_
  rintro _ w6 ⟨v9, rfl, hr, hf⟩
  rw [HVH.out]
  rw [HBH.out] at hr ⊢
  simp only [] at hr ⊢
  obtain ⟨lh, HLH⟩ : ∃ l, Hid (wireL ⟨hk, he, hw, hn, hq, ht, ⟨h0, h1, h2, h3, h4, h5, h6, h7, h8, h9, h10, h11⟩⟩ = l) := ⟨_, rfl⟩
  rw [HLH.out] at hr
  have R9 : Hid (∀ wx, Frm M0 w6 wx → Rd wx 1 v9 lh.length (ints .u8 lh)) := hid (fun wx hx => hr.frm0 hx)
  have R8 : Hid (∀ wx, Frm M0 w6 wx → Rd wx 1 v7 lg.length (ints .u8 lg)) := hid (fun wx hx => (R7.out.frm0 hf).frm0 hx)
  have C6 := hid (hf.heap C5.out (fun h => h))
  have D6 := hid (hf.heap D5.out (fun h => h))
  have F6 := hid (F5.out.then0 hf)
  clear hr hf C5 D5 F5 R7
  go_upto_region 6 with fail
  obtain ⟨sg, HSG⟩ : ∃ x, Hid (wordsS ⟨gk, ge, gw, gn, gq, gt, ⟨g0, g1, g2, g3, g4, g5, g6, g7, g8, g9, g10, g11⟩⟩ = x) := ⟨_, rfl⟩
  obtain ⟨sh, HSH⟩ : ∃ x, Hid (wordsS ⟨hk, he, hw, hn, hq, ht, ⟨h0, h1, h2, h3, h4, h5, h6, h7, h8, h9, h10, h11⟩⟩ = x) := ⟨_, rfl⟩
  have HTX : Hid (∀ wx, Frm M0 w6 wx → Tab wx) := hid (fun wx hx => HT.out.frm (F6.out.then0 hx))
  have HSN : Hid (sg.toList.isEmpty = false) := by rw [← HSG.out]; exact words_some HRG.out
  by_cases hEq : (⟨gk, ge, gw, gn, gq, gt, ⟨g0, g1, g2, g3, g4, g5, g6, g7, g8, g9, g10, g11⟩⟩ : Rc) = ⟨hk, he, hw, hn, hq, ht, ⟨h0, h1, h2, h3, h4, h5, h6, h7, h8, h9, h10, h11⟩⟩
  case pos =>
    have HSE : Hid (((strOfNums lg).toList == (strOfNums lh).toList) = true) := hid (str_eq (by rw [← HLG.out, ← HLH.out, hEq]))
    have HRQ : Hid (req ⟨gk, ge, gw, gn, gq, gt, ⟨g0, g1, g2, g3, g4, g5, g6, g7, g8, g9, g10, g11⟩⟩ ⟨hk, he, hw, hn, hq, ht, ⟨h0, h1, h2, h3, h4, h5, h6, h7, h8, h9, h10, h11⟩⟩ = true) := hid (by unfold req; exact decide_eq_true hEq)
    have HSS : Hid ((sg.toList == sh.toList) = true) := hid (by rw [← HSG.out, ← HSH.out, hEq]; exact beq_self_eq_true _)
    clear hEq
    refine wp_region_G 34 (fun _ => none) (fun i => ([.int .i64 0, .bool true, .bool true, .int .i64 0, .bool true, .bool true, .bool true, v7, .string (strOfNums lg), v9, .string (strOfNums lh), .bool true, .agg #[.int .i64 gk, .int .i64 ge, .int .i64 gw, .int .i64 gn, .int .i64 gq, .string gt, .int .i64 g0, .int .i64 g1, .int .i64 g2, .int .i64 g3, .int .i64 g4, .int .i64 g5, .int .i64 g6, .int .i64 g7, .int .i64 g8, .int .i64 g9, .int .i64 g10, .int .i64 g11], .agg #[.int .i64 hk, .int .i64 he, .int .i64 hw, .int .i64 hn, .int .i64 hq, .string ht, .int .i64 h0, .int .i64 h1, .int .i64 h2, .int .i64 h3, .int .i64 h4, .int .i64 h5, .int .i64 h6, .int .i64 h7, .int .i64 h8, .int .i64 h9, .int .i64 h10, .int .i64 h11], .bool true, .bool true, .bool true, .bool true, .agg #[.int .i64 gk, .int .i64 ge, .int .i64 gw, .int .i64 gn, .int .i64 gq, .string gt, .int .i64 g0, .int .i64 g1, .int .i64 g2, .int .i64 g3, .int .i64 g4, .int .i64 g5, .int .i64 g6, .int .i64 g7, .int .i64 g8, .int .i64 g9, .int .i64 g10, .int .i64 g11], .agg #[.int .i64 hk, .int .i64 he, .int .i64 hw, .int .i64 hn, .int .i64 hq, .string ht, .int .i64 h0, .int .i64 h1, .int .i64 h2, .int .i64 h3, .int .i64 h4, .int .i64 h5, .int .i64 h6, .int .i64 h7, .int .i64 h8, .int .i64 h9, .int .i64 h10, .int .i64 h11], .bool false, .bool false, .agg #[.int .i64 gk, .int .i64 ge, .int .i64 gw, .int .i64 gn, .int .i64 gq, .string gt, .int .i64 g0, .int .i64 g1, .int .i64 g2, .int .i64 g3, .int .i64 g4, .int .i64 g5, .int .i64 g6, .int .i64 g7, .int .i64 g8, .int .i64 g9, .int .i64 g10, .int .i64 g11], .string sg, .agg #[.int .i64 hk, .int .i64 he, .int .i64 hw, .int .i64 hn, .int .i64 hq, .string ht, .int .i64 h0, .int .i64 h1, .int .i64 h2, .int .i64 h3, .int .i64 h4, .int .i64 h5, .int .i64 h6, .int .i64 h7, .int .i64 h8, .int .i64 h9, .int .i64 h10, .int .i64 h11], .string sh, .bool true, .bool true, .bool true, .bool true, .agg #[.int .i64 gk, .int .i64 ge, .int .i64 gw, .int .i64 gn, .int .i64 gq, .string gt, .int .i64 g0, .int .i64 g1, .int .i64 g2, .int .i64 g3, .int .i64 g4, .int .i64 g5, .int .i64 g6, .int .i64 g7, .int .i64 g8, .int .i64 g9, .int .i64 g10, .int .i64 g11], .string sg, .bool true, .bool true] : List Value).getD i undef) (by kernel_rfl) (by kernel_rfl) (fun i o obj _ h => by cases h) ?_
    intro ops QT HO HQ
    obtain ⟨ho0, HO⟩ := HO
    refine wpG_val _ (.int .i64 0) ho0.out rfl rfl ?_ ?_
    · refine FY_in rfl fun wx hx => ?_
      go_simp
      all_goals exact ⟨rfl, rfl⟩
    simp only [Act.put, List.setIfInBounds_toArray, List.set_cons_zero, List.set_cons_succ]
    obtain ⟨ho1, HO⟩ := HO
    refine wpG_val _ (.bool true) ho1.out rfl rfl ?_ ?_
    · refine FY_in rfl fun wx hx => ?_
      go_simp
      all_goals exact ⟨rfl, rfl⟩
    simp only [Act.put, List.setIfInBounds_toArray, List.set_cons_zero, List.set_cons_succ]
    obtain ⟨ho2, HO⟩ := HO
    refine wpG_val _ (.bool true) ho2.out rfl rfl ?_ ?_
    · refine FY_in rfl fun wx hx => ?_
      go_simp
      all_goals exact ⟨rfl, rfl⟩
    simp only [Act.put, List.setIfInBounds_toArray, List.set_cons_zero, List.set_cons_succ]
    obtain ⟨ho3, HO⟩ := HO
    refine wpG_val _ (.int .i64 0) ho3.out rfl rfl ?_ ?_
    · refine FY_yes (d := 29) rfl ho2.out (by rfl) (by kernel_rfl) fun wx hx => ?_
      go_simp
      all_goals exact ⟨rfl, rfl⟩
    simp only [Act.put, List.setIfInBounds_toArray, List.set_cons_zero, List.set_cons_succ]
    obtain ⟨ho4, HO⟩ := HO
    refine wpG_val _ (.bool true) ho4.out rfl rfl ?_ ?_
    · refine FY_yes (d := 29) rfl ho2.out (by rfl) (by kernel_rfl) fun wx hx => ?_
      go_simp
      all_goals exact ⟨rfl, rfl⟩
    simp only [Act.put, List.setIfInBounds_toArray, List.set_cons_zero, List.set_cons_succ]
    obtain ⟨ho5, HO⟩ := HO
    refine wpG_val _ (.bool true) ho5.out rfl rfl ?_ ?_
    · refine FY_in rfl fun wx hx => ?_
      go_simp
      all_goals exact ⟨rfl, rfl⟩
    simp only [Act.put, List.setIfInBounds_toArray, List.set_cons_zero, List.set_cons_succ]
    obtain ⟨ho6, HO⟩ := HO
    refine wpG_val _ (.bool true) ho6.out rfl rfl ?_ ?_
    · refine FY_in rfl fun wx hx => ?_
      go_simp
      all_goals exact ⟨rfl, rfl⟩
    simp only [Act.put, List.setIfInBounds_toArray, List.set_cons_zero, List.set_cons_succ]
    obtain ⟨ho7, HO⟩ := HO
    refine wpG_val _ (v7) ho7.out rfl rfl ?_ ?_
    · refine FY_yes (d := 33) rfl ho6.out (by rfl) (by kernel_rfl) fun wx hx => ?_
      go_simp
      all_goals exact ⟨rfl, rfl⟩
    simp only [Act.put, List.setIfInBounds_toArray, List.set_cons_zero, List.set_cons_succ]
    obtain ⟨ho8, HO⟩ := HO
    refine wpG_val _ (.string (strOfNums lg)) ho8.out rfl rfl ?_ ?_
    · refine FY_yes (d := 33) rfl ho6.out (by rfl) (by kernel_rfl) fun wx hx => ?_
      have hs := run_str (P := Tryd.prog) 29 9 5 Tryd.underlying29 Tryd.underlying9 Tryd.underlying5 (R8.out wx hx)
      go_simp
      all_goals exact ⟨rfl, rfl⟩
    simp only [Act.put, List.setIfInBounds_toArray, List.set_cons_zero, List.set_cons_succ]
    obtain ⟨ho9, HO⟩ := HO
    refine wpG_val _ (v9) ho9.out rfl rfl ?_ ?_
    · refine FY_yes (d := 33) rfl ho6.out (by rfl) (by kernel_rfl) fun wx hx => ?_
      go_simp
      all_goals exact ⟨rfl, rfl⟩
    simp only [Act.put, List.setIfInBounds_toArray, List.set_cons_zero, List.set_cons_succ]
    obtain ⟨ho10, HO⟩ := HO
    refine wpG_val _ (.string (strOfNums lh)) ho10.out rfl rfl ?_ ?_
    · refine FY_yes (d := 33) rfl ho6.out (by rfl) (by kernel_rfl) fun wx hx => ?_
      have hs := run_str (P := Tryd.prog) 29 9 5 Tryd.underlying29 Tryd.underlying9 Tryd.underlying5 (R9.out wx hx)
      go_simp
      all_goals exact ⟨rfl, rfl⟩
    simp only [Act.put, List.setIfInBounds_toArray, List.set_cons_zero, List.set_cons_succ]
    obtain ⟨ho11, HO⟩ := HO
    refine wpG_val _ (.bool true) ho11.out rfl rfl ?_ ?_
    · refine FY_yes (d := 33) rfl ho6.out (by rfl) (by kernel_rfl) fun wx hx => ?_
      have hse := HSE.out
      go_simp
      all_goals exact ⟨rfl, rfl⟩
    simp only [Act.put, List.setIfInBounds_toArray, List.set_cons_zero, List.set_cons_succ]
    obtain ⟨ho12, HO⟩ := HO
    refine wpG_val _ (.agg #[.int .i64 gk, .int .i64 ge, .int .i64 gw, .int .i64 gn, .int .i64 gq, .string gt, .int .i64 g0, .int .i64 g1, .int .i64 g2, .int .i64 g3, .int .i64 g4, .int .i64 g5, .int .i64 g6, .int .i64 g7, .int .i64 g8, .int .i64 g9, .int .i64 g10, .int .i64 g11]) ho12.out rfl rfl ?_ ?_
    · refine FY_yes (d := 33) rfl ho6.out (by rfl) (by kernel_rfl) fun wx hx => ?_
      exact fu_load_row_g 26 (.tmp 5) rfl c (by kernel_rfl) _ _ _ _ (hx.heap C6.out (fun h => h)) Tryd.underlying26 rfl (by kernel_rfl)
    simp only [Act.put, List.setIfInBounds_toArray, List.set_cons_zero, List.set_cons_succ]
    obtain ⟨ho13, HO⟩ := HO
    refine wpG_val _ (.agg #[.int .i64 hk, .int .i64 he, .int .i64 hw, .int .i64 hn, .int .i64 hq, .string ht, .int .i64 h0, .int .i64 h1, .int .i64 h2, .int .i64 h3, .int .i64 h4, .int .i64 h5, .int .i64 h6, .int .i64 h7, .int .i64 h8, .int .i64 h9, .int .i64 h10, .int .i64 h11]) ho13.out rfl rfl ?_ ?_
    · refine FY_yes (d := 33) rfl ho6.out (by rfl) (by kernel_rfl) fun wx hx => ?_
      exact fu_load_row_g 26 (.tmp 6) rfl d (by kernel_rfl) _ _ _ _ (hx.heap D6.out (fun h => h)) Tryd.underlying26 rfl (by kernel_rfl)
    simp only [Act.put, List.setIfInBounds_toArray, List.set_cons_zero, List.set_cons_succ]
    obtain ⟨ho14, HO⟩ := HO
    refine wpG_val _ (.bool true) ho14.out rfl rfl ?_ ?_
    · refine FY_yes (d := 33) rfl ho6.out (by rfl) (by kernel_rfl) fun wx hx => ?_
      have hrq := HRQ.out
      go_simp
      all_goals exact ⟨rfl, rfl⟩
    simp only [Act.put, List.setIfInBounds_toArray, List.set_cons_zero, List.set_cons_succ]
    obtain ⟨ho15, HO⟩ := HO
    refine wpG_val _ (.bool true) ho15.out rfl rfl ?_ ?_
    · refine FY_yes (d := 33) rfl ho6.out (by rfl) (by kernel_rfl) fun wx hx => ?_
      go_simp
      all_goals exact ⟨rfl, rfl⟩
    simp only [Act.put, List.setIfInBounds_toArray, List.set_cons_zero, List.set_cons_succ]
    obtain ⟨ho16, HO⟩ := HO
    refine wpG_val _ (.bool true) ho16.out rfl rfl ?_ ?_
    · refine FY_in rfl fun wx hx => ?_
      go_simp
      all_goals exact ⟨rfl, rfl⟩
    simp only [Act.put, List.setIfInBounds_toArray, List.set_cons_zero, List.set_cons_succ]
    obtain ⟨ho17, HO⟩ := HO
    refine wpG_val _ (.bool true) ho17.out rfl rfl ?_ ?_
    · refine FY_in rfl fun wx hx => ?_
      go_simp
      all_goals exact ⟨rfl, rfl⟩
    simp only [Act.put, List.setIfInBounds_toArray, List.set_cons_zero, List.set_cons_succ]
    obtain ⟨ho18, HO⟩ := HO
    refine wpG_val _ (.agg #[.int .i64 gk, .int .i64 ge, .int .i64 gw, .int .i64 gn, .int .i64 gq, .string gt, .int .i64 g0, .int .i64 g1, .int .i64 g2, .int .i64 g3, .int .i64 g4, .int .i64 g5, .int .i64 g6, .int .i64 g7, .int .i64 g8, .int .i64 g9, .int .i64 g10, .int .i64 g11]) ho18.out rfl rfl ?_ ?_
    · refine FY_yes (d := 44) rfl ho17.out (by rfl) (by kernel_rfl) fun wx hx => ?_
      exact fu_load_row_g 26 (.tmp 5) rfl c (by kernel_rfl) _ _ _ _ (hx.heap C6.out (fun h => h)) Tryd.underlying26 rfl (by kernel_rfl)
    simp only [Act.put, List.setIfInBounds_toArray, List.set_cons_zero, List.set_cons_succ]
    obtain ⟨ho19, HO⟩ := HO
    refine wpG_val _ (.agg #[.int .i64 hk, .int .i64 he, .int .i64 hw, .int .i64 hn, .int .i64 hq, .string ht, .int .i64 h0, .int .i64 h1, .int .i64 h2, .int .i64 h3, .int .i64 h4, .int .i64 h5, .int .i64 h6, .int .i64 h7, .int .i64 h8, .int .i64 h9, .int .i64 h10, .int .i64 h11]) ho19.out rfl rfl ?_ ?_
    · refine FY_yes (d := 44) rfl ho17.out (by rfl) (by kernel_rfl) fun wx hx => ?_
      exact fu_load_row_g 26 (.tmp 6) rfl d (by kernel_rfl) _ _ _ _ (hx.heap D6.out (fun h => h)) Tryd.underlying26 rfl (by kernel_rfl)
    simp only [Act.put, List.setIfInBounds_toArray, List.set_cons_zero, List.set_cons_succ]
    obtain ⟨ho20, HO⟩ := HO
    refine wpG_val _ (.bool false) ho20.out rfl rfl ?_ ?_
    · refine FY_yes (d := 44) rfl ho17.out (by rfl) (by kernel_rfl) fun wx hx => ?_
      have hrq := HRQ.out
      go_simp
      all_goals exact ⟨rfl, rfl⟩
    simp only [Act.put, List.setIfInBounds_toArray, List.set_cons_zero, List.set_cons_succ]
    obtain ⟨ho21, HO⟩ := HO
    refine wpG_val _ (.bool false) ho21.out rfl rfl ?_ ?_
    · refine FY_yes (d := 44) rfl ho17.out (by rfl) (by kernel_rfl) fun wx hx => ?_
      go_simp
      all_goals exact ⟨rfl, rfl⟩
    simp only [Act.put, List.setIfInBounds_toArray, List.set_cons_zero, List.set_cons_succ]
    obtain ⟨ho22, HO⟩ := HO
    refine wpG_val _ (.agg #[.int .i64 gk, .int .i64 ge, .int .i64 gw, .int .i64 gn, .int .i64 gq, .string gt, .int .i64 g0, .int .i64 g1, .int .i64 g2, .int .i64 g3, .int .i64 g4, .int .i64 g5, .int .i64 g6, .int .i64 g7, .int .i64 g8, .int .i64 g9, .int .i64 g10, .int .i64 g11]) ho22.out rfl rfl ?_ ?_
    · refine FY_yes (d := 48) rfl ho21.out (by rfl) (by kernel_rfl) fun wx hx => ?_
      exact fu_load_row_g 26 (.tmp 5) rfl c (by kernel_rfl) _ _ _ _ (hx.heap C6.out (fun h => h)) Tryd.underlying26 rfl (by kernel_rfl)
    simp only [Act.put, List.setIfInBounds_toArray, List.set_cons_zero, List.set_cons_succ]
    obtain ⟨ho23, HO⟩ := HO
    refine wpG_val _ (.string sg) ho23.out rfl rfl ?_ ?_
    · refine FY_yes (d := 48) rfl ho21.out (by rfl) (by kernel_rfl) fun wx hx => ?_
      go_simp
      exact ⟨rfl, (rwords_calls ⟨gk, ge, gw, gn, gq, gt, ⟨g0, g1, g2, g3, g4, g5, g6, g7, g8, g9, g10, g11⟩⟩ wx (HTX.out wx hx) (right_fine HRG.out)).mono fun e w' h => ⟨by rw [h.1, HSG.out], h.2⟩⟩
    simp only [Act.put, List.setIfInBounds_toArray, List.set_cons_zero, List.set_cons_succ]
    obtain ⟨ho24, HO⟩ := HO
    refine wpG_val _ (.agg #[.int .i64 hk, .int .i64 he, .int .i64 hw, .int .i64 hn, .int .i64 hq, .string ht, .int .i64 h0, .int .i64 h1, .int .i64 h2, .int .i64 h3, .int .i64 h4, .int .i64 h5, .int .i64 h6, .int .i64 h7, .int .i64 h8, .int .i64 h9, .int .i64 h10, .int .i64 h11]) ho24.out rfl rfl ?_ ?_
    · refine FY_yes (d := 48) rfl ho21.out (by rfl) (by kernel_rfl) fun wx hx => ?_
      exact fu_load_row_g 26 (.tmp 6) rfl d (by kernel_rfl) _ _ _ _ (hx.heap D6.out (fun h => h)) Tryd.underlying26 rfl (by kernel_rfl)
    simp only [Act.put, List.setIfInBounds_toArray, List.set_cons_zero, List.set_cons_succ]
    obtain ⟨ho25, HO⟩ := HO
    refine wpG_val _ (.string sh) ho25.out rfl rfl ?_ ?_
    · refine FY_yes (d := 48) rfl ho21.out (by rfl) (by kernel_rfl) fun wx hx => ?_
      go_simp
      exact ⟨rfl, (rwords_calls ⟨hk, he, hw, hn, hq, ht, ⟨h0, h1, h2, h3, h4, h5, h6, h7, h8, h9, h10, h11⟩⟩ wx (HTX.out wx hx) (right_fine HRH.out)).mono fun e w' h => ⟨by rw [h.1, HSH.out], h.2⟩⟩
    simp only [Act.put, List.setIfInBounds_toArray, List.set_cons_zero, List.set_cons_succ]
    obtain ⟨ho26, HO⟩ := HO
    refine wpG_val _ (.bool true) ho26.out rfl rfl ?_ ?_
    · refine FY_yes (d := 48) rfl ho21.out (by rfl) (by kernel_rfl) fun wx hx => ?_
      have hss := HSS.out
      go_simp
      all_goals exact ⟨rfl, rfl⟩
    simp only [Act.put, List.setIfInBounds_toArray, List.set_cons_zero, List.set_cons_succ]
    obtain ⟨ho27, HO⟩ := HO
    refine wpG_val _ (.bool true) ho27.out rfl rfl ?_ ?_
    · refine FY_yes (d := 44) rfl ho17.out (by rfl) (by kernel_rfl) fun wx hx => ?_
      go_simp
      all_goals exact ⟨rfl, rfl⟩
    simp only [Act.put, List.setIfInBounds_toArray, List.set_cons_zero, List.set_cons_succ]
    obtain ⟨ho28, HO⟩ := HO
    refine wpG_val _ (.bool true) ho28.out rfl rfl ?_ ?_
    · refine FY_in rfl fun wx hx => ?_
      go_simp
      all_goals exact ⟨rfl, rfl⟩
    simp only [Act.put, List.setIfInBounds_toArray, List.set_cons_zero, List.set_cons_succ]
    obtain ⟨ho29, HO⟩ := HO
    refine wpG_val _ (.bool true) ho29.out rfl rfl ?_ ?_
    · refine FY_in rfl fun wx hx => ?_
      go_simp
      all_goals exact ⟨rfl, rfl⟩
    simp only [Act.put, List.setIfInBounds_toArray, List.set_cons_zero, List.set_cons_succ]
    obtain ⟨ho30, HO⟩ := HO
    refine wpG_val _ (.agg #[.int .i64 gk, .int .i64 ge, .int .i64 gw, .int .i64 gn, .int .i64 gq, .string gt, .int .i64 g0, .int .i64 g1, .int .i64 g2, .int .i64 g3, .int .i64 g4, .int .i64 g5, .int .i64 g6, .int .i64 g7, .int .i64 g8, .int .i64 g9, .int .i64 g10, .int .i64 g11]) ho30.out rfl rfl ?_ ?_
    · refine FY_yes (d := 56) rfl ho29.out (by rfl) (by kernel_rfl) fun wx hx => ?_
      exact fu_load_row_g 26 (.tmp 5) rfl c (by kernel_rfl) _ _ _ _ (hx.heap C6.out (fun h => h)) Tryd.underlying26 rfl (by kernel_rfl)
    simp only [Act.put, List.setIfInBounds_toArray, List.set_cons_zero, List.set_cons_succ]
    obtain ⟨ho31, HO⟩ := HO
    refine wpG_val _ (.string sg) ho31.out rfl rfl ?_ ?_
    · refine FY_yes (d := 56) rfl ho29.out (by rfl) (by kernel_rfl) fun wx hx => ?_
      go_simp
      exact ⟨rfl, (rwords_calls ⟨gk, ge, gw, gn, gq, gt, ⟨g0, g1, g2, g3, g4, g5, g6, g7, g8, g9, g10, g11⟩⟩ wx (HTX.out wx hx) (right_fine HRG.out)).mono fun e w' h => ⟨by rw [h.1, HSG.out], h.2⟩⟩
    simp only [Act.put, List.setIfInBounds_toArray, List.set_cons_zero, List.set_cons_succ]
    obtain ⟨ho32, HO⟩ := HO
    refine wpG_val _ (.bool true) ho32.out rfl rfl ?_ ?_
    · refine FY_yes (d := 56) rfl ho29.out (by rfl) (by kernel_rfl) fun wx hx => ?_
      have hsn := HSN.out
      go_simp
      all_goals exact ⟨rfl, rfl⟩
    simp only [Act.put, List.setIfInBounds_toArray, List.set_cons_zero, List.set_cons_succ]
    obtain ⟨ho33, HO⟩ := HO
    refine wpG_val _ (.bool true) ho33.out rfl rfl ?_ ?_
    · refine FY_in rfl fun wx hx => ?_
      go_simp
      all_goals exact ⟨rfl, rfl⟩
    simp only [Act.put, List.setIfInBounds_toArray, List.set_cons_zero, List.set_cons_succ]
    refine HQ.out _ _ ?_
    intro w7 hf _ _
    have F7 := hid (F6.out.then0 hf)
    clear hf
    simp only [List.drop_succ_cons, List.drop_zero]
    go_wp2_with fail
    go_ret
    exact ⟨rfl, F7.out.below⟩
  case neg =>
    have HSE : Hid (((strOfNums lg).toList == (strOfNums lh).toList) = false) := hid (by rw [← HLG.out, ← HLH.out]; exact str_ne (wire_bytey HRG.out) (wire_bytey HRH.out) (fun h => hEq (wire_inj HRG.out HRH.out h)))
    have HRQ : Hid (req ⟨gk, ge, gw, gn, gq, gt, ⟨g0, g1, g2, g3, g4, g5, g6, g7, g8, g9, g10, g11⟩⟩ ⟨hk, he, hw, hn, hq, ht, ⟨h0, h1, h2, h3, h4, h5, h6, h7, h8, h9, h10, h11⟩⟩ = false) := hid (by unfold req; exact decide_eq_false hEq)
    clear hEq
    refine wp_region_G 34 (fun _ => none) (fun i => ([.int .i64 0, .bool true, .bool true, .int .i64 0, .bool true, .bool true, .bool true, v7, .string (strOfNums lg), v9, .string (strOfNums lh), .bool false, .agg #[.int .i64 gk, .int .i64 ge, .int .i64 gw, .int .i64 gn, .int .i64 gq, .string gt, .int .i64 g0, .int .i64 g1, .int .i64 g2, .int .i64 g3, .int .i64 g4, .int .i64 g5, .int .i64 g6, .int .i64 g7, .int .i64 g8, .int .i64 g9, .int .i64 g10, .int .i64 g11], .agg #[.int .i64 hk, .int .i64 he, .int .i64 hw, .int .i64 hn, .int .i64 hq, .string ht, .int .i64 h0, .int .i64 h1, .int .i64 h2, .int .i64 h3, .int .i64 h4, .int .i64 h5, .int .i64 h6, .int .i64 h7, .int .i64 h8, .int .i64 h9, .int .i64 h10, .int .i64 h11], .bool false, .bool true, .bool true, .bool true, .agg #[.int .i64 gk, .int .i64 ge, .int .i64 gw, .int .i64 gn, .int .i64 gq, .string gt, .int .i64 g0, .int .i64 g1, .int .i64 g2, .int .i64 g3, .int .i64 g4, .int .i64 g5, .int .i64 g6, .int .i64 g7, .int .i64 g8, .int .i64 g9, .int .i64 g10, .int .i64 g11], .agg #[.int .i64 hk, .int .i64 he, .int .i64 hw, .int .i64 hn, .int .i64 hq, .string ht, .int .i64 h0, .int .i64 h1, .int .i64 h2, .int .i64 h3, .int .i64 h4, .int .i64 h5, .int .i64 h6, .int .i64 h7, .int .i64 h8, .int .i64 h9, .int .i64 h10, .int .i64 h11], .bool true, .bool true, undef, undef, undef, undef, undef, .bool true, .bool true, .bool true, .agg #[.int .i64 gk, .int .i64 ge, .int .i64 gw, .int .i64 gn, .int .i64 gq, .string gt, .int .i64 g0, .int .i64 g1, .int .i64 g2, .int .i64 g3, .int .i64 g4, .int .i64 g5, .int .i64 g6, .int .i64 g7, .int .i64 g8, .int .i64 g9, .int .i64 g10, .int .i64 g11], .string sg, .bool true, .bool true] : List Value).getD i undef) (by kernel_rfl) (by kernel_rfl) (fun i o obj _ h => by cases h) ?_
    intro ops QT HO HQ
    obtain ⟨ho0, HO⟩ := HO
    refine wpG_val _ (.int .i64 0) ho0.out rfl rfl ?_ ?_
    · refine FY_in rfl fun wx hx => ?_
      go_simp
      all_goals exact ⟨rfl, rfl⟩
    simp only [Act.put, List.setIfInBounds_toArray, List.set_cons_zero, List.set_cons_succ]
    obtain ⟨ho1, HO⟩ := HO
    refine wpG_val _ (.bool true) ho1.out rfl rfl ?_ ?_
    · refine FY_in rfl fun wx hx => ?_
      go_simp
      all_goals exact ⟨rfl, rfl⟩
    simp only [Act.put, List.setIfInBounds_toArray, List.set_cons_zero, List.set_cons_succ]
    obtain ⟨ho2, HO⟩ := HO
    refine wpG_val _ (.bool true) ho2.out rfl rfl ?_ ?_
    · refine FY_in rfl fun wx hx => ?_
      go_simp
      all_goals exact ⟨rfl, rfl⟩
    simp only [Act.put, List.setIfInBounds_toArray, List.set_cons_zero, List.set_cons_succ]
    obtain ⟨ho3, HO⟩ := HO
    refine wpG_val _ (.int .i64 0) ho3.out rfl rfl ?_ ?_
    · refine FY_yes (d := 29) rfl ho2.out (by rfl) (by kernel_rfl) fun wx hx => ?_
      go_simp
      all_goals exact ⟨rfl, rfl⟩
    simp only [Act.put, List.setIfInBounds_toArray, List.set_cons_zero, List.set_cons_succ]
    obtain ⟨ho4, HO⟩ := HO
    refine wpG_val _ (.bool true) ho4.out rfl rfl ?_ ?_
    · refine FY_yes (d := 29) rfl ho2.out (by rfl) (by kernel_rfl) fun wx hx => ?_
      go_simp
      all_goals exact ⟨rfl, rfl⟩
    simp only [Act.put, List.setIfInBounds_toArray, List.set_cons_zero, List.set_cons_succ]
    obtain ⟨ho5, HO⟩ := HO
    refine wpG_val _ (.bool true) ho5.out rfl rfl ?_ ?_
    · refine FY_in rfl fun wx hx => ?_
      go_simp
      all_goals exact ⟨rfl, rfl⟩
    simp only [Act.put, List.setIfInBounds_toArray, List.set_cons_zero, List.set_cons_succ]
    obtain ⟨ho6, HO⟩ := HO
    refine wpG_val _ (.bool true) ho6.out rfl rfl ?_ ?_
    · refine FY_in rfl fun wx hx => ?_
      go_simp
      all_goals exact ⟨rfl, rfl⟩
    simp only [Act.put, List.setIfInBounds_toArray, List.set_cons_zero, List.set_cons_succ]
    obtain ⟨ho7, HO⟩ := HO
    refine wpG_val _ (v7) ho7.out rfl rfl ?_ ?_
    · refine FY_yes (d := 33) rfl ho6.out (by rfl) (by kernel_rfl) fun wx hx => ?_
      go_simp
      all_goals exact ⟨rfl, rfl⟩
    simp only [Act.put, List.setIfInBounds_toArray, List.set_cons_zero, List.set_cons_succ]
    obtain ⟨ho8, HO⟩ := HO
    refine wpG_val _ (.string (strOfNums lg)) ho8.out rfl rfl ?_ ?_
    · refine FY_yes (d := 33) rfl ho6.out (by rfl) (by kernel_rfl) fun wx hx => ?_
      have hs := run_str (P := Tryd.prog) 29 9 5 Tryd.underlying29 Tryd.underlying9 Tryd.underlying5 (R8.out wx hx)
      go_simp
      all_goals exact ⟨rfl, rfl⟩
    simp only [Act.put, List.setIfInBounds_toArray, List.set_cons_zero, List.set_cons_succ]
    obtain ⟨ho9, HO⟩ := HO
    refine wpG_val _ (v9) ho9.out rfl rfl ?_ ?_
    · refine FY_yes (d := 33) rfl ho6.out (by rfl) (by kernel_rfl) fun wx hx => ?_
      go_simp
      all_goals exact ⟨rfl, rfl⟩
    simp only [Act.put, List.setIfInBounds_toArray, List.set_cons_zero, List.set_cons_succ]
    obtain ⟨ho10, HO⟩ := HO
    refine wpG_val _ (.string (strOfNums lh)) ho10.out rfl rfl ?_ ?_
    · refine FY_yes (d := 33) rfl ho6.out (by rfl) (by kernel_rfl) fun wx hx => ?_
      have hs := run_str (P := Tryd.prog) 29 9 5 Tryd.underlying29 Tryd.underlying9 Tryd.underlying5 (R9.out wx hx)
      go_simp
      all_goals exact ⟨rfl, rfl⟩
    simp only [Act.put, List.setIfInBounds_toArray, List.set_cons_zero, List.set_cons_succ]
    obtain ⟨ho11, HO⟩ := HO
    refine wpG_val _ (.bool false) ho11.out rfl rfl ?_ ?_
    · refine FY_yes (d := 33) rfl ho6.out (by rfl) (by kernel_rfl) fun wx hx => ?_
      have hse := HSE.out
      go_simp
      all_goals exact ⟨rfl, rfl⟩
    simp only [Act.put, List.setIfInBounds_toArray, List.set_cons_zero, List.set_cons_succ]
    obtain ⟨ho12, HO⟩ := HO
    refine wpG_val _ (.agg #[.int .i64 gk, .int .i64 ge, .int .i64 gw, .int .i64 gn, .int .i64 gq, .string gt, .int .i64 g0, .int .i64 g1, .int .i64 g2, .int .i64 g3, .int .i64 g4, .int .i64 g5, .int .i64 g6, .int .i64 g7, .int .i64 g8, .int .i64 g9, .int .i64 g10, .int .i64 g11]) ho12.out rfl rfl ?_ ?_
    · refine FY_yes (d := 33) rfl ho6.out (by rfl) (by kernel_rfl) fun wx hx => ?_
      exact fu_load_row_g 26 (.tmp 5) rfl c (by kernel_rfl) _ _ _ _ (hx.heap C6.out (fun h => h)) Tryd.underlying26 rfl (by kernel_rfl)
    simp only [Act.put, List.setIfInBounds_toArray, List.set_cons_zero, List.set_cons_succ]
    obtain ⟨ho13, HO⟩ := HO
    refine wpG_val _ (.agg #[.int .i64 hk, .int .i64 he, .int .i64 hw, .int .i64 hn, .int .i64 hq, .string ht, .int .i64 h0, .int .i64 h1, .int .i64 h2, .int .i64 h3, .int .i64 h4, .int .i64 h5, .int .i64 h6, .int .i64 h7, .int .i64 h8, .int .i64 h9, .int .i64 h10, .int .i64 h11]) ho13.out rfl rfl ?_ ?_
    · refine FY_yes (d := 33) rfl ho6.out (by rfl) (by kernel_rfl) fun wx hx => ?_
      exact fu_load_row_g 26 (.tmp 6) rfl d (by kernel_rfl) _ _ _ _ (hx.heap D6.out (fun h => h)) Tryd.underlying26 rfl (by kernel_rfl)
    simp only [Act.put, List.setIfInBounds_toArray, List.set_cons_zero, List.set_cons_succ]
    obtain ⟨ho14, HO⟩ := HO
    refine wpG_val _ (.bool false) ho14.out rfl rfl ?_ ?_
    · refine FY_yes (d := 33) rfl ho6.out (by rfl) (by kernel_rfl) fun wx hx => ?_
      have hrq := HRQ.out
      go_simp
      all_goals exact ⟨rfl, rfl⟩
    simp only [Act.put, List.setIfInBounds_toArray, List.set_cons_zero, List.set_cons_succ]
    obtain ⟨ho15, HO⟩ := HO
    refine wpG_val _ (.bool true) ho15.out rfl rfl ?_ ?_
    · refine FY_yes (d := 33) rfl ho6.out (by rfl) (by kernel_rfl) fun wx hx => ?_
      go_simp
      all_goals exact ⟨rfl, rfl⟩
    simp only [Act.put, List.setIfInBounds_toArray, List.set_cons_zero, List.set_cons_succ]
    obtain ⟨ho16, HO⟩ := HO
    refine wpG_val _ (.bool true) ho16.out rfl rfl ?_ ?_
    · refine FY_in rfl fun wx hx => ?_
      go_simp
      all_goals exact ⟨rfl, rfl⟩
    simp only [Act.put, List.setIfInBounds_toArray, List.set_cons_zero, List.set_cons_succ]
    obtain ⟨ho17, HO⟩ := HO
    refine wpG_val _ (.bool true) ho17.out rfl rfl ?_ ?_
    · refine FY_in rfl fun wx hx => ?_
      go_simp
      all_goals exact ⟨rfl, rfl⟩
    simp only [Act.put, List.setIfInBounds_toArray, List.set_cons_zero, List.set_cons_succ]
    obtain ⟨ho18, HO⟩ := HO
    refine wpG_val _ (.agg #[.int .i64 gk, .int .i64 ge, .int .i64 gw, .int .i64 gn, .int .i64 gq, .string gt, .int .i64 g0, .int .i64 g1, .int .i64 g2, .int .i64 g3, .int .i64 g4, .int .i64 g5, .int .i64 g6, .int .i64 g7, .int .i64 g8, .int .i64 g9, .int .i64 g10, .int .i64 g11]) ho18.out rfl rfl ?_ ?_
    · refine FY_yes (d := 44) rfl ho17.out (by rfl) (by kernel_rfl) fun wx hx => ?_
      exact fu_load_row_g 26 (.tmp 5) rfl c (by kernel_rfl) _ _ _ _ (hx.heap C6.out (fun h => h)) Tryd.underlying26 rfl (by kernel_rfl)
    simp only [Act.put, List.setIfInBounds_toArray, List.set_cons_zero, List.set_cons_succ]
    obtain ⟨ho19, HO⟩ := HO
    refine wpG_val _ (.agg #[.int .i64 hk, .int .i64 he, .int .i64 hw, .int .i64 hn, .int .i64 hq, .string ht, .int .i64 h0, .int .i64 h1, .int .i64 h2, .int .i64 h3, .int .i64 h4, .int .i64 h5, .int .i64 h6, .int .i64 h7, .int .i64 h8, .int .i64 h9, .int .i64 h10, .int .i64 h11]) ho19.out rfl rfl ?_ ?_
    · refine FY_yes (d := 44) rfl ho17.out (by rfl) (by kernel_rfl) fun wx hx => ?_
      exact fu_load_row_g 26 (.tmp 6) rfl d (by kernel_rfl) _ _ _ _ (hx.heap D6.out (fun h => h)) Tryd.underlying26 rfl (by kernel_rfl)
    simp only [Act.put, List.setIfInBounds_toArray, List.set_cons_zero, List.set_cons_succ]
    obtain ⟨ho20, HO⟩ := HO
    refine wpG_val _ (.bool true) ho20.out rfl rfl ?_ ?_
    · refine FY_yes (d := 44) rfl ho17.out (by rfl) (by kernel_rfl) fun wx hx => ?_
      have hrq := HRQ.out
      go_simp
      all_goals exact ⟨rfl, rfl⟩
    simp only [Act.put, List.setIfInBounds_toArray, List.set_cons_zero, List.set_cons_succ]
    obtain ⟨ho21, HO⟩ := HO
    refine wpG_val _ (.bool true) ho21.out rfl rfl ?_ ?_
    · refine FY_yes (d := 44) rfl ho17.out (by rfl) (by kernel_rfl) fun wx hx => ?_
      go_simp
      all_goals exact ⟨rfl, rfl⟩
    simp only [Act.put, List.setIfInBounds_toArray, List.set_cons_zero, List.set_cons_succ]
    obtain ⟨ho22, HO⟩ := HO
    refine wpG_val _ (undef) ho22.out rfl rfl ?_ ?_
    · exact FY_no (d := 48) rfl ho21.out (by rfl) (by kernel_rfl)
    simp only [Act.put, List.setIfInBounds_toArray, List.set_cons_zero, List.set_cons_succ]
    obtain ⟨ho23, HO⟩ := HO
    refine wpG_val _ (undef) ho23.out rfl rfl ?_ ?_
    · exact FY_no (d := 48) rfl ho21.out (by rfl) (by kernel_rfl)
    simp only [Act.put, List.setIfInBounds_toArray, List.set_cons_zero, List.set_cons_succ]
    obtain ⟨ho24, HO⟩ := HO
    refine wpG_val _ (undef) ho24.out rfl rfl ?_ ?_
    · exact FY_no (d := 48) rfl ho21.out (by rfl) (by kernel_rfl)
    simp only [Act.put, List.setIfInBounds_toArray, List.set_cons_zero, List.set_cons_succ]
    obtain ⟨ho25, HO⟩ := HO
    refine wpG_val _ (undef) ho25.out rfl rfl ?_ ?_
    · exact FY_no (d := 48) rfl ho21.out (by rfl) (by kernel_rfl)
    simp only [Act.put, List.setIfInBounds_toArray, List.set_cons_zero, List.set_cons_succ]
    obtain ⟨ho26, HO⟩ := HO
    refine wpG_val _ (undef) ho26.out rfl rfl ?_ ?_
    · exact FY_no (d := 48) rfl ho21.out (by rfl) (by kernel_rfl)
    simp only [Act.put, List.setIfInBounds_toArray, List.set_cons_zero, List.set_cons_succ]
    obtain ⟨ho27, HO⟩ := HO
    refine wpG_val _ (.bool true) ho27.out rfl rfl ?_ ?_
    · refine FY_yes (d := 44) rfl ho17.out (by rfl) (by kernel_rfl) fun wx hx => ?_
      go_simp
      all_goals exact ⟨rfl, rfl⟩
    simp only [Act.put, List.setIfInBounds_toArray, List.set_cons_zero, List.set_cons_succ]
    obtain ⟨ho28, HO⟩ := HO
    refine wpG_val _ (.bool true) ho28.out rfl rfl ?_ ?_
    · refine FY_in rfl fun wx hx => ?_
      go_simp
      all_goals exact ⟨rfl, rfl⟩
    simp only [Act.put, List.setIfInBounds_toArray, List.set_cons_zero, List.set_cons_succ]
    obtain ⟨ho29, HO⟩ := HO
    refine wpG_val _ (.bool true) ho29.out rfl rfl ?_ ?_
    · refine FY_in rfl fun wx hx => ?_
      go_simp
      all_goals exact ⟨rfl, rfl⟩
    simp only [Act.put, List.setIfInBounds_toArray, List.set_cons_zero, List.set_cons_succ]
    obtain ⟨ho30, HO⟩ := HO
    refine wpG_val _ (.agg #[.int .i64 gk, .int .i64 ge, .int .i64 gw, .int .i64 gn, .int .i64 gq, .string gt, .int .i64 g0, .int .i64 g1, .int .i64 g2, .int .i64 g3, .int .i64 g4, .int .i64 g5, .int .i64 g6, .int .i64 g7, .int .i64 g8, .int .i64 g9, .int .i64 g10, .int .i64 g11]) ho30.out rfl rfl ?_ ?_
    · refine FY_yes (d := 56) rfl ho29.out (by rfl) (by kernel_rfl) fun wx hx => ?_
      exact fu_load_row_g 26 (.tmp 5) rfl c (by kernel_rfl) _ _ _ _ (hx.heap C6.out (fun h => h)) Tryd.underlying26 rfl (by kernel_rfl)
    simp only [Act.put, List.setIfInBounds_toArray, List.set_cons_zero, List.set_cons_succ]
    obtain ⟨ho31, HO⟩ := HO
    refine wpG_val _ (.string sg) ho31.out rfl rfl ?_ ?_
    · refine FY_yes (d := 56) rfl ho29.out (by rfl) (by kernel_rfl) fun wx hx => ?_
      go_simp
      exact ⟨rfl, (rwords_calls ⟨gk, ge, gw, gn, gq, gt, ⟨g0, g1, g2, g3, g4, g5, g6, g7, g8, g9, g10, g11⟩⟩ wx (HTX.out wx hx) (right_fine HRG.out)).mono fun e w' h => ⟨by rw [h.1, HSG.out], h.2⟩⟩
    simp only [Act.put, List.setIfInBounds_toArray, List.set_cons_zero, List.set_cons_succ]
    obtain ⟨ho32, HO⟩ := HO
    refine wpG_val _ (.bool true) ho32.out rfl rfl ?_ ?_
    · refine FY_yes (d := 56) rfl ho29.out (by rfl) (by kernel_rfl) fun wx hx => ?_
      have hsn := HSN.out
      go_simp
      all_goals exact ⟨rfl, rfl⟩
    simp only [Act.put, List.setIfInBounds_toArray, List.set_cons_zero, List.set_cons_succ]
    obtain ⟨ho33, HO⟩ := HO
    refine wpG_val _ (.bool true) ho33.out rfl rfl ?_ ?_
    · refine FY_in rfl fun wx hx => ?_
      go_simp
      all_goals exact ⟨rfl, rfl⟩
    simp only [Act.put, List.setIfInBounds_toArray, List.set_cons_zero, List.set_cons_succ]
    refine HQ.out _ _ ?_
    intro w7 hf _ _
    have F7 := hid (F6.out.then0 hf)
    clear hf
    simp only [List.drop_succ_cons, List.drop_zero]
    go_wp2_with fail
    go_ret
    exact ⟨rfl, F7.out.below⟩
end Go.Proofs.YtinbidmgllmglaaDoor
