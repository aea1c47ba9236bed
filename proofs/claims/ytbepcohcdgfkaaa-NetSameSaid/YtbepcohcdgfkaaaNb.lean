/- NetSame's walk. No condition. -/
import Derived.Test.YtbepcohcdgfkaaaNa
import Derived.Deep.RegionHeld3
namespace Go.Proofs.Ytbepcohcdgfkaaa
set_option linter.unusedVariables false
set_option linter.unusedSimpArgs false
open Go.RowKit Go.Conc
attribute [-go_sem] run_min_int2
attribute [local go_sem] run_min2

theorem kk_ok (x : Int) : ∃ k : Nat, wrap64 ((IntKind.u64.wrap x).tmod 1000) = (k : Int) ∧ k < 1000 := by
  have h : IntKind.u64.wrap x = x % 18446744073709551616 := by simp [IntKind.wrap, IntKind.bits, IntKind.signed]
  rw [h, Int.tmod_eq_emod_of_nonneg (by omega)]
  refine ⟨(x % 18446744073709551616 % 1000).toNat, ?_, by omega⟩
  unfold wrap64
  omega

set_option maxRecDepth 20000 in
set_option maxHeartbeats 1000000 in
theorem netSame_walk (W : World) (v : Value) (l : List Mg) (hr : Rd W 6 v l.length (msgs l)) (_ok : ∀ m ∈ l, m.ok) (x : Int) (_wx : (Lit.int .i64 x).wf = true) :
    Calls Try.prog 4 #[v, .int .i64 x] W fun e w' => e = .returned (.bool true) ∧ Below W.heap.size W w' := by
  obtain ⟨a, c, rfl, hab⟩ := hr.shapeN
  obtain ⟨_, hc1, hc2⟩ := hr.cap
  have HR := hid hr
  have HAB := hid hab
  clear hr hab _ok _wx
  go_enter Try.func4, Try.ntmps4
  go_wp2_with fail
  refine (lives_calls W).mono ?_
  rintro e w1 ⟨rfl, hf1⟩
  have HF1 := hid hf1
  clear hf1
  go_upto_region 3 with fail
  go_cut [0] (fun s0 wx => ∃ (L : List Mg), L.length ≤ 20 ∧ Hid (Rd W 6 s0 L.length (msgs L)) ∧ Hid (w1 = wx))
  case first =>
    by_cases h2 : l.length ≤ 20
    · have e : min (l.length : Int) 20 = (l.length : Int) := by omega
      go_wp2_with fail
      go_meet
      exact ⟨l, h2, HR, hid rfl⟩
    · have e : min (l.length : Int) 20 = 20 := by omega
      obtain ⟨b, o, rfl⟩ := HAB.out (by omega)
      have e2 : 20 ≤ c := by omega
      go_wp2_with fail
      go_meet
      exact ⟨l.take 20, by rw [List.length_take]; omega, hid (HR.out.take6 20 (by omega)), hid rfl⟩
  case rest =>
    obtain ⟨L, hL, HR', HW⟩ := hcut
    obtain rfl := HW.out
    clear HR HAB hc1 hc2 HW
    obtain ⟨a', c', rfl, hab⟩ := HR'.out.shapeN
    have HAB := hid hab
    clear hab
    by_cases h0 : L.length = 0
    · have e0 : ((L.length : Int) == 0) = true := by rw [h0]; rfl
      clear h0
      go_wp2_with fail
      go_ret
      exact ⟨rfl, HF1.out.below⟩
    have e0 : ((L.length : Int) == 0) = false := by rw [beq_eq_false_iff_ne]; omega
    go_wp2_with fail
    refine (new_calls 64 w1).mono ?_
    rintro e w2 ⟨rfl, hn2, hf2⟩
    rw [roomOf_64] at hn2
    have HN2 := hid hn2
    have HF2 := hid hf2
    clear hn2 hf2
    go_wp2_with fail
    refine (new_calls 64 w2).mono ?_
    rintro e w3 ⟨rfl, hn3, hf3⟩
    rw [roomOf_64] at hn3
    have HN3 := hid hn3
    have HF3 := hid hf3
    clear hn3 hf3
    go_wp2_with fail
    refine (new_calls 64 w3).mono ?_
    rintro e w4 ⟨rfl, hn4, hf4⟩
    rw [roomOf_64] at hn4
    have hz1 := HF1.out.size
    have hl2 := HN2.out.lt
    have hl3 := HN3.out.lt
    have HT : Hid (T3 (fun b => W.heap.size ≤ b) w4 (w1.heap.size + 1) w1.heap.size (w2.heap.size + 1) w2.heap.size (w3.heap.size + 1) w3.heap.size (sentN []) (sentN []) (sentN [])) := by
      refine hid ⟨none, none, none, HN2.out.frm (HF3.out.then0 hf4) (fun _ _ h => h), HN3.out.frm hf4 (fun _ _ h => h), hn4, ?_, ?_, ?_, ?_, ?_, ?_⟩
      · intro k x y; have := hl2 k x; rcases y with y | y | y
        · omega
        · omega
        · cases y
      · intro k x y; have := hl3 k x; rcases y with y | y | y
        · omega
        · omega
        · cases y
      · intro k x y; have := hl2 k x; have := HF3.out.size; rcases y with y | y | y
        · omega
        · omega
        · cases y
      · intro k y; rcases y with y | y | y
        · omega
        · omega
        · cases y
      · intro k y; have := HF2.out.size; rcases y with y | y | y
        · omega
        · omega
        · cases y
      · intro k y; have := HF2.out.size; have := HF3.out.size; rcases y with y | y | y
        · omega
        · omega
        · cases y
    have HF4 := hid (HF1.out.then0 (HF2.out.then0 (HF3.out.then0 hf4)))
    clear HN2 HN3 hn4 hf4 hl2 hl3 HF1 HF2 HF3 hz1
    obtain ⟨n1, e1⟩ : ∃ n, n = w1.heap.size + 1 := ⟨_, rfl⟩
    obtain ⟨n2, e2⟩ : ∃ n, n = w2.heap.size + 1 := ⟨_, rfl⟩
    obtain ⟨n3, e3⟩ : ∃ n, n = w3.heap.size + 1 := ⟨_, rfl⟩
    obtain ⟨c1, e4⟩ : ∃ n, n = w1.heap.size := ⟨_, rfl⟩
    obtain ⟨c2, e5⟩ : ∃ n, n = w2.heap.size := ⟨_, rfl⟩
    obtain ⟨c3, e6⟩ : ∃ n, n = w3.heap.size := ⟨_, rfl⟩
    rw [← e1, ← e2, ← e3, ← e4, ← e5, ← e6] at HT
    rw [← e1, ← e2, ← e3]
    clear e1 e2 e3 e4 e5 e6
    go_wp2_with fail
    go_loopw [8, 9] (fun i8 _s9 wr => ∃ k : Nat, k ≤ L.length ∧ i8 = .int .i64 k ∧ Hid (T3 (fun b => W.heap.size ≤ b) wr n1 c1 n2 c2 n3 c3 (sentN (L.take k)) (sentN (L.take k)) (sentN (L.take k))) ∧ Hid (Frm M0 W wr)) (fun i _ _ => L.length - (intOf i).toNat)
    case atStart => exact ⟨0, Nat.zero_le _, rfl, HT, HF4⟩
    case round =>
      clear HT HF4
      obtain ⟨k, hk, rfl, HT, HF⟩ := hrel
      by_cases hlt : k < L.length
      · obtain ⟨b, o, rfl⟩ := HAB.out (by omega)
        obtain ⟨m, HM, m0, m1, m2, m3, m4, m5⟩ := (HR'.out.frm0 HF.out).msgAt k hlt
        have hlt' : (k : Int) < L.length := by omega
        have hG := good_calls m
        obtain ⟨g, hg⟩ : ∃ g, g = m.good := ⟨_, rfl⟩
        have HGE := hid hg
        rw [← hg] at hG
        obtain ⟨gk, ge, gs, gu, gv, gt⟩ := g
        have HG : Hid (∀ wz, Calls Try.prog 12 #[.agg #[.int .i64 m.k, .int .i64 m.e, .int .i64 m.s, .int .i64 m.u, .int .i64 m.v, .int .i64 m.t]] wz fun r w' => r = .returned (.agg #[.int .i64 gk, .int .i64 ge, .int .i64 gs, .int .i64 gu, .int .i64 gv, .int .i64 gt]) ∧ Frm M0 wz w') := hid hG
        clear hG hg
        go_wp2_with fail
        refine (HG.out _).mono ?_
        rintro r w5 ⟨rfl, hf5⟩
        have hbx : (w5.alloc (.cells #[.int .i64 gk, .int .i64 ge, .int .i64 gs, .int .i64 gu, .int .i64 gv, .int .i64 gt] 29)).heap[w5.heap.size]? = some (.cells #[.int .i64 gk, .int .i64 ge, .int .i64 gs, .int .i64 gu, .int .i64 gv, .int .i64 gt] 29 (0, 0)) := heap_alloc_new w5 _
        have HF5 := hid ((HF.out.then0 hf5).alloc (.cells #[.int .i64 gk, .int .i64 ge, .int .i64 gs, .int .i64 gu, .int .i64 gv, .int .i64 gt] 29))
        have HT5 := hid ((HT.out.frm hf5).more (P' := fun b => W.heap.size ≤ b ∧ b ≠ w5.heap.size) (fun b hb h => ⟨h, by omega⟩) |>.frm ((Frm.refl M0 _).alloc (.cells #[.int .i64 gk, .int .i64 ge, .int .i64 gs, .int .i64 gu, .int .i64 gv, .int .i64 gt] 29)))
        have hz := HF5.out.size
        have hzb := (Array.getElem?_eq_some_iff.1 hbx).1
        go_upto_region 12 with fail
        obtain ⟨w6, hw6⟩ : ∃ w6, w6 = w5.alloc (.cells #[.int .i64 gk, .int .i64 ge, .int .i64 gs, .int .i64 gu, .int .i64 gv, .int .i64 gt] 29) := ⟨_, rfl⟩
        rw [← hw6] at HF5 HT5 hbx hz hzb ⊢
        obtain ⟨bb, hbb⟩ : ∃ bb, bb = w5.heap.size := ⟨_, rfl⟩
        rw [← hbb] at hbx hzb HT5 ⊢
        have hWb : W.heap.size ≤ bb := by rw [hbb]; exact (HF.out.then0 hf5).size
        clear hw6 hbb
        have hcs : w6.cell? ⟨bb, 0, none⟩ = some (.int .i64 gk) ∧ w6.cell? ⟨bb, 1, none⟩ = some (.int .i64 ge) ∧ w6.cell? ⟨bb, 2, none⟩ = some (.int .i64 gs) ∧ w6.cell? ⟨bb, 3, none⟩ = some (.int .i64 gu) ∧ w6.cell? ⟨bb, 4, none⟩ = some (.int .i64 gv) ∧ w6.cell? ⟨bb, 5, none⟩ = some (.int .i64 gt) := ⟨cell_at hbx 0, cell_at hbx 1, cell_at hbx 2, cell_at hbx 3, cell_at hbx 4, cell_at hbx 5⟩
        have hrg : (⟨gk, ge, gs, gu, gv, gt⟩ : Mg).val = .agg #[.int .i64 gk, .int .i64 ge, .int .i64 gs, .int .i64 gu, .int .i64 gv, .int .i64 gt] := rfl
        have HS : Hid (∀ wz A, A = sentN (L.take k) → ∀ nb cc vb, NetR wz nb cc vb A → Calls Try.prog 11 #[pn nb, .agg #[.int .i64 gk, .int .i64 ge, .int .i64 gs, .int .i64 gu, .int .i64 gv, .int .i64 gt]] wz fun r w' => r = .returned (.int .i64 0) ∧ Turned wz w' nb cc vb (sentN (L.take (k + 1)))) := by
          refine hid fun wz A e nb cc vb hn => ?_
          subst e
          have hs := send_calls nb cc vb _ m.good wz hn
          rw [sentN_send _ _ (by rw [List.length_take]; omega), ← HGE.out, ← take_snoc HM.out] at hs
          exact hs
        have HBX := hid hbx
        clear hbx m0 m1 m2 m3 m4 m5 hrg
        go_wp2_with fail
        refine (HT5.out.turn (fun g hg => ⟨by omega, by omega⟩) (fun v hv => HS.out _ _ rfl _ _ _ hv)).mono ?_
        rintro r w7 ⟨rfl, ht7, hf7⟩
        have hz7 := hf7.size
        have hbx7 := hf7.heap HBX.out (by simp)
        have hcs7 : w7.cell? ⟨bb, 0, none⟩ = some (.int .i64 gk) ∧ w7.cell? ⟨bb, 1, none⟩ = some (.int .i64 ge) ∧ w7.cell? ⟨bb, 2, none⟩ = some (.int .i64 gs) ∧ w7.cell? ⟨bb, 3, none⟩ = some (.int .i64 gu) ∧ w7.cell? ⟨bb, 4, none⟩ = some (.int .i64 gv) ∧ w7.cell? ⟨bb, 5, none⟩ = some (.int .i64 gt) := ⟨cell_at hbx7 0, cell_at hbx7 1, cell_at hbx7 2, cell_at hbx7 3, cell_at hbx7 4, cell_at hbx7 5⟩
        have HBX7 := hid hbx7
        have HT7 := hid ht7.rot
        have HF7 := hid hf7
        clear hcs hbx7 ht7 hf7
        go_wp2_with fail
        refine (HT7.out.turn (fun g hg => ⟨by omega, by omega⟩) (fun v hv => HS.out _ _ rfl _ _ _ hv)).mono ?_
        rintro r w8 ⟨rfl, ht8, hf8⟩
        have hz8 := hf8.size
        have hbx8 := hf8.heap HBX7.out (by simp)
        have hcs8 : w8.cell? ⟨bb, 0, none⟩ = some (.int .i64 gk) ∧ w8.cell? ⟨bb, 1, none⟩ = some (.int .i64 ge) ∧ w8.cell? ⟨bb, 2, none⟩ = some (.int .i64 gs) ∧ w8.cell? ⟨bb, 3, none⟩ = some (.int .i64 gu) ∧ w8.cell? ⟨bb, 4, none⟩ = some (.int .i64 gv) ∧ w8.cell? ⟨bb, 5, none⟩ = some (.int .i64 gt) := ⟨cell_at hbx8 0, cell_at hbx8 1, cell_at hbx8 2, cell_at hbx8 3, cell_at hbx8 4, cell_at hbx8 5⟩
        have HT8 := hid ht8.rot
        have HF8 := hid (HF7.out.same hf8)
        clear hcs7 hbx8 ht8 hf8
        go_wp2_with fail
        refine (HT8.out.turn (fun g hg => ⟨by omega, by omega⟩) (fun v hv => HS.out _ _ rfl _ _ _ hv)).mono ?_
        rintro r w9 ⟨rfl, ht9, hf9⟩
        have HT9 := hid (ht9.rot.more (P' := fun b => W.heap.size ≤ b) (fun _ _ h => h.1))
        have HF9 := hid (HF5.out.trans (HF8.out.same hf9) (fun b hb h => absurd h.1 (by omega)))
        clear hcs8 hz7 hz8 ht9 hf9
        go_wp2_with fail
        exact ⟨⟨k + 1, by omega, by go_num, HT9, HF9⟩, by simp [intOf]; omega⟩
      · obtain rfl : k = L.length := by omega
        clear hk hlt
        rw [List.take_length] at HT
        obtain ⟨b, o, rfl⟩ := HAB.out (by omega)
        obtain ⟨j, hj, hj2⟩ := kk_ok x
        have HJ := hid hj
        clear hj
        go_upto_region 16 with fail
        rw [HJ.out]
        obtain ⟨p1, p2, p3⟩ := pl_same j L.length (by omega)
        have hjl : j % L.length < L.length := Nat.mod_lt _ (by omega)
        obtain ⟨q, hq⟩ : ∃ q, q = j % L.length := ⟨_, rfl⟩
        have eq1 : (j : Int) % (L.length : Int) = (q : Int) := by rw [hq]; exact (Int.natCast_emod j L.length).symm
        have eq2 : (j : Int).tmod (L.length : Int) = (q : Int) := by rw [hq]; exact (Int.ofNat_tmod j L.length).symm
        rw [← hq] at p1 p2 p3 hjl
        clear hq
        have EQ1 := hid eq1
        have EQ2 := hid eq2
        clear eq1 eq2
        obtain ⟨m, HM, m0, m1, m2, m3, m4, m5⟩ := (HR'.out.frm0 HF.out).msgAt q hjl
        obtain ⟨N1, t1⟩ := take_at L _ _ m p1 HM.out
        obtain ⟨N2, t2⟩ := take_at L _ _ m p2 HM.out
        obtain ⟨N3, t3⟩ := take_at L _ _ m p3 HM.out
        have hG := good_calls m
        obtain ⟨g, hg⟩ : ∃ g, g = m.good := ⟨_, rfl⟩
        rw [← hg] at hG t1 t2 t3
        obtain ⟨gk, ge, gs, gu, gv, gt⟩ := g
        have HG : Hid (∀ wz, Calls Try.prog 12 #[.agg #[.int .i64 m.k, .int .i64 m.e, .int .i64 m.s, .int .i64 m.u, .int .i64 m.v, .int .i64 m.t]] wz fun r w' => r = .returned (.agg #[.int .i64 gk, .int .i64 ge, .int .i64 gs, .int .i64 gu, .int .i64 gv, .int .i64 gt]) ∧ Frm M0 wz w') := hid hG
        have HT1 : Hid (∀ wz nb cc vb, NetR wz nb cc vb (sentN L) → Calls Try.prog 13 #[pn nb, .int .i64 (j : Int)] wz fun r w' => r = .returned (.tuple #[.agg #[.int .i64 gk, .int .i64 ge, .int .i64 gs, .int .i64 gu, .int .i64 gv, .int .i64 gt], .bool true]) ∧ Turned wz w' nb cc vb N1) := by
          refine hid fun wz nb cc vb hn => ?_
          have hs := take_calls nb cc vb _ (j : Int) (by go_wf) wz hn
          rw [t1] at hs
          exact hs
        have HT2 : Hid (∀ wz nb cc vb, NetR wz nb cc vb (sentN L) → Calls Try.prog 13 #[pn nb, .int .i64 ((j : Int) + L.length)] wz fun r w' => r = .returned (.tuple #[.agg #[.int .i64 gk, .int .i64 ge, .int .i64 gs, .int .i64 gu, .int .i64 gv, .int .i64 gt], .bool true]) ∧ Turned wz w' nb cc vb N2) := by
          refine hid fun wz nb cc vb hn => ?_
          have hs := take_calls nb cc vb _ ((j : Int) + L.length) (by go_wf) wz hn
          rw [t2] at hs
          exact hs
        have HT3 : Hid (∀ wz nb cc vb, NetR wz nb cc vb (sentN L) → Calls Try.prog 13 #[pn nb, .int .i64 (-(j : Int) - 1)] wz fun r w' => r = .returned (.tuple #[.agg #[.int .i64 gk, .int .i64 ge, .int .i64 gs, .int .i64 gu, .int .i64 gv, .int .i64 gt], .bool true]) ∧ Turned wz w' nb cc vb N3) := by
          refine hid fun wz nb cc vb hn => ?_
          have hs := take_calls nb cc vb _ (-(j : Int) - 1) (by go_wf) wz hn
          rw [t3] at hs
          exact hs
        clear t1 t2 t3 hG hg p1 p2 p3 m0 m1 m2 m3 m4 m5
        have hz := HF.out.size
        go_wp2_with fail
        refine (HT.out.turn (fun g hg => by omega) (fun v hv => HT1.out _ _ _ _ hv)).mono ?_
        rintro r w5 ⟨rfl, ht5, hf5⟩
        have HF5 := hid ((HF.out.trans hf5 (fun b hb h => absurd h (by omega))).alloc (.cells #[.int .i64 gk, .int .i64 ge, .int .i64 gs, .int .i64 gu, .int .i64 gv, .int .i64 gt] 29))
        have HT5 := hid ((ht5.rot.more (P' := fun b => W.heap.size ≤ b ∧ b ≠ w5.heap.size) (fun b hb h => ⟨h, by omega⟩)).frm ((Frm.refl M0 _).alloc (.cells #[.int .i64 gk, .int .i64 ge, .int .i64 gs, .int .i64 gu, .int .i64 gv, .int .i64 gt] 29)))
        have hbx : (w5.alloc (.cells #[.int .i64 gk, .int .i64 ge, .int .i64 gs, .int .i64 gu, .int .i64 gv, .int .i64 gt] 29)).heap[w5.heap.size]? = some (.cells #[.int .i64 gk, .int .i64 ge, .int .i64 gs, .int .i64 gu, .int .i64 gv, .int .i64 gt] 29 (0, 0)) := heap_alloc_new w5 _
        have hz5 := hf5.size
        go_upto_region 17 with fail
        obtain ⟨w6, hw6⟩ : ∃ w6, w6 = w5.alloc (.cells #[.int .i64 gk, .int .i64 ge, .int .i64 gs, .int .i64 gu, .int .i64 gv, .int .i64 gt] 29) := ⟨_, rfl⟩
        rw [← hw6] at HF5 HT5 hbx ⊢
        obtain ⟨b1, hb1⟩ : ∃ b1, b1 = w5.heap.size := ⟨_, rfl⟩
        rw [← hb1] at hbx HT5 hz5 ⊢
        have HB1 := hid hbx
        have hl1 : b1 < w6.heap.size := (Array.getElem?_eq_some_iff.1 hbx).1
        clear hw6 hb1 hbx ht5 hf5
        go_wp2_with fail
        refine (HT5.out.turn (fun g hg => ⟨by omega, by omega⟩) (fun v hv => HT2.out _ _ _ _ hv)).mono ?_
        rintro r w7 ⟨rfl, ht7, hf7⟩
        have HF7 := hid ((HF5.out.trans hf7 (fun b hb h => absurd h.1 (by omega))).alloc (.cells #[.int .i64 gk, .int .i64 ge, .int .i64 gs, .int .i64 gu, .int .i64 gv, .int .i64 gt] 29))
        have HT7 := hid ((ht7.rot.more (P' := fun b => W.heap.size ≤ b ∧ b ≠ b1 ∧ b ≠ w7.heap.size) (fun b hb h => ⟨h.1, h.2, by omega⟩)).frm ((Frm.refl M0 _).alloc (.cells #[.int .i64 gk, .int .i64 ge, .int .i64 gs, .int .i64 gu, .int .i64 gv, .int .i64 gt] 29)))
        have hbx : (w7.alloc (.cells #[.int .i64 gk, .int .i64 ge, .int .i64 gs, .int .i64 gu, .int .i64 gv, .int .i64 gt] 29)).heap[w7.heap.size]? = some (.cells #[.int .i64 gk, .int .i64 ge, .int .i64 gs, .int .i64 gu, .int .i64 gv, .int .i64 gt] 29 (0, 0)) := heap_alloc_new w7 _
        have HB1' := hid (((Frm.refl M0 w7).alloc (.cells #[.int .i64 gk, .int .i64 ge, .int .i64 gs, .int .i64 gu, .int .i64 gv, .int .i64 gt] 29)).heap (hf7.heap HB1.out (by simp)) (fun h => h))
        have hz7 := hf7.size
        go_upto_region 18 with fail
        obtain ⟨w8, hw8⟩ : ∃ w8, w8 = w7.alloc (.cells #[.int .i64 gk, .int .i64 ge, .int .i64 gs, .int .i64 gu, .int .i64 gv, .int .i64 gt] 29) := ⟨_, rfl⟩
        rw [← hw8] at HF7 HT7 hbx HB1' ⊢
        obtain ⟨b2, hb2⟩ : ∃ b2, b2 = w7.heap.size := ⟨_, rfl⟩
        rw [← hb2] at hbx HT7 hz7 ⊢
        have HB2 := hid hbx
        have hl2 : b2 < w8.heap.size := (Array.getElem?_eq_some_iff.1 hbx).1
        clear hw8 hb2 hbx ht7 hf7 HB1
        go_wp2_with fail
        refine (HT7.out.turn (fun g hg => ⟨by omega, by omega, by omega⟩) (fun v hv => HT3.out _ _ _ _ hv)).mono ?_
        rintro r w9 ⟨rfl, ht9, hf9⟩
        have HF9 := hid ((HF7.out.trans hf9 (fun b hb h => absurd h.1 (by omega))).alloc (.cells #[.int .i64 gk, .int .i64 ge, .int .i64 gs, .int .i64 gu, .int .i64 gv, .int .i64 gt] 29))
        have hbx : (w9.alloc (.cells #[.int .i64 gk, .int .i64 ge, .int .i64 gs, .int .i64 gu, .int .i64 gv, .int .i64 gt] 29)).heap[w9.heap.size]? = some (.cells #[.int .i64 gk, .int .i64 ge, .int .i64 gs, .int .i64 gu, .int .i64 gv, .int .i64 gt] 29 (0, 0)) := heap_alloc_new w9 _
        have HB1'' := hid (((Frm.refl M0 w9).alloc (.cells #[.int .i64 gk, .int .i64 ge, .int .i64 gs, .int .i64 gu, .int .i64 gv, .int .i64 gt] 29)).heap (hf9.heap HB1'.out (by simp)) (fun h => h))
        have HB2' := hid (((Frm.refl M0 w9).alloc (.cells #[.int .i64 gk, .int .i64 ge, .int .i64 gs, .int .i64 gu, .int .i64 gv, .int .i64 gt] 29)).heap (hf9.heap HB2.out (by simp)) (fun h => h))
        go_upto_region 19 with fail
        obtain ⟨w10, hw10⟩ : ∃ w10, w10 = w9.alloc (.cells #[.int .i64 gk, .int .i64 ge, .int .i64 gs, .int .i64 gu, .int .i64 gv, .int .i64 gt] 29) := ⟨_, rfl⟩
        rw [← hw10] at HF9 HB1'' HB2' hbx ⊢
        obtain ⟨b3, hb3⟩ : ∃ b3, b3 = w9.heap.size := ⟨_, rfl⟩
        rw [← hb3] at hbx ⊢
        have HB3 := hid hbx
        clear hw10 hb3 hbx ht9 hf9 HB1' HB2 HT HT5 HT7 HT1 HT2 HT3 hz5 hz7
        have hSF : Hid (∀ wx, Frm M0 w10 wx → wx.cell? ⟨b1, 0, none⟩ = some (.int .i64 gk) ∧ wx.cell? ⟨b1, 1, none⟩ = some (.int .i64 ge) ∧ wx.cell? ⟨b1, 2, none⟩ = some (.int .i64 gs) ∧ wx.cell? ⟨b1, 3, none⟩ = some (.int .i64 gu) ∧ wx.cell? ⟨b1, 4, none⟩ = some (.int .i64 gv) ∧ wx.cell? ⟨b1, 5, none⟩ = some (.int .i64 gt) ∧ wx.cell? ⟨b2, 0, none⟩ = some (.int .i64 gk) ∧ wx.cell? ⟨b2, 1, none⟩ = some (.int .i64 ge) ∧ wx.cell? ⟨b2, 2, none⟩ = some (.int .i64 gs) ∧ wx.cell? ⟨b2, 3, none⟩ = some (.int .i64 gu) ∧ wx.cell? ⟨b2, 4, none⟩ = some (.int .i64 gv) ∧ wx.cell? ⟨b2, 5, none⟩ = some (.int .i64 gt) ∧ wx.cell? ⟨b3, 0, none⟩ = some (.int .i64 gk) ∧ wx.cell? ⟨b3, 1, none⟩ = some (.int .i64 ge) ∧ wx.cell? ⟨b3, 2, none⟩ = some (.int .i64 gs) ∧ wx.cell? ⟨b3, 3, none⟩ = some (.int .i64 gu) ∧ wx.cell? ⟨b3, 4, none⟩ = some (.int .i64 gv) ∧ wx.cell? ⟨b3, 5, none⟩ = some (.int .i64 gt) ∧ wx.cell? ⟨b, o + q * 6, none⟩ = some (.int .i64 m.k) ∧ wx.cell? ⟨b, o + q * 6 + 1, none⟩ = some (.int .i64 m.e) ∧ wx.cell? ⟨b, o + q * 6 + 2, none⟩ = some (.int .i64 m.s) ∧ wx.cell? ⟨b, o + q * 6 + 3, none⟩ = some (.int .i64 m.u) ∧ wx.cell? ⟨b, o + q * 6 + 4, none⟩ = some (.int .i64 m.v) ∧ wx.cell? ⟨b, o + q * 6 + 5, none⟩ = some (.int .i64 m.t)) := by
          refine hid fun wx hf => ?_
          obtain ⟨m', HM', m0, m1, m2, m3, m4, m5⟩ := (HR'.out.frm0 (HF9.out.then0 hf)).msgAt q hjl
          obtain rfl : m' = m := by have h1 := HM.out; rw [HM'.out] at h1; exact Option.some.inj h1
          exact ⟨hf.cell (cell_at HB1''.out 0) (fun h => h), hf.cell (cell_at HB1''.out 1) (fun h => h), hf.cell (cell_at HB1''.out 2) (fun h => h), hf.cell (cell_at HB1''.out 3) (fun h => h), hf.cell (cell_at HB1''.out 4) (fun h => h), hf.cell (cell_at HB1''.out 5) (fun h => h), hf.cell (cell_at HB2'.out 0) (fun h => h), hf.cell (cell_at HB2'.out 1) (fun h => h), hf.cell (cell_at HB2'.out 2) (fun h => h), hf.cell (cell_at HB2'.out 3) (fun h => h), hf.cell (cell_at HB2'.out 4) (fun h => h), hf.cell (cell_at HB2'.out 5) (fun h => h), hf.cell (cell_at HB3.out 0) (fun h => h), hf.cell (cell_at HB3.out 1) (fun h => h), hf.cell (cell_at HB3.out 2) (fun h => h), hf.cell (cell_at HB3.out 3) (fun h => h), hf.cell (cell_at HB3.out 4) (fun h => h), hf.cell (cell_at HB3.out 5) (fun h => h), m0, m1, m2, m3, m4, m5⟩
        have hS := hSF.out _ (Frm.refl _ _).drew
        have eq1 := EQ1.out
        have eq2 := EQ2.out
        have ejl : (q : Int) < (L.length : Int) := by omega
        go_cut [4] (fun s4 wx => s4 = .bool true ∧ Hid (Frm M0 W wx))
        case first =>
          go_region_held3 (fun wx => wx.cell? ⟨b1, 0, none⟩ = some (.int .i64 gk) ∧ wx.cell? ⟨b1, 1, none⟩ = some (.int .i64 ge) ∧ wx.cell? ⟨b1, 2, none⟩ = some (.int .i64 gs) ∧ wx.cell? ⟨b1, 3, none⟩ = some (.int .i64 gu) ∧ wx.cell? ⟨b1, 4, none⟩ = some (.int .i64 gv) ∧ wx.cell? ⟨b1, 5, none⟩ = some (.int .i64 gt) ∧ wx.cell? ⟨b2, 0, none⟩ = some (.int .i64 gk) ∧ wx.cell? ⟨b2, 1, none⟩ = some (.int .i64 ge) ∧ wx.cell? ⟨b2, 2, none⟩ = some (.int .i64 gs) ∧ wx.cell? ⟨b2, 3, none⟩ = some (.int .i64 gu) ∧ wx.cell? ⟨b2, 4, none⟩ = some (.int .i64 gv) ∧ wx.cell? ⟨b2, 5, none⟩ = some (.int .i64 gt) ∧ wx.cell? ⟨b3, 0, none⟩ = some (.int .i64 gk) ∧ wx.cell? ⟨b3, 1, none⟩ = some (.int .i64 ge) ∧ wx.cell? ⟨b3, 2, none⟩ = some (.int .i64 gs) ∧ wx.cell? ⟨b3, 3, none⟩ = some (.int .i64 gu) ∧ wx.cell? ⟨b3, 4, none⟩ = some (.int .i64 gv) ∧ wx.cell? ⟨b3, 5, none⟩ = some (.int .i64 gt) ∧ wx.cell? ⟨b, o + q * 6, none⟩ = some (.int .i64 m.k) ∧ wx.cell? ⟨b, o + q * 6 + 1, none⟩ = some (.int .i64 m.e) ∧ wx.cell? ⟨b, o + q * 6 + 2, none⟩ = some (.int .i64 m.s) ∧ wx.cell? ⟨b, o + q * 6 + 3, none⟩ = some (.int .i64 m.u) ∧ wx.cell? ⟨b, o + q * 6 + 4, none⟩ = some (.int .i64 m.v) ∧ wx.cell? ⟨b, o + q * 6 + 5, none⟩ = some (.int .i64 m.t)) (first | exact hSF.out _ HF11.out | assumption)
            (first | (go_at_call 12; refine (HG.out _).mono ?_; rintro r w11 ⟨rfl, hf11⟩; have HF11 := hid ((Frm.refl M0 w10).drew.then0 hf11); clear hf11))
          all_goals (go_wp2_with fail; go_meet; exact ⟨by first | rfl | simp, hid (HF9.out.then0 HF11.out)⟩)
        case rest =>
          obtain ⟨rfl, HFx⟩ := hcut
          go_wp2_with fail
          go_ret
          exact ⟨rfl, HFx.out.below⟩
end Go.Proofs.Ytbepcohcdgfkaaa
