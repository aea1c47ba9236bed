/- NetRow's walk. No condition. -/
import Derived.Test.YtbepcohcdgfkaaaMs
import Derived.Test.YtbepcohcdgfkaaaNq
import Derived.Deep.RegionHeld3
namespace Go.Proofs.Ytbepcohcdgfkaaa
set_option linter.unusedVariables false
set_option linter.unusedSimpArgs false
open Go.RowKit Go.Conc
attribute [-go_sem] run_min_int2
attribute [local go_sem] run_min2

theorem netRow_take (L : List Mg) (k : Nat) (s x : Int) (m : Mg) (h : L[k]? = some m) :
    (Net.mk 64 ((L.drop k).map Mg.good) s x).take 0 = (⟨64, (L.drop (k + 1)).map Mg.good, s, x⟩, m.good, true) := by
  obtain ⟨hk, rfl⟩ := List.getElem?_eq_some_iff.1 h
  rw [List.drop_eq_getElem_cons hk, List.map_cons]
  unfold Net.take
  rw [if_neg (by simp)]
  have h0 : ∀ n : Nat, (pl 0 n).toNat = 0 := by intro n; simp [pl]
  simp only [h0]
  rfl
theorem netRow_end (s x : Int) : (Net.mk 64 [] s x).take 0 = (⟨64, [], s, x⟩, Mg.zero, false) := rfl

set_option maxRecDepth 20000 in
set_option maxHeartbeats 1000000 in
theorem netRow_walk (W : World) (v : Value) (l : List Mg) (hr : Rd W 6 v l.length (msgs l)) (_ok : ∀ m ∈ l, m.ok) :
    Calls Try.prog 3 #[v] W fun e w' => e = .returned (.bool true) ∧ Below W.heap.size W w' := by
  obtain ⟨a, c, rfl, hab⟩ := hr.shapeN
  obtain ⟨_, hc1, hc2⟩ := hr.cap
  have HR := hid hr
  have HAB := hid hab
  clear hr hab
  go_enter Try.func3, Try.ntmps3
  go_wp2_with fail
  refine (lives_calls W).mono ?_
  rintro e w1 ⟨rfl, hf1⟩
  have HF1 := hid hf1
  clear hf1
  go_wp2_with fail
  refine (new_calls 64 w1).mono ?_
  rintro e w2 ⟨rfl, hn2, hf2⟩
  rw [roomOf_64] at hn2
  have hz := HF1.out.size
  have HN2 : Hid (NetP (fun b => W.heap.size ≤ b) w2 (w1.heap.size + 1) w1.heap.size none (sentN [])) := hid ⟨hn2, fun b hb => by
    rcases hb with rfl | rfl | hb
    · omega
    · omega
    · cases hb⟩
  have HF2 := hid (HF1.out.then0 hf2)
  clear hn2 hf2
  obtain ⟨nb, hnb⟩ : ∃ nb, nb = w1.heap.size + 1 := ⟨_, rfl⟩
  obtain ⟨ch, hch⟩ : ∃ ch, ch = w1.heap.size := ⟨_, rfl⟩
  rw [← hnb, ← hch] at HN2
  rw [← hnb]
  clear hnb hch hz
  go_upto_region 4 with fail
  go_cut [0] (fun s0 wx => ∃ (L : List Mg), L.length ≤ 64 ∧ Hid (Rd W 6 s0 L.length (msgs L)) ∧ Hid (wx = w2))
  case first =>
    by_cases h2 : l.length ≤ 64
    · have e : min (l.length : Int) 64 = (l.length : Int) := by omega
      go_wp2_with fail
      go_meet
      exact ⟨l, h2, HR, hid rfl⟩
    · have e : min (l.length : Int) 64 = 64 := by omega
      obtain ⟨b, o, rfl⟩ := HAB.out (by omega)
      have e2 : 64 ≤ c := by omega
      go_wp2_with fail
      go_meet
      exact ⟨l.take 64, by rw [List.length_take]; omega, hid (HR.out.take6 64 (by omega)), hid rfl⟩
  case rest =>
    obtain ⟨L, hL, HR', HW⟩ := hcut
    obtain rfl := HW.out
    clear HR HAB hc1 hc2
    obtain ⟨a', c', rfl, hab⟩ := HR'.out.shapeN
    go_wp2_with fail
    have HAB := hid hab
    clear hab
    go_loopw [4] (fun i4 wr => ∃ k : Nat, k ≤ L.length ∧ i4 = .int .i64 k ∧ Hid (∃ vb, NetP (fun b => W.heap.size ≤ b) wr nb ch vb (sentN (L.take k))) ∧ Hid (Frm M0 W wr)) (fun i _ => L.length - (intOf i).toNat)
    case atStart => exact ⟨0, Nat.zero_le _, rfl, hid ⟨none, HN2.out⟩, HF2⟩
    case round =>
      obtain ⟨k, hk, rfl, HN, HF⟩ := hrel
      by_cases hlt : k < L.length
      · obtain ⟨b, o, rfl⟩ := HAB.out (by omega)
        obtain ⟨m, HM, m0, m1, m2, m3, m4, m5⟩ := (HR'.out.frm0 HF.out).msgAt k hlt
        have hlt' : (k : Int) < L.length := by omega
        obtain ⟨vb, hn⟩ := HN.out
        have HNk := hid hn
        have hG := good_calls m wr
        have HG : Hid (Calls Try.prog 12 #[.agg #[.int .i64 m.k, .int .i64 m.e, .int .i64 m.s, .int .i64 m.u, .int .i64 m.v, .int .i64 m.t]] wr fun r w' => r = .returned m.good.val ∧ Frm M0 wr w') := hG
        clear hn HN hG
        go_wp2_with fail
        refine HG.out.mono ?_
        rintro r w3 ⟨rfl, hf3⟩
        have hs := send_calls _ _ _ _ m.good w3 (HNk.out.1.frm hf3 (fun _ _ h => h))
        rw [sentN_send _ _ (by rw [List.length_take]; omega)] at hs
        have HS := hid hs
        have HF3 := hid hf3
        have hz := HF.out.size
        have hz3 := hf3.size
        clear hs hf3
        go_wp2_with fail
        refine HS.out.mono ?_
        rintro r w4 ⟨rfl, ht⟩
        obtain ⟨vb4, hn4, hf4⟩ := (HNk.out.frm HF3.out (fun _ _ h => h)).turn ht (fun g hg => by omega)
        have HN4 := hid hn4
        have HF4 := hid ((HF.out.then0 HF3.out).trans hf4 (fun b hb h => absurd h (by omega)))
        clear hn4 hf4 ht hz hz3
        go_wp2_with fail
        exact ⟨⟨k + 1, by omega, by go_num, hid ⟨vb4, by rw [take_snoc HM.out]; exact HN4.out⟩, HF4⟩, by simp [intOf]; omega⟩
      · obtain rfl : k = L.length := by omega
        go_upto_region 10 with fail
        rw [List.take_length] at HN
        go_cut [43] (fun s43 wx => s43 = .bool false ∧ Hid (∃ vb x, NetP (fun b => W.heap.size ≤ b) wx nb ch vb ⟨64, L.map Mg.good, L.length, x⟩) ∧ Hid (Frm M0 W wx))
        case first =>
          by_cases h64 : L.length = 64
          · obtain ⟨b, o, rfl⟩ := HAB.out (by omega)
            obtain ⟨m, HM, m0, m1, m2, m3, m4, m5⟩ := (HR'.out.frm0 HF.out).msgAt 0 (by omega)
            simp only [Nat.zero_mul, Nat.add_zero] at m0 m1 m2 m3 m4 m5
            have h64' : ((L.length : Int) == 64) = true := by rw [h64]; rfl
            have hp : (0 : Int) < L.length := by omega
            have H64 := hid h64
            obtain ⟨vb, hn⟩ := HN.out
            have HNk := hid hn
            have hG := good_calls m wr
            have HG : Hid (Calls Try.prog 12 #[.agg #[.int .i64 m.k, .int .i64 m.e, .int .i64 m.s, .int .i64 m.u, .int .i64 m.v, .int .i64 m.t]] wr fun r w' => r = .returned m.good.val ∧ Frm M0 wr w') := hG
            clear hn HN hG h64
            go_wp2_with fail
            refine HG.out.mono ?_
            rintro r w3 ⟨rfl, hf3⟩
            have hs := send_calls _ _ _ _ m.good w3 (HNk.out.1.frm hf3 (fun _ _ h => h))
            rw [good_full _ _ (by simp [sentN, H64.out])] at hs
            have HS := hid hs
            have HF3 := hid hf3
            have hz := HF.out.size
            have hz3 := hf3.size
            clear hs hf3
            go_wp2_with fail
            refine HS.out.mono ?_
            rintro r w4 ⟨rfl, ht⟩
            obtain ⟨vb4, hn4, hf4⟩ := (HNk.out.frm HF3.out (fun _ _ h => h)).turn ht (fun g hg => by omega)
            have HN4 := hid hn4
            have HF4 := hid ((HF.out.then0 HF3.out).trans hf4 (fun b hb h => absurd h (by omega)))
            clear hn4 hf4 ht hz hz3
            go_wp2_with fail
            go_meet
            exact ⟨rfl, hid ⟨vb4, _, HN4.out⟩, HF4⟩
          · have h64' : ((L.length : Int) == 64) = false := by rw [beq_eq_false_iff_ne]; omega
            go_wp2_with fail
            go_meet
            obtain ⟨vb, hn⟩ := HN.out
            exact ⟨rfl, hid ⟨vb, 0, hn⟩, HF⟩
        case rest =>
          obtain ⟨rfl, HN2, HF2⟩ := hcut
          clear HN HF
          go_wp2_with fail
          go_loopw [5] (fun i5 wr => ∃ k : Nat, k ≤ L.length ∧ i5 = .int .i64 k ∧ Hid (∃ vb x, NetP (fun b => W.heap.size ≤ b) wr nb ch vb ⟨64, (L.drop k).map Mg.good, L.length, x⟩) ∧ Hid (Frm M0 W wr)) (fun i _ => L.length - (intOf i).toNat)
          case atStart => exact ⟨0, Nat.zero_le _, rfl, hid (by rw [List.drop_zero]; exact HN2.out), HF2⟩
          case round =>
            obtain ⟨k, hk, rfl, HN, HF⟩ := hrel
            obtain ⟨vb, x, hn⟩ := HN.out
            have HNk := hid hn
            clear HN hn
            by_cases hlt : k < L.length
            · obtain ⟨b, o, rfl⟩ := HAB.out (by omega)
              obtain ⟨m, HM, m0, m1, m2, m3, m4, m5⟩ := (HR'.out.frm0 HF.out).msgAt k hlt
              have hlt' : (k : Int) < L.length := by omega
              have ht := take_calls _ _ _ _ 0 (by decide) _ HNk.out.1
              rw [netRow_take L k _ _ m HM.out] at ht
              have HT := hid ht
              have hG := good_calls m
              obtain ⟨gm, hgm⟩ : ∃ gm, gm = m.good := ⟨_, rfl⟩
              rw [← hgm] at hG HT
              obtain ⟨gk, ge, gs, gu, gv, gt⟩ := gm
              have HG : Hid (∀ wz, Calls Try.prog 12 #[.agg #[.int .i64 m.k, .int .i64 m.e, .int .i64 m.s, .int .i64 m.u, .int .i64 m.v, .int .i64 m.t]] wz fun r w' => r = .returned (.agg #[.int .i64 gk, .int .i64 ge, .int .i64 gs, .int .i64 gu, .int .i64 gv, .int .i64 gt]) ∧ Frm M0 wz w') := hG
              have hz := HF.out.size
              clear ht hG hgm m0 m1 m2 m3 m4 m5
              go_wp2_with fail
              refine HT.out.mono ?_
              rintro r w3 ⟨rfl, ht3⟩
              obtain ⟨vb3, hn3, hf3⟩ := HNk.out.turn ht3 (fun g hg => by omega)
              rw [show (Mg.mk gk ge gs gu gv gt).val = .agg #[.int .i64 gk, .int .i64 ge, .int .i64 gs, .int .i64 gu, .int .i64 gv, .int .i64 gt] from rfl]
              have HN3 := hid hn3
              have HF3 := hid (HF.out.trans hf3 (fun b hb h => absurd h (by omega)))
              have hz3 := HF3.out.size
              clear ht3 hn3 hf3 hz
              go_upto_region 16 with fail
              have hbx : (w3.alloc (.cells #[.int .i64 gk, .int .i64 ge, .int .i64 gs, .int .i64 gu, .int .i64 gv, .int .i64 gt] 29)).heap[w3.heap.size]? = some (.cells #[.int .i64 gk, .int .i64 ge, .int .i64 gs, .int .i64 gu, .int .i64 gv, .int .i64 gt] 29 (0, 0)) := heap_alloc_new w3 _
              have HFa := hid (HF3.out.alloc (.cells #[.int .i64 gk, .int .i64 ge, .int .i64 gs, .int .i64 gu, .int .i64 gv, .int .i64 gt] 29))
              have hSF : Hid (∀ wx, Frm M0 (w3.alloc (.cells #[.int .i64 gk, .int .i64 ge, .int .i64 gs, .int .i64 gu, .int .i64 gv, .int .i64 gt] 29)) wx → wx.cell? ⟨w3.heap.size, 0, none⟩ = some (.int .i64 gk) ∧ wx.cell? ⟨w3.heap.size, 1, none⟩ = some (.int .i64 ge) ∧ wx.cell? ⟨w3.heap.size, 2, none⟩ = some (.int .i64 gs) ∧ wx.cell? ⟨w3.heap.size, 3, none⟩ = some (.int .i64 gu) ∧ wx.cell? ⟨w3.heap.size, 4, none⟩ = some (.int .i64 gv) ∧ wx.cell? ⟨w3.heap.size, 5, none⟩ = some (.int .i64 gt) ∧ wx.cell? ⟨b, o + k * 6, none⟩ = some (.int .i64 m.k) ∧ wx.cell? ⟨b, o + k * 6 + 1, none⟩ = some (.int .i64 m.e) ∧ wx.cell? ⟨b, o + k * 6 + 2, none⟩ = some (.int .i64 m.s) ∧ wx.cell? ⟨b, o + k * 6 + 3, none⟩ = some (.int .i64 m.u) ∧ wx.cell? ⟨b, o + k * 6 + 4, none⟩ = some (.int .i64 m.v) ∧ wx.cell? ⟨b, o + k * 6 + 5, none⟩ = some (.int .i64 m.t)) := by
                intro wx hf
                obtain ⟨m', HM', m0, m1, m2, m3, m4, m5⟩ := (HR'.out.frm0 (HFa.out.then0 hf)).msgAt k hlt
                obtain rfl : m' = m := by have h1 := HM.out; rw [HM'.out] at h1; exact Option.some.inj h1
                exact ⟨hf.cell (cell_at hbx 0) (fun h => h), hf.cell (cell_at hbx 1) (fun h => h), hf.cell (cell_at hbx 2) (fun h => h), hf.cell (cell_at hbx 3) (fun h => h), hf.cell (cell_at hbx 4) (fun h => h), hf.cell (cell_at hbx 5) (fun h => h), m0, m1, m2, m3, m4, m5⟩
              have hS := hSF.out _ (Frm.refl _ _).drew
              have HN4 : Hid (NetP (fun b => W.heap.size ≤ b) (w3.alloc (.cells #[.int .i64 gk, .int .i64 ge, .int .i64 gs, .int .i64 gu, .int .i64 gv, .int .i64 gt] 29)) nb ch vb3 ⟨64, (L.drop (k + 1)).map Mg.good, L.length, x⟩) := hid (HN3.out.frm ((Frm.refl M0 w3).alloc _) (fun _ _ h => h))
              clear hbx
              go_cut [65] (fun s65 wx => s65 = .bool false ∧ Hid (∃ vb x, NetP (fun b => W.heap.size ≤ b) wx nb ch vb ⟨64, (L.drop (k + 1)).map Mg.good, L.length, x⟩) ∧ Hid (Frm M0 W wx))
              case first =>
                go_region_held3 (fun wx => wx.cell? ⟨w3.heap.size, 0, none⟩ = some (.int .i64 gk) ∧ wx.cell? ⟨w3.heap.size, 1, none⟩ = some (.int .i64 ge) ∧ wx.cell? ⟨w3.heap.size, 2, none⟩ = some (.int .i64 gs) ∧ wx.cell? ⟨w3.heap.size, 3, none⟩ = some (.int .i64 gu) ∧ wx.cell? ⟨w3.heap.size, 4, none⟩ = some (.int .i64 gv) ∧ wx.cell? ⟨w3.heap.size, 5, none⟩ = some (.int .i64 gt) ∧ wx.cell? ⟨b, o + k * 6, none⟩ = some (.int .i64 m.k) ∧ wx.cell? ⟨b, o + k * 6 + 1, none⟩ = some (.int .i64 m.e) ∧ wx.cell? ⟨b, o + k * 6 + 2, none⟩ = some (.int .i64 m.s) ∧ wx.cell? ⟨b, o + k * 6 + 3, none⟩ = some (.int .i64 m.u) ∧ wx.cell? ⟨b, o + k * 6 + 4, none⟩ = some (.int .i64 m.v) ∧ wx.cell? ⟨b, o + k * 6 + 5, none⟩ = some (.int .i64 m.t)) (first | exact hSF.out _ HF5.out | assumption)
                  (first | (go_at_call 12; refine (HG.out _).mono ?_; rintro r w5 ⟨rfl, hf5⟩; have HF5 := hid ((Frm.refl M0 (w3.alloc (.cells #[.int .i64 gk, .int .i64 ge, .int .i64 gs, .int .i64 gu, .int .i64 gv, .int .i64 gt] 29))).drew.then0 hf5);clear hf5))
                all_goals (go_wp2_with fail; go_meet; exact ⟨by first | rfl | simp, hid ⟨vb3, x, HN4.out.frm HF5.out (fun _ _ h => h)⟩, hid (HFa.out.then0 HF5.out)⟩)
              case rest =>
                obtain ⟨rfl, HNx, HFx⟩ := hcut
                clear hS
                go_wp2_with fail
                exact ⟨⟨k + 1, by omega, by go_num, HNx, HFx⟩, by simp [intOf]; omega⟩
            · obtain rfl : k = L.length := by omega
              rw [List.drop_length] at HNk
              have ht := take_calls _ _ _ _ 0 (by decide) _ HNk.out.1
              rw [List.map_nil, netRow_end] at ht
              have HT := hid ht
              have hz := HF.out.size
              clear ht
              go_wp2_with fail
              refine HT.out.mono ?_
              rintro r w3 ⟨rfl, ht3⟩
              rw [List.map_nil] at HNk
              obtain ⟨vb3, hn3, hf3⟩ := HNk.out.turn ht3 (fun g hg => by omega)
              rw [show Mg.zero.val = .agg #[.int .i64 0, .int .i64 0, .int .i64 0, .int .i64 0, .int .i64 0, .int .i64 0] from rfl]
              have HF3 := hid (HF.out.trans hf3 (fun b hb h => absurd h (by omega)))
              have hs := sent_calls _ _ _ _ _ (hn3.1.frm ((Frm.refl M0 w3).alloc (.cells #[.int .i64 0, .int .i64 0, .int .i64 0, .int .i64 0, .int .i64 0, .int .i64 0] 29)) (fun _ _ h => h))
              have hl := len_calls _ _ _ _ _ (hn3.1.frm ((Frm.refl M0 w3).alloc (.cells #[.int .i64 0, .int .i64 0, .int .i64 0, .int .i64 0, .int .i64 0, .int .i64 0] 29)) (fun _ _ h => h))
              have HS := hid hs
              have HL := hid hl
              clear hs hl ht3 hn3 hf3 hz
              go_wp2_with (first
                | (go_at_call 15; refine HS.out.mono ?_; rintro r wq ⟨rfl, rfl⟩)
                | (go_at_call 14; refine HL.out.mono ?_; rintro r wq ⟨rfl, rfl⟩))
              go_ret
              exact ⟨rfl, (HF3.out.alloc _).below⟩
end Go.Proofs.Ytbepcohcdgfkaaa
