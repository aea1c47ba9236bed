/- NetOf's walk. No condition. -/
import Derived.Test.YtbepcohcdgfkaaaNo
import Derived.Deep.RegionHeld3
import Derived.Deep.QuietTactic
import Derived.BigQuiet
namespace Go.Proofs.Ytbepcohcdgfkaaa
set_option linter.unusedVariables false
set_option linter.unusedSimpArgs false
open Go.RowKit Go.Conc
attribute [-go_sem] run_min_int2
attribute [local go_sem] run_min2

def cntU (A : List Mg) (u : Int) : Nat := (A.filter (fun m => decide (m.u < u))).length
theorem cntU_succ (A : List Mg) (u : Int) : cntU A (u + 1) = cntU A u + (fl u A).length := by
  unfold cntU fl
  induction A with
  | nil => rfl
  | cons m A ih =>
    simp only [List.filter_cons]
    by_cases h1 : m.u < u
    · have h2 : m.u < u + 1 := by omega
      have h3 : (m.u == u) = false := by rw [beq_eq_false_iff_ne]; omega
      simp only [h1, h2, h3, decide_true, if_true, List.length_cons, Bool.false_eq_true, if_false]; omega
    · by_cases h3 : m.u = u
      · have h2 : m.u < u + 1 := by omega
        have h4 : (m.u == u) = true := by rw [beq_iff_eq]; exact h3
        simp only [h1, h2, h4, decide_true, decide_false, if_true, List.length_cons, Bool.false_eq_true, if_false]; omega
      · have h2 : ¬ m.u < u + 1 := by omega
        have h4 : (m.u == u) = false := by rw [beq_eq_false_iff_ne]; exact h3
        simp only [h1, h2, h4, decide_false, Bool.false_eq_true, if_false]; omega
theorem good_u (L : List Mg) : ∀ m ∈ L.map Mg.good, 0 ≤ m.u ∧ m.u < 8 := by
  intro m hm
  obtain ⟨y, _, rfl⟩ := List.mem_map.1 hm
  unfold Mg.good
  simp only []
  omega
theorem cntU_0 (L : List Mg) : cntU (L.map Mg.good) 0 = 0 := by
  unfold cntU
  rw [List.filter_eq_nil_iff.2]
  · rfl
  · intro m hm
    have := good_u L m hm
    simp; omega
theorem cntU_8 (L : List Mg) : cntU (L.map Mg.good) 8 = L.length := by
  unfold cntU
  rw [List.filter_eq_self.2, List.length_map]
  intro m hm
  have := good_u L m hm
  simp; omega
theorem fl_m1 (L : List Mg) : fl (-1) (L.map Mg.good) = [] := by
  unfold fl
  rw [List.filter_eq_nil_iff]
  intro m hm
  have := good_u L m hm
  simp; omega
theorem fl_le (u : Int) (A : List Mg) : (fl u A).length ≤ A.length := List.length_filter_le _ _
theorem fl_at (u : Int) (A : List Mg) (i : Nat) (m : Mg) (h : A[i]? = some m) (hu : m.u = u) : (fl u A)[(fl u (A.take i)).length]? = some m := by
  obtain ⟨hi, rfl⟩ := List.getElem?_eq_some_iff.1 h
  have e : A = A.take i ++ (A[i] :: A.drop (i + 1)) := by rw [← List.drop_eq_getElem_cons hi, List.take_append_drop]
  have e2 : fl u A = fl u (A.take i) ++ (A[i] :: fl u (A.drop (i + 1))) := by
    conv => lhs; rw [e]
    rw [fl_app]
    congr 1
    rw [show A[i] :: A.drop (i + 1) = [A[i]] ++ A.drop (i + 1) from rfl, fl_app, fl_one, if_pos hu]
    rfl
  rw [e2, List.getElem?_append_right (Nat.le_refl _), Nat.sub_self]
  rfl

set_option maxRecDepth 20000 in
set_option maxHeartbeats 1000000 in
theorem netOf_walk (W : World) (v : Value) (l : List Mg) (hr : Rd W 6 v l.length (msgs l)) (_ok : ∀ m ∈ l, m.ok) :
    Calls Try.prog 6 #[v] W fun e w' => e = .returned (.bool true) ∧ Below W.heap.size W w' := by
  obtain ⟨a, c, rfl, hab⟩ := hr.shapeN
  obtain ⟨_, hc1, hc2⟩ := hr.cap
  have HR := hid hr
  have HAB := hid hab
  clear hr hab _ok
  go_enter Try.func6, Try.ntmps6
  go_wp2_with fail
  refine (lives_calls W).mono ?_
  rintro e w1 ⟨rfl, hf1⟩
  have HF1 := hid hf1
  clear hf1
  go_wp2_with fail
  refine (new_calls 64 w1).mono ?_
  rintro e w2 ⟨rfl, hn2, hf2⟩
  rw [roomOf_64] at hn2
  have hz := HF1.out.size
  have HN2 : Hid (NetP (fun b => W.heap.size ≤ b) w2 (w1.heap.size + 1) w1.heap.size none (sentN [])) := hid ⟨hn2, fun b hb => by
    rcases hb with rfl | rfl | hb
    · omega
    · omega
    · cases hb⟩
  have HF2 := hid (HF1.out.then0 hf2)
  clear hn2 hf2
  obtain ⟨nb, hnb⟩ : ∃ nb, nb = w1.heap.size + 1 := ⟨_, rfl⟩
  obtain ⟨ch, hch⟩ : ∃ ch, ch = w1.heap.size := ⟨_, rfl⟩
  rw [← hnb, ← hch] at HN2
  rw [← hnb]
  clear hnb hch hz
  go_upto_region 4 with fail
  go_cut [0] (fun s0 wx => ∃ (L : List Mg), L.length ≤ 60 ∧ Hid (Rd W 6 s0 L.length (msgs L)) ∧ Hid (w2 = wx))
  case first =>
    by_cases h2 : l.length ≤ 60
    · have e : min (l.length : Int) 60 = (l.length : Int) := by omega
      go_wp2_with fail
      go_meet
      exact ⟨l, h2, HR, hid rfl⟩
    · have e : min (l.length : Int) 60 = 60 := by omega
      obtain ⟨b, o, rfl⟩ := HAB.out (by omega)
      have e2 : 60 ≤ c := by omega
      go_wp2_with fail
      go_meet
      exact ⟨l.take 60, by rw [List.length_take]; omega, hid (HR.out.take6 60 (by omega)), hid rfl⟩
  case rest =>
    obtain ⟨L, hL, HR', HW⟩ := hcut
    obtain rfl := HW.out
    clear HR HAB hc1 hc2 HW
    obtain ⟨a', c', rfl, hab⟩ := HR'.out.shapeN
    go_wp2_with fail
    have HAB := hid hab
    clear hab
    go_loopw [4] (fun i4 wr => ∃ k : Nat, k ≤ L.length ∧ i4 = .int .i64 k ∧ Hid (∃ vb, NetP (fun b => W.heap.size ≤ b) wr nb ch vb (sentN (L.take k))) ∧ Hid (Frm M0 W wr)) (fun i _ => L.length - (intOf i).toNat)
    case atStart => exact ⟨0, Nat.zero_le _, rfl, hid ⟨none, HN2.out⟩, HF2⟩
    case round =>
      clear HN2 HF2 HF1
      obtain ⟨k, hk, rfl, HN, HF⟩ := hrel
      by_cases hlt : k < L.length
      · obtain ⟨b, o, rfl⟩ := HAB.out (by omega)
        obtain ⟨m, HM, m0, m1, m2, m3, m4, m5⟩ := (HR'.out.frm0 HF.out).msgAt k hlt
        have hlt' : (k : Int) < L.length := by omega
        obtain ⟨vb, hn⟩ := HN.out
        have HNk := hid hn
        have hG := good_calls m wr
        have HG : Hid (Calls Try.prog 12 #[.agg #[.int .i64 m.k, .int .i64 m.e, .int .i64 m.s, .int .i64 m.u, .int .i64 m.v, .int .i64 m.t]] wr fun r w' => r = .returned m.good.val ∧ Frm M0 wr w') := hG
        clear hn HN hG
        go_wp2_with fail
        refine HG.out.mono ?_
        rintro r w3 ⟨rfl, hf3⟩
        have hs := send_calls _ _ _ _ m.good w3 (HNk.out.1.frm hf3 (fun _ _ h => h))
        rw [sentN_send _ _ (by rw [List.length_take]; omega)] at hs
        have HS := hid hs
        have HF3 := hid hf3
        have hz := HF.out.size
        have hz3 := hf3.size
        clear hs hf3
        go_wp2_with fail
        refine HS.out.mono ?_
        rintro r w4 ⟨rfl, ht⟩
        obtain ⟨vb4, hn4, hf4⟩ := (HNk.out.frm HF3.out (fun _ _ h => h)).turn ht (fun g hg => by omega)
        have HN4 := hid hn4
        have HF4 := hid ((HF.out.then0 HF3.out).trans hf4 (fun b hb h => absurd h (by omega)))
        clear hn4 hf4 ht hz hz3
        go_wp2_with fail
        exact ⟨⟨k + 1, by omega, by go_num, hid ⟨vb4, by rw [take_snoc HM.out]; exact HN4.out⟩, HF4⟩, by simp [intOf]; omega⟩
      · obtain rfl : k = L.length := by omega
        rw [List.take_length] at HN
        obtain ⟨vb, hn⟩ := HN.out
        have HNN := hid hn.1
        have ha := all_calls nb ch vb _ _ hn.1
        have HA := hid ha
        clear hn ha HN hlt hk
        go_wp2_with fail
        refine HA.out.mono ?_
        rintro r w3 ⟨va, rfl, ho3, hf3⟩
        obtain ⟨A, hAe⟩ : ∃ A, A = L.map Mg.good := ⟨_, rfl⟩
        have hra := Rd.ofOwns ho3.out
        rw [show (sentN L).l = A by rw [hAe]; rfl] at hra
        have hAl : A.length = L.length := by rw [hAe, List.length_map]
        have HAE := hid hAe
        have HRA := hid hra
        have HN3 := hid (HNN.out.frm hf3 (fun _ _ h => h))
        have HF3 := hid (HF.out.then0 hf3)
        obtain ⟨aa, ca, rfl, haab⟩ := hra.shapeN
        have HAAB := hid haab
        clear ho3 hf3 hra hAe haab HNN HF HA
        have HAL := hid hAl
        go_wp2_with fail
        go_loopw [6, 7] (fun i6 i7 wr => ∃ u : Nat, u ≤ 8 ∧ i7 = .int .i64 u ∧ i6 = .int .i64 (cntU A u : Nat) ∧ Hid (Frm M0 w3 wr)) (fun _ i _ => 8 - (intOf i).toNat)
        case atStart =>
          refine ⟨0, by omega, rfl, ?_, hid (Frm.refl _ _)⟩
          rw [HAE.out]
          have := cntU_0 L
          show Value.int .i64 0 = Value.int .i64 ((cntU (L.map Mg.good) 0 : Nat) : Int)
          rw [this]; rfl
        case round =>
          obtain ⟨u, hu, rfl, rfl, HF⟩ := hrel
          obtain ⟨M, hM⟩ : ∃ M, M = cntU A u := ⟨_, rfl⟩
          have hMl : M ≤ A.length := by rw [hM]; exact List.length_filter_le _ _
          have HM := hid hM
          rw [← hM]
          clear hM
          by_cases hlt : u < 8
          · have hof := of_calls nb ch vb _ (u : Int) wr (HN3.out.frm HF.out (fun _ _ h => h))
            rw [show (sentN L).l = A by rw [HAE.out]; rfl] at hof
            have HOF := hid hof
            have hul : (fl (u : Int) A).length ≤ A.length := fl_le _ _
            obtain ⟨O, hO⟩ : ∃ O, O = fl (u : Int) A := ⟨_, rfl⟩
            rw [← hO] at HOF hul
            have HOE := hid hO
            clear hof hO
            go_wp2_with fail
            refine HOF.out.mono ?_
            rintro r w4 ⟨vo, rfl, hro, hf4⟩
            have HF4 := hid (HF.out.then0 hf4)
            obtain ⟨ao, co, rfl, hoab⟩ := hro.out.shapeN
            have HOAB := hid hoab
            clear hf4 hoab HOF
            go_wp2_with fail
            go_loopw [9, 10] (fun k9 i10 wx => ∃ i : Nat, i ≤ A.length ∧ i10 = .int .i64 i ∧ k9 = .int .i64 ((fl (u : Int) (A.take i)).length : Nat) ∧ Hid (Frm M0 w4 wx)) (fun _ i _ => A.length - (intOf i).toNat)
            case atStart => exact ⟨0, by omega, rfl, rfl, hid (Frm.refl _ _)⟩
            case round =>
              obtain ⟨i, hi, rfl, rfl, HFx⟩ := hrel
              by_cases hli : i < A.length
              · obtain ⟨ba, oa, rfl⟩ := HAAB.out (by omega)
                have HFA := hid (HF4.out.then0 HFx.out)
                obtain ⟨m, HMA, m0, m1, m2, m3, m4, m5⟩ := (HRA.out.frm0 HFA.out).msgAt i hli
                have hli' : (i : Int) < A.length := by omega
                have hcl : (fl (u : Int) (A.take i)).length ≤ A.length := by have := fl_le (u : Int) (A.take i); rw [List.length_take] at this; omega
                by_cases hmu : m.u = (u : Int)
                · have e1 : (m.u != (u : Int)) = false := by rw [bne_eq_false_iff_eq]; exact hmu
                  have hat := fl_at (u : Int) A i m HMA.out hmu
                  have hnx : (fl (u : Int) (A.take (i + 1))).length = (fl (u : Int) (A.take i)).length + 1 := by
                    rw [take_snoc HMA.out, fl_app, fl_one, if_pos hmu, List.length_append]; rfl
                  rw [← HOE.out] at hat
                  obtain ⟨q, hq⟩ : ∃ q, q = (fl (u : Int) (A.take i)).length := ⟨_, rfl⟩
                  rw [← hq] at hat hnx hcl ⊢
                  obtain ⟨hql, _⟩ := List.getElem?_eq_some_iff.1 hat
                  obtain ⟨bo, oo, rfl⟩ := HOAB.out (by omega)
                  obtain ⟨m', HMO, n0, n1, n2, n3, n4, n5⟩ := (hro.out.frm0 HFx.out).msgAt q hql
                  obtain rfl : m = m' := by have h1 := HMO.out; rw [hat] at h1; exact Option.some.inj h1
                  have HNX := hid hnx
                  have hge : decide ((O.length : Int) ≤ (q : Int)) = false := by rw [decide_eq_false_iff_not]; omega
                  have hql' : (q : Int) < O.length := by omega
                  have HFX := hid HFx.out
                  clear hat hq hmu hnx HMO HMA
                  go_wp2_with fail
                  go_cut [72] (fun s72 wy => s72 = .bool false ∧ Hid (Frm M0 wr wy))
                  case first =>
                    go_quiet (fail)
                    go_wp2_with fail
                    go_meet
                    exact ⟨by simp; exact hql, hid ((Frm.refl _ _).drewN _)⟩
                  case rest =>
                    obtain ⟨rfl, HFy⟩ := hcut
                    go_wp2_with fail
                    exact ⟨⟨i + 1, by omega, by go_num, by rw [HNX.out]; go_num, hid (HFx.out.then0 HFy.out)⟩, by simp [intOf]; omega⟩
                · have e1 : (m.u != (u : Int)) = true := by rw [bne_iff_ne]; exact hmu
                  have hnx : (fl (u : Int) (A.take (i + 1))).length = (fl (u : Int) (A.take i)).length := by
                    rw [take_snoc HMA.out, fl_app, fl_one, if_neg hmu, List.append_nil]
                  have HNX := hid hnx
                  clear hnx hmu HMA
                  go_wp2_with fail
                  exact ⟨⟨i + 1, by omega, by go_num, by rw [HNX.out], HFx⟩, by simp [intOf]; omega⟩
              · obtain rfl : i = A.length := by omega
                rw [List.take_length]
                clear hli hi
                have hsu := cntU_succ A (u : Int)
                rw [← HM.out, ← HOE.out] at hsu
                have HSU := hid hsu
                clear hsu
                go_wp2_with fail
                exact ⟨⟨u + 1, by omega, by go_num, by rw [show ((u + 1 : Nat) : Int) = (u : Int) + 1 by omega, HSU.out]; go_num, hid (HF4.out.then0 HFx.out)⟩, by simp [intOf]; omega⟩
          · obtain rfl : u = 8 := by omega
            have e8 : M = L.length := by rw [HM.out, HAE.out]; exact cntU_8 L
            have hof := of_calls nb ch vb _ (-1) wr (HN3.out.frm HF.out (fun _ _ h => h))
            rw [show (sentN L).l = A by rw [HAE.out]; rfl, HAE.out, fl_m1] at hof
            have HOF := hid hof
            have e9 := HAL.out
            subst e8
            clear hof
            go_wp2_with fail
            refine HOF.out.mono ?_
            rintro r w4 ⟨vo, rfl, hro, hf4⟩
            have HF4 := hid (HF.out.then0 hf4)
            obtain ⟨ao, co, rfl, hoab⟩ := hro.out.shapeN
            clear hf4 hoab HOF
            go_wp2_with fail
            go_ret
            exact ⟨by first | rfl | simp, (HF3.out.then0 HF4.out).below⟩
end Go.Proofs.Ytbepcohcdgfkaaa
