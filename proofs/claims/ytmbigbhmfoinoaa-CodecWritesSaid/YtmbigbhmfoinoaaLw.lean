/- CodecWrites: the bytes of numbers, texts and lists are what the reference says. The walk of the law, for every int, string and list of ints. -/
import Derived.Test.YtmbigbhmfoinoaaCg
import Derived.Test.YtmbigbhmfoinoaaCl
import Derived.Test.YtmbigbhmfoinoaaFt
import Derived.Deep.DeepCutAuto
import Derived.Deep.QuietTactic
import Derived.BigQuiet
namespace Go.Proofs.Ytmbigbhmfoinoaa
set_option linter.unusedVariables false
set_option linter.unusedSimpArgs false
open Go.RowKit Cp
theorem cut_size70 (s : ByteArray) (k : Nat) (h : k ≤ s.size) : (s.extract 0 k).size = k := by simp; omega

set_option maxRecDepth 100000 in
set_option maxHeartbeats 4000000 in
theorem codecWrites_walk (W : World) (n : Int) (wn : (Lit.int .i64 n).wf = true) (s : ByteArray) (ws : s.size ≤ maxLen) (v : Value) (l : List Int) (hr : Rd W 1 v l.length (ints .i64 l)) (hwf : ∀ x ∈ l, (Lit.int .i64 x).wf = true) :
    Calls Try.prog 5 #[.int .i64 n, .string s, v] W fun e w' => e = .returned (.bool true) ∧ Below W.heap.size W w' := by
  obtain ⟨a, c, rfl, hab⟩ := hr.shape
  obtain ⟨_, hc1, hc2⟩ := hr.cap
  have HR := hid hr
  have hn := wf_i64 wn
  unfold maxLen at ws
  clear hr hwf wn
  go_enter Try.func5, Try.ntmps5
  go_wp2_with fail
  refine (lives_calls W).mono ?_
  rintro e w1 ⟨rfl, hf1⟩
  have HF1 := hid hf1
  clear hf1
  go_upto_region 3 with fail
  go_cut [1, 2] (fun s1 s2 wx => ∃ (s' : ByteArray) (v' : Value) (l' : List Int), s1 = .string s' ∧ s2 = v' ∧ s'.size ≤ 70 ∧ l'.length ≤ 70 ∧ Hid (Rd W 1 v' l'.length (ints .i64 l')) ∧ Hid (Frm M0 W wx))
  case first =>
    have hs64 : 70 < s.size → (s.extract 0 70).size ≤ 70 := fun h => by rw [cut_size70 s 70 (by omega)]; exact Nat.le_refl _
    have hl64 : (l.take 70).length ≤ 70 := by rw [List.length_take]; omega
    have HS64 := hid hs64
    clear hs64
    by_cases h1 : s.size ≤ 70
    · by_cases h2 : l.length ≤ 70
      · go_quiet (fail)
        go_wp2_with fail
        go_meet
        exact ⟨s, _, l, rfl, rfl, h1, h2, hid HR.out, hid (HF1.out.drewN nq)⟩
      · obtain ⟨b, o, rfl⟩ := hab (by omega)
        go_quiet (fail)
        go_wp2_with fail
        go_meet
        exact ⟨s, _, l.take 70, rfl, rfl, h1, hl64, hid (HR.out.take 70 (by omega)), hid (HF1.out.drewN nq)⟩
    · by_cases h2 : l.length ≤ 70
      · go_quiet (fail)
        go_wp2_with fail
        go_meet
        exact ⟨_, _, l, rfl, rfl, HS64.out (by omega), h2, hid HR.out, hid (HF1.out.drewN nq)⟩
      · obtain ⟨b, o, rfl⟩ := hab (by omega)
        go_quiet (fail)
        go_wp2_with fail
        go_meet
        exact ⟨_, _, l.take 70, rfl, rfl, HS64.out (by omega), hl64, hid (HR.out.take 70 (by omega)), hid (HF1.out.drewN nq)⟩
  case rest =>
    obtain ⟨s', v', l', rfl, rfl, hs', hl', HR', HF'⟩ := hcut
    obtain ⟨a', c', rfl, hab'⟩ := HR'.out.shape
    have hf7 : Frm M0 W (wc.alloc (.cells #[.int .u8 7] 5)) := HF'.out.alloc _
    obtain ⟨N, hN⟩ : ∃ N, N = numW [7] n := ⟨_, rfl⟩
    have hNl : N.1.length ≤ 10 := by rw [hN]; exact numW_len _ _
    have HSZ : Hid ((N.2 = 0 ∧ ((N.1.length : Int)) - 1 = sizeF n) ∨ (N.2 = 1 ∧ sizeF n = 0)) := by
      rw [hN]
      unfold Hid numW sizeF
      cases hm : mayB n with
      | true => left; simp
      | false => right; simp
    have HN := hid hN
    clear hN
    go_wp2_with fail
    refine (number_w _ [7] n _ (by simp) Rd.new).mono ?_
    rintro e w2 ⟨va, rfl, hr2, hf2⟩
    rw [← HN.out] at hr2 ⊢
    have HR2 := hid hr2
    have HF2 := hid (hf7.then0 hf2)
    clear hr2 hf2 hf7
    have hf7 : Frm M0 w2 (w2.alloc (.cells #[.int .u8 7] 5)) := (Frm.refl _ _).alloc _
    go_wp2_with fail
    refine (rnumber_w _ [7] n _ (by simp) Rd.new).mono ?_
    rintro e w3 ⟨vb, rfl, hr3, hf3⟩
    rw [← HN.out] at hr3 ⊢
    have HR3 := hid hr3
    have HF23 := hid (hf7.then0 hf3)
    clear hr3 hf3 hf7
    obtain ⟨T, hT⟩ : ∃ T, T = textW N.1 s' := ⟨_, rfl⟩
    have hTl : T.1.length ≤ 83 := by rw [hT]; have := textW_len N.1 s'; omega
    have HT := hid hT
    clear hT
    go_wp2_with fail
    refine (text_w va N.1 s' w3 (by omega) (HR2.out.frm0 HF23.out) (by omega)).mono ?_
    rintro e w4 ⟨vc, rfl, hr4, hf4⟩
    rw [← HT.out] at hr4 ⊢
    have HR4 := hid hr4
    have HF34 := hid hf4
    clear hr4 hf4
    go_wp2_with fail
    refine (rtext_w vb N.1 s' w4 (by omega) (HR3.out.frm0 HF34.out) (by omega)).mono ?_
    rintro e w5 ⟨vd, rfl, hr5, hf5⟩
    rw [← HT.out] at hr5 ⊢
    have HR5 := hid hr5
    have HF45 := hid hf5
    clear hr5 hf5
    obtain ⟨L, hL⟩ : ∃ L, L = listW T.1 l' := ⟨_, rfl⟩
    have HL := hid hL
    clear hL
    have HW5 := hid (((HF2.out.then0 HF23.out).then0 HF34.out).then0 HF45.out)
    go_wp2_with fail
    refine (list_w vc _ T.1 l' w5 (by omega) (HR4.out.frm0 HF45.out) (by omega) (HR'.out.frm0 HW5.out)).mono ?_
    rintro e w6 ⟨vx, rfl, hr6, hf6⟩
    rw [← HL.out] at hr6 ⊢
    have HR6 := hid hr6
    have HF56 := hid hf6
    clear hr6 hf6
    have HW6 := hid (HW5.out.then0 HF56.out)
    go_wp2_with fail
    refine (rlist_w vd _ T.1 l' w6 (by omega) (HR5.out.frm0 HF56.out) (by omega) (HR'.out.frm0 HW6.out)).mono ?_
    rintro e w7 ⟨vy, rfl, hr7, hf7⟩
    rw [← HL.out] at hr7 ⊢
    have HR7 := hid hr7
    have HF67 := hid hf7
    clear hr7 hf7
    have HW7 := hid (HW6.out.then0 HF67.out)
    have cv := fun (x : Value) (y : List Int) (h : Rd w7 1 x y.length (ints .u8 y)) => run_str (P := Try.prog) 25 9 5 Try.underlying25 Try.underlying9 Try.underlying5 h
    have c1 := cv _ _ ((((HR2.out.frm0 HF23.out).frm0 HF34.out).frm0 HF45.out).frm0 (HF56.out.then0 HF67.out))
    have c2 := cv _ _ (((HR3.out.frm0 HF34.out).frm0 HF45.out).frm0 (HF56.out.then0 HF67.out))
    have c3 := cv _ _ ((HR4.out.frm0 HF45.out).frm0 (HF56.out.then0 HF67.out))
    have c4 := cv _ _ (HR5.out.frm0 (HF56.out.then0 HF67.out))
    have c5 := cv _ _ (HR6.out.frm0 HF67.out)
    have c6 := cv _ _ HR7.out
    clear cv
    obtain ⟨aa, ca, rfl, _⟩ := HR2.out.shape
    rcases HSZ.out with ⟨h0, hsz⟩ | ⟨h1, hsz⟩
    · have he0 : (N.2 == 0) = true := beq_iff_eq.2 h0
      have HSS := hid hsz
      clear h0 hsz
      go_wp2_with fail
      refine (size_calls n w7).mono ?_
      rintro e w8 ⟨rfl, hb8⟩
      rw [← HSS.out]
      have HW8 := hid (HW7.out.then0 (frm_of hb8))
      clear hb8
      go_wp2_with fail
      go_ret
      exact ⟨rfl, HW8.out.below⟩
    · have he0 : (N.2 == 0) = false := beq_eq_false_iff_ne.2 (by omega)
      have HSS := hid hsz
      clear h1 hsz
      go_wp2_with fail
      refine (size_calls n w7).mono ?_
      rintro e w8 ⟨rfl, hb8⟩
      rw [HSS.out]
      have HW8 := hid (HW7.out.then0 (frm_of hb8))
      clear hb8
      go_wp2_with fail
      go_ret
      exact ⟨rfl, HW8.out.below⟩
end Go.Proofs.Ytmbigbhmfoinoaa
