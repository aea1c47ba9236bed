/- spec.number, and the reference's Number. -/
import Derived.Test.YtonlmkcolndaaaaGreatDoorPn
import Derived.Test.YtonlmkcolndaaaaGreatDoorWd
namespace Go.Proofs.YtonlmkcolndaaaaGreatDoor
set_option linter.unusedVariables false
set_option linter.unusedSimpArgs false
set_option maxRecDepth 20000
open Go.RowKit

/-- What is told of a text's number. -/
def NumR (s : ByteArray) (n : Int) (b : Bool) : Prop := (b = true → numF s.data.toList = some n) ∧ (b = false → numF s.data.toList = none)
def NumP (s : ByteArray) (w : World) (e : Ending) (w' : World) : Prop := ∃ (n : Int) (b : Bool), e = .returned (.tuple #[.int .i64 n, .bool b]) ∧ Hid (NumR s n b) ∧ Frm M0 w w'
theorem str_size (l : List UInt8) : (str l).size = l.length := List.size_toArray
theorem str_beq (l : List UInt8) (s : ByteArray) : ((str l).toList == s.toList) = decide (l = s.data.toList) := by
  rw [Lib.toList_data, Lib.toList_data, str_list]
  rw [Bool.eq_iff_iff]; simp

set_option maxRecDepth 20000 in
set_option maxHeartbeats 4000000 in
theorem snumber_calls (s : ByteArray) (w : World) (hs : s.size ≤ 1000000) (hg : Glob w) : Calls Tryz.prog 64 #[.string s] w (NumP s w) := by
  by_cases hok : ∃ v, Lib.atoiAll s.data.toList = .ok v
  case neg =>
    have HN : Hid (numF s.data.toList = none) := hid (numF_none fun v h => hok ⟨v, h⟩)
    have HC := hid (atoi_no s w hs hg fun v h => hok ⟨v, h⟩)
    clear hok hg
    go_enter Tryz.func64, Tryz.ntmps64
    go_wp2_with fail
    refine HC.out.mono ?_
    rintro _ w1 ⟨n, T, N, rfl, hf⟩
    have HF := hid hf
    clear hf
    go_wp2_with fail
    go_ret2
    exact ⟨n, false, rfl, hid ⟨fun h => (by cases h), fun _ => HN.out⟩, HF.out⟩
  obtain ⟨v, hv⟩ := hok
  have hb := Lib.atoiAll_bounds hv
  have HNF := hid (numF_of_atoi hv)
  have HC := hid (atoi_ok s v w hs hv)
  have HG := hid hg
  have HI : Hid (∀ wx, Frm M0 w wx → Calls Tryz.prog 32 #[.int .i64 v] wx fun e w' => e = .returned (.string (str (Lib.itoa v))) ∧ Frm M0 wx w') := hid fun wx hx => itoa_calls v wx (by omega) (by omega) (hg.frm hx).tab
  clear hv hg hb
  obtain ⟨x, HX⟩ : ∃ x, Hid (str (Lib.trimPrefix s.data.toList [45]) = x) := ⟨_, rfl⟩
  have hx : x.size = digN s.data.toList := by rw [← HX.out, str_size, trim_len]
  obtain ⟨y, HY⟩ : ∃ y, Hid (str (Lib.itoa v) = y) := ⟨_, rfl⟩
  rw [HY.out] at HI
  have hy : (y.toList == s.toList) = decide (Lib.itoa v = s.data.toList) := by rw [← HY.out, str_beq]
  by_cases h1 : Lib.itoa v = s.data.toList
  case neg =>
    have hy' : (y.toList == s.toList) = false := by rw [hy]; exact decide_eq_false h1
    have HN : Hid (numF s.data.toList = none) := hid (by rw [HNF.out, if_neg (fun h => h1 h.2)])
    clear hy hx h1
    go_enter Tryz.func64, Tryz.ntmps64
    go_wp2_with fail
    refine HC.out.mono ?_
    rintro _ w1 ⟨rfl, hf⟩
    have HF := hid hf
    clear hf
    go_wp2_with fail
    refine (HI.out _ HF.out).mono ?_
    rintro _ w2 ⟨rfl, hf⟩
    have HF2 := hid (HF.out.then0 hf)
    clear hf
    go_wp2_with fail
    go_ret2
    exact ⟨v, false, rfl, hid ⟨fun h => (by cases h), fun _ => HN.out⟩, HF2.out⟩
  have hy' : (y.toList == s.toList) = true := by rw [hy]; exact decide_eq_true h1
  have HXX : Hid (x.size = digN s.data.toList) := hid hx
  have HE := hid h1
  clear hy hx h1
  go_enter Tryz.func64, Tryz.ntmps64
  go_wp2_with fail
  refine HC.out.mono ?_
  rintro _ w1 ⟨rfl, hf⟩
  have HF := hid hf
  clear hf
  go_wp2_with fail
  refine (HI.out _ HF.out).mono ?_
  rintro _ w2 ⟨rfl, hf⟩
  have HF2 := hid (HF.out.then0 hf)
  clear hf
  go_wp2_with fail
  refine (trim_calls s _ _).mono ?_
  rintro _ w3 ⟨rfl, hf⟩
  have HF3 := hid (HF2.out.then0 hf)
  clear hf
  rw [show (⟨#[45]⟩ : ByteArray).data.toList = [45] from rfl, HX.out]
  go_wp2_with fail
  go_ret2
  refine ⟨v, decide ((x.size : Int) ≤ 9), rfl, hid ⟨fun h => ?_, fun h => ?_⟩, HF3.out⟩
  · have := of_decide_eq_true h
    have hx := HXX.out
    rw [HNF.out, if_pos ⟨by omega, HE.out⟩]
  · have := of_decide_eq_false h
    have hx := HXX.out
    rw [HNF.out, if_neg (fun h => by omega)]

theorem sb_index {s : ByteArray} {i : Nat} (h : i < s.size) : s.data.toList[i]? = some s[i] := by
  rw [List.getElem?_eq_getElem (by simpa using h)]; rfl
set_option maxRecDepth 20000 in
set_option maxHeartbeats 4000000 in
theorem rnumber_calls (s : ByteArray) (w : World) (hs : s.size ≤ 1000000) : Calls Tryz.prog 63 #[.string s] w (NumP s w) := by
  by_cases h0 : 0 < s.size
  case neg =>
    have he : s.size = 0 := by omega
    have HNG : Hid (isNeg s.data.toList = false) := hid (by
      have : s.data.toList = [] := List.eq_nil_of_length_eq_zero (by simpa using he)
      rw [this]; rfl)
    have h0' : ¬ (0 : Int) < s.size := by omega
    clear h0 he
    go_enter Tryz.func63, Tryz.ntmps63
    go_wp2_with fail
    go_loopw [4, 6] (fun s4 s6 wr => ∃ (j : Nat) (y : Int), 0 ≤ j ∧ j ≤ s.size ∧ j ≤ 10 ∧ s4 = .int .i64 y ∧ s6 = .int .i64 j ∧ Hid (y = valL 0 ((s.data.toList.drop 0).take (j - 0))) ∧ wr = w) (fun _ i _ => s.size - (intOf i).toNat)
    case atStart => exact ⟨0, 0, by omega, by omega, by omega, rfl, rfl, hid (by simp [valL]), rfl⟩
    case round =>
      obtain ⟨j, y, hj0, hj1, hj2, rfl, rfl, HV, rfl⟩ := hrel
      have hy := valL_small (s.data.toList.drop 0) (j - 0) (by rw [List.length_drop]; simp; omega) (by omega)
      rw [← HV.out] at hy
      by_cases hlt : j < s.size ∧ j < 10
      · obtain ⟨hl1, hl2⟩ := hlt
        have hl2' : (j : Int) < 10 := by omega
        have hc := s[j].toNat_lt
        have HN : Hid (10 * y + ((s[j].toNat : Nat) : Int) - 48 = valL 0 ((s.data.toList.drop 0).take (j + 1 - 0))) := hid (by
          have e : (s.data.toList.drop 0)[j - 0]? = some s[j] := by
            rw [List.getElem?_drop, show 0 + (j - 0) = j by omega]; exact sb_index hl1
          rw [show j + 1 - 0 = (j - 0) + 1 by omega, take_snoc e, valL_snoc, HV.out])
        go_wp2_with fail
        exact ⟨⟨j + 1, _, by omega, by omega, by omega, rfl, by go_num, HN, trivial⟩, by simp [intOf]; omega⟩
      · have HS : Hid (valS s.data.toList = y) := hid (by
          have e1 : (s.data.toList.drop 0).take (j - 0) = (s.data.toList.drop 0).take 10 := by
            by_cases h : j = 10
            · rw [h]
            · have hje : j = s.size := by omega
              rw [List.take_of_length_le (by rw [List.length_drop]; simp; omega), List.take_of_length_le (by rw [List.length_drop]; simp; omega)]
          unfold valS
          rw [HNG.out, HV.out, e1]; simp)
        have HDG : Hid (digN s.data.toList = s.size - 0) := hid (by unfold digN; rw [HNG.out]; simp)
        have hb : ((0 : Int) == 1) = false := rfl
        obtain ⟨n, hn⟩ : ∃ n, n = y := ⟨_, rfl⟩
        rw [← hn] at HS
        have hn1 : -229999999977 ≤ n ∧ n ≤ 229999999977 := by omega
        have HD := hid (fun wx : World => ddigits_calls n wx (by omega) (by omega))
        rw [hn] at HD
        have HNN := hid hn
        clear hn HV
        by_cases h9 : s.size ≤ 9
        · have hh9 : (s.size : Int) ≤ 9 := by omega
          by_cases he : j < s.size
          · have he2 : ¬ (j : Int) < 10 := by omega
            go_wp2_with fail
            refine (HD.out _).mono ?_
            rintro _ w1 ⟨rfl, hw⟩
            subst hw
            rw [← HNN.out]
            have hx := str_beq (Lib.itoa n) s
            obtain ⟨x, HX⟩ : ∃ x, Hid (str (Lib.itoa n) = x) := ⟨_, rfl⟩
            rw [HX.out] at hx ⊢
            go_wp2_with fail
            go_ret2
            exact ⟨n, decide (Lib.itoa n = s.data.toList), by first | rfl | (rw [HNN.out]), hid ⟨fun h => (by unfold numF; rw [HS.out, if_pos ⟨by have := HDG.out; omega, of_decide_eq_true h⟩]), fun h => (by unfold numF; rw [HS.out, if_neg (fun h2 => of_decide_eq_false h h2.2)])⟩, Frm.refl _ _⟩
          · go_wp2_with fail
            refine (HD.out _).mono ?_
            rintro _ w1 ⟨rfl, hw⟩
            subst hw
            rw [← HNN.out]
            have hx := str_beq (Lib.itoa n) s
            obtain ⟨x, HX⟩ : ∃ x, Hid (str (Lib.itoa n) = x) := ⟨_, rfl⟩
            rw [HX.out] at hx ⊢
            go_wp2_with fail
            go_ret2
            exact ⟨n, decide (Lib.itoa n = s.data.toList), by first | rfl | (rw [HNN.out]), hid ⟨fun h => (by unfold numF; rw [HS.out, if_pos ⟨by have := HDG.out; omega, of_decide_eq_true h⟩]), fun h => (by unfold numF; rw [HS.out, if_neg (fun h2 => of_decide_eq_false h h2.2)])⟩, Frm.refl _ _⟩
        · have hh9 : ¬ (s.size : Int) ≤ 9 := by omega
          have HZ : Hid (numF s.data.toList = none) := hid (by unfold numF; rw [if_neg (fun h => by have := HDG.out; omega)])
          by_cases he : j < s.size
          · have he2 : ¬ (j : Int) < 10 := by omega
            go_wp2_with fail
            go_ret2
            exact ⟨_, false, rfl, hid ⟨fun h => (by cases h), fun _ => HZ.out⟩, Frm.refl _ _⟩
          · go_wp2_with fail
            go_ret2
            exact ⟨_, false, rfl, hid ⟨fun h => (by cases h), fun _ => HZ.out⟩, Frm.refl _ _⟩
  have HH : Hid (s.data.toList.head? = some s[0]) := hid (by rw [List.head?_eq_getElem?]; exact sb_index h0)
  by_cases hn : s[0].toNat = 45
  · have hb : (((s[0].toNat : Nat) : Int) == 45) = true := by simp [hn]
    have HNG : Hid (isNeg s.data.toList = true) := hid (by
      unfold isNeg; rw [HH.out]
      have : s[0] = 45 := UInt8.toNat_inj.1 hn
      rw [this]; rfl)
    have HQ := hid hn
    clear hn
    go_enter Tryz.func63, Tryz.ntmps63
    go_wp2_with fail
    clear hb
    go_loopw [4, 6] (fun s4 s6 wr => ∃ (j : Nat) (y : Int), 1 ≤ j ∧ j ≤ s.size ∧ j ≤ 11 ∧ s4 = .int .i64 y ∧ s6 = .int .i64 j ∧ Hid (y = valL 0 ((s.data.toList.drop 1).take (j - 1))) ∧ wr = w) (fun _ i _ => s.size - (intOf i).toNat)
    case atStart => exact ⟨1, 0, by omega, by omega, by omega, rfl, rfl, hid (by simp [valL]), rfl⟩
    case round =>
      obtain ⟨j, y, hj0, hj1, hj2, rfl, rfl, HV, rfl⟩ := hrel
      have hy := valL_small (s.data.toList.drop 1) (j - 1) (by rw [List.length_drop]; simp; omega) (by omega)
      rw [← HV.out] at hy
      by_cases hlt : j < s.size ∧ j < 11
      · obtain ⟨hl1, hl2⟩ := hlt
        have hl2' : (j : Int) < 11 := by omega
        have hc := s[j].toNat_lt
        have HN : Hid (10 * y + ((s[j].toNat : Nat) : Int) - 48 = valL 0 ((s.data.toList.drop 1).take (j + 1 - 1))) := hid (by
          have e : (s.data.toList.drop 1)[j - 1]? = some s[j] := by
            rw [List.getElem?_drop, show 1 + (j - 1) = j by omega]; exact sb_index hl1
          rw [show j + 1 - 1 = (j - 1) + 1 by omega, take_snoc e, valL_snoc, HV.out])
        go_wp2_with fail
        exact ⟨⟨j + 1, _, by omega, by omega, by omega, rfl, by go_num, HN, trivial⟩, by simp [intOf]; omega⟩
      · have HS : Hid (valS s.data.toList = -y) := hid (by
          have e1 : (s.data.toList.drop 1).take (j - 1) = (s.data.toList.drop 1).take 10 := by
            by_cases h : j = 11
            · rw [h]
            · have hje : j = s.size := by omega
              rw [List.take_of_length_le (by rw [List.length_drop]; simp; omega), List.take_of_length_le (by rw [List.length_drop]; simp; omega)]
          unfold valS
          rw [HNG.out, HV.out, e1]; simp)
        have HDG : Hid (digN s.data.toList = s.size - 1) := hid (by unfold digN; rw [HNG.out]; simp)
        have hb : ((1 : Int) == 1) = true := rfl
        obtain ⟨n, hn⟩ : ∃ n, n = -y := ⟨_, rfl⟩
        rw [← hn] at HS
        have hn1 : -229999999977 ≤ n ∧ n ≤ 229999999977 := by omega
        have HD := hid (fun wx : World => ddigits_calls n wx (by omega) (by omega))
        rw [hn] at HD
        have HNN := hid hn
        clear hn HV
        by_cases h9 : s.size ≤ 10
        · have hh9 : (s.size : Int) ≤ 10 := by omega
          by_cases he : j < s.size
          · have he2 : ¬ (j : Int) < 11 := by omega
            go_wp2_with fail
            refine (HD.out _).mono ?_
            rintro _ w1 ⟨rfl, hw⟩
            subst hw
            rw [← HNN.out]
            have hx := str_beq (Lib.itoa n) s
            obtain ⟨x, HX⟩ : ∃ x, Hid (str (Lib.itoa n) = x) := ⟨_, rfl⟩
            rw [HX.out] at hx ⊢
            go_wp2_with fail
            go_ret2
            exact ⟨n, decide (Lib.itoa n = s.data.toList), by first | rfl | (rw [HNN.out]), hid ⟨fun h => (by unfold numF; rw [HS.out, if_pos ⟨by have := HDG.out; omega, of_decide_eq_true h⟩]), fun h => (by unfold numF; rw [HS.out, if_neg (fun h2 => of_decide_eq_false h h2.2)])⟩, Frm.refl _ _⟩
          · go_wp2_with fail
            refine (HD.out _).mono ?_
            rintro _ w1 ⟨rfl, hw⟩
            subst hw
            rw [← HNN.out]
            have hx := str_beq (Lib.itoa n) s
            obtain ⟨x, HX⟩ : ∃ x, Hid (str (Lib.itoa n) = x) := ⟨_, rfl⟩
            rw [HX.out] at hx ⊢
            go_wp2_with fail
            go_ret2
            exact ⟨n, decide (Lib.itoa n = s.data.toList), by first | rfl | (rw [HNN.out]), hid ⟨fun h => (by unfold numF; rw [HS.out, if_pos ⟨by have := HDG.out; omega, of_decide_eq_true h⟩]), fun h => (by unfold numF; rw [HS.out, if_neg (fun h2 => of_decide_eq_false h h2.2)])⟩, Frm.refl _ _⟩
        · have hh9 : ¬ (s.size : Int) ≤ 10 := by omega
          have HZ : Hid (numF s.data.toList = none) := hid (by unfold numF; rw [if_neg (fun h => by have := HDG.out; omega)])
          by_cases he : j < s.size
          · have he2 : ¬ (j : Int) < 11 := by omega
            go_wp2_with fail
            go_ret2
            exact ⟨_, false, rfl, hid ⟨fun h => (by cases h), fun _ => HZ.out⟩, Frm.refl _ _⟩
          · go_wp2_with fail
            go_ret2
            exact ⟨_, false, rfl, hid ⟨fun h => (by cases h), fun _ => HZ.out⟩, Frm.refl _ _⟩
  · have hb : (((s[0].toNat : Nat) : Int) == 45) = false := by simp; omega
    have HNG : Hid (isNeg s.data.toList = false) := hid (by
      unfold isNeg; rw [HH.out]
      have : s[0] ≠ 45 := fun e => hn (by rw [e]; rfl)
      simp [this])
    clear hn
    go_enter Tryz.func63, Tryz.ntmps63
    go_wp2_with fail
    clear hb
    go_loopw [4, 6] (fun s4 s6 wr => ∃ (j : Nat) (y : Int), 0 ≤ j ∧ j ≤ s.size ∧ j ≤ 10 ∧ s4 = .int .i64 y ∧ s6 = .int .i64 j ∧ Hid (y = valL 0 ((s.data.toList.drop 0).take (j - 0))) ∧ wr = w) (fun _ i _ => s.size - (intOf i).toNat)
    case atStart => exact ⟨0, 0, by omega, by omega, by omega, rfl, rfl, hid (by simp [valL]), rfl⟩
    case round =>
      obtain ⟨j, y, hj0, hj1, hj2, rfl, rfl, HV, rfl⟩ := hrel
      have hy := valL_small (s.data.toList.drop 0) (j - 0) (by rw [List.length_drop]; simp; omega) (by omega)
      rw [← HV.out] at hy
      by_cases hlt : j < s.size ∧ j < 10
      · obtain ⟨hl1, hl2⟩ := hlt
        have hl2' : (j : Int) < 10 := by omega
        have hc := s[j].toNat_lt
        have HN : Hid (10 * y + ((s[j].toNat : Nat) : Int) - 48 = valL 0 ((s.data.toList.drop 0).take (j + 1 - 0))) := hid (by
          have e : (s.data.toList.drop 0)[j - 0]? = some s[j] := by
            rw [List.getElem?_drop, show 0 + (j - 0) = j by omega]; exact sb_index hl1
          rw [show j + 1 - 0 = (j - 0) + 1 by omega, take_snoc e, valL_snoc, HV.out])
        go_wp2_with fail
        exact ⟨⟨j + 1, _, by omega, by omega, by omega, rfl, by go_num, HN, trivial⟩, by simp [intOf]; omega⟩
      · have HS : Hid (valS s.data.toList = y) := hid (by
          have e1 : (s.data.toList.drop 0).take (j - 0) = (s.data.toList.drop 0).take 10 := by
            by_cases h : j = 10
            · rw [h]
            · have hje : j = s.size := by omega
              rw [List.take_of_length_le (by rw [List.length_drop]; simp; omega), List.take_of_length_le (by rw [List.length_drop]; simp; omega)]
          unfold valS
          rw [HNG.out, HV.out, e1]; simp)
        have HDG : Hid (digN s.data.toList = s.size - 0) := hid (by unfold digN; rw [HNG.out]; simp)
        have hb : ((0 : Int) == 1) = false := rfl
        obtain ⟨n, hn⟩ : ∃ n, n = y := ⟨_, rfl⟩
        rw [← hn] at HS
        have hn1 : -229999999977 ≤ n ∧ n ≤ 229999999977 := by omega
        have HD := hid (fun wx : World => ddigits_calls n wx (by omega) (by omega))
        rw [hn] at HD
        have HNN := hid hn
        clear hn HV
        by_cases h9 : s.size ≤ 9
        · have hh9 : (s.size : Int) ≤ 9 := by omega
          by_cases he : j < s.size
          · have he2 : ¬ (j : Int) < 10 := by omega
            go_wp2_with fail
            refine (HD.out _).mono ?_
            rintro _ w1 ⟨rfl, hw⟩
            subst hw
            rw [← HNN.out]
            have hx := str_beq (Lib.itoa n) s
            obtain ⟨x, HX⟩ : ∃ x, Hid (str (Lib.itoa n) = x) := ⟨_, rfl⟩
            rw [HX.out] at hx ⊢
            go_wp2_with fail
            go_ret2
            exact ⟨n, decide (Lib.itoa n = s.data.toList), by first | rfl | (rw [HNN.out]), hid ⟨fun h => (by unfold numF; rw [HS.out, if_pos ⟨by have := HDG.out; omega, of_decide_eq_true h⟩]), fun h => (by unfold numF; rw [HS.out, if_neg (fun h2 => of_decide_eq_false h h2.2)])⟩, Frm.refl _ _⟩
          · go_wp2_with fail
            refine (HD.out _).mono ?_
            rintro _ w1 ⟨rfl, hw⟩
            subst hw
            rw [← HNN.out]
            have hx := str_beq (Lib.itoa n) s
            obtain ⟨x, HX⟩ : ∃ x, Hid (str (Lib.itoa n) = x) := ⟨_, rfl⟩
            rw [HX.out] at hx ⊢
            go_wp2_with fail
            go_ret2
            exact ⟨n, decide (Lib.itoa n = s.data.toList), by first | rfl | (rw [HNN.out]), hid ⟨fun h => (by unfold numF; rw [HS.out, if_pos ⟨by have := HDG.out; omega, of_decide_eq_true h⟩]), fun h => (by unfold numF; rw [HS.out, if_neg (fun h2 => of_decide_eq_false h h2.2)])⟩, Frm.refl _ _⟩
        · have hh9 : ¬ (s.size : Int) ≤ 9 := by omega
          have HZ : Hid (numF s.data.toList = none) := hid (by unfold numF; rw [if_neg (fun h => by have := HDG.out; omega)])
          by_cases he : j < s.size
          · have he2 : ¬ (j : Int) < 10 := by omega
            go_wp2_with fail
            go_ret2
            exact ⟨_, false, rfl, hid ⟨fun h => (by cases h), fun _ => HZ.out⟩, Frm.refl _ _⟩
          · go_wp2_with fail
            go_ret2
            exact ⟨_, false, rfl, hid ⟨fun h => (by cases h), fun _ => HZ.out⟩, Frm.refl _ _⟩
end Go.Proofs.YtonlmkcolndaaaaGreatDoor
