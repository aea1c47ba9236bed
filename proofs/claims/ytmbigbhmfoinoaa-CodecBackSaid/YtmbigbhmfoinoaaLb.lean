/- CodecBack: what is written is read as it was. The walk of the law, for every int, string and list of ints. -/
import Derived.Test.YtmbigbhmfoinoaaLq
import Derived.Test.YtmbigbhmfoinoaaCl
import Derived.Test.YtmbigbhmfoinoaaSm
import Derived.Deep.DeepCutAuto
namespace Go.Proofs.Ytmbigbhmfoinoaa
set_option linter.unusedVariables false
set_option linter.unusedSimpArgs false
open Go.RowKit Cp

theorem cut_size (s : ByteArray) (k : Nat) (h : k ≤ s.size) : (s.extract 0 k).size = k := by simp; omega

set_option maxRecDepth 100000 in
set_option maxHeartbeats 4000000 in
theorem codecBack_walk (W : World) (n : Int) (wn : (Lit.int .i64 n).wf = true) (s : ByteArray) (ws : s.size ≤ maxLen) (v : Value) (l : List Int) (hr : Rd W 1 v l.length (ints .i64 l)) (hwf : ∀ x ∈ l, (Lit.int .i64 x).wf = true) :
    Calls Try.prog 9 #[.int .i64 n, .string s, v] W fun e w' => e = .returned (.bool true) ∧ Below W.heap.size W w' := by
  obtain ⟨a, c, rfl, hab⟩ := hr.shape
  obtain ⟨_, hc1, hc2⟩ := hr.cap
  have HR := hid hr
  have hn := wf_i64 wn
  unfold maxLen at ws
  clear hr hwf wn
  go_enter Try.func9, Try.ntmps9
  go_wp2_with fail
  refine (lives_calls W).mono ?_
  rintro e w1 ⟨rfl, hf1⟩
  have HF1 := hid hf1
  clear hf1
  go_upto_region 3 with fail
  go_cut [1, 2] (fun s1 s2 wx => ∃ (s' : ByteArray) (v' : Value) (l' : List Int), s1 = .string s' ∧ s2 = v' ∧ s'.size ≤ 64 ∧ l'.length ≤ 64 ∧ Hid (Rd W 1 v' l'.length (ints .i64 l')) ∧ Hid (Frm M0 W wx))
  case first =>
    have hs64 : 64 < s.size → (s.extract 0 64).size ≤ 64 := fun h => by rw [cut_size s 64 (by omega)]; exact Nat.le_refl _
    have hl64 : (l.take 64).length ≤ 64 := by rw [List.length_take]; omega
    have HS64 := hid hs64
    clear hs64
    by_cases h1 : s.size ≤ 64
    · by_cases h2 : l.length ≤ 64
      · go_quiet (fail)
        go_wp2_with fail
        go_meet
        exact ⟨s, _, l, rfl, rfl, h1, h2, hid (HR.out), hid (HF1.out.drewN nq)⟩
      · obtain ⟨b, o, rfl⟩ := hab (by omega)
        go_quiet (fail)
        go_wp2_with fail
        go_meet
        exact ⟨s, _, l.take 64, rfl, rfl, h1, hl64, hid ((HR.out).take 64 (by omega)), hid (HF1.out.drewN nq)⟩
    · by_cases h2 : l.length ≤ 64
      · go_quiet (fail)
        go_wp2_with fail
        go_meet
        exact ⟨_, _, l, rfl, rfl, HS64.out (by omega), h2, hid (HR.out), hid (HF1.out.drewN nq)⟩
      · obtain ⟨b, o, rfl⟩ := hab (by omega)
        go_quiet (fail)
        go_wp2_with fail
        go_meet
        exact ⟨_, _, l.take 64, rfl, rfl, HS64.out (by omega), hl64, hid ((HR.out).take 64 (by omega)), hid (HF1.out.drewN nq)⟩
  case rest =>
    obtain ⟨s', v', l', rfl, rfl, hs', hl', HR', HF'⟩ := hcut
    obtain ⟨a', c', rfl, hab'⟩ := HR'.out.shape
    have hnil : Rd wc 1 (.slice none 0 0) ([] : List Int).length (ints .u8 []) := Rd.nil _ _
    cases hm : mayB n with
    | false =>
      have HM := hid (mayB_false hm)
      go_wp2_with fail
      refine (number_bad (.slice none 0 0) [] n wc (by simp) hnil hm).mono ?_
      rintro e w2 ⟨rfl, rfl⟩
      clear hm
      go_wp2_with fail
      refine (text_ok (.slice none 0 0) [] s' wc (by simp) hnil hs').mono ?_
      rintro e w3 ⟨v3, rfl, ho3, hb3⟩
      have HO3 := hid ho3
      have HF3 := hid (HF'.out.then0 (Frm.ofBelow hb3 (fun k h1 h2 => by omega)))
      have HR3 := hid (HR'.out.frm0 HF3.out)
      have hlen3 : ([] ++ dig s'.size ++ sb s').length ≤ 900000 := by
        have := dig_len9 (n := s'.size) (by omega)
        have := sb_len s'
        simp only [List.nil_append, List.length_append]; omega
      clear ho3 hb3
      cases ha : allB l' with
      | true =>
        go_wp2_with fail
        refine (list_ok v3 _ _ l' w3 hlen3 (Rd.ofOwns HO3.out) hl' HR3.out ha).mono ?_
        rintro e w4 ⟨v4, rfl, ho4, hb4⟩
        have HF4 := hid (HF3.out.then0 (Frm.ofBelow hb4 (fun k h1 h2 => by omega)))
        clear ho4 hb4 ha
        rcases HM.out with hlt | hgt
        · go_wp2_with fail
          go_ret
          exact ⟨rfl, HF4.out.below⟩
        · have hnn : ¬ n < 0 := by omega
          go_wp2_with fail
          go_ret
          exact ⟨rfl, HF4.out.below⟩
      | false =>
        go_wp2_with fail
        refine (list_bad v3 _ l' w3 hl' HR3.out ha).mono ?_
        rintro e w4 ⟨rfl, rfl⟩
        clear ha
        rcases HM.out with hlt | hgt
        · go_wp2_with fail
          go_ret
          exact ⟨rfl, HF3.out.below⟩
        · have hnn : ¬ n < 0 := by omega
          go_wp2_with fail
          go_ret
          exact ⟨rfl, HF3.out.below⟩
    | true =>
      have hb := mayB_true hm
      go_wp2_with fail
      refine (number_ok (.slice none 0 0) [] n wc (by simp) hnil hm).mono ?_
      rintro e w2 ⟨v2, rfl, ho2, hb2⟩
      have HM := hid hm
      have HO2 := hid ho2
      have HF2 := hid (HF'.out.then0 (Frm.ofBelow hb2 (fun k h1 h2 => by omega)))
      have HR2 := hid (HR'.out.frm0 HF2.out)
      have hl2 : ([] ++ dig n.toNat).length ≤ 9 := dig_len9 (n := n.toNat) (by omega)
      have hdn : Hid (([] : List Int) ++ dig n.toNat = dig n.toNat) := List.nil_append _
      clear hm ho2 hb2
      go_wp2_with fail
      refine (text_ok v2 _ s' w2 (by omega) (Rd.ofOwns HO2.out) hs').mono ?_
      rintro e w3 ⟨v3, rfl, ho3, hb3⟩
      have HO3 := hid ho3
      have HF3 := hid (HF2.out.then0 (Frm.ofBelow hb3 (fun k h1 h2 => by omega)))
      have HR3 := hid (HR'.out.frm0 HF3.out)
      have hlen3 : ([] ++ dig n.toNat ++ dig s'.size ++ sb s').length ≤ 900000 := by
        have := dig_len9 (n := s'.size) (by omega)
        have := sb_len s'
        rw [List.length_append, List.length_append]; omega
      clear ho3 hb3
      cases ha : allB l' with
      | false =>
        go_wp2_with fail
        refine (list_bad v3 _ l' w3 hl' HR3.out ha).mono ?_
        rintro e w4 ⟨rfl, rfl⟩
        clear ha
        have hnn : ¬ n < 0 := by omega
        have hng : ¬ 4611686018427387903 < n := by omega
        go_wp2_with fail
        go_ret
        exact ⟨rfl, HF3.out.below⟩
      | true =>
        have HA := hid ha
        go_wp2_with fail
        refine (list_ok v3 _ _ l' w3 hlen3 (Rd.ofOwns HO3.out) hl' HR3.out ha).mono ?_
        rintro e w4 ⟨v4, rfl, ho4, hb4⟩
        have HO4 := hid ho4
        have HF4 := hid (HF3.out.then0 (Frm.ofBelow hb4 (fun k h1 h2 => by omega)))
        have HR4 := hid (HR'.out.frm0 HF4.out)
        have hbig : ([] ++ dig n.toNat ++ dig s'.size ++ sb s' ++ dig l'.length ++ digs l').length ≤ 1000000 := by
          have := dig_len9 (n := l'.length) (by omega)
          have := digs_len l' (allB_le HA.out)
          rw [List.length_append, List.length_append]; omega
        have hby : Hid (∀ x ∈ [] ++ dig n.toNat ++ dig s'.size ++ sb s' ++ dig l'.length ++ digs l', 0 ≤ x ∧ x < 256) := by
          intro x hx
          rcases List.mem_append.1 hx with hx | hx
          · rcases List.mem_append.1 hx with hx | hx
            · rcases List.mem_append.1 hx with hx | hx
              · rcases List.mem_append.1 hx with hx | hx
                · exact dig_bytes _ x hx
                · exact dig_bytes _ x hx
              · exact sb_byte s' x hx
            · exact dig_bytes _ x hx
          · exact digs_bytes _ x hx
        clear ho4 hb4 ha
        go_wp2_with fail
        refine (read_calls v4 _ w4 hbig (Rd.ofOwns HO4.out) hby.out).mono ?_
        rintro e w5 ⟨rb, rfl, hrb, hr5, hf5⟩
        have e5 : [] ++ dig n.toNat ++ dig s'.size ++ sb s' ++ dig l'.length ++ digs l' = dig n.toNat ++ (dig s'.size ++ sb s' ++ (dig l'.length ++ digs l')) := by simp [List.append_assoc]
        rw [e5] at hr5
        have HR5 := hid hr5
        have HF5 := hid (HF4.out.then0 hf5)
        have HL5 := hid (HR'.out.frm0 HF5.out)
        have hge : W.heap.size ≤ rb := Nat.le_trans HF4.out.size hrb
        clear hr5 hf5 e5
        go_wp2_with fail
        refine (rnum_calls rb _ 0 w5 HR5.out).mono ?_
        rintro e w6 ⟨rfl, hr6, hf6⟩
        rw [getF_dig hb.1 hb.2] at hr6 ⊢
        have HR6 := hid hr6
        have HF6 := hid (HF5.out.trans hf6 (fun b hlt e => by omega))
        have HL6 := hid (HR'.out.frm0 HF6.out)
        clear hr6 hf6
        go_wp2_with fail
        refine (rtext0_calls rb _ w6 HR6.out).mono ?_
        rintro e w7 ⟨rfl, hr7, hf7⟩
        have et : textF (dig s'.size ++ sb s' ++ (dig l'.length ++ digs l')) = (sb s', dig l'.length ++ digs l', 0) := by
          have := textF_sb (sb s') (dig l'.length ++ digs l') (by rw [sb_len]; exact hs')
          rw [sb_len] at this; exact this
        simp only [] at hr7 ⊢
        rw [et] at hr7 ⊢
        simp only [] at hr7 ⊢
        rw [strOfNums_sb]
        have HR7 := hid hr7
        have HF7 := hid (HF6.out.trans hf7 (fun b hlt e => by omega))
        have HL7 := hid (HR'.out.frm0 HF7.out)
        clear hr7 hf7 et
        go_wp2_with fail
        refine (rlist0_calls rb _ w7 HR7.out).mono ?_
        rintro e w8 ⟨v8, rfl, ho8, hr8, hf8⟩
        have el : listF (dig l'.length ++ digs l') = (l', [], 0) := by
          have := listF_digs l' [] (allB_le HA.out) hl'
          rw [List.append_nil] at this; exact this
        rw [el] at ho8 hr8
        simp only [] at ho8 hr8
        have HO8 := hid ho8
        have HR8 := hid hr8
        have HF8 := hid (HF7.out.trans hf8 (fun b hlt e => by omega))
        have HL8 := hid (HR'.out.frm0 HF8.out)
        clear ho8 hr8 hf8 el
        go_wp2_with fail
        refine (same_calls v8 _ l' w8 (by omega) (Rd.ofOwns HO8.out) HL8.out).mono ?_
        rintro e w9 ⟨rfl, hf9⟩
        have HR9 := hid (HR8.out.frm0 hf9)
        have HF9 := hid (HF8.out.then0 hf9)
        clear hf9
        go_wp2_with fail
        refine (end_calls rb [] 0 w9 HR9.out).mono ?_
        rintro e w10 ⟨rfl, rfl⟩
        have he : endF [] 0 = 0 := by decide
        rw [he]
        clear he
        go_wp2_with fail
        refine (left_calls rb [] 0 w9 HR9.out).mono ?_
        rintro e w10 ⟨rfl, rfl⟩
        go_wp2_with fail
        go_ret
        exact ⟨rfl, HF9.out.below⟩
end Go.Proofs.Ytmbigbhmfoinoaa
