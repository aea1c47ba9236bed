/- The walks of the reference's writers (May, digits, both, Number, Text, List): they end in the plain lists that Cp tells. -/
import Derived.Test.YtinbidmgllmglaaDoorCd
namespace Go.Proofs.YtinbidmgllmglaaDoor
set_option linter.unusedVariables false
set_option linter.unusedSimpArgs false
set_option maxRecDepth 20000
open Go.RowKit Cp

theorem rmay_calls (n : Int) (w : World) : Calls Tryd.prog 64 #[.int .i64 n] w fun e w' => e = .returned (.bool (mayB n)) ∧ w = w' := by
  by_cases h0 : 0 ≤ n
  · go_enter Tryd.func64, Tryd.ntmps64
    go_wp2
    go_ret
    exact ⟨by unfold mayB MAX; rw [decide_eq_true h0]; simp, rfl⟩
  · go_enter Tryd.func64, Tryd.ntmps64
    go_wp2
    go_ret
    exact ⟨by unfold mayB; rw [decide_eq_false (by omega)]; simp, rfl⟩

set_option maxRecDepth 100000 in
set_option maxHeartbeats 1000000 in
theorem rdigits_calls (n : Nat) (w : World) (hn : n ≤ 4611686018427387903) :
    Calls Tryd.prog 66 #[.int .i64 n] w fun e w' => ∃ v', e = .returned v' ∧ w'.ownsRow w.heap.size 5 1 v' (dig n).length (ints .u8 (dig n)) ∧ Below w.heap.size w w' := by
  go_enter Tryd.func66, Tryd.ntmps66
  go_wp2
  go_loopw [0, 3] (fun n1 v1 w1 => ∃ (l1 : List Int) (m : Nat), n1 = .int .i64 m ∧ m ≤ 4611686018427387903 ∧ Hid (l1 ++ dig m = dig n) ∧ Hid (l1.length + (dig m).length = (dig n).length) ∧ Hid (w1.ownsRow w.heap.size 5 1 v1 l1.length (ints .u8 l1)) ∧ Hid (Below w.heap.size w w1)) (fun n1 _ _ => (intOf n1).toNat)
  case atStart => exact ⟨[], n, rfl, hn, hid rfl, hid (by simp), hid (World.ownsRow_nil _ _ _ _), hid (Below.refl _ _)⟩
  case round =>
    obtain ⟨l1, m, rfl, hm, HE, HL, HO1, HB⟩ := hrel
    have hd9 := dig_len9 hn
    have hlen : l1.length ≤ 9 := by have := HL.out; have := dig_len_pos m; omega
    have hbs : w.heap.size ≤ wr.heap.size := HB.out.size
    by_cases h : 128 ≤ m
    · go_wp2_with (first | (at_builtin; refine wpList_push_int rfl (.tmp 6) (.tmp 11) 29 rfl w.heap.size 5 .u8 1 Tryd.underlying29 info5 _ l1 _ rfl HO1.out rfl (by unfold maxLen; omega) (by omega) hbs ?_; intro v2 w2 ho2 hg2))
      refine ⟨⟨l1 ++ [128 + ((m % 128 : Nat) : Int)], m / 128, by go_num, by omega, hid ?_, hid ?_, hid ?_, hid ?_⟩, ?_⟩
      · rw [← HE.out, dig_ge h]; simp
      · rw [← HL.out, dig_ge h]; simp; omega
      · have e : l1 ++ [128 + ((m % 128 : Nat) : Int)] = l1 ++ [128 + (m : Int) % 128] := by congr 2
        rw [e]; exact ho2
      · exact HB.out.grown hg2 hbs (fun k hk => (HO1.out.lt k hk).1)
      · simp [intOf]; omega
    · go_wp2_with (first | (at_builtin; refine wpList_push_int rfl (.tmp 15) (.tmp 18) 29 rfl w.heap.size 5 .u8 1 Tryd.underlying29 info5 _ l1 _ rfl HO1.out rfl (by unfold maxLen; omega) (by omega) hbs ?_; intro v2 w2 ho2 hg2))
      go_ret
      have e : l1 ++ [((m : Nat) : Int)] = dig n := by rw [← HE.out, dig_lt (by omega)]
      rw [e] at ho2
      exact ⟨_, rfl, ho2, HB.out.grown hg2 hbs (fun k hk => (HO1.out.lt k hk).1)⟩

theorem both_calls (va vb : Value) (a b : List Int) (w : World) (hab : a.length + b.length ≤ 4000000) (hra : Rd w 1 va a.length (ints .u8 a)) (hrb : Rd w 1 vb b.length (ints .u8 b)) :
    Calls Tryd.prog 65 #[va, vb] w fun e w' => ∃ v', e = .returned v' ∧ w'.ownsRow w.heap.size 5 1 v' (a ++ b).length (ints .u8 (a ++ b)) ∧ Below w.heap.size w w' := by
  have HA := hid hra
  have HB := hid hrb
  clear hra hrb
  go_enter Tryd.func65, Tryd.ntmps65
  go_wp2_with (first | (at_builtin; refine wpList_push_ints rfl (.tmp 6) (.tmp 7) 29 rfl w.heap.size 5 .u8 1 Tryd.underlying29 info5 _ [] rfl (World.ownsRow_nil _ _ _ _) va a rfl HA.out (by simp; omega) (by simp; omega) (Nat.le_refl _) ?_; intro v2 w2 ho2 hg2; have HO2 := hid ho2; have HF := hid (show Frm M0 w w2 from (Frm.refl _ _).grown hg2 (fun k hk => by cases hk)); clear ho2 hg2) | (at_builtin; refine wpList_push_ints rfl (.tmp 9) (.tmp 10) 29 rfl w.heap.size 5 .u8 1 Tryd.underlying29 info5 _ a rfl HO2.out vb b rfl (HB.out.frm0 HF.out) (by omega) (by omega) HF.out.size ?_; intro v3 w3 ho3 hg3; have HO3 := hid ho3; have HG := hid hg3; clear ho3 hg3))
  go_ret
  exact ⟨_, rfl, HO3.out, HF.out.below.grown HG.out HF.out.size (fun k hk => (HO2.out.lt k hk).1)⟩

theorem rnumber_ok (v : Value) (l : List Int) (n : Int) (w : World) (hl : l.length ≤ 1000000) (hr : Rd w 1 v l.length (ints .u8 l)) (hm : mayB n = true) :
    Calls Tryd.prog 35 #[v, .int .i64 n] w fun e w' => ∃ v', e = .returned (.tuple #[v', .int .i64 0]) ∧ w'.ownsRow w.heap.size 5 1 v' (l ++ dig n.toNat).length (ints .u8 (l ++ dig n.toNat)) ∧ Below w.heap.size w w' := by
  have h0 := mayB_true hm
  obtain ⟨m, rfl⟩ := Int.eq_ofNat_of_zero_le h0.1
  rw [Int.toNat_natCast]
  have hd := dig_len9 (n := m) (by omega)
  have HM := hid hm
  have HR := hid hr
  clear hm hr
  go_enter Tryd.func35, Tryd.ntmps35
  go_wp2_with fail
  refine (rmay_calls _ _).mono ?_
  rintro e w' ⟨rfl, rfl⟩
  rw [HM.out]
  go_wp2_with fail
  refine (rdigits_calls m w (by omega)).mono ?_
  rintro e w1 ⟨v1, rfl, ho1, hb1⟩
  go_wp2_with fail
  refine (both_calls v v1 l (dig m) w1 (by omega) (HR.out.frm0 (Frm.ofBelow hb1 (fun k h1 h2 => by omega))) (Rd.ofOwns ho1)).mono ?_
  rintro e w2 ⟨v2, rfl, ho2, hb2⟩
  clear ho1
  go_wp2
  go_ret2
  have hs := hb1.size
  exact ⟨_, rfl, owns_base ho2 hs, hb1.trans (hb2.mono hs)⟩

theorem rnumber_bad (v : Value) (n : Int) (w : World) (hm : mayB n = false) :
    Calls Tryd.prog 35 #[v, .int .i64 n] w fun e w' => e = .returned (.tuple #[v, .int .i64 1]) ∧ w = w' := by
  have HM := hid hm
  clear hm
  go_enter Tryd.func35, Tryd.ntmps35
  go_wp2_with fail
  refine (rmay_calls _ _).mono ?_
  rintro e w' ⟨rfl, rfl⟩
  rw [HM.out]
  go_wp2
  go_ret2
  exact ⟨rfl, rfl⟩

theorem rtext_ok (v : Value) (l : List Int) (s : ByteArray) (w : World) (hl : l.length ≤ 900000) (hr : Rd w 1 v l.length (ints .u8 l)) (hs : s.size ≤ 64) :
    Calls Tryd.prog 36 #[v, .string s] w fun e w' =>
      ∃ v', e = .returned (.tuple #[v', .int .i64 0]) ∧ w'.ownsRow w.heap.size 5 1 v' (l ++ dig s.size ++ sb s).length (ints .u8 (l ++ dig s.size ++ sb s)) ∧ Below w.heap.size w w' := by
  have hd := dig_len9 (n := s.size) (by omega)
  have hsl := sb_len s
  have HR := hid hr
  clear hr
  go_enter Tryd.func36, Tryd.ntmps36
  go_wp2_with fail
  refine (rdigits_calls s.size w (by omega)).mono ?_
  rintro e w1 ⟨v1, rfl, ho1, hb1⟩
  go_wp2_with fail
  refine (both_calls v v1 l (dig s.size) w1 (by omega) (HR.out.frm0 (Frm.ofBelow hb1 (fun k h1 h2 => by omega))) (Rd.ofOwns ho1)).mono ?_
  rintro e w2 ⟨v2, rfl, ho2, hb2⟩
  have HO2 := hid ho2
  have HB := hid (hb1.trans (hb2.mono hb1.size))
  have hlen : (l ++ dig s.size).length ≤ 900009 := by rw [List.length_append]; omega
  clear ho1 ho2 hb1 hb2
  go_wp2_with ((with_reducible refine wpList_conv rfl (.tmp 15) 9 29 5 rfl Tryd.underlying9 Tryd.underlying29 Tryd.underlying5 s rfl (by omega) ?_); intro v3 w3 hr3 hf3 hn3; have HR3 := hid hr3; have HF3 := hid hf3; clear hr3 hf3 hn3)
  refine (both_calls v2 v3 (l ++ dig s.size) (sb s) w3 (by omega) ((Rd.ofOwns HO2.out).frm0 HF3.out) HR3.out).mono ?_
  rintro e w4 ⟨v4, rfl, ho4, hb4⟩
  have hs3 : w.heap.size ≤ w3.heap.size := Nat.le_trans HB.out.size HF3.out.size
  have HO4 := hid (owns_base ho4 hs3)
  have HB4 := hid ((HB.out.trans (HF3.out.below.mono HB.out.size)).trans (hb4.mono hs3))
  clear ho4 hb4
  go_wp2
  go_ret2
  exact ⟨_, rfl, HO4.out, HB4.out⟩

theorem rtext_bad (v : Value) (s : ByteArray) (w : World) (hs : 64 < s.size) (hs2 : s.size ≤ 140737488355328) :
    Calls Tryd.prog 36 #[v, .string s] w fun e w' => e = .returned (.tuple #[v, .int .i64 12]) ∧ w = w' := by
  go_enter Tryd.func36, Tryd.ntmps36
  go_wp2
  go_ret2
  exact ⟨rfl, rfl⟩

set_option maxRecDepth 100000 in
set_option maxHeartbeats 1000000 in
theorem rlist_calls (v vl : Value) (l xs : List Int) (w : World) (hl : l.length ≤ 900000) (hr : Rd w 1 v l.length (ints .u8 l)) (hx : xs.length ≤ 64) (hrx : Rd w 1 vl xs.length (ints .i64 xs)) :
    Calls Tryd.prog 37 #[v, vl] w fun e w' => Below w.heap.size w w' ∧
      ((allB xs = true ∧ ∃ v', e = .returned (.tuple #[v', .int .i64 0]) ∧ w'.ownsRow w.heap.size 5 1 v' (l ++ dig xs.length ++ digs xs).length (ints .u8 (l ++ dig xs.length ++ digs xs))) ∨
       (allB xs = false ∧ e = .returned (.tuple #[v, .int .i64 1]))) := by
  have hd := dig_len9 (n := xs.length) (by omega)
  have HX := hid hrx
  have HR := hid hr
  obtain ⟨a, c, rfl, hab⟩ := hrx.shape
  clear hr hrx
  go_enter Tryd.func37, Tryd.ntmps37
  go_wp2_with fail
  refine (rdigits_calls xs.length w (by omega)).mono ?_
  rintro e w1 ⟨v1, rfl, ho1, hb1⟩
  go_wp2_with fail
  refine (both_calls v v1 l (dig xs.length) w1 (by omega) (HR.out.frm0 (Frm.ofBelow hb1 (fun k h1 h2 => by omega))) (Rd.ofOwns ho1)).mono ?_
  rintro e w2 ⟨v2, rfl, ho2, hb2⟩
  have HO2 := hid (owns_base ho2 hb1.size)
  have HB := hid (hb1.trans (hb2.mono hb1.size))
  have hlen : (l ++ dig xs.length).length ≤ 900009 := by rw [List.length_append]; omega
  clear ho1 ho2 hb1 hb2
  go_wp2_with fail
  go_loopw [6, 7] (fun v6 i7 wr => ∃ k : Nat, k ≤ xs.length ∧ i7 = .int .i64 k ∧ Hid (allB (xs.take k) = true) ∧ Hid (wr.ownsRow w.heap.size 5 1 v6 (l ++ dig xs.length ++ digs (xs.take k)).length (ints .u8 (l ++ dig xs.length ++ digs (xs.take k)))) ∧ Hid (Below w.heap.size w wr)) (fun _ i _ => xs.length - (intOf i).toNat)
  case atStart => exact ⟨0, Nat.zero_le _, rfl, hid rfl, by simpa [digs] using HO2, HB⟩
  case round =>
    obtain ⟨k, hk, rfl, HA, HO, HB⟩ := hrel
    by_cases hlt : k < xs.length
    · obtain ⟨b, o, rfl⟩ := hab (by omega)
      obtain ⟨x, HK, hc⟩ := (HX.out.frm0 (Frm.ofBelow HB.out (fun k h1 h2 => by omega))).cellAt k hlt
      have hsz := HB.out.size
      have htk := digs_len (xs.take k) (fun x hx => allB_le HA.out x hx)
      have htl : (xs.take k).length ≤ 64 := by rw [List.length_take]; omega
      go_wp2_with fail
      refine (rmay_calls _ _).mono ?_
      rintro e w' ⟨rfl, rfl⟩
      cases hm : mayB x with
      | true =>
        have hml := mayB_true hm
        obtain ⟨m, rfl⟩ := Int.eq_ofNat_of_zero_le hml.1
        have hm2 : m ≤ 4611686018427387903 := by omega
        have hd2 := dig_len9 hm2
        have HM := hid hm
        clear hm
        go_wp2_with fail
        refine (rdigits_calls m wr hm2).mono ?_
        rintro e w3 ⟨v3, rfl, ho4, hb4⟩
        have hOO : w3.ownsRow w.heap.size 5 1 u6 (l ++ dig xs.length ++ digs (xs.take k)).length (ints .u8 (l ++ dig xs.length ++ digs (xs.take k))) :=
          (Frm.ofBelow (M := M0) hb4 (fun k h1 h2 => by omega)).owns HO.out (fun _ _ h => h)
        have HOO := hid hOO
        have HO4 := hid (Rd.ofOwns ho4)
        have HB4 := hid (HB.out.trans (hb4.mono hsz))
        have hlen2 : (l ++ dig xs.length ++ digs (xs.take k)).length ≤ 900009 + 9 * 64 := by rw [List.length_append]; omega
        clear ho4 hb4 hOO
        go_wp2_with (first | (at_builtin; refine wpList_push_ints rfl (.tmp 32) (.tmp 37) 29 rfl w.heap.size 5 .u8 1 Tryd.underlying29 info5 _ (l ++ dig xs.length ++ digs (xs.take k)) rfl HOO.out v3 (dig m) rfl HO4.out (by omega) (by omega) HB4.out.size ?_; intro v5 w5 ho5 hg5; have HO5 := hid ho5; have HG5 := hid hg5; clear ho5 hg5))
        refine ⟨⟨k + 1, by omega, by go_num, hid (allB_take HA.out HK.out HM.out), hid ?_, hid (HB4.out.grown HG5.out HB4.out.size (fun k hk => (HOO.out.lt k hk).1))⟩, by simp [intOf]; omega⟩
        have e : digs (xs.take (k + 1)) = digs (xs.take k) ++ dig m := by rw [take_snoc HK.out, digs_app]; simp [digs]
        rw [e, ← List.append_assoc]
        exact HO5.out
      | false =>
        have HM := hid hm
        clear hm
        go_wp2_with fail
        go_ret2
        exact ⟨HB.out, .inr ⟨allB_not HK.out HM.out, rfl⟩⟩
    · go_wp2_with fail
      go_ret2
      have e : xs.take k = xs := List.take_of_length_le (by omega)
      have h5 := HO.out
      have h6 := HA.out
      rw [e] at h5 h6
      exact ⟨HB.out, .inl ⟨h6, _, rfl, h5⟩⟩
theorem rlist_over (v : Value) (a : Option Addr) (n c : Nat) (w : World) (hx : 64 < n) (hn : n ≤ 140737488355328) :
    Calls Tryd.prog 37 #[v, .slice a n c] w fun e w' => e = .returned (.tuple #[v, .int .i64 12]) ∧ w = w' := by
  go_enter Tryd.func37, Tryd.ntmps37
  go_wp2_with fail
  go_ret2
  exact ⟨rfl, rfl⟩
end Go.Proofs.YtinbidmgllmglaaDoor
