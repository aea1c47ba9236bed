/- The walks of codec's writers: may, digits, Clone, Number, Text, List, Size. Each ends in the plain list that Cp tells. -/
import Derived.Test.YtinbidmgllmglaaDoorFr
import Derived.Test.YtinbidmgllmglaaDoorCp
namespace Go.Proofs.YtinbidmgllmglaaDoor
set_option linter.unusedVariables false
set_option linter.unusedSimpArgs false
set_option maxRecDepth 20000
open Go.RowKit Cp

def sizeF (n : Int) : Int := if mayB n = true then ((dig n.toNat).length : Int) else 0

theorem info5 : (Tryd.prog.info? 5).map (fun i => (i.zero, i.size, i.bytes)) = some (some (.int .u8 0), 1, 1) := by kernel_rfl

/-- A slice held against nil. -/
theorem eqNilB (w : World) (a : Option Addr) (n c n' c' : Nat) : (binOp .eql 29 (.slice a n c) (.slice none n' c')).run Tryd.prog w = .ok (.bool a.isNone) w := Lib.run_eql_slice_nil w _ 5 a n c n' c' Tryd.underlying29
attribute [local go_sem] eqNilB

theorem may_calls (n : Int) (w : World) : Calls Tryd.prog 59 #[.int .i64 n] w fun e w' => e = .returned (.bool (mayB n)) ∧ w = w' := by
  by_cases h0 : 0 ≤ n
  · go_enter Tryd.func59, Tryd.ntmps59
    go_wp2
    go_ret
    exact ⟨by unfold mayB MAX; rw [decide_eq_true h0]; simp, rfl⟩
  · go_enter Tryd.func59, Tryd.ntmps59
    go_wp2
    go_ret
    exact ⟨by unfold mayB; rw [decide_eq_false (by omega)]; simp, rfl⟩

theorem or128 (m : Nat) : bits .or .u8 ((m : Int) % 256) 128 = 128 + ((m % 128 : Nat) : Int) := by
  have h : ∀ k : Fin 256, bits .or .u8 ((k.val : Nat) : Int) 128 = 128 + ((k.val % 128 : Nat) : Int) := by decide +kernel
  have e : ((m : Int) % 256) = ((m % 256 : Nat) : Int) := by omega
  rw [e, h ⟨m % 256, by omega⟩]
  simp only
  congr 2
  omega

set_option maxRecDepth 100000 in
set_option maxHeartbeats 1000000 in
theorem digits_calls (B : Nat) (v : Value) (l : List Int) (n : Nat) (w : World) (hn : n ≤ 4611686018427387903) (hl : l.length ≤ 1000000) (hB : B ≤ w.heap.size)
    (ho : w.ownsRow B 5 1 v l.length (ints .u8 l)) :
    Calls Tryd.prog 60 #[v, .int .i64 n] w fun e w' => ∃ v', e = .returned v' ∧ w'.ownsRow B 5 1 v' (l ++ dig n).length (ints .u8 (l ++ dig n)) ∧ Below B w w' := by
  have HO := hid ho
  clear ho
  go_enter Tryd.func60, Tryd.ntmps60
  go_wp2
  go_loopw [0, 1] (fun v1 n1 w1 => ∃ (l1 : List Int) (m : Nat), n1 = .int .i64 m ∧ m ≤ 4611686018427387903 ∧ Hid (l1 ++ dig m = l ++ dig n) ∧ Hid (l1.length + (dig m).length = l.length + (dig n).length) ∧ Hid (w1.ownsRow B 5 1 v1 l1.length (ints .u8 l1)) ∧ Hid (Below B w w1)) (fun _ n1 _ => (intOf n1).toNat)
  case atStart => exact ⟨l, n, rfl, hn, hid rfl, hid rfl, HO, hid (Below.refl _ _)⟩
  case round =>
    obtain ⟨l1, m, rfl, hm, HE, HL, HO1, HB⟩ := hrel
    have hd9 := dig_len9 hn
    have hlen : l1.length ≤ 1000009 := by have := HL.out; have := dig_len_pos m; omega
    have hbs : B ≤ wr.heap.size := Nat.le_trans hB HB.out.size
    by_cases h : 128 ≤ m
    · go_wp2_with (first | (at_builtin; refine wpList_push_int rfl (.tmp 9) (.tmp 13) 29 rfl B 5 .u8 1 Tryd.underlying29 info5 _ l1 _ rfl HO1.out rfl (by unfold maxLen; omega) (by omega) hbs ?_; intro v2 w2 ho2 hg2))
      refine ⟨⟨l1 ++ [128 + ((m % 128 : Nat) : Int)], m / 128, by go_num, by omega, hid ?_, hid ?_, hid ?_, hid ?_⟩, ?_⟩
      · rw [← HE.out, dig_ge h]; simp
      · rw [← HL.out, dig_ge h]; simp; omega
      · rw [or128] at ho2; exact ho2
      · exact HB.out.grown hg2 hbs (fun k hk => (HO1.out.lt k hk).1)
      · simp [intOf]; omega
    · go_wp2_with (first | (at_builtin; refine wpList_push_int rfl (.tmp 15) (.tmp 18) 29 rfl B 5 .u8 1 Tryd.underlying29 info5 _ l1 _ rfl HO1.out rfl (by unfold maxLen; omega) (by omega) hbs ?_; intro v2 w2 ho2 hg2))
      go_ret
      have e : l1 ++ [((m : Nat) : Int)] = l ++ dig n := by rw [← HE.out, dig_lt (by omega)]
      rw [e] at ho2
      exact ⟨_, rfl, ho2, HB.out.grown hg2 hbs (fun k hk => (HO1.out.lt k hk).1)⟩

/-- slices.Clone of bytes: new memory (a nil one stays nil), which reads as the same. -/
theorem clone_calls (v : Value) (l : List Int) (w : World) (hl : l.length ≤ 1000000) (hr : Rd w 1 v l.length (ints .u8 l)) :
    Calls Tryd.prog 61 #[v] w fun e w' => ∃ v', e = .returned v' ∧ w'.ownsRow w.heap.size 5 1 v' l.length (ints .u8 l) ∧ Below w.heap.size w w' := by
  have HR := hid hr
  rcases hr.2 with ⟨rfl, h0⟩ | ⟨x, cap, rfl, h1, h2, h4⟩
  · have hl0 : l = [] := List.eq_nil_of_length_eq_zero h0
    subst hl0
    clear h0 hr
    go_enter Tryd.func61, Tryd.ntmps61
    go_wp2
    go_ret
    exact ⟨_, rfl, World.ownsRow_nil _ _ _ _, Below.refl _ _⟩
  · clear hr h4
    go_enter Tryd.func61, Tryd.ntmps61
    go_wp2_with (first | (at_builtin; refine wpList_append_src rfl (.tmp 5) (.tmp 6) 29 rfl w.heap.size 5 (.int .u8 0) 1 1 Tryd.underlying29 info5 rfl (by decide) _ 0 [] rfl (World.ownsRow_made w #[] 0 (Nat.le_refl _) (by unfold maxLen; omega) rfl) _ l.length (ints .u8 l) rfl (HR.out.frm0 (Frm.alloc (Frm.refl _ _) _)) (ints_one _ _) (by unfold maxLen; omega) (by omega) (by simp) ?_; intro v2 w2 ho2 hg2))
    go_ret
    exact ⟨_, rfl, by simpa using ho2, ((Below.refl _ _).alloc (Nat.le_refl _) _).grown hg2 (by simp) (fun k hk => by simp [Act.eval, Value.ownBlock] at hk; omega)⟩

/-- Number: behind the bytes stand the digits; or it refuses. -/
theorem number_calls (v : Value) (l : List Int) (n : Int) (w : World) (hl : l.length ≤ 1000000) (hr : Rd w 1 v l.length (ints .u8 l)) :
    Calls Tryd.prog 32 #[v, .int .i64 n] w fun e w' =>
      if mayB n = true then ∃ v', e = .returned (.tuple #[v', .int .i64 0]) ∧ w'.ownsRow w.heap.size 5 1 v' (l ++ dig n.toNat).length (ints .u8 (l ++ dig n.toNat)) ∧ Below w.heap.size w w'
      else e = .returned (.tuple #[v, .int .i64 1]) ∧ w = w' := by
  cases hm : mayB n with
  | true =>
    simp only [↓reduceIte]
    have h0 := mayB_true hm
    obtain ⟨m, rfl⟩ := Int.eq_ofNat_of_zero_le h0.1
    rw [Int.toNat_natCast]
    have HM := hid hm
    clear hm
    go_enter Tryd.func32, Tryd.ntmps32
    go_wp2_with fail
    refine (may_calls _ _).mono ?_
    rintro e w' ⟨rfl, rfl⟩
    rw [HM.out]
    go_wp2_with fail
    refine (clone_calls v l w hl hr).mono ?_
    rintro e w1 ⟨v1, rfl, ho1, hb1⟩
    go_wp2_with fail
    refine (digits_calls w.heap.size v1 l m w1 (by omega) hl hb1.size ho1).mono ?_
    rintro e w2 ⟨v2, rfl, ho2, hb2⟩
    go_wp2
    go_ret2
    exact ⟨_, rfl, ho2, hb1.trans hb2⟩
  | false =>
    simp only [Bool.false_eq_true, ↓reduceIte]
    have HM := hid hm
    clear hm
    go_enter Tryd.func32, Tryd.ntmps32
    go_wp2_with fail
    refine (may_calls _ _).mono ?_
    rintro e w' ⟨rfl, rfl⟩
    rw [HM.out]
    go_wp2
    go_ret2
    exact ⟨rfl, rfl⟩

theorem number_ok (v : Value) (l : List Int) (n : Int) (w : World) (hl : l.length ≤ 1000000) (hr : Rd w 1 v l.length (ints .u8 l)) (hm : mayB n = true) :
    Calls Tryd.prog 32 #[v, .int .i64 n] w fun e w' => ∃ v', e = .returned (.tuple #[v', .int .i64 0]) ∧ w'.ownsRow w.heap.size 5 1 v' (l ++ dig n.toNat).length (ints .u8 (l ++ dig n.toNat)) ∧ Below w.heap.size w w' :=
  (number_calls v l n w hl hr).mono fun e w' h => by rwa [if_pos hm] at h
theorem number_bad (v : Value) (l : List Int) (n : Int) (w : World) (hl : l.length ≤ 1000000) (hr : Rd w 1 v l.length (ints .u8 l)) (hm : mayB n = false) :
    Calls Tryd.prog 32 #[v, .int .i64 n] w fun e w' => e = .returned (.tuple #[v, .int .i64 1]) ∧ w = w' :=
  (number_calls v l n w hl hr).mono fun e w' h => by rwa [if_neg (by rw [hm]; decide)] at h

/-- Text: behind the bytes stand its length's digits and its bytes. -/
theorem text_ok (v : Value) (l : List Int) (s : ByteArray) (w : World) (hl : l.length ≤ 900000) (hr : Rd w 1 v l.length (ints .u8 l)) (hs : s.size ≤ 64) :
    Calls Tryd.prog 33 #[v, .string s] w fun e w' =>
      ∃ v', e = .returned (.tuple #[v', .int .i64 0]) ∧ w'.ownsRow w.heap.size 5 1 v' (l ++ dig s.size ++ sb s).length (ints .u8 (l ++ dig s.size ++ sb s)) ∧ Below w.heap.size w w' := by
  have hd := dig_len9 (n := s.size) (by omega)
  go_enter Tryd.func33, Tryd.ntmps33
  go_wp2_with fail
  refine (clone_calls v l w (by omega) hr).mono ?_
  rintro e w1 ⟨v1, rfl, ho1, hb1⟩
  go_wp2_with fail
  refine (digits_calls w.heap.size v1 l s.size w1 (by omega) (by omega) hb1.size ho1).mono ?_
  rintro e w2 ⟨v2, rfl, ho2, hb2⟩
  have hlen : (l ++ dig s.size).length ≤ 900009 := by rw [List.length_append]; omega
  go_wp2_with (first | (at_builtin; refine wpList_push_str rfl (.tmp 14) (.tmp 15) 29 9 rfl w.heap.size 5 Tryd.underlying29 Tryd.underlying9 info5 _ (l ++ dig s.size) rfl ho2 s rfl (by omega) (Nat.le_trans hb1.size hb2.size) ?_; intro v3 w3 ho3 hg3))
  go_ret2
  exact ⟨_, rfl, ho3, (hb1.trans hb2).grown hg3 (Nat.le_trans hb1.size hb2.size) (fun k hk => (ho2.lt k hk).1)⟩
theorem text_bad (v : Value) (s : ByteArray) (w : World) (hs : 64 < s.size) (hs2 : s.size ≤ 140737488355328) :
    Calls Tryd.prog 33 #[v, .string s] w fun e w' => e = .returned (.tuple #[v, .int .i64 12]) ∧ w = w' := by
  go_enter Tryd.func33, Tryd.ntmps33
  go_wp2
  go_ret2
  exact ⟨rfl, rfl⟩

/-! ### List -/
theorem lit_calls (n : Int) (w : World) : Calls Tryd.prog 63 #[.int .i64 n] w fun e w' => e = .returned (.bool (!mayB n)) ∧ w = w' := by
  go_enter Tryd.func63, Tryd.ntmps63
  go_wp2_with fail
  refine (may_calls _ _).mono ?_
  rintro e w' ⟨rfl, rfl⟩
  go_wp2
  go_ret
  exact ⟨rfl, rfl⟩

set_option maxRecDepth 100000 in
theorem index_calls (v : Value) (l : List Int) (w : World) (hl : l.length ≤ 1000000) (hr : Rd w 1 v l.length (ints .i64 l)) :
    Calls Tryd.prog 88 #[v, .func (.func 63) #[] #[]] w fun e w' => ∃ i : Int, e = .returned (.int .i64 i) ∧ decide (0 ≤ i) = !allB l ∧ w = w' := by
  have HR := hid hr
  obtain ⟨a, c, rfl, hab⟩ := hr.shape
  clear hr
  by_cases hl0 : l.length = 0
  · have hl1 : l = [] := List.eq_nil_of_length_eq_zero hl0
    subst hl1
    clear HR hab hl0
    go_enter Tryd.func88, Tryd.ntmps88
    go_wp2_with fail
    refine wp_loop_rounds 1 ?_
    rw [rounds_succ]
    go_wp2_with fail
    go_ret
    exact ⟨_, rfl, by decide, rfl⟩
  · obtain ⟨b, o, rfl⟩ := hab (by omega)
    clear hl0
    go_enter Tryd.func88, Tryd.ntmps88
    go_wp2_with fail
    go_loop [8] (fun i8 => ∃ k : Nat, k ≤ l.length ∧ i8 = .int .i64 k ∧ allB (l.take k) = true) (fun i => l.length - (intOf i).toNat)
    case atStart => exact ⟨0, Nat.zero_le _, rfl, rfl⟩
    case round =>
      obtain ⟨k, hk, rfl, ha⟩ := hrel
      have HA := hid ha
      clear ha
      by_cases hlt : k < l.length
      · obtain ⟨x, HX, hc⟩ := HR.out.cellAt k hlt
        go_wp2_with fail
        refine (lit_calls _ _).mono ?_
        rintro e w' ⟨rfl, rfl⟩
        cases hm : mayB x with
        | true =>
          have HM := hid hm
          clear hm
          go_wp2_with fail
          exact ⟨⟨k + 1, by omega, by go_num, allB_take HA.out HX.out HM.out⟩, by simp [intOf]; omega⟩
        | false =>
          have HM := hid hm
          clear hm
          go_wp2_with fail
          go_ret
          exact ⟨_, rfl, by rw [allB_not HX.out HM.out]; simp, rfl⟩
      · go_wp2_with fail
        go_ret
        have e : l.take k = l := List.take_of_length_le (by omega)
        have h5 := HA.out
        rw [e] at h5
        exact ⟨_, rfl, by rw [h5]; decide, rfl⟩

theorem contains_calls (v : Value) (l : List Int) (w : World) (hl : l.length ≤ 1000000) (hr : Rd w 1 v l.length (ints .i64 l)) :
    Calls Tryd.prog 62 #[v, .func (.func 63) #[] #[]] w fun e w' => e = .returned (.bool (!allB l)) ∧ w = w' := by
  go_enter Tryd.func62, Tryd.ntmps62
  go_wp2_with fail
  refine (index_calls v l w hl hr).mono ?_
  rintro e w' ⟨i, rfl, hi, rfl⟩
  have HI := hid hi
  clear hi
  go_wp2_with fail
  go_ret
  exact ⟨by rw [← HI.out]; rfl, rfl⟩

set_option maxRecDepth 100000 in
set_option maxHeartbeats 1000000 in
theorem list_ok (v vl : Value) (l xs : List Int) (w : World) (hl : l.length ≤ 900000) (hr : Rd w 1 v l.length (ints .u8 l)) (hx : xs.length ≤ 64) (hrx : Rd w 1 vl xs.length (ints .i64 xs)) (ha : allB xs = true) :
    Calls Tryd.prog 34 #[v, vl] w fun e w' =>
      ∃ v', e = .returned (.tuple #[v', .int .i64 0]) ∧ w'.ownsRow w.heap.size 5 1 v' (l ++ dig xs.length ++ digs xs).length (ints .u8 (l ++ dig xs.length ++ digs xs)) ∧ Below w.heap.size w w' := by
  have hd := dig_len9 (n := xs.length) (by omega)
  have HX := hid hrx
  have HA := hid ha
  clear ha
  obtain ⟨a, c, rfl, hab⟩ := hrx.shape
  go_enter Tryd.func34, Tryd.ntmps34
  go_wp2_with fail
  refine (contains_calls _ xs w (by omega) hrx).mono ?_
  rintro e w' ⟨rfl, rfl⟩
  rw [HA.out]
  go_wp2_with fail
  refine (clone_calls v l w (by omega) hr).mono ?_
  rintro e w1 ⟨v1, rfl, ho1, hb1⟩
  go_wp2_with fail
  refine (digits_calls w.heap.size v1 l xs.length w1 (by omega) (by omega) hb1.size ho1).mono ?_
  rintro e w2 ⟨v2, rfl, ho2, hb2⟩
  have hb3 := hid (hb1.trans hb2)
  have ho3 := hid ho2
  have hlen : (l ++ dig xs.length).length ≤ 900009 := by rw [List.length_append]; omega
  clear ho1 hb1 ho2 hb2 hr hrx
  go_wp2_with fail
  go_loopw [6, 25] (fun v6 i25 wr => ∃ k : Nat, k ≤ xs.length ∧ i25 = .int .i64 k ∧ Hid (wr.ownsRow w.heap.size 5 1 v6 (l ++ dig xs.length ++ digs (xs.take k)).length (ints .u8 (l ++ dig xs.length ++ digs (xs.take k)))) ∧ Hid (Below w.heap.size w wr)) (fun _ i _ => xs.length - (intOf i).toNat)
  case atStart => exact ⟨0, Nat.zero_le _, rfl, by simpa [digs] using ho3, hb3⟩
  case round =>
    obtain ⟨k, hk, rfl, HO, HB⟩ := hrel
    by_cases hlt : k < xs.length
    · obtain ⟨b, o, rfl⟩ := hab (by omega)
      obtain ⟨x, HK, hc⟩ := (HX.out.frm0 (Frm.ofBelow HB.out (fun k h1 h2 => by omega))).cellAt k hlt
      have hsz := HB.out.size
      have hml := allB_le HA.out x (List.mem_of_getElem? HK.out)
      have htk := digs_len (xs.take k) (fun x hx => allB_le HA.out x (List.mem_of_mem_take hx))
      have htl : (xs.take k).length ≤ 64 := by rw [List.length_take]; omega
      obtain ⟨m, rfl⟩ := Int.eq_ofNat_of_zero_le hml.1
      have hm2 : m ≤ 4611686018427387903 := by omega
      go_wp2_with fail
      refine (digits_calls w.heap.size _ _ m wr hm2 (by rw [List.length_append]; omega) hsz HO.out).mono ?_
      rintro e w3 ⟨v3, rfl, ho4, hb4⟩
      have HO4 := hid ho4
      clear ho4
      go_wp2_with fail
      go_roundw
      case rel =>
        refine ⟨k + 1, by omega, by go_num, hid ?_, hid (HB.out.trans hb4)⟩
        have e : digs (xs.take (k + 1)) = digs (xs.take k) ++ dig m := by
          rw [take_snoc HK.out, digs_app]; simp [digs]
        rw [e, ← List.append_assoc]
        exact HO4.out
      case measure => simp [intOf]; omega
    · go_wp2_with fail
      go_ret2
      have e : xs.take k = xs := List.take_of_length_le (by omega)
      have h5 := HO.out
      rw [e] at h5
      exact ⟨_, rfl, h5, HB.out⟩

theorem list_bad (v vl : Value) (xs : List Int) (w : World) (hx : xs.length ≤ 64) (hrx : Rd w 1 vl xs.length (ints .i64 xs)) (ha : allB xs = false) :
    Calls Tryd.prog 34 #[v, vl] w fun e w' => e = .returned (.tuple #[v, .int .i64 1]) ∧ w = w' := by
  have HA := hid ha
  clear ha
  obtain ⟨a, c, rfl, _⟩ := hrx.shape
  go_enter Tryd.func34, Tryd.ntmps34
  go_wp2_with fail
  refine (contains_calls _ xs w (by omega) hrx).mono ?_
  rintro e w' ⟨rfl, rfl⟩
  rw [HA.out]
  go_wp2_with fail
  go_ret2
  exact ⟨rfl, rfl⟩
theorem list_over (v : Value) (a : Option Addr) (n c : Nat) (w : World) (hx : 64 < n) (hn : n ≤ 140737488355328) :
    Calls Tryd.prog 34 #[v, .slice a n c] w fun e w' => e = .returned (.tuple #[v, .int .i64 12]) ∧ w = w' := by
  go_enter Tryd.func34, Tryd.ntmps34
  go_wp2_with fail
  go_ret2
  exact ⟨rfl, rfl⟩
end Go.Proofs.YtinbidmgllmglaaDoor
