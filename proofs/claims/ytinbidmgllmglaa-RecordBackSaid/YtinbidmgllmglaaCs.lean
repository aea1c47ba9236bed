/- The walks of codec's reader: Number at an error and at nil, Text, List. -/
import Derived.Test.YtinbidmgllmglaaCr
namespace Go.Proofs.Ytinbidmgllmglaa
set_option linter.unusedVariables false
set_option linter.unusedSimpArgs false
open Go.RowKit Cp

theorem rnumE_calls (rb : Nat) (l : List Int) (e : Int) (w : World) (h : Rdr w rb l e) (he : e ≠ 0) :
    Calls Try.prog 14 #[rp rb] w fun r w' => r = .returned (.int .i64 0) ∧ w = w' := by
  have hb : (e == 0) = false := beq_eq_false_iff_ne.2 he
  clear he
  go_enter Try.func14, Try.ntmps14
  go_wp2_with fail
  go_step3
  go_wp2_with fail
  refine (err_calls rb l e w h).mono ?_
  rintro r w' ⟨rfl, rfl⟩
  go_wp2_with fail
  rw [Exit.noGoto_ret]
  go_ret
  exact ⟨rfl, rfl⟩

/-- What Text takes: the text's bytes, what is left, the error. -/
def textF (l : List Int) : List Int × List Int × Int :=
  match rdAux 0 0 l with
  | none => ([], [], 2)
  | some (n, r) => if n ≤ 64 ∧ n ≤ r.length then (r.take n, r.drop n, 0) else ([], [], 2)

theorem rtextE_calls (rb : Nat) (l : List Int) (e : Int) (w : World) (h : Rdr w rb l e) (he : e ≠ 0) :
    Calls Try.prog 15 #[rp rb] w fun r w' => r = .returned (.string ⟨#[]⟩) ∧ w = w' := by
  go_enter Try.func15, Try.ntmps15
  go_wp2_with fail
  refine (rnumE_calls rb l e w h he).mono ?_
  rintro r w' ⟨rfl, rfl⟩
  clear he
  go_wp2_with fail
  refine (left_calls rb l e w h).mono ?_
  rintro r w' ⟨rfl, rfl⟩
  go_wp2_with fail
  go_ret
  exact ⟨rfl, rfl⟩

theorem rlistE_calls (rb : Nat) (l : List Int) (e : Int) (w : World) (h : Rdr w rb l e) (he : e ≠ 0) :
    Calls Try.prog 17 #[rp rb] w fun r w' => r = .returned (.slice none 0 0) ∧ w = w' := by
  have hb : (e == 0) = false := beq_eq_false_iff_ne.2 he
  go_enter Try.func17, Try.ntmps17
  go_wp2_with fail
  refine (rnumE_calls rb l e w h he).mono ?_
  rintro r w' ⟨rfl, rfl⟩
  clear he
  go_wp2_with fail
  refine wp_loop_rounds 1 ?_
  rw [rounds_succ]
  go_wp2_with fail
  refine (err_calls rb l e w h).mono ?_
  rintro r w' ⟨rfl, rfl⟩
  go_wp2_with fail
  go_ret
  exact ⟨rfl, rfl⟩

set_option maxRecDepth 100000 in
set_option maxHeartbeats 2000000 in
theorem rtext0_calls (rb : Nat) (l : List Int) (w : World) (h : Rdr w rb l 0) :
    Calls Try.prog 15 #[rp rb] w fun r w' => r = .returned (.string (strOfNums (textF l).1)) ∧ Rdr w' rb (textF l).2.1 (textF l).2.2 ∧ Frm (· = rb) w w' := by
  have H := hid h
  clear h
  go_enter Try.func15, Try.ntmps15
  go_wp2_with fail
  refine (rnum0_calls rb l w H.out).mono ?_
  rintro r w1 (⟨n, l1, he, rfl, hr1, hf1⟩ | ⟨he, rfl, hr1, hf1⟩)
  · have HR1 := hid hr1
    have HF1 := hid hf1
    have HE := hid he
    obtain ⟨v, ha, hrr, hb, hy, hl⟩ := hr1
    obtain ⟨c0, c1, f0, f1⟩ := Rdr.cells ha
    obtain ⟨a, c, rfl, hab⟩ := hrr.shape
    obtain ⟨_, hcap1, hcap2⟩ := hrr.cap
    have HA := hid ha
    have HRR := hid hrr
    have HY := hid hy
    have HB := hid hb
    clear ha hrr hb hy hf1 he
    by_cases h64 : n ≤ 64
    · by_cases hnl : n ≤ l1.length
      · have HT : Hid (textF l = (l1.take n, l1.drop n, 0)) := by unfold Hid textF; rw [HE.out]; simp only []; rw [if_pos ⟨h64, hnl⟩]
        go_wp2_with fail
        refine (left_calls rb l1 0 w1 HR1.out).mono ?_
        rintro r w2 ⟨rfl, rfl⟩
        by_cases hn0 : n = 0
        · subst hn0
          go_wp2_with fail
          go_ret
          exact ⟨by rw [HT.out]; rfl, by rw [HT.out]; exact HR1.out, HF1.out⟩
        · have hn0' : ((n : Int) == 0) = false := beq_eq_false_iff_ne.2 (by omega)
          clear hn0
          obtain ⟨b, o, rfl⟩ := hab (by have := hn0'; simp at this; omega)
          have hbr : b < rb := HB.out b rfl
          have hy2 : Hid (∀ x ∈ l1.drop n, 0 ≤ x ∧ x < 256) := fun x hx => HY.out x (List.mem_of_mem_drop hx)
          have hl2 : (l1.drop n).length ≤ 1000000 := by rw [List.length_drop]; omega
          by_cases hcap : c = n
          · subst hcap
            have hcv := run_str (P := Try.prog) 22 9 5 Try.underlying22 Try.underlying9 Try.underlying5 (HRR.out.take _ hnl)
            go_wp2_with fail
            go_ret
            refine ⟨by rw [HT.out]; rfl, ?_⟩
            rw [HT.out]
            have := Rdr.set0 HA.out (HRR.out.dropAll _ (by omega)) (fun k hk => by cases hk; exact hbr) hy2.out hl2
            have e0 : l1.length - c = 0 := by omega
            rw [e0] at this
            exact ⟨this.1, HF1.out.same this.2⟩
          · have hcv := run_str (P := Try.prog) 22 9 5 Try.underlying22 Try.underlying9 Try.underlying5 (HRR.out.take _ hnl)
            go_wp2_with fail
            go_ret
            refine ⟨by rw [HT.out]; rfl, ?_⟩
            rw [HT.out]
            have := Rdr.set0 HA.out (HRR.out.drop n hnl) (fun k hk => by cases hk; exact hbr) hy2.out hl2
            exact ⟨this.1, HF1.out.same this.2⟩
      · have HT : Hid (textF l = ([], [], 2)) := by unfold Hid textF; rw [HE.out]; simp only []; rw [if_neg (fun h => hnl h.2)]
        go_wp2_with fail
        refine (left_calls rb l1 0 w1 HR1.out).mono ?_
        rintro r w2 ⟨rfl, rfl⟩
        go_wp2_with fail
        refine (fail_calls rb l1 w1 HR1.out).mono ?_
        rintro r w2 ⟨rfl, hr2, hf2⟩
        have HR2 := hid hr2
        have HF2 := hid hf2
        clear hr2 hf2
        go_wp2_with fail
        go_ret
        exact ⟨by rw [HT.out]; rfl, by rw [HT.out]; exact HR2.out, HF1.out.same HF2.out⟩
    · have HT : Hid (textF l = ([], [], 2)) := by unfold Hid textF; rw [HE.out]; simp only []; rw [if_neg (fun h => h64 h.1)]
      go_wp2_with fail
      refine (fail_calls rb l1 w1 HR1.out).mono ?_
      rintro r w2 ⟨rfl, hr2, hf2⟩
      have HR2 := hid hr2
      have HF2 := hid hf2
      clear hr2 hf2
      go_wp2_with fail
      go_ret
      exact ⟨by rw [HT.out]; rfl, by rw [HT.out]; exact HR2.out, HF1.out.same HF2.out⟩
  · have HT : Hid (textF l = ([], [], 2)) := by unfold Hid textF; rw [he]
    have HR1 := hid hr1
    have HF1 := hid hf1
    clear he hf1 hr1
    go_wp2_with fail
    refine (left_calls rb [] 2 w1 HR1.out).mono ?_
    rintro r w2 ⟨rfl, rfl⟩
    go_wp2_with fail
    go_ret
    exact ⟨by rw [HT.out]; rfl, by rw [HT.out]; exact HR1.out, HF1.out⟩

/-! ### List -/
/-- k numbers are taken, one behind the other; after an error all are 0. -/
def numsF : Nat → List Int → Int → List Int × List Int × Int
  | 0, l, e => ([], l, e)
  | k + 1, l, e => match numsF k l e with
    | (xs, l', e') => (xs ++ [(getF l' e').1], (getF l' e').2.1, (getF l' e').2.2)
/-- What List takes. -/
def listF (l : List Int) : List Int × List Int × Int :=
  match rdAux 0 0 l with
  | none => ([], [], 2)
  | some (n, r) => if 64 < n then ([], [], 2) else if (numsF n r 0).2.2 = 0 then numsF n r 0 else ([], (numsF n r 0).2.1, (numsF n r 0).2.2)

theorem rnum_calls (rb : Nat) (l : List Int) (e : Int) (w : World) (h : Rdr w rb l e) :
    Calls Try.prog 14 #[rp rb] w fun r w' => r = .returned (.int .i64 (getF l e).1) ∧ Rdr w' rb (getF l e).2.1 (getF l e).2.2 ∧ Frm (· = rb) w w' := by
  by_cases he : e = 0
  · subst he
    refine (rnum0_calls rb l w h).mono ?_
    rintro r w' (⟨n, l', h1, rfl, h2⟩ | ⟨h1, rfl, h2⟩)
    · have : getF l 0 = ((n : Int), l', 0) := by unfold getF; rw [if_pos rfl, h1]
      rw [this]; exact ⟨rfl, h2⟩
    · have : getF l 0 = (0, [], 2) := by unfold getF; rw [if_pos rfl, h1]
      rw [this]; exact ⟨rfl, h2⟩
  · refine (rnumE_calls rb l e w h he).mono ?_
    rintro r w' ⟨rfl, rfl⟩
    have : getF l e = (0, l, e) := by unfold getF; rw [if_neg he]
    rw [this]; exact ⟨rfl, h, Frm.refl _ _⟩

theorem numsF_len (k : Nat) (l : List Int) (e : Int) : (numsF k l e).1.length = k := by
  induction k with
  | zero => rfl
  | succ k ih => rw [numsF]; simp [ih]

theorem info3 : (Try.prog.info? 3).map (fun i => (i.zero, i.size, i.bytes)) = some (some (.int .i64 0), 1, 8) := by kernel_rfl

set_option maxRecDepth 100000 in
set_option maxHeartbeats 2000000 in
theorem rlist0_calls (rb : Nat) (l : List Int) (w : World) (h : Rdr w rb l 0) :
    Calls Try.prog 17 #[rp rb] w fun r w' => ∃ v, r = .returned v ∧ w'.ownsRow w.heap.size 3 1 v (listF l).1.length (ints .i64 (listF l).1) ∧ Rdr w' rb (listF l).2.1 (listF l).2.2 ∧ Frm (· = rb) w w' := by
  have H := hid h
  have hrb : rb < w.heap.size := by obtain ⟨v, ha, _⟩ := h; exact (Array.getElem?_eq_some_iff.1 ha).1
  clear h
  go_enter Try.func17, Try.ntmps17
  go_wp2_with fail
  refine (rnum0_calls rb l w H.out).mono ?_
  rintro r w1 (⟨n, l1, he, rfl, hr1, hf1⟩ | ⟨he, rfl, hr1, hf1⟩)
  · have HR1 := hid hr1
    have HF1 := hid hf1
    by_cases h64 : 64 < n
    · have HT : Hid (listF l = ([], [], 2)) := by unfold Hid listF; rw [he]; simp only []; rw [if_pos h64]
      clear he hr1 hf1
      go_wp2_with fail
      refine (fail_calls rb l1 w1 HR1.out).mono ?_
      rintro r w2 ⟨rfl, hr2, hf2⟩
      have HR2 := hid hr2
      have HF2 := hid hf2
      clear hr2 hf2
      go_wp2_with fail
      go_ret
      exact ⟨_, rfl, by rw [HT.out]; exact World.ownsRow_nil _ _ _ _, by rw [HT.out]; exact HR2.out, HF1.out.same HF2.out⟩
    · have HT : Hid (listF l = if (numsF n l1 0).2.2 = 0 then numsF n l1 0 else ([], (numsF n l1 0).2.1, (numsF n l1 0).2.2)) := by unfold Hid listF; rw [he]; simp only []; rw [if_neg h64]
      clear he hr1 hf1
      go_wp2_with fail
      go_loopw [4, 12] (fun v4 i12 wr => ∃ k : Nat, k ≤ n ∧ i12 = .int .i64 k ∧ Hid (wr.ownsRow w.heap.size 3 1 v4 (numsF k l1 0).1.length (ints .i64 (numsF k l1 0).1)) ∧ Hid (Rdr wr rb (numsF k l1 0).2.1 (numsF k l1 0).2.2) ∧ Hid (Frm (· = rb) w wr)) (fun _ i _ => n - (intOf i).toNat)
      case atStart => exact ⟨0, Nat.zero_le _, rfl, hid (World.ownsRow_nil _ _ _ _), HR1, HF1⟩
      case round =>
        obtain ⟨k, hk, rfl, HO, HR, HF⟩ := hrel
        by_cases hlt : k < n
        · go_wp2_with fail
          refine (rnum_calls rb _ _ wr HR.out).mono ?_
          rintro r w2 ⟨rfl, hr2, hf2⟩
          have hO2 := hf2.owns HO.out (fun k hk e => by have := (HO.out.lt k hk).1; omega)
          have HO2 := hid hO2
          have HR2 := hid hr2
          have HF2 := hid (HF.out.same hf2)
          have hlen := numsF_len k l1 0
          have hlen2 : (numsF k l1 0).1.length ≤ 64 := by omega
          clear hO2 hr2 hf2 hlen
          go_wp2_with (first | (at_builtin; refine wpList_push_int rfl (.tmp 14) (.tmp 17) 47 rfl w.heap.size 3 .i64 8 Try.underlying47 info3 _ (numsF k l1 0).1 _ rfl HO2.out rfl (by unfold maxLen; omega) (by omega) HF2.out.size ?_; intro v3 w3 ho3 hg3; have HO3 := hid ho3; have HG3 := hid hg3; clear ho3 hg3))
          have hf3 : Frm (· = rb) w w3 := HF2.out.grown HG3.out (fun k hk hlt => absurd (HO2.out.lt k hk).1 (by omega))
          refine ⟨⟨k + 1, by omega, by go_num, hid ?_, hid ?_, hid hf3⟩, by simp [intOf]; omega⟩
          · rw [numsF]; exact HO3.out
          · rw [numsF]
            have hg : Frm (fun b => u4.ownBlock = some b) w2 w3 := (Frm.refl _ _).grown HG3.out (fun k hk _ => hk)
            exact HR2.out.frm hg (fun j hj => by have := (HO2.out.lt j hj).1; omega)
        · obtain rfl : k = n := by omega
          have hlen := numsF_len k l1 0
          clear hlen
          go_wp2_with fail
          refine (err_calls rb _ _ wr HR.out).mono ?_
          rintro r w2 ⟨rfl, rfl⟩
          by_cases he0 : (numsF k l1 0).2.2 = 0
          · have HT2 := HT.out
            rw [if_pos he0] at HT2
            have HTT := hid HT2
            have hb0 : ((numsF k l1 0).2.2 == 0) = true := beq_iff_eq.2 he0
            clear HT2 he0
            go_wp2_with fail
            go_ret
            exact ⟨_, rfl, by rw [HTT.out]; exact HO.out, by rw [HTT.out]; exact HR.out, HF.out⟩
          · have HT2 := HT.out
            rw [if_neg he0] at HT2
            have HTT := hid HT2
            have hb0 : ((numsF k l1 0).2.2 == 0) = false := beq_eq_false_iff_ne.2 he0
            clear HT2 he0
            go_wp2_with fail
            go_ret
            exact ⟨_, rfl, by rw [HTT.out]; exact World.ownsRow_nil _ _ _ _, by rw [HTT.out]; exact HR.out, HF.out⟩
  · have HT : Hid (listF l = ([], [], 2)) := by unfold Hid listF; rw [he]
    have HR1 := hid hr1
    have HF1 := hid hf1
    clear he hf1 hr1
    go_wp2_with fail
    refine wp_loop_rounds 1 ?_
    rw [rounds_succ]
    go_wp2_with fail
    refine (err_calls rb [] 2 w1 HR1.out).mono ?_
    rintro r w2 ⟨rfl, rfl⟩
    go_wp2_with fail
    go_ret
    exact ⟨_, rfl, by rw [HT.out]; exact World.ownsRow_nil _ _ _ _, by rw [HT.out]; exact HR1.out, HF1.out⟩
end Go.Proofs.Ytinbidmgllmglaa
