/- The walks of the document's net: Of, Same. No condition. -/
import Derived.Test.YtbepcohcdgfkaaaNy
import Derived.Deep.QuietTactic
import Derived.BigQuiet
namespace Go.Proofs.Ytbepcohcdgfkaaa
set_option linter.unusedVariables false
set_option linter.unusedSimpArgs false
open Go.RowKit Go.Conc

set_option maxHeartbeats 1000000 in
theorem refOf_calls (room s y : Int) (v : Value) (l : List Mg) (x : Int) (w : World) (h : Rd w 6 v l.length (msgs l)) (hl : l.length ≤ 1000) :
    Calls Try.prog 30 #[rn room v s y, .int .i64 x] w fun r w' => ∃ v', r = .returned v' ∧ Hid (Rd w' 6 v' (fl x l).length (msgs (fl x l))) ∧ Frm M0 w w' := by
  have H := hid h
  obtain ⟨a, ca, rfl, hab⟩ := h.shapeN
  obtain ⟨_, hc1, hc2⟩ := h.cap
  have HAB := hid hab
  clear h hab
  go_enter Try.func30, Try.ntmps30
  go_wp2_with fail
  have hb0 := new1 w (.cells #[.int .i64 room, .slice a l.length ca, .int .i64 s, .int .i64 y] 48)
  obtain ⟨w1, hw1⟩ : ∃ w1, w1 = w.alloc (.cells #[.int .i64 room, .slice a l.length ca, .int .i64 s, .int .i64 y] 48) := ⟨_, rfl⟩
  have hf1 : Frm M0 w w1 := by rw [hw1]; exact (Frm.refl _ _).alloc _
  rw [← hw1] at hb0 ⊢
  have hz1 := (Array.getElem?_eq_some_iff.1 hb0).1
  have HF1 := hid hf1
  have HB := hid hb0
  clear hw1 hf1 hb0
  go_loopw [5, 6] (fun v5 i6 wr => ∃ k : Nat, k ≤ l.length ∧ i6 = .int .i64 k ∧ Hid (wr.ownsRow w1.heap.size 29 6 v5 (fl x (l.take k)).length ((fl x (l.take k)).flatMap Mg.cells)) ∧ Hid (Frm (fun b => w1.heap.size ≤ b) w1 wr)) (fun _ i _ => l.length - (intOf i).toNat)
  case atStart => exact ⟨0, Nat.zero_le _, rfl, hid (World.ownsRow_nil _ _ _ _), hid (Frm.refl _ _)⟩
  case round =>
    obtain ⟨k, hk, rfl, HO, HF⟩ := hrel
    obtain ⟨⟨p0, p1, p2, p3⟩, q0, q1, q2, q3⟩ := four (HF.out.heap HB.out (by omega))
    have HFW := hid (HF1.out.trans HF.out (fun b hb h => by have := HF1.out.size; omega))
    by_cases hlt : k < l.length
    · obtain ⟨b, o, rfl⟩ := HAB.out (by omega)
      obtain ⟨m, HM, m0, m1, m2, m3, m4, m5⟩ := (H.out.frm0 HFW.out).msgAt k hlt
      have hlt' : (k : Int) < l.length := by omega
      have hle : (fl x (l.take k)).length ≤ (l.take k).length := List.length_filter_le _ _
      rw [List.length_take] at hle
      have hz := HF.out.size
      obtain ⟨gk, ge, gs, gu, gv, gt⟩ := m
      simp only [] at m0 m1 m2 m3 m4 m5
      by_cases hu : gu = x
      · have e1 : (gu == x) = true := by simp [hu]
        have e2 : fl x (l.take (k + 1)) = fl x (l.take k) ++ [⟨gk, ge, gs, gu, gv, gt⟩] := by rw [take_snoc HM.out, fl_app, fl_one, if_pos hu]
        have E2 := hid e2
        clear hu e2
        go_wp2_with (at_builtin; refine wpList_push_el mg_len mg_one rfl _ _ 22 rfl w1.heap.size 29 Mg.zero.val 48 Try.underlying22 info29 rfl (by decide) u5 (fl x (l.take k)) ⟨gk, ge, gs, gu, gv, gt⟩ _ rfl rfl HO.out rfl (by omega) (by omega) hz ?_; intro v6 w6 ho6 hg6; have HO6 := hid ho6; have HF6 := hid (HF.out.grown hg6 (fun b hb _ => (HO.out.lt b hb).1)); clear ho6 hg6)
        exact ⟨⟨k + 1, by omega, by go_num, by rw [E2.out]; exact HO6, HF6⟩, by simp [intOf]; omega⟩
      · have e1 : (gu == x) = false := by simp [hu]
        have e2 : fl x (l.take (k + 1)) = fl x (l.take k) := by rw [take_snoc HM.out, fl_app, fl_one, if_neg hu, List.append_nil]
        have E2 := hid e2
        clear hu e2
        go_wp2_with fail
        exact ⟨⟨k + 1, by omega, by go_num, by rw [E2.out]; exact HO, HF⟩, by simp [intOf]; omega⟩
    · obtain rfl : k = l.length := by omega
      rw [List.take_length] at HO
      obtain ⟨a5, n5, c5, rfl, hn5⟩ := (Rd.ofOwns HO.out).shapeL
      go_wp2_with fail
      go_ret
      exact ⟨_, rfl, hid (Rd.ofOwns HO.out), HFW.out⟩

set_option maxHeartbeats 1000000 in
theorem refSame_calls (va vb : Value) (l : List Mg) (w : World) (ha : Rd w 6 va l.length (msgs l)) (hb : Rd w 6 vb l.length (msgs l)) :
    Calls Try.prog 29 #[va, vb] w fun r w' => r = .returned (.bool true) ∧ Frm M0 w w' := by
  obtain ⟨aa, ca, rfl, haa⟩ := ha.shapeN
  obtain ⟨ab, cb, rfl, hbb⟩ := hb.shapeN
  obtain ⟨_, hc1, hc2⟩ := ha.cap
  have HA := hid ha
  have HB := hid hb
  have HAA := hid haa
  have HBB := hid hbb
  clear ha hb haa hbb
  go_enter Try.func29, Try.ntmps29
  go_wp2_with fail
  go_loopw [5] (fun i5 wr => ∃ k : Nat, k ≤ l.length ∧ i5 = .int .i64 k ∧ Hid (Frm M0 w wr)) (fun i _ => l.length - (intOf i).toNat)
  case atStart => exact ⟨0, Nat.zero_le _, rfl, hid (Frm.refl _ _)⟩
  case round =>
    obtain ⟨k, hk, rfl, HF⟩ := hrel
    by_cases hlt : k < l.length
    · obtain ⟨b, o, rfl⟩ := HAA.out (by omega)
      obtain ⟨b', o', rfl⟩ := HBB.out (by omega)
      obtain ⟨m, HM, m0, m1, m2, m3, m4, m5⟩ := (HA.out.frm0 HF.out).msgAt k hlt
      obtain ⟨m', HM', n0, n1, n2, n3, n4, n5⟩ := (HB.out.frm0 HF.out).msgAt k hlt
      obtain rfl : m' = m := by have h1 := HM'.out; rw [HM.out] at h1; exact (Option.some.inj h1).symm
      have hlt' : (k : Int) < l.length := by omega
      clear HM HM'
      go_wp2_with fail
      go_quiet (fail)
      go_wp2_with fail
      exact ⟨⟨k + 1, by omega, by go_num, hid (HF.out.drewN _)⟩, by simp [intOf]; omega⟩
    · obtain rfl : k = l.length := by omega
      go_wp2_with fail
      go_ret
      exact ⟨rfl, HF.out⟩
end Go.Proofs.Ytbepcohcdgfkaaa
