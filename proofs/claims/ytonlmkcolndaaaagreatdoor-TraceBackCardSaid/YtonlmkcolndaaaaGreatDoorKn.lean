/- record.Right and record.Name, whole. No condition. -/
import Derived.Test.YtonlmkcolndaaaaGreatDoorKr
namespace Go.Proofs.YtonlmkcolndaaaaGreatDoor
set_option linter.unusedVariables false
set_option linter.unusedSimpArgs false
set_option maxRecDepth 20000
open Go.RowKit

theorem zeroKind (w : World) : (zeroValue 103).run Tryz.prog w = .ok (.agg #[.string ⟨#[]⟩, .nilFunc]) w := (zero_of_info (n := 2) (by kernel_rfl)).1 w
theorem kinds_miss {k : Int} (h : ¬ (1 ≤ k ∧ k ≤ 7)) (t1 t2 : Nat) : ∀ p ∈ kindsL t1 t2, p.1 ≠ k := by
  intro p hp
  simp only [kindsL, List.mem_cons, List.not_mem_nil, or_false] at hp
  rcases hp with rfl | rfl | rfl | rfl | rfl | rfl | rfl <;> simp <;> omega

set_option maxRecDepth 20000 in
set_option maxHeartbeats 2000000 in
theorem right_miss (r : Rc) (w : World) (hk : ¬ (1 ≤ r.k ∧ r.k ≤ 7)) : Calls Tryz.prog 51 #[r.val] w fun x w' => x = .returned (.bool false) ∧ Frm M0 w w' := by
  have HLK := hid (kinds_miss hk); clear hk
  have HV : Hid (r.val = .agg #[.int .i64 r.k, .int .i64 r.e, .int .i64 r.w, .int .i64 r.n, .int .i64 r.q, .string r.t, .int .i64 r.p.s0, .int .i64 r.p.s1, .int .i64 r.p.s2, .int .i64 r.p.s3, .int .i64 r.p.s4, .int .i64 r.p.s5, .int .i64 r.p.s6, .int .i64 r.p.s7, .int .i64 r.p.s8, .int .i64 r.p.s9, .int .i64 r.p.s10, .int .i64 r.p.s11]) := rfl
  rw [HV.out]
  go_enter Tryz.func51, Tryz.ntmps51
  go_wp2_with fail
  have HH := hid (heap_alloc_last w (.cells #[.int .i64 r.k, .int .i64 r.e, .int .i64 r.w, .int .i64 r.n, .int .i64 r.q, .string r.t, .int .i64 r.p.s0, .int .i64 r.p.s1, .int .i64 r.p.s2, .int .i64 r.p.s3, .int .i64 r.p.s4, .int .i64 r.p.s5, .int .i64 r.p.s6, .int .i64 r.p.s7, .int .i64 r.p.s8, .int .i64 r.p.s9, .int .i64 r.p.s10, .int .i64 r.p.s11] 27))
  have HF := hid ((Frm.refl M0 w).alloc (.cells #[.int .i64 r.k, .int .i64 r.e, .int .i64 r.w, .int .i64 r.n, .int .i64 r.q, .string r.t, .int .i64 r.p.s0, .int .i64 r.p.s1, .int .i64 r.p.s2, .int .i64 r.p.s3, .int .i64 r.p.s4, .int .i64 r.p.s5, .int .i64 r.p.s6, .int .i64 r.p.s7, .int .i64 r.p.s8, .int .i64 r.p.s9, .int .i64 r.p.s10, .int .i64 r.p.s11] 27))
  obtain ⟨b, hb⟩ : ∃ b, b = w.heap.size := ⟨_, rfl⟩
  obtain ⟨w1, hw1⟩ : ∃ x, x = w.alloc (.cells #[.int .i64 r.k, .int .i64 r.e, .int .i64 r.w, .int .i64 r.n, .int .i64 r.q, .string r.t, .int .i64 r.p.s0, .int .i64 r.p.s1, .int .i64 r.p.s2, .int .i64 r.p.s3, .int .i64 r.p.s4, .int .i64 r.p.s5, .int .i64 r.p.s6, .int .i64 r.p.s7, .int .i64 r.p.s8, .int .i64 r.p.s9, .int .i64 r.p.s10, .int .i64 r.p.s11] 27) := ⟨_, rfl⟩
  rw [← hw1, ← hb] at HH
  rw [← hw1] at HF
  rw [← hw1, ← hb]
  clear hw1 hb
  have HSF : Hid (∀ wx, Frm M0 w1 wx → wx.cell? ⟨b, 0, none⟩ = some (.int .i64 r.k)) := hid (fun wx hx => cell_at (hx.heap HH.out (fun h => h)) 0)
  have HFq := hid ((Frm.refl M0 w1).drew)
  go_region_held3 (fun wx => wx.cell? ⟨b, 0, none⟩ = some (.int .i64 r.k)) (first | with_reducible exact HSF.out _ HFq.out | with_reducible exact HSF.out _ (Frm.alloc HFq.out _) | with_reducible exact HSF.out _ (Frm.drew (Frm.alloc (Frm.refl M0 _) _)) | with_reducible exact HSF.out _ (Frm.putN (Frm.putN HFq.out _ _ _ (Nat.le_refl _)) _ _ _ (Nat.le_refl _)) | go_keep)
    (((with_reducible refine (kinds_calls _).mono ?_); (rintro _ wk ⟨B, t1, t2, rfl, HB, HC1, HC2, hf⟩); (first | (with_reducible have hx := Frm.then0 HFq.out hf) | ((with_reducible have hx := Frm.then0 (Frm.drew (Frm.alloc (Frm.refl M0 w1) _)) hf); (have hq := hf.heap (show (w1.alloc (.cells #[.string ⟨#[]⟩, .nilFunc] 103)).drew.heap[w1.heap.size]? = _ from new1 w1 _) (fun h => h)); (have e0 : wk.cell? ⟨w1.heap.size, 0, none⟩ = some (.string ⟨#[]⟩) := cell_at hq 0); (have e1 : wk.cell? ⟨w1.heap.size, 1, none⟩ = some .nilFunc := cell_at hq 1); (have z0 : wk.frozen? ⟨w1.heap.size, 0, none⟩ = false := frozen_at hq 0); (have z1 : wk.frozen? ⟨w1.heap.size, 1, none⟩ = false := frozen_at hq 1); (have HQ := hid hq); clear hq)); clear HFq; have HFq := hid hx; clear hx hf;
      (have hl1 := look_miss (P := Tryz.prog) (T := 105) Tryz.underlying105 Tryz.underlying3 HB.out r.k _ (zeroKind _) (HLK.out t1 t2) true); (have hl2 := fun o => look_miss (P := Tryz.prog) (T := 105) Tryz.underlying105 Tryz.underlying3 (((Frm.refl M0 wk).alloc o).heap HB.out (fun h => h)) r.k _ (zeroKind _) (HLK.out t1 t2) true)))
  all_goals
    go_wp2_with fail
    go_ret
    refine ⟨rfl, ?_⟩
    first
    | exact (HF.out.then0 HFq.out).alloc _
    | exact HF.out.then0 ((HFq.out.putN _ _ _ (Nat.le_refl _)).putN _ _ _ (Nat.le_refl _))
    | exact HF.out.then0 HFq.out

def mayK (r : Rc) : Bool := if r.k = 1 then leadB r else if r.k = 2 then publishB r else if r.k = 3 then beginB r else if r.k = 4 then moveB r else if r.k = 5 then intentB r else if r.k = 6 then ackB r else if r.k = 7 then stepB r else false
def rightB (r : Rc) : Bool := btw r.e 1 1099511627776 && mayK r
theorem right_calls (r : Rc) (w : World) : Calls Tryz.prog 51 #[r.val] w fun x w' => x = .returned (.bool (rightB r)) ∧ Frm M0 w w' := by
  by_cases h : 1 ≤ r.k ∧ r.k ≤ 7
  case neg =>
    have e : rightB r = false := by
      unfold rightB mayK
      rw [if_neg (by omega), if_neg (by omega), if_neg (by omega), if_neg (by omega), if_neg (by omega), if_neg (by omega), if_neg (by omega)]
      simp
    rw [e]; exact right_miss r w h
  have hk : r.k = 1 ∨ r.k = 2 ∨ r.k = 3 ∨ r.k = 4 ∨ r.k = 5 ∨ r.k = 6 ∨ r.k = 7 := by omega
  rcases hk with hk | hk | hk | hk | hk | hk | hk
  · have e : rightB r = (btw r.e 1 1099511627776 && leadB r) := by unfold rightB mayK; rw [if_pos hk]
    rw [e]
    exact right_hit r w ⟨#[108, 101, 97, 100]⟩ 90 (fun t1 t2 => #[ptr t1]) (leadB r) (fun _ _ => rfl) (fun t1 t2 => by rw [hk]; rfl) (fun t1 t2 w h1 h2 => lead_calls r t1 w h1)
  · have e : rightB r = (btw r.e 1 1099511627776 && publishB r) := by unfold rightB mayK; rw [if_neg (by omega), if_pos hk]
    rw [e]
    exact right_hit r w ⟨#[112, 117, 98, 108, 105, 115, 104]⟩ 91 (fun t1 t2 => #[ptr t1]) (publishB r) (fun _ _ => rfl) (fun t1 t2 => by rw [hk]; rfl) (fun t1 t2 w h1 h2 => publish_calls r t1 w h1)
  · have e : rightB r = (btw r.e 1 1099511627776 && beginB r) := by unfold rightB mayK; rw [if_neg (by omega), if_neg (by omega), if_pos hk]
    rw [e]
    exact right_hit r w ⟨#[98, 101, 103, 105, 110]⟩ 93 (fun t1 t2 => #[ptr t1]) (beginB r) (fun _ _ => rfl) (fun t1 t2 => by rw [hk]; rfl) (fun t1 t2 w h1 h2 => begin_calls r t1 w h1)
  · have e : rightB r = (btw r.e 1 1099511627776 && moveB r) := by unfold rightB mayK; rw [if_neg (by omega), if_neg (by omega), if_neg (by omega), if_pos hk]
    rw [e]
    exact right_hit r w ⟨#[109, 111, 118, 101]⟩ 94 (fun t1 t2 => #[ptr t1]) (moveB r) (fun _ _ => rfl) (fun t1 t2 => by rw [hk]; rfl) (fun t1 t2 w h1 h2 => move_calls r t1 w h1)
  · have e : rightB r = (btw r.e 1 1099511627776 && intentB r) := by unfold rightB mayK; rw [if_neg (by omega), if_neg (by omega), if_neg (by omega), if_neg (by omega), if_pos hk]
    rw [e]
    exact right_hit r w ⟨#[105, 110, 116, 101, 110, 116]⟩ 95 (fun t1 t2 => #[ptr t2]) (intentB r) (fun _ _ => rfl) (fun t1 t2 => by rw [hk]; rfl) (fun t1 t2 w h1 h2 => intent_calls r t1 t2 w h1 h2)
  · have e : rightB r = (btw r.e 1 1099511627776 && ackB r) := by unfold rightB mayK; rw [if_neg (by omega), if_neg (by omega), if_neg (by omega), if_neg (by omega), if_neg (by omega), if_pos hk]
    rw [e]
    exact right_hit r w ⟨#[97, 99, 107]⟩ 96 (fun t1 t2 => #[ptr t2]) (ackB r) (fun _ _ => rfl) (fun t1 t2 => by rw [hk]; rfl) (fun t1 t2 w h1 h2 => ack_calls r t1 t2 w h1 h2)
  · have e : rightB r = (btw r.e 1 1099511627776 && stepB r) := by unfold rightB mayK; rw [if_neg (by omega), if_neg (by omega), if_neg (by omega), if_neg (by omega), if_neg (by omega), if_neg (by omega), if_pos hk]
    rw [e]
    exact right_hit r w ⟨#[115, 116, 101, 112]⟩ 97 (fun t1 t2 => #[ptr t1]) (stepB r) (fun _ _ => rfl) (fun t1 t2 => by rw [hk]; rfl) (fun t1 t2 w h1 h2 => step_calls r t1 w h1)

theorem field_kind (w : World) (nm : ByteArray) (v : Value) : (Instr.field 103 (.agg #[.string nm, v]) 0).run Tryz.prog w = .ok (.string nm) w := by
  simp [Instr.field, run_underlying Tryz.underlying103, asAgg, part_str, Result.andThen]
/-- A kind's word. -/
def nameS (k : Int) : ByteArray := if k = 1 then ⟨#[108, 101, 97, 100]⟩ else if k = 2 then ⟨#[112, 117, 98, 108, 105, 115, 104]⟩ else if k = 3 then ⟨#[98, 101, 103, 105, 110]⟩ else if k = 4 then ⟨#[109, 111, 118, 101]⟩ else if k = 5 then ⟨#[105, 110, 116, 101, 110, 116]⟩ else if k = 6 then ⟨#[97, 99, 107]⟩ else if k = 7 then ⟨#[115, 116, 101, 112]⟩ else ⟨#[]⟩
set_option maxHeartbeats 1000000 in
theorem name_hit (k : Int) (w : World) (nm : ByteArray) (f : Nat → Nat → Value) (hl : ∀ t1 t2, (kindsL t1 t2).lookup k = some (.agg #[.string nm, f t1 t2])) :
    Calls Tryz.prog 52 #[.int .i64 k] w fun x w' => x = .returned (.string nm) ∧ Frm M0 w w' := by
  have HLK := hid hl; clear hl
  go_enter Tryz.func52, Tryz.ntmps52
  go_wp2_with fail
  refine (kinds_calls _).mono ?_
  rintro _ wk ⟨B, t1, t2, rfl, HB, HC1, HC2, hf⟩
  have HF := hid hf; clear hf
  have hl1 := look_hit (P := Tryz.prog) (T := 105) Tryz.underlying105 Tryz.underlying3 HB.out k _ (HLK.out t1 t2) false
  have hfk := field_kind wk
  go_wp2_with fail
  go_ret
  exact ⟨rfl, HF.out⟩
theorem name_miss (k : Int) (w : World) (hk : ¬ (1 ≤ k ∧ k ≤ 7)) : Calls Tryz.prog 52 #[.int .i64 k] w fun x w' => x = .returned (.string ⟨#[]⟩) ∧ Frm M0 w w' := by
  have HLK := hid (kinds_miss hk); clear hk
  go_enter Tryz.func52, Tryz.ntmps52
  go_wp2_with fail
  refine (kinds_calls _).mono ?_
  rintro _ wk ⟨B, t1, t2, rfl, HB, HC1, HC2, hf⟩
  have HF := hid hf; clear hf
  have hl1 := look_miss (P := Tryz.prog) (T := 105) Tryz.underlying105 Tryz.underlying3 HB.out k _ (zeroKind _) (HLK.out t1 t2) false
  have hfk := field_kind wk
  go_wp2_with fail
  go_ret
  exact ⟨rfl, HF.out⟩
theorem name_calls (k : Int) (w : World) : Calls Tryz.prog 52 #[.int .i64 k] w fun x w' => x = .returned (.string (nameS k)) ∧ Frm M0 w w' := by
  by_cases h : 1 ≤ k ∧ k ≤ 7
  case neg =>
    have e : nameS k = ⟨#[]⟩ := by unfold nameS; rw [if_neg (by omega), if_neg (by omega), if_neg (by omega), if_neg (by omega), if_neg (by omega), if_neg (by omega), if_neg (by omega)]
    rw [e]; exact name_miss k w h
  have hk : k = 1 ∨ k = 2 ∨ k = 3 ∨ k = 4 ∨ k = 5 ∨ k = 6 ∨ k = 7 := by omega
  rcases hk with rfl | rfl | rfl | rfl | rfl | rfl | rfl
  · exact name_hit 1 w ⟨#[108, 101, 97, 100]⟩ (fun t1 t2 => fnv 90 #[ptr t1]) (fun t1 t2 => rfl)
  · exact name_hit 2 w ⟨#[112, 117, 98, 108, 105, 115, 104]⟩ (fun t1 t2 => fnv 91 #[ptr t1]) (fun t1 t2 => rfl)
  · exact name_hit 3 w ⟨#[98, 101, 103, 105, 110]⟩ (fun t1 t2 => fnv 93 #[ptr t1]) (fun t1 t2 => rfl)
  · exact name_hit 4 w ⟨#[109, 111, 118, 101]⟩ (fun t1 t2 => fnv 94 #[ptr t1]) (fun t1 t2 => rfl)
  · exact name_hit 5 w ⟨#[105, 110, 116, 101, 110, 116]⟩ (fun t1 t2 => fnv 95 #[ptr t2]) (fun t1 t2 => rfl)
  · exact name_hit 6 w ⟨#[97, 99, 107]⟩ (fun t1 t2 => fnv 96 #[ptr t2]) (fun t1 t2 => rfl)
  · exact name_hit 7 w ⟨#[115, 116, 101, 112]⟩ (fun t1 t2 => fnv 97 #[ptr t1]) (fun t1 t2 => rfl)
end Go.Proofs.YtonlmkcolndaaaaGreatDoor
