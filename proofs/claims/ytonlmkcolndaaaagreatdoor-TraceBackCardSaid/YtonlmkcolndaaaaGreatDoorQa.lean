/- The reference's records: in, bare, Right. No condition. -/
import Derived.Test.YtonlmkcolndaaaaGreatDoorSs
import Derived.Test.YtonlmkcolndaaaaGreatDoorKr
namespace Go.Proofs.YtonlmkcolndaaaaGreatDoor
set_option linter.unusedVariables false
set_option linter.unusedSimpArgs false
set_option maxRecDepth 20000
open Go.RowKit

def sneq (a b : Sp) : Bool := !decide (a = b)
theorem neq_sp (w : World) (a0 a1 a2 a3 a4 a5 a6 a7 a8 a9 a10 a11 b0 b1 b2 b3 b4 b5 b6 b7 b8 b9 b10 b11 : Int) :
    (binOp .neq 25 (.agg #[.int .i64 a0, .int .i64 a1, .int .i64 a2, .int .i64 a3, .int .i64 a4, .int .i64 a5, .int .i64 a6, .int .i64 a7, .int .i64 a8, .int .i64 a9, .int .i64 a10, .int .i64 a11]) (.agg #[.int .i64 b0, .int .i64 b1, .int .i64 b2, .int .i64 b3, .int .i64 b4, .int .i64 b5, .int .i64 b6, .int .i64 b7, .int .i64 b8, .int .i64 b9, .int .i64 b10, .int .i64 b11])).run Tryz.prog w
      = .ok (.bool (sneq (Sp.mk a0 a1 a2 a3 a4 a5 a6 a7 a8 a9 a10 a11) (Sp.mk b0 b1 b2 b3 b4 b5 b6 b7 b8 b9 b10 b11))) w := by
  rw [run_neq_struct, show (10000 : Nat) = 9997 + 1 + 1 + 1 from rfl, eq_sp]
  rfl
theorem rin10_calls (n lo hi : Int) (w : World) : Calls Tryz.prog 73 #[.int .i64 n, .int .i64 lo, .int .i64 hi] w fun r w' => r = .returned (.bool (btw n lo hi)) ∧ w = w' := by
  have hB : Hid (btw n lo hi = (decide (lo ≤ n) && decide (n ≤ hi))) := rfl
  by_cases h : lo ≤ n
  · have hb : Hid (btw n lo hi = decide (n ≤ hi)) := by unfold Hid btw; rw [decide_eq_true h]; rfl
    clear hB
    go_enter Tryz.func73, Tryz.ntmps73
    go_wp2_with fail
    go_ret
    exact ⟨by rw [hb.out]; rfl, rfl⟩
  · have hb : Hid (btw n lo hi = false) := by unfold Hid btw; rw [decide_eq_false h]; rfl
    clear hB
    go_enter Tryz.func73, Tryz.ntmps73
    go_wp2_with fail
    go_ret
    exact ⟨by rw [hb.out]; rfl, rfl⟩
def bareB (t : ByteArray) (text : Bool) : Bool := bif text then btw t.size 1 64 else decide (t = ⟨#[]⟩)
set_option maxRecDepth 20000 in
set_option maxHeartbeats 1000000 in
theorem rbare_calls (r : Rc) (text : Bool) (w : World) : Calls Tryz.prog 74 #[r.val, .bool text] w fun x w' => x = .returned (.bool (bareB r.t text)) ∧ Frm M0 w w' := by
  unfold Rc.val
  cases text
  · by_cases ht : r.t = ⟨#[]⟩
    · have HB : Hid (bareB r.t false = true) := hid (by simp [bareB, ht])
      go_enter Tryz.func74, Tryz.ntmps74
      go_wp2_with fail
      go_ret
      exact ⟨by rw [HB.out]; rfl, (Frm.refl M0 w).alloc _⟩
    · have HB : Hid (bareB r.t false = false) := hid (by simp [bareB, ht])
      have hq : (r.t.toList == []) = false := by
        have := Go.Lib.bytes_beq_iff r.t ⟨#[]⟩
        have h0 : (⟨#[]⟩ : ByteArray).toList = [] := by decide +kernel
        rw [h0] at this
        cases hc : (r.t.toList == []) with
        | false => rfl
        | true => exact absurd (this.1 hc) ht
      clear ht
      go_enter Tryz.func74, Tryz.ntmps74
      go_wp2_with fail
      go_ret
      exact ⟨by rw [HB.out]; rfl, (Frm.refl M0 w).alloc _⟩
  · by_cases h : (1 : Int) ≤ (r.t.size : Int)
    · have HB : Hid (bareB r.t true = decide ((r.t.size : Int) ≤ 64)) := hid (by simp [bareB, btw]; omega)
      go_enter Tryz.func74, Tryz.ntmps74
      go_wp2_with fail
      go_ret
      exact ⟨by rw [HB.out]; first | rfl | (simp; done), (Frm.refl M0 w).alloc _⟩
    · have HB : Hid (bareB r.t true = false) := hid (by simp [bareB, btw]; omega)
      go_enter Tryz.func74, Tryz.ntmps74
      go_wp2_with fail
      go_ret
      exact ⟨by rw [HB.out]; rfl, (Frm.refl M0 w).alloc _⟩
def rk1 (r : Rc) : Bool := bareB r.t false && (btw r.w 0 63 && (btw r.n 0 1099511627776 && (btw r.q 1 1048576)))
def rk2 (r : Rc) : Bool := bareB r.t true && ((r.w == 0) && (btw r.n 1 1048576 && ((r.q == 0))))
def rk3 (r : Rc) : Bool := bareB r.t false && ((r.w == 0) && (btw r.n 0 1099511627776 && ((r.q == 0) && ((r.p.rchkE == 0)))))
def rk4 (r : Rc) : Bool := bareB r.t true && ((r.w == 0) && (btw r.n 1 5 && ((r.q == 0))))
def rk5 (r : Rc) : Bool := bareB r.t false && (btw r.w 0 15 && (btw r.n 0 1048576 && (btw r.q 1 1099511627776)))
def rk6 (r : Rc) : Bool := bareB r.t false && (btw r.w 0 15 && ((r.n == 0) && (btw r.q 1 1099511627776)))
def rk7 (r : Rc) : Bool := bareB r.t true && (btw r.w 1 4 && (btw r.n 0 1099511627776 && ((r.q == 0))))
def rmayK (r : Rc) : Bool := if r.k = 1 then rk1 r else if r.k = 2 then rk2 r else if r.k = 3 then rk3 r else if r.k = 4 then rk4 r else if r.k = 5 then rk5 r else if r.k = 6 then rk6 r else if r.k = 7 then rk7 r else false
def rrightB (r : Rc) : Bool := btw r.e 1 1099511627776 && (!(!decide (r.k = 3) && sneq r.p Sp.zero) && rmayK r)
set_option maxRecDepth 20000 in
set_option maxHeartbeats 4000000 in
attribute [-go_sem] run_neq_struct in
attribute [local go_sem] neq_sp in
theorem rright1 (e v n q : Int) (t : ByteArray) (p : Sp) (w : World) : Calls Tryz.prog 54 #[Rc.val ⟨1, e, v, n, q, t, p⟩] w fun x w' => x = .returned (.bool (rrightB ⟨1, e, v, n, q, t, p⟩)) ∧ Frm M0 w w' := by
  have HA : Hid (rrightB ⟨1, e, v, n, q, t, p⟩ = (btw e 1 1099511627776 && (!(sneq p Sp.zero) && (bareB t false && (btw v 0 63 && (btw n 0 1099511627776 && (btw q 1 1048576))))))) := hid (by simp [rrightB, rmayK, rk1])
  have HV : Hid (Rc.val ⟨1, e, v, n, q, t, p⟩ = .agg #[.int .i64 1, .int .i64 e, .int .i64 v, .int .i64 n, .int .i64 q, .string t, .int .i64 p.s0, .int .i64 p.s1, .int .i64 p.s2, .int .i64 p.s3, .int .i64 p.s4, .int .i64 p.s5, .int .i64 p.s6, .int .i64 p.s7, .int .i64 p.s8, .int .i64 p.s9, .int .i64 p.s10, .int .i64 p.s11]) := rfl
  rw [HV.out]
  have HP : Hid (p.val = .agg #[.int .i64 p.s0, .int .i64 p.s1, .int .i64 p.s2, .int .i64 p.s3, .int .i64 p.s4, .int .i64 p.s5, .int .i64 p.s6, .int .i64 p.s7, .int .i64 p.s8, .int .i64 p.s9, .int .i64 p.s10, .int .i64 p.s11]) := rfl
  go_enter Tryz.func54, Tryz.ntmps54
  go_wp2_with fail
  have HH := hid (heap_alloc_last w (.cells #[.int .i64 1, .int .i64 e, .int .i64 v, .int .i64 n, .int .i64 q, .string t, .int .i64 p.s0, .int .i64 p.s1, .int .i64 p.s2, .int .i64 p.s3, .int .i64 p.s4, .int .i64 p.s5, .int .i64 p.s6, .int .i64 p.s7, .int .i64 p.s8, .int .i64 p.s9, .int .i64 p.s10, .int .i64 p.s11] 27))
  have HF := hid ((Frm.refl M0 w).alloc (.cells #[.int .i64 1, .int .i64 e, .int .i64 v, .int .i64 n, .int .i64 q, .string t, .int .i64 p.s0, .int .i64 p.s1, .int .i64 p.s2, .int .i64 p.s3, .int .i64 p.s4, .int .i64 p.s5, .int .i64 p.s6, .int .i64 p.s7, .int .i64 p.s8, .int .i64 p.s9, .int .i64 p.s10, .int .i64 p.s11] 27))
  obtain ⟨b, hb⟩ : ∃ b, b = w.heap.size := ⟨_, rfl⟩
  obtain ⟨w1, hw1⟩ : ∃ x, x = w.alloc (.cells #[.int .i64 1, .int .i64 e, .int .i64 v, .int .i64 n, .int .i64 q, .string t, .int .i64 p.s0, .int .i64 p.s1, .int .i64 p.s2, .int .i64 p.s3, .int .i64 p.s4, .int .i64 p.s5, .int .i64 p.s6, .int .i64 p.s7, .int .i64 p.s8, .int .i64 p.s9, .int .i64 p.s10, .int .i64 p.s11] 27) := ⟨_, rfl⟩
  rw [← hw1, ← hb] at HH
  rw [← hw1] at HF
  rw [← hw1, ← hb]
  clear hw1 hb
  refine (rin10_calls _ _ _ _).mono ?_
  rintro _ _ ⟨rfl, rfl⟩
  obtain ⟨k1, K1⟩ : ∃ x, Hid (btw e 1 1099511627776 = x) := ⟨_, rfl⟩
  rw [K1.out]
  have c0 : w1.cell? ⟨b, 0, none⟩ = some (.int .i64 1) := cell_at HH.out 0
  cases k1
  case false =>
    go_wp2_with fail
    go_ret
    exact ⟨by rw [HA.out, K1.out]; first | rfl | simp, HF.out⟩
  obtain ⟨k2, K2⟩ : ∃ x, Hid (sneq p Sp.zero = x) := ⟨_, rfl⟩
  have e2 : sneq ⟨p.s0, p.s1, p.s2, p.s3, p.s4, p.s5, p.s6, p.s7, p.s8, p.s9, p.s10, p.s11⟩ ⟨0, 0, 0, 0, 0, 0, 0, 0, 0, 0, 0, 0⟩ = k2 := K2.out
  cases k2
  case true =>
    go_wp2_with (refine wpList_load_at (by kernel_rfl) 25 (.tmp 23) (by with_reducible rfl) b 6 (by kernel_rfl) _ _ _ HH.out #[.int .i64 p.s0, .int .i64 p.s1, .int .i64 p.s2, .int .i64 p.s3, .int .i64 p.s4, .int .i64 p.s5, .int .i64 p.s6, .int .i64 p.s7, .int .i64 p.s8, .int .i64 p.s9, .int .i64 p.s10, .int .i64 p.s11] (by kernel_rfl) (by simp) _ Tryz.underlying25 rfl (by kernel_rfl) ?_)
    go_ret
    exact ⟨by rw [HA.out, K1.out, K2.out]; rfl, HF.out⟩
  go_wp2_with (first | (refine wpList_load_at (by kernel_rfl) 25 (.tmp 23) (by with_reducible rfl) b 6 (by kernel_rfl) _ _ _ HH.out #[.int .i64 p.s0, .int .i64 p.s1, .int .i64 p.s2, .int .i64 p.s3, .int .i64 p.s4, .int .i64 p.s5, .int .i64 p.s6, .int .i64 p.s7, .int .i64 p.s8, .int .i64 p.s9, .int .i64 p.s10, .int .i64 p.s11] (by kernel_rfl) (by simp) _ Tryz.underlying25 rfl (by kernel_rfl) ?_) | (refine wpList_load_row rfl 27 (.tmp 1) (by with_reducible rfl) b (by kernel_rfl) _ _ _ _ HH.out Tryz.underlying27 rfl (by kernel_rfl) ?_))
  rw [← HV.out]
  refine (rbare_calls ⟨1, e, v, n, q, t, p⟩ false _).mono ?_
  rintro _ w2 ⟨rfl, hf⟩
  rw [HV.out]
  obtain ⟨k3, K3⟩ : ∃ x, Hid (bareB t false = x) := ⟨_, rfl⟩
  have K3' : Hid (bareB (Rc.mk 1 e v n q t p).t false = k3) := K3
  rw [K3'.out]
  have H2 := hid (hf.heap HH.out (fun h => h))
  have F2 := hid (HF.out.then0 hf)
  clear hf c0
  have d2 : w2.cell? ⟨b, 2, none⟩ = some (.int .i64 v) := cell_at H2.out 2
  have d3 : w2.cell? ⟨b, 3, none⟩ = some (.int .i64 n) := cell_at H2.out 3
  have d4 : w2.cell? ⟨b, 4, none⟩ = some (.int .i64 q) := cell_at H2.out 4
  cases k3
  case false =>
    go_wp2_with fail
    go_ret
    exact ⟨by rw [HA.out, K1.out, K2.out, K3.out]; rfl, F2.out⟩
  go_wp2_with fail
  refine (rin10_calls _ _ _ _).mono ?_
  rintro _ _ ⟨rfl, rfl⟩
  obtain ⟨k4, K4⟩ : ∃ x, Hid (btw v 0 63 = x) := ⟨_, rfl⟩
  rw [K4.out]
  cases k4
  case false =>
    go_wp2_with fail
    go_ret
    exact ⟨by rw [HA.out, K1.out, K2.out, K3.out, K4.out]; rfl, F2.out⟩
  go_wp2_with fail
  refine (rin10_calls _ _ _ _).mono ?_
  rintro _ _ ⟨rfl, rfl⟩
  obtain ⟨k5, K5⟩ : ∃ x, Hid (btw n 0 1099511627776 = x) := ⟨_, rfl⟩
  rw [K5.out]
  cases k5
  case false =>
    go_wp2_with fail
    go_ret
    exact ⟨by rw [HA.out, K1.out, K2.out, K3.out, K4.out, K5.out]; rfl, F2.out⟩
  go_wp2_with fail
  refine (rin10_calls _ _ _ _).mono ?_
  rintro _ _ ⟨rfl, rfl⟩
  obtain ⟨k6, K6⟩ : ∃ x, Hid (btw q 1 1048576 = x) := ⟨_, rfl⟩
  rw [K6.out]
  go_wp2_with fail
  go_ret
  exact ⟨by rw [HA.out, K1.out, K2.out, K3.out, K4.out, K5.out, K6.out]; rfl, F2.out⟩
set_option maxRecDepth 20000 in
set_option maxHeartbeats 4000000 in
attribute [-go_sem] run_neq_struct in
attribute [local go_sem] neq_sp in
theorem rright2 (e v n q : Int) (t : ByteArray) (p : Sp) (w : World) : Calls Tryz.prog 54 #[Rc.val ⟨2, e, v, n, q, t, p⟩] w fun x w' => x = .returned (.bool (rrightB ⟨2, e, v, n, q, t, p⟩)) ∧ Frm M0 w w' := by
  have HA : Hid (rrightB ⟨2, e, v, n, q, t, p⟩ = (btw e 1 1099511627776 && (!(sneq p Sp.zero) && (bareB t true && ((v == 0) && (btw n 1 1048576 && ((q == 0)))))))) := hid (by simp [rrightB, rmayK, rk2])
  have HV : Hid (Rc.val ⟨2, e, v, n, q, t, p⟩ = .agg #[.int .i64 2, .int .i64 e, .int .i64 v, .int .i64 n, .int .i64 q, .string t, .int .i64 p.s0, .int .i64 p.s1, .int .i64 p.s2, .int .i64 p.s3, .int .i64 p.s4, .int .i64 p.s5, .int .i64 p.s6, .int .i64 p.s7, .int .i64 p.s8, .int .i64 p.s9, .int .i64 p.s10, .int .i64 p.s11]) := rfl
  rw [HV.out]
  have HP : Hid (p.val = .agg #[.int .i64 p.s0, .int .i64 p.s1, .int .i64 p.s2, .int .i64 p.s3, .int .i64 p.s4, .int .i64 p.s5, .int .i64 p.s6, .int .i64 p.s7, .int .i64 p.s8, .int .i64 p.s9, .int .i64 p.s10, .int .i64 p.s11]) := rfl
  go_enter Tryz.func54, Tryz.ntmps54
  go_wp2_with fail
  have HH := hid (heap_alloc_last w (.cells #[.int .i64 2, .int .i64 e, .int .i64 v, .int .i64 n, .int .i64 q, .string t, .int .i64 p.s0, .int .i64 p.s1, .int .i64 p.s2, .int .i64 p.s3, .int .i64 p.s4, .int .i64 p.s5, .int .i64 p.s6, .int .i64 p.s7, .int .i64 p.s8, .int .i64 p.s9, .int .i64 p.s10, .int .i64 p.s11] 27))
  have HF := hid ((Frm.refl M0 w).alloc (.cells #[.int .i64 2, .int .i64 e, .int .i64 v, .int .i64 n, .int .i64 q, .string t, .int .i64 p.s0, .int .i64 p.s1, .int .i64 p.s2, .int .i64 p.s3, .int .i64 p.s4, .int .i64 p.s5, .int .i64 p.s6, .int .i64 p.s7, .int .i64 p.s8, .int .i64 p.s9, .int .i64 p.s10, .int .i64 p.s11] 27))
  obtain ⟨b, hb⟩ : ∃ b, b = w.heap.size := ⟨_, rfl⟩
  obtain ⟨w1, hw1⟩ : ∃ x, x = w.alloc (.cells #[.int .i64 2, .int .i64 e, .int .i64 v, .int .i64 n, .int .i64 q, .string t, .int .i64 p.s0, .int .i64 p.s1, .int .i64 p.s2, .int .i64 p.s3, .int .i64 p.s4, .int .i64 p.s5, .int .i64 p.s6, .int .i64 p.s7, .int .i64 p.s8, .int .i64 p.s9, .int .i64 p.s10, .int .i64 p.s11] 27) := ⟨_, rfl⟩
  rw [← hw1, ← hb] at HH
  rw [← hw1] at HF
  rw [← hw1, ← hb]
  clear hw1 hb
  refine (rin10_calls _ _ _ _).mono ?_
  rintro _ _ ⟨rfl, rfl⟩
  obtain ⟨k1, K1⟩ : ∃ x, Hid (btw e 1 1099511627776 = x) := ⟨_, rfl⟩
  rw [K1.out]
  have c0 : w1.cell? ⟨b, 0, none⟩ = some (.int .i64 2) := cell_at HH.out 0
  cases k1
  case false =>
    go_wp2_with fail
    go_ret
    exact ⟨by rw [HA.out, K1.out]; first | rfl | simp, HF.out⟩
  obtain ⟨k2, K2⟩ : ∃ x, Hid (sneq p Sp.zero = x) := ⟨_, rfl⟩
  have e2 : sneq ⟨p.s0, p.s1, p.s2, p.s3, p.s4, p.s5, p.s6, p.s7, p.s8, p.s9, p.s10, p.s11⟩ ⟨0, 0, 0, 0, 0, 0, 0, 0, 0, 0, 0, 0⟩ = k2 := K2.out
  cases k2
  case true =>
    go_wp2_with (refine wpList_load_at (by kernel_rfl) 25 (.tmp 23) (by with_reducible rfl) b 6 (by kernel_rfl) _ _ _ HH.out #[.int .i64 p.s0, .int .i64 p.s1, .int .i64 p.s2, .int .i64 p.s3, .int .i64 p.s4, .int .i64 p.s5, .int .i64 p.s6, .int .i64 p.s7, .int .i64 p.s8, .int .i64 p.s9, .int .i64 p.s10, .int .i64 p.s11] (by kernel_rfl) (by simp) _ Tryz.underlying25 rfl (by kernel_rfl) ?_)
    go_ret
    exact ⟨by rw [HA.out, K1.out, K2.out]; rfl, HF.out⟩
  go_wp2_with (first | (refine wpList_load_at (by kernel_rfl) 25 (.tmp 23) (by with_reducible rfl) b 6 (by kernel_rfl) _ _ _ HH.out #[.int .i64 p.s0, .int .i64 p.s1, .int .i64 p.s2, .int .i64 p.s3, .int .i64 p.s4, .int .i64 p.s5, .int .i64 p.s6, .int .i64 p.s7, .int .i64 p.s8, .int .i64 p.s9, .int .i64 p.s10, .int .i64 p.s11] (by kernel_rfl) (by simp) _ Tryz.underlying25 rfl (by kernel_rfl) ?_) | (refine wpList_load_row rfl 27 (.tmp 1) (by with_reducible rfl) b (by kernel_rfl) _ _ _ _ HH.out Tryz.underlying27 rfl (by kernel_rfl) ?_))
  rw [← HV.out]
  refine (rbare_calls ⟨2, e, v, n, q, t, p⟩ true _).mono ?_
  rintro _ w2 ⟨rfl, hf⟩
  rw [HV.out]
  obtain ⟨k3, K3⟩ : ∃ x, Hid (bareB t true = x) := ⟨_, rfl⟩
  have K3' : Hid (bareB (Rc.mk 2 e v n q t p).t true = k3) := K3
  rw [K3'.out]
  have H2 := hid (hf.heap HH.out (fun h => h))
  have F2 := hid (HF.out.then0 hf)
  clear hf c0
  have d2 : w2.cell? ⟨b, 2, none⟩ = some (.int .i64 v) := cell_at H2.out 2
  have d3 : w2.cell? ⟨b, 3, none⟩ = some (.int .i64 n) := cell_at H2.out 3
  have d4 : w2.cell? ⟨b, 4, none⟩ = some (.int .i64 q) := cell_at H2.out 4
  cases k3
  case false =>
    go_wp2_with fail
    go_ret
    exact ⟨by rw [HA.out, K1.out, K2.out, K3.out]; rfl, F2.out⟩
  obtain ⟨k4, K4⟩ : ∃ x, Hid ((v == 0) = x) := ⟨_, rfl⟩
  have z4 := K4.out
  cases k4
  case false =>
    go_wp2_with fail
    go_ret
    exact ⟨by rw [HA.out, K1.out, K2.out, K3.out, K4.out]; rfl, F2.out⟩
  go_wp2_with fail
  refine (rin10_calls _ _ _ _).mono ?_
  rintro _ _ ⟨rfl, rfl⟩
  obtain ⟨k5, K5⟩ : ∃ x, Hid (btw n 1 1048576 = x) := ⟨_, rfl⟩
  rw [K5.out]
  cases k5
  case false =>
    go_wp2_with fail
    go_ret
    exact ⟨by rw [HA.out, K1.out, K2.out, K3.out, K4.out, K5.out]; rfl, F2.out⟩
  obtain ⟨k6, K6⟩ : ∃ x, Hid ((q == 0) = x) := ⟨_, rfl⟩
  have z6 := K6.out
  go_wp2_with fail
  go_ret
  exact ⟨by rw [HA.out, K1.out, K2.out, K3.out, K4.out, K5.out, K6.out]; rfl, F2.out⟩
set_option maxRecDepth 20000 in
set_option maxHeartbeats 4000000 in
attribute [-go_sem] run_neq_struct in
attribute [local go_sem] neq_sp in
theorem rright3 (e v n q : Int) (t : ByteArray) (p : Sp) (w : World) : Calls Tryz.prog 54 #[Rc.val ⟨3, e, v, n, q, t, p⟩] w fun x w' => x = .returned (.bool (rrightB ⟨3, e, v, n, q, t, p⟩)) ∧ Frm M0 w w' := by
  have HA : Hid (rrightB ⟨3, e, v, n, q, t, p⟩ = (btw e 1 1099511627776 && ((bareB t false && ((v == 0) && (btw n 0 1099511627776 && ((q == 0) && ((p.rchkE == 0))))))))) := hid (by simp [rrightB, rmayK, rk3])
  have HV : Hid (Rc.val ⟨3, e, v, n, q, t, p⟩ = .agg #[.int .i64 3, .int .i64 e, .int .i64 v, .int .i64 n, .int .i64 q, .string t, .int .i64 p.s0, .int .i64 p.s1, .int .i64 p.s2, .int .i64 p.s3, .int .i64 p.s4, .int .i64 p.s5, .int .i64 p.s6, .int .i64 p.s7, .int .i64 p.s8, .int .i64 p.s9, .int .i64 p.s10, .int .i64 p.s11]) := rfl
  rw [HV.out]
  have HP : Hid (p.val = .agg #[.int .i64 p.s0, .int .i64 p.s1, .int .i64 p.s2, .int .i64 p.s3, .int .i64 p.s4, .int .i64 p.s5, .int .i64 p.s6, .int .i64 p.s7, .int .i64 p.s8, .int .i64 p.s9, .int .i64 p.s10, .int .i64 p.s11]) := rfl
  go_enter Tryz.func54, Tryz.ntmps54
  go_wp2_with fail
  have HH := hid (heap_alloc_last w (.cells #[.int .i64 3, .int .i64 e, .int .i64 v, .int .i64 n, .int .i64 q, .string t, .int .i64 p.s0, .int .i64 p.s1, .int .i64 p.s2, .int .i64 p.s3, .int .i64 p.s4, .int .i64 p.s5, .int .i64 p.s6, .int .i64 p.s7, .int .i64 p.s8, .int .i64 p.s9, .int .i64 p.s10, .int .i64 p.s11] 27))
  have HF := hid ((Frm.refl M0 w).alloc (.cells #[.int .i64 3, .int .i64 e, .int .i64 v, .int .i64 n, .int .i64 q, .string t, .int .i64 p.s0, .int .i64 p.s1, .int .i64 p.s2, .int .i64 p.s3, .int .i64 p.s4, .int .i64 p.s5, .int .i64 p.s6, .int .i64 p.s7, .int .i64 p.s8, .int .i64 p.s9, .int .i64 p.s10, .int .i64 p.s11] 27))
  obtain ⟨b, hb⟩ : ∃ b, b = w.heap.size := ⟨_, rfl⟩
  obtain ⟨w1, hw1⟩ : ∃ x, x = w.alloc (.cells #[.int .i64 3, .int .i64 e, .int .i64 v, .int .i64 n, .int .i64 q, .string t, .int .i64 p.s0, .int .i64 p.s1, .int .i64 p.s2, .int .i64 p.s3, .int .i64 p.s4, .int .i64 p.s5, .int .i64 p.s6, .int .i64 p.s7, .int .i64 p.s8, .int .i64 p.s9, .int .i64 p.s10, .int .i64 p.s11] 27) := ⟨_, rfl⟩
  rw [← hw1, ← hb] at HH
  rw [← hw1] at HF
  rw [← hw1, ← hb]
  clear hw1 hb
  refine (rin10_calls _ _ _ _).mono ?_
  rintro _ _ ⟨rfl, rfl⟩
  obtain ⟨k1, K1⟩ : ∃ x, Hid (btw e 1 1099511627776 = x) := ⟨_, rfl⟩
  rw [K1.out]
  have c0 : w1.cell? ⟨b, 0, none⟩ = some (.int .i64 3) := cell_at HH.out 0
  cases k1
  case false =>
    go_wp2_with fail
    go_ret
    exact ⟨by rw [HA.out, K1.out]; first | rfl | simp, HF.out⟩
  go_wp2_with (first | (refine wpList_load_row rfl 27 (.tmp 1) (by with_reducible rfl) b (by kernel_rfl) _ _ _ _ HH.out Tryz.underlying27 rfl (by kernel_rfl) ?_))
  rw [← HV.out]
  refine (rbare_calls ⟨3, e, v, n, q, t, p⟩ false _).mono ?_
  rintro _ w2 ⟨rfl, hf⟩
  rw [HV.out]
  obtain ⟨k3, K3⟩ : ∃ x, Hid (bareB t false = x) := ⟨_, rfl⟩
  have K3' : Hid (bareB (Rc.mk 3 e v n q t p).t false = k3) := K3
  rw [K3'.out]
  have H2 := hid (hf.heap HH.out (fun h => h))
  have F2 := hid (HF.out.then0 hf)
  clear hf c0
  have d2 : w2.cell? ⟨b, 2, none⟩ = some (.int .i64 v) := cell_at H2.out 2
  have d3 : w2.cell? ⟨b, 3, none⟩ = some (.int .i64 n) := cell_at H2.out 3
  have d4 : w2.cell? ⟨b, 4, none⟩ = some (.int .i64 q) := cell_at H2.out 4
  go_wp2_with (refine wpList_load_at (by kernel_rfl) 25 (.tmp 77) (by with_reducible rfl) b 6 (by kernel_rfl) _ _ _ H2.out #[.int .i64 p.s0, .int .i64 p.s1, .int .i64 p.s2, .int .i64 p.s3, .int .i64 p.s4, .int .i64 p.s5, .int .i64 p.s6, .int .i64 p.s7, .int .i64 p.s8, .int .i64 p.s9, .int .i64 p.s10, .int .i64 p.s11] (by kernel_rfl) (by simp) _ Tryz.underlying25 rfl (by kernel_rfl) ?_)
  rw [← HP.out]
  refine (rcheck_calls p _).mono ?_
  rintro _ w3 ⟨rfl, hf⟩
  rw [HP.out]
  have H3 := hid (hf.heap H2.out (fun h => h))
  have F3 := hid (F2.out.then0 hf)
  clear hf d2 d3 d4
  obtain ⟨en, HEN⟩ : ∃ x, Hid (p.rchkN = x) := ⟨_, rfl⟩
  obtain ⟨ee, HEE⟩ : ∃ x, Hid (p.rchkE = x) := ⟨_, rfl⟩
  rw [HEN.out, HEE.out]
  have d2 : w3.cell? ⟨b, 2, none⟩ = some (.int .i64 v) := cell_at H3.out 2
  have d3 : w3.cell? ⟨b, 3, none⟩ = some (.int .i64 n) := cell_at H3.out 3
  have d4 : w3.cell? ⟨b, 4, none⟩ = some (.int .i64 q) := cell_at H3.out 4
  cases k3
  case false =>
    go_wp2_with fail
    go_ret
    exact ⟨by rw [HA.out, K1.out, K3.out]; rfl, F3.out⟩
  obtain ⟨k4, K4⟩ : ∃ x, Hid ((v == 0) = x) := ⟨_, rfl⟩
  have z4 := K4.out
  cases k4
  case false =>
    go_wp2_with fail
    go_ret
    exact ⟨by rw [HA.out, K1.out, K3.out, K4.out]; rfl, F3.out⟩
  go_wp2_with fail
  refine (rin10_calls _ _ _ _).mono ?_
  rintro _ _ ⟨rfl, rfl⟩
  obtain ⟨k5, K5⟩ : ∃ x, Hid (btw n 0 1099511627776 = x) := ⟨_, rfl⟩
  rw [K5.out]
  cases k5
  case false =>
    go_wp2_with fail
    go_ret
    exact ⟨by rw [HA.out, K1.out, K3.out, K4.out, K5.out]; rfl, F3.out⟩
  obtain ⟨k6, K6⟩ : ∃ x, Hid ((q == 0) = x) := ⟨_, rfl⟩
  have z6 := K6.out
  cases k6
  case false =>
    go_wp2_with fail
    go_ret
    exact ⟨by rw [HA.out, K1.out, K3.out, K4.out, K5.out, K6.out]; rfl, F3.out⟩
  go_wp2_with fail
  go_ret
  exact ⟨by rw [HA.out, K1.out, K3.out, K4.out, K5.out, K6.out, HEE.out]; rfl, F3.out⟩
set_option maxRecDepth 20000 in
set_option maxHeartbeats 4000000 in
attribute [-go_sem] run_neq_struct in
attribute [local go_sem] neq_sp in
theorem rright4 (e v n q : Int) (t : ByteArray) (p : Sp) (w : World) : Calls Tryz.prog 54 #[Rc.val ⟨4, e, v, n, q, t, p⟩] w fun x w' => x = .returned (.bool (rrightB ⟨4, e, v, n, q, t, p⟩)) ∧ Frm M0 w w' := by
  have HA : Hid (rrightB ⟨4, e, v, n, q, t, p⟩ = (btw e 1 1099511627776 && (!(sneq p Sp.zero) && (bareB t true && ((v == 0) && (btw n 1 5 && ((q == 0)))))))) := hid (by simp [rrightB, rmayK, rk4])
  have HV : Hid (Rc.val ⟨4, e, v, n, q, t, p⟩ = .agg #[.int .i64 4, .int .i64 e, .int .i64 v, .int .i64 n, .int .i64 q, .string t, .int .i64 p.s0, .int .i64 p.s1, .int .i64 p.s2, .int .i64 p.s3, .int .i64 p.s4, .int .i64 p.s5, .int .i64 p.s6, .int .i64 p.s7, .int .i64 p.s8, .int .i64 p.s9, .int .i64 p.s10, .int .i64 p.s11]) := rfl
  rw [HV.out]
  have HP : Hid (p.val = .agg #[.int .i64 p.s0, .int .i64 p.s1, .int .i64 p.s2, .int .i64 p.s3, .int .i64 p.s4, .int .i64 p.s5, .int .i64 p.s6, .int .i64 p.s7, .int .i64 p.s8, .int .i64 p.s9, .int .i64 p.s10, .int .i64 p.s11]) := rfl
  go_enter Tryz.func54, Tryz.ntmps54
  go_wp2_with fail
  have HH := hid (heap_alloc_last w (.cells #[.int .i64 4, .int .i64 e, .int .i64 v, .int .i64 n, .int .i64 q, .string t, .int .i64 p.s0, .int .i64 p.s1, .int .i64 p.s2, .int .i64 p.s3, .int .i64 p.s4, .int .i64 p.s5, .int .i64 p.s6, .int .i64 p.s7, .int .i64 p.s8, .int .i64 p.s9, .int .i64 p.s10, .int .i64 p.s11] 27))
  have HF := hid ((Frm.refl M0 w).alloc (.cells #[.int .i64 4, .int .i64 e, .int .i64 v, .int .i64 n, .int .i64 q, .string t, .int .i64 p.s0, .int .i64 p.s1, .int .i64 p.s2, .int .i64 p.s3, .int .i64 p.s4, .int .i64 p.s5, .int .i64 p.s6, .int .i64 p.s7, .int .i64 p.s8, .int .i64 p.s9, .int .i64 p.s10, .int .i64 p.s11] 27))
  obtain ⟨b, hb⟩ : ∃ b, b = w.heap.size := ⟨_, rfl⟩
  obtain ⟨w1, hw1⟩ : ∃ x, x = w.alloc (.cells #[.int .i64 4, .int .i64 e, .int .i64 v, .int .i64 n, .int .i64 q, .string t, .int .i64 p.s0, .int .i64 p.s1, .int .i64 p.s2, .int .i64 p.s3, .int .i64 p.s4, .int .i64 p.s5, .int .i64 p.s6, .int .i64 p.s7, .int .i64 p.s8, .int .i64 p.s9, .int .i64 p.s10, .int .i64 p.s11] 27) := ⟨_, rfl⟩
  rw [← hw1, ← hb] at HH
  rw [← hw1] at HF
  rw [← hw1, ← hb]
  clear hw1 hb
  refine (rin10_calls _ _ _ _).mono ?_
  rintro _ _ ⟨rfl, rfl⟩
  obtain ⟨k1, K1⟩ : ∃ x, Hid (btw e 1 1099511627776 = x) := ⟨_, rfl⟩
  rw [K1.out]
  have c0 : w1.cell? ⟨b, 0, none⟩ = some (.int .i64 4) := cell_at HH.out 0
  cases k1
  case false =>
    go_wp2_with fail
    go_ret
    exact ⟨by rw [HA.out, K1.out]; first | rfl | simp, HF.out⟩
  obtain ⟨k2, K2⟩ : ∃ x, Hid (sneq p Sp.zero = x) := ⟨_, rfl⟩
  have e2 : sneq ⟨p.s0, p.s1, p.s2, p.s3, p.s4, p.s5, p.s6, p.s7, p.s8, p.s9, p.s10, p.s11⟩ ⟨0, 0, 0, 0, 0, 0, 0, 0, 0, 0, 0, 0⟩ = k2 := K2.out
  cases k2
  case true =>
    go_wp2_with (refine wpList_load_at (by kernel_rfl) 25 (.tmp 23) (by with_reducible rfl) b 6 (by kernel_rfl) _ _ _ HH.out #[.int .i64 p.s0, .int .i64 p.s1, .int .i64 p.s2, .int .i64 p.s3, .int .i64 p.s4, .int .i64 p.s5, .int .i64 p.s6, .int .i64 p.s7, .int .i64 p.s8, .int .i64 p.s9, .int .i64 p.s10, .int .i64 p.s11] (by kernel_rfl) (by simp) _ Tryz.underlying25 rfl (by kernel_rfl) ?_)
    go_ret
    exact ⟨by rw [HA.out, K1.out, K2.out]; rfl, HF.out⟩
  go_wp2_with (first | (refine wpList_load_at (by kernel_rfl) 25 (.tmp 23) (by with_reducible rfl) b 6 (by kernel_rfl) _ _ _ HH.out #[.int .i64 p.s0, .int .i64 p.s1, .int .i64 p.s2, .int .i64 p.s3, .int .i64 p.s4, .int .i64 p.s5, .int .i64 p.s6, .int .i64 p.s7, .int .i64 p.s8, .int .i64 p.s9, .int .i64 p.s10, .int .i64 p.s11] (by kernel_rfl) (by simp) _ Tryz.underlying25 rfl (by kernel_rfl) ?_) | (refine wpList_load_row rfl 27 (.tmp 1) (by with_reducible rfl) b (by kernel_rfl) _ _ _ _ HH.out Tryz.underlying27 rfl (by kernel_rfl) ?_))
  rw [← HV.out]
  refine (rbare_calls ⟨4, e, v, n, q, t, p⟩ true _).mono ?_
  rintro _ w2 ⟨rfl, hf⟩
  rw [HV.out]
  obtain ⟨k3, K3⟩ : ∃ x, Hid (bareB t true = x) := ⟨_, rfl⟩
  have K3' : Hid (bareB (Rc.mk 4 e v n q t p).t true = k3) := K3
  rw [K3'.out]
  have H2 := hid (hf.heap HH.out (fun h => h))
  have F2 := hid (HF.out.then0 hf)
  clear hf c0
  have d2 : w2.cell? ⟨b, 2, none⟩ = some (.int .i64 v) := cell_at H2.out 2
  have d3 : w2.cell? ⟨b, 3, none⟩ = some (.int .i64 n) := cell_at H2.out 3
  have d4 : w2.cell? ⟨b, 4, none⟩ = some (.int .i64 q) := cell_at H2.out 4
  cases k3
  case false =>
    go_wp2_with fail
    go_ret
    exact ⟨by rw [HA.out, K1.out, K2.out, K3.out]; rfl, F2.out⟩
  obtain ⟨k4, K4⟩ : ∃ x, Hid ((v == 0) = x) := ⟨_, rfl⟩
  have z4 := K4.out
  cases k4
  case false =>
    go_wp2_with fail
    go_ret
    exact ⟨by rw [HA.out, K1.out, K2.out, K3.out, K4.out]; rfl, F2.out⟩
  go_wp2_with fail
  refine (rin10_calls _ _ _ _).mono ?_
  rintro _ _ ⟨rfl, rfl⟩
  obtain ⟨k5, K5⟩ : ∃ x, Hid (btw n 1 5 = x) := ⟨_, rfl⟩
  rw [K5.out]
  cases k5
  case false =>
    go_wp2_with fail
    go_ret
    exact ⟨by rw [HA.out, K1.out, K2.out, K3.out, K4.out, K5.out]; rfl, F2.out⟩
  obtain ⟨k6, K6⟩ : ∃ x, Hid ((q == 0) = x) := ⟨_, rfl⟩
  have z6 := K6.out
  go_wp2_with fail
  go_ret
  exact ⟨by rw [HA.out, K1.out, K2.out, K3.out, K4.out, K5.out, K6.out]; rfl, F2.out⟩
set_option maxRecDepth 20000 in
set_option maxHeartbeats 4000000 in
attribute [-go_sem] run_neq_struct in
attribute [local go_sem] neq_sp in
theorem rright5 (e v n q : Int) (t : ByteArray) (p : Sp) (w : World) : Calls Tryz.prog 54 #[Rc.val ⟨5, e, v, n, q, t, p⟩] w fun x w' => x = .returned (.bool (rrightB ⟨5, e, v, n, q, t, p⟩)) ∧ Frm M0 w w' := by
  have HA : Hid (rrightB ⟨5, e, v, n, q, t, p⟩ = (btw e 1 1099511627776 && (!(sneq p Sp.zero) && (bareB t false && (btw v 0 15 && (btw n 0 1048576 && (btw q 1 1099511627776))))))) := hid (by simp [rrightB, rmayK, rk5])
  have HV : Hid (Rc.val ⟨5, e, v, n, q, t, p⟩ = .agg #[.int .i64 5, .int .i64 e, .int .i64 v, .int .i64 n, .int .i64 q, .string t, .int .i64 p.s0, .int .i64 p.s1, .int .i64 p.s2, .int .i64 p.s3, .int .i64 p.s4, .int .i64 p.s5, .int .i64 p.s6, .int .i64 p.s7, .int .i64 p.s8, .int .i64 p.s9, .int .i64 p.s10, .int .i64 p.s11]) := rfl
  rw [HV.out]
  have HP : Hid (p.val = .agg #[.int .i64 p.s0, .int .i64 p.s1, .int .i64 p.s2, .int .i64 p.s3, .int .i64 p.s4, .int .i64 p.s5, .int .i64 p.s6, .int .i64 p.s7, .int .i64 p.s8, .int .i64 p.s9, .int .i64 p.s10, .int .i64 p.s11]) := rfl
  go_enter Tryz.func54, Tryz.ntmps54
  go_wp2_with fail
  have HH := hid (heap_alloc_last w (.cells #[.int .i64 5, .int .i64 e, .int .i64 v, .int .i64 n, .int .i64 q, .string t, .int .i64 p.s0, .int .i64 p.s1, .int .i64 p.s2, .int .i64 p.s3, .int .i64 p.s4, .int .i64 p.s5, .int .i64 p.s6, .int .i64 p.s7, .int .i64 p.s8, .int .i64 p.s9, .int .i64 p.s10, .int .i64 p.s11] 27))
  have HF := hid ((Frm.refl M0 w).alloc (.cells #[.int .i64 5, .int .i64 e, .int .i64 v, .int .i64 n, .int .i64 q, .string t, .int .i64 p.s0, .int .i64 p.s1, .int .i64 p.s2, .int .i64 p.s3, .int .i64 p.s4, .int .i64 p.s5, .int .i64 p.s6, .int .i64 p.s7, .int .i64 p.s8, .int .i64 p.s9, .int .i64 p.s10, .int .i64 p.s11] 27))
  obtain ⟨b, hb⟩ : ∃ b, b = w.heap.size := ⟨_, rfl⟩
  obtain ⟨w1, hw1⟩ : ∃ x, x = w.alloc (.cells #[.int .i64 5, .int .i64 e, .int .i64 v, .int .i64 n, .int .i64 q, .string t, .int .i64 p.s0, .int .i64 p.s1, .int .i64 p.s2, .int .i64 p.s3, .int .i64 p.s4, .int .i64 p.s5, .int .i64 p.s6, .int .i64 p.s7, .int .i64 p.s8, .int .i64 p.s9, .int .i64 p.s10, .int .i64 p.s11] 27) := ⟨_, rfl⟩
  rw [← hw1, ← hb] at HH
  rw [← hw1] at HF
  rw [← hw1, ← hb]
  clear hw1 hb
  refine (rin10_calls _ _ _ _).mono ?_
  rintro _ _ ⟨rfl, rfl⟩
  obtain ⟨k1, K1⟩ : ∃ x, Hid (btw e 1 1099511627776 = x) := ⟨_, rfl⟩
  rw [K1.out]
  have c0 : w1.cell? ⟨b, 0, none⟩ = some (.int .i64 5) := cell_at HH.out 0
  cases k1
  case false =>
    go_wp2_with fail
    go_ret
    exact ⟨by rw [HA.out, K1.out]; first | rfl | simp, HF.out⟩
  obtain ⟨k2, K2⟩ : ∃ x, Hid (sneq p Sp.zero = x) := ⟨_, rfl⟩
  have e2 : sneq ⟨p.s0, p.s1, p.s2, p.s3, p.s4, p.s5, p.s6, p.s7, p.s8, p.s9, p.s10, p.s11⟩ ⟨0, 0, 0, 0, 0, 0, 0, 0, 0, 0, 0, 0⟩ = k2 := K2.out
  cases k2
  case true =>
    go_wp2_with (refine wpList_load_at (by kernel_rfl) 25 (.tmp 23) (by with_reducible rfl) b 6 (by kernel_rfl) _ _ _ HH.out #[.int .i64 p.s0, .int .i64 p.s1, .int .i64 p.s2, .int .i64 p.s3, .int .i64 p.s4, .int .i64 p.s5, .int .i64 p.s6, .int .i64 p.s7, .int .i64 p.s8, .int .i64 p.s9, .int .i64 p.s10, .int .i64 p.s11] (by kernel_rfl) (by simp) _ Tryz.underlying25 rfl (by kernel_rfl) ?_)
    go_ret
    exact ⟨by rw [HA.out, K1.out, K2.out]; rfl, HF.out⟩
  go_wp2_with (first | (refine wpList_load_at (by kernel_rfl) 25 (.tmp 23) (by with_reducible rfl) b 6 (by kernel_rfl) _ _ _ HH.out #[.int .i64 p.s0, .int .i64 p.s1, .int .i64 p.s2, .int .i64 p.s3, .int .i64 p.s4, .int .i64 p.s5, .int .i64 p.s6, .int .i64 p.s7, .int .i64 p.s8, .int .i64 p.s9, .int .i64 p.s10, .int .i64 p.s11] (by kernel_rfl) (by simp) _ Tryz.underlying25 rfl (by kernel_rfl) ?_) | (refine wpList_load_row rfl 27 (.tmp 1) (by with_reducible rfl) b (by kernel_rfl) _ _ _ _ HH.out Tryz.underlying27 rfl (by kernel_rfl) ?_))
  rw [← HV.out]
  refine (rbare_calls ⟨5, e, v, n, q, t, p⟩ false _).mono ?_
  rintro _ w2 ⟨rfl, hf⟩
  rw [HV.out]
  obtain ⟨k3, K3⟩ : ∃ x, Hid (bareB t false = x) := ⟨_, rfl⟩
  have K3' : Hid (bareB (Rc.mk 5 e v n q t p).t false = k3) := K3
  rw [K3'.out]
  have H2 := hid (hf.heap HH.out (fun h => h))
  have F2 := hid (HF.out.then0 hf)
  clear hf c0
  have d2 : w2.cell? ⟨b, 2, none⟩ = some (.int .i64 v) := cell_at H2.out 2
  have d3 : w2.cell? ⟨b, 3, none⟩ = some (.int .i64 n) := cell_at H2.out 3
  have d4 : w2.cell? ⟨b, 4, none⟩ = some (.int .i64 q) := cell_at H2.out 4
  cases k3
  case false =>
    go_wp2_with fail
    go_ret
    exact ⟨by rw [HA.out, K1.out, K2.out, K3.out]; rfl, F2.out⟩
  go_wp2_with fail
  refine (rin10_calls _ _ _ _).mono ?_
  rintro _ _ ⟨rfl, rfl⟩
  obtain ⟨k4, K4⟩ : ∃ x, Hid (btw v 0 15 = x) := ⟨_, rfl⟩
  rw [K4.out]
  cases k4
  case false =>
    go_wp2_with fail
    go_ret
    exact ⟨by rw [HA.out, K1.out, K2.out, K3.out, K4.out]; rfl, F2.out⟩
  go_wp2_with fail
  refine (rin10_calls _ _ _ _).mono ?_
  rintro _ _ ⟨rfl, rfl⟩
  obtain ⟨k5, K5⟩ : ∃ x, Hid (btw n 0 1048576 = x) := ⟨_, rfl⟩
  rw [K5.out]
  cases k5
  case false =>
    go_wp2_with fail
    go_ret
    exact ⟨by rw [HA.out, K1.out, K2.out, K3.out, K4.out, K5.out]; rfl, F2.out⟩
  go_wp2_with fail
  refine (rin10_calls _ _ _ _).mono ?_
  rintro _ _ ⟨rfl, rfl⟩
  obtain ⟨k6, K6⟩ : ∃ x, Hid (btw q 1 1099511627776 = x) := ⟨_, rfl⟩
  rw [K6.out]
  go_wp2_with fail
  go_ret
  exact ⟨by rw [HA.out, K1.out, K2.out, K3.out, K4.out, K5.out, K6.out]; rfl, F2.out⟩
set_option maxRecDepth 20000 in
set_option maxHeartbeats 4000000 in
attribute [-go_sem] run_neq_struct in
attribute [local go_sem] neq_sp in
theorem rright6 (e v n q : Int) (t : ByteArray) (p : Sp) (w : World) : Calls Tryz.prog 54 #[Rc.val ⟨6, e, v, n, q, t, p⟩] w fun x w' => x = .returned (.bool (rrightB ⟨6, e, v, n, q, t, p⟩)) ∧ Frm M0 w w' := by
  have HA : Hid (rrightB ⟨6, e, v, n, q, t, p⟩ = (btw e 1 1099511627776 && (!(sneq p Sp.zero) && (bareB t false && (btw v 0 15 && ((n == 0) && (btw q 1 1099511627776))))))) := hid (by simp [rrightB, rmayK, rk6])
  have HV : Hid (Rc.val ⟨6, e, v, n, q, t, p⟩ = .agg #[.int .i64 6, .int .i64 e, .int .i64 v, .int .i64 n, .int .i64 q, .string t, .int .i64 p.s0, .int .i64 p.s1, .int .i64 p.s2, .int .i64 p.s3, .int .i64 p.s4, .int .i64 p.s5, .int .i64 p.s6, .int .i64 p.s7, .int .i64 p.s8, .int .i64 p.s9, .int .i64 p.s10, .int .i64 p.s11]) := rfl
  rw [HV.out]
  have HP : Hid (p.val = .agg #[.int .i64 p.s0, .int .i64 p.s1, .int .i64 p.s2, .int .i64 p.s3, .int .i64 p.s4, .int .i64 p.s5, .int .i64 p.s6, .int .i64 p.s7, .int .i64 p.s8, .int .i64 p.s9, .int .i64 p.s10, .int .i64 p.s11]) := rfl
  go_enter Tryz.func54, Tryz.ntmps54
  go_wp2_with fail
  have HH := hid (heap_alloc_last w (.cells #[.int .i64 6, .int .i64 e, .int .i64 v, .int .i64 n, .int .i64 q, .string t, .int .i64 p.s0, .int .i64 p.s1, .int .i64 p.s2, .int .i64 p.s3, .int .i64 p.s4, .int .i64 p.s5, .int .i64 p.s6, .int .i64 p.s7, .int .i64 p.s8, .int .i64 p.s9, .int .i64 p.s10, .int .i64 p.s11] 27))
  have HF := hid ((Frm.refl M0 w).alloc (.cells #[.int .i64 6, .int .i64 e, .int .i64 v, .int .i64 n, .int .i64 q, .string t, .int .i64 p.s0, .int .i64 p.s1, .int .i64 p.s2, .int .i64 p.s3, .int .i64 p.s4, .int .i64 p.s5, .int .i64 p.s6, .int .i64 p.s7, .int .i64 p.s8, .int .i64 p.s9, .int .i64 p.s10, .int .i64 p.s11] 27))
  obtain ⟨b, hb⟩ : ∃ b, b = w.heap.size := ⟨_, rfl⟩
  obtain ⟨w1, hw1⟩ : ∃ x, x = w.alloc (.cells #[.int .i64 6, .int .i64 e, .int .i64 v, .int .i64 n, .int .i64 q, .string t, .int .i64 p.s0, .int .i64 p.s1, .int .i64 p.s2, .int .i64 p.s3, .int .i64 p.s4, .int .i64 p.s5, .int .i64 p.s6, .int .i64 p.s7, .int .i64 p.s8, .int .i64 p.s9, .int .i64 p.s10, .int .i64 p.s11] 27) := ⟨_, rfl⟩
  rw [← hw1, ← hb] at HH
  rw [← hw1] at HF
  rw [← hw1, ← hb]
  clear hw1 hb
  refine (rin10_calls _ _ _ _).mono ?_
  rintro _ _ ⟨rfl, rfl⟩
  obtain ⟨k1, K1⟩ : ∃ x, Hid (btw e 1 1099511627776 = x) := ⟨_, rfl⟩
  rw [K1.out]
  have c0 : w1.cell? ⟨b, 0, none⟩ = some (.int .i64 6) := cell_at HH.out 0
  cases k1
  case false =>
    go_wp2_with fail
    go_ret
    exact ⟨by rw [HA.out, K1.out]; first | rfl | simp, HF.out⟩
  obtain ⟨k2, K2⟩ : ∃ x, Hid (sneq p Sp.zero = x) := ⟨_, rfl⟩
  have e2 : sneq ⟨p.s0, p.s1, p.s2, p.s3, p.s4, p.s5, p.s6, p.s7, p.s8, p.s9, p.s10, p.s11⟩ ⟨0, 0, 0, 0, 0, 0, 0, 0, 0, 0, 0, 0⟩ = k2 := K2.out
  cases k2
  case true =>
    go_wp2_with (refine wpList_load_at (by kernel_rfl) 25 (.tmp 23) (by with_reducible rfl) b 6 (by kernel_rfl) _ _ _ HH.out #[.int .i64 p.s0, .int .i64 p.s1, .int .i64 p.s2, .int .i64 p.s3, .int .i64 p.s4, .int .i64 p.s5, .int .i64 p.s6, .int .i64 p.s7, .int .i64 p.s8, .int .i64 p.s9, .int .i64 p.s10, .int .i64 p.s11] (by kernel_rfl) (by simp) _ Tryz.underlying25 rfl (by kernel_rfl) ?_)
    go_ret
    exact ⟨by rw [HA.out, K1.out, K2.out]; rfl, HF.out⟩
  go_wp2_with (first | (refine wpList_load_at (by kernel_rfl) 25 (.tmp 23) (by with_reducible rfl) b 6 (by kernel_rfl) _ _ _ HH.out #[.int .i64 p.s0, .int .i64 p.s1, .int .i64 p.s2, .int .i64 p.s3, .int .i64 p.s4, .int .i64 p.s5, .int .i64 p.s6, .int .i64 p.s7, .int .i64 p.s8, .int .i64 p.s9, .int .i64 p.s10, .int .i64 p.s11] (by kernel_rfl) (by simp) _ Tryz.underlying25 rfl (by kernel_rfl) ?_) | (refine wpList_load_row rfl 27 (.tmp 1) (by with_reducible rfl) b (by kernel_rfl) _ _ _ _ HH.out Tryz.underlying27 rfl (by kernel_rfl) ?_))
  rw [← HV.out]
  refine (rbare_calls ⟨6, e, v, n, q, t, p⟩ false _).mono ?_
  rintro _ w2 ⟨rfl, hf⟩
  rw [HV.out]
  obtain ⟨k3, K3⟩ : ∃ x, Hid (bareB t false = x) := ⟨_, rfl⟩
  have K3' : Hid (bareB (Rc.mk 6 e v n q t p).t false = k3) := K3
  rw [K3'.out]
  have H2 := hid (hf.heap HH.out (fun h => h))
  have F2 := hid (HF.out.then0 hf)
  clear hf c0
  have d2 : w2.cell? ⟨b, 2, none⟩ = some (.int .i64 v) := cell_at H2.out 2
  have d3 : w2.cell? ⟨b, 3, none⟩ = some (.int .i64 n) := cell_at H2.out 3
  have d4 : w2.cell? ⟨b, 4, none⟩ = some (.int .i64 q) := cell_at H2.out 4
  cases k3
  case false =>
    go_wp2_with fail
    go_ret
    exact ⟨by rw [HA.out, K1.out, K2.out, K3.out]; rfl, F2.out⟩
  go_wp2_with fail
  refine (rin10_calls _ _ _ _).mono ?_
  rintro _ _ ⟨rfl, rfl⟩
  obtain ⟨k4, K4⟩ : ∃ x, Hid (btw v 0 15 = x) := ⟨_, rfl⟩
  rw [K4.out]
  cases k4
  case false =>
    go_wp2_with fail
    go_ret
    exact ⟨by rw [HA.out, K1.out, K2.out, K3.out, K4.out]; rfl, F2.out⟩
  obtain ⟨k5, K5⟩ : ∃ x, Hid ((n == 0) = x) := ⟨_, rfl⟩
  have z5 := K5.out
  cases k5
  case false =>
    go_wp2_with fail
    go_ret
    exact ⟨by rw [HA.out, K1.out, K2.out, K3.out, K4.out, K5.out]; rfl, F2.out⟩
  go_wp2_with fail
  refine (rin10_calls _ _ _ _).mono ?_
  rintro _ _ ⟨rfl, rfl⟩
  obtain ⟨k6, K6⟩ : ∃ x, Hid (btw q 1 1099511627776 = x) := ⟨_, rfl⟩
  rw [K6.out]
  go_wp2_with fail
  go_ret
  exact ⟨by rw [HA.out, K1.out, K2.out, K3.out, K4.out, K5.out, K6.out]; rfl, F2.out⟩
set_option maxRecDepth 20000 in
set_option maxHeartbeats 4000000 in
attribute [-go_sem] run_neq_struct in
attribute [local go_sem] neq_sp in
theorem rright7 (e v n q : Int) (t : ByteArray) (p : Sp) (w : World) : Calls Tryz.prog 54 #[Rc.val ⟨7, e, v, n, q, t, p⟩] w fun x w' => x = .returned (.bool (rrightB ⟨7, e, v, n, q, t, p⟩)) ∧ Frm M0 w w' := by
  have HA : Hid (rrightB ⟨7, e, v, n, q, t, p⟩ = (btw e 1 1099511627776 && (!(sneq p Sp.zero) && (bareB t true && (btw v 1 4 && (btw n 0 1099511627776 && ((q == 0)))))))) := hid (by simp [rrightB, rmayK, rk7])
  have HV : Hid (Rc.val ⟨7, e, v, n, q, t, p⟩ = .agg #[.int .i64 7, .int .i64 e, .int .i64 v, .int .i64 n, .int .i64 q, .string t, .int .i64 p.s0, .int .i64 p.s1, .int .i64 p.s2, .int .i64 p.s3, .int .i64 p.s4, .int .i64 p.s5, .int .i64 p.s6, .int .i64 p.s7, .int .i64 p.s8, .int .i64 p.s9, .int .i64 p.s10, .int .i64 p.s11]) := rfl
  rw [HV.out]
  have HP : Hid (p.val = .agg #[.int .i64 p.s0, .int .i64 p.s1, .int .i64 p.s2, .int .i64 p.s3, .int .i64 p.s4, .int .i64 p.s5, .int .i64 p.s6, .int .i64 p.s7, .int .i64 p.s8, .int .i64 p.s9, .int .i64 p.s10, .int .i64 p.s11]) := rfl
  go_enter Tryz.func54, Tryz.ntmps54
  go_wp2_with fail
  have HH := hid (heap_alloc_last w (.cells #[.int .i64 7, .int .i64 e, .int .i64 v, .int .i64 n, .int .i64 q, .string t, .int .i64 p.s0, .int .i64 p.s1, .int .i64 p.s2, .int .i64 p.s3, .int .i64 p.s4, .int .i64 p.s5, .int .i64 p.s6, .int .i64 p.s7, .int .i64 p.s8, .int .i64 p.s9, .int .i64 p.s10, .int .i64 p.s11] 27))
  have HF := hid ((Frm.refl M0 w).alloc (.cells #[.int .i64 7, .int .i64 e, .int .i64 v, .int .i64 n, .int .i64 q, .string t, .int .i64 p.s0, .int .i64 p.s1, .int .i64 p.s2, .int .i64 p.s3, .int .i64 p.s4, .int .i64 p.s5, .int .i64 p.s6, .int .i64 p.s7, .int .i64 p.s8, .int .i64 p.s9, .int .i64 p.s10, .int .i64 p.s11] 27))
  obtain ⟨b, hb⟩ : ∃ b, b = w.heap.size := ⟨_, rfl⟩
  obtain ⟨w1, hw1⟩ : ∃ x, x = w.alloc (.cells #[.int .i64 7, .int .i64 e, .int .i64 v, .int .i64 n, .int .i64 q, .string t, .int .i64 p.s0, .int .i64 p.s1, .int .i64 p.s2, .int .i64 p.s3, .int .i64 p.s4, .int .i64 p.s5, .int .i64 p.s6, .int .i64 p.s7, .int .i64 p.s8, .int .i64 p.s9, .int .i64 p.s10, .int .i64 p.s11] 27) := ⟨_, rfl⟩
  rw [← hw1, ← hb] at HH
  rw [← hw1] at HF
  rw [← hw1, ← hb]
  clear hw1 hb
  refine (rin10_calls _ _ _ _).mono ?_
  rintro _ _ ⟨rfl, rfl⟩
  obtain ⟨k1, K1⟩ : ∃ x, Hid (btw e 1 1099511627776 = x) := ⟨_, rfl⟩
  rw [K1.out]
  have c0 : w1.cell? ⟨b, 0, none⟩ = some (.int .i64 7) := cell_at HH.out 0
  cases k1
  case false =>
    go_wp2_with fail
    go_ret
    exact ⟨by rw [HA.out, K1.out]; first | rfl | simp, HF.out⟩
  obtain ⟨k2, K2⟩ : ∃ x, Hid (sneq p Sp.zero = x) := ⟨_, rfl⟩
  have e2 : sneq ⟨p.s0, p.s1, p.s2, p.s3, p.s4, p.s5, p.s6, p.s7, p.s8, p.s9, p.s10, p.s11⟩ ⟨0, 0, 0, 0, 0, 0, 0, 0, 0, 0, 0, 0⟩ = k2 := K2.out
  cases k2
  case true =>
    go_wp2_with (refine wpList_load_at (by kernel_rfl) 25 (.tmp 23) (by with_reducible rfl) b 6 (by kernel_rfl) _ _ _ HH.out #[.int .i64 p.s0, .int .i64 p.s1, .int .i64 p.s2, .int .i64 p.s3, .int .i64 p.s4, .int .i64 p.s5, .int .i64 p.s6, .int .i64 p.s7, .int .i64 p.s8, .int .i64 p.s9, .int .i64 p.s10, .int .i64 p.s11] (by kernel_rfl) (by simp) _ Tryz.underlying25 rfl (by kernel_rfl) ?_)
    go_ret
    exact ⟨by rw [HA.out, K1.out, K2.out]; rfl, HF.out⟩
  go_wp2_with (first | (refine wpList_load_at (by kernel_rfl) 25 (.tmp 23) (by with_reducible rfl) b 6 (by kernel_rfl) _ _ _ HH.out #[.int .i64 p.s0, .int .i64 p.s1, .int .i64 p.s2, .int .i64 p.s3, .int .i64 p.s4, .int .i64 p.s5, .int .i64 p.s6, .int .i64 p.s7, .int .i64 p.s8, .int .i64 p.s9, .int .i64 p.s10, .int .i64 p.s11] (by kernel_rfl) (by simp) _ Tryz.underlying25 rfl (by kernel_rfl) ?_) | (refine wpList_load_row rfl 27 (.tmp 1) (by with_reducible rfl) b (by kernel_rfl) _ _ _ _ HH.out Tryz.underlying27 rfl (by kernel_rfl) ?_))
  rw [← HV.out]
  refine (rbare_calls ⟨7, e, v, n, q, t, p⟩ true _).mono ?_
  rintro _ w2 ⟨rfl, hf⟩
  rw [HV.out]
  obtain ⟨k3, K3⟩ : ∃ x, Hid (bareB t true = x) := ⟨_, rfl⟩
  have K3' : Hid (bareB (Rc.mk 7 e v n q t p).t true = k3) := K3
  rw [K3'.out]
  have H2 := hid (hf.heap HH.out (fun h => h))
  have F2 := hid (HF.out.then0 hf)
  clear hf c0
  have d2 : w2.cell? ⟨b, 2, none⟩ = some (.int .i64 v) := cell_at H2.out 2
  have d3 : w2.cell? ⟨b, 3, none⟩ = some (.int .i64 n) := cell_at H2.out 3
  have d4 : w2.cell? ⟨b, 4, none⟩ = some (.int .i64 q) := cell_at H2.out 4
  cases k3
  case false =>
    go_wp2_with fail
    go_ret
    exact ⟨by rw [HA.out, K1.out, K2.out, K3.out]; rfl, F2.out⟩
  go_wp2_with fail
  refine (rin10_calls _ _ _ _).mono ?_
  rintro _ _ ⟨rfl, rfl⟩
  obtain ⟨k4, K4⟩ : ∃ x, Hid (btw v 1 4 = x) := ⟨_, rfl⟩
  rw [K4.out]
  cases k4
  case false =>
    go_wp2_with fail
    go_ret
    exact ⟨by rw [HA.out, K1.out, K2.out, K3.out, K4.out]; rfl, F2.out⟩
  go_wp2_with fail
  refine (rin10_calls _ _ _ _).mono ?_
  rintro _ _ ⟨rfl, rfl⟩
  obtain ⟨k5, K5⟩ : ∃ x, Hid (btw n 0 1099511627776 = x) := ⟨_, rfl⟩
  rw [K5.out]
  cases k5
  case false =>
    go_wp2_with fail
    go_ret
    exact ⟨by rw [HA.out, K1.out, K2.out, K3.out, K4.out, K5.out]; rfl, F2.out⟩
  obtain ⟨k6, K6⟩ : ∃ x, Hid ((q == 0) = x) := ⟨_, rfl⟩
  have z6 := K6.out
  go_wp2_with fail
  go_ret
  exact ⟨by rw [HA.out, K1.out, K2.out, K3.out, K4.out, K5.out, K6.out]; rfl, F2.out⟩
set_option maxRecDepth 20000 in
set_option maxHeartbeats 4000000 in
attribute [-go_sem] run_neq_struct in
attribute [local go_sem] neq_sp in
theorem rright0 (k e v n q : Int) (t : ByteArray) (p : Sp) (w : World) (hk : ¬ (1 ≤ k ∧ k ≤ 7)) : Calls Tryz.prog 54 #[Rc.val ⟨k, e, v, n, q, t, p⟩] w fun x w' => x = .returned (.bool false) ∧ Frm M0 w w' := by
  have n1 : (k == 1) = false := beq_eq_false_iff_ne.2 (by omega)
  have n2 : (k == 2) = false := beq_eq_false_iff_ne.2 (by omega)
  have n3 : (k == 3) = false := beq_eq_false_iff_ne.2 (by omega)
  have n3' : (k != 3) = true := by simp [bne, n3]
  have n4 : (k == 4) = false := beq_eq_false_iff_ne.2 (by omega)
  have n5 : (k == 5) = false := beq_eq_false_iff_ne.2 (by omega)
  have n6 : (k == 6) = false := beq_eq_false_iff_ne.2 (by omega)
  have n7 : (k == 7) = false := beq_eq_false_iff_ne.2 (by omega)
  clear hk
  have HV : Hid (Rc.val ⟨k, e, v, n, q, t, p⟩ = .agg #[.int .i64 k, .int .i64 e, .int .i64 v, .int .i64 n, .int .i64 q, .string t, .int .i64 p.s0, .int .i64 p.s1, .int .i64 p.s2, .int .i64 p.s3, .int .i64 p.s4, .int .i64 p.s5, .int .i64 p.s6, .int .i64 p.s7, .int .i64 p.s8, .int .i64 p.s9, .int .i64 p.s10, .int .i64 p.s11]) := rfl
  rw [HV.out]
  have HP : Hid (p.val = .agg #[.int .i64 p.s0, .int .i64 p.s1, .int .i64 p.s2, .int .i64 p.s3, .int .i64 p.s4, .int .i64 p.s5, .int .i64 p.s6, .int .i64 p.s7, .int .i64 p.s8, .int .i64 p.s9, .int .i64 p.s10, .int .i64 p.s11]) := rfl
  go_enter Tryz.func54, Tryz.ntmps54
  go_wp2_with fail
  have HH := hid (heap_alloc_last w (.cells #[.int .i64 k, .int .i64 e, .int .i64 v, .int .i64 n, .int .i64 q, .string t, .int .i64 p.s0, .int .i64 p.s1, .int .i64 p.s2, .int .i64 p.s3, .int .i64 p.s4, .int .i64 p.s5, .int .i64 p.s6, .int .i64 p.s7, .int .i64 p.s8, .int .i64 p.s9, .int .i64 p.s10, .int .i64 p.s11] 27))
  have HF := hid ((Frm.refl M0 w).alloc (.cells #[.int .i64 k, .int .i64 e, .int .i64 v, .int .i64 n, .int .i64 q, .string t, .int .i64 p.s0, .int .i64 p.s1, .int .i64 p.s2, .int .i64 p.s3, .int .i64 p.s4, .int .i64 p.s5, .int .i64 p.s6, .int .i64 p.s7, .int .i64 p.s8, .int .i64 p.s9, .int .i64 p.s10, .int .i64 p.s11] 27))
  obtain ⟨b, hb⟩ : ∃ b, b = w.heap.size := ⟨_, rfl⟩
  obtain ⟨w1, hw1⟩ : ∃ x, x = w.alloc (.cells #[.int .i64 k, .int .i64 e, .int .i64 v, .int .i64 n, .int .i64 q, .string t, .int .i64 p.s0, .int .i64 p.s1, .int .i64 p.s2, .int .i64 p.s3, .int .i64 p.s4, .int .i64 p.s5, .int .i64 p.s6, .int .i64 p.s7, .int .i64 p.s8, .int .i64 p.s9, .int .i64 p.s10, .int .i64 p.s11] 27) := ⟨_, rfl⟩
  rw [← hw1, ← hb] at HH
  rw [← hw1] at HF
  rw [← hw1, ← hb]
  clear hw1 hb
  refine (rin10_calls _ _ _ _).mono ?_
  rintro _ _ ⟨rfl, rfl⟩
  obtain ⟨k1, K1⟩ : ∃ x, Hid (btw e 1 1099511627776 = x) := ⟨_, rfl⟩
  rw [K1.out]
  have c0 : w1.cell? ⟨b, 0, none⟩ = some (.int .i64 k) := cell_at HH.out 0
  cases k1
  case false =>
    go_wp2_with fail
    go_ret
    exact ⟨rfl, HF.out⟩
  obtain ⟨k2, K2⟩ : ∃ x, Hid (sneq p Sp.zero = x) := ⟨_, rfl⟩
  have e2 : sneq ⟨p.s0, p.s1, p.s2, p.s3, p.s4, p.s5, p.s6, p.s7, p.s8, p.s9, p.s10, p.s11⟩ ⟨0, 0, 0, 0, 0, 0, 0, 0, 0, 0, 0, 0⟩ = k2 := K2.out
  cases k2
  case true =>
    go_wp2_with (refine wpList_load_at (by kernel_rfl) 25 (.tmp 23) (by with_reducible rfl) b 6 (by kernel_rfl) _ _ _ HH.out #[.int .i64 p.s0, .int .i64 p.s1, .int .i64 p.s2, .int .i64 p.s3, .int .i64 p.s4, .int .i64 p.s5, .int .i64 p.s6, .int .i64 p.s7, .int .i64 p.s8, .int .i64 p.s9, .int .i64 p.s10, .int .i64 p.s11] (by kernel_rfl) (by simp) _ Tryz.underlying25 rfl (by kernel_rfl) ?_)
    go_ret
    exact ⟨rfl, HF.out⟩
  case false =>
    go_wp2_with (refine wpList_load_at (by kernel_rfl) 25 (.tmp 23) (by with_reducible rfl) b 6 (by kernel_rfl) _ _ _ HH.out #[.int .i64 p.s0, .int .i64 p.s1, .int .i64 p.s2, .int .i64 p.s3, .int .i64 p.s4, .int .i64 p.s5, .int .i64 p.s6, .int .i64 p.s7, .int .i64 p.s8, .int .i64 p.s9, .int .i64 p.s10, .int .i64 p.s11] (by kernel_rfl) (by simp) _ Tryz.underlying25 rfl (by kernel_rfl) ?_)
    go_ret
    exact ⟨rfl, HF.out⟩
theorem rright_calls (r : Rc) (w : World) : Calls Tryz.prog 54 #[r.val] w fun x w' => x = .returned (.bool (rrightB r)) ∧ Frm M0 w w' := by
  obtain ⟨k, e, v, n, q, t, p⟩ := r
  by_cases h : 1 ≤ k ∧ k ≤ 7
  case neg =>
    have e0 : rrightB ⟨k, e, v, n, q, t, p⟩ = false := by
      have h0 : rmayK ⟨k, e, v, n, q, t, p⟩ = false := by
        unfold rmayK
        rw [if_neg (show ¬ k = 1 by omega), if_neg (show ¬ k = 2 by omega), if_neg (show ¬ k = 3 by omega), if_neg (show ¬ k = 4 by omega), if_neg (show ¬ k = 5 by omega), if_neg (show ¬ k = 6 by omega), if_neg (show ¬ k = 7 by omega)]
      unfold rrightB
      rw [h0]; simp
    rw [e0]; exact rright0 k e v n q t p w h
  have hk : k = 1 ∨ k = 2 ∨ k = 3 ∨ k = 4 ∨ k = 5 ∨ k = 6 ∨ k = 7 := by omega
  rcases hk with rfl | rfl | rfl | rfl | rfl | rfl | rfl
  · exact rright1 e v n q t p w
  · exact rright2 e v n q t p w
  · exact rright3 e v n q t p w
  · exact rright4 e v n q t p w
  · exact rright5 e v n q t p w
  · exact rright6 e v n q t p w
  · exact rright7 e v n q t p w
end Go.Proofs.YtonlmkcolndaaaaGreatDoor
