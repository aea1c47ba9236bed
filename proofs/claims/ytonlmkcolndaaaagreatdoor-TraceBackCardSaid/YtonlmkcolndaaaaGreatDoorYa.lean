/- What a step tells, as a value. No condition. -/
import Derived.Test.YtonlmkcolndaaaaGreatDoorMg
namespace Go.Proofs.YtonlmkcolndaaaaGreatDoor
set_option linter.unusedVariables false
set_option linter.unusedSimpArgs false
set_option maxRecDepth 20000
open Go.RowKit

structure Ot where
  d : Int
  e : Int
  r : Rc
  m : Mg
  deriving DecidableEq
def Ot.val (o : Ot) : Value := .agg #[.int .i64 o.d, .int .i64 o.e, .int .i64 o.r.k, .int .i64 o.r.e, .int .i64 o.r.w, .int .i64 o.r.n, .int .i64 o.r.q, .string o.r.t, .int .i64 o.r.p.s0, .int .i64 o.r.p.s1, .int .i64 o.r.p.s2, .int .i64 o.r.p.s3, .int .i64 o.r.p.s4, .int .i64 o.r.p.s5, .int .i64 o.r.p.s6, .int .i64 o.r.p.s7, .int .i64 o.r.p.s8, .int .i64 o.r.p.s9, .int .i64 o.r.p.s10, .int .i64 o.r.p.s11, .int .i64 o.m.k, .int .i64 o.m.e, .int .i64 o.m.s, .int .i64 o.m.u, .int .i64 o.m.v, .int .i64 o.m.t]
def Ot.zero : Ot := ⟨0, 0, Rc.zero, Mg.zero⟩
def oeq (a b : Ot) : Bool := decide (a = b)
set_option maxHeartbeats 1000000 in
set_option maxRecDepth 20000 in
theorem eq_rec5 (w : World) (xk xe xw xn xq yk ye yw yn yq : Int) (xt yt : ByteArray) (xp0 xp1 xp2 xp3 xp4 xp5 xp6 xp7 xp8 xp9 xp10 xp11 yp0 yp1 yp2 yp3 yp4 yp5 yp6 yp7 yp8 yp9 yp10 yp11 : Int) :
    (Op.equalIn (9995 + 1 + 1 + 1 + 1) 27 (.agg #[.int .i64 xk, .int .i64 xe, .int .i64 xw, .int .i64 xn, .int .i64 xq, .string xt, .int .i64 xp0, .int .i64 xp1, .int .i64 xp2, .int .i64 xp3, .int .i64 xp4, .int .i64 xp5, .int .i64 xp6, .int .i64 xp7, .int .i64 xp8, .int .i64 xp9, .int .i64 xp10, .int .i64 xp11]) (.agg #[.int .i64 yk, .int .i64 ye, .int .i64 yw, .int .i64 yn, .int .i64 yq, .string yt, .int .i64 yp0, .int .i64 yp1, .int .i64 yp2, .int .i64 yp3, .int .i64 yp4, .int .i64 yp5, .int .i64 yp6, .int .i64 yp7, .int .i64 yp8, .int .i64 yp9, .int .i64 yp10, .int .i64 yp11])).run Tryz.prog w = .ok (req ⟨xk, xe, xw, xn, xq, xt, ⟨xp0, xp1, xp2, xp3, xp4, xp5, xp6, xp7, xp8, xp9, xp10, xp11⟩⟩ ⟨yk, ye, yw, yn, yq, yt, ⟨yp0, yp1, yp2, yp3, yp4, yp5, yp6, yp7, yp8, yp9, yp10, yp11⟩⟩) w := by
  rw [run_equalIn_struct w (9995 + 1 + 1 + 1) _ _ _ Tryz.underlying27 (by kernel_rfl)]
  have he : ∀ x y : Int, (Op.equalIn (9995 + 1 + 1 + 1) 3 (.int .i64 x) (.int .i64 y)).run Tryz.prog w = .ok (x == y) w := fun x y => run_equalIn_int w (9995 + 1 + 1) _ _ _ x y Tryz.underlying3
  have hs : (Op.equalIn (9995 + 1 + 1 + 1) 9 (.string xt) (.string yt)).run Tryz.prog w = .ok (xt.toList == yt.toList) w := run_equalIn_string w (9995 + 1 + 1) _ _ _ Tryz.underlying9
  refine Eq.trans (eqFields_cons (by decide) (part_int w _ _ xk rfl) (part_int w _ _ yk rfl) (he _ _) (eqFields_cons (by decide) (part_int w _ _ xe rfl) (part_int w _ _ ye rfl) (he _ _) (eqFields_cons (by decide) (part_int w _ _ xw rfl) (part_int w _ _ yw rfl) (he _ _) (eqFields_cons (by decide) (part_int w _ _ xn rfl) (part_int w _ _ yn rfl) (he _ _) (eqFields_cons (by decide) (part_int w _ _ xq rfl) (part_int w _ _ yq rfl) (he _ _) (eqFields_cons (by decide) (part_str w _ _ xt rfl) (part_str w _ _ yt rfl) hs
    (eqFields_cons (by decide) (part_spec w _ 6) (part_spec w _ 6) (eq_sp w 9995 xp0 xp1 xp2 xp3 xp4 xp5 xp6 xp7 xp8 xp9 xp10 xp11 yp0 yp1 yp2 yp3 yp4 yp5 yp6 yp7 yp8 yp9 yp10 yp11) rfl))))))) ?_
  congr 1
  unfold req
  rw [Bool.eq_iff_iff]
  simp only [Bool.and_eq_true, beq_iff_eq, decide_eq_true_eq, Rc.mk.injEq, and_true, (beq_iff_eq (a := xt.toList) (b := yt.toList)).symm.trans (Go.Lib.bytes_beq_iff xt yt)]
set_option maxHeartbeats 1000000 in
set_option maxRecDepth 20000 in
theorem eql_out_in (w : World) (xd xe xrk xre xrw xrn xrq yd ye yrk yre yrw yrn yrq : Int) (xrT yrT : ByteArray) (xrp0 xrp1 xrp2 xrp3 xrp4 xrp5 xrp6 xrp7 xrp8 xrp9 xrp10 xrp11 xmk xme xms xmu xmv xmt yrp0 yrp1 yrp2 yrp3 yrp4 yrp5 yrp6 yrp7 yrp8 yrp9 yrp10 yrp11 ymk yme yms ymu ymv ymt : Int) :
    (Op.equalIn (9995 + 1 + 1 + 1 + 1 + 1) 35 (.agg #[.int .i64 xd, .int .i64 xe, .int .i64 xrk, .int .i64 xre, .int .i64 xrw, .int .i64 xrn, .int .i64 xrq, .string xrT, .int .i64 xrp0, .int .i64 xrp1, .int .i64 xrp2, .int .i64 xrp3, .int .i64 xrp4, .int .i64 xrp5, .int .i64 xrp6, .int .i64 xrp7, .int .i64 xrp8, .int .i64 xrp9, .int .i64 xrp10, .int .i64 xrp11, .int .i64 xmk, .int .i64 xme, .int .i64 xms, .int .i64 xmu, .int .i64 xmv, .int .i64 xmt]) (.agg #[.int .i64 yd, .int .i64 ye, .int .i64 yrk, .int .i64 yre, .int .i64 yrw, .int .i64 yrn, .int .i64 yrq, .string yrT, .int .i64 yrp0, .int .i64 yrp1, .int .i64 yrp2, .int .i64 yrp3, .int .i64 yrp4, .int .i64 yrp5, .int .i64 yrp6, .int .i64 yrp7, .int .i64 yrp8, .int .i64 yrp9, .int .i64 yrp10, .int .i64 yrp11, .int .i64 ymk, .int .i64 yme, .int .i64 yms, .int .i64 ymu, .int .i64 ymv, .int .i64 ymt])).run Tryz.prog w = .ok (oeq ⟨xd, xe, ⟨xrk, xre, xrw, xrn, xrq, xrT, ⟨xrp0, xrp1, xrp2, xrp3, xrp4, xrp5, xrp6, xrp7, xrp8, xrp9, xrp10, xrp11⟩⟩, ⟨xmk, xme, xms, xmu, xmv, xmt⟩⟩ ⟨yd, ye, ⟨yrk, yre, yrw, yrn, yrq, yrT, ⟨yrp0, yrp1, yrp2, yrp3, yrp4, yrp5, yrp6, yrp7, yrp8, yrp9, yrp10, yrp11⟩⟩, ⟨ymk, yme, yms, ymu, ymv, ymt⟩⟩) w := by
  rw [run_equalIn_struct w (9995 + 1 + 1 + 1 + 1) _ _ _ Tryz.underlying35 (by kernel_rfl)]
  have he : ∀ x y : Int, (Op.equalIn (9995 + 1 + 1 + 1 + 1) 3 (.int .i64 x) (.int .i64 y)).run Tryz.prog w = .ok (x == y) w := fun x y => run_equalIn_int w (9995 + 1 + 1 + 1) _ _ _ x y Tryz.underlying3
  have hE : ∀ x y : Int, (Op.equalIn (9995 + 1 + 1 + 1 + 1) 22 (.int .i64 x) (.int .i64 y)).run Tryz.prog w = .ok (x == y) w := fun x y => run_equalIn_int w (9995 + 1 + 1 + 1) _ _ _ x y Tryz.underlying22
  have hp : ∀ (xs : Array Value) (o : Nat) (n : Int), xs[o]? = some (.int .i64 n) → (part 22 xs o).run Tryz.prog w = .ok (.int .i64 n) w := fun xs o n h => by simp [part, isAgg, run_underlying Tryz.underlying22, h, Result.andThen]
  have hr : (Op.equalIn (9995 + 1 + 1 + 1 + 1) 27 (.agg #[.int .i64 xrk, .int .i64 xre, .int .i64 xrw, .int .i64 xrn, .int .i64 xrq, .string xrT, .int .i64 xrp0, .int .i64 xrp1, .int .i64 xrp2, .int .i64 xrp3, .int .i64 xrp4, .int .i64 xrp5, .int .i64 xrp6, .int .i64 xrp7, .int .i64 xrp8, .int .i64 xrp9, .int .i64 xrp10, .int .i64 xrp11]) (.agg #[.int .i64 yrk, .int .i64 yre, .int .i64 yrw, .int .i64 yrn, .int .i64 yrq, .string yrT, .int .i64 yrp0, .int .i64 yrp1, .int .i64 yrp2, .int .i64 yrp3, .int .i64 yrp4, .int .i64 yrp5, .int .i64 yrp6, .int .i64 yrp7, .int .i64 yrp8, .int .i64 yrp9, .int .i64 yrp10, .int .i64 yrp11])).run Tryz.prog w = .ok (req ⟨xrk, xre, xrw, xrn, xrq, xrT, ⟨xrp0, xrp1, xrp2, xrp3, xrp4, xrp5, xrp6, xrp7, xrp8, xrp9, xrp10, xrp11⟩⟩ ⟨yrk, yre, yrw, yrn, yrq, yrT, ⟨yrp0, yrp1, yrp2, yrp3, yrp4, yrp5, yrp6, yrp7, yrp8, yrp9, yrp10, yrp11⟩⟩) w := eq_rec5 w xrk xre xrw xrn xrq yrk yre yrw yrn yrq xrT yrT xrp0 xrp1 xrp2 xrp3 xrp4 xrp5 xrp6 xrp7 xrp8 xrp9 xrp10 xrp11 yrp0 yrp1 yrp2 yrp3 yrp4 yrp5 yrp6 yrp7 yrp8 yrp9 yrp10 yrp11
  have hm := eq_msg w (9995 + 1 + 1) xmk xme xms xmu xmv xmt ymk yme yms ymu ymv ymt
  refine Eq.trans (eqFields_cons (by decide) (part_int w _ _ xd rfl) (part_int w _ _ yd rfl) (he _ _) (eqFields_cons (by decide) (hp _ _ xe rfl) (hp _ _ ye rfl) (hE _ _) (eqFields_cons (by decide) (part_agg 27 18 Tryz.underlying27 rfl (by kernel_rfl) w _ 2) (part_agg 27 18 Tryz.underlying27 rfl (by kernel_rfl) w _ 2) hr (eqFields_cons (by decide) (part_agg 29 6 Tryz.underlying29 rfl (by kernel_rfl) w _ 20) (part_agg 29 6 Tryz.underlying29 rfl (by kernel_rfl) w _ 20) hm rfl)))) ?_
  congr 1
  unfold oeq req meq
  rw [Bool.eq_iff_iff]
  simp only [Bool.and_eq_true, beq_iff_eq, decide_eq_true_eq, Ot.mk.injEq, and_true]
theorem eql_out (w : World) (xd xe xrk xre xrw xrn xrq yd ye yrk yre yrw yrn yrq : Int) (xrT yrT : ByteArray) (xrp0 xrp1 xrp2 xrp3 xrp4 xrp5 xrp6 xrp7 xrp8 xrp9 xrp10 xrp11 xmk xme xms xmu xmv xmt yrp0 yrp1 yrp2 yrp3 yrp4 yrp5 yrp6 yrp7 yrp8 yrp9 yrp10 yrp11 ymk yme yms ymu ymv ymt : Int) :
    (binOp .eql 35 (.agg #[.int .i64 xd, .int .i64 xe, .int .i64 xrk, .int .i64 xre, .int .i64 xrw, .int .i64 xrn, .int .i64 xrq, .string xrT, .int .i64 xrp0, .int .i64 xrp1, .int .i64 xrp2, .int .i64 xrp3, .int .i64 xrp4, .int .i64 xrp5, .int .i64 xrp6, .int .i64 xrp7, .int .i64 xrp8, .int .i64 xrp9, .int .i64 xrp10, .int .i64 xrp11, .int .i64 xmk, .int .i64 xme, .int .i64 xms, .int .i64 xmu, .int .i64 xmv, .int .i64 xmt]) (.agg #[.int .i64 yd, .int .i64 ye, .int .i64 yrk, .int .i64 yre, .int .i64 yrw, .int .i64 yrn, .int .i64 yrq, .string yrT, .int .i64 yrp0, .int .i64 yrp1, .int .i64 yrp2, .int .i64 yrp3, .int .i64 yrp4, .int .i64 yrp5, .int .i64 yrp6, .int .i64 yrp7, .int .i64 yrp8, .int .i64 yrp9, .int .i64 yrp10, .int .i64 yrp11, .int .i64 ymk, .int .i64 yme, .int .i64 yms, .int .i64 ymu, .int .i64 ymv, .int .i64 ymt])).run Tryz.prog w = .ok (.bool (oeq ⟨xd, xe, ⟨xrk, xre, xrw, xrn, xrq, xrT, ⟨xrp0, xrp1, xrp2, xrp3, xrp4, xrp5, xrp6, xrp7, xrp8, xrp9, xrp10, xrp11⟩⟩, ⟨xmk, xme, xms, xmu, xmv, xmt⟩⟩ ⟨yd, ye, ⟨yrk, yre, yrw, yrn, yrq, yrT, ⟨yrp0, yrp1, yrp2, yrp3, yrp4, yrp5, yrp6, yrp7, yrp8, yrp9, yrp10, yrp11⟩⟩, ⟨ymk, yme, yms, ymu, ymv, ymt⟩⟩)) w := by
  rw [run_eql_struct, show (10000 : Nat) = 9995 + 1 + 1 + 1 + 1 + 1 from rfl, eql_out_in]; rfl
end Go.Proofs.YtonlmkcolndaaaaGreatDoor
