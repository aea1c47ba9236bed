/- A message, as a value. No condition. -/
import Derived.Test.YtonlmkcolndaaaaGreatDoorKb
import Derived.Test.YtonlmkcolndaaaaGreatDoorFe
namespace Go.Proofs.YtonlmkcolndaaaaGreatDoor
set_option linter.unusedVariables false
set_option linter.unusedSimpArgs false
set_option maxRecDepth 20000
open Go.RowKit

structure Mg where
  k : Int
  e : Int
  s : Int
  u : Int
  v : Int
  t : Int
  deriving DecidableEq
def Mg.val (m : Mg) : Value := .agg #[.int .i64 m.k, .int .i64 m.e, .int .i64 m.s, .int .i64 m.u, .int .i64 m.v, .int .i64 m.t]
def Mg.zero : Mg := ⟨0, 0, 0, 0, 0, 0⟩
/-- Are two messages the same? -/
def meq (a b : Mg) : Bool := decide (a = b)
def rneq (a b : Rc) : Bool := !req a b
def mneq (a b : Mg) : Bool := !meq a b
theorem part_agg (t : TypeId) (n : Nat) {d : TypeDesc} (hu : Tryz.prog.underlying t = some d) (hd : (match d with | .struct _ | .array _ _ => true | _ => false) = true) (hc : Tryz.prog.cellsOf t = n) (w : World) (xs : Array Value) (o : Nat) : (part t xs o).run Tryz.prog w = .ok (.agg (xs.extract o (o + n))) w := by
  obtain ⟨i, hi⟩ := info_of_underlying (P := Tryz.prog) hu
  cases d <;> simp at hd <;> simp [part, isAgg, run_underlying hu, run_sizeOf w hi, hc, Result.andThen]
/-- What is told of '==' tells '!='. -/
theorem neq_of_eql (t : TypeId) {fs : Array Field} (hu : Tryz.prog.underlying t = some (.struct fs)) (w : World) (xs ys : Array Value) (b : Bool) (h : (Op.equalIn 10000 t (.agg xs) (.agg ys)).run Tryz.prog w = .ok b w) : (binOp .neq t (.agg xs) (.agg ys)).run Tryz.prog w = .ok (.bool (!b)) w := by
  rw [run_neq_struct, h]; rfl
set_option maxHeartbeats 1000000 in
set_option maxRecDepth 20000 in
theorem eq_msg (w : World) (d : Nat) (xk xe xs xu xv xt yk ye ys yu yv yt : Int) :
    (Op.equalIn (d + 1 + 1) 29 (.agg #[.int .i64 xk, .int .i64 xe, .int .i64 xs, .int .i64 xu, .int .i64 xv, .int .i64 xt]) (.agg #[.int .i64 yk, .int .i64 ye, .int .i64 ys, .int .i64 yu, .int .i64 yv, .int .i64 yt])).run Tryz.prog w = .ok (meq ⟨xk, xe, xs, xu, xv, xt⟩ ⟨yk, ye, ys, yu, yv, yt⟩) w := by
  rw [run_equalIn_struct w (d + 1) _ _ _ Tryz.underlying29 (by kernel_rfl)]
  have he : ∀ x y : Int, (Op.equalIn (d + 1) 3 (.int .i64 x) (.int .i64 y)).run Tryz.prog w = .ok (x == y) w := fun x y => run_equalIn_int w d _ _ _ x y Tryz.underlying3
  refine Eq.trans (eqFields_cons (by decide) (part_int w _ _ xk rfl) (part_int w _ _ yk rfl) (he _ _) (eqFields_cons (by decide) (part_int w _ _ xe rfl) (part_int w _ _ ye rfl) (he _ _) (eqFields_cons (by decide) (part_int w _ _ xs rfl) (part_int w _ _ ys rfl) (he _ _) (eqFields_cons (by decide) (part_int w _ _ xu rfl) (part_int w _ _ yu rfl) (he _ _) (eqFields_cons (by decide) (part_int w _ _ xv rfl) (part_int w _ _ yv rfl) (he _ _) (eqFields_cons (by decide) (part_int w _ _ xt rfl) (part_int w _ _ yt rfl) (he _ _) rfl)))))) ?_
  congr 1
  unfold meq
  rw [Bool.eq_iff_iff]
  simp only [Bool.and_eq_true, beq_iff_eq, decide_eq_true_eq, Mg.mk.injEq, and_true]
theorem eql_msg (w : World) (xk xe xs xu xv xt yk ye ys yu yv yt : Int) :
    (binOp .eql 29 (.agg #[.int .i64 xk, .int .i64 xe, .int .i64 xs, .int .i64 xu, .int .i64 xv, .int .i64 xt]) (.agg #[.int .i64 yk, .int .i64 ye, .int .i64 ys, .int .i64 yu, .int .i64 yv, .int .i64 yt])).run Tryz.prog w = .ok (.bool (meq ⟨xk, xe, xs, xu, xv, xt⟩ ⟨yk, ye, ys, yu, yv, yt⟩)) w := by
  rw [run_eql_struct, show (10000 : Nat) = 9998 + 1 + 1 from rfl, eq_msg]; rfl
theorem neq_msg (w : World) (xk xe xs xu xv xt yk ye ys yu yv yt : Int) :
    (binOp .neq 29 (.agg #[.int .i64 xk, .int .i64 xe, .int .i64 xs, .int .i64 xu, .int .i64 xv, .int .i64 xt]) (.agg #[.int .i64 yk, .int .i64 ye, .int .i64 ys, .int .i64 yu, .int .i64 yv, .int .i64 yt])).run Tryz.prog w = .ok (.bool (mneq ⟨xk, xe, xs, xu, xv, xt⟩ ⟨yk, ye, ys, yu, yv, yt⟩)) w := by
  rw [run_neq_struct, show (10000 : Nat) = 9998 + 1 + 1 from rfl, eq_msg]; rfl
set_option maxRecDepth 20000 in
theorem neq_rec (w : World) (xk xe xw xn xq yk ye yw yn yq : Int) (xt yt : ByteArray) (xp0 xp1 xp2 xp3 xp4 xp5 xp6 xp7 xp8 xp9 xp10 xp11 yp0 yp1 yp2 yp3 yp4 yp5 yp6 yp7 yp8 yp9 yp10 yp11 : Int) :
    (binOp .neq 27 (.agg #[.int .i64 xk, .int .i64 xe, .int .i64 xw, .int .i64 xn, .int .i64 xq, .string xt, .int .i64 xp0, .int .i64 xp1, .int .i64 xp2, .int .i64 xp3, .int .i64 xp4, .int .i64 xp5, .int .i64 xp6, .int .i64 xp7, .int .i64 xp8, .int .i64 xp9, .int .i64 xp10, .int .i64 xp11]) (.agg #[.int .i64 yk, .int .i64 ye, .int .i64 yw, .int .i64 yn, .int .i64 yq, .string yt, .int .i64 yp0, .int .i64 yp1, .int .i64 yp2, .int .i64 yp3, .int .i64 yp4, .int .i64 yp5, .int .i64 yp6, .int .i64 yp7, .int .i64 yp8, .int .i64 yp9, .int .i64 yp10, .int .i64 yp11])).run Tryz.prog w = .ok (.bool (rneq ⟨xk, xe, xw, xn, xq, xt, ⟨xp0, xp1, xp2, xp3, xp4, xp5, xp6, xp7, xp8, xp9, xp10, xp11⟩⟩ ⟨yk, ye, yw, yn, yq, yt, ⟨yp0, yp1, yp2, yp3, yp4, yp5, yp6, yp7, yp8, yp9, yp10, yp11⟩⟩)) w := by
  have h := eql_rec w xk xe xw xn xq yk ye yw yn yq xt yt xp0 xp1 xp2 xp3 xp4 xp5 xp6 xp7 xp8 xp9 xp10 xp11 yp0 yp1 yp2 yp3 yp4 yp5 yp6 yp7 yp8 yp9 yp10 yp11
  rw [run_eql_struct] at h
  rw [run_neq_struct]
  revert h
  generalize (Op.equalIn 10000 _ _ _).run Tryz.prog w = res
  intro h
  cases res with
  | ok b w' =>
    simp only [Result.andThen_ok] at h ⊢
    have h1 : (Result.ok (Value.bool b) w' : Result Value) = _ := h
    simp only [Result.ok.injEq, Value.bool.injEq] at h1
    obtain ⟨rfl, rfl⟩ := h1
    rfl
  | halt x w' => cases h
end Go.Proofs.YtonlmkcolndaaaaGreatDoor
