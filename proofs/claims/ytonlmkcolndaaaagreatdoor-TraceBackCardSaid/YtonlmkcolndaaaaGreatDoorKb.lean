/- Two records held against each other. No condition. -/
import Derived.Test.YtonlmkcolndaaaaGreatDoorKd
import Derived.ChangeKeysEq
import Derived.Lib.SlicesS
namespace Go.Proofs.YtonlmkcolndaaaaGreatDoor
set_option linter.unusedVariables false
set_option linter.unusedSimpArgs false
set_option maxRecDepth 20000
open Go.RowKit

/-- A spec; a record. -/
structure Sp where
  s0 : Int
  s1 : Int
  s2 : Int
  s3 : Int
  s4 : Int
  s5 : Int
  s6 : Int
  s7 : Int
  s8 : Int
  s9 : Int
  s10 : Int
  s11 : Int
  deriving DecidableEq
structure Rc where
  k : Int
  e : Int
  w : Int
  n : Int
  q : Int
  t : ByteArray
  p : Sp
  deriving DecidableEq
def Sp.val (p : Sp) : Value := .agg #[.int .i64 p.s0, .int .i64 p.s1, .int .i64 p.s2, .int .i64 p.s3, .int .i64 p.s4, .int .i64 p.s5, .int .i64 p.s6, .int .i64 p.s7, .int .i64 p.s8, .int .i64 p.s9, .int .i64 p.s10, .int .i64 p.s11]
def Rc.val (r : Rc) : Value := .agg #[.int .i64 r.k, .int .i64 r.e, .int .i64 r.w, .int .i64 r.n, .int .i64 r.q, .string r.t, .int .i64 r.p.s0, .int .i64 r.p.s1, .int .i64 r.p.s2, .int .i64 r.p.s3, .int .i64 r.p.s4, .int .i64 r.p.s5, .int .i64 r.p.s6, .int .i64 r.p.s7, .int .i64 r.p.s8, .int .i64 r.p.s9, .int .i64 r.p.s10, .int .i64 r.p.s11]
def Sp.zero : Sp := ⟨0, 0, 0, 0, 0, 0, 0, 0, 0, 0, 0, 0⟩
/-- Are two records the same? -/
def req (a b : Rc) : Bool := decide (a = b)
def Rc.zero : Rc := ⟨0, 0, 0, 0, 0, .empty, Sp.zero⟩

section
variable {P : Program} {w : World}
theorem eqFields_cons {d : Nat} {xs ys : Array Value} {f : Field} {fs : List Field} {a b : Value} {r q : Bool} (hn : f.name ≠ "_") (ha : (part f.type xs f.offset).run P w = .ok a w) (hb : (part f.type ys f.offset).run P w = .ok b w)
    (hr : (Op.equalIn d f.type a b).run P w = .ok r w) (hq : (Op.eqFields d xs ys fs).run P w = .ok q w) : (Op.eqFields d xs ys (f :: fs)).run P w = .ok (r && q) w := by
  unfold Op.eqFields
  rw [if_pos hn]
  simp only [Sem.run_bind, ha, hb, hr, Result.andThen_ok]
  cases r <;> simp [hq]
theorem eqItems_cons {d c i : Nat} {e : TypeId} {xs ys : Array Value} {is : List Nat} {a b : Value} {r q : Bool} (ha : (part e xs (i * c)).run P w = .ok a w) (hb : (part e ys (i * c)).run P w = .ok b w)
    (hr : (Op.equalIn d e a b).run P w = .ok r w) (hq : (Op.eqItems d e c xs ys is).run P w = .ok q w) : (Op.eqItems d e c xs ys (i :: is)).run P w = .ok (r && q) w := by
  unfold Op.eqItems
  simp only [Sem.run_bind, ha, hb, hr, Result.andThen_ok]
  cases r <;> simp [hq]
end
theorem part_int (w : World) (xs : Array Value) (o : Nat) (n : Int) (h : xs[o]? = some (.int .i64 n)) : (part 3 xs o).run Tryz.prog w = .ok (.int .i64 n) w := by
  simp [part, isAgg, run_underlying Tryz.underlying3, h, Result.andThen]
theorem eq_arr (w : World) (d : Nat) (a0 a1 a2 a3 b0 b1 b2 b3 : Int) :
    (Op.equalIn (d + 1 + 1) 23 (.agg #[.int .i64 a0, .int .i64 a1, .int .i64 a2, .int .i64 a3]) (.agg #[.int .i64 b0, .int .i64 b1, .int .i64 b2, .int .i64 b3])).run Tryz.prog w = .ok (a0 == b0 && (a1 == b1 && (a2 == b2 && (a3 == b3 && true)))) w := by
  obtain ⟨i, hi⟩ := info_of_underlying (P := Tryz.prog) Tryz.underlying3
  rw [run_equalIn_array w (d + 1) _ _ Tryz.underlying23 hi]
  have hc : Tryz.prog.cellsOf 3 = 1 := by kernel_rfl
  rw [hc]
  have he : ∀ x y : Int, (Op.equalIn (d + 1) 3 (.int .i64 x) (.int .i64 y)).run Tryz.prog w = .ok (x == y) w := fun x y => run_equalIn_int w d _ _ _ x y Tryz.underlying3
  exact eqItems_cons (part_int w _ _ a0 rfl) (part_int w _ _ b0 rfl) (he _ _) (eqItems_cons (part_int w _ _ a1 rfl) (part_int w _ _ b1 rfl) (he _ _) (eqItems_cons (part_int w _ _ a2 rfl) (part_int w _ _ b2 rfl) (he _ _)
    (eqItems_cons (part_int w _ _ a3 rfl) (part_int w _ _ b3 rfl) (he _ _) rfl)))
theorem part_arr (w : World) (xs : Array Value) (o : Nat) : (part 23 xs o).run Tryz.prog w = .ok (.agg (xs.extract o (o + 4))) w := by
  obtain ⟨i, hi⟩ := info_of_underlying (P := Tryz.prog) Tryz.underlying23
  have hc : Tryz.prog.cellsOf 23 = 4 := by kernel_rfl
  simp [part, isAgg, run_underlying Tryz.underlying23, run_sizeOf w hi, hc, Result.andThen]
theorem part_spec (w : World) (xs : Array Value) (o : Nat) : (part 25 xs o).run Tryz.prog w = .ok (.agg (xs.extract o (o + 12))) w := by
  obtain ⟨i, hi⟩ := info_of_underlying (P := Tryz.prog) Tryz.underlying25
  have hc : Tryz.prog.cellsOf 25 = 12 := by kernel_rfl
  simp [part, isAgg, run_underlying Tryz.underlying25, run_sizeOf w hi, hc, Result.andThen]
theorem part_str (w : World) (xs : Array Value) (o : Nat) (s : ByteArray) (h : xs[o]? = some (.string s)) : (part 9 xs o).run Tryz.prog w = .ok (.string s) w := by
  simp [part, isAgg, run_underlying Tryz.underlying9, h, Result.andThen]

set_option maxHeartbeats 1000000 in
set_option maxRecDepth 20000 in
theorem eq_spec (w : World) (d : Nat) (a0 b0 a1 b1 a2 b2 a3 b3 a4 b4 a5 b5 a6 b6 a7 b7 a8 b8 a9 b9 a10 b10 a11 b11 : Int) :
    (Op.equalIn (d + 1 + 1 + 1) 25 (.agg #[.int .i64 a0, .int .i64 a1, .int .i64 a2, .int .i64 a3, .int .i64 a4, .int .i64 a5, .int .i64 a6, .int .i64 a7, .int .i64 a8, .int .i64 a9, .int .i64 a10, .int .i64 a11]) (.agg #[.int .i64 b0, .int .i64 b1, .int .i64 b2, .int .i64 b3, .int .i64 b4, .int .i64 b5, .int .i64 b6, .int .i64 b7, .int .i64 b8, .int .i64 b9, .int .i64 b10, .int .i64 b11])).run Tryz.prog w = .ok ((a0 == b0) && ((a1 == b1) && ((a2 == b2) && ((a3 == b3) && ((a4 == b4) && ((a5 == b5 && (a6 == b6 && (a7 == b7 && (a8 == b8 && true)))) && ((a9 == b9) && ((a10 == b10) && ((a11 == b11) && true))))))))) w := by
  rw [run_equalIn_struct w (d + 1 + 1) _ _ _ Tryz.underlying25 (by kernel_rfl)]
  have he : ∀ x y : Int, (Op.equalIn (d + 1 + 1) 3 (.int .i64 x) (.int .i64 y)).run Tryz.prog w = .ok (x == y) w := fun x y => run_equalIn_int w (d + 1) _ _ _ x y Tryz.underlying3
  exact (eqFields_cons (by decide) (part_int w _ _ a0 rfl) (part_int w _ _ b0 rfl) (he _ _) (eqFields_cons (by decide) (part_int w _ _ a1 rfl) (part_int w _ _ b1 rfl) (he _ _) (eqFields_cons (by decide) (part_int w _ _ a2 rfl) (part_int w _ _ b2 rfl) (he _ _) (eqFields_cons (by decide) (part_int w _ _ a3 rfl) (part_int w _ _ b3 rfl) (he _ _) (eqFields_cons (by decide) (part_int w _ _ a4 rfl) (part_int w _ _ b4 rfl) (he _ _) (eqFields_cons (by decide) (part_arr w _ 5) (part_arr w _ 5) (eq_arr w d _ _ _ _ _ _ _ _) (eqFields_cons (by decide) (part_int w _ _ a9 rfl) (part_int w _ _ b9 rfl) (he _ _) (eqFields_cons (by decide) (part_int w _ _ a10 rfl) (part_int w _ _ b10 rfl) (he _ _) (eqFields_cons (by decide) (part_int w _ _ a11 rfl) (part_int w _ _ b11 rfl) (he _ _) rfl)))))))))


theorem eq_sp (w : World) (d : Nat) (a0 a1 a2 a3 a4 a5 a6 a7 a8 a9 a10 a11 b0 b1 b2 b3 b4 b5 b6 b7 b8 b9 b10 b11 : Int) :
    (Op.equalIn (d + 1 + 1 + 1) 25 (.agg #[.int .i64 a0, .int .i64 a1, .int .i64 a2, .int .i64 a3, .int .i64 a4, .int .i64 a5, .int .i64 a6, .int .i64 a7, .int .i64 a8, .int .i64 a9, .int .i64 a10, .int .i64 a11]) (.agg #[.int .i64 b0, .int .i64 b1, .int .i64 b2, .int .i64 b3, .int .i64 b4, .int .i64 b5, .int .i64 b6, .int .i64 b7, .int .i64 b8, .int .i64 b9, .int .i64 b10, .int .i64 b11])).run Tryz.prog w = .ok (decide (Sp.mk a0 a1 a2 a3 a4 a5 a6 a7 a8 a9 a10 a11 = Sp.mk b0 b1 b2 b3 b4 b5 b6 b7 b8 b9 b10 b11)) w := by
  rw [eq_spec]
  congr 1
  rw [Bool.eq_iff_iff]
  simp only [Bool.and_eq_true, beq_iff_eq, decide_eq_true_eq, Sp.mk.injEq, and_true, and_assoc]
set_option maxHeartbeats 1000000 in
set_option maxRecDepth 20000 in
theorem eq_rec (w : World) (k e v n q k' e' v' n' q' : Int) (t t' : ByteArray) (a0 a1 a2 a3 a4 a5 a6 a7 a8 a9 a10 a11 b0 b1 b2 b3 b4 b5 b6 b7 b8 b9 b10 b11 : Int) :
    (Op.equalIn (9996 + 1 + 1 + 1 + 1) 27 (.agg #[.int .i64 k, .int .i64 e, .int .i64 v, .int .i64 n, .int .i64 q, .string t, .int .i64 a0, .int .i64 a1, .int .i64 a2, .int .i64 a3, .int .i64 a4, .int .i64 a5, .int .i64 a6, .int .i64 a7, .int .i64 a8, .int .i64 a9, .int .i64 a10, .int .i64 a11]) (.agg #[.int .i64 k', .int .i64 e', .int .i64 v', .int .i64 n', .int .i64 q', .string t', .int .i64 b0, .int .i64 b1, .int .i64 b2, .int .i64 b3, .int .i64 b4, .int .i64 b5, .int .i64 b6, .int .i64 b7, .int .i64 b8, .int .i64 b9, .int .i64 b10, .int .i64 b11])).run Tryz.prog w
      = .ok (k == k' && (e == e' && (v == v' && (n == n' && (q == q' && (t.toList == t'.toList && (decide (Sp.mk a0 a1 a2 a3 a4 a5 a6 a7 a8 a9 a10 a11 = Sp.mk b0 b1 b2 b3 b4 b5 b6 b7 b8 b9 b10 b11) && true))))))) w := by
  rw [run_equalIn_struct w (9996 + 1 + 1 + 1) _ _ _ Tryz.underlying27 (by kernel_rfl)]
  have he : ∀ x y : Int, (Op.equalIn (9996 + 1 + 1 + 1) 3 (.int .i64 x) (.int .i64 y)).run Tryz.prog w = .ok (x == y) w := fun x y => run_equalIn_int w (9996 + 1 + 1) _ _ _ x y Tryz.underlying3
  have hs : (Op.equalIn (9996 + 1 + 1 + 1) 9 (.string t) (.string t')).run Tryz.prog w = .ok (t.toList == t'.toList) w := run_equalIn_string w (9996 + 1 + 1) _ _ _ Tryz.underlying9
  exact (eqFields_cons (by decide) (part_int w _ _ k rfl) (part_int w _ _ k' rfl) (he _ _) (eqFields_cons (by decide) (part_int w _ _ e rfl) (part_int w _ _ e' rfl) (he _ _) (eqFields_cons (by decide) (part_int w _ _ v rfl) (part_int w _ _ v' rfl) (he _ _)
    (eqFields_cons (by decide) (part_int w _ _ n rfl) (part_int w _ _ n' rfl) (he _ _) (eqFields_cons (by decide) (part_int w _ _ q rfl) (part_int w _ _ q' rfl) (he _ _) (eqFields_cons (by decide) (part_str w _ _ t rfl) (part_str w _ _ t' rfl) hs
    (eqFields_cons (by decide) (part_spec w _ 6) (part_spec w _ 6) (eq_sp w 9996 a0 a1 a2 a3 a4 a5 a6 a7 a8 a9 a10 a11 b0 b1 b2 b3 b4 b5 b6 b7 b8 b9 b10 b11) rfl)))))))
theorem eql_rec (w : World) (k e v n q k' e' v' n' q' : Int) (t t' : ByteArray) (a0 a1 a2 a3 a4 a5 a6 a7 a8 a9 a10 a11 b0 b1 b2 b3 b4 b5 b6 b7 b8 b9 b10 b11 : Int) :
    (binOp .eql 27 (.agg #[.int .i64 k, .int .i64 e, .int .i64 v, .int .i64 n, .int .i64 q, .string t, .int .i64 a0, .int .i64 a1, .int .i64 a2, .int .i64 a3, .int .i64 a4, .int .i64 a5, .int .i64 a6, .int .i64 a7, .int .i64 a8, .int .i64 a9, .int .i64 a10, .int .i64 a11]) (.agg #[.int .i64 k', .int .i64 e', .int .i64 v', .int .i64 n', .int .i64 q', .string t', .int .i64 b0, .int .i64 b1, .int .i64 b2, .int .i64 b3, .int .i64 b4, .int .i64 b5, .int .i64 b6, .int .i64 b7, .int .i64 b8, .int .i64 b9, .int .i64 b10, .int .i64 b11])).run Tryz.prog w
      = .ok (.bool (req (Rc.mk k e v n q t (Sp.mk a0 a1 a2 a3 a4 a5 a6 a7 a8 a9 a10 a11)) (Rc.mk k' e' v' n' q' t' (Sp.mk b0 b1 b2 b3 b4 b5 b6 b7 b8 b9 b10 b11)))) w := by
  rw [run_eql_struct, show (10000 : Nat) = 9996 + 1 + 1 + 1 + 1 from rfl, eq_rec]
  show Result.ok _ _ = _
  unfold req
  congr 2
  rw [Bool.eq_iff_iff]
  simp only [Bool.and_eq_true, beq_iff_eq, decide_eq_true_eq, Rc.mk.injEq, and_true, (beq_iff_eq (a := t.toList) (b := t'.toList)).symm.trans (Go.Lib.bytes_beq_iff t t')]
end Go.Proofs.YtonlmkcolndaaaaGreatDoor
