/- A record, a spec that came in by value. No condition. -/
import Derived.Test.YtinbidmgllmglaaDoorKb
import Derived.ChangeSame
import Derived.OpenShut
namespace Go.Proofs.YtinbidmgllmglaaDoor
set_option linter.unusedVariables false
set_option linter.unusedSimpArgs false
set_option maxRecDepth 20000
open Go.RowKit Go.ChangeShapes Go.WideShapes

def Sp.cells (p : Sp) : List Value := [.int .i64 p.s0, .int .i64 p.s1, .int .i64 p.s2, .int .i64 p.s3, .int .i64 p.s4, .int .i64 p.s5, .int .i64 p.s6, .int .i64 p.s7, .int .i64 p.s8, .int .i64 p.s9, .int .i64 p.s10, .int .i64 p.s11]
def Rc.cells (r : Rc) : List Value := [.int .i64 r.k, .int .i64 r.e, .int .i64 r.w, .int .i64 r.n, .int .i64 r.q, .string r.t, .int .i64 r.p.s0, .int .i64 r.p.s1, .int .i64 r.p.s2, .int .i64 r.p.s3, .int .i64 r.p.s4, .int .i64 r.p.s5, .int .i64 r.p.s6, .int .i64 r.p.s7, .int .i64 r.p.s8, .int .i64 r.p.s9, .int .i64 r.p.s10, .int .i64 r.p.s11]
abbrev wfi (x : Int) : Prop := (Lit.int .i64 x).wf = true
def Sp.ok (p : Sp) : Prop := (wfi p.s0 ∧ wfi p.s1 ∧ wfi p.s2 ∧ wfi p.s3 ∧ wfi p.s4) ∧ (wfi p.s5 ∧ wfi p.s6 ∧ wfi p.s7 ∧ wfi p.s8) ∧ (wfi p.s9 ∧ wfi p.s10 ∧ wfi p.s11)
def Rc.ok (r : Rc) : Prop := (wfi r.k ∧ wfi r.e ∧ wfi r.w ∧ wfi r.n ∧ wfi r.q) ∧ r.t.size ≤ maxLen ∧ r.p.ok

section
variable {H : Type} {enc : TypeId × Value → H} {w : World} {base : Nat} {spare : Nat → Bool} {held : Bool}
theorem fld_int {n : Nat} {c : Value} {y : DataW H × List MemPlace} (h : DataW.trod enc Tryd.prog w base spare held n 3 [c] = some y) : ∃ z, c = .int .i64 z ∧ wfi z := by
  obtain ⟨z, hz, _, hw⟩ := DataW.trod_int Tryd.underlying3 h
  exact ⟨z, by simpa using hz, hw⟩
theorem of_get {α : Type} {o : Option α} {l : List α} {i : Nat} (h : o = l[i]?) (hi : i < l.length) : ∃ y, o = some y := ⟨l[i], by rw [h, List.getElem?_eq_getElem hi]⟩
theorem arr_trod {fuel : Nat} {c0 c1 c2 c3 : Value} {x : DataW H × List MemPlace} (h : DataW.trod enc Tryd.prog w base spare held fuel 22 [c0, c1, c2, c3] = some x) :
    ∃ z0 z1 z2 z3, [c0, c1, c2, c3] = [.int .i64 z0, .int .i64 z1, .int .i64 z2, .int .i64 z3] ∧ wfi z0 ∧ wfi z1 ∧ wfi z2 ∧ wfi z3 := by
  obtain ⟨xs, m, _, _, _, hl, hf⟩ := DataW.trod_array Tryd.underlying22 h
  have h1 : Tryd.prog.cellsOf 3 = 1 := by kernel_rfl
  rw [h1] at hf
  obtain ⟨y0, e0⟩ := of_get (hf 0 (by omega)) (by omega)
  obtain ⟨y1, e1⟩ := of_get (hf 1 (by omega)) (by omega)
  obtain ⟨y2, e2⟩ := of_get (hf 2 (by omega)) (by omega)
  obtain ⟨y3, e3⟩ := of_get (hf 3 (by omega)) (by omega)
  obtain ⟨z0, rfl, w0⟩ := fld_int (c := c0) e0
  obtain ⟨z1, rfl, w1⟩ := fld_int (c := c1) e1
  obtain ⟨z2, rfl, w2⟩ := fld_int (c := c2) e2
  obtain ⟨z3, rfl, w3⟩ := fld_int (c := c3) e3
  exact ⟨z0, z1, z2, z3, rfl, w0, w1, w2, w3⟩
theorem spec_trod {fuel : Nat} {cs : List Value} {x : DataW H × List MemPlace} (h : DataW.trod enc Tryd.prog w base spare held fuel 24 cs = some x) : ∃ p : Sp, cs = p.cells ∧ p.ok := by
  obtain ⟨xs, n, _, _, hc, hl, hf⟩ := DataW.trod_struct Tryd.underlying24 h
  have hc12 : cs.length = 12 := hc.trans (by kernel_rfl)
  have h1 : Tryd.prog.cellsOf 3 = 1 := by kernel_rfl
  have h4 : Tryd.prog.cellsOf 22 = 4 := by kernel_rfl
  have hl9 : xs.length = 9 := hl
  match cs, hc12 with
  | [c0, c1, c2, c3, c4, c5, c6, c7, c8, c9, c10, c11], _ =>
    have fi : ∀ (i : Nat) (f : Field) (c : Value), f.type = 3 → DataW.trod enc Tryd.prog w base spare held n f.type (([c0, c1, c2, c3, c4, c5, c6, c7, c8, c9, c10, c11].drop f.offset).take (Tryd.prog.cellsOf f.type)) = xs[i]? → i < 9 →
        ([c0, c1, c2, c3, c4, c5, c6, c7, c8, c9, c10, c11].drop f.offset).take 1 = [c] → ∃ z, c = .int .i64 z ∧ wfi z := by
      intro i f c ht hh hi hcc
      rw [ht, h1, hcc] at hh
      obtain ⟨y, e⟩ := of_get hh (by omega)
      exact fld_int e
    obtain ⟨z0, rfl, w0⟩ := fi 0 _ c0 rfl (hf 0 _ rfl) (by omega) rfl
    obtain ⟨z1, rfl, w1⟩ := fi 1 _ c1 rfl (hf 1 _ rfl) (by omega) rfl
    obtain ⟨z2, rfl, w2⟩ := fi 2 _ c2 rfl (hf 2 _ rfl) (by omega) rfl
    obtain ⟨z3, rfl, w3⟩ := fi 3 _ c3 rfl (hf 3 _ rfl) (by omega) rfl
    obtain ⟨z4, rfl, w4⟩ := fi 4 _ c4 rfl (hf 4 _ rfl) (by omega) rfl
    obtain ⟨z9, rfl, w9⟩ := fi 6 _ c9 rfl (hf 6 _ rfl) (by omega) rfl
    obtain ⟨z10, rfl, w10⟩ := fi 7 _ c10 rfl (hf 7 _ rfl) (by omega) rfl
    obtain ⟨z11, rfl, w11⟩ := fi 8 _ c11 rfl (hf 8 _ rfl) (by omega) rfl
    have ha : DataW.trod enc Tryd.prog w base spare held n 22 [c5, c6, c7, c8] = xs[5]? := hf 5 _ rfl
    obtain ⟨y, ey⟩ := of_get ha (by omega)
    obtain ⟨z5, z6, z7, z8, e, w5, w6, w7, w8⟩ := arr_trod ey
    simp only [List.cons.injEq, and_true] at e
    obtain ⟨rfl, rfl, rfl, rfl⟩ := e
    exact ⟨⟨z0, z1, z2, z3, z4, z5, z6, z7, z8, z9, z10, z11⟩, rfl, ⟨w0, w1, w2, w3, w4⟩, ⟨w5, w6, w7, w8⟩, w9, w10, w11⟩
theorem rec_trod {fuel : Nat} {cs : List Value} {x : DataW H × List MemPlace} (h : DataW.trod enc Tryd.prog w base spare held fuel 26 cs = some x) : ∃ r : Rc, cs = r.cells ∧ r.ok := by
  obtain ⟨xs, n, _, _, hc, hl, hf⟩ := DataW.trod_struct Tryd.underlying26 h
  have hc18 : cs.length = 18 := hc.trans (by kernel_rfl)
  have h1 : Tryd.prog.cellsOf 3 = 1 := by kernel_rfl
  have hl7 : xs.length = 7 := hl
  match cs, hc18 with
  | [c0, c1, c2, c3, c4, c5, c6, c7, c8, c9, c10, c11, c12, c13, c14, c15, c16, c17], _ =>
    have fi : ∀ (i : Nat) (f : Field) (c : Value), f.type = 3 → DataW.trod enc Tryd.prog w base spare held n f.type (([c0, c1, c2, c3, c4, c5, c6, c7, c8, c9, c10, c11, c12, c13, c14, c15, c16, c17].drop f.offset).take (Tryd.prog.cellsOf f.type)) = xs[i]? → i < 7 →
        ([c0, c1, c2, c3, c4, c5, c6, c7, c8, c9, c10, c11, c12, c13, c14, c15, c16, c17].drop f.offset).take 1 = [c] → ∃ z, c = .int .i64 z ∧ wfi z := by
      intro i f c ht hh hi hcc
      rw [ht, h1, hcc] at hh
      obtain ⟨y, e⟩ := of_get hh (by omega)
      exact fld_int e
    obtain ⟨z0, rfl, w0⟩ := fi 0 _ c0 rfl (hf 0 _ rfl) (by omega) rfl
    obtain ⟨z1, rfl, w1⟩ := fi 1 _ c1 rfl (hf 1 _ rfl) (by omega) rfl
    obtain ⟨z2, rfl, w2⟩ := fi 2 _ c2 rfl (hf 2 _ rfl) (by omega) rfl
    obtain ⟨z3, rfl, w3⟩ := fi 3 _ c3 rfl (hf 3 _ rfl) (by omega) rfl
    obtain ⟨z4, rfl, w4⟩ := fi 4 _ c4 rfl (hf 4 _ rfl) (by omega) rfl
    have hs : DataW.trod enc Tryd.prog w base spare held n 9 [c5] = xs[5]? := hf 5 _ rfl
    obtain ⟨ys, es⟩ := of_get hs (by omega)
    obtain ⟨s, hs1, _, hs2⟩ := DataW.trod_string Tryd.underlying9 es
    simp only [List.cons.injEq, and_true] at hs1
    subst hs1
    have hp : DataW.trod enc Tryd.prog w base spare held n 24 [c6, c7, c8, c9, c10, c11, c12, c13, c14, c15, c16, c17] = xs[6]? := hf 6 _ rfl
    obtain ⟨yp, ep⟩ := of_get hp (by omega)
    obtain ⟨p, e, hok⟩ := spec_trod ep
    simp only [Sp.cells, List.cons.injEq, and_true] at e
    obtain ⟨rfl, rfl, rfl, rfl, rfl, rfl, rfl, rfl, rfl, rfl, rfl, rfl⟩ := e
    exact ⟨⟨z0, z1, z2, z3, z4, s, p⟩, rfl, ⟨w0, w1, w2, w3, w4⟩, hs2, hok⟩
end
end Go.Proofs.YtinbidmgllmglaaDoor
