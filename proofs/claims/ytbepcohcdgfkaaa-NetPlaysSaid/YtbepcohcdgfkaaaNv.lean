/- Steps of a script: how they read, their kind and message; the walks of Drop and Twice. No condition. -/
import Derived.Test.YtbepcohcdgfkaaaNc
namespace Go.Proofs.Ytbepcohcdgfkaaa
set_option linter.unusedVariables false
set_option linter.unusedSimpArgs false
open Go.RowKit Go.Conc Go.ChangeShapes Go.WideShapes Go.Deep

/-- A step. -/
structure Stp where
  k : Int
  n : Int
  m : Mg
def Stp.cells (s : Stp) : List Value := [.int .i64 s.k, .int .i64 s.n, .int .i64 s.m.k, .int .i64 s.m.e, .int .i64 s.m.s, .int .i64 s.m.u, .int .i64 s.m.v, .int .i64 s.m.t]
def Stp.val (s : Stp) : Value := .agg #[.int .i64 s.k, .int .i64 s.n, .int .i64 s.m.k, .int .i64 s.m.e, .int .i64 s.m.s, .int .i64 s.m.u, .int .i64 s.m.v, .int .i64 s.m.t]
def Stp.ok (s : Stp) : Prop := (Lit.int .i64 s.k).wf = true ∧ (Lit.int .i64 s.n).wf = true ∧ s.m.ok
def stps (l : List Stp) : List Value := l.flatMap Stp.cells

section
variable {H : Type} {enc : TypeId × Value → H} {w : World} {base : Nat} {spare : Nat → Bool} {held : Bool}
theorem stp_trod {fuel : Nat} {cs : List Value} {x : DataW H × List MemPlace} (h : DataW.trod enc Try.prog w base spare held fuel 40 cs = some x) : ∃ m : Stp, cs = m.cells ∧ m.ok := by
  obtain ⟨xs, n, _, _, hc, hl, hf⟩ := DataW.trod_struct Try.underlying40 h
  have hc8 : cs.length = 8 := hc.trans (by kernel_rfl)
  have h1 : Try.prog.cellsOf 3 = 1 := by kernel_rfl
  have h6 : Try.prog.cellsOf 29 = 6 := by kernel_rfl
  match cs, hc8 with
  | [c0, c1, c2, c3, c4, c5, c6, c7], _ =>
    have fld : ∀ (i : Nat) (f : Field) (c : Value), f.type = 3 → DataW.trod enc Try.prog w base spare held n f.type (([c0, c1, c2, c3, c4, c5, c6, c7].drop f.offset).take (Try.prog.cellsOf f.type)) = xs[i]? → i < 3 → ([c0, c1, c2, c3, c4, c5, c6, c7].drop f.offset).take 1 = [c] → ∃ y, c = .int .i64 y ∧ (Lit.int .i64 y).wf = true := by
      intro i f c ht hh hi hcc
      rw [ht, h1, hcc] at hh
      have hx : xs[i]? = some (xs[i]'(by have : xs.length = 3 := hl; omega)) := List.getElem?_eq_getElem _
      rw [hx] at hh
      obtain ⟨y, hy, _, hw⟩ := DataW.trod_int Try.underlying3 hh
      exact ⟨y, by simpa using hy, hw⟩
    obtain ⟨y0, rfl, w0⟩ := fld 0 _ c0 rfl (hf 0 _ rfl) (by omega) rfl
    obtain ⟨y1, rfl, w1⟩ := fld 1 _ c1 rfl (hf 1 _ rfl) (by omega) rfl
    have hh := hf 2 _ rfl
    have hx : xs[2]? = some (xs[2]'(by have : xs.length = 3 := hl; omega)) := List.getElem?_eq_getElem _
    rw [hx] at hh
    obtain ⟨m, hm, hk⟩ := msg_trod hh
    have hm' : [c2, c3, c4, c5, c6, c7] = m.cells := by rw [← hm]; show _ = List.take (Try.prog.cellsOf 29) _; rw [h6]; rfl
    simp only [Mg.cells, List.cons.injEq, and_true] at hm'
    obtain ⟨rfl, rfl, rfl, rfl, rfl, rfl⟩ := hm'
    exact ⟨⟨y0, y1, m⟩, rfl, w0, w1, hk⟩
theorem open_stps {fuel : Nat} {cs : List Value} {x : DataW H × List MemPlace} (h : DataW.trod enc Try.prog w base spare held fuel 37 cs = some x) :
    ∃ v, cs = [v] ∧ ∃ l : List Stp, Rd w 8 v l.length (stps l) ∧ ∀ m ∈ l, m.ok := by
  rcases Go.Deep.open_slice Try.underlying37 h with ⟨rfl, _⟩ | ⟨a, len, cap, m, n, D, Pl, rfl, hb, hl, hm, hmm, hx, hi⟩
  · exact ⟨_, rfl, [], Rd.nil _ _, by simp⟩
  · refine ⟨_, rfl, rd_elems w 8 (by decide) Stp.cells (fun _ => rfl) Stp.ok a len cap hl hm fun i hil => ?_⟩
    have him : i < m := by rw [hmm]; split <;> omega
    obtain ⟨cs', hc, ht⟩ := hi i him
    have h8 : Try.prog.cellsOf 40 = 8 := by kernel_rfl
    rw [h8] at hc
    obtain ⟨mg, rfl, hok⟩ := stp_trod ht
    obtain ⟨_, _, hat⟩ := World.cells?_some hc
    refine ⟨mg, hok, fun r hr => ?_⟩
    rw [← Go.Deep.add_add]; exact hat r hr
end

/-- The cells of a block of six, of four. -/
theorem six {w : World} {g : Nat} {a0 a1 a2 a3 a4 a5 : Value} {e : TypeId} (h : w.heap[g]? = some (.cells #[a0, a1, a2, a3, a4, a5] e (0, 0))) :
    (w.cell? ⟨g, 0, none⟩ = some a0 ∧ w.cell? ⟨g, 1, none⟩ = some a1 ∧ w.cell? ⟨g, 2, none⟩ = some a2 ∧ w.cell? ⟨g, 3, none⟩ = some a3 ∧ w.cell? ⟨g, 4, none⟩ = some a4 ∧ w.cell? ⟨g, 5, none⟩ = some a5) ∧
    (w.frozen? ⟨g, 0, none⟩ = false ∧ w.frozen? ⟨g, 1, none⟩ = false ∧ w.frozen? ⟨g, 2, none⟩ = false ∧ w.frozen? ⟨g, 3, none⟩ = false ∧ w.frozen? ⟨g, 4, none⟩ = false ∧ w.frozen? ⟨g, 5, none⟩ = false) :=
  ⟨⟨cell_at h 0, cell_at h 1, cell_at h 2, cell_at h 3, cell_at h 4, cell_at h 5⟩, frozen_at h 0, frozen_at h 1, frozen_at h 2, frozen_at h 3, frozen_at h 4, frozen_at h 5⟩
theorem four {w : World} {g : Nat} {a0 a1 a2 a3 : Value} {e : TypeId} (h : w.heap[g]? = some (.cells #[a0, a1, a2, a3] e (0, 0))) :
    (w.cell? ⟨g, 0, none⟩ = some a0 ∧ w.cell? ⟨g, 1, none⟩ = some a1 ∧ w.cell? ⟨g, 2, none⟩ = some a2 ∧ w.cell? ⟨g, 3, none⟩ = some a3) ∧
    (w.frozen? ⟨g, 0, none⟩ = false ∧ w.frozen? ⟨g, 1, none⟩ = false ∧ w.frozen? ⟨g, 2, none⟩ = false ∧ w.frozen? ⟨g, 3, none⟩ = false) :=
  ⟨⟨cell_at h 0, cell_at h 1, cell_at h 2, cell_at h 3⟩, frozen_at h 0, frozen_at h 1, frozen_at h 2, frozen_at h 3⟩
theorem put6 {w : World} {g : Nat} {a0 a1 a2 a3 a4 a5 : Value} {e : TypeId} (h : w.heap[g]? = some (.cells #[a0, a1, a2, a3, a4, a5] e (0, 0))) (b0 b1 b2 b3 b4 b5 : Value) :
    ((((((w.setCell ⟨g, 0, none⟩ b0).setCell ⟨g, 1, none⟩ b1).setCell ⟨g, 2, none⟩ b2).setCell ⟨g, 3, none⟩ b3).setCell ⟨g, 4, none⟩ b4).setCell ⟨g, 5, none⟩ b5).heap[g]? = some (.cells #[b0, b1, b2, b3, b4, b5] e (0, 0)) ∧
    Frm (· = g) w ((((((w.setCell ⟨g, 0, none⟩ b0).setCell ⟨g, 1, none⟩ b1).setCell ⟨g, 2, none⟩ b2).setCell ⟨g, 3, none⟩ b3).setCell ⟨g, 4, none⟩ b4).setCell ⟨g, 5, none⟩ b5) :=
  ⟨heap_set_at (heap_set_at (heap_set_at (heap_set_at (heap_set_at (heap_set_at h b0) b1) b2) b3) b4) b5,
   ((((((Frm.refl (· = g) w).put g 0 b0 (fun _ => rfl)).put g 1 b1 (fun _ => rfl)).put g 2 b2 (fun _ => rfl)).put g 3 b3 (fun _ => rfl)).put g 4 b4 (fun _ => rfl)).put g 5 b5 (fun _ => rfl)⟩
theorem put4 {w : World} {g : Nat} {a0 a1 a2 a3 : Value} {e : TypeId} (h : w.heap[g]? = some (.cells #[a0, a1, a2, a3] e (0, 0))) (b0 b1 b2 b3 : Value) :
    ((((w.setCell ⟨g, 0, none⟩ b0).setCell ⟨g, 1, none⟩ b1).setCell ⟨g, 2, none⟩ b2).setCell ⟨g, 3, none⟩ b3).heap[g]? = some (.cells #[b0, b1, b2, b3] e (0, 0)) ∧
    Frm (· = g) w ((((w.setCell ⟨g, 0, none⟩ b0).setCell ⟨g, 1, none⟩ b1).setCell ⟨g, 2, none⟩ b2).setCell ⟨g, 3, none⟩ b3) :=
  ⟨heap_set_at (heap_set_at (heap_set_at (heap_set_at h b0) b1) b2) b3,
   ((((Frm.refl (· = g) w).put g 0 b0 (fun _ => rfl)).put g 1 b1 (fun _ => rfl)).put g 2 b2 (fun _ => rfl)).put g 3 b3 (fun _ => rfl)⟩
theorem alloc2_new (w : World) (a b : Obj) : ((w.alloc a).alloc b).heap[w.heap.size + 1]? = some b := by
  have := heap_alloc_new (w.alloc a) b
  simpa using this

/-- A row cut. -/
theorem Rd.cut {α : Type} {w : World} {sz : Nat} {enc : α → List Value} (he : ∀ a, (enc a).length = sz) (hs : 0 < sz) {x : Addr} {n c : Nat} {l : List α} (h : Rd w sz (.slice (some x) n c) l.length (l.flatMap enc)) (i : Nat) (hi : i ≤ l.length) :
    Rd w sz (.slice (some x) i c) (l.take i).length ((l.take i).flatMap enc) := by
  rcases h.2 with ⟨h2, h0⟩ | ⟨x', cap, h2, h3, h4, h6⟩
  · cases h2
  · simp only [Value.slice.injEq, Option.some.injEq] at h2
    obtain ⟨rfl, rfl, rfl⟩ := h2
    have e : (l.take i).length = i := by rw [List.length_take]; omega
    refine ⟨flatMap_len sz enc he _, .inr ⟨x, c, by rw [e], by omega, by omega, fun j u hu => h6 j u ?_⟩⟩
    have hj := (List.getElem?_eq_some_iff.1 hu).1
    rw [flatMap_len sz enc he, e] at hj
    have hq : j / sz < i := (Nat.div_lt_iff_lt_mul hs).2 hj
    have e2 : j / sz * sz + j % sz = j := by rw [Nat.mul_comm]; exact Nat.div_add_mod j sz
    have hr := Nat.mod_lt j hs
    obtain ⟨a, ha⟩ : ∃ a, l[j / sz]? = some a := ⟨_, List.getElem?_eq_getElem (by omega)⟩
    have ha' : (l.take i)[j / sz]? = some a := by rw [List.getElem?_take, if_pos hq, ha]
    rw [← e2, flatMap_get sz enc he _ _ _ a ha' hr] at hu
    rw [← e2, flatMap_get sz enc he _ _ _ a ha hr]
    exact hu
/-- The cells of an element of a row. -/
theorem Rd.elAt {α : Type} {w : World} {sz : Nat} {enc : α → List Value} (he : ∀ a, (enc a).length = sz) {b o n c : Nat} {l : List α} (h : Rd w sz (.slice (some ⟨b, o, none⟩) n c) l.length (l.flatMap enc)) (k : Nat) (hk : k < l.length) :
    ∃ a, Hid (l[k]? = some a) ∧ ∀ r u, (enc a)[r]? = some u → w.cell? ⟨b, o + k * sz + r, none⟩ = some u := by
  rcases h.2 with ⟨h2, _⟩ | ⟨x, cap', h2, _, _, hc⟩
  · cases h2
  · simp only [Value.slice.injEq, Option.some.injEq] at h2
    obtain ⟨rfl, rfl, rfl⟩ := h2
    obtain ⟨a, ha⟩ : ∃ a, l[k]? = some a := ⟨_, List.getElem?_eq_getElem hk⟩
    refine ⟨a, hid ha, fun r u hu => ?_⟩
    have hr : r < sz := by rw [← he a]; exact (List.getElem?_eq_some_iff.1 hu).1
    rw [Nat.add_assoc, ← add_none]
    refine hc _ _ ?_
    rw [flatMap_get sz enc he l k r a ha hr]; exact hu

attribute [-go_sem] run_min_int2
attribute [local go_sem] run_min2
theorem early_calls (v : Value) (l : List Stp) (w : World) (hr : Rd w 8 v l.length (stps l)) :
    Calls Try.prog 16 #[v] w fun r w' => ∃ v', r = .returned v' ∧ Hid (∀ wx, Rd wx 8 v l.length (stps l) → Rd wx 8 v' (l.take 100).length (stps (l.take 100))) ∧ w = w' := by
  obtain ⟨a, c, rfl, hab⟩ := hr.shapeN
  obtain ⟨_, hc1, hc2⟩ := hr.cap
  have HR := hid hr
  clear hr
  by_cases h2 : l.length ≤ 100
  · have e : min (l.length : Int) 100 = (l.length : Int) := by omega
    rw [List.take_of_length_le h2]
    clear hab
    go_enter Try.func16, Try.ntmps16
    go_wp2_with fail
    go_ret
    exact ⟨_, rfl, hid fun _ h => h, rfl⟩
  · have e : min (l.length : Int) 100 = 100 := by omega
    obtain ⟨b, o, rfl⟩ := hab (by omega)
    have e2 : 100 ≤ c := by omega
    have H2 := hid h2
    go_enter Try.func16, Try.ntmps16
    go_wp2_with fail
    go_ret
    refine ⟨_, rfl, ?_, rfl⟩
    refine hid fun wx hx => ?_
    have h := hx.cut (enc := Stp.cells) (fun _ => rfl) (by decide) 100 (by omega)
    rw [List.length_take] at h
    exact h

def Stp.kd (s : Stp) : Int := wrap64 ((IntKind.u64.wrap s.k).tmod 5)
theorem kd_ok (s : Stp) : 0 ≤ s.kd ∧ s.kd < 5 := by
  have h : IntKind.u64.wrap s.k = s.k % 18446744073709551616 := by simp [IntKind.wrap, IntKind.bits, IntKind.signed]
  unfold Stp.kd
  rw [h, Int.tmod_eq_emod_of_nonneg (by omega)]
  unfold wrap64
  omega
theorem kind_calls (s : Stp) (w : World) : Calls Try.prog 17 #[s.val] w fun r w' => r = .returned (.int .i64 s.kd) ∧ Frm M0 w w' := by
  have HK : Hid (s.kd = wrap64 ((IntKind.u64.wrap s.k).tmod 5)) := rfl
  obtain ⟨k, n, m⟩ := s
  unfold Stp.val
  simp only []
  go_enter Try.func17, Try.ntmps17
  go_wp2_with fail
  go_ret
  exact ⟨by rw [HK.out]; rfl, (Frm.refl M0 w).alloc _⟩
def Stp.msg (s : Stp) : Mg := if s.n.tmod 7 = 0 then s.m else s.m.good
theorem msg_calls (s : Stp) (w : World) : Calls Try.prog 18 #[s.val] w fun r w' => r = .returned s.msg.val ∧ Frm M0 w w' := by
  obtain ⟨k, n, m⟩ := s
  have hG := good_calls m
  obtain ⟨g, hg⟩ : ∃ g, g = m.good := ⟨_, rfl⟩
  rw [← hg] at hG
  have HE : Hid ((Stp.mk k n m).msg = if n.tmod 7 = 0 then m else g) := by rw [hg]; exact hid rfl
  obtain ⟨gk, ge, gs, gu, gv, gt⟩ := g
  have HG : Hid (∀ wz, Calls Try.prog 12 #[.agg #[.int .i64 m.k, .int .i64 m.e, .int .i64 m.s, .int .i64 m.u, .int .i64 m.v, .int .i64 m.t]] wz fun r w' => r = .returned (.agg #[.int .i64 gk, .int .i64 ge, .int .i64 gs, .int .i64 gu, .int .i64 gv, .int .i64 gt]) ∧ Frm M0 wz w') := hid hG
  clear hG hg
  unfold Stp.val
  simp only []
  by_cases h7 : n.tmod 7 = 0
  · have e7 : (n.tmod 7 == 0) = true := by rw [h7]; rfl
    rw [if_pos h7] at HE
    clear h7
    go_enter Try.func18, Try.ntmps18
    go_wp2_with fail
    exact bodyPost_ret (v := m.val) (by simp [results, Try.results18, go_sem, Mg.val]) rfl ⟨by rw [HE.out], ((Frm.refl M0 w).alloc _).alloc _⟩
  · have e7 : (n.tmod 7 == 0) = false := beq_eq_false_iff_ne.2 h7
    rw [if_neg h7] at HE
    clear h7
    go_enter Try.func18, Try.ntmps18
    go_wp2_with fail
    refine (HG.out _).mono ?_
    rintro r w2 ⟨rfl, hf⟩
    have hb := hf.heap (alloc2_new w (.cells #[.int .i64 k, .int .i64 n, .int .i64 m.k, .int .i64 m.e, .int .i64 m.s, .int .i64 m.u, .int .i64 m.v, .int .i64 m.t] 40) (.cells #[.int .i64 0, .int .i64 0, .int .i64 0, .int .i64 0, .int .i64 0, .int .i64 0] 29)) (fun h => h)
    obtain ⟨⟨c0, c1, c2, c3, c4, c5⟩, f0, f1, f2, f3, f4, f5⟩ := six hb
    have HB := hid hb
    have HF := hid (((Frm.refl M0 w).alloc _ |>.alloc _).then0 hf)
    have hz := (Array.getElem?_eq_some_iff.1 hb).1
    clear hf hb
    go_wp2_with fail
    refine bodyPost_ret (v := .agg #[.int .i64 gk, .int .i64 ge, .int .i64 gs, .int .i64 gu, .int .i64 gv, .int .i64 gt]) (by simp [results, Try.results18, go_sem, c0, c1, c2, c3, c4, c5, hz]) rfl ⟨by rw [HE.out]; rfl, ?_⟩
    exact HF.out.trans (put6 HB.out _ _ _ _ _ _).2 (fun b hb e => by have e' : b = w.heap.size + 1 := e; omega)

theorem NetR.putLost {w : World} {nb c : Nat} {vb : Option Nat} {N : Net} (h : NetR w nb c vb N) (y : Int) : NetR (w.setCell ⟨nb, 3, none⟩ (.int .i64 y)) nb c vb { N with lost := y } := by
  obtain ⟨v, buf, s, r, hv, h1, h2, h3, h4, h5, h6, h7, h8, h9⟩ := h
  have hf := (Frm.refl (fun b => b = nb) w).put nb 3 (.int .i64 y) (fun _ => rfl)
  exact ⟨v, buf, s, r, hv, heap_set_at h1 _, hf.heap h2 (fun e => h7 e), h3, h4, h5, hf.owns h6 (fun k hk e => h8 (by rw [← hv, hk, e])), h7, h8, h9⟩
def Net.drop (N : Net) (x : Int) : Net × Bool :=
  if N.l.length = 0 then (N, false) else ({ (N.take x).1 with lost := wrap64 (N.lost + 1) }, true)
theorem drop_calls (nb c : Nat) (vb : Option Nat) (N : Net) (x : Int) (wx : (Lit.int .i64 x).wf = true) (w : World) (h : NetR w nb c vb N) :
    Calls Try.prog 19 #[pn nb, .int .i64 x] w fun r w' => r = .returned (.bool (N.drop x).2) ∧ Turned w w' nb c vb (N.drop x).1 := by
  have hl := h.lt nb (.inl rfl)
  by_cases h0 : N.l.length = 0
  · have e : N.drop x = (N, false) := by unfold Net.drop; rw [if_pos h0]
    have e1 : N.take x = (N, Mg.zero, false) := by unfold Net.take; rw [if_pos h0]
    have ht := take_calls nb c vb N x wx w h
    rw [e1] at ht
    have HT := hid ht
    have E := hid e
    clear ht e e1 h0 h
    go_enter Try.func19, Try.ntmps19
    go_wp2_with fail
    refine HT.out.mono ?_
    rintro r w1 ⟨rfl, vb1, hn, hf, hg⟩
    have HN := hid hn
    have HF := hid hf
    have HG := hid hg
    clear hn hf hg
    rw [show Mg.zero.val = .agg #[.int .i64 0, .int .i64 0, .int .i64 0, .int .i64 0, .int .i64 0, .int .i64 0] from rfl]
    go_wp2_with fail
    go_ret
    exact ⟨by rw [E.out]; rfl, by rw [E.out]; exact ⟨vb1, HN.out.frm ((Frm.refl M0 w1).alloc _) (fun _ _ h => h), HF.out.alloc _, HG.out⟩⟩
  · obtain ⟨N1, hN1⟩ : ∃ N1, N1 = (N.take x).1 := ⟨_, rfl⟩
    have e : N.drop x = ({ N1 with lost := wrap64 (N.lost + 1) }, true) := by unfold Net.drop; rw [if_neg h0, hN1]
    have e1 : (N.take x).2.2 = true ∧ (N.take x).1.lost = N.lost := by unfold Net.take; rw [if_neg h0]; exact ⟨rfl, rfl⟩
    obtain ⟨g, hg⟩ : ∃ g, g = (N.take x).2.1 := ⟨_, rfl⟩
    have ht := take_calls nb c vb N x wx w h
    rw [e1.1, ← hg, ← hN1] at ht
    have e2 := e1.2
    rw [← hN1] at e2
    rw [← e2] at e
    obtain ⟨gk, ge, gs, gu, gv, gt⟩ := g
    have HT := hid ht
    have E := hid e
    clear ht e e1 e2 h0 h hg hN1
    go_enter Try.func19, Try.ntmps19
    go_wp2_with fail
    refine HT.out.mono ?_
    rintro r w1 ⟨rfl, vb1, hn, hf, hg⟩
    rw [show (Mg.mk gk ge gs gu gv gt).val = .agg #[.int .i64 gk, .int .i64 ge, .int .i64 gs, .int .i64 gu, .int .i64 gv, .int .i64 gt] from rfl]
    have hnb := hn
    obtain ⟨v, buf, s, r, hv, h1, hr⟩ := hn
    obtain ⟨⟨c0, c1, c2, c3⟩, ⟨f0, f1, f2, f3⟩⟩ := netCells h1
    have hl1 := (Array.getElem?_eq_some_iff.1 h1).1
    have HN := hid hnb
    have HF := hid hf
    have HG := hid hg
    clear hnb hf hg h1 hr hv
    go_wp2_with fail
    go_ret
    refine ⟨by rw [E.out]; rfl, ?_⟩
    rw [E.out]
    exact ⟨vb1, (HN.out.putLost _).frm ((Frm.refl M0 _).alloc _) (fun _ _ h => h), (HF.out.trans ((Frm.refl (· = nb) w1).put nb 3 _ (fun _ => rfl)) (fun b _ e => .inl e)).alloc _, HG.out⟩
def Net.twice (N : Net) (x : Int) : Net × Int :=
  if N.l.length = 0 then (N, 5) else N.push (N.l.getD (pl x N.l.length).toNat Mg.zero)
theorem twice_calls (nb c : Nat) (vb : Option Nat) (N : Net) (x : Int) (wx : (Lit.int .i64 x).wf = true) (w : World) (h : NetR w nb c vb N) :
    Calls Try.prog 20 #[pn nb, .int .i64 x] w fun r w' => r = .returned (.int .i64 (N.twice x).2) ∧ Turned w w' nb c vb (N.twice x).1 := by
  by_cases h0 : N.l.length = 0
  · have e : N.twice x = (N, 5) := by unfold Net.twice; rw [if_pos h0]
    have hp := place_none nb c vb N x w h h0
    have HP := hid hp
    have E := hid e
    have H := hid h
    clear hp e h0 h
    go_enter Try.func20, Try.ntmps20
    go_wp2_with fail
    refine HP.out.mono ?_
    rintro r w1 ⟨rfl, rfl⟩
    go_wp2_with fail
    go_ret
    exact ⟨by rw [E.out]; rfl, by rw [E.out]; exact Turned.same H.out (Frm.refl _ _)⟩
  · obtain ⟨k, hk, hkl⟩ := pl_bound x N.l.length (by omega)
    have hp := place_some nb c vb N x wx w h (by omega)
    obtain ⟨mg, hmg⟩ : ∃ mg, N.l[k]? = some mg := ⟨_, List.getElem?_eq_getElem hkl⟩
    have hgd : N.l.getD k Mg.zero = mg := by rw [List.getD_eq_getElem?_getD, hmg]; rfl
    have e : N.twice x = N.push mg := by unfold Net.twice; rw [if_neg h0, hk, Int.toNat_natCast, hgd]
    rw [hk] at hp
    have HP := hid hp
    have E := hid e
    have H := hid h
    obtain ⟨v, buf, s, r, hv, h1, h2, h3, h4, h5, h6, h7, h8, h9⟩ := h
    have hrd := Rd.ofOwns h6
    obtain ⟨a, ca, rfl, hab⟩ := hrd.shapeN
    obtain ⟨b, o, rfl⟩ := hab (by omega)
    obtain ⟨m', HM', m0, m1, m2, m3, m4, m5⟩ := hrd.msgAt k hkl
    obtain rfl : m' = mg := by have h1 := HM'.out; rw [hmg] at h1; exact (Option.some.inj h1).symm
    obtain ⟨⟨c0, c1, c2, c3⟩, ⟨f0, f1, f2, f3⟩⟩ := netCells h1
    have hlt : (k : Int) < N.l.length := by omega
    obtain ⟨gk, ge, gs, gu, gv, gt⟩ := m'
    simp only [] at m0 m1 m2 m3 m4 m5
    have HM := hid hmg
    clear hp e h0 hk h1 h2 h3 h6 hv hrd hmg hgd hab HM'
    go_enter Try.func20, Try.ntmps20
    go_wp2_with fail
    refine HP.out.mono ?_
    rintro r w1 ⟨rfl, rfl⟩
    go_wp2_with fail
    refine (push_calls nb c vb N ⟨gk, ge, gs, gu, gv, gt⟩ _ H.out).mono ?_
    rintro r w2 ⟨rfl, ht⟩
    have HT := hid ht
    clear ht
    go_wp2_with fail
    go_ret
    exact ⟨by rw [E.out]; rfl, by rw [E.out]; exact HT.out⟩
end Go.Proofs.Ytbepcohcdgfkaaa
