/- record.Read. No condition. -/
import Derived.Test.YtinbidmgllmglaaKy
import Derived.Test.YtinbidmgllmglaaSw
import Derived.Test.YtinbidmgllmglaaCs
import Derived.Test.YtinbidmgllmglaaRc
namespace Go.Proofs.Ytinbidmgllmglaa
set_option linter.unusedVariables false
set_option linter.unusedSimpArgs false
open Go.RowKit Cp

theorem Rdr.frmR {w w' : World} {rb R : Nat} {l : List Int} {e : Int} (h : Rdr w rb l e) (hf : Frm (fun x => x = R) w w') (h0 : rb < R) : Rdr w' rb l e := h.frm hf (fun k hk => by have : k = R := hk; omega)
theorem rtext_u (rb : Nat) (l : List Int) (e : Int) (w : World) (h : Rdr w rb l e) :
    Calls Try.prog 15 #[rp rb] w fun r w' => r = .returned (.string (strOfNums (textE l e).1)) ∧ Rdr w' rb (textE l e).2.1 (textE l e).2.2 ∧ Frm (· = rb) w w' := by
  by_cases he : e = 0
  · subst he; rw [textE_0]; exact rtext0_calls rb l w h
  · rw [textE_ne l e he]
    refine (rtextE_calls rb l e w h he).mono ?_
    rintro r w' ⟨rfl, rfl⟩
    exact ⟨rfl, h, Frm.refl _ _⟩
theorem rlist_u (rb : Nat) (l : List Int) (e : Int) (w : World) (h : Rdr w rb l e) :
    Calls Try.prog 17 #[rp rb] w fun r w' => ∃ v, r = .returned v ∧ w'.ownsRow w.heap.size 3 1 v (listE l e).1.length (ints .i64 (listE l e).1) ∧ Rdr w' rb (listE l e).2.1 (listE l e).2.2 ∧ Frm (· = rb) w w' := by
  by_cases he : e = 0
  · subst he; rw [listE_0]; exact rlist0_calls rb l w h
  · rw [listE_ne l e he]
    refine (rlistE_calls rb l e w h he).mono ?_
    rintro r w' ⟨rfl, rfl⟩
    exact ⟨_, rfl, World.ownsRow_nil _ _ _ _, h, Frm.refl _ _⟩
/-- 12 numbers are a spec; others are none. -/
def mkSp (l : List Int) : Sp := if l.length = 12 then Sp.ofL l else Sp.zero
theorem make_u (v : Value) (l : List Int) (w : World) (hr : Rd w 1 v l.length (ints .i64 l)) (hm : l.length ≤ 1000000) :
    Calls Try.prog 16 #[v] w fun r w' => ∃ e : Int, r = .returned (.tuple #[(mkSp l).val, .int .i64 e]) ∧ Frm M0 w w' := by
  by_cases h : l.length = 12
  · refine (make_ok v l w hr h).mono ?_
    rintro _ w' ⟨rfl, hf⟩
    exact ⟨0, by unfold mkSp; rw [if_pos h], hf⟩
  · refine (make_bad v l w hr h hm).mono ?_
    rintro _ w' ⟨rfl, hf⟩
    exact ⟨1, by unfold mkSp; rw [if_neg h], hf⟩

/-- The five numbers and the text; what is left, the error. -/
def read5 (l : List Int) : Rc × List Int × Int :=
  let a := getF l 0; let b := getF a.2.1 a.2.2; let c := getF b.2.1 b.2.2; let d := getF c.2.1 c.2.2; let e := getF d.2.1 d.2.2
  let t := textE e.2.1 e.2.2
  (⟨a.1, b.1, c.1, d.1, e.1, strOfNums t.1, Sp.zero⟩, t.2.1, t.2.2)
/-- .. the spec, too. -/
def read6 (l : List Int) : Rc × List Int × Int :=
  let a := read5 l
  if a.1.k = 3 then (let s := listE a.2.1 a.2.2; ({ a.1 with p := mkSp s.1 }, s.2.1, s.2.2)) else a
def readF (l : List Int) : Rc × Int := let a := read6 l; if endF a.2.1 a.2.2 = 0 ∧ rightB a.1 = true then (a.1, 0) else (Rc.zero, 2)
theorem listE_len (l : List Int) (e : Int) : (listE l e).1.length ≤ 64 := by
  by_cases he : e = 0
  · subst he
    rw [listE_0]
    unfold listF
    split
    · simp
    · split
      · simp
      · split
        · rw [numsF_len]; omega
        · simp
  · rw [listE_ne l e he]; simp

set_option maxRecDepth 20000 in
set_option maxHeartbeats 4000000 in
theorem read_rec_calls (v : Value) (l : List Int) (w : World) (hl : l.length ≤ 1000000) (hr : Rd w 1 v l.length (ints .u8 l)) (hy : ∀ x ∈ l, 0 ≤ x ∧ x < 256) :
    Calls Try.prog 7 #[v] w fun x w' => x = .returned (.tuple #[(readF l).1.val, .int .i64 (readF l).2]) ∧ Frm M0 w w' := by
  have HR := hid hr
  have HY := hid hy
  have HL := hid hl
  clear hr hy hl
  go_enter Try.func7, Try.ntmps7
  go_wp2_with fail
  refine (read_calls v l _ HL.out (HR.out.frm0 ((Frm.refl M0 w).alloc _)) HY.out).mono ?_
  rintro _ w1 ⟨rb, rfl, hrb, hR, hf⟩
  have T0 := hid (hf.heap (new1 w (.cells #[.int .i64 0, .int .i64 0, .int .i64 0, .int .i64 0, .int .i64 0, .string ⟨#[]⟩, .int .i64 0, .int .i64 0, .int .i64 0, .int .i64 0, .int .i64 0, .int .i64 0, .int .i64 0, .int .i64 0, .int .i64 0, .int .i64 0, .int .i64 0, .int .i64 0] 28)) (fun h => h))
  have F0 := hid (((Frm.refl M0 w).alloc (.cells #[.int .i64 0, .int .i64 0, .int .i64 0, .int .i64 0, .int .i64 0, .string ⟨#[]⟩, .int .i64 0, .int .i64 0, .int .i64 0, .int .i64 0, .int .i64 0, .int .i64 0, .int .i64 0, .int .i64 0, .int .i64 0, .int .i64 0, .int .i64 0, .int .i64 0] 28)).then0 hf)
  have R0 := hid hR
  have hrb1 : rb < w1.heap.size := by obtain ⟨v, ha, _⟩ := hR; exact (Array.getElem?_eq_some_iff.1 ha).1
  have hrb2 : w.heap.size < rb := by simp at hrb; omega
  clear hR hf hrb HR HY
  go_wp2_with fail
  obtain ⟨T, hT⟩ : ∃ x, x = w.heap.size := ⟨_, rfl⟩
  obtain ⟨R, hR⟩ : ∃ x, x = w1.heap.size := ⟨_, rfl⟩
  have N := new2 w1 (.cells #[.int .i64 0, .int .i64 0, .int .i64 0, .int .i64 0, .int .i64 0, .string ⟨#[]⟩, .int .i64 0, .int .i64 0, .int .i64 0, .int .i64 0, .int .i64 0, .int .i64 0, .int .i64 0, .int .i64 0, .int .i64 0, .int .i64 0, .int .i64 0, .int .i64 0] 28) (.cells #[ptr w1.heap.size, .pointer (some ⟨w1.heap.size, 1, none⟩), .pointer (some ⟨w1.heap.size, 2, none⟩), .pointer (some ⟨w1.heap.size, 3, none⟩), .pointer (some ⟨w1.heap.size, 4, none⟩)] 41)
  have G := ((Frm.refl M0 w1).alloc (.cells #[.int .i64 0, .int .i64 0, .int .i64 0, .int .i64 0, .int .i64 0, .string ⟨#[]⟩, .int .i64 0, .int .i64 0, .int .i64 0, .int .i64 0, .int .i64 0, .int .i64 0, .int .i64 0, .int .i64 0, .int .i64 0, .int .i64 0, .int .i64 0, .int .i64 0] 28)).alloc (.cells #[ptr w1.heap.size, .pointer (some ⟨w1.heap.size, 1, none⟩), .pointer (some ⟨w1.heap.size, 2, none⟩), .pointer (some ⟨w1.heap.size, 3, none⟩), .pointer (some ⟨w1.heap.size, 4, none⟩)] 41)
  have T1 := hid (G.heap T0.out (fun h => h))
  have F1 := hid (F0.out.then0 G)
  have Q1 := hid (R0.out.frm0 G)
  obtain ⟨w2, hw2⟩ : ∃ x, x = (w1.alloc (.cells #[.int .i64 0, .int .i64 0, .int .i64 0, .int .i64 0, .int .i64 0, .string ⟨#[]⟩, .int .i64 0, .int .i64 0, .int .i64 0, .int .i64 0, .int .i64 0, .int .i64 0, .int .i64 0, .int .i64 0, .int .i64 0, .int .i64 0, .int .i64 0, .int .i64 0] 28)).alloc (.cells #[ptr w1.heap.size, .pointer (some ⟨w1.heap.size, 1, none⟩), .pointer (some ⟨w1.heap.size, 2, none⟩), .pointer (some ⟨w1.heap.size, 3, none⟩), .pointer (some ⟨w1.heap.size, 4, none⟩)] 41) := ⟨_, rfl⟩
  rw [← hw2] at N T1 F1 Q1
  rw [← hw2]
  rw [← hR] at N hrb1
  rw [← hT] at T1 hrb2
  have hs : (w1.alloc (.cells #[.int .i64 0, .int .i64 0, .int .i64 0, .int .i64 0, .int .i64 0, .string ⟨#[]⟩, .int .i64 0, .int .i64 0, .int .i64 0, .int .i64 0, .int .i64 0, .int .i64 0, .int .i64 0, .int .i64 0, .int .i64 0, .int .i64 0, .int .i64 0, .int .i64 0] 28)).heap.size = w1.heap.size + 1 := by simp
  try rw [hs]
  rw [← hR, ← hT]
  have S1 := hid N.2
  have H1 := hid N.1
  have HTT := hid hT
  have HRR : Hid (R = w1.heap.size ∧ w.heap.size ≤ w1.heap.size) := hid ⟨hR, F0.out.size⟩
  clear hw2 hR hT hs N G T0 F0 R0
  obtain ⟨l1, hl1⟩ : ∃ x, x = l := ⟨_, rfl⟩
  obtain ⟨e1, he1⟩ : ∃ x : Int, x = 0 := ⟨_, rfl⟩
  rw [← he1] at Q1
  rw [← hl1] at Q1 HL
  have HE1 := hid he1
  have HL1 := hid hl1
  clear he1 hl1
  refine wp_loop_rounds 6 ?_
  have hc : w2.cell? ⟨R + 1, 0, none⟩ = some (ptr R) := cell_at S1.out 0
  rw [rounds_succ]
  go_wp2_with fail
  refine (rnum_calls rb l1 e1 _ Q1.out).mono ?_
  rintro _ u1 ⟨rfl, hq, hf⟩
  obtain ⟨n0, HN0⟩ : ∃ x, Hid (x = (getF l1 e1).1) := ⟨_, rfl⟩
  obtain ⟨l2, HL2⟩ : ∃ x, Hid (x = (getF l1 e1).2.1) := ⟨_, rfl⟩
  obtain ⟨e2, HE2⟩ : ∃ x, Hid (x = (getF l1 e1).2.2) := ⟨_, rfl⟩
  rw [← HL2.out, ← HE2.out] at hq
  rw [← HN0.out]
  have hh := hf.heap H1.out (by show ¬ R = rb; omega)
  have ht := hf.heap T1.out (by show ¬ T = rb; omega)
  have hs := hf.heap S1.out (by show ¬ R + 1 = rb; omega)
  have hF := F1.out.trans hf (fun b hb e => by have e' : b = rb := e; have := HTT.out; omega)
  have hc0 : u1.cell? ⟨R, 0, none⟩ = some (.int .i64 0) := cell_at hh 0
  have hz : u1.frozen? ⟨R, 0, none⟩ = false := frozen_at hh 0
  have HH := hid hh
  have HTx := hid ht
  have HSx := hid hs
  clear hh ht hs hf hc H1 T1 S1 Q1 F1
  have HQ := hid hq
  have HF := hid hF
  clear hq hF
  go_wp2_with fail
  have hp : Frm (fun x => x = R) u1 (u1.setCell ⟨R, 0, none⟩ (.int .i64 n0)) := (Frm.refl _ _).put R 0 _ (fun _ => rfl)
  have hh : (u1.setCell ⟨R, 0, none⟩ (.int .i64 n0)).heap[R]? = some (.cells #[.int .i64 n0, .int .i64 0, .int .i64 0, .int .i64 0, .int .i64 0, .string ⟨#[]⟩, .int .i64 0, .int .i64 0, .int .i64 0, .int .i64 0, .int .i64 0, .int .i64 0, .int .i64 0, .int .i64 0, .int .i64 0, .int .i64 0, .int .i64 0, .int .i64 0] 28 (0, 0)) := heap_set_at HH.out _
  have H2 := hid hh
  have T2 := hid (hp.heap HTx.out (by show ¬ T = R; omega))
  have S2 := hid (hp.heap HSx.out (by show ¬ R + 1 = R; omega))
  have Q2 := hid (HQ.out.frmR hp (by omega))
  have F2 := hid (HF.out.trans hp (fun b hb e => by have e' : b = R := e; have := HRR.out; omega))
  obtain ⟨w3, hw⟩ : ∃ x, x = u1.setCell ⟨R, 0, none⟩ (.int .i64 n0) := ⟨_, rfl⟩
  rw [← hw] at H2 T2 S2 Q2 F2
  rw [← hw]
  clear hw hp hh HH HTx HSx HQ HF hc0 hz
  have hc : w3.cell? ⟨R + 1, 1, none⟩ = some (.pointer (some ⟨R, 1, none⟩)) := cell_at S2.out 1
  rw [rounds_succ]
  go_wp2_with fail
  refine (rnum_calls rb l2 e2 _ Q2.out).mono ?_
  rintro _ u2 ⟨rfl, hq, hf⟩
  obtain ⟨n1, HN1⟩ : ∃ x, Hid (x = (getF l2 e2).1) := ⟨_, rfl⟩
  obtain ⟨l3, HL3⟩ : ∃ x, Hid (x = (getF l2 e2).2.1) := ⟨_, rfl⟩
  obtain ⟨e3, HE3⟩ : ∃ x, Hid (x = (getF l2 e2).2.2) := ⟨_, rfl⟩
  rw [← HL3.out, ← HE3.out] at hq
  rw [← HN1.out]
  have hh := hf.heap H2.out (by show ¬ R = rb; omega)
  have ht := hf.heap T2.out (by show ¬ T = rb; omega)
  have hs := hf.heap S2.out (by show ¬ R + 1 = rb; omega)
  have hF := F2.out.trans hf (fun b hb e => by have e' : b = rb := e; have := HTT.out; omega)
  have hc0 : u2.cell? ⟨R, 1, none⟩ = some (.int .i64 0) := cell_at hh 1
  have hz : u2.frozen? ⟨R, 1, none⟩ = false := frozen_at hh 1
  have HH := hid hh
  have HTx := hid ht
  have HSx := hid hs
  clear hh ht hs hf hc H2 T2 S2 Q2 F2
  have HQ := hid hq
  have HF := hid hF
  clear hq hF
  go_wp2_with fail
  have hp : Frm (fun x => x = R) u2 (u2.setCell ⟨R, 1, none⟩ (.int .i64 n1)) := (Frm.refl _ _).put R 1 _ (fun _ => rfl)
  have hh : (u2.setCell ⟨R, 1, none⟩ (.int .i64 n1)).heap[R]? = some (.cells #[.int .i64 n0, .int .i64 n1, .int .i64 0, .int .i64 0, .int .i64 0, .string ⟨#[]⟩, .int .i64 0, .int .i64 0, .int .i64 0, .int .i64 0, .int .i64 0, .int .i64 0, .int .i64 0, .int .i64 0, .int .i64 0, .int .i64 0, .int .i64 0, .int .i64 0] 28 (0, 0)) := heap_set_at HH.out _
  have H3 := hid hh
  have T3 := hid (hp.heap HTx.out (by show ¬ T = R; omega))
  have S3 := hid (hp.heap HSx.out (by show ¬ R + 1 = R; omega))
  have Q3 := hid (HQ.out.frmR hp (by omega))
  have F3 := hid (HF.out.trans hp (fun b hb e => by have e' : b = R := e; have := HRR.out; omega))
  obtain ⟨w4, hw⟩ : ∃ x, x = u2.setCell ⟨R, 1, none⟩ (.int .i64 n1) := ⟨_, rfl⟩
  rw [← hw] at H3 T3 S3 Q3 F3
  rw [← hw]
  clear hw hp hh HH HTx HSx HQ HF hc0 hz
  have hc : w4.cell? ⟨R + 1, 2, none⟩ = some (.pointer (some ⟨R, 2, none⟩)) := cell_at S3.out 2
  rw [rounds_succ]
  go_wp2_with fail
  refine (rnum_calls rb l3 e3 _ Q3.out).mono ?_
  rintro _ u3 ⟨rfl, hq, hf⟩
  obtain ⟨n2, HN2⟩ : ∃ x, Hid (x = (getF l3 e3).1) := ⟨_, rfl⟩
  obtain ⟨l4, HL4⟩ : ∃ x, Hid (x = (getF l3 e3).2.1) := ⟨_, rfl⟩
  obtain ⟨e4, HE4⟩ : ∃ x, Hid (x = (getF l3 e3).2.2) := ⟨_, rfl⟩
  rw [← HL4.out, ← HE4.out] at hq
  rw [← HN2.out]
  have hh := hf.heap H3.out (by show ¬ R = rb; omega)
  have ht := hf.heap T3.out (by show ¬ T = rb; omega)
  have hs := hf.heap S3.out (by show ¬ R + 1 = rb; omega)
  have hF := F3.out.trans hf (fun b hb e => by have e' : b = rb := e; have := HTT.out; omega)
  have hc0 : u3.cell? ⟨R, 2, none⟩ = some (.int .i64 0) := cell_at hh 2
  have hz : u3.frozen? ⟨R, 2, none⟩ = false := frozen_at hh 2
  have HH := hid hh
  have HTx := hid ht
  have HSx := hid hs
  clear hh ht hs hf hc H3 T3 S3 Q3 F3
  have HQ := hid hq
  have HF := hid hF
  clear hq hF
  go_wp2_with fail
  have hp : Frm (fun x => x = R) u3 (u3.setCell ⟨R, 2, none⟩ (.int .i64 n2)) := (Frm.refl _ _).put R 2 _ (fun _ => rfl)
  have hh : (u3.setCell ⟨R, 2, none⟩ (.int .i64 n2)).heap[R]? = some (.cells #[.int .i64 n0, .int .i64 n1, .int .i64 n2, .int .i64 0, .int .i64 0, .string ⟨#[]⟩, .int .i64 0, .int .i64 0, .int .i64 0, .int .i64 0, .int .i64 0, .int .i64 0, .int .i64 0, .int .i64 0, .int .i64 0, .int .i64 0, .int .i64 0, .int .i64 0] 28 (0, 0)) := heap_set_at HH.out _
  have H4 := hid hh
  have T4 := hid (hp.heap HTx.out (by show ¬ T = R; omega))
  have S4 := hid (hp.heap HSx.out (by show ¬ R + 1 = R; omega))
  have Q4 := hid (HQ.out.frmR hp (by omega))
  have F4 := hid (HF.out.trans hp (fun b hb e => by have e' : b = R := e; have := HRR.out; omega))
  obtain ⟨w5, hw⟩ : ∃ x, x = u3.setCell ⟨R, 2, none⟩ (.int .i64 n2) := ⟨_, rfl⟩
  rw [← hw] at H4 T4 S4 Q4 F4
  rw [← hw]
  clear hw hp hh HH HTx HSx HQ HF hc0 hz
  have hc : w5.cell? ⟨R + 1, 3, none⟩ = some (.pointer (some ⟨R, 3, none⟩)) := cell_at S4.out 3
  rw [rounds_succ]
  go_wp2_with fail
  refine (rnum_calls rb l4 e4 _ Q4.out).mono ?_
  rintro _ u4 ⟨rfl, hq, hf⟩
  obtain ⟨n3, HN3⟩ : ∃ x, Hid (x = (getF l4 e4).1) := ⟨_, rfl⟩
  obtain ⟨l5, HL5⟩ : ∃ x, Hid (x = (getF l4 e4).2.1) := ⟨_, rfl⟩
  obtain ⟨e5, HE5⟩ : ∃ x, Hid (x = (getF l4 e4).2.2) := ⟨_, rfl⟩
  rw [← HL5.out, ← HE5.out] at hq
  rw [← HN3.out]
  have hh := hf.heap H4.out (by show ¬ R = rb; omega)
  have ht := hf.heap T4.out (by show ¬ T = rb; omega)
  have hs := hf.heap S4.out (by show ¬ R + 1 = rb; omega)
  have hF := F4.out.trans hf (fun b hb e => by have e' : b = rb := e; have := HTT.out; omega)
  have hc0 : u4.cell? ⟨R, 3, none⟩ = some (.int .i64 0) := cell_at hh 3
  have hz : u4.frozen? ⟨R, 3, none⟩ = false := frozen_at hh 3
  have HH := hid hh
  have HTx := hid ht
  have HSx := hid hs
  clear hh ht hs hf hc H4 T4 S4 Q4 F4
  have HQ := hid hq
  have HF := hid hF
  clear hq hF
  go_wp2_with fail
  have hp : Frm (fun x => x = R) u4 (u4.setCell ⟨R, 3, none⟩ (.int .i64 n3)) := (Frm.refl _ _).put R 3 _ (fun _ => rfl)
  have hh : (u4.setCell ⟨R, 3, none⟩ (.int .i64 n3)).heap[R]? = some (.cells #[.int .i64 n0, .int .i64 n1, .int .i64 n2, .int .i64 n3, .int .i64 0, .string ⟨#[]⟩, .int .i64 0, .int .i64 0, .int .i64 0, .int .i64 0, .int .i64 0, .int .i64 0, .int .i64 0, .int .i64 0, .int .i64 0, .int .i64 0, .int .i64 0, .int .i64 0] 28 (0, 0)) := heap_set_at HH.out _
  have H5 := hid hh
  have T5 := hid (hp.heap HTx.out (by show ¬ T = R; omega))
  have S5 := hid (hp.heap HSx.out (by show ¬ R + 1 = R; omega))
  have Q5 := hid (HQ.out.frmR hp (by omega))
  have F5 := hid (HF.out.trans hp (fun b hb e => by have e' : b = R := e; have := HRR.out; omega))
  obtain ⟨w6, hw⟩ : ∃ x, x = u4.setCell ⟨R, 3, none⟩ (.int .i64 n3) := ⟨_, rfl⟩
  rw [← hw] at H5 T5 S5 Q5 F5
  rw [← hw]
  clear hw hp hh HH HTx HSx HQ HF hc0 hz
  have hc : w6.cell? ⟨R + 1, 4, none⟩ = some (.pointer (some ⟨R, 4, none⟩)) := cell_at S5.out 4
  rw [rounds_succ]
  go_wp2_with fail
  refine (rnum_calls rb l5 e5 _ Q5.out).mono ?_
  rintro _ u5 ⟨rfl, hq, hf⟩
  obtain ⟨n4, HN4⟩ : ∃ x, Hid (x = (getF l5 e5).1) := ⟨_, rfl⟩
  obtain ⟨l6, HL6⟩ : ∃ x, Hid (x = (getF l5 e5).2.1) := ⟨_, rfl⟩
  obtain ⟨e6, HE6⟩ : ∃ x, Hid (x = (getF l5 e5).2.2) := ⟨_, rfl⟩
  rw [← HL6.out, ← HE6.out] at hq
  rw [← HN4.out]
  have hh := hf.heap H5.out (by show ¬ R = rb; omega)
  have ht := hf.heap T5.out (by show ¬ T = rb; omega)
  have hs := hf.heap S5.out (by show ¬ R + 1 = rb; omega)
  have hF := F5.out.trans hf (fun b hb e => by have e' : b = rb := e; have := HTT.out; omega)
  have hc0 : u5.cell? ⟨R, 4, none⟩ = some (.int .i64 0) := cell_at hh 4
  have hz : u5.frozen? ⟨R, 4, none⟩ = false := frozen_at hh 4
  have HH := hid hh
  have HTx := hid ht
  have HSx := hid hs
  clear hh ht hs hf hc H5 T5 S5 Q5 F5
  have HQ := hid hq
  have HF := hid hF
  clear hq hF
  go_wp2_with fail
  have hp : Frm (fun x => x = R) u5 (u5.setCell ⟨R, 4, none⟩ (.int .i64 n4)) := (Frm.refl _ _).put R 4 _ (fun _ => rfl)
  have hh : (u5.setCell ⟨R, 4, none⟩ (.int .i64 n4)).heap[R]? = some (.cells #[.int .i64 n0, .int .i64 n1, .int .i64 n2, .int .i64 n3, .int .i64 n4, .string ⟨#[]⟩, .int .i64 0, .int .i64 0, .int .i64 0, .int .i64 0, .int .i64 0, .int .i64 0, .int .i64 0, .int .i64 0, .int .i64 0, .int .i64 0, .int .i64 0, .int .i64 0] 28 (0, 0)) := heap_set_at HH.out _
  have H6 := hid hh
  have T6 := hid (hp.heap HTx.out (by show ¬ T = R; omega))
  have S6 := hid (hp.heap HSx.out (by show ¬ R + 1 = R; omega))
  have Q6 := hid (HQ.out.frmR hp (by omega))
  have F6 := hid (HF.out.trans hp (fun b hb e => by have e' : b = R := e; have := HRR.out; omega))
  obtain ⟨w7, hw⟩ : ∃ x, x = u5.setCell ⟨R, 4, none⟩ (.int .i64 n4) := ⟨_, rfl⟩
  rw [← hw] at H6 T6 S6 Q6 F6
  rw [← hw]
  clear hw hp hh HH HTx HSx HQ HF hc0 hz
  rw [rounds_succ]
  go_wp2_with fail
  refine (rtext_u rb l6 e6 _ Q6.out).mono ?_
  rintro _ u6 ⟨rfl, hq, hf⟩
  obtain ⟨t, HTX⟩ : ∃ x, Hid (x = strOfNums (textE l6 e6).1) := ⟨_, rfl⟩
  obtain ⟨l7, HL7⟩ : ∃ x, Hid (x = (textE l6 e6).2.1) := ⟨_, rfl⟩
  obtain ⟨e7, HE7⟩ : ∃ x, Hid (x = (textE l6 e6).2.2) := ⟨_, rfl⟩
  rw [← HL7.out, ← HE7.out] at hq
  rw [← HTX.out]
  have H5 : Hid (read5 l = (⟨n0, n1, n2, n3, n4, t, Sp.zero⟩, l7, e7)) := hid (by
    unfold read5
    simp only []
    rw [← HL1.out, ← HE1.out, ← HN0.out, ← HL2.out, ← HE2.out, ← HN1.out, ← HL3.out, ← HE3.out, ← HN2.out, ← HL4.out, ← HE4.out, ← HN3.out, ← HL5.out, ← HE5.out, ← HN4.out, ← HL6.out, ← HE6.out, ← HTX.out, ← HL7.out, ← HE7.out])
  have hh := hf.heap H6.out (by show ¬ R = rb; omega)
  have ht := hf.heap T6.out (by show ¬ T = rb; omega)
  have hF := F6.out.trans hf (fun b hb e => by have e' : b = rb := e; have := HTT.out; omega)
  have hc0 : u6.cell? ⟨R, 5, none⟩ = some (.string ⟨#[]⟩) := cell_at hh 5
  have hz : u6.frozen? ⟨R, 5, none⟩ = false := frozen_at hh 5
  have hk0 : u6.cell? ⟨R, 0, none⟩ = some (.int .i64 n0) := cell_at hh 0
  have HH := hid hh
  have HTx := hid ht
  have HQ := hid hq
  have HF := hid hF
  clear hh ht hf H6 T6 S6 Q6 F6 hq hF
  have hp : Frm (fun x => x = R) u6 (u6.setCell ⟨R, 5, none⟩ (.string t)) := (Frm.refl _ _).put R 5 _ (fun _ => rfl)
  have hh : (u6.setCell ⟨R, 5, none⟩ (.string t)).heap[R]? = some (.cells #[.int .i64 n0, .int .i64 n1, .int .i64 n2, .int .i64 n3, .int .i64 n4, .string t, .int .i64 0, .int .i64 0, .int .i64 0, .int .i64 0, .int .i64 0, .int .i64 0, .int .i64 0, .int .i64 0, .int .i64 0, .int .i64 0, .int .i64 0, .int .i64 0] 28 (0, 0)) := heap_set_at HH.out _
  have H7 := hid hh
  have T7 := hid (hp.heap HTx.out (by show ¬ T = R; omega))
  have Q7 := hid (HQ.out.frmR hp (by omega))
  have F7 := hid (HF.out.trans hp (fun b hb e => by have e' : b = R := e; have := HRR.out; omega))
  clear hp hh HH HTx HQ HF
  by_cases hk : n0 = 3
  case neg =>
    go_wp2_with fail
    obtain ⟨w8, hw⟩ : ∃ x, x = u6.setCell ⟨R, 5, none⟩ (.string t) := ⟨_, rfl⟩
    rw [← hw] at H7 T7 Q7 F7
    rw [← hw]
    clear hw hc0 hz hk0
    have HK := hid hk
    clear hk
    have HX6 : Hid (read6 l = (⟨n0, n1, n2, n3, n4, t, Sp.zero⟩, l7, e7)) := hid (by unfold read6; rw [H5.out]; exact if_neg HK.out)
    refine (end_calls rb l7 e7 _ Q7.out).mono ?_
    rintro _ _ ⟨rfl, rfl⟩
    obtain ⟨x, HXE⟩ : ∃ x, Hid (endF l7 e7 = x) := ⟨_, rfl⟩
    rw [HXE.out]
    by_cases hx : x = 0
    case neg =>
      have HRF : Hid (readF l = (Rc.zero, 2)) := hid (by unfold readF; rw [HX6.out]; simp only []; rw [HXE.out, if_neg (fun h => hx h.1)])
      go_wp2_with (refine wpList_store_row rfl 28 (.tmp 2) (.tmp 47) (by with_reducible rfl) T #[.int .i64 0, .int .i64 0, .int .i64 0, .int .i64 0, .int .i64 0, .string ⟨#[]⟩, .int .i64 0, .int .i64 0, .int .i64 0, .int .i64 0, .int .i64 0, .int .i64 0, .int .i64 0, .int .i64 0, .int .i64 0, .int .i64 0, .int .i64 0, .int .i64 0] (by kernel_rfl) (by kernel_rfl) _ _ T7.out (by kernel_rfl) rfl (by simp [Value.oneCell']) ?_)
      refine bodyPost_ret (results_cell_slot (by rfl) _ _ T _ _ _ _ (.int .i64 2) (by kernel_rfl) (by kernel_rfl) (setRow_heap _ _ _ _ _ _ T7.out) Try.underlying28 rfl (by kernel_rfl)) rfl ⟨by rw [HRF.out]; rfl, F7.out.setRow _ _ (by have := HTT.out; omega)⟩
    have HV : Hid (Rc.val ⟨n0, n1, n2, n3, n4, t, Sp.zero⟩ = .agg #[.int .i64 n0, .int .i64 n1, .int .i64 n2, .int .i64 n3, .int .i64 n4, .string t, .int .i64 0, .int .i64 0, .int .i64 0, .int .i64 0, .int .i64 0, .int .i64 0, .int .i64 0, .int .i64 0, .int .i64 0, .int .i64 0, .int .i64 0, .int .i64 0]) := rfl
    go_wp2_with (refine wpList_load_row_w (by kernel_rfl) 28 (.tmp 5) (by with_reducible rfl) R (by kernel_rfl) _ _ _ _ H7.out Try.underlying28 rfl (by kernel_rfl) ?_)
    rw [← HV.out]
    refine (right_calls ⟨n0, n1, n2, n3, n4, t, Sp.zero⟩ _).mono ?_
    rintro _ wz ⟨rfl, hf⟩
    obtain ⟨y, HYB⟩ : ∃ y, Hid (rightB ⟨n0, n1, n2, n3, n4, t, Sp.zero⟩ = y) := ⟨_, rfl⟩
    rw [HYB.out, HV.out]
    have HZ := hid (hf.heap H7.out (fun h => h))
    have TZ := hid (hf.heap T7.out (fun h => h))
    have FZ := hid (F7.out.then0 hf)
    clear hf
    have HXX := hid hx
    clear hx
    cases y
    case false =>
      have HRF : Hid (readF l = (Rc.zero, 2)) := hid (by unfold readF; rw [HX6.out]; simp only []; rw [HYB.out, if_neg (fun h => by cases h.2)])
      go_wp2_with (refine wpList_store_row rfl 28 (.tmp 2) (.tmp 47) (by with_reducible rfl) T #[.int .i64 0, .int .i64 0, .int .i64 0, .int .i64 0, .int .i64 0, .string ⟨#[]⟩, .int .i64 0, .int .i64 0, .int .i64 0, .int .i64 0, .int .i64 0, .int .i64 0, .int .i64 0, .int .i64 0, .int .i64 0, .int .i64 0, .int .i64 0, .int .i64 0] (by kernel_rfl) (by kernel_rfl) _ _ TZ.out (by kernel_rfl) rfl (by simp [Value.oneCell']) ?_)
      refine bodyPost_ret (results_cell_slot (by rfl) _ _ T _ _ _ _ (.int .i64 2) (by kernel_rfl) (by kernel_rfl) (setRow_heap _ _ _ _ _ _ TZ.out) Try.underlying28 rfl (by kernel_rfl)) rfl ⟨by rw [HRF.out]; rfl, FZ.out.setRow _ _ (by have := HTT.out; omega)⟩
    case true =>
      have HRF : Hid (readF l = (⟨n0, n1, n2, n3, n4, t, Sp.zero⟩, 0)) := hid (by unfold readF; rw [HX6.out]; simp only []; rw [HXE.out, HYB.out, if_pos ⟨HXX.out, rfl⟩])
      go_wp2_with (first | (refine wpList_load_row rfl 28 (.tmp 5) (by with_reducible rfl) R (by kernel_rfl) _ _ _ _ HZ.out Try.underlying28 rfl (by kernel_rfl) ?_) | (refine wpList_store_row rfl 28 (.tmp 2) (.tmp 48) (by with_reducible rfl) T #[.int .i64 n0, .int .i64 n1, .int .i64 n2, .int .i64 n3, .int .i64 n4, .string t, .int .i64 0, .int .i64 0, .int .i64 0, .int .i64 0, .int .i64 0, .int .i64 0, .int .i64 0, .int .i64 0, .int .i64 0, .int .i64 0, .int .i64 0, .int .i64 0] (by kernel_rfl) (by kernel_rfl) _ _ TZ.out (by kernel_rfl) rfl (by simp [Value.oneCell']) ?_))
      refine bodyPost_ret (results_cell_slot (by rfl) _ _ T _ _ _ _ (.int .i64 0) (by kernel_rfl) (by kernel_rfl) (setRow_heap _ _ _ _ _ _ TZ.out) Try.underlying28 rfl (by kernel_rfl)) rfl ⟨by rw [HRF.out]; rfl, FZ.out.setRow _ _ (by have := HTT.out; omega)⟩
  have HK := hid hk
  go_wp2_with fail
  obtain ⟨w8, hw⟩ : ∃ x, x = u6.setCell ⟨R, 5, none⟩ (.string t) := ⟨_, rfl⟩
  rw [← hw] at H7 T7 Q7 F7
  rw [← hw]
  clear hw hc0 hz hk0 hk
  refine (rlist_u rb l7 e7 _ Q7.out).mono ?_
  rintro _ u7 ⟨vs, rfl, ho, hq, hf⟩
  obtain ⟨l8, HL8⟩ : ∃ x, Hid (x = (listE l7 e7).2.1) := ⟨_, rfl⟩
  obtain ⟨e8, HE8⟩ : ∃ x, Hid (x = (listE l7 e7).2.2) := ⟨_, rfl⟩
  obtain ⟨ls, HLS⟩ : ∃ x, Hid (x = (listE l7 e7).1) := ⟨_, rfl⟩
  rw [← HL8.out, ← HE8.out] at hq
  rw [← HLS.out] at ho
  have hlen : ls.length ≤ 64 := by rw [HLS.out]; exact listE_len _ _
  have hh := hf.heap H7.out (by show ¬ R = rb; omega)
  have ht := hf.heap T7.out (by show ¬ T = rb; omega)
  have hF := F7.out.trans hf (fun b hb e => by have e' : b = rb := e; have := HTT.out; omega)
  have HO := hid (Rd.ofOwns ho)
  have HH := hid hh
  have HTx := hid ht
  have HQ := hid hq
  have HF := hid hF
  clear hh ht hf H7 T7 Q7 F7 hq hF ho
  go_wp2_with fail
  refine (make_u vs ls _ HO.out (by omega)).mono ?_
  rintro _ u8 ⟨er, rfl, hf⟩
  obtain ⟨P, HP⟩ : ∃ x, Hid (x = mkSp ls) := ⟨_, rfl⟩
  rw [← HP.out]
  have HPV : Hid (P.val = .agg #[.int .i64 P.s0, .int .i64 P.s1, .int .i64 P.s2, .int .i64 P.s3, .int .i64 P.s4, .int .i64 P.s5, .int .i64 P.s6, .int .i64 P.s7, .int .i64 P.s8, .int .i64 P.s9, .int .i64 P.s10, .int .i64 P.s11]) := rfl
  rw [HPV.out]
  have hh := hf.heap HH.out (fun h => h)
  have H8 := hid hh
  have T8 := hid (hf.heap HTx.out (fun h => h))
  have Q8 := hid (HQ.out.frm0 hf)
  have F8 := hid (HF.out.then0 hf)
  clear hf hh HH HTx HQ HF HO hlen
  go_wp2_with (refine wpList_store_at (by kernel_rfl) 26 (.tmp 38) (.tmp 36) (by with_reducible rfl) R 6 (by kernel_rfl) #[.int .i64 P.s0, .int .i64 P.s1, .int .i64 P.s2, .int .i64 P.s3, .int .i64 P.s4, .int .i64 P.s5, .int .i64 P.s6, .int .i64 P.s7, .int .i64 P.s8, .int .i64 P.s9, .int .i64 P.s10, .int .i64 P.s11] (by kernel_rfl) _ _ H8.out (by kernel_rfl) (by simp) (by simp [Value.oneCell']) ?_; intro w9 hh hp; have H9 : Hid (w9.heap[R]? = some (.cells #[.int .i64 n0, .int .i64 n1, .int .i64 n2, .int .i64 n3, .int .i64 n4, .string t, .int .i64 P.s0, .int .i64 P.s1, .int .i64 P.s2, .int .i64 P.s3, .int .i64 P.s4, .int .i64 P.s5, .int .i64 P.s6, .int .i64 P.s7, .int .i64 P.s8, .int .i64 P.s9, .int .i64 P.s10, .int .i64 P.s11] 28 (0, 0))) := putL_heap hh (by kernel_rfl); have T9 := hid (hp.heap T8.out (by show ¬ T = R; omega)); have Q9 := hid (Q8.out.frmR hp (by omega)); have F9 := hid (F8.out.trans hp (fun b hb e => by have e' : b = R := e; have := HRR.out; omega)); clear hp hh H8 T8 Q8 F8)
  have HX6 : Hid (read6 l = (⟨n0, n1, n2, n3, n4, t, P⟩, l8, e8)) := hid (by unfold read6; rw [H5.out]; refine (if_pos HK.out).trans ?_; simp only []; rw [HL8.out, HE8.out, HP.out, HLS.out])
  refine (end_calls rb l8 e8 _ Q9.out).mono ?_
  rintro _ _ ⟨rfl, rfl⟩
  obtain ⟨x, HXE⟩ : ∃ x, Hid (endF l8 e8 = x) := ⟨_, rfl⟩
  rw [HXE.out]
  by_cases hx : x = 0
  case neg =>
    have HRF : Hid (readF l = (Rc.zero, 2)) := hid (by unfold readF; rw [HX6.out]; simp only []; rw [HXE.out, if_neg (fun h => hx h.1)])
    go_wp2_with (refine wpList_store_row rfl 28 (.tmp 2) (.tmp 47) (by with_reducible rfl) T #[.int .i64 0, .int .i64 0, .int .i64 0, .int .i64 0, .int .i64 0, .string ⟨#[]⟩, .int .i64 0, .int .i64 0, .int .i64 0, .int .i64 0, .int .i64 0, .int .i64 0, .int .i64 0, .int .i64 0, .int .i64 0, .int .i64 0, .int .i64 0, .int .i64 0] (by kernel_rfl) (by kernel_rfl) _ _ T9.out (by kernel_rfl) rfl (by simp [Value.oneCell']) ?_)
    refine bodyPost_ret (results_cell_slot (by rfl) _ _ T _ _ _ _ (.int .i64 2) (by kernel_rfl) (by kernel_rfl) (setRow_heap _ _ _ _ _ _ T9.out) Try.underlying28 rfl (by kernel_rfl)) rfl ⟨by rw [HRF.out]; rfl, F9.out.setRow _ _ (by have := HTT.out; omega)⟩
  have HV : Hid (Rc.val ⟨n0, n1, n2, n3, n4, t, P⟩ = .agg #[.int .i64 n0, .int .i64 n1, .int .i64 n2, .int .i64 n3, .int .i64 n4, .string t, .int .i64 P.s0, .int .i64 P.s1, .int .i64 P.s2, .int .i64 P.s3, .int .i64 P.s4, .int .i64 P.s5, .int .i64 P.s6, .int .i64 P.s7, .int .i64 P.s8, .int .i64 P.s9, .int .i64 P.s10, .int .i64 P.s11]) := rfl
  go_wp2_with (refine wpList_load_row_w (by kernel_rfl) 28 (.tmp 5) (by with_reducible rfl) R (by kernel_rfl) _ _ _ _ H9.out Try.underlying28 rfl (by kernel_rfl) ?_)
  rw [← HV.out]
  refine (right_calls ⟨n0, n1, n2, n3, n4, t, P⟩ _).mono ?_
  rintro _ wz ⟨rfl, hf⟩
  obtain ⟨y, HYB⟩ : ∃ y, Hid (rightB ⟨n0, n1, n2, n3, n4, t, P⟩ = y) := ⟨_, rfl⟩
  rw [HYB.out, HV.out]
  have HZ := hid (hf.heap H9.out (fun h => h))
  have TZ := hid (hf.heap T9.out (fun h => h))
  have FZ := hid (F9.out.then0 hf)
  clear hf
  have HXX := hid hx
  clear hx
  cases y
  case false =>
    have HRF : Hid (readF l = (Rc.zero, 2)) := hid (by unfold readF; rw [HX6.out]; simp only []; rw [HYB.out, if_neg (fun h => by cases h.2)])
    go_wp2_with (refine wpList_store_row rfl 28 (.tmp 2) (.tmp 47) (by with_reducible rfl) T #[.int .i64 0, .int .i64 0, .int .i64 0, .int .i64 0, .int .i64 0, .string ⟨#[]⟩, .int .i64 0, .int .i64 0, .int .i64 0, .int .i64 0, .int .i64 0, .int .i64 0, .int .i64 0, .int .i64 0, .int .i64 0, .int .i64 0, .int .i64 0, .int .i64 0] (by kernel_rfl) (by kernel_rfl) _ _ TZ.out (by kernel_rfl) rfl (by simp [Value.oneCell']) ?_)
    refine bodyPost_ret (results_cell_slot (by rfl) _ _ T _ _ _ _ (.int .i64 2) (by kernel_rfl) (by kernel_rfl) (setRow_heap _ _ _ _ _ _ TZ.out) Try.underlying28 rfl (by kernel_rfl)) rfl ⟨by rw [HRF.out]; rfl, FZ.out.setRow _ _ (by have := HTT.out; omega)⟩
  case true =>
    have HRF : Hid (readF l = (⟨n0, n1, n2, n3, n4, t, P⟩, 0)) := hid (by unfold readF; rw [HX6.out]; simp only []; rw [HXE.out, HYB.out, if_pos ⟨HXX.out, rfl⟩])
    go_wp2_with (first | (refine wpList_load_row rfl 28 (.tmp 5) (by with_reducible rfl) R (by kernel_rfl) _ _ _ _ HZ.out Try.underlying28 rfl (by kernel_rfl) ?_) | (refine wpList_store_row rfl 28 (.tmp 2) (.tmp 48) (by with_reducible rfl) T #[.int .i64 n0, .int .i64 n1, .int .i64 n2, .int .i64 n3, .int .i64 n4, .string t, .int .i64 P.s0, .int .i64 P.s1, .int .i64 P.s2, .int .i64 P.s3, .int .i64 P.s4, .int .i64 P.s5, .int .i64 P.s6, .int .i64 P.s7, .int .i64 P.s8, .int .i64 P.s9, .int .i64 P.s10, .int .i64 P.s11] (by kernel_rfl) (by kernel_rfl) _ _ TZ.out (by kernel_rfl) rfl (by simp [Value.oneCell']) ?_))
    refine bodyPost_ret (results_cell_slot (by rfl) _ _ T _ _ _ _ (.int .i64 0) (by kernel_rfl) (by kernel_rfl) (setRow_heap _ _ _ _ _ _ TZ.out) Try.underlying28 rfl (by kernel_rfl)) rfl ⟨by rw [HRF.out]; rfl, FZ.out.setRow _ _ (by have := HTT.out; omega)⟩
end Go.Proofs.Ytinbidmgllmglaa
