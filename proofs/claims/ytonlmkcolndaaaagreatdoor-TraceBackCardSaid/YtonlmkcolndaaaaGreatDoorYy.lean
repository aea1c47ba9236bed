/- TraceBack: the walk of the law, for every step. No condition. -/
import Derived.Test.YtonlmkcolndaaaaGreatDoorYx
namespace Go.Proofs.YtonlmkcolndaaaaGreatDoor
set_option linter.unusedVariables false
set_option linter.unusedSimpArgs false
set_option maxRecDepth 20000
open Go.RowKit

theorem modU (x n : Int) (h0 : 0 < n) (h1 : n ≤ 100) : wrap64 ((IntKind.u64.wrap x).tmod n) = (x % 18446744073709551616) % n := by
  have h : IntKind.u64.wrap x = x % 18446744073709551616 := by simp [IntKind.wrap, IntKind.bits, IntKind.signed]
  rw [h, Int.tmod_eq_emod_of_nonneg (by omega)]
  have h2 := Int.emod_nonneg (x % 18446744073709551616) (show n ≠ 0 by omega)
  have h3 := Int.emod_lt_of_pos (x % 18446744073709551616) h0
  unfold wrap64
  omega
/-- The step that the law makes of one. -/
def backO (o : Ot) : Ot :=
  if (o.d % 18446744073709551616) % 4 = 1 then ⟨1, 0, goodR o.r, Mg.zero⟩
  else if (o.d % 18446744073709551616) % 4 = 0 then ⟨0, (o.e % 18446744073709551616) % 14, Rc.zero, Mg.zero⟩
  else ⟨(o.d % 18446744073709551616) % 4, (o.e % 18446744073709551616) % 14, Rc.zero, o.m.good⟩
theorem back_line (o : Ot) : lineB (backO o) = true ∧ ((backO o).d = 1 → (backO o).r.small) ∧ (backO o).r.fine ∧ (lineS (backO o)).size ≤ 90000 := by
  have hE : 0 ≤ (o.e % 18446744073709551616) % 14 ∧ (o.e % 18446744073709551616) % 14 ≤ 13 := by omega
  have hD : 0 ≤ (o.d % 18446744073709551616) % 4 ∧ (o.d % 18446744073709551616) % 4 ≤ 3 := by omega
  have hsz : ∀ x : Ot, lineB x = true → (moreS x).size ≤ 5000 → (lineS x).size ≤ 90000 := by
    intro x hx hm
    obtain ⟨hd, he, _⟩ := lineB_iff.1 hx
    rw [line_app hx]
    simp only [ByteArray.size_append]
    have e1 : (⟨#[32]⟩ : ByteArray).size = 1 := rfl
    obtain ⟨k, hk⟩ : ∃ k : Nat, x.d = k := ⟨x.d.toNat, by omega⟩
    obtain ⟨j, hj⟩ : ∃ k : Nat, x.e = k := ⟨x.e.toNat, by omega⟩
    have h1 := did_sz_fin ⟨k, by omega⟩
    have h2 := (err_ne_fin ⟨j, by omega⟩).2
    rw [hk, hj]
    simp only [] at h1 h2
    omega
  unfold backO
  split
  · have hb : lineB ⟨1, 0, goodR o.r, Mg.zero⟩ = true := by
      rw [lineB_iff]
      refine ⟨by simp only []; omega, by simp only []; omega, ?_⟩
      show (!(wordsS (goodR o.r)).toList.isEmpty && (decide ((0 : Int) = 0) && meq Mg.zero Mg.zero)) = true
      rw [words_some (good_right o.r)]; rfl
    refine ⟨hb, fun _ => good_small o.r, right_fine (good_right o.r), hsz _ hb ?_⟩
    show (⟨#[32]⟩ ++ wordsS (goodR o.r) : ByteArray).size ≤ 5000
    rw [ByteArray.size_append]
    have := words_le2 (good_right o.r)
    have e1 : (⟨#[32]⟩ : ByteArray).size = 1 := rfl
    omega
  · split
    · have hb : lineB ⟨0, (o.e % 18446744073709551616) % 14, Rc.zero, Mg.zero⟩ = true := by
        rw [lineB_iff]
        refine ⟨by simp only []; omega, hE, ?_⟩
        show (req Rc.zero Rc.zero && meq Mg.zero Mg.zero) = true
        rw [show req Rc.zero Rc.zero = true from req_iff2.2 rfl, show meq Mg.zero Mg.zero = true from meq_iff.2 rfl]; rfl
      refine ⟨hb, fun h => absurd (show (0 : Int) = 1 from h) (by decide), rc_zero_fine, hsz _ hb ?_⟩
      show (⟨#[]⟩ : ByteArray).size ≤ 5000
      decide
    · rename_i h1 h0
      have hb : lineB ⟨(o.d % 18446744073709551616) % 4, (o.e % 18446744073709551616) % 14, Rc.zero, o.m.good⟩ = true := by
        rw [lineB_iff]
        refine ⟨hD, hE, ?_⟩
        unfold moreB
        simp only [h0, h1, if_false]
        rw [msg_some (good14_right o.m), show req Rc.zero Rc.zero = true from req_iff2.2 rfl]; rfl
      refine ⟨hb, fun h => absurd h h1, rc_zero_fine, hsz _ hb ?_⟩
      unfold moreS
      simp only [h0, h1, if_false]
      rw [ByteArray.size_append]
      have := msgS_le2 o.m.good
      have e1 : (⟨#[32]⟩ : ByteArray).size = 1 := rfl
      omega

set_option maxRecDepth 20000 in
set_option maxHeartbeats 16000000 in
attribute [-go_sem] run_eql_struct in
attribute [local go_sem] eql_out in
theorem traceBack_walk (W : World) (hg : Glob W) (o : Ot) (hok : o.ok) :
    Calls Tryz.prog 5 #[o.val] W fun y w' => y = .returned (.bool true) ∧ Below W.heap.size W w' := by
  have hts : o.r.t.size ≤ 9223372036854775807 := hok.2.2.1.2.1
  have HG := hid hg
  obtain ⟨X, HX⟩ : ∃ X, Hid (backO o = X) := ⟨_, rfl⟩
  have HBL := back_line o
  rw [HX.out] at HBL
  have HBL := hid HBL
  obtain ⟨y, HY⟩ : ∃ y, Hid (lineS X = y) := ⟨_, rfl⟩
  have HYS : Hid (y.size ≤ 90000) := hid (by rw [← HY.out]; exact HBL.out.2.2.2)
  have HYE : Hid (y.toList.isEmpty = false) := hid (by rw [← HY.out]; exact line_some HBL.out.1)
  have HPB : Hid (parF y = (X, 0)) := hid (by rw [← HY.out]; exact parF_back HBL.out.1 HBL.out.2.1)
  have HVo : Hid (o.val = .agg #[.int .i64 o.d, .int .i64 o.e, .int .i64 o.r.k, .int .i64 o.r.e, .int .i64 o.r.w, .int .i64 o.r.n, .int .i64 o.r.q, .string o.r.t, .int .i64 o.r.p.s0, .int .i64 o.r.p.s1, .int .i64 o.r.p.s2, .int .i64 o.r.p.s3, .int .i64 o.r.p.s4, .int .i64 o.r.p.s5, .int .i64 o.r.p.s6, .int .i64 o.r.p.s7, .int .i64 o.r.p.s8, .int .i64 o.r.p.s9, .int .i64 o.r.p.s10, .int .i64 o.r.p.s11, .int .i64 o.m.k, .int .i64 o.m.e, .int .i64 o.m.s, .int .i64 o.m.u, .int .i64 o.m.v, .int .i64 o.m.t]) := rfl
  have HVX : Hid (X.val = .agg #[.int .i64 X.d, .int .i64 X.e, .int .i64 X.r.k, .int .i64 X.r.e, .int .i64 X.r.w, .int .i64 X.r.n, .int .i64 X.r.q, .string X.r.t, .int .i64 X.r.p.s0, .int .i64 X.r.p.s1, .int .i64 X.r.p.s2, .int .i64 X.r.p.s3, .int .i64 X.r.p.s4, .int .i64 X.r.p.s5, .int .i64 X.r.p.s6, .int .i64 X.r.p.s7, .int .i64 X.r.p.s8, .int .i64 X.r.p.s9, .int .i64 X.r.p.s10, .int .i64 X.r.p.s11, .int .i64 X.m.k, .int .i64 X.m.e, .int .i64 X.m.s, .int .i64 X.m.u, .int .i64 X.m.v, .int .i64 X.m.t]) := rfl
  have HVr : Hid (o.r.val = .agg #[.int .i64 o.r.k, .int .i64 o.r.e, .int .i64 o.r.w, .int .i64 o.r.n, .int .i64 o.r.q, .string o.r.t, .int .i64 o.r.p.s0, .int .i64 o.r.p.s1, .int .i64 o.r.p.s2, .int .i64 o.r.p.s3, .int .i64 o.r.p.s4, .int .i64 o.r.p.s5, .int .i64 o.r.p.s6, .int .i64 o.r.p.s7, .int .i64 o.r.p.s8, .int .i64 o.r.p.s9, .int .i64 o.r.p.s10, .int .i64 o.r.p.s11]) := rfl
  have HVm : Hid (o.m.val = .agg #[.int .i64 o.m.k, .int .i64 o.m.e, .int .i64 o.m.s, .int .i64 o.m.u, .int .i64 o.m.v, .int .i64 o.m.t]) := rfl
  obtain ⟨D, hD⟩ : ∃ D, D = (o.d % 18446744073709551616) % 4 := ⟨_, rfl⟩
  obtain ⟨E, hE⟩ : ∃ E, E = (o.e % 18446744073709551616) % 14 := ⟨_, rfl⟩
  obtain ⟨g, HGg⟩ : ∃ g, Hid (goodR o.r = g) := ⟨_, rfl⟩
  obtain ⟨x, HGx⟩ : ∃ x, Hid (o.m.good = x) := ⟨_, rfl⟩
  have m1 : wrap64 ((IntKind.u64.wrap o.d).tmod 4) = D := by rw [hD]; exact modU _ _ (by omega) (by omega)
  have m2 : wrap64 ((IntKind.u64.wrap o.e).tmod 14) = E := by rw [hE]; exact modU _ _ (by omega) (by omega)
  have HDD : Hid (0 ≤ D ∧ D ≤ 3) := hid (by omega)
  have HXX : Hid (X = if D = 1 then ⟨1, 0, g, Mg.zero⟩ else if D = 0 then ⟨0, E, Rc.zero, Mg.zero⟩ else ⟨D, E, Rc.zero, x⟩) := hid (by
    rw [← HX.out]; unfold backO; rw [← hD, ← hE, HGg.out, HGx.out])
  have HC24 : Hid (∀ wx, Calls Tryz.prog 24 #[.agg #[.int .i64 o.r.k, .int .i64 o.r.e, .int .i64 o.r.w, .int .i64 o.r.n, .int .i64 o.r.q, .string o.r.t, .int .i64 o.r.p.s0, .int .i64 o.r.p.s1, .int .i64 o.r.p.s2, .int .i64 o.r.p.s3, .int .i64 o.r.p.s4, .int .i64 o.r.p.s5, .int .i64 o.r.p.s6, .int .i64 o.r.p.s7, .int .i64 o.r.p.s8, .int .i64 o.r.p.s9, .int .i64 o.r.p.s10, .int .i64 o.r.p.s11]] wx fun y w' => y = .returned (.agg #[.int .i64 g.k, .int .i64 g.e, .int .i64 g.w, .int .i64 g.n, .int .i64 g.q, .string g.t, .int .i64 g.p.s0, .int .i64 g.p.s1, .int .i64 g.p.s2, .int .i64 g.p.s3, .int .i64 g.p.s4, .int .i64 g.p.s5, .int .i64 g.p.s6, .int .i64 g.p.s7, .int .i64 g.p.s8, .int .i64 g.p.s9, .int .i64 g.p.s10, .int .i64 g.p.s11]) ∧ Frm M0 wx w') := hid (fun wx => by
    have h := rgood_calls o.r wx hts
    rw [HGg.out] at h; exact h)
  have HC25 : Hid (∀ wx, Calls Tryz.prog 25 #[.agg #[.int .i64 o.m.k, .int .i64 o.m.e, .int .i64 o.m.s, .int .i64 o.m.u, .int .i64 o.m.v, .int .i64 o.m.t]] wx fun y w' => y = .returned (.agg #[.int .i64 x.k, .int .i64 x.e, .int .i64 x.s, .int .i64 x.u, .int .i64 x.v, .int .i64 x.t]) ∧ Frm M0 wx w') := hid (fun wx => by
    have h := good14_calls o.m wx
    rw [HGx.out] at h; exact h)
  rw [HVo.out]
  clear hts hg hok hD hE HGg HGx HX
  go_enter Tryz.func5, Tryz.ntmps5
  go_wp2_with fail
  refine (tlives_calls _ (HG.out.frm ((Frm.refl M0 W).alloc _))).mono ?_
  rintro _ w1 ⟨rfl, hf⟩
  obtain ⟨b1, hb1⟩ : ∃ x, x = W.heap.size := ⟨_, rfl⟩
  have S1 : Hid (Sb M0 w1 fun q => Frm M0 W q ∧ q.heap[b1]? = some (.cells #[.int .i64 o.d, .int .i64 o.e, .int .i64 o.r.k, .int .i64 o.r.e, .int .i64 o.r.w, .int .i64 o.r.n, .int .i64 o.r.q, .string o.r.t, .int .i64 o.r.p.s0, .int .i64 o.r.p.s1, .int .i64 o.r.p.s2, .int .i64 o.r.p.s3, .int .i64 o.r.p.s4, .int .i64 o.r.p.s5, .int .i64 o.r.p.s6, .int .i64 o.r.p.s7, .int .i64 o.r.p.s8, .int .i64 o.r.p.s9, .int .i64 o.r.p.s10, .int .i64 o.r.p.s11, .int .i64 o.m.k, .int .i64 o.m.e, .int .i64 o.m.s, .int .i64 o.m.u, .int .i64 o.m.v, .int .i64 o.m.t] 31 (0, 0))) := hid fun wx hx => by
    rw [hb1]
    exact ⟨(((Frm.refl M0 W).alloc _).then0 hf).then0 hx, (hf.same hx).heap (new1 W (.cells #[.int .i64 o.d, .int .i64 o.e, .int .i64 o.r.k, .int .i64 o.r.e, .int .i64 o.r.w, .int .i64 o.r.n, .int .i64 o.r.q, .string o.r.t, .int .i64 o.r.p.s0, .int .i64 o.r.p.s1, .int .i64 o.r.p.s2, .int .i64 o.r.p.s3, .int .i64 o.r.p.s4, .int .i64 o.r.p.s5, .int .i64 o.r.p.s6, .int .i64 o.r.p.s7, .int .i64 o.r.p.s8, .int .i64 o.r.p.s9, .int .i64 o.r.p.s10, .int .i64 o.r.p.s11, .int .i64 o.m.k, .int .i64 o.m.e, .int .i64 o.m.s, .int .i64 o.m.u, .int .i64 o.m.v, .int .i64 o.m.t] 31)) (fun h => h)⟩
  rw [← hb1]
  clear hf hb1
  have c0 : w1.cell? ⟨b1, 0, none⟩ = some (.int .i64 o.d) := sb_cell S1.out.now.2 0
  have c1 : w1.cell? ⟨b1, 1, none⟩ = some (.int .i64 o.e) := sb_cell S1.out.now.2 1
  have HN := hid (new1 w1 (.cells #[.int .i64 0, .int .i64 0, .int .i64 0, .int .i64 0, .int .i64 0, .int .i64 0, .int .i64 0, .string ⟨#[]⟩, .int .i64 0, .int .i64 0, .int .i64 0, .int .i64 0, .int .i64 0, .int .i64 0, .int .i64 0, .int .i64 0, .int .i64 0, .int .i64 0, .int .i64 0, .int .i64 0, .int .i64 0, .int .i64 0, .int .i64 0, .int .i64 0, .int .i64 0, .int .i64 0] 35))
  go_upto_region 4 with (refine wpList_store_row rfl 35 (.tmp 3) (.tmp 19) (by with_reducible rfl) w1.heap.size #[.int .i64 D, .int .i64 E, .int .i64 0, .int .i64 0, .int .i64 0, .int .i64 0, .int .i64 0, .string ⟨#[]⟩, .int .i64 0, .int .i64 0, .int .i64 0, .int .i64 0, .int .i64 0, .int .i64 0, .int .i64 0, .int .i64 0, .int .i64 0, .int .i64 0, .int .i64 0, .int .i64 0, .int .i64 0, .int .i64 0, .int .i64 0, .int .i64 0, .int .i64 0, .int .i64 0] (by kernel_rfl) (by kernel_rfl) _ _ HN.out (by kernel_rfl) (by rfl) (by simp [Value.oneCell']) ?_)
  have hM := setRow_heap _ w1.heap.size _ #[.int .i64 D, .int .i64 E, .int .i64 0, .int .i64 0, .int .i64 0, .int .i64 0, .int .i64 0, .string ⟨#[]⟩, .int .i64 0, .int .i64 0, .int .i64 0, .int .i64 0, .int .i64 0, .int .i64 0, .int .i64 0, .int .i64 0, .int .i64 0, .int .i64 0, .int .i64 0, .int .i64 0, .int .i64 0, .int .i64 0, .int .i64 0, .int .i64 0, .int .i64 0, .int .i64 0] _ _ HN.out
  have hfr := ((Frm.refl M0 w1).alloc (.cells #[.int .i64 0, .int .i64 0, .int .i64 0, .int .i64 0, .int .i64 0, .int .i64 0, .int .i64 0, .string ⟨#[]⟩, .int .i64 0, .int .i64 0, .int .i64 0, .int .i64 0, .int .i64 0, .int .i64 0, .int .i64 0, .int .i64 0, .int .i64 0, .int .i64 0, .int .i64 0, .int .i64 0, .int .i64 0, .int .i64 0, .int .i64 0, .int .i64 0, .int .i64 0, .int .i64 0] 35)).setRow w1.heap.size #[.int .i64 D, .int .i64 E, .int .i64 0, .int .i64 0, .int .i64 0, .int .i64 0, .int .i64 0, .string ⟨#[]⟩, .int .i64 0, .int .i64 0, .int .i64 0, .int .i64 0, .int .i64 0, .int .i64 0, .int .i64 0, .int .i64 0, .int .i64 0, .int .i64 0, .int .i64 0, .int .i64 0, .int .i64 0, .int .i64 0, .int .i64 0, .int .i64 0, .int .i64 0, .int .i64 0] (Nat.le_refl _)
  obtain ⟨b3, hb3⟩ : ∃ qq, qq = w1.heap.size := ⟨_, rfl⟩
  obtain ⟨w2, hw2⟩ : ∃ qq, qq = (w1.alloc (.cells #[.int .i64 0, .int .i64 0, .int .i64 0, .int .i64 0, .int .i64 0, .int .i64 0, .int .i64 0, .string ⟨#[]⟩, .int .i64 0, .int .i64 0, .int .i64 0, .int .i64 0, .int .i64 0, .int .i64 0, .int .i64 0, .int .i64 0, .int .i64 0, .int .i64 0, .int .i64 0, .int .i64 0, .int .i64 0, .int .i64 0, .int .i64 0, .int .i64 0, .int .i64 0, .int .i64 0] 35)).setRow w1.heap.size #[.int .i64 D, .int .i64 E, .int .i64 0, .int .i64 0, .int .i64 0, .int .i64 0, .int .i64 0, .string ⟨#[]⟩, .int .i64 0, .int .i64 0, .int .i64 0, .int .i64 0, .int .i64 0, .int .i64 0, .int .i64 0, .int .i64 0, .int .i64 0, .int .i64 0, .int .i64 0, .int .i64 0, .int .i64 0, .int .i64 0, .int .i64 0, .int .i64 0, .int .i64 0, .int .i64 0] := ⟨_, rfl⟩
  rw [← hw2] at hM hfr ⊢
  rw [← hb3] at hM ⊢
  have HM2 := hid hM
  have hlt : b1 < w1.heap.size := sb_lt S1.out.now.2
  have S2 : Hid (Sb (fun j => j = b3) w2 fun q => Frm M0 W q ∧ q.heap[b1]? = some (.cells #[.int .i64 o.d, .int .i64 o.e, .int .i64 o.r.k, .int .i64 o.r.e, .int .i64 o.r.w, .int .i64 o.r.n, .int .i64 o.r.q, .string o.r.t, .int .i64 o.r.p.s0, .int .i64 o.r.p.s1, .int .i64 o.r.p.s2, .int .i64 o.r.p.s3, .int .i64 o.r.p.s4, .int .i64 o.r.p.s5, .int .i64 o.r.p.s6, .int .i64 o.r.p.s7, .int .i64 o.r.p.s8, .int .i64 o.r.p.s9, .int .i64 o.r.p.s10, .int .i64 o.r.p.s11, .int .i64 o.m.k, .int .i64 o.m.e, .int .i64 o.m.s, .int .i64 o.m.u, .int .i64 o.m.v, .int .i64 o.m.t] 31 (0, 0))) := hid fun wx hx => by
    have h := S1.out.now
    have hz := h.1.size
    exact ⟨(h.1.then0 hfr).trans hx (fun j hj e => by have h3 : j = b3 := e; omega), hx.heap (hfr.heap h.2 (fun h => h)) (by omega)⟩
  clear hw2 hM hfr hlt hb3 HN S1 c0 c1 m1 m2
  have c0 : w2.cell? ⟨b3, 0, none⟩ = some (.int .i64 D) := sb_cell HM2.out 0
  by_cases h1 : D = 1
  · have hb1 : (D == 1) = true := by simp [h1]
    have HXC : Hid (X = ⟨D, 0, g, Mg.zero⟩) := hid (by rw [HXX.out, if_pos h1, h1])
    clear h1
    have e1 : w2.cell? ⟨b3, 1, none⟩ = some (.int .i64 E) := sb_cell HM2.out 1
    have z1 : w2.frozen? ⟨b3, 1, none⟩ = false := sb_free HM2.out 1
    go_upto_region 7 with fail
    have HM3 : Hid ((w2.setCell ⟨b3, 1, none⟩ (.int .i64 0)).heap[b3]? = some (.cells #[.int .i64 D, .int .i64 0, .int .i64 0, .int .i64 0, .int .i64 0, .int .i64 0, .int .i64 0, .string ⟨#[]⟩, .int .i64 0, .int .i64 0, .int .i64 0, .int .i64 0, .int .i64 0, .int .i64 0, .int .i64 0, .int .i64 0, .int .i64 0, .int .i64 0, .int .i64 0, .int .i64 0, .int .i64 0, .int .i64 0, .int .i64 0, .int .i64 0, .int .i64 0, .int .i64 0] 35 (0, 0))) := hid (heap_set_at (o := 1) HM2.out (.int .i64 0))
    have S3 := hid (S2.out.put b3 1 (.int .i64 0) rfl)
    obtain ⟨w3, hw3⟩ : ∃ qq, qq = w2.setCell ⟨b3, 1, none⟩ (.int .i64 0) := ⟨_, rfl⟩
    rw [← hw3] at HM3 S3 ⊢
    clear hw3 e1 z1 c0 S2 HM2
    go_wp2_with (refine wpList_load_at (by kernel_rfl) 27 (.tmp 25) (by with_reducible rfl) b1 2 (by kernel_rfl) _ _ _ S3.out.now.2 #[.int .i64 o.r.k, .int .i64 o.r.e, .int .i64 o.r.w, .int .i64 o.r.n, .int .i64 o.r.q, .string o.r.t, .int .i64 o.r.p.s0, .int .i64 o.r.p.s1, .int .i64 o.r.p.s2, .int .i64 o.r.p.s3, .int .i64 o.r.p.s4, .int .i64 o.r.p.s5, .int .i64 o.r.p.s6, .int .i64 o.r.p.s7, .int .i64 o.r.p.s8, .int .i64 o.r.p.s9, .int .i64 o.r.p.s10, .int .i64 o.r.p.s11] (by rfl) (by simp) _ Tryz.underlying27 rfl (by kernel_rfl) ?_)
    refine (HC24.out _).mono ?_
    rintro _ w4 ⟨rfl, hf⟩
    have S4 := hid (S3.out.step hf)
    have HM4 := hid (hf.heap HM3.out (fun h => h))
    clear hf S3 HM3 hb1
    go_upto_region 11 with (refine wpList_store_at (by kernel_rfl) 27 (.tmp 28) (.tmp 27) (by with_reducible rfl) b3 2 (by kernel_rfl) #[.int .i64 g.k, .int .i64 g.e, .int .i64 g.w, .int .i64 g.n, .int .i64 g.q, .string g.t, .int .i64 g.p.s0, .int .i64 g.p.s1, .int .i64 g.p.s2, .int .i64 g.p.s3, .int .i64 g.p.s4, .int .i64 g.p.s5, .int .i64 g.p.s6, .int .i64 g.p.s7, .int .i64 g.p.s8, .int .i64 g.p.s9, .int .i64 g.p.s10, .int .i64 g.p.s11] (by kernel_rfl) _ _ HM4.out (by kernel_rfl) (by simp) (by simp [Value.oneCell']) ?_; intro w5 hh hp; have HM5 : Hid (w5.heap[b3]? = some (.cells #[.int .i64 D, .int .i64 0, .int .i64 g.k, .int .i64 g.e, .int .i64 g.w, .int .i64 g.n, .int .i64 g.q, .string g.t, .int .i64 g.p.s0, .int .i64 g.p.s1, .int .i64 g.p.s2, .int .i64 g.p.s3, .int .i64 g.p.s4, .int .i64 g.p.s5, .int .i64 g.p.s6, .int .i64 g.p.s7, .int .i64 g.p.s8, .int .i64 g.p.s9, .int .i64 g.p.s10, .int .i64 g.p.s11, .int .i64 0, .int .i64 0, .int .i64 0, .int .i64 0, .int .i64 0, .int .i64 0] 35 (0, 0))) := putL_heap hh (by kernel_rfl); have HP5 := hid hp; clear hh hp)
    have S5 := hid (S4.out.stepX HP5.out)
    clear HP5 S4 HM4
    have HMC : Hid (w5.heap[b3]? = some (.cells #[.int .i64 X.d, .int .i64 X.e, .int .i64 X.r.k, .int .i64 X.r.e, .int .i64 X.r.w, .int .i64 X.r.n, .int .i64 X.r.q, .string X.r.t, .int .i64 X.r.p.s0, .int .i64 X.r.p.s1, .int .i64 X.r.p.s2, .int .i64 X.r.p.s3, .int .i64 X.r.p.s4, .int .i64 X.r.p.s5, .int .i64 X.r.p.s6, .int .i64 X.r.p.s7, .int .i64 X.r.p.s8, .int .i64 X.r.p.s9, .int .i64 X.r.p.s10, .int .i64 X.r.p.s11, .int .i64 X.m.k, .int .i64 X.m.e, .int .i64 X.m.s, .int .i64 X.m.u, .int .i64 X.m.v, .int .i64 X.m.t] 35 (0, 0))) := hid (by rw [HXC.out]; exact HM5.out)
    have SA : Hid (Sb M0 w5 fun q => Frm M0 W q ∧ q.heap[b3]? = some (.cells #[.int .i64 X.d, .int .i64 X.e, .int .i64 X.r.k, .int .i64 X.r.e, .int .i64 X.r.w, .int .i64 X.r.n, .int .i64 X.r.q, .string X.r.t, .int .i64 X.r.p.s0, .int .i64 X.r.p.s1, .int .i64 X.r.p.s2, .int .i64 X.r.p.s3, .int .i64 X.r.p.s4, .int .i64 X.r.p.s5, .int .i64 X.r.p.s6, .int .i64 X.r.p.s7, .int .i64 X.r.p.s8, .int .i64 X.r.p.s9, .int .i64 X.r.p.s10, .int .i64 X.r.p.s11, .int .i64 X.m.k, .int .i64 X.m.e, .int .i64 X.m.s, .int .i64 X.m.u, .int .i64 X.m.v, .int .i64 X.m.t] 35 (0, 0))) := hid ((Sb.frm S5.out.now.1).and (Sb.heap HMC.out (fun h => h)))
    clear HM5 HXC HXX HMC S5
    go_wp2_with (refine wpList_load_row_w (by kernel_rfl) 35 (.tmp 3) (by with_reducible rfl) b3 (by kernel_rfl) _ _ _ _ SA.out.now.2 Tryz.underlying35 rfl (by kernel_rfl) ?_)
    rw [← HVX.out]
    refine (tline_calls X _ (HG.out.frm SA.out.now.1).tab HBL.out.2.2.1).mono ?_
    rintro _ w6 ⟨rfl, hf⟩
    rw [HY.out]
    have SB := hid (SA.out.step hf)
    clear hf SA
    go_wp2_with fail
    refine (tparse_calls y _ HYS.out (HG.out.frm SB.out.now.1)).mono ?_
    rintro _ w7 ⟨rfl, hf⟩
    rw [HPB.out]
    simp only []
    rw [HVX.out]
    have SC := hid (SB.out.step hf)
    clear hf SB
    have HZb := hid (new1 w7 (.cells #[.int .i64 0, .int .i64 0, .int .i64 0, .int .i64 0, .int .i64 0, .int .i64 0, .int .i64 0, .string ⟨#[]⟩, .int .i64 0, .int .i64 0, .int .i64 0, .int .i64 0, .int .i64 0, .int .i64 0, .int .i64 0, .int .i64 0, .int .i64 0, .int .i64 0, .int .i64 0, .int .i64 0, .int .i64 0, .int .i64 0, .int .i64 0, .int .i64 0, .int .i64 0, .int .i64 0] 35))
    go_upto_region 13 with (refine wpList_store_row rfl 35 (.tmp 5) (.tmp 41) (by with_reducible rfl) w7.heap.size #[.int .i64 X.d, .int .i64 X.e, .int .i64 X.r.k, .int .i64 X.r.e, .int .i64 X.r.w, .int .i64 X.r.n, .int .i64 X.r.q, .string X.r.t, .int .i64 X.r.p.s0, .int .i64 X.r.p.s1, .int .i64 X.r.p.s2, .int .i64 X.r.p.s3, .int .i64 X.r.p.s4, .int .i64 X.r.p.s5, .int .i64 X.r.p.s6, .int .i64 X.r.p.s7, .int .i64 X.r.p.s8, .int .i64 X.r.p.s9, .int .i64 X.r.p.s10, .int .i64 X.r.p.s11, .int .i64 X.m.k, .int .i64 X.m.e, .int .i64 X.m.s, .int .i64 X.m.u, .int .i64 X.m.v, .int .i64 X.m.t] (by kernel_rfl) (by kernel_rfl) _ _ HZb.out (by kernel_rfl) (by rfl) (by simp [Value.oneCell']) ?_)
    have hfr := ((Frm.refl M0 w7).alloc (.cells #[.int .i64 0, .int .i64 0, .int .i64 0, .int .i64 0, .int .i64 0, .int .i64 0, .int .i64 0, .string ⟨#[]⟩, .int .i64 0, .int .i64 0, .int .i64 0, .int .i64 0, .int .i64 0, .int .i64 0, .int .i64 0, .int .i64 0, .int .i64 0, .int .i64 0, .int .i64 0, .int .i64 0, .int .i64 0, .int .i64 0, .int .i64 0, .int .i64 0, .int .i64 0, .int .i64 0] 35)).setRow w7.heap.size #[.int .i64 X.d, .int .i64 X.e, .int .i64 X.r.k, .int .i64 X.r.e, .int .i64 X.r.w, .int .i64 X.r.n, .int .i64 X.r.q, .string X.r.t, .int .i64 X.r.p.s0, .int .i64 X.r.p.s1, .int .i64 X.r.p.s2, .int .i64 X.r.p.s3, .int .i64 X.r.p.s4, .int .i64 X.r.p.s5, .int .i64 X.r.p.s6, .int .i64 X.r.p.s7, .int .i64 X.r.p.s8, .int .i64 X.r.p.s9, .int .i64 X.r.p.s10, .int .i64 X.r.p.s11, .int .i64 X.m.k, .int .i64 X.m.e, .int .i64 X.m.s, .int .i64 X.m.u, .int .i64 X.m.v, .int .i64 X.m.t] (Nat.le_refl _)
    have hPb := setRow_heap _ w7.heap.size _ #[.int .i64 X.d, .int .i64 X.e, .int .i64 X.r.k, .int .i64 X.r.e, .int .i64 X.r.w, .int .i64 X.r.n, .int .i64 X.r.q, .string X.r.t, .int .i64 X.r.p.s0, .int .i64 X.r.p.s1, .int .i64 X.r.p.s2, .int .i64 X.r.p.s3, .int .i64 X.r.p.s4, .int .i64 X.r.p.s5, .int .i64 X.r.p.s6, .int .i64 X.r.p.s7, .int .i64 X.r.p.s8, .int .i64 X.r.p.s9, .int .i64 X.r.p.s10, .int .i64 X.r.p.s11, .int .i64 X.m.k, .int .i64 X.m.e, .int .i64 X.m.s, .int .i64 X.m.u, .int .i64 X.m.v, .int .i64 X.m.t] _ _ HZb.out
    obtain ⟨b5, hblk⟩ : ∃ qq, qq = w7.heap.size := ⟨_, rfl⟩
    obtain ⟨w8, hwn⟩ : ∃ qq, qq = (w7.alloc (.cells #[.int .i64 0, .int .i64 0, .int .i64 0, .int .i64 0, .int .i64 0, .int .i64 0, .int .i64 0, .string ⟨#[]⟩, .int .i64 0, .int .i64 0, .int .i64 0, .int .i64 0, .int .i64 0, .int .i64 0, .int .i64 0, .int .i64 0, .int .i64 0, .int .i64 0, .int .i64 0, .int .i64 0, .int .i64 0, .int .i64 0, .int .i64 0, .int .i64 0, .int .i64 0, .int .i64 0] 35)).setRow w7.heap.size #[.int .i64 X.d, .int .i64 X.e, .int .i64 X.r.k, .int .i64 X.r.e, .int .i64 X.r.w, .int .i64 X.r.n, .int .i64 X.r.q, .string X.r.t, .int .i64 X.r.p.s0, .int .i64 X.r.p.s1, .int .i64 X.r.p.s2, .int .i64 X.r.p.s3, .int .i64 X.r.p.s4, .int .i64 X.r.p.s5, .int .i64 X.r.p.s6, .int .i64 X.r.p.s7, .int .i64 X.r.p.s8, .int .i64 X.r.p.s9, .int .i64 X.r.p.s10, .int .i64 X.r.p.s11, .int .i64 X.m.k, .int .i64 X.m.e, .int .i64 X.m.s, .int .i64 X.m.u, .int .i64 X.m.v, .int .i64 X.m.t] := ⟨_, rfl⟩
    rw [← hwn] at hfr hPb ⊢
    rw [← hblk] at hPb ⊢
    clear hwn hblk HZb
    have SD := hid ((SC.out.step hfr).and (Sb.heap hPb (fun h => h)))
    clear hfr hPb SC
    have hqo : oeq ⟨X.d, X.e, ⟨X.r.k, X.r.e, X.r.w, X.r.n, X.r.q, X.r.t, ⟨X.r.p.s0, X.r.p.s1, X.r.p.s2, X.r.p.s3, X.r.p.s4, X.r.p.s5, X.r.p.s6, X.r.p.s7, X.r.p.s8, X.r.p.s9, X.r.p.s10, X.r.p.s11⟩⟩, ⟨X.m.k, X.m.e, X.m.s, X.m.u, X.m.v, X.m.t⟩⟩ ⟨X.d, X.e, ⟨X.r.k, X.r.e, X.r.w, X.r.n, X.r.q, X.r.t, ⟨X.r.p.s0, X.r.p.s1, X.r.p.s2, X.r.p.s3, X.r.p.s4, X.r.p.s5, X.r.p.s6, X.r.p.s7, X.r.p.s8, X.r.p.s9, X.r.p.s10, X.r.p.s11⟩⟩, ⟨X.m.k, X.m.e, X.m.s, X.m.u, X.m.v, X.m.t⟩⟩ = true := by unfold oeq; exact decide_eq_true rfl
    have hye := HYE.out
    have hyn : (y.toList == []) = false := by
      have h := hye
      cases hl : y.toList with
      | nil => rw [hl] at h; cases h
      | cons a l => rfl
    apply wp_region_N 11 (valsL (_ :: _ :: _ :: (.agg #[.int .i64 X.d, .int .i64 X.e, .int .i64 X.r.k, .int .i64 X.r.e, .int .i64 X.r.w, .int .i64 X.r.n, .int .i64 X.r.q, .string X.r.t, .int .i64 X.r.p.s0, .int .i64 X.r.p.s1, .int .i64 X.r.p.s2, .int .i64 X.r.p.s3, .int .i64 X.r.p.s4, .int .i64 X.r.p.s5, .int .i64 X.r.p.s6, .int .i64 X.r.p.s7, .int .i64 X.r.p.s8, .int .i64 X.r.p.s9, .int .i64 X.r.p.s10, .int .i64 X.r.p.s11, .int .i64 X.m.k, .int .i64 X.m.e, .int .i64 X.m.s, .int .i64 X.m.u, .int .i64 X.m.v, .int .i64 X.m.t]) :: (.agg #[.int .i64 X.d, .int .i64 X.e, .int .i64 X.r.k, .int .i64 X.r.e, .int .i64 X.r.w, .int .i64 X.r.n, .int .i64 X.r.q, .string X.r.t, .int .i64 X.r.p.s0, .int .i64 X.r.p.s1, .int .i64 X.r.p.s2, .int .i64 X.r.p.s3, .int .i64 X.r.p.s4, .int .i64 X.r.p.s5, .int .i64 X.r.p.s6, .int .i64 X.r.p.s7, .int .i64 X.r.p.s8, .int .i64 X.r.p.s9, .int .i64 X.r.p.s10, .int .i64 X.r.p.s11, .int .i64 X.m.k, .int .i64 X.m.e, .int .i64 X.m.s, .int .i64 X.m.u, .int .i64 X.m.v, .int .i64 X.m.t]) :: _ :: _ :: _ :: _ :: _ :: _ :: [])) ?hB1 ?main1
    case hB1 => kernel_rfl
    rotate_left 9
    intro ops QT HO HQ
    obtain ⟨ho0, HO⟩ := HO
    refine wpG_v ho0.out rfl ?_ ?_
    · simp only [valsL_zero, valsL_succ]; apply FY_in rfl; intro wx hx
      go_simp
      exact ⟨rfl, rfl⟩
    simp only [Act.put, List.setIfInBounds_toArray, List.set_cons_zero, List.set_cons_succ, valsL_zero, valsL_succ]
    obtain ⟨ho1, HO⟩ := HO
    refine wpG_v ho1.out rfl ?_ ?_
    · simp only [valsL_zero, valsL_succ]; apply FY_in rfl; intro wx hx
      go_simp
      exact ⟨rfl, rfl⟩
    simp only [Act.put, List.setIfInBounds_toArray, List.set_cons_zero, List.set_cons_succ, valsL_zero, valsL_succ]
    obtain ⟨ho2, HO⟩ := HO
    refine wpG_v ho2.out rfl ?_ ?_
    · simp only [valsL_zero, valsL_succ]; apply FY_in rfl; intro wx hx
      go_simp
      exact ⟨rfl, rfl⟩
    simp only [Act.put, List.setIfInBounds_toArray, List.set_cons_zero, List.set_cons_succ, valsL_zero, valsL_succ]
    obtain ⟨ho3, HO⟩ := HO
    refine wpG_v ho3.out rfl ?_ ?_
    · simp only [valsL_zero, valsL_succ]; apply FY_yes (d := 45) rfl ho2.out (by rfl) (by kernel_rfl); intro wx hx
      exact fu_load_row_g 35 (.tmp 5) rfl (b5) (by kernel_rfl) _ _ _ _ ((SD.out wx hx).2) Tryz.underlying35 rfl (by kernel_rfl)
    simp only [Act.put, List.setIfInBounds_toArray, List.set_cons_zero, List.set_cons_succ, valsL_zero, valsL_succ]
    obtain ⟨ho4, HO⟩ := HO
    refine wpG_v ho4.out rfl ?_ ?_
    · simp only [valsL_zero, valsL_succ]; apply FY_yes (d := 45) rfl ho2.out (by rfl) (by kernel_rfl); intro wx hx
      exact fu_load_row_g 35 (.tmp 3) rfl (b3) (by kernel_rfl) _ _ _ _ ((SD.out wx hx).1.2) Tryz.underlying35 rfl (by kernel_rfl)
    simp only [Act.put, List.setIfInBounds_toArray, List.set_cons_zero, List.set_cons_succ, valsL_zero, valsL_succ]
    obtain ⟨ho5, HO⟩ := HO
    refine wpG_v ho5.out rfl ?_ ?_
    · simp only [valsL_zero, valsL_succ]; apply FY_yes (d := 45) rfl ho2.out (by rfl) (by kernel_rfl); intro wx hx
      go_simp
      exact ⟨rfl, rfl⟩
    simp only [Act.put, List.setIfInBounds_toArray, List.set_cons_zero, List.set_cons_succ, valsL_zero, valsL_succ]
    obtain ⟨ho6, HO⟩ := HO
    refine wpG_v ho6.out rfl ?_ ?_
    · simp only [valsL_zero, valsL_succ]; apply FY_in rfl; intro wx hx
      go_simp
      exact ⟨rfl, rfl⟩
    simp only [Act.put, List.setIfInBounds_toArray, List.set_cons_zero, List.set_cons_succ, valsL_zero, valsL_succ]
    obtain ⟨ho7, HO⟩ := HO
    refine wpG_v ho7.out rfl ?_ ?_
    · simp only [valsL_zero, valsL_succ]; apply FY_in rfl; intro wx hx
      go_simp
      exact ⟨rfl, rfl⟩
    simp only [Act.put, List.setIfInBounds_toArray, List.set_cons_zero, List.set_cons_succ, valsL_zero, valsL_succ]
    obtain ⟨ho8, HO⟩ := HO
    refine wpG_v ho8.out rfl ?_ ?_
    · simp only [valsL_zero, valsL_succ]; apply FY_yes (d := 50) rfl ho7.out (by rfl) (by kernel_rfl); intro wx hx
      go_simp
      exact ⟨rfl, rfl⟩
    simp only [Act.put, List.setIfInBounds_toArray, List.set_cons_zero, List.set_cons_succ, valsL_zero, valsL_succ]
    obtain ⟨ho9, HO⟩ := HO
    refine wpG_v ho9.out rfl ?_ ?_
    · simp only [valsL_zero, valsL_succ]; apply FY_yes (d := 50) rfl ho7.out (by rfl) (by kernel_rfl); intro wx hx
      go_simp
      exact ⟨rfl, rfl⟩
    simp only [Act.put, List.setIfInBounds_toArray, List.set_cons_zero, List.set_cons_succ, valsL_zero, valsL_succ]
    obtain ⟨ho10, HO⟩ := HO
    refine wpG_v ho10.out rfl ?_ ?_
    · simp only [valsL_zero, valsL_succ]; apply FY_in rfl; intro wx hx
      go_simp
      exact ⟨rfl, rfl⟩
    simp only [Act.put, List.setIfInBounds_toArray, List.set_cons_zero, List.set_cons_succ, valsL_zero, valsL_succ]
    refine HQ.out _ _ ?_
    intro wr hf
    simp only [List.drop_succ_cons, List.drop_zero]
    clear HQ HO ho0 ho1 ho2 ho3 ho4 ho5 ho6 ho7 ho8 ho9 ho10
    have SE := hid (SD.out.step hf)
    clear hf
    go_wp2_with fail
    go_ret
    exact ⟨by first | rfl | simp, SE.out.now.1.1.below⟩
  have hb1 : (D == 1) = false := by simp [h1]
  by_cases h0 : D = 0
  · have hb2 : (D == 2) = false := by simp [h0]
    have hb3' : (D == 3) = false := by simp [h0]
    have HXC : Hid (X = ⟨D, E, Rc.zero, Mg.zero⟩) := hid (by rw [HXX.out, if_neg h1, if_pos h0, h0])
    clear h1 h0
    go_upto_region 11 with fail
    obtain ⟨w5, hw5⟩ : ∃ qq, qq = w2 := ⟨_, rfl⟩
    have HM5 := HM2
    have S5 := S2
    rw [← hw5] at HM5 S5 ⊢
    clear hw5 c0 S2 HM2 hb1 hb2 hb3'
    have HMC : Hid (w5.heap[b3]? = some (.cells #[.int .i64 X.d, .int .i64 X.e, .int .i64 X.r.k, .int .i64 X.r.e, .int .i64 X.r.w, .int .i64 X.r.n, .int .i64 X.r.q, .string X.r.t, .int .i64 X.r.p.s0, .int .i64 X.r.p.s1, .int .i64 X.r.p.s2, .int .i64 X.r.p.s3, .int .i64 X.r.p.s4, .int .i64 X.r.p.s5, .int .i64 X.r.p.s6, .int .i64 X.r.p.s7, .int .i64 X.r.p.s8, .int .i64 X.r.p.s9, .int .i64 X.r.p.s10, .int .i64 X.r.p.s11, .int .i64 X.m.k, .int .i64 X.m.e, .int .i64 X.m.s, .int .i64 X.m.u, .int .i64 X.m.v, .int .i64 X.m.t] 35 (0, 0))) := hid (by rw [HXC.out]; exact HM5.out)
    have SA : Hid (Sb M0 w5 fun q => Frm M0 W q ∧ q.heap[b3]? = some (.cells #[.int .i64 X.d, .int .i64 X.e, .int .i64 X.r.k, .int .i64 X.r.e, .int .i64 X.r.w, .int .i64 X.r.n, .int .i64 X.r.q, .string X.r.t, .int .i64 X.r.p.s0, .int .i64 X.r.p.s1, .int .i64 X.r.p.s2, .int .i64 X.r.p.s3, .int .i64 X.r.p.s4, .int .i64 X.r.p.s5, .int .i64 X.r.p.s6, .int .i64 X.r.p.s7, .int .i64 X.r.p.s8, .int .i64 X.r.p.s9, .int .i64 X.r.p.s10, .int .i64 X.r.p.s11, .int .i64 X.m.k, .int .i64 X.m.e, .int .i64 X.m.s, .int .i64 X.m.u, .int .i64 X.m.v, .int .i64 X.m.t] 35 (0, 0))) := hid ((Sb.frm S5.out.now.1).and (Sb.heap HMC.out (fun h => h)))
    clear HM5 HXC HXX HMC S5
    go_wp2_with (refine wpList_load_row_w (by kernel_rfl) 35 (.tmp 3) (by with_reducible rfl) b3 (by kernel_rfl) _ _ _ _ SA.out.now.2 Tryz.underlying35 rfl (by kernel_rfl) ?_)
    rw [← HVX.out]
    refine (tline_calls X _ (HG.out.frm SA.out.now.1).tab HBL.out.2.2.1).mono ?_
    rintro _ w6 ⟨rfl, hf⟩
    rw [HY.out]
    have SB := hid (SA.out.step hf)
    clear hf SA
    go_wp2_with fail
    refine (tparse_calls y _ HYS.out (HG.out.frm SB.out.now.1)).mono ?_
    rintro _ w7 ⟨rfl, hf⟩
    rw [HPB.out]
    simp only []
    rw [HVX.out]
    have SC := hid (SB.out.step hf)
    clear hf SB
    have HZb := hid (new1 w7 (.cells #[.int .i64 0, .int .i64 0, .int .i64 0, .int .i64 0, .int .i64 0, .int .i64 0, .int .i64 0, .string ⟨#[]⟩, .int .i64 0, .int .i64 0, .int .i64 0, .int .i64 0, .int .i64 0, .int .i64 0, .int .i64 0, .int .i64 0, .int .i64 0, .int .i64 0, .int .i64 0, .int .i64 0, .int .i64 0, .int .i64 0, .int .i64 0, .int .i64 0, .int .i64 0, .int .i64 0] 35))
    go_upto_region 13 with (refine wpList_store_row rfl 35 (.tmp 5) (.tmp 41) (by with_reducible rfl) w7.heap.size #[.int .i64 X.d, .int .i64 X.e, .int .i64 X.r.k, .int .i64 X.r.e, .int .i64 X.r.w, .int .i64 X.r.n, .int .i64 X.r.q, .string X.r.t, .int .i64 X.r.p.s0, .int .i64 X.r.p.s1, .int .i64 X.r.p.s2, .int .i64 X.r.p.s3, .int .i64 X.r.p.s4, .int .i64 X.r.p.s5, .int .i64 X.r.p.s6, .int .i64 X.r.p.s7, .int .i64 X.r.p.s8, .int .i64 X.r.p.s9, .int .i64 X.r.p.s10, .int .i64 X.r.p.s11, .int .i64 X.m.k, .int .i64 X.m.e, .int .i64 X.m.s, .int .i64 X.m.u, .int .i64 X.m.v, .int .i64 X.m.t] (by kernel_rfl) (by kernel_rfl) _ _ HZb.out (by kernel_rfl) (by rfl) (by simp [Value.oneCell']) ?_)
    have hfr := ((Frm.refl M0 w7).alloc (.cells #[.int .i64 0, .int .i64 0, .int .i64 0, .int .i64 0, .int .i64 0, .int .i64 0, .int .i64 0, .string ⟨#[]⟩, .int .i64 0, .int .i64 0, .int .i64 0, .int .i64 0, .int .i64 0, .int .i64 0, .int .i64 0, .int .i64 0, .int .i64 0, .int .i64 0, .int .i64 0, .int .i64 0, .int .i64 0, .int .i64 0, .int .i64 0, .int .i64 0, .int .i64 0, .int .i64 0] 35)).setRow w7.heap.size #[.int .i64 X.d, .int .i64 X.e, .int .i64 X.r.k, .int .i64 X.r.e, .int .i64 X.r.w, .int .i64 X.r.n, .int .i64 X.r.q, .string X.r.t, .int .i64 X.r.p.s0, .int .i64 X.r.p.s1, .int .i64 X.r.p.s2, .int .i64 X.r.p.s3, .int .i64 X.r.p.s4, .int .i64 X.r.p.s5, .int .i64 X.r.p.s6, .int .i64 X.r.p.s7, .int .i64 X.r.p.s8, .int .i64 X.r.p.s9, .int .i64 X.r.p.s10, .int .i64 X.r.p.s11, .int .i64 X.m.k, .int .i64 X.m.e, .int .i64 X.m.s, .int .i64 X.m.u, .int .i64 X.m.v, .int .i64 X.m.t] (Nat.le_refl _)
    have hPb := setRow_heap _ w7.heap.size _ #[.int .i64 X.d, .int .i64 X.e, .int .i64 X.r.k, .int .i64 X.r.e, .int .i64 X.r.w, .int .i64 X.r.n, .int .i64 X.r.q, .string X.r.t, .int .i64 X.r.p.s0, .int .i64 X.r.p.s1, .int .i64 X.r.p.s2, .int .i64 X.r.p.s3, .int .i64 X.r.p.s4, .int .i64 X.r.p.s5, .int .i64 X.r.p.s6, .int .i64 X.r.p.s7, .int .i64 X.r.p.s8, .int .i64 X.r.p.s9, .int .i64 X.r.p.s10, .int .i64 X.r.p.s11, .int .i64 X.m.k, .int .i64 X.m.e, .int .i64 X.m.s, .int .i64 X.m.u, .int .i64 X.m.v, .int .i64 X.m.t] _ _ HZb.out
    obtain ⟨b5, hblk⟩ : ∃ qq, qq = w7.heap.size := ⟨_, rfl⟩
    obtain ⟨w8, hwn⟩ : ∃ qq, qq = (w7.alloc (.cells #[.int .i64 0, .int .i64 0, .int .i64 0, .int .i64 0, .int .i64 0, .int .i64 0, .int .i64 0, .string ⟨#[]⟩, .int .i64 0, .int .i64 0, .int .i64 0, .int .i64 0, .int .i64 0, .int .i64 0, .int .i64 0, .int .i64 0, .int .i64 0, .int .i64 0, .int .i64 0, .int .i64 0, .int .i64 0, .int .i64 0, .int .i64 0, .int .i64 0, .int .i64 0, .int .i64 0] 35)).setRow w7.heap.size #[.int .i64 X.d, .int .i64 X.e, .int .i64 X.r.k, .int .i64 X.r.e, .int .i64 X.r.w, .int .i64 X.r.n, .int .i64 X.r.q, .string X.r.t, .int .i64 X.r.p.s0, .int .i64 X.r.p.s1, .int .i64 X.r.p.s2, .int .i64 X.r.p.s3, .int .i64 X.r.p.s4, .int .i64 X.r.p.s5, .int .i64 X.r.p.s6, .int .i64 X.r.p.s7, .int .i64 X.r.p.s8, .int .i64 X.r.p.s9, .int .i64 X.r.p.s10, .int .i64 X.r.p.s11, .int .i64 X.m.k, .int .i64 X.m.e, .int .i64 X.m.s, .int .i64 X.m.u, .int .i64 X.m.v, .int .i64 X.m.t] := ⟨_, rfl⟩
    rw [← hwn] at hfr hPb ⊢
    rw [← hblk] at hPb ⊢
    clear hwn hblk HZb
    have SD := hid ((SC.out.step hfr).and (Sb.heap hPb (fun h => h)))
    clear hfr hPb SC
    have hqo : oeq ⟨X.d, X.e, ⟨X.r.k, X.r.e, X.r.w, X.r.n, X.r.q, X.r.t, ⟨X.r.p.s0, X.r.p.s1, X.r.p.s2, X.r.p.s3, X.r.p.s4, X.r.p.s5, X.r.p.s6, X.r.p.s7, X.r.p.s8, X.r.p.s9, X.r.p.s10, X.r.p.s11⟩⟩, ⟨X.m.k, X.m.e, X.m.s, X.m.u, X.m.v, X.m.t⟩⟩ ⟨X.d, X.e, ⟨X.r.k, X.r.e, X.r.w, X.r.n, X.r.q, X.r.t, ⟨X.r.p.s0, X.r.p.s1, X.r.p.s2, X.r.p.s3, X.r.p.s4, X.r.p.s5, X.r.p.s6, X.r.p.s7, X.r.p.s8, X.r.p.s9, X.r.p.s10, X.r.p.s11⟩⟩, ⟨X.m.k, X.m.e, X.m.s, X.m.u, X.m.v, X.m.t⟩⟩ = true := by unfold oeq; exact decide_eq_true rfl
    have hye := HYE.out
    have hyn : (y.toList == []) = false := by
      have h := hye
      cases hl : y.toList with
      | nil => rw [hl] at h; cases h
      | cons a l => rfl
    apply wp_region_N 11 (valsL (_ :: _ :: _ :: (.agg #[.int .i64 X.d, .int .i64 X.e, .int .i64 X.r.k, .int .i64 X.r.e, .int .i64 X.r.w, .int .i64 X.r.n, .int .i64 X.r.q, .string X.r.t, .int .i64 X.r.p.s0, .int .i64 X.r.p.s1, .int .i64 X.r.p.s2, .int .i64 X.r.p.s3, .int .i64 X.r.p.s4, .int .i64 X.r.p.s5, .int .i64 X.r.p.s6, .int .i64 X.r.p.s7, .int .i64 X.r.p.s8, .int .i64 X.r.p.s9, .int .i64 X.r.p.s10, .int .i64 X.r.p.s11, .int .i64 X.m.k, .int .i64 X.m.e, .int .i64 X.m.s, .int .i64 X.m.u, .int .i64 X.m.v, .int .i64 X.m.t]) :: (.agg #[.int .i64 X.d, .int .i64 X.e, .int .i64 X.r.k, .int .i64 X.r.e, .int .i64 X.r.w, .int .i64 X.r.n, .int .i64 X.r.q, .string X.r.t, .int .i64 X.r.p.s0, .int .i64 X.r.p.s1, .int .i64 X.r.p.s2, .int .i64 X.r.p.s3, .int .i64 X.r.p.s4, .int .i64 X.r.p.s5, .int .i64 X.r.p.s6, .int .i64 X.r.p.s7, .int .i64 X.r.p.s8, .int .i64 X.r.p.s9, .int .i64 X.r.p.s10, .int .i64 X.r.p.s11, .int .i64 X.m.k, .int .i64 X.m.e, .int .i64 X.m.s, .int .i64 X.m.u, .int .i64 X.m.v, .int .i64 X.m.t]) :: _ :: _ :: _ :: _ :: _ :: _ :: [])) ?hB2 ?main2
    case hB2 => kernel_rfl
    rotate_left 9
    intro ops QT HO HQ
    obtain ⟨ho0, HO⟩ := HO
    refine wpG_v ho0.out rfl ?_ ?_
    · simp only [valsL_zero, valsL_succ]; apply FY_in rfl; intro wx hx
      go_simp
      exact ⟨rfl, rfl⟩
    simp only [Act.put, List.setIfInBounds_toArray, List.set_cons_zero, List.set_cons_succ, valsL_zero, valsL_succ]
    obtain ⟨ho1, HO⟩ := HO
    refine wpG_v ho1.out rfl ?_ ?_
    · simp only [valsL_zero, valsL_succ]; apply FY_in rfl; intro wx hx
      go_simp
      exact ⟨rfl, rfl⟩
    simp only [Act.put, List.setIfInBounds_toArray, List.set_cons_zero, List.set_cons_succ, valsL_zero, valsL_succ]
    obtain ⟨ho2, HO⟩ := HO
    refine wpG_v ho2.out rfl ?_ ?_
    · simp only [valsL_zero, valsL_succ]; apply FY_in rfl; intro wx hx
      go_simp
      exact ⟨rfl, rfl⟩
    simp only [Act.put, List.setIfInBounds_toArray, List.set_cons_zero, List.set_cons_succ, valsL_zero, valsL_succ]
    obtain ⟨ho3, HO⟩ := HO
    refine wpG_v ho3.out rfl ?_ ?_
    · simp only [valsL_zero, valsL_succ]; apply FY_yes (d := 45) rfl ho2.out (by rfl) (by kernel_rfl); intro wx hx
      exact fu_load_row_g 35 (.tmp 5) rfl (b5) (by kernel_rfl) _ _ _ _ ((SD.out wx hx).2) Tryz.underlying35 rfl (by kernel_rfl)
    simp only [Act.put, List.setIfInBounds_toArray, List.set_cons_zero, List.set_cons_succ, valsL_zero, valsL_succ]
    obtain ⟨ho4, HO⟩ := HO
    refine wpG_v ho4.out rfl ?_ ?_
    · simp only [valsL_zero, valsL_succ]; apply FY_yes (d := 45) rfl ho2.out (by rfl) (by kernel_rfl); intro wx hx
      exact fu_load_row_g 35 (.tmp 3) rfl (b3) (by kernel_rfl) _ _ _ _ ((SD.out wx hx).1.2) Tryz.underlying35 rfl (by kernel_rfl)
    simp only [Act.put, List.setIfInBounds_toArray, List.set_cons_zero, List.set_cons_succ, valsL_zero, valsL_succ]
    obtain ⟨ho5, HO⟩ := HO
    refine wpG_v ho5.out rfl ?_ ?_
    · simp only [valsL_zero, valsL_succ]; apply FY_yes (d := 45) rfl ho2.out (by rfl) (by kernel_rfl); intro wx hx
      go_simp
      exact ⟨rfl, rfl⟩
    simp only [Act.put, List.setIfInBounds_toArray, List.set_cons_zero, List.set_cons_succ, valsL_zero, valsL_succ]
    obtain ⟨ho6, HO⟩ := HO
    refine wpG_v ho6.out rfl ?_ ?_
    · simp only [valsL_zero, valsL_succ]; apply FY_in rfl; intro wx hx
      go_simp
      exact ⟨rfl, rfl⟩
    simp only [Act.put, List.setIfInBounds_toArray, List.set_cons_zero, List.set_cons_succ, valsL_zero, valsL_succ]
    obtain ⟨ho7, HO⟩ := HO
    refine wpG_v ho7.out rfl ?_ ?_
    · simp only [valsL_zero, valsL_succ]; apply FY_in rfl; intro wx hx
      go_simp
      exact ⟨rfl, rfl⟩
    simp only [Act.put, List.setIfInBounds_toArray, List.set_cons_zero, List.set_cons_succ, valsL_zero, valsL_succ]
    obtain ⟨ho8, HO⟩ := HO
    refine wpG_v ho8.out rfl ?_ ?_
    · simp only [valsL_zero, valsL_succ]; apply FY_yes (d := 50) rfl ho7.out (by rfl) (by kernel_rfl); intro wx hx
      go_simp
      exact ⟨rfl, rfl⟩
    simp only [Act.put, List.setIfInBounds_toArray, List.set_cons_zero, List.set_cons_succ, valsL_zero, valsL_succ]
    obtain ⟨ho9, HO⟩ := HO
    refine wpG_v ho9.out rfl ?_ ?_
    · simp only [valsL_zero, valsL_succ]; apply FY_yes (d := 50) rfl ho7.out (by rfl) (by kernel_rfl); intro wx hx
      go_simp
      exact ⟨rfl, rfl⟩
    simp only [Act.put, List.setIfInBounds_toArray, List.set_cons_zero, List.set_cons_succ, valsL_zero, valsL_succ]
    obtain ⟨ho10, HO⟩ := HO
    refine wpG_v ho10.out rfl ?_ ?_
    · simp only [valsL_zero, valsL_succ]; apply FY_in rfl; intro wx hx
      go_simp
      exact ⟨rfl, rfl⟩
    simp only [Act.put, List.setIfInBounds_toArray, List.set_cons_zero, List.set_cons_succ, valsL_zero, valsL_succ]
    refine HQ.out _ _ ?_
    intro wr hf
    simp only [List.drop_succ_cons, List.drop_zero]
    clear HQ HO ho0 ho1 ho2 ho3 ho4 ho5 ho6 ho7 ho8 ho9 ho10
    have SE := hid (SD.out.step hf)
    clear hf
    go_wp2_with fail
    go_ret
    exact ⟨by first | rfl | simp, SE.out.now.1.1.below⟩
  by_cases h2 : D = 2
  · have hb2 : (D == 2) = true := by simp [h2]
    have HXC : Hid (X = ⟨D, E, Rc.zero, x⟩) := hid (by rw [HXX.out, if_neg h1, if_neg h0])
    clear h1 h0 h2
    go_wp2_with (refine wpList_load_at (by kernel_rfl) 29 (.tmp 32) (by with_reducible rfl) b1 20 (by kernel_rfl) _ _ _ S2.out.now.2 #[.int .i64 o.m.k, .int .i64 o.m.e, .int .i64 o.m.s, .int .i64 o.m.u, .int .i64 o.m.v, .int .i64 o.m.t] (by rfl) (by simp) _ Tryz.underlying29 rfl (by kernel_rfl) ?_)
    refine (HC25.out _).mono ?_
    rintro _ w4 ⟨rfl, hf⟩
    have S4 := hid (S2.out.step hf)
    have HM4 := hid (hf.heap HM2.out (fun h => h))
    clear hf S2 HM2 c0 hb1 hb2
    go_upto_region 11 with (refine wpList_store_at (by kernel_rfl) 29 (.tmp 35) (.tmp 34) (by with_reducible rfl) b3 20 (by kernel_rfl) #[.int .i64 x.k, .int .i64 x.e, .int .i64 x.s, .int .i64 x.u, .int .i64 x.v, .int .i64 x.t] (by kernel_rfl) _ _ HM4.out (by kernel_rfl) (by simp) (by simp [Value.oneCell']) ?_; intro w5 hh hp; have HM5 : Hid (w5.heap[b3]? = some (.cells #[.int .i64 D, .int .i64 E, .int .i64 0, .int .i64 0, .int .i64 0, .int .i64 0, .int .i64 0, .string ⟨#[]⟩, .int .i64 0, .int .i64 0, .int .i64 0, .int .i64 0, .int .i64 0, .int .i64 0, .int .i64 0, .int .i64 0, .int .i64 0, .int .i64 0, .int .i64 0, .int .i64 0, .int .i64 x.k, .int .i64 x.e, .int .i64 x.s, .int .i64 x.u, .int .i64 x.v, .int .i64 x.t] 35 (0, 0))) := putL_heap hh (by kernel_rfl); have HP5 := hid hp; clear hh hp)
    have S5 := hid (S4.out.stepX HP5.out)
    clear HP5 S4 HM4
    have HMC : Hid (w5.heap[b3]? = some (.cells #[.int .i64 X.d, .int .i64 X.e, .int .i64 X.r.k, .int .i64 X.r.e, .int .i64 X.r.w, .int .i64 X.r.n, .int .i64 X.r.q, .string X.r.t, .int .i64 X.r.p.s0, .int .i64 X.r.p.s1, .int .i64 X.r.p.s2, .int .i64 X.r.p.s3, .int .i64 X.r.p.s4, .int .i64 X.r.p.s5, .int .i64 X.r.p.s6, .int .i64 X.r.p.s7, .int .i64 X.r.p.s8, .int .i64 X.r.p.s9, .int .i64 X.r.p.s10, .int .i64 X.r.p.s11, .int .i64 X.m.k, .int .i64 X.m.e, .int .i64 X.m.s, .int .i64 X.m.u, .int .i64 X.m.v, .int .i64 X.m.t] 35 (0, 0))) := hid (by rw [HXC.out]; exact HM5.out)
    have SA : Hid (Sb M0 w5 fun q => Frm M0 W q ∧ q.heap[b3]? = some (.cells #[.int .i64 X.d, .int .i64 X.e, .int .i64 X.r.k, .int .i64 X.r.e, .int .i64 X.r.w, .int .i64 X.r.n, .int .i64 X.r.q, .string X.r.t, .int .i64 X.r.p.s0, .int .i64 X.r.p.s1, .int .i64 X.r.p.s2, .int .i64 X.r.p.s3, .int .i64 X.r.p.s4, .int .i64 X.r.p.s5, .int .i64 X.r.p.s6, .int .i64 X.r.p.s7, .int .i64 X.r.p.s8, .int .i64 X.r.p.s9, .int .i64 X.r.p.s10, .int .i64 X.r.p.s11, .int .i64 X.m.k, .int .i64 X.m.e, .int .i64 X.m.s, .int .i64 X.m.u, .int .i64 X.m.v, .int .i64 X.m.t] 35 (0, 0))) := hid ((Sb.frm S5.out.now.1).and (Sb.heap HMC.out (fun h => h)))
    clear HM5 HXC HXX HMC S5
    go_wp2_with (refine wpList_load_row_w (by kernel_rfl) 35 (.tmp 3) (by with_reducible rfl) b3 (by kernel_rfl) _ _ _ _ SA.out.now.2 Tryz.underlying35 rfl (by kernel_rfl) ?_)
    rw [← HVX.out]
    refine (tline_calls X _ (HG.out.frm SA.out.now.1).tab HBL.out.2.2.1).mono ?_
    rintro _ w6 ⟨rfl, hf⟩
    rw [HY.out]
    have SB := hid (SA.out.step hf)
    clear hf SA
    go_wp2_with fail
    refine (tparse_calls y _ HYS.out (HG.out.frm SB.out.now.1)).mono ?_
    rintro _ w7 ⟨rfl, hf⟩
    rw [HPB.out]
    simp only []
    rw [HVX.out]
    have SC := hid (SB.out.step hf)
    clear hf SB
    have HZb := hid (new1 w7 (.cells #[.int .i64 0, .int .i64 0, .int .i64 0, .int .i64 0, .int .i64 0, .int .i64 0, .int .i64 0, .string ⟨#[]⟩, .int .i64 0, .int .i64 0, .int .i64 0, .int .i64 0, .int .i64 0, .int .i64 0, .int .i64 0, .int .i64 0, .int .i64 0, .int .i64 0, .int .i64 0, .int .i64 0, .int .i64 0, .int .i64 0, .int .i64 0, .int .i64 0, .int .i64 0, .int .i64 0] 35))
    go_upto_region 13 with (refine wpList_store_row rfl 35 (.tmp 5) (.tmp 41) (by with_reducible rfl) w7.heap.size #[.int .i64 X.d, .int .i64 X.e, .int .i64 X.r.k, .int .i64 X.r.e, .int .i64 X.r.w, .int .i64 X.r.n, .int .i64 X.r.q, .string X.r.t, .int .i64 X.r.p.s0, .int .i64 X.r.p.s1, .int .i64 X.r.p.s2, .int .i64 X.r.p.s3, .int .i64 X.r.p.s4, .int .i64 X.r.p.s5, .int .i64 X.r.p.s6, .int .i64 X.r.p.s7, .int .i64 X.r.p.s8, .int .i64 X.r.p.s9, .int .i64 X.r.p.s10, .int .i64 X.r.p.s11, .int .i64 X.m.k, .int .i64 X.m.e, .int .i64 X.m.s, .int .i64 X.m.u, .int .i64 X.m.v, .int .i64 X.m.t] (by kernel_rfl) (by kernel_rfl) _ _ HZb.out (by kernel_rfl) (by rfl) (by simp [Value.oneCell']) ?_)
    have hfr := ((Frm.refl M0 w7).alloc (.cells #[.int .i64 0, .int .i64 0, .int .i64 0, .int .i64 0, .int .i64 0, .int .i64 0, .int .i64 0, .string ⟨#[]⟩, .int .i64 0, .int .i64 0, .int .i64 0, .int .i64 0, .int .i64 0, .int .i64 0, .int .i64 0, .int .i64 0, .int .i64 0, .int .i64 0, .int .i64 0, .int .i64 0, .int .i64 0, .int .i64 0, .int .i64 0, .int .i64 0, .int .i64 0, .int .i64 0] 35)).setRow w7.heap.size #[.int .i64 X.d, .int .i64 X.e, .int .i64 X.r.k, .int .i64 X.r.e, .int .i64 X.r.w, .int .i64 X.r.n, .int .i64 X.r.q, .string X.r.t, .int .i64 X.r.p.s0, .int .i64 X.r.p.s1, .int .i64 X.r.p.s2, .int .i64 X.r.p.s3, .int .i64 X.r.p.s4, .int .i64 X.r.p.s5, .int .i64 X.r.p.s6, .int .i64 X.r.p.s7, .int .i64 X.r.p.s8, .int .i64 X.r.p.s9, .int .i64 X.r.p.s10, .int .i64 X.r.p.s11, .int .i64 X.m.k, .int .i64 X.m.e, .int .i64 X.m.s, .int .i64 X.m.u, .int .i64 X.m.v, .int .i64 X.m.t] (Nat.le_refl _)
    have hPb := setRow_heap _ w7.heap.size _ #[.int .i64 X.d, .int .i64 X.e, .int .i64 X.r.k, .int .i64 X.r.e, .int .i64 X.r.w, .int .i64 X.r.n, .int .i64 X.r.q, .string X.r.t, .int .i64 X.r.p.s0, .int .i64 X.r.p.s1, .int .i64 X.r.p.s2, .int .i64 X.r.p.s3, .int .i64 X.r.p.s4, .int .i64 X.r.p.s5, .int .i64 X.r.p.s6, .int .i64 X.r.p.s7, .int .i64 X.r.p.s8, .int .i64 X.r.p.s9, .int .i64 X.r.p.s10, .int .i64 X.r.p.s11, .int .i64 X.m.k, .int .i64 X.m.e, .int .i64 X.m.s, .int .i64 X.m.u, .int .i64 X.m.v, .int .i64 X.m.t] _ _ HZb.out
    obtain ⟨b5, hblk⟩ : ∃ qq, qq = w7.heap.size := ⟨_, rfl⟩
    obtain ⟨w8, hwn⟩ : ∃ qq, qq = (w7.alloc (.cells #[.int .i64 0, .int .i64 0, .int .i64 0, .int .i64 0, .int .i64 0, .int .i64 0, .int .i64 0, .string ⟨#[]⟩, .int .i64 0, .int .i64 0, .int .i64 0, .int .i64 0, .int .i64 0, .int .i64 0, .int .i64 0, .int .i64 0, .int .i64 0, .int .i64 0, .int .i64 0, .int .i64 0, .int .i64 0, .int .i64 0, .int .i64 0, .int .i64 0, .int .i64 0, .int .i64 0] 35)).setRow w7.heap.size #[.int .i64 X.d, .int .i64 X.e, .int .i64 X.r.k, .int .i64 X.r.e, .int .i64 X.r.w, .int .i64 X.r.n, .int .i64 X.r.q, .string X.r.t, .int .i64 X.r.p.s0, .int .i64 X.r.p.s1, .int .i64 X.r.p.s2, .int .i64 X.r.p.s3, .int .i64 X.r.p.s4, .int .i64 X.r.p.s5, .int .i64 X.r.p.s6, .int .i64 X.r.p.s7, .int .i64 X.r.p.s8, .int .i64 X.r.p.s9, .int .i64 X.r.p.s10, .int .i64 X.r.p.s11, .int .i64 X.m.k, .int .i64 X.m.e, .int .i64 X.m.s, .int .i64 X.m.u, .int .i64 X.m.v, .int .i64 X.m.t] := ⟨_, rfl⟩
    rw [← hwn] at hfr hPb ⊢
    rw [← hblk] at hPb ⊢
    clear hwn hblk HZb
    have SD := hid ((SC.out.step hfr).and (Sb.heap hPb (fun h => h)))
    clear hfr hPb SC
    have hqo : oeq ⟨X.d, X.e, ⟨X.r.k, X.r.e, X.r.w, X.r.n, X.r.q, X.r.t, ⟨X.r.p.s0, X.r.p.s1, X.r.p.s2, X.r.p.s3, X.r.p.s4, X.r.p.s5, X.r.p.s6, X.r.p.s7, X.r.p.s8, X.r.p.s9, X.r.p.s10, X.r.p.s11⟩⟩, ⟨X.m.k, X.m.e, X.m.s, X.m.u, X.m.v, X.m.t⟩⟩ ⟨X.d, X.e, ⟨X.r.k, X.r.e, X.r.w, X.r.n, X.r.q, X.r.t, ⟨X.r.p.s0, X.r.p.s1, X.r.p.s2, X.r.p.s3, X.r.p.s4, X.r.p.s5, X.r.p.s6, X.r.p.s7, X.r.p.s8, X.r.p.s9, X.r.p.s10, X.r.p.s11⟩⟩, ⟨X.m.k, X.m.e, X.m.s, X.m.u, X.m.v, X.m.t⟩⟩ = true := by unfold oeq; exact decide_eq_true rfl
    have hye := HYE.out
    have hyn : (y.toList == []) = false := by
      have h := hye
      cases hl : y.toList with
      | nil => rw [hl] at h; cases h
      | cons a l => rfl
    apply wp_region_N 11 (valsL (_ :: _ :: _ :: (.agg #[.int .i64 X.d, .int .i64 X.e, .int .i64 X.r.k, .int .i64 X.r.e, .int .i64 X.r.w, .int .i64 X.r.n, .int .i64 X.r.q, .string X.r.t, .int .i64 X.r.p.s0, .int .i64 X.r.p.s1, .int .i64 X.r.p.s2, .int .i64 X.r.p.s3, .int .i64 X.r.p.s4, .int .i64 X.r.p.s5, .int .i64 X.r.p.s6, .int .i64 X.r.p.s7, .int .i64 X.r.p.s8, .int .i64 X.r.p.s9, .int .i64 X.r.p.s10, .int .i64 X.r.p.s11, .int .i64 X.m.k, .int .i64 X.m.e, .int .i64 X.m.s, .int .i64 X.m.u, .int .i64 X.m.v, .int .i64 X.m.t]) :: (.agg #[.int .i64 X.d, .int .i64 X.e, .int .i64 X.r.k, .int .i64 X.r.e, .int .i64 X.r.w, .int .i64 X.r.n, .int .i64 X.r.q, .string X.r.t, .int .i64 X.r.p.s0, .int .i64 X.r.p.s1, .int .i64 X.r.p.s2, .int .i64 X.r.p.s3, .int .i64 X.r.p.s4, .int .i64 X.r.p.s5, .int .i64 X.r.p.s6, .int .i64 X.r.p.s7, .int .i64 X.r.p.s8, .int .i64 X.r.p.s9, .int .i64 X.r.p.s10, .int .i64 X.r.p.s11, .int .i64 X.m.k, .int .i64 X.m.e, .int .i64 X.m.s, .int .i64 X.m.u, .int .i64 X.m.v, .int .i64 X.m.t]) :: _ :: _ :: _ :: _ :: _ :: _ :: [])) ?hB3 ?main3
    case hB3 => kernel_rfl
    rotate_left 9
    intro ops QT HO HQ
    obtain ⟨ho0, HO⟩ := HO
    refine wpG_v ho0.out rfl ?_ ?_
    · simp only [valsL_zero, valsL_succ]; apply FY_in rfl; intro wx hx
      go_simp
      exact ⟨rfl, rfl⟩
    simp only [Act.put, List.setIfInBounds_toArray, List.set_cons_zero, List.set_cons_succ, valsL_zero, valsL_succ]
    obtain ⟨ho1, HO⟩ := HO
    refine wpG_v ho1.out rfl ?_ ?_
    · simp only [valsL_zero, valsL_succ]; apply FY_in rfl; intro wx hx
      go_simp
      exact ⟨rfl, rfl⟩
    simp only [Act.put, List.setIfInBounds_toArray, List.set_cons_zero, List.set_cons_succ, valsL_zero, valsL_succ]
    obtain ⟨ho2, HO⟩ := HO
    refine wpG_v ho2.out rfl ?_ ?_
    · simp only [valsL_zero, valsL_succ]; apply FY_in rfl; intro wx hx
      go_simp
      exact ⟨rfl, rfl⟩
    simp only [Act.put, List.setIfInBounds_toArray, List.set_cons_zero, List.set_cons_succ, valsL_zero, valsL_succ]
    obtain ⟨ho3, HO⟩ := HO
    refine wpG_v ho3.out rfl ?_ ?_
    · simp only [valsL_zero, valsL_succ]; apply FY_yes (d := 45) rfl ho2.out (by rfl) (by kernel_rfl); intro wx hx
      exact fu_load_row_g 35 (.tmp 5) rfl (b5) (by kernel_rfl) _ _ _ _ ((SD.out wx hx).2) Tryz.underlying35 rfl (by kernel_rfl)
    simp only [Act.put, List.setIfInBounds_toArray, List.set_cons_zero, List.set_cons_succ, valsL_zero, valsL_succ]
    obtain ⟨ho4, HO⟩ := HO
    refine wpG_v ho4.out rfl ?_ ?_
    · simp only [valsL_zero, valsL_succ]; apply FY_yes (d := 45) rfl ho2.out (by rfl) (by kernel_rfl); intro wx hx
      exact fu_load_row_g 35 (.tmp 3) rfl (b3) (by kernel_rfl) _ _ _ _ ((SD.out wx hx).1.2) Tryz.underlying35 rfl (by kernel_rfl)
    simp only [Act.put, List.setIfInBounds_toArray, List.set_cons_zero, List.set_cons_succ, valsL_zero, valsL_succ]
    obtain ⟨ho5, HO⟩ := HO
    refine wpG_v ho5.out rfl ?_ ?_
    · simp only [valsL_zero, valsL_succ]; apply FY_yes (d := 45) rfl ho2.out (by rfl) (by kernel_rfl); intro wx hx
      go_simp
      exact ⟨rfl, rfl⟩
    simp only [Act.put, List.setIfInBounds_toArray, List.set_cons_zero, List.set_cons_succ, valsL_zero, valsL_succ]
    obtain ⟨ho6, HO⟩ := HO
    refine wpG_v ho6.out rfl ?_ ?_
    · simp only [valsL_zero, valsL_succ]; apply FY_in rfl; intro wx hx
      go_simp
      exact ⟨rfl, rfl⟩
    simp only [Act.put, List.setIfInBounds_toArray, List.set_cons_zero, List.set_cons_succ, valsL_zero, valsL_succ]
    obtain ⟨ho7, HO⟩ := HO
    refine wpG_v ho7.out rfl ?_ ?_
    · simp only [valsL_zero, valsL_succ]; apply FY_in rfl; intro wx hx
      go_simp
      exact ⟨rfl, rfl⟩
    simp only [Act.put, List.setIfInBounds_toArray, List.set_cons_zero, List.set_cons_succ, valsL_zero, valsL_succ]
    obtain ⟨ho8, HO⟩ := HO
    refine wpG_v ho8.out rfl ?_ ?_
    · simp only [valsL_zero, valsL_succ]; apply FY_yes (d := 50) rfl ho7.out (by rfl) (by kernel_rfl); intro wx hx
      go_simp
      exact ⟨rfl, rfl⟩
    simp only [Act.put, List.setIfInBounds_toArray, List.set_cons_zero, List.set_cons_succ, valsL_zero, valsL_succ]
    obtain ⟨ho9, HO⟩ := HO
    refine wpG_v ho9.out rfl ?_ ?_
    · simp only [valsL_zero, valsL_succ]; apply FY_yes (d := 50) rfl ho7.out (by rfl) (by kernel_rfl); intro wx hx
      go_simp
      exact ⟨rfl, rfl⟩
    simp only [Act.put, List.setIfInBounds_toArray, List.set_cons_zero, List.set_cons_succ, valsL_zero, valsL_succ]
    obtain ⟨ho10, HO⟩ := HO
    refine wpG_v ho10.out rfl ?_ ?_
    · simp only [valsL_zero, valsL_succ]; apply FY_in rfl; intro wx hx
      go_simp
      exact ⟨rfl, rfl⟩
    simp only [Act.put, List.setIfInBounds_toArray, List.set_cons_zero, List.set_cons_succ, valsL_zero, valsL_succ]
    refine HQ.out _ _ ?_
    intro wr hf
    simp only [List.drop_succ_cons, List.drop_zero]
    clear HQ HO ho0 ho1 ho2 ho3 ho4 ho5 ho6 ho7 ho8 ho9 ho10
    have SE := hid (SD.out.step hf)
    clear hf
    go_wp2_with fail
    go_ret
    exact ⟨by first | rfl | simp, SE.out.now.1.1.below⟩
  · have hb2 : (D == 2) = false := by simp [h2]
    have hb3' : (D == 3) = true := by have := HDD.out; have h3 : D = 3 := by omega
                                      simp [h3]
    have HXC : Hid (X = ⟨D, E, Rc.zero, x⟩) := hid (by rw [HXX.out, if_neg h1, if_neg h0])
    clear h1 h0 h2
    go_wp2_with (refine wpList_load_at (by kernel_rfl) 29 (.tmp 32) (by with_reducible rfl) b1 20 (by kernel_rfl) _ _ _ S2.out.now.2 #[.int .i64 o.m.k, .int .i64 o.m.e, .int .i64 o.m.s, .int .i64 o.m.u, .int .i64 o.m.v, .int .i64 o.m.t] (by rfl) (by simp) _ Tryz.underlying29 rfl (by kernel_rfl) ?_)
    refine (HC25.out _).mono ?_
    rintro _ w4 ⟨rfl, hf⟩
    have S4 := hid (S2.out.step hf)
    have HM4 := hid (hf.heap HM2.out (fun h => h))
    clear hf S2 HM2 c0 hb1 hb2
    go_upto_region 11 with (refine wpList_store_at (by kernel_rfl) 29 (.tmp 35) (.tmp 34) (by with_reducible rfl) b3 20 (by kernel_rfl) #[.int .i64 x.k, .int .i64 x.e, .int .i64 x.s, .int .i64 x.u, .int .i64 x.v, .int .i64 x.t] (by kernel_rfl) _ _ HM4.out (by kernel_rfl) (by simp) (by simp [Value.oneCell']) ?_; intro w5 hh hp; have HM5 : Hid (w5.heap[b3]? = some (.cells #[.int .i64 D, .int .i64 E, .int .i64 0, .int .i64 0, .int .i64 0, .int .i64 0, .int .i64 0, .string ⟨#[]⟩, .int .i64 0, .int .i64 0, .int .i64 0, .int .i64 0, .int .i64 0, .int .i64 0, .int .i64 0, .int .i64 0, .int .i64 0, .int .i64 0, .int .i64 0, .int .i64 0, .int .i64 x.k, .int .i64 x.e, .int .i64 x.s, .int .i64 x.u, .int .i64 x.v, .int .i64 x.t] 35 (0, 0))) := putL_heap hh (by kernel_rfl); have HP5 := hid hp; clear hh hp)
    have S5 := hid (S4.out.stepX HP5.out)
    clear HP5 S4 HM4
    have HMC : Hid (w5.heap[b3]? = some (.cells #[.int .i64 X.d, .int .i64 X.e, .int .i64 X.r.k, .int .i64 X.r.e, .int .i64 X.r.w, .int .i64 X.r.n, .int .i64 X.r.q, .string X.r.t, .int .i64 X.r.p.s0, .int .i64 X.r.p.s1, .int .i64 X.r.p.s2, .int .i64 X.r.p.s3, .int .i64 X.r.p.s4, .int .i64 X.r.p.s5, .int .i64 X.r.p.s6, .int .i64 X.r.p.s7, .int .i64 X.r.p.s8, .int .i64 X.r.p.s9, .int .i64 X.r.p.s10, .int .i64 X.r.p.s11, .int .i64 X.m.k, .int .i64 X.m.e, .int .i64 X.m.s, .int .i64 X.m.u, .int .i64 X.m.v, .int .i64 X.m.t] 35 (0, 0))) := hid (by rw [HXC.out]; exact HM5.out)
    have SA : Hid (Sb M0 w5 fun q => Frm M0 W q ∧ q.heap[b3]? = some (.cells #[.int .i64 X.d, .int .i64 X.e, .int .i64 X.r.k, .int .i64 X.r.e, .int .i64 X.r.w, .int .i64 X.r.n, .int .i64 X.r.q, .string X.r.t, .int .i64 X.r.p.s0, .int .i64 X.r.p.s1, .int .i64 X.r.p.s2, .int .i64 X.r.p.s3, .int .i64 X.r.p.s4, .int .i64 X.r.p.s5, .int .i64 X.r.p.s6, .int .i64 X.r.p.s7, .int .i64 X.r.p.s8, .int .i64 X.r.p.s9, .int .i64 X.r.p.s10, .int .i64 X.r.p.s11, .int .i64 X.m.k, .int .i64 X.m.e, .int .i64 X.m.s, .int .i64 X.m.u, .int .i64 X.m.v, .int .i64 X.m.t] 35 (0, 0))) := hid ((Sb.frm S5.out.now.1).and (Sb.heap HMC.out (fun h => h)))
    clear HM5 HXC HXX HMC S5
    go_wp2_with (refine wpList_load_row_w (by kernel_rfl) 35 (.tmp 3) (by with_reducible rfl) b3 (by kernel_rfl) _ _ _ _ SA.out.now.2 Tryz.underlying35 rfl (by kernel_rfl) ?_)
    rw [← HVX.out]
    refine (tline_calls X _ (HG.out.frm SA.out.now.1).tab HBL.out.2.2.1).mono ?_
    rintro _ w6 ⟨rfl, hf⟩
    rw [HY.out]
    have SB := hid (SA.out.step hf)
    clear hf SA
    go_wp2_with fail
    refine (tparse_calls y _ HYS.out (HG.out.frm SB.out.now.1)).mono ?_
    rintro _ w7 ⟨rfl, hf⟩
    rw [HPB.out]
    simp only []
    rw [HVX.out]
    have SC := hid (SB.out.step hf)
    clear hf SB
    have HZb := hid (new1 w7 (.cells #[.int .i64 0, .int .i64 0, .int .i64 0, .int .i64 0, .int .i64 0, .int .i64 0, .int .i64 0, .string ⟨#[]⟩, .int .i64 0, .int .i64 0, .int .i64 0, .int .i64 0, .int .i64 0, .int .i64 0, .int .i64 0, .int .i64 0, .int .i64 0, .int .i64 0, .int .i64 0, .int .i64 0, .int .i64 0, .int .i64 0, .int .i64 0, .int .i64 0, .int .i64 0, .int .i64 0] 35))
    go_upto_region 13 with (refine wpList_store_row rfl 35 (.tmp 5) (.tmp 41) (by with_reducible rfl) w7.heap.size #[.int .i64 X.d, .int .i64 X.e, .int .i64 X.r.k, .int .i64 X.r.e, .int .i64 X.r.w, .int .i64 X.r.n, .int .i64 X.r.q, .string X.r.t, .int .i64 X.r.p.s0, .int .i64 X.r.p.s1, .int .i64 X.r.p.s2, .int .i64 X.r.p.s3, .int .i64 X.r.p.s4, .int .i64 X.r.p.s5, .int .i64 X.r.p.s6, .int .i64 X.r.p.s7, .int .i64 X.r.p.s8, .int .i64 X.r.p.s9, .int .i64 X.r.p.s10, .int .i64 X.r.p.s11, .int .i64 X.m.k, .int .i64 X.m.e, .int .i64 X.m.s, .int .i64 X.m.u, .int .i64 X.m.v, .int .i64 X.m.t] (by kernel_rfl) (by kernel_rfl) _ _ HZb.out (by kernel_rfl) (by rfl) (by simp [Value.oneCell']) ?_)
    have hfr := ((Frm.refl M0 w7).alloc (.cells #[.int .i64 0, .int .i64 0, .int .i64 0, .int .i64 0, .int .i64 0, .int .i64 0, .int .i64 0, .string ⟨#[]⟩, .int .i64 0, .int .i64 0, .int .i64 0, .int .i64 0, .int .i64 0, .int .i64 0, .int .i64 0, .int .i64 0, .int .i64 0, .int .i64 0, .int .i64 0, .int .i64 0, .int .i64 0, .int .i64 0, .int .i64 0, .int .i64 0, .int .i64 0, .int .i64 0] 35)).setRow w7.heap.size #[.int .i64 X.d, .int .i64 X.e, .int .i64 X.r.k, .int .i64 X.r.e, .int .i64 X.r.w, .int .i64 X.r.n, .int .i64 X.r.q, .string X.r.t, .int .i64 X.r.p.s0, .int .i64 X.r.p.s1, .int .i64 X.r.p.s2, .int .i64 X.r.p.s3, .int .i64 X.r.p.s4, .int .i64 X.r.p.s5, .int .i64 X.r.p.s6, .int .i64 X.r.p.s7, .int .i64 X.r.p.s8, .int .i64 X.r.p.s9, .int .i64 X.r.p.s10, .int .i64 X.r.p.s11, .int .i64 X.m.k, .int .i64 X.m.e, .int .i64 X.m.s, .int .i64 X.m.u, .int .i64 X.m.v, .int .i64 X.m.t] (Nat.le_refl _)
    have hPb := setRow_heap _ w7.heap.size _ #[.int .i64 X.d, .int .i64 X.e, .int .i64 X.r.k, .int .i64 X.r.e, .int .i64 X.r.w, .int .i64 X.r.n, .int .i64 X.r.q, .string X.r.t, .int .i64 X.r.p.s0, .int .i64 X.r.p.s1, .int .i64 X.r.p.s2, .int .i64 X.r.p.s3, .int .i64 X.r.p.s4, .int .i64 X.r.p.s5, .int .i64 X.r.p.s6, .int .i64 X.r.p.s7, .int .i64 X.r.p.s8, .int .i64 X.r.p.s9, .int .i64 X.r.p.s10, .int .i64 X.r.p.s11, .int .i64 X.m.k, .int .i64 X.m.e, .int .i64 X.m.s, .int .i64 X.m.u, .int .i64 X.m.v, .int .i64 X.m.t] _ _ HZb.out
    obtain ⟨b5, hblk⟩ : ∃ qq, qq = w7.heap.size := ⟨_, rfl⟩
    obtain ⟨w8, hwn⟩ : ∃ qq, qq = (w7.alloc (.cells #[.int .i64 0, .int .i64 0, .int .i64 0, .int .i64 0, .int .i64 0, .int .i64 0, .int .i64 0, .string ⟨#[]⟩, .int .i64 0, .int .i64 0, .int .i64 0, .int .i64 0, .int .i64 0, .int .i64 0, .int .i64 0, .int .i64 0, .int .i64 0, .int .i64 0, .int .i64 0, .int .i64 0, .int .i64 0, .int .i64 0, .int .i64 0, .int .i64 0, .int .i64 0, .int .i64 0] 35)).setRow w7.heap.size #[.int .i64 X.d, .int .i64 X.e, .int .i64 X.r.k, .int .i64 X.r.e, .int .i64 X.r.w, .int .i64 X.r.n, .int .i64 X.r.q, .string X.r.t, .int .i64 X.r.p.s0, .int .i64 X.r.p.s1, .int .i64 X.r.p.s2, .int .i64 X.r.p.s3, .int .i64 X.r.p.s4, .int .i64 X.r.p.s5, .int .i64 X.r.p.s6, .int .i64 X.r.p.s7, .int .i64 X.r.p.s8, .int .i64 X.r.p.s9, .int .i64 X.r.p.s10, .int .i64 X.r.p.s11, .int .i64 X.m.k, .int .i64 X.m.e, .int .i64 X.m.s, .int .i64 X.m.u, .int .i64 X.m.v, .int .i64 X.m.t] := ⟨_, rfl⟩
    rw [← hwn] at hfr hPb ⊢
    rw [← hblk] at hPb ⊢
    clear hwn hblk HZb
    have SD := hid ((SC.out.step hfr).and (Sb.heap hPb (fun h => h)))
    clear hfr hPb SC
    have hqo : oeq ⟨X.d, X.e, ⟨X.r.k, X.r.e, X.r.w, X.r.n, X.r.q, X.r.t, ⟨X.r.p.s0, X.r.p.s1, X.r.p.s2, X.r.p.s3, X.r.p.s4, X.r.p.s5, X.r.p.s6, X.r.p.s7, X.r.p.s8, X.r.p.s9, X.r.p.s10, X.r.p.s11⟩⟩, ⟨X.m.k, X.m.e, X.m.s, X.m.u, X.m.v, X.m.t⟩⟩ ⟨X.d, X.e, ⟨X.r.k, X.r.e, X.r.w, X.r.n, X.r.q, X.r.t, ⟨X.r.p.s0, X.r.p.s1, X.r.p.s2, X.r.p.s3, X.r.p.s4, X.r.p.s5, X.r.p.s6, X.r.p.s7, X.r.p.s8, X.r.p.s9, X.r.p.s10, X.r.p.s11⟩⟩, ⟨X.m.k, X.m.e, X.m.s, X.m.u, X.m.v, X.m.t⟩⟩ = true := by unfold oeq; exact decide_eq_true rfl
    have hye := HYE.out
    have hyn : (y.toList == []) = false := by
      have h := hye
      cases hl : y.toList with
      | nil => rw [hl] at h; cases h
      | cons a l => rfl
    apply wp_region_N 11 (valsL (_ :: _ :: _ :: (.agg #[.int .i64 X.d, .int .i64 X.e, .int .i64 X.r.k, .int .i64 X.r.e, .int .i64 X.r.w, .int .i64 X.r.n, .int .i64 X.r.q, .string X.r.t, .int .i64 X.r.p.s0, .int .i64 X.r.p.s1, .int .i64 X.r.p.s2, .int .i64 X.r.p.s3, .int .i64 X.r.p.s4, .int .i64 X.r.p.s5, .int .i64 X.r.p.s6, .int .i64 X.r.p.s7, .int .i64 X.r.p.s8, .int .i64 X.r.p.s9, .int .i64 X.r.p.s10, .int .i64 X.r.p.s11, .int .i64 X.m.k, .int .i64 X.m.e, .int .i64 X.m.s, .int .i64 X.m.u, .int .i64 X.m.v, .int .i64 X.m.t]) :: (.agg #[.int .i64 X.d, .int .i64 X.e, .int .i64 X.r.k, .int .i64 X.r.e, .int .i64 X.r.w, .int .i64 X.r.n, .int .i64 X.r.q, .string X.r.t, .int .i64 X.r.p.s0, .int .i64 X.r.p.s1, .int .i64 X.r.p.s2, .int .i64 X.r.p.s3, .int .i64 X.r.p.s4, .int .i64 X.r.p.s5, .int .i64 X.r.p.s6, .int .i64 X.r.p.s7, .int .i64 X.r.p.s8, .int .i64 X.r.p.s9, .int .i64 X.r.p.s10, .int .i64 X.r.p.s11, .int .i64 X.m.k, .int .i64 X.m.e, .int .i64 X.m.s, .int .i64 X.m.u, .int .i64 X.m.v, .int .i64 X.m.t]) :: _ :: _ :: _ :: _ :: _ :: _ :: [])) ?hB4 ?main4
    case hB4 => kernel_rfl
    rotate_left 9
    intro ops QT HO HQ
    obtain ⟨ho0, HO⟩ := HO
    refine wpG_v ho0.out rfl ?_ ?_
    · simp only [valsL_zero, valsL_succ]; apply FY_in rfl; intro wx hx
      go_simp
      exact ⟨rfl, rfl⟩
    simp only [Act.put, List.setIfInBounds_toArray, List.set_cons_zero, List.set_cons_succ, valsL_zero, valsL_succ]
    obtain ⟨ho1, HO⟩ := HO
    refine wpG_v ho1.out rfl ?_ ?_
    · simp only [valsL_zero, valsL_succ]; apply FY_in rfl; intro wx hx
      go_simp
      exact ⟨rfl, rfl⟩
    simp only [Act.put, List.setIfInBounds_toArray, List.set_cons_zero, List.set_cons_succ, valsL_zero, valsL_succ]
    obtain ⟨ho2, HO⟩ := HO
    refine wpG_v ho2.out rfl ?_ ?_
    · simp only [valsL_zero, valsL_succ]; apply FY_in rfl; intro wx hx
      go_simp
      exact ⟨rfl, rfl⟩
    simp only [Act.put, List.setIfInBounds_toArray, List.set_cons_zero, List.set_cons_succ, valsL_zero, valsL_succ]
    obtain ⟨ho3, HO⟩ := HO
    refine wpG_v ho3.out rfl ?_ ?_
    · simp only [valsL_zero, valsL_succ]; apply FY_yes (d := 45) rfl ho2.out (by rfl) (by kernel_rfl); intro wx hx
      exact fu_load_row_g 35 (.tmp 5) rfl (b5) (by kernel_rfl) _ _ _ _ ((SD.out wx hx).2) Tryz.underlying35 rfl (by kernel_rfl)
    simp only [Act.put, List.setIfInBounds_toArray, List.set_cons_zero, List.set_cons_succ, valsL_zero, valsL_succ]
    obtain ⟨ho4, HO⟩ := HO
    refine wpG_v ho4.out rfl ?_ ?_
    · simp only [valsL_zero, valsL_succ]; apply FY_yes (d := 45) rfl ho2.out (by rfl) (by kernel_rfl); intro wx hx
      exact fu_load_row_g 35 (.tmp 3) rfl (b3) (by kernel_rfl) _ _ _ _ ((SD.out wx hx).1.2) Tryz.underlying35 rfl (by kernel_rfl)
    simp only [Act.put, List.setIfInBounds_toArray, List.set_cons_zero, List.set_cons_succ, valsL_zero, valsL_succ]
    obtain ⟨ho5, HO⟩ := HO
    refine wpG_v ho5.out rfl ?_ ?_
    · simp only [valsL_zero, valsL_succ]; apply FY_yes (d := 45) rfl ho2.out (by rfl) (by kernel_rfl); intro wx hx
      go_simp
      exact ⟨rfl, rfl⟩
    simp only [Act.put, List.setIfInBounds_toArray, List.set_cons_zero, List.set_cons_succ, valsL_zero, valsL_succ]
    obtain ⟨ho6, HO⟩ := HO
    refine wpG_v ho6.out rfl ?_ ?_
    · simp only [valsL_zero, valsL_succ]; apply FY_in rfl; intro wx hx
      go_simp
      exact ⟨rfl, rfl⟩
    simp only [Act.put, List.setIfInBounds_toArray, List.set_cons_zero, List.set_cons_succ, valsL_zero, valsL_succ]
    obtain ⟨ho7, HO⟩ := HO
    refine wpG_v ho7.out rfl ?_ ?_
    · simp only [valsL_zero, valsL_succ]; apply FY_in rfl; intro wx hx
      go_simp
      exact ⟨rfl, rfl⟩
    simp only [Act.put, List.setIfInBounds_toArray, List.set_cons_zero, List.set_cons_succ, valsL_zero, valsL_succ]
    obtain ⟨ho8, HO⟩ := HO
    refine wpG_v ho8.out rfl ?_ ?_
    · simp only [valsL_zero, valsL_succ]; apply FY_yes (d := 50) rfl ho7.out (by rfl) (by kernel_rfl); intro wx hx
      go_simp
      exact ⟨rfl, rfl⟩
    simp only [Act.put, List.setIfInBounds_toArray, List.set_cons_zero, List.set_cons_succ, valsL_zero, valsL_succ]
    obtain ⟨ho9, HO⟩ := HO
    refine wpG_v ho9.out rfl ?_ ?_
    · simp only [valsL_zero, valsL_succ]; apply FY_yes (d := 50) rfl ho7.out (by rfl) (by kernel_rfl); intro wx hx
      go_simp
      exact ⟨rfl, rfl⟩
    simp only [Act.put, List.setIfInBounds_toArray, List.set_cons_zero, List.set_cons_succ, valsL_zero, valsL_succ]
    obtain ⟨ho10, HO⟩ := HO
    refine wpG_v ho10.out rfl ?_ ?_
    · simp only [valsL_zero, valsL_succ]; apply FY_in rfl; intro wx hx
      go_simp
      exact ⟨rfl, rfl⟩
    simp only [Act.put, List.setIfInBounds_toArray, List.set_cons_zero, List.set_cons_succ, valsL_zero, valsL_succ]
    refine HQ.out _ _ ?_
    intro wr hf
    simp only [List.drop_succ_cons, List.drop_zero]
    clear HQ HO ho0 ho1 ho2 ho3 ho4 ho5 ho6 ho7 ho8 ho9 ho10
    have SE := hid (SD.out.step hf)
    clear hf
    go_wp2_with fail
    go_ret
    exact ⟨by first | rfl | simp, SE.out.now.1.1.below⟩
end Go.Proofs.YtonlmkcolndaaaaGreatDoor
