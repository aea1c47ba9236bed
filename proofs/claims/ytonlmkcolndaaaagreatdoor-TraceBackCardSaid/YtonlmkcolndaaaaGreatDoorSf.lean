/- spec: Fields, Make. No condition. -/
import Derived.Test.YtonlmkcolndaaaaGreatDoorSp
namespace Go.Proofs.YtonlmkcolndaaaaGreatDoor
set_option linter.unusedVariables false
set_option linter.unusedSimpArgs false
set_option maxRecDepth 20000
open Go.RowKit

theorem infoI : (Tryz.prog.info? 3).map (fun i => (i.zero, i.size, i.bytes)) = some (some (.int .i64 0), 1, 8) := by kernel_rfl
theorem results_cell_slot {P : Program} {fn : Func} {p q : Tmp} {ty : TypeId} (h : fn.results = #[.cell p ty, .tmp q]) (tmps : Array Value) (w : World) (g : Nat) (t : TypeId) (cs : Array Value) (fr : Nat × Nat) (d : TypeDesc) (v : Value)
    (hp : tmps.getD p undef = .pointer (some ⟨g, 0, none⟩)) (hq : tmps.getD q undef = v) (hg : w.heap[g]? = some (.cells cs t fr))
    (hu : P.underlying ty = some d) (hd : (match d with | .struct _ | .array _ _ => true | _ => false) = true) (hi : (P.info? ty).map (·.size) = some cs.size) :
    (results fn tmps).run P w = .ok (.tuple #[.agg cs, v]) w := by
  have hp' : tmps[p]?.getD undef = .pointer (some ⟨g, 0, none⟩) := by simpa using hp
  have hq' : tmps[q]?.getD undef = v := by simpa using hq
  simp [results, h, hp', hq', asAddr, run_loadVar_row w g t ty cs fr d hg hu hd hi]

/-- 'a[i]' of an array by value, its elements of one cell. -/
theorem wpList_index {P : Program} {w : World} {ops : Array Oper} {rest : List Oper} {o : Oper} {a : Act} {Q : Exit → Act → World → Prop} (hgd : o.guard = none) (t e : TypeId) (x ix : Operand) (ho : o.op = .index t x ix)
    {n : Nat} {d : TypeDesc} (ht : P.underlying t = some (.array n e)) (he : P.underlying e = some d) (hd : (match d with | .struct _ | .array _ _ => false | _ => true) = true) (hs : (P.info? e).map (·.size) = some 1)
    (cs : Array Value) (hx : a.eval x = .agg cs) (k : IntKind) (i : Nat) (hi : a.eval ix = .int k i) (hn : i < n) (v : Value) (hv : cs[i]? = some v)
    (h : wpList P ops Q rest (a.put o.dst v) w) : wpList P ops Q (o :: rest) a w := by
  refine wpList_plain hgd fun K hK => ?_
  obtain ⟨inf, hinf, hsz⟩ : ∃ i, P.info? e = some i ∧ i.size = 1 := by
    cases hq : P.info? e with
    | none => simp [hq] at hs
    | some i => exact ⟨i, rfl, by simpa [hq] using hs⟩
  have hp : (part e cs i).run P w = .ok v w := by
    cases d <;> simp at hd <;> simp [part, isAgg, run_underlying he, hv, Result.andThen]
  have hrun : (Instr.index t (.agg cs) (.int k i)).run P w = .ok v w := by
    have h1 : (0 : Int) ≤ i ∧ (i : Int) < n := by omega
    have h2 : ¬ n ≤ i := by omega
    simp [Instr.index, asIntOf, run_underlying ht, h1, h2, sizeOf, typeInfo, hinf, hsz, hp, Result.andThen]
  unfold Oper.wp
  simp only [execOp, ho, hx, hi, Sem.run_bind, hrun, Result.andThen_ok]
  exact hK _ _ h
def Sp.nums (p : Sp) : List Int := [p.s0, p.s1, p.s2, p.s3, p.s4, p.s5, p.s6, p.s7, p.s8, p.s9, p.s10, p.s11]
def Sp.ofL (l : List Int) : Sp := ⟨l.getD 0 0, l.getD 1 0, l.getD 2 0, l.getD 3 0, l.getD 4 0, l.getD 5 0, l.getD 6 0, l.getD 7 0, l.getD 8 0, l.getD 9 0, l.getD 10 0, l.getD 11 0⟩
theorem Sp.nums_ofL {l : List Int} (h : l.length = 12) : (Sp.ofL l).nums = l := by
  obtain ⟨x0, x1, x2, x3, x4, x5, x6, x7, x8, x9, x10, x11, rfl⟩ : ∃ x0 x1 x2 x3 x4 x5 x6 x7 x8 x9 x10 x11, l = [x0, x1, x2, x3, x4, x5, x6, x7, x8, x9, x10, x11] := by
    match l, h with
    | [x0, x1, x2, x3, x4, x5, x6, x7, x8, x9, x10, x11], _ => exact ⟨x0, x1, x2, x3, x4, x5, x6, x7, x8, x9, x10, x11, rfl⟩
  rfl
theorem Sp.ofL_nums (p : Sp) : Sp.ofL p.nums = p := rfl

set_option maxRecDepth 20000 in
set_option maxHeartbeats 4000000 in
theorem fields_calls (p : Sp) (w : World) : Calls Tryz.prog 72 #[p.val] w fun r w' => ∃ v, r = .returned v ∧ w'.ownsRow w.heap.size 3 1 v p.nums.length (ints .i64 p.nums) ∧ Frm M0 w w' := by
  unfold Sp.val
  go_enter Tryz.func72, Tryz.ntmps72
  go_wp2_with fail
  refine (pointers_calls _ _).mono ?_
  rintro _ w0 ⟨rfl, hfp⟩
  have H0 := hid (hfp.heap (heap_alloc_last w _) (fun h => h))
  have F0 := hid (((Frm.refl M0 w).alloc _).then0 hfp)
  have Z0 : w.heap.size + 1 ≤ w0.heap.size := by have := hfp.size; simp at this; omega
  clear hfp
  obtain ⟨b, hb⟩ : ∃ b, b = w.heap.size := ⟨_, rfl⟩
  rw [← hb] at H0 Z0 ⊢
  have HB := hid hb; clear hb
  have O0 : Hid (World.ownsRow w0 (b + 1) 3 1 (.slice none 0 0) ([] : List Int).length (ints .i64 [])) := hid (World.ownsRow_nil _ _ _ _)
  go_wp2_with fail
  refine wp_loop_rounds 13 ?_
  have hc : w0.cell? ⟨b, 0, none⟩ = some (.int .i64 p.s0) := cell_at H0.out 0
  rw [rounds_succ]
  go_wp2_with (first | (refine wpList_index rfl 114 71 (.tmp 6) (.tmp 7) (by with_reducible rfl) Tryz.underlying114 Tryz.underlying71 rfl (by kernel_rfl) _ rfl .i64 0 rfl (by decide) (.pointer (some ⟨b, 0, none⟩)) rfl ?_) | (at_builtin; refine wpList_push_int rfl (.tmp 10) (.tmp 14) 61 rfl (b + 1) 3 .i64 8 Tryz.underlying61 infoI _ [] _ rfl O0.out rfl (by simp [maxLen]) (by simp) Z0 ?_; intro v1 w1 ho hg; have O1 := hid ho; have HG := hid hg; clear ho hg))
  have g1 : Frm (fun k => b + 1 ≤ k) w0 w1 := (Frm.refl _ _).grown HG.out (fun k hk _ => (O0.out.lt k hk).1)
  have H1 := hid (g1.heap H0.out (by show ¬ b + 1 ≤ b; omega))
  have F1 := hid (F0.out.trans g1 (fun k hk hm => by have hm' : b + 1 ≤ k := hm; have := HB.out; omega))
  have Z1 : b + 1 ≤ w1.heap.size := Nat.le_trans Z0 g1.size
  clear hc HG g1 H0 F0 Z0 O0
  have hc : w1.cell? ⟨b, 1, none⟩ = some (.int .i64 p.s1) := cell_at H1.out 1
  rw [rounds_succ]
  go_wp2_with (first | (refine wpList_index rfl 114 71 (.tmp 6) (.tmp 7) (by with_reducible rfl) Tryz.underlying114 Tryz.underlying71 rfl (by kernel_rfl) _ rfl .i64 1 rfl (by decide) (.pointer (some ⟨b, 1, none⟩)) rfl ?_) | (at_builtin; refine wpList_push_int rfl (.tmp 10) (.tmp 14) 61 rfl (b + 1) 3 .i64 8 Tryz.underlying61 infoI _ [p.s0] _ rfl O1.out rfl (by simp [maxLen]) (by simp) Z1 ?_; intro v2 w2 ho hg; have O2 := hid ho; have HG := hid hg; clear ho hg))
  have g2 : Frm (fun k => b + 1 ≤ k) w1 w2 := (Frm.refl _ _).grown HG.out (fun k hk _ => (O1.out.lt k hk).1)
  have H2 := hid (g2.heap H1.out (by show ¬ b + 1 ≤ b; omega))
  have F2 := hid (F1.out.trans g2 (fun k hk hm => by have hm' : b + 1 ≤ k := hm; have := HB.out; omega))
  have Z2 : b + 1 ≤ w2.heap.size := Nat.le_trans Z1 g2.size
  clear hc HG g2 H1 F1 Z1 O1
  have hc : w2.cell? ⟨b, 2, none⟩ = some (.int .i64 p.s2) := cell_at H2.out 2
  rw [rounds_succ]
  go_wp2_with (first | (refine wpList_index rfl 114 71 (.tmp 6) (.tmp 7) (by with_reducible rfl) Tryz.underlying114 Tryz.underlying71 rfl (by kernel_rfl) _ rfl .i64 2 rfl (by decide) (.pointer (some ⟨b, 2, none⟩)) rfl ?_) | (at_builtin; refine wpList_push_int rfl (.tmp 10) (.tmp 14) 61 rfl (b + 1) 3 .i64 8 Tryz.underlying61 infoI _ [p.s0, p.s1] _ rfl O2.out rfl (by simp [maxLen]) (by simp) Z2 ?_; intro v3 w3 ho hg; have O3 := hid ho; have HG := hid hg; clear ho hg))
  have g3 : Frm (fun k => b + 1 ≤ k) w2 w3 := (Frm.refl _ _).grown HG.out (fun k hk _ => (O2.out.lt k hk).1)
  have H3 := hid (g3.heap H2.out (by show ¬ b + 1 ≤ b; omega))
  have F3 := hid (F2.out.trans g3 (fun k hk hm => by have hm' : b + 1 ≤ k := hm; have := HB.out; omega))
  have Z3 : b + 1 ≤ w3.heap.size := Nat.le_trans Z2 g3.size
  clear hc HG g3 H2 F2 Z2 O2
  have hc : w3.cell? ⟨b, 3, none⟩ = some (.int .i64 p.s3) := cell_at H3.out 3
  rw [rounds_succ]
  go_wp2_with (first | (refine wpList_index rfl 114 71 (.tmp 6) (.tmp 7) (by with_reducible rfl) Tryz.underlying114 Tryz.underlying71 rfl (by kernel_rfl) _ rfl .i64 3 rfl (by decide) (.pointer (some ⟨b, 3, none⟩)) rfl ?_) | (at_builtin; refine wpList_push_int rfl (.tmp 10) (.tmp 14) 61 rfl (b + 1) 3 .i64 8 Tryz.underlying61 infoI _ [p.s0, p.s1, p.s2] _ rfl O3.out rfl (by simp [maxLen]) (by simp) Z3 ?_; intro v4 w4 ho hg; have O4 := hid ho; have HG := hid hg; clear ho hg))
  have g4 : Frm (fun k => b + 1 ≤ k) w3 w4 := (Frm.refl _ _).grown HG.out (fun k hk _ => (O3.out.lt k hk).1)
  have H4 := hid (g4.heap H3.out (by show ¬ b + 1 ≤ b; omega))
  have F4 := hid (F3.out.trans g4 (fun k hk hm => by have hm' : b + 1 ≤ k := hm; have := HB.out; omega))
  have Z4 : b + 1 ≤ w4.heap.size := Nat.le_trans Z3 g4.size
  clear hc HG g4 H3 F3 Z3 O3
  have hc : w4.cell? ⟨b, 4, none⟩ = some (.int .i64 p.s4) := cell_at H4.out 4
  rw [rounds_succ]
  go_wp2_with (first | (refine wpList_index rfl 114 71 (.tmp 6) (.tmp 7) (by with_reducible rfl) Tryz.underlying114 Tryz.underlying71 rfl (by kernel_rfl) _ rfl .i64 4 rfl (by decide) (.pointer (some ⟨b, 4, none⟩)) rfl ?_) | (at_builtin; refine wpList_push_int rfl (.tmp 10) (.tmp 14) 61 rfl (b + 1) 3 .i64 8 Tryz.underlying61 infoI _ [p.s0, p.s1, p.s2, p.s3] _ rfl O4.out rfl (by simp [maxLen]) (by simp) Z4 ?_; intro v5 w5 ho hg; have O5 := hid ho; have HG := hid hg; clear ho hg))
  have g5 : Frm (fun k => b + 1 ≤ k) w4 w5 := (Frm.refl _ _).grown HG.out (fun k hk _ => (O4.out.lt k hk).1)
  have H5 := hid (g5.heap H4.out (by show ¬ b + 1 ≤ b; omega))
  have F5 := hid (F4.out.trans g5 (fun k hk hm => by have hm' : b + 1 ≤ k := hm; have := HB.out; omega))
  have Z5 : b + 1 ≤ w5.heap.size := Nat.le_trans Z4 g5.size
  clear hc HG g5 H4 F4 Z4 O4
  have hc : w5.cell? ⟨b, 5, none⟩ = some (.int .i64 p.s5) := cell_at H5.out 5
  rw [rounds_succ]
  go_wp2_with (first | (refine wpList_index rfl 114 71 (.tmp 6) (.tmp 7) (by with_reducible rfl) Tryz.underlying114 Tryz.underlying71 rfl (by kernel_rfl) _ rfl .i64 5 rfl (by decide) (.pointer (some ⟨b, 5, none⟩)) rfl ?_) | (at_builtin; refine wpList_push_int rfl (.tmp 10) (.tmp 14) 61 rfl (b + 1) 3 .i64 8 Tryz.underlying61 infoI _ [p.s0, p.s1, p.s2, p.s3, p.s4] _ rfl O5.out rfl (by simp [maxLen]) (by simp) Z5 ?_; intro v6 w6 ho hg; have O6 := hid ho; have HG := hid hg; clear ho hg))
  have g6 : Frm (fun k => b + 1 ≤ k) w5 w6 := (Frm.refl _ _).grown HG.out (fun k hk _ => (O5.out.lt k hk).1)
  have H6 := hid (g6.heap H5.out (by show ¬ b + 1 ≤ b; omega))
  have F6 := hid (F5.out.trans g6 (fun k hk hm => by have hm' : b + 1 ≤ k := hm; have := HB.out; omega))
  have Z6 : b + 1 ≤ w6.heap.size := Nat.le_trans Z5 g6.size
  clear hc HG g6 H5 F5 Z5 O5
  have hc : w6.cell? ⟨b, 6, none⟩ = some (.int .i64 p.s6) := cell_at H6.out 6
  rw [rounds_succ]
  go_wp2_with (first | (refine wpList_index rfl 114 71 (.tmp 6) (.tmp 7) (by with_reducible rfl) Tryz.underlying114 Tryz.underlying71 rfl (by kernel_rfl) _ rfl .i64 6 rfl (by decide) (.pointer (some ⟨b, 6, none⟩)) rfl ?_) | (at_builtin; refine wpList_push_int rfl (.tmp 10) (.tmp 14) 61 rfl (b + 1) 3 .i64 8 Tryz.underlying61 infoI _ [p.s0, p.s1, p.s2, p.s3, p.s4, p.s5] _ rfl O6.out rfl (by simp [maxLen]) (by simp) Z6 ?_; intro v7 w7 ho hg; have O7 := hid ho; have HG := hid hg; clear ho hg))
  have g7 : Frm (fun k => b + 1 ≤ k) w6 w7 := (Frm.refl _ _).grown HG.out (fun k hk _ => (O6.out.lt k hk).1)
  have H7 := hid (g7.heap H6.out (by show ¬ b + 1 ≤ b; omega))
  have F7 := hid (F6.out.trans g7 (fun k hk hm => by have hm' : b + 1 ≤ k := hm; have := HB.out; omega))
  have Z7 : b + 1 ≤ w7.heap.size := Nat.le_trans Z6 g7.size
  clear hc HG g7 H6 F6 Z6 O6
  have hc : w7.cell? ⟨b, 7, none⟩ = some (.int .i64 p.s7) := cell_at H7.out 7
  rw [rounds_succ]
  go_wp2_with (first | (refine wpList_index rfl 114 71 (.tmp 6) (.tmp 7) (by with_reducible rfl) Tryz.underlying114 Tryz.underlying71 rfl (by kernel_rfl) _ rfl .i64 7 rfl (by decide) (.pointer (some ⟨b, 7, none⟩)) rfl ?_) | (at_builtin; refine wpList_push_int rfl (.tmp 10) (.tmp 14) 61 rfl (b + 1) 3 .i64 8 Tryz.underlying61 infoI _ [p.s0, p.s1, p.s2, p.s3, p.s4, p.s5, p.s6] _ rfl O7.out rfl (by simp [maxLen]) (by simp) Z7 ?_; intro v8 w8 ho hg; have O8 := hid ho; have HG := hid hg; clear ho hg))
  have g8 : Frm (fun k => b + 1 ≤ k) w7 w8 := (Frm.refl _ _).grown HG.out (fun k hk _ => (O7.out.lt k hk).1)
  have H8 := hid (g8.heap H7.out (by show ¬ b + 1 ≤ b; omega))
  have F8 := hid (F7.out.trans g8 (fun k hk hm => by have hm' : b + 1 ≤ k := hm; have := HB.out; omega))
  have Z8 : b + 1 ≤ w8.heap.size := Nat.le_trans Z7 g8.size
  clear hc HG g8 H7 F7 Z7 O7
  have hc : w8.cell? ⟨b, 8, none⟩ = some (.int .i64 p.s8) := cell_at H8.out 8
  rw [rounds_succ]
  go_wp2_with (first | (refine wpList_index rfl 114 71 (.tmp 6) (.tmp 7) (by with_reducible rfl) Tryz.underlying114 Tryz.underlying71 rfl (by kernel_rfl) _ rfl .i64 8 rfl (by decide) (.pointer (some ⟨b, 8, none⟩)) rfl ?_) | (at_builtin; refine wpList_push_int rfl (.tmp 10) (.tmp 14) 61 rfl (b + 1) 3 .i64 8 Tryz.underlying61 infoI _ [p.s0, p.s1, p.s2, p.s3, p.s4, p.s5, p.s6, p.s7] _ rfl O8.out rfl (by simp [maxLen]) (by simp) Z8 ?_; intro v9 w9 ho hg; have O9 := hid ho; have HG := hid hg; clear ho hg))
  have g9 : Frm (fun k => b + 1 ≤ k) w8 w9 := (Frm.refl _ _).grown HG.out (fun k hk _ => (O8.out.lt k hk).1)
  have H9 := hid (g9.heap H8.out (by show ¬ b + 1 ≤ b; omega))
  have F9 := hid (F8.out.trans g9 (fun k hk hm => by have hm' : b + 1 ≤ k := hm; have := HB.out; omega))
  have Z9 : b + 1 ≤ w9.heap.size := Nat.le_trans Z8 g9.size
  clear hc HG g9 H8 F8 Z8 O8
  have hc : w9.cell? ⟨b, 9, none⟩ = some (.int .i64 p.s9) := cell_at H9.out 9
  rw [rounds_succ]
  go_wp2_with (first | (refine wpList_index rfl 114 71 (.tmp 6) (.tmp 7) (by with_reducible rfl) Tryz.underlying114 Tryz.underlying71 rfl (by kernel_rfl) _ rfl .i64 9 rfl (by decide) (.pointer (some ⟨b, 9, none⟩)) rfl ?_) | (at_builtin; refine wpList_push_int rfl (.tmp 10) (.tmp 14) 61 rfl (b + 1) 3 .i64 8 Tryz.underlying61 infoI _ [p.s0, p.s1, p.s2, p.s3, p.s4, p.s5, p.s6, p.s7, p.s8] _ rfl O9.out rfl (by simp [maxLen]) (by simp) Z9 ?_; intro v10 w10 ho hg; have O10 := hid ho; have HG := hid hg; clear ho hg))
  have g10 : Frm (fun k => b + 1 ≤ k) w9 w10 := (Frm.refl _ _).grown HG.out (fun k hk _ => (O9.out.lt k hk).1)
  have H10 := hid (g10.heap H9.out (by show ¬ b + 1 ≤ b; omega))
  have F10 := hid (F9.out.trans g10 (fun k hk hm => by have hm' : b + 1 ≤ k := hm; have := HB.out; omega))
  have Z10 : b + 1 ≤ w10.heap.size := Nat.le_trans Z9 g10.size
  clear hc HG g10 H9 F9 Z9 O9
  have hc : w10.cell? ⟨b, 10, none⟩ = some (.int .i64 p.s10) := cell_at H10.out 10
  rw [rounds_succ]
  go_wp2_with (first | (refine wpList_index rfl 114 71 (.tmp 6) (.tmp 7) (by with_reducible rfl) Tryz.underlying114 Tryz.underlying71 rfl (by kernel_rfl) _ rfl .i64 10 rfl (by decide) (.pointer (some ⟨b, 10, none⟩)) rfl ?_) | (at_builtin; refine wpList_push_int rfl (.tmp 10) (.tmp 14) 61 rfl (b + 1) 3 .i64 8 Tryz.underlying61 infoI _ [p.s0, p.s1, p.s2, p.s3, p.s4, p.s5, p.s6, p.s7, p.s8, p.s9] _ rfl O10.out rfl (by simp [maxLen]) (by simp) Z10 ?_; intro v11 w11 ho hg; have O11 := hid ho; have HG := hid hg; clear ho hg))
  have g11 : Frm (fun k => b + 1 ≤ k) w10 w11 := (Frm.refl _ _).grown HG.out (fun k hk _ => (O10.out.lt k hk).1)
  have H11 := hid (g11.heap H10.out (by show ¬ b + 1 ≤ b; omega))
  have F11 := hid (F10.out.trans g11 (fun k hk hm => by have hm' : b + 1 ≤ k := hm; have := HB.out; omega))
  have Z11 : b + 1 ≤ w11.heap.size := Nat.le_trans Z10 g11.size
  clear hc HG g11 H10 F10 Z10 O10
  have hc : w11.cell? ⟨b, 11, none⟩ = some (.int .i64 p.s11) := cell_at H11.out 11
  rw [rounds_succ]
  go_wp2_with (first | (refine wpList_index rfl 114 71 (.tmp 6) (.tmp 7) (by with_reducible rfl) Tryz.underlying114 Tryz.underlying71 rfl (by kernel_rfl) _ rfl .i64 11 rfl (by decide) (.pointer (some ⟨b, 11, none⟩)) rfl ?_) | (at_builtin; refine wpList_push_int rfl (.tmp 10) (.tmp 14) 61 rfl (b + 1) 3 .i64 8 Tryz.underlying61 infoI _ [p.s0, p.s1, p.s2, p.s3, p.s4, p.s5, p.s6, p.s7, p.s8, p.s9, p.s10] _ rfl O11.out rfl (by simp [maxLen]) (by simp) Z11 ?_; intro v12 w12 ho hg; have O12 := hid ho; have HG := hid hg; clear ho hg))
  have g12 : Frm (fun k => b + 1 ≤ k) w11 w12 := (Frm.refl _ _).grown HG.out (fun k hk _ => (O11.out.lt k hk).1)
  have H12 := hid (g12.heap H11.out (by show ¬ b + 1 ≤ b; omega))
  have F12 := hid (F11.out.trans g12 (fun k hk hm => by have hm' : b + 1 ≤ k := hm; have := HB.out; omega))
  have Z12 : b + 1 ≤ w12.heap.size := Nat.le_trans Z11 g12.size
  clear hc HG g12 H11 F11 Z11 O11
  rw [rounds_succ]
  go_wp2_with fail
  go_ret
  exact ⟨_, rfl, owns_base O12.out (by have := HB.out; omega), F12.out⟩

set_option maxRecDepth 20000 in
theorem make_bad (v : Value) (l : List Int) (w : World) (hr : Rd w 1 v l.length (ints .i64 l)) (hl : l.length ≠ 12) (hm : l.length ≤ 1000000) : Calls Tryz.prog 65 #[v] w fun r w' => r = .returned (.tuple #[Sp.zero.val, .int .i64 1]) ∧ Frm M0 w w' := by
  obtain ⟨a, c, rfl, _⟩ := hr.shape
  have hl1 : ¬ ((l.length : Int) = 12) := by omega
  clear hr hl
  go_enter Tryz.func65, Tryz.ntmps65
  go_wp2_with fail
  refine bodyPost_ret (v := .tuple #[Sp.zero.val, .int .i64 1]) (by simp [results, Tryz.results65, go_sem, Sp.val, Sp.zero]) rfl ⟨rfl, ?_⟩
  exact ((Frm.refl M0 w).alloc _).alloc _

set_option maxRecDepth 20000 in
set_option maxHeartbeats 4000000 in
theorem make_ok12 (a : Addr) (c : Nat) (x0 x1 x2 x3 x4 x5 x6 x7 x8 x9 x10 x11 : Int) (w : World) (hr : Rd w 1 (.slice (some a) 12 c) [x0, x1, x2, x3, x4, x5, x6, x7, x8, x9, x10, x11].length (ints .i64 [x0, x1, x2, x3, x4, x5, x6, x7, x8, x9, x10, x11])) : Calls Tryz.prog 65 #[.slice (some a) 12 c] w fun r w' => r = .returned (.tuple #[(Sp.mk x0 x1 x2 x3 x4 x5 x6 x7 x8 x9 x10 x11).val, .int .i64 0]) ∧ Frm M0 w w' := by
  obtain ⟨bl, ol, rfl⟩ : ∃ b o, a = ⟨b, o, none⟩ := by
    obtain ⟨a', c', h1, h2⟩ := hr.shape
    simp only [Value.slice.injEq] at h1
    obtain ⟨b, o, h3⟩ := h2 (by simp)
    exact ⟨b, o, by rw [h3] at h1; simpa using h1.1⟩
  have hcl := hr.cellsOf
  have HR := hid hr; clear hr

  have c0 : w.cell? ⟨bl, ol, none⟩ = some (.int .i64 x0) := hcl 0 (by simp)
  have c1 : w.cell? ⟨bl, ol + 1, none⟩ = some (.int .i64 x1) := hcl 1 (by simp)
  have c2 : w.cell? ⟨bl, ol + 2, none⟩ = some (.int .i64 x2) := hcl 2 (by simp)
  have c3 : w.cell? ⟨bl, ol + 3, none⟩ = some (.int .i64 x3) := hcl 3 (by simp)
  have c4 : w.cell? ⟨bl, ol + 4, none⟩ = some (.int .i64 x4) := hcl 4 (by simp)
  have c5 : w.cell? ⟨bl, ol + 5, none⟩ = some (.int .i64 x5) := hcl 5 (by simp)
  have c6 : w.cell? ⟨bl, ol + 6, none⟩ = some (.int .i64 x6) := hcl 6 (by simp)
  have c7 : w.cell? ⟨bl, ol + 7, none⟩ = some (.int .i64 x7) := hcl 7 (by simp)
  have c8 : w.cell? ⟨bl, ol + 8, none⟩ = some (.int .i64 x8) := hcl 8 (by simp)
  have c9 : w.cell? ⟨bl, ol + 9, none⟩ = some (.int .i64 x9) := hcl 9 (by simp)
  have c10 : w.cell? ⟨bl, ol + 10, none⟩ = some (.int .i64 x10) := hcl 10 (by simp)
  have c11 : w.cell? ⟨bl, ol + 11, none⟩ = some (.int .i64 x11) := hcl 11 (by simp)
  have hbl : bl < w.heap.size := World.block_lt_of_cell? w _ c0
  have HC := hid (And.intro c0 (And.intro c1 (And.intro c2 (And.intro c3 (And.intro c4 (And.intro c5 (And.intro c6 (And.intro c7 (And.intro c8 (And.intro c9 (And.intro c10 c11)))))))))))
  clear hcl c0 c1 c2 c3 c4 c5 c6 c7 c8 c9 c10 c11
  unfold Sp.val
  go_enter Tryz.func65, Tryz.ntmps65
  go_wp2_with fail
  refine (pointers_calls _ _).mono ?_
  rintro _ w0 ⟨rfl, hfp⟩
  have hn := new2 w (.cells #[.int .i64 0, .int .i64 0, .int .i64 0, .int .i64 0, .int .i64 0, .int .i64 0, .int .i64 0, .int .i64 0, .int .i64 0, .int .i64 0, .int .i64 0, .int .i64 0] 25) (.cells #[.int .i64 0, .int .i64 0, .int .i64 0, .int .i64 0, .int .i64 0, .int .i64 0, .int .i64 0, .int .i64 0, .int .i64 0, .int .i64 0, .int .i64 0, .int .i64 0] 25)
  have T0 := hid (hfp.heap hn.1 (fun h => h))
  have H0 := hid (hfp.heap hn.2 (fun h => h))
  have F0 := hid ((((Frm.refl M0 w).alloc _).alloc _).then0 hfp)
  have hsz : (w.alloc (.cells #[.int .i64 0, .int .i64 0, .int .i64 0, .int .i64 0, .int .i64 0, .int .i64 0, .int .i64 0, .int .i64 0, .int .i64 0, .int .i64 0, .int .i64 0, .int .i64 0] 25)).heap.size = w.heap.size + 1 := by simp
  obtain ⟨t, ht⟩ : ∃ t, t = w.heap.size := ⟨_, rfl⟩
  clear hfp hn
  simp only [hsz]
  clear hsz
  rw [← ht] at T0 H0 hbl ⊢
  have HT := hid ht; clear ht
  go_wp2_with fail
  refine wp_loop_rounds 13 ?_
  have hc := F0.out.cell (HC.out.1) (fun h => h)
  have hc0 : w0.cell? ⟨t + 1, 0, none⟩ = some (.int .i64 0) := cell_at H0.out 0
  have hz : w0.frozen? ⟨t + 1, 0, none⟩ = false := frozen_at H0.out 0
  rw [rounds_succ]
  go_wp2_with (refine wpList_index rfl 114 71 (.tmp 11) (.tmp 12) (by with_reducible rfl) Tryz.underlying114 Tryz.underlying71 rfl (by kernel_rfl) _ rfl .i64 0 rfl (by decide) (.pointer (some ⟨t + 1, 0, none⟩)) rfl ?_)
  have hp := Frm.put (M := fun k => t ≤ k) (Frm.refl _ w0) (t + 1) 0 (.int .i64 x0) (fun _ => by show t ≤ t + 1; omega)
  have hh : (w0.setCell ⟨t + 1, 0, none⟩ (.int .i64 x0)).heap[t + 1]? = some (.cells #[.int .i64 x0, .int .i64 0, .int .i64 0, .int .i64 0, .int .i64 0, .int .i64 0, .int .i64 0, .int .i64 0, .int .i64 0, .int .i64 0, .int .i64 0, .int .i64 0] 25 (0, 0)) := heap_set_at H0.out _
  have hT := Frm.heap (M := (· = t + 1)) ((Frm.refl _ w0).put (t + 1) 0 (.int .i64 x0) (fun _ => rfl)) T0.out (by show ¬ t = t + 1; omega)
  obtain ⟨w1, hw⟩ : ∃ x, x = w0.setCell ⟨t + 1, 0, none⟩ (.int .i64 x0) := ⟨_, rfl⟩
  rw [← hw] at hp hh hT ⊢
  have H1 := hid hh
  have T1 := hid hT
  have F1 := hid (F0.out.trans hp (fun k hk hm => by have hm' : t ≤ k := hm; have := HT.out; omega))
  clear hw hp hh hT hc hc0 hz H0 T0 F0
  have hc := F1.out.cell (HC.out.2.1) (fun h => h)
  have hc0 : w1.cell? ⟨t + 1, 1, none⟩ = some (.int .i64 0) := cell_at H1.out 1
  have hz : w1.frozen? ⟨t + 1, 1, none⟩ = false := frozen_at H1.out 1
  rw [rounds_succ]
  go_wp2_with (refine wpList_index rfl 114 71 (.tmp 11) (.tmp 12) (by with_reducible rfl) Tryz.underlying114 Tryz.underlying71 rfl (by kernel_rfl) _ rfl .i64 1 rfl (by decide) (.pointer (some ⟨t + 1, 1, none⟩)) rfl ?_)
  have hp := Frm.put (M := fun k => t ≤ k) (Frm.refl _ w1) (t + 1) 1 (.int .i64 x1) (fun _ => by show t ≤ t + 1; omega)
  have hh : (w1.setCell ⟨t + 1, 1, none⟩ (.int .i64 x1)).heap[t + 1]? = some (.cells #[.int .i64 x0, .int .i64 x1, .int .i64 0, .int .i64 0, .int .i64 0, .int .i64 0, .int .i64 0, .int .i64 0, .int .i64 0, .int .i64 0, .int .i64 0, .int .i64 0] 25 (0, 0)) := heap_set_at H1.out _
  have hT := Frm.heap (M := (· = t + 1)) ((Frm.refl _ w1).put (t + 1) 1 (.int .i64 x1) (fun _ => rfl)) T1.out (by show ¬ t = t + 1; omega)
  obtain ⟨w2, hw⟩ : ∃ x, x = w1.setCell ⟨t + 1, 1, none⟩ (.int .i64 x1) := ⟨_, rfl⟩
  rw [← hw] at hp hh hT ⊢
  have H2 := hid hh
  have T2 := hid hT
  have F2 := hid (F1.out.trans hp (fun k hk hm => by have hm' : t ≤ k := hm; have := HT.out; omega))
  clear hw hp hh hT hc hc0 hz H1 T1 F1
  have hc := F2.out.cell (HC.out.2.2.1) (fun h => h)
  have hc0 : w2.cell? ⟨t + 1, 2, none⟩ = some (.int .i64 0) := cell_at H2.out 2
  have hz : w2.frozen? ⟨t + 1, 2, none⟩ = false := frozen_at H2.out 2
  rw [rounds_succ]
  go_wp2_with (refine wpList_index rfl 114 71 (.tmp 11) (.tmp 12) (by with_reducible rfl) Tryz.underlying114 Tryz.underlying71 rfl (by kernel_rfl) _ rfl .i64 2 rfl (by decide) (.pointer (some ⟨t + 1, 2, none⟩)) rfl ?_)
  have hp := Frm.put (M := fun k => t ≤ k) (Frm.refl _ w2) (t + 1) 2 (.int .i64 x2) (fun _ => by show t ≤ t + 1; omega)
  have hh : (w2.setCell ⟨t + 1, 2, none⟩ (.int .i64 x2)).heap[t + 1]? = some (.cells #[.int .i64 x0, .int .i64 x1, .int .i64 x2, .int .i64 0, .int .i64 0, .int .i64 0, .int .i64 0, .int .i64 0, .int .i64 0, .int .i64 0, .int .i64 0, .int .i64 0] 25 (0, 0)) := heap_set_at H2.out _
  have hT := Frm.heap (M := (· = t + 1)) ((Frm.refl _ w2).put (t + 1) 2 (.int .i64 x2) (fun _ => rfl)) T2.out (by show ¬ t = t + 1; omega)
  obtain ⟨w3, hw⟩ : ∃ x, x = w2.setCell ⟨t + 1, 2, none⟩ (.int .i64 x2) := ⟨_, rfl⟩
  rw [← hw] at hp hh hT ⊢
  have H3 := hid hh
  have T3 := hid hT
  have F3 := hid (F2.out.trans hp (fun k hk hm => by have hm' : t ≤ k := hm; have := HT.out; omega))
  clear hw hp hh hT hc hc0 hz H2 T2 F2
  have hc := F3.out.cell (HC.out.2.2.2.1) (fun h => h)
  have hc0 : w3.cell? ⟨t + 1, 3, none⟩ = some (.int .i64 0) := cell_at H3.out 3
  have hz : w3.frozen? ⟨t + 1, 3, none⟩ = false := frozen_at H3.out 3
  rw [rounds_succ]
  go_wp2_with (refine wpList_index rfl 114 71 (.tmp 11) (.tmp 12) (by with_reducible rfl) Tryz.underlying114 Tryz.underlying71 rfl (by kernel_rfl) _ rfl .i64 3 rfl (by decide) (.pointer (some ⟨t + 1, 3, none⟩)) rfl ?_)
  have hp := Frm.put (M := fun k => t ≤ k) (Frm.refl _ w3) (t + 1) 3 (.int .i64 x3) (fun _ => by show t ≤ t + 1; omega)
  have hh : (w3.setCell ⟨t + 1, 3, none⟩ (.int .i64 x3)).heap[t + 1]? = some (.cells #[.int .i64 x0, .int .i64 x1, .int .i64 x2, .int .i64 x3, .int .i64 0, .int .i64 0, .int .i64 0, .int .i64 0, .int .i64 0, .int .i64 0, .int .i64 0, .int .i64 0] 25 (0, 0)) := heap_set_at H3.out _
  have hT := Frm.heap (M := (· = t + 1)) ((Frm.refl _ w3).put (t + 1) 3 (.int .i64 x3) (fun _ => rfl)) T3.out (by show ¬ t = t + 1; omega)
  obtain ⟨w4, hw⟩ : ∃ x, x = w3.setCell ⟨t + 1, 3, none⟩ (.int .i64 x3) := ⟨_, rfl⟩
  rw [← hw] at hp hh hT ⊢
  have H4 := hid hh
  have T4 := hid hT
  have F4 := hid (F3.out.trans hp (fun k hk hm => by have hm' : t ≤ k := hm; have := HT.out; omega))
  clear hw hp hh hT hc hc0 hz H3 T3 F3
  have hc := F4.out.cell (HC.out.2.2.2.2.1) (fun h => h)
  have hc0 : w4.cell? ⟨t + 1, 4, none⟩ = some (.int .i64 0) := cell_at H4.out 4
  have hz : w4.frozen? ⟨t + 1, 4, none⟩ = false := frozen_at H4.out 4
  rw [rounds_succ]
  go_wp2_with (refine wpList_index rfl 114 71 (.tmp 11) (.tmp 12) (by with_reducible rfl) Tryz.underlying114 Tryz.underlying71 rfl (by kernel_rfl) _ rfl .i64 4 rfl (by decide) (.pointer (some ⟨t + 1, 4, none⟩)) rfl ?_)
  have hp := Frm.put (M := fun k => t ≤ k) (Frm.refl _ w4) (t + 1) 4 (.int .i64 x4) (fun _ => by show t ≤ t + 1; omega)
  have hh : (w4.setCell ⟨t + 1, 4, none⟩ (.int .i64 x4)).heap[t + 1]? = some (.cells #[.int .i64 x0, .int .i64 x1, .int .i64 x2, .int .i64 x3, .int .i64 x4, .int .i64 0, .int .i64 0, .int .i64 0, .int .i64 0, .int .i64 0, .int .i64 0, .int .i64 0] 25 (0, 0)) := heap_set_at H4.out _
  have hT := Frm.heap (M := (· = t + 1)) ((Frm.refl _ w4).put (t + 1) 4 (.int .i64 x4) (fun _ => rfl)) T4.out (by show ¬ t = t + 1; omega)
  obtain ⟨w5, hw⟩ : ∃ x, x = w4.setCell ⟨t + 1, 4, none⟩ (.int .i64 x4) := ⟨_, rfl⟩
  rw [← hw] at hp hh hT ⊢
  have H5 := hid hh
  have T5 := hid hT
  have F5 := hid (F4.out.trans hp (fun k hk hm => by have hm' : t ≤ k := hm; have := HT.out; omega))
  clear hw hp hh hT hc hc0 hz H4 T4 F4
  have hc := F5.out.cell (HC.out.2.2.2.2.2.1) (fun h => h)
  have hc0 : w5.cell? ⟨t + 1, 5, none⟩ = some (.int .i64 0) := cell_at H5.out 5
  have hz : w5.frozen? ⟨t + 1, 5, none⟩ = false := frozen_at H5.out 5
  rw [rounds_succ]
  go_wp2_with (refine wpList_index rfl 114 71 (.tmp 11) (.tmp 12) (by with_reducible rfl) Tryz.underlying114 Tryz.underlying71 rfl (by kernel_rfl) _ rfl .i64 5 rfl (by decide) (.pointer (some ⟨t + 1, 5, none⟩)) rfl ?_)
  have hp := Frm.put (M := fun k => t ≤ k) (Frm.refl _ w5) (t + 1) 5 (.int .i64 x5) (fun _ => by show t ≤ t + 1; omega)
  have hh : (w5.setCell ⟨t + 1, 5, none⟩ (.int .i64 x5)).heap[t + 1]? = some (.cells #[.int .i64 x0, .int .i64 x1, .int .i64 x2, .int .i64 x3, .int .i64 x4, .int .i64 x5, .int .i64 0, .int .i64 0, .int .i64 0, .int .i64 0, .int .i64 0, .int .i64 0] 25 (0, 0)) := heap_set_at H5.out _
  have hT := Frm.heap (M := (· = t + 1)) ((Frm.refl _ w5).put (t + 1) 5 (.int .i64 x5) (fun _ => rfl)) T5.out (by show ¬ t = t + 1; omega)
  obtain ⟨w6, hw⟩ : ∃ x, x = w5.setCell ⟨t + 1, 5, none⟩ (.int .i64 x5) := ⟨_, rfl⟩
  rw [← hw] at hp hh hT ⊢
  have H6 := hid hh
  have T6 := hid hT
  have F6 := hid (F5.out.trans hp (fun k hk hm => by have hm' : t ≤ k := hm; have := HT.out; omega))
  clear hw hp hh hT hc hc0 hz H5 T5 F5
  have hc := F6.out.cell (HC.out.2.2.2.2.2.2.1) (fun h => h)
  have hc0 : w6.cell? ⟨t + 1, 6, none⟩ = some (.int .i64 0) := cell_at H6.out 6
  have hz : w6.frozen? ⟨t + 1, 6, none⟩ = false := frozen_at H6.out 6
  rw [rounds_succ]
  go_wp2_with (refine wpList_index rfl 114 71 (.tmp 11) (.tmp 12) (by with_reducible rfl) Tryz.underlying114 Tryz.underlying71 rfl (by kernel_rfl) _ rfl .i64 6 rfl (by decide) (.pointer (some ⟨t + 1, 6, none⟩)) rfl ?_)
  have hp := Frm.put (M := fun k => t ≤ k) (Frm.refl _ w6) (t + 1) 6 (.int .i64 x6) (fun _ => by show t ≤ t + 1; omega)
  have hh : (w6.setCell ⟨t + 1, 6, none⟩ (.int .i64 x6)).heap[t + 1]? = some (.cells #[.int .i64 x0, .int .i64 x1, .int .i64 x2, .int .i64 x3, .int .i64 x4, .int .i64 x5, .int .i64 x6, .int .i64 0, .int .i64 0, .int .i64 0, .int .i64 0, .int .i64 0] 25 (0, 0)) := heap_set_at H6.out _
  have hT := Frm.heap (M := (· = t + 1)) ((Frm.refl _ w6).put (t + 1) 6 (.int .i64 x6) (fun _ => rfl)) T6.out (by show ¬ t = t + 1; omega)
  obtain ⟨w7, hw⟩ : ∃ x, x = w6.setCell ⟨t + 1, 6, none⟩ (.int .i64 x6) := ⟨_, rfl⟩
  rw [← hw] at hp hh hT ⊢
  have H7 := hid hh
  have T7 := hid hT
  have F7 := hid (F6.out.trans hp (fun k hk hm => by have hm' : t ≤ k := hm; have := HT.out; omega))
  clear hw hp hh hT hc hc0 hz H6 T6 F6
  have hc := F7.out.cell (HC.out.2.2.2.2.2.2.2.1) (fun h => h)
  have hc0 : w7.cell? ⟨t + 1, 7, none⟩ = some (.int .i64 0) := cell_at H7.out 7
  have hz : w7.frozen? ⟨t + 1, 7, none⟩ = false := frozen_at H7.out 7
  rw [rounds_succ]
  go_wp2_with (refine wpList_index rfl 114 71 (.tmp 11) (.tmp 12) (by with_reducible rfl) Tryz.underlying114 Tryz.underlying71 rfl (by kernel_rfl) _ rfl .i64 7 rfl (by decide) (.pointer (some ⟨t + 1, 7, none⟩)) rfl ?_)
  have hp := Frm.put (M := fun k => t ≤ k) (Frm.refl _ w7) (t + 1) 7 (.int .i64 x7) (fun _ => by show t ≤ t + 1; omega)
  have hh : (w7.setCell ⟨t + 1, 7, none⟩ (.int .i64 x7)).heap[t + 1]? = some (.cells #[.int .i64 x0, .int .i64 x1, .int .i64 x2, .int .i64 x3, .int .i64 x4, .int .i64 x5, .int .i64 x6, .int .i64 x7, .int .i64 0, .int .i64 0, .int .i64 0, .int .i64 0] 25 (0, 0)) := heap_set_at H7.out _
  have hT := Frm.heap (M := (· = t + 1)) ((Frm.refl _ w7).put (t + 1) 7 (.int .i64 x7) (fun _ => rfl)) T7.out (by show ¬ t = t + 1; omega)
  obtain ⟨w8, hw⟩ : ∃ x, x = w7.setCell ⟨t + 1, 7, none⟩ (.int .i64 x7) := ⟨_, rfl⟩
  rw [← hw] at hp hh hT ⊢
  have H8 := hid hh
  have T8 := hid hT
  have F8 := hid (F7.out.trans hp (fun k hk hm => by have hm' : t ≤ k := hm; have := HT.out; omega))
  clear hw hp hh hT hc hc0 hz H7 T7 F7
  have hc := F8.out.cell (HC.out.2.2.2.2.2.2.2.2.1) (fun h => h)
  have hc0 : w8.cell? ⟨t + 1, 8, none⟩ = some (.int .i64 0) := cell_at H8.out 8
  have hz : w8.frozen? ⟨t + 1, 8, none⟩ = false := frozen_at H8.out 8
  rw [rounds_succ]
  go_wp2_with (refine wpList_index rfl 114 71 (.tmp 11) (.tmp 12) (by with_reducible rfl) Tryz.underlying114 Tryz.underlying71 rfl (by kernel_rfl) _ rfl .i64 8 rfl (by decide) (.pointer (some ⟨t + 1, 8, none⟩)) rfl ?_)
  have hp := Frm.put (M := fun k => t ≤ k) (Frm.refl _ w8) (t + 1) 8 (.int .i64 x8) (fun _ => by show t ≤ t + 1; omega)
  have hh : (w8.setCell ⟨t + 1, 8, none⟩ (.int .i64 x8)).heap[t + 1]? = some (.cells #[.int .i64 x0, .int .i64 x1, .int .i64 x2, .int .i64 x3, .int .i64 x4, .int .i64 x5, .int .i64 x6, .int .i64 x7, .int .i64 x8, .int .i64 0, .int .i64 0, .int .i64 0] 25 (0, 0)) := heap_set_at H8.out _
  have hT := Frm.heap (M := (· = t + 1)) ((Frm.refl _ w8).put (t + 1) 8 (.int .i64 x8) (fun _ => rfl)) T8.out (by show ¬ t = t + 1; omega)
  obtain ⟨w9, hw⟩ : ∃ x, x = w8.setCell ⟨t + 1, 8, none⟩ (.int .i64 x8) := ⟨_, rfl⟩
  rw [← hw] at hp hh hT ⊢
  have H9 := hid hh
  have T9 := hid hT
  have F9 := hid (F8.out.trans hp (fun k hk hm => by have hm' : t ≤ k := hm; have := HT.out; omega))
  clear hw hp hh hT hc hc0 hz H8 T8 F8
  have hc := F9.out.cell (HC.out.2.2.2.2.2.2.2.2.2.1) (fun h => h)
  have hc0 : w9.cell? ⟨t + 1, 9, none⟩ = some (.int .i64 0) := cell_at H9.out 9
  have hz : w9.frozen? ⟨t + 1, 9, none⟩ = false := frozen_at H9.out 9
  rw [rounds_succ]
  go_wp2_with (refine wpList_index rfl 114 71 (.tmp 11) (.tmp 12) (by with_reducible rfl) Tryz.underlying114 Tryz.underlying71 rfl (by kernel_rfl) _ rfl .i64 9 rfl (by decide) (.pointer (some ⟨t + 1, 9, none⟩)) rfl ?_)
  have hp := Frm.put (M := fun k => t ≤ k) (Frm.refl _ w9) (t + 1) 9 (.int .i64 x9) (fun _ => by show t ≤ t + 1; omega)
  have hh : (w9.setCell ⟨t + 1, 9, none⟩ (.int .i64 x9)).heap[t + 1]? = some (.cells #[.int .i64 x0, .int .i64 x1, .int .i64 x2, .int .i64 x3, .int .i64 x4, .int .i64 x5, .int .i64 x6, .int .i64 x7, .int .i64 x8, .int .i64 x9, .int .i64 0, .int .i64 0] 25 (0, 0)) := heap_set_at H9.out _
  have hT := Frm.heap (M := (· = t + 1)) ((Frm.refl _ w9).put (t + 1) 9 (.int .i64 x9) (fun _ => rfl)) T9.out (by show ¬ t = t + 1; omega)
  obtain ⟨w10, hw⟩ : ∃ x, x = w9.setCell ⟨t + 1, 9, none⟩ (.int .i64 x9) := ⟨_, rfl⟩
  rw [← hw] at hp hh hT ⊢
  have H10 := hid hh
  have T10 := hid hT
  have F10 := hid (F9.out.trans hp (fun k hk hm => by have hm' : t ≤ k := hm; have := HT.out; omega))
  clear hw hp hh hT hc hc0 hz H9 T9 F9
  have hc := F10.out.cell (HC.out.2.2.2.2.2.2.2.2.2.2.1) (fun h => h)
  have hc0 : w10.cell? ⟨t + 1, 10, none⟩ = some (.int .i64 0) := cell_at H10.out 10
  have hz : w10.frozen? ⟨t + 1, 10, none⟩ = false := frozen_at H10.out 10
  rw [rounds_succ]
  go_wp2_with (refine wpList_index rfl 114 71 (.tmp 11) (.tmp 12) (by with_reducible rfl) Tryz.underlying114 Tryz.underlying71 rfl (by kernel_rfl) _ rfl .i64 10 rfl (by decide) (.pointer (some ⟨t + 1, 10, none⟩)) rfl ?_)
  have hp := Frm.put (M := fun k => t ≤ k) (Frm.refl _ w10) (t + 1) 10 (.int .i64 x10) (fun _ => by show t ≤ t + 1; omega)
  have hh : (w10.setCell ⟨t + 1, 10, none⟩ (.int .i64 x10)).heap[t + 1]? = some (.cells #[.int .i64 x0, .int .i64 x1, .int .i64 x2, .int .i64 x3, .int .i64 x4, .int .i64 x5, .int .i64 x6, .int .i64 x7, .int .i64 x8, .int .i64 x9, .int .i64 x10, .int .i64 0] 25 (0, 0)) := heap_set_at H10.out _
  have hT := Frm.heap (M := (· = t + 1)) ((Frm.refl _ w10).put (t + 1) 10 (.int .i64 x10) (fun _ => rfl)) T10.out (by show ¬ t = t + 1; omega)
  obtain ⟨w11, hw⟩ : ∃ x, x = w10.setCell ⟨t + 1, 10, none⟩ (.int .i64 x10) := ⟨_, rfl⟩
  rw [← hw] at hp hh hT ⊢
  have H11 := hid hh
  have T11 := hid hT
  have F11 := hid (F10.out.trans hp (fun k hk hm => by have hm' : t ≤ k := hm; have := HT.out; omega))
  clear hw hp hh hT hc hc0 hz H10 T10 F10
  have hc := F11.out.cell (HC.out.2.2.2.2.2.2.2.2.2.2.2) (fun h => h)
  have hc0 : w11.cell? ⟨t + 1, 11, none⟩ = some (.int .i64 0) := cell_at H11.out 11
  have hz : w11.frozen? ⟨t + 1, 11, none⟩ = false := frozen_at H11.out 11
  rw [rounds_succ]
  go_wp2_with (refine wpList_index rfl 114 71 (.tmp 11) (.tmp 12) (by with_reducible rfl) Tryz.underlying114 Tryz.underlying71 rfl (by kernel_rfl) _ rfl .i64 11 rfl (by decide) (.pointer (some ⟨t + 1, 11, none⟩)) rfl ?_)
  have hp := Frm.put (M := fun k => t ≤ k) (Frm.refl _ w11) (t + 1) 11 (.int .i64 x11) (fun _ => by show t ≤ t + 1; omega)
  have hh : (w11.setCell ⟨t + 1, 11, none⟩ (.int .i64 x11)).heap[t + 1]? = some (.cells #[.int .i64 x0, .int .i64 x1, .int .i64 x2, .int .i64 x3, .int .i64 x4, .int .i64 x5, .int .i64 x6, .int .i64 x7, .int .i64 x8, .int .i64 x9, .int .i64 x10, .int .i64 x11] 25 (0, 0)) := heap_set_at H11.out _
  have hT := Frm.heap (M := (· = t + 1)) ((Frm.refl _ w11).put (t + 1) 11 (.int .i64 x11) (fun _ => rfl)) T11.out (by show ¬ t = t + 1; omega)
  obtain ⟨w12, hw⟩ : ∃ x, x = w11.setCell ⟨t + 1, 11, none⟩ (.int .i64 x11) := ⟨_, rfl⟩
  rw [← hw] at hp hh hT ⊢
  have H12 := hid hh
  have T12 := hid hT
  have F12 := hid (F11.out.trans hp (fun k hk hm => by have hm' : t ≤ k := hm; have := HT.out; omega))
  clear hw hp hh hT hc hc0 hz H11 T11 F11
  rw [rounds_succ]
  go_wp2_with (first | (refine wpList_load_row rfl 25 (.tmp 4) (by with_reducible rfl) (t + 1) rfl _ _ _ _ H12.out Tryz.underlying25 rfl (by kernel_rfl) ?_) | (refine wpList_store_row rfl 25 (.tmp 2) (.tmp 23) (by with_reducible rfl) t _ rfl rfl _ _ T12.out (by kernel_rfl) rfl (by simp [Value.oneCell']) ?_))
  refine bodyPost_ret (results_cell_slot (by rfl) _ _ t _ _ _ _ _ rfl rfl (setRow_heap _ _ _ _ _ _ T12.out) Tryz.underlying25 rfl (by kernel_rfl)) rfl ⟨rfl, F12.out.setRow _ _ (by have := HT.out; omega)⟩
theorem make_ok (v : Value) (l : List Int) (w : World) (hr : Rd w 1 v l.length (ints .i64 l)) (hl : l.length = 12) : Calls Tryz.prog 65 #[v] w fun r w' => r = .returned (.tuple #[(Sp.ofL l).val, .int .i64 0]) ∧ Frm M0 w w' := by
  obtain ⟨a, c, rfl, h⟩ := hr.shape
  obtain ⟨b, o', rfl⟩ := h (by omega)
  match l, hl with
  | [x0, x1, x2, x3, x4, x5, x6, x7, x8, x9, x10, x11], _ => exact make_ok12 _ c x0 x1 x2 x3 x4 x5 x6 x7 x8 x9 x10 x11 w hr
end Go.Proofs.YtonlmkcolndaaaaGreatDoor
