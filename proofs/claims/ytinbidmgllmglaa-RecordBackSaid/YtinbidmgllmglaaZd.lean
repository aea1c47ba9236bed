/- RecordBack: the walk of the law, for every record and byte. No condition. -/
import Derived.Test.YtinbidmgllmglaaPc
import Derived.Test.YtinbidmgllmglaaMr
namespace Go.Proofs.Ytinbidmgllmglaa
set_option linter.unusedVariables false
set_option linter.unusedSimpArgs false
open Go.RowKit Cp

theorem infoU : (Try.prog.info? 5).map (fun i => (i.zero, i.size, i.bytes)) = some (some (.int .u8 0), 1, 1) := by kernel_rfl
theorem neql_rec (w : World) (k e v n q k' e' v' n' q' : Int) (t t' : ByteArray) (a0 a1 a2 a3 a4 a5 a6 a7 a8 a9 a10 a11 b0 b1 b2 b3 b4 b5 b6 b7 b8 b9 b10 b11 : Int) :
    (binOp .neq 28 (.agg #[.int .i64 k, .int .i64 e, .int .i64 v, .int .i64 n, .int .i64 q, .string t, .int .i64 a0, .int .i64 a1, .int .i64 a2, .int .i64 a3, .int .i64 a4, .int .i64 a5, .int .i64 a6, .int .i64 a7, .int .i64 a8, .int .i64 a9, .int .i64 a10, .int .i64 a11]) (.agg #[.int .i64 k', .int .i64 e', .int .i64 v', .int .i64 n', .int .i64 q', .string t', .int .i64 b0, .int .i64 b1, .int .i64 b2, .int .i64 b3, .int .i64 b4, .int .i64 b5, .int .i64 b6, .int .i64 b7, .int .i64 b8, .int .i64 b9, .int .i64 b10, .int .i64 b11])).run Try.prog w
      = .ok (.bool (!req (Rc.mk k e v n q t (Sp.mk a0 a1 a2 a3 a4 a5 a6 a7 a8 a9 a10 a11)) (Rc.mk k' e' v' n' q' t' (Sp.mk b0 b1 b2 b3 b4 b5 b6 b7 b8 b9 b10 b11)))) w := by
  have h := eql_rec w k e v n q k' e' v' n' q' t t' a0 a1 a2 a3 a4 a5 a6 a7 a8 a9 a10 a11 b0 b1 b2 b3 b4 b5 b6 b7 b8 b9 b10 b11
  rw [run_eql_struct] at h
  rw [run_neq_struct]
  revert h
  generalize (Op.equalIn 10000 _ _ _).run Try.prog w = res
  intro h
  cases res with
  | ok b w' =>
    simp only [Result.andThen_ok] at h ⊢
    have h1 : (Result.ok (Value.bool b) w' : Result Value) = _ := h
    simp only [Result.ok.injEq, Value.bool.injEq] at h1
    obtain ⟨rfl, rfl⟩ := h1
    rfl
  | halt x w' => cases h

set_option maxRecDepth 20000 in
set_option maxHeartbeats 8000000 in
attribute [-go_sem] run_eql_struct run_neq_struct in
attribute [local go_sem] eql_rec neql_rec in
theorem recordBack_walk (W : World) (r : Rc) (hok : r.ok) (x : Int) (hx : (Lit.int .u8 x).wf = true) :
    Calls Try.prog 4 #[r.val, .int .u8 x] W fun y w' => y = .returned (.bool true) ∧ Below W.heap.size W w' := by
  have hts : r.t.size ≤ 9223372036854775807 := hok.2.1
  have hxb := wf_u8 hx
  clear hok hx
  have HVV : Hid (r.val = .agg #[.int .i64 r.k, .int .i64 r.e, .int .i64 r.w, .int .i64 r.n, .int .i64 r.q, .string r.t, .int .i64 r.p.s0, .int .i64 r.p.s1, .int .i64 r.p.s2, .int .i64 r.p.s3, .int .i64 r.p.s4, .int .i64 r.p.s5, .int .i64 r.p.s6, .int .i64 r.p.s7, .int .i64 r.p.s8, .int .i64 r.p.s9, .int .i64 r.p.s10, .int .i64 r.p.s11]) := rfl
  rw [HVV.out]
  go_enter Try.func4, Try.ntmps4
  go_wp2_with fail
  refine (rlives_calls _).mono ?_
  rintro _ w1 ⟨rfl, hf⟩
  have B1 := hid (hf.heap (heap_alloc_last W (.cells #[.int .i64 r.k, .int .i64 r.e, .int .i64 r.w, .int .i64 r.n, .int .i64 r.q, .string r.t, .int .i64 r.p.s0, .int .i64 r.p.s1, .int .i64 r.p.s2, .int .i64 r.p.s3, .int .i64 r.p.s4, .int .i64 r.p.s5, .int .i64 r.p.s6, .int .i64 r.p.s7, .int .i64 r.p.s8, .int .i64 r.p.s9, .int .i64 r.p.s10, .int .i64 r.p.s11] 28)) (fun h => h))
  have F1 := hid (((Frm.refl M0 W).alloc (.cells #[.int .i64 r.k, .int .i64 r.e, .int .i64 r.w, .int .i64 r.n, .int .i64 r.q, .string r.t, .int .i64 r.p.s0, .int .i64 r.p.s1, .int .i64 r.p.s2, .int .i64 r.p.s3, .int .i64 r.p.s4, .int .i64 r.p.s5, .int .i64 r.p.s6, .int .i64 r.p.s7, .int .i64 r.p.s8, .int .i64 r.p.s9, .int .i64 r.p.s10, .int .i64 r.p.s11] 28)).then0 hf)
  clear hf
  go_wp2_with (refine wpList_load_row rfl 28 (.tmp 2) (by with_reducible rfl) W.heap.size (by kernel_rfl) _ _ _ _ B1.out Try.underlying28 rfl (by kernel_rfl) ?_)
  rw [← HVV.out]
  refine (rgood_calls r _ hts).mono ?_
  rintro _ w2 ⟨rfl, hf⟩
  rw [HVV.out]
  have F2 := hid (F1.out.then0 hf)
  clear hf B1 F1 hts
  have hrg := good_right r
  obtain ⟨⟨k, e, v, n, q, t, ⟨p0, p1, p2, p3, p4, p5, p6, p7, p8, p9, p10, p11⟩⟩, HGD⟩ : ∃ g, Hid (goodR r = g) := ⟨_, rfl⟩
  rw [HGD.out] at hrg ⊢
  have HG := hid hrg
  have ht64 : t.size ≤ 64 := (right_facts hrg).2.2.2.2.2.1
  have hwl := wire_len hrg
  have hRGd := read_good hrg
  have hRL := read_less hrg
  have hRM := read_more hrg x
  have hBG := bytes_good hrg
  have hBy := wire_bytey hrg
  obtain ⟨L, HL⟩ : ∃ l, Hid (wireL ⟨k, e, v, n, q, t, ⟨p0, p1, p2, p3, p4, p5, p6, p7, p8, p9, p10, p11⟩⟩ = l) := ⟨_, rfl⟩
  rw [HL.out] at hwl hRGd hRL hRM hBG hBy
  obtain ⟨m, hm⟩ : ∃ m, L.length = m + 1 := ⟨L.length - 1, by omega⟩
  have hm1 : L.length - 1 = m := by omega
  rw [hm1] at hRL
  have HRG := hid hRGd
  have HRL := hid hRL
  have HRM := hid hRM
  have HBG := hid hBG
  have HBy := hid hBy
  have hm1000 : m ≤ 999 := by omega
  have HM := hid hm
  clear hrg hwl hRGd hRL hRM hBG hBy hm hm1 HGD
  have HV : Hid (Rc.val ⟨k, e, v, n, q, t, ⟨p0, p1, p2, p3, p4, p5, p6, p7, p8, p9, p10, p11⟩⟩ = .agg #[.int .i64 k, .int .i64 e, .int .i64 v, .int .i64 n, .int .i64 q, .string t, .int .i64 p0, .int .i64 p1, .int .i64 p2, .int .i64 p3, .int .i64 p4, .int .i64 p5, .int .i64 p6, .int .i64 p7, .int .i64 p8, .int .i64 p9, .int .i64 p10, .int .i64 p11]) := rfl
  have HZV : Hid (Rc.zero.val = .agg #[.int .i64 0, .int .i64 0, .int .i64 0, .int .i64 0, .int .i64 0, .string ⟨#[]⟩, .int .i64 0, .int .i64 0, .int .i64 0, .int .i64 0, .int .i64 0, .int .i64 0, .int .i64 0, .int .i64 0, .int .i64 0, .int .i64 0, .int .i64 0, .int .i64 0]) := rfl
  rw [HV.out]
  go_wp2_with (first | (refine wpList_store_row rfl 28 (.tmp 5) (.tmp 18) (by with_reducible rfl) w2.heap.size #[.int .i64 k, .int .i64 e, .int .i64 v, .int .i64 n, .int .i64 q, .string t, .int .i64 p0, .int .i64 p1, .int .i64 p2, .int .i64 p3, .int .i64 p4, .int .i64 p5, .int .i64 p6, .int .i64 p7, .int .i64 p8, .int .i64 p9, .int .i64 p10, .int .i64 p11] (by kernel_rfl) (by kernel_rfl) _ _ (new1 w2 (.cells #[.int .i64 0, .int .i64 0, .int .i64 0, .int .i64 0, .int .i64 0, .string ⟨#[]⟩, .int .i64 0, .int .i64 0, .int .i64 0, .int .i64 0, .int .i64 0, .int .i64 0, .int .i64 0, .int .i64 0, .int .i64 0, .int .i64 0, .int .i64 0, .int .i64 0] 28)) (by kernel_rfl) rfl (by simp [Value.oneCell']) ?_; have hh := hid (setRow_heap _ w2.heap.size _ (#[.int .i64 k, .int .i64 e, .int .i64 v, .int .i64 n, .int .i64 q, .string t, .int .i64 p0, .int .i64 p1, .int .i64 p2, .int .i64 p3, .int .i64 p4, .int .i64 p5, .int .i64 p6, .int .i64 p7, .int .i64 p8, .int .i64 p9, .int .i64 p10, .int .i64 p11]) _ _ (new1 w2 (.cells #[.int .i64 0, .int .i64 0, .int .i64 0, .int .i64 0, .int .i64 0, .string ⟨#[]⟩, .int .i64 0, .int .i64 0, .int .i64 0, .int .i64 0, .int .i64 0, .int .i64 0, .int .i64 0, .int .i64 0, .int .i64 0, .int .i64 0, .int .i64 0, .int .i64 0] 28))); have hf3 := hid ((F2.out.alloc (.cells #[.int .i64 0, .int .i64 0, .int .i64 0, .int .i64 0, .int .i64 0, .string ⟨#[]⟩, .int .i64 0, .int .i64 0, .int .i64 0, .int .i64 0, .int .i64 0, .int .i64 0, .int .i64 0, .int .i64 0, .int .i64 0, .int .i64 0, .int .i64 0, .int .i64 0] 28)).setRow w2.heap.size (#[.int .i64 k, .int .i64 e, .int .i64 v, .int .i64 n, .int .i64 q, .string t, .int .i64 p0, .int .i64 p1, .int .i64 p2, .int .i64 p3, .int .i64 p4, .int .i64 p5, .int .i64 p6, .int .i64 p7, .int .i64 p8, .int .i64 p9, .int .i64 p10, .int .i64 p11]) F2.out.size)) | (refine wpList_load_row rfl 28 (.tmp 5) (by with_reducible rfl) w2.heap.size (by kernel_rfl) _ _ _ _ hh.out Try.underlying28 rfl (by kernel_rfl) ?_))
  obtain ⟨b5, hb5⟩ : ∃ b, b = w2.heap.size := ⟨_, rfl⟩
  obtain ⟨w3, hw3⟩ : ∃ y, y = (w2.alloc (.cells #[.int .i64 0, .int .i64 0, .int .i64 0, .int .i64 0, .int .i64 0, .string ⟨#[]⟩, .int .i64 0, .int .i64 0, .int .i64 0, .int .i64 0, .int .i64 0, .int .i64 0, .int .i64 0, .int .i64 0, .int .i64 0, .int .i64 0, .int .i64 0, .int .i64 0] 28)).setRow w2.heap.size (#[.int .i64 k, .int .i64 e, .int .i64 v, .int .i64 n, .int .i64 q, .string t, .int .i64 p0, .int .i64 p1, .int .i64 p2, .int .i64 p3, .int .i64 p4, .int .i64 p5, .int .i64 p6, .int .i64 p7, .int .i64 p8, .int .i64 p9, .int .i64 p10, .int .i64 p11]) := ⟨_, rfl⟩
  have H3 := hid hh.out
  have F3 := hid hf3.out
  rw [← hw3] at H3 F3
  rw [← hw3]
  rw [← hb5] at H3
  rw [← hb5]
  clear hw3 hb5 hh hf3
  rw [← HV.out]
  refine (bytes_calls _ w3 (by show t.size ≤ 100000; omega)).mono ?_
  rintro _ w4 ⟨v6, rfl, hr, hf⟩
  rw [HV.out]
  rw [HBG.out] at hr ⊢
  simp only [] at hr ⊢
  have R4 : Hid (RdB w4 v6 L) := hid (fun wx hx => hr.frm0 hx)
  obtain ⟨a6, c6, rfl, hsh⟩ := hr.shape
  obtain ⟨sb6, so6, rfl⟩ := hsh (by have := HM.out; omega)
  obtain ⟨_, hc61, hc62⟩ := hr.cap
  have H4 := hid (hf.heap H3.out (fun h => h))
  have F4 := hid (F3.out.then0 hf)
  clear hr hf hsh H3 F3
  go_wp2_with fail
  refine (read_rec_calls _ L w4 (by have := HM.out; omega) (R4.out _ (Frm.refl _ _)) HBy.out).mono ?_
  rintro _ w5 ⟨rfl, hf⟩
  rw [HRG.out]
  simp only []
  rw [HV.out]
  have H5 := hid (hf.heap H4.out (fun h => h))
  have F5 := hid (F4.out.then0 hf)
  have G5 := hid hf
  clear hf H4
  have hreq : req ⟨k, e, v, n, q, t, ⟨p0, p1, p2, p3, p4, p5, p6, p7, p8, p9, p10, p11⟩⟩ ⟨k, e, v, n, q, t, ⟨p0, p1, p2, p3, p4, p5, p6, p7, p8, p9, p10, p11⟩⟩ = true := by simp [req]
  have hL0 : (((m + 1 : Nat) : Int) == 0) = false := beq_eq_false_iff_ne.2 (by omega)
  rw [HM.out] at hc61 ⊢
  go_wp2_with (first | (refine wpList_store_row rfl 28 (.tmp 8) (.tmp 27) (by with_reducible rfl) w5.heap.size #[.int .i64 k, .int .i64 e, .int .i64 v, .int .i64 n, .int .i64 q, .string t, .int .i64 p0, .int .i64 p1, .int .i64 p2, .int .i64 p3, .int .i64 p4, .int .i64 p5, .int .i64 p6, .int .i64 p7, .int .i64 p8, .int .i64 p9, .int .i64 p10, .int .i64 p11] (by kernel_rfl) (by kernel_rfl) _ _ (new1 w5 (.cells #[.int .i64 0, .int .i64 0, .int .i64 0, .int .i64 0, .int .i64 0, .string ⟨#[]⟩, .int .i64 0, .int .i64 0, .int .i64 0, .int .i64 0, .int .i64 0, .int .i64 0, .int .i64 0, .int .i64 0, .int .i64 0, .int .i64 0, .int .i64 0, .int .i64 0] 28)) (by kernel_rfl) rfl (by simp [Value.oneCell']) ?_; have hh := hid (setRow_heap _ w5.heap.size _ (#[.int .i64 k, .int .i64 e, .int .i64 v, .int .i64 n, .int .i64 q, .string t, .int .i64 p0, .int .i64 p1, .int .i64 p2, .int .i64 p3, .int .i64 p4, .int .i64 p5, .int .i64 p6, .int .i64 p7, .int .i64 p8, .int .i64 p9, .int .i64 p10, .int .i64 p11]) _ _ (new1 w5 (.cells #[.int .i64 0, .int .i64 0, .int .i64 0, .int .i64 0, .int .i64 0, .string ⟨#[]⟩, .int .i64 0, .int .i64 0, .int .i64 0, .int .i64 0, .int .i64 0, .int .i64 0, .int .i64 0, .int .i64 0, .int .i64 0, .int .i64 0, .int .i64 0, .int .i64 0] 28))); have hf6 := hid (((Frm.refl M0 w5).alloc (.cells #[.int .i64 0, .int .i64 0, .int .i64 0, .int .i64 0, .int .i64 0, .string ⟨#[]⟩, .int .i64 0, .int .i64 0, .int .i64 0, .int .i64 0, .int .i64 0, .int .i64 0, .int .i64 0, .int .i64 0, .int .i64 0, .int .i64 0, .int .i64 0, .int .i64 0] 28)).setRow w5.heap.size (#[.int .i64 k, .int .i64 e, .int .i64 v, .int .i64 n, .int .i64 q, .string t, .int .i64 p0, .int .i64 p1, .int .i64 p2, .int .i64 p3, .int .i64 p4, .int .i64 p5, .int .i64 p6, .int .i64 p7, .int .i64 p8, .int .i64 p9, .int .i64 p10, .int .i64 p11]) (Nat.le_refl _))) | (refine wpList_load_row_w (by kernel_rfl) 28 (.tmp 8) (by with_reducible rfl) w5.heap.size (by kernel_rfl) _ _ _ _ hh.out Try.underlying28 rfl (by kernel_rfl) ?_) | (refine wpList_load_row_w (by kernel_rfl) 28 (.tmp 5) (by with_reducible rfl) b5 (by kernel_rfl) _ _ _ _ (hf6.out.heap H5.out (fun h => h)) Try.underlying28 rfl (by kernel_rfl) ?_))
  obtain ⟨w6, hw6⟩ : ∃ y, y = (w5.alloc (.cells #[.int .i64 0, .int .i64 0, .int .i64 0, .int .i64 0, .int .i64 0, .string ⟨#[]⟩, .int .i64 0, .int .i64 0, .int .i64 0, .int .i64 0, .int .i64 0, .int .i64 0, .int .i64 0, .int .i64 0, .int .i64 0, .int .i64 0, .int .i64 0, .int .i64 0] 28)).setRow w5.heap.size (#[.int .i64 k, .int .i64 e, .int .i64 v, .int .i64 n, .int .i64 q, .string t, .int .i64 p0, .int .i64 p1, .int .i64 p2, .int .i64 p3, .int .i64 p4, .int .i64 p5, .int .i64 p6, .int .i64 p7, .int .i64 p8, .int .i64 p9, .int .i64 p10, .int .i64 p11]) := ⟨_, rfl⟩
  have F6 := hid (F5.out.then0 hf6.out)
  have G6 := hid (G5.out.then0 hf6.out)
  rw [← hw6] at F6 G6
  rw [← hw6]
  clear hw6 hh hf6 hreq hL0 H5 F5 G5
  have RT6 : Hid (RdB w4 (.slice (some ⟨sb6, so6, none⟩) m c6) (L.take m)) := hid (by have h0 := R4.out; exact h0.take m (by have := HM.out; omega))
  refine (read_rec_calls _ (L.take m) w6 (by rw [List.length_take]; omega) (RT6.out _ G6.out) (fun x hx => HBy.out x (List.mem_of_mem_take hx))).mono ?_
  rintro _ w7 ⟨rfl, hf⟩
  rw [HRL.out]
  simp only []
  rw [HZV.out]
  have F7 := hid (F6.out.then0 hf)
  have G7 := hid (G6.out.then0 hf)
  clear hf F6 G6 RT6
  go_upto_region 10 with (refine wpList_store_row rfl 28 (.tmp 10) (.tmp 52) (by with_reducible rfl) w7.heap.size #[.int .i64 0, .int .i64 0, .int .i64 0, .int .i64 0, .int .i64 0, .string ⟨#[]⟩, .int .i64 0, .int .i64 0, .int .i64 0, .int .i64 0, .int .i64 0, .int .i64 0, .int .i64 0, .int .i64 0, .int .i64 0, .int .i64 0, .int .i64 0, .int .i64 0] (by kernel_rfl) (by kernel_rfl) _ _ (new1 w7 (.cells #[.int .i64 0, .int .i64 0, .int .i64 0, .int .i64 0, .int .i64 0, .string ⟨#[]⟩, .int .i64 0, .int .i64 0, .int .i64 0, .int .i64 0, .int .i64 0, .int .i64 0, .int .i64 0, .int .i64 0, .int .i64 0, .int .i64 0, .int .i64 0, .int .i64 0] 28)) (by kernel_rfl) rfl (by simp [Value.oneCell']) ?_)
  obtain ⟨w8, hw8⟩ : ∃ y, y = (w7.alloc (.cells #[.int .i64 0, .int .i64 0, .int .i64 0, .int .i64 0, .int .i64 0, .string ⟨#[]⟩, .int .i64 0, .int .i64 0, .int .i64 0, .int .i64 0, .int .i64 0, .int .i64 0, .int .i64 0, .int .i64 0, .int .i64 0, .int .i64 0, .int .i64 0, .int .i64 0] 28)).setRow w7.heap.size (#[.int .i64 0, .int .i64 0, .int .i64 0, .int .i64 0, .int .i64 0, .string ⟨#[]⟩, .int .i64 0, .int .i64 0, .int .i64 0, .int .i64 0, .int .i64 0, .int .i64 0, .int .i64 0, .int .i64 0, .int .i64 0, .int .i64 0, .int .i64 0, .int .i64 0]) := ⟨_, rfl⟩
  have F8 := hid ((F7.out.alloc (.cells #[.int .i64 0, .int .i64 0, .int .i64 0, .int .i64 0, .int .i64 0, .string ⟨#[]⟩, .int .i64 0, .int .i64 0, .int .i64 0, .int .i64 0, .int .i64 0, .int .i64 0, .int .i64 0, .int .i64 0, .int .i64 0, .int .i64 0, .int .i64 0, .int .i64 0] 28)).setRow w7.heap.size (#[.int .i64 0, .int .i64 0, .int .i64 0, .int .i64 0, .int .i64 0, .string ⟨#[]⟩, .int .i64 0, .int .i64 0, .int .i64 0, .int .i64 0, .int .i64 0, .int .i64 0, .int .i64 0, .int .i64 0, .int .i64 0, .int .i64 0, .int .i64 0, .int .i64 0]) F7.out.size)
  have G8 := hid ((G7.out.alloc (.cells #[.int .i64 0, .int .i64 0, .int .i64 0, .int .i64 0, .int .i64 0, .string ⟨#[]⟩, .int .i64 0, .int .i64 0, .int .i64 0, .int .i64 0, .int .i64 0, .int .i64 0, .int .i64 0, .int .i64 0, .int .i64 0, .int .i64 0, .int .i64 0, .int .i64 0] 28)).setRow w7.heap.size (#[.int .i64 0, .int .i64 0, .int .i64 0, .int .i64 0, .int .i64 0, .string ⟨#[]⟩, .int .i64 0, .int .i64 0, .int .i64 0, .int .i64 0, .int .i64 0, .int .i64 0, .int .i64 0, .int .i64 0, .int .i64 0, .int .i64 0, .int .i64 0, .int .i64 0]) G7.out.size)
  rw [← hw8] at F8 G8
  rw [← hw8]
  clear hw8 F7 G7
  have hR8 : Hid (Rd w8 1 (.slice (some ⟨sb6, so6, none⟩) (m + 1) c6) L.length (ints .u8 L)) := hid (by have := R4.out _ G8.out; rw [HM.out] at this ⊢; exact this)
  go_wp2_with (first | (at_builtin; refine wpList_push_ints rfl (.tmp 54) (.tmp 55) 22 rfl W.heap.size 5 .u8 1 Try.underlying22 infoU _ [] rfl (World.ownsRow_nil _ _ _ _) (.slice (some ⟨sb6, so6, none⟩) (m + 1) c6) L rfl hR8.out (by have := HM.out; simp; omega) (by have := HM.out; simp; omega) F8.out.size ?_; intro v9 w9 ho hg; have O9 := hid ho; have HG9 := hid hg; clear ho hg) | (at_builtin; refine wpList_push_int rfl (.tmp 58) (.tmp 60) 22 rfl W.heap.size 5 .u8 1 Try.underlying22 infoU _ ([] ++ L) _ rfl O9.out rfl (by have := HM.out; simp [maxLen]; omega) (by have := HM.out; simp; omega) (Nat.le_trans F8.out.size HG9.out.size) ?_; intro v10 w10 ho hg; have O10 := hid ho; have HG10 := hid hg; clear ho hg))
  have F9 := hid (F8.out.grown HG9.out (fun k hk => by cases hk))
  have F10 := hid (F9.out.grown HG10.out (fun k hk hlt => by have := (O9.out.lt k hk).1; omega))
  refine (read_rec_calls _ ([] ++ L ++ [x]) w10 (by have := HM.out; simp; omega) (Rd.ofOwns O10.out) (fun y hy => (List.mem_append.1 (by simpa only [List.nil_append] using hy)).elim (fun h => HBy.out y h) (fun h => by rw [List.mem_singleton] at h; subst h; exact hxb))).mono ?_
  rintro _ w11 ⟨rfl, hf⟩
  rw [List.nil_append, HRM.out]
  simp only []
  rw [HZV.out]
  have F11 := hid (F10.out.then0 hf)
  clear hf
  go_wp2_with (refine wpList_store_row rfl 28 (.tmp 13) (.tmp 63) (by with_reducible rfl) w11.heap.size #[.int .i64 0, .int .i64 0, .int .i64 0, .int .i64 0, .int .i64 0, .string ⟨#[]⟩, .int .i64 0, .int .i64 0, .int .i64 0, .int .i64 0, .int .i64 0, .int .i64 0, .int .i64 0, .int .i64 0, .int .i64 0, .int .i64 0, .int .i64 0, .int .i64 0] (by kernel_rfl) (by kernel_rfl) _ _ (new1 w11 (.cells #[.int .i64 0, .int .i64 0, .int .i64 0, .int .i64 0, .int .i64 0, .string ⟨#[]⟩, .int .i64 0, .int .i64 0, .int .i64 0, .int .i64 0, .int .i64 0, .int .i64 0, .int .i64 0, .int .i64 0, .int .i64 0, .int .i64 0, .int .i64 0, .int .i64 0] 28)) (by kernel_rfl) rfl (by simp [Value.oneCell']) ?_)
  go_ret
  exact ⟨rfl, ((F11.out.alloc (.cells #[.int .i64 0, .int .i64 0, .int .i64 0, .int .i64 0, .int .i64 0, .string ⟨#[]⟩, .int .i64 0, .int .i64 0, .int .i64 0, .int .i64 0, .int .i64 0, .int .i64 0, .int .i64 0, .int .i64 0, .int .i64 0, .int .i64 0, .int .i64 0, .int .i64 0] 28)).setRow w11.heap.size (#[.int .i64 0, .int .i64 0, .int .i64 0, .int .i64 0, .int .i64 0, .string ⟨#[]⟩, .int .i64 0, .int .i64 0, .int .i64 0, .int .i64 0, .int .i64 0, .int .i64 0, .int .i64 0, .int .i64 0, .int .i64 0, .int .i64 0, .int .i64 0, .int .i64 0]) F11.out.size).below⟩
end Go.Proofs.Ytinbidmgllmglaa
