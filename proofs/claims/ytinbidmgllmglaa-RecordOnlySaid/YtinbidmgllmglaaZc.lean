/- RecordOnly: the walk of the law, for every slice of bytes. No condition. -/
import Derived.Test.YtinbidmgllmglaaZa
namespace Go.Proofs.Ytinbidmgllmglaa
set_option linter.unusedVariables false
set_option linter.unusedSimpArgs false
open Go.RowKit Cp

attribute [-go_sem] run_eql_struct in
attribute [local go_sem] eql_rec in
set_option maxRecDepth 20000 in
set_option maxHeartbeats 8000000 in
theorem recordOnly_walk (W : World) (v : Value) (l0 : List Int) (hr : Rd W 1 v l0.length (ints .u8 l0)) (hwf : ∀ x ∈ l0, (Lit.int .u8 x).wf = true) :
    Calls Try.prog 5 #[v] W fun e w' => e = .returned (.bool true) ∧ Below W.heap.size W w' := by
  have hby0 : Hid (∀ x ∈ l0, 0 ≤ x ∧ x < 256) := fun x hx => wf_u8 (hwf x hx)
  obtain ⟨a, c, rfl, hab⟩ := hr.shape
  obtain ⟨_, hc1, hc2⟩ := hr.cap
  have hrB : RdB W (.slice a l0.length c) l0 := fun wx hx => hr.frm0 hx
  have HRB := hid hrB
  clear hr hwf hrB
  by_cases h : l0.length ≤ 150
  case pos =>
    have HB := HRB
    clear HRB hab
    obtain ⟨l, hl⟩ : ∃ l, l = l0 := ⟨_, rfl⟩
    rw [← hl] at HB hby0 h hc1
    rw [← hl]
    clear hl
    have hby : Hid (Bytey l) := hby0
    clear hby0
    have hmin : min (l.length : Int) 150 = (l.length : Int) := by omega
    go_enter Try.func5, Try.ntmps5
    go_wp2_with fail
    refine (rlives_calls W).mono ?_
    rintro _ w1 ⟨rfl, hf⟩
    have HF1 := hid hf
    clear hf
    go_wp2_with fail
    clear hmin
    refine (read_rec_calls _ l w1 (by omega) (HB.out _ HF1.out) hby.out).mono ?_
    rintro _ w2 ⟨rfl, hf⟩
    have HF2 := hid (HF1.out.then0 hf)
    clear hf
    have hrb := hid (read_bytes hby.out)
    have hsm := read_small hby.out
    obtain ⟨⟨ra, x⟩, HX⟩ : ∃ g, Hid (readF l = g) := ⟨_, rfl⟩
    rw [HX.out] at hrb hsm ⊢
    simp only [] at hsm ⊢
    obtain ⟨k, e, v, n, q, t, ⟨p0, p1, p2, p3, p4, p5, p6, p7, p8, p9, p10, p11⟩⟩ := ra
    simp only [] at hsm
    have HV : Hid (Rc.val ⟨k, e, v, n, q, t, ⟨p0, p1, p2, p3, p4, p5, p6, p7, p8, p9, p10, p11⟩⟩ = .agg #[.int .i64 k, .int .i64 e, .int .i64 v, .int .i64 n, .int .i64 q, .string t, .int .i64 p0, .int .i64 p1, .int .i64 p2, .int .i64 p3, .int .i64 p4, .int .i64 p5, .int .i64 p6, .int .i64 p7, .int .i64 p8, .int .i64 p9, .int .i64 p10, .int .i64 p11]) := rfl
    rw [HV.out]
    go_wp2_with (first | (refine wpList_store_row rfl 28 (.tmp 3) (.tmp 17) (by with_reducible rfl) w2.heap.size #[.int .i64 k, .int .i64 e, .int .i64 v, .int .i64 n, .int .i64 q, .string t, .int .i64 p0, .int .i64 p1, .int .i64 p2, .int .i64 p3, .int .i64 p4, .int .i64 p5, .int .i64 p6, .int .i64 p7, .int .i64 p8, .int .i64 p9, .int .i64 p10, .int .i64 p11] (by kernel_rfl) (by kernel_rfl) _ _ (new1 w2 (.cells #[.int .i64 0, .int .i64 0, .int .i64 0, .int .i64 0, .int .i64 0, .string ⟨#[]⟩, .int .i64 0, .int .i64 0, .int .i64 0, .int .i64 0, .int .i64 0, .int .i64 0, .int .i64 0, .int .i64 0, .int .i64 0, .int .i64 0, .int .i64 0, .int .i64 0] 28)) (by kernel_rfl) rfl (by simp [Value.oneCell']) ?_; have hh := hid (setRow_heap _ w2.heap.size _ (#[.int .i64 k, .int .i64 e, .int .i64 v, .int .i64 n, .int .i64 q, .string t, .int .i64 p0, .int .i64 p1, .int .i64 p2, .int .i64 p3, .int .i64 p4, .int .i64 p5, .int .i64 p6, .int .i64 p7, .int .i64 p8, .int .i64 p9, .int .i64 p10, .int .i64 p11]) _ _ (new1 w2 (.cells #[.int .i64 0, .int .i64 0, .int .i64 0, .int .i64 0, .int .i64 0, .string ⟨#[]⟩, .int .i64 0, .int .i64 0, .int .i64 0, .int .i64 0, .int .i64 0, .int .i64 0, .int .i64 0, .int .i64 0, .int .i64 0, .int .i64 0, .int .i64 0, .int .i64 0] 28))); have hf3 := hid ((HF2.out.alloc (.cells #[.int .i64 0, .int .i64 0, .int .i64 0, .int .i64 0, .int .i64 0, .string ⟨#[]⟩, .int .i64 0, .int .i64 0, .int .i64 0, .int .i64 0, .int .i64 0, .int .i64 0, .int .i64 0, .int .i64 0, .int .i64 0, .int .i64 0, .int .i64 0, .int .i64 0] 28)).setRow w2.heap.size (#[.int .i64 k, .int .i64 e, .int .i64 v, .int .i64 n, .int .i64 q, .string t, .int .i64 p0, .int .i64 p1, .int .i64 p2, .int .i64 p3, .int .i64 p4, .int .i64 p5, .int .i64 p6, .int .i64 p7, .int .i64 p8, .int .i64 p9, .int .i64 p10, .int .i64 p11]) HF2.out.size)) | (refine wpList_load_row rfl 28 (.tmp 3) (by with_reducible rfl) w2.heap.size (by kernel_rfl) _ _ _ _ hh.out Try.underlying28 rfl (by kernel_rfl) ?_))
    obtain ⟨b3, hb3⟩ : ∃ b, b = w2.heap.size := ⟨_, rfl⟩
    obtain ⟨w3, hw3⟩ : ∃ y, y = (w2.alloc (.cells #[.int .i64 0, .int .i64 0, .int .i64 0, .int .i64 0, .int .i64 0, .string ⟨#[]⟩, .int .i64 0, .int .i64 0, .int .i64 0, .int .i64 0, .int .i64 0, .int .i64 0, .int .i64 0, .int .i64 0, .int .i64 0, .int .i64 0, .int .i64 0, .int .i64 0] 28)).setRow w2.heap.size (#[.int .i64 k, .int .i64 e, .int .i64 v, .int .i64 n, .int .i64 q, .string t, .int .i64 p0, .int .i64 p1, .int .i64 p2, .int .i64 p3, .int .i64 p4, .int .i64 p5, .int .i64 p6, .int .i64 p7, .int .i64 p8, .int .i64 p9, .int .i64 p10, .int .i64 p11]) := ⟨_, rfl⟩
    have H3 := hid hh.out
    have HF3 := hid hf3.out
    rw [← hw3] at H3 HF3
    rw [← hw3]
    rw [← hb3] at H3
    rw [← hb3]
    clear hw3 hb3 hh hf3
    rw [← HV.out]
    refine (bytes_calls _ w3 (by simp only []; omega)).mono ?_
    rintro _ w4 ⟨vb, rfl, hr, hf⟩
    have H4 := hid (hf.heap H3.out (fun h => h))
    have HF4 := hid (HF3.out.then0 hf)
    clear hf
    rw [HV.out]
    rcases hrb.out with ⟨hx, hrg, hbb⟩ | ⟨hx, hbb⟩
    · try simp only [] at hx hrg hbb
      subst hx
      rw [hbb] at hr ⊢
      try simp only [] at hr ⊢
      have hs1 := run_str (P := Try.prog) 22 9 5 Try.underlying22 Try.underlying9 Try.underlying5 hr
      have hs2 := run_str (P := Try.prog) 22 9 5 Try.underlying22 Try.underlying9 Try.underlying5 (HB.out _ HF4.out)
      have HRG := hid hrg
      clear hrb hr hbb hrg
      go_wp2_with (refine wpList_load_row_w (by kernel_rfl) 28 (.tmp 3) (by with_reducible rfl) b3 (by kernel_rfl) _ _ _ _ H4.out Try.underlying28 rfl (by kernel_rfl) ?_)
      rw [← HV.out]
      refine (right_calls _ _).mono ?_
      rintro _ w5 ⟨rfl, hf⟩
      have HF5 := hid (HF4.out.then0 hf)
      clear hf hs1 hs2
      rw [HRG.out, HV.out]
      go_wp2_with fail
      go_ret
      exact ⟨rfl, HF5.out.below⟩
    · simp only [Prod.mk.injEq] at hx
      try simp only [] at hbb
      have hx2 := hx.2
      subst hx2
      have hzz : Hid (⟨k, e, v, n, q, t, ⟨p0, p1, p2, p3, p4, p5, p6, p7, p8, p9, p10, p11⟩⟩ = Rc.zero) := hid hx.1
      rw [hbb] at hr ⊢
      try simp only [] at hr ⊢
      have hreq : req ⟨k, e, v, n, q, t, ⟨p0, p1, p2, p3, p4, p5, p6, p7, p8, p9, p10, p11⟩⟩ ⟨0, 0, 0, 0, 0, ⟨#[]⟩, ⟨0, 0, 0, 0, 0, 0, 0, 0, 0, 0, 0, 0⟩⟩ = true := by rw [hzz.out]; rfl
      clear hrb hr hbb hx
      go_wp2_with (refine wpList_load_row rfl 28 (.tmp 3) (by with_reducible rfl) b3 (by kernel_rfl) _ _ _ _ H4.out Try.underlying28 rfl (by kernel_rfl) ?_)
      go_ret
      exact ⟨by first | rfl | simp, HF4.out.below⟩
  case neg =>
    obtain ⟨b, o, rfl⟩ := hab (by omega)
    have HB : Hid (RdB W (.slice (some ⟨b, o, none⟩) (l0.take 150).length c) (l0.take 150)) := hid (fun wx hx => by rw [List.length_take, Nat.min_eq_left (by omega)]; have := (HRB.out wx hx).take 150 (by omega); rwa [List.length_take, Nat.min_eq_left (by omega)] at this)
    have hby : Hid (Bytey (l0.take 150)) := fun x hx => hby0.out x (List.mem_of_mem_take hx)
    have hlen : (l0.take 150).length = 150 := by rw [List.length_take]; omega
    obtain ⟨l, hl⟩ : ∃ l, l = l0.take 150 := ⟨_, rfl⟩
    rw [← hl] at HB hby hlen
    have hle : ((150 : Int)) ≤ (l0.length : Int) := by omega
    have hmin : min (l0.length : Int) 150 = 150 := by omega
    clear hl hab HRB hby0
    go_enter Try.func5, Try.ntmps5
    go_wp2_with fail
    refine (rlives_calls W).mono ?_
    rintro _ w1 ⟨rfl, hf⟩
    have HF1 := hid hf
    clear hf
    go_wp2_with fail
    rw [← hlen]
    have h : l.length ≤ 150 := by omega
    clear hlen hle hmin
    refine (read_rec_calls _ l w1 (by omega) (HB.out _ HF1.out) hby.out).mono ?_
    rintro _ w2 ⟨rfl, hf⟩
    have HF2 := hid (HF1.out.then0 hf)
    clear hf
    have hrb := hid (read_bytes hby.out)
    have hsm := read_small hby.out
    obtain ⟨⟨ra, x⟩, HX⟩ : ∃ g, Hid (readF l = g) := ⟨_, rfl⟩
    rw [HX.out] at hrb hsm ⊢
    simp only [] at hsm ⊢
    obtain ⟨k, e, v, n, q, t, ⟨p0, p1, p2, p3, p4, p5, p6, p7, p8, p9, p10, p11⟩⟩ := ra
    simp only [] at hsm
    have HV : Hid (Rc.val ⟨k, e, v, n, q, t, ⟨p0, p1, p2, p3, p4, p5, p6, p7, p8, p9, p10, p11⟩⟩ = .agg #[.int .i64 k, .int .i64 e, .int .i64 v, .int .i64 n, .int .i64 q, .string t, .int .i64 p0, .int .i64 p1, .int .i64 p2, .int .i64 p3, .int .i64 p4, .int .i64 p5, .int .i64 p6, .int .i64 p7, .int .i64 p8, .int .i64 p9, .int .i64 p10, .int .i64 p11]) := rfl
    rw [HV.out]
    go_wp2_with (first | (refine wpList_store_row rfl 28 (.tmp 3) (.tmp 17) (by with_reducible rfl) w2.heap.size #[.int .i64 k, .int .i64 e, .int .i64 v, .int .i64 n, .int .i64 q, .string t, .int .i64 p0, .int .i64 p1, .int .i64 p2, .int .i64 p3, .int .i64 p4, .int .i64 p5, .int .i64 p6, .int .i64 p7, .int .i64 p8, .int .i64 p9, .int .i64 p10, .int .i64 p11] (by kernel_rfl) (by kernel_rfl) _ _ (new1 w2 (.cells #[.int .i64 0, .int .i64 0, .int .i64 0, .int .i64 0, .int .i64 0, .string ⟨#[]⟩, .int .i64 0, .int .i64 0, .int .i64 0, .int .i64 0, .int .i64 0, .int .i64 0, .int .i64 0, .int .i64 0, .int .i64 0, .int .i64 0, .int .i64 0, .int .i64 0] 28)) (by kernel_rfl) rfl (by simp [Value.oneCell']) ?_; have hh := hid (setRow_heap _ w2.heap.size _ (#[.int .i64 k, .int .i64 e, .int .i64 v, .int .i64 n, .int .i64 q, .string t, .int .i64 p0, .int .i64 p1, .int .i64 p2, .int .i64 p3, .int .i64 p4, .int .i64 p5, .int .i64 p6, .int .i64 p7, .int .i64 p8, .int .i64 p9, .int .i64 p10, .int .i64 p11]) _ _ (new1 w2 (.cells #[.int .i64 0, .int .i64 0, .int .i64 0, .int .i64 0, .int .i64 0, .string ⟨#[]⟩, .int .i64 0, .int .i64 0, .int .i64 0, .int .i64 0, .int .i64 0, .int .i64 0, .int .i64 0, .int .i64 0, .int .i64 0, .int .i64 0, .int .i64 0, .int .i64 0] 28))); have hf3 := hid ((HF2.out.alloc (.cells #[.int .i64 0, .int .i64 0, .int .i64 0, .int .i64 0, .int .i64 0, .string ⟨#[]⟩, .int .i64 0, .int .i64 0, .int .i64 0, .int .i64 0, .int .i64 0, .int .i64 0, .int .i64 0, .int .i64 0, .int .i64 0, .int .i64 0, .int .i64 0, .int .i64 0] 28)).setRow w2.heap.size (#[.int .i64 k, .int .i64 e, .int .i64 v, .int .i64 n, .int .i64 q, .string t, .int .i64 p0, .int .i64 p1, .int .i64 p2, .int .i64 p3, .int .i64 p4, .int .i64 p5, .int .i64 p6, .int .i64 p7, .int .i64 p8, .int .i64 p9, .int .i64 p10, .int .i64 p11]) HF2.out.size)) | (refine wpList_load_row rfl 28 (.tmp 3) (by with_reducible rfl) w2.heap.size (by kernel_rfl) _ _ _ _ hh.out Try.underlying28 rfl (by kernel_rfl) ?_))
    obtain ⟨b3, hb3⟩ : ∃ b, b = w2.heap.size := ⟨_, rfl⟩
    obtain ⟨w3, hw3⟩ : ∃ y, y = (w2.alloc (.cells #[.int .i64 0, .int .i64 0, .int .i64 0, .int .i64 0, .int .i64 0, .string ⟨#[]⟩, .int .i64 0, .int .i64 0, .int .i64 0, .int .i64 0, .int .i64 0, .int .i64 0, .int .i64 0, .int .i64 0, .int .i64 0, .int .i64 0, .int .i64 0, .int .i64 0] 28)).setRow w2.heap.size (#[.int .i64 k, .int .i64 e, .int .i64 v, .int .i64 n, .int .i64 q, .string t, .int .i64 p0, .int .i64 p1, .int .i64 p2, .int .i64 p3, .int .i64 p4, .int .i64 p5, .int .i64 p6, .int .i64 p7, .int .i64 p8, .int .i64 p9, .int .i64 p10, .int .i64 p11]) := ⟨_, rfl⟩
    have H3 := hid hh.out
    have HF3 := hid hf3.out
    rw [← hw3] at H3 HF3
    rw [← hw3]
    rw [← hb3] at H3
    rw [← hb3]
    clear hw3 hb3 hh hf3
    rw [← HV.out]
    refine (bytes_calls _ w3 (by simp only []; omega)).mono ?_
    rintro _ w4 ⟨vb, rfl, hr, hf⟩
    have H4 := hid (hf.heap H3.out (fun h => h))
    have HF4 := hid (HF3.out.then0 hf)
    clear hf
    rw [HV.out]
    rcases hrb.out with ⟨hx, hrg, hbb⟩ | ⟨hx, hbb⟩
    · try simp only [] at hx hrg hbb
      subst hx
      rw [hbb] at hr ⊢
      try simp only [] at hr ⊢
      have hs1 := run_str (P := Try.prog) 22 9 5 Try.underlying22 Try.underlying9 Try.underlying5 hr
      have hs2 := run_str (P := Try.prog) 22 9 5 Try.underlying22 Try.underlying9 Try.underlying5 (HB.out _ HF4.out)
      have HRG := hid hrg
      clear hrb hr hbb hrg
      go_wp2_with (refine wpList_load_row_w (by kernel_rfl) 28 (.tmp 3) (by with_reducible rfl) b3 (by kernel_rfl) _ _ _ _ H4.out Try.underlying28 rfl (by kernel_rfl) ?_)
      rw [← HV.out]
      refine (right_calls _ _).mono ?_
      rintro _ w5 ⟨rfl, hf⟩
      have HF5 := hid (HF4.out.then0 hf)
      clear hf hs1 hs2
      rw [HRG.out, HV.out]
      go_wp2_with fail
      go_ret
      exact ⟨rfl, HF5.out.below⟩
    · simp only [Prod.mk.injEq] at hx
      try simp only [] at hbb
      have hx2 := hx.2
      subst hx2
      have hzz : Hid (⟨k, e, v, n, q, t, ⟨p0, p1, p2, p3, p4, p5, p6, p7, p8, p9, p10, p11⟩⟩ = Rc.zero) := hid hx.1
      rw [hbb] at hr ⊢
      try simp only [] at hr ⊢
      have hreq : req ⟨k, e, v, n, q, t, ⟨p0, p1, p2, p3, p4, p5, p6, p7, p8, p9, p10, p11⟩⟩ ⟨0, 0, 0, 0, 0, ⟨#[]⟩, ⟨0, 0, 0, 0, 0, 0, 0, 0, 0, 0, 0, 0⟩⟩ = true := by rw [hzz.out]; rfl
      clear hrb hr hbb hx
      go_wp2_with (refine wpList_load_row rfl 28 (.tmp 3) (by with_reducible rfl) b3 (by kernel_rfl) _ _ _ _ H4.out Try.underlying28 rfl (by kernel_rfl) ?_)
      go_ret
      exact ⟨by first | rfl | simp, HF4.out.below⟩
end Go.Proofs.Ytinbidmgllmglaa
