/- CodecReads' walk. No condition. -/
import Derived.Test.YtmbigbhmfoinoaaRd
import Derived.Test.YtmbigbhmfoinoaaCl
namespace Go.Proofs.Ytmbigbhmfoinoaa
set_option linter.unusedVariables false
set_option linter.unusedSimpArgs false
open Go.RowKit Cp

set_option maxRecDepth 100000 in
set_option maxHeartbeats 4000000 in
theorem codecReads_walk (W : World) (v : Value) (l0 : List Int) (hr : Rd W 1 v l0.length (ints .u8 l0)) (hwf : ∀ x ∈ l0, (Lit.int .u8 x).wf = true) (vk : Value) (ks : List Int) (hk : Rd W 1 vk ks.length (ints .i64 ks)) (_hkw : ∀ x ∈ ks, (Lit.int .i64 x).wf = true) :
    Calls Try.prog 4 #[v, vk] W fun e w' => e = .returned (.bool true) ∧ Below W.heap.size W w' := by
  have hby : Hid (∀ x ∈ l0.take 100, 0 ≤ x ∧ x < 256) := fun x hx => wf_u8 (hwf x (List.mem_of_mem_take hx))
  have hl100 : (l0.take 100).length ≤ 100 := by rw [List.length_take]; omega
  have HR := hid hr
  have HKS := hid hk
  obtain ⟨ak, ck, rfl, habk⟩ := hk.shape
  have HABK := hid habk
  obtain ⟨_, hck1, hck2⟩ := hk.cap
  clear hr hwf hk _hkw habk
  go_enter Try.func4, Try.ntmps4
  go_wp2_with fail
  refine (lives_calls W).mono ?_
  rintro e w1 ⟨rfl, hf1⟩
  have HF1 := hid hf1
  clear hf1
  go_wp2_with fail
  refine (few_calls v l0 w1 (HR.out.frm0 HF1.out)).mono ?_
  rintro e w2 ⟨vb, rfl, hrb, rfl⟩
  have hB : RdB W vb (l0.take 100) := fun wx hf => hrb wx (HR.out.frm0 hf)
  generalize l0.take 100 = l at *
  have HB := hid hB
  clear hrb hB
  obtain ⟨ab, cb, rfl, _, _, _⟩ := HB.out.shape
  go_wp2_with fail
  refine (read_calls _ l w1 (by omega) (HB.out w1 HF1.out) hby.out).mono ?_
  rintro e w2 ⟨rb, rfl, hrb, hr2, hf2⟩
  have HR2 := hid hr2
  have HF2 := hid (HF1.out.then0 hf2)
  have hWrb : W.heap.size ≤ rb := Nat.le_trans HF1.out.size hrb
  have hrb2 := hr2.bytes.2.2
  clear hr2 hf2 hrb HF1
  go_upto_region 5 with fail
  have hb6 := new1 w2 (.cells #[.slice ab l.length cb, .int .i64 0] 32)
  obtain ⟨w3, hw3⟩ : ∃ w3, w3 = w2.alloc (.cells #[.slice ab l.length cb, .int .i64 0] 32) := ⟨_, rfl⟩
  have hf3 : Frm M0 w2 w3 := by rw [hw3]; exact (Frm.refl _ _).alloc _
  rw [← hw3] at hb6 ⊢
  obtain ⟨b6, hb6e⟩ : ∃ b6, b6 = w2.heap.size := ⟨_, rfl⟩
  rw [← hb6e] at hb6 ⊢
  have HF3 := hid (HF2.out.then0 hf3)
  have HR3 := hid (HR2.out.frm0 hf3)
  have HB6 := hid hb6
  have hWb6 : W.heap.size ≤ b6 := by have := HF2.out.size; omega
  have hrb6 : rb < b6 := by omega
  clear hw3 hf3 hb6 hb6e HR2 HF2 hrb2
  go_wp2_with fail
  go_loopw [7] (fun i7 wr => ∃ (k : Nat) (vr : Value) (lr : List Int) (er : Int), i7 = .int .i64 k ∧ k ≤ ks.length ∧ k ≤ 30 ∧ Hid (wr.heap[b6]? = some (.cells #[vr, .int .i64 er] 32 (0, 0))) ∧ Hid (Rdr wr rb lr er) ∧ Hid (RdB W vr lr) ∧ Hid (Frm M0 W wr)) (fun i _ => 30 - (intOf i).toNat)
  case atStart => exact ⟨0, _, l, 0, rfl, by omega, by omega, HB6, HR3, HB, HF3⟩
  case round =>
    obtain ⟨k, vr, lr, er, rfl, hk, hk30, H6, HRR, HRB, HF⟩ := hrel
    by_cases hlt : k < ks.length ∧ k < 30
    · obtain ⟨hlt, hlt30⟩ := hlt
      obtain ⟨bk, ok, rfl⟩ := HABK.out (by omega)
      obtain ⟨ar, cr, rfl, _, _, _⟩ := HRB.out.shape
      obtain ⟨kd, HKD, hkd⟩ := (HKS.out.frm0 HF.out).cellAt k hlt
      have hlt' : (k : Int) < (ks.length : Int) := by omega
      have hlt30' : (k : Int) < 30 := by omega
      have hk0 : (0 : Int) ≤ (k : Int) := by omega
      obtain ⟨⟨p0, p1⟩, q0, q1⟩ := two H6.out
      have h6z := (Array.getElem?_eq_some_iff.1 H6.out).1
      have HRD : Hid (∀ wz, Frm M0 wr wz → Calls Try.prog 14 #[rp rb, .agg #[.slice ar lr.length cr, .int .i64 er], .int .i64 kd] wz fun r w' => Both W wz w' rb r) := hid fun wz hz => read_both W rb _ lr er kd wz (HF.out.then0 hz) (HRR.out.frm0 hz) HRB.out hWrb
      have HSF : Hid (∀ wx, Frm (fun b => b = rb ∨ wr.heap.size ≤ b) wr wx → (wx.cell? ⟨b6, 0, none⟩ = some (.slice ar lr.length cr) ∧ wx.cell? ⟨b6, 1, none⟩ = some (.int .i64 er)) ∧ wx.cell? ⟨bk, ok + k, none⟩ = some (.int .i64 kd)) := by
        refine hid fun wx hf => ⟨(two (hf.heap H6.out (by omega))).1, ?_⟩
        obtain ⟨kd', HKD', hkd'⟩ := (HKS.out.frm0 (HF.out.trans hf (fun b hb h => by have := HF.out.size; omega))).cellAt k hlt
        have h1 := HKD'.out
        rw [HKD.out] at h1
        cases h1
        exact hkd'
      go_upto_region 8 with fail
      go_cut [8, 9] (fun s8 s9 wy => ∃ (b8 : Nat) (v' : Value) (l' : List Int) (e' : Int), s8 = .pointer (some ⟨b8, 0, none⟩) ∧ s9 = .bool true ∧ Hid (wy.heap[b8]? = some (.cells #[v', .int .i64 e'] 32 (0, 0))) ∧ Hid (Rdr wy rb l' e') ∧ Hid (RdB W v' l') ∧ Hid (Frm (fun b => b = rb ∨ wr.heap.size ≤ b) wr wy))
      case first =>
        go_region_held3 (fun wx => (wx.cell? ⟨b6, 0, none⟩ = some (.slice ar lr.length cr) ∧ wx.cell? ⟨b6, 1, none⟩ = some (.int .i64 er)) ∧ wx.cell? ⟨bk, ok + k, none⟩ = some (.int .i64 kd)) (first | with_reducible exact HSF.out _ (Frm.drew (Frm.refl _ _)) | with_reducible exact HSF.out _ HF5.out | with_reducible exact HSF.out _ (Frm.alloc HF5.out _) | with_reducible exact HSF.out _ (Frm.drew (Frm.alloc (Frm.refl _ _) _)) | with_reducible exact HSF.out _ (Frm.trans HF5.out (put2 HB85.out _ _).2 HOR.out))
          (first
            | (go_at_call 14; (first
                | (refine (HRD.out _ (Frm.refl _ wr).drew).mono ?_; rintro r w5 ⟨v5, l5, e5, rfl, hrd, hrb5, hf5⟩; obtain ⟨a5, c5, rfl, _, _, _⟩ := hrb5.out.shape; have HF5 : Hid (Frm (fun b => b = rb ∨ wr.heap.size ≤ b) wr w5) := hid ((Frm.refl _ wr).drew.trans hf5 (fun b hb h => .inl h)); clear hf5)
                | (refine (HRD.out _ ((Frm.refl _ wr).alloc _).drew).mono ?_; rintro r w5 ⟨v5, l5, e5, rfl, hrd, hrb5, hf5⟩; obtain ⟨a5, c5, rfl, _, _, _⟩ := hrb5.out.shape; have HF5 : Hid (Frm (fun b => b = rb ∨ wr.heap.size ≤ b) wr w5) := hid (((Frm.refl _ wr).alloc _).drew.trans hf5 (fun b hb h => .inl h)); have HOR : Hid (∀ b, b < wr.heap.size → b = wr.heap.size → b = rb ∨ wr.heap.size ≤ b) := hid (fun b h1 h2 => by omega); have HB85 : Hid (w5.heap[wr.heap.size]? = some (.cells #[.slice none 0 0, .int .i64 0] 32 (0, 0))) := hid (hf5.heap (new1 wr _) (by omega)); obtain ⟨⟨r0, r1⟩, t0, t1⟩ := two HB85.out; clear hf5))))
        · go_wp2_with fail
          go_meet
          have hal : Frm M0 w5 (w5.alloc (.cells #[.slice a5 l5.length c5, .int .i64 e5] 32)) := (Frm.refl _ _).alloc _
          exact ⟨_, _, l5, e5, rfl, rfl, hid (new1 _ _), hid (hrd.out.frm0 hal), hrb5, hid (HF5.out.then0 hal)⟩
        · go_wp2_with fail
          go_meet
          have hpt := put2 HB85.out (.slice a5 l5.length c5) (.int .i64 e5)
          exact ⟨_, _, l5, e5, rfl, rfl, hid hpt.1, hid (hrd.out.frm hpt.2 (fun k hk => by have h' : k = wr.heap.size := hk; omega)), hrb5, hid (HF5.out.trans hpt.2 HOR.out)⟩
      case rest =>
        obtain ⟨b8, v8, l8, e8, rfl, rfl, H8, HR8, HRB8, HF8⟩ := hcut
        obtain ⟨a8, c8, rfl, _, _, _⟩ := HRB8.out.shape
        obtain ⟨⟨s0, s1⟩, _⟩ := two H8.out
        have h6w := HF8.out.heap H6.out (by omega)
        obtain ⟨⟨p0, p1⟩, q0, q1⟩ := two h6w
        have h6z' := (Array.getElem?_eq_some_iff.1 h6w).1
        have hpt := put2 h6w (.slice a8 l8.length c8) (.int .i64 e8)
        have HPT := hid hpt
        have HR9 := hid (HR8.out.frm hpt.2 (fun k hk => by have h' : k = b6 := hk; omega))
        have HF9 := hid ((HF.out.trans HF8.out (fun b hb h => by have := HF.out.size; omega)).trans hpt.2 (fun b hb h => by have h' : b = b6 := h; omega))
        clear hpt h6w HSF HRD HKD hkd
        go_upto_region 10 with fail
        obtain ⟨w9, hw9⟩ : ∃ w9, w9 = (wc.setCell ⟨b6, 0, none⟩ (.slice a8 l8.length c8)).setCell ⟨b6, 1, none⟩ (.int .i64 e8) := ⟨_, rfl⟩
        rw [← hw9] at HPT HR9 HF9 ⊢
        clear hw9 p0 p1 q0 q1 s0 s1 HR8 HF8 H8
        have HER : Hid (∀ wz, Frm M0 w9 wz → Calls Try.prog 15 #[rp rb] wz fun r w' => r = .returned (.int .i64 e8) ∧ wz = w') := hid fun wz hz => err_calls rb l8 e8 wz (HR9.out.frm0 hz)
        have HLE : Hid (∀ wz, Frm M0 w9 wz → Calls Try.prog 16 #[rp rb] wz fun r w' => r = .returned (.int .i64 l8.length) ∧ wz = w') := hid fun wz hz => left_calls rb l8 e8 wz (HR9.out.frm0 hz)
        have HEN : Hid (∀ wz, Frm M0 w9 wz → Calls Try.prog 17 #[rp rb] wz fun r w' => r = .returned (.int .i64 (endF l8 e8)) ∧ wz = w') := hid fun wz hz => end_calls rb l8 e8 wz (HR9.out.frm0 hz)
        have HRE : Hid (∀ wz, Frm M0 w9 wz → Calls Try.prog 18 #[.agg #[.slice a8 l8.length c8, .int .i64 e8]] wz fun r w' => r = .returned (.int .i64 (endF l8 e8)) ∧ Frm M0 wz w') := hid fun wz hz => refEnd_calls _ l8 e8 wz (HRB8.out wz (HF9.out.then0 hz))
        have HSQ : Hid (∀ wx, Frm M0 w9 wx → wx.cell? ⟨b6, 0, none⟩ = some (.slice a8 l8.length c8) ∧ wx.cell? ⟨b6, 1, none⟩ = some (.int .i64 e8)) := hid fun wx hf => (two (hf.heap HPT.out.1 (fun h => h))).1
        have HFq : Hid (Frm M0 w9 w9.drew) := hid (Frm.refl M0 w9).drew
        go_cut [62] (fun s62 wy => s62 = .bool false ∧ Hid (Frm M0 w9 wy))
        case first =>
          go_region_held3 (fun wx => wx.cell? ⟨b6, 0, none⟩ = some (.slice a8 l8.length c8) ∧ wx.cell? ⟨b6, 1, none⟩ = some (.int .i64 e8)) (first | with_reducible exact HSQ.out _ HFq.out)
            (first
              | (go_at_call 15; refine (HER.out _ HFq.out).mono ?_; rintro r wq ⟨rfl, rfl⟩)
              | (go_at_call 16; refine (HLE.out _ HFq.out).mono ?_; rintro r wq ⟨rfl, rfl⟩)
              | (go_at_call 17; refine (HEN.out _ HFq.out).mono ?_; rintro r wq ⟨rfl, rfl⟩)
              | (go_at_call 18; refine (HRE.out _ HFq.out).mono ?_; rintro r wq ⟨rfl, hfq⟩; have hx := HFq.out.then0 hfq; clear HFq hfq; have HFq := hid hx; clear hx))
          all_goals
            go_wp2_with fail
            go_meet
            exact ⟨by first | rfl | simp, hid HFq.out⟩
        case rest =>
          obtain ⟨rfl, HFy⟩ := hcut
          go_wp2_with fail
          exact ⟨⟨k + 1, _, l8, e8, by go_num, by omega, by omega, hid (HFy.out.heap HPT.out.1 (fun h => h)), hid (HR9.out.frm0 HFy.out), HRB8, hid (HF9.out.then0 HFy.out)⟩, by simp [intOf]; omega⟩
    · have hdone : ¬ (k < ks.length) ∨ ¬ (k < 30) := by omega
      rcases hdone with h | h
      · clear hlt
        go_wp2_with fail
        go_ret
        exact ⟨rfl, HF.out.below⟩
      · have h30 : k = 30 := by omega
        subst h30
        clear hlt h
        go_wp2_with fail
        all_goals
          go_ret
          exact ⟨rfl, HF.out.below⟩
end Go.Proofs.Ytmbigbhmfoinoaa
