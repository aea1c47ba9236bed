/- NetCounts' walk. No condition. -/
import Derived.Test.YtbepcohcdgfkaaaNv
namespace Go.Proofs.Ytbepcohcdgfkaaa
set_option linter.unusedVariables false
set_option linter.unusedSimpArgs false
open Go.RowKit Go.Conc
attribute [-go_sem] run_min_int2 run_max_int2
attribute [local go_sem] run_min2 run_max2

/-- What is counted, behind k steps. -/
def Cnt (R k : Nat) (p t f : Int) (N : Net) : Prop :=
  N.room = R ∧ N.l.length ≤ R ∧ (N.l.length : Int) = p - t - (N.lost - f) ∧ 0 ≤ p ∧ p ≤ k ∧ 0 ≤ t ∧ t ≤ k ∧ 0 ≤ f ∧ f ≤ k ∧ 0 ≤ N.lost ∧ N.lost ≤ k
theorem wrap_small {x : Int} (h : -1000000 ≤ x ∧ x ≤ 1000000) : wrap64 x = x := by unfold wrap64; omega
theorem Cnt.push {R k : Nat} {p t f : Int} {N : Net} (h : Cnt R k p t f N) (hk : k < 100) (m : Mg) :
    ((N.push m).2 = 0 ∧ Cnt R (k + 1) (p + 1) t f (N.push m).1) ∨ ((N.push m).2 = 4 ∧ Cnt R (k + 1) p t (f + 1) (N.push m).1) := by
  unfold Cnt at *
  unfold Net.push
  split
  · exact .inl ⟨rfl, by simp only [List.length_append, List.length_cons, List.length_nil]; omega⟩
  · have e : wrap64 (N.lost + 1) = N.lost + 1 := wrap_small (by omega)
    exact .inr ⟨rfl, by simp only [e]; omega⟩
theorem Cnt.more {R k : Nat} {p t f : Int} {N : Net} (h : Cnt R k p t f N) : Cnt R (k + 1) p t f N := by unfold Cnt at *; omega
theorem Cnt.send {R k : Nat} {p t f : Int} {N : Net} (h : Cnt R k p t f N) (hk : k < 100) (m : Mg) :
    ((N.send m).2 = 0 ∧ Cnt R (k + 1) (p + 1) t f (N.send m).1) ∨ ((N.send m).2 = 4 ∧ Cnt R (k + 1) p t (f + 1) (N.send m).1) ∨ ((N.send m).2 = 1 ∧ Cnt R (k + 1) p t f (N.send m).1) := by
  have h' := h
  unfold Cnt at h
  unfold Net.send
  split
  · exact .inr (.inr ⟨rfl, h'.more⟩)
  split
  · refine .inl ⟨rfl, ?_⟩
    unfold Cnt
    simp only [List.length_append, List.length_cons, List.length_nil]; omega
  · have e : wrap64 (N.lost + 1) = N.lost + 1 := wrap_small (by omega)
    refine .inr (.inl ⟨rfl, ?_⟩)
    unfold Cnt
    simp only [e]; omega
theorem Cnt.take {R k : Nat} {p t f : Int} {N : Net} (h : Cnt R k p t f N) (x : Int) :
    ((N.take x).2.2 = true ∧ Cnt R (k + 1) p (t + 1) f (N.take x).1) ∨ ((N.take x).2.2 = false ∧ Cnt R (k + 1) p t f (N.take x).1) := by
  have h' := h
  unfold Cnt at h
  unfold Net.take
  split
  · exact .inr ⟨rfl, h'.more⟩
  · refine .inl ⟨rfl, ?_⟩
    obtain ⟨j, hj, hjl⟩ := pl_bound x N.l.length (by omega)
    unfold Cnt
    simp only [hj, Int.toNat_natCast, List.length_eraseIdx, hjl, if_true]; omega
theorem Cnt.drop {R k : Nat} {p t f : Int} {N : Net} (h : Cnt R k p t f N) (hk : k < 100) (x : Int) : Cnt R (k + 1) p t f (N.drop x).1 := by
  have h' := h
  unfold Cnt at h
  unfold Net.drop
  split
  · exact h'.more
  · rename_i h0
    have e : wrap64 (N.lost + 1) = N.lost + 1 := wrap_small (by omega)
    obtain ⟨j, hj, hjl⟩ := pl_bound x N.l.length (by omega)
    unfold Cnt Net.take
    rw [if_neg h0]
    simp only [e, hj, Int.toNat_natCast, List.length_eraseIdx, hjl, if_true]; omega
theorem Cnt.twice {R k : Nat} {p t f : Int} {N : Net} (h : Cnt R k p t f N) (hk : k < 100) (x : Int) :
    ((N.twice x).2 = 0 ∧ Cnt R (k + 1) (p + 1) t f (N.twice x).1) ∨ ((N.twice x).2 = 4 ∧ Cnt R (k + 1) p t (f + 1) (N.twice x).1) ∨ ((N.twice x).2 = 5 ∧ Cnt R (k + 1) p t f (N.twice x).1) := by
  unfold Net.twice
  split
  · exact .inr (.inr ⟨rfl, h.more⟩)
  · rcases h.push hk (N.l.getD (pl x N.l.length).toNat Mg.zero) with h | h
    · exact .inl h
    · exact .inr (.inl h)

theorem eight {w : World} {g : Nat} {a0 a1 a2 a3 a4 a5 a6 a7 : Value} {e : TypeId} (h : w.heap[g]? = some (.cells #[a0, a1, a2, a3, a4, a5, a6, a7] e (0, 0))) :
    w.cell? ⟨g, 0, none⟩ = some a0 ∧ w.cell? ⟨g, 1, none⟩ = some a1 ∧ w.cell? ⟨g, 2, none⟩ = some a2 ∧ w.cell? ⟨g, 3, none⟩ = some a3 ∧ w.cell? ⟨g, 4, none⟩ = some a4 ∧ w.cell? ⟨g, 5, none⟩ = some a5 ∧ w.cell? ⟨g, 6, none⟩ = some a6 ∧ w.cell? ⟨g, 7, none⟩ = some a7 :=
  ⟨cell_at h 0, cell_at h 1, cell_at h 2, cell_at h 3, cell_at h 4, cell_at h 5, cell_at h 6, cell_at h 7⟩
theorem Rd.stpAt {w : World} {b o n c : Nat} {l : List Stp} (h : Rd w 8 (.slice (some ⟨b, o, none⟩) n c) l.length (stps l)) (k : Nat) (hk : k < l.length) :
    ∃ s, Hid (l[k]? = some s) ∧ w.cell? ⟨b, o + k * 8, none⟩ = some (.int .i64 s.k) ∧ w.cell? ⟨b, o + k * 8 + 1, none⟩ = some (.int .i64 s.n) ∧ w.cell? ⟨b, o + k * 8 + 2, none⟩ = some (.int .i64 s.m.k) ∧
      w.cell? ⟨b, o + k * 8 + 3, none⟩ = some (.int .i64 s.m.e) ∧ w.cell? ⟨b, o + k * 8 + 4, none⟩ = some (.int .i64 s.m.s) ∧ w.cell? ⟨b, o + k * 8 + 5, none⟩ = some (.int .i64 s.m.u) ∧ w.cell? ⟨b, o + k * 8 + 6, none⟩ = some (.int .i64 s.m.v) ∧ w.cell? ⟨b, o + k * 8 + 7, none⟩ = some (.int .i64 s.m.t) := by
  obtain ⟨s, hs, hc⟩ := h.elAt (enc := Stp.cells) (fun _ => rfl) k hk
  exact ⟨s, hs, hc 0 _ rfl, hc 1 _ rfl, hc 2 _ rfl, hc 3 _ rfl, hc 4 _ rfl, hc 5 _ rfl, hc 6 _ rfl, hc 7 _ rfl⟩

set_option maxRecDepth 20000 in
set_option maxHeartbeats 1000000 in
theorem netCounts_walk (W : World) (room : Int) (_wr : (Lit.int .i64 room).wf = true) (v : Value) (l : List Stp) (hr : Rd W 8 v l.length (stps l)) (ok : ∀ m ∈ l, m.ok) :
    Calls Try.prog 5 #[.int .i64 room, v] W fun e w' => e = .returned (.bool true) ∧ Below W.heap.size W w' := by
  have HR := hid hr
  clear hr _wr
  go_enter Try.func5, Try.ntmps5
  go_wp2_with fail
  refine (lives_calls W).mono ?_
  rintro e w1 ⟨rfl, hf1⟩
  have HF1 := hid hf1
  clear hf1
  go_wp2_with fail
  refine (new_calls room w1).mono ?_
  rintro e w2 ⟨rfl, hn2, hf2⟩
  have hz := HF1.out.size
  obtain ⟨R, hR⟩ : ∃ R, R = roomOf room := ⟨_, rfl⟩
  rw [← hR] at hn2
  have HN2 : Hid (NetP (fun b => W.heap.size ≤ b) w2 (w1.heap.size + 1) w1.heap.size none ⟨R, [], 0, 0⟩) := hid ⟨hn2, fun b hb => by
    rcases hb with rfl | rfl | hb
    · omega
    · omega
    · cases hb⟩
  have HF2 := hid (HF1.out.then0 hf2)
  clear hn2 hf2 HF1
  obtain ⟨nb, hnb⟩ : ∃ nb, nb = w1.heap.size + 1 := ⟨_, rfl⟩
  obtain ⟨ch, hch⟩ : ∃ ch, ch = w1.heap.size := ⟨_, rfl⟩
  rw [← hnb, ← hch] at HN2
  rw [← hnb]
  clear hnb hch hz
  have HRM := hid hR
  clear hR
  go_wp2_with fail
  refine (early_calls v l w2 (HR.out.frm0 HF2.out)).mono ?_
  rintro e w3 ⟨v', rfl, hr', rfl⟩
  have HR' := hid (hr'.out W HR.out)
  clear hr'
  have hok : Hid (∀ m ∈ l.take 100, m.ok) := hid fun m hm => ok m (List.mem_of_mem_take hm)
  have hL : (l.take 100).length ≤ 100 := by rw [List.length_take]; omega
  generalize l.take 100 = L at *
  clear ok HR
  obtain ⟨a', c', rfl, hab⟩ := HR'.out.shapeN
  have HAB := hid hab
  clear hab
  go_wp2_with fail
  go_loopw [6, 7, 8, 9] (fun s6 s7 s8 i9 wr => ∃ (k : Nat) (p t f : Int) (N : Net), k ≤ L.length ∧ i9 = .int .i64 k ∧ s6 = .int .i64 p ∧ s7 = .int .i64 t ∧ s8 = .int .i64 f ∧ Hid (Cnt R k p t f N) ∧ Hid (∃ vb, NetP (fun b => W.heap.size ≤ b) wr nb ch vb N) ∧ Hid (Frm M0 W wr)) (fun _ _ _ i _ => L.length - (intOf i).toNat)
  case atStart => exact ⟨0, 0, 0, 0, _, Nat.zero_le _, rfl, rfl, rfl, rfl, hid (by unfold Cnt; simp), hid ⟨_, HN2.out⟩, HF2⟩
  case round =>
    obtain ⟨k, p, t, f, N, hk, rfl, rfl, rfl, rfl, HC, HN, HF⟩ := hrel
    by_cases hlt : k < L.length
    · obtain ⟨b, o, rfl⟩ := HAB.out (by omega)
      obtain ⟨s, HM, m0, m1, m2, m3, m4, m5, m6, m7⟩ := (HR'.out.frm0 HF.out).stpAt k hlt
      have hlt' : (k : Int) < L.length := by omega
      have HK : Hid (∀ w, Calls Try.prog 17 #[.agg #[.int .i64 s.k, .int .i64 s.n, .int .i64 s.m.k, .int .i64 s.m.e, .int .i64 s.m.s, .int .i64 s.m.u, .int .i64 s.m.v, .int .i64 s.m.t]] w fun r w' => r = .returned (.int .i64 s.kd) ∧ Frm M0 w w') := hid fun w => kind_calls s w
      have hkd := kd_ok s
      obtain ⟨d, hd⟩ : ∃ d, d = s.kd := ⟨_, rfl⟩
      rw [← hd] at HK hkd
      clear hd
      have hz := HF.out.size
      go_wp2_with fail
      refine (HK.out _).mono ?_
      rintro r w4 ⟨rfl, hf4⟩
      have hbx := hf4.heap (heap_alloc_new wr (.cells #[.int .i64 s.k, .int .i64 s.n, .int .i64 s.m.k, .int .i64 s.m.e, .int .i64 s.m.s, .int .i64 s.m.u, .int .i64 s.m.v, .int .i64 s.m.t] 40)) (fun h => h)
      obtain ⟨c0, c1, c2, c3, c4, c5, c6, c7⟩ := eight hbx
      have HN4 : Hid (∃ vb, NetP (fun b => W.heap.size ≤ b) w4 nb ch vb N) := by
        obtain ⟨vb, hn⟩ := HN.out
        exact hid ⟨vb, hn.frm (((Frm.refl M0 wr).alloc _).then0 hf4) (fun _ _ h => h)⟩
      have HF4 := hid (HF.out.then0 (((Frm.refl M0 wr).alloc _).then0 hf4))
      obtain ⟨bx, hb⟩ : ∃ bx, bx = wr.heap.size := ⟨_, rfl⟩
      rw [← hb] at c0 c1 c2 c3 c4 c5 c6 c7 ⊢
      clear hb hbx hf4 HN HF hz m0 m1 m2 m3 m4 m5 m6 m7
      have hk100 : k < 100 := by omega
      have hwn : (Lit.int .i64 s.n).wf = true := by
        have := hok.out s (List.mem_of_getElem? HM.out)
        exact this.2.1
      rcases (by omega : (d = 0 ∨ d = 1) ∨ d = 2 ∨ d = 3 ∨ d = 4) with hd | hd | hd | hd
      · have hG := msg_calls s
        obtain ⟨g, hg⟩ : ∃ g, g = s.msg := ⟨_, rfl⟩
        rw [← hg] at hG
        have hcases := HC.out.send hk100 g
        obtain ⟨gk, ge, gs, gu, gv, gt⟩ := g
        have HG : Hid (∀ wz, Calls Try.prog 18 #[.agg #[.int .i64 s.k, .int .i64 s.n, .int .i64 s.m.k, .int .i64 s.m.e, .int .i64 s.m.s, .int .i64 s.m.u, .int .i64 s.m.v, .int .i64 s.m.t]] wz fun r w' => r = .returned (.agg #[.int .i64 gk, .int .i64 ge, .int .i64 gs, .int .i64 gu, .int .i64 gv, .int .i64 gt]) ∧ Frm M0 wz w') := hid hG
        clear hG hg HK hwn
        have HS : Hid (∀ wz vb, NetR wz nb ch vb N → Calls Try.prog 11 #[pn nb, .agg #[.int .i64 gk, .int .i64 ge, .int .i64 gs, .int .i64 gu, .int .i64 gv, .int .i64 gt]] wz fun r w' => r = .returned (.int .i64 (N.send ⟨gk, ge, gs, gu, gv, gt⟩).2) ∧ Turned wz w' nb ch vb (N.send ⟨gk, ge, gs, gu, gv, gt⟩).1) := hid fun wz vb hn => send_calls nb ch vb N ⟨gk, ge, gs, gu, gv, gt⟩ wz hn
        obtain ⟨N', hN'⟩ : ∃ N', N' = (N.send ⟨gk, ge, gs, gu, gv, gt⟩).1 := ⟨_, rfl⟩
        rw [← hN'] at hcases HS
        obtain ⟨e, he⟩ : ∃ e, e = (N.send ⟨gk, ge, gs, gu, gv, gt⟩).2 := ⟨_, rfl⟩
        rw [← he] at hcases HS
        clear hN' he
        rcases hd with rfl | rfl
        all_goals
          rcases hcases with ⟨rfl, hc⟩ | ⟨rfl, hc⟩ | ⟨rfl, hc⟩
          · go_wp2_with fail
            refine (HG.out _).mono ?_
            rintro r wm ⟨rfl, hfm⟩
            have HFM := hid hfm
            clear hfm
            go_wp2_with fail
            obtain ⟨vb, hn⟩ := HN4.out
            have hnP := hn.frm HFM.out (fun _ _ h => h)
            have hfw := HF4.out.then0 HFM.out
            have hz := hfw.size
            have HT := hid trivial
            refine (HS.out _ _ hnP.1).mono ?_
            rintro r w5 ⟨rfl, ht⟩
            obtain ⟨vb5, hn5, hf5⟩ := hnP.turn ht (fun g hg => by omega)
            have HC' := hid hc
            obtain ⟨q0, q1, q2, q3, q4, q5, q6, q7, q8, q9, q10⟩ := hc
            have hne : ((N'.l.length : Int) != (p + 1) - t - (N'.lost - f)) = false := by rw [bne_eq_false_iff_eq]; omega
            have hgt : decide (max (min room 64) 1 < (N'.l.length : Int)) = false := by have h1 := HRM.out; unfold roomOf at h1; rw [decide_eq_false_iff_not]; omega
            have HF5 := hid (hfw.trans hf5 (fun b hb h => absurd h (by omega)))
            have HN5 := hid hn5
            have hlx : ∀ wz, Frm M0 w5 wz → Calls Try.prog 14 #[pn nb] wz fun r w' => r = .returned (.int .i64 N'.l.length) ∧ wz = w' := fun wz hf => len_calls nb ch vb5 N' wz (HN5.out.1.frm hf (fun _ _ h => h))
            have hox : ∀ wz, Frm M0 w5 wz → Calls Try.prog 21 #[pn nb] wz fun r w' => r = .returned (.int .i64 N'.lost) ∧ wz = w' := fun wz hf => lost_calls nb ch vb5 N' wz (HN5.out.1.frm hf (fun _ _ h => h))
            have HL5 := hid hlx
            have HO5 := hid hox
            clear hlx hox hn5 hf5 ht hnP hfw HC q0 q1 q2 HT
            go_wp2_with (first
              | (go_at_call 14; refine (HL5.out _ (by first | exact Frm.refl _ _ | exact (Frm.refl _ _).alloc _)).mono ?_; rintro r wq ⟨rfl, rfl⟩)
              | (go_at_call 21; refine (HO5.out _ (by first | exact Frm.refl _ _ | exact (Frm.refl _ _).alloc _)).mono ?_; rintro r wq ⟨rfl, rfl⟩))
            exact ⟨⟨k + 1, (p + 1), t, f, N', by omega, by go_num, rfl, rfl, rfl, HC', hid ⟨vb5, HN5.out⟩, HF5⟩, by simp [intOf]; omega⟩
          · go_wp2_with fail
            refine (HG.out _).mono ?_
            rintro r wm ⟨rfl, hfm⟩
            have HFM := hid hfm
            clear hfm
            go_wp2_with fail
            obtain ⟨vb, hn⟩ := HN4.out
            have hnP := hn.frm HFM.out (fun _ _ h => h)
            have hfw := HF4.out.then0 HFM.out
            have hz := hfw.size
            have HT := hid trivial
            refine (HS.out _ _ hnP.1).mono ?_
            rintro r w5 ⟨rfl, ht⟩
            obtain ⟨vb5, hn5, hf5⟩ := hnP.turn ht (fun g hg => by omega)
            have HC' := hid hc
            obtain ⟨q0, q1, q2, q3, q4, q5, q6, q7, q8, q9, q10⟩ := hc
            have hne : ((N'.l.length : Int) != p - t - (N'.lost - (f + 1))) = false := by rw [bne_eq_false_iff_eq]; omega
            have hgt : decide (max (min room 64) 1 < (N'.l.length : Int)) = false := by have h1 := HRM.out; unfold roomOf at h1; rw [decide_eq_false_iff_not]; omega
            have HF5 := hid (hfw.trans hf5 (fun b hb h => absurd h (by omega)))
            have HN5 := hid hn5
            have hlx : ∀ wz, Frm M0 w5 wz → Calls Try.prog 14 #[pn nb] wz fun r w' => r = .returned (.int .i64 N'.l.length) ∧ wz = w' := fun wz hf => len_calls nb ch vb5 N' wz (HN5.out.1.frm hf (fun _ _ h => h))
            have hox : ∀ wz, Frm M0 w5 wz → Calls Try.prog 21 #[pn nb] wz fun r w' => r = .returned (.int .i64 N'.lost) ∧ wz = w' := fun wz hf => lost_calls nb ch vb5 N' wz (HN5.out.1.frm hf (fun _ _ h => h))
            have HL5 := hid hlx
            have HO5 := hid hox
            clear hlx hox hn5 hf5 ht hnP hfw HC q0 q1 q2 HT
            go_wp2_with (first
              | (go_at_call 14; refine (HL5.out _ (by first | exact Frm.refl _ _ | exact (Frm.refl _ _).alloc _)).mono ?_; rintro r wq ⟨rfl, rfl⟩)
              | (go_at_call 21; refine (HO5.out _ (by first | exact Frm.refl _ _ | exact (Frm.refl _ _).alloc _)).mono ?_; rintro r wq ⟨rfl, rfl⟩))
            exact ⟨⟨k + 1, p, t, (f + 1), N', by omega, by go_num, rfl, rfl, rfl, HC', hid ⟨vb5, HN5.out⟩, HF5⟩, by simp [intOf]; omega⟩
          · go_wp2_with fail
            refine (HG.out _).mono ?_
            rintro r wm ⟨rfl, hfm⟩
            have HFM := hid hfm
            clear hfm
            go_wp2_with fail
            obtain ⟨vb, hn⟩ := HN4.out
            have hnP := hn.frm HFM.out (fun _ _ h => h)
            have hfw := HF4.out.then0 HFM.out
            have hz := hfw.size
            have HT := hid trivial
            refine (HS.out _ _ hnP.1).mono ?_
            rintro r w5 ⟨rfl, ht⟩
            obtain ⟨vb5, hn5, hf5⟩ := hnP.turn ht (fun g hg => by omega)
            have HC' := hid hc
            obtain ⟨q0, q1, q2, q3, q4, q5, q6, q7, q8, q9, q10⟩ := hc
            have hne : ((N'.l.length : Int) != p - t - (N'.lost - f)) = false := by rw [bne_eq_false_iff_eq]; omega
            have hgt : decide (max (min room 64) 1 < (N'.l.length : Int)) = false := by have h1 := HRM.out; unfold roomOf at h1; rw [decide_eq_false_iff_not]; omega
            have HF5 := hid (hfw.trans hf5 (fun b hb h => absurd h (by omega)))
            have HN5 := hid hn5
            have hlx : ∀ wz, Frm M0 w5 wz → Calls Try.prog 14 #[pn nb] wz fun r w' => r = .returned (.int .i64 N'.l.length) ∧ wz = w' := fun wz hf => len_calls nb ch vb5 N' wz (HN5.out.1.frm hf (fun _ _ h => h))
            have hox : ∀ wz, Frm M0 w5 wz → Calls Try.prog 21 #[pn nb] wz fun r w' => r = .returned (.int .i64 N'.lost) ∧ wz = w' := fun wz hf => lost_calls nb ch vb5 N' wz (HN5.out.1.frm hf (fun _ _ h => h))
            have HL5 := hid hlx
            have HO5 := hid hox
            clear hlx hox hn5 hf5 ht hnP hfw HC q0 q1 q2 HT
            go_wp2_with (first
              | (go_at_call 14; refine (HL5.out _ (by first | exact Frm.refl _ _ | exact (Frm.refl _ _).alloc _)).mono ?_; rintro r wq ⟨rfl, rfl⟩)
              | (go_at_call 21; refine (HO5.out _ (by first | exact Frm.refl _ _ | exact (Frm.refl _ _).alloc _)).mono ?_; rintro r wq ⟨rfl, rfl⟩))
            exact ⟨⟨k + 1, p, t, f, N', by omega, by go_num, rfl, rfl, rfl, HC', hid ⟨vb5, HN5.out⟩, HF5⟩, by simp [intOf]; omega⟩
      · subst hd
        have hcases := HC.out.take (k := k) s.n
        have HS : Hid (∀ wz vb, NetR wz nb ch vb N → Calls Try.prog 13 #[pn nb, .int .i64 s.n] wz fun r w' => r = .returned (.tuple #[(N.take s.n).2.1.val, .bool (N.take s.n).2.2]) ∧ Turned wz w' nb ch vb (N.take s.n).1) := hid fun wz vb hn => take_calls nb ch vb N s.n hwn wz hn
        obtain ⟨N', hN'⟩ : ∃ N', N' = (N.take s.n).1 := ⟨_, rfl⟩
        rw [← hN'] at hcases HS
        obtain ⟨e, he⟩ : ∃ e, e = (N.take s.n).2.2 := ⟨_, rfl⟩
        rw [← he] at hcases HS
        obtain ⟨g, hg⟩ : ∃ g, g = (N.take s.n).2.1 := ⟨_, rfl⟩
        rw [← hg] at HS
        clear hN' he hg HK hwn
        obtain ⟨gk, ge, gs, gu, gv, gt⟩ := g
        rw [show (Mg.mk gk ge gs gu gv gt).val = .agg #[.int .i64 gk, .int .i64 ge, .int .i64 gs, .int .i64 gu, .int .i64 gv, .int .i64 gt] from rfl] at HS
        rcases hcases with ⟨rfl, hc⟩ | ⟨rfl, hc⟩
        · go_wp2_with fail
          obtain ⟨vb, hn⟩ := HN4.out
          have hnP := hn
          have hfw := HF4.out
          have hz := hfw.size
          have HT := hid trivial
          refine (HS.out _ _ hnP.1).mono ?_
          rintro r w5 ⟨rfl, ht⟩
          obtain ⟨vb5, hn5, hf5⟩ := hnP.turn ht (fun g hg => by omega)
          have HC' := hid hc
          obtain ⟨q0, q1, q2, q3, q4, q5, q6, q7, q8, q9, q10⟩ := hc
          have hne : ((N'.l.length : Int) != p - (t + 1) - (N'.lost - f)) = false := by rw [bne_eq_false_iff_eq]; omega
          have hgt : decide (max (min room 64) 1 < (N'.l.length : Int)) = false := by have h1 := HRM.out; unfold roomOf at h1; rw [decide_eq_false_iff_not]; omega
          have HF5 := hid (hfw.trans hf5 (fun b hb h => absurd h (by omega)))
          have HN5 := hid hn5
          have hlx : ∀ wz, Frm M0 w5 wz → Calls Try.prog 14 #[pn nb] wz fun r w' => r = .returned (.int .i64 N'.l.length) ∧ wz = w' := fun wz hf => len_calls nb ch vb5 N' wz (HN5.out.1.frm hf (fun _ _ h => h))
          have hox : ∀ wz, Frm M0 w5 wz → Calls Try.prog 21 #[pn nb] wz fun r w' => r = .returned (.int .i64 N'.lost) ∧ wz = w' := fun wz hf => lost_calls nb ch vb5 N' wz (HN5.out.1.frm hf (fun _ _ h => h))
          have HL5 := hid hlx
          have HO5 := hid hox
          clear hlx hox hn5 hf5 ht hnP hfw HC q0 q1 q2 HT
          go_wp2_with (first
            | (go_at_call 14; refine (HL5.out _ (by first | exact Frm.refl _ _ | exact (Frm.refl _ _).alloc _)).mono ?_; rintro r wq ⟨rfl, rfl⟩)
            | (go_at_call 21; refine (HO5.out _ (by first | exact Frm.refl _ _ | exact (Frm.refl _ _).alloc _)).mono ?_; rintro r wq ⟨rfl, rfl⟩))
          exact ⟨⟨k + 1, p, (t + 1), f, N', by omega, by go_num, rfl, rfl, rfl, HC', hid ⟨vb5, HN5.out.frm ((Frm.refl M0 _).alloc _) (fun _ _ h => h)⟩, hid (HF5.out.alloc _)⟩, by simp [intOf]; omega⟩
        · go_wp2_with fail
          obtain ⟨vb, hn⟩ := HN4.out
          have hnP := hn
          have hfw := HF4.out
          have hz := hfw.size
          have HT := hid trivial
          refine (HS.out _ _ hnP.1).mono ?_
          rintro r w5 ⟨rfl, ht⟩
          obtain ⟨vb5, hn5, hf5⟩ := hnP.turn ht (fun g hg => by omega)
          have HC' := hid hc
          obtain ⟨q0, q1, q2, q3, q4, q5, q6, q7, q8, q9, q10⟩ := hc
          have hne : ((N'.l.length : Int) != p - t - (N'.lost - f)) = false := by rw [bne_eq_false_iff_eq]; omega
          have hgt : decide (max (min room 64) 1 < (N'.l.length : Int)) = false := by have h1 := HRM.out; unfold roomOf at h1; rw [decide_eq_false_iff_not]; omega
          have HF5 := hid (hfw.trans hf5 (fun b hb h => absurd h (by omega)))
          have HN5 := hid hn5
          have hlx : ∀ wz, Frm M0 w5 wz → Calls Try.prog 14 #[pn nb] wz fun r w' => r = .returned (.int .i64 N'.l.length) ∧ wz = w' := fun wz hf => len_calls nb ch vb5 N' wz (HN5.out.1.frm hf (fun _ _ h => h))
          have hox : ∀ wz, Frm M0 w5 wz → Calls Try.prog 21 #[pn nb] wz fun r w' => r = .returned (.int .i64 N'.lost) ∧ wz = w' := fun wz hf => lost_calls nb ch vb5 N' wz (HN5.out.1.frm hf (fun _ _ h => h))
          have HL5 := hid hlx
          have HO5 := hid hox
          clear hlx hox hn5 hf5 ht hnP hfw HC q0 q1 q2 HT
          go_wp2_with (first
            | (go_at_call 14; refine (HL5.out _ (by first | exact Frm.refl _ _ | exact (Frm.refl _ _).alloc _)).mono ?_; rintro r wq ⟨rfl, rfl⟩)
            | (go_at_call 21; refine (HO5.out _ (by first | exact Frm.refl _ _ | exact (Frm.refl _ _).alloc _)).mono ?_; rintro r wq ⟨rfl, rfl⟩))
          exact ⟨⟨k + 1, p, t, f, N', by omega, by go_num, rfl, rfl, rfl, HC', hid ⟨vb5, HN5.out.frm ((Frm.refl M0 _).alloc _) (fun _ _ h => h)⟩, hid (HF5.out.alloc _)⟩, by simp [intOf]; omega⟩
      · subst hd
        have hc := HC.out.drop hk100 s.n
        have HS : Hid (∀ wz vb, NetR wz nb ch vb N → Calls Try.prog 19 #[pn nb, .int .i64 s.n] wz fun r w' => r = .returned (.bool (N.drop s.n).2) ∧ Turned wz w' nb ch vb (N.drop s.n).1) := hid fun wz vb hn => drop_calls nb ch vb N s.n hwn wz hn
        obtain ⟨N', hN'⟩ : ∃ N', N' = (N.drop s.n).1 := ⟨_, rfl⟩
        rw [← hN'] at hc HS
        obtain ⟨e, he⟩ : ∃ e, e = (N.drop s.n).2 := ⟨_, rfl⟩
        rw [← he] at HS
        clear hN' he HK hwn
        · go_wp2_with fail
          obtain ⟨vb, hn⟩ := HN4.out
          have hnP := hn
          have hfw := HF4.out
          have hz := hfw.size
          have HT := hid trivial
          refine (HS.out _ _ hnP.1).mono ?_
          rintro r w5 ⟨rfl, ht⟩
          obtain ⟨vb5, hn5, hf5⟩ := hnP.turn ht (fun g hg => by omega)
          have HC' := hid hc
          obtain ⟨q0, q1, q2, q3, q4, q5, q6, q7, q8, q9, q10⟩ := hc
          have hne : ((N'.l.length : Int) != p - t - (N'.lost - f)) = false := by rw [bne_eq_false_iff_eq]; omega
          have hgt : decide (max (min room 64) 1 < (N'.l.length : Int)) = false := by have h1 := HRM.out; unfold roomOf at h1; rw [decide_eq_false_iff_not]; omega
          have HF5 := hid (hfw.trans hf5 (fun b hb h => absurd h (by omega)))
          have HN5 := hid hn5
          have hlx : ∀ wz, Frm M0 w5 wz → Calls Try.prog 14 #[pn nb] wz fun r w' => r = .returned (.int .i64 N'.l.length) ∧ wz = w' := fun wz hf => len_calls nb ch vb5 N' wz (HN5.out.1.frm hf (fun _ _ h => h))
          have hox : ∀ wz, Frm M0 w5 wz → Calls Try.prog 21 #[pn nb] wz fun r w' => r = .returned (.int .i64 N'.lost) ∧ wz = w' := fun wz hf => lost_calls nb ch vb5 N' wz (HN5.out.1.frm hf (fun _ _ h => h))
          have HL5 := hid hlx
          have HO5 := hid hox
          clear hlx hox hn5 hf5 ht hnP hfw HC q0 q1 q2 HT
          go_wp2_with (first
            | (go_at_call 14; refine (HL5.out _ (by first | exact Frm.refl _ _ | exact (Frm.refl _ _).alloc _)).mono ?_; rintro r wq ⟨rfl, rfl⟩)
            | (go_at_call 21; refine (HO5.out _ (by first | exact Frm.refl _ _ | exact (Frm.refl _ _).alloc _)).mono ?_; rintro r wq ⟨rfl, rfl⟩))
          exact ⟨⟨k + 1, p, t, f, N', by omega, by go_num, rfl, rfl, rfl, HC', hid ⟨vb5, HN5.out⟩, HF5⟩, by simp [intOf]; omega⟩
      · subst hd
        have hcases := HC.out.twice hk100 s.n
        have HS : Hid (∀ wz vb, NetR wz nb ch vb N → Calls Try.prog 20 #[pn nb, .int .i64 s.n] wz fun r w' => r = .returned (.int .i64 (N.twice s.n).2) ∧ Turned wz w' nb ch vb (N.twice s.n).1) := hid fun wz vb hn => twice_calls nb ch vb N s.n hwn wz hn
        obtain ⟨N', hN'⟩ : ∃ N', N' = (N.twice s.n).1 := ⟨_, rfl⟩
        rw [← hN'] at hcases HS
        obtain ⟨e, he⟩ : ∃ e, e = (N.twice s.n).2 := ⟨_, rfl⟩
        rw [← he] at hcases HS
        clear hN' he HK hwn
        rcases hcases with ⟨rfl, hc⟩ | ⟨rfl, hc⟩ | ⟨rfl, hc⟩
        · go_wp2_with fail
          obtain ⟨vb, hn⟩ := HN4.out
          have hnP := hn
          have hfw := HF4.out
          have hz := hfw.size
          have HT := hid trivial
          refine (HS.out _ _ hnP.1).mono ?_
          rintro r w5 ⟨rfl, ht⟩
          obtain ⟨vb5, hn5, hf5⟩ := hnP.turn ht (fun g hg => by omega)
          have HC' := hid hc
          obtain ⟨q0, q1, q2, q3, q4, q5, q6, q7, q8, q9, q10⟩ := hc
          have hne : ((N'.l.length : Int) != (p + 1) - t - (N'.lost - f)) = false := by rw [bne_eq_false_iff_eq]; omega
          have hgt : decide (max (min room 64) 1 < (N'.l.length : Int)) = false := by have h1 := HRM.out; unfold roomOf at h1; rw [decide_eq_false_iff_not]; omega
          have HF5 := hid (hfw.trans hf5 (fun b hb h => absurd h (by omega)))
          have HN5 := hid hn5
          have hlx : ∀ wz, Frm M0 w5 wz → Calls Try.prog 14 #[pn nb] wz fun r w' => r = .returned (.int .i64 N'.l.length) ∧ wz = w' := fun wz hf => len_calls nb ch vb5 N' wz (HN5.out.1.frm hf (fun _ _ h => h))
          have hox : ∀ wz, Frm M0 w5 wz → Calls Try.prog 21 #[pn nb] wz fun r w' => r = .returned (.int .i64 N'.lost) ∧ wz = w' := fun wz hf => lost_calls nb ch vb5 N' wz (HN5.out.1.frm hf (fun _ _ h => h))
          have HL5 := hid hlx
          have HO5 := hid hox
          clear hlx hox hn5 hf5 ht hnP hfw HC q0 q1 q2 HT
          go_wp2_with (first
            | (go_at_call 14; refine (HL5.out _ (by first | exact Frm.refl _ _ | exact (Frm.refl _ _).alloc _)).mono ?_; rintro r wq ⟨rfl, rfl⟩)
            | (go_at_call 21; refine (HO5.out _ (by first | exact Frm.refl _ _ | exact (Frm.refl _ _).alloc _)).mono ?_; rintro r wq ⟨rfl, rfl⟩))
          exact ⟨⟨k + 1, (p + 1), t, f, N', by omega, by go_num, rfl, rfl, rfl, HC', hid ⟨vb5, HN5.out⟩, HF5⟩, by simp [intOf]; omega⟩
        · go_wp2_with fail
          obtain ⟨vb, hn⟩ := HN4.out
          have hnP := hn
          have hfw := HF4.out
          have hz := hfw.size
          have HT := hid trivial
          refine (HS.out _ _ hnP.1).mono ?_
          rintro r w5 ⟨rfl, ht⟩
          obtain ⟨vb5, hn5, hf5⟩ := hnP.turn ht (fun g hg => by omega)
          have HC' := hid hc
          obtain ⟨q0, q1, q2, q3, q4, q5, q6, q7, q8, q9, q10⟩ := hc
          have hne : ((N'.l.length : Int) != p - t - (N'.lost - (f + 1))) = false := by rw [bne_eq_false_iff_eq]; omega
          have hgt : decide (max (min room 64) 1 < (N'.l.length : Int)) = false := by have h1 := HRM.out; unfold roomOf at h1; rw [decide_eq_false_iff_not]; omega
          have HF5 := hid (hfw.trans hf5 (fun b hb h => absurd h (by omega)))
          have HN5 := hid hn5
          have hlx : ∀ wz, Frm M0 w5 wz → Calls Try.prog 14 #[pn nb] wz fun r w' => r = .returned (.int .i64 N'.l.length) ∧ wz = w' := fun wz hf => len_calls nb ch vb5 N' wz (HN5.out.1.frm hf (fun _ _ h => h))
          have hox : ∀ wz, Frm M0 w5 wz → Calls Try.prog 21 #[pn nb] wz fun r w' => r = .returned (.int .i64 N'.lost) ∧ wz = w' := fun wz hf => lost_calls nb ch vb5 N' wz (HN5.out.1.frm hf (fun _ _ h => h))
          have HL5 := hid hlx
          have HO5 := hid hox
          clear hlx hox hn5 hf5 ht hnP hfw HC q0 q1 q2 HT
          go_wp2_with (first
            | (go_at_call 14; refine (HL5.out _ (by first | exact Frm.refl _ _ | exact (Frm.refl _ _).alloc _)).mono ?_; rintro r wq ⟨rfl, rfl⟩)
            | (go_at_call 21; refine (HO5.out _ (by first | exact Frm.refl _ _ | exact (Frm.refl _ _).alloc _)).mono ?_; rintro r wq ⟨rfl, rfl⟩))
          exact ⟨⟨k + 1, p, t, (f + 1), N', by omega, by go_num, rfl, rfl, rfl, HC', hid ⟨vb5, HN5.out⟩, HF5⟩, by simp [intOf]; omega⟩
        · go_wp2_with fail
          obtain ⟨vb, hn⟩ := HN4.out
          have hnP := hn
          have hfw := HF4.out
          have hz := hfw.size
          have HT := hid trivial
          refine (HS.out _ _ hnP.1).mono ?_
          rintro r w5 ⟨rfl, ht⟩
          obtain ⟨vb5, hn5, hf5⟩ := hnP.turn ht (fun g hg => by omega)
          have HC' := hid hc
          obtain ⟨q0, q1, q2, q3, q4, q5, q6, q7, q8, q9, q10⟩ := hc
          have hne : ((N'.l.length : Int) != p - t - (N'.lost - f)) = false := by rw [bne_eq_false_iff_eq]; omega
          have hgt : decide (max (min room 64) 1 < (N'.l.length : Int)) = false := by have h1 := HRM.out; unfold roomOf at h1; rw [decide_eq_false_iff_not]; omega
          have HF5 := hid (hfw.trans hf5 (fun b hb h => absurd h (by omega)))
          have HN5 := hid hn5
          have hlx : ∀ wz, Frm M0 w5 wz → Calls Try.prog 14 #[pn nb] wz fun r w' => r = .returned (.int .i64 N'.l.length) ∧ wz = w' := fun wz hf => len_calls nb ch vb5 N' wz (HN5.out.1.frm hf (fun _ _ h => h))
          have hox : ∀ wz, Frm M0 w5 wz → Calls Try.prog 21 #[pn nb] wz fun r w' => r = .returned (.int .i64 N'.lost) ∧ wz = w' := fun wz hf => lost_calls nb ch vb5 N' wz (HN5.out.1.frm hf (fun _ _ h => h))
          have HL5 := hid hlx
          have HO5 := hid hox
          clear hlx hox hn5 hf5 ht hnP hfw HC q0 q1 q2 HT
          go_wp2_with (first
            | (go_at_call 14; refine (HL5.out _ (by first | exact Frm.refl _ _ | exact (Frm.refl _ _).alloc _)).mono ?_; rintro r wq ⟨rfl, rfl⟩)
            | (go_at_call 21; refine (HO5.out _ (by first | exact Frm.refl _ _ | exact (Frm.refl _ _).alloc _)).mono ?_; rintro r wq ⟨rfl, rfl⟩))
          exact ⟨⟨k + 1, p, t, f, N', by omega, by go_num, rfl, rfl, rfl, HC', hid ⟨vb5, HN5.out⟩, HF5⟩, by simp [intOf]; omega⟩
    · obtain rfl : k = L.length := by omega
      go_wp2_with fail
      go_ret
      exact ⟨rfl, HF.out.below⟩
end Go.Proofs.Ytbepcohcdgfkaaa
