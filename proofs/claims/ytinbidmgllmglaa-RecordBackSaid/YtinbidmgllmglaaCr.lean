/- The walks of codec's reader: Read, Err, Left, End, fail, Number, Text, List. -/
import Derived.Test.YtinbidmgllmglaaCe
import Derived.Test.YtinbidmgllmglaaCb
namespace Go.Proofs.Ytinbidmgllmglaa
set_option linter.unusedVariables false
set_option linter.unusedSimpArgs false
open Go.RowKit Cp

/-- The block rb is a reader: the bytes l are left in it, its error is e. -/
def Rdr (w : World) (rb : Nat) (l : List Int) (e : Int) : Prop :=
  ∃ v, w.heap[rb]? = some (.cells #[v, .int .i64 e] 74 (0, 0)) ∧ Rd w 1 v l.length (ints .u8 l) ∧ (∀ k, v.ownBlock = some k → k < rb) ∧ (∀ x ∈ l, 0 ≤ x ∧ x < 256) ∧ l.length ≤ 1000000

abbrev rp (rb : Nat) : Value := .pointer (some ⟨rb, 0, none⟩)

theorem Rdr.frm {M : Nat → Prop} {w w' : World} {rb : Nat} {l : List Int} {e : Int} (h : Rdr w rb l e) (hf : Frm M w w') (h0 : ∀ k, M k → rb < k) : Rdr w' rb l e := by
  obtain ⟨v, ha, hb, hc, hd⟩ := h
  exact ⟨v, hf.heap ha (fun h => absurd (h0 _ h) (by omega)), hb.frm hf (fun k hk hm => by have := hc k hk; have := h0 k hm; omega), hc, hd⟩
theorem Rdr.frm0 {w w' : World} {rb : Nat} {l : List Int} {e : Int} (h : Rdr w rb l e) (hf : Frm M0 w w') : Rdr w' rb l e := h.frm hf (fun _ h => h.elim)

theorem Rdr.cells {w : World} {rb : Nat} {v : Value} {e : Int} (h : w.heap[rb]? = some (.cells #[v, .int .i64 e] 74 (0, 0))) :
    w.cell? ⟨rb, 0, none⟩ = some v ∧ w.cell? ⟨rb, 1, none⟩ = some (.int .i64 e) ∧ w.frozen? ⟨rb, 0, none⟩ = false ∧ w.frozen? ⟨rb, 1, none⟩ = false := by
  refine ⟨?_, ?_, ?_, ?_⟩ <;> simp [World.cell?, World.frozen?, h]

theorem Rdr.set {w : World} {rb : Nat} {v v' : Value} {l' : List Int} {e e' : Int} (h : w.heap[rb]? = some (.cells #[v, .int .i64 e] 74 (0, 0)))
    (hr : Rd w 1 v' l'.length (ints .u8 l')) (hb : ∀ k, v'.ownBlock = some k → k < rb) (hy : ∀ x ∈ l', 0 ≤ x ∧ x < 256) (hl : l'.length ≤ 1000000) :
    Rdr ((w.setCell ⟨rb, 0, none⟩ v').setCell ⟨rb, 1, none⟩ (.int .i64 e')) rb l' e' ∧ Frm (· = rb) w ((w.setCell ⟨rb, 0, none⟩ v').setCell ⟨rb, 1, none⟩ (.int .i64 e')) := by
  have hf : Frm (· = rb) w ((w.setCell ⟨rb, 0, none⟩ v').setCell ⟨rb, 1, none⟩ (.int .i64 e')) := ((Frm.refl (fun x => x = rb) w).put rb 0 _ (fun _ => rfl)).put rb 1 _ (fun _ => rfl)
  refine ⟨⟨v', ?_, hr.frm hf (fun k hk e => by have := hb k hk; omega), hb, hy, hl⟩, hf⟩
  rw [heap_set_at (heap_set_at h _) _]; rfl

theorem Rdr.set0 {w : World} {rb : Nat} {v v' : Value} {l' : List Int} {e : Int} (h : w.heap[rb]? = some (.cells #[v, .int .i64 e] 74 (0, 0)))
    (hr : Rd w 1 v' l'.length (ints .u8 l')) (hb : ∀ k, v'.ownBlock = some k → k < rb) (hy : ∀ x ∈ l', 0 ≤ x ∧ x < 256) (hl : l'.length ≤ 1000000) :
    Rdr (w.setCell ⟨rb, 0, none⟩ v') rb l' e ∧ Frm (· = rb) w (w.setCell ⟨rb, 0, none⟩ v') := by
  have hf : Frm (· = rb) w (w.setCell ⟨rb, 0, none⟩ v') := (Frm.refl (fun x => x = rb) w).put rb 0 _ (fun _ => rfl)
  refine ⟨⟨v', ?_, hr.frm hf (fun k hk e => by have := hb k hk; omega), hb, hy, hl⟩, hf⟩
  rw [heap_set_at h _]; rfl

theorem read_calls (v : Value) (l : List Int) (w : World) (hl : l.length ≤ 1000000) (hr : Rd w 1 v l.length (ints .u8 l)) (hy : ∀ x ∈ l, 0 ≤ x ∧ x < 256) :
    Calls Try.prog 13 #[v] w fun e w' => ∃ rb, e = .returned (rp rb) ∧ w.heap.size ≤ rb ∧ Rdr w' rb l 0 ∧ Frm M0 w w' := by
  go_enter Try.func13, Try.ntmps13
  go_wp2_with fail
  refine (clone_calls v l w hl hr).mono ?_
  rintro e w1 ⟨v1, rfl, ho1, hb1⟩
  have HO := hid ho1
  clear ho1
  obtain ⟨a, c, rfl, _⟩ := (Rd.ofOwns HO.out).shape
  go_wp2_with fail
  go_ret
  have hf : Frm M0 w1 (w1.alloc (.cells #[.slice a l.length c, .int .i64 0] 74)) := (Frm.refl _ _).alloc _
  refine ⟨w1.heap.size, rfl, hb1.size, ⟨_, heap_alloc_new _ _, (Rd.ofOwns HO.out).frm0 hf, fun k hk => (HO.out.lt k hk).2, hy, hl⟩, (Frm.ofBelow hb1 (fun k h1 h2 => by omega)).then0 hf⟩

theorem err_calls (rb : Nat) (l : List Int) (e : Int) (w : World) (h : Rdr w rb l e) :
    Calls Try.prog 34 #[rp rb] w fun r w' => r = .returned (.int .i64 e) ∧ w = w' := by
  obtain ⟨v, ha, _⟩ := h
  obtain ⟨c0, c1, _, _⟩ := Rdr.cells ha
  clear ha
  go_enter Try.func34, Try.ntmps34
  go_wp2
  go_ret
  exact ⟨rfl, rfl⟩

theorem left_calls (rb : Nat) (l : List Int) (e : Int) (w : World) (h : Rdr w rb l e) :
    Calls Try.prog 37 #[rp rb] w fun r w' => r = .returned (.int .i64 l.length) ∧ w = w' := by
  obtain ⟨v, ha, hr, _⟩ := h
  obtain ⟨c0, c1, _, _⟩ := Rdr.cells ha
  obtain ⟨a, c, rfl, _⟩ := hr.shape
  clear ha hr
  go_enter Try.func37, Try.ntmps37
  go_wp2
  go_ret
  exact ⟨rfl, rfl⟩

/-- What End tells. -/
def endF (l : List Int) (e : Int) : Int := if e = 0 ∧ 0 < l.length then 2 else e
theorem end_calls (rb : Nat) (l : List Int) (e : Int) (w : World) (h : Rdr w rb l e) :
    Calls Try.prog 18 #[rp rb] w fun r w' => r = .returned (.int .i64 (endF l e)) ∧ w = w' := by
  by_cases he : e = 0
  · subst he
    by_cases hl : 0 < l.length
    · have HE : Hid (endF l 0 = 2) := by unfold Hid endF; rw [if_pos ⟨rfl, hl⟩]
      go_enter Try.func18, Try.ntmps18
      go_wp2_with fail
      refine (err_calls rb l 0 w h).mono ?_
      rintro r w' ⟨rfl, rfl⟩
      go_wp2_with fail
      refine (left_calls rb l 0 w h).mono ?_
      rintro r w' ⟨rfl, rfl⟩
      go_wp2_with fail
      go_ret
      exact ⟨by rw [HE.out]; rfl, rfl⟩
    · have HE : Hid (endF l 0 = 0) := by unfold Hid endF; rw [if_neg (fun h => hl h.2)]
      go_enter Try.func18, Try.ntmps18
      go_wp2_with fail
      refine (err_calls rb l 0 w h).mono ?_
      rintro r w' ⟨rfl, rfl⟩
      go_wp2_with fail
      refine (left_calls rb l 0 w h).mono ?_
      rintro r w' ⟨rfl, rfl⟩
      go_wp2_with fail
      refine (err_calls rb l 0 w h).mono ?_
      rintro r w' ⟨rfl, rfl⟩
      go_wp2_with fail
      go_ret
      exact ⟨by rw [HE.out]; rfl, rfl⟩
  · have HE : Hid (endF l e = e) := by unfold Hid endF; rw [if_neg (fun h => he h.1)]
    have hb : (e == 0) = false := beq_eq_false_iff_ne.2 he
    clear he
    go_enter Try.func18, Try.ntmps18
    go_wp2_with fail
    refine (err_calls rb l e w h).mono ?_
    rintro r w' ⟨rfl, rfl⟩
    go_wp2_with fail
    refine (err_calls rb l e w h).mono ?_
    rintro r w' ⟨rfl, rfl⟩
    go_wp2_with fail
    go_ret
    exact ⟨by rw [HE.out]; rfl, rfl⟩

theorem fail_calls (rb : Nat) (l : List Int) (w : World) (h : Rdr w rb l 0) :
    Calls Try.prog 35 #[rp rb] w fun r w' => r = .returned (.tuple #[]) ∧ Rdr w' rb [] 2 ∧ Frm (· = rb) w w' := by
  obtain ⟨v, ha, hr, hb, _⟩ := h
  obtain ⟨c0, c1, f0, f1⟩ := Rdr.cells ha
  have HA := hid ha
  clear ha hr hb
  go_enter Try.func35, Try.ntmps35
  go_wp2
  go_end0
  exact ⟨rfl, Rdr.set HA.out (Rd.nil _ _) (fun k hk => by cases hk) (fun x hx => by cases hx) (by simp)⟩
theorem fail_calls' (rb : Nat) (l : List Int) (e : Int) (w : World) (h : Rdr w rb l e) (he : e ≠ 0) :
    Calls Try.prog 35 #[rp rb] w fun r w' => r = .returned (.tuple #[]) ∧ w = w' := by
  obtain ⟨v, ha, hr, hb, _⟩ := h
  obtain ⟨c0, c1, f0, f1⟩ := Rdr.cells ha
  have he2 : (e == 0) = false := beq_eq_false_iff_ne.2 he
  clear ha hr hb he
  go_enter Try.func35, Try.ntmps35
  go_wp2
  go_end0
  exact ⟨rfl, rfl⟩

set_option maxRecDepth 100000 in
set_option maxHeartbeats 4000000 in
theorem rnum0_calls (rb : Nat) (l : List Int) (w : World) (h : Rdr w rb l 0) :
    Calls Try.prog 14 #[rp rb] w fun r w' =>
      (∃ n l', rdAux 0 0 l = some (n, l') ∧ r = .returned (.int .i64 n) ∧ Rdr w' rb l' 0 ∧ Frm (· = rb) w w') ∨ (rdAux 0 0 l = none ∧ r = .returned (.int .i64 0) ∧ Rdr w' rb [] 2 ∧ Frm (· = rb) w w') := by
  have H := hid h
  obtain ⟨v, ha, hr, hb, hy, hl⟩ := h
  obtain ⟨c0, c1, f0, f1⟩ := Rdr.cells ha
  obtain ⟨a, c, rfl, hab⟩ := hr.shape
  obtain ⟨_, hcap1, hcap2⟩ := hr.cap
  have HA := hid ha
  have HR := hid hr
  have HY := hid hy
  have HB := hid hb
  clear ha hr hb hy
  go_enter Try.func14, Try.ntmps14
  go_wp2_with fail
  refine wp_scope_again 0 (fun a' w' => w' = w ∧ ∃ (m i : Nat) (u5 u6 u7 u8 u9 u10 u11 u12 u13 u14 u15 u16 u17 u18 u19 u20 u21 u22 u23 u24 u25 u26 u27 u28 u29 u30 u31 u32 u33 u34 u35 u36 u37 u38 u39 u40 u41 u42 u43 u44 u45 u46 u47 u48 u49 u50 u51 u52 u53 u54 u55 u56 u57 u58 u59 u60 u61 u62 u63 : Value), a' = { tmps := #[rp rb, undef, .int .i64 0, .int .i64 m, .int .i64 i, u5, u6, u7, u8, u9, u10, u11, u12, u13, u14, u15, u16, u17, u18, u19, u20, u21, u22, u23, u24, u25, u26, u27, u28, u29, u30, u31, u32, u33, u34, u35, u36, u37, u38, u39, u40, u41, u42, u43, u44, u45, u46, u47, u48, u49, u50, u51, u52, u53, u54, u55, u56, u57, u58, u59, u60, u61, u62, u63], defers := [] } ∧
      i ≤ l.length ∧ i ≤ 9 ∧ Hid (m < 128 ^ i) ∧ Hid (rdAux i m (l.drop i) = rdAux 0 0 l)) (fun a' _ => 10 - (intOf (a'.tmps.getD 4 undef)).toNat) rfl ?_ ?_
  · intro again
    have AG := hid again
    clear again
    go_wp2_with fail
    refine (err_calls rb l 0 w H.out).mono ?_
    rintro r w' ⟨rfl, rfl⟩
    go_wp2_with fail
    go_step3
    rename_i hK
    refine hK _ _ (AG.out _ _ ?_)
    exact ⟨rfl, 0, 0, _, _, _, _, _, _, _, _, _, _, _, _, _, _, _, _, _, _, _, _, _, _, _, _, _, _, _, _, _, _, _, _, _, _, _, _, _, _, _, _, _, _, _, _, _, _, _, _, _, _, _, _, _, _, _, _, _, _, _, rfl, by omega, by omega, hid (by decide), hid rfl⟩
  · rintro a' w' ⟨rfl, m, i, u5, u6, u7, u8, u9, u10, u11, u12, u13, u14, u15, u16, u17, u18, u19, u20, u21, u22, u23, u24, u25, u26, u27, u28, u29, u30, u31, u32, u33, u34, u35, u36, u37, u38, u39, u40, u41, u42, u43, u44, u45, u46, u47, u48, u49, u50, u51, u52, u53, u54, u55, u56, u57, u58, u59, u60, u61, u62, u63, rfl, hi1, hi2, HM, HE⟩
    by_cases hlt : i < l.length
    · have hne : ((i : Int) == (l.length : Int)) = false := beq_eq_false_iff_ne.2 (by omega)
      by_cases h9 : i < 9
      · have hn9 : ((i : Int) == 9) = false := beq_eq_false_iff_ne.2 (by omega)
        obtain ⟨b, o, rfl⟩ := hab (by omega)
        obtain ⟨x, HX, hx⟩ := HR.out.cellAt i hlt
        have hxb := HY.out x (List.mem_of_getElem? HX.out)
        have hbr : b < rb := HB.out b rfl
        obtain ⟨N, hN⟩ : ∃ N, N = m + x.toNat % 128 * 128 ^ i := ⟨_, rfl⟩
        have HO := hid (or_digit m i x hxb.1 hxb.2 (by omega) HM.out)
        have HD := hid (digit_lt HM.out (show x.toNat % 128 < 128 by omega))
        rw [← hN] at HO HD
        by_cases h128 : 128 ≤ x
        · have HST := hid (rdAux_step (n := m) HX.out h9 h128)
          rw [← hN] at HST
          clear hN
          go_wp2_with fail
          go_step3
          refine ⟨rfl, ⟨rfl, N, i + 1, _, _, _, _, _, _, _, _, _, _, _, _, _, _, _, _, _, _, _, _, _, _, _, _, _, _, _, _, _, _, _, _, _, _, _, _, _, _, _, _, _, _, _, _, _, _, _, _, _, _, _, _, _, _, _, _, _, _, _, by rw [← HO.out]; rfl, by omega, by omega, HD, hid (by rw [← HST.out]; exact HE.out)⟩, ?_⟩
          simp [intOf]
          omega
        · have HFIN : Hid (¬ (x = 0 ∧ 0 < i) → N ≤ 4611686018427387903 → rdAux 0 0 l = some (N, l.drop (i + 1))) :=
            fun g h2 => by rw [hN, ← HE.out]; exact rdAux_good HX.out h9 (by omega) g (by omega)
          have HBAD : Hid ((x = 0 ∧ 0 < i) ∨ 4611686018427387903 < N → rdAux 0 0 l = none) := fun g => by rw [hN] at g; rw [← HE.out]; exact rdAux_bad HX.out (by omega) g
          clear hN
          by_cases h0 : x = 0 ∧ 0 < i
          · obtain ⟨hx0, hip⟩ := h0
            have hB := hid (HBAD.out (.inl ⟨hx0, hip⟩))
            have hxe : (x == 0) = true := beq_iff_eq.2 hx0
            clear hx0
            go_wp2_with fail
            refine (fail_calls rb l _ H.out).mono ?_
            rintro r w2 ⟨rfl, hr2, hf2⟩
            have HR2 := hid hr2
            have HF2 := hid hf2
            clear hr2 hf2
            go_wp2_with fail
            simp only [Exit.jump]
            go_ret
            exact .inr ⟨hB.out, rfl, HR2.out, HF2.out⟩
          · have hmay : Hid (mayB (N : Int) = decide (N ≤ 4611686018427387903)) := by
              unfold Hid mayB MAX
              rw [decide_eq_true (Int.natCast_nonneg _), Bool.true_and]
              exact decide_eq_decide.2 (by omega)
            have hcase : (x == 0) = false ∨ ((x == 0) = true ∧ ¬ (1 : Int) < (i : Int) + 1) := by
              by_cases hx0 : x = 0
              · exact .inr ⟨beq_iff_eq.2 hx0, fun h => h0 ⟨hx0, by omega⟩⟩
              · exact .inl (beq_eq_false_iff_ne.2 hx0)
            have H0 := hid h0
            clear h0
            rcases hcase with hxe | ⟨hxe, hi0⟩
            all_goals
              go_wp2_with fail
              refine (may_calls _ _).mono ?_
              rintro r w2 ⟨rfl, rfl⟩
              rw [HO.out, hmay.out]
              by_cases hle : N ≤ 4611686018427387903
              · have hF := hid (HFIN.out H0.out hle)
                have hy2 : ∀ x ∈ l.drop (i + 1), 0 ≤ x ∧ x < 256 := fun x hx => HY.out x (List.mem_of_mem_drop hx)
                have HY2 := hid hy2
                have hl2 : (l.drop (i + 1)).length ≤ 1000000 := by rw [List.length_drop]; omega
                have hdd := decide_eq_true hle
                rw [hdd]
                clear hy2
                by_cases hcap : c = i + 1
                · go_wp2_with fail
                  simp only [Exit.jump]
                  go_ret
                  exact .inl ⟨N, _, hF.out, rfl, Rdr.set0 HA.out (HR.out.dropAll (i + 1) (by omega)) (fun k hk => by cases hk; exact hbr) HY2.out hl2⟩
                · go_wp2_with fail
                  simp only [Exit.jump]
                  go_ret
                  exact .inl ⟨N, _, hF.out, rfl, Rdr.set0 HA.out (HR.out.drop (i + 1) (by omega)) (fun k hk => by cases hk; exact hbr) HY2.out hl2⟩
              · have hB := hid (HBAD.out (.inr (by omega)))
                have hdd := decide_eq_false hle
                rw [hdd]
                go_wp2_with fail
                refine (fail_calls rb l _ H.out).mono ?_
                rintro r w2 ⟨rfl, hr2, hf2⟩
                have HR2 := hid hr2
                have HF2 := hid hf2
                clear hr2 hf2
                go_wp2_with fail
                simp only [Exit.jump]
                go_ret
                exact .inr ⟨hB.out, rfl, HR2.out, HF2.out⟩
      · go_wp2_with fail
        refine (fail_calls rb l _ H.out).mono ?_
        rintro r w2 ⟨rfl, hr2, hf2⟩
        have HR2 := hid hr2
        have HF2 := hid hf2
        clear hr2 hf2
        go_wp2_with fail
        simp only [Exit.jump]
        go_ret
        exact .inr ⟨by rw [← HE.out]; exact rdAux_nine (by omega), rfl, HR2.out, HF2.out⟩
    · have hne : ((i : Int) == (l.length : Int)) = true := beq_iff_eq.2 (by omega)
      go_wp2_with fail
      refine (fail_calls rb l _ H.out).mono ?_
      rintro r w2 ⟨rfl, hr2, hf2⟩
      have HR2 := hid hr2
      have HF2 := hid hf2
      clear hr2 hf2
      go_wp2_with fail
      simp only [Exit.jump]
      go_ret
      exact .inr ⟨by rw [← HE.out]; exact rdAux_end (by omega), rfl, HR2.out, HF2.out⟩
end Go.Proofs.Ytinbidmgllmglaa
