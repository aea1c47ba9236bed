/- The walk of the document's reader: GetList. No condition. -/
import Derived.Test.YtinbidmgllmglaaRb
namespace Go.Proofs.Ytinbidmgllmglaa
set_option linter.unusedVariables false
set_option linter.unusedSimpArgs false
open Go.RowKit Cp

/-- What List gives: the numbers, what is left, the error. -/
def listE (l : List Int) (e : Int) : List Int × List Int × Int :=
  if (getF l e).2.2 ≠ 0 then ([], (getF l e).2.1, (getF l e).2.2)
  else if 64 < (getF l e).1.toNat then ([], [], 2)
  else if (numsF (getF l e).1.toNat (getF l e).2.1 0).2.2 = 0 then numsF (getF l e).1.toNat (getF l e).2.1 0
  else ([], (numsF (getF l e).1.toNat (getF l e).2.1 0).2.1, (numsF (getF l e).1.toNat (getF l e).2.1 0).2.2)
theorem listE_0 (l : List Int) : listE l 0 = listF l := by
  unfold listE listF getF
  rw [if_pos rfl]
  cases h : rdAux 0 0 l with
  | none => simp
  | some p => obtain ⟨n, r⟩ := p; simp
theorem listE_ne (l : List Int) (e : Int) (he : e ≠ 0) : listE l e = ([], l, e) := by
  unfold listE getF
  rw [if_neg he, if_pos he]
theorem getF_err (l : List Int) (h : (getF l 0).2.2 ≠ 0) : getF l 0 = (0, [], 2) := by
  unfold getF at *
  rw [if_pos rfl] at *
  cases hr : rdAux 0 0 l with
  | none => rfl
  | some p => obtain ⟨n, r⟩ := p; rw [hr] at h; exact absurd rfl h
theorem numsF_sub (l : List Int) : ∀ k, (∀ x ∈ (numsF k l 0).2.1, x ∈ l) ∧ (numsF k l 0).2.1.length ≤ l.length := by
  intro k
  induction k with
  | zero => exact ⟨fun x h => h, Nat.le_refl _⟩
  | succ k ih =>
    rw [numsF]
    obtain ⟨n, h1, h2, h3, h4⟩ := getF_sub (numsF k l 0).2.1 (numsF k l 0).2.2
    exact ⟨fun x hx => ih.1 x (h3 x hx), Nat.le_trans h4 ih.2⟩
theorem numsF_dead (l : List Int) (k : Nat) (h : (numsF k l 0).2 = ([], 2)) : ∀ d, (numsF (k + d) l 0).2 = ([], 2) := by
  intro d
  induction d with
  | zero => exact h
  | succ d ih =>
    rw [Nat.add_succ, numsF]
    rw [Prod.ext_iff] at ih
    simp only [ih.1, ih.2]
    rfl
theorem numsF_step (l : List Int) (k : Nat) (xs lk : List Int) (h : numsF k l 0 = (xs, lk, 0)) : numsF (k + 1) l 0 = (xs ++ [(getF lk 0).1], (getF lk 0).2.1, (getF lk 0).2.2) := by rw [numsF, h]

def RefL (w0 w w' : World) (L : List Int × List Int × Int) (r : Ending) : Prop :=
  ∃ v' vl, r = .returned (.tuple #[rv v' L.2.2, vl]) ∧ Hid (RdB w0 v' L.2.1) ∧ Hid (Rd w' 1 vl L.1.length (ints .i64 L.1)) ∧ Hid (∀ k, vl.ownBlock = some k → w.heap.size ≤ k) ∧ Frm M0 w w'

set_option maxRecDepth 100000 in
set_option maxHeartbeats 4000000 in
theorem getList_calls (w0 : World) (v : Value) (l : List Int) (e : Int) (w : World) (hw : Frm M0 w0 w) (hr : RdB w0 v l) (hy : ∀ x ∈ l, 0 ≤ x ∧ x < 256) (hl : l.length ≤ 1000000) :
    Calls Try.prog 21 #[rv v e] w fun r w' => RefL w0 w w' (listE l e) r := by
  obtain ⟨T, hT⟩ : ∃ T, T = listE l e := ⟨_, rfl⟩
  rw [← hT]
  unfold listE at hT
  obtain ⟨n, hn, hn2, hsub, hlen⟩ := getF_sub l e
  have hG := fun wz (hz : Frm M0 w wz) => getNum_calls w0 v l e wz (hw.then0 hz) hr hy hl
  obtain ⟨⟨g, l', e'⟩, hg⟩ : ∃ g, g = getF l e := ⟨_, rfl⟩
  rw [← hg] at hT hn hsub hlen hG
  simp only [] at hT hn hsub hlen hG
  subst hn
  rw [Int.toNat_natCast] at hT
  have hy' : ∀ x ∈ l', 0 ≤ x ∧ x < 256 := fun x hx => hy x (hsub x hx)
  obtain ⟨a, c, rfl, hab, hc1, hc2⟩ := hr.shape
  have HG : Hid (∀ wz, Frm M0 w wz → Calls Try.prog 19 #[.agg #[.slice a l.length c, .int .i64 e]] wz fun r w' => RefB w0 wz w' l' e' r (fun x => .tuple #[x, .int .i64 (n : Int)])) := hid hG
  have HT := hid hT
  have HW := hid hw
  have HY' := hid hy'
  clear hT hG hg hsub hr hy hw hy'
  go_enter Try.func21, Try.ntmps21
  go_wp2_with fail
  refine (HG.out _ (((Frm.refl M0 w).alloc _).alloc _)).mono ?_
  rintro r w3 ⟨v3, rfl, hr3, hf3⟩
  obtain ⟨a3, c3, rfl, hab3, hc31, hc32⟩ := hr3.out.shape
  have hb1 := hf3.heap (new2 w (.cells #[.slice a l.length c, .int .i64 e] 51) (.cells #[.slice none 0 0, .int .i64 0] 51)).2 (fun h => h)
  have HF3 := hid ((((Frm.refl M0 w).alloc _).alloc _).then0 hf3)
  have HB1 := hid hb1
  clear hb1 hf3 HG
  unfold rv
  go_upto_region 2 with fail
  obtain ⟨w4, hw4⟩ : ∃ w4, w4 = w3.alloc (.cells #[.slice a3 l'.length c3, .int .i64 e'] 51) := ⟨_, rfl⟩
  have hb4 := new1 w3 (.cells #[.slice a3 l'.length c3, .int .i64 e'] 51)
  have hf4 : Frm M0 w3 w4 := by rw [hw4]; exact (Frm.refl _ _).alloc _
  have hz4 : w4.heap.size = w3.heap.size + 1 := by rw [hw4]; simp
  rw [← hw4] at hb4 ⊢
  have hb14 := hf4.heap HB1.out (fun h => h)
  obtain ⟨⟨p0, p1⟩, q0, q1⟩ := two hb4
  obtain ⟨⟨r0, r1⟩, t0, t1⟩ := two hb14
  have hz3 := (Array.getElem?_eq_some_iff.1 HB1.out).1
  have HF4 := hid (HF3.out.then0 hf4)
  have HB14 := hid hb14
  have HB4 := hid hb4
  have HZ4 := hid hz4
  clear hw4 hb4 hf4 hb14 HB1 HF3 hz4
  by_cases he' : e' = 0
  · subst he'
    by_cases h64 : 64 < n
    · have hT2 := HT.out
      rw [if_neg (by simp), if_pos h64] at hT2
      have HT2 := hid hT2
      have hbd := bad_calls w0 (.slice a3 l'.length c3) l' 0 w4 hr3.out
      have HBD : Hid (Calls Try.prog 41 #[.agg #[.slice a3 l'.length c3, .int .i64 0]] w4 fun r w' => RefB w0 w4 w' [] 2 r (fun x => x)) := hbd
      have g1 : (64 : Int) < (n : Int) := by omega
      clear hT2 HT hbd
      go_wp2_with fail
      refine HBD.out.mono ?_
      rintro r w8 ⟨v8, rfl, hr8, hf8⟩
      obtain ⟨a8, c8, rfl, hn8, _, _⟩ := hr8.out.shape
      have hbb := hf8.heap HB14.out (fun h => h)
      obtain ⟨⟨r0, r1⟩, t0, t1⟩ := two hbb
      have hzz := (Array.getElem?_eq_some_iff.1 hbb).1
      have HF8 := hid (HF4.out.then0 hf8)
      clear hbb hf8 HBD
      go_wp2_with fail
      refine bodyPost_ret (v := .tuple #[rv (.slice a8 ([] : List Int).length c8) 2, .slice none 0 0]) (by simp [results, Try.results21, go_sem, r0, r1, hzz]) rfl ?_
      have hfl := (HF8.out.putN (w.heap.size + 1) 0 (.slice a8 ([] : List Int).length c8) (by omega)).putN (w.heap.size + 1) 1 (.int .i64 2) (by omega)
      rw [HT2.out]
      exact ⟨_, _, rfl, hr8, hid (Rd.nil _ _), hid (fun k hk => by cases hk), hfl⟩
    · have hT2 := HT.out
      rw [if_neg (by simp), if_neg h64] at hT2
      have HT2 := hid hT2
      have g1 : decide ((64 : Int) < (n : Int)) = false := by rw [decide_eq_false_iff_not]; omega
      clear hT2 HT
      go_wp2_with fail
      go_loopw [6, 7] (fun s6 s7 wr => ∃ (k : Nat) (xs lk : List Int) (vk : Value), k ≤ n ∧ s7 = .int .i64 k ∧ Hid (numsF k l' 0 = (xs, lk, 0)) ∧ Hid (wr.ownsRow w4.heap.size 3 1 s6 xs.length (ints .i64 xs)) ∧
        Hid (wr.heap[w3.heap.size]? = some (.cells #[vk, .int .i64 0] 51 (0, 0))) ∧ Hid (RdB w0 vk lk) ∧ Hid (Frm (fun b => b = w3.heap.size ∨ w4.heap.size ≤ b) w4 wr)) (fun _ i _ => n - (intOf i).toNat)
      case atStart => exact ⟨0, [], l', _, by omega, rfl, hid rfl, hid (World.ownsRow_nil _ _ _ _), HB4, hr3, hid (Frm.refl _ _)⟩
      case round =>
        obtain ⟨k, xs, lk, vk, hk, rfl, HN, HO, HK, HR, HF⟩ := hrel
        have hxl : xs.length = k := by have := numsF_len k l' 0; rw [HN.out] at this; exact this
        have hzk := HF.out.size
        have HB1k := hid (HF.out.heap HB14.out (by have := HZ4.out; omega))
        obtain ⟨⟨r0, r1⟩, t0, t1⟩ := two HB1k.out
        obtain ⟨⟨p0, p1⟩, q0, q1⟩ := two HK.out
        obtain ⟨ak, ck, rfl, habk, hck1, hck2⟩ := HR.out.shape
        have hw0 : Frm M0 w0 wr := (HW.out.then0 HF4.out).trans HF.out (fun b hb h => by have := HW.out.size; have := HZ4.out; omega)
        have hsubk := numsF_sub l' k
        rw [HN.out] at hsubk
        simp only [] at hsubk
        have hgn := getNum_calls w0 _ lk 0 wr hw0 HR.out (fun x hx => HY'.out x (hsubk.1 x hx)) (by omega)
        have hst := numsF_step l' k xs lk HN.out
        obtain ⟨⟨g, l2, e2⟩, hg⟩ : ∃ g, g = getF lk 0 := ⟨_, rfl⟩
        have herr := getF_err lk
        rw [← hg] at hgn hst herr
        simp only [] at hgn hst herr
        have HST := hid hst
        have HER := hid herr
        have HGN := hid hgn
        have HW0 := hid hw0
        unfold rv at HGN
        by_cases hlt : k < n
        · have hlt' : (k : Int) < (n : Int) := by omega
          clear hsubk hgn hst hg hw0 herr
          go_wp2_with fail
          refine HGN.out.mono ?_
          rintro r w6 ⟨v6, rfl, hr6, hf6⟩
          obtain ⟨a6, c6, rfl, hab6, hc61, hc62⟩ := hr6.out.shape
          have HF6 := hid (HF.out.then0 hf6)
          have hal : Frm M0 w6 (w6.alloc (.cells #[.slice a6 l2.length c6, .int .i64 e2] 51)) := (Frm.refl _ _).alloc _
          have hb8 := new1 w6 (.cells #[.slice a6 l2.length c6, .int .i64 e2] 51)
          have hk6 := hal.heap (hf6.heap HK.out (fun h => h)) (fun h => h)
          have hb16 := hal.heap (hf6.heap HB1k.out (fun h => h)) (fun h => h)
          have ho6 := hal.owns (hf6.owns HO.out (fun _ _ h => h)) (fun _ _ h => h)
          have hf8 := HF6.out.then0 hal
          have hwx := HW0.out.then0 (hf6.then0 hal)
          unfold rv
          go_upto_region 9 with fail
          obtain ⟨w8, hw8⟩ : ∃ w8, w8 = w6.alloc (.cells #[.slice a6 l2.length c6, .int .i64 e2] 51) := ⟨_, rfl⟩
          rw [← hw8] at hb8 hk6 hb16 ho6 hf8 hwx ⊢
          obtain ⟨⟨s0, s1⟩, _⟩ := two hb8
          obtain ⟨⟨p0, p1⟩, q0, q1⟩ := two hk6
          obtain ⟨⟨r0, r1⟩, t0, t1⟩ := two hb16
          have hz6 := hf6.size
          have hz8 := (Array.getElem?_eq_some_iff.1 hb8).1
          have hzb1 := (Array.getElem?_eq_some_iff.1 hb16).1
          have HK6 := hid hk6
          have HB16 := hid hb16
          have HO8 := hid ho6
          have HF8 := hid hf8
          have HWX := hid hwx
          clear hw8 hal hb8 hk6 hb16 ho6 hf8 hf6 hwx HGN
          by_cases he2 : e2 = 0
          · subst he2
            go_upto_region 12 with fail
            have hpt := put2 HK6.out (.slice a6 l2.length c6) (.int .i64 0)
            obtain ⟨w9, hw9⟩ : ∃ w9, w9 = (w8.setCell ⟨w3.heap.size, 0, none⟩ (.slice a6 l2.length c6)).setCell ⟨w3.heap.size, 1, none⟩ (.int .i64 0) := ⟨_, rfl⟩
            rw [← hw9] at hpt ⊢
            have hzz := hpt.2.size
            have HO9 := hid (hpt.2.owns HO8.out (fun k hk e => by have := (HO8.out.lt k hk).1; have := HZ4.out; omega))
            have HPT := hid hpt
            clear hpt hw9
            go_wp2_with (at_builtin; refine wpList_push_int rfl _ _ 47 rfl w4.heap.size 3 .i64 8 Try.underlying47 info3 u6 xs _ rfl HO9.out rfl (by unfold maxLen; omega) (by omega) (by omega) ?_; intro v10 w10 ho10 hg10)
            have hf10 := (HF8.out.trans HPT.out.2 (fun b hb h => .inl h)).grown hg10 (fun b hb hlt => .inr (HO9.out.lt b hb).1)
            have hk10 := ((Frm.refl (fun b => w4.heap.size ≤ b) _).grown hg10 (fun b hb _ => (HO9.out.lt b hb).1)).heap HPT.out.1 (by have := HZ4.out; omega)
            exact ⟨⟨k + 1, xs ++ [g], l2, _, by omega, by go_num, hid HST.out, hid ho10, hid hk10, hr6, hid hf10⟩, by simp [intOf]; omega⟩
          · have hT3 : T = ([], [], 2) := by
              rw [HT2.out]
              have h1 := HST.out
              have h2 := HER.out he2
              simp only [Prod.mk.injEq] at h2
              obtain ⟨h2a, h2b, h2c⟩ := h2
              rw [h2b, h2c] at h1
              have h3 := numsF_dead l' (k + 1) (by rw [h1]) (n - (k + 1))
              rw [show k + 1 + (n - (k + 1)) = n by omega] at h3
              rw [h3, if_neg (by decide)]
            have h2 := HER.out he2
            simp only [Prod.mk.injEq] at h2
            obtain ⟨_, h2b, h2c⟩ := h2
            have HT3 := hid hT3
            have HLB := hid h2b
            have HLC := hid h2c
            have hne2 : (e2 != 0) = true := by simp [he2]
            clear h2b h2c hT3 he2
            go_wp2_with fail
            refine bodyPost_ret (v := .tuple #[rv (.slice a6 l2.length c6) e2, .slice none 0 0]) (by simp [results, Try.results21, go_sem, r0, r1, hzb1]) rfl ?_
            have hfw : Frm M0 w w8 := HF4.out.trans HF8.out (fun b hb h => by have := HZ4.out; omega)
            have hfl := (hfw.putN (w.heap.size + 1) 0 (.slice a6 l2.length c6) (by omega)).putN (w.heap.size + 1) 1 (.int .i64 e2) (by omega)
            rw [HT3.out]
            refine ⟨.slice a6 l2.length c6, _, by rw [HLC.out], hid ?_, hid (Rd.nil _ _), hid (fun k hk => by cases hk), hfl⟩
            have := hr6.out
            rw [HLB.out] at this ⊢
            exact this
        · obtain rfl : k = n := by omega
          have hT3 : T = (xs, lk, 0) := by rw [HT2.out, HN.out]; rfl
          have HT3 := hid hT3
          have hzb1 := (Array.getElem?_eq_some_iff.1 HB1k.out).1
          obtain ⟨a5, n5, c5, rfl, hn5⟩ := (Rd.ofOwns HO.out).shapeL
          clear hT3 hsubk hgn hst hg hw0 herr
          go_wp2_with fail
          refine bodyPost_ret (v := .tuple #[rv (.slice ak lk.length ck) 0, .slice a5 n5 c5]) (by simp [results, Try.results21, go_sem, r0, r1, hzb1]) rfl ?_
          have hfw : Frm M0 w wr := HF4.out.trans HF.out (fun b hb h => by have := HZ4.out; omega)
          have hpt := put2 HB1k.out (.slice ak lk.length ck) (.int .i64 0)
          have hfl := hfw.trans hpt.2 (fun b hb h => by have h' : b = w.heap.size + 1 := h; omega)
          rw [HT3.out]
          exact ⟨_, _, rfl, HR, hid ((Rd.ofOwns HO.out).frm hpt.2 (fun b hb e => by have := (HO.out.lt b hb).1; have h' : b = w.heap.size + 1 := e; have := HZ4.out; omega)), hid (fun b hb => by have := (HO.out.lt b hb).1; have := HZ4.out; omega), hfl⟩
  · have hT2 := HT.out
    rw [if_pos he'] at hT2
    have HT2 := hid hT2
    have hbd := bad_calls w0 (.slice a3 l'.length c3) l' e' w4 hr3.out
    rw [show badF l' e' = (l', e') by unfold badF; rw [if_neg he']] at hbd
    have HBD : Hid (Calls Try.prog 41 #[.agg #[.slice a3 l'.length c3, .int .i64 e']] w4 fun r w' => RefB w0 w4 w' l' e' r (fun x => x)) := hbd
    have g0 : (e' != 0) = true := by simp [he']
    clear hT2 HT hbd he'
    go_wp2_with fail
    refine HBD.out.mono ?_
    rintro r w8 ⟨v8, rfl, hr8, hf8⟩
    obtain ⟨a8, c8, rfl, hn8, _, _⟩ := hr8.out.shape
    have hbb := hf8.heap HB14.out (fun h => h)
    obtain ⟨⟨r0, r1⟩, t0, t1⟩ := two hbb
    have hzz := (Array.getElem?_eq_some_iff.1 hbb).1
    have HF8 := hid (HF4.out.then0 hf8)
    clear hbb hf8 HBD
    go_wp2_with fail
    refine bodyPost_ret (v := .tuple #[rv (.slice a8 l'.length c8) e', .slice none 0 0]) (by simp [results, Try.results21, go_sem, r0, r1, hzz]) rfl ?_
    have hfl := (HF8.out.putN (w.heap.size + 1) 0 (.slice a8 l'.length c8) (by omega)).putN (w.heap.size + 1) 1 (.int .i64 e') (by omega)
    rw [HT2.out]
    exact ⟨_, _, rfl, hr8, hid (Rd.nil _ _), hid (fun k hk => by cases hk), hfl⟩
end Go.Proofs.Ytinbidmgllmglaa
