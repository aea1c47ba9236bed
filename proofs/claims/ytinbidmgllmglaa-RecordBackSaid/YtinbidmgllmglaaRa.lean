/- The walks of the document's reader: bad, End, GetNumber. No condition. -/
import Derived.Test.YtinbidmgllmglaaCg
import Derived.Test.YtinbidmgllmglaaOn
import Derived.Test.YtinbidmgllmglaaFe
import Derived.Deep.RegionHeld3
import Derived.RegionTactic
import Derived.Deep.DeepCutAuto
import Derived.IntWalk
import Derived.Deep.QuietTactic
import Derived.BigQuiet
import Derived.Lib.Strings
namespace Go.Proofs.Ytinbidmgllmglaa
set_option linter.unusedVariables false
set_option linter.unusedSimpArgs false
open Go.RowKit Cp

abbrev rv (v : Value) (e : Int) : Value := .agg #[v, .int .i64 e]
theorem two {w : World} {g : Nat} {a0 a1 : Value} {e : TypeId} (h : w.heap[g]? = some (.cells #[a0, a1] e (0, 0))) :
    (w.cell? ⟨g, 0, none⟩ = some a0 ∧ w.cell? ⟨g, 1, none⟩ = some a1) ∧ (w.frozen? ⟨g, 0, none⟩ = false ∧ w.frozen? ⟨g, 1, none⟩ = false) := by
  refine ⟨⟨?_, ?_⟩, ?_, ?_⟩ <;> simp [World.cell?, World.frozen?, h]
theorem put2 {w : World} {g : Nat} {a0 a1 : Value} {e : TypeId} (h : w.heap[g]? = some (.cells #[a0, a1] e (0, 0))) (b0 b1 : Value) :
    ((w.setCell ⟨g, 0, none⟩ b0).setCell ⟨g, 1, none⟩ b1).heap[g]? = some (.cells #[b0, b1] e (0, 0)) ∧ Frm (· = g) w ((w.setCell ⟨g, 0, none⟩ b0).setCell ⟨g, 1, none⟩ b1) :=
  ⟨heap_set_at (heap_set_at h b0) b1, ((Frm.refl (· = g) w).put g 0 b0 (fun _ => rfl)).put g 1 b1 (fun _ => rfl)⟩

/-- The slice reads as these bytes wherever the blocks of w0 are as they were. -/
def RdB (w0 : World) (v : Value) (l : List Int) : Prop := ∀ wx, Frm M0 w0 wx → Rd wx 1 v l.length (ints .u8 l)
theorem RdB.nil (w0 : World) : RdB w0 (.slice none 0 0) [] := fun wx _ => Rd.nil _ _
/-- What the document's reader gives: bytes that are left, the error. -/
def RefB (w0 w w' : World) (l : List Int) (e : Int) (r : Ending) (f : Value → Value) : Prop :=
  ∃ v', r = .returned (f (rv v' e)) ∧ Hid (RdB w0 v' l) ∧ Frm M0 w w'
theorem RdB.shape {w0 : World} {v : Value} {l : List Int} (h : RdB w0 v l) : ∃ a c, v = .slice a l.length c ∧ Hid (0 < l.length → ∃ b o, a = some ⟨b, o, none⟩) ∧ l.length ≤ c ∧ c ≤ 9223372036854775807 := by
  have h0 := h w0 (Frm.refl _ _)
  obtain ⟨a, c, rfl, hab⟩ := h0.shape
  obtain ⟨_, h1, h2⟩ := h0.cap
  exact ⟨a, c, rfl, hid hab, h1, h2⟩

def badF (l : List Int) (e : Int) : List Int × Int := if e = 0 then ([], 2) else (l, e)
theorem bad_calls (w0 : World) (v : Value) (l : List Int) (e : Int) (w : World) (hr : RdB w0 v l) :
    Calls Try.prog 41 #[rv v e] w fun r w' => RefB w0 w w' (badF l e).1 (badF l e).2 r (fun x => x) := by
  have H := hid hr
  obtain ⟨a, c, rfl, _⟩ := hr.shape
  clear hr
  by_cases he : e = 0
  · subst he
    go_enter Try.func41, Try.ntmps41
    go_wp2_with fail
    exact bodyPost_ret (v := rv (.slice none 0 0) 2) (by simp [results, Try.results41, go_sem]) rfl ⟨_, rfl, hid (RdB.nil _), ((Frm.refl M0 w).alloc _).alloc _⟩
  · have h1 : (e != 0) = true := by simp [he]
    have hb : badF l e = (l, e) := by unfold badF; rw [if_neg he]
    have HB := hid hb
    clear he hb
    go_enter Try.func41, Try.ntmps41
    go_wp2_with fail
    refine bodyPost_ret (v := rv (.slice a l.length c) e) (by simp [results, Try.results41, go_sem]) rfl ?_
    have hf : Frm M0 w _ := ((Frm.refl M0 w).alloc (.cells #[.slice a l.length c, .int .i64 e] 51)).alloc (.cells #[.slice a l.length c, .int .i64 e] 51)
    rw [HB.out]
    exact ⟨_, rfl, H, hf⟩

theorem refEnd_calls (v : Value) (l : List Int) (e : Int) (w : World) (hr : Rd w 1 v l.length (ints .u8 l)) :
    Calls Try.prog 24 #[rv v e] w fun r w' => r = .returned (.int .i64 (endF l e)) ∧ Frm M0 w w' := by
  obtain ⟨a, c, rfl, _⟩ := hr.shape
  clear hr
  by_cases he : e = 0
  · subst he
    by_cases hl : 0 < l.length
    · have h1 : (0 : Int) < (l.length : Int) := by omega
      have hE : Hid (endF l 0 = 2) := by unfold Hid endF; rw [if_pos ⟨rfl, hl⟩]
      go_enter Try.func24, Try.ntmps24
      go_wp2_with fail
      go_ret
      exact ⟨by rw [hE.out]; rfl, (Frm.refl M0 w).alloc _⟩
    · have h0 : l.length = 0 := by omega
      have hE : Hid (endF l 0 = 0) := by unfold Hid endF; rw [if_neg (by omega)]
      rw [h0]
      clear hl h0
      go_enter Try.func24, Try.ntmps24
      go_wp2_with fail
      go_ret
      exact ⟨by rw [hE.out]; rfl, (Frm.refl M0 w).alloc _⟩
  · have h1 : (e == 0) = false := by simp [he]
    have hE : Hid (endF l e = e) := by unfold Hid endF; rw [if_neg (by omega)]
    clear he
    go_enter Try.func24, Try.ntmps24
    go_wp2_with fail
    go_ret
    exact ⟨by rw [hE.out]; rfl, (Frm.refl M0 w).alloc _⟩

theorem sb_str {l : List Int} (h : ∀ x ∈ l, 0 ≤ x ∧ x < 256) : sb (strOfNums l) = l := by
  unfold sb
  rw [strOfNums_data, List.map_map]
  refine (List.map_congr_left (g := id) fun x hx => ?_).trans (List.map_id _)
  have := h x hx
  simp
  omega
theorem str_eq {a b : List Int} (h : a = b) : ((strOfNums a).toList == (strOfNums b).toList) = true := by rw [h]; simp
theorem str_ne {a b : List Int} (ha : ∀ x ∈ a, 0 ≤ x ∧ x < 256) (hb : ∀ x ∈ b, 0 ≤ x ∧ x < 256) (h : a ≠ b) : ((strOfNums a).toList == (strOfNums b).toList) = false := by
  rw [beq_eq_false_iff_ne]
  intro e
  refine h ?_
  rw [← sb_str ha, ← sb_str hb]
  unfold sb
  rw [← Lib.toList_data, ← Lib.toList_data, e]
/-- A slice cut from i on. -/
theorem cutB {w0 : World} {b o c : Nat} {l : List Int} (h : RdB w0 (.slice (some ⟨b, o, none⟩) l.length c) l) (i : Nat) (hi : i ≤ l.length) :
    ∃ A : Addr, (if c = i then (some ⟨b, o, none⟩ : Option Addr) else some ⟨b, o + i, none⟩) = some A ∧ RdB w0 (.slice (some A) (l.length - i) (c - i)) (l.drop i) := by
  by_cases hc : c = i
  · refine ⟨⟨b, o, none⟩, by rw [if_pos hc], fun wx hf => ?_⟩
    have h1 := (h wx hf).cap
    have h2 := (h wx hf).dropAll i (by omega)
    rw [show c - i = 0 by omega]
    exact h2
  · exact ⟨⟨b, o + i, none⟩, by rw [if_neg hc], fun wx hf => (h wx hf).drop i hi⟩
theorem RdB.take {w0 : World} {x : Addr} {n c : Nat} {l : List Int} (h : RdB w0 (.slice (some x) n c) l) (i : Nat) (hi : i ≤ l.length) : RdB w0 (.slice (some x) i c) (l.take i) := fun wx hf => by
  have hc := (h wx hf).cap
  have h1 := h wx hf
  rw [hc.1] at h1
  exact h1.take i hi
/-- One digit more: what stands in l is read, or it isn't. -/
theorem num_good {l : List Int} {n i : Nat} (hb : ∀ x ∈ l, 0 ≤ x ∧ x < 256) (h : rdAux 0 0 l = some (n, l.drop (i + 1))) (hi : i < l.length) : dig n = l.take (i + 1) := by
  have h1 := (rd_only hb h).1
  have h2 : l.take (i + 1) ++ l.drop (i + 1) = dig n ++ l.drop (i + 1) := by rw [List.take_append_drop]; exact h1
  exact (List.append_cancel_right h2).symm
theorem num_bad {l : List Int} {n i : Nat} (hn : n ≤ 4611686018427387903) (h : rdAux 0 0 l = none) : dig n ≠ l.take (i + 1) := by
  intro e
  have h2 := rd_dig hn (l.drop (i + 1))
  rw [e, List.take_append_drop, h] at h2
  cases h2

set_option maxRecDepth 100000 in
set_option maxHeartbeats 2000000 in
theorem getNumE_calls (w0 : World) (v : Value) (l : List Int) (e : Int) (w : World) (hr : RdB w0 v l) (he : e ≠ 0) :
    Calls Try.prog 19 #[rv v e] w fun r w' => RefB w0 w w' l e r (fun x => .tuple #[x, .int .i64 0]) := by
  obtain ⟨a, c, rfl, hn, hc1, hc2⟩ := hr.shape
  have h1 : (e == 0) = false := by simp [he]
  have hb : badF l e = (l, e) := by unfold badF; rw [if_neg he]
  have HBD : Hid (∀ wz, Calls Try.prog 41 #[.agg #[.slice a l.length c, .int .i64 e]] wz fun r w' => RefB w0 wz w' l e r (fun x => x)) := hid fun wz => by
    have := bad_calls w0 (.slice a l.length c) l e wz hr
    rw [hb] at this
    exact this
  clear he hb hr
  go_enter Try.func19, Try.ntmps19
  go_wp2_with fail
  refine wp_loop_rounds 1 ?_
  rw [rounds_succ]
  go_wp2_with fail
  all_goals
    refine (HBD.out _).mono ?_
    rintro r w3 ⟨v3, rfl, hr3, hf3⟩
    obtain ⟨a3, c3, rfl, hn3, _, _⟩ := hr3.out.shape
    have hb1 := hf3.heap (new2 w (.cells #[.slice a l.length c, .int .i64 e] 51) (.cells #[.slice none 0 0, .int .i64 0] 51)).2 (fun h => h)
    obtain ⟨⟨p0, p1⟩, q0, q1⟩ := two hb1
    have hz := (Array.getElem?_eq_some_iff.1 hb1).1
    have HF3 := hid ((((Frm.refl M0 w).alloc _).alloc _).then0 hf3)
    clear hb1 hf3 HBD
    go_wp2_with fail
    refine bodyPost_ret (v := .tuple #[rv (.slice a3 l.length c3) e, .int .i64 0]) (by simp [results, Try.results19, go_sem, p0, p1, hz]) rfl ?_
    have hfl := (HF3.out.putN (w.heap.size + 1) 0 (.slice a3 l.length c3) (by omega)).putN (w.heap.size + 1) 1 (.int .i64 e) (by omega)
    exact ⟨_, rfl, hr3, hfl⟩

set_option maxRecDepth 100000 in
set_option maxHeartbeats 4000000 in
theorem getNum0_calls (w0 : World) (v : Value) (l : List Int) (w : World) (hw : Frm M0 w0 w) (hr : RdB w0 v l) (hy : ∀ x ∈ l, 0 ≤ x ∧ x < 256) (hl : l.length ≤ 1000000) :
    Calls Try.prog 19 #[rv v 0] w fun r w' => RefB w0 w w' (getF l 0).2.1 (getF l 0).2.2 r (fun x => .tuple #[x, .int .i64 (getF l 0).1]) := by
  obtain ⟨G, hG⟩ : ∃ G, G = getF l 0 := ⟨_, rfl⟩
  rw [← hG]
  unfold getF at hG
  rw [if_pos rfl] at hG
  obtain ⟨a, c, rfl, hab, hc1, hc2⟩ := hr.shape
  have HG := hid hG
  have HR := hid hr
  have HY := hid hy
  have HW := hid hw
  have HBD : Hid (∀ wz, Calls Try.prog 41 #[.agg #[.slice a l.length c, .int .i64 0]] wz fun r w' => RefB w0 wz w' [] 2 r (fun x => x)) := hid fun wz => bad_calls w0 (.slice a l.length c) l 0 wz hr
  clear hG hr hy hw
  go_enter Try.func19, Try.ntmps19
  go_wp2_with fail
  obtain ⟨hb0, hb1⟩ := new2 w (.cells #[.slice a l.length c, .int .i64 0] 51) (.cells #[.slice none 0 0, .int .i64 0] 51)
  obtain ⟨w1, hw1⟩ : ∃ w1, w1 = (w.alloc (.cells #[.slice a l.length c, .int .i64 0] 51)).alloc (.cells #[.slice none 0 0, .int .i64 0] 51) := ⟨_, rfl⟩
  have hf1 : Frm M0 w w1 := by rw [hw1]; exact ((Frm.refl _ _).alloc _).alloc _
  rw [← hw1] at hb0 hb1 ⊢
  have HB0 := hid hb0
  have HB1 := hid hb1
  have HF1 := hid hf1
  clear hw1 hb0 hb1 hf1
  go_loopw [4, 5, 6] (fun s4 s5 s6 wr => ∃ (m i : Nat) (y : Int), i ≤ 9 ∧ i ≤ l.length ∧ s4 = .int .i64 m ∧ s5 = .int .i64 y ∧ s6 = .int .i64 i ∧ Hid (i ≤ 8 → y = ((128 ^ i : Nat) : Int)) ∧ Hid (m < 128 ^ i) ∧ Hid (rdAux i m (l.drop i) = rdAux 0 0 l) ∧ Hid (Frm M0 w1 wr)) (fun _ _ i _ => 10 - (intOf i).toNat)
  case atStart => exact ⟨0, 0, 1, by omega, by omega, rfl, rfl, rfl, hid (fun _ => rfl), hid (by decide), hid rfl, hid (Frm.refl _ _)⟩
  case round =>
    obtain ⟨m, i, y, hi9, hil, rfl, rfl, rfl, HYP, HM, HE, HF⟩ := hrel
    obtain ⟨⟨p0, p1⟩, q0, q1⟩ := two (HF.out.heap HB0.out (fun h => h))
    by_cases hlt : i < l.length ∧ i < 9
    · obtain ⟨hlt, h9⟩ := hlt
      obtain ⟨b, o, rfl⟩ := hab.out (by omega)
      have hR := HR.out wr (((HW.out.then0 HF1.out).then0 HF.out))
      obtain ⟨x, HX, hx⟩ := hR.cellAt i hlt
      have hxb := HY.out x (List.mem_of_getElem? HX.out)
      have hlt' : (i : Int) < (l.length : Int) := by omega
      have h9' : (i : Int) < 9 := by omega
      have hyp := HYP.out (by omega)
      obtain ⟨D, hD⟩ : ∃ D, D = x.toNat % 128 * 128 ^ i := ⟨_, rfl⟩
      have hlt1 := digit_lt HM.out (show x.toNat % 128 < 128 by omega)
      rw [← hD] at hlt1
      have hp1 := pow128_lt (i := i) (by omega)
      have hmd : (m : Int) + (D : Int) < 9223372036854775808 := by omega
      have hxy : x % 128 * y = (D : Int) := by
        have hx2 : x % 128 = ((x.toNat % 128 : Nat) : Int) := by omega
        rw [hyp, hD, hx2, Int.natCast_mul]
      have e1 : wrap64 (x % 128 * y) = (D : Int) := by rw [hxy]; exact wrap_le (by omega) (by omega)
      have HLT := hid hlt1
      have hi' : i < l.length := hlt
      by_cases h128 : 128 ≤ x
      · have HST : Hid (rdAux i m (l.drop i) = rdAux (i + 1) (m + D) (l.drop (i + 1))) := by rw [hD]; exact hid (rdAux_step (n := m) HX.out h9 h128)
        have HY2 : Hid (i + 1 ≤ 8 → wrap64 (y * 128) = ((128 ^ (i + 1) : Nat) : Int)) := by
          refine hid fun h => ?_
          have h3 := pow128_le h
          rw [hyp, Nat.pow_succ, Int.natCast_mul]
          exact wrap_le (by omega) (by rw [Nat.pow_succ] at h3; omega)
        clear hD hxy hlt1 hp1 hyp
        go_wp2_with fail
        exact ⟨⟨m + D, i + 1, wrap64 (y * 128), by omega, by omega, by go_num, rfl, by go_num, HY2, HLT, hid (by rw [← HST.out]; exact HE.out), HF⟩, by simp [intOf]; omega⟩
      · have HFIN : Hid (¬ (x = 0 ∧ 0 < i) → m + D ≤ 4611686018427387903 → rdAux 0 0 l = some (m + D, l.drop (i + 1))) :=
          hid fun g h2 => by rw [hD, ← HE.out]; exact rdAux_good HX.out h9 (by omega) g (by omega)
        have HBAD : Hid ((x = 0 ∧ 0 < i) ∨ 4611686018427387903 < m + D → rdAux 0 0 l = none) := hid fun g => by rw [hD] at g; rw [← HE.out]; exact rdAux_bad HX.out (by omega) g
        have hge : ¬ 128 ≤ x := h128
        obtain ⟨N, hN⟩ : ∃ N, N = m + D := ⟨_, rfl⟩
        have hNc : (m : Int) + (D : Int) = (N : Int) := by omega
        rw [← hN] at HFIN HBAD
        have HNC := hid hNc
        have hMC : ∀ wz, Calls Try.prog 39 #[.int .i64 ((m : Int) + (D : Int))] wz fun e w' => e = .returned (.bool (mayB N)) ∧ wz = w' := fun wz => by rw [hNc]; exact rmay_calls (N : Int) wz
        clear hD hxy hlt1 hp1 hyp hN hNc
        by_cases hmay : mayB N = true
        · have hNm := (mayB_true hmay).2
          rw [hmay] at hMC
          have HDG : Hid (∀ wz, Calls Try.prog 40 #[.int .i64 ((m : Int) + (D : Int))] wz fun e w' => ∃ v', e = .returned v' ∧ w'.ownsRow wz.heap.size 5 1 v' (dig N).length (ints .u8 (dig N)) ∧ Below wz.heap.size wz w') := hid fun wz => by rw [HNC.out]; exact rdigits_calls N wz (by omega)
          have HMC := hid hMC
          have hcut : ∀ wx, Frm M0 wr wx → (convert 22 9 (.slice (some ⟨b, o, none⟩) (i + 1) c)).run Try.prog wx = .ok (.string (strOfNums (l.take (i + 1)))) wx := fun wx hf =>
            run_str _ _ 5 Try.underlying22 Try.underlying9 Try.underlying5 ((HR.out wx (((HW.out.then0 HF1.out).then0 HF.out).then0 hf)).take (i + 1) (by omega))
          have HSF : Hid (∀ wx, Frm M0 wr wx → wx.cell? ⟨w.heap.size, 0, none⟩ = some (.slice (some ⟨b, o, none⟩) l.length c) ∧ (convert 22 9 (.slice (some ⟨b, o, none⟩) (i + 1) c)).run Try.prog wx = .ok (.string (strOfNums (l.take (i + 1)))) wx) := hid fun wx hf => ⟨(two (hf.heap (HF.out.heap HB0.out (fun h => h)) (fun h => h))).1.1, hcut wx hf⟩
          have HFq : Hid (Frm M0 wr wr.drew) := hid (Frm.refl M0 wr).drew
          have hq1 : (0 : Int) ≤ (i : Int) + 1 := by omega
          have hq2 : (i : Int) + 1 ≤ (l.length : Int) := by omega
          have hq3 : (i : Int) + 1 ≤ (c : Int) := by omega
          have hq4 : i + 1 ≤ c := by omega
          have hq5 : IntKind.i64.wrap ((i : Int) + 1) = (i : Int) + 1 := IntWalk.i64_in _ (by omega)
          have hq6 : ((i : Int) + 1).toNat = i + 1 := by omega
          clear hMC hmay hcut
          obtain ⟨S2, hS2⟩ : ∃ S2, S2 = strOfNums (l.take (i + 1)) := ⟨_, rfl⟩
          obtain ⟨S1, hS1⟩ : ∃ S1, S1 = strOfNums (dig N) := ⟨_, rfl⟩
          rw [← hS2] at HSF
          have HS1 := hid hS1
          have HS2 := hid hS2
          clear hS1 hS2
          go_upto_region 9 with fail
          go_cut [53] (fun s53 wy => s53 = .bool (S1.toList == S2.toList) ∧ Hid (Frm M0 wr wy))
          case first =>
            obtain ⟨s0, sc⟩ := HSF.out _ HFq.out
            go_region_with (first
                | (go_at_call 39; refine (HMC.out _).mono ?_; rintro r wq ⟨rfl, rfl⟩)
                | (go_at_call 40; refine (HDG.out _).mono ?_; rintro r w6 ⟨vd, rfl, hod, hbd⟩; obtain ⟨ad, nd, cd, rfl, hnd⟩ := (Rd.ofOwns hod).shapeL; have hcd := run_str (P := Try.prog) 22 9 5 Try.underlying22 Try.underlying9 Try.underlying5 (Rd.ofOwns hod); rw [← HS1.out] at hcd; have hx := HFq.out.then0 (frm_of hbd); clear HFq hbd hod; have HFq := hid hx; clear hx; obtain ⟨s0', sc'⟩ := HSF.out _ HFq.out))
            all_goals
              go_wp2_with fail
              go_meet
              exact ⟨by first | rfl | simp, hid HFq.out⟩
          case rest =>
            obtain ⟨rfl, HFy⟩ := hcut
            have HFX := hid (HF.out.then0 HFy.out)
            obtain ⟨⟨p0, p1⟩, q0, q1⟩ := two (HFX.out.heap HB0.out (fun h => h))
            obtain ⟨⟨r0, r1⟩, t0, t1⟩ := two (HFX.out.heap HB1.out (fun h => h))
            have hzz := (Array.getElem?_eq_some_iff.1 (HFX.out.heap HB1.out (fun h => h))).1
            have htk : ∀ x ∈ l.take (i + 1), 0 ≤ x ∧ x < 256 := fun x hx => HY.out x (List.mem_of_mem_take hx)
            by_cases hEq : dig N = l.take (i + 1)
            · have hss := str_eq hEq
              rw [← HS1.out, ← HS2.out] at hss
              have hrd := rd_dig (m := N) (by omega) (l.drop (i + 1))
              rw [hEq, List.take_append_drop] at hrd
              have HGE : Hid (G = ((N : Int), l.drop (i + 1), 0)) := by unfold Hid; rw [HG.out, hrd]
              obtain ⟨A, hA, hrA⟩ := cutB HR.out (i + 1) (by omega)
              have HRA := hid hrA
              have hq7 : i + 1 ≤ l.length := by omega
              rw [hss]
              clear hrA hrd hEq hss htk hx HSF HDG HMC HFq
              go_wp2_with fail
              refine bodyPost_ret (v := .tuple #[rv (.slice (some A) (l.length - (i + 1)) (c - (i + 1))) 0, .int .i64 N]) (by simp [results, Try.results19, go_sem, r0, r1, hzz, HNC.out]) rfl ?_
              have hfl := ((HF1.out.then0 HFX.out).putN (w.heap.size + 1) 0 (.slice (some A) (l.length - (i + 1)) (c - (i + 1))) (by omega)).putN (w.heap.size + 1) 1 (.int .i64 0) (by omega)
              rw [HGE.out]
              exact ⟨_, rfl, HRA, hfl⟩
            · have hss := str_ne (fun x hx => dig_bytes N x hx) htk hEq
              rw [← HS1.out, ← HS2.out] at hss
              have hnone : rdAux 0 0 l = none := by
                by_cases h0 : x = 0 ∧ 0 < i
                · exact HBAD.out (.inl h0)
                · exact absurd (num_good HY.out (HFIN.out h0 (by omega)) hi') hEq
              have HGE : Hid (G = (0, [], 2)) := by unfold Hid; rw [HG.out, hnone]
              rw [hss]
              clear hss hnone hEq htk
              go_wp2_with fail
              refine (HBD.out _).mono ?_
              rintro r w8 ⟨v8, rfl, hr8, hf8⟩
              obtain ⟨a8, c8, rfl, hn8, _, _⟩ := hr8.out.shape
              have hbb := hf8.heap (HFX.out.heap HB1.out (fun h => h)) (fun h => h)
              obtain ⟨⟨p0, p1⟩, q0, q1⟩ := two hbb
              have hzz := (Array.getElem?_eq_some_iff.1 hbb).1
              have HF8 := hid ((HF1.out.then0 HFX.out).then0 hf8)
              clear hbb hf8 HBD
              go_wp2_with fail
              refine bodyPost_ret (v := .tuple #[rv (.slice a8 ([] : List Int).length c8) 2, .int .i64 0]) (by simp [results, Try.results19, go_sem, p0, p1, hzz]) rfl ?_
              have hfl := (HF8.out.putN (w.heap.size + 1) 0 (.slice a8 ([] : List Int).length c8) (by omega)).putN (w.heap.size + 1) 1 (.int .i64 2) (by omega)
              rw [HGE.out]
              exact ⟨_, rfl, hr8, hfl⟩
        · have hnone : rdAux 0 0 l = none := by
            have hm := mayB_false (Bool.eq_false_iff.2 hmay)
            exact HBAD.out (.inr (by omega))
          rw [Bool.eq_false_iff.2 hmay] at hMC
          have HGE : Hid (G = (0, [], 2)) := by unfold Hid; rw [HG.out, hnone]
          have HMC : Hid (∀ wz, Calls Try.prog 39 #[.int .i64 ((m : Int) + (D : Int))] wz fun e w' => e = .returned (.bool false) ∧ w' = wz) := hid fun wz => (hMC wz).mono fun e w' h => ⟨h.1, h.2.symm⟩
          have HFX0 := hid HF.out
          clear hMC hmay hnone
          go_upto_region 9 with fail
          go_cut [53] (fun s53 wy => s53 = .bool false ∧ Hid (Frm M0 wr wy))
          case first =>
            go_quiet ((go_at_call 39; exact Calls.quiet_of_same (HMC.out _)))
            go_wp2_with fail
            go_meet
            exact ⟨by first | rfl | simp, hid ((Frm.refl _ _).drewN _)⟩
          case rest =>
            obtain ⟨rfl, HFy⟩ := hcut
            have HFX := hid (HF.out.then0 HFy.out)
            obtain ⟨⟨p0, p1⟩, q0, q1⟩ := two (HFX.out.heap HB0.out (fun h => h))
            go_wp2_with fail
            refine (HBD.out _).mono ?_
            rintro r w8 ⟨v8, rfl, hr8, hf8⟩
            obtain ⟨a8, c8, rfl, hn8, _, _⟩ := hr8.out.shape
            have hbb := hf8.heap (HFX.out.heap HB1.out (fun h => h)) (fun h => h)
            obtain ⟨⟨p0, p1⟩, q0, q1⟩ := two hbb
            have hzz := (Array.getElem?_eq_some_iff.1 hbb).1
            have HF8 := hid ((HF1.out.then0 HFX.out).then0 hf8)
            clear hbb hf8 HBD
            go_wp2_with fail
            refine bodyPost_ret (v := .tuple #[rv (.slice a8 ([] : List Int).length c8) 2, .int .i64 0]) (by simp [results, Try.results19, go_sem, p0, p1, hzz]) rfl ?_
            have hfl := (HF8.out.putN (w.heap.size + 1) 0 (.slice a8 ([] : List Int).length c8) (by omega)).putN (w.heap.size + 1) 1 (.int .i64 2) (by omega)
            rw [HGE.out]
            exact ⟨_, rfl, hr8, hfl⟩
    · have hnone : rdAux 0 0 l = none := by
        rw [← HE.out]
        by_cases h9 : 9 ≤ i
        · exact rdAux_nine h9
        · exact rdAux_end (by omega)
      have HGE : Hid (G = (0, [], 2)) := by unfold Hid; rw [HG.out, hnone]
      have HFX := HF
      clear hnone
      by_cases h9 : i < 9
      · have hle : ¬ i < l.length := by omega
        clear hlt
        go_wp2_with fail
        refine (HBD.out _).mono ?_
        rintro r w8 ⟨v8, rfl, hr8, hf8⟩
        obtain ⟨a8, c8, rfl, hn8, _, _⟩ := hr8.out.shape
        have hbb := hf8.heap (HFX.out.heap HB1.out (fun h => h)) (fun h => h)
        obtain ⟨⟨p0, p1⟩, q0, q1⟩ := two hbb
        have hzz := (Array.getElem?_eq_some_iff.1 hbb).1
        have HF8 := hid ((HF1.out.then0 HFX.out).then0 hf8)
        clear hbb hf8 HBD
        go_wp2_with fail
        refine bodyPost_ret (v := .tuple #[rv (.slice a8 ([] : List Int).length c8) 2, .int .i64 0]) (by simp [results, Try.results19, go_sem, p0, p1, hzz]) rfl ?_
        have hfl := (HF8.out.putN (w.heap.size + 1) 0 (.slice a8 ([] : List Int).length c8) (by omega)).putN (w.heap.size + 1) 1 (.int .i64 2) (by omega)
        rw [HGE.out]
        exact ⟨_, rfl, hr8, hfl⟩
      · have h99 : i = 9 := by omega
        subst h99
        clear hlt h9
        go_wp2_with fail
        all_goals
          refine (HBD.out _).mono ?_
          rintro r w8 ⟨v8, rfl, hr8, hf8⟩
          obtain ⟨a8, c8, rfl, hn8, _, _⟩ := hr8.out.shape
          have hbb := hf8.heap (HFX.out.heap HB1.out (fun h => h)) (fun h => h)
          obtain ⟨⟨p0, p1⟩, q0, q1⟩ := two hbb
          have hzz := (Array.getElem?_eq_some_iff.1 hbb).1
          have HF8 := hid ((HF1.out.then0 HFX.out).then0 hf8)
          clear hbb hf8 HBD
          go_wp2_with fail
          refine bodyPost_ret (v := .tuple #[rv (.slice a8 ([] : List Int).length c8) 2, .int .i64 0]) (by simp [results, Try.results19, go_sem, p0, p1, hzz]) rfl ?_
          have hfl := (HF8.out.putN (w.heap.size + 1) 0 (.slice a8 ([] : List Int).length c8) (by omega)).putN (w.heap.size + 1) 1 (.int .i64 2) (by omega)
          rw [HGE.out]
          exact ⟨_, rfl, hr8, hfl⟩
end Go.Proofs.Ytinbidmgllmglaa
