/- NetPlays' walk. No condition. -/
import Derived.Test.YtbepcohcdgfkaaaNj
import Derived.Deep.RegionHeld3
namespace Go.Proofs.Ytbepcohcdgfkaaa
set_option linter.unusedVariables false
set_option linter.unusedSimpArgs false
open Go.RowKit Go.Conc
attribute [-go_sem] run_min_int2 run_max_int2
attribute [local go_sem] run_min2 run_max2

set_option maxRecDepth 20000 in
set_option maxHeartbeats 8000000 in
theorem netPlays_walk (W : World) (room : Int) (_wr : (Lit.int .i64 room).wf = true) (v : Value) (l : List Stp) (hr : Rd W 8 v l.length (stps l)) (ok : ∀ m ∈ l, m.ok) (unit : Int) (_wu : (Lit.int .i64 unit).wf = true) :
    Calls Try.prog 7 #[.int .i64 room, v, .int .i64 unit] W fun e w' => e = .returned (.bool true) ∧ Below W.heap.size W w' := by
  have HR := hid hr
  clear hr _wr _wu
  go_enter Try.func7, Try.ntmps7
  go_wp2_with fail
  refine (lives_calls W).mono ?_
  rintro e w1 ⟨rfl, hf1⟩
  have HF1 := hid hf1
  clear hf1
  go_wp2_with fail
  refine (new_calls room w1).mono ?_
  rintro e w2 ⟨rfl, hn2, hf2⟩
  have hz := HF1.out.size
  obtain ⟨nb, hnb⟩ : ∃ nb, nb = w1.heap.size + 1 := ⟨_, rfl⟩
  obtain ⟨ch, hch⟩ : ∃ ch, ch = w1.heap.size := ⟨_, rfl⟩
  rw [← hnb, ← hch] at hn2
  rw [← hnb]
  have hB : ∀ b, NF nb ch none b → W.heap.size ≤ b := by
    rintro b (rfl | rfl | hb)
    · omega
    · omega
    · cases hb
  have HF2 := hid (HF1.out.then0 hf2)
  have HN2 := hid hn2
  have HB := hid hB
  clear hn2 hf2 HF1 hnb hch hz hB
  go_wp2_with fail
  refine (refNew_calls room w2).mono ?_
  rintro e w3 ⟨rfl, hf3⟩
  have HN3 := hid (HN2.out.frm hf3 (fun _ _ h => h))
  have HF3 := hid (HF2.out.then0 hf3)
  obtain ⟨R, hR⟩ : ∃ R, R = roomOf room := ⟨_, rfl⟩
  rw [← hR] at HN3 ⊢
  clear hf3 HN2 HF2 hR
  go_upto_region 4 with fail
  have hT : Two W.heap.size (w3.alloc (.cells #[.int .i64 R, .slice none 0 0, .int .i64 0, .int .i64 0] 48)) nb ch none w3.heap.size (.slice none 0 0) ⟨R, [], 0, 0⟩ ⟨R, [], 0, 0⟩ :=
    ⟨HN3.out.frm ((Frm.refl M0 w3).alloc _) (fun _ _ h => h), fun b hb => ⟨HB.out b hb, by have := HN3.out.lt b hb; omega⟩, new1 _ _, Rd.nil _ _, (fun k hk => by cases hk), (fun k hk => by cases hk), HF3.out.size⟩
  obtain ⟨b8, hb8⟩ : ∃ b, b = w3.heap.size := ⟨_, rfl⟩
  obtain ⟨w4, hw4⟩ : ∃ w, w = w3.alloc (.cells #[.int .i64 R, .slice none 0 0, .int .i64 0, .int .i64 0] 48) := ⟨_, rfl⟩
  have hf4 : Frm M0 W w4 := by rw [hw4]; exact HF3.out.alloc _
  rw [← hb8, ← hw4] at hT
  rw [← hb8, ← hw4]
  have HT := hid hT
  have HF4 := hid hf4
  clear hT hb8 hw4 HN3 HF3 hf4 HB
  go_wp2_with fail
  refine (early_calls v l w4 (HR.out.frm0 HF4.out)).mono ?_
  rintro e w5 ⟨v', rfl, hr', rfl⟩
  have HR' := hid (hr'.out W HR.out)
  clear hr'
  have hok : Hid (∀ m ∈ l.take 100, m.ok) := hid fun m hm => ok m (List.mem_of_mem_take hm)
  have hL : (l.take 100).length ≤ 100 := by rw [List.length_take]; omega
  generalize l.take 100 = L at *
  clear ok HR
  obtain ⟨a', c', rfl, hab⟩ := HR'.out.shapeN
  have HAB := hid hab
  clear hab
  go_wp2_with fail
  go_loopw [9] (fun i9 wr => ∃ (k : Nat) (N : Net), k ≤ L.length ∧ i9 = .int .i64 k ∧ Hid (∃ vb v, Two W.heap.size wr nb ch vb b8 v N N) ∧ Hid (Frm M0 W wr)) (fun i _ => L.length - (intOf i).toNat)
  case atStart => exact ⟨0, _, Nat.zero_le _, rfl, hid ⟨_, _, HT.out⟩, HF4⟩
  case round =>
    clear HT HF4
    obtain ⟨k, N, hk, rfl, HT, HF⟩ := hrel
    by_cases hlt : k < L.length
    · obtain ⟨b, o, rfl⟩ := HAB.out (by omega)
      obtain ⟨s, HM, m0, m1, m2, m3, m4, m5, m6, m7⟩ := (HR'.out.frm0 HF.out).stpAt k hlt
      have hlt' : (k : Int) < L.length := by omega
      have HK : Hid (∀ w, Calls Try.prog 17 #[.agg #[.int .i64 s.k, .int .i64 s.n, .int .i64 s.m.k, .int .i64 s.m.e, .int .i64 s.m.s, .int .i64 s.m.u, .int .i64 s.m.v, .int .i64 s.m.t]] w fun r w' => r = .returned (.int .i64 s.kd) ∧ Frm M0 w w') := hid fun w => kind_calls s w
      have hkd := kd_ok s
      obtain ⟨d, hd⟩ : ∃ d, d = s.kd := ⟨_, rfl⟩
      rw [← hd] at HK hkd
      clear hd
      have hwn : (Lit.int .i64 s.n).wf = true := by
        have := hok.out s (List.mem_of_getElem? HM.out)
        exact this.2.1
      have HWN := hid hwn
      have hz := HF.out.size
      clear hwn
      go_wp2_with fail
      refine (HK.out _).mono ?_
      rintro r w4 ⟨rfl, hf4⟩
      have hfx := (((Frm.refl M0 wr).alloc (.cells #[.int .i64 s.k, .int .i64 s.n, .int .i64 s.m.k, .int .i64 s.m.e, .int .i64 s.m.s, .int .i64 s.m.u, .int .i64 s.m.v, .int .i64 s.m.t] 40)).then0 hf4)
      have hbx := hf4.heap (heap_alloc_new wr (.cells #[.int .i64 s.k, .int .i64 s.n, .int .i64 s.m.k, .int .i64 s.m.e, .int .i64 s.m.s, .int .i64 s.m.u, .int .i64 s.m.v, .int .i64 s.m.t] 40)) (fun h => h)
      obtain ⟨vb, v8, hT⟩ := HT.out
      have hT4 := hT.frm hfx
      have HF4 := hid (HF.out.then0 hfx)
      obtain ⟨bx, hb⟩ : ∃ bx, bx = wr.heap.size := ⟨_, rfl⟩
      have hbx8 : bx ≠ b8 := by have := (Array.getElem?_eq_some_iff.1 hT.box).1; omega
      have hbn : ∀ k, NF nb ch vb k → k ≠ bx := by intro k hk; have := hT.net.lt k hk; omega
      have hWb : W.heap.size ≤ bx := by omega
      have hvb : ∀ k, v8.ownBlock = some k → k ≠ bx := by intro k hk; have := hT.vl k hk; omega
      rw [← hb] at hbx ⊢
      have HBX := hid hbx
      have HBN := hid hbn
      have HVB := hid hvb
      have HT4 := hid hT4
      have HMO := hid (msg_calls s)
      clear hb hbx hf4 HT HF hz m0 m1 m2 m3 m4 m5 m6 m7 hT hT4 hfx hbn hvb HK
      go_upto_region 11 with fail
      have hNl : N.l.length ≤ 1000 := by
        obtain ⟨v, buf, s, r, hv, h1, h2, h3, h4, h5, h6, h7⟩ := HT4.out.net
        omega
      obtain ⟨a8, c8, rfl, hab8⟩ := HT4.out.rd.shapeN
      obtain ⟨⟨p0, p1, p2, p3⟩, q0, q1, q2, q3⟩ := four HT4.out.box
      obtain ⟨e0, e1, e2, e3, e4, e5, e6, e7⟩ := eight HBX.out
      clear hab8
      rcases (by omega : (d = 0 ∨ d = 1) ∨ d = 2 ∨ d = 3 ∨ d = 4) with hd | hd | hd | hd
      · as_aux_lemma =>
          obtain ⟨g, hg⟩ : ∃ g, g = s.msg := ⟨_, rfl⟩
          rw [← hg] at HMO
          have HSR : Hid (∀ wz, Frm M0 w4 wz → Calls Try.prog 25 #[rn N.room (.slice a8 N.l.length c8) N.sent N.lost, g.val] wz fun r w' => RefP wz w' (.slice a8 N.l.length c8) (N.send g).1 r (fun x => .tuple #[x, .int .i64 (N.send g).2])) := hid fun wz hf => refSend_calls N _ g wz (HT4.out.rd.frm0 hf) (HT4.out.vl.frm hf) hNl
          have HSN : Hid (∀ wz vb, NetR wz nb ch vb N → Calls Try.prog 11 #[pn nb, g.val] wz fun r w' => r = .returned (.int .i64 (N.send g).2) ∧ Turned wz w' nb ch vb (N.send g).1) := hid fun wz vb hn => send_calls nb ch vb N g wz hn
          obtain ⟨⟨N', e⟩, hN'⟩ : ∃ N', N' = N.send g := ⟨_, rfl⟩
          rw [← hN'] at HSR HSN
          obtain ⟨gk, ge, gs, gu, gv, gt⟩ := g
          unfold Mg.val at HSR HSN
          rw [show (Mg.mk gk ge gs gu gv gt).val = .agg #[.int .i64 gk, .int .i64 ge, .int .i64 gs, .int .i64 gu, .int .i64 gv, .int .i64 gt] from rfl] at HMO
          simp only [] at HSR HSN
          unfold Stp.val at HMO
          unfold rn at HSR
          clear hN' hg hNl
          have hl8 := (Array.getElem?_eq_some_iff.1 HT4.out.box).1
          have hlx := (Array.getElem?_eq_some_iff.1 HBX.out).1
          have HSF : Hid (∀ wx, Frm (fun b => w4.heap.size ≤ b) w4 wx → (wx.cell? ⟨b8, 0, none⟩ = some (.int .i64 N.room) ∧ wx.cell? ⟨b8, 1, none⟩ = some (.slice a8 N.l.length c8) ∧ wx.cell? ⟨b8, 2, none⟩ = some (.int .i64 N.sent) ∧ wx.cell? ⟨b8, 3, none⟩ = some (.int .i64 N.lost)) ∧ (wx.cell? ⟨bx, 0, none⟩ = some (.int .i64 s.k) ∧ wx.cell? ⟨bx, 1, none⟩ = some (.int .i64 s.n) ∧ wx.cell? ⟨bx, 2, none⟩ = some (.int .i64 s.m.k) ∧ wx.cell? ⟨bx, 3, none⟩ = some (.int .i64 s.m.e) ∧ wx.cell? ⟨bx, 4, none⟩ = some (.int .i64 s.m.s) ∧ wx.cell? ⟨bx, 5, none⟩ = some (.int .i64 s.m.u) ∧ wx.cell? ⟨bx, 6, none⟩ = some (.int .i64 s.m.v) ∧ wx.cell? ⟨bx, 7, none⟩ = some (.int .i64 s.m.t))) :=
            hid fun wx hf => ⟨(four (hf.heap HT4.out.box (by omega))).1, eight (hf.heap HBX.out (by omega))⟩
          have HFc : Hid (Frm (fun b => w4.heap.size ≤ b) w4 w4.drew) := hid (Frm.refl _ w4).drew
          have HSR' : Hid (∀ wz, Frm (fun b => w4.heap.size ≤ b) w4 wz → Calls Try.prog 25 #[.agg #[.int .i64 N.room, .slice a8 N.l.length c8, .int .i64 N.sent, .int .i64 N.lost], .agg #[.int .i64 gk, .int .i64 ge, .int .i64 gs, .int .i64 gu, .int .i64 gv, .int .i64 gt]] wz fun r w' => RefP wz w' (.slice a8 N.l.length c8) N' r (fun x => .tuple #[x, .int .i64 e])) := hid fun wz hf => HSR.out wz (hf.mono (fun b hb h => by omega))
          clear HSR
          rcases hd with rfl | rfl
          all_goals
            go_upto_region 13 with fail
            go_cut [12, 13] (fun s12 s13 wy => ∃ b12 : Nat, s12 = .pointer (some ⟨b12, 0, none⟩) ∧ s13 = .int .i64 e ∧ ∃ v', Hid (wy.heap[b12]? = some (.cells #[.int .i64 N'.room, v', .int .i64 N'.sent, .int .i64 N'.lost] 48 (0, 0))) ∧ Hid (Rd wy 6 v' N'.l.length (msgs N'.l)) ∧ Hid ((∀ k, v'.ownBlock = some k → (Value.slice a8 N.l.length c8).ownBlock = some k ∨ w4.heap.size ≤ k) ∧ VL wy v') ∧ Hid (Frm M0 w4 wy))
            case first => as_aux_lemma =>
              --<H
              go_region_held3 (fun wx => (wx.cell? ⟨b8, 0, none⟩ = some (.int .i64 N.room) ∧ wx.cell? ⟨b8, 1, none⟩ = some (.slice a8 N.l.length c8) ∧ wx.cell? ⟨b8, 2, none⟩ = some (.int .i64 N.sent) ∧ wx.cell? ⟨b8, 3, none⟩ = some (.int .i64 N.lost)) ∧ (wx.cell? ⟨bx, 0, none⟩ = some (.int .i64 s.k) ∧ wx.cell? ⟨bx, 1, none⟩ = some (.int .i64 s.n) ∧ wx.cell? ⟨bx, 2, none⟩ = some (.int .i64 s.m.k) ∧ wx.cell? ⟨bx, 3, none⟩ = some (.int .i64 s.m.e) ∧ wx.cell? ⟨bx, 4, none⟩ = some (.int .i64 s.m.s) ∧ wx.cell? ⟨bx, 5, none⟩ = some (.int .i64 s.m.u) ∧ wx.cell? ⟨bx, 6, none⟩ = some (.int .i64 s.m.v) ∧ wx.cell? ⟨bx, 7, none⟩ = some (.int .i64 s.m.t))) (first | with_reducible exact HSF.out _ HFc.out | with_reducible exact HSF.out _ (Frm.alloc HFc.out _) | with_reducible exact HSF.out _ (Frm.drew (Frm.alloc (Frm.refl _ w4) _)) | with_reducible exact HSF.out _ (Frm.trans HFc.out (put4 HB12.out _ _ _ _).2 HN12.out))
                (first
                  | (go_at_call 18; refine (HMO.out _).mono ?_; rintro r w6 ⟨rfl, hf6⟩; (first
                      | (with_reducible have hx := Frm.then0 HFc.out hf6; clear HFc hf6; have HFc := hid hx; clear hx)
                      | (have hx := Frm.then0 (Frm.drew (Frm.alloc (Frm.refl (fun b => w4.heap.size ≤ b) w4) _)) hf6; have hb : w6.heap[w4.heap.size]? = some (.cells #[.int .i64 0, .slice none 0 0, .int .i64 0, .int .i64 0] 48 (0, 0)) := hf6.heap (new1 w4 _) (fun h => h); have HN12 := hid (fresh_refl w4); have hl12 := (Array.getElem?_eq_some_iff.1 hb).1; obtain ⟨⟨y0, y1, y2, y3⟩, z0, z1, z2, z3⟩ := four hb; have HB12 := hid hb; clear HFc hf6 hb; have HFc := hid hx; clear hx)))
                  | (go_at_call 25; refine (HSR'.out _ (by first | with_reducible exact HFc.out | with_reducible exact HFc.out.alloc _)).mono ?_; rintro r w6 ⟨v6, rfl, hr6, hk6, hf6⟩; obtain ⟨a6, n6, c6, rfl, hn6⟩ := hr6.out.shapeL; have HK6 := hid hk6.out; (first
                      | (with_reducible have hb := Frm.heap hf6 HB12.out (fun h => h); with_reducible have hx := Frm.then0 HFc.out hf6; have hs6 := HFc.out.size; have hl6 := (Array.getElem?_eq_some_iff.1 hb).1; obtain ⟨⟨y0, y1, y2, y3⟩, z0, z1, z2, z3⟩ := four hb; clear HB12; have HB12 := hid hb; clear HFc hf6 hb; have HFc := hid hx; clear hx)
                      | (with_reducible have hx := Frm.then0 HFc.out hf6; have hs6 := HFc.out.size; clear HFc hf6; have HFc := hid hx; clear hx)
                      | (with_reducible have hx := Frm.then0 (Frm.alloc HFc.out _) hf6; have hb := hf6.heap (new1 _ _) (fun h => h); have HN12 := hid (fresh_of HFc.out); have hn12 := HFc.out.size; have hl6 := (Array.getElem?_eq_some_iff.1 hb).1; obtain ⟨⟨y0, y1, y2, y3⟩, z0, z1, z2, z3⟩ := four hb; have HB12 := hid hb; clear HFc hf6 hb; have HFc := hid hx; clear hx))))
              · go_wp2_with fail
                go_meet
                have hal : Frm M0 w6 (w6.alloc (.cells #[.int .i64 N'.room, .slice a6 n6 c6, .int .i64 N'.sent, .int .i64 N'.lost] 48)) := (Frm.refl M0 _).alloc _
                exact ⟨w6.heap.size, rfl, rfl, .slice a6 n6 c6, hid (new1 _ _), hid (hr6.out.frm0 hal), hid ⟨fun k hk => (HK6.out.1 k hk).imp id (fun h => Nat.le_trans hs6 h), HK6.out.2.frm hal⟩, hid ((HFc.out.mono (fun b hb h => by omega)).then0 hal)⟩
              · go_wp2_with fail
                go_meet
                have hpt := put4 HB12.out (.int .i64 (N'.room : Int)) (.slice a6 n6 c6) (.int .i64 N'.sent) (.int .i64 N'.lost)
                refine ⟨_, rfl, rfl, .slice a6 n6 c6, hid hpt.1, hid (hr6.out.frm hpt.2 (fun k hk e => ?_)), hid ⟨fun k hk => (HK6.out.1 k hk).imp id (fun h => ?_), HK6.out.2.frm hpt.2⟩, hid ((HFc.out.trans hpt.2 HN12.out).mono (fun b hb h => by omega))⟩
                · rcases HK6.out.1 k hk with h | h
                  · have h1 := HT4.out.vl k h
                    have h2 := HN12.out k h1 e
                    omega
                  · have e' := e
                    (try simp at h); (try simp at e')
                    omega
                · (try simp at h)
                  omega
              · go_wp2_with fail
                go_meet
                have hpt := put4 HB12.out (.int .i64 (N'.room : Int)) (.slice a6 n6 c6) (.int .i64 N'.sent) (.int .i64 N'.lost)
                refine ⟨_, rfl, rfl, .slice a6 n6 c6, hid hpt.1, hid (hr6.out.frm hpt.2 (fun k hk e => ?_)), hid ⟨fun k hk => (HK6.out.1 k hk).imp id (fun h => ?_), HK6.out.2.frm hpt.2⟩, hid ((HFc.out.trans hpt.2 HN12.out).mono (fun b hb h => by omega))⟩
                · rcases HK6.out.1 k hk with h | h
                  · have h1 := HT4.out.vl k h
                    have h2 := HN12.out k h1 e
                    omega
                  · have e' := e
                    (try simp at h); (try simp at e')
                    omega
                · (try simp at h)
                  omega
              --H>
            case rest => as_aux_lemma =>
              obtain ⟨b12, rfl, rfl, v6, HB12, HR6, HK6, HF6⟩ := hcut
              obtain ⟨a6, n6, c6, rfl, hn6⟩ := HR6.out.shapeL
              obtain ⟨⟨y0, y1, y2, y3⟩, z0, z1, z2, z3⟩ := four HB12.out
              have hT6 := HT4.out.frm HF6.out
              obtain ⟨⟨p0, p1, p2, p3⟩, q0, q1, q2, q3⟩ := four hT6.box
              have hl8' := (Array.getElem?_eq_some_iff.1 hT6.box).1
              obtain ⟨e0, e1, e2, e3, e4, e5, e6, e7⟩ := eight (HF6.out.heap HBX.out (fun h => h))
              have HTc := hid hT6
              clear hT6 HFc HSF HSR'
              go_upto_region 15 with fail
              obtain ⟨w7, hw7, hh7, hf7⟩ := four_put HTc.out.box (.int .i64 (N'.room : Int)) (.slice a6 n6 c6) (.int .i64 N'.sent) (.int .i64 N'.lost)
              rw [← hw7]
              have hT7 := HT4.out.ref HR6.out HK6.out HF6.out hf7 hh7
              obtain ⟨e0, e1, e2, e3, e4, e5, e6, e7⟩ := eight (hf7.heap (HF6.out.heap HBX.out (fun h => h)) hbx8)
              have HT7 := hid hT7
              have HF7 := hid ((HF4.out.then0 HF6.out).trans hf7 (fun b hb e => by have := HT4.out.b8; omega))
              have hz7 := HF7.out.size
              clear hw7 hh7 hf7 hT7 HTc HR6 HK6 HF6 p0 p1 p2 p3 q0 q1 q2 q3 y0 y1 y2 y3 z0 z1 z2 z3 hl8'
              go_wp2_with fail
              refine (HMO.out _).mono ?_
              rintro r w8 ⟨rfl, hf8⟩
              have hx7 := HT7.out.frm hf8
              have hx8 := HF7.out.then0 hf8
              clear HT7 HF7
              have HT7 := hid hx7
              have HF7 := hid hx8
              have hz8 := hf8.size
              clear hx7 hx8 hf8
              go_wp2_with fail
              refine (HSN.out _ _ HT7.out.net).mono ?_
              rintro r w9 ⟨rfl, ht⟩
              obtain ⟨vb9, hT9, hf9⟩ := HT7.out.turn (by omega) ht
              have HF9 := hid (HF7.out.trans hf9 (fun b hb h => absurd h (by omega)))
              have HT9 := hid hT9
              clear hT9 hf9 ht HT7
              have hT9b := HT9.out
              obtain ⟨⟨p0, p1, p2, p3⟩, q0, q1, q2, q3⟩ := four hT9b.box
              obtain rfl := hn6.out.1
              have HAL : Hid (∀ wz, Frm M0 w9 wz → Calls Try.prog 22 #[pn nb] wz fun r w' => ∃ v', r = .returned v' ∧ Hid (Rd w' 6 v' N'.l.length (msgs N'.l)) ∧ Frm M0 wz w') := hid fun wz hf => (all_calls nb ch vb9 N' wz (HT9.out.net.frm hf (fun _ _ h => h))).mono fun r w' ⟨v', h1, h2, h3⟩ => ⟨v', h1, hid (Rd.ofOwns h2.out), h3⟩
              have HSM : Hid (∀ wz va, Frm M0 w9 wz → Rd wz 6 va N'.l.length (msgs N'.l) → Calls Try.prog 29 #[va, .slice a6 N'.l.length c6] wz fun r w' => r = .returned (.bool true) ∧ Frm M0 wz w') := hid fun wz va hf hr => refSame_calls va _ N'.l wz hr (HT9.out.rd.frm0 hf)
              have HLN : Hid (∀ wz, Frm M0 w9 wz → Calls Try.prog 14 #[pn nb] wz fun r w' => r = .returned (.int .i64 N'.l.length) ∧ wz = w') := hid fun wz hf => len_calls nb ch vb9 N' wz (HT9.out.net.frm hf (fun _ _ h => h))
              have HSE : Hid (∀ wz, Frm M0 w9 wz → Calls Try.prog 15 #[pn nb] wz fun r w' => r = .returned (.int .i64 N'.sent) ∧ wz = w') := hid fun wz hf => sent_calls nb ch vb9 N' wz (HT9.out.net.frm hf (fun _ _ h => h))
              have HLO : Hid (∀ wz, Frm M0 w9 wz → Calls Try.prog 21 #[pn nb] wz fun r w' => r = .returned (.int .i64 N'.lost) ∧ wz = w') := hid fun wz hf => lost_calls nb ch vb9 N' wz (HT9.out.net.frm hf (fun _ _ h => h))
              have HSQ : Hid (∀ wx, Frm M0 w9 wx → wx.cell? ⟨b8, 0, none⟩ = some (.int .i64 N'.room) ∧ wx.cell? ⟨b8, 1, none⟩ = some (.slice a6 N'.l.length c6) ∧ wx.cell? ⟨b8, 2, none⟩ = some (.int .i64 N'.sent) ∧ wx.cell? ⟨b8, 3, none⟩ = some (.int .i64 N'.lost)) := hid fun wx hf => (four (hf.heap HT9.out.box (fun h => h))).1
              have HFq : Hid (Frm M0 w9 w9.drew) := hid (Frm.refl M0 w9).drew
              clear hT9b p0 p1 p2 p3 q0 q1 q2 q3
              go_upto_region 29 with fail
              go_cut [149] (fun s149 wy => s149 = .bool false ∧ Hid (Frm M0 w9 wy))
              case first =>
                go_region_held3 (fun wx => wx.cell? ⟨b8, 0, none⟩ = some (.int .i64 N'.room) ∧ wx.cell? ⟨b8, 1, none⟩ = some (.slice a6 N'.l.length c6) ∧ wx.cell? ⟨b8, 2, none⟩ = some (.int .i64 N'.sent) ∧ wx.cell? ⟨b8, 3, none⟩ = some (.int .i64 N'.lost)) (first | with_reducible exact HSQ.out _ HFq.out | go_keep)
                  (first
                    | (go_at_call 14; refine (HLN.out _ HFq.out).mono ?_; rintro r wq ⟨rfl, rfl⟩)
                    | (go_at_call 15; refine (HSE.out _ HFq.out).mono ?_; rintro r wq ⟨rfl, rfl⟩)
                    | (go_at_call 21; refine (HLO.out _ HFq.out).mono ?_; rintro r wq ⟨rfl, rfl⟩)
                    | (go_at_call 22; refine (HAL.out _ HFq.out).mono ?_; rintro r wq ⟨va, rfl, hra, hfq⟩; obtain ⟨aa, na, ca, rfl, hna⟩ := hra.out.shapeL; have hx := HFq.out.then0 hfq; clear HFq hfq; have HFq := hid hx; clear hx)
                    | (go_at_call 29; refine (HSM.out _ _ HFq.out hra.out).mono ?_; rintro r wq ⟨rfl, hfq⟩; have hx := HFq.out.then0 hfq; clear HFq hfq; have HFq := hid hx; clear hx))
                all_goals
                  go_wp2_with fail
                  go_meet
                  exact ⟨by first | rfl | simp, hid HFq.out⟩
              case rest =>
                obtain ⟨rfl, HFy⟩ := hcut
                go_wp2_with fail
                exact ⟨⟨k + 1, N', by omega, by go_num, hid ⟨_, _, HT9.out.frm HFy.out⟩, hid (HF9.out.then0 HFy.out)⟩, by simp [intOf]; omega⟩
      · as_aux_lemma =>
          subst hd
          have HSR : Hid (∀ wz, Frm M0 w4 wz → Calls Try.prog 26 #[.agg #[.int .i64 N.room, .slice a8 N.l.length c8, .int .i64 N.sent, .int .i64 N.lost], .int .i64 s.n] wz fun r w' => RefP wz w' (.slice a8 N.l.length c8) (N.take s.n).1 r (fun x => .tuple #[x, (N.take s.n).2.1.val, .bool (N.take s.n).2.2])) := hid fun wz hf => refTake_calls N _ s.n HWN.out wz (HT4.out.rd.frm0 hf) (HT4.out.vl.frm hf) hNl
          have HSN : Hid (∀ wz vb, NetR wz nb ch vb N → Calls Try.prog 13 #[pn nb, .int .i64 s.n] wz fun r w' => r = .returned (.tuple #[(N.take s.n).2.1.val, .bool (N.take s.n).2.2]) ∧ Turned wz w' nb ch vb (N.take s.n).1) := hid fun wz vb hn => take_calls nb ch vb N s.n HWN.out wz hn
          obtain ⟨⟨N', g, e⟩, hN'⟩ : ∃ N', N' = N.take s.n := ⟨_, rfl⟩
          rw [← hN'] at HSR HSN
          obtain ⟨gk, ge, gs, gu, gv, gt⟩ := g
          simp only [] at HSR HSN
          rw [show (Mg.mk gk ge gs gu gv gt).val = .agg #[.int .i64 gk, .int .i64 ge, .int .i64 gs, .int .i64 gu, .int .i64 gv, .int .i64 gt] from rfl] at HSR HSN
          clear hN' hNl HMO
          go_wp2_with fail
          refine (HSR.out _ (Frm.refl _ _)).mono ?_
          rintro r w6 ⟨v6, rfl, HR6, HK6, hf6⟩
          obtain ⟨a6, n6, c6, rfl, hn6⟩ := HR6.out.shapeL
          have HF6 := hid hf6
          have HTc := hid (HT4.out.frm hf6)
          clear hf6 HSR
          go_upto_region 18 with fail
          have hal : Frm M0 w6 ((w6.alloc (.cells #[.int .i64 N'.room, .slice a6 n6 c6, .int .i64 N'.sent, .int .i64 N'.lost] 48)).alloc (.cells #[.int .i64 gk, .int .i64 ge, .int .i64 gs, .int .i64 gu, .int .i64 gv, .int .i64 gt] 29)) := ((Frm.refl M0 _).alloc _).alloc _
          obtain ⟨hb14, hb15⟩ := new2 w6 (.cells #[.int .i64 N'.room, .slice a6 n6 c6, .int .i64 N'.sent, .int .i64 N'.lost] 48) (.cells #[.int .i64 gk, .int .i64 ge, .int .i64 gs, .int .i64 gu, .int .i64 gv, .int .i64 gt] 29)
          obtain ⟨wc, hwc⟩ : ∃ wc, wc = (w6.alloc (.cells #[.int .i64 N'.room, .slice a6 n6 c6, .int .i64 N'.sent, .int .i64 N'.lost] 48)).alloc (.cells #[.int .i64 gk, .int .i64 ge, .int .i64 gs, .int .i64 gu, .int .i64 gv, .int .i64 gt] 29) := ⟨_, rfl⟩
          rw [← hwc] at hal hb14 hb15 ⊢
          obtain ⟨b14, hb14'⟩ : ∃ b, b = w6.heap.size := ⟨_, rfl⟩
          rw [← hb14'] at hb14 hb15 ⊢
          have hl14 := HF6.out.size
          have hb14w : W.heap.size ≤ b14 + 1 := by have := HF4.out.size; omega
          have hb148 : b14 + 1 ≠ b8 := by have := (Array.getElem?_eq_some_iff.1 HT4.out.box).1; omega
          have hR := hid (HR6.out.frm0 hal)
          have hK := hid (⟨HK6.out.1, HK6.out.2.frm hal⟩ : (∀ k, (Value.slice a6 n6 c6).ownBlock = some k → (Value.slice a8 N.l.length c8).ownBlock = some k ∨ w4.heap.size ≤ k) ∧ VL wc (Value.slice a6 n6 c6))
          have hF := hid (HF6.out.then0 hal)
          have hTcc := hid (HTc.out.frm hal)
          have HB15 := hid hb15
          have hlb : w4.heap.size ≤ b14 := by omega
          have hnl := hid HT4.out.net.lt
          clear hwc HR6 HK6 HF6 HTc hb14' hl14
          have HR6 := hR; have HK6 := hK; have HF6 := hF; have HTc := hTcc
          clear hR hK hF hTcc hal
          obtain ⟨⟨p0, p1, p2, p3⟩, q0, q1, q2, q3⟩ := four HTc.out.box
          have hl8' := (Array.getElem?_eq_some_iff.1 HTc.out.box).1
          obtain ⟨⟨y0, y1, y2, y3⟩, z0, z1, z2, z3⟩ := four hb14
          clear hb14 hb15
          go_upto_region 19 with fail
          obtain ⟨w7, hw7, hh7, hf7⟩ := four_put HTc.out.box (.int .i64 (N'.room : Int)) (.slice a6 n6 c6) (.int .i64 N'.sent) (.int .i64 N'.lost)
          rw [← hw7]
          have hT7 := HT4.out.ref HR6.out HK6.out HF6.out hf7 hh7
          obtain ⟨e0, e1, e2, e3, e4, e5, e6, e7⟩ := eight (hf7.heap (HF6.out.heap HBX.out (fun h => h)) hbx8)
          have HT7 := hid hT7
          have HB15' := hid (hf7.heap HB15.out hb148)
          have HF7 := hid ((HF4.out.then0 HF6.out).trans hf7 (fun b hb e => by have := HT4.out.b8; omega))
          have hz7 := HF7.out.size
          clear hw7 hh7 hf7 hT7 HTc HR6 HK6 HF6 p0 p1 p2 p3 q0 q1 q2 q3 y0 y1 y2 y3 z0 z1 z2 z3 hl8'
          go_wp2_with fail
          refine (HSN.out _ _ HT7.out.net).mono ?_
          rintro r w9 ⟨rfl, ht⟩
          have ht' := ht
          obtain ⟨_, _, hnf, _⟩ := ht'
          have hb15 := hnf.heap HB15'.out (fun hh => by have := hnl.out _ hh; omega)
          obtain ⟨vb9, hT9, hf9⟩ := HT7.out.turn (by omega) ht
          have HF9 := hid (HF7.out.trans hf9 (fun b hb h => absurd h (by omega)))
          have HT9 := hid hT9
          clear hT9 hf9 ht HT7 hnf
          have hal := (Frm.refl M0 w9).alloc (.cells #[.int .i64 gk, .int .i64 ge, .int .i64 gs, .int .i64 gu, .int .i64 gv, .int .i64 gt] 29)
          have hb15' := hal.heap hb15 (fun h => h)
          have hb17 := new1 w9 (.cells #[.int .i64 gk, .int .i64 ge, .int .i64 gs, .int .i64 gu, .int .i64 gv, .int .i64 gt] 29)
          obtain ⟨w10, hw10⟩ : ∃ w, w = w9.alloc (.cells #[.int .i64 gk, .int .i64 ge, .int .i64 gs, .int .i64 gu, .int .i64 gv, .int .i64 gt] 29) := ⟨_, rfl⟩
          have hT10 := HT9.out.frm hal
          have hF10 := HF9.out.then0 hal
          go_upto_region 20 with fail
          rw [← hw10] at hb15' hb17 hT10 hF10 ⊢
          obtain ⟨⟨g0, g1, g2, g3, g4, g5⟩, _⟩ := six hb15'
          obtain ⟨⟨h0, h1, h2, h3, h4, h5⟩, _⟩ := six hb17
          clear HT9 HF9
          have HT9 := hid hT10
          have HF9 := hid hF10
          clear hw10 hT10 hF10 hal hb15 hb15' hb17 HB15 HB15'
          have hT9b := HT9.out
          obtain ⟨⟨p0, p1, p2, p3⟩, q0, q1, q2, q3⟩ := four hT9b.box
          obtain rfl := hn6.out.1
          have HAL : Hid (∀ wz, Frm M0 w10 wz → Calls Try.prog 22 #[pn nb] wz fun r w' => ∃ v', r = .returned v' ∧ Hid (Rd w' 6 v' N'.l.length (msgs N'.l)) ∧ Frm M0 wz w') := hid fun wz hf => (all_calls nb ch vb9 N' wz (HT9.out.net.frm hf (fun _ _ h => h))).mono fun r w' ⟨v', h1, h2, h3⟩ => ⟨v', h1, hid (Rd.ofOwns h2.out), h3⟩
          have HSM : Hid (∀ wz va, Frm M0 w10 wz → Rd wz 6 va N'.l.length (msgs N'.l) → Calls Try.prog 29 #[va, .slice a6 N'.l.length c6] wz fun r w' => r = .returned (.bool true) ∧ Frm M0 wz w') := hid fun wz va hf hr => refSame_calls va _ N'.l wz hr (HT9.out.rd.frm0 hf)
          have HLN : Hid (∀ wz, Frm M0 w10 wz → Calls Try.prog 14 #[pn nb] wz fun r w' => r = .returned (.int .i64 N'.l.length) ∧ wz = w') := hid fun wz hf => len_calls nb ch vb9 N' wz (HT9.out.net.frm hf (fun _ _ h => h))
          have HSE : Hid (∀ wz, Frm M0 w10 wz → Calls Try.prog 15 #[pn nb] wz fun r w' => r = .returned (.int .i64 N'.sent) ∧ wz = w') := hid fun wz hf => sent_calls nb ch vb9 N' wz (HT9.out.net.frm hf (fun _ _ h => h))
          have HLO : Hid (∀ wz, Frm M0 w10 wz → Calls Try.prog 21 #[pn nb] wz fun r w' => r = .returned (.int .i64 N'.lost) ∧ wz = w') := hid fun wz hf => lost_calls nb ch vb9 N' wz (HT9.out.net.frm hf (fun _ _ h => h))
          have HSQ : Hid (∀ wx, Frm M0 w10 wx → wx.cell? ⟨b8, 0, none⟩ = some (.int .i64 N'.room) ∧ wx.cell? ⟨b8, 1, none⟩ = some (.slice a6 N'.l.length c6) ∧ wx.cell? ⟨b8, 2, none⟩ = some (.int .i64 N'.sent) ∧ wx.cell? ⟨b8, 3, none⟩ = some (.int .i64 N'.lost)) := hid fun wx hf => (four (hf.heap HT9.out.box (fun h => h))).1
          have HFq : Hid (Frm M0 w10 w10.drew) := hid (Frm.refl M0 w10).drew
          clear hT9b p0 p1 p2 p3 q0 q1 q2 q3
          go_upto_region 29 with fail
          go_cut [149] (fun s149 wy => s149 = .bool false ∧ Hid (Frm M0 w10 wy))
          case first => as_aux_lemma =>
            go_region_held3 (fun wx => wx.cell? ⟨b8, 0, none⟩ = some (.int .i64 N'.room) ∧ wx.cell? ⟨b8, 1, none⟩ = some (.slice a6 N'.l.length c6) ∧ wx.cell? ⟨b8, 2, none⟩ = some (.int .i64 N'.sent) ∧ wx.cell? ⟨b8, 3, none⟩ = some (.int .i64 N'.lost)) (first | with_reducible exact HSQ.out _ HFq.out | go_keep)
              (first
                | (go_at_call 14; refine (HLN.out _ HFq.out).mono ?_; rintro r wq ⟨rfl, rfl⟩)
                | (go_at_call 15; refine (HSE.out _ HFq.out).mono ?_; rintro r wq ⟨rfl, rfl⟩)
                | (go_at_call 21; refine (HLO.out _ HFq.out).mono ?_; rintro r wq ⟨rfl, rfl⟩)
                | (go_at_call 22; refine (HAL.out _ HFq.out).mono ?_; rintro r wq ⟨va, rfl, hra, hfq⟩; obtain ⟨aa, na, ca, rfl, hna⟩ := hra.out.shapeL; have hx := HFq.out.then0 hfq; clear HFq hfq; have HFq := hid hx; clear hx)
                | (go_at_call 29; refine (HSM.out _ _ HFq.out hra.out).mono ?_; rintro r wq ⟨rfl, hfq⟩; have hx := HFq.out.then0 hfq; clear HFq hfq; have HFq := hid hx; clear hx))
            all_goals
              go_wp2_with fail
              go_meet
              exact ⟨by first | rfl | simp, hid HFq.out⟩
          case rest => as_aux_lemma =>
            obtain ⟨rfl, HFy⟩ := hcut
            go_wp2_with fail
            exact ⟨⟨k + 1, N', by omega, by go_num, hid ⟨_, _, HT9.out.frm HFy.out⟩, hid (HF9.out.then0 HFy.out)⟩, by simp [intOf]; omega⟩
      · as_aux_lemma =>
          subst hd
          have HSR : Hid (∀ wz, Frm M0 w4 wz → Calls Try.prog 27 #[.agg #[.int .i64 N.room, .slice a8 N.l.length c8, .int .i64 N.sent, .int .i64 N.lost], .int .i64 s.n] wz fun r w' => RefP wz w' (.slice a8 N.l.length c8) (N.drop s.n).1 r (fun x => .tuple #[x, .bool (N.drop s.n).2])) := hid fun wz hf => refDrop_calls N _ s.n HWN.out wz (HT4.out.rd.frm0 hf) (HT4.out.vl.frm hf) hNl
          have HSN : Hid (∀ wz vb, NetR wz nb ch vb N → Calls Try.prog 19 #[pn nb, .int .i64 s.n] wz fun r w' => r = .returned (.bool (N.drop s.n).2) ∧ Turned wz w' nb ch vb (N.drop s.n).1) := hid fun wz vb hn => drop_calls nb ch vb N s.n HWN.out wz hn
          obtain ⟨⟨N', e⟩, hN'⟩ : ∃ N', N' = N.drop s.n := ⟨_, rfl⟩
          rw [← hN'] at HSR HSN
          simp only [] at HSR HSN
          clear hN' hNl HMO
          go_wp2_with fail
          refine (HSR.out _ (Frm.refl _ _)).mono ?_
          rintro r w6 ⟨v6, rfl, HR6, HK6, hf6⟩
          obtain ⟨a6, n6, c6, rfl, hn6⟩ := HR6.out.shapeL
          have HF6 := hid hf6
          have HTc := hid (HT4.out.frm hf6)
          clear hf6 HSR
          go_upto_region 23 with fail
          have hal : Frm M0 w6 (w6.alloc (.cells #[.int .i64 N'.room, .slice a6 n6 c6, .int .i64 N'.sent, .int .i64 N'.lost] 48)) := (Frm.refl M0 _).alloc _
          have hb14 := new1 w6 (.cells #[.int .i64 N'.room, .slice a6 n6 c6, .int .i64 N'.sent, .int .i64 N'.lost] 48)
          obtain ⟨wc, hwc⟩ : ∃ wc, wc = w6.alloc (.cells #[.int .i64 N'.room, .slice a6 n6 c6, .int .i64 N'.sent, .int .i64 N'.lost] 48) := ⟨_, rfl⟩
          rw [← hwc] at hal hb14 ⊢
          have hR := hid (HR6.out.frm0 hal)
          have hK := hid (⟨HK6.out.1, HK6.out.2.frm hal⟩ : (∀ k, (Value.slice a6 n6 c6).ownBlock = some k → (Value.slice a8 N.l.length c8).ownBlock = some k ∨ w4.heap.size ≤ k) ∧ VL wc (Value.slice a6 n6 c6))
          have hF := hid (HF6.out.then0 hal)
          have hTcc := hid (HTc.out.frm hal)
          clear hwc HR6 HK6 HF6 HTc
          have HR6 := hR; have HK6 := hK; have HF6 := hF; have HTc := hTcc
          clear hR hK hF hTcc hal
          obtain ⟨⟨p0, p1, p2, p3⟩, q0, q1, q2, q3⟩ := four HTc.out.box
          have hl8' := (Array.getElem?_eq_some_iff.1 HTc.out.box).1
          obtain ⟨⟨y0, y1, y2, y3⟩, z0, z1, z2, z3⟩ := four hb14
          clear hb14
          go_upto_region 24 with fail
          obtain ⟨w7, hw7, hh7, hf7⟩ := four_put HTc.out.box (.int .i64 (N'.room : Int)) (.slice a6 n6 c6) (.int .i64 N'.sent) (.int .i64 N'.lost)
          rw [← hw7]
          have hT7 := HT4.out.ref HR6.out HK6.out HF6.out hf7 hh7
          obtain ⟨e0, e1, e2, e3, e4, e5, e6, e7⟩ := eight (hf7.heap (HF6.out.heap HBX.out (fun h => h)) hbx8)
          have HT7 := hid hT7
          have HF7 := hid ((HF4.out.then0 HF6.out).trans hf7 (fun b hb e => by have := HT4.out.b8; omega))
          have hz7 := HF7.out.size
          clear hw7 hh7 hf7 hT7 HTc HR6 HK6 HF6 p0 p1 p2 p3 q0 q1 q2 q3 y0 y1 y2 y3 z0 z1 z2 z3 hl8'
          go_wp2_with fail
          refine (HSN.out _ _ HT7.out.net).mono ?_
          rintro r w9 ⟨rfl, ht⟩
          obtain ⟨vb9, hT9, hf9⟩ := HT7.out.turn (by omega) ht
          have HF9 := hid (HF7.out.trans hf9 (fun b hb h => absurd h (by omega)))
          have HT9 := hid hT9
          clear hT9 hf9 ht HT7
          have hT9b := HT9.out
          obtain ⟨⟨p0, p1, p2, p3⟩, q0, q1, q2, q3⟩ := four hT9b.box
          obtain rfl := hn6.out.1
          have HAL : Hid (∀ wz, Frm M0 w9 wz → Calls Try.prog 22 #[pn nb] wz fun r w' => ∃ v', r = .returned v' ∧ Hid (Rd w' 6 v' N'.l.length (msgs N'.l)) ∧ Frm M0 wz w') := hid fun wz hf => (all_calls nb ch vb9 N' wz (HT9.out.net.frm hf (fun _ _ h => h))).mono fun r w' ⟨v', h1, h2, h3⟩ => ⟨v', h1, hid (Rd.ofOwns h2.out), h3⟩
          have HSM : Hid (∀ wz va, Frm M0 w9 wz → Rd wz 6 va N'.l.length (msgs N'.l) → Calls Try.prog 29 #[va, .slice a6 N'.l.length c6] wz fun r w' => r = .returned (.bool true) ∧ Frm M0 wz w') := hid fun wz va hf hr => refSame_calls va _ N'.l wz hr (HT9.out.rd.frm0 hf)
          have HLN : Hid (∀ wz, Frm M0 w9 wz → Calls Try.prog 14 #[pn nb] wz fun r w' => r = .returned (.int .i64 N'.l.length) ∧ wz = w') := hid fun wz hf => len_calls nb ch vb9 N' wz (HT9.out.net.frm hf (fun _ _ h => h))
          have HSE : Hid (∀ wz, Frm M0 w9 wz → Calls Try.prog 15 #[pn nb] wz fun r w' => r = .returned (.int .i64 N'.sent) ∧ wz = w') := hid fun wz hf => sent_calls nb ch vb9 N' wz (HT9.out.net.frm hf (fun _ _ h => h))
          have HLO : Hid (∀ wz, Frm M0 w9 wz → Calls Try.prog 21 #[pn nb] wz fun r w' => r = .returned (.int .i64 N'.lost) ∧ wz = w') := hid fun wz hf => lost_calls nb ch vb9 N' wz (HT9.out.net.frm hf (fun _ _ h => h))
          have HSQ : Hid (∀ wx, Frm M0 w9 wx → wx.cell? ⟨b8, 0, none⟩ = some (.int .i64 N'.room) ∧ wx.cell? ⟨b8, 1, none⟩ = some (.slice a6 N'.l.length c6) ∧ wx.cell? ⟨b8, 2, none⟩ = some (.int .i64 N'.sent) ∧ wx.cell? ⟨b8, 3, none⟩ = some (.int .i64 N'.lost)) := hid fun wx hf => (four (hf.heap HT9.out.box (fun h => h))).1
          have HFq : Hid (Frm M0 w9 w9.drew) := hid (Frm.refl M0 w9).drew
          clear hT9b p0 p1 p2 p3 q0 q1 q2 q3
          go_upto_region 29 with fail
          go_cut [149] (fun s149 wy => s149 = .bool false ∧ Hid (Frm M0 w9 wy))
          case first => as_aux_lemma =>
            go_region_held3 (fun wx => wx.cell? ⟨b8, 0, none⟩ = some (.int .i64 N'.room) ∧ wx.cell? ⟨b8, 1, none⟩ = some (.slice a6 N'.l.length c6) ∧ wx.cell? ⟨b8, 2, none⟩ = some (.int .i64 N'.sent) ∧ wx.cell? ⟨b8, 3, none⟩ = some (.int .i64 N'.lost)) (first | with_reducible exact HSQ.out _ HFq.out | go_keep)
              (first
                | (go_at_call 14; refine (HLN.out _ HFq.out).mono ?_; rintro r wq ⟨rfl, rfl⟩)
                | (go_at_call 15; refine (HSE.out _ HFq.out).mono ?_; rintro r wq ⟨rfl, rfl⟩)
                | (go_at_call 21; refine (HLO.out _ HFq.out).mono ?_; rintro r wq ⟨rfl, rfl⟩)
                | (go_at_call 22; refine (HAL.out _ HFq.out).mono ?_; rintro r wq ⟨va, rfl, hra, hfq⟩; obtain ⟨aa, na, ca, rfl, hna⟩ := hra.out.shapeL; have hx := HFq.out.then0 hfq; clear HFq hfq; have HFq := hid hx; clear hx)
                | (go_at_call 29; refine (HSM.out _ _ HFq.out hra.out).mono ?_; rintro r wq ⟨rfl, hfq⟩; have hx := HFq.out.then0 hfq; clear HFq hfq; have HFq := hid hx; clear hx))
            all_goals
              go_wp2_with fail
              go_meet
              exact ⟨by first | rfl | simp, hid HFq.out⟩
          case rest => as_aux_lemma =>
            obtain ⟨rfl, HFy⟩ := hcut
            go_wp2_with fail
            exact ⟨⟨k + 1, N', by omega, by go_num, hid ⟨_, _, HT9.out.frm HFy.out⟩, hid (HF9.out.then0 HFy.out)⟩, by simp [intOf]; omega⟩
      · as_aux_lemma =>
          subst hd
          have HSR : Hid (∀ wz, Frm M0 w4 wz → Calls Try.prog 28 #[.agg #[.int .i64 N.room, .slice a8 N.l.length c8, .int .i64 N.sent, .int .i64 N.lost], .int .i64 s.n] wz fun r w' => RefP wz w' (.slice a8 N.l.length c8) (N.twice s.n).1 r (fun x => .tuple #[x, .int .i64 (N.twice s.n).2])) := hid fun wz hf => refTwice_calls N _ s.n HWN.out wz (HT4.out.rd.frm0 hf) (HT4.out.vl.frm hf) hNl
          have HSN : Hid (∀ wz vb, NetR wz nb ch vb N → Calls Try.prog 20 #[pn nb, .int .i64 s.n] wz fun r w' => r = .returned (.int .i64 (N.twice s.n).2) ∧ Turned wz w' nb ch vb (N.twice s.n).1) := hid fun wz vb hn => twice_calls nb ch vb N s.n HWN.out wz hn
          obtain ⟨⟨N', e⟩, hN'⟩ : ∃ N', N' = N.twice s.n := ⟨_, rfl⟩
          rw [← hN'] at HSR HSN
          simp only [] at HSR HSN
          clear hN' hNl HMO
          go_wp2_with fail
          refine (HSR.out _ (Frm.refl _ _)).mono ?_
          rintro r w6 ⟨v6, rfl, HR6, HK6, hf6⟩
          obtain ⟨a6, n6, c6, rfl, hn6⟩ := HR6.out.shapeL
          have HF6 := hid hf6
          have HTc := hid (HT4.out.frm hf6)
          clear hf6 HSR
          go_upto_region 27 with fail
          have hal : Frm M0 w6 (w6.alloc (.cells #[.int .i64 N'.room, .slice a6 n6 c6, .int .i64 N'.sent, .int .i64 N'.lost] 48)) := (Frm.refl M0 _).alloc _
          have hb14 := new1 w6 (.cells #[.int .i64 N'.room, .slice a6 n6 c6, .int .i64 N'.sent, .int .i64 N'.lost] 48)
          obtain ⟨wc, hwc⟩ : ∃ wc, wc = w6.alloc (.cells #[.int .i64 N'.room, .slice a6 n6 c6, .int .i64 N'.sent, .int .i64 N'.lost] 48) := ⟨_, rfl⟩
          rw [← hwc] at hal hb14 ⊢
          have hR := hid (HR6.out.frm0 hal)
          have hK := hid (⟨HK6.out.1, HK6.out.2.frm hal⟩ : (∀ k, (Value.slice a6 n6 c6).ownBlock = some k → (Value.slice a8 N.l.length c8).ownBlock = some k ∨ w4.heap.size ≤ k) ∧ VL wc (Value.slice a6 n6 c6))
          have hF := hid (HF6.out.then0 hal)
          have hTcc := hid (HTc.out.frm hal)
          clear hwc HR6 HK6 HF6 HTc
          have HR6 := hR; have HK6 := hK; have HF6 := hF; have HTc := hTcc
          clear hR hK hF hTcc hal
          obtain ⟨⟨p0, p1, p2, p3⟩, q0, q1, q2, q3⟩ := four HTc.out.box
          have hl8' := (Array.getElem?_eq_some_iff.1 HTc.out.box).1
          obtain ⟨⟨y0, y1, y2, y3⟩, z0, z1, z2, z3⟩ := four hb14
          clear hb14
          go_upto_region 28 with fail
          obtain ⟨w7, hw7, hh7, hf7⟩ := four_put HTc.out.box (.int .i64 (N'.room : Int)) (.slice a6 n6 c6) (.int .i64 N'.sent) (.int .i64 N'.lost)
          rw [← hw7]
          have hT7 := HT4.out.ref HR6.out HK6.out HF6.out hf7 hh7
          obtain ⟨e0, e1, e2, e3, e4, e5, e6, e7⟩ := eight (hf7.heap (HF6.out.heap HBX.out (fun h => h)) hbx8)
          have HT7 := hid hT7
          have HF7 := hid ((HF4.out.then0 HF6.out).trans hf7 (fun b hb e => by have := HT4.out.b8; omega))
          have hz7 := HF7.out.size
          clear hw7 hh7 hf7 hT7 HTc HR6 HK6 HF6 p0 p1 p2 p3 q0 q1 q2 q3 y0 y1 y2 y3 z0 z1 z2 z3 hl8'
          go_wp2_with fail
          refine (HSN.out _ _ HT7.out.net).mono ?_
          rintro r w9 ⟨rfl, ht⟩
          obtain ⟨vb9, hT9, hf9⟩ := HT7.out.turn (by omega) ht
          have HF9 := hid (HF7.out.trans hf9 (fun b hb h => absurd h (by omega)))
          have HT9 := hid hT9
          clear hT9 hf9 ht HT7
          have hT9b := HT9.out
          obtain ⟨⟨p0, p1, p2, p3⟩, q0, q1, q2, q3⟩ := four hT9b.box
          obtain rfl := hn6.out.1
          have HAL : Hid (∀ wz, Frm M0 w9 wz → Calls Try.prog 22 #[pn nb] wz fun r w' => ∃ v', r = .returned v' ∧ Hid (Rd w' 6 v' N'.l.length (msgs N'.l)) ∧ Frm M0 wz w') := hid fun wz hf => (all_calls nb ch vb9 N' wz (HT9.out.net.frm hf (fun _ _ h => h))).mono fun r w' ⟨v', h1, h2, h3⟩ => ⟨v', h1, hid (Rd.ofOwns h2.out), h3⟩
          have HSM : Hid (∀ wz va, Frm M0 w9 wz → Rd wz 6 va N'.l.length (msgs N'.l) → Calls Try.prog 29 #[va, .slice a6 N'.l.length c6] wz fun r w' => r = .returned (.bool true) ∧ Frm M0 wz w') := hid fun wz va hf hr => refSame_calls va _ N'.l wz hr (HT9.out.rd.frm0 hf)
          have HLN : Hid (∀ wz, Frm M0 w9 wz → Calls Try.prog 14 #[pn nb] wz fun r w' => r = .returned (.int .i64 N'.l.length) ∧ wz = w') := hid fun wz hf => len_calls nb ch vb9 N' wz (HT9.out.net.frm hf (fun _ _ h => h))
          have HSE : Hid (∀ wz, Frm M0 w9 wz → Calls Try.prog 15 #[pn nb] wz fun r w' => r = .returned (.int .i64 N'.sent) ∧ wz = w') := hid fun wz hf => sent_calls nb ch vb9 N' wz (HT9.out.net.frm hf (fun _ _ h => h))
          have HLO : Hid (∀ wz, Frm M0 w9 wz → Calls Try.prog 21 #[pn nb] wz fun r w' => r = .returned (.int .i64 N'.lost) ∧ wz = w') := hid fun wz hf => lost_calls nb ch vb9 N' wz (HT9.out.net.frm hf (fun _ _ h => h))
          have HSQ : Hid (∀ wx, Frm M0 w9 wx → wx.cell? ⟨b8, 0, none⟩ = some (.int .i64 N'.room) ∧ wx.cell? ⟨b8, 1, none⟩ = some (.slice a6 N'.l.length c6) ∧ wx.cell? ⟨b8, 2, none⟩ = some (.int .i64 N'.sent) ∧ wx.cell? ⟨b8, 3, none⟩ = some (.int .i64 N'.lost)) := hid fun wx hf => (four (hf.heap HT9.out.box (fun h => h))).1
          have HFq : Hid (Frm M0 w9 w9.drew) := hid (Frm.refl M0 w9).drew
          clear hT9b p0 p1 p2 p3 q0 q1 q2 q3
          go_upto_region 29 with fail
          go_cut [149] (fun s149 wy => s149 = .bool false ∧ Hid (Frm M0 w9 wy))
          case first => as_aux_lemma =>
            go_region_held3 (fun wx => wx.cell? ⟨b8, 0, none⟩ = some (.int .i64 N'.room) ∧ wx.cell? ⟨b8, 1, none⟩ = some (.slice a6 N'.l.length c6) ∧ wx.cell? ⟨b8, 2, none⟩ = some (.int .i64 N'.sent) ∧ wx.cell? ⟨b8, 3, none⟩ = some (.int .i64 N'.lost)) (first | with_reducible exact HSQ.out _ HFq.out | go_keep)
              (first
                | (go_at_call 14; refine (HLN.out _ HFq.out).mono ?_; rintro r wq ⟨rfl, rfl⟩)
                | (go_at_call 15; refine (HSE.out _ HFq.out).mono ?_; rintro r wq ⟨rfl, rfl⟩)
                | (go_at_call 21; refine (HLO.out _ HFq.out).mono ?_; rintro r wq ⟨rfl, rfl⟩)
                | (go_at_call 22; refine (HAL.out _ HFq.out).mono ?_; rintro r wq ⟨va, rfl, hra, hfq⟩; obtain ⟨aa, na, ca, rfl, hna⟩ := hra.out.shapeL; have hx := HFq.out.then0 hfq; clear HFq hfq; have HFq := hid hx; clear hx)
                | (go_at_call 29; refine (HSM.out _ _ HFq.out hra.out).mono ?_; rintro r wq ⟨rfl, hfq⟩; have hx := HFq.out.then0 hfq; clear HFq hfq; have HFq := hid hx; clear hx))
            all_goals
              go_wp2_with fail
              go_meet
              exact ⟨by first | rfl | simp, hid HFq.out⟩
          case rest => as_aux_lemma =>
            obtain ⟨rfl, HFy⟩ := hcut
            go_wp2_with fail
            exact ⟨⟨k + 1, N', by omega, by go_num, hid ⟨_, _, HT9.out.frm HFy.out⟩, hid (HF9.out.then0 HFy.out)⟩, by simp [intOf]; omega⟩
    · obtain rfl : k = L.length := by omega
      obtain ⟨vb, v8, hT⟩ := HT.out
      have hNl : N.l.length ≤ 1000 := by
        obtain ⟨v, buf, s, r, hv, h1, h2, h3, h4, h5, h6, h7⟩ := hT.net
        omega
      obtain ⟨a8, c8, rfl, _⟩ := hT.rd.shapeN
      have HTT := hid hT
      have HOF : Hid (∀ wz, Frm M0 wr wz → Calls Try.prog 23 #[pn nb, .int .i64 unit] wz fun r w' => ∃ v', r = .returned v' ∧ Hid (Rd w' 6 v' (fl unit N.l).length (msgs (fl unit N.l))) ∧ Frm M0 wz w') := hid fun wz hf => of_calls nb ch vb N unit wz (HTT.out.net.frm hf (fun _ _ h => h))
      have HRO : Hid (∀ wz, Frm M0 wr wz → Calls Try.prog 30 #[.agg #[.int .i64 N.room, .slice a8 N.l.length c8, .int .i64 N.sent, .int .i64 N.lost], .int .i64 unit] wz fun r w' => ∃ v', r = .returned v' ∧ Hid (Rd w' 6 v' (fl unit N.l).length (msgs (fl unit N.l))) ∧ Frm M0 wz w') := hid fun wz hf => refOf_calls N.room N.sent N.lost _ N.l unit wz (HTT.out.rd.frm0 hf) hNl
      have HSQ : Hid (∀ wx, Frm M0 wr wx → wx.cell? ⟨b8, 0, none⟩ = some (.int .i64 N.room) ∧ wx.cell? ⟨b8, 1, none⟩ = some (.slice a8 N.l.length c8) ∧ wx.cell? ⟨b8, 2, none⟩ = some (.int .i64 N.sent) ∧ wx.cell? ⟨b8, 3, none⟩ = some (.int .i64 N.lost)) := hid fun wx hf => (four (hf.heap HTT.out.box (fun h => h))).1
      have HFq : Hid (Frm M0 wr wr.drew) := hid (Frm.refl M0 wr).drew
      clear hT HT hk hlt
      go_upto_region 31 with fail
      go_cut [6] (fun s6 wy => s6 = .bool true ∧ Hid (Frm M0 wr wy))
      case first => as_aux_lemma =>
        go_region_held3 (fun wx => wx.cell? ⟨b8, 0, none⟩ = some (.int .i64 N.room) ∧ wx.cell? ⟨b8, 1, none⟩ = some (.slice a8 N.l.length c8) ∧ wx.cell? ⟨b8, 2, none⟩ = some (.int .i64 N.sent) ∧ wx.cell? ⟨b8, 3, none⟩ = some (.int .i64 N.lost)) (first | with_reducible exact HSQ.out _ HFq.out | go_keep)
          (first
            | (go_at_call 23; refine (HOF.out _ HFq.out).mono ?_; rintro r wq ⟨va, rfl, hra, hfq⟩; obtain ⟨aa, na, ca, rfl, hna⟩ := hra.out.shapeL; (first | (have hb2 := hid (hrb.out.frm0 hfq); clear hrb; have hrb := hb2; clear hb2) | skip); have hx := HFq.out.then0 hfq; clear HFq hfq; have HFq := hid hx; clear hx)
            | (go_at_call 30; refine (HRO.out _ HFq.out).mono ?_; rintro r wq ⟨va, rfl, hrb, hfq⟩; obtain ⟨aa, na, ca, rfl, hnb⟩ := hrb.out.shapeL; (first | (have hb2 := hid (hra.out.frm0 hfq); clear hra; have hra := hb2; clear hb2) | skip); have hx := HFq.out.then0 hfq; clear HFq hfq; have HFq := hid hx; clear hx)
            | (go_at_call 29; refine (refSame_calls _ _ (fl unit N.l) _ hra.out hrb.out).mono ?_; rintro r wq ⟨rfl, hfq⟩; have hx := HFq.out.then0 hfq; clear HFq hfq; have HFq := hid hx; clear hx))
        all_goals
          go_wp2_with fail
          go_meet
          exact ⟨by first | rfl | simp, hid HFq.out⟩
      case rest => as_aux_lemma =>
        obtain ⟨rfl, HFy⟩ := hcut
        go_wp2_with fail
        go_ret
        exact ⟨rfl, (HF.out.then0 HFy.out).below⟩
end Go.Proofs.Ytbepcohcdgfkaaa
