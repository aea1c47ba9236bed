/- CodecRows: numbers that are written one behind the other are read in that row, and a list of them. The walk of the law, for every slice of ints. -/
import Derived.Test.YtmbigbhmfoinoaaLq
import Derived.Test.YtmbigbhmfoinoaaCl
import Derived.Test.YtmbigbhmfoinoaaCg
import Derived.Test.YtmbigbhmfoinoaaFt
import Derived.Deep.DeepCutAuto
import Derived.Deep.RegionWith
import Derived.Test.YtmbigbhmfoinoaaQt
namespace Go.Proofs.Ytmbigbhmfoinoaa
set_option linter.unusedVariables false
set_option linter.unusedSimpArgs false
open Go.RowKit Cp

theorem owns_ne {w : World} {B B' : Nat} {e e' : TypeId} {s s' n n' : Nat} {v v' : Value} {xs xs' : List Value} (h : w.ownsRow B e s v n xs) (h' : w.ownsRow B' e' s' v' n' xs') (he : e ≠ e') :
    ∀ j, v.ownBlock = some j → v'.ownBlock ≠ some j := by
  intro j hj hj'
  rcases h.2 with ⟨rfl, _⟩ | ⟨g, cap, cur, rfl, _, hg, _⟩
  · cases hj
  · rcases h'.2 with ⟨rfl, _⟩ | ⟨g', cap', cur', rfl, _, hg', _⟩
    · cases hj'
    · simp only [Value.ownBlock, Option.some.injEq] at hj hj'
      subst hj; subst hj'
      rw [hg] at hg'
      simp only [Option.some.injEq, Obj.cells.injEq] at hg'
      exact he hg'.2.1

theorem endF0 : endF [] 0 = 0 := by decide
theorem endC (rb : Nat) (w : World) (h : Rdr w rb [] 0) : Calls Try.prog 17 #[rp rb] w fun r w' => r = .returned (.int .i64 0) ∧ w = w' := by
  have := end_calls rb [] 0 w h
  rwa [endF0] at this
theorem sizeC (n X : Int) (w : World) (h : sizeF n = X) : Calls Try.prog 11 #[.int .i64 n] w fun e w' => e = .returned (.int .i64 X) ∧ Frm M0 w w' := by
  subst h
  exact (size_calls n w).mono fun e w' ⟨he, hb⟩ => ⟨he, frm_of hb⟩

set_option maxRecDepth 100000 in
set_option maxHeartbeats 1200000 in
theorem codecRows_walk (W : World) (v : Value) (l : List Int) (hr : Rd W 1 v l.length (ints .i64 l)) (hwf : ∀ x ∈ l, (Lit.int .i64 x).wf = true) :
    Calls Try.prog 6 #[v] W fun e w' => e = .returned (.bool true) ∧ Below W.heap.size W w' := by
  obtain ⟨a, c, rfl, hab⟩ := hr.shape
  obtain ⟨_, hc1, hc2⟩ := hr.cap
  have HR := hid hr
  have HW := hid (fun x hx => wf_i64 (hwf x hx))
  clear hr hwf
  go_enter Try.func6, Try.ntmps6
  go_wp2_with fail
  refine (lives_calls W).mono ?_
  rintro e w1 ⟨rfl, hf1⟩
  have HF1 := hid hf1
  clear hf1
  go_wp2_with fail
  go_loopw [3, 4, 5] (fun v3 v4 i5 wr => ∃ (k : Nat) (own : List Int), i5 = .int .i64 k ∧ k ≤ l.length ∧ k ≤ 60 ∧ own.length ≤ k ∧ Hid (allB own = true) ∧
      Hid (wr.ownsRow W.heap.size 3 1 v3 own.length (ints .i64 own)) ∧ Hid (wr.ownsRow W.heap.size 5 1 v4 (digs own).length (ints .u8 (digs own))) ∧ Hid (Frm M0 W wr)) (fun _ _ i _ => 60 - (intOf i).toNat)
  case atStart => exact ⟨0, [], rfl, by omega, by omega, by simp, hid rfl, hid (World.ownsRow_nil _ _ _ _), hid (World.ownsRow_nil _ _ _ _), HF1⟩
  case round =>
    obtain ⟨k, own, rfl, hk, hk60, hown, HA, HO3, HO4, HF⟩ := hrel
    have hdl := digs_len own (allB_le HA.out)
    by_cases hgo : k < l.length ∧ k < 60
    · obtain ⟨hlt, hlt60⟩ := hgo
      obtain ⟨b, o, rfl⟩ := hab (by omega)
      obtain ⟨x, HX, hc⟩ := (HR.out.frm0 HF.out).cellAt k hlt
      cases hm : mayB x with
      | false =>
        go_wp2_with fail
        refine (number_bad _ (digs own) x wr (by omega) (Rd.ofOwns HO4.out) hm).mono ?_
        rintro e w3 ⟨rfl, rfl⟩
        clear hm
        go_wp2_with fail
        exact ⟨⟨k + 1, own, by go_num, by omega, by omega, by omega, HA, HO3, HO4, HF⟩, by simp [intOf]; omega⟩
      | true =>
        have hxb := mayB_true hm
        go_wp2_with fail
        refine (number_ok _ (digs own) x wr (by omega) (Rd.ofOwns HO4.out) hm).mono ?_
        rintro e w3 ⟨v6, rfl, ho6, hb6⟩
        have e6 : digs own ++ dig x.toNat = digs (own ++ [x]) := by rw [digs_app]; simp [digs]
        rw [e6] at ho6
        have HO6 := hid ho6
        have HM := hid hm
        have HO33 := hid ((frm_of hb6).owns HO3.out (fun _ _ h => h))
        have HF3 := hid (HF.out.then0 (frm_of hb6))
        have HFb := hid (frm_of hb6)
        have hc3 := HFb.out.cell hc (fun h => h)
        clear hm ho6 hb6 e6
        go_wp2_with (first | (at_builtin; refine wpList_push_int rfl (.tmp 35) (.tmp 40) 26 rfl W.heap.size 3 .i64 8 Try.underlying26 info3 _ own _ rfl HO33.out rfl (by unfold maxLen; omega) (by omega) HF3.out.size ?_; intro v7 w7 ho7 hg7; have HO7 := hid ho7; have HG7 := hid hg7; clear ho7 hg7))
        have hne := owns_ne HO6.out HO33.out (by decide)
        have hO6 : w7.ownsRow W.heap.size 5 1 v6 (digs (own ++ [x])).length (ints .u8 (digs (own ++ [x]))) := by
          have hg : Frm (fun b => u3.ownBlock = some b) w3 w7 := (Frm.refl _ _).grown HG7.out (fun k hk _ => hk)
          exact owns_base (hg.owns HO6.out hne) HF.out.size
        have hF7 : Frm M0 W w7 := HF3.out.grown HG7.out (fun k hk hlt => absurd (HO33.out.lt k hk).1 (by omega))
        exact ⟨⟨k + 1, own ++ [x], by go_num, by omega, by omega, by rw [List.length_append]; simp; omega, hid (by have h := HA.out; unfold allB at h ⊢; rw [List.all_append, h]; simp [HM.out]), HO7, hid hO6, hid hF7⟩, by simp [intOf]; omega⟩
    · have hend : ∀ (P : Prop), (¬ k < l.length → P) → (k < l.length → ¬ k < 60 → P) → P := fun P h1 h2 => by
        by_cases h : k < l.length
        · exact h2 h (fun h3 => hgo ⟨h, h3⟩)
        · exact h1 h
      clear hgo hab
      have key : (if k < l.length then k = 60 else True) := by split <;> first | trivial | (exact hend _ (fun h => by omega) (fun h h2 => by omega))
      clear hend
      by_cases hlt : k < l.length
      · rw [if_pos hlt] at key
        have h60 : ¬ k < 60 := by omega
        clear key
        go_wp2_with fail
        refine (list_ok (.slice none 0 0) _ [] own wr (by simp) (Rd.nil _ _) (by omega) (Rd.ofOwns HO3.out) HA.out).mono ?_
        rintro e w3 ⟨v8, rfl, ho8, hb8⟩
        have HO8 := hid ho8
        have HF3 := hid (HF.out.then0 (frm_of hb8))
        have HFb := hid (frm_of hb8)
        have HO33 := hid (HFb.out.owns HO3.out (fun _ _ h => h))
        have HO43 := hid (HFb.out.owns HO4.out (fun _ _ h => h))
        clear ho8 hb8
        go_wp2_with fail
        refine (read_calls _ (digs own) w3 (by omega) (Rd.ofOwns HO43.out) (digs_bytes own)).mono ?_
        rintro e w4 ⟨rb, rfl, hrb, hr4, hf4⟩
        have HR4 := hid hr4
        have HF4 := hid (HF3.out.then0 hf4)
        have HO34 := hid (hf4.owns HO33.out (fun _ _ h => h))
        have HO44 := hid (hf4.owns HO43.out (fun _ _ h => h))
        have HO84 := hid (hf4.owns (owns_base HO8.out HF.out.size) (fun _ _ h => h))
        have h3rb : Hid (∀ j, u3.ownBlock = some j → j < rb) := fun j hj => by have := (HO33.out.lt j hj).2; omega
        have h4rb : Hid (∀ j, u4.ownBlock = some j → j < rb) := fun j hj => by have := (HO43.out.lt j hj).2; omega
        have h8rb : Hid (∀ j, v8.ownBlock = some j → j < rb) := fun j hj => by have := (HO8.out.lt j hj).2; omega
        have hWrb : W.heap.size ≤ rb := Nat.le_trans HF3.out.size hrb
        clear hr4 hf4
        obtain ⟨a3, c3, hv3, hab3⟩ := (Rd.ofOwns HO34.out).shape
        subst hv3
        go_wp2_with fail
        go_loopw [11] (fun i11 wr => ∃ k2 : Nat, i11 = .int .i64 k2 ∧ k2 ≤ own.length ∧ Hid (Rdr wr rb (digs (own.drop k2)) 0) ∧ Hid (Frm (· = rb) w4 wr)) (fun i _ => own.length - (intOf i).toNat)
        case atStart => exact ⟨0, rfl, Nat.zero_le _, HR4, hid (Frm.refl _ _)⟩
        case round =>
          obtain ⟨k2, rfl, hk2, HRq, HFq⟩ := hrel
          by_cases hlt2 : k2 < own.length
          · obtain ⟨b3, o3, rfl⟩ := hab3 (by omega)
            obtain ⟨x, HX, hcx⟩ := ((Rd.ofOwns HO34.out).frm HFq.out (fun j hj e => by have := h3rb.out j hj; omega)).cellAt k2 hlt2
            have hxb := allB_le HA.out x (List.mem_of_getElem? HX.out)
            have hb3 : b3 < rb := h3rb.out b3 rfl
            have hdr : Hid (digs (own.drop k2) = dig x.toNat ++ digs (own.drop (k2 + 1))) := by
              obtain ⟨h1, h2⟩ := List.getElem?_eq_some_iff.1 HX.out
              unfold Hid
              rw [List.drop_eq_getElem_cons h1, h2]; rfl
            go_upto_region 17 with fail
            go_cut [62] (fun s62 wx => s62 = .bool false ∧ Hid (Rdr wx rb (digs (own.drop (k2 + 1))) 0) ∧ Hid (Frm (· = rb) w4 wx))
            case first =>
              go_region_with (go_at_call 25; refine (rnum_calls rb (digs (own.drop k2)) 0 _ ?_).mono ?_; exact (HRq.out.frm0 (Frm.refl _ _).drew); rintro e wn ⟨rfl, hrn, hfn⟩; rw [hdr.out, getF_dig hxb.1 hxb.2] at hrn ⊢; have HRN := hid hrn; have HFN := hid hfn; have hcn := hfn.cell (p := ⟨b3, o3 + k2, none⟩) (v := .int .i64 x) (by exact hcx) (by show ¬ b3 = rb; omega); clear hrn hfn)
              all_goals (go_wp2_with fail; go_meet; exact ⟨by first | rfl | simp, HRN, hid (HFq.out.drew.same HFN.out)⟩)
            case rest =>
              obtain ⟨rfl, HRx, HFx⟩ := hcut
              go_wp2_with fail
              exact ⟨⟨k2 + 1, by go_num, by omega, HRx, HFx⟩, by simp [intOf]; omega⟩
          · have hk2e : k2 = own.length := by omega
            subst hk2e
            rw [List.drop_length] at HRq
            obtain ⟨a4, c4, rfl, hab4⟩ := (Rd.ofOwns HO44.out).shape
            obtain ⟨a8, c8, rfl, hab8⟩ := (Rd.ofOwns HO84.out).shape
            have H4 := hid ((Rd.ofOwns HO44.out).frm HFq.out (fun j hj e => by have := h4rb.out j hj; omega))
            obtain ⟨L8, hL8⟩ : ∃ L8, L8 = [] ++ dig own.length ++ digs own := ⟨_, rfl⟩
            have H8 := hid ((Rd.ofOwns HO84.out).frm HFq.out (fun j hj e => by have := h8rb.out j hj; omega))
            rw [← hL8] at H8
            obtain ⟨S, hS⟩ : ∃ S, S = (dig own.length).length := ⟨_, rfl⟩
            have hS1 := dig_len_pos own.length
            have hl8 : L8.length = S + (digs own).length := by rw [hL8, hS, List.nil_append, List.length_append]
            have hdrop : L8.drop S = digs own := by rw [hL8, hS, List.nil_append, List.drop_left]
            rw [← hL8]
            obtain ⟨b8, o8, rfl⟩ := hab8 (by rw [← hL8]; omega)
            obtain ⟨_, hcap8, _⟩ := H8.out.cap
            have HSZ : Hid (sizeF (own.length : Int) = (S : Int)) := by unfold Hid sizeF; rw [if_pos (mayB_of (by omega) (by omega)), Int.toNat_natCast, hS]
            have hN : ((L8.length : Int) == ((digs own).length : Int) + (S : Int)) = true := beq_iff_eq.2 (by omega)
            have hSle : S ≤ L8.length := by omega
            have hS64 : S ≤ 9 := by rw [hS]; exact dig_len9 (by omega)
            have HFin := hid (HF4.out.trans HFq.out (fun b hlt e => by omega))
            clear hS hL8
            have Hd := hid hdrop
            have Hl8 := hid hl8
            clear hdrop hl8
            by_cases hcS : c8 = S
            · subst hcS
              have H8t := hid (H8.out.dropAll _ (by have := Hl8.out; omega))
              go_wp2_with fail
              have C4 := fun (x : FW wr) => run_str (P := Try.prog) 25 9 5 Try.underlying25 Try.underlying9 Try.underlying5 (H4.out.frm0 x.h)
              have C8 := fun (x : FW wr) => run_str (P := Try.prog) 25 9 5 Try.underlying25 Try.underlying9 Try.underlying5 (H8t.out.frm0 x.h)
              rw [Hd.out] at C8
              have e0 : L8.length - c8 = 0 := by have := Hl8.out; omega
              rw [e0] at C8
              have hend := hid (fun (x : FW wr) => endC rb x.w (HRq.out.frm0 x.h))
              have hsize := hid (fun (x : FW wr) => sizeC _ _ x.w HSZ.out)
              refine wp_region_fw (by kernel_rfl) (by kernel_rfl) ?_
              repeat (go_big_quiet_step (first | (go_at_call 17; exact FW.same (hend.out _)) | (go_at_call 11; exact FW.frm (hsize.out _))))
              refine wpQuiet_nil ?_
              rintro _ ⟨⟨wz, hz⟩, rfl⟩
              go_wp2_with fail
              go_ret
              exact ⟨by first | rfl | simp, (HFin.out.then0 hz).below⟩
            · skip
              have H8t := hid (H8.out.drop S (by omega))
              go_wp2_with fail
              have C4 := fun (x : FW wr) => run_str (P := Try.prog) 25 9 5 Try.underlying25 Try.underlying9 Try.underlying5 (H4.out.frm0 x.h)
              have C8 := fun (x : FW wr) => run_str (P := Try.prog) 25 9 5 Try.underlying25 Try.underlying9 Try.underlying5 (H8t.out.frm0 x.h)
              rw [Hd.out] at C8
              have hend := hid (fun (x : FW wr) => endC rb x.w (HRq.out.frm0 x.h))
              have hsize := hid (fun (x : FW wr) => sizeC _ _ x.w HSZ.out)
              refine wp_region_fw (by kernel_rfl) (by kernel_rfl) ?_
              repeat (go_big_quiet_step (first | (go_at_call 17; exact FW.same (hend.out _)) | (go_at_call 11; exact FW.frm (hsize.out _))))
              refine wpQuiet_nil ?_
              rintro _ ⟨⟨wz, hz⟩, rfl⟩
              go_wp2_with fail
              go_ret
              exact ⟨by first | rfl | simp, (HFin.out.then0 hz).below⟩
      · clear key
        go_wp2_with fail
        refine (list_ok (.slice none 0 0) _ [] own wr (by simp) (Rd.nil _ _) (by omega) (Rd.ofOwns HO3.out) HA.out).mono ?_
        rintro e w3 ⟨v8, rfl, ho8, hb8⟩
        have HO8 := hid ho8
        have HF3 := hid (HF.out.then0 (frm_of hb8))
        have HFb := hid (frm_of hb8)
        have HO33 := hid (HFb.out.owns HO3.out (fun _ _ h => h))
        have HO43 := hid (HFb.out.owns HO4.out (fun _ _ h => h))
        clear ho8 hb8
        go_wp2_with fail
        refine (read_calls _ (digs own) w3 (by omega) (Rd.ofOwns HO43.out) (digs_bytes own)).mono ?_
        rintro e w4 ⟨rb, rfl, hrb, hr4, hf4⟩
        have HR4 := hid hr4
        have HF4 := hid (HF3.out.then0 hf4)
        have HO34 := hid (hf4.owns HO33.out (fun _ _ h => h))
        have HO44 := hid (hf4.owns HO43.out (fun _ _ h => h))
        have HO84 := hid (hf4.owns (owns_base HO8.out HF.out.size) (fun _ _ h => h))
        have h3rb : Hid (∀ j, u3.ownBlock = some j → j < rb) := fun j hj => by have := (HO33.out.lt j hj).2; omega
        have h4rb : Hid (∀ j, u4.ownBlock = some j → j < rb) := fun j hj => by have := (HO43.out.lt j hj).2; omega
        have h8rb : Hid (∀ j, v8.ownBlock = some j → j < rb) := fun j hj => by have := (HO8.out.lt j hj).2; omega
        have hWrb : W.heap.size ≤ rb := Nat.le_trans HF3.out.size hrb
        clear hr4 hf4
        obtain ⟨a3, c3, hv3, hab3⟩ := (Rd.ofOwns HO34.out).shape
        subst hv3
        go_wp2_with fail
        go_loopw [11] (fun i11 wr => ∃ k2 : Nat, i11 = .int .i64 k2 ∧ k2 ≤ own.length ∧ Hid (Rdr wr rb (digs (own.drop k2)) 0) ∧ Hid (Frm (· = rb) w4 wr)) (fun i _ => own.length - (intOf i).toNat)
        case atStart => exact ⟨0, rfl, Nat.zero_le _, HR4, hid (Frm.refl _ _)⟩
        case round =>
          obtain ⟨k2, rfl, hk2, HRq, HFq⟩ := hrel
          by_cases hlt2 : k2 < own.length
          · obtain ⟨b3, o3, rfl⟩ := hab3 (by omega)
            obtain ⟨x, HX, hcx⟩ := ((Rd.ofOwns HO34.out).frm HFq.out (fun j hj e => by have := h3rb.out j hj; omega)).cellAt k2 hlt2
            have hxb := allB_le HA.out x (List.mem_of_getElem? HX.out)
            have hb3 : b3 < rb := h3rb.out b3 rfl
            have hdr : Hid (digs (own.drop k2) = dig x.toNat ++ digs (own.drop (k2 + 1))) := by
              obtain ⟨h1, h2⟩ := List.getElem?_eq_some_iff.1 HX.out
              unfold Hid
              rw [List.drop_eq_getElem_cons h1, h2]; rfl
            go_upto_region 17 with fail
            go_cut [62] (fun s62 wx => s62 = .bool false ∧ Hid (Rdr wx rb (digs (own.drop (k2 + 1))) 0) ∧ Hid (Frm (· = rb) w4 wx))
            case first =>
              go_region_with (go_at_call 25; refine (rnum_calls rb (digs (own.drop k2)) 0 _ ?_).mono ?_; exact (HRq.out.frm0 (Frm.refl _ _).drew); rintro e wn ⟨rfl, hrn, hfn⟩; rw [hdr.out, getF_dig hxb.1 hxb.2] at hrn ⊢; have HRN := hid hrn; have HFN := hid hfn; have hcn := hfn.cell (p := ⟨b3, o3 + k2, none⟩) (v := .int .i64 x) (by exact hcx) (by show ¬ b3 = rb; omega); clear hrn hfn)
              all_goals (go_wp2_with fail; go_meet; exact ⟨by first | rfl | simp, HRN, hid (HFq.out.drew.same HFN.out)⟩)
            case rest =>
              obtain ⟨rfl, HRx, HFx⟩ := hcut
              go_wp2_with fail
              exact ⟨⟨k2 + 1, by go_num, by omega, HRx, HFx⟩, by simp [intOf]; omega⟩
          · have hk2e : k2 = own.length := by omega
            subst hk2e
            rw [List.drop_length] at HRq
            obtain ⟨a4, c4, rfl, hab4⟩ := (Rd.ofOwns HO44.out).shape
            obtain ⟨a8, c8, rfl, hab8⟩ := (Rd.ofOwns HO84.out).shape
            have H4 := hid ((Rd.ofOwns HO44.out).frm HFq.out (fun j hj e => by have := h4rb.out j hj; omega))
            obtain ⟨L8, hL8⟩ : ∃ L8, L8 = [] ++ dig own.length ++ digs own := ⟨_, rfl⟩
            have H8 := hid ((Rd.ofOwns HO84.out).frm HFq.out (fun j hj e => by have := h8rb.out j hj; omega))
            rw [← hL8] at H8
            obtain ⟨S, hS⟩ : ∃ S, S = (dig own.length).length := ⟨_, rfl⟩
            have hS1 := dig_len_pos own.length
            have hl8 : L8.length = S + (digs own).length := by rw [hL8, hS, List.nil_append, List.length_append]
            have hdrop : L8.drop S = digs own := by rw [hL8, hS, List.nil_append, List.drop_left]
            rw [← hL8]
            obtain ⟨b8, o8, rfl⟩ := hab8 (by rw [← hL8]; omega)
            obtain ⟨_, hcap8, _⟩ := H8.out.cap
            have HSZ : Hid (sizeF (own.length : Int) = (S : Int)) := by unfold Hid sizeF; rw [if_pos (mayB_of (by omega) (by omega)), Int.toNat_natCast, hS]
            have hN : ((L8.length : Int) == ((digs own).length : Int) + (S : Int)) = true := beq_iff_eq.2 (by omega)
            have hSle : S ≤ L8.length := by omega
            have hS64 : S ≤ 9 := by rw [hS]; exact dig_len9 (by omega)
            have HFin := hid (HF4.out.trans HFq.out (fun b hlt e => by omega))
            clear hS hL8
            have Hd := hid hdrop
            have Hl8 := hid hl8
            clear hdrop hl8
            by_cases hcS : c8 = S
            · subst hcS
              have H8t := hid (H8.out.dropAll _ (by have := Hl8.out; omega))
              go_wp2_with fail
              have C4 := fun (x : FW wr) => run_str (P := Try.prog) 25 9 5 Try.underlying25 Try.underlying9 Try.underlying5 (H4.out.frm0 x.h)
              have C8 := fun (x : FW wr) => run_str (P := Try.prog) 25 9 5 Try.underlying25 Try.underlying9 Try.underlying5 (H8t.out.frm0 x.h)
              rw [Hd.out] at C8
              have e0 : L8.length - c8 = 0 := by have := Hl8.out; omega
              rw [e0] at C8
              have hend := hid (fun (x : FW wr) => endC rb x.w (HRq.out.frm0 x.h))
              have hsize := hid (fun (x : FW wr) => sizeC _ _ x.w HSZ.out)
              refine wp_region_fw (by kernel_rfl) (by kernel_rfl) ?_
              repeat (go_big_quiet_step (first | (go_at_call 17; exact FW.same (hend.out _)) | (go_at_call 11; exact FW.frm (hsize.out _))))
              refine wpQuiet_nil ?_
              rintro _ ⟨⟨wz, hz⟩, rfl⟩
              go_wp2_with fail
              go_ret
              exact ⟨by first | rfl | simp, (HFin.out.then0 hz).below⟩
            · skip
              have H8t := hid (H8.out.drop S (by omega))
              go_wp2_with fail
              have C4 := fun (x : FW wr) => run_str (P := Try.prog) 25 9 5 Try.underlying25 Try.underlying9 Try.underlying5 (H4.out.frm0 x.h)
              have C8 := fun (x : FW wr) => run_str (P := Try.prog) 25 9 5 Try.underlying25 Try.underlying9 Try.underlying5 (H8t.out.frm0 x.h)
              rw [Hd.out] at C8
              have hend := hid (fun (x : FW wr) => endC rb x.w (HRq.out.frm0 x.h))
              have hsize := hid (fun (x : FW wr) => sizeC _ _ x.w HSZ.out)
              refine wp_region_fw (by kernel_rfl) (by kernel_rfl) ?_
              repeat (go_big_quiet_step (first | (go_at_call 17; exact FW.same (hend.out _)) | (go_at_call 11; exact FW.frm (hsize.out _))))
              refine wpQuiet_nil ?_
              rintro _ ⟨⟨wz, hz⟩, rfl⟩
              go_wp2_with fail
              go_ret
              exact ⟨by first | rfl | simp, (HFin.out.then0 hz).below⟩
end Go.Proofs.Ytmbigbhmfoinoaa
