/- Parse, of the reference. The trace's laws: the document's example; TraceReads, TraceOnly. No condition. From what a row lists of the library's variables, and from the world's shape, to what the walks here want of them. A record, a spec that came in by value. No condition. -/
import Derived.Test.YtonlmkcolndaaaaGreatDoorTmb
import Derived.Test.YtonlmkcolndaaaaGreatDoorTmc
import Derived.Test.YtonlmkcolndaaaaGreatDoorKr
import Derived.Test.YtonlmkcolndaaaaGreatDoorVi
import Derived.Handed
import Derived.Shelf.Vars
import Derived.Stop.LaidErr
import Derived.LaidMore
import Derived.LaidSub
import Derived.ProofKit
import Derived.Test.YtonlmkcolndaaaaGreatDoorKb
import Derived.ChangeSame
import Derived.OpenShut
namespace Go.Proofs.YtonlmkcolndaaaaGreatDoor
set_option linter.unusedVariables false
set_option linter.unusedSimpArgs false
set_option maxRecDepth 20000
open Go.RowKit

/-- What a step did, as far as the loop has come. -/
def dup (j : Int) (k : Nat) : Int := if 0 ≤ j ∧ j < k then j else 0
theorem didX_hit {x : ByteArray} {k : Nat} (h4 : k < 4) (e : didW k = x) : Lib.idxOfS didL x = k := by
  have h := didF_fin ⟨k, h4⟩
  unfold didF at h
  rw [str_data] at h
  rw [← e]; exact h
theorem dup_hit {x : ByteArray} {k : Nat} (h4 : k < 4) (e : didW k = x) : dup (Lib.idxOfS didL x) (k + 1) = k := by
  rw [didX_hit h4 e]
  unfold dup; rw [if_pos (by omega)]
theorem dup_miss {x : ByteArray} {k : Nat} (h4 : k < 4) (e : didW k ≠ x) : dup (Lib.idxOfS didL x) (k + 1) = dup (Lib.idxOfS didL x) k := by
  have hne : Lib.idxOfS didL x ≠ k := by
    intro h
    rcases idx_cases didL x with h2 | ⟨j, hj, h2, h3⟩
    · omega
    · obtain rfl : j = k := by omega
      exact e (by unfold didW; rw [Int.toNat_natCast]; exact h3)
  unfold dup
  by_cases h : 0 ≤ Lib.idxOfS didL x ∧ Lib.idxOfS didL x < k
  · rw [if_pos h, if_pos (by omega)]
  · rw [if_neg h, if_neg (by omega)]
theorem dup_last (x : ByteArray) : dup (Lib.idxOfS didL x) 4 = max (Lib.idxOfS didL x) 0 := by
  have h := idx_bd didL x
  have hl : didL.length = 4 := rfl
  unfold dup
  split <;> omega
theorem errno_empty : (errnoF ⟨#[]⟩).1 = 0 := by decide +kernel

set_option maxRecDepth 20000 in
set_option maxHeartbeats 8000000 in
theorem rparse_calls (s : ByteArray) (w : World) (hs : s.size ≤ 90000) : Calls Tryz.prog 17 #[.string s] w fun x w' => x = .returned (.tuple #[(parF s).1.val, .int .i64 (parF s).2]) ∧ Frm M0 w w' := by
  obtain ⟨R, HR⟩ : ∃ R, Hid (parF s = R) := ⟨_, rfl⟩
  rw [HR.out]
  have HS := hid hs
  clear hs
  go_enter Tryz.func17, Tryz.ntmps17
  go_wp2_with fail
  refine (refwords_calls s _ (by have := HS.out; omega)).mono ?_
  rintro _ w1 ⟨v, L, rfl, HL0, hr, hf⟩
  obtain ⟨r0, hr0⟩ : ∃ x, x = w.heap.size := ⟨_, rfl⟩
  have S1 : Hid (Sb M0 w1 fun x => (x.heap[r0]? = some (.cells #[.int .i64 0, .int .i64 0, .int .i64 0, .int .i64 0, .int .i64 0, .int .i64 0, .int .i64 0, .string ⟨#[]⟩, .int .i64 0, .int .i64 0, .int .i64 0, .int .i64 0, .int .i64 0, .int .i64 0, .int .i64 0, .int .i64 0, .int .i64 0, .int .i64 0, .int .i64 0, .int .i64 0, .int .i64 0, .int .i64 0, .int .i64 0, .int .i64 0, .int .i64 0, .int .i64 0] 31 (0, 0)) ∧ Frm M0 w x) ∧ Rd x 1 v L.length (strs L)) :=
    hid fun wx hx => ⟨⟨hx.heap (hr0 ▸ hf.heap (new1 w _) (fun h => h)) (fun h => h), (((Frm.refl M0 w).alloc _).then0 hf).then0 hx⟩, hr.frm0 hx⟩
  rw [← hr0]
  have HR0 := hid hr0
  have HFW := hid (few_of (by have := HS.out; omega) HL0.out)
  obtain ⟨W, hW⟩ : ∃ x, x = splitL s.data.toList := ⟨_, rfl⟩
  have HW := hid hW
  have HL : Hid (L.map (·.data.toList) = W) := hid (by rw [hW]; exact HL0.out)
  have hl0 : 0 < L.length := by
    obtain ⟨x, r, e⟩ := splitL_ne s.data.toList
    have := HL0.out
    rw [e] at this
    cases L with
    | nil => cases this
    | cons a l => simp
  obtain ⟨va, vc, rfl, hsh⟩ := hr.shape
  obtain ⟨sb, so, rfl⟩ := hsh hl0
  obtain ⟨x0, hx0⟩ : ∃ x, x = L.getD 0 ⟨#[]⟩ := ⟨_, rfl⟩
  obtain ⟨x1, hx1⟩ : ∃ x, x = L.getD 1 ⟨#[]⟩ := ⟨_, rfl⟩
  have HC : Hid (Sb M0 w1 fun x => x.cell? ⟨sb, so, none⟩ = some (.string x0)) := hid (S1.out.map fun x hx => by
    have h := hx.2.strAt 0 hl0
    rw [Nat.add_zero] at h
    rw [h, hx0, List.getD_eq_getElem?_getD, List.getElem?_eq_getElem hl0]; rfl)
  have HC1 : Hid (1 < L.length → Sb M0 w1 fun x => x.cell? ⟨sb, so + 1, none⟩ = some (.string x1)) := hid (fun hl1 => S1.out.map fun x hx => by
    have h := hx.2.strAt 1 hl1
    rw [h, hx1, List.getD_eq_getElem?_getD, List.getElem?_eq_getElem hl1]; rfl)
  obtain ⟨j0, hj0⟩ : ∃ j, j = Lib.idxOfS didL x0 := ⟨_, rfl⟩
  obtain ⟨k0, hk0⟩ : ∃ k, k = max j0 0 := ⟨_, rfl⟩
  obtain ⟨e0, he0⟩ : ∃ e, e = (errnoF x1).1 := ⟨_, rfl⟩
  have HJ := hid hj0
  have HKD : Hid (dup j0 4 = k0) := hid (by rw [hj0, dup_last, hk0, hj0])
  have HK03 : Hid (0 ≤ k0 ∧ k0 ≤ 3) := hid (by have h := idx_bd didL x0; have hl : didL.length = 4 := rfl; omega)
  have HK0 : Hid (didFr (wd W 0) = k0) := hid (by rw [hk0, hj0, hx0]; unfold didFr didF; rw [wd_of HL.out, str_data])
  have HE0 : Hid ((errnoF (str (wd W 1))).1 = e0) := hid (by rw [wd_of HL.out, str_data, ← hx1, he0])
  have HEZ : Hid (¬ 1 < L.length → e0 = 0) := hid (fun h => by
    rw [he0, hx1, List.getD_eq_getElem?_getD, List.getElem?_eq_none (by omega)]
    exact errno_empty)
  obtain ⟨t, ht⟩ : ∃ t, t = restS W 2 := ⟨_, rfl⟩
  have HBH : Hid (str (behL s.data.toList 2) = t) := hid (by rw [ht, HW.out]; exact behS s 2 (by omega))
  have HTS : Hid (t.size ≤ 90000) := hid (by rw [ht, HW.out]; exact Nat.le_trans (rest_size s 2 (by omega)) HS.out)
  have HCA : Hid (candO didFr s = ⟨k0, e0, if k0 = 1 then (recF t).1 else Rc.zero, if k0 = 2 ∨ k0 = 3 then (msgF t).1 else Mg.zero⟩) := hid (by
    unfold candO
    rw [← HW.out, HK0.out, HE0.out, ← ht])
  have HFIN : Hid ((candO didFr s).r.fine) := hid (candO_fine didFr s)
  have HL0' := hid hl0
  have HE1 := hid he0
  clear hx0 hx1 hsh hl0 hr hf hr0 HL0 hW hj0 hk0 he0 ht HK0 HE0 HW
  go_upto_region 3 with fail
  obtain ⟨bm, hbm⟩ : ∃ x, x = w1.heap.size := ⟨_, rfl⟩
  obtain ⟨w2, hw2⟩ : ∃ x, x = w1.alloc (.cells #[.int .i64 0, .int .i64 0, .int .i64 0, .int .i64 0, .int .i64 0, .int .i64 0, .int .i64 0, .string ⟨#[]⟩, .int .i64 0, .int .i64 0, .int .i64 0, .int .i64 0, .int .i64 0, .int .i64 0, .int .i64 0, .int .i64 0, .int .i64 0, .int .i64 0, .int .i64 0, .int .i64 0, .int .i64 0, .int .i64 0, .int .i64 0, .int .i64 0, .int .i64 0, .int .i64 0] 31) := ⟨_, rfl⟩
  have hM := new1 w1 (.cells #[.int .i64 0, .int .i64 0, .int .i64 0, .int .i64 0, .int .i64 0, .int .i64 0, .int .i64 0, .string ⟨#[]⟩, .int .i64 0, .int .i64 0, .int .i64 0, .int .i64 0, .int .i64 0, .int .i64 0, .int .i64 0, .int .i64 0, .int .i64 0, .int .i64 0, .int .i64 0, .int .i64 0, .int .i64 0, .int .i64 0, .int .i64 0, .int .i64 0, .int .i64 0, .int .i64 0] 31)
  have hf := (Frm.refl M0 w1).alloc (.cells #[.int .i64 0, .int .i64 0, .int .i64 0, .int .i64 0, .int .i64 0, .int .i64 0, .int .i64 0, .string ⟨#[]⟩, .int .i64 0, .int .i64 0, .int .i64 0, .int .i64 0, .int .i64 0, .int .i64 0, .int .i64 0, .int .i64 0, .int .i64 0, .int .i64 0, .int .i64 0, .int .i64 0, .int .i64 0, .int .i64 0, .int .i64 0, .int .i64 0, .int .i64 0, .int .i64 0] 31)
  rw [← hw2] at hM hf ⊢
  rw [← hbm] at hM ⊢
  have S2 : Hid (Sb (fun j => j = bm) w2 fun x => ((x.heap[r0]? = some (.cells #[.int .i64 0, .int .i64 0, .int .i64 0, .int .i64 0, .int .i64 0, .int .i64 0, .int .i64 0, .string ⟨#[]⟩, .int .i64 0, .int .i64 0, .int .i64 0, .int .i64 0, .int .i64 0, .int .i64 0, .int .i64 0, .int .i64 0, .int .i64 0, .int .i64 0, .int .i64 0, .int .i64 0, .int .i64 0, .int .i64 0, .int .i64 0, .int .i64 0, .int .i64 0, .int .i64 0] 31 (0, 0)) ∧ Frm M0 w x) ∧ x.cell? ⟨sb, so, none⟩ = some (.string x0)) ∧ (1 < L.length → x.cell? ⟨sb, so + 1, none⟩ = some (.string x1))) := hid fun wx hx => by
    have h := S1.out.now.1
    have hc := HC.out.now
    have hlt := sb_lt h.1
    have hls := World.block_lt_of_cell? _ _ hc
    have hls2 : sb < w1.heap.size := hls
    have hz := h.2.size
    have hns : ¬ (sb = bm) := by omega
    refine ⟨⟨⟨hx.heap (hf.heap h.1 (fun h => h)) (by omega), (h.2.then0 hf).trans hx (fun j hj e => by have h3 : j = bm := e; omega)⟩, hx.cell (hf.cell hc (fun h => h)) hns⟩, fun hl1 => hx.cell (hf.cell (HC1.out hl1).now (fun h => h)) hns⟩
  have HM2 := hid hM
  clear hw2 hM hf hbm S1 HC HC1
  go_wp2_with fail
  obtain ⟨bd, hbd⟩ : ∃ x, x = w2.heap.size := ⟨_, rfl⟩
  obtain ⟨w3, hw3⟩ : ∃ x, x = w2.alloc (.cells #[.string ⟨#[110, 111, 116, 104, 105, 110, 103]⟩, .string ⟨#[99, 111, 109, 109, 105, 116, 116, 101, 100]⟩, .string ⟨#[115, 101, 110, 116]⟩, .string ⟨#[104, 101, 97, 114, 100]⟩] 9) := ⟨_, rfl⟩
  have hD := new1 w2 (.cells #[.string ⟨#[110, 111, 116, 104, 105, 110, 103]⟩, .string ⟨#[99, 111, 109, 109, 105, 116, 116, 101, 100]⟩, .string ⟨#[115, 101, 110, 116]⟩, .string ⟨#[104, 101, 97, 114, 100]⟩] 9)
  have hf := (Frm.refl M0 w2).alloc (.cells #[.string ⟨#[110, 111, 116, 104, 105, 110, 103]⟩, .string ⟨#[99, 111, 109, 109, 105, 116, 116, 101, 100]⟩, .string ⟨#[115, 101, 110, 116]⟩, .string ⟨#[104, 101, 97, 114, 100]⟩] 9)
  rw [← hw3] at hD hf ⊢
  rw [← hbd] at hD ⊢
  have hnb : ¬ (bd = bm) := by have h := sb_lt HM2.out; omega
  have S3 : Hid (Sb (fun j => j = bm) w3 fun x => (((x.heap[r0]? = some (.cells #[.int .i64 0, .int .i64 0, .int .i64 0, .int .i64 0, .int .i64 0, .int .i64 0, .int .i64 0, .string ⟨#[]⟩, .int .i64 0, .int .i64 0, .int .i64 0, .int .i64 0, .int .i64 0, .int .i64 0, .int .i64 0, .int .i64 0, .int .i64 0, .int .i64 0, .int .i64 0, .int .i64 0, .int .i64 0, .int .i64 0, .int .i64 0, .int .i64 0, .int .i64 0, .int .i64 0] 31 (0, 0)) ∧ Frm M0 w x) ∧ x.cell? ⟨sb, so, none⟩ = some (.string x0)) ∧ (1 < L.length → x.cell? ⟨sb, so + 1, none⟩ = some (.string x1))) ∧ x.heap[bd]? = some (.cells #[.string ⟨#[110, 111, 116, 104, 105, 110, 103]⟩, .string ⟨#[99, 111, 109, 109, 105, 116, 116, 101, 100]⟩, .string ⟨#[115, 101, 110, 116]⟩, .string ⟨#[104, 101, 97, 114, 100]⟩] 9 (0, 0))) := hid ((S2.out.step hf).and (Sb.heap hD hnb))
  have HM3 : Hid (w3.heap[bm]? = some (.cells #[.int .i64 (dup j0 0), .int .i64 0, .int .i64 0, .int .i64 0, .int .i64 0, .int .i64 0, .int .i64 0, .string ⟨#[]⟩, .int .i64 0, .int .i64 0, .int .i64 0, .int .i64 0, .int .i64 0, .int .i64 0, .int .i64 0, .int .i64 0, .int .i64 0, .int .i64 0, .int .i64 0, .int .i64 0, .int .i64 0, .int .i64 0, .int .i64 0, .int .i64 0, .int .i64 0, .int .i64 0] 31 (0, 0))) := hid (by
    have e : dup j0 0 = 0 := by unfold dup; split <;> omega
    rw [e]; exact hf.heap HM2.out (fun h => h))
  clear hw3 hD hf hbd hnb S2 HM2
  go_loopw [7] (fun i7 wr => ∃ k : Nat, k ≤ 4 ∧ i7 = .int .i64 k ∧ Hid (wr.heap[bm]? = some (.cells #[.int .i64 (dup j0 k), .int .i64 0, .int .i64 0, .int .i64 0, .int .i64 0, .int .i64 0, .int .i64 0, .string ⟨#[]⟩, .int .i64 0, .int .i64 0, .int .i64 0, .int .i64 0, .int .i64 0, .int .i64 0, .int .i64 0, .int .i64 0, .int .i64 0, .int .i64 0, .int .i64 0, .int .i64 0, .int .i64 0, .int .i64 0, .int .i64 0, .int .i64 0, .int .i64 0, .int .i64 0] 31 (0, 0))) ∧ Hid (Frm (fun j => j = bm) w3 wr)) (fun i _ => 4 - (intOf i).toNat)
  case atStart => exact ⟨0, by omega, rfl, HM3, hid (Frm.refl _ _)⟩
  case round =>
    clear HM3
    obtain ⟨k, hk, rfl, HM, HF⟩ := hrel
    have S4 := hid (S3.out.stepX HF.out)
    by_cases hlt : k < 4
    · obtain ⟨D, HD⟩ : ∃ D, Hid (didW k = D) := ⟨_, rfl⟩
      have hcd : wr.cell? ⟨bd, k, none⟩ = some (.string D) := by
        have h := S4.out.now.2
        rw [← HD.out]
        have hc : k = 0 ∨ k = 1 ∨ k = 2 ∨ k = 3 := by omega
        rcases hc with rfl | rfl | rfl | rfl <;> exact cell_at h _
      have HCD := hid hcd
      have HK4 := hid hlt
      have hk0 : (0 : Int) ≤ (k : Int) := by omega
      have hk4 : (k : Int) < 4 := by omega
      clear hcd
      go_upto_region 7 with fail
      apply wp_region_G 7 (fun _ => none) (valsL (_ :: _ :: _ :: _ :: _ :: _ :: _ :: [])) ?hm1 ?hB1 ?hal1 ?main1
      case hm1 => kernel_rfl
      case hB1 => kernel_rfl
      case hal1 =>
        intro i o obj ho hi
        cases hi
      rotate_left 7
      intro ops QT HO HQ
      obtain ⟨ho0, HO⟩ := HO
      refine wpG_v ho0.out rfl ?_ ?_
      · simp only [valsL_zero, valsL_succ]; apply FY_in rfl; intro wx hx
        go_simp
        exact ⟨rfl, rfl⟩
      simp only [Act.put, List.setIfInBounds_toArray, List.set_cons_zero, List.set_cons_succ, valsL_zero, valsL_succ]
      obtain ⟨ho1, HO⟩ := HO
      refine wpG_v ho1.out rfl ?_ ?_
      · simp only [valsL_zero, valsL_succ]; apply FY_in rfl; intro wx hx
        go_simp
        exact ⟨rfl, rfl⟩
      simp only [Act.put, List.setIfInBounds_toArray, List.set_cons_zero, List.set_cons_succ, valsL_zero, valsL_succ]
      obtain ⟨ho2, HO⟩ := HO
      refine wpG_v ho2.out rfl ?_ ?_
      · simp only [valsL_zero, valsL_succ]; apply FY_in rfl; intro wx hx
        go_simp
        exact ⟨rfl, rfl⟩
      simp only [Act.put, List.setIfInBounds_toArray, List.set_cons_zero, List.set_cons_succ, valsL_zero, valsL_succ]
      obtain ⟨ho3, HO⟩ := HO
      refine wpG_v ho3.out rfl ?_ ?_
      · simp only [valsL_zero, valsL_succ]; apply FY_in rfl; intro wx hx
        have h := hx.cell HCD.out (fun h => h)
        go_simp
        exact ⟨rfl, rfl⟩
      simp only [Act.put, List.setIfInBounds_toArray, List.set_cons_zero, List.set_cons_succ, valsL_zero, valsL_succ]
      obtain ⟨ho4, HO⟩ := HO
      refine wpG_v ho4.out rfl ?_ ?_
      · simp only [valsL_zero, valsL_succ]; apply FY_in rfl; intro wx hx
        go_simp
        exact ⟨rfl, rfl⟩
      simp only [Act.put, List.setIfInBounds_toArray, List.set_cons_zero, List.set_cons_succ, valsL_zero, valsL_succ]
      obtain ⟨ho5, HO⟩ := HO
      refine wpG_v ho5.out rfl ?_ ?_
      · simp only [valsL_zero, valsL_succ]; apply FY_in rfl; intro wx hx
        have h := HL0'.out
        go_simp
        exact ⟨rfl, rfl⟩
      simp only [Act.put, List.setIfInBounds_toArray, List.set_cons_zero, List.set_cons_succ, valsL_zero, valsL_succ]
      obtain ⟨ho6, HO⟩ := HO
      refine wpG_v ho6.out rfl ?_ ?_
      · simp only [valsL_zero, valsL_succ]; apply FY_in rfl; intro wx hx
        have h := hx.cell S4.out.now.1.1.2 (fun h => h)
        go_simp
        exact ⟨rfl, rfl⟩
      simp only [Act.put, List.setIfInBounds_toArray, List.set_cons_zero, List.set_cons_succ, valsL_zero, valsL_succ]
      refine HQ.out _ _ ?_
      intro wq hf hE hN
      simp only [List.drop_succ_cons, List.drop_zero]
      clear HQ HO hE hN ho0 ho1 ho2 ho3 ho4 ho5 ho6
      have HMq := hid (hf.heap HM.out (fun h => h))
      have HFq := hid (HF.out.then0 hf)
      clear hf
      by_cases hx : D = x0
      · have hb : (D.toList == x0.toList) = true := by rw [hx]; simp
        have HKU : Hid (dup j0 (k + 1) = k) := hid (by rw [HJ.out]; exact dup_hit HK4.out (by rw [HD.out, hx]))
        have c00 : wq.cell? ⟨bm, 0, none⟩ = some (.int .i64 (dup j0 k)) := sb_cell HMq.out 0
        have z00 : wq.frozen? ⟨bm, 0, none⟩ = false := sb_free HMq.out 0
        clear hx
        go_wp2_with fail
        refine ⟨⟨k + 1, by have := HK4.out; omega, by have := HK4.out; go_num, hid ?_, hid (HFq.out.put bm _ _ (fun _ => rfl))⟩, by have := HK4.out; simp [intOf]; omega⟩
        rw [HKU.out]
        exact heap_set_at (o := 0) HMq.out (.int .i64 (k : Int))
      · have hb : (D.toList == x0.toList) = false := by
          rw [beq_eq_false_iff_ne]; intro h; exact hx ((Go.Lib.bytes_beq_iff D x0).1 (by simp [h]))
        have HKU : Hid (dup j0 (k + 1) = dup j0 k) := hid (by rw [HJ.out]; exact dup_miss HK4.out (by rw [HD.out]; exact hx))
        clear hx
        go_wp2_with fail
        refine ⟨⟨k + 1, by have := HK4.out; omega, by have := HK4.out; go_num, hid ?_, HFq⟩, by have := HK4.out; simp [intOf]; omega⟩
        rw [HKU.out]
        exact HMq.out
    · obtain rfl : k = 4 := by omega
      have HM0 : Hid (wr.heap[bm]? = some (.cells #[.int .i64 k0, .int .i64 0, .int .i64 0, .int .i64 0, .int .i64 0, .int .i64 0, .int .i64 0, .string ⟨#[]⟩, .int .i64 0, .int .i64 0, .int .i64 0, .int .i64 0, .int .i64 0, .int .i64 0, .int .i64 0, .int .i64 0, .int .i64 0, .int .i64 0, .int .i64 0, .int .i64 0, .int .i64 0, .int .i64 0, .int .i64 0, .int .i64 0, .int .i64 0, .int .i64 0] 31 (0, 0))) := hid (by
        have h := HM.out
        rw [HKD.out] at h
        exact h)
      have HBC : Hid (∀ wx, Calls Tryz.prog 42 #[.string s, .int .i64 2] wx fun x w' => x = .returned (.string t) ∧ Frm M0 wx w') := hid (fun wx => by
        have h := behind_calls s 2 wx (by have := HS.out; omega) (by omega) (by omega)
        rw [HBH.out] at h; exact h)
      clear HM HF S3
      go_upto_if 35 with fail
      go_cut [] (fun wx => Hid (wx.heap[bm]? = some (.cells #[.int .i64 k0, .int .i64 e0, .int .i64 0, .int .i64 0, .int .i64 0, .int .i64 0, .int .i64 0, .string ⟨#[]⟩, .int .i64 0, .int .i64 0, .int .i64 0, .int .i64 0, .int .i64 0, .int .i64 0, .int .i64 0, .int .i64 0, .int .i64 0, .int .i64 0, .int .i64 0, .int .i64 0, .int .i64 0, .int .i64 0, .int .i64 0, .int .i64 0, .int .i64 0, .int .i64 0] 31 (0, 0))) ∧ Hid (Sb (fun j => j = bm) wx fun x => x.heap[r0]? = some (.cells #[.int .i64 0, .int .i64 0, .int .i64 0, .int .i64 0, .int .i64 0, .int .i64 0, .int .i64 0, .string ⟨#[]⟩, .int .i64 0, .int .i64 0, .int .i64 0, .int .i64 0, .int .i64 0, .int .i64 0, .int .i64 0, .int .i64 0, .int .i64 0, .int .i64 0, .int .i64 0, .int .i64 0, .int .i64 0, .int .i64 0, .int .i64 0, .int .i64 0, .int .i64 0, .int .i64 0] 31 (0, 0)) ∧ Frm M0 w x))
      case first =>
        by_cases hl : 1 < L.length
        · have hcx := S4.out.now.1.2 hl
          have HL1 := hid hl
          have hl2 : decide ((1 : Int) < (L.length : Int)) = true := decide_eq_true (by omega)
          have hl3 : (1 : Int) < (L.length : Int) := by omega
          go_wp2_with fail
          refine (rerrno_calls x1 _).mono ?_
          rintro _ w6 ⟨rfl, hf⟩
          have HM6 := hid (hf.heap HM0.out (fun h => h))
          have S6 := hid (S4.out.step hf)
          have c1 : w6.cell? ⟨bm, 1, none⟩ = some (.int .i64 0) := sb_cell HM6.out 1
          have z1 : w6.frozen? ⟨bm, 1, none⟩ = false := sb_free HM6.out 1
          rw [← HE1.out]
          obtain ⟨e9, he9⟩ : ∃ e, e = (errnoF x1).2 := ⟨_, rfl⟩
          rw [← he9]
          clear hf he9 hcx
          go_wp2_with fail
          go_meet
          exact ⟨hid (heap_set_at (o := 1) HM6.out (.int .i64 e0)), hid ((S6.out.map fun x h => h.1.1.1).put bm 1 (.int .i64 e0) rfl)⟩
        · have hl2 : decide ((1 : Int) < (L.length : Int)) = false := decide_eq_false (by omega)
          have HZ := hid (HEZ.out hl)
          go_wp2_with fail
          go_meet
          exact ⟨hid (by rw [HZ.out]; exact HM0.out), hid (S4.out.map fun x h => h.1.1.1)⟩
      obtain ⟨HM7, S7⟩ := hcut
      clear HM0 S4 HEZ HE1 HL0' HKD HJ HL
      go_wp2_with fail
      refine (HBC.out _).mono ?_
      rintro _ w8 ⟨rfl, hf⟩
      have S8 := hid (S7.out.step hf)
      have HM8 := hid (hf.heap HM7.out (fun h => h))
      have c00 : w8.cell? ⟨bm, 0, none⟩ = some (.int .i64 k0) := sb_cell HM8.out 0
      clear hf S7 HM7 HBC
      by_cases h1 : k0 = 1
      · have hb1 : (k0 == 1) = true := by simp [h1]
        have HC1 : Hid (candO didFr s = ⟨k0, e0, (recF t).1, Mg.zero⟩) := hid (by rw [HCA.out, if_pos h1, if_neg (by omega)])
        clear h1
        go_wp2_with fail
        refine (rrecord_calls t _ HTS.out).mono ?_
        rintro _ w9 ⟨rfl, hf⟩
        have S9 := hid (S8.out.step hf)
        have HM9 := hid (hf.heap HM8.out (fun h => h))
        clear hf S8 HM8 hb1 c00
        obtain ⟨r, hr⟩ : ∃ r, r = (recF t).1 := ⟨_, rfl⟩
        obtain ⟨q2, hq2⟩ : ∃ q, q = (recF t).2 := ⟨_, rfl⟩
        have HCQ : Hid (candO didFr s = ⟨k0, e0, r, Mg.zero⟩) := hid (by rw [HC1.out, hr])
        have HVR : Hid (r.val = .agg #[.int .i64 r.k, .int .i64 r.e, .int .i64 r.w, .int .i64 r.n, .int .i64 r.q, .string r.t, .int .i64 r.p.s0, .int .i64 r.p.s1, .int .i64 r.p.s2, .int .i64 r.p.s3, .int .i64 r.p.s4, .int .i64 r.p.s5, .int .i64 r.p.s6, .int .i64 r.p.s7, .int .i64 r.p.s8, .int .i64 r.p.s9, .int .i64 r.p.s10, .int .i64 r.p.s11]) := rfl
        rw [← hr, ← hq2, HVR.out]
        clear hr hq2 HC1
        obtain ⟨bs, hbs⟩ : ∃ x, x = w9.heap.size := ⟨_, rfl⟩
        have HZ1 := hid (new1 w9 (.cells #[.int .i64 0, .int .i64 0, .int .i64 0, .int .i64 0, .int .i64 0, .string ⟨#[]⟩, .int .i64 0, .int .i64 0, .int .i64 0, .int .i64 0, .int .i64 0, .int .i64 0, .int .i64 0, .int .i64 0, .int .i64 0, .int .i64 0, .int .i64 0, .int .i64 0] 27))
        go_upto_region 15 with (refine wpList_store_row rfl 27 (.tmp 11) (.tmp 53) (by with_reducible rfl) w9.heap.size #[.int .i64 r.k, .int .i64 r.e, .int .i64 r.w, .int .i64 r.n, .int .i64 r.q, .string r.t, .int .i64 r.p.s0, .int .i64 r.p.s1, .int .i64 r.p.s2, .int .i64 r.p.s3, .int .i64 r.p.s4, .int .i64 r.p.s5, .int .i64 r.p.s6, .int .i64 r.p.s7, .int .i64 r.p.s8, .int .i64 r.p.s9, .int .i64 r.p.s10, .int .i64 r.p.s11] (by kernel_rfl) (by kernel_rfl) _ _ HZ1.out (by kernel_rfl) (by rfl) (by simp [Value.oneCell']) ?_)
        have hfr := ((Frm.refl M0 w9).alloc (.cells #[.int .i64 0, .int .i64 0, .int .i64 0, .int .i64 0, .int .i64 0, .string ⟨#[]⟩, .int .i64 0, .int .i64 0, .int .i64 0, .int .i64 0, .int .i64 0, .int .i64 0, .int .i64 0, .int .i64 0, .int .i64 0, .int .i64 0, .int .i64 0, .int .i64 0] 27)).setRow w9.heap.size #[.int .i64 r.k, .int .i64 r.e, .int .i64 r.w, .int .i64 r.n, .int .i64 r.q, .string r.t, .int .i64 r.p.s0, .int .i64 r.p.s1, .int .i64 r.p.s2, .int .i64 r.p.s3, .int .i64 r.p.s4, .int .i64 r.p.s5, .int .i64 r.p.s6, .int .i64 r.p.s7, .int .i64 r.p.s8, .int .i64 r.p.s9, .int .i64 r.p.s10, .int .i64 r.p.s11] (Nat.le_refl _)
        have hB := setRow_heap _ w9.heap.size _ #[.int .i64 r.k, .int .i64 r.e, .int .i64 r.w, .int .i64 r.n, .int .i64 r.q, .string r.t, .int .i64 r.p.s0, .int .i64 r.p.s1, .int .i64 r.p.s2, .int .i64 r.p.s3, .int .i64 r.p.s4, .int .i64 r.p.s5, .int .i64 r.p.s6, .int .i64 r.p.s7, .int .i64 r.p.s8, .int .i64 r.p.s9, .int .i64 r.p.s10, .int .i64 r.p.s11] _ _ HZ1.out
        obtain ⟨w9b, hw9⟩ : ∃ x, x = (w9.alloc (.cells #[.int .i64 0, .int .i64 0, .int .i64 0, .int .i64 0, .int .i64 0, .string ⟨#[]⟩, .int .i64 0, .int .i64 0, .int .i64 0, .int .i64 0, .int .i64 0, .int .i64 0, .int .i64 0, .int .i64 0, .int .i64 0, .int .i64 0, .int .i64 0, .int .i64 0] 27)).setRow w9.heap.size #[.int .i64 r.k, .int .i64 r.e, .int .i64 r.w, .int .i64 r.n, .int .i64 r.q, .string r.t, .int .i64 r.p.s0, .int .i64 r.p.s1, .int .i64 r.p.s2, .int .i64 r.p.s3, .int .i64 r.p.s4, .int .i64 r.p.s5, .int .i64 r.p.s6, .int .i64 r.p.s7, .int .i64 r.p.s8, .int .i64 r.p.s9, .int .i64 r.p.s10, .int .i64 r.p.s11] := ⟨_, rfl⟩
        rw [← hw9] at hfr hB ⊢
        rw [← hbs] at hB ⊢
        have S9b := hid (S9.out.step hfr)
        have HM9b := hid (hfr.heap HM9.out (fun h => h))
        have HB9 := hid hB
        clear hw9 hfr hB S9 HM9 HZ1 hbs
        go_upto_region 19 with (first | (refine wpList_load_row_w (by kernel_rfl) 27 (.tmp 11) (by with_reducible rfl) bs (by kernel_rfl) _ _ _ _ HB9.out Tryz.underlying27 rfl (by kernel_rfl) ?_) | (refine wpList_store_at (by kernel_rfl) 27 (.tmp 56) (.tmp 55) (by with_reducible rfl) bm 2 (by kernel_rfl) #[.int .i64 r.k, .int .i64 r.e, .int .i64 r.w, .int .i64 r.n, .int .i64 r.q, .string r.t, .int .i64 r.p.s0, .int .i64 r.p.s1, .int .i64 r.p.s2, .int .i64 r.p.s3, .int .i64 r.p.s4, .int .i64 r.p.s5, .int .i64 r.p.s6, .int .i64 r.p.s7, .int .i64 r.p.s8, .int .i64 r.p.s9, .int .i64 r.p.s10, .int .i64 r.p.s11] (by kernel_rfl) _ _ HM9b.out (by kernel_rfl) (by simp) (by simp [Value.oneCell']) ?_; intro w10 hh hp; have HM10 : Hid (w10.heap[bm]? = some (.cells #[.int .i64 k0, .int .i64 e0, .int .i64 r.k, .int .i64 r.e, .int .i64 r.w, .int .i64 r.n, .int .i64 r.q, .string r.t, .int .i64 r.p.s0, .int .i64 r.p.s1, .int .i64 r.p.s2, .int .i64 r.p.s3, .int .i64 r.p.s4, .int .i64 r.p.s5, .int .i64 r.p.s6, .int .i64 r.p.s7, .int .i64 r.p.s8, .int .i64 r.p.s9, .int .i64 r.p.s10, .int .i64 r.p.s11, .int .i64 0, .int .i64 0, .int .i64 0, .int .i64 0, .int .i64 0, .int .i64 0] 31 (0, 0))) := putL_heap hh (by kernel_rfl); have HP10 := hid hp; clear hh hp))
        have S10 := hid (S9b.out.stepX HP10.out)
        clear HP10 S9b HM9b HB9
        obtain ⟨c, HC⟩ : ∃ c, Hid (candO didFr s = c) := ⟨_, rfl⟩
        have hcc : c = ⟨k0, e0, r, Mg.zero⟩ := by rw [← HC.out, HCQ.out]
        have HMC : Hid (w10.heap[bm]? = some (.cells #[.int .i64 c.d, .int .i64 c.e, .int .i64 c.r.k, .int .i64 c.r.e, .int .i64 c.r.w, .int .i64 c.r.n, .int .i64 c.r.q, .string c.r.t, .int .i64 c.r.p.s0, .int .i64 c.r.p.s1, .int .i64 c.r.p.s2, .int .i64 c.r.p.s3, .int .i64 c.r.p.s4, .int .i64 c.r.p.s5, .int .i64 c.r.p.s6, .int .i64 c.r.p.s7, .int .i64 c.r.p.s8, .int .i64 c.r.p.s9, .int .i64 c.r.p.s10, .int .i64 c.r.p.s11, .int .i64 c.m.k, .int .i64 c.m.e, .int .i64 c.m.s, .int .i64 c.m.u, .int .i64 c.m.v, .int .i64 c.m.t] 31 (0, 0))) := hid (by rw [hcc]; exact HM10.out)
        have HV : Hid (c.val = .agg #[.int .i64 c.d, .int .i64 c.e, .int .i64 c.r.k, .int .i64 c.r.e, .int .i64 c.r.w, .int .i64 c.r.n, .int .i64 c.r.q, .string c.r.t, .int .i64 c.r.p.s0, .int .i64 c.r.p.s1, .int .i64 c.r.p.s2, .int .i64 c.r.p.s3, .int .i64 c.r.p.s4, .int .i64 c.r.p.s5, .int .i64 c.r.p.s6, .int .i64 c.r.p.s7, .int .i64 c.r.p.s8, .int .i64 c.r.p.s9, .int .i64 c.r.p.s10, .int .i64 c.r.p.s11, .int .i64 c.m.k, .int .i64 c.m.e, .int .i64 c.m.s, .int .i64 c.m.u, .int .i64 c.m.v, .int .i64 c.m.t]) := rfl
        have HFI : Hid c.r.fine := hid (by rw [← HC.out]; exact HFIN.out)
        obtain ⟨y, HY⟩ : ∃ y, Hid (lineS c = y) := ⟨_, rfl⟩
        have HRR : Hid (R = if accB y s = true then (c, 0) else (Ot.zero, 2)) := hid (by rw [← HR.out, ← parF_r, ← HY.out, ← HC.out]; rfl)
        clear hcc HM10 HCQ HC HFIN
        go_wp2_with (refine wpList_load_row_w (by kernel_rfl) 31 (.tmp 5) (by with_reducible rfl) bm (by kernel_rfl) _ _ _ _ HMC.out Tryz.underlying31 rfl (by kernel_rfl) ?_)
        rw [← HV.out]
        refine (rline_calls c _ HFI.out).mono ?_
        rintro _ w11 ⟨rfl, hf⟩
        rw [HY.out]
        have S11 := hid (S10.out.step hf)
        have HM11 := hid (hf.heap HMC.out (fun h => h))
        clear hf S10 HMC
        by_cases hE : y.toList.isEmpty = true
        · have HRZ : Hid (R = (Ot.zero, 2)) := hid (by rw [HRR.out, if_neg (by rw [accB_iff]; intro h; rw [h.1] at hE; cases hE)])
          go_wp2_with (refine wpList_store_row rfl 31 (.tmp 2) (.tmp 76) (by with_reducible rfl) r0 #[.int .i64 0, .int .i64 0, .int .i64 0, .int .i64 0, .int .i64 0, .int .i64 0, .int .i64 0, .string ⟨#[]⟩, .int .i64 0, .int .i64 0, .int .i64 0, .int .i64 0, .int .i64 0, .int .i64 0, .int .i64 0, .int .i64 0, .int .i64 0, .int .i64 0, .int .i64 0, .int .i64 0, .int .i64 0, .int .i64 0, .int .i64 0, .int .i64 0, .int .i64 0, .int .i64 0] (by kernel_rfl) (by kernel_rfl) _ _ S11.out.now.1 (by kernel_rfl) (by rfl) (by simp [Value.oneCell']) ?_)
          refine bodyPost_ret (results_cell_slot (by rfl) _ _ r0 _ _ _ _ _ rfl rfl (setRow_heap _ _ _ _ _ _ S11.out.now.1) Tryz.underlying31 rfl (by kernel_rfl)) rfl ⟨by rw [HRZ.out]; rfl, S11.out.now.2.setRow _ _ (by have := HR0.out; omega)⟩
        · have hE' : y.toList.isEmpty = false := by simpa using hE
          by_cases hq : y = s
          · have HRZ : Hid (R = (c, 0)) := hid (by rw [HRR.out, if_pos (accB_iff.2 ⟨hE', hq⟩)])
            have hq' : (y.toList == s.toList) = true := by rw [hq]; simp
            clear hE hq
            go_wp2_with (first | (refine wpList_load_row_w (by kernel_rfl) 31 (.tmp 5) (by with_reducible rfl) bm (by kernel_rfl) _ _ _ _ HM11.out Tryz.underlying31 rfl (by kernel_rfl) ?_) | (refine wpList_store_row rfl 31 (.tmp 2) (.tmp 77) (by with_reducible rfl) r0 #[.int .i64 c.d, .int .i64 c.e, .int .i64 c.r.k, .int .i64 c.r.e, .int .i64 c.r.w, .int .i64 c.r.n, .int .i64 c.r.q, .string c.r.t, .int .i64 c.r.p.s0, .int .i64 c.r.p.s1, .int .i64 c.r.p.s2, .int .i64 c.r.p.s3, .int .i64 c.r.p.s4, .int .i64 c.r.p.s5, .int .i64 c.r.p.s6, .int .i64 c.r.p.s7, .int .i64 c.r.p.s8, .int .i64 c.r.p.s9, .int .i64 c.r.p.s10, .int .i64 c.r.p.s11, .int .i64 c.m.k, .int .i64 c.m.e, .int .i64 c.m.s, .int .i64 c.m.u, .int .i64 c.m.v, .int .i64 c.m.t] (by kernel_rfl) (by kernel_rfl) _ _ S11.out.now.1 (by kernel_rfl) (by rfl) (by simp [Value.oneCell']) ?_))
            refine bodyPost_ret (results_cell_slot (by rfl) _ _ r0 _ _ _ _ _ rfl rfl (setRow_heap _ _ _ _ _ _ S11.out.now.1) Tryz.underlying31 rfl (by kernel_rfl)) rfl ⟨by rw [HRZ.out]; rfl, S11.out.now.2.setRow _ _ (by have := HR0.out; omega)⟩
          · have HRZ : Hid (R = (Ot.zero, 2)) := hid (by rw [HRR.out, if_neg (by rw [accB_iff]; intro h; exact hq h.2)])
            have hq' : (y.toList == s.toList) = false := by
              rw [beq_eq_false_iff_ne]; intro h; exact hq ((Go.Lib.bytes_beq_iff y s).1 (by simp [h]))
            clear hE hq
            go_wp2_with (refine wpList_store_row rfl 31 (.tmp 2) (.tmp 76) (by with_reducible rfl) r0 #[.int .i64 0, .int .i64 0, .int .i64 0, .int .i64 0, .int .i64 0, .int .i64 0, .int .i64 0, .string ⟨#[]⟩, .int .i64 0, .int .i64 0, .int .i64 0, .int .i64 0, .int .i64 0, .int .i64 0, .int .i64 0, .int .i64 0, .int .i64 0, .int .i64 0, .int .i64 0, .int .i64 0, .int .i64 0, .int .i64 0, .int .i64 0, .int .i64 0, .int .i64 0, .int .i64 0] (by kernel_rfl) (by kernel_rfl) _ _ S11.out.now.1 (by kernel_rfl) (by rfl) (by simp [Value.oneCell']) ?_)
            refine bodyPost_ret (results_cell_slot (by rfl) _ _ r0 _ _ _ _ _ rfl rfl (setRow_heap _ _ _ _ _ _ S11.out.now.1) Tryz.underlying31 rfl (by kernel_rfl)) rfl ⟨by rw [HRZ.out]; rfl, S11.out.now.2.setRow _ _ (by have := HR0.out; omega)⟩
      have hb1 : (k0 == 1) = false := by simp [h1]
      by_cases h2 : (1 : Int) < k0
      · have hb2 : decide ((1 : Int) < k0) = true := decide_eq_true h2
        have HC1 : Hid (candO didFr s = ⟨k0, e0, Rc.zero, (msgF t).1⟩) := hid (by rw [HCA.out, if_neg h1, if_pos (by have := HK03.out; omega)])
        have hn1 : ¬ k0 = 1 := h1
        go_wp2_with fail
        refine (rmessage_calls t _ (by have := HTS.out; omega)).mono ?_
        rintro _ w9 ⟨rfl, hf⟩
        have S9 := hid (S8.out.step hf)
        have HM9 := hid (hf.heap HM8.out (fun h => h))
        clear hf S8 HM8 hb1 hb2 c00 h1 h2 hn1
        obtain ⟨m, hm⟩ : ∃ m, m = (msgF t).1 := ⟨_, rfl⟩
        obtain ⟨q2, hq2⟩ : ∃ q, q = (msgF t).2 := ⟨_, rfl⟩
        have HCQ : Hid (candO didFr s = ⟨k0, e0, Rc.zero, m⟩) := hid (by rw [HC1.out, hm])
        have HVM : Hid (m.val = .agg #[.int .i64 m.k, .int .i64 m.e, .int .i64 m.s, .int .i64 m.u, .int .i64 m.v, .int .i64 m.t]) := rfl
        rw [← hm, ← hq2, HVM.out]
        clear hm hq2 HC1
        obtain ⟨bs, hbs⟩ : ∃ x, x = w9.heap.size := ⟨_, rfl⟩
        have HZ1 := hid (new1 w9 (.cells #[.int .i64 0, .int .i64 0, .int .i64 0, .int .i64 0, .int .i64 0, .int .i64 0] 29))
        go_upto_region 18 with (refine wpList_store_row rfl 29 (.tmp 13) (.tmp 63) (by with_reducible rfl) w9.heap.size #[.int .i64 m.k, .int .i64 m.e, .int .i64 m.s, .int .i64 m.u, .int .i64 m.v, .int .i64 m.t] (by kernel_rfl) (by kernel_rfl) _ _ HZ1.out (by kernel_rfl) (by rfl) (by simp [Value.oneCell']) ?_)
        have hfr := ((Frm.refl M0 w9).alloc (.cells #[.int .i64 0, .int .i64 0, .int .i64 0, .int .i64 0, .int .i64 0, .int .i64 0] 29)).setRow w9.heap.size #[.int .i64 m.k, .int .i64 m.e, .int .i64 m.s, .int .i64 m.u, .int .i64 m.v, .int .i64 m.t] (Nat.le_refl _)
        have hB := setRow_heap _ w9.heap.size _ #[.int .i64 m.k, .int .i64 m.e, .int .i64 m.s, .int .i64 m.u, .int .i64 m.v, .int .i64 m.t] _ _ HZ1.out
        obtain ⟨w9b, hw9⟩ : ∃ x, x = (w9.alloc (.cells #[.int .i64 0, .int .i64 0, .int .i64 0, .int .i64 0, .int .i64 0, .int .i64 0] 29)).setRow w9.heap.size #[.int .i64 m.k, .int .i64 m.e, .int .i64 m.s, .int .i64 m.u, .int .i64 m.v, .int .i64 m.t] := ⟨_, rfl⟩
        rw [← hw9] at hfr hB ⊢
        rw [← hbs] at hB ⊢
        have S9b := hid (S9.out.step hfr)
        have HM9b := hid (hfr.heap HM9.out (fun h => h))
        have HB9 := hid hB
        clear hw9 hfr hB S9 HM9 HZ1 hbs
        go_upto_region 19 with (first | (refine wpList_load_row_w (by kernel_rfl) 29 (.tmp 13) (by with_reducible rfl) bs (by kernel_rfl) _ _ _ _ HB9.out Tryz.underlying29 rfl (by kernel_rfl) ?_) | (refine wpList_store_at (by kernel_rfl) 29 (.tmp 66) (.tmp 65) (by with_reducible rfl) bm 20 (by kernel_rfl) #[.int .i64 m.k, .int .i64 m.e, .int .i64 m.s, .int .i64 m.u, .int .i64 m.v, .int .i64 m.t] (by kernel_rfl) _ _ HM9b.out (by kernel_rfl) (by simp) (by simp [Value.oneCell']) ?_; intro w10 hh hp; have HM10 : Hid (w10.heap[bm]? = some (.cells #[.int .i64 k0, .int .i64 e0, .int .i64 0, .int .i64 0, .int .i64 0, .int .i64 0, .int .i64 0, .string ⟨#[]⟩, .int .i64 0, .int .i64 0, .int .i64 0, .int .i64 0, .int .i64 0, .int .i64 0, .int .i64 0, .int .i64 0, .int .i64 0, .int .i64 0, .int .i64 0, .int .i64 0, .int .i64 m.k, .int .i64 m.e, .int .i64 m.s, .int .i64 m.u, .int .i64 m.v, .int .i64 m.t] 31 (0, 0))) := putL_heap hh (by kernel_rfl); have HP10 := hid hp; clear hh hp))
        have S10 := hid (S9b.out.stepX HP10.out)
        clear HP10 S9b HM9b HB9
        obtain ⟨c, HC⟩ : ∃ c, Hid (candO didFr s = c) := ⟨_, rfl⟩
        have hcc : c = ⟨k0, e0, Rc.zero, m⟩ := by rw [← HC.out, HCQ.out]
        have HMC : Hid (w10.heap[bm]? = some (.cells #[.int .i64 c.d, .int .i64 c.e, .int .i64 c.r.k, .int .i64 c.r.e, .int .i64 c.r.w, .int .i64 c.r.n, .int .i64 c.r.q, .string c.r.t, .int .i64 c.r.p.s0, .int .i64 c.r.p.s1, .int .i64 c.r.p.s2, .int .i64 c.r.p.s3, .int .i64 c.r.p.s4, .int .i64 c.r.p.s5, .int .i64 c.r.p.s6, .int .i64 c.r.p.s7, .int .i64 c.r.p.s8, .int .i64 c.r.p.s9, .int .i64 c.r.p.s10, .int .i64 c.r.p.s11, .int .i64 c.m.k, .int .i64 c.m.e, .int .i64 c.m.s, .int .i64 c.m.u, .int .i64 c.m.v, .int .i64 c.m.t] 31 (0, 0))) := hid (by rw [hcc]; exact HM10.out)
        have HV : Hid (c.val = .agg #[.int .i64 c.d, .int .i64 c.e, .int .i64 c.r.k, .int .i64 c.r.e, .int .i64 c.r.w, .int .i64 c.r.n, .int .i64 c.r.q, .string c.r.t, .int .i64 c.r.p.s0, .int .i64 c.r.p.s1, .int .i64 c.r.p.s2, .int .i64 c.r.p.s3, .int .i64 c.r.p.s4, .int .i64 c.r.p.s5, .int .i64 c.r.p.s6, .int .i64 c.r.p.s7, .int .i64 c.r.p.s8, .int .i64 c.r.p.s9, .int .i64 c.r.p.s10, .int .i64 c.r.p.s11, .int .i64 c.m.k, .int .i64 c.m.e, .int .i64 c.m.s, .int .i64 c.m.u, .int .i64 c.m.v, .int .i64 c.m.t]) := rfl
        have HFI : Hid c.r.fine := hid (by rw [← HC.out]; exact HFIN.out)
        obtain ⟨y, HY⟩ : ∃ y, Hid (lineS c = y) := ⟨_, rfl⟩
        have HRR : Hid (R = if accB y s = true then (c, 0) else (Ot.zero, 2)) := hid (by rw [← HR.out, ← parF_r, ← HY.out, ← HC.out]; rfl)
        clear hcc HM10 HCQ HC HFIN
        go_wp2_with (refine wpList_load_row_w (by kernel_rfl) 31 (.tmp 5) (by with_reducible rfl) bm (by kernel_rfl) _ _ _ _ HMC.out Tryz.underlying31 rfl (by kernel_rfl) ?_)
        rw [← HV.out]
        refine (rline_calls c _ HFI.out).mono ?_
        rintro _ w11 ⟨rfl, hf⟩
        rw [HY.out]
        have S11 := hid (S10.out.step hf)
        have HM11 := hid (hf.heap HMC.out (fun h => h))
        clear hf S10 HMC
        by_cases hE : y.toList.isEmpty = true
        · have HRZ : Hid (R = (Ot.zero, 2)) := hid (by rw [HRR.out, if_neg (by rw [accB_iff]; intro h; rw [h.1] at hE; cases hE)])
          go_wp2_with (refine wpList_store_row rfl 31 (.tmp 2) (.tmp 76) (by with_reducible rfl) r0 #[.int .i64 0, .int .i64 0, .int .i64 0, .int .i64 0, .int .i64 0, .int .i64 0, .int .i64 0, .string ⟨#[]⟩, .int .i64 0, .int .i64 0, .int .i64 0, .int .i64 0, .int .i64 0, .int .i64 0, .int .i64 0, .int .i64 0, .int .i64 0, .int .i64 0, .int .i64 0, .int .i64 0, .int .i64 0, .int .i64 0, .int .i64 0, .int .i64 0, .int .i64 0, .int .i64 0] (by kernel_rfl) (by kernel_rfl) _ _ S11.out.now.1 (by kernel_rfl) (by rfl) (by simp [Value.oneCell']) ?_)
          refine bodyPost_ret (results_cell_slot (by rfl) _ _ r0 _ _ _ _ _ rfl rfl (setRow_heap _ _ _ _ _ _ S11.out.now.1) Tryz.underlying31 rfl (by kernel_rfl)) rfl ⟨by rw [HRZ.out]; rfl, S11.out.now.2.setRow _ _ (by have := HR0.out; omega)⟩
        · have hE' : y.toList.isEmpty = false := by simpa using hE
          by_cases hq : y = s
          · have HRZ : Hid (R = (c, 0)) := hid (by rw [HRR.out, if_pos (accB_iff.2 ⟨hE', hq⟩)])
            have hq' : (y.toList == s.toList) = true := by rw [hq]; simp
            clear hE hq
            go_wp2_with (first | (refine wpList_load_row_w (by kernel_rfl) 31 (.tmp 5) (by with_reducible rfl) bm (by kernel_rfl) _ _ _ _ HM11.out Tryz.underlying31 rfl (by kernel_rfl) ?_) | (refine wpList_store_row rfl 31 (.tmp 2) (.tmp 77) (by with_reducible rfl) r0 #[.int .i64 c.d, .int .i64 c.e, .int .i64 c.r.k, .int .i64 c.r.e, .int .i64 c.r.w, .int .i64 c.r.n, .int .i64 c.r.q, .string c.r.t, .int .i64 c.r.p.s0, .int .i64 c.r.p.s1, .int .i64 c.r.p.s2, .int .i64 c.r.p.s3, .int .i64 c.r.p.s4, .int .i64 c.r.p.s5, .int .i64 c.r.p.s6, .int .i64 c.r.p.s7, .int .i64 c.r.p.s8, .int .i64 c.r.p.s9, .int .i64 c.r.p.s10, .int .i64 c.r.p.s11, .int .i64 c.m.k, .int .i64 c.m.e, .int .i64 c.m.s, .int .i64 c.m.u, .int .i64 c.m.v, .int .i64 c.m.t] (by kernel_rfl) (by kernel_rfl) _ _ S11.out.now.1 (by kernel_rfl) (by rfl) (by simp [Value.oneCell']) ?_))
            refine bodyPost_ret (results_cell_slot (by rfl) _ _ r0 _ _ _ _ _ rfl rfl (setRow_heap _ _ _ _ _ _ S11.out.now.1) Tryz.underlying31 rfl (by kernel_rfl)) rfl ⟨by rw [HRZ.out]; rfl, S11.out.now.2.setRow _ _ (by have := HR0.out; omega)⟩
          · have HRZ : Hid (R = (Ot.zero, 2)) := hid (by rw [HRR.out, if_neg (by rw [accB_iff]; intro h; exact hq h.2)])
            have hq' : (y.toList == s.toList) = false := by
              rw [beq_eq_false_iff_ne]; intro h; exact hq ((Go.Lib.bytes_beq_iff y s).1 (by simp [h]))
            clear hE hq
            go_wp2_with (refine wpList_store_row rfl 31 (.tmp 2) (.tmp 76) (by with_reducible rfl) r0 #[.int .i64 0, .int .i64 0, .int .i64 0, .int .i64 0, .int .i64 0, .int .i64 0, .int .i64 0, .string ⟨#[]⟩, .int .i64 0, .int .i64 0, .int .i64 0, .int .i64 0, .int .i64 0, .int .i64 0, .int .i64 0, .int .i64 0, .int .i64 0, .int .i64 0, .int .i64 0, .int .i64 0, .int .i64 0, .int .i64 0, .int .i64 0, .int .i64 0, .int .i64 0, .int .i64 0] (by kernel_rfl) (by kernel_rfl) _ _ S11.out.now.1 (by kernel_rfl) (by rfl) (by simp [Value.oneCell']) ?_)
            refine bodyPost_ret (results_cell_slot (by rfl) _ _ r0 _ _ _ _ _ rfl rfl (setRow_heap _ _ _ _ _ _ S11.out.now.1) Tryz.underlying31 rfl (by kernel_rfl)) rfl ⟨by rw [HRZ.out]; rfl, S11.out.now.2.setRow _ _ (by have := HR0.out; omega)⟩
      · have hb2 : decide ((1 : Int) < k0) = false := decide_eq_false h2
        have HCQ : Hid (candO didFr s = ⟨k0, e0, Rc.zero, Mg.zero⟩) := hid (by rw [HCA.out, if_neg h1, if_neg (by omega)])
        go_upto_region 19 with fail
        obtain ⟨w10, hw10⟩ : ∃ x, x = w8 := ⟨_, rfl⟩
        have HM10 := HM8
        have S10 := S8
        rw [← hw10] at HM10 S10 ⊢
        clear hw10 c00 S8 HM8 hb1 hb2 h1 h2
        obtain ⟨c, HC⟩ : ∃ c, Hid (candO didFr s = c) := ⟨_, rfl⟩
        have hcc : c = ⟨k0, e0, Rc.zero, Mg.zero⟩ := by rw [← HC.out, HCQ.out]
        have HMC : Hid (w10.heap[bm]? = some (.cells #[.int .i64 c.d, .int .i64 c.e, .int .i64 c.r.k, .int .i64 c.r.e, .int .i64 c.r.w, .int .i64 c.r.n, .int .i64 c.r.q, .string c.r.t, .int .i64 c.r.p.s0, .int .i64 c.r.p.s1, .int .i64 c.r.p.s2, .int .i64 c.r.p.s3, .int .i64 c.r.p.s4, .int .i64 c.r.p.s5, .int .i64 c.r.p.s6, .int .i64 c.r.p.s7, .int .i64 c.r.p.s8, .int .i64 c.r.p.s9, .int .i64 c.r.p.s10, .int .i64 c.r.p.s11, .int .i64 c.m.k, .int .i64 c.m.e, .int .i64 c.m.s, .int .i64 c.m.u, .int .i64 c.m.v, .int .i64 c.m.t] 31 (0, 0))) := hid (by rw [hcc]; exact HM10.out)
        have HV : Hid (c.val = .agg #[.int .i64 c.d, .int .i64 c.e, .int .i64 c.r.k, .int .i64 c.r.e, .int .i64 c.r.w, .int .i64 c.r.n, .int .i64 c.r.q, .string c.r.t, .int .i64 c.r.p.s0, .int .i64 c.r.p.s1, .int .i64 c.r.p.s2, .int .i64 c.r.p.s3, .int .i64 c.r.p.s4, .int .i64 c.r.p.s5, .int .i64 c.r.p.s6, .int .i64 c.r.p.s7, .int .i64 c.r.p.s8, .int .i64 c.r.p.s9, .int .i64 c.r.p.s10, .int .i64 c.r.p.s11, .int .i64 c.m.k, .int .i64 c.m.e, .int .i64 c.m.s, .int .i64 c.m.u, .int .i64 c.m.v, .int .i64 c.m.t]) := rfl
        have HFI : Hid c.r.fine := hid (by rw [← HC.out]; exact HFIN.out)
        obtain ⟨y, HY⟩ : ∃ y, Hid (lineS c = y) := ⟨_, rfl⟩
        have HRR : Hid (R = if accB y s = true then (c, 0) else (Ot.zero, 2)) := hid (by rw [← HR.out, ← parF_r, ← HY.out, ← HC.out]; rfl)
        clear hcc HM10 HCQ HC HFIN
        go_wp2_with (refine wpList_load_row_w (by kernel_rfl) 31 (.tmp 5) (by with_reducible rfl) bm (by kernel_rfl) _ _ _ _ HMC.out Tryz.underlying31 rfl (by kernel_rfl) ?_)
        rw [← HV.out]
        refine (rline_calls c _ HFI.out).mono ?_
        rintro _ w11 ⟨rfl, hf⟩
        rw [HY.out]
        have S11 := hid (S10.out.step hf)
        have HM11 := hid (hf.heap HMC.out (fun h => h))
        clear hf S10 HMC
        by_cases hE : y.toList.isEmpty = true
        · have HRZ : Hid (R = (Ot.zero, 2)) := hid (by rw [HRR.out, if_neg (by rw [accB_iff]; intro h; rw [h.1] at hE; cases hE)])
          go_wp2_with (refine wpList_store_row rfl 31 (.tmp 2) (.tmp 76) (by with_reducible rfl) r0 #[.int .i64 0, .int .i64 0, .int .i64 0, .int .i64 0, .int .i64 0, .int .i64 0, .int .i64 0, .string ⟨#[]⟩, .int .i64 0, .int .i64 0, .int .i64 0, .int .i64 0, .int .i64 0, .int .i64 0, .int .i64 0, .int .i64 0, .int .i64 0, .int .i64 0, .int .i64 0, .int .i64 0, .int .i64 0, .int .i64 0, .int .i64 0, .int .i64 0, .int .i64 0, .int .i64 0] (by kernel_rfl) (by kernel_rfl) _ _ S11.out.now.1 (by kernel_rfl) (by rfl) (by simp [Value.oneCell']) ?_)
          refine bodyPost_ret (results_cell_slot (by rfl) _ _ r0 _ _ _ _ _ rfl rfl (setRow_heap _ _ _ _ _ _ S11.out.now.1) Tryz.underlying31 rfl (by kernel_rfl)) rfl ⟨by rw [HRZ.out]; rfl, S11.out.now.2.setRow _ _ (by have := HR0.out; omega)⟩
        · have hE' : y.toList.isEmpty = false := by simpa using hE
          by_cases hq : y = s
          · have HRZ : Hid (R = (c, 0)) := hid (by rw [HRR.out, if_pos (accB_iff.2 ⟨hE', hq⟩)])
            have hq' : (y.toList == s.toList) = true := by rw [hq]; simp
            clear hE hq
            go_wp2_with (first | (refine wpList_load_row_w (by kernel_rfl) 31 (.tmp 5) (by with_reducible rfl) bm (by kernel_rfl) _ _ _ _ HM11.out Tryz.underlying31 rfl (by kernel_rfl) ?_) | (refine wpList_store_row rfl 31 (.tmp 2) (.tmp 77) (by with_reducible rfl) r0 #[.int .i64 c.d, .int .i64 c.e, .int .i64 c.r.k, .int .i64 c.r.e, .int .i64 c.r.w, .int .i64 c.r.n, .int .i64 c.r.q, .string c.r.t, .int .i64 c.r.p.s0, .int .i64 c.r.p.s1, .int .i64 c.r.p.s2, .int .i64 c.r.p.s3, .int .i64 c.r.p.s4, .int .i64 c.r.p.s5, .int .i64 c.r.p.s6, .int .i64 c.r.p.s7, .int .i64 c.r.p.s8, .int .i64 c.r.p.s9, .int .i64 c.r.p.s10, .int .i64 c.r.p.s11, .int .i64 c.m.k, .int .i64 c.m.e, .int .i64 c.m.s, .int .i64 c.m.u, .int .i64 c.m.v, .int .i64 c.m.t] (by kernel_rfl) (by kernel_rfl) _ _ S11.out.now.1 (by kernel_rfl) (by rfl) (by simp [Value.oneCell']) ?_))
            refine bodyPost_ret (results_cell_slot (by rfl) _ _ r0 _ _ _ _ _ rfl rfl (setRow_heap _ _ _ _ _ _ S11.out.now.1) Tryz.underlying31 rfl (by kernel_rfl)) rfl ⟨by rw [HRZ.out]; rfl, S11.out.now.2.setRow _ _ (by have := HR0.out; omega)⟩
          · have HRZ : Hid (R = (Ot.zero, 2)) := hid (by rw [HRR.out, if_neg (by rw [accB_iff]; intro h; exact hq h.2)])
            have hq' : (y.toList == s.toList) = false := by
              rw [beq_eq_false_iff_ne]; intro h; exact hq ((Go.Lib.bytes_beq_iff y s).1 (by simp [h]))
            clear hE hq
            go_wp2_with (refine wpList_store_row rfl 31 (.tmp 2) (.tmp 76) (by with_reducible rfl) r0 #[.int .i64 0, .int .i64 0, .int .i64 0, .int .i64 0, .int .i64 0, .int .i64 0, .int .i64 0, .string ⟨#[]⟩, .int .i64 0, .int .i64 0, .int .i64 0, .int .i64 0, .int .i64 0, .int .i64 0, .int .i64 0, .int .i64 0, .int .i64 0, .int .i64 0, .int .i64 0, .int .i64 0, .int .i64 0, .int .i64 0, .int .i64 0, .int .i64 0, .int .i64 0, .int .i64 0] (by kernel_rfl) (by kernel_rfl) _ _ S11.out.now.1 (by kernel_rfl) (by rfl) (by simp [Value.oneCell']) ?_)
            refine bodyPost_ret (results_cell_slot (by rfl) _ _ r0 _ _ _ _ _ rfl rfl (setRow_heap _ _ _ _ _ _ S11.out.now.1) Tryz.underlying31 rfl (by kernel_rfl)) rfl ⟨by rw [HRZ.out]; rfl, S11.out.now.2.setRow _ _ (by have := HR0.out; omega)⟩
end Go.Proofs.YtonlmkcolndaaaaGreatDoor
namespace Go.Proofs.YtonlmkcolndaaaaGreatDoor
set_option linter.unusedVariables false
set_option linter.unusedSimpArgs false
set_option maxRecDepth 20000
open Go.RowKit

def lifeR : Rc := ⟨6, 1, 0, 0, 1, ⟨#[]⟩, Sp.zero⟩
def lifeO : Ot := ⟨1, 0, lifeR, Mg.zero⟩
def lifeS : ByteArray := ⟨#[99, 111, 109, 109, 105, 116, 116, 101, 100, 32, 111, 107, 32, 97, 99, 107, 32, 49, 32, 48, 32, 48, 32, 49]⟩
theorem itoa_0 : Lib.itoa 0 = [48] := by
  unfold Lib.itoa
  rw [if_neg (by omega), show (0 : Int).toNat = 0 from rfl, Lib.decDigits]; rfl
theorem itoa_1 : Lib.itoa 1 = [49] := by
  unfold Lib.itoa
  rw [if_neg (by omega), show (1 : Int).toNat = 1 from rfl, Lib.decDigits]; rfl
theorem life_right : rightB lifeR = true := by decide +kernel
theorem life_words : (wordsS lifeR).data.toList = [97, 99, 107, 32, 49, 32, 48, 32, 48, 32, 49] := by
  unfold wordsS
  rw [if_pos life_right, joinS_data]
  have e : (partsA lifeR ++ partsT lifeR ++ partsP lifeR).map (·.data.toList) = [97, 99, 107] :: [1, 0, 0, 1].map Lib.itoa := by
    have h1 : partsT lifeR = [] := by unfold partsT; rw [if_pos (show lifeR.t.toList.isEmpty = true from empty_isE)]
    have h2 : partsP lifeR = [] := by unfold partsP; rw [if_neg (by decide)]
    rw [h1, h2, List.append_nil, List.append_nil]
    unfold partsA
    rw [List.map_cons, words_list]; rfl
  rw [e]
  simp only [List.map_cons, List.map_nil, itoa_0, itoa_1]
  rfl
theorem life_lineB : lineB lifeO = true := by
  rw [lineB_iff]
  refine ⟨by decide, by decide, ?_⟩
  unfold moreB
  rw [if_neg (by decide), if_pos (show lifeO.d = 1 from rfl), show lifeO.r = lifeR from rfl, words_some life_right]; rfl
theorem life_line : lineS lifeO = lifeS := by
  apply bya
  unfold lineS
  rw [if_pos life_lineB, joinS_data]
  show Lib.join [(didW 1).data.toList, (wordE 0).data.toList, (wordsS lifeR).data.toList] [32] = _
  rw [life_words]
  rfl
theorem life_par : parF lifeS = (lifeO, 0) := by
  rw [← life_line]
  exact parF_back life_lineB (fun _ => by
    intro x hx
    simp only [Rc.four, lifeO, lifeR, List.mem_cons, List.not_mem_nil, or_false] at hx
    omega)
def lostS : ByteArray := ⟨#[108, 111, 115, 116]⟩
theorem word_lost : wordE 13 = lostS := rfl

set_option maxRecDepth 20000 in
set_option maxHeartbeats 8000000 in
theorem tlives_calls (w : World) (hg : Glob w) : Calls Tryz.prog 8 #[] w fun x w' => x = .returned (.bool true) ∧ Frm M0 w w' := by
  have HG := hid hg
  have HV : Hid (lifeO.val = .agg #[.int .i64 1, .int .i64 0, .int .i64 6, .int .i64 1, .int .i64 0, .int .i64 0, .int .i64 1, .string ⟨#[]⟩, .int .i64 0, .int .i64 0, .int .i64 0, .int .i64 0, .int .i64 0, .int .i64 0, .int .i64 0, .int .i64 0, .int .i64 0, .int .i64 0, .int .i64 0, .int .i64 0, .int .i64 0, .int .i64 0, .int .i64 0, .int .i64 0, .int .i64 0, .int .i64 0]) := rfl
  have HFI : lifeO.r.fine := right_fine life_right
  have HC1 := hid (tline_calls lifeO w hg.tab HFI)
  rw [life_line] at HC1
  have HC2 : Hid (∀ wx, Glob wx → Calls Tryz.prog 16 #[.string lifeS] wx fun x w' => x = .returned (.tuple #[lifeO.val, .int .i64 0]) ∧ Frm M0 wx w') := hid (fun wx hx => by
    have h := tparse_calls lifeS wx (by decide) hx
    rw [life_par] at h; exact h)
  have HC3 : Hid (∀ wx, Calls Tryz.prog 14 #[.int .i64 13] wx fun x w' => x = .returned (.string lostS) ∧ Frm M0 wx w') := hid (fun wx => by
    have h := tword_calls 13 wx
    rw [word_lost] at h; exact h)
  clear hg HFI
  go_enter Tryz.func8, Tryz.ntmps8
  go_wp2_with fail
  rw [← HV.out]
  refine HC1.out.mono ?_
  rintro _ w1 ⟨rfl, hf⟩
  have HF1 := hid hf
  clear hf HC1
  go_wp2_with fail
  refine (HC2.out _ (HG.out.frm HF1.out)).mono ?_
  rintro _ w2 ⟨rfl, hf⟩
  have S2 : Hid (Sb M0 w2 fun x => Frm M0 w x) := hid (Sb.frm (HF1.out.then0 hf))
  clear hf HF1 HC2
  rw [HV.out]
  have HZb := hid (new1 w2 (.cells #[.int .i64 0, .int .i64 0, .int .i64 0, .int .i64 0, .int .i64 0, .int .i64 0, .int .i64 0, .string ⟨#[]⟩, .int .i64 0, .int .i64 0, .int .i64 0, .int .i64 0, .int .i64 0, .int .i64 0, .int .i64 0, .int .i64 0, .int .i64 0, .int .i64 0, .int .i64 0, .int .i64 0, .int .i64 0, .int .i64 0, .int .i64 0, .int .i64 0, .int .i64 0, .int .i64 0] 35))
  go_upto_region 3 with (refine wpList_store_row rfl 35 (.tmp 2) (.tmp 10) (by with_reducible rfl) w2.heap.size #[.int .i64 1, .int .i64 0, .int .i64 6, .int .i64 1, .int .i64 0, .int .i64 0, .int .i64 1, .string ⟨#[]⟩, .int .i64 0, .int .i64 0, .int .i64 0, .int .i64 0, .int .i64 0, .int .i64 0, .int .i64 0, .int .i64 0, .int .i64 0, .int .i64 0, .int .i64 0, .int .i64 0, .int .i64 0, .int .i64 0, .int .i64 0, .int .i64 0, .int .i64 0, .int .i64 0] (by kernel_rfl) (by kernel_rfl) _ _ HZb.out (by kernel_rfl) (by rfl) (by simp [Value.oneCell']) ?_)
  have hfr := ((Frm.refl M0 w2).alloc (.cells #[.int .i64 0, .int .i64 0, .int .i64 0, .int .i64 0, .int .i64 0, .int .i64 0, .int .i64 0, .string ⟨#[]⟩, .int .i64 0, .int .i64 0, .int .i64 0, .int .i64 0, .int .i64 0, .int .i64 0, .int .i64 0, .int .i64 0, .int .i64 0, .int .i64 0, .int .i64 0, .int .i64 0, .int .i64 0, .int .i64 0, .int .i64 0, .int .i64 0, .int .i64 0, .int .i64 0] 35)).setRow w2.heap.size #[.int .i64 1, .int .i64 0, .int .i64 6, .int .i64 1, .int .i64 0, .int .i64 0, .int .i64 1, .string ⟨#[]⟩, .int .i64 0, .int .i64 0, .int .i64 0, .int .i64 0, .int .i64 0, .int .i64 0, .int .i64 0, .int .i64 0, .int .i64 0, .int .i64 0, .int .i64 0, .int .i64 0, .int .i64 0, .int .i64 0, .int .i64 0, .int .i64 0, .int .i64 0, .int .i64 0] (Nat.le_refl _)
  have hPb := setRow_heap _ w2.heap.size _ #[.int .i64 1, .int .i64 0, .int .i64 6, .int .i64 1, .int .i64 0, .int .i64 0, .int .i64 1, .string ⟨#[]⟩, .int .i64 0, .int .i64 0, .int .i64 0, .int .i64 0, .int .i64 0, .int .i64 0, .int .i64 0, .int .i64 0, .int .i64 0, .int .i64 0, .int .i64 0, .int .i64 0, .int .i64 0, .int .i64 0, .int .i64 0, .int .i64 0, .int .i64 0, .int .i64 0] _ _ HZb.out
  obtain ⟨b, hblk⟩ : ∃ x, x = w2.heap.size := ⟨_, rfl⟩
  obtain ⟨w3, hwn⟩ : ∃ x, x = (w2.alloc (.cells #[.int .i64 0, .int .i64 0, .int .i64 0, .int .i64 0, .int .i64 0, .int .i64 0, .int .i64 0, .string ⟨#[]⟩, .int .i64 0, .int .i64 0, .int .i64 0, .int .i64 0, .int .i64 0, .int .i64 0, .int .i64 0, .int .i64 0, .int .i64 0, .int .i64 0, .int .i64 0, .int .i64 0, .int .i64 0, .int .i64 0, .int .i64 0, .int .i64 0, .int .i64 0, .int .i64 0] 35)).setRow w2.heap.size #[.int .i64 1, .int .i64 0, .int .i64 6, .int .i64 1, .int .i64 0, .int .i64 0, .int .i64 1, .string ⟨#[]⟩, .int .i64 0, .int .i64 0, .int .i64 0, .int .i64 0, .int .i64 0, .int .i64 0, .int .i64 0, .int .i64 0, .int .i64 0, .int .i64 0, .int .i64 0, .int .i64 0, .int .i64 0, .int .i64 0, .int .i64 0, .int .i64 0, .int .i64 0, .int .i64 0] := ⟨_, rfl⟩
  rw [← hwn] at hfr hPb ⊢
  rw [← hblk] at hPb ⊢
  clear hwn hblk HZb
  have S3 := hid ((S2.out.step hfr).and (Sb.heap hPb (fun h => h)))
  clear hfr hPb S2
  have hls : (lifeS.toList == [99, 111, 109, 109, 105, 116, 116, 101, 100, 32, 111, 107, 32, 97, 99, 107, 32, 49, 32, 48, 32, 48, 32, 49]) = true := by rw [Lib.toList_data]; rfl
  have hlo : (lostS.toList == [108, 111, 115, 116]) = true := by rw [Lib.toList_data]; rfl
  apply wp_region_N 16 (valsL (_ :: _ :: _ :: _ :: _ :: _ :: _ :: _ :: _ :: _ :: _ :: _ :: _ :: _ :: _ :: _ :: [])) ?hB1 ?main1
  case hB1 => kernel_rfl
  rotate_left 16
  intro ops QT HO HQ
  obtain ⟨ho0, HO⟩ := HO
  refine wpG_v ho0.out rfl ?_ ?_
  · simp only [valsL_zero, valsL_succ]; apply FY_in rfl; intro wx hx
    go_simp
    exact ⟨rfl, rfl⟩
  simp only [Act.put, List.setIfInBounds_toArray, List.set_cons_zero, List.set_cons_succ, valsL_zero, valsL_succ]
  obtain ⟨ho1, HO⟩ := HO
  refine wpG_v ho1.out rfl ?_ ?_
  · simp only [valsL_zero, valsL_succ]; apply FY_in rfl; intro wx hx
    go_simp
    exact ⟨rfl, rfl⟩
  simp only [Act.put, List.setIfInBounds_toArray, List.set_cons_zero, List.set_cons_succ, valsL_zero, valsL_succ]
  obtain ⟨ho2, HO⟩ := HO
  refine wpG_v ho2.out rfl ?_ ?_
  · simp only [valsL_zero, valsL_succ]; apply FY_in rfl; intro wx hx
    go_simp
    exact ⟨rfl, rfl⟩
  simp only [Act.put, List.setIfInBounds_toArray, List.set_cons_zero, List.set_cons_succ, valsL_zero, valsL_succ]
  obtain ⟨ho3, HO⟩ := HO
  refine wpG_v ho3.out rfl ?_ ?_
  · simp only [valsL_zero, valsL_succ]; apply FY_yes (d := 14) rfl ho2.out (by rfl) (by kernel_rfl); intro wx hx
    go_simp
    exact ⟨rfl, rfl⟩
  simp only [Act.put, List.setIfInBounds_toArray, List.set_cons_zero, List.set_cons_succ, valsL_zero, valsL_succ]
  obtain ⟨ho4, HO⟩ := HO
  refine wpG_v ho4.out rfl ?_ ?_
  · simp only [valsL_zero, valsL_succ]; apply FY_yes (d := 14) rfl ho2.out (by rfl) (by kernel_rfl); intro wx hx
    go_simp
    exact ⟨rfl, rfl⟩
  simp only [Act.put, List.setIfInBounds_toArray, List.set_cons_zero, List.set_cons_succ, valsL_zero, valsL_succ]
  obtain ⟨ho5, HO⟩ := HO
  refine wpG_v ho5.out rfl ?_ ?_
  · simp only [valsL_zero, valsL_succ]; apply FY_in rfl; intro wx hx
    go_simp
    exact ⟨rfl, rfl⟩
  simp only [Act.put, List.setIfInBounds_toArray, List.set_cons_zero, List.set_cons_succ, valsL_zero, valsL_succ]
  obtain ⟨ho6, HO⟩ := HO
  refine wpG_v ho6.out rfl ?_ ?_
  · simp only [valsL_zero, valsL_succ]; apply FY_in rfl; intro wx hx
    go_simp
    exact ⟨rfl, rfl⟩
  simp only [Act.put, List.setIfInBounds_toArray, List.set_cons_zero, List.set_cons_succ, valsL_zero, valsL_succ]
  obtain ⟨ho7, HO⟩ := HO
  refine wpG_v ho7.out rfl ?_ ?_
  · simp only [valsL_zero, valsL_succ]; apply FY_yes (d := 18) rfl ho6.out (by rfl) (by kernel_rfl); intro wx hx
    go_simp
    exact ⟨rfl, rfl⟩
  simp only [Act.put, List.setIfInBounds_toArray, List.set_cons_zero, List.set_cons_succ, valsL_zero, valsL_succ]
  obtain ⟨ho8, HO⟩ := HO
  refine wpG_v ho8.out rfl ?_ ?_
  · simp only [valsL_zero, valsL_succ]; apply FY_yes (d := 18) rfl ho6.out (by rfl) (by kernel_rfl); intro wx hx
    go_simp
    exact ⟨rfl, rfl⟩
  simp only [Act.put, List.setIfInBounds_toArray, List.set_cons_zero, List.set_cons_succ, valsL_zero, valsL_succ]
  obtain ⟨ho9, HO⟩ := HO
  refine wpG_v ho9.out rfl ?_ ?_
  · simp only [valsL_zero, valsL_succ]; apply FY_yes (d := 18) rfl ho6.out (by rfl) (by kernel_rfl); intro wx hx
    have hc0 := sb_cell ((S3.out wx hx).2)
    go_simp
    exact ⟨rfl, rfl⟩
  simp only [Act.put, List.setIfInBounds_toArray, List.set_cons_zero, List.set_cons_succ, valsL_zero, valsL_succ]
  obtain ⟨ho10, HO⟩ := HO
  refine wpG_v ho10.out rfl ?_ ?_
  · simp only [valsL_zero, valsL_succ]; apply FY_yes (d := 18) rfl ho6.out (by rfl) (by kernel_rfl); intro wx hx
    go_simp
    exact ⟨rfl, rfl⟩
  simp only [Act.put, List.setIfInBounds_toArray, List.set_cons_zero, List.set_cons_succ, valsL_zero, valsL_succ]
  obtain ⟨ho11, HO⟩ := HO
  refine wpG_v ho11.out rfl ?_ ?_
  · simp only [valsL_zero, valsL_succ]; apply FY_in rfl; intro wx hx
    go_simp
    exact ⟨rfl, rfl⟩
  simp only [Act.put, List.setIfInBounds_toArray, List.set_cons_zero, List.set_cons_succ, valsL_zero, valsL_succ]
  obtain ⟨ho12, HO⟩ := HO
  refine wpG_v ho12.out rfl ?_ ?_
  · simp only [valsL_zero, valsL_succ]; apply FY_in rfl; intro wx hx
    go_simp
    exact ⟨rfl, rfl⟩
  simp only [Act.put, List.setIfInBounds_toArray, List.set_cons_zero, List.set_cons_succ, valsL_zero, valsL_succ]
  obtain ⟨ho13, HO⟩ := HO
  refine wpG_v ho13.out rfl ?_ ?_
  · simp only [valsL_zero, valsL_succ]; apply FY_yes (d := 24) rfl ho12.out (by rfl) (by kernel_rfl); intro wx hx
    go_simp
    exact ⟨rfl, (HC3.out _).mono (fun e w' h => ⟨h.1, h.2⟩)⟩
  simp only [Act.put, List.setIfInBounds_toArray, List.set_cons_zero, List.set_cons_succ, valsL_zero, valsL_succ]
  obtain ⟨ho14, HO⟩ := HO
  refine wpG_v ho14.out rfl ?_ ?_
  · simp only [valsL_zero, valsL_succ]; apply FY_yes (d := 24) rfl ho12.out (by rfl) (by kernel_rfl); intro wx hx
    go_simp
    exact ⟨rfl, rfl⟩
  simp only [Act.put, List.setIfInBounds_toArray, List.set_cons_zero, List.set_cons_succ, valsL_zero, valsL_succ]
  obtain ⟨ho15, HO⟩ := HO
  refine wpG_v ho15.out rfl ?_ ?_
  · simp only [valsL_zero, valsL_succ]; apply FY_in rfl; intro wx hx
    go_simp
    exact ⟨rfl, rfl⟩
  simp only [Act.put, List.setIfInBounds_toArray, List.set_cons_zero, List.set_cons_succ, valsL_zero, valsL_succ]
  refine HQ.out _ _ ?_
  intro wr hf
  simp only [List.drop_succ_cons, List.drop_zero]
  clear HQ HO ho0 ho1 ho2 ho3 ho4 ho5 ho6 ho7 ho8 ho9 ho10 ho11 ho12 ho13 ho14 ho15
  have S4 := hid (S3.out.step hf)
  clear hf
  go_wp2_with fail
  go_ret
  exact ⟨rfl, S4.out.now.1⟩
end Go.Proofs.YtonlmkcolndaaaaGreatDoor
namespace Go.Proofs.YtonlmkcolndaaaaGreatDoor
set_option linter.unusedVariables false
set_option linter.unusedSimpArgs false
set_option maxRecDepth 20000
open Go.RowKit

section
variable {H : Type} {enc : TypeId × Value → H}
/-- The wrap of a row that lists variables, the world's shape kept. -/
theorem handed_and_shaped {a : Assume} {C : Checked} {os : Os} {f : FuncId} {fn : Func} {s : ChangeSpec} {conds : List PathCond} {apart fresh handsOn again : Bool} {X : World → Array Value → Prop}
    (hX : ∀ (w w' : World) (args : Array Value), w.heap = w'.heap → X w args → X w' args)
    (own : ownKnob C.prog.godebug = none) (started : os.Started) (noInit : C.prog.inits.idxOf? f = none) (hfn : C.prog.funcs[f]? = some fn)
    (witness : ∃ (w : World) (tape : Tape) (i : Input), w.os = os ∧ (w.forCall tape i).Shaped C.prog ∧ i.vars = [] ∧ Input.okWide C.prog (w.forCall tape i) .any w.heap.size f i ∧
      ((s.pre enc C.prog fn conds apart (w.forCall tape i).memory i.args ∧ X (w.forCall tape i).memory i.args) ∧ sizedMet enc C.prog fn (OpenSpec.ofChange s) apart (w.forCall tape i).memory i.args) ∧ a.holds C.prog (lone (Frame.enter C.prog f i.args .normal) [] (w.forCall tape i)))
    (contract : ∀ (W : World) (base : Nat) (args : Array Value) (ds gs : List (DataW H)) (before : List MemPlace),
      (∀ (j : Nat) t v, fn.params[j]? = some t → args[j]? = some v → Value.okWide C.prog W .any base t v) →
      DataW.Whole enc C.prog fn.params.toList s.vars apart W args.toList ds gs before →
      W.ShapedOpen C.prog → X W args →
      Calls C.prog f args W fun e W' => ∃ v, e = .returned v ∧ s.post enc C.prog fn apart fresh handsOn again W args v W') :
    ReturnsInHanded a C os f .any (fun w args => (s.pre enc C.prog fn conds apart w args ∧ X w args) ∧ sizedMet enc C.prog fn (OpenSpec.ofChange s) apart w args) (s.post enc C.prog fn apart fresh handsOn again) := by
  refine returnsInHanded_of_calls own started noInit witness ?_
  intro w tape i _ hsh _ hok hpre hholds
  obtain ⟨_, _, _, fn', hfn', _, _, _, _, hval⟩ := hok
  have e : fn' = fn := Option.some.inj (hfn'.symm.trans hfn)
  subst e
  obtain ⟨⟨⟨ds, gs, before, hw, hc⟩, hx⟩, hz⟩ := hpre
  have hw' := DataW.Whole.of_heap (w' := w.forCall tape i) (by rfl) hw
  refine (contract (w.forCall tape i) w.heap.size i.args ds gs before hval hw' hsh (hX _ _ _ (by rfl) hx)).mono fun e W' ⟨v, he, hp⟩ => ?_
  subst he
  exact ChangeSpec.post_blind hp
end

theorem gPow' : Tryz.prog.globalNamed "internal/strconv.uint64pow10" = some 0 := by kernel_rfl
theorem gES : Tryz.prog.globalNamed "strconv.ErrSyntax" = some 2 := by kernel_rfl
theorem gER : Tryz.prog.globalNamed "strconv.ErrRange" = some 3 := by kernel_rfl
theorem gEST : (Tryz.prog.globals[2]?).map (·.type) = some 89 := by kernel_rfl
theorem gERT : (Tryz.prog.globals[3]?).map (·.type) = some 89 := by kernel_rfl
theorem starE : "*" ++ "errors.errorString" = "*errors.errorString" := by decide
theorem rowE (u : TypeId) (h : Tryz.prog.typeName? 3 u = some "*errors.errorString") : u = 157 :=
  typeName_ptr_named (nm := "errors.errorString") (by rw [starE]; kernel_rfl) (by kernel_rfl) (by decide) u (by rw [starE]; exact h)
/-- What a row's list gives, with the world's shape. -/
theorem glob_of {W : World} {L : List (String × DataW Unit)} (h : laidMet Tryz.prog L W) (hsh : W.ShapedOpen Tryz.prog) (t1 t2 : List UInt8)
    (e0 : L.filter (fun x => x.1 == "internal/strconv.uint64pow10") = [("internal/strconv.uint64pow10", Lib.tabData .u64 Lib.pow10Tab)])
    (e1 : L.filter (fun x => x.1 == "strconv.ErrSyntax") = [("strconv.ErrSyntax", .iface "*errors.errorString" (.ptr (.agg [.lit (.string t1)])))])
    (e2 : L.filter (fun x => x.1 == "strconv.ErrRange") = [("strconv.ErrRange", .iface "*errors.errorString" (.ptr (.agg [.lit (.string t2)])))]) : Glob W := by
  have h0 := h.filter (fun x => x.1 == "internal/strconv.uint64pow10")
  have h1 := h.filter (fun x => x.1 == "strconv.ErrSyntax")
  have h2 := h.filter (fun x => x.1 == "strconv.ErrRange")
  rw [e0] at h0
  rw [e1] at h1
  rw [e2] at h2
  obtain ⟨a1, _, hv1, -, -, -⟩ := laid_sentinel h1 gES gEST Tryz.underlying89 rowE Tryz.underlying157 Tryz.underlying159 rfl rfl Tryz.underlying9 (by kernel_rfl) (by kernel_rfl)
  obtain ⟨a2, _, hv2, -, -, -⟩ := laid_sentinel h2 gER gERT Tryz.underlying89 rowE Tryz.underlying157 Tryz.underlying159 rfl rfl Tryz.underlying9 (by kernel_rfl) (by kernel_rfl)
  exact ⟨Lib.tabIs_of_head (rest := []) (g := 0) (t := 141) (e := 122) (n := 20) gPow' (by kernel_rfl) Tryz.underlying141 Tryz.underlying122 (by kernel_rfl) (by kernel_rfl) h0,
    cell_of_shapedOpen_int (zero := #[.int .i64 0]) (t := 3) hsh (of_decide_eq_true (by kernel_rfl)) (by kernel_rfl) rfl (by kernel_rfl) (by kernel_rfl) Tryz.underlying3,
    ⟨_, _, hv1⟩, ⟨_, _, hv2⟩⟩
end Go.Proofs.YtonlmkcolndaaaaGreatDoor
namespace Go.Proofs.YtonlmkcolndaaaaGreatDoor
set_option linter.unusedVariables false
set_option linter.unusedSimpArgs false
set_option maxRecDepth 20000
open Go.RowKit Go.ChangeShapes Go.WideShapes

def Sp.cells (p : Sp) : List Value := [.int .i64 p.s0, .int .i64 p.s1, .int .i64 p.s2, .int .i64 p.s3, .int .i64 p.s4, .int .i64 p.s5, .int .i64 p.s6, .int .i64 p.s7, .int .i64 p.s8, .int .i64 p.s9, .int .i64 p.s10, .int .i64 p.s11]
def Rc.cells (r : Rc) : List Value := [.int .i64 r.k, .int .i64 r.e, .int .i64 r.w, .int .i64 r.n, .int .i64 r.q, .string r.t, .int .i64 r.p.s0, .int .i64 r.p.s1, .int .i64 r.p.s2, .int .i64 r.p.s3, .int .i64 r.p.s4, .int .i64 r.p.s5, .int .i64 r.p.s6, .int .i64 r.p.s7, .int .i64 r.p.s8, .int .i64 r.p.s9, .int .i64 r.p.s10, .int .i64 r.p.s11]
abbrev wfi (x : Int) : Prop := (Lit.int .i64 x).wf = true
def Sp.ok (p : Sp) : Prop := (wfi p.s0 ∧ wfi p.s1 ∧ wfi p.s2 ∧ wfi p.s3 ∧ wfi p.s4) ∧ (wfi p.s5 ∧ wfi p.s6 ∧ wfi p.s7 ∧ wfi p.s8) ∧ (wfi p.s9 ∧ wfi p.s10 ∧ wfi p.s11)
def Rc.ok (r : Rc) : Prop := (wfi r.k ∧ wfi r.e ∧ wfi r.w ∧ wfi r.n ∧ wfi r.q) ∧ r.t.size ≤ maxLen ∧ r.p.ok

section
variable {H : Type} {enc : TypeId × Value → H} {w : World} {base : Nat} {spare : Nat → Bool} {held : Bool}
theorem fld_int {n : Nat} {c : Value} {y : DataW H × List MemPlace} (h : DataW.trod enc Tryz.prog w base spare held n 3 [c] = some y) : ∃ z, c = .int .i64 z ∧ wfi z := by
  obtain ⟨z, hz, _, hw⟩ := DataW.trod_int Tryz.underlying3 h
  exact ⟨z, by simpa using hz, hw⟩
theorem of_get {α : Type} {o : Option α} {l : List α} {i : Nat} (h : o = l[i]?) (hi : i < l.length) : ∃ y, o = some y := ⟨l[i], by rw [h, List.getElem?_eq_getElem hi]⟩
theorem arr_trod {fuel : Nat} {c0 c1 c2 c3 : Value} {x : DataW H × List MemPlace} (h : DataW.trod enc Tryz.prog w base spare held fuel 23 [c0, c1, c2, c3] = some x) :
    ∃ z0 z1 z2 z3, [c0, c1, c2, c3] = [.int .i64 z0, .int .i64 z1, .int .i64 z2, .int .i64 z3] ∧ wfi z0 ∧ wfi z1 ∧ wfi z2 ∧ wfi z3 := by
  obtain ⟨xs, m, _, _, _, hl, hf⟩ := DataW.trod_array Tryz.underlying23 h
  have h1 : Tryz.prog.cellsOf 3 = 1 := by kernel_rfl
  rw [h1] at hf
  obtain ⟨y0, e0⟩ := of_get (hf 0 (by omega)) (by omega)
  obtain ⟨y1, e1⟩ := of_get (hf 1 (by omega)) (by omega)
  obtain ⟨y2, e2⟩ := of_get (hf 2 (by omega)) (by omega)
  obtain ⟨y3, e3⟩ := of_get (hf 3 (by omega)) (by omega)
  obtain ⟨z0, rfl, w0⟩ := fld_int (c := c0) e0
  obtain ⟨z1, rfl, w1⟩ := fld_int (c := c1) e1
  obtain ⟨z2, rfl, w2⟩ := fld_int (c := c2) e2
  obtain ⟨z3, rfl, w3⟩ := fld_int (c := c3) e3
  exact ⟨z0, z1, z2, z3, rfl, w0, w1, w2, w3⟩
theorem spec_trod {fuel : Nat} {cs : List Value} {x : DataW H × List MemPlace} (h : DataW.trod enc Tryz.prog w base spare held fuel 25 cs = some x) : ∃ p : Sp, cs = p.cells ∧ p.ok := by
  obtain ⟨xs, n, _, _, hc, hl, hf⟩ := DataW.trod_struct Tryz.underlying25 h
  have hc12 : cs.length = 12 := hc.trans (by kernel_rfl)
  have h1 : Tryz.prog.cellsOf 3 = 1 := by kernel_rfl
  have h4 : Tryz.prog.cellsOf 23 = 4 := by kernel_rfl
  have hl9 : xs.length = 9 := hl
  match cs, hc12 with
  | [c0, c1, c2, c3, c4, c5, c6, c7, c8, c9, c10, c11], _ =>
    have fi : ∀ (i : Nat) (f : Field) (c : Value), f.type = 3 → DataW.trod enc Tryz.prog w base spare held n f.type (([c0, c1, c2, c3, c4, c5, c6, c7, c8, c9, c10, c11].drop f.offset).take (Tryz.prog.cellsOf f.type)) = xs[i]? → i < 9 →
        ([c0, c1, c2, c3, c4, c5, c6, c7, c8, c9, c10, c11].drop f.offset).take 1 = [c] → ∃ z, c = .int .i64 z ∧ wfi z := by
      intro i f c ht hh hi hcc
      rw [ht, h1, hcc] at hh
      obtain ⟨y, e⟩ := of_get hh (by omega)
      exact fld_int e
    obtain ⟨z0, rfl, w0⟩ := fi 0 _ c0 rfl (hf 0 _ rfl) (by omega) rfl
    obtain ⟨z1, rfl, w1⟩ := fi 1 _ c1 rfl (hf 1 _ rfl) (by omega) rfl
    obtain ⟨z2, rfl, w2⟩ := fi 2 _ c2 rfl (hf 2 _ rfl) (by omega) rfl
    obtain ⟨z3, rfl, w3⟩ := fi 3 _ c3 rfl (hf 3 _ rfl) (by omega) rfl
    obtain ⟨z4, rfl, w4⟩ := fi 4 _ c4 rfl (hf 4 _ rfl) (by omega) rfl
    obtain ⟨z9, rfl, w9⟩ := fi 6 _ c9 rfl (hf 6 _ rfl) (by omega) rfl
    obtain ⟨z10, rfl, w10⟩ := fi 7 _ c10 rfl (hf 7 _ rfl) (by omega) rfl
    obtain ⟨z11, rfl, w11⟩ := fi 8 _ c11 rfl (hf 8 _ rfl) (by omega) rfl
    have ha : DataW.trod enc Tryz.prog w base spare held n 23 [c5, c6, c7, c8] = xs[5]? := hf 5 _ rfl
    obtain ⟨y, ey⟩ := of_get ha (by omega)
    obtain ⟨z5, z6, z7, z8, e, w5, w6, w7, w8⟩ := arr_trod ey
    simp only [List.cons.injEq, and_true] at e
    obtain ⟨rfl, rfl, rfl, rfl⟩ := e
    exact ⟨⟨z0, z1, z2, z3, z4, z5, z6, z7, z8, z9, z10, z11⟩, rfl, ⟨w0, w1, w2, w3, w4⟩, ⟨w5, w6, w7, w8⟩, w9, w10, w11⟩
theorem rec_trod {fuel : Nat} {cs : List Value} {x : DataW H × List MemPlace} (h : DataW.trod enc Tryz.prog w base spare held fuel 27 cs = some x) : ∃ r : Rc, cs = r.cells ∧ r.ok := by
  obtain ⟨xs, n, _, _, hc, hl, hf⟩ := DataW.trod_struct Tryz.underlying27 h
  have hc18 : cs.length = 18 := hc.trans (by kernel_rfl)
  have h1 : Tryz.prog.cellsOf 3 = 1 := by kernel_rfl
  have hl7 : xs.length = 7 := hl
  match cs, hc18 with
  | [c0, c1, c2, c3, c4, c5, c6, c7, c8, c9, c10, c11, c12, c13, c14, c15, c16, c17], _ =>
    have fi : ∀ (i : Nat) (f : Field) (c : Value), f.type = 3 → DataW.trod enc Tryz.prog w base spare held n f.type (([c0, c1, c2, c3, c4, c5, c6, c7, c8, c9, c10, c11, c12, c13, c14, c15, c16, c17].drop f.offset).take (Tryz.prog.cellsOf f.type)) = xs[i]? → i < 7 →
        ([c0, c1, c2, c3, c4, c5, c6, c7, c8, c9, c10, c11, c12, c13, c14, c15, c16, c17].drop f.offset).take 1 = [c] → ∃ z, c = .int .i64 z ∧ wfi z := by
      intro i f c ht hh hi hcc
      rw [ht, h1, hcc] at hh
      obtain ⟨y, e⟩ := of_get hh (by omega)
      exact fld_int e
    obtain ⟨z0, rfl, w0⟩ := fi 0 _ c0 rfl (hf 0 _ rfl) (by omega) rfl
    obtain ⟨z1, rfl, w1⟩ := fi 1 _ c1 rfl (hf 1 _ rfl) (by omega) rfl
    obtain ⟨z2, rfl, w2⟩ := fi 2 _ c2 rfl (hf 2 _ rfl) (by omega) rfl
    obtain ⟨z3, rfl, w3⟩ := fi 3 _ c3 rfl (hf 3 _ rfl) (by omega) rfl
    obtain ⟨z4, rfl, w4⟩ := fi 4 _ c4 rfl (hf 4 _ rfl) (by omega) rfl
    have hs : DataW.trod enc Tryz.prog w base spare held n 9 [c5] = xs[5]? := hf 5 _ rfl
    obtain ⟨ys, es⟩ := of_get hs (by omega)
    obtain ⟨s, hs1, _, hs2⟩ := DataW.trod_string Tryz.underlying9 es
    simp only [List.cons.injEq, and_true] at hs1
    subst hs1
    have hp : DataW.trod enc Tryz.prog w base spare held n 25 [c6, c7, c8, c9, c10, c11, c12, c13, c14, c15, c16, c17] = xs[6]? := hf 6 _ rfl
    obtain ⟨yp, ep⟩ := of_get hp (by omega)
    obtain ⟨p, e, hok⟩ := spec_trod ep
    simp only [Sp.cells, List.cons.injEq, and_true] at e
    obtain ⟨rfl, rfl, rfl, rfl, rfl, rfl, rfl, rfl, rfl, rfl, rfl, rfl⟩ := e
    exact ⟨⟨z0, z1, z2, z3, z4, s, p⟩, rfl, ⟨w0, w1, w2, w3, w4⟩, hs2, hok⟩
end
end Go.Proofs.YtonlmkcolndaaaaGreatDoor
