/- What holds in every world that grew out of one, but for some blocks. No condition. A region that draws its order: the step of one operation. No condition. The reference's Digits. The reference's words: Name, spec's Text. The reference's Text of a spec. The reference's words of a record. RecordWrites: a record whose text is short. RecordWrites: the walk of the law, for every record. No condition. -/
import Derived.Test.YtinbidmgllmglaaDoorFr
import Derived.Test.YtinbidmgllmglaaDoorRh
import Derived.Test.YtinbidmgllmglaaDoorWi
import Derived.Test.YtinbidmgllmglaaDoorWw
import Derived.Test.YtinbidmgllmglaaDoorSo
import Derived.Test.YtinbidmgllmglaaDoorPa
import Derived.Test.YtinbidmgllmglaaDoorMr
import Derived.Test.YtinbidmgllmglaaDoorZa
import Derived.Test.YtinbidmgllmglaaDoorKr
namespace Go.Proofs.YtinbidmgllmglaaDoor
set_option linter.unusedVariables false
set_option linter.unusedSimpArgs false
set_option maxRecDepth 20000
open Go.RowKit

theorem sb_cell {w : World} {g : Nat} {cur : Array Value} {e : TypeId} {f : Nat × Nat} (hh : w.heap[g]? = some (.cells cur e f)) (o : Nat) : w.cell? ⟨g, o, none⟩ = cur[o]? := by
  simp [World.cell?, hh]
theorem sb_free {w : World} {g : Nat} {cur : Array Value} {e : TypeId} (hh : w.heap[g]? = some (.cells cur e (0, 0))) (o : Nat) : w.frozen? ⟨g, o, none⟩ = false := by
  simp [World.frozen?, hh]
theorem sb_lt {w : World} {g : Nat} {o : Obj} (hh : w.heap[g]? = some o) : g < w.heap.size := (Array.getElem?_eq_some_iff.1 hh).1
/-- P holds in every world that grew out of w, whatever became of the blocks X. -/
def Sb (X : Nat → Prop) (w : World) (P : World → Prop) : Prop := ∀ wx, Frm X w wx → P wx
section
variable {X : Nat → Prop} {w w' : World} {P Q : World → Prop}
theorem Sb.now (h : Sb X w P) : P w := h w (Frm.refl _ _)
theorem Sb.step (h : Sb X w P) (hf : Frm M0 w w') : Sb X w' P := fun wx hx => h wx ((hf.mono (fun _ _ h => h.elim)).trans hx (fun _ _ h => h))
theorem Sb.stepX (h : Sb X w P) (hf : Frm X w w') : Sb X w' P := fun wx hx => h wx (hf.trans hx (fun _ _ h => h))
theorem Sb.at0 (h : Sb X w P) (hf : Frm M0 w w') : P w' := (h.step hf).now
theorem Sb.alloc (h : Sb X w P) (o : Obj) : Sb X (w.alloc o) P := h.step ((Frm.refl M0 w).alloc o)
theorem Sb.put (h : Sb X w P) (b o : Nat) (u : Value) (hb : X b) : Sb X (w.setCell ⟨b, o, none⟩ u) P := h.stepX ((Frm.refl X w).put b o u (fun _ => hb))
theorem Sb.drew (h : Sb X w P) : Sb X w.drew P := h.stepX ((Frm.refl X w).drew)
theorem Sb.drewN (h : Sb X w P) (n : Nat) : Sb X (w.drewN n) P := h.stepX ((Frm.refl X w).drewN n)
theorem Sb.and (h : Sb X w P) (k : Sb X w Q) : Sb X w (fun x => P x ∧ Q x) := fun wx hx => ⟨h wx hx, k wx hx⟩
theorem Sb.map (h : Sb X w P) (k : ∀ x, P x → Q x) : Sb X w Q := fun wx hx => k wx (h wx hx)
theorem Sb.heap {b : Nat} {o : Obj} (h : w.heap[b]? = some o) (hb : ¬ X b) : Sb X w (fun x => x.heap[b]? = some o) := fun wx hx => hx.heap h hb
theorem Sb.rd {size n : Nat} {v : Value} {xs : List Value} (h : Rd w size v n xs) (hb : ∀ k, v.ownBlock = some k → ¬ X k) : Sb X w (fun x => Rd x size v n xs) := fun wx hx => h.frm hx hb
theorem Sb.frm {W : World} (h : Frm X W w) : Sb X w (fun x => Frm X W x) := fun wx hx => h.trans hx (fun _ _ h => h)
theorem Sb.frm0 {W : World} (h : Frm M0 W w) (hX : ∀ b, X b → W.heap.size ≤ b) : Sb X w (fun x => Frm M0 W x) := fun wx hx => h.trans hx (fun b hb hm => by have := hX b hm; omega)
end
/-- The values of a region's operations. -/
def valsL : List Value → Nat → Value
  | [], _ => undef
  | v :: _, 0 => v
  | _ :: l, n + 1 => valsL l n
theorem valsL_zero (v : Value) (l : List Value) : valsL (v :: l) 0 = v := rfl
theorem valsL_succ (v : Value) (l : List Value) (n : Nat) : valsL (v :: l) (n + 1) = valsL l n := rfl
end Go.Proofs.YtinbidmgllmglaaDoor
namespace Go.Proofs.YtinbidmgllmglaaDoor
set_option linter.unusedVariables false
set_option linter.unusedSimpArgs false
set_option maxRecDepth 20000
open Go.RowKit
section
variable {P : Program} {ops : Array Oper} {w0 : World} {al : Nat → Option Obj} {vals : Nat → Value}
theorem wpG_v {QT : Act → (Nat → Nat) → Prop} {m k : Nat} {a : Act} {E : Nat → Nat} {o : Oper} (ho : ops[k]? = some o) (hk : al k = none) (hy : FY P ops w0 o (vals k) a) (h : wpG P ops w0 al vals QT m (k + 1) (a.put o.dst (vals k)) E) : wpG P ops w0 al vals QT (m + 1) k a E :=
  wpG_val o (vals k) ho hk rfl hy h
end
end Go.Proofs.YtinbidmgllmglaaDoor
namespace Go.Proofs.YtinbidmgllmglaaDoor
set_option linter.unusedVariables false
set_option linter.unusedSimpArgs false
set_option maxRecDepth 20000
open Go.RowKit

theorem dig_piece_fin : ∀ d : Fin 10, ((⟨#[48, 49, 50, 51, 52, 53, 54, 55, 56, 57]⟩ : ByteArray).extract d.val (d.val + 1)).data.toList = [UInt8.ofNat (48 + d.val)] := by decide
theorem dig_app (d : Nat) (h : d < 10) (acc : ByteArray) : (((⟨#[48, 49, 50, 51, 52, 53, 54, 55, 56, 57]⟩ : ByteArray).extract d (d + 1)) ++ acc).data.toList = UInt8.ofNat (48 + d) :: acc.data.toList := by
  have := dig_piece_fin ⟨d, h⟩
  rw [ByteArray.data_append, Array.toList_append, this]; rfl
theorem dec_step (m : Nat) (h : ¬ m < 10) : Lib.decDigits m = Lib.decDigits (m / 10) ++ [UInt8.ofNat (48 + m % 10)] := by
  rw [Lib.decDigits, dif_neg h]
theorem str_eq_of {s : ByteArray} {l : List UInt8} (h : s.data.toList = l) : s = str l := by rw [← h, str_of]
set_option maxHeartbeats 2000000 in
theorem digits_nat (N : Nat) (w : World) (hN : N ≤ 9223372036854775807) : Calls Tryd.prog 46 #[.int .i64 N] w fun e w' => e = .returned (.string (str (Lib.decDigits N))) ∧ w' = w := by
  have h1 : ((N : Int) == -9223372036854775808) = false := beq_eq_false_iff_ne.2 (by omega)
  have h2 : ¬ (N : Int) < 0 := by omega
  go_enter Tryd.func46, Tryd.ntmps46
  go_wp2_with fail
  go_loopw [0, 3] (fun n0 s3 wr => ∃ (m : Nat) (acc : ByteArray), n0 = .int .i64 m ∧ s3 = .string acc ∧ m ≤ 9223372036854775807 ∧ Hid (Lib.decDigits N = Lib.decDigits m ++ acc.data.toList) ∧ wr = w) (fun n0 _ _ => (intOf n0).toNat)
  case atStart => exact ⟨N, ⟨#[]⟩, rfl, rfl, hN, hid (by simp), rfl⟩
  case round =>
    clear h1 h2
    obtain ⟨m, acc, rfl, rfl, hm, HA, rfl⟩ := hrel
    have hsz : acc.size ≤ 21 := by
      have h : (Lib.decDigits N).length = (Lib.decDigits m).length + acc.size := by rw [HA.out, List.length_append, Array.length_toList]; rfl
      have h2 : (Lib.decDigits N).length ≤ 21 := by
        have h2 := Lib.itoa_length_le (N : Int) (by omega) (by omega)
        rwa [Lib.itoa_nonneg] at h2
      omega
    have hlim : ¬ 9223372036854775807 < min (m % 10 + 1) 10 - m % 10 + acc.size := by omega
    by_cases h0 : m / 10 = 0
    · have hb : ((m : Int) / 10 == 0) = true := beq_iff_eq.2 (by omega)
      go_wp2_with fail
      go_ret
      refine ⟨congrArg (fun x => Ending.returned (Value.string x)) (str_eq_of ?_), rfl⟩
      rw [dig_app _ (by omega), HA.out, Lib.decDigits_one (by omega), Nat.mod_eq_of_lt (by omega)]; rfl
    · have hb : ((m : Int) / 10 == 0) = false := beq_eq_false_iff_ne.2 (by omega)
      go_wp2_with fail
      refine ⟨⟨m / 10, _, by simp, rfl, by omega, hid ?_, trivial⟩, by simp [intOf]; omega⟩
      rw [dig_app _ (by omega), HA.out, dec_step m (by omega), List.append_assoc]; rfl
set_option maxHeartbeats 2000000 in
theorem ddigits_calls (n : Int) (w : World) (h0 : -9223372036854775808 ≤ n) (h1 : n ≤ 9223372036854775807) : Calls Tryd.prog 46 #[.int .i64 n] w fun e w' => e = .returned (.string (str (Lib.itoa n))) ∧ w' = w := by
  by_cases hn : n < 0
  case neg =>
    obtain ⟨N, rfl⟩ : ∃ N : Nat, n = N := ⟨n.toNat, by omega⟩
    rw [Lib.itoa_nonneg]
    exact digits_nat N w (by omega)
  by_cases hm : n = -9223372036854775808
  case pos =>
    subst hm
    go_enter Tryd.func46, Tryd.ntmps46
    go_wp2_with fail
    go_ret
    have e : Lib.itoa (-9223372036854775808) = [45, 57, 50, 50, 51, 51, 55, 50, 48, 51, 54, 56, 53, 52, 55, 55, 53, 56, 48, 56] := by decide +kernel
    exact ⟨by rw [e]; rfl, rfl⟩
  case neg =>
    obtain ⟨N, rfl⟩ : ∃ N : Nat, n = -(N : Int) := ⟨n.natAbs, by omega⟩
    have hb : ((-(N : Int)) == -9223372036854775808) = false := beq_eq_false_iff_ne.2 hm
    go_enter Tryd.func46, Tryd.ntmps46
    go_wp2_with fail
    refine (digits_nat N _ (by omega)).mono ?_
    rintro _ w1 ⟨rfl, rfl⟩
    have hz : (str (Lib.decDigits N)).size ≤ 21 := by
      have h2 := Lib.itoa_length_le (N : Int) (by omega) (by omega)
      rw [Lib.itoa_nonneg] at h2
      show (Lib.decDigits N).toArray.size ≤ 21
      rw [List.size_toArray]; exact h2
    obtain ⟨s, HS⟩ : ∃ s, Hid (str (Lib.decDigits N) = s) := ⟨_, rfl⟩
    rw [HS.out] at hz ⊢
    have hlim : ¬ 9223372036854775807 < 1 + s.size := by omega
    go_wp2_with fail
    go_ret
    refine ⟨congrArg (fun x => Ending.returned (Value.string x)) (str_eq_of ?_), rfl⟩
    rw [Lib.itoa_neg N (by omega), ← HS.out, ByteArray.data_append, Array.toList_append]; rfl
end Go.Proofs.YtinbidmgllmglaaDoor
namespace Go.Proofs.YtinbidmgllmglaaDoor
set_option linter.unusedVariables false
set_option linter.unusedSimpArgs false
set_option maxRecDepth 20000
open Go.RowKit

def nameB (k : Int) : ByteArray := nameS k
set_option maxRecDepth 20000 in
set_option maxHeartbeats 4000000 in
theorem rname_calls (k : Int) (w : World) : Calls Tryd.prog 18 #[.int .i64 k] w fun x w' => x = .returned (.string (nameS k)) ∧ Frm M0 w w' := by
  by_cases h : 1 ≤ k ∧ k ≤ 7
  case neg =>
    have e : nameS k = ⟨#[]⟩ := by unfold nameS; rw [if_neg (by omega), if_neg (by omega), if_neg (by omega), if_neg (by omega), if_neg (by omega), if_neg (by omega), if_neg (by omega)]
    rw [e]
    by_cases h1 : k < 1
    · go_enter Tryd.func18, Tryd.ntmps18
      go_wp2_with fail
      go_ret
      exact ⟨rfl, Frm.refl _ _⟩
    · have h2 : 7 < k := by omega
      go_enter Tryd.func18, Tryd.ntmps18
      go_wp2_with fail
      go_ret
      exact ⟨rfl, Frm.refl _ _⟩
  have hk : k = 1 ∨ k = 2 ∨ k = 3 ∨ k = 4 ∨ k = 5 ∨ k = 6 ∨ k = 7 := by omega
  rcases hk with rfl | rfl | rfl | rfl | rfl | rfl | rfl
  all_goals
    go_enter Tryd.func18, Tryd.ntmps18
    go_wp2_with fail
    go_ret
    exact ⟨rfl, (Frm.refl M0 w).alloc _⟩
end Go.Proofs.YtinbidmgllmglaaDoor
namespace Go.Proofs.YtinbidmgllmglaaDoor
set_option linter.unusedVariables false
set_option linter.unusedSimpArgs false
set_option maxRecDepth 20000
open Go.RowKit

theorem join_snoc (l : List (List UInt8)) (y : List UInt8) (h : l ≠ []) : Lib.join (l ++ [y]) [32] = Lib.join l [32] ++ (32 :: y) := by
  cases l with
  | nil => exact absurd rfl h
  | cons x r =>
    rw [List.cons_append, Lib.join_cons, Lib.join_cons]
    simp [Lib.joinTail]
theorem sp_app (a : ByteArray) : ((⟨#[32]⟩ : ByteArray) ++ a).data.toList = 32 :: a.data.toList := by
  rw [ByteArray.data_append, Array.toList_append]; rfl
theorem sp_size (a : ByteArray) : ((⟨#[32]⟩ : ByteArray) ++ a).size = 1 + a.size := by rw [ByteArray.size_append]; rfl

set_option maxRecDepth 20000 in
set_option maxHeartbeats 4000000 in
theorem rtextS_calls (p : Sp) (w : World) (hp : p.small) : Calls Tryd.prog 27 #[p.val] w fun e w' => e = .returned (.string (textS p)) ∧ Frm M0 w w' := by
  have HV : Hid (p.val = .agg #[.int .i64 p.s0, .int .i64 p.s1, .int .i64 p.s2, .int .i64 p.s3, .int .i64 p.s4, .int .i64 p.s5, .int .i64 p.s6, .int .i64 p.s7, .int .i64 p.s8, .int .i64 p.s9, .int .i64 p.s10, .int .i64 p.s11]) := rfl
  rw [HV.out]
  go_enter Tryd.func27, Tryd.ntmps27
  go_wp2_with (refine wpList_load_row rfl 24 (.tmp 1) (by with_reducible rfl) w.heap.size rfl _ _ _ _ (heap_alloc_last w _) Tryd.underlying24 rfl (by kernel_rfl) ?_)
  rw [← HV.out]
  refine (rfields_calls p _).mono ?_
  rintro _ w1 ⟨v, rfl, hr, hf⟩
  have HF1 := hid (((Frm.refl M0 w).alloc _).then0 hf)
  have HR := hid hr
  clear hr hf
  obtain ⟨a, c, rfl, hsh⟩ := HR.out.shape
  obtain ⟨b, o, rfl⟩ := hsh (by rw [nums_len]; omega)
  clear hsh
  obtain ⟨L, hL⟩ : ∃ L, L = p.nums := ⟨_, rfl⟩
  have HL : Hid (textS p = joinS (words L)) := by rw [hL]; rfl
  have HP : Hid (∀ x ∈ L, -9223372036854775808 ≤ x ∧ x ≤ 9223372036854775807) := by rw [hL]; exact hp
  have hn : L.length = 12 := by rw [hL]; rfl
  rw [← hL] at HR
  rw [← hL, hn]
  have HN := hid hn
  clear hL hp hn
  obtain ⟨x, HX, hc⟩ := HR.out.cellAt 0 (by rw [HN.out]; omega)
  rw [Nat.add_zero] at hc
  have hx := HP.out x (List.mem_of_getElem? HX.out)
  go_upto_region 2 with fail
  go_wp2_with fail
  refine (ddigits_calls x _ hx.1 hx.2).mono ?_
  rintro _ w2 ⟨rfl, hw⟩
  subst hw
  clear hc
  have hI : Hid ((str (Lib.itoa x)).data.toList = Lib.join ((words (L.take 1)).map (·.data.toList)) [32]) := hid (by
    rw [show L.take 1 = [x] from by have := take_snoc HX.out; simpa using this]
    show Lib.itoa x = Lib.join [Lib.itoa x] [32]
    rw [Lib.join_one])
  have hS : (str (Lib.itoa x)).size ≤ 21 := by
    show (Lib.itoa x).toArray.size ≤ 21
    rw [List.size_toArray]; exact Lib.itoa_length_le x hx.1 hx.2
  obtain ⟨acc0, hacc⟩ : ∃ s, s = str (Lib.itoa x) := ⟨_, rfl⟩
  rw [← hacc] at hI hS
  rw [← hacc]
  have HS := hid hS
  clear hacc hS hx HX
  go_upto_region 3 with fail
  go_wp2_with fail
  go_loopw [4, 5] (fun s4 i5 wr => ∃ (k : Nat) (acc : ByteArray), 1 ≤ k ∧ k ≤ 12 ∧ i5 = .int .i64 k ∧ s4 = .string acc ∧ Hid (acc.data.toList = Lib.join ((words (L.take k)).map (·.data.toList)) [32]) ∧ Hid (acc.size ≤ 22 * k) ∧ Hid (w2 = wr)) (fun _ i _ => 12 - (intOf i).toNat)
  case atStart => exact ⟨1, acc0, by omega, by omega, rfl, rfl, hI, hid (by have := HS.out; omega), hid rfl⟩
  case round =>
    obtain ⟨k, acc, hk1, hk, rfl, rfl, HJ, HZ, hw⟩ := hrel
    have hw' := hw.out
    subst hw'
    by_cases hlt : k < 12
    · obtain ⟨y, HY, hc⟩ := HR.out.cellAt k (by rw [HN.out]; exact hlt)
      have hy := HP.out y (List.mem_of_getElem? HY.out)
      have HYB := hid hy
      clear hy
      go_wp2_with fail
      refine (ddigits_calls y _ HYB.out.1 HYB.out.2).mono ?_
      rintro _ w3 ⟨rfl, hw⟩
      subst hw
      have hS : (str (Lib.itoa y)).size ≤ 21 := by
        show (Lib.itoa y).toArray.size ≤ 21
        rw [List.size_toArray]; exact Lib.itoa_length_le y HYB.out.1 HYB.out.2
      obtain ⟨t, HTT⟩ : ∃ s, Hid (str (Lib.itoa y) = s) := ⟨_, rfl⟩
      rw [HTT.out] at hS ⊢
      have hz := HZ.out
      have hl1 : ¬ 9223372036854775807 < 1 + t.size := by omega
      have hl2 : ¬ 9223372036854775807 < acc.size + (1 + t.size) := by omega
      clear hc
      go_wp2_with fail
      refine ⟨⟨k + 1, _, by omega, by omega, by go_num, rfl, hid ?_, hid ?_, hid trivial⟩, by simp [intOf]; omega⟩
      · have e1 : (words (L.take (k + 1))).map (·.data.toList) = (words (L.take k)).map (·.data.toList) ++ [Lib.itoa y] := by
          rw [take_snoc HY.out, ← words_snoc, List.map_append]; rfl
        have hne : (words (L.take k)).map (·.data.toList) ≠ [] := by
          intro h
          have := congrArg List.length h
          rw [List.length_map, words_len, List.length_take, HN.out] at this
          simp at this; omega
        have ht : t.data.toList = Lib.itoa y := by rw [← HTT.out]
        rw [e1, join_snoc _ _ hne, ByteArray.data_append, Array.toList_append, HJ.out, sp_app, ht]
      · rw [ByteArray.size_append, sp_size]; omega
    · obtain rfl : k = 12 := by omega
      have ht : L.take 12 = L := List.take_of_length_le (by rw [HN.out]; omega)
      have hJ := HJ.out
      rw [ht] at hJ
      have HJJ := hid hJ
      clear hJ ht
      go_wp2_with fail
      go_ret
      exact ⟨by rw [HL.out]; exact congrArg (fun x => Ending.returned (Value.string x)) (str_eq_of HJJ.out), HF1.out⟩
end Go.Proofs.YtinbidmgllmglaaDoor
namespace Go.Proofs.YtinbidmgllmglaaDoor
set_option linter.unusedVariables false
set_option linter.unusedSimpArgs false
set_option maxRecDepth 20000
open Go.RowKit

theorem itoa_size (n : Int) (h : -9223372036854775808 ≤ n ∧ n ≤ 9223372036854775807) : (str (Lib.itoa n)).size ≤ 21 := by
  show (Lib.itoa n).toArray.size ≤ 21
  rw [List.size_toArray]; exact Lib.itoa_length_le n h.1 h.2
set_option maxRecDepth 20000 in
set_option maxHeartbeats 8000000 in
theorem rwordsR_calls (r : Rc) (w : World) (hr : r.fine) : Calls Tryd.prog 16 #[r.val] w fun e w' => e = .returned (.string (wordsS r)) ∧ Frm M0 w w' := by
  have HY := hid hr; clear hr
  have HV : Hid (r.val = .agg #[.int .i64 r.k, .int .i64 r.e, .int .i64 r.w, .int .i64 r.n, .int .i64 r.q, .string r.t, .int .i64 r.p.s0, .int .i64 r.p.s1, .int .i64 r.p.s2, .int .i64 r.p.s3, .int .i64 r.p.s4, .int .i64 r.p.s5, .int .i64 r.p.s6, .int .i64 r.p.s7, .int .i64 r.p.s8, .int .i64 r.p.s9, .int .i64 r.p.s10, .int .i64 r.p.s11]) := rfl
  rw [HV.out]
  go_enter Tryd.func16, Tryd.ntmps16
  go_wp2_with (refine wpList_load_row rfl 26 (.tmp 1) (by with_reducible rfl) w.heap.size rfl _ _ _ _ (heap_alloc_last w _) Tryd.underlying26 rfl (by kernel_rfl) ?_)
  rw [← HV.out]
  refine (rright_calls r _).mono ?_
  rintro _ w1 ⟨rfl, hf⟩
  rw [← right_eq]
  obtain ⟨b, hb⟩ : ∃ b, b = w.heap.size := ⟨_, rfl⟩
  have HH := hid (hf.heap (heap_alloc_last w (.cells #[.int .i64 r.k, .int .i64 r.e, .int .i64 r.w, .int .i64 r.n, .int .i64 r.q, .string r.t, .int .i64 r.p.s0, .int .i64 r.p.s1, .int .i64 r.p.s2, .int .i64 r.p.s3, .int .i64 r.p.s4, .int .i64 r.p.s5, .int .i64 r.p.s6, .int .i64 r.p.s7, .int .i64 r.p.s8, .int .i64 r.p.s9, .int .i64 r.p.s10, .int .i64 r.p.s11] 26)) (fun h => h))
  have HF := hid (((Frm.refl M0 w).alloc (.cells #[.int .i64 r.k, .int .i64 r.e, .int .i64 r.w, .int .i64 r.n, .int .i64 r.q, .string r.t, .int .i64 r.p.s0, .int .i64 r.p.s1, .int .i64 r.p.s2, .int .i64 r.p.s3, .int .i64 r.p.s4, .int .i64 r.p.s5, .int .i64 r.p.s6, .int .i64 r.p.s7, .int .i64 r.p.s8, .int .i64 r.p.s9, .int .i64 r.p.s10, .int .i64 r.p.s11] 26)).then0 hf)
  rw [← hb] at HH ⊢
  rw [HV.out]
  clear hf hb
  obtain ⟨x, HX⟩ : ∃ x, Hid (rightB r = x) := ⟨_, rfl⟩
  rw [HX.out]
  cases x
  · go_wp2_with fail
    go_ret
    exact ⟨by unfold wordsS; rw [if_neg (by rw [HX.out]; decide)]; rfl, HF.out⟩
  go_upto_region 4 with fail
  have hns := HY.out.ns
  have he := hns r.e (by simp [Rc.four])
  have hw := hns r.w (by simp [Rc.four])
  have hn := hns r.n (by simp [Rc.four])
  have hq := hns r.q (by simp [Rc.four])
  have HE := hid he
  have HW := hid hw
  have HN := hid hn
  have HQQ := hid hq
  have z0 := nameS_size r.k
  have z1 := itoa_size _ he
  have z2 := itoa_size _ hw
  have z3 := itoa_size _ hn
  have z4 := itoa_size _ hq
  clear hns he hw hn hq
  obtain ⟨nm, HM⟩ : ∃ s, Hid (nameS r.k = s) := ⟨_, rfl⟩
  obtain ⟨s1, H1⟩ : ∃ s, Hid (str (Lib.itoa r.e) = s) := ⟨_, rfl⟩
  obtain ⟨s2, H2⟩ : ∃ s, Hid (str (Lib.itoa r.w) = s) := ⟨_, rfl⟩
  obtain ⟨s3, H3⟩ : ∃ s, Hid (str (Lib.itoa r.n) = s) := ⟨_, rfl⟩
  obtain ⟨s4, H4⟩ : ∃ s, Hid (str (Lib.itoa r.q) = s) := ⟨_, rfl⟩
  rw [HM.out] at z0
  rw [H1.out] at z1
  rw [H2.out] at z2
  rw [H3.out] at z3
  rw [H4.out] at z4
  obtain ⟨x12, HX12⟩ : ∃ s, Hid (nm ++ (⟨#[32]⟩ : ByteArray) = s) := ⟨_, rfl⟩
  have zx12 : x12.size ≤ 22 := by rw [← HX12.out, ByteArray.size_append]; have hB : (⟨#[32]⟩ : ByteArray).size = 1 := rfl; omega
  obtain ⟨x16, HX16⟩ : ∃ s, Hid (x12 ++ (s1 : ByteArray) = s) := ⟨_, rfl⟩
  have zx16 : x16.size ≤ 43 := by rw [← HX16.out, ByteArray.size_append]; omega
  obtain ⟨x17, HX17⟩ : ∃ s, Hid (x16 ++ (⟨#[32]⟩ : ByteArray) = s) := ⟨_, rfl⟩
  have zx17 : x17.size ≤ 44 := by rw [← HX17.out, ByteArray.size_append]; have hB : (⟨#[32]⟩ : ByteArray).size = 1 := rfl; omega
  obtain ⟨x21, HX21⟩ : ∃ s, Hid (x17 ++ (s2 : ByteArray) = s) := ⟨_, rfl⟩
  have zx21 : x21.size ≤ 65 := by rw [← HX21.out, ByteArray.size_append]; omega
  obtain ⟨x22, HX22⟩ : ∃ s, Hid (x21 ++ (⟨#[32]⟩ : ByteArray) = s) := ⟨_, rfl⟩
  have zx22 : x22.size ≤ 66 := by rw [← HX22.out, ByteArray.size_append]; have hB : (⟨#[32]⟩ : ByteArray).size = 1 := rfl; omega
  obtain ⟨x26, HX26⟩ : ∃ s, Hid (x22 ++ (s3 : ByteArray) = s) := ⟨_, rfl⟩
  have zx26 : x26.size ≤ 87 := by rw [← HX26.out, ByteArray.size_append]; omega
  obtain ⟨x27, HX27⟩ : ∃ s, Hid (x26 ++ (⟨#[32]⟩ : ByteArray) = s) := ⟨_, rfl⟩
  have zx27 : x27.size ≤ 88 := by rw [← HX27.out, ByteArray.size_append]; have hB : (⟨#[32]⟩ : ByteArray).size = 1 := rfl; omega
  obtain ⟨x31, HX31⟩ : ∃ s, Hid (x27 ++ (s4 : ByteArray) = s) := ⟨_, rfl⟩
  have zx31 : x31.size ≤ 109 := by rw [← HX31.out, ByteArray.size_append]; omega
  refine wp_region_G 23 (fun _ => none) (fun i => ([.pointer (some ⟨b, 0, none⟩), .int .i64 r.k, .string nm, .string x12, .pointer (some ⟨b, 1, none⟩), .int .i64 r.e, .string s1, .string x16, .string x17, .pointer (some ⟨b, 2, none⟩), .int .i64 r.w, .string s2, .string x21, .string x22, .pointer (some ⟨b, 3, none⟩), .int .i64 r.n, .string s3, .string x26, .string x27, .pointer (some ⟨b, 4, none⟩), .int .i64 r.q, .string s4, .string x31] : List Value).getD i undef) (by kernel_rfl) (by kernel_rfl) (fun i o obj _ h => by cases h) ?_
  intro ops QT HO HQ
  obtain ⟨ho0, HO⟩ := HO
  refine wpG_val _ (.pointer (some ⟨b, 0, none⟩)) ho0.out rfl rfl ?_ ?_
  · refine FY_in rfl fun wx hx => ?_
    go_simp
    all_goals exact ⟨rfl, rfl⟩
  simp only [Act.put, List.setIfInBounds_toArray, List.set_cons_zero, List.set_cons_succ]
  obtain ⟨ho1, HO⟩ := HO
  refine wpG_val _ (.int .i64 r.k) ho1.out rfl rfl ?_ ?_
  · refine FY_in rfl fun wx hx => ?_
    have hc : wx.cell? ⟨b, 0, none⟩ = some (.int .i64 r.k) := cell_at (hx.heap HH.out (fun h => h)) 0
    go_simp
    all_goals exact ⟨rfl, rfl⟩
  simp only [Act.put, List.setIfInBounds_toArray, List.set_cons_zero, List.set_cons_succ]
  obtain ⟨ho2, HO⟩ := HO
  refine wpG_val _ (.string nm) ho2.out rfl rfl ?_ ?_
  · refine FY_in rfl fun wx hx => ?_
    go_simp
    all_goals exact ⟨rfl, (rname_calls r.k wx).mono fun e w' h => ⟨by rw [h.1, HM.out], h.2⟩⟩
  simp only [Act.put, List.setIfInBounds_toArray, List.set_cons_zero, List.set_cons_succ]
  obtain ⟨ho3, HO⟩ := HO
  refine wpG_val _ (.string x12) ho3.out rfl rfl ?_ ?_
  · refine FY_in rfl fun wx hx => ?_
    have hl : ¬ 9223372036854775807 < nm.size + 1 := by omega
    have hx := HX12.out
    go_simp
    all_goals exact ⟨rfl, rfl⟩
  simp only [Act.put, List.setIfInBounds_toArray, List.set_cons_zero, List.set_cons_succ]
  obtain ⟨ho4, HO⟩ := HO
  refine wpG_val _ (.pointer (some ⟨b, 1, none⟩)) ho4.out rfl rfl ?_ ?_
  · refine FY_in rfl fun wx hx => ?_
    go_simp
    all_goals exact ⟨rfl, rfl⟩
  simp only [Act.put, List.setIfInBounds_toArray, List.set_cons_zero, List.set_cons_succ]
  obtain ⟨ho5, HO⟩ := HO
  refine wpG_val _ (.int .i64 r.e) ho5.out rfl rfl ?_ ?_
  · refine FY_in rfl fun wx hx => ?_
    have hc : wx.cell? ⟨b, 1, none⟩ = some (.int .i64 r.e) := cell_at (hx.heap HH.out (fun h => h)) 1
    go_simp
    all_goals exact ⟨rfl, rfl⟩
  simp only [Act.put, List.setIfInBounds_toArray, List.set_cons_zero, List.set_cons_succ]
  obtain ⟨ho6, HO⟩ := HO
  refine wpG_val _ (.string s1) ho6.out rfl rfl ?_ ?_
  · refine FY_in rfl fun wx hx => ?_
    go_simp
    all_goals exact ⟨rfl, (ddigits_calls r.e wx HE.out.1 HE.out.2).mono fun e w' h => ⟨by rw [h.1, H1.out], by rw [h.2]; exact Frm.refl _ _⟩⟩
  simp only [Act.put, List.setIfInBounds_toArray, List.set_cons_zero, List.set_cons_succ]
  obtain ⟨ho7, HO⟩ := HO
  refine wpG_val _ (.string x16) ho7.out rfl rfl ?_ ?_
  · refine FY_in rfl fun wx hx => ?_
    have hl : ¬ 9223372036854775807 < x12.size + s1.size := by omega
    have hx := HX16.out
    go_simp
    all_goals exact ⟨rfl, rfl⟩
  simp only [Act.put, List.setIfInBounds_toArray, List.set_cons_zero, List.set_cons_succ]
  obtain ⟨ho8, HO⟩ := HO
  refine wpG_val _ (.string x17) ho8.out rfl rfl ?_ ?_
  · refine FY_in rfl fun wx hx => ?_
    have hl : ¬ 9223372036854775807 < x16.size + 1 := by omega
    have hx := HX17.out
    go_simp
    all_goals exact ⟨rfl, rfl⟩
  simp only [Act.put, List.setIfInBounds_toArray, List.set_cons_zero, List.set_cons_succ]
  obtain ⟨ho9, HO⟩ := HO
  refine wpG_val _ (.pointer (some ⟨b, 2, none⟩)) ho9.out rfl rfl ?_ ?_
  · refine FY_in rfl fun wx hx => ?_
    go_simp
    all_goals exact ⟨rfl, rfl⟩
  simp only [Act.put, List.setIfInBounds_toArray, List.set_cons_zero, List.set_cons_succ]
  obtain ⟨ho10, HO⟩ := HO
  refine wpG_val _ (.int .i64 r.w) ho10.out rfl rfl ?_ ?_
  · refine FY_in rfl fun wx hx => ?_
    have hc : wx.cell? ⟨b, 2, none⟩ = some (.int .i64 r.w) := cell_at (hx.heap HH.out (fun h => h)) 2
    go_simp
    all_goals exact ⟨rfl, rfl⟩
  simp only [Act.put, List.setIfInBounds_toArray, List.set_cons_zero, List.set_cons_succ]
  obtain ⟨ho11, HO⟩ := HO
  refine wpG_val _ (.string s2) ho11.out rfl rfl ?_ ?_
  · refine FY_in rfl fun wx hx => ?_
    go_simp
    all_goals exact ⟨rfl, (ddigits_calls r.w wx HW.out.1 HW.out.2).mono fun e w' h => ⟨by rw [h.1, H2.out], by rw [h.2]; exact Frm.refl _ _⟩⟩
  simp only [Act.put, List.setIfInBounds_toArray, List.set_cons_zero, List.set_cons_succ]
  obtain ⟨ho12, HO⟩ := HO
  refine wpG_val _ (.string x21) ho12.out rfl rfl ?_ ?_
  · refine FY_in rfl fun wx hx => ?_
    have hl : ¬ 9223372036854775807 < x17.size + s2.size := by omega
    have hx := HX21.out
    go_simp
    all_goals exact ⟨rfl, rfl⟩
  simp only [Act.put, List.setIfInBounds_toArray, List.set_cons_zero, List.set_cons_succ]
  obtain ⟨ho13, HO⟩ := HO
  refine wpG_val _ (.string x22) ho13.out rfl rfl ?_ ?_
  · refine FY_in rfl fun wx hx => ?_
    have hl : ¬ 9223372036854775807 < x21.size + 1 := by omega
    have hx := HX22.out
    go_simp
    all_goals exact ⟨rfl, rfl⟩
  simp only [Act.put, List.setIfInBounds_toArray, List.set_cons_zero, List.set_cons_succ]
  obtain ⟨ho14, HO⟩ := HO
  refine wpG_val _ (.pointer (some ⟨b, 3, none⟩)) ho14.out rfl rfl ?_ ?_
  · refine FY_in rfl fun wx hx => ?_
    go_simp
    all_goals exact ⟨rfl, rfl⟩
  simp only [Act.put, List.setIfInBounds_toArray, List.set_cons_zero, List.set_cons_succ]
  obtain ⟨ho15, HO⟩ := HO
  refine wpG_val _ (.int .i64 r.n) ho15.out rfl rfl ?_ ?_
  · refine FY_in rfl fun wx hx => ?_
    have hc : wx.cell? ⟨b, 3, none⟩ = some (.int .i64 r.n) := cell_at (hx.heap HH.out (fun h => h)) 3
    go_simp
    all_goals exact ⟨rfl, rfl⟩
  simp only [Act.put, List.setIfInBounds_toArray, List.set_cons_zero, List.set_cons_succ]
  obtain ⟨ho16, HO⟩ := HO
  refine wpG_val _ (.string s3) ho16.out rfl rfl ?_ ?_
  · refine FY_in rfl fun wx hx => ?_
    go_simp
    all_goals exact ⟨rfl, (ddigits_calls r.n wx HN.out.1 HN.out.2).mono fun e w' h => ⟨by rw [h.1, H3.out], by rw [h.2]; exact Frm.refl _ _⟩⟩
  simp only [Act.put, List.setIfInBounds_toArray, List.set_cons_zero, List.set_cons_succ]
  obtain ⟨ho17, HO⟩ := HO
  refine wpG_val _ (.string x26) ho17.out rfl rfl ?_ ?_
  · refine FY_in rfl fun wx hx => ?_
    have hl : ¬ 9223372036854775807 < x22.size + s3.size := by omega
    have hx := HX26.out
    go_simp
    all_goals exact ⟨rfl, rfl⟩
  simp only [Act.put, List.setIfInBounds_toArray, List.set_cons_zero, List.set_cons_succ]
  obtain ⟨ho18, HO⟩ := HO
  refine wpG_val _ (.string x27) ho18.out rfl rfl ?_ ?_
  · refine FY_in rfl fun wx hx => ?_
    have hl : ¬ 9223372036854775807 < x26.size + 1 := by omega
    have hx := HX27.out
    go_simp
    all_goals exact ⟨rfl, rfl⟩
  simp only [Act.put, List.setIfInBounds_toArray, List.set_cons_zero, List.set_cons_succ]
  obtain ⟨ho19, HO⟩ := HO
  refine wpG_val _ (.pointer (some ⟨b, 4, none⟩)) ho19.out rfl rfl ?_ ?_
  · refine FY_in rfl fun wx hx => ?_
    go_simp
    all_goals exact ⟨rfl, rfl⟩
  simp only [Act.put, List.setIfInBounds_toArray, List.set_cons_zero, List.set_cons_succ]
  obtain ⟨ho20, HO⟩ := HO
  refine wpG_val _ (.int .i64 r.q) ho20.out rfl rfl ?_ ?_
  · refine FY_in rfl fun wx hx => ?_
    have hc : wx.cell? ⟨b, 4, none⟩ = some (.int .i64 r.q) := cell_at (hx.heap HH.out (fun h => h)) 4
    go_simp
    all_goals exact ⟨rfl, rfl⟩
  simp only [Act.put, List.setIfInBounds_toArray, List.set_cons_zero, List.set_cons_succ]
  obtain ⟨ho21, HO⟩ := HO
  refine wpG_val _ (.string s4) ho21.out rfl rfl ?_ ?_
  · refine FY_in rfl fun wx hx => ?_
    go_simp
    all_goals exact ⟨rfl, (ddigits_calls r.q wx HQQ.out.1 HQQ.out.2).mono fun e w' h => ⟨by rw [h.1, H4.out], by rw [h.2]; exact Frm.refl _ _⟩⟩
  simp only [Act.put, List.setIfInBounds_toArray, List.set_cons_zero, List.set_cons_succ]
  obtain ⟨ho22, HO⟩ := HO
  refine wpG_val _ (.string x31) ho22.out rfl rfl ?_ ?_
  · refine FY_in rfl fun wx hx => ?_
    have hl : ¬ 9223372036854775807 < x27.size + s4.size := by omega
    have hx := HX31.out
    go_simp
    all_goals exact ⟨rfl, rfl⟩
  simp only [Act.put, List.setIfInBounds_toArray, List.set_cons_zero, List.set_cons_succ]
  refine HQ.out _ _ ?_
  intro w2 hf _ _
  have H5 := hid (hf.heap HH.out (fun h => h))
  have F5 := hid (HF.out.then0 hf)
  clear hf
  simp only [List.drop_succ_cons, List.drop_zero]
  have c5 : w2.cell? ⟨b, 5, none⟩ = some (.string r.t) := cell_at H5.out 5
  have c0 : w2.cell? ⟨b, 0, none⟩ = some (.int .i64 r.k) := cell_at H5.out 0
  have HJ : Hid (x31.data.toList = Lib.join ((partsA r).map (·.data.toList)) [32]) := hid (by
    rw [← HX31.out, ← HX27.out, ← HX26.out, ← HX22.out, ← HX21.out, ← HX17.out, ← HX16.out, ← HX12.out, ← HM.out, ← H1.out, ← H2.out, ← H3.out, ← H4.out]
    simp [ByteArray.data_append, partsA, words, Rc.four, Lib.join_cons, Lib.joinTail])
  have HX31 := hid zx31
  clear HX12 HX16 HX17 HX21 HX22 HX26 HX27 HX31 zx12 zx16 zx17 zx21 zx22 zx26 zx27 z0 z1 z2 z3 z4
  have HPV : Hid (r.p.val = .agg #[.int .i64 r.p.s0, .int .i64 r.p.s1, .int .i64 r.p.s2, .int .i64 r.p.s3, .int .i64 r.p.s4, .int .i64 r.p.s5, .int .i64 r.p.s6, .int .i64 r.p.s7, .int .i64 r.p.s8, .int .i64 r.p.s9, .int .i64 r.p.s10, .int .i64 r.p.s11]) := rfl
  by_cases hE : r.t.toList.isEmpty = true
  case pos =>
    by_cases hk : r.k = 3
    case neg =>
      have hkb : (r.k == 3) = false := beq_eq_false_iff_ne.2 hk
      have e : wordsS r = joinS (partsA r) := by unfold wordsS partsT partsP; rw [if_pos HX.out, if_pos hE, if_neg hk]; simp
      have HEE := hid e
      clear e hk
      go_wp2_with fail
      go_ret
      exact ⟨by rw [HEE.out]; exact congrArg (fun x => Ending.returned (Value.string x)) (str_eq_of HJ.out), F5.out⟩
    case pos =>
      have hkb : (r.k == 3) = true := beq_iff_eq.2 hk
      have HK := hid hk
      have e : wordsS r = joinS (partsA r ++ [textS r.p]) := by unfold wordsS partsT partsP; rw [if_pos HX.out, if_pos hE, if_pos hk]; try simp
      have HEE := hid e
      have HNE : Hid ((partsA r).map (·.data.toList) ≠ []) := hid (by simp [partsA])
      clear e hk
      go_upto_region 8 with fail
      go_wp2_with (refine wpList_load_at (by kernel_rfl) 24 (.tmp 44) (by with_reducible rfl) b 6 (by kernel_rfl) _ _ _ H5.out #[.int .i64 r.p.s0, .int .i64 r.p.s1, .int .i64 r.p.s2, .int .i64 r.p.s3, .int .i64 r.p.s4, .int .i64 r.p.s5, .int .i64 r.p.s6, .int .i64 r.p.s7, .int .i64 r.p.s8, .int .i64 r.p.s9, .int .i64 r.p.s10, .int .i64 r.p.s11] (by kernel_rfl) (by simp) _ Tryd.underlying24 rfl (by kernel_rfl) ?_)
      rw [← HPV.out]
      refine (rtextS_calls r.p _ (HY.out.p HK.out)).mono ?_
      rintro _ w3 ⟨rfl, hf⟩
      have zt := textS_size r.p (HY.out.p HK.out)
      obtain ⟨tt, HTT⟩ : ∃ s, Hid (textS r.p = s) := ⟨_, rfl⟩
      rw [HTT.out] at zt ⊢
      have hm1 : ¬ 9223372036854775807 < 1 + tt.size := by omega
      have hm2 : ¬ 9223372036854775807 < x31.size + (1 + tt.size) := by omega
      go_wp2_with fail
      go_ret
      refine ⟨?_, F5.out.then0 hf⟩
      rw [HEE.out]
      refine congrArg (fun x => Ending.returned (Value.string x)) (str_eq_of ?_)
      rw [List.map_append, List.map_cons, List.map_nil, join_snoc _ _ HNE.out, ByteArray.data_append, Array.toList_append, sp_app, HTT.out]
      rw [HJ.out]
  case neg =>
    have hE2 : r.t.toList.isEmpty = false := by simpa using hE
    have ht := HY.out.t
    have hl1 : ¬ 9223372036854775807 < 1 + r.t.size := by omega
    have hl2 : ¬ 9223372036854775807 < x31.size + (1 + r.t.size) := by omega
    have hne : (partsA r).map (·.data.toList) ≠ [] := by simp [partsA]
    by_cases hk : r.k = 3
    case neg =>
      have hkb : (r.k == 3) = false := beq_eq_false_iff_ne.2 hk
      have e : wordsS r = joinS (partsA r ++ [r.t]) := by unfold wordsS partsT partsP; rw [if_pos HX.out, if_neg hE, if_neg hk]; simp
      have HEE := hid e
      have HNE := hid hne
      clear e hk hE ht hne
      go_wp2_with fail
      go_ret
      refine ⟨?_, F5.out⟩
      rw [HEE.out]
      refine congrArg (fun x => Ending.returned (Value.string x)) (str_eq_of ?_)
      rw [List.map_append, List.map_cons, List.map_nil, join_snoc _ _ HNE.out, ByteArray.data_append, Array.toList_append, HJ.out, sp_app]
    case pos =>
      have hkb : (r.k == 3) = true := beq_iff_eq.2 hk
      have HK := hid hk
      have e : wordsS r = joinS ((partsA r ++ [r.t]) ++ [textS r.p]) := by unfold wordsS partsT partsP; rw [if_pos HX.out, if_neg hE, if_pos hk]; try simp
      have HEE := hid e
      have HNE : Hid (((partsA r ++ [r.t])).map (·.data.toList) ≠ []) := hid (by simp [partsA])
      clear e hk
      go_upto_region 8 with fail
      go_wp2_with (refine wpList_load_at (by kernel_rfl) 24 (.tmp 44) (by with_reducible rfl) b 6 (by kernel_rfl) _ _ _ H5.out #[.int .i64 r.p.s0, .int .i64 r.p.s1, .int .i64 r.p.s2, .int .i64 r.p.s3, .int .i64 r.p.s4, .int .i64 r.p.s5, .int .i64 r.p.s6, .int .i64 r.p.s7, .int .i64 r.p.s8, .int .i64 r.p.s9, .int .i64 r.p.s10, .int .i64 r.p.s11] (by kernel_rfl) (by simp) _ Tryd.underlying24 rfl (by kernel_rfl) ?_)
      rw [← HPV.out]
      refine (rtextS_calls r.p _ (HY.out.p HK.out)).mono ?_
      rintro _ w3 ⟨rfl, hf⟩
      have zt := textS_size r.p (HY.out.p HK.out)
      obtain ⟨tt, HTT⟩ : ∃ s, Hid (textS r.p = s) := ⟨_, rfl⟩
      rw [HTT.out] at zt ⊢
      have hm1 : ¬ 9223372036854775807 < 1 + tt.size := by omega
      have hm2 : ¬ 9223372036854775807 < x31.size + (1 + r.t.size) + (1 + tt.size) := by omega
      go_wp2_with fail
      go_ret
      refine ⟨?_, F5.out.then0 hf⟩
      rw [HEE.out]
      refine congrArg (fun x => Ending.returned (Value.string x)) (str_eq_of ?_)
      rw [List.map_append, List.map_cons, List.map_nil, join_snoc _ _ HNE.out, ByteArray.data_append, Array.toList_append, sp_app, HTT.out]
      rw [List.map_append, List.map_cons, List.map_nil, join_snoc _ _ (by simp [partsA]), ByteArray.data_append, Array.toList_append, HJ.out, sp_app]
end Go.Proofs.YtinbidmgllmglaaDoor
namespace Go.Proofs.YtinbidmgllmglaaDoor
set_option linter.unusedVariables false
set_option linter.unusedSimpArgs false
set_option maxRecDepth 20000
open Go.RowKit Cp

def shortT (t : ByteArray) : ByteArray := if t.size ≤ 70 then t else t.extract 0 70
def shortR (r : Rc) : Rc := ⟨r.k, r.e, r.w, r.n, r.q, shortT r.t, r.p⟩
theorem shortT_size (t : ByteArray) : (shortT t).size ≤ 70 := by
  unfold shortT
  split
  · assumption
  · rw [ByteArray.size_extract]; omega
set_option maxRecDepth 20000 in
set_option maxHeartbeats 4000000 in
theorem short_calls (r : Rc) (w : World) (ht : r.t.size ≤ 9223372036854775807) : Calls Tryd.prog 10 #[r.val] w fun e w' => e = .returned (shortR r).val ∧ Frm M0 w w' := by
  have HV : Hid (r.val = .agg #[.int .i64 r.k, .int .i64 r.e, .int .i64 r.w, .int .i64 r.n, .int .i64 r.q, .string r.t, .int .i64 r.p.s0, .int .i64 r.p.s1, .int .i64 r.p.s2, .int .i64 r.p.s3, .int .i64 r.p.s4, .int .i64 r.p.s5, .int .i64 r.p.s6, .int .i64 r.p.s7, .int .i64 r.p.s8, .int .i64 r.p.s9, .int .i64 r.p.s10, .int .i64 r.p.s11]) := rfl
  rw [HV.out]
  by_cases h : r.t.size ≤ 70
  · have h1 : min (r.t.size : Int) 70 = r.t.size := by omega
    have HS : Hid (shortR r = r) := hid (by unfold shortR shortT; rw [if_pos h])
    clear h
    go_enter Tryd.func10, Tryd.ntmps10
    go_upto_region 2 with fail
    obtain ⟨hA, hZ⟩ := new2 w (.cells #[.int .i64 r.k, .int .i64 r.e, .int .i64 r.w, .int .i64 r.n, .int .i64 r.q, .string (r.t), .int .i64 r.p.s0, .int .i64 r.p.s1, .int .i64 r.p.s2, .int .i64 r.p.s3, .int .i64 r.p.s4, .int .i64 r.p.s5, .int .i64 r.p.s6, .int .i64 r.p.s7, .int .i64 r.p.s8, .int .i64 r.p.s9, .int .i64 r.p.s10, .int .i64 r.p.s11] 26) (.cells #[.int .i64 0, .int .i64 0, .int .i64 0, .int .i64 0, .int .i64 0, .string ⟨#[]⟩, .int .i64 0, .int .i64 0, .int .i64 0, .int .i64 0, .int .i64 0, .int .i64 0, .int .i64 0, .int .i64 0, .int .i64 0, .int .i64 0, .int .i64 0, .int .i64 0] 26)
    have hF := ((Frm.refl M0 w).alloc (.cells #[.int .i64 r.k, .int .i64 r.e, .int .i64 r.w, .int .i64 r.n, .int .i64 r.q, .string (r.t), .int .i64 r.p.s0, .int .i64 r.p.s1, .int .i64 r.p.s2, .int .i64 r.p.s3, .int .i64 r.p.s4, .int .i64 r.p.s5, .int .i64 r.p.s6, .int .i64 r.p.s7, .int .i64 r.p.s8, .int .i64 r.p.s9, .int .i64 r.p.s10, .int .i64 r.p.s11] 26)).alloc (.cells #[.int .i64 0, .int .i64 0, .int .i64 0, .int .i64 0, .int .i64 0, .string ⟨#[]⟩, .int .i64 0, .int .i64 0, .int .i64 0, .int .i64 0, .int .i64 0, .int .i64 0, .int .i64 0, .int .i64 0, .int .i64 0, .int .i64 0, .int .i64 0, .int .i64 0] 26)
    obtain ⟨w1, hw1⟩ : ∃ x, x = (w.alloc (.cells #[.int .i64 r.k, .int .i64 r.e, .int .i64 r.w, .int .i64 r.n, .int .i64 r.q, .string (r.t), .int .i64 r.p.s0, .int .i64 r.p.s1, .int .i64 r.p.s2, .int .i64 r.p.s3, .int .i64 r.p.s4, .int .i64 r.p.s5, .int .i64 r.p.s6, .int .i64 r.p.s7, .int .i64 r.p.s8, .int .i64 r.p.s9, .int .i64 r.p.s10, .int .i64 r.p.s11] 26)).alloc (.cells #[.int .i64 0, .int .i64 0, .int .i64 0, .int .i64 0, .int .i64 0, .string ⟨#[]⟩, .int .i64 0, .int .i64 0, .int .i64 0, .int .i64 0, .int .i64 0, .int .i64 0, .int .i64 0, .int .i64 0, .int .i64 0, .int .i64 0, .int .i64 0, .int .i64 0] 26) := ⟨_, rfl⟩
    rw [← hw1] at hA hZ hF
    rw [← hw1]
    clear hw1
    have HA := hid hA
    have HZ := hid hZ
    have HF := hid hF
    clear hA hZ hF
    go_wp2_with (first | (refine wpList_load_row_w (by kernel_rfl) 26 (.tmp 1) (by with_reducible rfl) w.heap.size (by kernel_rfl) _ _ _ _ HA.out Tryd.underlying26 rfl (by kernel_rfl) ?_) | (refine wpList_store_row rfl 26 (.tmp 2) (.tmp 11) (by with_reducible rfl) (w.heap.size + 1) #[.int .i64 r.k, .int .i64 r.e, .int .i64 r.w, .int .i64 r.n, .int .i64 r.q, .string (r.t), .int .i64 r.p.s0, .int .i64 r.p.s1, .int .i64 r.p.s2, .int .i64 r.p.s3, .int .i64 r.p.s4, .int .i64 r.p.s5, .int .i64 r.p.s6, .int .i64 r.p.s7, .int .i64 r.p.s8, .int .i64 r.p.s9, .int .i64 r.p.s10, .int .i64 r.p.s11] (by kernel_rfl) (by kernel_rfl) _ _ HZ.out (by kernel_rfl) (by rfl) (by simp [Value.oneCell']) ?_))
    refine bodyPost_ret (results_cell_row (by rfl) _ _ (w.heap.size + 1) _ _ _ _ (by kernel_rfl) (setRow_heap _ _ _ _ _ _ HZ.out) Tryd.underlying26 rfl (by kernel_rfl)) rfl ⟨by rw [HS.out]; rfl, HF.out.setRow _ _ (by omega)⟩
  · have h1 : min (r.t.size : Int) 70 = 70 := by omega
    have HS : Hid (shortR r = ⟨r.k, r.e, r.w, r.n, r.q, r.t.extract 0 70, r.p⟩) := hid (by unfold shortR shortT; rw [if_neg h])
    have h2 : 70 ≤ r.t.size := by omega
    clear h
    go_enter Tryd.func10, Tryd.ntmps10
    go_upto_region 2 with fail
    obtain ⟨hA, hZ⟩ := new2 w (.cells #[.int .i64 r.k, .int .i64 r.e, .int .i64 r.w, .int .i64 r.n, .int .i64 r.q, .string (r.t.extract 0 70), .int .i64 r.p.s0, .int .i64 r.p.s1, .int .i64 r.p.s2, .int .i64 r.p.s3, .int .i64 r.p.s4, .int .i64 r.p.s5, .int .i64 r.p.s6, .int .i64 r.p.s7, .int .i64 r.p.s8, .int .i64 r.p.s9, .int .i64 r.p.s10, .int .i64 r.p.s11] 26) (.cells #[.int .i64 0, .int .i64 0, .int .i64 0, .int .i64 0, .int .i64 0, .string ⟨#[]⟩, .int .i64 0, .int .i64 0, .int .i64 0, .int .i64 0, .int .i64 0, .int .i64 0, .int .i64 0, .int .i64 0, .int .i64 0, .int .i64 0, .int .i64 0, .int .i64 0] 26)
    have hF := ((Frm.refl M0 w).alloc (.cells #[.int .i64 r.k, .int .i64 r.e, .int .i64 r.w, .int .i64 r.n, .int .i64 r.q, .string (r.t.extract 0 70), .int .i64 r.p.s0, .int .i64 r.p.s1, .int .i64 r.p.s2, .int .i64 r.p.s3, .int .i64 r.p.s4, .int .i64 r.p.s5, .int .i64 r.p.s6, .int .i64 r.p.s7, .int .i64 r.p.s8, .int .i64 r.p.s9, .int .i64 r.p.s10, .int .i64 r.p.s11] 26)).alloc (.cells #[.int .i64 0, .int .i64 0, .int .i64 0, .int .i64 0, .int .i64 0, .string ⟨#[]⟩, .int .i64 0, .int .i64 0, .int .i64 0, .int .i64 0, .int .i64 0, .int .i64 0, .int .i64 0, .int .i64 0, .int .i64 0, .int .i64 0, .int .i64 0, .int .i64 0] 26)
    obtain ⟨w1, hw1⟩ : ∃ x, x = (w.alloc (.cells #[.int .i64 r.k, .int .i64 r.e, .int .i64 r.w, .int .i64 r.n, .int .i64 r.q, .string (r.t.extract 0 70), .int .i64 r.p.s0, .int .i64 r.p.s1, .int .i64 r.p.s2, .int .i64 r.p.s3, .int .i64 r.p.s4, .int .i64 r.p.s5, .int .i64 r.p.s6, .int .i64 r.p.s7, .int .i64 r.p.s8, .int .i64 r.p.s9, .int .i64 r.p.s10, .int .i64 r.p.s11] 26)).alloc (.cells #[.int .i64 0, .int .i64 0, .int .i64 0, .int .i64 0, .int .i64 0, .string ⟨#[]⟩, .int .i64 0, .int .i64 0, .int .i64 0, .int .i64 0, .int .i64 0, .int .i64 0, .int .i64 0, .int .i64 0, .int .i64 0, .int .i64 0, .int .i64 0, .int .i64 0] 26) := ⟨_, rfl⟩
    rw [← hw1] at hA hZ hF
    rw [← hw1]
    clear hw1
    have HA := hid hA
    have HZ := hid hZ
    have HF := hid hF
    clear hA hZ hF
    go_wp2_with (first | (refine wpList_load_row_w (by kernel_rfl) 26 (.tmp 1) (by with_reducible rfl) w.heap.size (by kernel_rfl) _ _ _ _ HA.out Tryd.underlying26 rfl (by kernel_rfl) ?_) | (refine wpList_store_row rfl 26 (.tmp 2) (.tmp 11) (by with_reducible rfl) (w.heap.size + 1) #[.int .i64 r.k, .int .i64 r.e, .int .i64 r.w, .int .i64 r.n, .int .i64 r.q, .string (r.t.extract 0 70), .int .i64 r.p.s0, .int .i64 r.p.s1, .int .i64 r.p.s2, .int .i64 r.p.s3, .int .i64 r.p.s4, .int .i64 r.p.s5, .int .i64 r.p.s6, .int .i64 r.p.s7, .int .i64 r.p.s8, .int .i64 r.p.s9, .int .i64 r.p.s10, .int .i64 r.p.s11] (by kernel_rfl) (by kernel_rfl) _ _ HZ.out (by kernel_rfl) (by rfl) (by simp [Value.oneCell']) ?_))
    refine bodyPost_ret (results_cell_row (by rfl) _ _ (w.heap.size + 1) _ _ _ _ (by kernel_rfl) (setRow_heap _ _ _ _ _ _ HZ.out) Tryd.underlying26 rfl (by kernel_rfl)) rfl ⟨by rw [HS.out]; rfl, HF.out.setRow _ _ (by omega)⟩
end Go.Proofs.YtinbidmgllmglaaDoor
namespace Go.Proofs.YtinbidmgllmglaaDoor
set_option linter.unusedVariables false
set_option linter.unusedSimpArgs false
set_option maxRecDepth 20000
open Go.RowKit Cp

theorem short_fine (r : Rc) (h : r.ok) : (shortR r).fine := by
  obtain ⟨⟨h0, h1, h2, h3, h4⟩, ht, ⟨p0, p1, p2, p3, p4⟩, ⟨p5, p6, p7, p8⟩, p9, p10, p11⟩ := h
  refine ⟨?_, by have := shortT_size r.t; show (shortT r.t).size ≤ _; omega, fun _ => ?_⟩
  · intro x hx
    simp only [Rc.four, shortR, List.mem_cons, List.not_mem_nil, or_false] at hx
    rcases hx with rfl | rfl | rfl | rfl
    · exact wf_i64 h1
    · exact wf_i64 h2
    · exact wf_i64 h3
    · exact wf_i64 h4
  · intro x hx
    simp only [Sp.nums, shortR, List.mem_cons, List.not_mem_nil, or_false] at hx
    rcases hx with rfl | rfl | rfl | rfl | rfl | rfl | rfl | rfl | rfl | rfl | rfl | rfl
    · exact wf_i64 p0
    · exact wf_i64 p1
    · exact wf_i64 p2
    · exact wf_i64 p3
    · exact wf_i64 p4
    · exact wf_i64 p5
    · exact wf_i64 p6
    · exact wf_i64 p7
    · exact wf_i64 p8
    · exact wf_i64 p9
    · exact wf_i64 p10
    · exact wf_i64 p11
theorem rright_same (r : Rc) (w : World) : Calls Tryd.prog 14 #[r.val] w fun x w' => x = .returned (.bool (rightB r)) ∧ Frm M0 w w' := by rw [right_eq]; exact rright_calls r w
theorem rbytesF_eq (r : Rc) : rbytesF r = bytesF r := by unfold rbytesF bytesF; rw [right_eq]

set_option maxRecDepth 20000 in
set_option maxHeartbeats 16000000 in
theorem recordWrites_walk (W : World) (ht : Tab W) (r : Rc) (hok : r.ok) :
    Calls Tryd.prog 3 #[r.val] W fun y w' => y = .returned (.bool true) ∧ Below W.heap.size W w' := by
  have hts : r.t.size ≤ 9223372036854775807 := hok.2.1
  have HT := hid ht
  obtain ⟨s, HS⟩ : ∃ s, Hid (shortR r = s) := ⟨_, rfl⟩
  have HFI : Hid s.fine := hid (by rw [← HS.out]; exact short_fine r hok)
  have hz : s.t.size ≤ 100000 := by rw [← HS.out]; have := shortT_size r.t; show (shortT r.t).size ≤ _; omega
  clear hok ht
  have HVr : Hid (r.val = .agg #[.int .i64 r.k, .int .i64 r.e, .int .i64 r.w, .int .i64 r.n, .int .i64 r.q, .string r.t, .int .i64 r.p.s0, .int .i64 r.p.s1, .int .i64 r.p.s2, .int .i64 r.p.s3, .int .i64 r.p.s4, .int .i64 r.p.s5, .int .i64 r.p.s6, .int .i64 r.p.s7, .int .i64 r.p.s8, .int .i64 r.p.s9, .int .i64 r.p.s10, .int .i64 r.p.s11]) := rfl
  have HVs : Hid (s.val = .agg #[.int .i64 s.k, .int .i64 s.e, .int .i64 s.w, .int .i64 s.n, .int .i64 s.q, .string s.t, .int .i64 s.p.s0, .int .i64 s.p.s1, .int .i64 s.p.s2, .int .i64 s.p.s3, .int .i64 s.p.s4, .int .i64 s.p.s5, .int .i64 s.p.s6, .int .i64 s.p.s7, .int .i64 s.p.s8, .int .i64 s.p.s9, .int .i64 s.p.s10, .int .i64 s.p.s11]) := rfl
  rw [HVr.out]
  go_enter Tryd.func3, Tryd.ntmps3
  go_wp2_with fail
  refine (rlives_calls _).mono ?_
  rintro _ w1 ⟨rfl, hf⟩
  obtain ⟨b, hb⟩ : ∃ x, x = W.heap.size := ⟨_, rfl⟩
  have H1 := hid (hf.heap (new1 W (.cells #[.int .i64 r.k, .int .i64 r.e, .int .i64 r.w, .int .i64 r.n, .int .i64 r.q, .string r.t, .int .i64 r.p.s0, .int .i64 r.p.s1, .int .i64 r.p.s2, .int .i64 r.p.s3, .int .i64 r.p.s4, .int .i64 r.p.s5, .int .i64 r.p.s6, .int .i64 r.p.s7, .int .i64 r.p.s8, .int .i64 r.p.s9, .int .i64 r.p.s10, .int .i64 r.p.s11] 26)) (fun h => h))
  have F1 := hid (((Frm.refl M0 W).alloc (.cells #[.int .i64 r.k, .int .i64 r.e, .int .i64 r.w, .int .i64 r.n, .int .i64 r.q, .string r.t, .int .i64 r.p.s0, .int .i64 r.p.s1, .int .i64 r.p.s2, .int .i64 r.p.s3, .int .i64 r.p.s4, .int .i64 r.p.s5, .int .i64 r.p.s6, .int .i64 r.p.s7, .int .i64 r.p.s8, .int .i64 r.p.s9, .int .i64 r.p.s10, .int .i64 r.p.s11] 26)).then0 hf)
  have HBB : b < w1.heap.size := by have := sb_lt H1.out; omega
  rw [← hb] at H1 ⊢
  have HB := hid hb
  clear hf hb
  go_wp2_with (refine wpList_load_row_w (by kernel_rfl) 26 (.tmp 1) (by with_reducible rfl) b (by kernel_rfl) _ _ _ _ H1.out Tryd.underlying26 rfl (by kernel_rfl) ?_)
  rw [← HVr.out]
  refine (short_calls r _ hts).mono ?_
  rintro _ w2 ⟨rfl, hf⟩
  rw [HS.out, HVs.out]
  have H2 := hid (hf.heap H1.out (fun h => h))
  have F2 := hid (F1.out.then0 hf)
  clear hf H1 F1
  go_upto_region 4 with (refine wpList_store_row rfl 26 (.tmp 1) (.tmp 10) (by with_reducible rfl) b #[.int .i64 s.k, .int .i64 s.e, .int .i64 s.w, .int .i64 s.n, .int .i64 s.q, .string s.t, .int .i64 s.p.s0, .int .i64 s.p.s1, .int .i64 s.p.s2, .int .i64 s.p.s3, .int .i64 s.p.s4, .int .i64 s.p.s5, .int .i64 s.p.s6, .int .i64 s.p.s7, .int .i64 s.p.s8, .int .i64 s.p.s9, .int .i64 s.p.s10, .int .i64 s.p.s11] (by kernel_rfl) (by kernel_rfl) _ _ H2.out (by kernel_rfl) (by rfl) (by simp [Value.oneCell']) ?_)
  have H3 := hid (setRow_heap w2 b _ #[.int .i64 s.k, .int .i64 s.e, .int .i64 s.w, .int .i64 s.n, .int .i64 s.q, .string s.t, .int .i64 s.p.s0, .int .i64 s.p.s1, .int .i64 s.p.s2, .int .i64 s.p.s3, .int .i64 s.p.s4, .int .i64 s.p.s5, .int .i64 s.p.s6, .int .i64 s.p.s7, .int .i64 s.p.s8, .int .i64 s.p.s9, .int .i64 s.p.s10, .int .i64 s.p.s11] _ _ H2.out)
  have F3 := hid (F2.out.setRow b #[.int .i64 s.k, .int .i64 s.e, .int .i64 s.w, .int .i64 s.n, .int .i64 s.q, .string s.t, .int .i64 s.p.s0, .int .i64 s.p.s1, .int .i64 s.p.s2, .int .i64 s.p.s3, .int .i64 s.p.s4, .int .i64 s.p.s5, .int .i64 s.p.s6, .int .i64 s.p.s7, .int .i64 s.p.s8, .int .i64 s.p.s9, .int .i64 s.p.s10, .int .i64 s.p.s11] (by have := HB.out; omega))
  obtain ⟨w3, hw3⟩ : ∃ x, x = w2.setRow b #[.int .i64 s.k, .int .i64 s.e, .int .i64 s.w, .int .i64 s.n, .int .i64 s.q, .string s.t, .int .i64 s.p.s0, .int .i64 s.p.s1, .int .i64 s.p.s2, .int .i64 s.p.s3, .int .i64 s.p.s4, .int .i64 s.p.s5, .int .i64 s.p.s6, .int .i64 s.p.s7, .int .i64 s.p.s8, .int .i64 s.p.s9, .int .i64 s.p.s10, .int .i64 s.p.s11] := ⟨_, rfl⟩
  rw [← hw3] at H3 F3
  rw [← hw3]
  clear hw3 H2 F2
  go_wp2_with (refine wpList_load_row_w (by kernel_rfl) 26 (.tmp 1) (by with_reducible rfl) b (by kernel_rfl) _ _ _ _ H3.out Tryd.underlying26 rfl (by kernel_rfl) ?_)
  rw [← HVs.out]
  refine (bytes_calls s _ hz).mono ?_
  rintro _ w4 ⟨v4, rfl, hr, hf⟩
  rw [HVs.out]
  have S4 : Hid (Sb M0 w4 fun x => x.heap[b]? = some (.cells #[.int .i64 s.k, .int .i64 s.e, .int .i64 s.w, .int .i64 s.n, .int .i64 s.q, .string s.t, .int .i64 s.p.s0, .int .i64 s.p.s1, .int .i64 s.p.s2, .int .i64 s.p.s3, .int .i64 s.p.s4, .int .i64 s.p.s5, .int .i64 s.p.s6, .int .i64 s.p.s7, .int .i64 s.p.s8, .int .i64 s.p.s9, .int .i64 s.p.s10, .int .i64 s.p.s11] 26 (0, 0)) ∧ Rd x 1 v4 (bytesF s).1.length (ints .u8 (bytesF s).1) ∧ Frm M0 W x) := hid fun wx hx => ⟨(hf.same hx).heap H3.out (fun h => h), hr.frm0 hx, (F3.out.then0 hf).same hx⟩
  clear hf hr H3 F3
  go_wp2_with (refine wpList_load_row_w (by kernel_rfl) 26 (.tmp 1) (by with_reducible rfl) b (by kernel_rfl) _ _ _ _ S4.out.now.1 Tryd.underlying26 rfl (by kernel_rfl) ?_)
  rw [← HVs.out]
  refine (rbytes_calls s _ hz).mono ?_
  rintro _ w5 ⟨v5, rfl, hr, hf⟩
  rw [HVs.out]
  rw [rbytesF_eq] at hr ⊢
  have S5 : Hid (Sb M0 w5 fun x => (x.heap[b]? = some (.cells #[.int .i64 s.k, .int .i64 s.e, .int .i64 s.w, .int .i64 s.n, .int .i64 s.q, .string s.t, .int .i64 s.p.s0, .int .i64 s.p.s1, .int .i64 s.p.s2, .int .i64 s.p.s3, .int .i64 s.p.s4, .int .i64 s.p.s5, .int .i64 s.p.s6, .int .i64 s.p.s7, .int .i64 s.p.s8, .int .i64 s.p.s9, .int .i64 s.p.s10, .int .i64 s.p.s11] 26 (0, 0)) ∧ Rd x 1 v4 (bytesF s).1.length (ints .u8 (bytesF s).1) ∧ Frm M0 W x) ∧ Rd x 1 v5 (bytesF s).1.length (ints .u8 (bytesF s).1) ∧ Tab x) := hid ((S4.out.step hf).and fun wx hx => ⟨hr.frm0 hx, HT.out.frm ((S4.out.step hf) wx hx).2.2⟩)
  clear hf hr S4 HT
  obtain ⟨B, HBF⟩ : ∃ x, Hid (bytesF s = x) := ⟨_, rfl⟩
  rw [HBF.out] at S5
  rw [HBF.out]
  go_upto_region 6 with fail
  apply wp_region_G 33 (fun _ => none) (valsL ((.agg #[.int .i64 s.k, .int .i64 s.e, .int .i64 s.w, .int .i64 s.n, .int .i64 s.q, .string s.t, .int .i64 s.p.s0, .int .i64 s.p.s1, .int .i64 s.p.s2, .int .i64 s.p.s3, .int .i64 s.p.s4, .int .i64 s.p.s5, .int .i64 s.p.s6, .int .i64 s.p.s7, .int .i64 s.p.s8, .int .i64 s.p.s9, .int .i64 s.p.s10, .int .i64 s.p.s11]) :: _ :: (.agg #[.int .i64 s.k, .int .i64 s.e, .int .i64 s.w, .int .i64 s.n, .int .i64 s.q, .string s.t, .int .i64 s.p.s0, .int .i64 s.p.s1, .int .i64 s.p.s2, .int .i64 s.p.s3, .int .i64 s.p.s4, .int .i64 s.p.s5, .int .i64 s.p.s6, .int .i64 s.p.s7, .int .i64 s.p.s8, .int .i64 s.p.s9, .int .i64 s.p.s10, .int .i64 s.p.s11]) :: _ :: _ :: _ :: _ :: _ :: _ :: _ :: _ :: _ :: _ :: _ :: _ :: _ :: _ :: _ :: (.agg #[.int .i64 s.k, .int .i64 s.e, .int .i64 s.w, .int .i64 s.n, .int .i64 s.q, .string s.t, .int .i64 s.p.s0, .int .i64 s.p.s1, .int .i64 s.p.s2, .int .i64 s.p.s3, .int .i64 s.p.s4, .int .i64 s.p.s5, .int .i64 s.p.s6, .int .i64 s.p.s7, .int .i64 s.p.s8, .int .i64 s.p.s9, .int .i64 s.p.s10, .int .i64 s.p.s11]) :: _ :: (.agg #[.int .i64 s.k, .int .i64 s.e, .int .i64 s.w, .int .i64 s.n, .int .i64 s.q, .string s.t, .int .i64 s.p.s0, .int .i64 s.p.s1, .int .i64 s.p.s2, .int .i64 s.p.s3, .int .i64 s.p.s4, .int .i64 s.p.s5, .int .i64 s.p.s6, .int .i64 s.p.s7, .int .i64 s.p.s8, .int .i64 s.p.s9, .int .i64 s.p.s10, .int .i64 s.p.s11]) :: _ :: _ :: _ :: _ :: _ :: _ :: _ :: _ :: _ :: _ :: _ :: _ :: [])) ?hm ?hB ?hal ?main
  case hm => kernel_rfl
  case hB => kernel_rfl
  case hal =>
    intro i o obj ho hi
    cases hi
  rotate_left 29
  intro ops QT HO HQ
  obtain ⟨ho0, HO⟩ := HO
  refine wpG_v ho0.out rfl ?_ ?_
  · simp only [valsL_zero, valsL_succ]; apply FY_in rfl; intro wx hx
    exact fu_load_row_g 26 (.tmp 1) rfl (b) (by kernel_rfl) _ _ _ _ ((S5.out wx hx).1.1) Tryd.underlying26 rfl (by kernel_rfl)
  simp only [Act.put, List.setIfInBounds_toArray, List.set_cons_zero, List.set_cons_succ, valsL_zero, valsL_succ]
  obtain ⟨ho1, HO⟩ := HO
  refine wpG_v ho1.out rfl ?_ ?_
  · simp only [valsL_zero, valsL_succ]; apply FY_in rfl; intro wx hx
    go_simp
    exact ⟨rfl, (right_calls s _).mono (fun e w' h => ⟨h.1, h.2⟩)⟩
  simp only [Act.put, List.setIfInBounds_toArray, List.set_cons_zero, List.set_cons_succ, valsL_zero, valsL_succ]
  obtain ⟨ho2, HO⟩ := HO
  refine wpG_v ho2.out rfl ?_ ?_
  · simp only [valsL_zero, valsL_succ]; apply FY_in rfl; intro wx hx
    exact fu_load_row_g 26 (.tmp 1) rfl (b) (by kernel_rfl) _ _ _ _ ((S5.out wx hx).1.1) Tryd.underlying26 rfl (by kernel_rfl)
  simp only [Act.put, List.setIfInBounds_toArray, List.set_cons_zero, List.set_cons_succ, valsL_zero, valsL_succ]
  obtain ⟨ho3, HO⟩ := HO
  refine wpG_v ho3.out rfl ?_ ?_
  · simp only [valsL_zero, valsL_succ]; apply FY_in rfl; intro wx hx
    go_simp
    exact ⟨rfl, (rright_same s _).mono (fun e w' h => ⟨h.1, h.2⟩)⟩
  simp only [Act.put, List.setIfInBounds_toArray, List.set_cons_zero, List.set_cons_succ, valsL_zero, valsL_succ]
  obtain ⟨ho4, HO⟩ := HO
  refine wpG_v ho4.out rfl ?_ ?_
  · simp only [valsL_zero, valsL_succ]; apply FY_in rfl; intro wx hx
    go_simp
    exact ⟨rfl, rfl⟩
  simp only [Act.put, List.setIfInBounds_toArray, List.set_cons_zero, List.set_cons_succ, valsL_zero, valsL_succ]
  obtain ⟨ho5, HO⟩ := HO
  refine wpG_v ho5.out rfl ?_ ?_
  · simp only [valsL_zero, valsL_succ]; apply FY_in rfl; intro wx hx
    go_simp
    exact ⟨rfl, rfl⟩
  simp only [Act.put, List.setIfInBounds_toArray, List.set_cons_zero, List.set_cons_succ, valsL_zero, valsL_succ]
  obtain ⟨ho6, HO⟩ := HO
  refine wpG_v ho6.out rfl ?_ ?_
  · simp only [valsL_zero, valsL_succ]; apply FY_yes (d := 26) rfl ho5.out (by rfl) (by kernel_rfl); intro wx hx
    go_simp
    exact ⟨rfl, rfl⟩
  simp only [Act.put, List.setIfInBounds_toArray, List.set_cons_zero, List.set_cons_succ, valsL_zero, valsL_succ]
  obtain ⟨ho7, HO⟩ := HO
  refine wpG_v ho7.out rfl ?_ ?_
  · simp only [valsL_zero, valsL_succ]; apply FY_yes (d := 26) rfl ho5.out (by rfl) (by kernel_rfl); intro wx hx
    have hs := run_str (P := Tryd.prog) 29 9 5 Tryd.underlying29 Tryd.underlying9 Tryd.underlying5 ((S5.out wx hx).1.2.1)
    go_simp
    exact ⟨rfl, rfl⟩
  simp only [Act.put, List.setIfInBounds_toArray, List.set_cons_zero, List.set_cons_succ, valsL_zero, valsL_succ]
  obtain ⟨ho8, HO⟩ := HO
  refine wpG_v ho8.out rfl ?_ ?_
  · simp only [valsL_zero, valsL_succ]; apply FY_yes (d := 26) rfl ho5.out (by rfl) (by kernel_rfl); intro wx hx
    go_simp
    exact ⟨rfl, rfl⟩
  simp only [Act.put, List.setIfInBounds_toArray, List.set_cons_zero, List.set_cons_succ, valsL_zero, valsL_succ]
  obtain ⟨ho9, HO⟩ := HO
  refine wpG_v ho9.out rfl ?_ ?_
  · simp only [valsL_zero, valsL_succ]; apply FY_yes (d := 26) rfl ho5.out (by rfl) (by kernel_rfl); intro wx hx
    have hs := run_str (P := Tryd.prog) 29 9 5 Tryd.underlying29 Tryd.underlying9 Tryd.underlying5 ((S5.out wx hx).2.1)
    go_simp
    exact ⟨rfl, rfl⟩
  simp only [Act.put, List.setIfInBounds_toArray, List.set_cons_zero, List.set_cons_succ, valsL_zero, valsL_succ]
  obtain ⟨ho10, HO⟩ := HO
  refine wpG_v ho10.out rfl ?_ ?_
  · simp only [valsL_zero, valsL_succ]; apply FY_yes (d := 26) rfl ho5.out (by rfl) (by kernel_rfl); intro wx hx
    go_simp
    exact ⟨rfl, rfl⟩
  simp only [Act.put, List.setIfInBounds_toArray, List.set_cons_zero, List.set_cons_succ, valsL_zero, valsL_succ]
  obtain ⟨ho11, HO⟩ := HO
  refine wpG_v ho11.out rfl ?_ ?_
  · simp only [valsL_zero, valsL_succ]; apply FY_in rfl; intro wx hx
    go_simp
    exact ⟨rfl, rfl⟩
  simp only [Act.put, List.setIfInBounds_toArray, List.set_cons_zero, List.set_cons_succ, valsL_zero, valsL_succ]
  obtain ⟨ho12, HO⟩ := HO
  refine wpG_v ho12.out rfl ?_ ?_
  · simp only [valsL_zero, valsL_succ]; apply FY_in rfl; intro wx hx
    go_simp
    exact ⟨rfl, rfl⟩
  simp only [Act.put, List.setIfInBounds_toArray, List.set_cons_zero, List.set_cons_succ, valsL_zero, valsL_succ]
  obtain ⟨ho13, HO⟩ := HO
  refine wpG_v ho13.out rfl ?_ ?_
  · simp only [valsL_zero, valsL_succ]; apply FY_yes (d := 33) rfl ho12.out (by rfl) (by kernel_rfl); intro wx hx
    go_simp
    exact ⟨rfl, rfl⟩
  simp only [Act.put, List.setIfInBounds_toArray, List.set_cons_zero, List.set_cons_succ, valsL_zero, valsL_succ]
  obtain ⟨ho14, HO⟩ := HO
  refine wpG_v ho14.out rfl ?_ ?_
  · simp only [valsL_zero, valsL_succ]; apply FY_yes (d := 33) rfl ho12.out (by rfl) (by kernel_rfl); intro wx hx
    go_simp
    exact ⟨rfl, rfl⟩
  simp only [Act.put, List.setIfInBounds_toArray, List.set_cons_zero, List.set_cons_succ, valsL_zero, valsL_succ]
  obtain ⟨ho15, HO⟩ := HO
  refine wpG_v ho15.out rfl ?_ ?_
  · simp only [valsL_zero, valsL_succ]; apply FY_yes (d := 33) rfl ho12.out (by rfl) (by kernel_rfl); intro wx hx
    go_simp
    exact ⟨rfl, rfl⟩
  simp only [Act.put, List.setIfInBounds_toArray, List.set_cons_zero, List.set_cons_succ, valsL_zero, valsL_succ]
  obtain ⟨ho16, HO⟩ := HO
  refine wpG_v ho16.out rfl ?_ ?_
  · simp only [valsL_zero, valsL_succ]; apply FY_in rfl; intro wx hx
    go_simp
    exact ⟨rfl, rfl⟩
  simp only [Act.put, List.setIfInBounds_toArray, List.set_cons_zero, List.set_cons_succ, valsL_zero, valsL_succ]
  obtain ⟨ho17, HO⟩ := HO
  refine wpG_v ho17.out rfl ?_ ?_
  · simp only [valsL_zero, valsL_succ]; apply FY_in rfl; intro wx hx
    go_simp
    exact ⟨rfl, rfl⟩
  simp only [Act.put, List.setIfInBounds_toArray, List.set_cons_zero, List.set_cons_succ, valsL_zero, valsL_succ]
  obtain ⟨ho18, HO⟩ := HO
  refine wpG_v ho18.out rfl ?_ ?_
  · simp only [valsL_zero, valsL_succ]; apply FY_yes (d := 38) rfl ho17.out (by rfl) (by kernel_rfl); intro wx hx
    exact fu_load_row_g 26 (.tmp 1) rfl (b) (by kernel_rfl) _ _ _ _ ((S5.out wx hx).1.1) Tryd.underlying26 rfl (by kernel_rfl)
  simp only [Act.put, List.setIfInBounds_toArray, List.set_cons_zero, List.set_cons_succ, valsL_zero, valsL_succ]
  obtain ⟨ho19, HO⟩ := HO
  refine wpG_v ho19.out rfl ?_ ?_
  · simp only [valsL_zero, valsL_succ]; apply FY_yes (d := 38) rfl ho17.out (by rfl) (by kernel_rfl); intro wx hx
    go_simp
    exact ⟨rfl, (rwords_calls s _ (S5.out wx hx).2.2 HFI.out).mono (fun e w' h => ⟨h.1, h.2⟩)⟩
  simp only [Act.put, List.setIfInBounds_toArray, List.set_cons_zero, List.set_cons_succ, valsL_zero, valsL_succ]
  obtain ⟨ho20, HO⟩ := HO
  refine wpG_v ho20.out rfl ?_ ?_
  · simp only [valsL_zero, valsL_succ]; apply FY_yes (d := 38) rfl ho17.out (by rfl) (by kernel_rfl); intro wx hx
    exact fu_load_row_g 26 (.tmp 1) rfl (b) (by kernel_rfl) _ _ _ _ ((S5.out wx hx).1.1) Tryd.underlying26 rfl (by kernel_rfl)
  simp only [Act.put, List.setIfInBounds_toArray, List.set_cons_zero, List.set_cons_succ, valsL_zero, valsL_succ]
  obtain ⟨ho21, HO⟩ := HO
  refine wpG_v ho21.out rfl ?_ ?_
  · simp only [valsL_zero, valsL_succ]; apply FY_yes (d := 38) rfl ho17.out (by rfl) (by kernel_rfl); intro wx hx
    go_simp
    exact ⟨rfl, (rwordsR_calls s _ HFI.out).mono (fun e w' h => ⟨h.1, h.2⟩)⟩
  simp only [Act.put, List.setIfInBounds_toArray, List.set_cons_zero, List.set_cons_succ, valsL_zero, valsL_succ]
  obtain ⟨ho22, HO⟩ := HO
  refine wpG_v ho22.out rfl ?_ ?_
  · simp only [valsL_zero, valsL_succ]; apply FY_yes (d := 38) rfl ho17.out (by rfl) (by kernel_rfl); intro wx hx
    go_simp
    exact ⟨rfl, rfl⟩
  simp only [Act.put, List.setIfInBounds_toArray, List.set_cons_zero, List.set_cons_succ, valsL_zero, valsL_succ]
  obtain ⟨ho23, HO⟩ := HO
  refine wpG_v ho23.out rfl ?_ ?_
  · simp only [valsL_zero, valsL_succ]; apply FY_in rfl; intro wx hx
    go_simp
    exact ⟨rfl, rfl⟩
  simp only [Act.put, List.setIfInBounds_toArray, List.set_cons_zero, List.set_cons_succ, valsL_zero, valsL_succ]
  obtain ⟨ho24, HO⟩ := HO
  refine wpG_v ho24.out rfl ?_ ?_
  · simp only [valsL_zero, valsL_succ]; apply FY_in rfl; intro wx hx
    go_simp
    exact ⟨rfl, rfl⟩
  simp only [Act.put, List.setIfInBounds_toArray, List.set_cons_zero, List.set_cons_succ, valsL_zero, valsL_succ]
  obtain ⟨ho25, HO⟩ := HO
  refine wpG_v ho25.out rfl ?_ ?_
  · simp only [valsL_zero, valsL_succ]; apply FY_yes (d := 45) rfl ho24.out (by rfl) (by kernel_rfl); intro wx hx
    go_simp
    exact ⟨rfl, rfl⟩
  simp only [Act.put, List.setIfInBounds_toArray, List.set_cons_zero, List.set_cons_succ, valsL_zero, valsL_succ]
  obtain ⟨ho26, HO⟩ := HO
  refine wpG_v ho26.out rfl ?_ ?_
  · simp only [valsL_zero, valsL_succ]; apply FY_yes (d := 45) rfl ho24.out (by rfl) (by kernel_rfl); intro wx hx
    have hc0 := sb_cell ((S5.out wx hx).1.1)
    go_simp
    exact ⟨rfl, rfl⟩
  simp only [Act.put, List.setIfInBounds_toArray, List.set_cons_zero, List.set_cons_succ, valsL_zero, valsL_succ]
  obtain ⟨ho27, HO⟩ := HO
  refine wpG_v ho27.out rfl ?_ ?_
  · simp only [valsL_zero, valsL_succ]; apply FY_yes (d := 45) rfl ho24.out (by rfl) (by kernel_rfl); intro wx hx
    go_simp
    exact ⟨rfl, (name_calls s.k _).mono (fun e w' h => ⟨h.1, h.2⟩)⟩
  simp only [Act.put, List.setIfInBounds_toArray, List.set_cons_zero, List.set_cons_succ, valsL_zero, valsL_succ]
  obtain ⟨ho28, HO⟩ := HO
  refine wpG_v ho28.out rfl ?_ ?_
  · simp only [valsL_zero, valsL_succ]; apply FY_yes (d := 45) rfl ho24.out (by rfl) (by kernel_rfl); intro wx hx
    go_simp
    exact ⟨rfl, rfl⟩
  simp only [Act.put, List.setIfInBounds_toArray, List.set_cons_zero, List.set_cons_succ, valsL_zero, valsL_succ]
  obtain ⟨ho29, HO⟩ := HO
  refine wpG_v ho29.out rfl ?_ ?_
  · simp only [valsL_zero, valsL_succ]; apply FY_yes (d := 45) rfl ho24.out (by rfl) (by kernel_rfl); intro wx hx
    have hc0 := sb_cell ((S5.out wx hx).1.1)
    go_simp
    exact ⟨rfl, rfl⟩
  simp only [Act.put, List.setIfInBounds_toArray, List.set_cons_zero, List.set_cons_succ, valsL_zero, valsL_succ]
  obtain ⟨ho30, HO⟩ := HO
  refine wpG_v ho30.out rfl ?_ ?_
  · simp only [valsL_zero, valsL_succ]; apply FY_yes (d := 45) rfl ho24.out (by rfl) (by kernel_rfl); intro wx hx
    go_simp
    exact ⟨rfl, (rname_calls s.k _).mono (fun e w' h => ⟨h.1, h.2⟩)⟩
  simp only [Act.put, List.setIfInBounds_toArray, List.set_cons_zero, List.set_cons_succ, valsL_zero, valsL_succ]
  obtain ⟨ho31, HO⟩ := HO
  refine wpG_v ho31.out rfl ?_ ?_
  · simp only [valsL_zero, valsL_succ]; apply FY_yes (d := 45) rfl ho24.out (by rfl) (by kernel_rfl); intro wx hx
    go_simp
    exact ⟨rfl, rfl⟩
  simp only [Act.put, List.setIfInBounds_toArray, List.set_cons_zero, List.set_cons_succ, valsL_zero, valsL_succ]
  obtain ⟨ho32, HO⟩ := HO
  refine wpG_v ho32.out rfl ?_ ?_
  · simp only [valsL_zero, valsL_succ]; apply FY_in rfl; intro wx hx
    go_simp
    exact ⟨rfl, rfl⟩
  simp only [Act.put, List.setIfInBounds_toArray, List.set_cons_zero, List.set_cons_succ, valsL_zero, valsL_succ]
  refine HQ.out _ _ ?_
  intro wr hf hE hN
  simp only [List.drop_succ_cons, List.drop_zero]
  clear HQ HO hE hN ho0 ho1 ho2 ho3 ho4 ho5 ho6 ho7 ho8 ho9 ho10 ho11 ho12 ho13 ho14 ho15 ho16 ho17 ho18 ho19 ho20 ho21 ho22 ho23 ho24 ho25 ho26 ho27 ho28 ho29 ho30 ho31 ho32
  have HE := hid ((S5.out.step hf).now.1.2.2.below)
  clear hf
  go_wp2_with fail
  go_ret
  exact ⟨rfl, HE.out⟩
end Go.Proofs.YtinbidmgllmglaaDoor
