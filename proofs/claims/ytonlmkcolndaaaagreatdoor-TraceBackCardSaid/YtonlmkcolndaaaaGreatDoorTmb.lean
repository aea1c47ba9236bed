/- The reference's behind and numbers. Message, on both sides. The reference's Right and Msg. The reference's Message. Record, of the program. The reference's Read of a spec. The reference's words: Name, spec's Text. The reference's Text of a spec. The reference's words of a record. Record, of the reference. A load of a struct at an offset of a block known whole, in a region that draws its order. No condition. A step's line: more and Line of the program. A step's line: Line of the program. -/
import Derived.Test.YtonlmkcolndaaaaGreatDoorTma
import Derived.OwnWalk
import Derived.Test.YtonlmkcolndaaaaGreatDoorSf
import Derived.Test.YtonlmkcolndaaaaGreatDoorRh
import Derived.Test.YtonlmkcolndaaaaGreatDoorWd
import Derived.Test.YtonlmkcolndaaaaGreatDoorSi
import Derived.Test.YtonlmkcolndaaaaGreatDoorSo
import Derived.Test.YtonlmkcolndaaaaGreatDoorSg
import Derived.Test.YtonlmkcolndaaaaGreatDoorSw
import Derived.Deep.RegionHeld3
namespace Go.Proofs.YtonlmkcolndaaaaGreatDoor
set_option linter.unusedVariables false
set_option linter.unusedSimpArgs false
set_option maxRecDepth 20000
open Go.RowKit

theorem behL_at {l : List UInt8} {i n : Nat} {c : UInt8} (h : l[i]? = some c) : behL (l.drop i) n = if c = 32 then (if n ≤ 1 then l.drop (i + 1) else behL (l.drop (i + 1)) (n - 1)) else behL (l.drop (i + 1)) n := by
  obtain ⟨hi, hc⟩ := List.getElem?_eq_some_iff.1 h
  rw [List.drop_eq_getElem_cons hi, hc]; rfl
set_option maxRecDepth 20000 in
set_option maxHeartbeats 2000000 in
theorem behind_calls (s : ByteArray) (n : Nat) (w : World) (hs : s.size ≤ 1000000) (hn : 1 ≤ n) (hn2 : n ≤ 100) : Calls Tryz.prog 42 #[.string s, .int .i64 n] w fun x w' => x = .returned (.string (str (behL s.data.toList n))) ∧ Frm M0 w w' := by
  obtain ⟨E, HE⟩ : ∃ E, Hid (str (behL s.data.toList n) = E) := ⟨_, rfl⟩
  rw [HE.out]
  go_enter Tryz.func42, Tryz.ntmps42
  go_wp2_with fail
  go_loopw [1, 5] (fun i1 i5 wr => ∃ (k m : Nat), k ≤ s.size ∧ 1 ≤ m ∧ m ≤ 100 ∧ i5 = .int .i64 k ∧ i1 = .int .i64 m ∧ Hid (str (behL (s.data.toList.drop k) m) = E) ∧ Hid (Frm M0 w wr)) (fun _ i _ => s.size - (intOf i).toNat)
  case atStart => exact ⟨0, n, Nat.zero_le _, hn, hn2, rfl, rfl, HE, hid (Frm.refl _ _)⟩
  case round =>
    obtain ⟨k, m, hk, hm, hm2, rfl, rfl, HB, HF⟩ := hrel
    by_cases hlt : k < s.size
    · have hat := behL_at (n := m) (sb_index hlt)
      by_cases hb : s[k].toNat = 32
      · have hb' : (((s[k].toNat : Nat) : Int) == 32) = true := by simp [hb]
        rw [if_pos (UInt8.toNat_inj.1 hb)] at hat
        by_cases h1 : m ≤ 1
        · obtain rfl : m = 1 := by omega
          rw [if_pos h1] at hat
          have HR : Hid (E = s.extract (k + 1) s.size) := hid (by
            rw [← HB.out, hat]
            have : (s.extract (k + 1) s.size).data.toList = s.data.toList.drop (k + 1) := by
              rw [← Lib.toList_data, Lib.extract_toList]
              show List.take (s.size - (k + 1)) (List.drop (k + 1) s.data.toList) = _
              rw [List.take_of_length_le (by rw [List.length_drop]; simp)]
            rw [← this, str_data])
          have hw3 : IntKind.i64.wrap ((k : Int) + 1) = ((k + 1 : Nat) : Int) := by rw [IntWalk.i64_in _ (by omega)]; omega
          clear hat hb
          go_wp2_with fail
          go_ret
          exact ⟨by rw [HR.out]; rfl, HF.out⟩
        · rw [if_neg h1] at hat
          rw [hat] at HB
          have hw3 : IntKind.i64.wrap ((m : Int) - 1) = ((m - 1 : Nat) : Int) := by rw [IntWalk.i64_in _ (by omega)]; omega
          have hz : (((m - 1 : Nat) : Int) == 0) = false := by rw [beq_eq_false_iff_ne]; omega
          clear hat hb
          go_wp2_with fail
          exact ⟨⟨k + 1, m - 1, by omega, by omega, by omega, by go_num, rfl, HB, HF⟩, by simp [intOf]; omega⟩
      · have hb' : (((s[k].toNat : Nat) : Int) == 32) = false := by simp; omega
        rw [if_neg (fun e => hb (by rw [e]; rfl))] at hat
        rw [hat] at HB
        have hz : ((m : Int) == 0) = false := by rw [beq_eq_false_iff_ne]; omega
        clear hat hb
        go_wp2_with fail
        exact ⟨⟨k + 1, m, by omega, by omega, by omega, by go_num, rfl, HB, HF⟩, by simp [intOf]; omega⟩
    · obtain rfl : k = s.size := by omega
      have HR : Hid (E = ⟨#[]⟩) := hid (by
        rw [← HB.out, List.drop_of_length_le (by simp)]; rfl)
      go_wp2_with fail
      go_ret
      exact ⟨by rw [HR.out]; rfl, HF.out⟩

/-- What is read of so many words from one on; up to k of many. -/
def numsQ (q : List UInt8 → Int) (W : List (List UInt8)) (f k : Nat) : List Int := (List.range k).map fun i => q (wd W (f + i))
def numsZ (q : List UInt8 → Int) (W : List (List UInt8)) (f k many : Nat) : List Int := numsQ q W f k ++ List.replicate (many - k) 0
theorem numsZ_len (q : List UInt8 → Int) (W : List (List UInt8)) (f k many : Nat) (h : k ≤ many) : (numsZ q W f k many).length = many := by
  unfold numsZ numsQ; simp; omega
theorem numsZ_set (q : List UInt8 → Int) (W : List (List UInt8)) (f k many : Nat) (h : k < many) : (numsZ q W f k many).set k (q (wd W (f + k))) = numsZ q W f (k + 1) many := by
  unfold numsZ numsQ
  rw [List.range_succ, List.map_append]
  have e : many - k = (many - (k + 1)) + 1 := by omega
  rw [e, List.replicate_succ, List.set_append_right _ _ (by simp)]
  simp
theorem numsZ_zero (q : List UInt8 → Int) (W : List (List UInt8)) (f k many : Nat) (h : k < many) (hz : q (wd W (f + k)) = 0) : numsZ q W f k many = numsZ q W f (k + 1) many := by
  rw [← numsZ_set q W f k many h, hz]
  unfold numsZ numsQ
  have e : many - k = (many - (k + 1)) + 1 := by omega
  rw [e, List.replicate_succ, List.set_append_right _ _ (by simp)]
  simp
theorem itoa_ne (u : Int) : Lib.itoa u ≠ [] := by
  unfold Lib.itoa
  split
  · simp
  · exact dec_ne _
theorem numQ_nil : numQ [] = 0 := by
  unfold numQ
  cases h : numF [] with
  | none => rfl
  | some v => exact absurd (numF_some.1 h).2 (itoa_ne v)
theorem numsZ_past (W : List (List UInt8)) (f many : Nat) : ∀ (j k : Nat), k + j = many → W.length ≤ f + k → numsZ numQ W f k many = numsZ numQ W f many many
  | 0, k, h, _ => by
    obtain rfl : k = many := by omega
    rfl
  | j + 1, k, h, hw => by
    rw [numsZ_zero numQ W f k many (by omega) (by unfold wd; rw [List.getD_eq_getElem?_getD, List.getElem?_eq_none (by omega)]; exact numQ_nil)]
    exact numsZ_past W f many j (k + 1) (by omega) (by omega)
theorem numsZ_full (q : List UInt8 → Int) (W : List (List UInt8)) (f many : Nat) : numsZ q W f many many = numsQ q W f many := by unfold numsZ; simp
theorem ints_set (l : List Int) (i : Nat) (x : Int) : (ints .i64 l).set i (.int .i64 x) = ints .i64 (l.set i x) := by
  unfold ints; rw [List.map_set]
set_option maxRecDepth 20000 in
set_option maxHeartbeats 4000000 in
theorem numbers_calls (v : Value) (L : List ByteArray) (W : List (List UInt8)) (f many : Nat) (w : World) (h : Rd w 1 v L.length (strs L)) (hW : Hid (L.map (·.data.toList) = W)) (hs : ∀ x ∈ L, x.size ≤ 1000000) (hl : L.length ≤ 1000001) (hf : f ≤ 100) (hm0 : 1 ≤ many) (hm : many ≤ 100) :
    Calls Tryz.prog 44 #[v, .int .i64 f, .int .i64 many] w fun x w' => ∃ b c, x = .returned (.slice (some ⟨b, 0, none⟩) many c) ∧ Rd w' 1 (.slice (some ⟨b, 0, none⟩) many c) many (ints .i64 (numsQ numQ W f many)) ∧ Frm M0 w w' := by
  have HL : Hid (W.length = L.length) := hid (by rw [← hW.out, List.length_map])
  have HS := hid hs
  have HRd := hid h
  obtain ⟨a, c, rfl, hsh⟩ := h.shape
  have HSH := hid hsh
  have HLB := hid hl
  have HFB := hid (And.intro hf (And.intro hm0 hm))
  obtain ⟨inf, hi1, hi2, hi3, hi4⟩ := info_parts (P := Tryz.prog) (e := 3) (z := .int .i64 0) (size := 1) (bytes := 8) (by kernel_rfl)
  clear h hs hsh hl
  go_enter Tryz.func44, Tryz.ntmps44
  go_wp2_with (first | (at_make; refine wpList_make_full _ rfl _ _ _ rfl w.heap.size 3 inf (.int .i64 0) 1 Tryz.underlying61 hi1 hi2 hi3 _ _ _ _ many rfl rfl rfl rfl (by rw [hi4]; omega) (by unfold maxLen; omega) (Nat.le_refl _) ?_; intro w2 ho hg; have HO0 := hid ho; have HF0 := hid ((Frm.refl M0 w).grown hg (fun k hk => by cases hk)); clear ho hg))
  obtain ⟨B, hB⟩ : ∃ B, B = w.heap.size := ⟨_, rfl⟩
  rw [← hB] at HO0 ⊢
  have HB := hid hB
  clear hB
  have HO : Hid (w2.ownsRow B 3 1 (.slice (some ⟨B, 0, none⟩) many many) many (ints .i64 (numsZ numQ W f 0 many))) := hid (by
    have e : (madeCells (Value.int .i64 0).cells (many * 1)).toList = ints .i64 (numsZ numQ W f 0 many) := by
      rw [Nat.mul_one]
      refine (toList_madeCells_one _ _).trans ?_
      unfold numsZ numsQ ints
      simp
    rw [← e]; exact HO0.out)
  clear HO0 hi1 hi2 hi3 hi4
  go_loopw [8, 9, 10] (fun i8 _s9 _s10 wr => ∃ k : Nat, k ≤ many ∧ i8 = .int .i64 k ∧ Hid (wr.ownsRow B 3 1 (.slice (some ⟨B, 0, none⟩) many many) many (ints .i64 (numsZ numQ W f k many))) ∧ Hid (Frm M0 w wr)) (fun i _ _ _ => many - (intOf i).toNat)
  case atStart => exact ⟨0, by omega, rfl, HO, HF0⟩
  case round =>
    clear HO HF0
    obtain ⟨k, hk, rfl, HO, HF⟩ := hrel
    obtain ⟨p, hp⟩ : ∃ p, p = f + k := ⟨_, rfl⟩
    have hfb := HFB.out
    have hwr : IntKind.i64.wrap ((f : Int) + (k : Int)) = (p : Int) := by rw [IntWalk.i64_in _ (by omega)]; omega
    by_cases hlt : k < many
    · as_aux_lemma =>
      have HLT := hid hlt
      by_cases hpl : p < L.length
      · obtain ⟨sb, o, rfl⟩ := HSH.out (by omega)
        have hc := (HRd.out.frm0 HF.out).strAt p hpl
        obtain ⟨x, hx⟩ : ∃ x, x = L[p]'hpl := ⟨_, rfl⟩
        rw [← hx] at hc
        have hxs := HS.out x (by rw [hx]; exact List.getElem_mem _)
        have HX : Hid (x.data.toList = wd W (f + k)) := hid (by
          rw [wd_of hW.out, ← hp, List.getD_eq_getElem?_getD, List.getElem?_eq_getElem hpl, hx]; rfl)
        have HPK := hid hp
        clear hx hp hfb hf hm0 hm
        go_wp2_with fail
        refine (rnumber_calls x _ hxs).mono ?_
        rintro _ w3 ⟨n, bb, rfl, HN, hf3⟩
        have HF3 := hid (HF.out.then0 hf3)
        have HO3 := hid (hf3.owns HO.out (fun _ _ h => h))
        clear hf3 hc
        cases bb
        · have HQ : Hid (numQ (wd W (f + k)) = 0) := hid (by
            have h1 := HN.out.2 rfl
            rw [HX.out] at h1
            unfold numQ; rw [h1])
          go_wp2_with fail
          have e5 : numsZ numQ W f k many = numsZ numQ W f (k + 1) many := numsZ_zero numQ W f k many HLT.out HQ.out
          rw [e5] at HO3
          have hlt2 : k + 1 ≤ many := HLT.out
          have hfb := HFB.out
          have hw : wrap64 ((k : Int) + 1) = ((k + 1 : Nat) : Int) := by unfold wrap64; omega
          rw [hw]
          exact ⟨⟨k + 1, hlt2, rfl, HO3, HF3⟩, by simp [intOf]; omega⟩
        · have HQ : Hid (numQ (wd W (f + k)) = n) := hid (by
            have h1 := HN.out.1 rfl
            rw [HX.out] at h1
            unfold numQ; rw [h1])
          obtain ⟨g, cap, cur, hge, hgB, HH, hc1, hc2⟩ := owns_at HO3.out (by have := HLT.out; omega)
          simp only [Value.slice.injEq, Option.some.injEq, Addr.mk.injEq, and_true, true_and] at hge
          obtain ⟨rfl, rfl⟩ := hge
          have hlk : (numsZ numQ W f k many).length = many := numsZ_len numQ W f k many (Nat.le_of_lt HLT.out)
          have hkl : k < (numsZ numQ W f k many).length := by rw [hlk]; exact HLT.out
          obtain ⟨z, hzz⟩ : ∃ z, (numsZ numQ W f k many)[k]? = some z := ⟨_, List.getElem?_eq_getElem hkl⟩
          have hcell : w3.cell? ⟨B, k, none⟩ = some (.int .i64 z) := by
            have h1 := HO3.out.cells (g := B) rfl k (.int .i64 z) (by unfold ints; rw [List.getElem?_map, hzz]; rfl)
            rw [add_none] at h1; simpa using h1
          have hz : w3.frozen? ⟨B, k, none⟩ = false := frozen_at HH.out k
          clear hlk hkl hzz
          go_wp2_with fail
          refine ⟨⟨k + 1, by have := HLT.out; omega, by go_num, hid ?_, hid (HF3.out.put B k _ (fun h => by have := HB.out; omega))⟩, by have := HLT.out; simp [intOf]; omega⟩
          have h5 := owns_set1 HO3.out k HLT.out (.int .i64 n)
          have e5 : (numsZ numQ W f k many).set k n = numsZ numQ W f (k + 1) many := by rw [← HQ.out]; exact numsZ_set numQ W f k many HLT.out
          rw [ints_set, e5] at h5
          exact h5
      · have HE : Hid (numsZ numQ W f k many = numsQ numQ W f many) := hid (by
          rw [← numsZ_full]
          exact numsZ_past W f many (many - k) k (by omega) (by have := HL.out; omega))
        clear hp hfb hf hm0 hm
        go_wp2_with fail
        go_ret
        refine ⟨B, many, rfl, ?_, HF.out⟩
        rw [← HE.out]; exact Rd.ofOwns HO.out
    · obtain rfl : k = many := by omega
      clear hp hfb hf hm0 hm
      go_wp2_with fail
      go_ret
      refine ⟨B, k, rfl, ?_, HF.out⟩
      rw [← numsZ_full]; exact Rd.ofOwns HO.out
end Go.Proofs.YtonlmkcolndaaaaGreatDoor
namespace Go.Proofs.YtonlmkcolndaaaaGreatDoor
set_option linter.unusedVariables false
set_option linter.unusedSimpArgs false
set_option maxRecDepth 20000
open Go.RowKit

/-- The cells of a struct: a kind, numbers, what is behind. -/
def stC (v0 : Value) (ns : List Int) (zs : List Value) : Array Value := (v0 :: (ints .i64 ns ++ zs)).toArray
theorem stC_set (v0 : Value) (ns : List Int) (zs : List Value) (k : Nat) (x : Int) (h : k < ns.length) : (stC v0 ns zs).setIfInBounds (k + 1) (.int .i64 x) = stC v0 (ns.set k x) zs := by
  unfold stC
  rw [List.setIfInBounds_toArray, List.set_cons_succ, List.set_append_left _ _ (by unfold ints; rw [List.length_map]; exact h), ints_set]
theorem stC_get (v0 : Value) (ns : List Int) (zs : List Value) (k : Nat) (x : Int) (h : ns[k]? = some x) : (stC v0 ns zs)[k + 1]? = some (.int .i64 x) := by
  have hk : k < ns.length := (List.getElem?_eq_some_iff.1 h).1
  unfold stC
  rw [List.getElem?_toArray, List.getElem?_cons_succ, List.getElem?_append_left (by unfold ints; rw [List.length_map]; exact hk)]
  unfold ints
  rw [List.getElem?_map, h]; rfl
/-- The pieces of a text are few and short. -/
structure Few (s : ByteArray) (L : List ByteArray) : Prop where
  len : L.length ≤ 1000001
  sz : ∀ x ∈ L, x.size ≤ 1000000
theorem few_of {s : ByteArray} {L : List ByteArray} (hs : s.size ≤ 900000) (h : L.map (·.data.toList) = splitL s.data.toList) : Few s L := by
  have e : s.size = s.data.toList.length := by simp
  refine ⟨?_, fun x hx => ?_⟩
  · have := splitL_len s.data.toList
    rw [← h, List.length_map] at this
    omega
  · have h2 := splitL_mem s.data.toList x.data.toList (by rw [← h]; exact List.mem_map_of_mem hx)
    have e2 : x.size = x.data.toList.length := by simp
    omega
theorem rest_of {L : List ByteArray} {W : List (List UInt8)} (h : L.map (·.data.toList) = W) (k : Nat) : joinS (L.drop k) = restS W k := by
  unfold joinS restS
  rw [List.map_drop, h]

set_option maxRecDepth 20000 in
set_option maxHeartbeats 8000000 in
theorem tmessage_calls (s : ByteArray) (w : World) (hs : s.size ≤ 900000) (hg : Glob w) : Calls Tryz.prog 18 #[.string s] w fun x w' => x = .returned (.tuple #[(msgF s).1.val, .int .i64 (msgF s).2]) ∧ Frm M0 w w' := by
  obtain ⟨R, HR⟩ : ∃ R, Hid (msgF s = R) := ⟨_, rfl⟩
  rw [HR.out]
  have HG := hid hg
  have HS := hid hs
  clear hg hs
  go_enter Tryz.func18, Tryz.ntmps18
  go_wp2_with fail
  refine (twords_calls s _ (by have := HS.out; omega) (HG.out.frm ((Frm.refl M0 w).alloc _))).mono ?_
  rintro _ w1 ⟨b, rfl, hb, hr, hf⟩
  obtain ⟨r0, hr0⟩ : ∃ x, x = w.heap.size := ⟨_, rfl⟩
  have hsz : (w.alloc (.cells #[.int .i64 0, .int .i64 0, .int .i64 0, .int .i64 0, .int .i64 0, .int .i64 0] 29)).heap.size = w.heap.size + 1 := by simp
  rw [hsz] at hb
  have S1 : Hid (Sb (fun j => j = b) w1 fun x => x.heap[r0]? = some (.cells #[.int .i64 0, .int .i64 0, .int .i64 0, .int .i64 0, .int .i64 0, .int .i64 0] 29 (0, 0)) ∧ Frm M0 w x) :=
    hid fun wx hx => by
      have hF : Frm M0 w wx := (((Frm.refl M0 w).alloc _).then0 hf).trans hx (fun j hj e => by have : j = b := e; omega)
      exact ⟨hx.heap (hr0 ▸ hf.heap (new1 w _) (fun h => h)) (by omega), hF⟩
  rw [← hr0]
  obtain ⟨L, hL⟩ : ∃ x, x = splitS s := ⟨_, rfl⟩
  obtain ⟨W, hW⟩ : ∃ x, x = splitL s.data.toList := ⟨_, rfl⟩
  have hLW : L.map (·.data.toList) = splitL s.data.toList := by rw [hL]; exact splitS_list s
  have HFW := hid (few_of HS.out hLW)
  rw [← hW] at hLW
  have HL := hid hLW
  have HW := hid hW
  rw [← hL] at hr
  obtain ⟨B1, hB1⟩ : ∃ x, x = w1.heap.size := ⟨_, rfl⟩
  rw [← hB1] at hr
  have HB := hid (And.intro hr0 (And.intro hb hB1))
  have HD1 : Hid (RdrAt w1 b B1 (L.drop 0)) := hid hr
  clear hL hW hLW hr hf hsz hr0 hb hB1
  go_wp2_with fail
  refine (knd_calls _).mono ?_
  rintro _ w2 ⟨bk, hbk, rfl, hrk, hf⟩
  have S2 := hid (S1.out.step hf)
  have HD2 := hid (HD1.out.frm0 hf)
  have HK2 := hid hrk
  have HBK : Hid (bk ≠ b) := hid (by
    obtain ⟨v, _, _, h3, _⟩ := HD1.out
    have := HB.out.2.2
    omega)
  have HZ2 : Hid (B1 ≤ w2.heap.size) := hid (by have := hf.size; have := HB.out.2.2; omega)
  clear hbk hrk hf S1 HD1
  go_wp2_with fail
  refine (word1_calls b B1 L 0 _ HD2.out).mono ?_
  rintro _ w3 ⟨rfl, hr, hf⟩
  have S3 := hid (S2.out.stepX hf)
  have HD3 := hid hr
  have HK3 := hid (HK2.out.frm hf (fun j hj e => HBK.out ((Option.some.inj hj).trans e)))
  have HZ3 : Hid (B1 ≤ w3.heap.size) := hid (Nat.le_trans HZ2.out hf.size)
  clear hr hf S2 HD2 HK2 HZ2
  obtain ⟨x0, hx0⟩ : ∃ x, x = L.getD 0 ⟨#[]⟩ := ⟨_, rfl⟩
  have HX0 : Hid (x0.data.toList = wd W 0) := hid (by rw [hx0, wd_of HL.out])
  rw [← hx0]
  clear hx0
  go_wp2_with fail
  refine (sindex_calls _ kndL _ _ HK3.out (by decide)).mono ?_
  rintro _ w3' ⟨rfl, rfl⟩
  clear HK3
  obtain ⟨k0, hk0⟩ : ∃ k, k = Lib.idxOfS kndL x0 := ⟨_, rfl⟩
  have HK0 : Hid (k0 = kindM (wd W 0)) := hid (by rw [hk0, ← HX0.out]; unfold kindM; rw [str_data])
  rw [← hk0]
  clear hk0
  obtain ⟨bm, hbm⟩ : ∃ x, x = w3.heap.size := ⟨_, rfl⟩
  have HN0 := hid (new1 w3 (.cells #[.int .i64 0, .int .i64 0, .int .i64 0, .int .i64 0, .int .i64 0, .int .i64 0] 29))
  have HBM := hid hbm
  go_upto_region 3 with (refine wpList_store_row rfl 29 (.tmp 5) (.tmp 15) (by with_reducible rfl) w3.heap.size #[.int .i64 k0, .int .i64 0, .int .i64 0, .int .i64 0, .int .i64 0, .int .i64 0] (by kernel_rfl) (by kernel_rfl) _ _ HN0.out (by kernel_rfl) (by rfl) (by simp [Value.oneCell']) ?_)
  have hM4 := setRow_heap _ w3.heap.size _ #[.int .i64 k0, .int .i64 0, .int .i64 0, .int .i64 0, .int .i64 0, .int .i64 0] _ _ HN0.out
  have hf4 : Frm M0 w3 ((w3.alloc (.cells #[.int .i64 0, .int .i64 0, .int .i64 0, .int .i64 0, .int .i64 0, .int .i64 0] 29)).setRow w3.heap.size #[.int .i64 k0, .int .i64 0, .int .i64 0, .int .i64 0, .int .i64 0, .int .i64 0]) := ((Frm.refl M0 w3).alloc _).setRow _ _ (Nat.le_refl _)
  obtain ⟨w4, hw4⟩ : ∃ x, x = (w3.alloc (.cells #[.int .i64 0, .int .i64 0, .int .i64 0, .int .i64 0, .int .i64 0, .int .i64 0] 29)).setRow w3.heap.size #[.int .i64 k0, .int .i64 0, .int .i64 0, .int .i64 0, .int .i64 0, .int .i64 0] := ⟨_, rfl⟩
  rw [← hw4] at hM4 hf4 ⊢
  rw [← hbm] at hM4 ⊢
  have S4 := hid (S3.out.step hf4)
  have HD4 := hid (HD3.out.frm0 hf4)
  have HM4 := hid hM4
  have HZ4 : Hid (B1 ≤ bm ∧ bm < w4.heap.size) := hid ⟨by have := HZ3.out; omega, sb_lt hM4⟩
  clear hw4 hM4 hf4 hbm HN0 S3 HD3 HZ3
  go_wp2_with fail
  obtain ⟨bp, hbp⟩ : ∃ x, x = w4.heap.size := ⟨_, rfl⟩
  obtain ⟨w5, hw5⟩ : ∃ x, x = w4.alloc (.cells #[.pointer (some ⟨bm, 1, none⟩), .pointer (some ⟨bm, 2, none⟩), .pointer (some ⟨bm, 3, none⟩), .pointer (some ⟨bm, 4, none⟩), .pointer (some ⟨bm, 5, none⟩)] 71) := ⟨_, rfl⟩
  have hP := new1 w4 (.cells #[.pointer (some ⟨bm, 1, none⟩), .pointer (some ⟨bm, 2, none⟩), .pointer (some ⟨bm, 3, none⟩), .pointer (some ⟨bm, 4, none⟩), .pointer (some ⟨bm, 5, none⟩)] 71)
  have hf5 := (Frm.refl M0 w4).alloc (.cells #[.pointer (some ⟨bm, 1, none⟩), .pointer (some ⟨bm, 2, none⟩), .pointer (some ⟨bm, 3, none⟩), .pointer (some ⟨bm, 4, none⟩), .pointer (some ⟨bm, 5, none⟩)] 71)
  rw [← hw5] at hP hf5 ⊢
  rw [← hbp] at hP ⊢
  have HD5 := hid (HD4.out.frm0 hf5)
  have HM5 : Hid (w5.heap[bm]? = some (.cells (stC (.int .i64 k0) (numsZ numT W 1 0 5) []) 29 (0, 0))) := hid (hf5.heap HM4.out (fun h => h))
  have S5 : Hid (Sb (fun j => j = b ∨ j = bm) w5 fun x => (x.heap[r0]? = some (.cells #[.int .i64 0, .int .i64 0, .int .i64 0, .int .i64 0, .int .i64 0, .int .i64 0] 29 (0, 0)) ∧ Frm M0 w x) ∧ x.heap[bp]? = some (.cells #[.pointer (some ⟨bm, 1, none⟩), .pointer (some ⟨bm, 2, none⟩), .pointer (some ⟨bm, 3, none⟩), .pointer (some ⟨bm, 4, none⟩), .pointer (some ⟨bm, 5, none⟩)] 71 (0, 0))) := hid fun wx hx => by
    have h4 := (S4.out.step hf5).now
    have hBB := HB.out
    have hZZ := HZ4.out
    obtain ⟨v, _, _, h3, _⟩ := HD4.out
    have hF : Frm M0 w wx := h4.2.trans hx (fun j hj e => by rcases e with e | e <;> omega)
    exact ⟨⟨hx.heap h4.1 (by omega), hF⟩, hx.heap hP (by omega)⟩
  clear hw5 hP hf5 hbp S4 HD4 HM4
  go_loopw [7, 23] (fun _s7 i23 wr => ∃ k : Nat, k ≤ 5 ∧ i23 = .int .i64 k ∧ Hid (wr.heap[bm]? = some (.cells (stC (.int .i64 k0) (numsZ numT W 1 k 5) []) 29 (0, 0))) ∧ Hid (RdrAt wr b B1 (L.drop (k + 1))) ∧ Hid (Frm (fun j => j = b ∨ j = bm) w5 wr)) (fun _ i _ => 5 - (intOf i).toNat)
  case atStart => exact ⟨0, by omega, rfl, HM5, HD5, hid (Frm.refl _ _)⟩
  case round =>
    clear HM5 HD5
    obtain ⟨k, hk, rfl, HM, HD, HF⟩ := hrel
    have S6 := hid (S5.out.stepX HF.out)
    by_cases hlt : k < 5
    · have hp : wr.cell? ⟨bp, k, none⟩ = some (.pointer (some ⟨bm, k + 1, none⟩)) := by
        have h := S6.out.now.2
        have hc : k = 0 ∨ k = 1 ∨ k = 2 ∨ k = 3 ∨ k = 4 := by omega
        rcases hc with rfl | rfl | rfl | rfl | rfl <;> exact cell_at h _
      go_wp2_with fail
      refine (tnum_calls b B1 L (k + 1) _ HD.out HFW.out.sz (fun w' hf => HG.out.frm (S6.out.now.1.2.trans hf (fun j hj e => by have h1 : j = b := e; have := HB.out; omega)))).mono ?_
      rintro _ w6 ⟨rfl, hr, hf⟩
      have hM6 := hf.heap HM.out (fun e => by have h1 : bm = b := e; obtain ⟨v, _, _, h3, _⟩ := HD.out; have := HZ4.out; omega)
      have HM6 := hid hM6
      have HF6 := hid (HF.out.trans hf (fun j hj e => .inl e))
      have hlen : (numsZ numT W 1 k 5).length = 5 := numsZ_len _ _ _ _ _ hk
      obtain ⟨z, hzz⟩ : ∃ z, (numsZ numT W 1 k 5)[k]? = some z := ⟨_, List.getElem?_eq_getElem (by omega)⟩
      have hcell : w6.cell? ⟨bm, k + 1, none⟩ = some (.int .i64 z) := (sb_cell hM6 (k + 1)).trans (stC_get _ _ _ _ _ hzz)
      have hz : w6.frozen? ⟨bm, k + 1, none⟩ = false := sb_free hM6 (k + 1)
      obtain ⟨x, hx⟩ : ∃ x, x = numT (L.getD (k + 1) ⟨#[]⟩).data.toList := ⟨_, rfl⟩
      have HX : Hid (x = numT (wd W (1 + k))) := hid (by rw [hx, wd_of HL.out, Nat.add_comm])
      have HD6 := hid hr
      rw [← hx]
      clear hx hr hf hM6 hp hlen hzz
      go_wp2_with fail
      refine ⟨⟨k + 1, by omega, by go_num, hid ?_, hid ?_, hid (HF6.out.put bm _ _ (fun _ => .inr rfl))⟩, by simp [intOf]; omega⟩
      · have h5 := heap_set_at (o := k + 1) HM6.out (.int .i64 x)
        rw [stC_set _ _ _ _ _ (by rw [numsZ_len _ _ _ _ _ hk]; exact hlt), HX.out, numsZ_set _ _ _ _ _ hlt, ← HX.out] at h5
        exact h5
      · exact HD6.out.frm ((Frm.refl (fun j => j = bm) w6).put bm _ _ (fun _ => rfl)) (fun j hj e => by have h1 : j = bm := e; have := HZ4.out; omega)
    · obtain rfl : k = 5 := by omega
      obtain ⟨c, HC⟩ : ∃ c, Hid (candM numT kindM s = c) := ⟨_, rfl⟩
      have HMC : Hid (wr.heap[bm]? = some (.cells #[.int .i64 c.k, .int .i64 c.e, .int .i64 c.s, .int .i64 c.u, .int .i64 c.v, .int .i64 c.t] 29 (0, 0))) := hid (by
        have h1 := HM.out
        rw [HK0.out, HW.out] at h1
        rw [← HC.out]; exact h1)
      have HV : Hid (c.val = .agg #[.int .i64 c.k, .int .i64 c.e, .int .i64 c.s, .int .i64 c.u, .int .i64 c.v, .int .i64 c.t]) := rfl
      obtain ⟨y, HY⟩ : ∃ y, Hid (msgS c = y) := ⟨_, rfl⟩
      have HRR : Hid (R = if accB y s = true then (c, 0) else (Mg.zero, 2)) := hid (by rw [← HR.out, ← HY.out, ← HC.out]; rfl)
      clear HM HC HK0 HL HW
      go_wp2_with (refine wpList_load_row_w (by kernel_rfl) 29 (.tmp 5) (by with_reducible rfl) bm (by kernel_rfl) _ _ _ _ HMC.out Tryz.underlying29 rfl (by kernel_rfl) ?_)
      rw [← HV.out]
      refine (tmsg_calls c _ (HG.out.frm S6.out.now.1.2).tab).mono ?_
      rintro _ w7 ⟨rfl, hf⟩
      rw [HY.out]
      have S7 := hid (S6.out.step hf)
      have HM7 := hid (hf.heap HMC.out (fun h => h))
      clear hf S6 HMC
      by_cases hE : y.toList.isEmpty = true
      · have HRZ : Hid (R = (Mg.zero, 2)) := hid (by rw [HRR.out, if_neg (by rw [accB_iff]; intro h; rw [h.1] at hE; cases hE)])
        go_wp2_with (refine wpList_store_row rfl 29 (.tmp 2) (.tmp 41) (by with_reducible rfl) r0 #[.int .i64 0, .int .i64 0, .int .i64 0, .int .i64 0, .int .i64 0, .int .i64 0] (by kernel_rfl) (by kernel_rfl) _ _ S7.out.now.1.1 (by kernel_rfl) (by rfl) (by simp [Value.oneCell']) ?_)
        refine bodyPost_ret (results_cell_slot (by rfl) _ _ r0 _ _ _ _ _ rfl rfl (setRow_heap _ _ _ _ _ _ S7.out.now.1.1) Tryz.underlying29 rfl (by kernel_rfl)) rfl ⟨by rw [HRZ.out]; rfl, S7.out.now.1.2.setRow _ _ (by have := HB.out; omega)⟩
      · have hE' : y.toList.isEmpty = false := by simpa using hE
        by_cases hq : y = s
        · have HRZ : Hid (R = (c, 0)) := hid (by rw [HRR.out, if_pos (accB_iff.2 ⟨hE', hq⟩)])
          have hq' : (y.toList == s.toList) = true := by rw [hq]; simp
          clear hE hq
          go_wp2_with (first | (refine wpList_load_row_w (by kernel_rfl) 29 (.tmp 5) (by with_reducible rfl) bm (by kernel_rfl) _ _ _ _ HM7.out Tryz.underlying29 rfl (by kernel_rfl) ?_) | (refine wpList_store_row rfl 29 (.tmp 2) (.tmp 42) (by with_reducible rfl) r0 #[.int .i64 c.k, .int .i64 c.e, .int .i64 c.s, .int .i64 c.u, .int .i64 c.v, .int .i64 c.t] (by kernel_rfl) (by kernel_rfl) _ _ S7.out.now.1.1 (by kernel_rfl) (by rfl) (by simp [Value.oneCell']) ?_))
          refine bodyPost_ret (results_cell_slot (by rfl) _ _ r0 _ _ _ _ _ rfl rfl (setRow_heap _ _ _ _ _ _ S7.out.now.1.1) Tryz.underlying29 rfl (by kernel_rfl)) rfl ⟨by rw [HRZ.out]; rfl, S7.out.now.1.2.setRow _ _ (by have := HB.out; omega)⟩
        · have HRZ : Hid (R = (Mg.zero, 2)) := hid (by rw [HRR.out, if_neg (by rw [accB_iff]; intro h; exact hq h.2)])
          have hq' : (y.toList == s.toList) = false := by
            rw [beq_eq_false_iff_ne]; intro h; exact hq ((Go.Lib.bytes_beq_iff y s).1 (by simp [h]))
          clear hE hq
          go_wp2_with (refine wpList_store_row rfl 29 (.tmp 2) (.tmp 41) (by with_reducible rfl) r0 #[.int .i64 0, .int .i64 0, .int .i64 0, .int .i64 0, .int .i64 0, .int .i64 0] (by kernel_rfl) (by kernel_rfl) _ _ S7.out.now.1.1 (by kernel_rfl) (by rfl) (by simp [Value.oneCell']) ?_)
          refine bodyPost_ret (results_cell_slot (by rfl) _ _ r0 _ _ _ _ _ rfl rfl (setRow_heap _ _ _ _ _ _ S7.out.now.1.1) Tryz.underlying29 rfl (by kernel_rfl)) rfl ⟨by rw [HRZ.out]; rfl, S7.out.now.1.2.setRow _ _ (by have := HB.out; omega)⟩
end Go.Proofs.YtonlmkcolndaaaaGreatDoor
namespace Go.Proofs.YtonlmkcolndaaaaGreatDoor
set_option linter.unusedVariables false
set_option linter.unusedSimpArgs false
set_option maxRecDepth 20000
open Go.RowKit

def rightM (k e s u v t : Int) : Bool := (decide (k = 1) || decide (k = 2)) && decide (0 ≤ mn5 e s u v t)
set_option maxRecDepth 20000 in
attribute [-go_sem] run_max_int2 run_min_int2 in
attribute [local go_sem] run_mn5 run_mx5 in
theorem rright14_calls (k e s u v t : Int) (w : World) : Calls Tryz.prog 34 #[.agg (mgC k e s u v t)] w fun r w' => r = .returned (.bool (rightM k e s u v t)) ∧ Frm M0 w w' := by
  have hf := hid (fun (o : Obj) => (Frm.refl M0 w).alloc o)
  by_cases hk : k = 1
  · have h1 : (k == 1) = true := beq_iff_eq.2 hk
    have hr : Hid (rightM k e s u v t = decide (0 ≤ mn5 e s u v t)) := by unfold Hid rightM; rw [decide_eq_true hk]; rfl
    clear hk
    go_enter Tryz.func34, Tryz.ntmps34
    go_wp2_with fail
    go_ret
    exact ⟨by rw [hr.out]; rfl, hf.out _⟩
  · have h1 : (k == 1) = false := beq_eq_false_iff_ne.2 hk
    by_cases hk2 : k = 2
    · have h2 : (k == 2) = true := beq_iff_eq.2 hk2
      have hr : Hid (rightM k e s u v t = decide (0 ≤ mn5 e s u v t)) := by unfold Hid rightM; rw [decide_eq_false hk, decide_eq_true hk2]; rfl
      clear hk hk2
      go_enter Tryz.func34, Tryz.ntmps34
      go_wp2_with fail
      go_ret
      exact ⟨by rw [hr.out]; rfl, hf.out _⟩
    · have h2 : (k == 2) = false := beq_eq_false_iff_ne.2 hk2
      have hr : Hid (rightM k e s u v t = false) := by unfold Hid rightM; rw [decide_eq_false hk, decide_eq_false hk2]; rfl
      clear hk hk2
      go_enter Tryz.func34, Tryz.ntmps34
      go_wp2_with fail
      go_ret
      exact ⟨by rw [hr.out]; rfl, hf.out _⟩
theorem joinS_snoc (l : List ByteArray) (y : ByteArray) (h : l ≠ []) : joinS (l ++ [y]) = joinS l ++ (⟨#[32]⟩ ++ y) := by
  have e : ∀ a b : ByteArray, a.data.toList = b.data.toList → a = b := fun a b h => by rw [← str_data a, ← str_data b, h]
  apply e
  have ea : ∀ a b : ByteArray, (a ++ b).data.toList = a.data.toList ++ b.data.toList := fun a b => by simp [ByteArray.data_append]
  rw [ea, ea, joinS_data, joinS_data, List.map_append]
  obtain ⟨x, r, rfl⟩ := List.exists_cons_of_ne_nil h
  simp only [List.map_cons, List.cons_append, List.map_nil, Lib.join_cons]
  simp [Lib.joinTail]
theorem msg_cond (k e s u v t : Int) : msgB ⟨k, e, s, u, v, t⟩ = (rightM k e s u v t && decide (mx5 e s u v t ≤ 999999999)) := by
  rw [Bool.eq_iff_iff, msgB_iff]
  unfold rightM
  simp only [Bool.and_eq_true, Bool.or_eq_true, decide_eq_true_eq, mn5_nonneg, mx5_le, Mg.five, List.mem_cons, List.not_mem_nil, or_false, forall_eq_or_imp, forall_eq]
  omega
set_option maxRecDepth 20000 in
set_option maxHeartbeats 4000000 in
attribute [-go_sem] run_max_int2 run_min_int2 in
attribute [local go_sem] run_mn5 run_mx5 in
theorem rmsg_calls (m : Mg) (w : World) : Calls Tryz.prog 13 #[m.val] w fun x w' => x = .returned (.string (msgS m)) ∧ Frm M0 w w' := by
  obtain ⟨k, e, s, u, v, t⟩ := m
  obtain ⟨R, HR⟩ : ∃ R, Hid (R = msgS ⟨k, e, s, u, v, t⟩) := ⟨_, rfl⟩
  rw [← HR.out]
  obtain ⟨i, HI⟩ : ∃ i, Hid (rightM k e s u v t = i) := ⟨_, rfl⟩
  unfold Mg.val
  simp only []
  go_enter Tryz.func13, Tryz.ntmps13
  go_upto_region 1 with fail
  obtain ⟨b, hb⟩ : ∃ b, b = w.heap.size := ⟨_, rfl⟩
  obtain ⟨w1, hw1⟩ : ∃ x, x = w.alloc (.cells (mgC k e s u v t) 29) := ⟨_, rfl⟩
  have hh := new1 w (.cells (mgC k e s u v t) 29)
  have hf0 := (Frm.refl M0 w).alloc (.cells (mgC k e s u v t) 29)
  rw [← hw1] at hh hf0 ⊢
  rw [← hb] at hh ⊢
  have S1 : Hid (Sb M0 w1 fun x => x.heap[b]? = some (.cells (mgC k e s u v t) 29 (0, 0)) ∧ Frm M0 w x) := hid ((Sb.heap hh (fun h => h)).and (Sb.frm hf0))
  clear hw1 hb hh hf0
  go_wp2_with (refine wpList_load_row_w (by kernel_rfl) 29 (.tmp 1) (by with_reducible rfl) b (by kernel_rfl) _ _ _ _ S1.out.now.1 Tryz.underlying29 rfl (by kernel_rfl) ?_)
  refine (rright14_calls k e s u v t _).mono ?_
  rintro _ w2 ⟨rfl, hf⟩
  rw [HI.out]
  have S2 := hid (S1.out.step hf)
  clear hf S1
  cases i
  · have HZ : Hid (R = ⟨#[]⟩) := hid (by
      rw [HR.out]; unfold msgS
      rw [msg_cond, HI.out]; rfl)
    go_wp2_with fail
    go_ret
    exact ⟨by rw [HZ.out]; rfl, S2.out.now.2⟩
  have c1 : w2.cell? ⟨b, 1, none⟩ = some (.int .i64 e) := cell_at S2.out.now.1 1
  have c2 : w2.cell? ⟨b, 2, none⟩ = some (.int .i64 s) := cell_at S2.out.now.1 2
  have c3 : w2.cell? ⟨b, 3, none⟩ = some (.int .i64 u) := cell_at S2.out.now.1 3
  have c4 : w2.cell? ⟨b, 4, none⟩ = some (.int .i64 v) := cell_at S2.out.now.1 4
  have c5 : w2.cell? ⟨b, 5, none⟩ = some (.int .i64 t) := cell_at S2.out.now.1 5
  by_cases hx : mx5 e s u v t ≤ 999999999
  case neg =>
    have HZ : Hid (R = ⟨#[]⟩) := hid (by
      rw [HR.out]; unfold msgS
      rw [msg_cond, HI.out, decide_eq_false hx]; rfl)
    have hx1 : (999999999 : Int) < mx5 e s u v t := by omega
    have hx2 : decide ((999999999 : Int) < mx5 e s u v t) = true := decide_eq_true hx1
    clear hx
    go_wp2_with fail
    go_ret
    exact ⟨by rw [HZ.out]; rfl, S2.out.now.2⟩
  have hrk : (1 ≤ k ∧ k ≤ 2) := by
    have h := HI.out
    unfold rightM at h
    simp only [Bool.and_eq_true, Bool.or_eq_true, decide_eq_true_eq] at h
    omega
  have HB5 : Hid (∀ y ∈ [e, s, u, v, t], -9223372036854775808 ≤ y ∧ y ≤ 9223372036854775807) := hid (by
    have hm : msgB ⟨k, e, s, u, v, t⟩ = true := by rw [msg_cond, HI.out, decide_eq_true hx]; rfl
    intro y hy
    have := (msgB_iff.1 hm).2 y hy
    omega)
  have HRR : Hid (R = joinS (kndW k :: words [e, s, u, v, t])) := hid (by
    rw [HR.out]; unfold msgS
    rw [msg_cond, HI.out, decide_eq_true hx]; rfl)
  have hx1 : ¬ (999999999 : Int) < mx5 e s u v t := by omega
  have hx2 : decide ((999999999 : Int) < mx5 e s u v t) = false := decide_eq_false hx1
  obtain ⟨n, rfl⟩ : ∃ n : Nat, k = (n : Int) + 1 := ⟨k.toNat - 1, by omega⟩
  obtain ⟨X, HX⟩ : ∃ X, Hid (kndW ((n : Int) + 1) = X) := ⟨_, rfl⟩
  have hn : n = 0 ∨ n = 1 := by omega
  have hXs : X.size ≤ 21 := by
    rw [← HX.out]
    rcases knd_cases hrk with h | h <;> rw [h] <;> decide
  have HXS := hid hXs
  have hc : ∀ wx : World, (wx.alloc (.cells #[.string ⟨#[99, 111, 109, 109, 97, 110, 100]⟩, .string ⟨#[114, 101, 112, 111, 114, 116]⟩] 9)).cell? ⟨wx.heap.size, n, none⟩ = some (.string X) := by
    intro wx
    have h1 := new1 wx (.cells #[.string ⟨#[99, 111, 109, 109, 97, 110, 100]⟩, .string ⟨#[114, 101, 112, 111, 114, 116]⟩] 9)
    rw [← HX.out]
    rcases hn with rfl | rfl
    · exact cell_at h1 0
    · exact cell_at h1 1
  have hcw := hc w2
  have hwr : IntKind.i64.wrap ((n : Int) + 1 - 1) = (n : Int) := by rw [IntWalk.i64_in _ (by omega)]; omega
  have hn0 : (0 : Int) ≤ (n : Int) := by omega
  have hn1 : (n : Int) < 2 := by omega
  have c0 : w2.cell? ⟨b, 0, none⟩ = some (.int .i64 ((n : Int) + 1)) := cell_at S2.out.now.1 0
  have hlt : b < w2.heap.size := sb_lt S2.out.now.1
  clear hx hrk hXs hn hc HI
  go_upto_region 5 with fail
  have hh := new1 w2 (.cells #[.string ⟨#[99, 111, 109, 109, 97, 110, 100]⟩, .string ⟨#[114, 101, 112, 111, 114, 116]⟩] 9)
  have S3 := hid (S2.out.alloc (.cells #[.string ⟨#[99, 111, 109, 109, 97, 110, 100]⟩, .string ⟨#[114, 101, 112, 111, 114, 116]⟩] 9))
  obtain ⟨w3, hw3⟩ : ∃ x, x = w2.alloc (.cells #[.string ⟨#[99, 111, 109, 109, 97, 110, 100]⟩, .string ⟨#[114, 101, 112, 111, 114, 116]⟩] 9) := ⟨_, rfl⟩
  rw [← hw3] at S3 ⊢
  clear hw3 hh S2 c0 c1 c2 c3 c4 c5 hcw hwr hn0 hn1 hlt hx1 hx2
  have c1 : w3.cell? ⟨b, 1, none⟩ = some (.int .i64 e) := cell_at S3.out.now.1 1
  have c2 : w3.cell? ⟨b, 2, none⟩ = some (.int .i64 s) := cell_at S3.out.now.1 2
  have c3 : w3.cell? ⟨b, 3, none⟩ = some (.int .i64 u) := cell_at S3.out.now.1 3
  have c4 : w3.cell? ⟨b, 4, none⟩ = some (.int .i64 v) := cell_at S3.out.now.1 4
  have c5 : w3.cell? ⟨b, 5, none⟩ = some (.int .i64 t) := cell_at S3.out.now.1 5
  go_wp2_with fail
  have F4 := hid (S3.out.now.2.alloc (.cells #[.int .i64 e, .int .i64 s, .int .i64 u, .int .i64 v, .int .i64 t] 3))
  have R4 := hid (Rd.ofOwns (World.ownsRow_lit (base := w3.heap.size) (e := 3) (size := 1) w3 #[.int .i64 e, .int .i64 s, .int .i64 u, .int .i64 v, .int .i64 t] 5 (Nat.le_refl _) (by unfold maxLen; omega) rfl))
  obtain ⟨g, hg⟩ : ∃ g, g = w3.heap.size := ⟨_, rfl⟩
  obtain ⟨w4, hw4⟩ : ∃ x, x = w3.alloc (.cells #[.int .i64 e, .int .i64 s, .int .i64 u, .int .i64 v, .int .i64 t] 3) := ⟨_, rfl⟩
  rw [← hw4] at F4 R4
  rw [← hg] at R4
  rw [← hw4, ← hg]
  clear hw4 hg S3 c1 c2 c3 c4 c5
  obtain ⟨L, hL⟩ : ∃ L, L = [e, s, u, v, t] := ⟨_, rfl⟩
  have R5 : Hid (Rd w4 1 (.slice (some ⟨g, 0, none⟩) 5 5) L.length (ints .i64 L)) := by rw [hL]; exact R4
  have HN5 : Hid (L.length = 5) := by rw [hL]; rfl
  have HR2 : Hid (R = joinS (X :: words L)) := hid (by rw [HRR.out, hL, HX.out])
  have HBL : Hid (∀ y ∈ L, -9223372036854775808 ≤ y ∧ y ≤ 9223372036854775807) := by rw [hL]; exact HB5
  have HX0 : Hid (joinS [X] = X) := hid (by
    unfold joinS
    rw [List.map_cons, List.map_nil, Lib.join_one])
  clear hL R4 HRR HR HB5
  go_loopw [4, 6] (fun s4 i6 wr => ∃ k : Nat, k ≤ 5 ∧ i6 = .int .i64 k ∧ s4 = .string (joinS (X :: words (L.take k))) ∧ Hid (Frm M0 w4 wr)) (fun _ i _ => 5 - (intOf i).toNat)
  case atStart => exact ⟨0, Nat.zero_le _, rfl, congrArg Value.string HX0.out.symm, hid (Frm.refl _ _)⟩
  case round =>
    obtain ⟨k, hk, rfl, rfl, HF⟩ := hrel
    by_cases hlt : k < 5
    · have hkL : k < L.length := by rw [HN5.out]; exact hlt
      obtain ⟨x, HXx, hc⟩ := (R5.out.frm HF.out (fun j hj h => h)).cellAt k hkL
      rw [Nat.zero_add] at hc
      obtain ⟨J, HJ⟩ : ∃ J, Hid (joinS (X :: words (L.take k)) = J) := ⟨_, rfl⟩
      have hJs : J.size ≤ 200 := by
        rw [← HJ.out]
        have h1 := joinS_size 21 (X :: words (L.take k)) (fun z hz => by
          rcases List.mem_cons.1 hz with rfl | hz
          · exact HXS.out
          · exact words_bound _ (fun y hy => HBL.out y (List.mem_of_mem_take hy)) z hz)
        have e : (joinS (X :: words (L.take k))).size = (Lib.join ((X :: words (L.take k)).map (·.data.toList)) [32]).length := str_size _
        rw [List.length_cons, words_len, List.length_take] at h1
        rw [e]
        refine Nat.le_trans h1 ?_
        have : min k L.length + 1 ≤ 6 := by omega
        calc (min k L.length + 1) * (21 + 1) ≤ 6 * 22 := Nat.mul_le_mul_right _ this
          _ ≤ 200 := by decide
      have HXB := hid (HBL.out x (List.mem_of_getElem? HXx.out))
      rw [HJ.out]
      clear hkL
      go_wp2_with fail
      refine (ddigits_calls x _ HXB.out.1 HXB.out.2).mono ?_
      rintro _ w5 ⟨rfl, rfl⟩
      obtain ⟨D, HD⟩ : ∃ D, Hid (str (Lib.itoa x) = D) := ⟨_, rfl⟩
      have hDs : D.size ≤ 21 := by
        rw [← HD.out]
        exact words_bound [x] (fun y hy => by rw [List.mem_singleton] at hy; rw [hy]; exact HXB.out) _ (by unfold words; simp)
      rw [HD.out]
      have hl1 : ¬ 9223372036854775807 < 1 + D.size := by omega
      have hl2 : ¬ 9223372036854775807 < J.size + (1 + D.size) := by omega
      clear hc
      go_wp2_with fail
      refine ⟨⟨k + 1, by omega, by go_num, ?_, HF⟩, by simp [intOf]; omega⟩
      rw [take_snoc HXx.out, ← words_snoc, ← List.cons_append, joinS_snoc _ _ (by simp), HJ.out, HD.out]
    · obtain rfl : k = 5 := by omega
      have ht : L.take 5 = L := List.take_of_length_le (by rw [HN5.out]; omega)
      rw [ht, ← HR2.out]
      go_wp2_with fail
      go_ret
      exact ⟨rfl, F4.out.then0 HF.out⟩
end Go.Proofs.YtonlmkcolndaaaaGreatDoor
namespace Go.Proofs.YtonlmkcolndaaaaGreatDoor
set_option linter.unusedVariables false
set_option linter.unusedSimpArgs false
set_option maxRecDepth 20000
open Go.RowKit

theorem intCell {w : World} {b n c : Nat} {l : List Int} (h : Rd w 1 (.slice (some ⟨b, 0, none⟩) n c) n (ints .i64 l)) (i : Nat) (x : Int) (hx : l[i]? = some x) : w.cell? ⟨b, i, none⟩ = some (.int .i64 x) := by
  rcases h.2 with ⟨h2, _⟩ | ⟨a, cap, h2, _, _, hc⟩
  · cases h2
  · simp only [Value.slice.injEq, Option.some.injEq] at h2
    obtain ⟨rfl, _, _⟩ := h2
    have := hc i (.int .i64 x) (by unfold ints; rw [List.getElem?_map, hx]; rfl)
    rw [add_none, Nat.zero_add] at this
    exact this
theorem cand_empty : msgB (candM numQ kindMr ⟨#[]⟩) = true := by
  have e : candM numQ kindMr ⟨#[]⟩ = ⟨1, 0, 0, 0, 0, 0⟩ := by
    show (⟨kindMr [], numQ [], numQ [], numQ [], numQ [], numQ []⟩ : Mg) = _
    rw [numQ_nil]; rfl
  rw [e]; rfl
set_option maxRecDepth 20000 in
set_option maxHeartbeats 8000000 in
theorem rmessage_calls (s : ByteArray) (w : World) (hs : s.size ≤ 900000) : Calls Tryz.prog 19 #[.string s] w fun x w' => x = .returned (.tuple #[(msgF s).1.val, .int .i64 (msgF s).2]) ∧ Frm M0 w w' := by
  obtain ⟨R, HR⟩ : ∃ R, Hid (msgF s = R) := ⟨_, rfl⟩
  rw [HR.out]
  have HS := hid hs
  clear hs
  go_enter Tryz.func19, Tryz.ntmps19
  go_wp2_with fail
  refine (refwords_calls s _ (by have := HS.out; omega)).mono ?_
  rintro _ w1 ⟨v, L, rfl, HL0, hr, hf⟩
  obtain ⟨r0, hr0⟩ : ∃ x, x = w.heap.size := ⟨_, rfl⟩
  have S1 : Hid (Sb M0 w1 fun x => (x.heap[r0]? = some (.cells #[.int .i64 0, .int .i64 0, .int .i64 0, .int .i64 0, .int .i64 0, .int .i64 0] 29 (0, 0)) ∧ Frm M0 w x) ∧ Rd x 1 v L.length (strs L)) :=
    hid fun wx hx => ⟨⟨hx.heap (hr0 ▸ hf.heap (new1 w _) (fun h => h)) (fun h => h), (((Frm.refl M0 w).alloc _).then0 hf).then0 hx⟩, hr.frm0 hx⟩
  rw [← hr0]
  have HR0 := hid hr0
  have HFW := hid (few_of HS.out HL0.out)
  obtain ⟨W, hW⟩ : ∃ x, x = splitL s.data.toList := ⟨_, rfl⟩
  have HW := hid hW
  have HL : Hid (L.map (·.data.toList) = W) := hid (by rw [hW]; exact HL0.out)
  have hl0 : 0 < L.length := by
    obtain ⟨x, r, e⟩ := splitL_ne s.data.toList
    have := HL0.out
    rw [e] at this
    cases L with
    | nil => cases this
    | cons a l => simp
  obtain ⟨va, vc, rfl, hsh⟩ := hr.shape
  obtain ⟨sb, so, rfl⟩ := hsh hl0
  have HC : Hid (Sb M0 w1 fun x => x.cell? ⟨sb, so, none⟩ = some (.string (L.getD 0 ⟨#[]⟩))) := hid (S1.out.map fun x hx => by
    have h := hx.2.strAt 0 hl0
    rw [Nat.add_zero] at h
    rw [h, List.getD_eq_getElem?_getD, List.getElem?_eq_getElem hl0]; rfl)
  have HK0 : Hid (kindMr (wd W 0) = if L.getD 0 ⟨#[]⟩ = ⟨#[114, 101, 112, 111, 114, 116]⟩ then 2 else 1) := hid (by rw [wd_of HL.out]; unfold kindMr; rw [str_data])
  obtain ⟨x0, hx0⟩ : ∃ x, x = L.getD 0 ⟨#[]⟩ := ⟨_, rfl⟩
  rw [← hx0] at HC HK0
  have HL0' := hid hl0
  clear hx0 hsh hl0 hr hf hr0 HL0 hW
  go_wp2_with fail
  refine (numbers_calls _ L W 1 5 _ S1.out.now.2 HL HFW.out.sz HFW.out.len (by omega) (by omega) (by omega)).mono ?_
  rintro _ w2 ⟨bn, cn, rfl, hr, hf⟩
  have S2 := hid (S1.out.step hf)
  have HC2 := hid (HC.out.step hf)
  obtain ⟨n0, hn0⟩ : ∃ n, n = numQ (wd W 1) := ⟨_, rfl⟩
  obtain ⟨n1, hn1⟩ : ∃ n, n = numQ (wd W 2) := ⟨_, rfl⟩
  obtain ⟨n2, hn2⟩ : ∃ n, n = numQ (wd W 3) := ⟨_, rfl⟩
  obtain ⟨n3, hn3⟩ : ∃ n, n = numQ (wd W 4) := ⟨_, rfl⟩
  obtain ⟨n4, hn4⟩ : ∃ n, n = numQ (wd W 5) := ⟨_, rfl⟩
  have hlist : numsQ numQ W 1 5 = [n0, n1, n2, n3, n4] := by rw [hn0, hn1, hn2, hn3, hn4]; rfl
  rw [hlist] at hr
  have HCA : Hid (∀ k, kindMr (wd W 0) = k → candM numQ kindMr s = ⟨k, n0, n1, n2, n3, n4⟩) := hid (fun k hk => by
    rw [hn0, hn1, hn2, hn3, hn4, ← hk, HW.out]; rfl)
  have C0 := hid (intCell hr 0 n0 rfl)
  have C1 := hid (intCell hr 1 n1 rfl)
  have C2 := hid (intCell hr 2 n2 rfl)
  have C3 := hid (intCell hr 3 n3 rfl)
  have C4 := hid (intCell hr 4 n4 rfl)
  clear hn0 hn1 hn2 hn3 hn4 hlist hr hf S1 HC
  go_upto_region 3 with fail
  apply wp_region_G 17 (fun i => if i = 16 then some (.cells #[.int .i64 0, .int .i64 0, .int .i64 0, .int .i64 0, .int .i64 0, .int .i64 0] 29) else none) (valsL (_ :: _ :: _ :: _ :: _ :: _ :: _ :: _ :: _ :: _ :: _ :: _ :: _ :: _ :: _ :: _ :: (.pointer none) :: [])) ?hm1 ?hB1 ?hal1 ?main1
  case hm1 => kernel_rfl
  case hB1 => kernel_rfl
  case hal1 =>
    intro i o obj ho hi
    by_cases h16 : i = 16
    · subst h16; obtain rfl := Option.some.inj hi; obtain rfl := Option.some.inj ho; exact ⟨rfl, fun a w => rfl⟩
    rw [if_neg h16] at hi
    cases hi
  rotate_left 16
  intro ops QT HO HQ
  obtain ⟨ho0, HO⟩ := HO
  refine wpG_v ho0.out rfl ?_ ?_
  · simp only [valsL_zero, valsL_succ]; apply FY_in rfl; intro wx hx
    go_simp
    exact ⟨rfl, rfl⟩
  simp only [Act.put, List.setIfInBounds_toArray, List.set_cons_zero, List.set_cons_succ, valsL_zero, valsL_succ]
  obtain ⟨ho1, HO⟩ := HO
  refine wpG_v ho1.out rfl ?_ ?_
  · simp only [valsL_zero, valsL_succ]; apply FY_in rfl; intro wx hx
    go_simp
    exact ⟨rfl, rfl⟩
  simp only [Act.put, List.setIfInBounds_toArray, List.set_cons_zero, List.set_cons_succ, valsL_zero, valsL_succ]
  obtain ⟨ho2, HO⟩ := HO
  refine wpG_v ho2.out rfl ?_ ?_
  · simp only [valsL_zero, valsL_succ]; apply FY_in rfl; intro wx hx
    have h := hx.cell C0.out (fun h => h)
    go_simp
    exact ⟨rfl, rfl⟩
  simp only [Act.put, List.setIfInBounds_toArray, List.set_cons_zero, List.set_cons_succ, valsL_zero, valsL_succ]
  obtain ⟨ho3, HO⟩ := HO
  refine wpG_v ho3.out rfl ?_ ?_
  · simp only [valsL_zero, valsL_succ]; apply FY_in rfl; intro wx hx
    go_simp
    exact ⟨rfl, rfl⟩
  simp only [Act.put, List.setIfInBounds_toArray, List.set_cons_zero, List.set_cons_succ, valsL_zero, valsL_succ]
  obtain ⟨ho4, HO⟩ := HO
  refine wpG_v ho4.out rfl ?_ ?_
  · simp only [valsL_zero, valsL_succ]; apply FY_in rfl; intro wx hx
    go_simp
    exact ⟨rfl, rfl⟩
  simp only [Act.put, List.setIfInBounds_toArray, List.set_cons_zero, List.set_cons_succ, valsL_zero, valsL_succ]
  obtain ⟨ho5, HO⟩ := HO
  refine wpG_v ho5.out rfl ?_ ?_
  · simp only [valsL_zero, valsL_succ]; apply FY_in rfl; intro wx hx
    have h := hx.cell C1.out (fun h => h)
    go_simp
    exact ⟨rfl, rfl⟩
  simp only [Act.put, List.setIfInBounds_toArray, List.set_cons_zero, List.set_cons_succ, valsL_zero, valsL_succ]
  obtain ⟨ho6, HO⟩ := HO
  refine wpG_v ho6.out rfl ?_ ?_
  · simp only [valsL_zero, valsL_succ]; apply FY_in rfl; intro wx hx
    go_simp
    exact ⟨rfl, rfl⟩
  simp only [Act.put, List.setIfInBounds_toArray, List.set_cons_zero, List.set_cons_succ, valsL_zero, valsL_succ]
  obtain ⟨ho7, HO⟩ := HO
  refine wpG_v ho7.out rfl ?_ ?_
  · simp only [valsL_zero, valsL_succ]; apply FY_in rfl; intro wx hx
    go_simp
    exact ⟨rfl, rfl⟩
  simp only [Act.put, List.setIfInBounds_toArray, List.set_cons_zero, List.set_cons_succ, valsL_zero, valsL_succ]
  obtain ⟨ho8, HO⟩ := HO
  refine wpG_v ho8.out rfl ?_ ?_
  · simp only [valsL_zero, valsL_succ]; apply FY_in rfl; intro wx hx
    have h := hx.cell C2.out (fun h => h)
    go_simp
    exact ⟨rfl, rfl⟩
  simp only [Act.put, List.setIfInBounds_toArray, List.set_cons_zero, List.set_cons_succ, valsL_zero, valsL_succ]
  obtain ⟨ho9, HO⟩ := HO
  refine wpG_v ho9.out rfl ?_ ?_
  · simp only [valsL_zero, valsL_succ]; apply FY_in rfl; intro wx hx
    go_simp
    exact ⟨rfl, rfl⟩
  simp only [Act.put, List.setIfInBounds_toArray, List.set_cons_zero, List.set_cons_succ, valsL_zero, valsL_succ]
  obtain ⟨ho10, HO⟩ := HO
  refine wpG_v ho10.out rfl ?_ ?_
  · simp only [valsL_zero, valsL_succ]; apply FY_in rfl; intro wx hx
    go_simp
    exact ⟨rfl, rfl⟩
  simp only [Act.put, List.setIfInBounds_toArray, List.set_cons_zero, List.set_cons_succ, valsL_zero, valsL_succ]
  obtain ⟨ho11, HO⟩ := HO
  refine wpG_v ho11.out rfl ?_ ?_
  · simp only [valsL_zero, valsL_succ]; apply FY_in rfl; intro wx hx
    have h := hx.cell C3.out (fun h => h)
    go_simp
    exact ⟨rfl, rfl⟩
  simp only [Act.put, List.setIfInBounds_toArray, List.set_cons_zero, List.set_cons_succ, valsL_zero, valsL_succ]
  obtain ⟨ho12, HO⟩ := HO
  refine wpG_v ho12.out rfl ?_ ?_
  · simp only [valsL_zero, valsL_succ]; apply FY_in rfl; intro wx hx
    go_simp
    exact ⟨rfl, rfl⟩
  simp only [Act.put, List.setIfInBounds_toArray, List.set_cons_zero, List.set_cons_succ, valsL_zero, valsL_succ]
  obtain ⟨ho13, HO⟩ := HO
  refine wpG_v ho13.out rfl ?_ ?_
  · simp only [valsL_zero, valsL_succ]; apply FY_in rfl; intro wx hx
    go_simp
    exact ⟨rfl, rfl⟩
  simp only [Act.put, List.setIfInBounds_toArray, List.set_cons_zero, List.set_cons_succ, valsL_zero, valsL_succ]
  obtain ⟨ho14, HO⟩ := HO
  refine wpG_v ho14.out rfl ?_ ?_
  · simp only [valsL_zero, valsL_succ]; apply FY_in rfl; intro wx hx
    have h := hx.cell C4.out (fun h => h)
    go_simp
    exact ⟨rfl, rfl⟩
  simp only [Act.put, List.setIfInBounds_toArray, List.set_cons_zero, List.set_cons_succ, valsL_zero, valsL_succ]
  obtain ⟨ho15, HO⟩ := HO
  refine wpG_v ho15.out rfl ?_ ?_
  · simp only [valsL_zero, valsL_succ]; apply FY_in rfl; intro wx hx
    go_simp
    exact ⟨rfl, rfl⟩
  simp only [Act.put, List.setIfInBounds_toArray, List.set_cons_zero, List.set_cons_succ, valsL_zero, valsL_succ]
  obtain ⟨ho16, HO⟩ := HO
  refine wpG_new _ _ ho16.out rfl fun bm => ?_
  simp only [Act.put, List.setIfInBounds_toArray, List.set_cons_zero, List.set_cons_succ]
  refine HQ.out _ _ ?_
  intro wr hf hE hN
  simp only [List.drop_succ_cons, List.drop_zero]
  clear HQ HO ho0 ho1 ho2 ho3 ho4 ho5 ho6 ho7 ho8 ho9 ho10 ho11 ho12 ho13 ho14 ho15 ho16
  have hbm : w2.heap.size ≤ bm ∧ wr.heap[bm]? = some (.cells #[.int .i64 0, .int .i64 0, .int .i64 0, .int .i64 0, .int .i64 0, .int .i64 0] 29 (0, 0)) := hE 16 _ (by omega) rfl
  have HBM := hid hbm
  clear hE hN hbm
  go_upto_region 4 with (refine wpList_store_row rfl 29 (.tmp 6) (.tmp 26) (by with_reducible rfl) bm #[.int .i64 1, .int .i64 n0, .int .i64 n1, .int .i64 n2, .int .i64 n3, .int .i64 n4] (by kernel_rfl) (by kernel_rfl) _ _ HBM.out.2 (by kernel_rfl) (by rfl) (by simp [Value.oneCell']) ?_)
  have hM := setRow_heap _ bm _ #[.int .i64 1, .int .i64 n0, .int .i64 n1, .int .i64 n2, .int .i64 n3, .int .i64 n4] _ _ HBM.out.2
  have hfr : Frm M0 w2 (wr.setRow bm #[.int .i64 1, .int .i64 n0, .int .i64 n1, .int .i64 n2, .int .i64 n3, .int .i64 n4]) := hf.setRow _ _ HBM.out.1
  obtain ⟨w3, hw3⟩ : ∃ x, x = wr.setRow bm #[.int .i64 1, .int .i64 n0, .int .i64 n1, .int .i64 n2, .int .i64 n3, .int .i64 n4] := ⟨_, rfl⟩
  rw [← hw3] at hM hfr ⊢
  have S3 : Hid (Sb (fun j => j = bm) w3 fun x => x.heap[r0]? = some (.cells #[.int .i64 0, .int .i64 0, .int .i64 0, .int .i64 0, .int .i64 0, .int .i64 0] 29 (0, 0)) ∧ Frm M0 w x) := hid fun wx hx => by
    have h := S2.out.now.1
    have hlt := sb_lt h.1
    have h2 := hfr.heap h.1 (fun h => h)
    have hb := HBM.out.1
    have hz := h.2.size
    exact ⟨hx.heap h2 (by omega), (h.2.then0 hfr).trans hx (fun j hj e => by have h3 : j = bm := e; omega)⟩
  have HM3 := hid hM
  have hc := (HC2.out.step hfr).now
  have HNE : Hid (r0 ≠ bm) := hid (by
    have hlt := sb_lt S2.out.now.1.1
    have hb := HBM.out.1
    omega)
  clear hw3 hM hfr hf S2 HC2 C0 C1 C2 C3 C4
  by_cases hq : x0 = ⟨#[114, 101, 112, 111, 114, 116]⟩
  · have HK : Hid (kindMr (wd W 0) = 2) := hid (by rw [HK0.out, if_pos hq])
    have hq1 : (x0.toList == [114, 101, 112, 111, 114, 116]) = true := by rw [hq, Lib.toList_data]; rfl
    clear hq
    have z0 : w3.frozen? ⟨bm, 0, none⟩ = false := sb_free HM3.out 0
    have k0 : w3.cell? ⟨bm, 0, none⟩ = some (.int .i64 1) := sb_cell HM3.out 0
    go_upto_region 6 with fail
    have HM4 : Hid ((w3.setCell ⟨bm, 0, none⟩ (.int .i64 2)).heap[bm]? = some (.cells #[.int .i64 2, .int .i64 n0, .int .i64 n1, .int .i64 n2, .int .i64 n3, .int .i64 n4] 29 (0, 0))) := hid (heap_set_at (o := 0) HM3.out (.int .i64 2))
    have S4 := hid (S3.out.put bm 0 (.int .i64 2) rfl)
    obtain ⟨w4, hw4⟩ : ∃ x, x = w3.setCell ⟨bm, 0, none⟩ (.int .i64 2) := ⟨_, rfl⟩
    rw [← hw4] at HM4 S4 ⊢
    clear hw4 z0 k0 S3 HM3 hc
    obtain ⟨c, HC⟩ : ∃ c, Hid (c = (⟨2, n0, n1, n2, n3, n4⟩ : Mg)) := ⟨_, hid rfl⟩
    have HMC : Hid (w4.heap[bm]? = some (.cells #[.int .i64 c.k, .int .i64 c.e, .int .i64 c.s, .int .i64 c.u, .int .i64 c.v, .int .i64 c.t] 29 (0, 0))) := hid (by rw [HC.out]; exact HM4.out)
    have HV : Hid (c.val = .agg #[.int .i64 c.k, .int .i64 c.e, .int .i64 c.s, .int .i64 c.u, .int .i64 c.v, .int .i64 c.t]) := rfl
    obtain ⟨y, HY⟩ : ∃ y, Hid (msgS c = y) := ⟨_, rfl⟩
    have HRR : Hid (R = if accB y s = true then (c, 0) else (Mg.zero, 2)) := hid (by
      rw [← HR.out, ← msgF_r, ← HY.out, HC.out]
      unfold msgR
      rw [HCA.out _ HK.out])
    have HNM : Hid (y = s → y.toList.isEmpty = false) := hid (fun e => by
      cases he : y.toList.isEmpty with
      | false => rfl
      | true =>
        have e1 : y = ⟨#[]⟩ := by
          rw [Lib.toList_data, List.isEmpty_iff] at he
          rw [← str_data y, he]
        have e2 : c = candM numQ kindMr s := by rw [HCA.out _ HK.out, HC.out]
        rw [← e, e1] at e2
        have h1 := msg_some (m := c) (by rw [e2]; exact cand_empty)
        rw [HY.out, he] at h1
        exact absurd h1 (by decide))
    clear HM4 HC HCA HK
    go_wp2_with (refine wpList_load_row_w (by kernel_rfl) 29 (.tmp 6) (by with_reducible rfl) bm (by kernel_rfl) _ _ _ _ HMC.out Tryz.underlying29 rfl (by kernel_rfl) ?_)
    rw [← HV.out]
    refine (rmsg_calls c _).mono ?_
    rintro _ w5 ⟨rfl, hf⟩
    rw [HY.out]
    have S5 := hid (S4.out.step hf)
    have HM5 := hid (hf.heap HMC.out (fun h => h))
    clear hf S4 HMC
    by_cases hq : y = s
    · have HRZ : Hid (R = (c, 0)) := hid (by
        rw [HRR.out, if_pos (accB_iff.2 ⟨HNM.out hq, hq⟩)])
      have hq' : (y.toList == s.toList) = true := by rw [hq]; simp
      clear hq
      go_wp2_with (first | (refine wpList_load_row_w (by kernel_rfl) 29 (.tmp 6) (by with_reducible rfl) bm (by kernel_rfl) _ _ _ _ HM5.out Tryz.underlying29 rfl (by kernel_rfl) ?_) | (refine wpList_store_row rfl 29 (.tmp 2) (.tmp 37) (by with_reducible rfl) r0 #[.int .i64 c.k, .int .i64 c.e, .int .i64 c.s, .int .i64 c.u, .int .i64 c.v, .int .i64 c.t] (by kernel_rfl) (by kernel_rfl) _ _ S5.out.now.1 (by kernel_rfl) (by rfl) (by simp [Value.oneCell']) ?_))
      refine bodyPost_ret (results_cell_slot (by rfl) _ _ r0 _ _ _ _ _ rfl rfl (setRow_heap _ _ _ _ _ _ S5.out.now.1) Tryz.underlying29 rfl (by kernel_rfl)) rfl ⟨by rw [HRZ.out]; rfl, S5.out.now.2.setRow _ _ (by have := HR0.out; omega)⟩
    · have HRZ : Hid (R = (Mg.zero, 2)) := hid (by rw [HRR.out, if_neg (by rw [accB_iff]; intro h; exact hq h.2)])
      have hq' : (y.toList == s.toList) = false := by
        rw [beq_eq_false_iff_ne]; intro h; exact hq ((Go.Lib.bytes_beq_iff y s).1 (by simp [h]))
      clear hq
      go_wp2_with (refine wpList_store_row rfl 29 (.tmp 2) (.tmp 36) (by with_reducible rfl) r0 #[.int .i64 0, .int .i64 0, .int .i64 0, .int .i64 0, .int .i64 0, .int .i64 0] (by kernel_rfl) (by kernel_rfl) _ _ S5.out.now.1 (by kernel_rfl) (by rfl) (by simp [Value.oneCell']) ?_)
      refine bodyPost_ret (results_cell_slot (by rfl) _ _ r0 _ _ _ _ _ rfl rfl (setRow_heap _ _ _ _ _ _ S5.out.now.1) Tryz.underlying29 rfl (by kernel_rfl)) rfl ⟨by rw [HRZ.out]; rfl, S5.out.now.2.setRow _ _ (by have := HR0.out; omega)⟩
  · have HK : Hid (kindMr (wd W 0) = 1) := hid (by rw [HK0.out, if_neg hq])
    have hq1 : (x0.toList == [114, 101, 112, 111, 114, 116]) = false := by rw [beq_eq_false_iff_ne]; intro h; rw [Lib.toList_data] at h; exact hq (by rw [← str_data x0, h])
    clear hq
    go_upto_region 6 with fail
    have HM4 := HM3
    have S4 := S3
    obtain ⟨w4, hw4⟩ : ∃ x, x = w3 := ⟨_, rfl⟩
    rw [← hw4] at HM4 S4 ⊢
    clear hw4 S3 HM3 hc
    obtain ⟨c, HC⟩ : ∃ c, Hid (c = (⟨1, n0, n1, n2, n3, n4⟩ : Mg)) := ⟨_, hid rfl⟩
    have HMC : Hid (w4.heap[bm]? = some (.cells #[.int .i64 c.k, .int .i64 c.e, .int .i64 c.s, .int .i64 c.u, .int .i64 c.v, .int .i64 c.t] 29 (0, 0))) := hid (by rw [HC.out]; exact HM4.out)
    have HV : Hid (c.val = .agg #[.int .i64 c.k, .int .i64 c.e, .int .i64 c.s, .int .i64 c.u, .int .i64 c.v, .int .i64 c.t]) := rfl
    obtain ⟨y, HY⟩ : ∃ y, Hid (msgS c = y) := ⟨_, rfl⟩
    have HRR : Hid (R = if accB y s = true then (c, 0) else (Mg.zero, 2)) := hid (by
      rw [← HR.out, ← msgF_r, ← HY.out, HC.out]
      unfold msgR
      rw [HCA.out _ HK.out])
    have HNM : Hid (y = s → y.toList.isEmpty = false) := hid (fun e => by
      cases he : y.toList.isEmpty with
      | false => rfl
      | true =>
        have e1 : y = ⟨#[]⟩ := by
          rw [Lib.toList_data, List.isEmpty_iff] at he
          rw [← str_data y, he]
        have e2 : c = candM numQ kindMr s := by rw [HCA.out _ HK.out, HC.out]
        rw [← e, e1] at e2
        have h1 := msg_some (m := c) (by rw [e2]; exact cand_empty)
        rw [HY.out, he] at h1
        exact absurd h1 (by decide))
    clear HM4 HC HCA HK
    go_wp2_with (refine wpList_load_row_w (by kernel_rfl) 29 (.tmp 6) (by with_reducible rfl) bm (by kernel_rfl) _ _ _ _ HMC.out Tryz.underlying29 rfl (by kernel_rfl) ?_)
    rw [← HV.out]
    refine (rmsg_calls c _).mono ?_
    rintro _ w5 ⟨rfl, hf⟩
    rw [HY.out]
    have S5 := hid (S4.out.step hf)
    have HM5 := hid (hf.heap HMC.out (fun h => h))
    clear hf S4 HMC
    by_cases hq : y = s
    · have HRZ : Hid (R = (c, 0)) := hid (by
        rw [HRR.out, if_pos (accB_iff.2 ⟨HNM.out hq, hq⟩)])
      have hq' : (y.toList == s.toList) = true := by rw [hq]; simp
      clear hq
      go_wp2_with (first | (refine wpList_load_row_w (by kernel_rfl) 29 (.tmp 6) (by with_reducible rfl) bm (by kernel_rfl) _ _ _ _ HM5.out Tryz.underlying29 rfl (by kernel_rfl) ?_) | (refine wpList_store_row rfl 29 (.tmp 2) (.tmp 37) (by with_reducible rfl) r0 #[.int .i64 c.k, .int .i64 c.e, .int .i64 c.s, .int .i64 c.u, .int .i64 c.v, .int .i64 c.t] (by kernel_rfl) (by kernel_rfl) _ _ S5.out.now.1 (by kernel_rfl) (by rfl) (by simp [Value.oneCell']) ?_))
      refine bodyPost_ret (results_cell_slot (by rfl) _ _ r0 _ _ _ _ _ rfl rfl (setRow_heap _ _ _ _ _ _ S5.out.now.1) Tryz.underlying29 rfl (by kernel_rfl)) rfl ⟨by rw [HRZ.out]; rfl, S5.out.now.2.setRow _ _ (by have := HR0.out; omega)⟩
    · have HRZ : Hid (R = (Mg.zero, 2)) := hid (by rw [HRR.out, if_neg (by rw [accB_iff]; intro h; exact hq h.2)])
      have hq' : (y.toList == s.toList) = false := by
        rw [beq_eq_false_iff_ne]; intro h; exact hq ((Go.Lib.bytes_beq_iff y s).1 (by simp [h]))
      clear hq
      go_wp2_with (refine wpList_store_row rfl 29 (.tmp 2) (.tmp 36) (by with_reducible rfl) r0 #[.int .i64 0, .int .i64 0, .int .i64 0, .int .i64 0, .int .i64 0, .int .i64 0] (by kernel_rfl) (by kernel_rfl) _ _ S5.out.now.1 (by kernel_rfl) (by rfl) (by simp [Value.oneCell']) ?_)
      refine bodyPost_ret (results_cell_slot (by rfl) _ _ r0 _ _ _ _ _ rfl rfl (setRow_heap _ _ _ _ _ _ S5.out.now.1) Tryz.underlying29 rfl (by kernel_rfl)) rfl ⟨by rw [HRZ.out]; rfl, S5.out.now.2.setRow _ _ (by have := HR0.out; omega)⟩
end Go.Proofs.YtonlmkcolndaaaaGreatDoor
namespace Go.Proofs.YtonlmkcolndaaaaGreatDoor
set_option linter.unusedVariables false
set_option linter.unusedSimpArgs false
set_option maxRecDepth 20000
open Go.RowKit

theorem behL_len : ∀ (l : List UInt8) (n : Nat), (behL l n).length ≤ l.length
  | [], _ => by simp [behL]
  | c :: l, n => by
    have h1 := behL_len l n
    have h2 := behL_len l (n - 1)
    unfold behL
    split
    · split
      · simp
      · simp; omega
    · simp; omega
theorem rest_size (s : ByteArray) (k : Nat) (h : 1 ≤ k) : (restS (splitL s.data.toList) k).size ≤ s.size := by
  have e : s.size = s.data.toList.length := by simp
  rw [← behS s k h, str_size, e]
  exact behL_len _ _
theorem readS_small (t : ByteArray) : (readS t).1.small := by
  have hz : Sp.zero.small := by
    intro x hx
    simp only [Sp.nums, Sp.zero, List.mem_cons, List.not_mem_nil, or_false, or_self] at hx
    subst hx; omega
  have key : (readS t).1 = Sp.zero ∨ (readS t).1.chkE = 0 := by
    unfold readS readL
    split
    · split
      · split
        · rename_i h; exact .inr h
        · exact .inl rfl
      · exact .inl rfl
    · exact .inl rfl
  rcases key with h | h
  · rw [h]; exact hz
  · intro x hx
    have := nums_le2 h x hx
    omega
theorem numT_i64 (l : List UInt8) : -9223372036854775808 ≤ numT l ∧ numT l ≤ 9223372036854775807 := by
  unfold numT
  split
  · rename_i v hv
    have := Lib.atoiAll_bounds hv
    split <;> omega
  · omega
theorem numQ_i64 (l : List UInt8) : -9223372036854775808 ≤ numQ l ∧ numQ l ≤ 9223372036854775807 := by
  unfold numQ
  split
  · rename_i v hv
    have := numF_small hv
    omega
  · omega
theorem cand_fine {f : List UInt8 → Int} (hf : ∀ l, -9223372036854775808 ≤ f l ∧ f l ≤ 9223372036854775807) {s : ByteArray} (hs : s.size ≤ 90000) : (candR f s).fine := by
  refine ⟨?_, ?_, ?_⟩
  · intro x hx
    simp only [candR, Rc.four, List.mem_cons, List.not_mem_nil, or_false] at hx
    rcases hx with rfl | rfl | rfl | rfl <;> exact hf _
  · unfold candR
    simp only []
    split
    · decide
    · have := rest_size s 5 (by omega)
      omega
  · intro h3
    have h4 : kindF (wd (splitL s.data.toList) 0) = 3 := h3
    have e : (candR f s).p = (readS (restS (splitL s.data.toList) 5)).1 := by unfold candR; simp only []; rw [if_pos h4]
    rw [e]; exact readS_small _
abbrev zs13 : List Value := [.string ⟨#[]⟩, .int .i64 0, .int .i64 0, .int .i64 0, .int .i64 0, .int .i64 0, .int .i64 0, .int .i64 0, .int .i64 0, .int .i64 0, .int .i64 0, .int .i64 0, .int .i64 0]

set_option maxRecDepth 20000 in
set_option maxHeartbeats 8000000 in
theorem trecord_calls (s : ByteArray) (w : World) (hs : s.size ≤ 90000) (hg : Glob w) : Calls Tryz.prog 20 #[.string s] w fun x w' => x = .returned (.tuple #[(recF s).1.val, .int .i64 (recF s).2]) ∧ Frm M0 w w' := by
  obtain ⟨R, HR⟩ : ∃ R, Hid (recF s = R) := ⟨_, rfl⟩
  rw [HR.out]
  have HG := hid hg
  have HS := hid hs
  clear hg hs
  go_enter Tryz.func20, Tryz.ntmps20
  go_wp2_with fail
  refine (twords_calls s _ (by have := HS.out; omega) (HG.out.frm ((Frm.refl M0 w).alloc _))).mono ?_
  rintro _ w1 ⟨b, rfl, hb, hr, hf⟩
  obtain ⟨r0, hr0⟩ : ∃ x, x = w.heap.size := ⟨_, rfl⟩
  have hsz : (w.alloc (.cells #[.int .i64 0, .int .i64 0, .int .i64 0, .int .i64 0, .int .i64 0, .string ⟨#[]⟩, .int .i64 0, .int .i64 0, .int .i64 0, .int .i64 0, .int .i64 0, .int .i64 0, .int .i64 0, .int .i64 0, .int .i64 0, .int .i64 0, .int .i64 0, .int .i64 0] 27)).heap.size = w.heap.size + 1 := by simp
  rw [hsz] at hb
  have S1 : Hid (Sb (fun j => j = b) w1 fun x => x.heap[r0]? = some (.cells #[.int .i64 0, .int .i64 0, .int .i64 0, .int .i64 0, .int .i64 0, .string ⟨#[]⟩, .int .i64 0, .int .i64 0, .int .i64 0, .int .i64 0, .int .i64 0, .int .i64 0, .int .i64 0, .int .i64 0, .int .i64 0, .int .i64 0, .int .i64 0, .int .i64 0] 27 (0, 0)) ∧ Frm M0 w x) :=
    hid fun wx hx => by
      have hF : Frm M0 w wx := (((Frm.refl M0 w).alloc _).then0 hf).trans hx (fun j hj e => by have : j = b := e; omega)
      exact ⟨hx.heap (hr0 ▸ hf.heap (new1 w _) (fun h => h)) (by omega), hF⟩
  rw [← hr0]
  obtain ⟨L, hL⟩ : ∃ x, x = splitS s := ⟨_, rfl⟩
  obtain ⟨W, hW⟩ : ∃ x, x = splitL s.data.toList := ⟨_, rfl⟩
  have hLW : L.map (·.data.toList) = splitL s.data.toList := by rw [hL]; exact splitS_list s
  have HFW := hid (few_of (by have := HS.out; omega) hLW)
  rw [← hW] at hLW
  have HL := hid hLW
  have HW := hid hW
  rw [← hL] at hr
  obtain ⟨B1, hB1⟩ : ∃ x, x = w1.heap.size := ⟨_, rfl⟩
  rw [← hB1] at hr
  have HB := hid (And.intro hr0 (And.intro hb hB1))
  have HD1 : Hid (RdrAt w1 b B1 (L.drop 0)) := hid hr
  clear hL hW hLW hr hf hsz hr0 hb hB1
  go_wp2_with fail
  refine (word1_calls b B1 L 0 _ HD1.out).mono ?_
  rintro _ w2 ⟨rfl, hr, hf⟩
  have S2 := hid (S1.out.stepX hf)
  have HD2 := hid hr
  have HZ2 : Hid (B1 ≤ w2.heap.size) := hid (by have := hf.size; have := HB.out.2.2; omega)
  clear hr hf S1 HD1
  obtain ⟨x0, hx0⟩ : ∃ x, x = L.getD 0 ⟨#[]⟩ := ⟨_, rfl⟩
  have HX0 : Hid (x0.data.toList = wd W 0) := hid (by rw [hx0, wd_of HL.out])
  rw [← hx0]
  clear hx0
  go_wp2_with fail
  refine (tkind_calls x0 _).mono ?_
  rintro _ w3 ⟨rfl, hf⟩
  have S3 := hid (S2.out.step hf)
  have HD3 := hid (HD2.out.frm0 hf)
  have HZ3 : Hid (B1 ≤ w3.heap.size) := hid (Nat.le_trans HZ2.out hf.size)
  obtain ⟨k0, hk0⟩ : ∃ k, k = kindF x0.data.toList := ⟨_, rfl⟩
  have HK0 : Hid (k0 = kindF (wd W 0)) := hid (by rw [hk0, ← HX0.out])
  rw [← hk0]
  clear hk0 hf S2 HD2 HZ2
  obtain ⟨bm, hbm⟩ : ∃ x, x = w3.heap.size := ⟨_, rfl⟩
  have HN0 := hid (new1 w3 (.cells #[.int .i64 0, .int .i64 0, .int .i64 0, .int .i64 0, .int .i64 0, .string ⟨#[]⟩, .int .i64 0, .int .i64 0, .int .i64 0, .int .i64 0, .int .i64 0, .int .i64 0, .int .i64 0, .int .i64 0, .int .i64 0, .int .i64 0, .int .i64 0, .int .i64 0] 27))
  have HBM := hid hbm
  go_upto_region 3 with (refine wpList_store_row rfl 27 (.tmp 5) (.tmp 14) (by with_reducible rfl) w3.heap.size #[.int .i64 k0, .int .i64 0, .int .i64 0, .int .i64 0, .int .i64 0, .string ⟨#[]⟩, .int .i64 0, .int .i64 0, .int .i64 0, .int .i64 0, .int .i64 0, .int .i64 0, .int .i64 0, .int .i64 0, .int .i64 0, .int .i64 0, .int .i64 0, .int .i64 0] (by kernel_rfl) (by kernel_rfl) _ _ HN0.out (by kernel_rfl) (by rfl) (by simp [Value.oneCell']) ?_)
  have hM4 := setRow_heap _ w3.heap.size _ #[.int .i64 k0, .int .i64 0, .int .i64 0, .int .i64 0, .int .i64 0, .string ⟨#[]⟩, .int .i64 0, .int .i64 0, .int .i64 0, .int .i64 0, .int .i64 0, .int .i64 0, .int .i64 0, .int .i64 0, .int .i64 0, .int .i64 0, .int .i64 0, .int .i64 0] _ _ HN0.out
  have hf4 : Frm M0 w3 ((w3.alloc (.cells #[.int .i64 0, .int .i64 0, .int .i64 0, .int .i64 0, .int .i64 0, .string ⟨#[]⟩, .int .i64 0, .int .i64 0, .int .i64 0, .int .i64 0, .int .i64 0, .int .i64 0, .int .i64 0, .int .i64 0, .int .i64 0, .int .i64 0, .int .i64 0, .int .i64 0] 27)).setRow w3.heap.size #[.int .i64 k0, .int .i64 0, .int .i64 0, .int .i64 0, .int .i64 0, .string ⟨#[]⟩, .int .i64 0, .int .i64 0, .int .i64 0, .int .i64 0, .int .i64 0, .int .i64 0, .int .i64 0, .int .i64 0, .int .i64 0, .int .i64 0, .int .i64 0, .int .i64 0]) := ((Frm.refl M0 w3).alloc _).setRow _ _ (Nat.le_refl _)
  obtain ⟨w4, hw4⟩ : ∃ x, x = (w3.alloc (.cells #[.int .i64 0, .int .i64 0, .int .i64 0, .int .i64 0, .int .i64 0, .string ⟨#[]⟩, .int .i64 0, .int .i64 0, .int .i64 0, .int .i64 0, .int .i64 0, .int .i64 0, .int .i64 0, .int .i64 0, .int .i64 0, .int .i64 0, .int .i64 0, .int .i64 0] 27)).setRow w3.heap.size #[.int .i64 k0, .int .i64 0, .int .i64 0, .int .i64 0, .int .i64 0, .string ⟨#[]⟩, .int .i64 0, .int .i64 0, .int .i64 0, .int .i64 0, .int .i64 0, .int .i64 0, .int .i64 0, .int .i64 0, .int .i64 0, .int .i64 0, .int .i64 0, .int .i64 0] := ⟨_, rfl⟩
  rw [← hw4] at hM4 hf4 ⊢
  rw [← hbm] at hM4 ⊢
  have HD4 := hid (HD3.out.frm0 hf4)
  have HM4 : Hid (w4.heap[bm]? = some (.cells (stC (.int .i64 k0) (numsZ numT W 1 0 4) zs13) 27 (0, 0))) := hid hM4
  have HZ4 : Hid (B1 ≤ bm ∧ bm < w4.heap.size) := hid ⟨by have := HZ3.out; omega, sb_lt hM4⟩
  have S4 : Hid (Sb (fun j => j = b ∨ j = bm) w4 fun x => x.heap[r0]? = some (.cells #[.int .i64 0, .int .i64 0, .int .i64 0, .int .i64 0, .int .i64 0, .string ⟨#[]⟩, .int .i64 0, .int .i64 0, .int .i64 0, .int .i64 0, .int .i64 0, .int .i64 0, .int .i64 0, .int .i64 0, .int .i64 0, .int .i64 0, .int .i64 0, .int .i64 0] 27 (0, 0)) ∧ Frm M0 w x) := hid fun wx hx => by
    have h4 := (S3.out.step hf4).now
    have hBB := HB.out
    have hZZ := HZ4.out
    obtain ⟨v, _, _, h3, _⟩ := HD4.out
    have hF : Frm M0 w wx := h4.2.trans hx (fun j hj e => by rcases e with e | e <;> omega)
    exact ⟨hx.heap h4.1 (by omega), hF⟩
  clear hw4 hM4 hf4 hbm HN0 S3 HD3 HZ3
  go_wp2_with fail
  go_loopw [7, 20] (fun _s7 i23 wr => ∃ k : Nat, k ≤ 4 ∧ i23 = .int .i64 k ∧ Hid (wr.heap[bm]? = some (.cells (stC (.int .i64 k0) (numsZ numT W 1 k 4) zs13) 27 (0, 0))) ∧ Hid (RdrAt wr b B1 (L.drop (k + 1))) ∧ Hid (Frm (fun j => j = b ∨ j = bm) w4 wr)) (fun _ i _ => 4 - (intOf i).toNat)
  case atStart => exact ⟨0, by omega, rfl, HM4, HD4, hid (Frm.refl _ _)⟩
  case round =>
    clear HM4 HD4
    obtain ⟨k, hk, rfl, HM, HD, HF⟩ := hrel
    have S6 := hid (S4.out.stepX HF.out)
    by_cases hlt : k < 4
    · have hp : (#[.pointer (some ⟨bm, 1, none⟩), .pointer (some ⟨bm, 2, none⟩), .pointer (some ⟨bm, 3, none⟩), .pointer (some ⟨bm, 4, none⟩)] : Array Value)[k]? = some (.pointer (some ⟨bm, k + 1, none⟩)) := by
        have hc : k = 0 ∨ k = 1 ∨ k = 2 ∨ k = 3 := by omega
        rcases hc with rfl | rfl | rfl | rfl <;> rfl
      have HP := hid hp
      have HLT := hid hlt
      clear hp
      go_wp2_with (first | (refine wpList_index rfl 76 71 (.tmp 19) (.tmp 20) (by with_reducible rfl) Tryz.underlying76 Tryz.underlying71 rfl (by kernel_rfl) _ rfl .i64 k rfl HLT.out (.pointer (some ⟨bm, k + 1, none⟩)) HP.out ?_))
      refine (tnum_calls b B1 L (k + 1) _ HD.out HFW.out.sz (fun w' hf => HG.out.frm (S6.out.now.2.trans hf (fun j hj e => by have h1 : j = b := e; have := HB.out; omega)))).mono ?_
      rintro _ w6 ⟨rfl, hr, hf⟩
      have hM6 := hf.heap HM.out (fun e => by have h1 : bm = b := e; obtain ⟨v, _, _, h3, _⟩ := HD.out; have := HZ4.out; omega)
      have HM6 := hid hM6
      have HF6 := hid (HF.out.trans hf (fun j hj e => .inl e))
      have hlen : (numsZ numT W 1 k 4).length = 4 := numsZ_len _ _ _ _ _ hk
      obtain ⟨z, hzz⟩ : ∃ z, (numsZ numT W 1 k 4)[k]? = some z := ⟨_, List.getElem?_eq_getElem (by have := HLT.out; omega)⟩
      have hcell : w6.cell? ⟨bm, k + 1, none⟩ = some (.int .i64 z) := (sb_cell hM6 (k + 1)).trans (stC_get _ _ _ _ _ hzz)
      have hz : w6.frozen? ⟨bm, k + 1, none⟩ = false := sb_free hM6 (k + 1)
      obtain ⟨x, hx⟩ : ∃ x, x = numT (L.getD (k + 1) ⟨#[]⟩).data.toList := ⟨_, rfl⟩
      have HX : Hid (x = numT (wd W (1 + k))) := hid (by rw [hx, wd_of HL.out, Nat.add_comm])
      have HD6 := hid hr
      rw [← hx]
      clear hx hr hf hM6 hlen hzz
      go_wp2_with fail
      refine ⟨⟨k + 1, HLT.out, by go_num, hid ?_, hid ?_, hid (HF6.out.put bm _ _ (fun _ => .inr rfl))⟩, by have := HLT.out; simp [intOf]; omega⟩
      · have h5 := heap_set_at (o := k + 1) HM6.out (.int .i64 x)
        rw [stC_set _ _ _ _ _ (by rw [numsZ_len _ _ _ _ _ hk]; exact HLT.out), HX.out, numsZ_set _ _ _ _ _ HLT.out, ← HX.out] at h5
        exact h5
      · exact HD6.out.frm ((Frm.refl (fun j => j = bm) w6).put bm _ _ (fun _ => rfl)) (fun j hj e => by have h1 : j = bm := e; have := HZ4.out; omega)
    · obtain rfl : k = 4 := by omega
      obtain ⟨e1, he1⟩ : ∃ e, e = numT (wd W 1) := ⟨_, rfl⟩
      obtain ⟨e2, he2⟩ : ∃ e, e = numT (wd W 2) := ⟨_, rfl⟩
      obtain ⟨e3, he3⟩ : ∃ e, e = numT (wd W 3) := ⟨_, rfl⟩
      obtain ⟨e4, he4⟩ : ∃ e, e = numT (wd W 4) := ⟨_, rfl⟩
      obtain ⟨t, ht⟩ : ∃ t, t = restS W 5 := ⟨_, rfl⟩
      have HM0 : Hid (wr.heap[bm]? = some (.cells #[.int .i64 k0, .int .i64 e1, .int .i64 e2, .int .i64 e3, .int .i64 e4, .string ⟨#[]⟩, .int .i64 0, .int .i64 0, .int .i64 0, .int .i64 0, .int .i64 0, .int .i64 0, .int .i64 0, .int .i64 0, .int .i64 0, .int .i64 0, .int .i64 0, .int .i64 0] 27 (0, 0))) := hid (by
        rw [he1, he2, he3, he4]; exact HM.out)
      have HRT := (trest_calls b B1 (L.drop 5) wr HD.out (by rw [List.length_drop]; have := HFW.out.len; omega) (fun x hx => HFW.out.sz x (List.mem_of_mem_drop hx)))
      rw [rest_of HL.out 5, ← ht] at HRT
      have HRT := hid HRT
      have HTS : Hid (t.size ≤ 90000) := hid (by rw [ht, HW.out]; exact Nat.le_trans (rest_size s 5 (by omega)) HS.out)
      have HCA3 : Hid (k0 = 3 → candR numT s = ⟨k0, e1, e2, e3, e4, ⟨#[]⟩, (readS t).1⟩) := hid (fun h3 => by
        have h4 : kindF (wd W 0) = 3 := by rw [← HK0.out]; exact h3
        unfold candR
        rw [← HW.out, h4, if_pos rfl, if_pos rfl, h3, he1, he2, he3, he4, ht])
      have HCAN : Hid (k0 ≠ 3 → candR numT s = ⟨k0, e1, e2, e3, e4, t, Sp.zero⟩) := hid (fun h3 => by
        have h4 : ¬ kindF (wd W 0) = 3 := by rw [← HK0.out]; exact h3
        unfold candR
        rw [← HW.out, if_neg h4, if_neg h4, HK0.out, he1, he2, he3, he4, ht])
      have c00 : wr.cell? ⟨bm, 0, none⟩ = some (.int .i64 k0) := sb_cell HM0.out 0
      clear HM HD he1 he2 he3 he4 ht
      by_cases h3 : k0 = 3
      · have h3b : (k0 == 3) = true := by simp [h3]
        have HC3 := hid (HCA3.out h3)
        clear h3
        go_wp2_with fail
        refine HRT.out.mono ?_
        rintro _ w7 ⟨rfl, hf⟩
        have S7 := hid (S6.out.step hf)
        have HM7 := hid (hf.heap HM0.out (fun h => h))
        clear hf S6 HM0 c00 h3b HRT
        go_wp2_with fail
        refine (sread_calls t _ (by have := HTS.out; omega) (HG.out.frm S7.out.now.2)).mono ?_
        rintro _ w8 ⟨rfl, hf⟩
        have S8 := hid (S7.out.step hf)
        have HM8 := hid (hf.heap HM7.out (fun h => h))
        clear hf S7 HM7
        obtain ⟨P, hP⟩ : ∃ P, P = (readS t).1 := ⟨_, rfl⟩
        have HCQ : Hid (candR numT s = ⟨k0, e1, e2, e3, e4, ⟨#[]⟩, P⟩) := hid (by rw [HC3.out, hP])
        have HVP : Hid (P.val = .agg #[.int .i64 P.s0, .int .i64 P.s1, .int .i64 P.s2, .int .i64 P.s3, .int .i64 P.s4, .int .i64 P.s5, .int .i64 P.s6, .int .i64 P.s7, .int .i64 P.s8, .int .i64 P.s9, .int .i64 P.s10, .int .i64 P.s11]) := rfl
        rw [← hP, HVP.out]
        clear hP HC3
        obtain ⟨q2, hq2⟩ : ∃ q, q = (readS t).2 := ⟨_, rfl⟩
        rw [← hq2]
        clear hq2
        go_upto_region 11 with (refine wpList_store_at (by kernel_rfl) 25 (.tmp 37) (.tmp 35) (by with_reducible rfl) bm 6 (by kernel_rfl) #[.int .i64 P.s0, .int .i64 P.s1, .int .i64 P.s2, .int .i64 P.s3, .int .i64 P.s4, .int .i64 P.s5, .int .i64 P.s6, .int .i64 P.s7, .int .i64 P.s8, .int .i64 P.s9, .int .i64 P.s10, .int .i64 P.s11] (by kernel_rfl) _ _ HM8.out (by kernel_rfl) (by simp) (by simp [Value.oneCell']) ?_; intro w9 hh hp; have HM9 : Hid (w9.heap[bm]? = some (.cells #[.int .i64 k0, .int .i64 e1, .int .i64 e2, .int .i64 e3, .int .i64 e4, .string ⟨#[]⟩, .int .i64 P.s0, .int .i64 P.s1, .int .i64 P.s2, .int .i64 P.s3, .int .i64 P.s4, .int .i64 P.s5, .int .i64 P.s6, .int .i64 P.s7, .int .i64 P.s8, .int .i64 P.s9, .int .i64 P.s10, .int .i64 P.s11] 27 (0, 0))) := putL_heap hh (by kernel_rfl); have HP9 := hid hp; clear hh hp)
        have S9 := hid (S8.out.stepX (HP9.out.mono (fun j hj e => .inr e)))
        clear HP9 S8 HM8
        obtain ⟨c, HC⟩ : ∃ c, Hid (candR numT s = c) := ⟨_, rfl⟩
        have hcc : c = ⟨k0, e1, e2, e3, e4, ⟨#[]⟩, P⟩ := by rw [← HC.out, HCQ.out]
        have HMC : Hid (w9.heap[bm]? = some (.cells #[.int .i64 c.k, .int .i64 c.e, .int .i64 c.w, .int .i64 c.n, .int .i64 c.q, .string c.t, .int .i64 c.p.s0, .int .i64 c.p.s1, .int .i64 c.p.s2, .int .i64 c.p.s3, .int .i64 c.p.s4, .int .i64 c.p.s5, .int .i64 c.p.s6, .int .i64 c.p.s7, .int .i64 c.p.s8, .int .i64 c.p.s9, .int .i64 c.p.s10, .int .i64 c.p.s11] 27 (0, 0))) := hid (by rw [hcc]; exact HM9.out)
        have HV : Hid (c.val = .agg #[.int .i64 c.k, .int .i64 c.e, .int .i64 c.w, .int .i64 c.n, .int .i64 c.q, .string c.t, .int .i64 c.p.s0, .int .i64 c.p.s1, .int .i64 c.p.s2, .int .i64 c.p.s3, .int .i64 c.p.s4, .int .i64 c.p.s5, .int .i64 c.p.s6, .int .i64 c.p.s7, .int .i64 c.p.s8, .int .i64 c.p.s9, .int .i64 c.p.s10, .int .i64 c.p.s11]) := rfl
        have HFI : Hid c.fine := hid (by rw [← HC.out]; exact cand_fine numT_i64 HS.out)
        obtain ⟨y, HY⟩ : ∃ y, Hid (wordsS c = y) := ⟨_, rfl⟩
        have HRR : Hid (R = if accB y s = true then (c, 0) else (Rc.zero, 2)) := hid (by rw [← HR.out, ← HY.out, ← HC.out]; rfl)
        clear hcc HM9 HCQ HC HK0 HL HW
        go_wp2_with (refine wpList_load_row_w (by kernel_rfl) 27 (.tmp 5) (by with_reducible rfl) bm (by kernel_rfl) _ _ _ _ HMC.out Tryz.underlying27 rfl (by kernel_rfl) ?_)
        rw [← HV.out]
        refine (rwords_calls c _ (HG.out.frm S9.out.now.2).tab HFI.out).mono ?_
        rintro _ w10 ⟨rfl, hf⟩
        rw [HY.out]
        have S10 := hid (S9.out.step hf)
        have HM10 := hid (hf.heap HMC.out (fun h => h))
        clear hf S9 HMC
        by_cases hE : y.toList.isEmpty = true
        · have HRZ : Hid (R = (Rc.zero, 2)) := hid (by rw [HRR.out, if_neg (by rw [accB_iff]; intro h; rw [h.1] at hE; cases hE)])
          go_wp2_with (refine wpList_store_row rfl 27 (.tmp 2) (.tmp 50) (by with_reducible rfl) r0 #[.int .i64 0, .int .i64 0, .int .i64 0, .int .i64 0, .int .i64 0, .string ⟨#[]⟩, .int .i64 0, .int .i64 0, .int .i64 0, .int .i64 0, .int .i64 0, .int .i64 0, .int .i64 0, .int .i64 0, .int .i64 0, .int .i64 0, .int .i64 0, .int .i64 0] (by kernel_rfl) (by kernel_rfl) _ _ S10.out.now.1 (by kernel_rfl) (by rfl) (by simp [Value.oneCell']) ?_)
          refine bodyPost_ret (results_cell_slot (by rfl) _ _ r0 _ _ _ _ _ rfl rfl (setRow_heap _ _ _ _ _ _ S10.out.now.1) Tryz.underlying27 rfl (by kernel_rfl)) rfl ⟨by rw [HRZ.out]; rfl, S10.out.now.2.setRow _ _ (by have := HB.out; omega)⟩
        · have hE' : y.toList.isEmpty = false := by simpa using hE
          by_cases hq : y = s
          · have HRZ : Hid (R = (c, 0)) := hid (by rw [HRR.out, if_pos (accB_iff.2 ⟨hE', hq⟩)])
            have hq' : (y.toList == s.toList) = true := by rw [hq]; simp
            clear hE hq
            go_wp2_with (first | (refine wpList_load_row_w (by kernel_rfl) 27 (.tmp 5) (by with_reducible rfl) bm (by kernel_rfl) _ _ _ _ HM10.out Tryz.underlying27 rfl (by kernel_rfl) ?_) | (refine wpList_store_row rfl 27 (.tmp 2) (.tmp 51) (by with_reducible rfl) r0 #[.int .i64 c.k, .int .i64 c.e, .int .i64 c.w, .int .i64 c.n, .int .i64 c.q, .string c.t, .int .i64 c.p.s0, .int .i64 c.p.s1, .int .i64 c.p.s2, .int .i64 c.p.s3, .int .i64 c.p.s4, .int .i64 c.p.s5, .int .i64 c.p.s6, .int .i64 c.p.s7, .int .i64 c.p.s8, .int .i64 c.p.s9, .int .i64 c.p.s10, .int .i64 c.p.s11] (by kernel_rfl) (by kernel_rfl) _ _ S10.out.now.1 (by kernel_rfl) (by rfl) (by simp [Value.oneCell']) ?_))
            refine bodyPost_ret (results_cell_slot (by rfl) _ _ r0 _ _ _ _ _ rfl rfl (setRow_heap _ _ _ _ _ _ S10.out.now.1) Tryz.underlying27 rfl (by kernel_rfl)) rfl ⟨by rw [HRZ.out]; rfl, S10.out.now.2.setRow _ _ (by have := HB.out; omega)⟩
          · have HRZ : Hid (R = (Rc.zero, 2)) := hid (by rw [HRR.out, if_neg (by rw [accB_iff]; intro h; exact hq h.2)])
            have hq' : (y.toList == s.toList) = false := by
              rw [beq_eq_false_iff_ne]; intro h; exact hq ((Go.Lib.bytes_beq_iff y s).1 (by simp [h]))
            clear hE hq
            go_wp2_with (refine wpList_store_row rfl 27 (.tmp 2) (.tmp 50) (by with_reducible rfl) r0 #[.int .i64 0, .int .i64 0, .int .i64 0, .int .i64 0, .int .i64 0, .string ⟨#[]⟩, .int .i64 0, .int .i64 0, .int .i64 0, .int .i64 0, .int .i64 0, .int .i64 0, .int .i64 0, .int .i64 0, .int .i64 0, .int .i64 0, .int .i64 0, .int .i64 0] (by kernel_rfl) (by kernel_rfl) _ _ S10.out.now.1 (by kernel_rfl) (by rfl) (by simp [Value.oneCell']) ?_)
            refine bodyPost_ret (results_cell_slot (by rfl) _ _ r0 _ _ _ _ _ rfl rfl (setRow_heap _ _ _ _ _ _ S10.out.now.1) Tryz.underlying27 rfl (by kernel_rfl)) rfl ⟨by rw [HRZ.out]; rfl, S10.out.now.2.setRow _ _ (by have := HB.out; omega)⟩
      · have h3b : (k0 == 3) = false := by simp [h3]
        have HCQ := hid (HCAN.out h3)
        clear h3
        go_wp2_with fail
        refine HRT.out.mono ?_
        rintro _ w7 ⟨rfl, hf⟩
        have S7 := hid (S6.out.step hf)
        have HM7 := hid (hf.heap HM0.out (fun h => h))
        have c5 : w7.cell? ⟨bm, 5, none⟩ = some (.string ⟨#[]⟩) := sb_cell HM7.out 5
        have z5 : w7.frozen? ⟨bm, 5, none⟩ = false := sb_free HM7.out 5
        clear hf S6 HM0 c00 h3b HRT
        go_upto_region 11 with fail
        have HM9 : Hid ((w7.setCell ⟨bm, 5, none⟩ (.string t)).heap[bm]? = some (.cells #[.int .i64 k0, .int .i64 e1, .int .i64 e2, .int .i64 e3, .int .i64 e4, .string t, .int .i64 0, .int .i64 0, .int .i64 0, .int .i64 0, .int .i64 0, .int .i64 0, .int .i64 0, .int .i64 0, .int .i64 0, .int .i64 0, .int .i64 0, .int .i64 0] 27 (0, 0))) := hid (heap_set_at (o := 5) HM7.out (.string t))
        have S9 := hid (S7.out.put bm 5 (.string t) (.inr rfl))
        obtain ⟨w9, hw9⟩ : ∃ x, x = w7.setCell ⟨bm, 5, none⟩ (.string t) := ⟨_, rfl⟩
        rw [← hw9] at HM9 S9 ⊢
        clear hw9 c5 z5 S7 HM7
        obtain ⟨c, HC⟩ : ∃ c, Hid (candR numT s = c) := ⟨_, rfl⟩
        have hcc : c = ⟨k0, e1, e2, e3, e4, t, Sp.zero⟩ := by rw [← HC.out, HCQ.out]
        have HMC : Hid (w9.heap[bm]? = some (.cells #[.int .i64 c.k, .int .i64 c.e, .int .i64 c.w, .int .i64 c.n, .int .i64 c.q, .string c.t, .int .i64 c.p.s0, .int .i64 c.p.s1, .int .i64 c.p.s2, .int .i64 c.p.s3, .int .i64 c.p.s4, .int .i64 c.p.s5, .int .i64 c.p.s6, .int .i64 c.p.s7, .int .i64 c.p.s8, .int .i64 c.p.s9, .int .i64 c.p.s10, .int .i64 c.p.s11] 27 (0, 0))) := hid (by rw [hcc]; exact HM9.out)
        have HV : Hid (c.val = .agg #[.int .i64 c.k, .int .i64 c.e, .int .i64 c.w, .int .i64 c.n, .int .i64 c.q, .string c.t, .int .i64 c.p.s0, .int .i64 c.p.s1, .int .i64 c.p.s2, .int .i64 c.p.s3, .int .i64 c.p.s4, .int .i64 c.p.s5, .int .i64 c.p.s6, .int .i64 c.p.s7, .int .i64 c.p.s8, .int .i64 c.p.s9, .int .i64 c.p.s10, .int .i64 c.p.s11]) := rfl
        have HFI : Hid c.fine := hid (by rw [← HC.out]; exact cand_fine numT_i64 HS.out)
        obtain ⟨y, HY⟩ : ∃ y, Hid (wordsS c = y) := ⟨_, rfl⟩
        have HRR : Hid (R = if accB y s = true then (c, 0) else (Rc.zero, 2)) := hid (by rw [← HR.out, ← HY.out, ← HC.out]; rfl)
        clear hcc HM9 HCQ HC HK0 HL HW
        go_wp2_with (refine wpList_load_row_w (by kernel_rfl) 27 (.tmp 5) (by with_reducible rfl) bm (by kernel_rfl) _ _ _ _ HMC.out Tryz.underlying27 rfl (by kernel_rfl) ?_)
        rw [← HV.out]
        refine (rwords_calls c _ (HG.out.frm S9.out.now.2).tab HFI.out).mono ?_
        rintro _ w10 ⟨rfl, hf⟩
        rw [HY.out]
        have S10 := hid (S9.out.step hf)
        have HM10 := hid (hf.heap HMC.out (fun h => h))
        clear hf S9 HMC
        by_cases hE : y.toList.isEmpty = true
        · have HRZ : Hid (R = (Rc.zero, 2)) := hid (by rw [HRR.out, if_neg (by rw [accB_iff]; intro h; rw [h.1] at hE; cases hE)])
          go_wp2_with (refine wpList_store_row rfl 27 (.tmp 2) (.tmp 50) (by with_reducible rfl) r0 #[.int .i64 0, .int .i64 0, .int .i64 0, .int .i64 0, .int .i64 0, .string ⟨#[]⟩, .int .i64 0, .int .i64 0, .int .i64 0, .int .i64 0, .int .i64 0, .int .i64 0, .int .i64 0, .int .i64 0, .int .i64 0, .int .i64 0, .int .i64 0, .int .i64 0] (by kernel_rfl) (by kernel_rfl) _ _ S10.out.now.1 (by kernel_rfl) (by rfl) (by simp [Value.oneCell']) ?_)
          refine bodyPost_ret (results_cell_slot (by rfl) _ _ r0 _ _ _ _ _ rfl rfl (setRow_heap _ _ _ _ _ _ S10.out.now.1) Tryz.underlying27 rfl (by kernel_rfl)) rfl ⟨by rw [HRZ.out]; rfl, S10.out.now.2.setRow _ _ (by have := HB.out; omega)⟩
        · have hE' : y.toList.isEmpty = false := by simpa using hE
          by_cases hq : y = s
          · have HRZ : Hid (R = (c, 0)) := hid (by rw [HRR.out, if_pos (accB_iff.2 ⟨hE', hq⟩)])
            have hq' : (y.toList == s.toList) = true := by rw [hq]; simp
            clear hE hq
            go_wp2_with (first | (refine wpList_load_row_w (by kernel_rfl) 27 (.tmp 5) (by with_reducible rfl) bm (by kernel_rfl) _ _ _ _ HM10.out Tryz.underlying27 rfl (by kernel_rfl) ?_) | (refine wpList_store_row rfl 27 (.tmp 2) (.tmp 51) (by with_reducible rfl) r0 #[.int .i64 c.k, .int .i64 c.e, .int .i64 c.w, .int .i64 c.n, .int .i64 c.q, .string c.t, .int .i64 c.p.s0, .int .i64 c.p.s1, .int .i64 c.p.s2, .int .i64 c.p.s3, .int .i64 c.p.s4, .int .i64 c.p.s5, .int .i64 c.p.s6, .int .i64 c.p.s7, .int .i64 c.p.s8, .int .i64 c.p.s9, .int .i64 c.p.s10, .int .i64 c.p.s11] (by kernel_rfl) (by kernel_rfl) _ _ S10.out.now.1 (by kernel_rfl) (by rfl) (by simp [Value.oneCell']) ?_))
            refine bodyPost_ret (results_cell_slot (by rfl) _ _ r0 _ _ _ _ _ rfl rfl (setRow_heap _ _ _ _ _ _ S10.out.now.1) Tryz.underlying27 rfl (by kernel_rfl)) rfl ⟨by rw [HRZ.out]; rfl, S10.out.now.2.setRow _ _ (by have := HB.out; omega)⟩
          · have HRZ : Hid (R = (Rc.zero, 2)) := hid (by rw [HRR.out, if_neg (by rw [accB_iff]; intro h; exact hq h.2)])
            have hq' : (y.toList == s.toList) = false := by
              rw [beq_eq_false_iff_ne]; intro h; exact hq ((Go.Lib.bytes_beq_iff y s).1 (by simp [h]))
            clear hE hq
            go_wp2_with (refine wpList_store_row rfl 27 (.tmp 2) (.tmp 50) (by with_reducible rfl) r0 #[.int .i64 0, .int .i64 0, .int .i64 0, .int .i64 0, .int .i64 0, .string ⟨#[]⟩, .int .i64 0, .int .i64 0, .int .i64 0, .int .i64 0, .int .i64 0, .int .i64 0, .int .i64 0, .int .i64 0, .int .i64 0, .int .i64 0, .int .i64 0, .int .i64 0] (by kernel_rfl) (by kernel_rfl) _ _ S10.out.now.1 (by kernel_rfl) (by rfl) (by simp [Value.oneCell']) ?_)
            refine bodyPost_ret (results_cell_slot (by rfl) _ _ r0 _ _ _ _ _ rfl rfl (setRow_heap _ _ _ _ _ _ S10.out.now.1) Tryz.underlying27 rfl (by kernel_rfl)) rfl ⟨by rw [HRZ.out]; rfl, S10.out.now.2.setRow _ _ (by have := HB.out; omega)⟩
end Go.Proofs.YtonlmkcolndaaaaGreatDoor
namespace Go.Proofs.YtonlmkcolndaaaaGreatDoor
set_option linter.unusedVariables false
set_option linter.unusedSimpArgs false
set_option maxRecDepth 20000
open Go.RowKit

theorem numsW_some_of : ∀ (W V : List (List UInt8)) (l : List Int), numsW (W ++ V) = some l → ∃ a, numsW W = some a
  | W, V, l, h => by
    cases hw : numsW W with
    | none => rw [numsW_none_app W V hw] at h; cases h
    | some a => exact ⟨a, rfl⟩
set_option maxRecDepth 20000 in
set_option maxHeartbeats 4000000 in
theorem rread_spec_calls (t : ByteArray) (w : World) (ht : t.size ≤ 900000) : Calls Tryz.prog 48 #[.string t] w fun e w' => e = .returned (.tuple #[(readS t).1.val, .int .i64 (readS t).2]) ∧ Frm M0 w w' := by
  obtain ⟨rs, HRS⟩ : ∃ x, Hid (readS t = x) := ⟨_, rfl⟩
  rw [HRS.out]
  go_enter Tryz.func48, Tryz.ntmps48
  go_wp2_with fail
  refine (refwords_calls t _ (by omega)).mono ?_
  rintro _ w1 ⟨v, L, rfl, HL, hr, hf⟩
  obtain ⟨R, hR⟩ : ∃ x, x = w.heap.size := ⟨_, rfl⟩
  have hl0 : 0 < L.length := by
    obtain ⟨x, r, e⟩ := splitL_ne t.data.toList
    have := congrArg List.length HL.out
    rw [List.length_map, e] at this; simp at this; omega
  obtain ⟨a, c, rfl, hsh⟩ := hr.shape
  obtain ⟨b, o, rfl⟩ := hsh hl0
  have S1 : Hid (Sb M0 w1 fun x => x.heap[R]? = some (.cells #[.int .i64 0, .int .i64 0, .int .i64 0, .int .i64 0, .int .i64 0, .int .i64 0, .int .i64 0, .int .i64 0, .int .i64 0, .int .i64 0, .int .i64 0, .int .i64 0] 25 (0, 0)) ∧ Rd x 1 (.slice (some ⟨b, o, none⟩) L.length c) L.length (strs L) ∧ Frm M0 w x) :=
    hid fun wx hx => ⟨hR ▸ (hf.same hx).heap (new1 w _) (fun h => h), hr.frm0 hx, (((Frm.refl M0 w).alloc _).then0 hf).then0 hx⟩
  rw [← hR]
  have HRR := hid hR
  have hl1 : L.length ≤ 1000000 := by
    have h1 := splitL_len t.data.toList
    rw [← HL.out, List.length_map] at h1
    simp at h1
    have e : t.size = t.data.size := rfl
    omega
  clear hr hf hR hsh
  by_cases h12 : L.length = 12
  case neg =>
    have h12' : ¬ ((L.length : Int) = 12) := by omega
    have HRZ : Hid (rs = (Sp.zero, 2)) := hid (by
      rw [← HRS.out]
      unfold readS readL
      cases hn : numsW (splitL t.data.toList) with
      | none => rfl
      | some l =>
        have := numsW_len _ _ hn
        rw [← HL.out, List.length_map] at this
        simp only []
        rw [if_neg (by omega)])
    clear h12
    go_wp2_with (refine wpList_store_row rfl 25 (.tmp 2) (.tmp 17) (by with_reducible rfl) R #[.int .i64 0, .int .i64 0, .int .i64 0, .int .i64 0, .int .i64 0, .int .i64 0, .int .i64 0, .int .i64 0, .int .i64 0, .int .i64 0, .int .i64 0, .int .i64 0] (by kernel_rfl) (by kernel_rfl) _ _ S1.out.now.1 (by kernel_rfl) (by rfl) (by simp [Value.oneCell']) ?_)
    refine bodyPost_ret (results_cell_slot (by rfl) _ _ R _ _ _ _ _ rfl rfl (setRow_heap _ _ _ _ _ _ S1.out.now.1) Tryz.underlying25 rfl (by kernel_rfl)) rfl ⟨by rw [HRZ.out]; rfl, S1.out.now.2.2.setRow _ _ (by have := HRR.out; omega)⟩
  have h12' : ((L.length : Int) = 12) := by omega
  have H12 := hid h12
  clear h12
  go_wp2_with fail
  clear h12'
  go_loopw [5, 6] (fun v5 i6 wr => ∃ (k : Nat) (ns : List Int), k ≤ 12 ∧ i6 = .int .i64 k ∧ ns.length = k ∧ Hid (wr.ownsRow w1.heap.size 3 1 v5 ns.length (ints .i64 ns)) ∧ Hid (numsW ((L.take k).map (·.data.toList)) = some ns) ∧ Hid (Frm M0 w1 wr)) (fun _ i _ => 12 - (intOf i).toNat)
  case atStart => exact ⟨0, [], Nat.zero_le _, rfl, rfl, hid (World.ownsRow_nil _ _ _ _), hid rfl, hid (Frm.refl _ _)⟩
  case round =>
    obtain ⟨k, ns, hk, rfl, hnk, HO, HN, HF⟩ := hrel
    have S2 := hid (S1.out.step HF.out)
    by_cases hlt : k < 12
    · have hltL : k < L.length := by have := H12.out; omega
      have hltL' : (k : Int) < L.length := by omega
      have hx : L[k]? = some L[k] := List.getElem?_eq_getElem hltL
      obtain ⟨x, hxx⟩ : ∃ x, x = L[k] := ⟨_, rfl⟩
      rw [← hxx] at hx
      have HX := hid hx
      have hxs : x.size ≤ 1000000 := by
        have h1 : x.data.toList ∈ splitL t.data.toList := by rw [← HL.out]; exact List.mem_map_of_mem (List.mem_of_getElem? hx)
        have h2 := splitL_mem _ _ h1
        simp at h2
        have e1 : x.size = x.data.size := rfl
        have e2 : t.size = t.data.size := rfl
        omega
      have hc : wr.cell? ⟨b, o + k, none⟩ = some (.string x) := by
        rcases S2.out.now.2.1.2 with ⟨h2, h0⟩ | ⟨a, cap, h2, h3, h4, h6⟩
        · cases h2
        · simp only [Value.slice.injEq, Option.some.injEq] at h2
          obtain ⟨rfl, _, _⟩ := h2
          have := h6 k (.string x) (strs_get L k x hx)
          rw [add_none] at this; exact this
      clear hx hxx
      go_wp2_with fail
      refine (rnumber_calls x _ hxs).mono ?_
      rintro _ w2 ⟨n, is, rfl, HNR, hf⟩
      have HF2 := hid (HF.out.then0 hf)
      have HO2 := hid (hf.owns HO.out (fun _ _ h => h))
      have hR2 := hid (S2.out.step hf)
      clear hf hc HF HO S2
      cases is
      · have HRZ : Hid (rs = (Sp.zero, 2)) := hid (by
          rw [← HRS.out]
          have e : splitL t.data.toList = ((L.take (k + 1)).map (·.data.toList)) ++ ((L.drop (k + 1)).map (·.data.toList)) := by rw [← List.map_append, List.take_append_drop, HL.out]
          have e2 : numsW ((L.take (k + 1)).map (·.data.toList)) = none := by
            rw [take_snoc HX.out, List.map_append, List.map_cons, List.map_nil, numsW_snoc, HN.out, HNR.out.2 rfl]
          unfold readS readL
          rw [e, numsW_none_app _ _ e2])
        go_wp2_with (refine wpList_store_row rfl 25 (.tmp 2) (.tmp 32) (by with_reducible rfl) R #[.int .i64 0, .int .i64 0, .int .i64 0, .int .i64 0, .int .i64 0, .int .i64 0, .int .i64 0, .int .i64 0, .int .i64 0, .int .i64 0, .int .i64 0, .int .i64 0] (by kernel_rfl) (by kernel_rfl) _ _ hR2.out.now.1 (by kernel_rfl) (by rfl) (by simp [Value.oneCell']) ?_)
        refine bodyPost_ret (results_cell_slot (by rfl) _ _ R _ _ _ _ _ rfl rfl (setRow_heap _ _ _ _ _ _ hR2.out.now.1) Tryz.underlying25 rfl (by kernel_rfl)) rfl ⟨by rw [HRZ.out]; rfl, hR2.out.now.2.2.setRow _ _ (by have := HRR.out; omega)⟩
      · have HNN : Hid (numsW ((L.take (k + 1)).map (·.data.toList)) = some (ns ++ [n])) := hid (by
          rw [take_snoc HX.out, List.map_append, List.map_cons, List.map_nil, numsW_snoc, HN.out, HNR.out.1 rfl])
        go_wp2_with (first | (at_builtin; refine wpList_push_int rfl (.tmp 33) (.tmp 35) 61 rfl w1.heap.size 3 .i64 8 Tryz.underlying61 infoI _ ns n rfl HO2.out rfl (by unfold maxLen; omega) (by omega) HF2.out.size ?_; intro v3 w3 ho3 hg3; have HO3 := hid ho3; have HG3 := hid hg3; clear ho3 hg3))
        exact ⟨⟨k + 1, ns ++ [n], by omega, by go_num, by simp; omega, HO3, HNN, hid (HF2.out.grown HG3.out (fun j hj hlt' => absurd (HO2.out.lt j hj).1 (by omega)))⟩, by simp [intOf]; omega⟩
    · obtain rfl : k = 12 := by omega
      have hN := HN.out
      rw [List.take_of_length_le (by have := H12.out; omega), HL.out] at hN
      have hrd : rs = if (Sp.ofL ns).chkE = 0 then (Sp.ofL ns, 0) else (Sp.zero, (Sp.ofL ns).chkE) := by rw [← HRS.out]; unfold readS readL; rw [hN]; simp only []; rw [if_pos hnk]
      have HRO := hid (Rd.ofOwns HO.out)
      have HNK := hid hnk
      clear hN HN HO
      go_wp2_with fail
      refine (rof_calls _ ns _ HRO.out HNK.out).mono ?_
      rintro _ w2 ⟨rfl, hf⟩
      obtain ⟨P, hP⟩ : ∃ P, P = Sp.ofL ns := ⟨_, rfl⟩
      rw [← hP] at hrd ⊢
      have HRD2 := hid hrd
      have HVP : Hid (P.val = .agg #[.int .i64 P.s0, .int .i64 P.s1, .int .i64 P.s2, .int .i64 P.s3, .int .i64 P.s4, .int .i64 P.s5, .int .i64 P.s6, .int .i64 P.s7, .int .i64 P.s8, .int .i64 P.s9, .int .i64 P.s10, .int .i64 P.s11]) := rfl
      rw [HVP.out]
      have S3 := hid (S2.out.step hf)
      have HZ1 := hid (new1 w2 (.cells #[.int .i64 0, .int .i64 0, .int .i64 0, .int .i64 0, .int .i64 0, .int .i64 0, .int .i64 0, .int .i64 0, .int .i64 0, .int .i64 0, .int .i64 0, .int .i64 0] 25))
      clear hf S2 hP hrd
      go_upto_region 13 with (refine wpList_store_row rfl 25 (.tmp 9) (.tmp 38) (by with_reducible rfl) w2.heap.size #[.int .i64 P.s0, .int .i64 P.s1, .int .i64 P.s2, .int .i64 P.s3, .int .i64 P.s4, .int .i64 P.s5, .int .i64 P.s6, .int .i64 P.s7, .int .i64 P.s8, .int .i64 P.s9, .int .i64 P.s10, .int .i64 P.s11] (by kernel_rfl) (by kernel_rfl) _ _ HZ1.out (by kernel_rfl) (by rfl) (by simp [Value.oneCell']) ?_)
      have hfr := ((Frm.refl M0 w2).alloc (.cells #[.int .i64 0, .int .i64 0, .int .i64 0, .int .i64 0, .int .i64 0, .int .i64 0, .int .i64 0, .int .i64 0, .int .i64 0, .int .i64 0, .int .i64 0, .int .i64 0] 25)).setRow w2.heap.size #[.int .i64 P.s0, .int .i64 P.s1, .int .i64 P.s2, .int .i64 P.s3, .int .i64 P.s4, .int .i64 P.s5, .int .i64 P.s6, .int .i64 P.s7, .int .i64 P.s8, .int .i64 P.s9, .int .i64 P.s10, .int .i64 P.s11] (Nat.le_refl _)
      have hP3 := setRow_heap _ w2.heap.size _ #[.int .i64 P.s0, .int .i64 P.s1, .int .i64 P.s2, .int .i64 P.s3, .int .i64 P.s4, .int .i64 P.s5, .int .i64 P.s6, .int .i64 P.s7, .int .i64 P.s8, .int .i64 P.s9, .int .i64 P.s10, .int .i64 P.s11] _ _ HZ1.out
      obtain ⟨w3, hw3⟩ : ∃ x, x = (w2.alloc (.cells #[.int .i64 0, .int .i64 0, .int .i64 0, .int .i64 0, .int .i64 0, .int .i64 0, .int .i64 0, .int .i64 0, .int .i64 0, .int .i64 0, .int .i64 0, .int .i64 0] 25)).setRow w2.heap.size #[.int .i64 P.s0, .int .i64 P.s1, .int .i64 P.s2, .int .i64 P.s3, .int .i64 P.s4, .int .i64 P.s5, .int .i64 P.s6, .int .i64 P.s7, .int .i64 P.s8, .int .i64 P.s9, .int .i64 P.s10, .int .i64 P.s11] := ⟨_, rfl⟩
      rw [← hw3] at hfr hP3
      rw [← hw3]
      have S4 := hid ((S3.out.step hfr).and (Sb.heap hP3 (fun h => h)))
      clear hw3 hfr S3 HZ1 hP3
      go_wp2_with (refine wpList_load_row_w (by kernel_rfl) 25 (.tmp 9) (by with_reducible rfl) w2.heap.size (by kernel_rfl) _ _ _ _ S4.out.now.2 Tryz.underlying25 rfl (by kernel_rfl) ?_)
      rw [← HVP.out]
      refine (rcheck_calls P _).mono ?_
      rintro _ w4 ⟨rfl, hf⟩
      rw [HVP.out, ← chkE_eq]
      have S5 := hid (S4.out.step hf)
      clear hf S4
      rcases chkE_cases P with h | h
      · have HRZ : Hid (rs = (P, 0)) := hid (by rw [HRD2.out, if_pos h])
        rw [h]
        clear h
        go_wp2_with (first | (refine wpList_load_row_w (by kernel_rfl) 25 (.tmp 9) (by with_reducible rfl) w2.heap.size (by kernel_rfl) _ _ _ _ S5.out.now.2 Tryz.underlying25 rfl (by kernel_rfl) ?_) | (refine wpList_store_row rfl 25 (.tmp 2) (.tmp 48) (by with_reducible rfl) R #[.int .i64 P.s0, .int .i64 P.s1, .int .i64 P.s2, .int .i64 P.s3, .int .i64 P.s4, .int .i64 P.s5, .int .i64 P.s6, .int .i64 P.s7, .int .i64 P.s8, .int .i64 P.s9, .int .i64 P.s10, .int .i64 P.s11] (by kernel_rfl) (by kernel_rfl) _ _ S5.out.now.1.1 (by kernel_rfl) (by rfl) (by simp [Value.oneCell']) ?_))
        refine bodyPost_ret (results_cell_slot (by rfl) _ _ R _ _ _ _ _ rfl rfl (setRow_heap _ _ _ _ _ _ S5.out.now.1.1) Tryz.underlying25 rfl (by kernel_rfl)) rfl ⟨by rw [HRZ.out]; rfl, S5.out.now.1.2.2.setRow _ _ (by have := HRR.out; omega)⟩
      · have HRZ : Hid (rs = (Sp.zero, 11)) := hid (by rw [HRD2.out, if_neg (by omega), h])
        rw [h]
        clear h
        go_wp2_with (refine wpList_store_row rfl 25 (.tmp 2) (.tmp 46) (by with_reducible rfl) R #[.int .i64 0, .int .i64 0, .int .i64 0, .int .i64 0, .int .i64 0, .int .i64 0, .int .i64 0, .int .i64 0, .int .i64 0, .int .i64 0, .int .i64 0, .int .i64 0] (by kernel_rfl) (by kernel_rfl) _ _ S5.out.now.1.1 (by kernel_rfl) (by rfl) (by simp [Value.oneCell']) ?_)
        refine bodyPost_ret (results_cell_slot (by rfl) _ _ R _ _ _ _ _ rfl rfl (setRow_heap _ _ _ _ _ _ S5.out.now.1.1) Tryz.underlying25 rfl (by kernel_rfl)) rfl ⟨by rw [HRZ.out]; rfl, S5.out.now.1.2.2.setRow _ _ (by have := HRR.out; omega)⟩
end Go.Proofs.YtonlmkcolndaaaaGreatDoor
namespace Go.Proofs.YtonlmkcolndaaaaGreatDoor
set_option linter.unusedVariables false
set_option linter.unusedSimpArgs false
set_option maxRecDepth 20000
open Go.RowKit

def nameB (k : Int) : ByteArray := nameS k
set_option maxRecDepth 20000 in
set_option maxHeartbeats 4000000 in
theorem rname_calls (k : Int) (w : World) : Calls Tryz.prog 47 #[.int .i64 k] w fun x w' => x = .returned (.string (nameS k)) ∧ Frm M0 w w' := by
  by_cases h : 1 ≤ k ∧ k ≤ 7
  case neg =>
    have e : nameS k = ⟨#[]⟩ := by unfold nameS; rw [if_neg (by omega), if_neg (by omega), if_neg (by omega), if_neg (by omega), if_neg (by omega), if_neg (by omega), if_neg (by omega)]
    rw [e]
    by_cases h1 : k < 1
    · go_enter Tryz.func47, Tryz.ntmps47
      go_wp2_with fail
      go_ret
      exact ⟨rfl, Frm.refl _ _⟩
    · have h2 : 7 < k := by omega
      go_enter Tryz.func47, Tryz.ntmps47
      go_wp2_with fail
      go_ret
      exact ⟨rfl, Frm.refl _ _⟩
  have hk : k = 1 ∨ k = 2 ∨ k = 3 ∨ k = 4 ∨ k = 5 ∨ k = 6 ∨ k = 7 := by omega
  rcases hk with rfl | rfl | rfl | rfl | rfl | rfl | rfl
  all_goals
    go_enter Tryz.func47, Tryz.ntmps47
    go_wp2_with fail
    go_ret
    exact ⟨rfl, (Frm.refl M0 w).alloc _⟩
end Go.Proofs.YtonlmkcolndaaaaGreatDoor
namespace Go.Proofs.YtonlmkcolndaaaaGreatDoor
set_option linter.unusedVariables false
set_option linter.unusedSimpArgs false
set_option maxRecDepth 20000
open Go.RowKit

theorem join_snoc (l : List (List UInt8)) (y : List UInt8) (h : l ≠ []) : Lib.join (l ++ [y]) [32] = Lib.join l [32] ++ (32 :: y) := by
  cases l with
  | nil => exact absurd rfl h
  | cons x r =>
    rw [List.cons_append, Lib.join_cons, Lib.join_cons]
    simp [Lib.joinTail]
theorem sp_app (a : ByteArray) : ((⟨#[32]⟩ : ByteArray) ++ a).data.toList = 32 :: a.data.toList := by
  rw [ByteArray.data_append, Array.toList_append]; rfl
theorem sp_size (a : ByteArray) : ((⟨#[32]⟩ : ByteArray) ++ a).size = 1 + a.size := by rw [ByteArray.size_append]; rfl

set_option maxRecDepth 20000 in
set_option maxHeartbeats 4000000 in
theorem rtextS_calls (p : Sp) (w : World) (hp : p.small) : Calls Tryz.prog 55 #[p.val] w fun e w' => e = .returned (.string (textS p)) ∧ Frm M0 w w' := by
  have HV : Hid (p.val = .agg #[.int .i64 p.s0, .int .i64 p.s1, .int .i64 p.s2, .int .i64 p.s3, .int .i64 p.s4, .int .i64 p.s5, .int .i64 p.s6, .int .i64 p.s7, .int .i64 p.s8, .int .i64 p.s9, .int .i64 p.s10, .int .i64 p.s11]) := rfl
  rw [HV.out]
  go_enter Tryz.func55, Tryz.ntmps55
  go_wp2_with (refine wpList_load_row rfl 25 (.tmp 1) (by with_reducible rfl) w.heap.size rfl _ _ _ _ (heap_alloc_last w _) Tryz.underlying25 rfl (by kernel_rfl) ?_)
  rw [← HV.out]
  refine (rfields_calls p _).mono ?_
  rintro _ w1 ⟨v, rfl, hr, hf⟩
  have HF1 := hid (((Frm.refl M0 w).alloc _).then0 hf)
  have HR := hid hr
  clear hr hf
  obtain ⟨a, c, rfl, hsh⟩ := HR.out.shape
  obtain ⟨b, o, rfl⟩ := hsh (by rw [nums_len]; omega)
  clear hsh
  obtain ⟨L, hL⟩ : ∃ L, L = p.nums := ⟨_, rfl⟩
  have HL : Hid (textS p = joinS (words L)) := by rw [hL]; rfl
  have HP : Hid (∀ x ∈ L, -9223372036854775808 ≤ x ∧ x ≤ 9223372036854775807) := by rw [hL]; exact hp
  have hn : L.length = 12 := by rw [hL]; rfl
  rw [← hL] at HR
  rw [← hL, hn]
  have HN := hid hn
  clear hL hp hn
  obtain ⟨x, HX, hc⟩ := HR.out.cellAt 0 (by rw [HN.out]; omega)
  rw [Nat.add_zero] at hc
  have hx := HP.out x (List.mem_of_getElem? HX.out)
  go_upto_region 2 with fail
  go_wp2_with fail
  refine (ddigits_calls x _ hx.1 hx.2).mono ?_
  rintro _ w2 ⟨rfl, hw⟩
  subst hw
  clear hc
  have hI : Hid ((str (Lib.itoa x)).data.toList = Lib.join ((words (L.take 1)).map (·.data.toList)) [32]) := hid (by
    rw [show L.take 1 = [x] from by have := take_snoc HX.out; simpa using this]
    show Lib.itoa x = Lib.join [Lib.itoa x] [32]
    rw [Lib.join_one])
  have hS : (str (Lib.itoa x)).size ≤ 21 := by
    show (Lib.itoa x).toArray.size ≤ 21
    rw [List.size_toArray]; exact Lib.itoa_length_le x hx.1 hx.2
  obtain ⟨acc0, hacc⟩ : ∃ s, s = str (Lib.itoa x) := ⟨_, rfl⟩
  rw [← hacc] at hI hS
  rw [← hacc]
  have HS := hid hS
  clear hacc hS hx HX
  go_upto_region 3 with fail
  go_wp2_with fail
  go_loopw [4, 5] (fun s4 i5 wr => ∃ (k : Nat) (acc : ByteArray), 1 ≤ k ∧ k ≤ 12 ∧ i5 = .int .i64 k ∧ s4 = .string acc ∧ Hid (acc.data.toList = Lib.join ((words (L.take k)).map (·.data.toList)) [32]) ∧ Hid (acc.size ≤ 22 * k) ∧ Hid (w2 = wr)) (fun _ i _ => 12 - (intOf i).toNat)
  case atStart => exact ⟨1, acc0, by omega, by omega, rfl, rfl, hI, hid (by have := HS.out; omega), hid rfl⟩
  case round =>
    obtain ⟨k, acc, hk1, hk, rfl, rfl, HJ, HZ, hw⟩ := hrel
    have hw' := hw.out
    subst hw'
    by_cases hlt : k < 12
    · obtain ⟨y, HY, hc⟩ := HR.out.cellAt k (by rw [HN.out]; exact hlt)
      have hy := HP.out y (List.mem_of_getElem? HY.out)
      have HYB := hid hy
      clear hy
      go_wp2_with fail
      refine (ddigits_calls y _ HYB.out.1 HYB.out.2).mono ?_
      rintro _ w3 ⟨rfl, hw⟩
      subst hw
      have hS : (str (Lib.itoa y)).size ≤ 21 := by
        show (Lib.itoa y).toArray.size ≤ 21
        rw [List.size_toArray]; exact Lib.itoa_length_le y HYB.out.1 HYB.out.2
      obtain ⟨t, HTT⟩ : ∃ s, Hid (str (Lib.itoa y) = s) := ⟨_, rfl⟩
      rw [HTT.out] at hS ⊢
      have hz := HZ.out
      have hl1 : ¬ 9223372036854775807 < 1 + t.size := by omega
      have hl2 : ¬ 9223372036854775807 < acc.size + (1 + t.size) := by omega
      clear hc
      go_wp2_with fail
      refine ⟨⟨k + 1, _, by omega, by omega, by go_num, rfl, hid ?_, hid ?_, hid trivial⟩, by simp [intOf]; omega⟩
      · have e1 : (words (L.take (k + 1))).map (·.data.toList) = (words (L.take k)).map (·.data.toList) ++ [Lib.itoa y] := by
          rw [take_snoc HY.out, ← words_snoc, List.map_append]; rfl
        have hne : (words (L.take k)).map (·.data.toList) ≠ [] := by
          intro h
          have := congrArg List.length h
          rw [List.length_map, words_len, List.length_take, HN.out] at this
          simp at this; omega
        have ht : t.data.toList = Lib.itoa y := by rw [← HTT.out]
        rw [e1, join_snoc _ _ hne, ByteArray.data_append, Array.toList_append, HJ.out, sp_app, ht]
      · rw [ByteArray.size_append, sp_size]; omega
    · obtain rfl : k = 12 := by omega
      have ht : L.take 12 = L := List.take_of_length_le (by rw [HN.out]; omega)
      have hJ := HJ.out
      rw [ht] at hJ
      have HJJ := hid hJ
      clear hJ ht
      go_wp2_with fail
      go_ret
      exact ⟨by rw [HL.out]; exact congrArg (fun x => Ending.returned (Value.string x)) (str_eq_of HJJ.out), HF1.out⟩
end Go.Proofs.YtonlmkcolndaaaaGreatDoor
namespace Go.Proofs.YtonlmkcolndaaaaGreatDoor
set_option linter.unusedVariables false
set_option linter.unusedSimpArgs false
set_option maxRecDepth 20000
open Go.RowKit

theorem itoa_size (n : Int) (h : -9223372036854775808 ≤ n ∧ n ≤ 9223372036854775807) : (str (Lib.itoa n)).size ≤ 21 := by
  show (Lib.itoa n).toArray.size ≤ 21
  rw [List.size_toArray]; exact Lib.itoa_length_le n h.1 h.2
set_option maxRecDepth 20000 in
set_option maxHeartbeats 8000000 in
theorem rwordsR_calls (r : Rc) (w : World) (hr : r.fine) : Calls Tryz.prog 30 #[r.val] w fun e w' => e = .returned (.string (wordsS r)) ∧ Frm M0 w w' := by
  have HY := hid hr; clear hr
  have HV : Hid (r.val = .agg #[.int .i64 r.k, .int .i64 r.e, .int .i64 r.w, .int .i64 r.n, .int .i64 r.q, .string r.t, .int .i64 r.p.s0, .int .i64 r.p.s1, .int .i64 r.p.s2, .int .i64 r.p.s3, .int .i64 r.p.s4, .int .i64 r.p.s5, .int .i64 r.p.s6, .int .i64 r.p.s7, .int .i64 r.p.s8, .int .i64 r.p.s9, .int .i64 r.p.s10, .int .i64 r.p.s11]) := rfl
  rw [HV.out]
  go_enter Tryz.func30, Tryz.ntmps30
  go_wp2_with (refine wpList_load_row rfl 27 (.tmp 1) (by with_reducible rfl) w.heap.size rfl _ _ _ _ (heap_alloc_last w _) Tryz.underlying27 rfl (by kernel_rfl) ?_)
  rw [← HV.out]
  refine (rright_calls r _).mono ?_
  rintro _ w1 ⟨rfl, hf⟩
  rw [← right_eq]
  obtain ⟨b, hb⟩ : ∃ b, b = w.heap.size := ⟨_, rfl⟩
  have HH := hid (hf.heap (heap_alloc_last w (.cells #[.int .i64 r.k, .int .i64 r.e, .int .i64 r.w, .int .i64 r.n, .int .i64 r.q, .string r.t, .int .i64 r.p.s0, .int .i64 r.p.s1, .int .i64 r.p.s2, .int .i64 r.p.s3, .int .i64 r.p.s4, .int .i64 r.p.s5, .int .i64 r.p.s6, .int .i64 r.p.s7, .int .i64 r.p.s8, .int .i64 r.p.s9, .int .i64 r.p.s10, .int .i64 r.p.s11] 27)) (fun h => h))
  have HF := hid (((Frm.refl M0 w).alloc (.cells #[.int .i64 r.k, .int .i64 r.e, .int .i64 r.w, .int .i64 r.n, .int .i64 r.q, .string r.t, .int .i64 r.p.s0, .int .i64 r.p.s1, .int .i64 r.p.s2, .int .i64 r.p.s3, .int .i64 r.p.s4, .int .i64 r.p.s5, .int .i64 r.p.s6, .int .i64 r.p.s7, .int .i64 r.p.s8, .int .i64 r.p.s9, .int .i64 r.p.s10, .int .i64 r.p.s11] 27)).then0 hf)
  rw [← hb] at HH ⊢
  rw [HV.out]
  clear hf hb
  obtain ⟨x, HX⟩ : ∃ x, Hid (rightB r = x) := ⟨_, rfl⟩
  rw [HX.out]
  cases x
  · go_wp2_with fail
    go_ret
    exact ⟨by unfold wordsS; rw [if_neg (by rw [HX.out]; decide)]; rfl, HF.out⟩
  go_upto_region 4 with fail
  have hns := HY.out.ns
  have he := hns r.e (by simp [Rc.four])
  have hw := hns r.w (by simp [Rc.four])
  have hn := hns r.n (by simp [Rc.four])
  have hq := hns r.q (by simp [Rc.four])
  have HE := hid he
  have HW := hid hw
  have HN := hid hn
  have HQQ := hid hq
  have z0 := nameS_size r.k
  have z1 := itoa_size _ he
  have z2 := itoa_size _ hw
  have z3 := itoa_size _ hn
  have z4 := itoa_size _ hq
  clear hns he hw hn hq
  obtain ⟨nm, HM⟩ : ∃ s, Hid (nameS r.k = s) := ⟨_, rfl⟩
  obtain ⟨s1, H1⟩ : ∃ s, Hid (str (Lib.itoa r.e) = s) := ⟨_, rfl⟩
  obtain ⟨s2, H2⟩ : ∃ s, Hid (str (Lib.itoa r.w) = s) := ⟨_, rfl⟩
  obtain ⟨s3, H3⟩ : ∃ s, Hid (str (Lib.itoa r.n) = s) := ⟨_, rfl⟩
  obtain ⟨s4, H4⟩ : ∃ s, Hid (str (Lib.itoa r.q) = s) := ⟨_, rfl⟩
  rw [HM.out] at z0
  rw [H1.out] at z1
  rw [H2.out] at z2
  rw [H3.out] at z3
  rw [H4.out] at z4
  obtain ⟨x12, HX12⟩ : ∃ s, Hid (nm ++ (⟨#[32]⟩ : ByteArray) = s) := ⟨_, rfl⟩
  have zx12 : x12.size ≤ 22 := by rw [← HX12.out, ByteArray.size_append]; have hB : (⟨#[32]⟩ : ByteArray).size = 1 := rfl; omega
  obtain ⟨x16, HX16⟩ : ∃ s, Hid (x12 ++ (s1 : ByteArray) = s) := ⟨_, rfl⟩
  have zx16 : x16.size ≤ 43 := by rw [← HX16.out, ByteArray.size_append]; omega
  obtain ⟨x17, HX17⟩ : ∃ s, Hid (x16 ++ (⟨#[32]⟩ : ByteArray) = s) := ⟨_, rfl⟩
  have zx17 : x17.size ≤ 44 := by rw [← HX17.out, ByteArray.size_append]; have hB : (⟨#[32]⟩ : ByteArray).size = 1 := rfl; omega
  obtain ⟨x21, HX21⟩ : ∃ s, Hid (x17 ++ (s2 : ByteArray) = s) := ⟨_, rfl⟩
  have zx21 : x21.size ≤ 65 := by rw [← HX21.out, ByteArray.size_append]; omega
  obtain ⟨x22, HX22⟩ : ∃ s, Hid (x21 ++ (⟨#[32]⟩ : ByteArray) = s) := ⟨_, rfl⟩
  have zx22 : x22.size ≤ 66 := by rw [← HX22.out, ByteArray.size_append]; have hB : (⟨#[32]⟩ : ByteArray).size = 1 := rfl; omega
  obtain ⟨x26, HX26⟩ : ∃ s, Hid (x22 ++ (s3 : ByteArray) = s) := ⟨_, rfl⟩
  have zx26 : x26.size ≤ 87 := by rw [← HX26.out, ByteArray.size_append]; omega
  obtain ⟨x27, HX27⟩ : ∃ s, Hid (x26 ++ (⟨#[32]⟩ : ByteArray) = s) := ⟨_, rfl⟩
  have zx27 : x27.size ≤ 88 := by rw [← HX27.out, ByteArray.size_append]; have hB : (⟨#[32]⟩ : ByteArray).size = 1 := rfl; omega
  obtain ⟨x31, HX31⟩ : ∃ s, Hid (x27 ++ (s4 : ByteArray) = s) := ⟨_, rfl⟩
  have zx31 : x31.size ≤ 109 := by rw [← HX31.out, ByteArray.size_append]; omega
  refine wp_region_G 23 (fun _ => none) (fun i => ([.pointer (some ⟨b, 0, none⟩), .int .i64 r.k, .string nm, .string x12, .pointer (some ⟨b, 1, none⟩), .int .i64 r.e, .string s1, .string x16, .string x17, .pointer (some ⟨b, 2, none⟩), .int .i64 r.w, .string s2, .string x21, .string x22, .pointer (some ⟨b, 3, none⟩), .int .i64 r.n, .string s3, .string x26, .string x27, .pointer (some ⟨b, 4, none⟩), .int .i64 r.q, .string s4, .string x31] : List Value).getD i undef) (by kernel_rfl) (by kernel_rfl) (fun i o obj _ h => by cases h) ?_
  intro ops QT HO HQ
  obtain ⟨ho0, HO⟩ := HO
  refine wpG_val _ (.pointer (some ⟨b, 0, none⟩)) ho0.out rfl rfl ?_ ?_
  · refine FY_in rfl fun wx hx => ?_
    go_simp
    all_goals exact ⟨rfl, rfl⟩
  simp only [Act.put, List.setIfInBounds_toArray, List.set_cons_zero, List.set_cons_succ]
  obtain ⟨ho1, HO⟩ := HO
  refine wpG_val _ (.int .i64 r.k) ho1.out rfl rfl ?_ ?_
  · refine FY_in rfl fun wx hx => ?_
    have hc : wx.cell? ⟨b, 0, none⟩ = some (.int .i64 r.k) := cell_at (hx.heap HH.out (fun h => h)) 0
    go_simp
    all_goals exact ⟨rfl, rfl⟩
  simp only [Act.put, List.setIfInBounds_toArray, List.set_cons_zero, List.set_cons_succ]
  obtain ⟨ho2, HO⟩ := HO
  refine wpG_val _ (.string nm) ho2.out rfl rfl ?_ ?_
  · refine FY_in rfl fun wx hx => ?_
    go_simp
    all_goals exact ⟨rfl, (rname_calls r.k wx).mono fun e w' h => ⟨by rw [h.1, HM.out], h.2⟩⟩
  simp only [Act.put, List.setIfInBounds_toArray, List.set_cons_zero, List.set_cons_succ]
  obtain ⟨ho3, HO⟩ := HO
  refine wpG_val _ (.string x12) ho3.out rfl rfl ?_ ?_
  · refine FY_in rfl fun wx hx => ?_
    have hl : ¬ 9223372036854775807 < nm.size + 1 := by omega
    have hx := HX12.out
    go_simp
    all_goals exact ⟨rfl, rfl⟩
  simp only [Act.put, List.setIfInBounds_toArray, List.set_cons_zero, List.set_cons_succ]
  obtain ⟨ho4, HO⟩ := HO
  refine wpG_val _ (.pointer (some ⟨b, 1, none⟩)) ho4.out rfl rfl ?_ ?_
  · refine FY_in rfl fun wx hx => ?_
    go_simp
    all_goals exact ⟨rfl, rfl⟩
  simp only [Act.put, List.setIfInBounds_toArray, List.set_cons_zero, List.set_cons_succ]
  obtain ⟨ho5, HO⟩ := HO
  refine wpG_val _ (.int .i64 r.e) ho5.out rfl rfl ?_ ?_
  · refine FY_in rfl fun wx hx => ?_
    have hc : wx.cell? ⟨b, 1, none⟩ = some (.int .i64 r.e) := cell_at (hx.heap HH.out (fun h => h)) 1
    go_simp
    all_goals exact ⟨rfl, rfl⟩
  simp only [Act.put, List.setIfInBounds_toArray, List.set_cons_zero, List.set_cons_succ]
  obtain ⟨ho6, HO⟩ := HO
  refine wpG_val _ (.string s1) ho6.out rfl rfl ?_ ?_
  · refine FY_in rfl fun wx hx => ?_
    go_simp
    all_goals exact ⟨rfl, (ddigits_calls r.e wx HE.out.1 HE.out.2).mono fun e w' h => ⟨by rw [h.1, H1.out], by rw [h.2]; exact Frm.refl _ _⟩⟩
  simp only [Act.put, List.setIfInBounds_toArray, List.set_cons_zero, List.set_cons_succ]
  obtain ⟨ho7, HO⟩ := HO
  refine wpG_val _ (.string x16) ho7.out rfl rfl ?_ ?_
  · refine FY_in rfl fun wx hx => ?_
    have hl : ¬ 9223372036854775807 < x12.size + s1.size := by omega
    have hx := HX16.out
    go_simp
    all_goals exact ⟨rfl, rfl⟩
  simp only [Act.put, List.setIfInBounds_toArray, List.set_cons_zero, List.set_cons_succ]
  obtain ⟨ho8, HO⟩ := HO
  refine wpG_val _ (.string x17) ho8.out rfl rfl ?_ ?_
  · refine FY_in rfl fun wx hx => ?_
    have hl : ¬ 9223372036854775807 < x16.size + 1 := by omega
    have hx := HX17.out
    go_simp
    all_goals exact ⟨rfl, rfl⟩
  simp only [Act.put, List.setIfInBounds_toArray, List.set_cons_zero, List.set_cons_succ]
  obtain ⟨ho9, HO⟩ := HO
  refine wpG_val _ (.pointer (some ⟨b, 2, none⟩)) ho9.out rfl rfl ?_ ?_
  · refine FY_in rfl fun wx hx => ?_
    go_simp
    all_goals exact ⟨rfl, rfl⟩
  simp only [Act.put, List.setIfInBounds_toArray, List.set_cons_zero, List.set_cons_succ]
  obtain ⟨ho10, HO⟩ := HO
  refine wpG_val _ (.int .i64 r.w) ho10.out rfl rfl ?_ ?_
  · refine FY_in rfl fun wx hx => ?_
    have hc : wx.cell? ⟨b, 2, none⟩ = some (.int .i64 r.w) := cell_at (hx.heap HH.out (fun h => h)) 2
    go_simp
    all_goals exact ⟨rfl, rfl⟩
  simp only [Act.put, List.setIfInBounds_toArray, List.set_cons_zero, List.set_cons_succ]
  obtain ⟨ho11, HO⟩ := HO
  refine wpG_val _ (.string s2) ho11.out rfl rfl ?_ ?_
  · refine FY_in rfl fun wx hx => ?_
    go_simp
    all_goals exact ⟨rfl, (ddigits_calls r.w wx HW.out.1 HW.out.2).mono fun e w' h => ⟨by rw [h.1, H2.out], by rw [h.2]; exact Frm.refl _ _⟩⟩
  simp only [Act.put, List.setIfInBounds_toArray, List.set_cons_zero, List.set_cons_succ]
  obtain ⟨ho12, HO⟩ := HO
  refine wpG_val _ (.string x21) ho12.out rfl rfl ?_ ?_
  · refine FY_in rfl fun wx hx => ?_
    have hl : ¬ 9223372036854775807 < x17.size + s2.size := by omega
    have hx := HX21.out
    go_simp
    all_goals exact ⟨rfl, rfl⟩
  simp only [Act.put, List.setIfInBounds_toArray, List.set_cons_zero, List.set_cons_succ]
  obtain ⟨ho13, HO⟩ := HO
  refine wpG_val _ (.string x22) ho13.out rfl rfl ?_ ?_
  · refine FY_in rfl fun wx hx => ?_
    have hl : ¬ 9223372036854775807 < x21.size + 1 := by omega
    have hx := HX22.out
    go_simp
    all_goals exact ⟨rfl, rfl⟩
  simp only [Act.put, List.setIfInBounds_toArray, List.set_cons_zero, List.set_cons_succ]
  obtain ⟨ho14, HO⟩ := HO
  refine wpG_val _ (.pointer (some ⟨b, 3, none⟩)) ho14.out rfl rfl ?_ ?_
  · refine FY_in rfl fun wx hx => ?_
    go_simp
    all_goals exact ⟨rfl, rfl⟩
  simp only [Act.put, List.setIfInBounds_toArray, List.set_cons_zero, List.set_cons_succ]
  obtain ⟨ho15, HO⟩ := HO
  refine wpG_val _ (.int .i64 r.n) ho15.out rfl rfl ?_ ?_
  · refine FY_in rfl fun wx hx => ?_
    have hc : wx.cell? ⟨b, 3, none⟩ = some (.int .i64 r.n) := cell_at (hx.heap HH.out (fun h => h)) 3
    go_simp
    all_goals exact ⟨rfl, rfl⟩
  simp only [Act.put, List.setIfInBounds_toArray, List.set_cons_zero, List.set_cons_succ]
  obtain ⟨ho16, HO⟩ := HO
  refine wpG_val _ (.string s3) ho16.out rfl rfl ?_ ?_
  · refine FY_in rfl fun wx hx => ?_
    go_simp
    all_goals exact ⟨rfl, (ddigits_calls r.n wx HN.out.1 HN.out.2).mono fun e w' h => ⟨by rw [h.1, H3.out], by rw [h.2]; exact Frm.refl _ _⟩⟩
  simp only [Act.put, List.setIfInBounds_toArray, List.set_cons_zero, List.set_cons_succ]
  obtain ⟨ho17, HO⟩ := HO
  refine wpG_val _ (.string x26) ho17.out rfl rfl ?_ ?_
  · refine FY_in rfl fun wx hx => ?_
    have hl : ¬ 9223372036854775807 < x22.size + s3.size := by omega
    have hx := HX26.out
    go_simp
    all_goals exact ⟨rfl, rfl⟩
  simp only [Act.put, List.setIfInBounds_toArray, List.set_cons_zero, List.set_cons_succ]
  obtain ⟨ho18, HO⟩ := HO
  refine wpG_val _ (.string x27) ho18.out rfl rfl ?_ ?_
  · refine FY_in rfl fun wx hx => ?_
    have hl : ¬ 9223372036854775807 < x26.size + 1 := by omega
    have hx := HX27.out
    go_simp
    all_goals exact ⟨rfl, rfl⟩
  simp only [Act.put, List.setIfInBounds_toArray, List.set_cons_zero, List.set_cons_succ]
  obtain ⟨ho19, HO⟩ := HO
  refine wpG_val _ (.pointer (some ⟨b, 4, none⟩)) ho19.out rfl rfl ?_ ?_
  · refine FY_in rfl fun wx hx => ?_
    go_simp
    all_goals exact ⟨rfl, rfl⟩
  simp only [Act.put, List.setIfInBounds_toArray, List.set_cons_zero, List.set_cons_succ]
  obtain ⟨ho20, HO⟩ := HO
  refine wpG_val _ (.int .i64 r.q) ho20.out rfl rfl ?_ ?_
  · refine FY_in rfl fun wx hx => ?_
    have hc : wx.cell? ⟨b, 4, none⟩ = some (.int .i64 r.q) := cell_at (hx.heap HH.out (fun h => h)) 4
    go_simp
    all_goals exact ⟨rfl, rfl⟩
  simp only [Act.put, List.setIfInBounds_toArray, List.set_cons_zero, List.set_cons_succ]
  obtain ⟨ho21, HO⟩ := HO
  refine wpG_val _ (.string s4) ho21.out rfl rfl ?_ ?_
  · refine FY_in rfl fun wx hx => ?_
    go_simp
    all_goals exact ⟨rfl, (ddigits_calls r.q wx HQQ.out.1 HQQ.out.2).mono fun e w' h => ⟨by rw [h.1, H4.out], by rw [h.2]; exact Frm.refl _ _⟩⟩
  simp only [Act.put, List.setIfInBounds_toArray, List.set_cons_zero, List.set_cons_succ]
  obtain ⟨ho22, HO⟩ := HO
  refine wpG_val _ (.string x31) ho22.out rfl rfl ?_ ?_
  · refine FY_in rfl fun wx hx => ?_
    have hl : ¬ 9223372036854775807 < x27.size + s4.size := by omega
    have hx := HX31.out
    go_simp
    all_goals exact ⟨rfl, rfl⟩
  simp only [Act.put, List.setIfInBounds_toArray, List.set_cons_zero, List.set_cons_succ]
  refine HQ.out _ _ ?_
  intro w2 hf _ _
  have H5 := hid (hf.heap HH.out (fun h => h))
  have F5 := hid (HF.out.then0 hf)
  clear hf
  simp only [List.drop_succ_cons, List.drop_zero]
  have c5 : w2.cell? ⟨b, 5, none⟩ = some (.string r.t) := cell_at H5.out 5
  have c0 : w2.cell? ⟨b, 0, none⟩ = some (.int .i64 r.k) := cell_at H5.out 0
  have HJ : Hid (x31.data.toList = Lib.join ((partsA r).map (·.data.toList)) [32]) := hid (by
    rw [← HX31.out, ← HX27.out, ← HX26.out, ← HX22.out, ← HX21.out, ← HX17.out, ← HX16.out, ← HX12.out, ← HM.out, ← H1.out, ← H2.out, ← H3.out, ← H4.out]
    simp [ByteArray.data_append, partsA, words, Rc.four, Lib.join_cons, Lib.joinTail])
  have HX31 := hid zx31
  clear HX12 HX16 HX17 HX21 HX22 HX26 HX27 HX31 zx12 zx16 zx17 zx21 zx22 zx26 zx27 z0 z1 z2 z3 z4
  have HPV : Hid (r.p.val = .agg #[.int .i64 r.p.s0, .int .i64 r.p.s1, .int .i64 r.p.s2, .int .i64 r.p.s3, .int .i64 r.p.s4, .int .i64 r.p.s5, .int .i64 r.p.s6, .int .i64 r.p.s7, .int .i64 r.p.s8, .int .i64 r.p.s9, .int .i64 r.p.s10, .int .i64 r.p.s11]) := rfl
  by_cases hE : r.t.toList.isEmpty = true
  case pos =>
    by_cases hk : r.k = 3
    case neg =>
      have hkb : (r.k == 3) = false := beq_eq_false_iff_ne.2 hk
      have e : wordsS r = joinS (partsA r) := by unfold wordsS partsT partsP; rw [if_pos HX.out, if_pos hE, if_neg hk]; simp
      have HEE := hid e
      clear e hk
      go_wp2_with fail
      go_ret
      exact ⟨by rw [HEE.out]; exact congrArg (fun x => Ending.returned (Value.string x)) (str_eq_of HJ.out), F5.out⟩
    case pos =>
      have hkb : (r.k == 3) = true := beq_iff_eq.2 hk
      have HK := hid hk
      have e : wordsS r = joinS (partsA r ++ [textS r.p]) := by unfold wordsS partsT partsP; rw [if_pos HX.out, if_pos hE, if_pos hk]; try simp
      have HEE := hid e
      have HNE : Hid ((partsA r).map (·.data.toList) ≠ []) := hid (by simp [partsA])
      clear e hk
      go_upto_region 8 with fail
      go_wp2_with (refine wpList_load_at (by kernel_rfl) 25 (.tmp 44) (by with_reducible rfl) b 6 (by kernel_rfl) _ _ _ H5.out #[.int .i64 r.p.s0, .int .i64 r.p.s1, .int .i64 r.p.s2, .int .i64 r.p.s3, .int .i64 r.p.s4, .int .i64 r.p.s5, .int .i64 r.p.s6, .int .i64 r.p.s7, .int .i64 r.p.s8, .int .i64 r.p.s9, .int .i64 r.p.s10, .int .i64 r.p.s11] (by kernel_rfl) (by simp) _ Tryz.underlying25 rfl (by kernel_rfl) ?_)
      rw [← HPV.out]
      refine (rtextS_calls r.p _ (HY.out.p HK.out)).mono ?_
      rintro _ w3 ⟨rfl, hf⟩
      have zt := textS_size r.p (HY.out.p HK.out)
      obtain ⟨tt, HTT⟩ : ∃ s, Hid (textS r.p = s) := ⟨_, rfl⟩
      rw [HTT.out] at zt ⊢
      have hm1 : ¬ 9223372036854775807 < 1 + tt.size := by omega
      have hm2 : ¬ 9223372036854775807 < x31.size + (1 + tt.size) := by omega
      go_wp2_with fail
      go_ret
      refine ⟨?_, F5.out.then0 hf⟩
      rw [HEE.out]
      refine congrArg (fun x => Ending.returned (Value.string x)) (str_eq_of ?_)
      rw [List.map_append, List.map_cons, List.map_nil, join_snoc _ _ HNE.out, ByteArray.data_append, Array.toList_append, sp_app, HTT.out]
      rw [HJ.out]
  case neg =>
    have hE2 : r.t.toList.isEmpty = false := by simpa using hE
    have ht := HY.out.t
    have hl1 : ¬ 9223372036854775807 < 1 + r.t.size := by omega
    have hl2 : ¬ 9223372036854775807 < x31.size + (1 + r.t.size) := by omega
    have hne : (partsA r).map (·.data.toList) ≠ [] := by simp [partsA]
    by_cases hk : r.k = 3
    case neg =>
      have hkb : (r.k == 3) = false := beq_eq_false_iff_ne.2 hk
      have e : wordsS r = joinS (partsA r ++ [r.t]) := by unfold wordsS partsT partsP; rw [if_pos HX.out, if_neg hE, if_neg hk]; simp
      have HEE := hid e
      have HNE := hid hne
      clear e hk hE ht hne
      go_wp2_with fail
      go_ret
      refine ⟨?_, F5.out⟩
      rw [HEE.out]
      refine congrArg (fun x => Ending.returned (Value.string x)) (str_eq_of ?_)
      rw [List.map_append, List.map_cons, List.map_nil, join_snoc _ _ HNE.out, ByteArray.data_append, Array.toList_append, HJ.out, sp_app]
    case pos =>
      have hkb : (r.k == 3) = true := beq_iff_eq.2 hk
      have HK := hid hk
      have e : wordsS r = joinS ((partsA r ++ [r.t]) ++ [textS r.p]) := by unfold wordsS partsT partsP; rw [if_pos HX.out, if_neg hE, if_pos hk]; try simp
      have HEE := hid e
      have HNE : Hid (((partsA r ++ [r.t])).map (·.data.toList) ≠ []) := hid (by simp [partsA])
      clear e hk
      go_upto_region 8 with fail
      go_wp2_with (refine wpList_load_at (by kernel_rfl) 25 (.tmp 44) (by with_reducible rfl) b 6 (by kernel_rfl) _ _ _ H5.out #[.int .i64 r.p.s0, .int .i64 r.p.s1, .int .i64 r.p.s2, .int .i64 r.p.s3, .int .i64 r.p.s4, .int .i64 r.p.s5, .int .i64 r.p.s6, .int .i64 r.p.s7, .int .i64 r.p.s8, .int .i64 r.p.s9, .int .i64 r.p.s10, .int .i64 r.p.s11] (by kernel_rfl) (by simp) _ Tryz.underlying25 rfl (by kernel_rfl) ?_)
      rw [← HPV.out]
      refine (rtextS_calls r.p _ (HY.out.p HK.out)).mono ?_
      rintro _ w3 ⟨rfl, hf⟩
      have zt := textS_size r.p (HY.out.p HK.out)
      obtain ⟨tt, HTT⟩ : ∃ s, Hid (textS r.p = s) := ⟨_, rfl⟩
      rw [HTT.out] at zt ⊢
      have hm1 : ¬ 9223372036854775807 < 1 + tt.size := by omega
      have hm2 : ¬ 9223372036854775807 < x31.size + (1 + r.t.size) + (1 + tt.size) := by omega
      go_wp2_with fail
      go_ret
      refine ⟨?_, F5.out.then0 hf⟩
      rw [HEE.out]
      refine congrArg (fun x => Ending.returned (Value.string x)) (str_eq_of ?_)
      rw [List.map_append, List.map_cons, List.map_nil, join_snoc _ _ HNE.out, ByteArray.data_append, Array.toList_append, sp_app, HTT.out]
      rw [List.map_append, List.map_cons, List.map_nil, join_snoc _ _ (by simp [partsA]), ByteArray.data_append, Array.toList_append, HJ.out, sp_app]
end Go.Proofs.YtonlmkcolndaaaaGreatDoor
namespace Go.Proofs.YtonlmkcolndaaaaGreatDoor
set_option linter.unusedVariables false
set_option linter.unusedSimpArgs false
set_option maxRecDepth 20000
open Go.RowKit

theorem kindF_cases (l : List UInt8) : kindF l = 0 ∨ (1 ≤ kindF l ∧ kindF l ≤ 7 ∧ nameS (kindF l) = str l) := by
  unfold kindF
  repeat' split
  all_goals first
    | exact .inl rfl
    | (rename_i h; exact .inr ⟨by omega, by omega, h.symm⟩)
/-- The kind, as far as the loop has come. -/
def kup (E : Int) (k : Nat) : Int := if E < k then E else 0
theorem kup_hit {s : ByteArray} {k : Nat} (h1 : 1 ≤ k) (h7 : k < 8) (e : nameS k = s) : kup (kindF s.data.toList) (k + 1) = k := by
  rw [kindF_hit (k := (k : Int)) (by omega) e]
  unfold kup; rw [if_pos (by omega)]
theorem kup_miss {s : ByteArray} {k : Nat} (h1 : 1 ≤ k) (h7 : k < 8) (e : nameS k ≠ s) : kup (kindF s.data.toList) (k + 1) = kup (kindF s.data.toList) k := by
  have hne : kindF s.data.toList ≠ k := by
    intro h
    rcases kindF_cases s.data.toList with h2 | ⟨_, _, h2⟩
    · omega
    · rw [h, str_data] at h2; exact e h2
  unfold kup
  by_cases h : kindF s.data.toList < k
  · rw [if_pos h, if_pos (by omega)]
  · rw [if_neg h, if_neg (by omega)]
theorem kup_first (l : List UInt8) : kup (kindF l) 1 = 0 := by
  unfold kup
  rcases kindF_cases l with h2 | ⟨h1, _, h2⟩
  · rw [h2]; rfl
  · rw [if_neg (by omega)]
theorem kup_last (l : List UInt8) : kup (kindF l) 8 = kindF l := by
  unfold kup
  rcases kindF_cases l with h2 | ⟨h1, h7, h2⟩
  · rw [h2]; rfl
  · rw [if_pos (by omega)]

set_option maxRecDepth 20000 in
set_option maxHeartbeats 8000000 in
theorem rrecord_calls (s : ByteArray) (w : World) (hs : s.size ≤ 90000) : Calls Tryz.prog 21 #[.string s] w fun x w' => x = .returned (.tuple #[(recF s).1.val, .int .i64 (recF s).2]) ∧ Frm M0 w w' := by
  obtain ⟨R, HR⟩ : ∃ R, Hid (recF s = R) := ⟨_, rfl⟩
  rw [HR.out]
  have HS := hid hs
  clear hs
  go_enter Tryz.func21, Tryz.ntmps21
  go_wp2_with fail
  refine (refwords_calls s _ (by have := HS.out; omega)).mono ?_
  rintro _ w1 ⟨v, L, rfl, HL0, hr, hf⟩
  obtain ⟨r0, hr0⟩ : ∃ x, x = w.heap.size := ⟨_, rfl⟩
  have S1 : Hid (Sb M0 w1 fun x => (x.heap[r0]? = some (.cells #[.int .i64 0, .int .i64 0, .int .i64 0, .int .i64 0, .int .i64 0, .string ⟨#[]⟩, .int .i64 0, .int .i64 0, .int .i64 0, .int .i64 0, .int .i64 0, .int .i64 0, .int .i64 0, .int .i64 0, .int .i64 0, .int .i64 0, .int .i64 0, .int .i64 0] 27 (0, 0)) ∧ Frm M0 w x) ∧ Rd x 1 v L.length (strs L)) :=
    hid fun wx hx => ⟨⟨hx.heap (hr0 ▸ hf.heap (new1 w _) (fun h => h)) (fun h => h), (((Frm.refl M0 w).alloc _).then0 hf).then0 hx⟩, hr.frm0 hx⟩
  rw [← hr0]
  have HR0 := hid hr0
  have HFW := hid (few_of (by have := HS.out; omega) HL0.out)
  obtain ⟨W, hW⟩ : ∃ x, x = splitL s.data.toList := ⟨_, rfl⟩
  have HW := hid hW
  have HL : Hid (L.map (·.data.toList) = W) := hid (by rw [hW]; exact HL0.out)
  have hl0 : 0 < L.length := by
    obtain ⟨x, r, e⟩ := splitL_ne s.data.toList
    have := HL0.out
    rw [e] at this
    cases L with
    | nil => cases this
    | cons a l => simp
  obtain ⟨va, vc, rfl, hsh⟩ := hr.shape
  obtain ⟨sb, so, rfl⟩ := hsh hl0
  obtain ⟨x0, hx0⟩ : ∃ x, x = L.getD 0 ⟨#[]⟩ := ⟨_, rfl⟩
  have HC : Hid (Sb M0 w1 fun x => x.cell? ⟨sb, so, none⟩ = some (.string x0)) := hid (S1.out.map fun x hx => by
    have h := hx.2.strAt 0 hl0
    rw [Nat.add_zero] at h
    rw [h, hx0, List.getD_eq_getElem?_getD, List.getElem?_eq_getElem hl0]; rfl)
  have HK0 : Hid (kindF (wd W 0) = kindF x0.data.toList) := hid (by rw [wd_of HL.out, hx0])
  have HL0' := hid hl0
  clear hx0 hsh hl0 hr hf hr0 HL0 hW
  go_wp2_with fail
  refine (numbers_calls _ L W 1 4 _ S1.out.now.2 HL HFW.out.sz HFW.out.len (by omega) (by omega) (by omega)).mono ?_
  rintro _ w2 ⟨bn, cn, rfl, hr, hf⟩
  have S2 := hid (S1.out.step hf)
  have HC2 := hid (HC.out.step hf)
  obtain ⟨e1, he1⟩ : ∃ n, n = numQ (wd W 1) := ⟨_, rfl⟩
  obtain ⟨e2, he2⟩ : ∃ n, n = numQ (wd W 2) := ⟨_, rfl⟩
  obtain ⟨e3, he3⟩ : ∃ n, n = numQ (wd W 3) := ⟨_, rfl⟩
  obtain ⟨e4, he4⟩ : ∃ n, n = numQ (wd W 4) := ⟨_, rfl⟩
  have hlist : numsQ numQ W 1 4 = [e1, e2, e3, e4] := by rw [he1, he2, he3, he4]; rfl
  rw [hlist] at hr
  obtain ⟨t, ht⟩ : ∃ t, t = restS W 5 := ⟨_, rfl⟩
  obtain ⟨k0, hk0⟩ : ∃ k, k = kindF x0.data.toList := ⟨_, rfl⟩
  have HKK : Hid (k0 = kindF x0.data.toList) := hid hk0
  have HBH : Hid (str (behL s.data.toList 5) = t) := hid (by rw [ht, HW.out]; exact behS s 5 (by omega))
  have HTS : Hid (t.size ≤ 90000) := hid (by rw [ht, HW.out]; exact Nat.le_trans (rest_size s 5 (by omega)) HS.out)
  have HCA3 : Hid (k0 = 3 → candR numQ s = ⟨k0, e1, e2, e3, e4, ⟨#[]⟩, (readS t).1⟩) := hid (fun h3 => by
    have h4 : kindF (wd W 0) = 3 := by rw [HK0.out, ← hk0]; exact h3
    unfold candR
    rw [← HW.out, h4, if_pos rfl, if_pos rfl, h3, he1, he2, he3, he4, ht])
  have HCAN : Hid (k0 ≠ 3 → candR numQ s = ⟨k0, e1, e2, e3, e4, t, Sp.zero⟩) := hid (fun h3 => by
    have h4 : ¬ kindF (wd W 0) = 3 := by rw [HK0.out, ← hk0]; exact h3
    unfold candR
    rw [← HW.out, if_neg h4, if_neg h4, HK0.out, ← hk0, he1, he2, he3, he4, ht])
  have C0 := hid (intCell hr 0 e1 rfl)
  have C1 := hid (intCell hr 1 e2 rfl)
  have C2 := hid (intCell hr 2 e3 rfl)
  have C3 := hid (intCell hr 3 e4 rfl)
  clear he1 he2 he3 he4 hlist hr hf S1 HC ht hk0
  go_upto_region 3 with fail
  apply wp_region_G 14 (fun i => if i = 13 then some (.cells #[.int .i64 0, .int .i64 0, .int .i64 0, .int .i64 0, .int .i64 0, .string ⟨#[]⟩, .int .i64 0, .int .i64 0, .int .i64 0, .int .i64 0, .int .i64 0, .int .i64 0, .int .i64 0, .int .i64 0, .int .i64 0, .int .i64 0, .int .i64 0, .int .i64 0] 27) else none) (valsL (_ :: _ :: _ :: _ :: _ :: _ :: _ :: _ :: _ :: _ :: _ :: _ :: _ :: (.pointer none) :: [])) ?hm1 ?hB1 ?hal1 ?main1
  case hm1 => kernel_rfl
  case hB1 => kernel_rfl
  case hal1 =>
    intro i o obj ho hi
    by_cases h13 : i = 13
    · subst h13; obtain rfl := Option.some.inj hi; obtain rfl := Option.some.inj ho; exact ⟨rfl, fun a w => rfl⟩
    rw [if_neg h13] at hi
    cases hi
  rotate_left 13
  intro ops QT HO HQ
  obtain ⟨ho0, HO⟩ := HO
  refine wpG_v ho0.out rfl ?_ ?_
  · simp only [valsL_zero, valsL_succ]; apply FY_in rfl; intro wx hx
    go_simp
    exact ⟨rfl, rfl⟩
  simp only [Act.put, List.setIfInBounds_toArray, List.set_cons_zero, List.set_cons_succ, valsL_zero, valsL_succ]
  obtain ⟨ho1, HO⟩ := HO
  refine wpG_v ho1.out rfl ?_ ?_
  · simp only [valsL_zero, valsL_succ]; apply FY_in rfl; intro wx hx
    go_simp
    exact ⟨rfl, rfl⟩
  simp only [Act.put, List.setIfInBounds_toArray, List.set_cons_zero, List.set_cons_succ, valsL_zero, valsL_succ]
  obtain ⟨ho2, HO⟩ := HO
  refine wpG_v ho2.out rfl ?_ ?_
  · simp only [valsL_zero, valsL_succ]; apply FY_in rfl; intro wx hx
    have h := hx.cell C0.out (fun h => h)
    go_simp
    exact ⟨rfl, rfl⟩
  simp only [Act.put, List.setIfInBounds_toArray, List.set_cons_zero, List.set_cons_succ, valsL_zero, valsL_succ]
  obtain ⟨ho3, HO⟩ := HO
  refine wpG_v ho3.out rfl ?_ ?_
  · simp only [valsL_zero, valsL_succ]; apply FY_in rfl; intro wx hx
    go_simp
    exact ⟨rfl, rfl⟩
  simp only [Act.put, List.setIfInBounds_toArray, List.set_cons_zero, List.set_cons_succ, valsL_zero, valsL_succ]
  obtain ⟨ho4, HO⟩ := HO
  refine wpG_v ho4.out rfl ?_ ?_
  · simp only [valsL_zero, valsL_succ]; apply FY_in rfl; intro wx hx
    go_simp
    exact ⟨rfl, rfl⟩
  simp only [Act.put, List.setIfInBounds_toArray, List.set_cons_zero, List.set_cons_succ, valsL_zero, valsL_succ]
  obtain ⟨ho5, HO⟩ := HO
  refine wpG_v ho5.out rfl ?_ ?_
  · simp only [valsL_zero, valsL_succ]; apply FY_in rfl; intro wx hx
    have h := hx.cell C1.out (fun h => h)
    go_simp
    exact ⟨rfl, rfl⟩
  simp only [Act.put, List.setIfInBounds_toArray, List.set_cons_zero, List.set_cons_succ, valsL_zero, valsL_succ]
  obtain ⟨ho6, HO⟩ := HO
  refine wpG_v ho6.out rfl ?_ ?_
  · simp only [valsL_zero, valsL_succ]; apply FY_in rfl; intro wx hx
    go_simp
    exact ⟨rfl, rfl⟩
  simp only [Act.put, List.setIfInBounds_toArray, List.set_cons_zero, List.set_cons_succ, valsL_zero, valsL_succ]
  obtain ⟨ho7, HO⟩ := HO
  refine wpG_v ho7.out rfl ?_ ?_
  · simp only [valsL_zero, valsL_succ]; apply FY_in rfl; intro wx hx
    go_simp
    exact ⟨rfl, rfl⟩
  simp only [Act.put, List.setIfInBounds_toArray, List.set_cons_zero, List.set_cons_succ, valsL_zero, valsL_succ]
  obtain ⟨ho8, HO⟩ := HO
  refine wpG_v ho8.out rfl ?_ ?_
  · simp only [valsL_zero, valsL_succ]; apply FY_in rfl; intro wx hx
    have h := hx.cell C2.out (fun h => h)
    go_simp
    exact ⟨rfl, rfl⟩
  simp only [Act.put, List.setIfInBounds_toArray, List.set_cons_zero, List.set_cons_succ, valsL_zero, valsL_succ]
  obtain ⟨ho9, HO⟩ := HO
  refine wpG_v ho9.out rfl ?_ ?_
  · simp only [valsL_zero, valsL_succ]; apply FY_in rfl; intro wx hx
    go_simp
    exact ⟨rfl, rfl⟩
  simp only [Act.put, List.setIfInBounds_toArray, List.set_cons_zero, List.set_cons_succ, valsL_zero, valsL_succ]
  obtain ⟨ho10, HO⟩ := HO
  refine wpG_v ho10.out rfl ?_ ?_
  · simp only [valsL_zero, valsL_succ]; apply FY_in rfl; intro wx hx
    go_simp
    exact ⟨rfl, rfl⟩
  simp only [Act.put, List.setIfInBounds_toArray, List.set_cons_zero, List.set_cons_succ, valsL_zero, valsL_succ]
  obtain ⟨ho11, HO⟩ := HO
  refine wpG_v ho11.out rfl ?_ ?_
  · simp only [valsL_zero, valsL_succ]; apply FY_in rfl; intro wx hx
    have h := hx.cell C3.out (fun h => h)
    go_simp
    exact ⟨rfl, rfl⟩
  simp only [Act.put, List.setIfInBounds_toArray, List.set_cons_zero, List.set_cons_succ, valsL_zero, valsL_succ]
  obtain ⟨ho12, HO⟩ := HO
  refine wpG_v ho12.out rfl ?_ ?_
  · simp only [valsL_zero, valsL_succ]; apply FY_in rfl; intro wx hx
    go_simp
    exact ⟨rfl, rfl⟩
  simp only [Act.put, List.setIfInBounds_toArray, List.set_cons_zero, List.set_cons_succ, valsL_zero, valsL_succ]
  obtain ⟨ho13, HO⟩ := HO
  refine wpG_new _ _ ho13.out rfl fun bm => ?_
  simp only [Act.put, List.setIfInBounds_toArray, List.set_cons_zero, List.set_cons_succ]
  refine HQ.out _ _ ?_
  intro wr hf hE hN
  simp only [List.drop_succ_cons, List.drop_zero]
  clear HQ HO ho0 ho1 ho2 ho3 ho4 ho5 ho6 ho7 ho8 ho9 ho10 ho11 ho12 ho13
  have hbm : w2.heap.size ≤ bm ∧ wr.heap[bm]? = some (.cells #[.int .i64 0, .int .i64 0, .int .i64 0, .int .i64 0, .int .i64 0, .string ⟨#[]⟩, .int .i64 0, .int .i64 0, .int .i64 0, .int .i64 0, .int .i64 0, .int .i64 0, .int .i64 0, .int .i64 0, .int .i64 0, .int .i64 0, .int .i64 0, .int .i64 0] 27 (0, 0)) := hE 13 _ (by omega) rfl
  have HBM := hid hbm
  clear hE hN hbm
  go_upto_region 4 with (refine wpList_store_row rfl 27 (.tmp 6) (.tmp 28) (by with_reducible rfl) bm #[.int .i64 0, .int .i64 e1, .int .i64 e2, .int .i64 e3, .int .i64 e4, .string ⟨#[]⟩, .int .i64 0, .int .i64 0, .int .i64 0, .int .i64 0, .int .i64 0, .int .i64 0, .int .i64 0, .int .i64 0, .int .i64 0, .int .i64 0, .int .i64 0, .int .i64 0] (by kernel_rfl) (by kernel_rfl) _ _ HBM.out.2 (by kernel_rfl) (by rfl) (by simp [Value.oneCell']) ?_)
  have hM := setRow_heap _ bm _ #[.int .i64 0, .int .i64 e1, .int .i64 e2, .int .i64 e3, .int .i64 e4, .string ⟨#[]⟩, .int .i64 0, .int .i64 0, .int .i64 0, .int .i64 0, .int .i64 0, .int .i64 0, .int .i64 0, .int .i64 0, .int .i64 0, .int .i64 0, .int .i64 0, .int .i64 0] _ _ HBM.out.2
  have hfr : Frm M0 w2 (wr.setRow bm #[.int .i64 0, .int .i64 e1, .int .i64 e2, .int .i64 e3, .int .i64 e4, .string ⟨#[]⟩, .int .i64 0, .int .i64 0, .int .i64 0, .int .i64 0, .int .i64 0, .int .i64 0, .int .i64 0, .int .i64 0, .int .i64 0, .int .i64 0, .int .i64 0, .int .i64 0]) := hf.setRow _ _ HBM.out.1
  obtain ⟨w3, hw3⟩ : ∃ x, x = wr.setRow bm #[.int .i64 0, .int .i64 e1, .int .i64 e2, .int .i64 e3, .int .i64 e4, .string ⟨#[]⟩, .int .i64 0, .int .i64 0, .int .i64 0, .int .i64 0, .int .i64 0, .int .i64 0, .int .i64 0, .int .i64 0, .int .i64 0, .int .i64 0, .int .i64 0, .int .i64 0] := ⟨_, rfl⟩
  rw [← hw3] at hM hfr ⊢
  have S3 : Hid (Sb (fun j => j = bm) w3 fun x => (x.heap[r0]? = some (.cells #[.int .i64 0, .int .i64 0, .int .i64 0, .int .i64 0, .int .i64 0, .string ⟨#[]⟩, .int .i64 0, .int .i64 0, .int .i64 0, .int .i64 0, .int .i64 0, .int .i64 0, .int .i64 0, .int .i64 0, .int .i64 0, .int .i64 0, .int .i64 0, .int .i64 0] 27 (0, 0)) ∧ Frm M0 w x) ∧ x.cell? ⟨sb, so, none⟩ = some (.string x0)) := hid fun wx hx => by
    have h := S2.out.now.1
    have hc := HC2.out.now
    have hlt := sb_lt h.1
    have hls := World.block_lt_of_cell? _ _ hc
    have h2 := hfr.heap h.1 (fun h => h)
    have hc2 := hfr.cell hc (fun h => h)
    have hb := HBM.out.1
    have hz := h.2.size
    have hls2 : sb < w2.heap.size := hls
    exact ⟨⟨hx.heap h2 (by omega), (h.2.then0 hfr).trans hx (fun j hj e => by have h3 : j = bm := e; omega)⟩, hx.cell hc2 (fun e => by have h3 : sb = bm := e; omega)⟩
  have HM3 : Hid (w3.heap[bm]? = some (.cells #[.int .i64 (kup k0 1), .int .i64 e1, .int .i64 e2, .int .i64 e3, .int .i64 e4, .string ⟨#[]⟩, .int .i64 0, .int .i64 0, .int .i64 0, .int .i64 0, .int .i64 0, .int .i64 0, .int .i64 0, .int .i64 0, .int .i64 0, .int .i64 0, .int .i64 0, .int .i64 0] 27 (0, 0))) := hid (by rw [HKK.out, kup_first]; exact hM)
  clear hw3 hM hfr hf S2 HC2 C0 C1 C2 C3
  go_wp2_with fail
  go_loopw [7] (fun i7 wr => ∃ k : Nat, 1 ≤ k ∧ k ≤ 8 ∧ i7 = .int .i64 k ∧ Hid (wr.heap[bm]? = some (.cells #[.int .i64 (kup k0 k), .int .i64 e1, .int .i64 e2, .int .i64 e3, .int .i64 e4, .string ⟨#[]⟩, .int .i64 0, .int .i64 0, .int .i64 0, .int .i64 0, .int .i64 0, .int .i64 0, .int .i64 0, .int .i64 0, .int .i64 0, .int .i64 0, .int .i64 0, .int .i64 0] 27 (0, 0))) ∧ Hid (Frm (fun j => j = bm) w3 wr)) (fun i _ => 8 - (intOf i).toNat)
  case atStart => exact ⟨1, by omega, by omega, rfl, HM3, hid (Frm.refl _ _)⟩
  case round =>
    clear HM3
    obtain ⟨k, hk1, hk, rfl, HM, HF⟩ := hrel
    have S4 := hid (S3.out.stepX HF.out)
    by_cases hlt : k < 8
    · have hle : decide ((k : Int) ≤ 7) = true := decide_eq_true (by omega)
      have hle2 : (k : Int) ≤ 7 := by omega
      obtain ⟨nm, HNM⟩ : ∃ x, Hid (nameS k = x) := ⟨_, rfl⟩
      have HRN : Hid (∀ wx, Calls Tryz.prog 47 #[.int .i64 k] wx fun x w' => x = .returned (.string nm) ∧ Frm M0 wx w') := hid (fun wx => by rw [← HNM.out]; exact rname_calls k wx)
      have HK7 := hid (And.intro hk1 hlt)
      go_upto_region 7 with fail
      apply wp_region_G 5 (fun _ => none) (valsL (_ :: _ :: _ :: _ :: _ :: [])) ?hm2 ?hB2 ?hal2 ?main2
      case hm2 => kernel_rfl
      case hB2 => kernel_rfl
      case hal2 =>
        intro i o obj ho hi
        cases hi
      rotate_left 5
      intro ops QT HO HQ
      obtain ⟨ho0, HO⟩ := HO
      refine wpG_v ho0.out rfl ?_ ?_
      · simp only [valsL_zero, valsL_succ]; apply FY_in rfl; intro wx hx
        go_simp
        exact ⟨rfl, rfl⟩
      simp only [Act.put, List.setIfInBounds_toArray, List.set_cons_zero, List.set_cons_succ, valsL_zero, valsL_succ]
      obtain ⟨ho1, HO⟩ := HO
      refine wpG_v ho1.out rfl ?_ ?_
      · simp only [valsL_zero, valsL_succ]; apply FY_in rfl; intro wx hx
        go_simp
        exact ⟨rfl, (HRN.out _).mono (fun e w' h => ⟨h.1, h.2⟩)⟩
      simp only [Act.put, List.setIfInBounds_toArray, List.set_cons_zero, List.set_cons_succ, valsL_zero, valsL_succ]
      obtain ⟨ho2, HO⟩ := HO
      refine wpG_v ho2.out rfl ?_ ?_
      · simp only [valsL_zero, valsL_succ]; apply FY_in rfl; intro wx hx
        go_simp
        exact ⟨rfl, rfl⟩
      simp only [Act.put, List.setIfInBounds_toArray, List.set_cons_zero, List.set_cons_succ, valsL_zero, valsL_succ]
      obtain ⟨ho3, HO⟩ := HO
      refine wpG_v ho3.out rfl ?_ ?_
      · simp only [valsL_zero, valsL_succ]; apply FY_in rfl; intro wx hx
        have hl0 := HL0'.out
        go_simp
        exact ⟨rfl, rfl⟩
      simp only [Act.put, List.setIfInBounds_toArray, List.set_cons_zero, List.set_cons_succ, valsL_zero, valsL_succ]
      obtain ⟨ho4, HO⟩ := HO
      refine wpG_v ho4.out rfl ?_ ?_
      · simp only [valsL_zero, valsL_succ]; apply FY_in rfl; intro wx hx
        have h := hx.cell S4.out.now.2 (fun h => h)
        go_simp
        exact ⟨rfl, rfl⟩
      simp only [Act.put, List.setIfInBounds_toArray, List.set_cons_zero, List.set_cons_succ, valsL_zero, valsL_succ]
      refine HQ.out _ _ ?_
      intro wq hf hE hN
      simp only [List.drop_succ_cons, List.drop_zero]
      clear HQ HO hE hN ho0 ho1 ho2 ho3 ho4
      have HMq := hid (hf.heap HM.out (fun h => h))
      have HFq := hid (HF.out.then0 hf)
      clear hf
      by_cases hx : nm = x0
      · have hb : (nm.toList == x0.toList) = true := by rw [hx]; simp
        have HKU : Hid (kup k0 (k + 1) = k) := hid (by rw [HKK.out]; exact kup_hit HK7.out.1 HK7.out.2 (by rw [HNM.out, hx]))
        have c00 : wq.cell? ⟨bm, 0, none⟩ = some (.int .i64 (kup k0 k)) := sb_cell HMq.out 0
        have z00 : wq.frozen? ⟨bm, 0, none⟩ = false := sb_free HMq.out 0
        clear hx
        go_wp2_with fail
        refine ⟨⟨k + 1, by have := HK7.out; omega, by have := HK7.out; omega, by have := HK7.out; go_num, hid ?_, hid (HFq.out.put bm _ _ (fun _ => rfl))⟩, by have := HK7.out; simp [intOf]; omega⟩
        rw [HKU.out]
        exact heap_set_at (o := 0) HMq.out (.int .i64 (k : Int))
      · have hb : (nm.toList == x0.toList) = false := by
          rw [beq_eq_false_iff_ne]; intro h; exact hx ((Go.Lib.bytes_beq_iff nm x0).1 (by simp [h]))
        have HKU : Hid (kup k0 (k + 1) = kup k0 k) := hid (by rw [HKK.out]; exact kup_miss HK7.out.1 HK7.out.2 (by rw [HNM.out]; exact hx))
        clear hx
        go_wp2_with fail
        refine ⟨⟨k + 1, by have := HK7.out; omega, by have := HK7.out; omega, by have := HK7.out; go_num, hid ?_, HFq⟩, by have := HK7.out; simp [intOf]; omega⟩
        rw [HKU.out]
        exact HMq.out
    · obtain rfl : k = 8 := by omega
      have HM0 : Hid (wr.heap[bm]? = some (.cells #[.int .i64 k0, .int .i64 e1, .int .i64 e2, .int .i64 e3, .int .i64 e4, .string ⟨#[]⟩, .int .i64 0, .int .i64 0, .int .i64 0, .int .i64 0, .int .i64 0, .int .i64 0, .int .i64 0, .int .i64 0, .int .i64 0, .int .i64 0, .int .i64 0, .int .i64 0] 27 (0, 0))) := hid (by
        have h := HM.out
        rw [show kup k0 8 = k0 from by rw [HKK.out]; exact kup_last _] at h
        exact h)
      have S6 : Hid (Sb (fun j => j = bm) wr fun x => x.heap[r0]? = some (.cells #[.int .i64 0, .int .i64 0, .int .i64 0, .int .i64 0, .int .i64 0, .string ⟨#[]⟩, .int .i64 0, .int .i64 0, .int .i64 0, .int .i64 0, .int .i64 0, .int .i64 0, .int .i64 0, .int .i64 0, .int .i64 0, .int .i64 0, .int .i64 0, .int .i64 0] 27 (0, 0)) ∧ Frm M0 w x) := hid (S4.out.map fun x h => h.1)
      have HBC : Hid (∀ wx, Calls Tryz.prog 42 #[.string s, .int .i64 5] wx fun x w' => x = .returned (.string t) ∧ Frm M0 wx w') := hid (fun wx => by
        have h := behind_calls s 5 wx (by have := HS.out; omega) (by omega) (by omega)
        rw [HBH.out] at h; exact h)
      have c00 : wr.cell? ⟨bm, 0, none⟩ = some (.int .i64 k0) := sb_cell HM0.out 0
      clear HM S4
      go_wp2_with fail
      refine (HBC.out _).mono ?_
      rintro _ w7 ⟨rfl, hf⟩
      have S7 := hid (S6.out.step hf)
      have HM7 := hid (hf.heap HM0.out (fun h => h))
      have c00 : w7.cell? ⟨bm, 0, none⟩ = some (.int .i64 k0) := sb_cell HM7.out 0
      clear hf S6 HM0 HBC
      by_cases h3 : k0 = 3
      · have h3b : (k0 == 3) = true := by simp [h3]
        have HC3 := hid (HCA3.out h3)
        clear h3
        go_wp2_with fail
        refine (rread_spec_calls t _ (by have := HTS.out; omega)).mono ?_
        rintro _ w8 ⟨rfl, hf⟩
        have S8 := hid (S7.out.step hf)
        have HM8 := hid (hf.heap HM7.out (fun h => h))
        clear hf S7 HM7 c00 h3b
        obtain ⟨P, hP⟩ : ∃ P, P = (readS t).1 := ⟨_, rfl⟩
        have HCQ : Hid (candR numQ s = ⟨k0, e1, e2, e3, e4, ⟨#[]⟩, P⟩) := hid (by rw [HC3.out, hP])
        have HVP : Hid (P.val = .agg #[.int .i64 P.s0, .int .i64 P.s1, .int .i64 P.s2, .int .i64 P.s3, .int .i64 P.s4, .int .i64 P.s5, .int .i64 P.s6, .int .i64 P.s7, .int .i64 P.s8, .int .i64 P.s9, .int .i64 P.s10, .int .i64 P.s11]) := rfl
        rw [← hP, HVP.out]
        clear hP HC3
        obtain ⟨q2, hq2⟩ : ∃ q, q = (readS t).2 := ⟨_, rfl⟩
        rw [← hq2]
        clear hq2
        obtain ⟨bs, hbs⟩ : ∃ x, x = w8.heap.size := ⟨_, rfl⟩
        have HZ1 := hid (new1 w8 (.cells #[.int .i64 0, .int .i64 0, .int .i64 0, .int .i64 0, .int .i64 0, .int .i64 0, .int .i64 0, .int .i64 0, .int .i64 0, .int .i64 0, .int .i64 0, .int .i64 0] 25))
        go_upto_region 12 with (refine wpList_store_row rfl 25 (.tmp 9) (.tmp 49) (by with_reducible rfl) w8.heap.size #[.int .i64 P.s0, .int .i64 P.s1, .int .i64 P.s2, .int .i64 P.s3, .int .i64 P.s4, .int .i64 P.s5, .int .i64 P.s6, .int .i64 P.s7, .int .i64 P.s8, .int .i64 P.s9, .int .i64 P.s10, .int .i64 P.s11] (by kernel_rfl) (by kernel_rfl) _ _ HZ1.out (by kernel_rfl) (by rfl) (by simp [Value.oneCell']) ?_)
        have hfr := ((Frm.refl M0 w8).alloc (.cells #[.int .i64 0, .int .i64 0, .int .i64 0, .int .i64 0, .int .i64 0, .int .i64 0, .int .i64 0, .int .i64 0, .int .i64 0, .int .i64 0, .int .i64 0, .int .i64 0] 25)).setRow w8.heap.size #[.int .i64 P.s0, .int .i64 P.s1, .int .i64 P.s2, .int .i64 P.s3, .int .i64 P.s4, .int .i64 P.s5, .int .i64 P.s6, .int .i64 P.s7, .int .i64 P.s8, .int .i64 P.s9, .int .i64 P.s10, .int .i64 P.s11] (Nat.le_refl _)
        have hB := setRow_heap _ w8.heap.size _ #[.int .i64 P.s0, .int .i64 P.s1, .int .i64 P.s2, .int .i64 P.s3, .int .i64 P.s4, .int .i64 P.s5, .int .i64 P.s6, .int .i64 P.s7, .int .i64 P.s8, .int .i64 P.s9, .int .i64 P.s10, .int .i64 P.s11] _ _ HZ1.out
        obtain ⟨w8b, hw8⟩ : ∃ x, x = (w8.alloc (.cells #[.int .i64 0, .int .i64 0, .int .i64 0, .int .i64 0, .int .i64 0, .int .i64 0, .int .i64 0, .int .i64 0, .int .i64 0, .int .i64 0, .int .i64 0, .int .i64 0] 25)).setRow w8.heap.size #[.int .i64 P.s0, .int .i64 P.s1, .int .i64 P.s2, .int .i64 P.s3, .int .i64 P.s4, .int .i64 P.s5, .int .i64 P.s6, .int .i64 P.s7, .int .i64 P.s8, .int .i64 P.s9, .int .i64 P.s10, .int .i64 P.s11] := ⟨_, rfl⟩
        rw [← hw8] at hfr hB ⊢
        rw [← hbs] at hB ⊢
        have S8b := hid (S8.out.step hfr)
        have HM8b := hid (hfr.heap HM8.out (fun h => h))
        have HB8 := hid hB
        clear hw8 hfr hB S8 HM8 HZ1 hbs
        go_upto_region 14 with (first | (refine wpList_load_row_w (by kernel_rfl) 25 (.tmp 9) (by with_reducible rfl) bs (by kernel_rfl) _ _ _ _ HB8.out Tryz.underlying25 rfl (by kernel_rfl) ?_) | (refine wpList_store_at (by kernel_rfl) 25 (.tmp 52) (.tmp 51) (by with_reducible rfl) bm 6 (by kernel_rfl) #[.int .i64 P.s0, .int .i64 P.s1, .int .i64 P.s2, .int .i64 P.s3, .int .i64 P.s4, .int .i64 P.s5, .int .i64 P.s6, .int .i64 P.s7, .int .i64 P.s8, .int .i64 P.s9, .int .i64 P.s10, .int .i64 P.s11] (by kernel_rfl) _ _ HM8b.out (by kernel_rfl) (by simp) (by simp [Value.oneCell']) ?_; intro w9 hh hp; have HM9 : Hid (w9.heap[bm]? = some (.cells #[.int .i64 k0, .int .i64 e1, .int .i64 e2, .int .i64 e3, .int .i64 e4, .string ⟨#[]⟩, .int .i64 P.s0, .int .i64 P.s1, .int .i64 P.s2, .int .i64 P.s3, .int .i64 P.s4, .int .i64 P.s5, .int .i64 P.s6, .int .i64 P.s7, .int .i64 P.s8, .int .i64 P.s9, .int .i64 P.s10, .int .i64 P.s11] 27 (0, 0))) := putL_heap hh (by kernel_rfl); have HP9 := hid hp; clear hh hp))
        have S9 := hid (S8b.out.stepX HP9.out)
        clear HP9 S8b HM8b HB8
        obtain ⟨c, HC⟩ : ∃ c, Hid (candR numQ s = c) := ⟨_, rfl⟩
        have hcc : c = ⟨k0, e1, e2, e3, e4, ⟨#[]⟩, P⟩ := by rw [← HC.out, HCQ.out]
        have HMC : Hid (w9.heap[bm]? = some (.cells #[.int .i64 c.k, .int .i64 c.e, .int .i64 c.w, .int .i64 c.n, .int .i64 c.q, .string c.t, .int .i64 c.p.s0, .int .i64 c.p.s1, .int .i64 c.p.s2, .int .i64 c.p.s3, .int .i64 c.p.s4, .int .i64 c.p.s5, .int .i64 c.p.s6, .int .i64 c.p.s7, .int .i64 c.p.s8, .int .i64 c.p.s9, .int .i64 c.p.s10, .int .i64 c.p.s11] 27 (0, 0))) := hid (by rw [hcc]; exact HM9.out)
        have HV : Hid (c.val = .agg #[.int .i64 c.k, .int .i64 c.e, .int .i64 c.w, .int .i64 c.n, .int .i64 c.q, .string c.t, .int .i64 c.p.s0, .int .i64 c.p.s1, .int .i64 c.p.s2, .int .i64 c.p.s3, .int .i64 c.p.s4, .int .i64 c.p.s5, .int .i64 c.p.s6, .int .i64 c.p.s7, .int .i64 c.p.s8, .int .i64 c.p.s9, .int .i64 c.p.s10, .int .i64 c.p.s11]) := rfl
        have HFI : Hid c.fine := hid (by rw [← HC.out]; exact cand_fine numQ_i64 HS.out)
        obtain ⟨y, HY⟩ : ∃ y, Hid (wordsS c = y) := ⟨_, rfl⟩
        have HRR : Hid (R = if accB y s = true then (c, 0) else (Rc.zero, 2)) := hid (by rw [← HR.out, ← recF_r, ← HY.out, ← HC.out]; rfl)
        clear hcc HM9 HCQ HC
        go_wp2_with (refine wpList_load_row_w (by kernel_rfl) 27 (.tmp 6) (by with_reducible rfl) bm (by kernel_rfl) _ _ _ _ HMC.out Tryz.underlying27 rfl (by kernel_rfl) ?_)
        rw [← HV.out]
        refine (rwordsR_calls c _ HFI.out).mono ?_
        rintro _ w10 ⟨rfl, hf⟩
        rw [HY.out]
        have S10 := hid (S9.out.step hf)
        have HM10 := hid (hf.heap HMC.out (fun h => h))
        clear hf S9 HMC
        by_cases hE : y.toList.isEmpty = true
        · have HRZ : Hid (R = (Rc.zero, 2)) := hid (by rw [HRR.out, if_neg (by rw [accB_iff]; intro h; rw [h.1] at hE; cases hE)])
          go_wp2_with (refine wpList_store_row rfl 27 (.tmp 2) (.tmp 64) (by with_reducible rfl) r0 #[.int .i64 0, .int .i64 0, .int .i64 0, .int .i64 0, .int .i64 0, .string ⟨#[]⟩, .int .i64 0, .int .i64 0, .int .i64 0, .int .i64 0, .int .i64 0, .int .i64 0, .int .i64 0, .int .i64 0, .int .i64 0, .int .i64 0, .int .i64 0, .int .i64 0] (by kernel_rfl) (by kernel_rfl) _ _ S10.out.now.1 (by kernel_rfl) (by rfl) (by simp [Value.oneCell']) ?_)
          refine bodyPost_ret (results_cell_slot (by rfl) _ _ r0 _ _ _ _ _ rfl rfl (setRow_heap _ _ _ _ _ _ S10.out.now.1) Tryz.underlying27 rfl (by kernel_rfl)) rfl ⟨by rw [HRZ.out]; rfl, S10.out.now.2.setRow _ _ (by have := HR0.out; omega)⟩
        · have hE' : y.toList.isEmpty = false := by simpa using hE
          by_cases hq : y = s
          · have HRZ : Hid (R = (c, 0)) := hid (by rw [HRR.out, if_pos (accB_iff.2 ⟨hE', hq⟩)])
            have hq' : (y.toList == s.toList) = true := by rw [hq]; simp
            clear hE hq
            go_wp2_with (first | (refine wpList_load_row_w (by kernel_rfl) 27 (.tmp 6) (by with_reducible rfl) bm (by kernel_rfl) _ _ _ _ HM10.out Tryz.underlying27 rfl (by kernel_rfl) ?_) | (refine wpList_store_row rfl 27 (.tmp 2) (.tmp 65) (by with_reducible rfl) r0 #[.int .i64 c.k, .int .i64 c.e, .int .i64 c.w, .int .i64 c.n, .int .i64 c.q, .string c.t, .int .i64 c.p.s0, .int .i64 c.p.s1, .int .i64 c.p.s2, .int .i64 c.p.s3, .int .i64 c.p.s4, .int .i64 c.p.s5, .int .i64 c.p.s6, .int .i64 c.p.s7, .int .i64 c.p.s8, .int .i64 c.p.s9, .int .i64 c.p.s10, .int .i64 c.p.s11] (by kernel_rfl) (by kernel_rfl) _ _ S10.out.now.1 (by kernel_rfl) (by rfl) (by simp [Value.oneCell']) ?_))
            refine bodyPost_ret (results_cell_slot (by rfl) _ _ r0 _ _ _ _ _ rfl rfl (setRow_heap _ _ _ _ _ _ S10.out.now.1) Tryz.underlying27 rfl (by kernel_rfl)) rfl ⟨by rw [HRZ.out]; rfl, S10.out.now.2.setRow _ _ (by have := HR0.out; omega)⟩
          · have HRZ : Hid (R = (Rc.zero, 2)) := hid (by rw [HRR.out, if_neg (by rw [accB_iff]; intro h; exact hq h.2)])
            have hq' : (y.toList == s.toList) = false := by
              rw [beq_eq_false_iff_ne]; intro h; exact hq ((Go.Lib.bytes_beq_iff y s).1 (by simp [h]))
            clear hE hq
            go_wp2_with (refine wpList_store_row rfl 27 (.tmp 2) (.tmp 64) (by with_reducible rfl) r0 #[.int .i64 0, .int .i64 0, .int .i64 0, .int .i64 0, .int .i64 0, .string ⟨#[]⟩, .int .i64 0, .int .i64 0, .int .i64 0, .int .i64 0, .int .i64 0, .int .i64 0, .int .i64 0, .int .i64 0, .int .i64 0, .int .i64 0, .int .i64 0, .int .i64 0] (by kernel_rfl) (by kernel_rfl) _ _ S10.out.now.1 (by kernel_rfl) (by rfl) (by simp [Value.oneCell']) ?_)
            refine bodyPost_ret (results_cell_slot (by rfl) _ _ r0 _ _ _ _ _ rfl rfl (setRow_heap _ _ _ _ _ _ S10.out.now.1) Tryz.underlying27 rfl (by kernel_rfl)) rfl ⟨by rw [HRZ.out]; rfl, S10.out.now.2.setRow _ _ (by have := HR0.out; omega)⟩
      · have h3b : (k0 == 3) = false := by simp [h3]
        have HCQ := hid (HCAN.out h3)
        have c5 : w7.cell? ⟨bm, 5, none⟩ = some (.string ⟨#[]⟩) := sb_cell HM7.out 5
        have z5 : w7.frozen? ⟨bm, 5, none⟩ = false := sb_free HM7.out 5
        clear h3
        go_upto_region 14 with fail
        have HM9 : Hid ((w7.setCell ⟨bm, 5, none⟩ (.string t)).heap[bm]? = some (.cells #[.int .i64 k0, .int .i64 e1, .int .i64 e2, .int .i64 e3, .int .i64 e4, .string t, .int .i64 0, .int .i64 0, .int .i64 0, .int .i64 0, .int .i64 0, .int .i64 0, .int .i64 0, .int .i64 0, .int .i64 0, .int .i64 0, .int .i64 0, .int .i64 0] 27 (0, 0))) := hid (heap_set_at (o := 5) HM7.out (.string t))
        have S9 := hid (S7.out.put bm 5 (.string t) rfl)
        obtain ⟨w9, hw9⟩ : ∃ x, x = w7.setCell ⟨bm, 5, none⟩ (.string t) := ⟨_, rfl⟩
        rw [← hw9] at HM9 S9 ⊢
        clear hw9 c5 z5 S7 HM7 c00 h3b
        obtain ⟨c, HC⟩ : ∃ c, Hid (candR numQ s = c) := ⟨_, rfl⟩
        have hcc : c = ⟨k0, e1, e2, e3, e4, t, Sp.zero⟩ := by rw [← HC.out, HCQ.out]
        have HMC : Hid (w9.heap[bm]? = some (.cells #[.int .i64 c.k, .int .i64 c.e, .int .i64 c.w, .int .i64 c.n, .int .i64 c.q, .string c.t, .int .i64 c.p.s0, .int .i64 c.p.s1, .int .i64 c.p.s2, .int .i64 c.p.s3, .int .i64 c.p.s4, .int .i64 c.p.s5, .int .i64 c.p.s6, .int .i64 c.p.s7, .int .i64 c.p.s8, .int .i64 c.p.s9, .int .i64 c.p.s10, .int .i64 c.p.s11] 27 (0, 0))) := hid (by rw [hcc]; exact HM9.out)
        have HV : Hid (c.val = .agg #[.int .i64 c.k, .int .i64 c.e, .int .i64 c.w, .int .i64 c.n, .int .i64 c.q, .string c.t, .int .i64 c.p.s0, .int .i64 c.p.s1, .int .i64 c.p.s2, .int .i64 c.p.s3, .int .i64 c.p.s4, .int .i64 c.p.s5, .int .i64 c.p.s6, .int .i64 c.p.s7, .int .i64 c.p.s8, .int .i64 c.p.s9, .int .i64 c.p.s10, .int .i64 c.p.s11]) := rfl
        have HFI : Hid c.fine := hid (by rw [← HC.out]; exact cand_fine numQ_i64 HS.out)
        obtain ⟨y, HY⟩ : ∃ y, Hid (wordsS c = y) := ⟨_, rfl⟩
        have HRR : Hid (R = if accB y s = true then (c, 0) else (Rc.zero, 2)) := hid (by rw [← HR.out, ← recF_r, ← HY.out, ← HC.out]; rfl)
        clear hcc HM9 HCQ HC
        go_wp2_with (refine wpList_load_row_w (by kernel_rfl) 27 (.tmp 6) (by with_reducible rfl) bm (by kernel_rfl) _ _ _ _ HMC.out Tryz.underlying27 rfl (by kernel_rfl) ?_)
        rw [← HV.out]
        refine (rwordsR_calls c _ HFI.out).mono ?_
        rintro _ w10 ⟨rfl, hf⟩
        rw [HY.out]
        have S10 := hid (S9.out.step hf)
        have HM10 := hid (hf.heap HMC.out (fun h => h))
        clear hf S9 HMC
        by_cases hE : y.toList.isEmpty = true
        · have HRZ : Hid (R = (Rc.zero, 2)) := hid (by rw [HRR.out, if_neg (by rw [accB_iff]; intro h; rw [h.1] at hE; cases hE)])
          go_wp2_with (refine wpList_store_row rfl 27 (.tmp 2) (.tmp 64) (by with_reducible rfl) r0 #[.int .i64 0, .int .i64 0, .int .i64 0, .int .i64 0, .int .i64 0, .string ⟨#[]⟩, .int .i64 0, .int .i64 0, .int .i64 0, .int .i64 0, .int .i64 0, .int .i64 0, .int .i64 0, .int .i64 0, .int .i64 0, .int .i64 0, .int .i64 0, .int .i64 0] (by kernel_rfl) (by kernel_rfl) _ _ S10.out.now.1 (by kernel_rfl) (by rfl) (by simp [Value.oneCell']) ?_)
          refine bodyPost_ret (results_cell_slot (by rfl) _ _ r0 _ _ _ _ _ rfl rfl (setRow_heap _ _ _ _ _ _ S10.out.now.1) Tryz.underlying27 rfl (by kernel_rfl)) rfl ⟨by rw [HRZ.out]; rfl, S10.out.now.2.setRow _ _ (by have := HR0.out; omega)⟩
        · have hE' : y.toList.isEmpty = false := by simpa using hE
          by_cases hq : y = s
          · have HRZ : Hid (R = (c, 0)) := hid (by rw [HRR.out, if_pos (accB_iff.2 ⟨hE', hq⟩)])
            have hq' : (y.toList == s.toList) = true := by rw [hq]; simp
            clear hE hq
            go_wp2_with (first | (refine wpList_load_row_w (by kernel_rfl) 27 (.tmp 6) (by with_reducible rfl) bm (by kernel_rfl) _ _ _ _ HM10.out Tryz.underlying27 rfl (by kernel_rfl) ?_) | (refine wpList_store_row rfl 27 (.tmp 2) (.tmp 65) (by with_reducible rfl) r0 #[.int .i64 c.k, .int .i64 c.e, .int .i64 c.w, .int .i64 c.n, .int .i64 c.q, .string c.t, .int .i64 c.p.s0, .int .i64 c.p.s1, .int .i64 c.p.s2, .int .i64 c.p.s3, .int .i64 c.p.s4, .int .i64 c.p.s5, .int .i64 c.p.s6, .int .i64 c.p.s7, .int .i64 c.p.s8, .int .i64 c.p.s9, .int .i64 c.p.s10, .int .i64 c.p.s11] (by kernel_rfl) (by kernel_rfl) _ _ S10.out.now.1 (by kernel_rfl) (by rfl) (by simp [Value.oneCell']) ?_))
            refine bodyPost_ret (results_cell_slot (by rfl) _ _ r0 _ _ _ _ _ rfl rfl (setRow_heap _ _ _ _ _ _ S10.out.now.1) Tryz.underlying27 rfl (by kernel_rfl)) rfl ⟨by rw [HRZ.out]; rfl, S10.out.now.2.setRow _ _ (by have := HR0.out; omega)⟩
          · have HRZ : Hid (R = (Rc.zero, 2)) := hid (by rw [HRR.out, if_neg (by rw [accB_iff]; intro h; exact hq h.2)])
            have hq' : (y.toList == s.toList) = false := by
              rw [beq_eq_false_iff_ne]; intro h; exact hq ((Go.Lib.bytes_beq_iff y s).1 (by simp [h]))
            clear hE hq
            go_wp2_with (refine wpList_store_row rfl 27 (.tmp 2) (.tmp 64) (by with_reducible rfl) r0 #[.int .i64 0, .int .i64 0, .int .i64 0, .int .i64 0, .int .i64 0, .string ⟨#[]⟩, .int .i64 0, .int .i64 0, .int .i64 0, .int .i64 0, .int .i64 0, .int .i64 0, .int .i64 0, .int .i64 0, .int .i64 0, .int .i64 0, .int .i64 0, .int .i64 0] (by kernel_rfl) (by kernel_rfl) _ _ S10.out.now.1 (by kernel_rfl) (by rfl) (by simp [Value.oneCell']) ?_)
            refine bodyPost_ret (results_cell_slot (by rfl) _ _ r0 _ _ _ _ _ rfl rfl (setRow_heap _ _ _ _ _ _ S10.out.now.1) Tryz.underlying27 rfl (by kernel_rfl)) rfl ⟨by rw [HRZ.out]; rfl, S10.out.now.2.setRow _ _ (by have := HR0.out; omega)⟩
end Go.Proofs.YtonlmkcolndaaaaGreatDoor
namespace Go.Proofs.YtonlmkcolndaaaaGreatDoor
set_option linter.unusedVariables false
set_option linter.unusedSimpArgs false
set_option maxRecDepth 20000
open Go.RowKit

theorem fu_load_at_g {P : Program} {op : Oper} {a : Act} {w : World} (ty : TypeId) (x : Operand) (ho : op.op = .load ty x) (g o : Nat) (hx : a.eval x = .pointer (some ⟨g, o, none⟩)) (t : TypeId) (cur cs : Array Value) (fr : Nat × Nat) (d : TypeDesc)
    (hg : w.heap[g]? = some (.cells cur t fr)) (hc : cs = cur.extract o (o + cs.size)) (hl : o + cs.size ≤ cur.size) (hu : P.underlying ty = some d) (hd : (match d with | .struct _ | .array _ _ => true | _ => false) = true) (hi : (P.info? ty).map (·.size) = some cs.size) :
    FUpon P w (.agg cs) ((execOp a.eval op).run P w) := by
  have hl : (loadCells ⟨g, o, none⟩ cs.toList.length).run P w = .ok cs.toList.toArray w :=
    run_loadCells_list (P := P) w ⟨g, o, none⟩ cs.toList (fun j v hv => by
      rw [addr_add]
      have hj : j < cs.size := by have := (List.getElem?_eq_some_iff.1 hv).1; simpa using this
      have h1 : cs[j]? = some v := by simpa using hv
      rw [hc] at h1
      rw [Array.getElem?_extract] at h1
      simp only [World.cell?, hg, if_true]
      split at h1
      · exact h1
      · cases h1)
  clear hc
  have hrun : (loadVar ty ⟨g, o, none⟩).run P w = .ok (.agg cs) w := by
    cases hq : P.info? ty with
    | none => simp [hq] at hi
    | some i =>
      have hs : i.size = cs.size := by simpa [hq] using hi
      have hagg : (isAgg ty).run P w = .ok true w := by
        unfold isAgg
        rw [Sem.run_bind, run_underlying hu w]
        cases d <;> simp_all
      simp only [Array.length_toList, Array.toArray_toList] at hl
      simp [loadVar, Sem.run_bind, hagg, sizeOf, typeInfo, hq, hs, hl]
  simp only [execOp, ho, hx, Instr.loadAt, Instr.sureAddr, Sem.run_bind, Sem.run_pure, Result.andThen_ok, hrun]
  exact ⟨rfl, rfl⟩
end Go.Proofs.YtonlmkcolndaaaaGreatDoor
namespace Go.Proofs.YtonlmkcolndaaaaGreatDoor
set_option linter.unusedVariables false
set_option linter.unusedSimpArgs false
set_option maxRecDepth 20000
open Go.RowKit

def moreS (o : Ot) : ByteArray := if o.d = 0 then ⟨#[]⟩ else if o.d = 1 then ⟨#[32]⟩ ++ wordsS o.r else ⟨#[32]⟩ ++ msgS o.m
theorem words_le {r : Rc} (h : r.fine) : (wordsS r).size ≤ 10000000 := by
  unfold wordsS
  split
  · have h1 := joinS_size 100000 _ (parts_bound r h)
    have h2 := (parts_len r).1
    have e : (joinS (partsA r ++ partsT r ++ partsP r)).size = (Lib.join ((partsA r ++ partsT r ++ partsP r).map (·.data.toList)) [32]).length := str_size _
    rw [e]
    exact Nat.le_trans h1 (Nat.le_trans (Nat.mul_le_mul_right _ h2) (by decide))
  · decide
theorem msgS_le (m : Mg) : (msgS m).size ≤ 10000000 := by
  unfold msgS
  split
  · rename_i h
    obtain ⟨hk, h5⟩ := msgB_iff.1 h
    have hb : ∀ x ∈ kndW m.k :: words m.five, x.size ≤ 21 := fun z hz => by
      rcases List.mem_cons.1 hz with rfl | hz
      · rcases knd_cases hk with h | h <;> rw [h] <;> decide
      · exact words_bound _ (fun x hx => by have := h5 x hx; omega) z hz
    have h1 := joinS_size 21 _ hb
    have e : (joinS (kndW m.k :: words m.five)).size = (Lib.join ((kndW m.k :: words m.five).map (·.data.toList)) [32]).length := str_size _
    rw [e]
    rw [List.length_cons, words_len] at h1
    exact Nat.le_trans h1 (show (5 + 1) * (21 + 1) ≤ 10000000 by decide)
  · decide
theorem cons_wrap {y : ByteArray} (h : y.size ≤ 10000000) : ¬ 9223372036854775807 < 1 + y.size := by omega

set_option maxRecDepth 20000 in
set_option maxHeartbeats 4000000 in
attribute [-go_sem] run_eql_struct run_neq_struct in
attribute [local go_sem] eql_rec eql_msg in
theorem more_calls (o : Ot) (w : World) (ht : Tab w) (hr : o.r.fine) : Calls Tryz.prog 27 #[o.val] w fun x w' => x = .returned (.tuple #[.string (moreS o), .bool (moreB o)]) ∧ Frm M0 w w' := by
  have HV : Hid (o.val = .agg #[.int .i64 o.d, .int .i64 o.e, .int .i64 o.r.k, .int .i64 o.r.e, .int .i64 o.r.w, .int .i64 o.r.n, .int .i64 o.r.q, .string o.r.t, .int .i64 o.r.p.s0, .int .i64 o.r.p.s1, .int .i64 o.r.p.s2, .int .i64 o.r.p.s3, .int .i64 o.r.p.s4, .int .i64 o.r.p.s5, .int .i64 o.r.p.s6, .int .i64 o.r.p.s7, .int .i64 o.r.p.s8, .int .i64 o.r.p.s9, .int .i64 o.r.p.s10, .int .i64 o.r.p.s11, .int .i64 o.m.k, .int .i64 o.m.e, .int .i64 o.m.s, .int .i64 o.m.u, .int .i64 o.m.v, .int .i64 o.m.t]) := rfl
  have HVM : Hid (o.m.val = .agg #[.int .i64 o.m.k, .int .i64 o.m.e, .int .i64 o.m.s, .int .i64 o.m.u, .int .i64 o.m.v, .int .i64 o.m.t]) := rfl
  have HVR : Hid (o.r.val = .agg #[.int .i64 o.r.k, .int .i64 o.r.e, .int .i64 o.r.w, .int .i64 o.r.n, .int .i64 o.r.q, .string o.r.t, .int .i64 o.r.p.s0, .int .i64 o.r.p.s1, .int .i64 o.r.p.s2, .int .i64 o.r.p.s3, .int .i64 o.r.p.s4, .int .i64 o.r.p.s5, .int .i64 o.r.p.s6, .int .i64 o.r.p.s7, .int .i64 o.r.p.s8, .int .i64 o.r.p.s9, .int .i64 o.r.p.s10, .int .i64 o.r.p.s11]) := rfl
  obtain ⟨M, HM⟩ : ∃ M, Hid (moreB o = M) := ⟨_, rfl⟩
  obtain ⟨T, HT2⟩ : ∃ T, Hid (moreS o = T) := ⟨_, rfl⟩
  rw [HV.out, HM.out, HT2.out]
  have HT := hid ht
  have HR := hid hr
  clear ht hr
  go_enter Tryz.func27, Tryz.ntmps27
  go_upto_region 1 with fail
  obtain ⟨b, hb⟩ : ∃ b, b = w.heap.size := ⟨_, rfl⟩
  obtain ⟨w1, hw1⟩ : ∃ x, x = w.alloc (.cells #[.int .i64 o.d, .int .i64 o.e, .int .i64 o.r.k, .int .i64 o.r.e, .int .i64 o.r.w, .int .i64 o.r.n, .int .i64 o.r.q, .string o.r.t, .int .i64 o.r.p.s0, .int .i64 o.r.p.s1, .int .i64 o.r.p.s2, .int .i64 o.r.p.s3, .int .i64 o.r.p.s4, .int .i64 o.r.p.s5, .int .i64 o.r.p.s6, .int .i64 o.r.p.s7, .int .i64 o.r.p.s8, .int .i64 o.r.p.s9, .int .i64 o.r.p.s10, .int .i64 o.r.p.s11, .int .i64 o.m.k, .int .i64 o.m.e, .int .i64 o.m.s, .int .i64 o.m.u, .int .i64 o.m.v, .int .i64 o.m.t] 35) := ⟨_, rfl⟩
  have hh := new1 w (.cells #[.int .i64 o.d, .int .i64 o.e, .int .i64 o.r.k, .int .i64 o.r.e, .int .i64 o.r.w, .int .i64 o.r.n, .int .i64 o.r.q, .string o.r.t, .int .i64 o.r.p.s0, .int .i64 o.r.p.s1, .int .i64 o.r.p.s2, .int .i64 o.r.p.s3, .int .i64 o.r.p.s4, .int .i64 o.r.p.s5, .int .i64 o.r.p.s6, .int .i64 o.r.p.s7, .int .i64 o.r.p.s8, .int .i64 o.r.p.s9, .int .i64 o.r.p.s10, .int .i64 o.r.p.s11, .int .i64 o.m.k, .int .i64 o.m.e, .int .i64 o.m.s, .int .i64 o.m.u, .int .i64 o.m.v, .int .i64 o.m.t] 35)
  have hf0 := (Frm.refl M0 w).alloc (.cells #[.int .i64 o.d, .int .i64 o.e, .int .i64 o.r.k, .int .i64 o.r.e, .int .i64 o.r.w, .int .i64 o.r.n, .int .i64 o.r.q, .string o.r.t, .int .i64 o.r.p.s0, .int .i64 o.r.p.s1, .int .i64 o.r.p.s2, .int .i64 o.r.p.s3, .int .i64 o.r.p.s4, .int .i64 o.r.p.s5, .int .i64 o.r.p.s6, .int .i64 o.r.p.s7, .int .i64 o.r.p.s8, .int .i64 o.r.p.s9, .int .i64 o.r.p.s10, .int .i64 o.r.p.s11, .int .i64 o.m.k, .int .i64 o.m.e, .int .i64 o.m.s, .int .i64 o.m.u, .int .i64 o.m.v, .int .i64 o.m.t] 35)
  rw [← hw1] at hh hf0 ⊢
  rw [← hb] at hh ⊢
  have S1 : Hid (Sb M0 w1 fun x => x.heap[b]? = some (.cells #[.int .i64 o.d, .int .i64 o.e, .int .i64 o.r.k, .int .i64 o.r.e, .int .i64 o.r.w, .int .i64 o.r.n, .int .i64 o.r.q, .string o.r.t, .int .i64 o.r.p.s0, .int .i64 o.r.p.s1, .int .i64 o.r.p.s2, .int .i64 o.r.p.s3, .int .i64 o.r.p.s4, .int .i64 o.r.p.s5, .int .i64 o.r.p.s6, .int .i64 o.r.p.s7, .int .i64 o.r.p.s8, .int .i64 o.r.p.s9, .int .i64 o.r.p.s10, .int .i64 o.r.p.s11, .int .i64 o.m.k, .int .i64 o.m.e, .int .i64 o.m.s, .int .i64 o.m.u, .int .i64 o.m.v, .int .i64 o.m.t] 35 (0, 0)) ∧ Frm M0 w x) := hid ((Sb.heap hh (fun h => h)).and (Sb.frm hf0))
  clear hw1 hb hh hf0
  have c0 : w1.cell? ⟨b, 0, none⟩ = some (.int .i64 o.d) := cell_at S1.out.now.1 0
  by_cases h0 : o.d = 0
  · have hd : (o.d == 0) = true := by simp [h0]
    have HM2 : Hid (M = (req o.r Rc.zero && meq o.m Mg.zero)) := hid (by rw [← HM.out]; unfold moreB; rw [if_pos h0])
    have HT3 : Hid (T = ⟨#[]⟩) := hid (by rw [← HT2.out]; unfold moreS; rw [if_pos h0])
    clear h0
    go_upto_region 3 with fail
    clear c0 hd
    cases hx : req o.r Rc.zero with
    | false =>
      have HX : Hid (M = false) := hid (by rw [HM2.out, hx]; rfl)
      have hq : req ⟨o.r.k, o.r.e, o.r.w, o.r.n, o.r.q, o.r.t, ⟨o.r.p.s0, o.r.p.s1, o.r.p.s2, o.r.p.s3, o.r.p.s4, o.r.p.s5, o.r.p.s6, o.r.p.s7, o.r.p.s8, o.r.p.s9, o.r.p.s10, o.r.p.s11⟩⟩ ⟨0, 0, 0, 0, 0, ⟨#[]⟩, ⟨0, 0, 0, 0, 0, 0, 0, 0, 0, 0, 0, 0⟩⟩ = false := hx
      clear hx
      apply wp_region_G 11 (fun _ => none) (valsL (_ :: (.agg #[.int .i64 o.r.k, .int .i64 o.r.e, .int .i64 o.r.w, .int .i64 o.r.n, .int .i64 o.r.q, .string o.r.t, .int .i64 o.r.p.s0, .int .i64 o.r.p.s1, .int .i64 o.r.p.s2, .int .i64 o.r.p.s3, .int .i64 o.r.p.s4, .int .i64 o.r.p.s5, .int .i64 o.r.p.s6, .int .i64 o.r.p.s7, .int .i64 o.r.p.s8, .int .i64 o.r.p.s9, .int .i64 o.r.p.s10, .int .i64 o.r.p.s11]) :: _ :: _ :: _ :: _ :: _ :: _ :: _ :: _ :: _ :: [])) ?hm1 ?hB1 ?hal1 ?main1
      case hm1 => kernel_rfl
      case hB1 => kernel_rfl
      case hal1 =>
        intro i o obj ho hi
        cases hi
      rotate_left 10
      intro ops QT HO HQ
      obtain ⟨ho0, HO⟩ := HO
      refine wpG_v ho0.out rfl ?_ ?_
      · simp only [valsL_zero, valsL_succ]; apply FY_in rfl; intro wx hx
        go_simp
        exact ⟨rfl, rfl⟩
      simp only [Act.put, List.setIfInBounds_toArray, List.set_cons_zero, List.set_cons_succ, valsL_zero, valsL_succ]
      obtain ⟨ho1, HO⟩ := HO
      refine wpG_v ho1.out rfl ?_ ?_
      · simp only [valsL_zero, valsL_succ]; apply FY_in rfl; intro wx hx
        exact fu_load_at_g 27 (.tmp 10) rfl (b) 2 (by kernel_rfl) _ _ _ _ _ ((S1.out wx hx).1) (by rfl) (by simp) Tryz.underlying27 rfl (by kernel_rfl)
      simp only [Act.put, List.setIfInBounds_toArray, List.set_cons_zero, List.set_cons_succ, valsL_zero, valsL_succ]
      obtain ⟨ho2, HO⟩ := HO
      refine wpG_v ho2.out rfl ?_ ?_
      · simp only [valsL_zero, valsL_succ]; apply FY_in rfl; intro wx hx
        go_simp
        exact ⟨rfl, rfl⟩
      simp only [Act.put, List.setIfInBounds_toArray, List.set_cons_zero, List.set_cons_succ, valsL_zero, valsL_succ]
      obtain ⟨ho3, HO⟩ := HO
      refine wpG_v ho3.out rfl ?_ ?_
      · simp only [valsL_zero, valsL_succ]; apply FY_in rfl; intro wx hx
        go_simp
        exact ⟨rfl, rfl⟩
      simp only [Act.put, List.setIfInBounds_toArray, List.set_cons_zero, List.set_cons_succ, valsL_zero, valsL_succ]
      obtain ⟨ho4, HO⟩ := HO
      refine wpG_v ho4.out rfl ?_ ?_
      · simp only [valsL_zero, valsL_succ]; apply FY_in rfl; intro wx hx
        go_simp
        exact ⟨rfl, rfl⟩
      simp only [Act.put, List.setIfInBounds_toArray, List.set_cons_zero, List.set_cons_succ, valsL_zero, valsL_succ]
      obtain ⟨ho5, HO⟩ := HO
      refine wpG_v ho5.out rfl ?_ ?_
      · simp only [valsL_zero, valsL_succ]; exact FY_no (d := 14) rfl ho4.out (by rfl) (by kernel_rfl)
      simp only [Act.put, List.setIfInBounds_toArray, List.set_cons_zero, List.set_cons_succ, valsL_zero, valsL_succ]
      obtain ⟨ho6, HO⟩ := HO
      refine wpG_v ho6.out rfl ?_ ?_
      · simp only [valsL_zero, valsL_succ]; exact FY_no (d := 14) rfl ho4.out (by rfl) (by kernel_rfl)
      simp only [Act.put, List.setIfInBounds_toArray, List.set_cons_zero, List.set_cons_succ, valsL_zero, valsL_succ]
      obtain ⟨ho7, HO⟩ := HO
      refine wpG_v ho7.out rfl ?_ ?_
      · simp only [valsL_zero, valsL_succ]; exact FY_no (d := 14) rfl ho4.out (by rfl) (by kernel_rfl)
      simp only [Act.put, List.setIfInBounds_toArray, List.set_cons_zero, List.set_cons_succ, valsL_zero, valsL_succ]
      obtain ⟨ho8, HO⟩ := HO
      refine wpG_v ho8.out rfl ?_ ?_
      · simp only [valsL_zero, valsL_succ]; exact FY_no (d := 14) rfl ho4.out (by rfl) (by kernel_rfl)
      simp only [Act.put, List.setIfInBounds_toArray, List.set_cons_zero, List.set_cons_succ, valsL_zero, valsL_succ]
      obtain ⟨ho9, HO⟩ := HO
      refine wpG_v ho9.out rfl ?_ ?_
      · simp only [valsL_zero, valsL_succ]; apply FY_in rfl; intro wx hx
        go_simp
        exact ⟨rfl, rfl⟩
      simp only [Act.put, List.setIfInBounds_toArray, List.set_cons_zero, List.set_cons_succ, valsL_zero, valsL_succ]
      obtain ⟨ho10, HO⟩ := HO
      refine wpG_v ho10.out rfl ?_ ?_
      · simp only [valsL_zero, valsL_succ]; apply FY_in rfl; intro wx hx
        go_simp
        exact ⟨rfl, rfl⟩
      simp only [Act.put, List.setIfInBounds_toArray, List.set_cons_zero, List.set_cons_succ, valsL_zero, valsL_succ]
      refine HQ.out _ _ ?_
      intro wr hf hE hN
      simp only [List.drop_succ_cons, List.drop_zero]
      clear HQ HO hE hN ho0 ho1 ho2 ho3 ho4 ho5 ho6 ho7 ho8 ho9 ho10
      have S2 := hid (S1.out.step hf)
      clear hf
      go_wp2_with fail
      go_ret2
      exact ⟨by rw [HX.out, HT3.out]; rfl, S2.out.now.2⟩
    | true =>
      have hq : req ⟨o.r.k, o.r.e, o.r.w, o.r.n, o.r.q, o.r.t, ⟨o.r.p.s0, o.r.p.s1, o.r.p.s2, o.r.p.s3, o.r.p.s4, o.r.p.s5, o.r.p.s6, o.r.p.s7, o.r.p.s8, o.r.p.s9, o.r.p.s10, o.r.p.s11⟩⟩ ⟨0, 0, 0, 0, 0, ⟨#[]⟩, ⟨0, 0, 0, 0, 0, 0, 0, 0, 0, 0, 0, 0⟩⟩ = true := hx
      have HX : Hid (M = meq ⟨o.m.k, o.m.e, o.m.s, o.m.u, o.m.v, o.m.t⟩ ⟨0, 0, 0, 0, 0, 0⟩) := hid (by rw [HM2.out, hx]; rfl)
      clear hx
      apply wp_region_G 11 (fun _ => none) (valsL (_ :: (.agg #[.int .i64 o.r.k, .int .i64 o.r.e, .int .i64 o.r.w, .int .i64 o.r.n, .int .i64 o.r.q, .string o.r.t, .int .i64 o.r.p.s0, .int .i64 o.r.p.s1, .int .i64 o.r.p.s2, .int .i64 o.r.p.s3, .int .i64 o.r.p.s4, .int .i64 o.r.p.s5, .int .i64 o.r.p.s6, .int .i64 o.r.p.s7, .int .i64 o.r.p.s8, .int .i64 o.r.p.s9, .int .i64 o.r.p.s10, .int .i64 o.r.p.s11]) :: _ :: _ :: _ :: _ :: (.agg #[.int .i64 o.m.k, .int .i64 o.m.e, .int .i64 o.m.s, .int .i64 o.m.u, .int .i64 o.m.v, .int .i64 o.m.t]) :: _ :: _ :: _ :: _ :: [])) ?hm2 ?hB2 ?hal2 ?main2
      case hm2 => kernel_rfl
      case hB2 => kernel_rfl
      case hal2 =>
        intro i o obj ho hi
        cases hi
      rotate_left 9
      intro ops QT HO HQ
      obtain ⟨ho0, HO⟩ := HO
      refine wpG_v ho0.out rfl ?_ ?_
      · simp only [valsL_zero, valsL_succ]; apply FY_in rfl; intro wx hx
        go_simp
        exact ⟨rfl, rfl⟩
      simp only [Act.put, List.setIfInBounds_toArray, List.set_cons_zero, List.set_cons_succ, valsL_zero, valsL_succ]
      obtain ⟨ho1, HO⟩ := HO
      refine wpG_v ho1.out rfl ?_ ?_
      · simp only [valsL_zero, valsL_succ]; apply FY_in rfl; intro wx hx
        exact fu_load_at_g 27 (.tmp 10) rfl (b) 2 (by kernel_rfl) _ _ _ _ _ ((S1.out wx hx).1) (by rfl) (by simp) Tryz.underlying27 rfl (by kernel_rfl)
      simp only [Act.put, List.setIfInBounds_toArray, List.set_cons_zero, List.set_cons_succ, valsL_zero, valsL_succ]
      obtain ⟨ho2, HO⟩ := HO
      refine wpG_v ho2.out rfl ?_ ?_
      · simp only [valsL_zero, valsL_succ]; apply FY_in rfl; intro wx hx
        go_simp
        exact ⟨rfl, rfl⟩
      simp only [Act.put, List.setIfInBounds_toArray, List.set_cons_zero, List.set_cons_succ, valsL_zero, valsL_succ]
      obtain ⟨ho3, HO⟩ := HO
      refine wpG_v ho3.out rfl ?_ ?_
      · simp only [valsL_zero, valsL_succ]; apply FY_in rfl; intro wx hx
        go_simp
        exact ⟨rfl, rfl⟩
      simp only [Act.put, List.setIfInBounds_toArray, List.set_cons_zero, List.set_cons_succ, valsL_zero, valsL_succ]
      obtain ⟨ho4, HO⟩ := HO
      refine wpG_v ho4.out rfl ?_ ?_
      · simp only [valsL_zero, valsL_succ]; apply FY_in rfl; intro wx hx
        go_simp
        exact ⟨rfl, rfl⟩
      simp only [Act.put, List.setIfInBounds_toArray, List.set_cons_zero, List.set_cons_succ, valsL_zero, valsL_succ]
      obtain ⟨ho5, HO⟩ := HO
      refine wpG_v ho5.out rfl ?_ ?_
      · simp only [valsL_zero, valsL_succ]; apply FY_yes (d := 14) rfl ho4.out (by rfl) (by kernel_rfl); intro wx hx
        go_simp
        exact ⟨rfl, rfl⟩
      simp only [Act.put, List.setIfInBounds_toArray, List.set_cons_zero, List.set_cons_succ, valsL_zero, valsL_succ]
      obtain ⟨ho6, HO⟩ := HO
      refine wpG_v ho6.out rfl ?_ ?_
      · simp only [valsL_zero, valsL_succ]; apply FY_yes (d := 14) rfl ho4.out (by rfl) (by kernel_rfl); intro wx hx
        exact fu_load_at_g 29 (.tmp 15) rfl (b) 20 (by kernel_rfl) _ _ _ _ _ ((S1.out wx hx).1) (by rfl) (by simp) Tryz.underlying29 rfl (by kernel_rfl)
      simp only [Act.put, List.setIfInBounds_toArray, List.set_cons_zero, List.set_cons_succ, valsL_zero, valsL_succ]
      obtain ⟨ho7, HO⟩ := HO
      refine wpG_v ho7.out rfl ?_ ?_
      · simp only [valsL_zero, valsL_succ]; apply FY_yes (d := 14) rfl ho4.out (by rfl) (by kernel_rfl); intro wx hx
        go_simp
        exact ⟨rfl, rfl⟩
      simp only [Act.put, List.setIfInBounds_toArray, List.set_cons_zero, List.set_cons_succ, valsL_zero, valsL_succ]
      obtain ⟨ho8, HO⟩ := HO
      refine wpG_v ho8.out rfl ?_ ?_
      · simp only [valsL_zero, valsL_succ]; apply FY_yes (d := 14) rfl ho4.out (by rfl) (by kernel_rfl); intro wx hx
        go_simp
        exact ⟨rfl, rfl⟩
      simp only [Act.put, List.setIfInBounds_toArray, List.set_cons_zero, List.set_cons_succ, valsL_zero, valsL_succ]
      obtain ⟨ho9, HO⟩ := HO
      refine wpG_v ho9.out rfl ?_ ?_
      · simp only [valsL_zero, valsL_succ]; apply FY_in rfl; intro wx hx
        go_simp
        exact ⟨rfl, rfl⟩
      simp only [Act.put, List.setIfInBounds_toArray, List.set_cons_zero, List.set_cons_succ, valsL_zero, valsL_succ]
      obtain ⟨ho10, HO⟩ := HO
      refine wpG_v ho10.out rfl ?_ ?_
      · simp only [valsL_zero, valsL_succ]; apply FY_in rfl; intro wx hx
        go_simp
        exact ⟨rfl, rfl⟩
      simp only [Act.put, List.setIfInBounds_toArray, List.set_cons_zero, List.set_cons_succ, valsL_zero, valsL_succ]
      refine HQ.out _ _ ?_
      intro wr hf hE hN
      simp only [List.drop_succ_cons, List.drop_zero]
      clear HQ HO hE hN ho0 ho1 ho2 ho3 ho4 ho5 ho6 ho7 ho8 ho9 ho10
      have S2 := hid (S1.out.step hf)
      clear hf
      go_wp2_with fail
      go_ret2
      exact ⟨by rw [HX.out, HT3.out]; rfl, S2.out.now.2⟩
  · have hd : (o.d == 0) = false := by simp [h0]
    by_cases h1 : o.d = 1
    · have hd1 : (o.d == 1) = true := by simp [h1]
      have HM2 : Hid (M = (!(wordsS o.r).toList.isEmpty && (decide (o.e = 0) && meq o.m Mg.zero))) := hid (by rw [← HM.out]; unfold moreB; rw [if_neg h0, if_pos h1])
      have HT3 : Hid (T = ⟨#[32]⟩ ++ wordsS o.r) := hid (by rw [← HT2.out]; unfold moreS; rw [if_neg h0, if_pos h1])
      clear h0 h1
      go_wp2_with (refine wpList_load_at (by kernel_rfl) 27 (.tmp 22) (by with_reducible rfl) b 2 (by kernel_rfl) _ _ _ S1.out.now.1 #[.int .i64 o.r.k, .int .i64 o.r.e, .int .i64 o.r.w, .int .i64 o.r.n, .int .i64 o.r.q, .string o.r.t, .int .i64 o.r.p.s0, .int .i64 o.r.p.s1, .int .i64 o.r.p.s2, .int .i64 o.r.p.s3, .int .i64 o.r.p.s4, .int .i64 o.r.p.s5, .int .i64 o.r.p.s6, .int .i64 o.r.p.s7, .int .i64 o.r.p.s8, .int .i64 o.r.p.s9, .int .i64 o.r.p.s10, .int .i64 o.r.p.s11] (by rfl) (by simp) _ Tryz.underlying27 rfl (by kernel_rfl) ?_)
      rw [← HVR.out]
      refine (rwords_calls o.r _ (HT.out.frm S1.out.now.2) HR.out).mono ?_
      rintro _ w2 ⟨rfl, hf⟩
      have S2 := hid (S1.out.step hf)
      obtain ⟨y, HY⟩ : ∃ y, Hid (wordsS o.r = y) := ⟨_, rfl⟩
      have hl := cons_wrap (words_le HR.out)
      rw [HY.out] at hl ⊢
      have HL := hid hl
      clear hf c0 hd hd1 S1 hl
      go_upto_region 6 with fail
      cases hE : y.toList.isEmpty with
      | true =>
        have HX : Hid (M = false) := hid (by rw [HM2.out, HY.out, hE]; rfl)
        apply wp_region_G 16 (fun _ => none) (valsL (_ :: _ :: _ :: _ :: _ :: _ :: _ :: _ :: _ :: _ :: _ :: _ :: _ :: _ :: _ :: _ :: [])) ?hm3 ?hB3 ?hal3 ?main3
        case hm3 => kernel_rfl
        case hB3 => kernel_rfl
        case hal3 =>
          intro i o obj ho hi
          cases hi
        rotate_left 16
        intro ops QT HO HQ
        obtain ⟨ho0, HO⟩ := HO
        refine wpG_v ho0.out rfl ?_ ?_
        · simp only [valsL_zero, valsL_succ]; apply FY_in rfl; intro wx hx
          go_simp
          exact ⟨rfl, rfl⟩
        simp only [Act.put, List.setIfInBounds_toArray, List.set_cons_zero, List.set_cons_succ, valsL_zero, valsL_succ]
        obtain ⟨ho1, HO⟩ := HO
        refine wpG_v ho1.out rfl ?_ ?_
        · simp only [valsL_zero, valsL_succ]; apply FY_in rfl; intro wx hx
          have hl := HL.out
          go_simp
          exact ⟨rfl, rfl⟩
        simp only [Act.put, List.setIfInBounds_toArray, List.set_cons_zero, List.set_cons_succ, valsL_zero, valsL_succ]
        obtain ⟨ho2, HO⟩ := HO
        refine wpG_v ho2.out rfl ?_ ?_
        · simp only [valsL_zero, valsL_succ]; apply FY_in rfl; intro wx hx
          go_simp
          exact ⟨rfl, rfl⟩
        simp only [Act.put, List.setIfInBounds_toArray, List.set_cons_zero, List.set_cons_succ, valsL_zero, valsL_succ]
        obtain ⟨ho3, HO⟩ := HO
        refine wpG_v ho3.out rfl ?_ ?_
        · simp only [valsL_zero, valsL_succ]; apply FY_in rfl; intro wx hx
          go_simp
          exact ⟨rfl, rfl⟩
        simp only [Act.put, List.setIfInBounds_toArray, List.set_cons_zero, List.set_cons_succ, valsL_zero, valsL_succ]
        obtain ⟨ho4, HO⟩ := HO
        refine wpG_v ho4.out rfl ?_ ?_
        · simp only [valsL_zero, valsL_succ]; apply FY_in rfl; intro wx hx
          go_simp
          exact ⟨rfl, rfl⟩
        simp only [Act.put, List.setIfInBounds_toArray, List.set_cons_zero, List.set_cons_succ, valsL_zero, valsL_succ]
        obtain ⟨ho5, HO⟩ := HO
        refine wpG_v ho5.out rfl ?_ ?_
        · simp only [valsL_zero, valsL_succ]; exact FY_no (d := 29) rfl ho4.out (by rfl) (by kernel_rfl)
        simp only [Act.put, List.setIfInBounds_toArray, List.set_cons_zero, List.set_cons_succ, valsL_zero, valsL_succ]
        obtain ⟨ho6, HO⟩ := HO
        refine wpG_v ho6.out rfl ?_ ?_
        · simp only [valsL_zero, valsL_succ]; exact FY_no (d := 29) rfl ho4.out (by rfl) (by kernel_rfl)
        simp only [Act.put, List.setIfInBounds_toArray, List.set_cons_zero, List.set_cons_succ, valsL_zero, valsL_succ]
        obtain ⟨ho7, HO⟩ := HO
        refine wpG_v ho7.out rfl ?_ ?_
        · simp only [valsL_zero, valsL_succ]; exact FY_no (d := 29) rfl ho4.out (by rfl) (by kernel_rfl)
        simp only [Act.put, List.setIfInBounds_toArray, List.set_cons_zero, List.set_cons_succ, valsL_zero, valsL_succ]
        obtain ⟨ho8, HO⟩ := HO
        refine wpG_v ho8.out rfl ?_ ?_
        · simp only [valsL_zero, valsL_succ]; apply FY_in rfl; intro wx hx
          go_simp
          exact ⟨rfl, rfl⟩
        simp only [Act.put, List.setIfInBounds_toArray, List.set_cons_zero, List.set_cons_succ, valsL_zero, valsL_succ]
        obtain ⟨ho9, HO⟩ := HO
        refine wpG_v ho9.out rfl ?_ ?_
        · simp only [valsL_zero, valsL_succ]; apply FY_in rfl; intro wx hx
          go_simp
          exact ⟨rfl, rfl⟩
        simp only [Act.put, List.setIfInBounds_toArray, List.set_cons_zero, List.set_cons_succ, valsL_zero, valsL_succ]
        obtain ⟨ho10, HO⟩ := HO
        refine wpG_v ho10.out rfl ?_ ?_
        · simp only [valsL_zero, valsL_succ]; exact FY_no (d := 34) rfl ho9.out (by rfl) (by kernel_rfl)
        simp only [Act.put, List.setIfInBounds_toArray, List.set_cons_zero, List.set_cons_succ, valsL_zero, valsL_succ]
        obtain ⟨ho11, HO⟩ := HO
        refine wpG_v ho11.out rfl ?_ ?_
        · simp only [valsL_zero, valsL_succ]; exact FY_no (d := 34) rfl ho9.out (by rfl) (by kernel_rfl)
        simp only [Act.put, List.setIfInBounds_toArray, List.set_cons_zero, List.set_cons_succ, valsL_zero, valsL_succ]
        obtain ⟨ho12, HO⟩ := HO
        refine wpG_v ho12.out rfl ?_ ?_
        · simp only [valsL_zero, valsL_succ]; exact FY_no (d := 34) rfl ho9.out (by rfl) (by kernel_rfl)
        simp only [Act.put, List.setIfInBounds_toArray, List.set_cons_zero, List.set_cons_succ, valsL_zero, valsL_succ]
        obtain ⟨ho13, HO⟩ := HO
        refine wpG_v ho13.out rfl ?_ ?_
        · simp only [valsL_zero, valsL_succ]; exact FY_no (d := 34) rfl ho9.out (by rfl) (by kernel_rfl)
        simp only [Act.put, List.setIfInBounds_toArray, List.set_cons_zero, List.set_cons_succ, valsL_zero, valsL_succ]
        obtain ⟨ho14, HO⟩ := HO
        refine wpG_v ho14.out rfl ?_ ?_
        · simp only [valsL_zero, valsL_succ]; apply FY_in rfl; intro wx hx
          go_simp
          exact ⟨rfl, rfl⟩
        simp only [Act.put, List.setIfInBounds_toArray, List.set_cons_zero, List.set_cons_succ, valsL_zero, valsL_succ]
        obtain ⟨ho15, HO⟩ := HO
        refine wpG_v ho15.out rfl ?_ ?_
        · simp only [valsL_zero, valsL_succ]; apply FY_in rfl; intro wx hx
          go_simp
          exact ⟨rfl, rfl⟩
        simp only [Act.put, List.setIfInBounds_toArray, List.set_cons_zero, List.set_cons_succ, valsL_zero, valsL_succ]
        refine HQ.out _ _ ?_
        intro wr hf hE hN
        simp only [List.drop_succ_cons, List.drop_zero]
        clear HQ HO hE hN ho0 ho1 ho2 ho3 ho4 ho5 ho6 ho7 ho8 ho9 ho10 ho11 ho12 ho13 ho14 ho15
        have S3 := hid (S2.out.step hf)
        clear hf
        go_wp2_with fail
        go_ret2
        exact ⟨by rw [HX.out, HT3.out, HY.out]; rfl, S3.out.now.2⟩
      | false =>
        cases he : decide (o.e = 0) with
        | false =>
          have HX : Hid (M = false) := hid (by rw [HM2.out, he]; simp)
          have he2 : (o.e == 0) = false := by simpa using he
          clear he
          apply wp_region_G 16 (fun _ => none) (valsL (_ :: _ :: _ :: _ :: _ :: _ :: _ :: _ :: _ :: _ :: _ :: _ :: _ :: _ :: _ :: _ :: [])) ?hm4 ?hB4 ?hal4 ?main4
          case hm4 => kernel_rfl
          case hB4 => kernel_rfl
          case hal4 =>
            intro i o obj ho hi
            cases hi
          rotate_left 16
          intro ops QT HO HQ
          obtain ⟨ho0, HO⟩ := HO
          refine wpG_v ho0.out rfl ?_ ?_
          · simp only [valsL_zero, valsL_succ]; apply FY_in rfl; intro wx hx
            go_simp
            exact ⟨rfl, rfl⟩
          simp only [Act.put, List.setIfInBounds_toArray, List.set_cons_zero, List.set_cons_succ, valsL_zero, valsL_succ]
          obtain ⟨ho1, HO⟩ := HO
          refine wpG_v ho1.out rfl ?_ ?_
          · simp only [valsL_zero, valsL_succ]; apply FY_in rfl; intro wx hx
            have hl := HL.out
            go_simp
            exact ⟨rfl, rfl⟩
          simp only [Act.put, List.setIfInBounds_toArray, List.set_cons_zero, List.set_cons_succ, valsL_zero, valsL_succ]
          obtain ⟨ho2, HO⟩ := HO
          refine wpG_v ho2.out rfl ?_ ?_
          · simp only [valsL_zero, valsL_succ]; apply FY_in rfl; intro wx hx
            go_simp
            exact ⟨rfl, rfl⟩
          simp only [Act.put, List.setIfInBounds_toArray, List.set_cons_zero, List.set_cons_succ, valsL_zero, valsL_succ]
          obtain ⟨ho3, HO⟩ := HO
          refine wpG_v ho3.out rfl ?_ ?_
          · simp only [valsL_zero, valsL_succ]; apply FY_in rfl; intro wx hx
            go_simp
            exact ⟨rfl, rfl⟩
          simp only [Act.put, List.setIfInBounds_toArray, List.set_cons_zero, List.set_cons_succ, valsL_zero, valsL_succ]
          obtain ⟨ho4, HO⟩ := HO
          refine wpG_v ho4.out rfl ?_ ?_
          · simp only [valsL_zero, valsL_succ]; apply FY_in rfl; intro wx hx
            go_simp
            exact ⟨rfl, rfl⟩
          simp only [Act.put, List.setIfInBounds_toArray, List.set_cons_zero, List.set_cons_succ, valsL_zero, valsL_succ]
          obtain ⟨ho5, HO⟩ := HO
          refine wpG_v ho5.out rfl ?_ ?_
          · simp only [valsL_zero, valsL_succ]; apply FY_yes (d := 29) rfl ho4.out (by rfl) (by kernel_rfl); intro wx hx
            go_simp
            exact ⟨rfl, rfl⟩
          simp only [Act.put, List.setIfInBounds_toArray, List.set_cons_zero, List.set_cons_succ, valsL_zero, valsL_succ]
          obtain ⟨ho6, HO⟩ := HO
          refine wpG_v ho6.out rfl ?_ ?_
          · simp only [valsL_zero, valsL_succ]; apply FY_yes (d := 29) rfl ho4.out (by rfl) (by kernel_rfl); intro wx hx
            have hc0 := sb_cell ((S2.out wx hx).1)
            go_simp
            exact ⟨rfl, rfl⟩
          simp only [Act.put, List.setIfInBounds_toArray, List.set_cons_zero, List.set_cons_succ, valsL_zero, valsL_succ]
          obtain ⟨ho7, HO⟩ := HO
          refine wpG_v ho7.out rfl ?_ ?_
          · simp only [valsL_zero, valsL_succ]; apply FY_yes (d := 29) rfl ho4.out (by rfl) (by kernel_rfl); intro wx hx
            go_simp
            exact ⟨rfl, rfl⟩
          simp only [Act.put, List.setIfInBounds_toArray, List.set_cons_zero, List.set_cons_succ, valsL_zero, valsL_succ]
          obtain ⟨ho8, HO⟩ := HO
          refine wpG_v ho8.out rfl ?_ ?_
          · simp only [valsL_zero, valsL_succ]; apply FY_in rfl; intro wx hx
            go_simp
            exact ⟨rfl, rfl⟩
          simp only [Act.put, List.setIfInBounds_toArray, List.set_cons_zero, List.set_cons_succ, valsL_zero, valsL_succ]
          obtain ⟨ho9, HO⟩ := HO
          refine wpG_v ho9.out rfl ?_ ?_
          · simp only [valsL_zero, valsL_succ]; apply FY_in rfl; intro wx hx
            go_simp
            exact ⟨rfl, rfl⟩
          simp only [Act.put, List.setIfInBounds_toArray, List.set_cons_zero, List.set_cons_succ, valsL_zero, valsL_succ]
          obtain ⟨ho10, HO⟩ := HO
          refine wpG_v ho10.out rfl ?_ ?_
          · simp only [valsL_zero, valsL_succ]; exact FY_no (d := 34) rfl ho9.out (by rfl) (by kernel_rfl)
          simp only [Act.put, List.setIfInBounds_toArray, List.set_cons_zero, List.set_cons_succ, valsL_zero, valsL_succ]
          obtain ⟨ho11, HO⟩ := HO
          refine wpG_v ho11.out rfl ?_ ?_
          · simp only [valsL_zero, valsL_succ]; exact FY_no (d := 34) rfl ho9.out (by rfl) (by kernel_rfl)
          simp only [Act.put, List.setIfInBounds_toArray, List.set_cons_zero, List.set_cons_succ, valsL_zero, valsL_succ]
          obtain ⟨ho12, HO⟩ := HO
          refine wpG_v ho12.out rfl ?_ ?_
          · simp only [valsL_zero, valsL_succ]; exact FY_no (d := 34) rfl ho9.out (by rfl) (by kernel_rfl)
          simp only [Act.put, List.setIfInBounds_toArray, List.set_cons_zero, List.set_cons_succ, valsL_zero, valsL_succ]
          obtain ⟨ho13, HO⟩ := HO
          refine wpG_v ho13.out rfl ?_ ?_
          · simp only [valsL_zero, valsL_succ]; exact FY_no (d := 34) rfl ho9.out (by rfl) (by kernel_rfl)
          simp only [Act.put, List.setIfInBounds_toArray, List.set_cons_zero, List.set_cons_succ, valsL_zero, valsL_succ]
          obtain ⟨ho14, HO⟩ := HO
          refine wpG_v ho14.out rfl ?_ ?_
          · simp only [valsL_zero, valsL_succ]; apply FY_in rfl; intro wx hx
            go_simp
            exact ⟨rfl, rfl⟩
          simp only [Act.put, List.setIfInBounds_toArray, List.set_cons_zero, List.set_cons_succ, valsL_zero, valsL_succ]
          obtain ⟨ho15, HO⟩ := HO
          refine wpG_v ho15.out rfl ?_ ?_
          · simp only [valsL_zero, valsL_succ]; apply FY_in rfl; intro wx hx
            go_simp
            exact ⟨rfl, rfl⟩
          simp only [Act.put, List.setIfInBounds_toArray, List.set_cons_zero, List.set_cons_succ, valsL_zero, valsL_succ]
          refine HQ.out _ _ ?_
          intro wr hf hE hN
          simp only [List.drop_succ_cons, List.drop_zero]
          clear HQ HO hE hN ho0 ho1 ho2 ho3 ho4 ho5 ho6 ho7 ho8 ho9 ho10 ho11 ho12 ho13 ho14 ho15
          have S3 := hid (S2.out.step hf)
          clear hf
          go_wp2_with fail
          go_ret2
          exact ⟨by rw [HX.out, HT3.out, HY.out]; rfl, S3.out.now.2⟩
        | true =>
          have HX : Hid (M = meq ⟨o.m.k, o.m.e, o.m.s, o.m.u, o.m.v, o.m.t⟩ ⟨0, 0, 0, 0, 0, 0⟩) := hid (by rw [HM2.out, he, HY.out, hE]; rfl)
          have he2 : (o.e == 0) = true := by simpa using he
          clear he
          apply wp_region_G 16 (fun _ => none) (valsL (_ :: _ :: _ :: _ :: _ :: _ :: _ :: _ :: _ :: _ :: _ :: (.agg #[.int .i64 o.m.k, .int .i64 o.m.e, .int .i64 o.m.s, .int .i64 o.m.u, .int .i64 o.m.v, .int .i64 o.m.t]) :: _ :: _ :: _ :: _ :: [])) ?hm5 ?hB5 ?hal5 ?main5
          case hm5 => kernel_rfl
          case hB5 => kernel_rfl
          case hal5 =>
            intro i o obj ho hi
            cases hi
          rotate_left 15
          intro ops QT HO HQ
          obtain ⟨ho0, HO⟩ := HO
          refine wpG_v ho0.out rfl ?_ ?_
          · simp only [valsL_zero, valsL_succ]; apply FY_in rfl; intro wx hx
            go_simp
            exact ⟨rfl, rfl⟩
          simp only [Act.put, List.setIfInBounds_toArray, List.set_cons_zero, List.set_cons_succ, valsL_zero, valsL_succ]
          obtain ⟨ho1, HO⟩ := HO
          refine wpG_v ho1.out rfl ?_ ?_
          · simp only [valsL_zero, valsL_succ]; apply FY_in rfl; intro wx hx
            have hl := HL.out
            go_simp
            exact ⟨rfl, rfl⟩
          simp only [Act.put, List.setIfInBounds_toArray, List.set_cons_zero, List.set_cons_succ, valsL_zero, valsL_succ]
          obtain ⟨ho2, HO⟩ := HO
          refine wpG_v ho2.out rfl ?_ ?_
          · simp only [valsL_zero, valsL_succ]; apply FY_in rfl; intro wx hx
            go_simp
            exact ⟨rfl, rfl⟩
          simp only [Act.put, List.setIfInBounds_toArray, List.set_cons_zero, List.set_cons_succ, valsL_zero, valsL_succ]
          obtain ⟨ho3, HO⟩ := HO
          refine wpG_v ho3.out rfl ?_ ?_
          · simp only [valsL_zero, valsL_succ]; apply FY_in rfl; intro wx hx
            go_simp
            exact ⟨rfl, rfl⟩
          simp only [Act.put, List.setIfInBounds_toArray, List.set_cons_zero, List.set_cons_succ, valsL_zero, valsL_succ]
          obtain ⟨ho4, HO⟩ := HO
          refine wpG_v ho4.out rfl ?_ ?_
          · simp only [valsL_zero, valsL_succ]; apply FY_in rfl; intro wx hx
            go_simp
            exact ⟨rfl, rfl⟩
          simp only [Act.put, List.setIfInBounds_toArray, List.set_cons_zero, List.set_cons_succ, valsL_zero, valsL_succ]
          obtain ⟨ho5, HO⟩ := HO
          refine wpG_v ho5.out rfl ?_ ?_
          · simp only [valsL_zero, valsL_succ]; apply FY_yes (d := 29) rfl ho4.out (by rfl) (by kernel_rfl); intro wx hx
            go_simp
            exact ⟨rfl, rfl⟩
          simp only [Act.put, List.setIfInBounds_toArray, List.set_cons_zero, List.set_cons_succ, valsL_zero, valsL_succ]
          obtain ⟨ho6, HO⟩ := HO
          refine wpG_v ho6.out rfl ?_ ?_
          · simp only [valsL_zero, valsL_succ]; apply FY_yes (d := 29) rfl ho4.out (by rfl) (by kernel_rfl); intro wx hx
            have hc0 := sb_cell ((S2.out wx hx).1)
            go_simp
            exact ⟨rfl, rfl⟩
          simp only [Act.put, List.setIfInBounds_toArray, List.set_cons_zero, List.set_cons_succ, valsL_zero, valsL_succ]
          obtain ⟨ho7, HO⟩ := HO
          refine wpG_v ho7.out rfl ?_ ?_
          · simp only [valsL_zero, valsL_succ]; apply FY_yes (d := 29) rfl ho4.out (by rfl) (by kernel_rfl); intro wx hx
            go_simp
            exact ⟨rfl, rfl⟩
          simp only [Act.put, List.setIfInBounds_toArray, List.set_cons_zero, List.set_cons_succ, valsL_zero, valsL_succ]
          obtain ⟨ho8, HO⟩ := HO
          refine wpG_v ho8.out rfl ?_ ?_
          · simp only [valsL_zero, valsL_succ]; apply FY_in rfl; intro wx hx
            go_simp
            exact ⟨rfl, rfl⟩
          simp only [Act.put, List.setIfInBounds_toArray, List.set_cons_zero, List.set_cons_succ, valsL_zero, valsL_succ]
          obtain ⟨ho9, HO⟩ := HO
          refine wpG_v ho9.out rfl ?_ ?_
          · simp only [valsL_zero, valsL_succ]; apply FY_in rfl; intro wx hx
            go_simp
            exact ⟨rfl, rfl⟩
          simp only [Act.put, List.setIfInBounds_toArray, List.set_cons_zero, List.set_cons_succ, valsL_zero, valsL_succ]
          obtain ⟨ho10, HO⟩ := HO
          refine wpG_v ho10.out rfl ?_ ?_
          · simp only [valsL_zero, valsL_succ]; apply FY_yes (d := 34) rfl ho9.out (by rfl) (by kernel_rfl); intro wx hx
            go_simp
            exact ⟨rfl, rfl⟩
          simp only [Act.put, List.setIfInBounds_toArray, List.set_cons_zero, List.set_cons_succ, valsL_zero, valsL_succ]
          obtain ⟨ho11, HO⟩ := HO
          refine wpG_v ho11.out rfl ?_ ?_
          · simp only [valsL_zero, valsL_succ]; apply FY_yes (d := 34) rfl ho9.out (by rfl) (by kernel_rfl); intro wx hx
            exact fu_load_at_g 29 (.tmp 35) rfl (b) 20 (by kernel_rfl) _ _ _ _ _ ((S2.out wx hx).1) (by rfl) (by simp) Tryz.underlying29 rfl (by kernel_rfl)
          simp only [Act.put, List.setIfInBounds_toArray, List.set_cons_zero, List.set_cons_succ, valsL_zero, valsL_succ]
          obtain ⟨ho12, HO⟩ := HO
          refine wpG_v ho12.out rfl ?_ ?_
          · simp only [valsL_zero, valsL_succ]; apply FY_yes (d := 34) rfl ho9.out (by rfl) (by kernel_rfl); intro wx hx
            go_simp
            exact ⟨rfl, rfl⟩
          simp only [Act.put, List.setIfInBounds_toArray, List.set_cons_zero, List.set_cons_succ, valsL_zero, valsL_succ]
          obtain ⟨ho13, HO⟩ := HO
          refine wpG_v ho13.out rfl ?_ ?_
          · simp only [valsL_zero, valsL_succ]; apply FY_yes (d := 34) rfl ho9.out (by rfl) (by kernel_rfl); intro wx hx
            go_simp
            exact ⟨rfl, rfl⟩
          simp only [Act.put, List.setIfInBounds_toArray, List.set_cons_zero, List.set_cons_succ, valsL_zero, valsL_succ]
          obtain ⟨ho14, HO⟩ := HO
          refine wpG_v ho14.out rfl ?_ ?_
          · simp only [valsL_zero, valsL_succ]; apply FY_in rfl; intro wx hx
            go_simp
            exact ⟨rfl, rfl⟩
          simp only [Act.put, List.setIfInBounds_toArray, List.set_cons_zero, List.set_cons_succ, valsL_zero, valsL_succ]
          obtain ⟨ho15, HO⟩ := HO
          refine wpG_v ho15.out rfl ?_ ?_
          · simp only [valsL_zero, valsL_succ]; apply FY_in rfl; intro wx hx
            go_simp
            exact ⟨rfl, rfl⟩
          simp only [Act.put, List.setIfInBounds_toArray, List.set_cons_zero, List.set_cons_succ, valsL_zero, valsL_succ]
          refine HQ.out _ _ ?_
          intro wr hf hE hN
          simp only [List.drop_succ_cons, List.drop_zero]
          clear HQ HO hE hN ho0 ho1 ho2 ho3 ho4 ho5 ho6 ho7 ho8 ho9 ho10 ho11 ho12 ho13 ho14 ho15
          have S3 := hid (S2.out.step hf)
          clear hf
          go_wp2_with fail
          go_ret2
          exact ⟨by rw [HX.out, HT3.out, HY.out]; rfl, S3.out.now.2⟩
    · have hd1 : (o.d == 1) = false := by simp [h1]
      have HM2 : Hid (M = (!(msgS o.m).toList.isEmpty && req o.r Rc.zero)) := hid (by rw [← HM.out]; unfold moreB; rw [if_neg h0, if_neg h1])
      have HT3 : Hid (T = ⟨#[32]⟩ ++ msgS o.m) := hid (by rw [← HT2.out]; unfold moreS; rw [if_neg h0, if_neg h1])
      clear h0 h1
      go_wp2_with (refine wpList_load_at (by kernel_rfl) 29 (.tmp 40) (by with_reducible rfl) b 20 (by kernel_rfl) _ _ _ S1.out.now.1 #[.int .i64 o.m.k, .int .i64 o.m.e, .int .i64 o.m.s, .int .i64 o.m.u, .int .i64 o.m.v, .int .i64 o.m.t] (by rfl) (by simp) _ Tryz.underlying29 rfl (by kernel_rfl) ?_)
      rw [← HVM.out]
      refine (tmsg_calls o.m _ (HT.out.frm S1.out.now.2)).mono ?_
      rintro _ w2 ⟨rfl, hf⟩
      have S2 := hid (S1.out.step hf)
      obtain ⟨y, HY⟩ : ∃ y, Hid (msgS o.m = y) := ⟨_, rfl⟩
      have hl := cons_wrap (msgS_le o.m)
      rw [HY.out] at hl ⊢
      have HL := hid hl
      clear hf c0 hd hd1 S1 hl
      go_upto_region 8 with fail
      cases hE : y.toList.isEmpty with
      | true =>
        have HX : Hid (M = false) := hid (by rw [HM2.out, HY.out, hE]; rfl)
        apply wp_region_G 11 (fun _ => none) (valsL (_ :: _ :: _ :: _ :: _ :: _ :: _ :: _ :: _ :: _ :: _ :: [])) ?hm6 ?hB6 ?hal6 ?main6
        case hm6 => kernel_rfl
        case hB6 => kernel_rfl
        case hal6 =>
          intro i o obj ho hi
          cases hi
        rotate_left 11
        intro ops QT HO HQ
        obtain ⟨ho0, HO⟩ := HO
        refine wpG_v ho0.out rfl ?_ ?_
        · simp only [valsL_zero, valsL_succ]; apply FY_in rfl; intro wx hx
          go_simp
          exact ⟨rfl, rfl⟩
        simp only [Act.put, List.setIfInBounds_toArray, List.set_cons_zero, List.set_cons_succ, valsL_zero, valsL_succ]
        obtain ⟨ho1, HO⟩ := HO
        refine wpG_v ho1.out rfl ?_ ?_
        · simp only [valsL_zero, valsL_succ]; apply FY_in rfl; intro wx hx
          have hl := HL.out
          go_simp
          exact ⟨rfl, rfl⟩
        simp only [Act.put, List.setIfInBounds_toArray, List.set_cons_zero, List.set_cons_succ, valsL_zero, valsL_succ]
        obtain ⟨ho2, HO⟩ := HO
        refine wpG_v ho2.out rfl ?_ ?_
        · simp only [valsL_zero, valsL_succ]; apply FY_in rfl; intro wx hx
          go_simp
          exact ⟨rfl, rfl⟩
        simp only [Act.put, List.setIfInBounds_toArray, List.set_cons_zero, List.set_cons_succ, valsL_zero, valsL_succ]
        obtain ⟨ho3, HO⟩ := HO
        refine wpG_v ho3.out rfl ?_ ?_
        · simp only [valsL_zero, valsL_succ]; apply FY_in rfl; intro wx hx
          go_simp
          exact ⟨rfl, rfl⟩
        simp only [Act.put, List.setIfInBounds_toArray, List.set_cons_zero, List.set_cons_succ, valsL_zero, valsL_succ]
        obtain ⟨ho4, HO⟩ := HO
        refine wpG_v ho4.out rfl ?_ ?_
        · simp only [valsL_zero, valsL_succ]; apply FY_in rfl; intro wx hx
          go_simp
          exact ⟨rfl, rfl⟩
        simp only [Act.put, List.setIfInBounds_toArray, List.set_cons_zero, List.set_cons_succ, valsL_zero, valsL_succ]
        obtain ⟨ho5, HO⟩ := HO
        refine wpG_v ho5.out rfl ?_ ?_
        · simp only [valsL_zero, valsL_succ]; exact FY_no (d := 47) rfl ho4.out (by rfl) (by kernel_rfl)
        simp only [Act.put, List.setIfInBounds_toArray, List.set_cons_zero, List.set_cons_succ, valsL_zero, valsL_succ]
        obtain ⟨ho6, HO⟩ := HO
        refine wpG_v ho6.out rfl ?_ ?_
        · simp only [valsL_zero, valsL_succ]; exact FY_no (d := 47) rfl ho4.out (by rfl) (by kernel_rfl)
        simp only [Act.put, List.setIfInBounds_toArray, List.set_cons_zero, List.set_cons_succ, valsL_zero, valsL_succ]
        obtain ⟨ho7, HO⟩ := HO
        refine wpG_v ho7.out rfl ?_ ?_
        · simp only [valsL_zero, valsL_succ]; exact FY_no (d := 47) rfl ho4.out (by rfl) (by kernel_rfl)
        simp only [Act.put, List.setIfInBounds_toArray, List.set_cons_zero, List.set_cons_succ, valsL_zero, valsL_succ]
        obtain ⟨ho8, HO⟩ := HO
        refine wpG_v ho8.out rfl ?_ ?_
        · simp only [valsL_zero, valsL_succ]; exact FY_no (d := 47) rfl ho4.out (by rfl) (by kernel_rfl)
        simp only [Act.put, List.setIfInBounds_toArray, List.set_cons_zero, List.set_cons_succ, valsL_zero, valsL_succ]
        obtain ⟨ho9, HO⟩ := HO
        refine wpG_v ho9.out rfl ?_ ?_
        · simp only [valsL_zero, valsL_succ]; apply FY_in rfl; intro wx hx
          go_simp
          exact ⟨rfl, rfl⟩
        simp only [Act.put, List.setIfInBounds_toArray, List.set_cons_zero, List.set_cons_succ, valsL_zero, valsL_succ]
        obtain ⟨ho10, HO⟩ := HO
        refine wpG_v ho10.out rfl ?_ ?_
        · simp only [valsL_zero, valsL_succ]; apply FY_in rfl; intro wx hx
          go_simp
          exact ⟨rfl, rfl⟩
        simp only [Act.put, List.setIfInBounds_toArray, List.set_cons_zero, List.set_cons_succ, valsL_zero, valsL_succ]
        refine HQ.out _ _ ?_
        intro wr hf hE hN
        simp only [List.drop_succ_cons, List.drop_zero]
        clear HQ HO hE hN ho0 ho1 ho2 ho3 ho4 ho5 ho6 ho7 ho8 ho9 ho10
        have S3 := hid (S2.out.step hf)
        clear hf
        go_wp2_with fail
        go_ret2
        exact ⟨by rw [HX.out, HT3.out, HY.out]; rfl, S3.out.now.2⟩
      | false =>
        have HX : Hid (M = req ⟨o.r.k, o.r.e, o.r.w, o.r.n, o.r.q, o.r.t, ⟨o.r.p.s0, o.r.p.s1, o.r.p.s2, o.r.p.s3, o.r.p.s4, o.r.p.s5, o.r.p.s6, o.r.p.s7, o.r.p.s8, o.r.p.s9, o.r.p.s10, o.r.p.s11⟩⟩ ⟨0, 0, 0, 0, 0, ⟨#[]⟩, ⟨0, 0, 0, 0, 0, 0, 0, 0, 0, 0, 0, 0⟩⟩) := hid (by rw [HM2.out, HY.out, hE]; rfl)
        apply wp_region_G 11 (fun _ => none) (valsL (_ :: _ :: _ :: _ :: _ :: _ :: (.agg #[.int .i64 o.r.k, .int .i64 o.r.e, .int .i64 o.r.w, .int .i64 o.r.n, .int .i64 o.r.q, .string o.r.t, .int .i64 o.r.p.s0, .int .i64 o.r.p.s1, .int .i64 o.r.p.s2, .int .i64 o.r.p.s3, .int .i64 o.r.p.s4, .int .i64 o.r.p.s5, .int .i64 o.r.p.s6, .int .i64 o.r.p.s7, .int .i64 o.r.p.s8, .int .i64 o.r.p.s9, .int .i64 o.r.p.s10, .int .i64 o.r.p.s11]) :: _ :: _ :: _ :: _ :: [])) ?hm7 ?hB7 ?hal7 ?main7
        case hm7 => kernel_rfl
        case hB7 => kernel_rfl
        case hal7 =>
          intro i o obj ho hi
          cases hi
        rotate_left 10
        intro ops QT HO HQ
        obtain ⟨ho0, HO⟩ := HO
        refine wpG_v ho0.out rfl ?_ ?_
        · simp only [valsL_zero, valsL_succ]; apply FY_in rfl; intro wx hx
          go_simp
          exact ⟨rfl, rfl⟩
        simp only [Act.put, List.setIfInBounds_toArray, List.set_cons_zero, List.set_cons_succ, valsL_zero, valsL_succ]
        obtain ⟨ho1, HO⟩ := HO
        refine wpG_v ho1.out rfl ?_ ?_
        · simp only [valsL_zero, valsL_succ]; apply FY_in rfl; intro wx hx
          have hl := HL.out
          go_simp
          exact ⟨rfl, rfl⟩
        simp only [Act.put, List.setIfInBounds_toArray, List.set_cons_zero, List.set_cons_succ, valsL_zero, valsL_succ]
        obtain ⟨ho2, HO⟩ := HO
        refine wpG_v ho2.out rfl ?_ ?_
        · simp only [valsL_zero, valsL_succ]; apply FY_in rfl; intro wx hx
          go_simp
          exact ⟨rfl, rfl⟩
        simp only [Act.put, List.setIfInBounds_toArray, List.set_cons_zero, List.set_cons_succ, valsL_zero, valsL_succ]
        obtain ⟨ho3, HO⟩ := HO
        refine wpG_v ho3.out rfl ?_ ?_
        · simp only [valsL_zero, valsL_succ]; apply FY_in rfl; intro wx hx
          go_simp
          exact ⟨rfl, rfl⟩
        simp only [Act.put, List.setIfInBounds_toArray, List.set_cons_zero, List.set_cons_succ, valsL_zero, valsL_succ]
        obtain ⟨ho4, HO⟩ := HO
        refine wpG_v ho4.out rfl ?_ ?_
        · simp only [valsL_zero, valsL_succ]; apply FY_in rfl; intro wx hx
          go_simp
          exact ⟨rfl, rfl⟩
        simp only [Act.put, List.setIfInBounds_toArray, List.set_cons_zero, List.set_cons_succ, valsL_zero, valsL_succ]
        obtain ⟨ho5, HO⟩ := HO
        refine wpG_v ho5.out rfl ?_ ?_
        · simp only [valsL_zero, valsL_succ]; apply FY_yes (d := 47) rfl ho4.out (by rfl) (by kernel_rfl); intro wx hx
          go_simp
          exact ⟨rfl, rfl⟩
        simp only [Act.put, List.setIfInBounds_toArray, List.set_cons_zero, List.set_cons_succ, valsL_zero, valsL_succ]
        obtain ⟨ho6, HO⟩ := HO
        refine wpG_v ho6.out rfl ?_ ?_
        · simp only [valsL_zero, valsL_succ]; apply FY_yes (d := 47) rfl ho4.out (by rfl) (by kernel_rfl); intro wx hx
          exact fu_load_at_g 27 (.tmp 48) rfl (b) 2 (by kernel_rfl) _ _ _ _ _ ((S2.out wx hx).1) (by rfl) (by simp) Tryz.underlying27 rfl (by kernel_rfl)
        simp only [Act.put, List.setIfInBounds_toArray, List.set_cons_zero, List.set_cons_succ, valsL_zero, valsL_succ]
        obtain ⟨ho7, HO⟩ := HO
        refine wpG_v ho7.out rfl ?_ ?_
        · simp only [valsL_zero, valsL_succ]; apply FY_yes (d := 47) rfl ho4.out (by rfl) (by kernel_rfl); intro wx hx
          go_simp
          exact ⟨rfl, rfl⟩
        simp only [Act.put, List.setIfInBounds_toArray, List.set_cons_zero, List.set_cons_succ, valsL_zero, valsL_succ]
        obtain ⟨ho8, HO⟩ := HO
        refine wpG_v ho8.out rfl ?_ ?_
        · simp only [valsL_zero, valsL_succ]; apply FY_yes (d := 47) rfl ho4.out (by rfl) (by kernel_rfl); intro wx hx
          go_simp
          exact ⟨rfl, rfl⟩
        simp only [Act.put, List.setIfInBounds_toArray, List.set_cons_zero, List.set_cons_succ, valsL_zero, valsL_succ]
        obtain ⟨ho9, HO⟩ := HO
        refine wpG_v ho9.out rfl ?_ ?_
        · simp only [valsL_zero, valsL_succ]; apply FY_in rfl; intro wx hx
          go_simp
          exact ⟨rfl, rfl⟩
        simp only [Act.put, List.setIfInBounds_toArray, List.set_cons_zero, List.set_cons_succ, valsL_zero, valsL_succ]
        obtain ⟨ho10, HO⟩ := HO
        refine wpG_v ho10.out rfl ?_ ?_
        · simp only [valsL_zero, valsL_succ]; apply FY_in rfl; intro wx hx
          go_simp
          exact ⟨rfl, rfl⟩
        simp only [Act.put, List.setIfInBounds_toArray, List.set_cons_zero, List.set_cons_succ, valsL_zero, valsL_succ]
        refine HQ.out _ _ ?_
        intro wr hf hE hN
        simp only [List.drop_succ_cons, List.drop_zero]
        clear HQ HO hE hN ho0 ho1 ho2 ho3 ho4 ho5 ho6 ho7 ho8 ho9 ho10
        have S3 := hid (S2.out.step hf)
        clear hf
        go_wp2_with fail
        go_ret2
        exact ⟨by rw [HX.out, HT3.out, HY.out]; rfl, S3.out.now.2⟩
end Go.Proofs.YtonlmkcolndaaaaGreatDoor
namespace Go.Proofs.YtonlmkcolndaaaaGreatDoor
set_option linter.unusedVariables false
set_option linter.unusedSimpArgs false
set_option maxRecDepth 20000
open Go.RowKit

theorem inB_did (d : Int) : inB didL d = decide (0 ≤ d ∧ d ≤ 3) := by
  by_cases h : 0 ≤ d ∧ d ≤ 3
  · have hk : d = 0 ∨ d = 1 ∨ d = 2 ∨ d = 3 := by omega
    rcases hk with rfl | rfl | rfl | rfl <;> decide +kernel
  · unfold inB
    rw [show didL.length = 4 from rfl, decide_eq_false h]
    by_cases h0 : 0 ≤ d
    · rw [decide_eq_false (show ¬ d < ((4 : Nat) : Int) by omega)]; simp
    · rw [decide_eq_false h0]; rfl
theorem err_ne_fin : ∀ k : Fin 14, (wordE k.val).toList.isEmpty = false ∧ (wordE k.val).size ≤ 10 := by decide +kernel
theorem did_sz_fin : ∀ k : Fin 4, (didW k.val).size ≤ 10 := by decide +kernel
theorem errw_emp (e : Int) : (wordE e).toList.isEmpty = !decide (0 ≤ e ∧ e ≤ 13) := by
  by_cases h : 0 ≤ e ∧ e ≤ 13
  · obtain ⟨k, rfl⟩ : ∃ k : Nat, e = k := ⟨e.toNat, by omega⟩
    rw [(err_ne_fin ⟨k, by omega⟩).1, decide_eq_true h]; rfl
  · rw [decide_eq_false h]
    have : wordE e = ⟨#[]⟩ := by unfold wordE; rw [if_neg (by omega)]
    rw [this]; exact empty_isE
theorem bya (a b : ByteArray) (h : a.data.toList = b.data.toList) : a = b := by rw [← str_data a, ← str_data b, h]
theorem bya_app (a b : ByteArray) : (a ++ b).data.toList = a.data.toList ++ b.data.toList := by simp [ByteArray.data_append]
theorem joinS_two (a b : ByteArray) : joinS [a, b] = a ++ ⟨#[32]⟩ ++ b := by
  apply bya
  rw [bya_app, bya_app, joinS_data, List.map_cons, List.map_cons, List.map_nil, join_two, Lib.join_one]
  simp
theorem joinS_three (a b c : ByteArray) : joinS [a, b, c] = a ++ ⟨#[32]⟩ ++ b ++ (⟨#[32]⟩ ++ c) := by
  apply bya
  rw [bya_app, bya_app, bya_app, bya_app, joinS_data, List.map_cons, List.map_cons, List.map_cons, List.map_nil, join_two, join_two, Lib.join_one]
  simp
/-- A line that is one, in pieces. -/
theorem line_app {o : Ot} (h : lineB o = true) : lineS o = didW o.d ++ ⟨#[32]⟩ ++ wordE o.e ++ moreS o := by
  unfold lineS moreS restO
  rw [if_pos h]
  by_cases h0 : o.d = 0
  · rw [if_pos h0, if_pos h0, joinS_two]
    apply bya
    rw [bya_app _ ⟨#[]⟩]; simp
  · rw [if_neg h0, if_neg h0]
    by_cases h1 : o.d = 1
    · rw [if_pos h1, if_pos h1, joinS_three]
    · rw [if_neg h1, if_neg h1, joinS_three]
theorem moreS_le {o : Ot} (h : o.r.fine) : (moreS o).size ≤ 10000001 := by
  have h1 := words_le h
  have h2 := msgS_le o.m
  have e : ∀ x : ByteArray, (⟨#[32]⟩ ++ x : ByteArray).size = 1 + x.size := fun x => by rw [ByteArray.size_append]; rfl
  unfold moreS
  split
  · decide
  · split
    · rw [e]; omega
    · rw [e]; omega

set_option maxRecDepth 20000 in
set_option maxHeartbeats 4000000 in
theorem tline_calls (o : Ot) (w : World) (ht : Tab w) (hr : o.r.fine) : Calls Tryz.prog 10 #[o.val] w fun x w' => x = .returned (.string (lineS o)) ∧ Frm M0 w w' := by
  have HV : Hid (o.val = .agg #[.int .i64 o.d, .int .i64 o.e, .int .i64 o.r.k, .int .i64 o.r.e, .int .i64 o.r.w, .int .i64 o.r.n, .int .i64 o.r.q, .string o.r.t, .int .i64 o.r.p.s0, .int .i64 o.r.p.s1, .int .i64 o.r.p.s2, .int .i64 o.r.p.s3, .int .i64 o.r.p.s4, .int .i64 o.r.p.s5, .int .i64 o.r.p.s6, .int .i64 o.r.p.s7, .int .i64 o.r.p.s8, .int .i64 o.r.p.s9, .int .i64 o.r.p.s10, .int .i64 o.r.p.s11, .int .i64 o.m.k, .int .i64 o.m.e, .int .i64 o.m.s, .int .i64 o.m.u, .int .i64 o.m.v, .int .i64 o.m.t]) := rfl
  obtain ⟨R, HRR⟩ : ∃ R, Hid (lineS o = R) := ⟨_, rfl⟩
  obtain ⟨i, HI⟩ : ∃ i, Hid (inB didL o.d = i) := ⟨_, rfl⟩
  obtain ⟨M, HM⟩ : ∃ M, Hid (moreB o = M) := ⟨_, rfl⟩
  obtain ⟨T, HT2⟩ : ∃ T, Hid (moreS o = T) := ⟨_, rfl⟩
  obtain ⟨Y, HY⟩ : ∃ Y, Hid (wordE o.e = Y) := ⟨_, rfl⟩
  rw [HV.out, HRR.out]
  have HT := hid ht
  have HR := hid hr
  clear ht hr
  go_enter Tryz.func10, Tryz.ntmps10
  go_upto_region 1 with fail
  obtain ⟨b, hb⟩ : ∃ b, b = w.heap.size := ⟨_, rfl⟩
  obtain ⟨w1, hw1⟩ : ∃ x, x = w.alloc (.cells #[.int .i64 o.d, .int .i64 o.e, .int .i64 o.r.k, .int .i64 o.r.e, .int .i64 o.r.w, .int .i64 o.r.n, .int .i64 o.r.q, .string o.r.t, .int .i64 o.r.p.s0, .int .i64 o.r.p.s1, .int .i64 o.r.p.s2, .int .i64 o.r.p.s3, .int .i64 o.r.p.s4, .int .i64 o.r.p.s5, .int .i64 o.r.p.s6, .int .i64 o.r.p.s7, .int .i64 o.r.p.s8, .int .i64 o.r.p.s9, .int .i64 o.r.p.s10, .int .i64 o.r.p.s11, .int .i64 o.m.k, .int .i64 o.m.e, .int .i64 o.m.s, .int .i64 o.m.u, .int .i64 o.m.v, .int .i64 o.m.t] 35) := ⟨_, rfl⟩
  have hh := new1 w (.cells #[.int .i64 o.d, .int .i64 o.e, .int .i64 o.r.k, .int .i64 o.r.e, .int .i64 o.r.w, .int .i64 o.r.n, .int .i64 o.r.q, .string o.r.t, .int .i64 o.r.p.s0, .int .i64 o.r.p.s1, .int .i64 o.r.p.s2, .int .i64 o.r.p.s3, .int .i64 o.r.p.s4, .int .i64 o.r.p.s5, .int .i64 o.r.p.s6, .int .i64 o.r.p.s7, .int .i64 o.r.p.s8, .int .i64 o.r.p.s9, .int .i64 o.r.p.s10, .int .i64 o.r.p.s11, .int .i64 o.m.k, .int .i64 o.m.e, .int .i64 o.m.s, .int .i64 o.m.u, .int .i64 o.m.v, .int .i64 o.m.t] 35)
  have hf0 := (Frm.refl M0 w).alloc (.cells #[.int .i64 o.d, .int .i64 o.e, .int .i64 o.r.k, .int .i64 o.r.e, .int .i64 o.r.w, .int .i64 o.r.n, .int .i64 o.r.q, .string o.r.t, .int .i64 o.r.p.s0, .int .i64 o.r.p.s1, .int .i64 o.r.p.s2, .int .i64 o.r.p.s3, .int .i64 o.r.p.s4, .int .i64 o.r.p.s5, .int .i64 o.r.p.s6, .int .i64 o.r.p.s7, .int .i64 o.r.p.s8, .int .i64 o.r.p.s9, .int .i64 o.r.p.s10, .int .i64 o.r.p.s11, .int .i64 o.m.k, .int .i64 o.m.e, .int .i64 o.m.s, .int .i64 o.m.u, .int .i64 o.m.v, .int .i64 o.m.t] 35)
  rw [← hw1] at hh hf0 ⊢
  rw [← hb] at hh ⊢
  have S1 : Hid (Sb M0 w1 fun x => x.heap[b]? = some (.cells #[.int .i64 o.d, .int .i64 o.e, .int .i64 o.r.k, .int .i64 o.r.e, .int .i64 o.r.w, .int .i64 o.r.n, .int .i64 o.r.q, .string o.r.t, .int .i64 o.r.p.s0, .int .i64 o.r.p.s1, .int .i64 o.r.p.s2, .int .i64 o.r.p.s3, .int .i64 o.r.p.s4, .int .i64 o.r.p.s5, .int .i64 o.r.p.s6, .int .i64 o.r.p.s7, .int .i64 o.r.p.s8, .int .i64 o.r.p.s9, .int .i64 o.r.p.s10, .int .i64 o.r.p.s11, .int .i64 o.m.k, .int .i64 o.m.e, .int .i64 o.m.s, .int .i64 o.m.u, .int .i64 o.m.v, .int .i64 o.m.t] 35 (0, 0)) ∧ Frm M0 w x) := hid ((Sb.heap hh (fun h => h)).and (Sb.frm hf0))
  clear hw1 hb hh hf0
  have c1 : w1.cell? ⟨b, 1, none⟩ = some (.int .i64 o.e) := cell_at S1.out.now.1 1
  go_wp2_with fail
  refine (tword_calls o.e _).mono ?_
  rintro _ w2 ⟨rfl, hf⟩
  rw [HY.out]
  have S2 := hid (S1.out.step hf)
  clear hf c1 S1
  go_wp2_with (refine wpList_load_row_w (by kernel_rfl) 35 (.tmp 1) (by with_reducible rfl) b (by kernel_rfl) _ _ _ _ S2.out.now.1 Tryz.underlying35 rfl (by kernel_rfl) ?_)
  rw [← HV.out]
  refine (more_calls o _ (HT.out.frm S2.out.now.2) HR.out).mono ?_
  rintro _ w3 ⟨rfl, hf⟩
  rw [HM.out, HT2.out]
  have S3 := hid (S2.out.step hf)
  clear hf S2
  have HSF : Hid (∀ wx, Frm M0 w3 wx → wx.cell? ⟨b, 0, none⟩ = some (.int .i64 o.d)) := hid (fun wx hx => cell_at (S3.out wx hx).1 0)
  have HL : Hid (lineB o = (i && (!Y.toList.isEmpty && M))) := hid (by
    unfold lineB
    rw [HM.out, ← HY.out, errw_emp, ← HI.out, inB_did, Bool.not_not])
  go_upto_region 3 with fail
  cases i
  · have HZ : Hid (R = ⟨#[]⟩) := hid (by rw [← HRR.out]; unfold lineS; rw [HL.out]; rfl)
    have HFq := hid ((Frm.refl M0 w3).drew)
    refine wp_region_held_drew (S := fun wx => wx.cell? ⟨b, 0, none⟩ = some (.int .i64 o.d)) (by kernel_rfl) (HSF.out _ HFq.out) (fun hHeld => ?_)
    simp only [List.size_toArray, List.length_cons, List.length_nil]
    refine wpAnyH_take (i := 1) (v := .pointer (some ⟨b, 0, none⟩)) rfl (by kernel_rfl) (by kernel_rfl) (by kernel_rfl) (fun _ _ _ h => h) (Or.inl ⟨by kernel_rfl, ?_⟩) hHeld ?_
    · (intro w hSw; (try dsimp only at hSw); go_simp)
    simp only [List.getElem_toArray, List.getElem_cons_succ, List.getElem_cons_zero, Act.put, List.setIfInBounds_toArray, List.set_cons_zero, List.set_cons_succ]
    refine wpAnyH_take (i := 2) (v := .int .i64 o.d) rfl (by kernel_rfl) (by kernel_rfl) (by kernel_rfl) (fun _ _ _ h => h) (Or.inl ⟨by kernel_rfl, ?_⟩) hHeld ?_
    · (intro w hSw; (try dsimp only at hSw); go_simp)
    simp only [List.getElem_toArray, List.getElem_cons_succ, List.getElem_cons_zero, Act.put, List.setIfInBounds_toArray, List.set_cons_zero, List.set_cons_succ]
    refine wpAnyH_ready (rs := [0]) (by kernel_rfl) (by simp) ?_
    refine AllReadyH.cons rfl (fun K hK => ?_) AllReadyH.nil
    go_simp
    refine (did_calls _).mono ?_
    rintro _ wk ⟨bk, _hbk, rfl, hr, hf⟩
    have hx := Frm.then0 HFq.out hf
    clear HFq
    have HFq := hid hx
    have HRd := hid hr
    clear hx hf hr
    clear hHeld
    refine hK.out _ _ (HSF.out _ HFq.out) (fun hHeld => ?_)
    clear hK K
    try simp only [List.getElem_toArray, List.getElem_cons_succ, List.getElem_cons_zero, Act.put, List.setIfInBounds_toArray, List.set_cons_zero, List.set_cons_succ]
    refine wpAnyH_ready (rs := [3]) (by kernel_rfl) (by simp) ?_
    refine AllReadyH.cons rfl (fun K hK => ?_) AllReadyH.nil
    go_simp
    refine (in_calls _ didL o.d _ HRd.out).mono ?_
    rintro _ w5 ⟨rfl, hf⟩
    have hx := Frm.then0 HFq.out hf
    clear HFq
    have HFq := hid hx
    clear hx hf
    rw [HI.out]
    clear hHeld
    refine hK.out _ _ (HSF.out _ HFq.out) (fun hHeld => ?_)
    clear hK K
    try simp only [List.getElem_toArray, List.getElem_cons_succ, List.getElem_cons_zero, Act.put, List.setIfInBounds_toArray, List.set_cons_zero, List.set_cons_succ]
    refine wpAnyH_take (i := 4) (v := .bool true) rfl (by kernel_rfl) (by kernel_rfl) (by kernel_rfl) (fun _ _ _ h => h) (Or.inl ⟨by kernel_rfl, ?_⟩) hHeld ?_
    · (intro w hSw; (try dsimp only at hSw); go_simp)
    simp only [List.getElem_toArray, List.getElem_cons_succ, List.getElem_cons_zero, Act.put, List.setIfInBounds_toArray, List.set_cons_zero, List.set_cons_succ]
    refine wpAnyH_take (i := 5) (v := .bool true) rfl (by kernel_rfl) (by kernel_rfl) (by kernel_rfl) (fun _ _ _ h => h) (Or.inl ⟨by kernel_rfl, ?_⟩) hHeld ?_
    · (intro w hSw; (try dsimp only at hSw); go_simp)
    simp only [List.getElem_toArray, List.getElem_cons_succ, List.getElem_cons_zero, Act.put, List.setIfInBounds_toArray, List.set_cons_zero, List.set_cons_succ]
    refine wpAnyH_take (i := 6) (v := undef) rfl (by kernel_rfl) (by kernel_rfl) (by kernel_rfl) (fun _ _ _ h => h) (Or.inr ⟨by kernel_rfl, rfl⟩) hHeld ?_
    try simp only [List.getElem_toArray, List.getElem_cons_succ, List.getElem_cons_zero, Act.put, List.setIfInBounds_toArray, List.set_cons_zero, List.set_cons_succ]
    refine wpAnyH_take (i := 7) (v := undef) rfl (by kernel_rfl) (by kernel_rfl) (by kernel_rfl) (fun _ _ _ h => h) (Or.inr ⟨by kernel_rfl, rfl⟩) hHeld ?_
    try simp only [List.getElem_toArray, List.getElem_cons_succ, List.getElem_cons_zero, Act.put, List.setIfInBounds_toArray, List.set_cons_zero, List.set_cons_succ]
    refine wpAnyH_take (i := 8) (v := .bool true) rfl (by kernel_rfl) (by kernel_rfl) (by kernel_rfl) (fun _ _ _ h => h) (Or.inl ⟨by kernel_rfl, ?_⟩) hHeld ?_
    · (intro w hSw; (try dsimp only at hSw); go_simp)
    simp only [List.getElem_toArray, List.getElem_cons_succ, List.getElem_cons_zero, Act.put, List.setIfInBounds_toArray, List.set_cons_zero, List.set_cons_succ]
    refine wpAnyH_take (i := 9) (v := .bool true) rfl (by kernel_rfl) (by kernel_rfl) (by kernel_rfl) (fun _ _ _ h => h) (Or.inl ⟨by kernel_rfl, ?_⟩) hHeld ?_
    · (intro w hSw; (try dsimp only at hSw); go_simp)
    simp only [List.getElem_toArray, List.getElem_cons_succ, List.getElem_cons_zero, Act.put, List.setIfInBounds_toArray, List.set_cons_zero, List.set_cons_succ]
    refine wpAnyH_take (i := 10) (v := undef) rfl (by kernel_rfl) (by kernel_rfl) (by kernel_rfl) (fun _ _ _ h => h) (Or.inr ⟨by kernel_rfl, rfl⟩) hHeld ?_
    try simp only [List.getElem_toArray, List.getElem_cons_succ, List.getElem_cons_zero, Act.put, List.setIfInBounds_toArray, List.set_cons_zero, List.set_cons_succ]
    refine wpAnyH_take (i := 11) (v := undef) rfl (by kernel_rfl) (by kernel_rfl) (by kernel_rfl) (fun _ _ _ h => h) (Or.inr ⟨by kernel_rfl, rfl⟩) hHeld ?_
    try simp only [List.getElem_toArray, List.getElem_cons_succ, List.getElem_cons_zero, Act.put, List.setIfInBounds_toArray, List.set_cons_zero, List.set_cons_succ]
    refine wpAnyH_take (i := 12) (v := .bool true) rfl (by kernel_rfl) (by kernel_rfl) (by kernel_rfl) (fun _ _ _ h => h) (Or.inl ⟨by kernel_rfl, ?_⟩) hHeld ?_
    · (intro w hSw; (try dsimp only at hSw); go_simp)
    simp only [List.getElem_toArray, List.getElem_cons_succ, List.getElem_cons_zero, Act.put, List.setIfInBounds_toArray, List.set_cons_zero, List.set_cons_succ]
    refine wpAnyH_done (by kernel_rfl) ?_ _
    go_wp2_with fail
    go_ret
    exact ⟨by rw [HZ.out]; rfl, S3.out.now.2.then0 HFq.out⟩
  cases hE : Y.toList.isEmpty
  case true =>
    have HZ : Hid (R = ⟨#[]⟩) := hid (by rw [← HRR.out]; unfold lineS; rw [HL.out, hE]; rfl)
    have HFq := hid ((Frm.refl M0 w3).drew)
    refine wp_region_held_drew (S := fun wx => wx.cell? ⟨b, 0, none⟩ = some (.int .i64 o.d)) (by kernel_rfl) (HSF.out _ HFq.out) (fun hHeld => ?_)
    simp only [List.size_toArray, List.length_cons, List.length_nil]
    refine wpAnyH_take (i := 1) (v := .pointer (some ⟨b, 0, none⟩)) rfl (by kernel_rfl) (by kernel_rfl) (by kernel_rfl) (fun _ _ _ h => h) (Or.inl ⟨by kernel_rfl, ?_⟩) hHeld ?_
    · (intro w hSw; (try dsimp only at hSw); go_simp)
    simp only [List.getElem_toArray, List.getElem_cons_succ, List.getElem_cons_zero, Act.put, List.setIfInBounds_toArray, List.set_cons_zero, List.set_cons_succ]
    refine wpAnyH_take (i := 2) (v := .int .i64 o.d) rfl (by kernel_rfl) (by kernel_rfl) (by kernel_rfl) (fun _ _ _ h => h) (Or.inl ⟨by kernel_rfl, ?_⟩) hHeld ?_
    · (intro w hSw; (try dsimp only at hSw); go_simp)
    simp only [List.getElem_toArray, List.getElem_cons_succ, List.getElem_cons_zero, Act.put, List.setIfInBounds_toArray, List.set_cons_zero, List.set_cons_succ]
    refine wpAnyH_ready (rs := [0]) (by kernel_rfl) (by simp) ?_
    refine AllReadyH.cons rfl (fun K hK => ?_) AllReadyH.nil
    go_simp
    refine (did_calls _).mono ?_
    rintro _ wk ⟨bk, _hbk, rfl, hr, hf⟩
    have hx := Frm.then0 HFq.out hf
    clear HFq
    have HFq := hid hx
    have HRd := hid hr
    clear hx hf hr
    clear hHeld
    refine hK.out _ _ (HSF.out _ HFq.out) (fun hHeld => ?_)
    clear hK K
    try simp only [List.getElem_toArray, List.getElem_cons_succ, List.getElem_cons_zero, Act.put, List.setIfInBounds_toArray, List.set_cons_zero, List.set_cons_succ]
    refine wpAnyH_ready (rs := [3]) (by kernel_rfl) (by simp) ?_
    refine AllReadyH.cons rfl (fun K hK => ?_) AllReadyH.nil
    go_simp
    refine (in_calls _ didL o.d _ HRd.out).mono ?_
    rintro _ w5 ⟨rfl, hf⟩
    have hx := Frm.then0 HFq.out hf
    clear HFq
    have HFq := hid hx
    clear hx hf
    rw [HI.out]
    clear hHeld
    refine hK.out _ _ (HSF.out _ HFq.out) (fun hHeld => ?_)
    clear hK K
    try simp only [List.getElem_toArray, List.getElem_cons_succ, List.getElem_cons_zero, Act.put, List.setIfInBounds_toArray, List.set_cons_zero, List.set_cons_succ]
    refine wpAnyH_take (i := 4) (v := .bool false) rfl (by kernel_rfl) (by kernel_rfl) (by kernel_rfl) (fun _ _ _ h => h) (Or.inl ⟨by kernel_rfl, ?_⟩) hHeld ?_
    · (intro w hSw; (try dsimp only at hSw); go_simp)
    simp only [List.getElem_toArray, List.getElem_cons_succ, List.getElem_cons_zero, Act.put, List.setIfInBounds_toArray, List.set_cons_zero, List.set_cons_succ]
    refine wpAnyH_take (i := 5) (v := .bool false) rfl (by kernel_rfl) (by kernel_rfl) (by kernel_rfl) (fun _ _ _ h => h) (Or.inl ⟨by kernel_rfl, ?_⟩) hHeld ?_
    · (intro w hSw; (try dsimp only at hSw); go_simp)
    simp only [List.getElem_toArray, List.getElem_cons_succ, List.getElem_cons_zero, Act.put, List.setIfInBounds_toArray, List.set_cons_zero, List.set_cons_succ]
    refine wpAnyH_take (i := 6) (v := .string Y) rfl (by kernel_rfl) (by kernel_rfl) (by kernel_rfl) (fun _ _ _ h => h) (Or.inl ⟨by kernel_rfl, ?_⟩) hHeld ?_
    · (intro w hSw; (try dsimp only at hSw); go_simp)
    simp only [List.getElem_toArray, List.getElem_cons_succ, List.getElem_cons_zero, Act.put, List.setIfInBounds_toArray, List.set_cons_zero, List.set_cons_succ]
    refine wpAnyH_take (i := 7) (v := .bool true) rfl (by kernel_rfl) (by kernel_rfl) (by kernel_rfl) (fun _ _ _ h => h) (Or.inl ⟨by kernel_rfl, ?_⟩) hHeld ?_
    · (intro w hSw; (try dsimp only at hSw); go_simp)
    simp only [List.getElem_toArray, List.getElem_cons_succ, List.getElem_cons_zero, Act.put, List.setIfInBounds_toArray, List.set_cons_zero, List.set_cons_succ]
    refine wpAnyH_take (i := 8) (v := .bool true) rfl (by kernel_rfl) (by kernel_rfl) (by kernel_rfl) (fun _ _ _ h => h) (Or.inl ⟨by kernel_rfl, ?_⟩) hHeld ?_
    · (intro w hSw; (try dsimp only at hSw); go_simp)
    simp only [List.getElem_toArray, List.getElem_cons_succ, List.getElem_cons_zero, Act.put, List.setIfInBounds_toArray, List.set_cons_zero, List.set_cons_succ]
    refine wpAnyH_take (i := 9) (v := .bool true) rfl (by kernel_rfl) (by kernel_rfl) (by kernel_rfl) (fun _ _ _ h => h) (Or.inl ⟨by kernel_rfl, ?_⟩) hHeld ?_
    · (intro w hSw; (try dsimp only at hSw); go_simp)
    simp only [List.getElem_toArray, List.getElem_cons_succ, List.getElem_cons_zero, Act.put, List.setIfInBounds_toArray, List.set_cons_zero, List.set_cons_succ]
    refine wpAnyH_take (i := 10) (v := undef) rfl (by kernel_rfl) (by kernel_rfl) (by kernel_rfl) (fun _ _ _ h => h) (Or.inr ⟨by kernel_rfl, rfl⟩) hHeld ?_
    try simp only [List.getElem_toArray, List.getElem_cons_succ, List.getElem_cons_zero, Act.put, List.setIfInBounds_toArray, List.set_cons_zero, List.set_cons_succ]
    refine wpAnyH_take (i := 11) (v := undef) rfl (by kernel_rfl) (by kernel_rfl) (by kernel_rfl) (fun _ _ _ h => h) (Or.inr ⟨by kernel_rfl, rfl⟩) hHeld ?_
    try simp only [List.getElem_toArray, List.getElem_cons_succ, List.getElem_cons_zero, Act.put, List.setIfInBounds_toArray, List.set_cons_zero, List.set_cons_succ]
    refine wpAnyH_take (i := 12) (v := .bool true) rfl (by kernel_rfl) (by kernel_rfl) (by kernel_rfl) (fun _ _ _ h => h) (Or.inl ⟨by kernel_rfl, ?_⟩) hHeld ?_
    · (intro w hSw; (try dsimp only at hSw); go_simp)
    simp only [List.getElem_toArray, List.getElem_cons_succ, List.getElem_cons_zero, Act.put, List.setIfInBounds_toArray, List.set_cons_zero, List.set_cons_succ]
    refine wpAnyH_done (by kernel_rfl) ?_ _
    go_wp2_with fail
    go_ret
    exact ⟨by rw [HZ.out]; rfl, S3.out.now.2.then0 HFq.out⟩
  cases M
  · have HZ : Hid (R = ⟨#[]⟩) := hid (by rw [← HRR.out]; unfold lineS; rw [HL.out, hE]; rfl)
    have HFq := hid ((Frm.refl M0 w3).drew)
    refine wp_region_held_drew (S := fun wx => wx.cell? ⟨b, 0, none⟩ = some (.int .i64 o.d)) (by kernel_rfl) (HSF.out _ HFq.out) (fun hHeld => ?_)
    simp only [List.size_toArray, List.length_cons, List.length_nil]
    refine wpAnyH_take (i := 1) (v := .pointer (some ⟨b, 0, none⟩)) rfl (by kernel_rfl) (by kernel_rfl) (by kernel_rfl) (fun _ _ _ h => h) (Or.inl ⟨by kernel_rfl, ?_⟩) hHeld ?_
    · (intro w hSw; (try dsimp only at hSw); go_simp)
    simp only [List.getElem_toArray, List.getElem_cons_succ, List.getElem_cons_zero, Act.put, List.setIfInBounds_toArray, List.set_cons_zero, List.set_cons_succ]
    refine wpAnyH_take (i := 2) (v := .int .i64 o.d) rfl (by kernel_rfl) (by kernel_rfl) (by kernel_rfl) (fun _ _ _ h => h) (Or.inl ⟨by kernel_rfl, ?_⟩) hHeld ?_
    · (intro w hSw; (try dsimp only at hSw); go_simp)
    simp only [List.getElem_toArray, List.getElem_cons_succ, List.getElem_cons_zero, Act.put, List.setIfInBounds_toArray, List.set_cons_zero, List.set_cons_succ]
    refine wpAnyH_ready (rs := [0]) (by kernel_rfl) (by simp) ?_
    refine AllReadyH.cons rfl (fun K hK => ?_) AllReadyH.nil
    go_simp
    refine (did_calls _).mono ?_
    rintro _ wk ⟨bk, _hbk, rfl, hr, hf⟩
    have hx := Frm.then0 HFq.out hf
    clear HFq
    have HFq := hid hx
    have HRd := hid hr
    clear hx hf hr
    clear hHeld
    refine hK.out _ _ (HSF.out _ HFq.out) (fun hHeld => ?_)
    clear hK K
    try simp only [List.getElem_toArray, List.getElem_cons_succ, List.getElem_cons_zero, Act.put, List.setIfInBounds_toArray, List.set_cons_zero, List.set_cons_succ]
    refine wpAnyH_ready (rs := [3]) (by kernel_rfl) (by simp) ?_
    refine AllReadyH.cons rfl (fun K hK => ?_) AllReadyH.nil
    go_simp
    refine (in_calls _ didL o.d _ HRd.out).mono ?_
    rintro _ w5 ⟨rfl, hf⟩
    have hx := Frm.then0 HFq.out hf
    clear HFq
    have HFq := hid hx
    clear hx hf
    rw [HI.out]
    clear hHeld
    refine hK.out _ _ (HSF.out _ HFq.out) (fun hHeld => ?_)
    clear hK K
    try simp only [List.getElem_toArray, List.getElem_cons_succ, List.getElem_cons_zero, Act.put, List.setIfInBounds_toArray, List.set_cons_zero, List.set_cons_succ]
    refine wpAnyH_take (i := 4) (v := .bool false) rfl (by kernel_rfl) (by kernel_rfl) (by kernel_rfl) (fun _ _ _ h => h) (Or.inl ⟨by kernel_rfl, ?_⟩) hHeld ?_
    · (intro w hSw; (try dsimp only at hSw); go_simp)
    simp only [List.getElem_toArray, List.getElem_cons_succ, List.getElem_cons_zero, Act.put, List.setIfInBounds_toArray, List.set_cons_zero, List.set_cons_succ]
    refine wpAnyH_take (i := 5) (v := .bool false) rfl (by kernel_rfl) (by kernel_rfl) (by kernel_rfl) (fun _ _ _ h => h) (Or.inl ⟨by kernel_rfl, ?_⟩) hHeld ?_
    · (intro w hSw; (try dsimp only at hSw); go_simp)
    simp only [List.getElem_toArray, List.getElem_cons_succ, List.getElem_cons_zero, Act.put, List.setIfInBounds_toArray, List.set_cons_zero, List.set_cons_succ]
    refine wpAnyH_take (i := 6) (v := .string Y) rfl (by kernel_rfl) (by kernel_rfl) (by kernel_rfl) (fun _ _ _ h => h) (Or.inl ⟨by kernel_rfl, ?_⟩) hHeld ?_
    · (intro w hSw; (try dsimp only at hSw); go_simp)
    simp only [List.getElem_toArray, List.getElem_cons_succ, List.getElem_cons_zero, Act.put, List.setIfInBounds_toArray, List.set_cons_zero, List.set_cons_succ]
    refine wpAnyH_take (i := 7) (v := .bool false) rfl (by kernel_rfl) (by kernel_rfl) (by kernel_rfl) (fun _ _ _ h => h) (Or.inl ⟨by kernel_rfl, ?_⟩) hHeld ?_
    · (intro w hSw; (try dsimp only at hSw); go_simp)
    simp only [List.getElem_toArray, List.getElem_cons_succ, List.getElem_cons_zero, Act.put, List.setIfInBounds_toArray, List.set_cons_zero, List.set_cons_succ]
    refine wpAnyH_take (i := 8) (v := .bool false) rfl (by kernel_rfl) (by kernel_rfl) (by kernel_rfl) (fun _ _ _ h => h) (Or.inl ⟨by kernel_rfl, ?_⟩) hHeld ?_
    · (intro w hSw; (try dsimp only at hSw); go_simp)
    simp only [List.getElem_toArray, List.getElem_cons_succ, List.getElem_cons_zero, Act.put, List.setIfInBounds_toArray, List.set_cons_zero, List.set_cons_succ]
    refine wpAnyH_take (i := 9) (v := .bool false) rfl (by kernel_rfl) (by kernel_rfl) (by kernel_rfl) (fun _ _ _ h => h) (Or.inl ⟨by kernel_rfl, ?_⟩) hHeld ?_
    · (intro w hSw; (try dsimp only at hSw); go_simp)
    simp only [List.getElem_toArray, List.getElem_cons_succ, List.getElem_cons_zero, Act.put, List.setIfInBounds_toArray, List.set_cons_zero, List.set_cons_succ]
    refine wpAnyH_take (i := 10) (v := .bool false) rfl (by kernel_rfl) (by kernel_rfl) (by kernel_rfl) (fun _ _ _ h => h) (Or.inl ⟨by kernel_rfl, ?_⟩) hHeld ?_
    · (intro w hSw; (try dsimp only at hSw); go_simp)
    simp only [List.getElem_toArray, List.getElem_cons_succ, List.getElem_cons_zero, Act.put, List.setIfInBounds_toArray, List.set_cons_zero, List.set_cons_succ]
    refine wpAnyH_take (i := 11) (v := .bool true) rfl (by kernel_rfl) (by kernel_rfl) (by kernel_rfl) (fun _ _ _ h => h) (Or.inl ⟨by kernel_rfl, ?_⟩) hHeld ?_
    · (intro w hSw; (try dsimp only at hSw); go_simp)
    simp only [List.getElem_toArray, List.getElem_cons_succ, List.getElem_cons_zero, Act.put, List.setIfInBounds_toArray, List.set_cons_zero, List.set_cons_succ]
    refine wpAnyH_take (i := 12) (v := .bool true) rfl (by kernel_rfl) (by kernel_rfl) (by kernel_rfl) (fun _ _ _ h => h) (Or.inl ⟨by kernel_rfl, ?_⟩) hHeld ?_
    · (intro w hSw; (try dsimp only at hSw); go_simp)
    simp only [List.getElem_toArray, List.getElem_cons_succ, List.getElem_cons_zero, Act.put, List.setIfInBounds_toArray, List.set_cons_zero, List.set_cons_succ]
    refine wpAnyH_done (by kernel_rfl) ?_ _
    go_wp2_with fail
    go_ret
    exact ⟨by rw [HZ.out]; rfl, S3.out.now.2.then0 HFq.out⟩
  have HZ : Hid (R = didW o.d ++ ⟨#[32]⟩ ++ Y ++ T) := hid (by
    rw [← HRR.out, line_app (by rw [HL.out, hE]; rfl), HY.out, HT2.out])
  have HFq := hid ((Frm.refl M0 w3).drew)
  refine wp_region_held_drew (S := fun wx => wx.cell? ⟨b, 0, none⟩ = some (.int .i64 o.d)) (by kernel_rfl) (HSF.out _ HFq.out) (fun hHeld => ?_)
  simp only [List.size_toArray, List.length_cons, List.length_nil]
  refine wpAnyH_take (i := 1) (v := .pointer (some ⟨b, 0, none⟩)) rfl (by kernel_rfl) (by kernel_rfl) (by kernel_rfl) (fun _ _ _ h => h) (Or.inl ⟨by kernel_rfl, ?_⟩) hHeld ?_
  · (intro w hSw; (try dsimp only at hSw); go_simp)
  simp only [List.getElem_toArray, List.getElem_cons_succ, List.getElem_cons_zero, Act.put, List.setIfInBounds_toArray, List.set_cons_zero, List.set_cons_succ]
  refine wpAnyH_take (i := 2) (v := .int .i64 o.d) rfl (by kernel_rfl) (by kernel_rfl) (by kernel_rfl) (fun _ _ _ h => h) (Or.inl ⟨by kernel_rfl, ?_⟩) hHeld ?_
  · (intro w hSw; (try dsimp only at hSw); go_simp)
  simp only [List.getElem_toArray, List.getElem_cons_succ, List.getElem_cons_zero, Act.put, List.setIfInBounds_toArray, List.set_cons_zero, List.set_cons_succ]
  refine wpAnyH_ready (rs := [0]) (by kernel_rfl) (by simp) ?_
  refine AllReadyH.cons rfl (fun K hK => ?_) AllReadyH.nil
  go_simp
  refine (did_calls _).mono ?_
  rintro _ wk ⟨bk, _hbk, rfl, hr, hf⟩
  have hx := Frm.then0 HFq.out hf
  clear HFq
  have HFq := hid hx
  have HRd := hid hr
  clear hx hf hr
  clear hHeld
  refine hK.out _ _ (HSF.out _ HFq.out) (fun hHeld => ?_)
  clear hK K
  try simp only [List.getElem_toArray, List.getElem_cons_succ, List.getElem_cons_zero, Act.put, List.setIfInBounds_toArray, List.set_cons_zero, List.set_cons_succ]
  refine wpAnyH_ready (rs := [3]) (by kernel_rfl) (by simp) ?_
  refine AllReadyH.cons rfl (fun K hK => ?_) AllReadyH.nil
  go_simp
  refine (in_calls _ didL o.d _ HRd.out).mono ?_
  rintro _ w5 ⟨rfl, hf⟩
  have hx := Frm.then0 HFq.out hf
  clear HFq
  have HFq := hid hx
  clear hx hf
  rw [HI.out]
  clear hHeld
  refine hK.out _ _ (HSF.out _ HFq.out) (fun hHeld => ?_)
  clear hK K
  try simp only [List.getElem_toArray, List.getElem_cons_succ, List.getElem_cons_zero, Act.put, List.setIfInBounds_toArray, List.set_cons_zero, List.set_cons_succ]
  refine wpAnyH_take (i := 4) (v := .bool false) rfl (by kernel_rfl) (by kernel_rfl) (by kernel_rfl) (fun _ _ _ h => h) (Or.inl ⟨by kernel_rfl, ?_⟩) hHeld ?_
  · (intro w hSw; (try dsimp only at hSw); go_simp)
  simp only [List.getElem_toArray, List.getElem_cons_succ, List.getElem_cons_zero, Act.put, List.setIfInBounds_toArray, List.set_cons_zero, List.set_cons_succ]
  refine wpAnyH_take (i := 5) (v := .bool false) rfl (by kernel_rfl) (by kernel_rfl) (by kernel_rfl) (fun _ _ _ h => h) (Or.inl ⟨by kernel_rfl, ?_⟩) hHeld ?_
  · (intro w hSw; (try dsimp only at hSw); go_simp)
  simp only [List.getElem_toArray, List.getElem_cons_succ, List.getElem_cons_zero, Act.put, List.setIfInBounds_toArray, List.set_cons_zero, List.set_cons_succ]
  refine wpAnyH_take (i := 6) (v := .string Y) rfl (by kernel_rfl) (by kernel_rfl) (by kernel_rfl) (fun _ _ _ h => h) (Or.inl ⟨by kernel_rfl, ?_⟩) hHeld ?_
  · (intro w hSw; (try dsimp only at hSw); go_simp)
  simp only [List.getElem_toArray, List.getElem_cons_succ, List.getElem_cons_zero, Act.put, List.setIfInBounds_toArray, List.set_cons_zero, List.set_cons_succ]
  refine wpAnyH_take (i := 7) (v := .bool false) rfl (by kernel_rfl) (by kernel_rfl) (by kernel_rfl) (fun _ _ _ h => h) (Or.inl ⟨by kernel_rfl, ?_⟩) hHeld ?_
  · (intro w hSw; (try dsimp only at hSw); go_simp)
  simp only [List.getElem_toArray, List.getElem_cons_succ, List.getElem_cons_zero, Act.put, List.setIfInBounds_toArray, List.set_cons_zero, List.set_cons_succ]
  refine wpAnyH_take (i := 8) (v := .bool false) rfl (by kernel_rfl) (by kernel_rfl) (by kernel_rfl) (fun _ _ _ h => h) (Or.inl ⟨by kernel_rfl, ?_⟩) hHeld ?_
  · (intro w hSw; (try dsimp only at hSw); go_simp)
  simp only [List.getElem_toArray, List.getElem_cons_succ, List.getElem_cons_zero, Act.put, List.setIfInBounds_toArray, List.set_cons_zero, List.set_cons_succ]
  refine wpAnyH_take (i := 9) (v := .bool false) rfl (by kernel_rfl) (by kernel_rfl) (by kernel_rfl) (fun _ _ _ h => h) (Or.inl ⟨by kernel_rfl, ?_⟩) hHeld ?_
  · (intro w hSw; (try dsimp only at hSw); go_simp)
  simp only [List.getElem_toArray, List.getElem_cons_succ, List.getElem_cons_zero, Act.put, List.setIfInBounds_toArray, List.set_cons_zero, List.set_cons_succ]
  refine wpAnyH_take (i := 10) (v := .bool true) rfl (by kernel_rfl) (by kernel_rfl) (by kernel_rfl) (fun _ _ _ h => h) (Or.inl ⟨by kernel_rfl, ?_⟩) hHeld ?_
  · (intro w hSw; (try dsimp only at hSw); go_simp)
  simp only [List.getElem_toArray, List.getElem_cons_succ, List.getElem_cons_zero, Act.put, List.setIfInBounds_toArray, List.set_cons_zero, List.set_cons_succ]
  refine wpAnyH_take (i := 11) (v := .bool false) rfl (by kernel_rfl) (by kernel_rfl) (by kernel_rfl) (fun _ _ _ h => h) (Or.inl ⟨by kernel_rfl, ?_⟩) hHeld ?_
  · (intro w hSw; (try dsimp only at hSw); go_simp)
  simp only [List.getElem_toArray, List.getElem_cons_succ, List.getElem_cons_zero, Act.put, List.setIfInBounds_toArray, List.set_cons_zero, List.set_cons_succ]
  refine wpAnyH_take (i := 12) (v := .bool false) rfl (by kernel_rfl) (by kernel_rfl) (by kernel_rfl) (fun _ _ _ h => h) (Or.inl ⟨by kernel_rfl, ?_⟩) hHeld ?_
  · (intro w hSw; (try dsimp only at hSw); go_simp)
  simp only [List.getElem_toArray, List.getElem_cons_succ, List.getElem_cons_zero, Act.put, List.setIfInBounds_toArray, List.set_cons_zero, List.set_cons_succ]
  refine wpAnyH_done (by kernel_rfl) ?_ _
  have hTs := moreS_le HR.out
  rw [HT2.out] at hTs
  have hd0 := inB_did o.d
  rw [HI.out] at hd0
  have hd := of_decide_eq_true hd0.symm
  clear hd0 hHeld
  have hes : Y.size ≤ 10 := by
    have h := errw_emp o.e
    rw [HY.out, hE] at h
    have h2 : decide (0 ≤ o.e ∧ o.e ≤ 13) = true := by
      cases hx : decide (0 ≤ o.e ∧ o.e ≤ 13)
      · rw [hx] at h; cases h
      · rfl
    have h3 := of_decide_eq_true h2
    obtain ⟨k, hk⟩ : ∃ k : Nat, o.e = k := ⟨o.e.toNat, by omega⟩
    rw [← HY.out, hk]
    exact (err_ne_fin ⟨k, by omega⟩).2
  clear HSF
  have HF5 := hid (S3.out.now.2.then0 HFq.out)
  have HH5 := hid (HFq.out.heap S3.out.now.1 (fun h => h))
  clear S3 HFq HRd
  obtain ⟨n, hn⟩ : ∃ n : Nat, o.d = n := ⟨o.d.toNat, by omega⟩
  have HSF : Hid (∀ wx, Frm M0 w5 wx → wx.cell? ⟨b, 0, none⟩ = some (.int .i64 n)) := hid (fun wx hx => hn ▸ cell_at (hx.heap HH5.out (fun h => h)) 0)
  have hn3 : n < didL.length := by show n < 4; omega
  obtain ⟨D, HD⟩ : ∃ D, Hid (didL[n] = D) := ⟨_, hid rfl⟩
  have hDW : didW n = D := by rw [← HD.out]; unfold didW; rw [Int.toNat_natCast, List.getD_eq_getElem?_getD, List.getElem?_eq_getElem hn3]; rfl
  have hDs : D.size ≤ 10 := by rw [← hDW]; exact did_sz_fin ⟨n, by omega⟩
  rw [hn, hDW] at HZ
  have hn0 : (0 : Int) ≤ (n : Int) := by omega
  have hn1 : (n : Int) < 4 := by omega
  have HN := hid hn3
  have HL1 : Hid (D.size ≤ 10 ∧ Y.size ≤ 10 ∧ T.size ≤ 10000001) := hid ⟨hDs, hes, hTs⟩
  have HFq := hid ((Frm.refl M0 w5).drew)
  clear hd hes hTs hn hDW hDs hE
  go_upto_region 5 with fail
  refine wp_region_held_drew (S := fun wx => wx.cell? ⟨b, 0, none⟩ = some (.int .i64 n)) (by kernel_rfl) (HSF.out _ HFq.out) (fun hHeld => ?_)
  simp only [List.size_toArray, List.length_cons, List.length_nil]
  refine wpAnyH_take (i := 1) (v := .pointer (some ⟨b, 0, none⟩)) rfl (by kernel_rfl) (by kernel_rfl) (by kernel_rfl) (fun _ _ _ h => h) (Or.inl ⟨by kernel_rfl, ?_⟩) hHeld ?_
  · (intro w hSw; (try dsimp only at hSw); go_simp)
  simp only [List.getElem_toArray, List.getElem_cons_succ, List.getElem_cons_zero, Act.put, List.setIfInBounds_toArray, List.set_cons_zero, List.set_cons_succ]
  refine wpAnyH_take (i := 2) (v := .int .i64 n) rfl (by kernel_rfl) (by kernel_rfl) (by kernel_rfl) (fun _ _ _ h => h) (Or.inl ⟨by kernel_rfl, ?_⟩) hHeld ?_
  · (intro w hSw; (try dsimp only at hSw); go_simp)
  simp only [List.getElem_toArray, List.getElem_cons_succ, List.getElem_cons_zero, Act.put, List.setIfInBounds_toArray, List.set_cons_zero, List.set_cons_succ]
  refine wpAnyH_take (i := 6) (v := .string Y) rfl (by kernel_rfl) (by kernel_rfl) (by kernel_rfl) (fun _ _ _ h => h) (Or.inl ⟨by kernel_rfl, ?_⟩) hHeld ?_
  · (intro w hSw; (try dsimp only at hSw); go_simp)
  simp only [List.getElem_toArray, List.getElem_cons_succ, List.getElem_cons_zero, Act.put, List.setIfInBounds_toArray, List.set_cons_zero, List.set_cons_succ]
  refine wpAnyH_take (i := 8) (v := .string T) rfl (by kernel_rfl) (by kernel_rfl) (by kernel_rfl) (fun _ _ _ h => h) (Or.inl ⟨by kernel_rfl, ?_⟩) hHeld ?_
  · (intro w hSw; (try dsimp only at hSw); go_simp)
  simp only [List.getElem_toArray, List.getElem_cons_succ, List.getElem_cons_zero, Act.put, List.setIfInBounds_toArray, List.set_cons_zero, List.set_cons_succ]
  refine wpAnyH_ready (rs := [0]) (by kernel_rfl) (by simp) ?_
  refine AllReadyH.cons rfl (fun K hK => ?_) AllReadyH.nil
  go_simp
  refine (did_calls _).mono ?_
  rintro _ wk ⟨bk, _hbk, rfl, hr, hf⟩
  have hc := hr.strAt n HN.out
  rw [Nat.zero_add, HD.out] at hc
  have hx := Frm.then0 HFq.out hf
  clear HFq
  have HFq := hid hx
  clear hx hf hr
  clear hHeld
  refine hK.out _ _ (HSF.out _ HFq.out) (fun hHeld => ?_)
  clear hK K
  try simp only [List.getElem_toArray, List.getElem_cons_succ, List.getElem_cons_zero, Act.put, List.setIfInBounds_toArray, List.set_cons_zero, List.set_cons_succ]
  refine wpAnyH_take (i := 3) (v := .pointer (some ⟨bk, n, none⟩)) rfl (by kernel_rfl) (by kernel_rfl) (by kernel_rfl) (fun _ _ _ h => h) (Or.inl ⟨by kernel_rfl, ?_⟩) hHeld ?_
  · (intro w hSw; (try dsimp only at hSw); go_simp)
  simp only [List.getElem_toArray, List.getElem_cons_succ, List.getElem_cons_zero, Act.put, List.setIfInBounds_toArray, List.set_cons_zero, List.set_cons_succ]
  refine wpAnyH_ready (rs := [4]) (by kernel_rfl) (by simp) ?_
  refine AllReadyH.cons rfl (fun K hK => ?_) AllReadyH.nil
  go_simp
  clear hHeld
  refine hK.out _ _ (HSF.out _ HFq.out) (fun hHeld => ?_)
  clear hK K
  try simp only [List.getElem_toArray, List.getElem_cons_succ, List.getElem_cons_zero, Act.put, List.setIfInBounds_toArray, List.set_cons_zero, List.set_cons_succ]
  refine wpAnyH_take (i := 5) (v := .string (D ++ ⟨#[32]⟩)) rfl (by kernel_rfl) (by kernel_rfl) (by kernel_rfl) (fun _ _ _ h => h) (Or.inl ⟨by kernel_rfl, ?_⟩) hHeld ?_
  · (intro w hSw; (try dsimp only at hSw); go_simp; have h := HL1.out; omega)
  simp only [List.getElem_toArray, List.getElem_cons_succ, List.getElem_cons_zero, Act.put, List.setIfInBounds_toArray, List.set_cons_zero, List.set_cons_succ]
  refine wpAnyH_take (i := 7) (v := .string (D ++ ⟨#[32]⟩ ++ Y)) rfl (by kernel_rfl) (by kernel_rfl) (by kernel_rfl) (fun _ _ _ h => h) (Or.inl ⟨by kernel_rfl, ?_⟩) hHeld ?_
  · (intro w hSw; (try dsimp only at hSw); go_simp; have h := HL1.out; omega)
  simp only [List.getElem_toArray, List.getElem_cons_succ, List.getElem_cons_zero, Act.put, List.setIfInBounds_toArray, List.set_cons_zero, List.set_cons_succ]
  refine wpAnyH_take (i := 9) (v := .string (D ++ ⟨#[32]⟩ ++ Y ++ T)) rfl (by kernel_rfl) (by kernel_rfl) (by kernel_rfl) (fun _ _ _ h => h) (Or.inl ⟨by kernel_rfl, ?_⟩) hHeld ?_
  · (intro w hSw; (try dsimp only at hSw); go_simp; have h := HL1.out; omega)
  simp only [List.getElem_toArray, List.getElem_cons_succ, List.getElem_cons_zero, Act.put, List.setIfInBounds_toArray, List.set_cons_zero, List.set_cons_succ]
  refine wpAnyH_take (i := 10) (v := .string (D ++ ⟨#[32]⟩ ++ Y ++ T)) rfl (by kernel_rfl) (by kernel_rfl) (by kernel_rfl) (fun _ _ _ h => h) (Or.inl ⟨by kernel_rfl, ?_⟩) hHeld ?_
  · (intro w hSw; (try dsimp only at hSw); go_simp)
  simp only [List.getElem_toArray, List.getElem_cons_succ, List.getElem_cons_zero, Act.put, List.setIfInBounds_toArray, List.set_cons_zero, List.set_cons_succ]
  refine wpAnyH_done (by kernel_rfl) ?_ _
  go_wp2_with fail
  go_ret
  exact ⟨by rw [HZ.out]; rfl, HF5.out.then0 HFq.out⟩
end Go.Proofs.YtonlmkcolndaaaaGreatDoor
