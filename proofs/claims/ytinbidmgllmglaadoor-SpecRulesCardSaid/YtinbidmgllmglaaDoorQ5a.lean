/- record.Read. No condition. The reference's record.Read. No condition. Records: the two checks agree; what is read is what was written. Plain Lean, no condition. spec.Read, and the reference's Read. The reference's Read of a spec. spec.Text. The example of the spec's layer. min and max of two whole numbers, kept whole. No condition. num.Cut, Need, Room, spec.Budget, spec.Steps. One cell of a block known whole: loaded, stored. No condition. The reference's spec that may be, made of any. No condition. Records: what is read is what was written. Plain Lean, no condition. The reference's record that may be, made of any. No condition. Small words for the rows and the laws: a slice of whole numbers that came in reads as a list; min and max. No condition. Records: the document's example; what the reference reads is what the program reads. No condition. The reference's records made of any may be; with a byte less, or more, none is read. Plain Lean, no condition. A record, a spec that came in by value. No condition. -/
import Derived.Test.YtinbidmgllmglaaDoorKy
import Derived.Test.YtinbidmgllmglaaDoorSw
import Derived.Test.YtinbidmgllmglaaDoorCs
import Derived.Test.YtinbidmgllmglaaDoorRc
import Derived.Test.YtinbidmgllmglaaDoorQb
import Derived.Test.YtinbidmgllmglaaDoorOn
import Derived.Test.YtinbidmgllmglaaDoorVn
import Derived.Test.YtinbidmgllmglaaDoorVw
import Derived.Test.YtinbidmgllmglaaDoorSk
import Derived.Test.YtinbidmgllmglaaDoorSs
import Derived.Test.YtinbidmgllmglaaDoorSo
import Derived.Test.YtinbidmgllmglaaDoorKr
import Derived.Test.YtinbidmgllmglaaDoorWi
import Derived.Test.YtinbidmgllmglaaDoorSf
import Derived.Test.YtinbidmgllmglaaDoorFr
import Derived.Test.YtinbidmgllmglaaDoorSg
import Derived.Test.YtinbidmgllmglaaDoorSr
import Derived.Test.YtinbidmgllmglaaDoorRg
import Derived.Test.YtinbidmgllmglaaDoorKb
import Derived.ChangeSame
import Derived.OpenShut
namespace Go.Proofs.YtinbidmgllmglaaDoor
set_option linter.unusedVariables false
set_option linter.unusedSimpArgs false
set_option maxRecDepth 20000
open Go.RowKit Cp

/-- 12 numbers are a spec; others are none. -/
def mkSp (l : List Int) : Sp := if l.length = 12 then Sp.ofL l else Sp.zero
theorem make_u (v : Value) (l : List Int) (w : World) (hr : Rd w 1 v l.length (ints .i64 l)) (hm : l.length ≤ 1000000) :
    Calls Tryd.prog 25 #[v] w fun r w' => ∃ e : Int, r = .returned (.tuple #[(mkSp l).val, .int .i64 e]) ∧ Frm M0 w w' := by
  by_cases h : l.length = 12
  · refine (make_ok v l w hr h).mono ?_
    rintro _ w' ⟨rfl, hf⟩
    exact ⟨0, by unfold mkSp; rw [if_pos h], hf⟩
  · refine (make_bad v l w hr h hm).mono ?_
    rintro _ w' ⟨rfl, hf⟩
    exact ⟨1, by unfold mkSp; rw [if_neg h], hf⟩

/-- The five numbers and the text; what is left, the error. -/
def read5 (l : List Int) : Rc × List Int × Int :=
  let a := getF l 0; let b := getF a.2.1 a.2.2; let c := getF b.2.1 b.2.2; let d := getF c.2.1 c.2.2; let e := getF d.2.1 d.2.2
  let t := textE e.2.1 e.2.2
  (⟨a.1, b.1, c.1, d.1, e.1, strOfNums t.1, Sp.zero⟩, t.2.1, t.2.2)
/-- .. the spec, too. -/
def read6 (l : List Int) : Rc × List Int × Int :=
  let a := read5 l
  if a.1.k = 3 then (let s := listE a.2.1 a.2.2; ({ a.1 with p := mkSp s.1 }, s.2.1, s.2.2)) else a
def readF (l : List Int) : Rc × Int := let a := read6 l; if endF a.2.1 a.2.2 = 0 ∧ rightB a.1 = true then (a.1, 0) else (Rc.zero, 2)
theorem listE_len (l : List Int) (e : Int) : (listE l e).1.length ≤ 64 := by
  by_cases he : e = 0
  · subst he
    rw [listE_0]
    unfold listF
    split
    · simp
    · split
      · simp
      · split
        · rw [numsF_len]; omega
        · simp
  · rw [listE_ne l e he]; simp

end Go.Proofs.YtinbidmgllmglaaDoor
namespace Go.Proofs.YtinbidmgllmglaaDoor
set_option linter.unusedVariables false
set_option linter.unusedSimpArgs false
set_option maxRecDepth 20000
open Go.RowKit Cp

/-- What the reference answers. -/
def rreadOk (l : List Int) (a : Rc × List Int × Int) : Prop := endF a.2.1 a.2.2 = 0 ∧ (rbytesF a.1).2 = 0 ∧ strOfNums (rbytesF a.1).1 = strOfNums l
def Bytey (l : List Int) : Prop := ∀ x ∈ l, 0 ≤ x ∧ x < 256
theorem getF_ok {l : List Int} (e : Int) (h : Bytey l ∧ l.length ≤ 1000000) : Bytey (getF l e).2.1 ∧ (getF l e).2.1.length ≤ 1000000 := by
  obtain ⟨_, _, _, h1, h2⟩ := getF_sub l e
  exact ⟨fun x hx => h.1 x (h1 x hx), by omega⟩
theorem textE_ok {l : List Int} (e : Int) (h : Bytey l ∧ l.length ≤ 1000000) : Bytey (textE l e).2.1 ∧ (textE l e).2.1.length ≤ 1000000 := by
  have h1 := getF_ok e h
  unfold textE
  split
  · exact h1
  · split
    · exact ⟨fun x hx => h1.1 x (List.mem_of_mem_drop hx), by rw [List.length_drop]; omega⟩
    · exact ⟨(fun x hx => by cases hx), by simp⟩
theorem textE_len (l : List Int) (e : Int) : (textE l e).1.length ≤ 64 := by
  unfold textE
  split
  · simp
  · split
    · rename_i h; rw [List.length_take]; omega
    · simp

end Go.Proofs.YtinbidmgllmglaaDoor
namespace Go.Proofs.YtinbidmgllmglaaDoor
set_option linter.unusedVariables false
set_option linter.unusedSimpArgs false
set_option maxRecDepth 20000
open Go.RowKit Cp

theorem and_cg {a b b' : Bool} (h : a = true → b = b') : (a && b) = (a && b') := by cases a <;> simp_all
theorem btw_true {n lo hi : Int} : btw n lo hi = true ↔ lo ≤ n ∧ n ≤ hi := by simp [btw]
theorem step_first (s n : Int) : stepF s n 0 true = bif !decide (s = 0) then decide (n = 0) else btw n 1 100 := by
  unfold stepF btw
  by_cases hs : s = 0 <;> simp [hs]
  have : (0 < n) ↔ (1 ≤ n) := by omega
  simp [this]
theorem step_next (s n last : Int) (h0 : 0 ≤ last) (h1 : last ≤ 100) : stepF s n last false = rstepF s n last := by
  have hw : wrap64 (last + 1) = last + 1 := by unfold wrap64; omega
  unfold stepF rstepF btw
  rw [hw]
  by_cases hs : s = 0
  · by_cases hn : n = 0
    · simp [hs, hn]
    · by_cases hl : last = 0
      · simp [hs, hn, hl]
      · have h2 : 0 < last := by omega
        have h3 : (last < n) ↔ (last + 1 ≤ n) := by omega
        simp [hs, hn, hl, h2, h3]
  · simp [hs]
theorem stepF_le {s n last : Int} {f : Bool} (h : stepF s n last f = true) (h0 : 0 ≤ last) : 0 ≤ n ∧ n ≤ 100 := by
  unfold stepF at h
  by_cases hs : s = 0
  · cases f
    · by_cases hn : n = 0
      · omega
      · by_cases hl : last = 0
        · simp [hs, hn, hl] at h
        · simp [hs, hn, hl] at h; omega
    · simp [hs] at h; omega
  · simp [hs] at h; omega
theorem conds_all (p : Sp) : p.conds.all id = p.rconds.all id := by
  unfold Sp.conds Sp.rconds
  simp only [List.all_cons, List.all_nil, id_eq, Bool.and_true, IntWalk.i64_left]
  refine and_cg fun h0 => and_cg fun h1 => and_cg fun h2 => ?_
  rw [btw_true] at h0 h1 h2
  have e3 : (btw p.s3 0 p.s1 && (decide (0 < p.s3) || decide (0 < p.s2))) = (btw p.s3 0 p.s1 && !((p.s3 == 0) && (p.s2 == 0))) := by
    refine and_cg fun h3 => ?_
    rw [btw_true] at h3
    rw [Bool.eq_iff_iff]
    simp
    omega
  rw [e3]
  refine and_cg fun _ => ?_
  have e4 : (btw p.s4 0 2 && ((p.s4 != 2) || decide (p.s1 ≤ p.s2))) = (btw p.s4 0 2 && !((p.s4 == 2) && decide (p.s2 < p.s1))) := by
    refine and_cg fun _ => ?_
    rw [Bool.eq_iff_iff]
    simp
  rw [e4]
  refine and_cg fun _ => ?_
  have e5 : p.stepB 0 = p.rstepB 0 := step_first _ _
  rw [e5]
  refine and_cg fun h5 => ?_
  have b5 := stepF_le (s := p.s4) (n := p.s5) (last := 0) (f := true) (by rw [← e5] at h5; exact h5) (by omega)
  have e6 : p.stepB 1 = p.rstepB 1 := step_next _ _ _ b5.1 b5.2
  rw [e6]
  refine and_cg fun h6 => ?_
  have b6 := stepF_le (s := p.s4) (n := p.s6) (last := p.s5) (f := false) (by rw [← e6] at h6; exact h6) b5.1
  have e7 : p.stepB 2 = p.rstepB 2 := step_next _ _ _ b6.1 b6.2
  rw [e7]
  refine and_cg fun h7 => ?_
  have b7 := stepF_le (s := p.s4) (n := p.s7) (last := p.s6) (f := false) (by rw [← e7] at h7; exact h7) b6.1
  have e8 : p.stepB 3 = p.rstepB 3 := step_next _ _ _ b7.1 b7.2
  rw [e8]
theorem chkE_eq (p : Sp) : p.chkE = p.rchkE := by unfold Sp.chkE Sp.rchkE; rw [conds_all]
theorem chkE_zero (p : Sp) : p.chkE = 0 ↔ p.conds.all id = true := by
  unfold Sp.chkE
  cases p.conds.all id <;> simp
/-- The numbers of a spec that may be. -/
theorem nums_le {p : Sp} (h : p.chkE = 0) : ∀ x ∈ p.nums, 0 ≤ x ∧ x ≤ 4611686018427387903 := by
  rw [chkE_zero] at h
  unfold Sp.conds at h
  simp only [List.all_cons, List.all_nil, id_eq, Bool.and_true, Bool.and_eq_true, btw_true, IntWalk.i64_left] at h
  obtain ⟨h0, h1, h2, h3, h4, h5, h6, h7, h8, h9, h10, h11⟩ := h
  have hw : wrap64 (16 - p.s1) = 16 - p.s1 := by unfold wrap64; omega
  rw [hw] at h2
  have b5 := stepF_le (s := p.s4) (n := p.s5) (last := 0) (f := true) h5 (by omega)
  have b6 := stepF_le (s := p.s4) (n := p.s6) (last := p.s5) (f := false) h6 b5.1
  have b7 := stepF_le (s := p.s4) (n := p.s7) (last := p.s6) (f := false) h7 b6.1
  have b8 := stepF_le (s := p.s4) (n := p.s8) (last := p.s7) (f := false) h8 b7.1
  have h31 := h3.1
  have h41 := h4.1
  intro x hx
  simp only [Sp.nums, List.mem_cons, List.not_mem_nil, or_false] at hx
  rcases hx with rfl | rfl | rfl | rfl | rfl | rfl | rfl | rfl | rfl | rfl | rfl | rfl <;> omega

theorem req_iff (a b c d e : Int) (t : ByteArray) (p : Sp) : req ⟨a, b, c, d, e, t, p⟩ Rc.zero = true ↔ a = 0 ∧ b = 0 ∧ c = 0 ∧ d = 0 ∧ e = 0 ∧ t = .empty ∧ p = Sp.zero := by
  simp [req, Rc.zero]
theorem sneq_iff (p : Sp) : (!(sneq p Sp.zero)) = true ↔ p = Sp.zero := by simp [sneq]
theorem sneq_f (p : Sp) : sneq p Sp.zero = false ↔ p = Sp.zero := by simp [sneq]
theorem right_eq (r : Rc) : rightB r = rrightB r := by
  obtain ⟨k, e, v, n, q, t, p⟩ := r
  have he : ByteArray.empty = ⟨#[]⟩ := rfl
  unfold rightB rrightB
  refine and_cg fun _ => ?_
  by_cases h : 1 ≤ k ∧ k ≤ 7
  case neg =>
    have h0 : mayK ⟨k, e, v, n, q, t, p⟩ = false := by
      unfold mayK
      rw [if_neg (show ¬ k = 1 by omega), if_neg (show ¬ k = 2 by omega), if_neg (show ¬ k = 3 by omega), if_neg (show ¬ k = 4 by omega), if_neg (show ¬ k = 5 by omega), if_neg (show ¬ k = 6 by omega), if_neg (show ¬ k = 7 by omega)]
    have h1 : rmayK ⟨k, e, v, n, q, t, p⟩ = false := by
      unfold rmayK
      rw [if_neg (show ¬ k = 1 by omega), if_neg (show ¬ k = 2 by omega), if_neg (show ¬ k = 3 by omega), if_neg (show ¬ k = 4 by omega), if_neg (show ¬ k = 5 by omega), if_neg (show ¬ k = 6 by omega), if_neg (show ¬ k = 7 by omega)]
    rw [h0, h1]; simp
  have hk : k = 1 ∨ k = 2 ∨ k = 3 ∨ k = 4 ∨ k = 5 ∨ k = 6 ∨ k = 7 := by omega
  rcases hk with rfl | rfl | rfl | rfl | rfl | rfl | rfl <;> rw [Bool.eq_iff_iff] <;>
    simp only [mayK, rmayK, leadB, publishB, beginB, moveB, intentB, ackB, unitB, stepB, rk1, rk2, rk3, rk4, rk5, rk6, rk7, if_true, if_false, bareB, cond_true, cond_false, Bool.and_eq_true, req_iff, sneq_iff, decide_eq_true_eq, beq_iff_eq, chkE_eq, he, Bool.not_eq_true',
      (show ¬ (1 : Int) = 3 by omega), (show ¬ (2 : Int) = 3 by omega), (show ¬ (4 : Int) = 3 by omega), (show ¬ (5 : Int) = 3 by omega), (show ¬ (6 : Int) = 3 by omega), (show ¬ (7 : Int) = 3 by omega)] <;> simp
  all_goals (try simp only [req_iff, he, sneq_f, true_and])
  all_goals (constructor <;> intro hh <;> simp_all)
end Go.Proofs.YtinbidmgllmglaaDoor
namespace Go.Proofs.YtinbidmgllmglaaDoor
set_option linter.unusedVariables false
set_option linter.unusedSimpArgs false
set_option maxRecDepth 20000
open Go.RowKit

/-- The numbers of words, if all are numbers. -/
def numsW : List (List UInt8) → Option (List Int)
  | [] => some []
  | x :: r => match numF x, numsW r with
    | some n, some l => some (n :: l)
    | _, _ => none
theorem numsW_snoc (x : List UInt8) : ∀ W, numsW (W ++ [x]) = match numsW W, numF x with | some l, some n => some (l ++ [n]) | _, _ => none
  | [] => by
    simp only [List.nil_append, numsW]
    cases numF x <;> rfl
  | y :: W => by
    have ih := numsW_snoc x W
    simp only [List.cons_append, numsW, ih]
    cases numF y <;> cases numsW W <;> cases numF x <;> rfl
theorem numsW_none_app : ∀ (W V : List (List UInt8)), numsW W = none → numsW (W ++ V) = none
  | [], V, h => by cases h
  | y :: W, V, h => by
    simp only [List.cons_append, numsW] at h ⊢
    cases hy : numF y with
    | none => rfl
    | some n =>
      cases hw : numsW W with
      | none => rw [numsW_none_app W V hw]
      | some l => rw [hy, hw] at h; cases h
theorem numsW_len : ∀ (W : List (List UInt8)) (l : List Int), numsW W = some l → l.length = W.length
  | [], l, h => by cases h; rfl
  | y :: W, l, h => by
    simp only [numsW] at h
    cases hy : numF y with
    | none => rw [hy] at h; cases h
    | some n =>
      cases hw : numsW W with
      | none => rw [hy, hw] at h; cases h
      | some l' =>
        rw [hy, hw] at h
        cases h
        rw [List.length_cons, List.length_cons, numsW_len W l' hw]
/-- The spec of a text, or why there is none. -/
def readL (W : List (List UInt8)) : Sp × Int :=
  match numsW W with
  | some l => if l.length = 12 then (if (Sp.ofL l).chkE = 0 then (Sp.ofL l, 0) else (Sp.zero, (Sp.ofL l).chkE)) else (Sp.zero, 2)
  | none => (Sp.zero, 2)
def readS (t : ByteArray) : Sp × Int := readL (splitL t.data.toList)
theorem chkE_cases (p : Sp) : p.chkE = 0 ∨ p.chkE = 11 := by
  unfold Sp.chkE
  cases p.conds.all id
  · exact .inr rfl
  · exact .inl rfl

set_option maxRecDepth 20000 in
set_option maxHeartbeats 4000000 in
theorem sread_calls (t : ByteArray) (w : World) (ht : t.size ≤ 900000) (hg : Glob w) : Calls Tryd.prog 21 #[.string t] w fun e w' => e = .returned (.tuple #[(readS t).1.val, .int .i64 (readS t).2]) ∧ Frm M0 w w' := by
  obtain ⟨rs, HRS⟩ : ∃ x, Hid (readS t = x) := ⟨_, rfl⟩
  rw [HRS.out]
  have HG := hid hg
  clear hg
  go_enter Tryd.func21, Tryd.ntmps21
  go_wp2_with fail
  refine (split_calls t _ (by omega) (HG.out.frm ((Frm.refl M0 w).alloc _))).mono ?_
  rintro _ w1 ⟨b, rfl, hr, hf⟩
  obtain ⟨R, hR⟩ : ∃ x, x = w.heap.size := ⟨_, rfl⟩
  have S1 : Hid (Sb M0 w1 fun x => x.heap[R]? = some (.cells #[.int .i64 0, .int .i64 0, .int .i64 0, .int .i64 0, .int .i64 0, .int .i64 0, .int .i64 0, .int .i64 0, .int .i64 0, .int .i64 0, .int .i64 0, .int .i64 0] 24 (0, 0)) ∧ Rd x 1 (.slice (some ⟨b, 0, none⟩) (splitS t).length (splitS t).length) (splitS t).length (strs (splitS t)) ∧ Frm M0 w x ∧ Glob x) :=
    hid fun wx hx => ⟨hR ▸ (hf.same hx).heap (new1 w _) (fun h => h), hr.frm0 hx, (((Frm.refl M0 w).alloc _).then0 hf).then0 hx, HG.out.frm ((((Frm.refl M0 w).alloc _).then0 hf).then0 hx)⟩
  rw [← hR]
  have HRR := hid hR
  obtain ⟨L, hL⟩ : ∃ x, x = splitS t := ⟨_, rfl⟩
  have HL : Hid (L.map (·.data.toList) = splitL t.data.toList) := hid (by rw [hL]; exact splitS_list t)
  have hl1 : L.length ≤ 1000000 := by
    have h1 := splitL_len t.data.toList
    rw [← HL.out, List.length_map] at h1
    simp at h1
    have e : t.size = t.data.size := rfl
    omega
  rw [← hL] at S1
  rw [← hL]
  clear hL hr hf hR HG
  go_wp2_with fail
  go_loopw [4, 14] (fun v4 i14 wr => ∃ (k : Nat) (ns : List Int), k ≤ L.length ∧ i14 = .int .i64 k ∧ ns.length = k ∧ Hid (wr.ownsRow w1.heap.size 3 1 v4 ns.length (ints .i64 ns)) ∧ Hid (numsW ((L.take k).map (·.data.toList)) = some ns) ∧ Hid (Frm M0 w1 wr)) (fun _ i _ => L.length - (intOf i).toNat)
  case atStart => exact ⟨0, [], Nat.zero_le _, rfl, rfl, hid (World.ownsRow_nil _ _ _ _), hid rfl, hid (Frm.refl _ _)⟩
  case round =>
    obtain ⟨k, ns, hk, rfl, hnk, HO, HN, HF⟩ := hrel
    have S2 := hid (S1.out.step HF.out)
    by_cases hlt : k < L.length
    · have hx : L[k]? = some L[k] := List.getElem?_eq_getElem hlt
      obtain ⟨x, hxx⟩ : ∃ x, x = L[k] := ⟨_, rfl⟩
      rw [← hxx] at hx
      have HX := hid hx
      have hxs : x.size ≤ 1000000 := by
        have h1 : x.data.toList ∈ splitL t.data.toList := by rw [← HL.out]; exact List.mem_map_of_mem (List.mem_of_getElem? hx)
        have h2 := splitL_mem _ _ h1
        simp at h2
        have e1 : x.size = x.data.size := rfl
        have e2 : t.size = t.data.size := rfl
        omega
      have hc : wr.cell? ⟨b, k, none⟩ = some (.string x) := by
        rcases S2.out.now.2.1.2 with ⟨h2, h0⟩ | ⟨a, cap, h2, h3, h4, h6⟩
        · cases h2
        · simp only [Value.slice.injEq, Option.some.injEq] at h2
          obtain ⟨rfl, _, _⟩ := h2
          have := h6 k (.string x) (strs_get L k x hx)
          rw [add_none] at this; simpa using this
      clear hx hxx
      go_wp2_with fail
      refine (snumber_calls x _ hxs S2.out.now.2.2.2).mono ?_
      rintro _ w2 ⟨n, is, rfl, HNR, hf⟩
      have HF2 := hid (HF.out.then0 hf)
      have HO2 := hid (hf.owns HO.out (fun _ _ h => h))
      have hR2 := hid (S2.out.step hf)
      clear hf hc HF HO S2
      cases is
      · have HRZ : Hid (rs = (Sp.zero, 2)) := hid (by
          rw [← HRS.out]
          have e : splitL t.data.toList = ((L.take (k + 1)).map (·.data.toList)) ++ ((L.drop (k + 1)).map (·.data.toList)) := by rw [← List.map_append, List.take_append_drop, HL.out]
          have e2 : numsW ((L.take (k + 1)).map (·.data.toList)) = none := by
            rw [take_snoc HX.out, List.map_append, List.map_cons, List.map_nil, numsW_snoc, HN.out, HNR.out.2 rfl]
          unfold readS readL
          rw [e, numsW_none_app _ _ e2])
        go_wp2_with (refine wpList_store_row rfl 24 (.tmp 2) (.tmp 25) (by with_reducible rfl) R #[.int .i64 0, .int .i64 0, .int .i64 0, .int .i64 0, .int .i64 0, .int .i64 0, .int .i64 0, .int .i64 0, .int .i64 0, .int .i64 0, .int .i64 0, .int .i64 0] (by kernel_rfl) (by kernel_rfl) _ _ hR2.out.now.1 (by kernel_rfl) (by rfl) (by simp [Value.oneCell']) ?_)
        refine bodyPost_ret (results_cell_slot (by rfl) _ _ R _ _ _ _ _ rfl rfl (setRow_heap _ _ _ _ _ _ hR2.out.now.1) Tryd.underlying24 rfl (by kernel_rfl)) rfl ⟨by rw [HRZ.out]; rfl, hR2.out.now.2.2.1.setRow _ _ (by have := HRR.out; omega)⟩
      · have HNN : Hid (numsW ((L.take (k + 1)).map (·.data.toList)) = some (ns ++ [n])) := hid (by
          rw [take_snoc HX.out, List.map_append, List.map_cons, List.map_nil, numsW_snoc, HN.out, HNR.out.1 rfl])
        go_wp2_with (first | (at_builtin; refine wpList_push_int rfl (.tmp 26) (.tmp 28) 43 rfl w1.heap.size 3 .i64 8 Tryd.underlying43 infoI _ ns n rfl HO2.out rfl (by unfold maxLen; omega) (by omega) HF2.out.size ?_; intro v3 w3 ho3 hg3; have HO3 := hid ho3; have HG3 := hid hg3; clear ho3 hg3))
        exact ⟨⟨k + 1, ns ++ [n], by omega, by go_num, by simp; omega, HO3, HNN, hid (HF2.out.grown HG3.out (fun j hj hlt' => absurd (HO2.out.lt j hj).1 (by omega)))⟩, by simp [intOf]; omega⟩
    · obtain rfl : k = L.length := by omega
      have hN := HN.out
      rw [List.take_length, HL.out] at hN
      have HRD : Hid (rs = if ns.length = 12 then (if (Sp.ofL ns).chkE = 0 then (Sp.ofL ns, 0) else (Sp.zero, (Sp.ofL ns).chkE)) else (Sp.zero, 2)) := hid (by rw [← HRS.out]; unfold readS readL; rw [hN])
      have HRO := hid (Rd.ofOwns HO.out)
      clear hN HN HO
      by_cases h12 : ns.length = 12
      case neg =>
        have HRZ : Hid (rs = (Sp.zero, 2)) := hid (by rw [HRD.out, if_neg h12])
        go_wp2_with fail
        refine (make_bad _ ns _ HRO.out h12 (by omega)).mono ?_
        rintro _ w2 ⟨rfl, hf⟩
        have HVZ : Hid (Sp.zero.val = .agg #[.int .i64 0, .int .i64 0, .int .i64 0, .int .i64 0, .int .i64 0, .int .i64 0, .int .i64 0, .int .i64 0, .int .i64 0, .int .i64 0, .int .i64 0, .int .i64 0]) := rfl
        rw [HVZ.out]
        have S3 := hid (S2.out.step hf)
        have HZ1 := hid (new1 w2 (.cells #[.int .i64 0, .int .i64 0, .int .i64 0, .int .i64 0, .int .i64 0, .int .i64 0, .int .i64 0, .int .i64 0, .int .i64 0, .int .i64 0, .int .i64 0, .int .i64 0] 24))
        clear hf S2
        go_upto_region 12 with (refine wpList_store_row rfl 24 (.tmp 9) (.tmp 34) (by with_reducible rfl) w2.heap.size #[.int .i64 0, .int .i64 0, .int .i64 0, .int .i64 0, .int .i64 0, .int .i64 0, .int .i64 0, .int .i64 0, .int .i64 0, .int .i64 0, .int .i64 0, .int .i64 0] (by kernel_rfl) (by kernel_rfl) _ _ HZ1.out (by kernel_rfl) (by rfl) (by simp [Value.oneCell']) ?_)
        have hfr := ((Frm.refl M0 w2).alloc (.cells #[.int .i64 0, .int .i64 0, .int .i64 0, .int .i64 0, .int .i64 0, .int .i64 0, .int .i64 0, .int .i64 0, .int .i64 0, .int .i64 0, .int .i64 0, .int .i64 0] 24)).setRow w2.heap.size #[.int .i64 0, .int .i64 0, .int .i64 0, .int .i64 0, .int .i64 0, .int .i64 0, .int .i64 0, .int .i64 0, .int .i64 0, .int .i64 0, .int .i64 0, .int .i64 0] (Nat.le_refl _)
        obtain ⟨w3, hw3⟩ : ∃ x, x = (w2.alloc (.cells #[.int .i64 0, .int .i64 0, .int .i64 0, .int .i64 0, .int .i64 0, .int .i64 0, .int .i64 0, .int .i64 0, .int .i64 0, .int .i64 0, .int .i64 0, .int .i64 0] 24)).setRow w2.heap.size #[.int .i64 0, .int .i64 0, .int .i64 0, .int .i64 0, .int .i64 0, .int .i64 0, .int .i64 0, .int .i64 0, .int .i64 0, .int .i64 0, .int .i64 0, .int .i64 0] := ⟨_, rfl⟩
        rw [← hw3] at hfr
        rw [← hw3]
        have S4 := hid (S3.out.step hfr)
        clear hw3 hfr S3 HZ1
        go_wp2_with (refine wpList_store_row rfl 24 (.tmp 2) (.tmp 38) (by with_reducible rfl) R #[.int .i64 0, .int .i64 0, .int .i64 0, .int .i64 0, .int .i64 0, .int .i64 0, .int .i64 0, .int .i64 0, .int .i64 0, .int .i64 0, .int .i64 0, .int .i64 0] (by kernel_rfl) (by kernel_rfl) _ _ S4.out.now.1 (by kernel_rfl) (by rfl) (by simp [Value.oneCell']) ?_)
        refine bodyPost_ret (results_cell_slot (by rfl) _ _ R _ _ _ _ _ rfl rfl (setRow_heap _ _ _ _ _ _ S4.out.now.1) Tryd.underlying24 rfl (by kernel_rfl)) rfl ⟨by rw [HRZ.out]; rfl, S4.out.now.2.2.1.setRow _ _ (by have := HRR.out; omega)⟩
      case pos =>
        go_wp2_with fail
        refine (make_ok _ ns _ HRO.out h12).mono ?_
        rintro _ w2 ⟨rfl, hf⟩
        have hrd := HRD.out
        rw [if_pos h12] at hrd
        obtain ⟨P, hP⟩ : ∃ P, P = Sp.ofL ns := ⟨_, rfl⟩
        rw [← hP] at hrd ⊢
        have HRD2 := hid hrd
        have HVP : Hid (P.val = .agg #[.int .i64 P.s0, .int .i64 P.s1, .int .i64 P.s2, .int .i64 P.s3, .int .i64 P.s4, .int .i64 P.s5, .int .i64 P.s6, .int .i64 P.s7, .int .i64 P.s8, .int .i64 P.s9, .int .i64 P.s10, .int .i64 P.s11]) := rfl
        rw [HVP.out]
        have S3 := hid (S2.out.step hf)
        have HZ1 := hid (new1 w2 (.cells #[.int .i64 0, .int .i64 0, .int .i64 0, .int .i64 0, .int .i64 0, .int .i64 0, .int .i64 0, .int .i64 0, .int .i64 0, .int .i64 0, .int .i64 0, .int .i64 0] 24))
        clear hf S2 hP hrd HRD
        go_upto_region 11 with (refine wpList_store_row rfl 24 (.tmp 9) (.tmp 34) (by with_reducible rfl) w2.heap.size #[.int .i64 P.s0, .int .i64 P.s1, .int .i64 P.s2, .int .i64 P.s3, .int .i64 P.s4, .int .i64 P.s5, .int .i64 P.s6, .int .i64 P.s7, .int .i64 P.s8, .int .i64 P.s9, .int .i64 P.s10, .int .i64 P.s11] (by kernel_rfl) (by kernel_rfl) _ _ HZ1.out (by kernel_rfl) (by rfl) (by simp [Value.oneCell']) ?_)
        have hfr := ((Frm.refl M0 w2).alloc (.cells #[.int .i64 0, .int .i64 0, .int .i64 0, .int .i64 0, .int .i64 0, .int .i64 0, .int .i64 0, .int .i64 0, .int .i64 0, .int .i64 0, .int .i64 0, .int .i64 0] 24)).setRow w2.heap.size #[.int .i64 P.s0, .int .i64 P.s1, .int .i64 P.s2, .int .i64 P.s3, .int .i64 P.s4, .int .i64 P.s5, .int .i64 P.s6, .int .i64 P.s7, .int .i64 P.s8, .int .i64 P.s9, .int .i64 P.s10, .int .i64 P.s11] (Nat.le_refl _)
        have hP3 := setRow_heap _ w2.heap.size _ #[.int .i64 P.s0, .int .i64 P.s1, .int .i64 P.s2, .int .i64 P.s3, .int .i64 P.s4, .int .i64 P.s5, .int .i64 P.s6, .int .i64 P.s7, .int .i64 P.s8, .int .i64 P.s9, .int .i64 P.s10, .int .i64 P.s11] _ _ HZ1.out
        obtain ⟨w3, hw3⟩ : ∃ x, x = (w2.alloc (.cells #[.int .i64 0, .int .i64 0, .int .i64 0, .int .i64 0, .int .i64 0, .int .i64 0, .int .i64 0, .int .i64 0, .int .i64 0, .int .i64 0, .int .i64 0, .int .i64 0] 24)).setRow w2.heap.size #[.int .i64 P.s0, .int .i64 P.s1, .int .i64 P.s2, .int .i64 P.s3, .int .i64 P.s4, .int .i64 P.s5, .int .i64 P.s6, .int .i64 P.s7, .int .i64 P.s8, .int .i64 P.s9, .int .i64 P.s10, .int .i64 P.s11] := ⟨_, rfl⟩
        rw [← hw3] at hfr hP3
        rw [← hw3]
        have S4 := hid ((S3.out.step hfr).and (Sb.heap hP3 (fun h => h)))
        clear hw3 hfr S3 HZ1 hP3
        go_wp2_with (refine wpList_load_row_w (by kernel_rfl) 24 (.tmp 9) (by with_reducible rfl) w2.heap.size (by kernel_rfl) _ _ _ _ S4.out.now.2 Tryd.underlying24 rfl (by kernel_rfl) ?_)
        rw [← HVP.out]
        refine (check_calls P _).mono ?_
        rintro _ w4 ⟨rfl, hf⟩
        rw [HVP.out]
        have S5 := hid (S4.out.step hf)
        clear hf S4
        rcases chkE_cases P with h | h
        · have HRZ : Hid (rs = (P, 0)) := hid (by rw [HRD2.out, if_pos h])
          rw [h]
          clear h
          go_wp2_with (first | (refine wpList_load_row_w (by kernel_rfl) 24 (.tmp 9) (by with_reducible rfl) w2.heap.size (by kernel_rfl) _ _ _ _ S5.out.now.2 Tryd.underlying24 rfl (by kernel_rfl) ?_) | (refine wpList_store_row rfl 24 (.tmp 2) (.tmp 48) (by with_reducible rfl) R #[.int .i64 P.s0, .int .i64 P.s1, .int .i64 P.s2, .int .i64 P.s3, .int .i64 P.s4, .int .i64 P.s5, .int .i64 P.s6, .int .i64 P.s7, .int .i64 P.s8, .int .i64 P.s9, .int .i64 P.s10, .int .i64 P.s11] (by kernel_rfl) (by kernel_rfl) _ _ S5.out.now.1.1 (by kernel_rfl) (by rfl) (by simp [Value.oneCell']) ?_))
          refine bodyPost_ret (results_cell_slot (by rfl) _ _ R _ _ _ _ _ rfl rfl (setRow_heap _ _ _ _ _ _ S5.out.now.1.1) Tryd.underlying24 rfl (by kernel_rfl)) rfl ⟨by rw [HRZ.out]; rfl, S5.out.now.1.2.2.1.setRow _ _ (by have := HRR.out; omega)⟩
        · have HRZ : Hid (rs = (Sp.zero, 11)) := hid (by rw [HRD2.out, if_neg (by omega), h])
          rw [h]
          clear h
          go_wp2_with (refine wpList_store_row rfl 24 (.tmp 2) (.tmp 46) (by with_reducible rfl) R #[.int .i64 0, .int .i64 0, .int .i64 0, .int .i64 0, .int .i64 0, .int .i64 0, .int .i64 0, .int .i64 0, .int .i64 0, .int .i64 0, .int .i64 0, .int .i64 0] (by kernel_rfl) (by kernel_rfl) _ _ S5.out.now.1.1 (by kernel_rfl) (by rfl) (by simp [Value.oneCell']) ?_)
          refine bodyPost_ret (results_cell_slot (by rfl) _ _ R _ _ _ _ _ rfl rfl (setRow_heap _ _ _ _ _ _ S5.out.now.1.1) Tryd.underlying24 rfl (by kernel_rfl)) rfl ⟨by rw [HRZ.out]; rfl, S5.out.now.1.2.2.1.setRow _ _ (by have := HRR.out; omega)⟩
end Go.Proofs.YtinbidmgllmglaaDoor
namespace Go.Proofs.YtinbidmgllmglaaDoor
set_option linter.unusedVariables false
set_option linter.unusedSimpArgs false
set_option maxRecDepth 20000
open Go.RowKit

theorem numsW_some_of : ∀ (W V : List (List UInt8)) (l : List Int), numsW (W ++ V) = some l → ∃ a, numsW W = some a
  | W, V, l, h => by
    cases hw : numsW W with
    | none => rw [numsW_none_app W V hw] at h; cases h
    | some a => exact ⟨a, rfl⟩
set_option maxRecDepth 20000 in
set_option maxHeartbeats 4000000 in
theorem rread_spec_calls (t : ByteArray) (w : World) (ht : t.size ≤ 900000) : Calls Tryd.prog 22 #[.string t] w fun e w' => e = .returned (.tuple #[(readS t).1.val, .int .i64 (readS t).2]) ∧ Frm M0 w w' := by
  obtain ⟨rs, HRS⟩ : ∃ x, Hid (readS t = x) := ⟨_, rfl⟩
  rw [HRS.out]
  go_enter Tryd.func22, Tryd.ntmps22
  go_wp2_with fail
  refine (refwords_calls t _ (by omega)).mono ?_
  rintro _ w1 ⟨v, L, rfl, HL, hr, hf⟩
  obtain ⟨R, hR⟩ : ∃ x, x = w.heap.size := ⟨_, rfl⟩
  have hl0 : 0 < L.length := by
    obtain ⟨x, r, e⟩ := splitL_ne t.data.toList
    have := congrArg List.length HL.out
    rw [List.length_map, e] at this; simp at this; omega
  obtain ⟨a, c, rfl, hsh⟩ := hr.shape
  obtain ⟨b, o, rfl⟩ := hsh hl0
  have S1 : Hid (Sb M0 w1 fun x => x.heap[R]? = some (.cells #[.int .i64 0, .int .i64 0, .int .i64 0, .int .i64 0, .int .i64 0, .int .i64 0, .int .i64 0, .int .i64 0, .int .i64 0, .int .i64 0, .int .i64 0, .int .i64 0] 24 (0, 0)) ∧ Rd x 1 (.slice (some ⟨b, o, none⟩) L.length c) L.length (strs L) ∧ Frm M0 w x) :=
    hid fun wx hx => ⟨hR ▸ (hf.same hx).heap (new1 w _) (fun h => h), hr.frm0 hx, (((Frm.refl M0 w).alloc _).then0 hf).then0 hx⟩
  rw [← hR]
  have HRR := hid hR
  have hl1 : L.length ≤ 1000000 := by
    have h1 := splitL_len t.data.toList
    rw [← HL.out, List.length_map] at h1
    simp at h1
    have e : t.size = t.data.size := rfl
    omega
  clear hr hf hR hsh
  by_cases h12 : L.length = 12
  case neg =>
    have h12' : ¬ ((L.length : Int) = 12) := by omega
    have HRZ : Hid (rs = (Sp.zero, 2)) := hid (by
      rw [← HRS.out]
      unfold readS readL
      cases hn : numsW (splitL t.data.toList) with
      | none => rfl
      | some l =>
        have := numsW_len _ _ hn
        rw [← HL.out, List.length_map] at this
        simp only []
        rw [if_neg (by omega)])
    clear h12
    go_wp2_with (refine wpList_store_row rfl 24 (.tmp 2) (.tmp 17) (by with_reducible rfl) R #[.int .i64 0, .int .i64 0, .int .i64 0, .int .i64 0, .int .i64 0, .int .i64 0, .int .i64 0, .int .i64 0, .int .i64 0, .int .i64 0, .int .i64 0, .int .i64 0] (by kernel_rfl) (by kernel_rfl) _ _ S1.out.now.1 (by kernel_rfl) (by rfl) (by simp [Value.oneCell']) ?_)
    refine bodyPost_ret (results_cell_slot (by rfl) _ _ R _ _ _ _ _ rfl rfl (setRow_heap _ _ _ _ _ _ S1.out.now.1) Tryd.underlying24 rfl (by kernel_rfl)) rfl ⟨by rw [HRZ.out]; rfl, S1.out.now.2.2.setRow _ _ (by have := HRR.out; omega)⟩
  have h12' : ((L.length : Int) = 12) := by omega
  have H12 := hid h12
  clear h12
  go_wp2_with fail
  clear h12'
  go_loopw [5, 6] (fun v5 i6 wr => ∃ (k : Nat) (ns : List Int), k ≤ 12 ∧ i6 = .int .i64 k ∧ ns.length = k ∧ Hid (wr.ownsRow w1.heap.size 3 1 v5 ns.length (ints .i64 ns)) ∧ Hid (numsW ((L.take k).map (·.data.toList)) = some ns) ∧ Hid (Frm M0 w1 wr)) (fun _ i _ => 12 - (intOf i).toNat)
  case atStart => exact ⟨0, [], Nat.zero_le _, rfl, rfl, hid (World.ownsRow_nil _ _ _ _), hid rfl, hid (Frm.refl _ _)⟩
  case round =>
    obtain ⟨k, ns, hk, rfl, hnk, HO, HN, HF⟩ := hrel
    have S2 := hid (S1.out.step HF.out)
    by_cases hlt : k < 12
    · have hltL : k < L.length := by have := H12.out; omega
      have hltL' : (k : Int) < L.length := by omega
      have hx : L[k]? = some L[k] := List.getElem?_eq_getElem hltL
      obtain ⟨x, hxx⟩ : ∃ x, x = L[k] := ⟨_, rfl⟩
      rw [← hxx] at hx
      have HX := hid hx
      have hxs : x.size ≤ 1000000 := by
        have h1 : x.data.toList ∈ splitL t.data.toList := by rw [← HL.out]; exact List.mem_map_of_mem (List.mem_of_getElem? hx)
        have h2 := splitL_mem _ _ h1
        simp at h2
        have e1 : x.size = x.data.size := rfl
        have e2 : t.size = t.data.size := rfl
        omega
      have hc : wr.cell? ⟨b, o + k, none⟩ = some (.string x) := by
        rcases S2.out.now.2.1.2 with ⟨h2, h0⟩ | ⟨a, cap, h2, h3, h4, h6⟩
        · cases h2
        · simp only [Value.slice.injEq, Option.some.injEq] at h2
          obtain ⟨rfl, _, _⟩ := h2
          have := h6 k (.string x) (strs_get L k x hx)
          rw [add_none] at this; exact this
      clear hx hxx
      go_wp2_with fail
      refine (rnumber_calls x _ hxs).mono ?_
      rintro _ w2 ⟨n, is, rfl, HNR, hf⟩
      have HF2 := hid (HF.out.then0 hf)
      have HO2 := hid (hf.owns HO.out (fun _ _ h => h))
      have hR2 := hid (S2.out.step hf)
      clear hf hc HF HO S2
      cases is
      · have HRZ : Hid (rs = (Sp.zero, 2)) := hid (by
          rw [← HRS.out]
          have e : splitL t.data.toList = ((L.take (k + 1)).map (·.data.toList)) ++ ((L.drop (k + 1)).map (·.data.toList)) := by rw [← List.map_append, List.take_append_drop, HL.out]
          have e2 : numsW ((L.take (k + 1)).map (·.data.toList)) = none := by
            rw [take_snoc HX.out, List.map_append, List.map_cons, List.map_nil, numsW_snoc, HN.out, HNR.out.2 rfl]
          unfold readS readL
          rw [e, numsW_none_app _ _ e2])
        go_wp2_with (refine wpList_store_row rfl 24 (.tmp 2) (.tmp 32) (by with_reducible rfl) R #[.int .i64 0, .int .i64 0, .int .i64 0, .int .i64 0, .int .i64 0, .int .i64 0, .int .i64 0, .int .i64 0, .int .i64 0, .int .i64 0, .int .i64 0, .int .i64 0] (by kernel_rfl) (by kernel_rfl) _ _ hR2.out.now.1 (by kernel_rfl) (by rfl) (by simp [Value.oneCell']) ?_)
        refine bodyPost_ret (results_cell_slot (by rfl) _ _ R _ _ _ _ _ rfl rfl (setRow_heap _ _ _ _ _ _ hR2.out.now.1) Tryd.underlying24 rfl (by kernel_rfl)) rfl ⟨by rw [HRZ.out]; rfl, hR2.out.now.2.2.setRow _ _ (by have := HRR.out; omega)⟩
      · have HNN : Hid (numsW ((L.take (k + 1)).map (·.data.toList)) = some (ns ++ [n])) := hid (by
          rw [take_snoc HX.out, List.map_append, List.map_cons, List.map_nil, numsW_snoc, HN.out, HNR.out.1 rfl])
        go_wp2_with (first | (at_builtin; refine wpList_push_int rfl (.tmp 33) (.tmp 35) 43 rfl w1.heap.size 3 .i64 8 Tryd.underlying43 infoI _ ns n rfl HO2.out rfl (by unfold maxLen; omega) (by omega) HF2.out.size ?_; intro v3 w3 ho3 hg3; have HO3 := hid ho3; have HG3 := hid hg3; clear ho3 hg3))
        exact ⟨⟨k + 1, ns ++ [n], by omega, by go_num, by simp; omega, HO3, HNN, hid (HF2.out.grown HG3.out (fun j hj hlt' => absurd (HO2.out.lt j hj).1 (by omega)))⟩, by simp [intOf]; omega⟩
    · obtain rfl : k = 12 := by omega
      have hN := HN.out
      rw [List.take_of_length_le (by have := H12.out; omega), HL.out] at hN
      have hrd : rs = if (Sp.ofL ns).chkE = 0 then (Sp.ofL ns, 0) else (Sp.zero, (Sp.ofL ns).chkE) := by rw [← HRS.out]; unfold readS readL; rw [hN]; simp only []; rw [if_pos hnk]
      have HRO := hid (Rd.ofOwns HO.out)
      have HNK := hid hnk
      clear hN HN HO
      go_wp2_with fail
      refine (rof_calls _ ns _ HRO.out HNK.out).mono ?_
      rintro _ w2 ⟨rfl, hf⟩
      obtain ⟨P, hP⟩ : ∃ P, P = Sp.ofL ns := ⟨_, rfl⟩
      rw [← hP] at hrd ⊢
      have HRD2 := hid hrd
      have HVP : Hid (P.val = .agg #[.int .i64 P.s0, .int .i64 P.s1, .int .i64 P.s2, .int .i64 P.s3, .int .i64 P.s4, .int .i64 P.s5, .int .i64 P.s6, .int .i64 P.s7, .int .i64 P.s8, .int .i64 P.s9, .int .i64 P.s10, .int .i64 P.s11]) := rfl
      rw [HVP.out]
      have S3 := hid (S2.out.step hf)
      have HZ1 := hid (new1 w2 (.cells #[.int .i64 0, .int .i64 0, .int .i64 0, .int .i64 0, .int .i64 0, .int .i64 0, .int .i64 0, .int .i64 0, .int .i64 0, .int .i64 0, .int .i64 0, .int .i64 0] 24))
      clear hf S2 hP hrd
      go_upto_region 13 with (refine wpList_store_row rfl 24 (.tmp 9) (.tmp 38) (by with_reducible rfl) w2.heap.size #[.int .i64 P.s0, .int .i64 P.s1, .int .i64 P.s2, .int .i64 P.s3, .int .i64 P.s4, .int .i64 P.s5, .int .i64 P.s6, .int .i64 P.s7, .int .i64 P.s8, .int .i64 P.s9, .int .i64 P.s10, .int .i64 P.s11] (by kernel_rfl) (by kernel_rfl) _ _ HZ1.out (by kernel_rfl) (by rfl) (by simp [Value.oneCell']) ?_)
      have hfr := ((Frm.refl M0 w2).alloc (.cells #[.int .i64 0, .int .i64 0, .int .i64 0, .int .i64 0, .int .i64 0, .int .i64 0, .int .i64 0, .int .i64 0, .int .i64 0, .int .i64 0, .int .i64 0, .int .i64 0] 24)).setRow w2.heap.size #[.int .i64 P.s0, .int .i64 P.s1, .int .i64 P.s2, .int .i64 P.s3, .int .i64 P.s4, .int .i64 P.s5, .int .i64 P.s6, .int .i64 P.s7, .int .i64 P.s8, .int .i64 P.s9, .int .i64 P.s10, .int .i64 P.s11] (Nat.le_refl _)
      have hP3 := setRow_heap _ w2.heap.size _ #[.int .i64 P.s0, .int .i64 P.s1, .int .i64 P.s2, .int .i64 P.s3, .int .i64 P.s4, .int .i64 P.s5, .int .i64 P.s6, .int .i64 P.s7, .int .i64 P.s8, .int .i64 P.s9, .int .i64 P.s10, .int .i64 P.s11] _ _ HZ1.out
      obtain ⟨w3, hw3⟩ : ∃ x, x = (w2.alloc (.cells #[.int .i64 0, .int .i64 0, .int .i64 0, .int .i64 0, .int .i64 0, .int .i64 0, .int .i64 0, .int .i64 0, .int .i64 0, .int .i64 0, .int .i64 0, .int .i64 0] 24)).setRow w2.heap.size #[.int .i64 P.s0, .int .i64 P.s1, .int .i64 P.s2, .int .i64 P.s3, .int .i64 P.s4, .int .i64 P.s5, .int .i64 P.s6, .int .i64 P.s7, .int .i64 P.s8, .int .i64 P.s9, .int .i64 P.s10, .int .i64 P.s11] := ⟨_, rfl⟩
      rw [← hw3] at hfr hP3
      rw [← hw3]
      have S4 := hid ((S3.out.step hfr).and (Sb.heap hP3 (fun h => h)))
      clear hw3 hfr S3 HZ1 hP3
      go_wp2_with (refine wpList_load_row_w (by kernel_rfl) 24 (.tmp 9) (by with_reducible rfl) w2.heap.size (by kernel_rfl) _ _ _ _ S4.out.now.2 Tryd.underlying24 rfl (by kernel_rfl) ?_)
      rw [← HVP.out]
      refine (rcheck_calls P _).mono ?_
      rintro _ w4 ⟨rfl, hf⟩
      rw [HVP.out, ← chkE_eq]
      have S5 := hid (S4.out.step hf)
      clear hf S4
      rcases chkE_cases P with h | h
      · have HRZ : Hid (rs = (P, 0)) := hid (by rw [HRD2.out, if_pos h])
        rw [h]
        clear h
        go_wp2_with (first | (refine wpList_load_row_w (by kernel_rfl) 24 (.tmp 9) (by with_reducible rfl) w2.heap.size (by kernel_rfl) _ _ _ _ S5.out.now.2 Tryd.underlying24 rfl (by kernel_rfl) ?_) | (refine wpList_store_row rfl 24 (.tmp 2) (.tmp 48) (by with_reducible rfl) R #[.int .i64 P.s0, .int .i64 P.s1, .int .i64 P.s2, .int .i64 P.s3, .int .i64 P.s4, .int .i64 P.s5, .int .i64 P.s6, .int .i64 P.s7, .int .i64 P.s8, .int .i64 P.s9, .int .i64 P.s10, .int .i64 P.s11] (by kernel_rfl) (by kernel_rfl) _ _ S5.out.now.1.1 (by kernel_rfl) (by rfl) (by simp [Value.oneCell']) ?_))
        refine bodyPost_ret (results_cell_slot (by rfl) _ _ R _ _ _ _ _ rfl rfl (setRow_heap _ _ _ _ _ _ S5.out.now.1.1) Tryd.underlying24 rfl (by kernel_rfl)) rfl ⟨by rw [HRZ.out]; rfl, S5.out.now.1.2.2.setRow _ _ (by have := HRR.out; omega)⟩
      · have HRZ : Hid (rs = (Sp.zero, 11)) := hid (by rw [HRD2.out, if_neg (by omega), h])
        rw [h]
        clear h
        go_wp2_with (refine wpList_store_row rfl 24 (.tmp 2) (.tmp 46) (by with_reducible rfl) R #[.int .i64 0, .int .i64 0, .int .i64 0, .int .i64 0, .int .i64 0, .int .i64 0, .int .i64 0, .int .i64 0, .int .i64 0, .int .i64 0, .int .i64 0, .int .i64 0] (by kernel_rfl) (by kernel_rfl) _ _ S5.out.now.1.1 (by kernel_rfl) (by rfl) (by simp [Value.oneCell']) ?_)
        refine bodyPost_ret (results_cell_slot (by rfl) _ _ R _ _ _ _ _ rfl rfl (setRow_heap _ _ _ _ _ _ S5.out.now.1.1) Tryd.underlying24 rfl (by kernel_rfl)) rfl ⟨by rw [HRZ.out]; rfl, S5.out.now.1.2.2.setRow _ _ (by have := HRR.out; omega)⟩
end Go.Proofs.YtinbidmgllmglaaDoor
namespace Go.Proofs.YtinbidmgllmglaaDoor
set_option linter.unusedVariables false
set_option linter.unusedSimpArgs false
set_option maxRecDepth 20000
open Go.RowKit

def Sp.small (p : Sp) : Prop := ∀ x ∈ p.nums, -9223372036854775808 ≤ x ∧ x ≤ 9223372036854775807
/-- Numbers as words. -/
def words (l : List Int) : List ByteArray := l.map fun n => str (Lib.itoa n)
/-- Words, a blank between. -/
def joinS (l : List ByteArray) : ByteArray := str (Lib.join (l.map (·.data.toList)) [32])
def textS (p : Sp) : ByteArray := joinS (words p.nums)
theorem nums_len (p : Sp) : p.nums.length = 12 := rfl

theorem joinTail_bound (n : Nat) : ∀ (r : List (List UInt8)), (∀ x ∈ r, x.length ≤ n) → (Lib.joinTail [32] r).length ≤ r.length * (n + 1) := by
  intro r
  induction r with
  | nil => intro _; simp [Lib.joinTail]
  | cons y r ih =>
    intro h
    have h1 := h y (by simp)
    have h2 := ih (fun x hx => h x (by simp [hx]))
    simp only [Lib.joinTail, List.map_cons, List.flatten_cons, List.length_append, List.length_cons, List.length_nil] at h2 ⊢
    rw [Nat.succ_mul]; omega
theorem join_bound (n : Nat) (r : List (List UInt8)) (h : ∀ x ∈ r, x.length ≤ n) : (Lib.join r [32]).length ≤ r.length * (n + 1) := by
  cases r with
  | nil => simp [Lib.join_nil]
  | cons y r =>
    have h1 := h y (by simp)
    have h2 := joinTail_bound n r (fun x hx => h x (by simp [hx]))
    rw [Lib.join_cons, List.length_append, List.length_cons, Nat.succ_mul]; omega
theorem words_bound (l : List Int) (h : ∀ x ∈ l, -9223372036854775808 ≤ x ∧ x ≤ 9223372036854775807) : ∀ x ∈ words l, x.size ≤ 21 := by
  intro x hx
  obtain ⟨n, hn, rfl⟩ := List.mem_map.1 hx
  have := Lib.itoa_length_le n (h n hn).1 (h n hn).2
  show (Lib.itoa n).toArray.size ≤ 21
  simpa using this
theorem words_snoc (l : List Int) (n : Int) : words l ++ [str (Lib.itoa n)] = words (l ++ [n]) := by simp [words]
theorem words_len (l : List Int) : (words l).length = l.length := by simp [words]
theorem joinS_size (n : Nat) (l : List ByteArray) (h : ∀ x ∈ l, x.size ≤ n) : (Lib.join (l.map (·.data.toList)) [32]).length ≤ l.length * (n + 1) := by
  have := join_bound n (l.map (·.data.toList)) (by
    intro x hx
    obtain ⟨s, hs, rfl⟩ := List.mem_map.1 hx
    have := h s hs
    show s.data.toList.length ≤ n
    rw [Array.length_toList]; exact this)
  rwa [List.length_map] at this

set_option maxHeartbeats 2000000 in
set_option maxRecDepth 20000 in
theorem stext_calls (p : Sp) (w : World) (ht : Tab w) (hp : p.small) : Calls Tryd.prog 24 #[p.val] w fun e w' => e = .returned (.string (textS p)) ∧ Frm M0 w w' := by
  have HT := hid ht; clear ht
  have HV : Hid (p.val = .agg #[.int .i64 p.s0, .int .i64 p.s1, .int .i64 p.s2, .int .i64 p.s3, .int .i64 p.s4, .int .i64 p.s5, .int .i64 p.s6, .int .i64 p.s7, .int .i64 p.s8, .int .i64 p.s9, .int .i64 p.s10, .int .i64 p.s11]) := rfl
  rw [HV.out]
  go_enter Tryd.func24, Tryd.ntmps24
  go_wp2_with (refine wpList_load_row rfl 24 (.tmp 1) (by with_reducible rfl) w.heap.size rfl _ _ _ _ (heap_alloc_last w _) Tryd.underlying24 rfl (by kernel_rfl) ?_)
  rw [← HV.out]
  refine (fields_calls p _).mono ?_
  rintro _ w1 ⟨v, rfl, hr, hf⟩
  have HF1 := hid (((Frm.refl M0 w).alloc _).then0 hf)
  have HR := hid (Rd.ofOwns hr)
  clear hr hf
  obtain ⟨a, c, rfl, hsh⟩ := HR.out.shape
  obtain ⟨b, o, rfl⟩ := hsh (by rw [nums_len]; omega)
  clear hsh
  obtain ⟨L, hL⟩ : ∃ L, L = p.nums := ⟨_, rfl⟩
  have HL : Hid (textS p = joinS (words L)) := by rw [hL]; rfl
  have HP : Hid (∀ x ∈ L, -9223372036854775808 ≤ x ∧ x ≤ 9223372036854775807) := by rw [hL]; exact hp
  have hn : L.length = 12 := by rw [hL]; rfl
  rw [← hL] at HR
  rw [← hL, hn]
  have HN := hid hn
  clear hL hp hn
  go_wp2_with fail
  go_loopw [3, 5, 9] (fun v3 _s5 i9 wr => ∃ k : Nat, k ≤ 12 ∧ i9 = .int .i64 k ∧ Hid (wr.ownsRow w1.heap.size 9 1 v3 (words (L.take k)).length (strs (words (L.take k)))) ∧ Hid (Frm M0 w1 wr)) (fun _ _ i _ => 12 - (intOf i).toNat)
  case atStart => exact ⟨0, Nat.zero_le _, rfl, hid (World.ownsRow_nil _ _ _ _), hid (Frm.refl _ _)⟩
  case round =>
    obtain ⟨k, hk, rfl, HO, HF⟩ := hrel
    have hlw : (words (L.take k)).length = k := by rw [words_len, List.length_take, HN.out]; omega
    have HLW := hid hlw; clear hlw
    by_cases hlt : k < 12
    · have hkL : k < L.length := by rw [HN.out]; exact hlt
      obtain ⟨x, HX, hc⟩ := (HR.out.frm0 HF.out).cellAt k hkL
      have hx := HP.out x (List.mem_of_getElem? HX.out)
      have HXB := hid hx
      clear hx hkL
      go_wp2_with fail
      refine (itoa_calls x _ HXB.out.1 HXB.out.2 (HT.out.frm (HF1.out.then0 HF.out))).mono ?_
      rintro _ w2 ⟨rfl, hf⟩
      have HO2 := hid (hf.owns HO.out (fun _ _ h => h))
      have HF2 := hid (HF.out.then0 hf)
      clear hf hc
      go_wp2_with (first | (at_builtin; refine wpList_push_el strs_len strs_one rfl (.tmp 13) (.tmp 16) 62 rfl w1.heap.size 9 (.string ⟨#[]⟩) 16 Tryd.underlying62 (by kernel_rfl) rfl (by decide) _ (words (L.take k)) (str (Lib.itoa x)) #[.string (str (Lib.itoa x))] rfl rfl HO2.out rfl (by rw [HLW.out]; omega) (by rw [HLW.out]; omega) HF2.out.size ?_; intro v3 w3 ho3 hg3; have HO3 := hid ho3; have HG3 := hid hg3; clear ho3 hg3))
      refine ⟨⟨k + 1, by omega, by go_num, hid ?_, hid ?_⟩, by simp [intOf]; omega⟩
      · rw [take_snoc HX.out, ← words_snoc]; exact HO3.out
      · exact HF2.out.grown HG3.out (fun j hj hlt' => absurd (HO2.out.lt j hj).1 (by omega))
    · obtain rfl : k = 12 := by omega
      have ht : L.take 12 = L := List.take_of_length_le (by rw [HN.out]; omega)
      have hR := Rd.ofOwns HO.out
      rw [ht] at hR HLW
      obtain ⟨a3, c3, h3, _⟩ := hR.shape
      have HLB := hid (joinS_size 21 (words L) (words_bound L HP.out))
      have HRR := hid hR
      clear hR ht
      subst h3
      go_wp2_with fail
      refine (join_calls _ (words L) ⟨#[32]⟩ _ HRR.out (by rw [HLW.out]; omega) (by rw [HLW.out]; omega) ?_).mono ?_
      · have := HLB.out
        rw [HLW.out] at this
        exact Nat.le_trans this (by omega)
      rintro _ w3 ⟨rfl, hf⟩
      go_wp2_with fail
      go_ret
      exact ⟨by rw [HL.out]; rfl, (HF1.out.then0 HF.out).then0 hf⟩
end Go.Proofs.YtinbidmgllmglaaDoor
namespace Go.Proofs.YtinbidmgllmglaaDoor
set_option linter.unusedVariables false
set_option linter.unusedSimpArgs false
set_option maxRecDepth 20000
open Go.RowKit

def exS : Sp := ⟨1, 4, 1, 0, 1, 0, 0, 0, 0, 5, 0, 50⟩
def exT : ByteArray := ⟨#[49, 32, 52, 32, 49, 32, 48, 32, 49, 32, 48, 32, 48, 32, 48, 32, 48, 32, 53, 32, 48, 32, 53, 48]⟩
theorem ex_split : splitL exT.data.toList = [[49], [52], [49], [48], [49], [48], [48], [48], [48], [53], [48], [53, 48]] := by decide +kernel
theorem ex_nums : numsW [[49], [52], [49], [48], [49], [48], [48], [48], [48], [53], [48], [53, 48]] = some [1, 4, 1, 0, 1, 0, 0, 0, 0, 5, 0, 50] := by
  have h0 : numF [49] = some 1 := numF_some.2 ⟨by decide, by decide +kernel⟩
  have h1 : numF [52] = some 4 := numF_some.2 ⟨by decide, by decide +kernel⟩
  have h2 : numF [49] = some 1 := numF_some.2 ⟨by decide, by decide +kernel⟩
  have h3 : numF [48] = some 0 := numF_some.2 ⟨by decide, by decide +kernel⟩
  have h4 : numF [49] = some 1 := numF_some.2 ⟨by decide, by decide +kernel⟩
  have h5 : numF [48] = some 0 := numF_some.2 ⟨by decide, by decide +kernel⟩
  have h6 : numF [48] = some 0 := numF_some.2 ⟨by decide, by decide +kernel⟩
  have h7 : numF [48] = some 0 := numF_some.2 ⟨by decide, by decide +kernel⟩
  have h8 : numF [48] = some 0 := numF_some.2 ⟨by decide, by decide +kernel⟩
  have h9 : numF [53] = some 5 := numF_some.2 ⟨by decide, by decide +kernel⟩
  have h10 : numF [48] = some 0 := numF_some.2 ⟨by decide, by decide +kernel⟩
  have h11 : numF [53, 48] = some 50 := numF_some.2 ⟨by decide, by decide +kernel⟩
  simp only [numsW, h0, h1, h2, h3, h4, h5, h6, h7, h8, h9, h10, h11]
theorem ex_read : readS exT = (exS, 0) := by
  unfold readS readL
  rw [ex_split, ex_nums]
  have hc : (Sp.ofL [1, 4, 1, 0, 1, 0, 0, 0, 0, 5, 0, 50]).chkE = 0 := by decide +kernel
  simp only []
  rw [if_pos (by decide), if_pos hc]; rfl
theorem ex_text : textS exS = exT := by decide +kernel
set_option maxRecDepth 20000 in
set_option maxHeartbeats 4000000 in
theorem slives_calls (w : World) (hg : Glob w) : Calls Tryd.prog 20 #[] w fun e w' => e = .returned (.bool true) ∧ Frm M0 w w' := by
  have HV : Hid (exS.val = .agg #[.int .i64 1, .int .i64 4, .int .i64 1, .int .i64 0, .int .i64 1, .int .i64 0, .int .i64 0, .int .i64 0, .int .i64 0, .int .i64 5, .int .i64 0, .int .i64 50]) := rfl
  have HR := hid (sread_calls exT w (by decide) hg)
  rw [ex_read] at HR
  have HT : Hid (∀ wx, Frm M0 w wx → Calls Tryd.prog 24 #[exS.val] wx fun e w' => e = .returned (.string ⟨#[49, 32, 52, 32, 49, 32, 48, 32, 49, 32, 48, 32, 48, 32, 48, 32, 48, 32, 53, 32, 48, 32, 53, 48]⟩) ∧ Frm M0 wx w') := hid fun wx hx => by
    have := stext_calls exS wx (hg.frm hx).tab (by unfold Sp.small; decide)
    rw [ex_text] at this
    exact this
  rw [HV.out] at HT
  clear hg
  go_enter Tryd.func20, Tryd.ntmps20
  go_wp2_with fail
  refine HR.out.mono ?_
  rintro _ w1 ⟨rfl, hf⟩
  rw [HV.out]
  have HZ1 := hid (new1 w1 (.cells #[.int .i64 0, .int .i64 0, .int .i64 0, .int .i64 0, .int .i64 0, .int .i64 0, .int .i64 0, .int .i64 0, .int .i64 0, .int .i64 0, .int .i64 0, .int .i64 0] 24))
  have HF := hid hf
  clear hf
  go_upto_region 2 with (refine wpList_store_row rfl 24 (.tmp 1) (.tmp 5) (by with_reducible rfl) w1.heap.size #[.int .i64 1, .int .i64 4, .int .i64 1, .int .i64 0, .int .i64 1, .int .i64 0, .int .i64 0, .int .i64 0, .int .i64 0, .int .i64 5, .int .i64 0, .int .i64 50] (by kernel_rfl) (by kernel_rfl) _ _ HZ1.out (by kernel_rfl) (by rfl) (by simp [Value.oneCell']) ?_)
  have hfr := ((Frm.refl M0 w1).alloc (.cells #[.int .i64 0, .int .i64 0, .int .i64 0, .int .i64 0, .int .i64 0, .int .i64 0, .int .i64 0, .int .i64 0, .int .i64 0, .int .i64 0, .int .i64 0, .int .i64 0] 24)).setRow w1.heap.size #[.int .i64 1, .int .i64 4, .int .i64 1, .int .i64 0, .int .i64 1, .int .i64 0, .int .i64 0, .int .i64 0, .int .i64 0, .int .i64 5, .int .i64 0, .int .i64 50] (Nat.le_refl _)
  have hP3 := setRow_heap _ w1.heap.size _ #[.int .i64 1, .int .i64 4, .int .i64 1, .int .i64 0, .int .i64 1, .int .i64 0, .int .i64 0, .int .i64 0, .int .i64 0, .int .i64 5, .int .i64 0, .int .i64 50] _ _ HZ1.out
  obtain ⟨g, hg⟩ : ∃ x, x = w1.heap.size := ⟨_, rfl⟩
  obtain ⟨w3, hw3⟩ : ∃ x, x = (w1.alloc (.cells #[.int .i64 0, .int .i64 0, .int .i64 0, .int .i64 0, .int .i64 0, .int .i64 0, .int .i64 0, .int .i64 0, .int .i64 0, .int .i64 0, .int .i64 0, .int .i64 0] 24)).setRow w1.heap.size #[.int .i64 1, .int .i64 4, .int .i64 1, .int .i64 0, .int .i64 1, .int .i64 0, .int .i64 0, .int .i64 0, .int .i64 0, .int .i64 5, .int .i64 0, .int .i64 50] := ⟨_, rfl⟩
  rw [← hw3] at hfr hP3
  rw [← hw3]
  rw [← hg] at hP3 ⊢
  have S4 : Hid (Sb M0 w3 fun x => x.heap[g]? = some (.cells #[.int .i64 1, .int .i64 4, .int .i64 1, .int .i64 0, .int .i64 1, .int .i64 0, .int .i64 0, .int .i64 0, .int .i64 0, .int .i64 5, .int .i64 0, .int .i64 50] 24 (0, 0)) ∧ Frm M0 w x) := hid fun wx hx => ⟨hx.heap hP3 (fun h => h), (HF.out.then0 hfr).same hx⟩
  clear hw3 hfr HZ1 hP3 hg HF
  have c1 := sb_cell S4.out.now.1 1
  have c2 := sb_cell S4.out.now.1 11
  go_wp2_with (refine wpList_load_row_w (by kernel_rfl) 24 (.tmp 1) (by with_reducible rfl) g (by kernel_rfl) _ _ _ _ S4.out.now.1 Tryd.underlying24 rfl (by kernel_rfl) ?_)
  clear c1 c2
  refine (HT.out _ S4.out.now.2).mono ?_
  rintro _ w4 ⟨rfl, hf⟩
  have S5 := hid (S4.out.step hf)
  clear hf S4
  go_wp2_with (refine wpList_load_row_w (by kernel_rfl) 24 (.tmp 1) (by with_reducible rfl) g (by kernel_rfl) _ _ _ _ S5.out.now.1 Tryd.underlying24 rfl (by kernel_rfl) ?_)
  rw [← HV.out]
  refine (fields_calls exS _).mono ?_
  rintro _ w5 ⟨v, rfl, hr, hf⟩
  rw [HV.out]
  have hr2 := Rd.ofOwns hr
  obtain ⟨a, c, rfl, _⟩ := hr2.shape
  have S6 := hid (S5.out.step hf)
  have HL : Hid (exS.nums.length = 12) := rfl
  rw [HL.out]
  clear hf S5 hr hr2
  go_wp2_with fail
  go_ret
  exact ⟨rfl, S6.out.now.2⟩
end Go.Proofs.YtinbidmgllmglaaDoor
namespace Go.Proofs.YtinbidmgllmglaaDoor
set_option linter.unusedVariables false
set_option linter.unusedSimpArgs false
set_option maxRecDepth 20000
open Go.RowKit

theorem mn_if (x y : Int) : (if y < x then y else x) = min x y := by omega
theorem mx_if (x y : Int) : (if x < y then y else x) = max x y := by omega
theorem run_mn2 {P : Program} (w : World) (ts : Array TypeId) (t : TypeId) (a b : Int) :
    (Builtin.min_ ts t #[.int .i64 a, .int .i64 b]).run P w = .ok (.int .i64 (min a b)) w := by
  simp only [Builtin.min_, List.foldlM_cons, List.foldlM_nil, Builtin.min2, mn_if, Sem.run_bind, Sem.run_pure, Result.andThen_ok]
theorem run_mx2 {P : Program} (w : World) (ts : Array TypeId) (t : TypeId) (a b : Int) :
    (Builtin.max_ ts t #[.int .i64 a, .int .i64 b]).run P w = .ok (.int .i64 (max a b)) w := by
  simp only [Builtin.max_, List.foldlM_cons, List.foldlM_nil, Builtin.max2, mx_if, Sem.run_bind, Sem.run_pure, Result.andThen_ok]
end Go.Proofs.YtinbidmgllmglaaDoor
namespace Go.Proofs.YtinbidmgllmglaaDoor
set_option linter.unusedVariables false
set_option linter.unusedSimpArgs false
set_option maxRecDepth 20000
open Go.RowKit

attribute [-go_sem] run_max_int2 run_min_int2
attribute [local go_sem] run_mn2 run_mx2
def cutF (n : Int) : Int := min (max n 0) 1048576
theorem cutF_bd (n : Int) : 0 ≤ cutF n ∧ cutF n ≤ 1048576 := by unfold cutF; omega
theorem cut_calls (n : Int) (w : World) : Calls Tryd.prog 87 #[.int .i64 n] w fun e w' => e = .returned (.int .i64 (cutF n)) ∧ w = w' := by
  go_enter Tryd.func87, Tryd.ntmps87
  go_wp2_with fail
  go_ret
  exact ⟨rfl, rfl⟩
def leastF (d m : Int) : Int := max (cutF d - cutF m) 0
theorem leastF_bd (d m : Int) : 0 ≤ leastF d m ∧ leastF d m ≤ 1048576 := by
  have := cutF_bd d; have := cutF_bd m; unfold leastF; omega
theorem least_calls (d m : Int) (w : World) : Calls Tryd.prog 86 #[.int .i64 d, .int .i64 m] w fun e w' => e = .returned (.int .i64 (leastF d m)) ∧ w = w' := by
  have h1 := cutF_bd d
  have h2 := cutF_bd m
  have HE : Hid (leastF d m = max (cutF d - cutF m) 0) := rfl
  go_enter Tryd.func86, Tryd.ntmps86
  go_wp2_with fail
  refine (cut_calls d _).mono ?_
  rintro _ w1 ⟨rfl, rfl⟩
  go_wp2_with fail
  refine (cut_calls m _).mono ?_
  rintro _ w1 ⟨rfl, rfl⟩
  go_wp2_with fail
  go_ret
  exact ⟨by rw [HE.out]; rfl, rfl⟩
def needF (r d m : Int) : Int := max (leastF d m - cutF r) 0
theorem need_calls (r d m : Int) (w : World) : Calls Tryd.prog 57 #[.int .i64 r, .int .i64 d, .int .i64 m] w fun e w' => e = .returned (.int .i64 (needF r d m)) ∧ w = w' := by
  have h1 := leastF_bd d m
  have h2 := cutF_bd r
  have HE : Hid (needF r d m = max (leastF d m - cutF r) 0) := rfl
  go_enter Tryd.func57, Tryd.ntmps57
  go_wp2_with fail
  refine (least_calls d m _).mono ?_
  rintro _ w1 ⟨rfl, rfl⟩
  go_wp2_with fail
  refine (cut_calls r _).mono ?_
  rintro _ w1 ⟨rfl, rfl⟩
  go_wp2_with fail
  go_ret
  exact ⟨by rw [HE.out]; rfl, rfl⟩
def roomF (t d m : Int) : Int := max (cutF d + cutF m - cutF t) 0
theorem room_calls (t d m : Int) (w : World) : Calls Tryd.prog 58 #[.int .i64 t, .int .i64 d, .int .i64 m] w fun e w' => e = .returned (.int .i64 (roomF t d m)) ∧ w = w' := by
  have h1 := cutF_bd d
  have h2 := cutF_bd m
  have h3 := cutF_bd t
  have HE : Hid (roomF t d m = max (cutF d + cutF m - cutF t) 0) := rfl
  go_enter Tryd.func58, Tryd.ntmps58
  go_wp2_with fail
  refine (cut_calls d _).mono ?_
  rintro _ w1 ⟨rfl, rfl⟩
  go_wp2_with fail
  refine (cut_calls m _).mono ?_
  rintro _ w1 ⟨rfl, rfl⟩
  go_wp2_with fail
  refine (cut_calls t _).mono ?_
  rintro _ w1 ⟨rfl, rfl⟩
  go_wp2_with fail
  go_ret
  exact ⟨by rw [HE.out]; rfl, rfl⟩

theorem budget_calls (p : Sp) (w : World) : Calls Tryd.prog 30 #[p.val] w fun e w' => e = .returned (.tuple #[.int .i64 (needF 0 p.s1 p.s3), .int .i64 (roomF 0 p.s1 p.s2)]) ∧ Frm M0 w w' := by
  have HV : Hid (p.val = .agg #[.int .i64 p.s0, .int .i64 p.s1, .int .i64 p.s2, .int .i64 p.s3, .int .i64 p.s4, .int .i64 p.s5, .int .i64 p.s6, .int .i64 p.s7, .int .i64 p.s8, .int .i64 p.s9, .int .i64 p.s10, .int .i64 p.s11]) := rfl
  rw [HV.out]
  go_enter Tryd.func30, Tryd.ntmps30
  go_wp2_with fail
  have S1 : Hid (Sb M0 (w.alloc (.cells #[.int .i64 p.s0, .int .i64 p.s1, .int .i64 p.s2, .int .i64 p.s3, .int .i64 p.s4, .int .i64 p.s5, .int .i64 p.s6, .int .i64 p.s7, .int .i64 p.s8, .int .i64 p.s9, .int .i64 p.s10, .int .i64 p.s11] 24)) fun x => x.heap[w.heap.size]? = some (.cells #[.int .i64 p.s0, .int .i64 p.s1, .int .i64 p.s2, .int .i64 p.s3, .int .i64 p.s4, .int .i64 p.s5, .int .i64 p.s6, .int .i64 p.s7, .int .i64 p.s8, .int .i64 p.s9, .int .i64 p.s10, .int .i64 p.s11] 24 (0, 0)) ∧ Frm M0 w x) :=
    hid fun wx hx => ⟨hx.heap (new1 w _) (fun h => h), ((Frm.refl M0 w).alloc _).same hx⟩
  obtain ⟨b, hb⟩ : ∃ x, x = w.heap.size := ⟨_, rfl⟩
  obtain ⟨w1, hw1⟩ : ∃ x, x = w.alloc (.cells #[.int .i64 p.s0, .int .i64 p.s1, .int .i64 p.s2, .int .i64 p.s3, .int .i64 p.s4, .int .i64 p.s5, .int .i64 p.s6, .int .i64 p.s7, .int .i64 p.s8, .int .i64 p.s9, .int .i64 p.s10, .int .i64 p.s11] 24) := ⟨_, rfl⟩
  rw [← hw1, ← hb] at S1
  rw [← hw1, ← hb]
  clear hw1 hb
  apply wp_region_G 11 (fun _ => none) (valsL (_ :: _ :: _ :: _ :: _ :: _ :: _ :: _ :: _ :: _ :: _ :: [])) ?hm ?hB ?hal ?main
  case hm => kernel_rfl
  case hB => kernel_rfl
  case hal =>
    intro i o obj ho hi
    cases hi
  rotate_left 11
  intro ops QT HO HQ
  obtain ⟨ho0, HO⟩ := HO
  refine wpG_v ho0.out rfl ?_ ?_
  · simp only [valsL_zero, valsL_succ]; apply FY_in rfl; intro wx hx
    go_simp
    exact ⟨rfl, rfl⟩
  simp only [Act.put, List.setIfInBounds_toArray, List.set_cons_zero, List.set_cons_succ, valsL_zero, valsL_succ]
  obtain ⟨ho1, HO⟩ := HO
  refine wpG_v ho1.out rfl ?_ ?_
  · simp only [valsL_zero, valsL_succ]; apply FY_in rfl; intro wx hx
    have hc0 := sb_cell ((S1.out wx hx).1)
    go_simp
    exact ⟨rfl, rfl⟩
  simp only [Act.put, List.setIfInBounds_toArray, List.set_cons_zero, List.set_cons_succ, valsL_zero, valsL_succ]
  obtain ⟨ho2, HO⟩ := HO
  refine wpG_v ho2.out rfl ?_ ?_
  · simp only [valsL_zero, valsL_succ]; apply FY_in rfl; intro wx hx
    go_simp
    exact ⟨rfl, rfl⟩
  simp only [Act.put, List.setIfInBounds_toArray, List.set_cons_zero, List.set_cons_succ, valsL_zero, valsL_succ]
  obtain ⟨ho3, HO⟩ := HO
  refine wpG_v ho3.out rfl ?_ ?_
  · simp only [valsL_zero, valsL_succ]; apply FY_in rfl; intro wx hx
    have hc0 := sb_cell ((S1.out wx hx).1)
    go_simp
    exact ⟨rfl, rfl⟩
  simp only [Act.put, List.setIfInBounds_toArray, List.set_cons_zero, List.set_cons_succ, valsL_zero, valsL_succ]
  obtain ⟨ho4, HO⟩ := HO
  refine wpG_v ho4.out rfl ?_ ?_
  · simp only [valsL_zero, valsL_succ]; apply FY_in rfl; intro wx hx
    go_simp
    exact ⟨rfl, (need_calls _ _ _ _).mono (fun e w' h => ⟨h.1, by rw [h.2]; exact Frm.refl _ _⟩)⟩
  simp only [Act.put, List.setIfInBounds_toArray, List.set_cons_zero, List.set_cons_succ, valsL_zero, valsL_succ]
  obtain ⟨ho5, HO⟩ := HO
  refine wpG_v ho5.out rfl ?_ ?_
  · simp only [valsL_zero, valsL_succ]; apply FY_in rfl; intro wx hx
    go_simp
    exact ⟨rfl, rfl⟩
  simp only [Act.put, List.setIfInBounds_toArray, List.set_cons_zero, List.set_cons_succ, valsL_zero, valsL_succ]
  obtain ⟨ho6, HO⟩ := HO
  refine wpG_v ho6.out rfl ?_ ?_
  · simp only [valsL_zero, valsL_succ]; apply FY_in rfl; intro wx hx
    have hc0 := sb_cell ((S1.out wx hx).1)
    go_simp
    exact ⟨rfl, rfl⟩
  simp only [Act.put, List.setIfInBounds_toArray, List.set_cons_zero, List.set_cons_succ, valsL_zero, valsL_succ]
  obtain ⟨ho7, HO⟩ := HO
  refine wpG_v ho7.out rfl ?_ ?_
  · simp only [valsL_zero, valsL_succ]; apply FY_in rfl; intro wx hx
    go_simp
    exact ⟨rfl, rfl⟩
  simp only [Act.put, List.setIfInBounds_toArray, List.set_cons_zero, List.set_cons_succ, valsL_zero, valsL_succ]
  obtain ⟨ho8, HO⟩ := HO
  refine wpG_v ho8.out rfl ?_ ?_
  · simp only [valsL_zero, valsL_succ]; apply FY_in rfl; intro wx hx
    have hc0 := sb_cell ((S1.out wx hx).1)
    go_simp
    exact ⟨rfl, rfl⟩
  simp only [Act.put, List.setIfInBounds_toArray, List.set_cons_zero, List.set_cons_succ, valsL_zero, valsL_succ]
  obtain ⟨ho9, HO⟩ := HO
  refine wpG_v ho9.out rfl ?_ ?_
  · simp only [valsL_zero, valsL_succ]; apply FY_in rfl; intro wx hx
    go_simp
    exact ⟨rfl, (room_calls _ _ _ _).mono (fun e w' h => ⟨h.1, by rw [h.2]; exact Frm.refl _ _⟩)⟩
  simp only [Act.put, List.setIfInBounds_toArray, List.set_cons_zero, List.set_cons_succ, valsL_zero, valsL_succ]
  obtain ⟨ho10, HO⟩ := HO
  refine wpG_v ho10.out rfl ?_ ?_
  · simp only [valsL_zero, valsL_succ]; apply FY_in rfl; intro wx hx
    go_simp
    exact ⟨rfl, rfl⟩
  simp only [Act.put, List.setIfInBounds_toArray, List.set_cons_zero, List.set_cons_succ, valsL_zero, valsL_succ]
  refine HQ.out _ _ ?_
  intro wr hf hE hN
  simp only [List.drop_succ_cons, List.drop_zero]
  clear HQ HO hE hN ho0 ho1 ho2 ho3 ho4 ho5 ho6 ho7 ho8 ho9 ho10
  have HF := hid ((S1.out.step hf).now.2)
  clear hf
  go_wp2_with fail
  go_ret2
  exact ⟨rfl, HF.out⟩
/-- The steps that there are. -/
def stepsL (p : Sp) : List Int := [p.s5, p.s6, p.s7, p.s8]
def stepsF (p : Sp) : List Int := (stepsL p).takeWhile (fun n => n != 0)
theorem takeW_end {l : List Int} {k : Nat} (h : ∀ x ∈ l.take k, x ≠ 0) (hk : l[k]? = some 0) : l.takeWhile (fun n => n != 0) = l.take k := by
  induction l generalizing k with
  | nil => simp at hk
  | cons a l ih =>
    rcases k with _ | k
    · simp only [List.getElem?_cons_zero, Option.some.injEq] at hk
      subst hk; simp
    · have ha : a ≠ 0 := h a (by simp)
      rw [List.takeWhile_cons, List.take_succ_cons, if_pos (by simpa using ha), ih (k := k) (fun x hx => h x (by rw [List.take_succ_cons]; exact List.mem_cons_of_mem _ hx)) (by simpa using hk)]
theorem takeW_all {l : List Int} (h : ∀ x ∈ l, x ≠ 0) : l.takeWhile (fun n => n != 0) = l := by
  induction l with
  | nil => rfl
  | cons a l ih => rw [List.takeWhile_cons, if_pos (by simpa using h a (by simp)), ih (fun x hx => h x (by simp [hx]))]
set_option maxRecDepth 20000 in
set_option maxHeartbeats 4000000 in
theorem steps_calls (p : Sp) (w : World) : Calls Tryd.prog 31 #[p.val] w fun r w' => ∃ v, r = .returned v ∧ w'.ownsRow w.heap.size 3 1 v (stepsF p).length (ints .i64 (stepsF p)) ∧ Frm M0 w w' := by
  have HV : Hid (p.val = .agg #[.int .i64 p.s0, .int .i64 p.s1, .int .i64 p.s2, .int .i64 p.s3, .int .i64 p.s4, .int .i64 p.s5, .int .i64 p.s6, .int .i64 p.s7, .int .i64 p.s8, .int .i64 p.s9, .int .i64 p.s10, .int .i64 p.s11]) := rfl
  rw [HV.out]
  have HSL : Hid (stepsL p = [p.s5, p.s6, p.s7, p.s8]) := rfl
  obtain ⟨SF, HSF⟩ : ∃ x, Hid (stepsF p = x) := ⟨_, rfl⟩
  rw [HSF.out]
  have H0 := hid (new1 w (.cells #[.int .i64 p.s0, .int .i64 p.s1, .int .i64 p.s2, .int .i64 p.s3, .int .i64 p.s4, .int .i64 p.s5, .int .i64 p.s6, .int .i64 p.s7, .int .i64 p.s8, .int .i64 p.s9, .int .i64 p.s10, .int .i64 p.s11] 24))
  go_enter Tryd.func31, Tryd.ntmps31
  go_wp2_with (refine wpList_load_at (by kernel_rfl) 22 (.tmp 6) (by with_reducible rfl) w.heap.size 5 (by kernel_rfl) _ _ _ H0.out #[.int .i64 p.s5, .int .i64 p.s6, .int .i64 p.s7, .int .i64 p.s8] (by rfl) (by decide) _ Tryd.underlying22 rfl (by kernel_rfl) ?_)
  have HF0 := hid ((Frm.refl M0 w).alloc (.cells #[.int .i64 p.s0, .int .i64 p.s1, .int .i64 p.s2, .int .i64 p.s3, .int .i64 p.s4, .int .i64 p.s5, .int .i64 p.s6, .int .i64 p.s7, .int .i64 p.s8, .int .i64 p.s9, .int .i64 p.s10, .int .i64 p.s11] 24))
  obtain ⟨w1, hw1⟩ : ∃ x, x = w.alloc (.cells #[.int .i64 p.s0, .int .i64 p.s1, .int .i64 p.s2, .int .i64 p.s3, .int .i64 p.s4, .int .i64 p.s5, .int .i64 p.s6, .int .i64 p.s7, .int .i64 p.s8, .int .i64 p.s9, .int .i64 p.s10, .int .i64 p.s11] 24) := ⟨_, rfl⟩
  rw [← hw1] at HF0
  rw [← hw1]
  clear hw1 H0
  go_loopw [3, 8] (fun v3 i8 wr => ∃ k : Nat, k ≤ 4 ∧ i8 = .int .i64 k ∧ Hid (∀ x ∈ (stepsL p).take k, x ≠ 0) ∧ Hid (wr.ownsRow w1.heap.size 3 1 v3 ((stepsL p).take k).length (ints .i64 ((stepsL p).take k))) ∧ Hid (Frm M0 w1 wr)) (fun _ i _ => 4 - (intOf i).toNat)
  case atStart => exact ⟨0, by omega, rfl, hid (by simp), hid (World.ownsRow_nil _ _ _ _), hid (Frm.refl _ _)⟩
  case round =>
    obtain ⟨k, hk, rfl, HNZ, HO, HF⟩ := hrel
    have HLN : Hid (((stepsL p).take k).length = k) := hid (by rw [List.length_take, HSL.out]; simp; omega)
    by_cases hlt : k < 4
    · obtain ⟨x, HX⟩ : ∃ x, Hid ((stepsL p)[k]? = some x) := ⟨(stepsL p)[k]'(by rw [HSL.out]; simpa using hlt), hid (List.getElem?_eq_getElem _)⟩
      have HXV : Hid (#[Value.int .i64 p.s5, .int .i64 p.s6, .int .i64 p.s7, .int .i64 p.s8][k]? = some (.int .i64 x)) := hid (by
        show (((stepsL p).map (Value.int .i64)).toArray)[k]? = _
        rw [List.getElem?_toArray, List.getElem?_map, HX.out]; rfl)
      by_cases hx : x = 0
      · subst hx
        go_wp2_with (refine wpList_index rfl 22 3 (.tmp 7) (.tmp 8) (by with_reducible rfl) Tryd.underlying22 Tryd.underlying3 rfl (by kernel_rfl) _ rfl .i64 k rfl hlt (.int .i64 0) HXV.out ?_)
        go_ret
        have e : SF = (stepsL p).take k := by rw [← HSF.out]; exact takeW_end HNZ.out HX.out
        rw [e]
        exact ⟨_, rfl, owns_base HO.out HF0.out.size, HF0.out.then0 HF.out⟩
      · have hx' : (x == 0) = false := by simpa using hx
        have HXN := hid hx
        clear hx
        go_wp2_with (first | (refine wpList_index rfl 22 3 (.tmp 7) (.tmp 8) (by with_reducible rfl) Tryd.underlying22 Tryd.underlying3 rfl (by kernel_rfl) _ rfl .i64 k rfl hlt (.int .i64 x) HXV.out ?_) | (at_builtin; refine wpList_push_int rfl (.tmp 13) (.tmp 15) 43 rfl w1.heap.size 3 .i64 8 Tryd.underlying43 infoI _ ((stepsL p).take k) x rfl HO.out rfl (by rw [HLN.out]; unfold maxLen; omega) (by rw [HLN.out]; omega) HF.out.size ?_; intro v3 w3 ho3 hg3; have HO3 := hid ho3; have HG3 := hid hg3; clear ho3 hg3))
        refine ⟨⟨k + 1, by omega, by go_num, hid ?_, hid ?_, hid (HF.out.grown HG3.out (fun j hj hlt' => absurd (HO.out.lt j hj).1 (by omega)))⟩, by simp [intOf]; omega⟩
        · rw [take_snoc HX.out]
          intro y hy
          rcases List.mem_append.1 hy with h | h
          · exact HNZ.out y h
          · simp at h; subst h; exact HXN.out
        · rw [take_snoc HX.out]; exact HO3.out
    · obtain rfl : k = 4 := by omega
      have e : (stepsL p).take 4 = stepsL p := List.take_of_length_le (by rw [HSL.out]; simp)
      have hNZ := HNZ.out
      have hO := HO.out
      rw [e] at hNZ hO
      have e2 : SF = stepsL p := by rw [← HSF.out]; exact takeW_all hNZ
      rw [← e2] at hO
      have HOO := hid hO
      clear hO hNZ HO HNZ HLN e e2
      go_wp2_with fail
      go_ret
      exact ⟨_, rfl, owns_base HOO.out HF0.out.size, HF0.out.then0 HF.out⟩
end Go.Proofs.YtinbidmgllmglaaDoor
namespace Go.Proofs.YtinbidmgllmglaaDoor
set_option linter.unusedVariables false
set_option linter.unusedSimpArgs false
set_option maxRecDepth 20000
open Go.RowKit

section
variable {P : Program}
theorem wpList_store_v {ops : Array Oper} {rest : List Oper} {op : Oper} {a : Act} {w : World} {Q : Exit → Act → World → Prop} (hw : Region.wanted op (yielded ops a.tmps) = true) (ty : TypeId) (x y : Operand) (ho : op.op = .store ty x y)
    (g o : Nat) (hx : a.eval x = .pointer (some ⟨g, o, none⟩)) (u : Value) (hy : a.eval y = u) (cs : Array Value) (hcs : u.cells = cs) (t : TypeId) (cur : Array Value) (hg : w.heap[g]? = some (.cells cur t (0, 0)))
    (hi : (P.info? ty).map (·.size) = some cs.size) (hl : o + cs.size ≤ cur.size) (h1 : cs.all (·.oneCell') = true)
    (h : ∀ w', w'.heap[g]? = some (.cells (putL cur o cs.toList) t (0, 0)) → Frm (fun x => x = g) w w' → wpList P ops Q rest (a.put op.dst undef) w') : wpList P ops Q (op :: rest) a w := by
  refine BigFrame.wpList_want hw fun K hK => ?_
  obtain ⟨w', h2, h3, h4⟩ := run_storeCells_off (P := P) g o t cs.toList 0 cur w hg (by simpa using hl) (fun v hv => (Array.all_eq_true_iff_forall_mem.1 h1) v (by simpa using hv))
  have hst : (storeVar ty ⟨g, o, none⟩ u).run P w = .ok () w' := by
    cases hq : P.info? ty with
    | none => simp [hq] at hi
    | some i =>
      have hs : cs.size = i.size := by simp [hq] at hi; omega
      simp [storeVar, sizeOf, typeInfo, hq, hcs, hs, h2]
  unfold Oper.wp execOp
  simp only [ho, hx, hy, Instr.storeAt, Instr.sureAddr, Sem.run_bind, Sem.run_pure, Result.andThen_ok, hst]
  exact hK _ _ (h w' h3 h4)
theorem wpList_load_v {ops : Array Oper} {rest : List Oper} {op : Oper} {a : Act} {w : World} {Q : Exit → Act → World → Prop} (hw : Region.wanted op (yielded ops a.tmps) = true) (ty : TypeId) (x : Operand) (ho : op.op = .load ty x)
    (g o : Nat) (hx : a.eval x = .pointer (some ⟨g, o, none⟩)) (t : TypeId) (cur : Array Value) (fr : Nat × Nat) (hg : w.heap[g]? = some (.cells cur t fr)) (v : Value) (hv : cur[o]? = some v)
    (d : TypeDesc) (hu : P.underlying ty = some d) (hd : (match d with | .struct _ | .array _ _ => false | _ => true) = true)
    (h : wpList P ops Q rest (a.put op.dst v) w) : wpList P ops Q (op :: rest) a w := by
  refine BigFrame.wpList_want hw fun K hK => ?_
  have hc : w.cell? ⟨g, o, none⟩ = some v := by simp [World.cell?, hg, hv]
  have hagg : (isAgg ty).run P w = .ok false w := by
    unfold isAgg
    rw [Sem.run_bind, run_underlying hu w]
    cases d <;> simp_all
  have hrun : (loadVar ty ⟨g, o, none⟩).run P w = .ok v w := by
    simp [loadVar, Sem.run_bind, hagg, go_sem, hc]
  unfold Oper.wp execOp
  simp only [ho, hx, Instr.loadAt, Instr.sureAddr, Sem.run_bind, Sem.run_pure, Result.andThen_ok, hrun]
  exact hK _ _ h
end
end Go.Proofs.YtinbidmgllmglaaDoor
namespace Go.Proofs.YtinbidmgllmglaaDoor
set_option linter.unusedVariables false
set_option linter.unusedSimpArgs false
set_option maxRecDepth 20000
open Go.RowKit

def gSurge (p : Sp) : Int := if nearF p.s4 0 3 = 2 then nearF p.s1 1 5 + nearF p.s2 0 2 else nearF p.s2 0 4
def gUn (p : Sp) : Int := if gSurge p = 0 ∧ nearF p.s3 0 (nearF p.s1 1 5 + 1) = 0 then 1 else nearF p.s3 0 (nearF p.s1 1 5 + 1)
/-- The steps that a strategy's numbers make. -/
def gSteps (s n0 n1 n2 n3 : Int) : Int × Int × Int × Int :=
  if s = 0 then
    (if n1 = 0 ∨ 100 < n0 + n1 then (n0, 0, 0, 0) else
      (if n2 = 0 ∨ 100 < n0 + n1 + n2 then (n0, n0 + n1, 0, 0) else
        (if n3 = 0 ∨ 100 < n0 + n1 + n2 + n3 then (n0, n0 + n1, n0 + n1 + n2, 0) else (n0, n0 + n1, n0 + n1 + n2, n0 + n1 + n2 + n3))))
  else (0, 0, 0, 0)
def gSt (p : Sp) : Int × Int × Int × Int := gSteps (nearF p.s4 0 3) (nearF p.s5 0 60 + 1) (nearF p.s6 0 60) (nearF p.s7 0 60) (nearF p.s8 0 60)
def goodSp (p : Sp) : Sp := ⟨nearF p.s0 1 6, nearF p.s1 1 5, gSurge p, gUn p, nearF p.s4 0 3, (gSt p).1, (gSt p).2.1, (gSt p).2.2.1, (gSt p).2.2.2, nearF p.s9 1 9, nearF p.s10 0 4, nearF p.s11 1 60⟩
theorem near_bd {n least many : Int} (h : 0 < many) : least ≤ nearF n least many ∧ nearF n least many < least + many := by
  unfold nearF
  have h1 := Int.emod_nonneg (n % 18446744073709551616) (show many ≠ 0 by omega)
  have h2 := Int.emod_lt_of_pos (n % 18446744073709551616) h
  omega

set_option maxRecDepth 100000 in
set_option maxHeartbeats 8000000 in
attribute [local go_sem] FUpon in
theorem sgood_calls (p : Sp) (w : World) : Calls Tryd.prog 23 #[p.val] w fun x w' => x = .returned (goodSp p).val ∧ Frm M0 w w' := by
  obtain ⟨ver, Kver⟩ : ∃ x, Hid (nearF p.s0 1 6 = x) := ⟨_, rfl⟩
  have bver : 1 ≤ ver ∧ ver < 7 := by have := near_bd (n := p.s0) (least := 1) (many := 6) (by omega); have e := Kver.out; rw [e] at this; omega
  obtain ⟨lver, uver⟩ := bver
  obtain ⟨des, Kdes⟩ : ∃ x, Hid (nearF p.s1 1 5 = x) := ⟨_, rfl⟩
  have bdes : 1 ≤ des ∧ des < 6 := by have := near_bd (n := p.s1) (least := 1) (many := 5) (by omega); have e := Kdes.out; rw [e] at this; omega
  obtain ⟨ldes, udes⟩ := bdes
  obtain ⟨str, Kstr⟩ : ∃ x, Hid (nearF p.s4 0 3 = x) := ⟨_, rfl⟩
  have bstr : 0 ≤ str ∧ str < 3 := by have := near_bd (n := p.s4) (least := 0) (many := 3) (by omega); have e := Kstr.out; rw [e] at this; omega
  obtain ⟨lstr, ustr⟩ := bstr
  obtain ⟨su0, Ksu0⟩ : ∃ x, Hid (nearF p.s2 0 4 = x) := ⟨_, rfl⟩
  have bsu0 : 0 ≤ su0 ∧ su0 < 4 := by have := near_bd (n := p.s2) (least := 0) (many := 4) (by omega); have e := Ksu0.out; rw [e] at this; omega
  obtain ⟨lsu0, usu0⟩ := bsu0
  obtain ⟨su1, Ksu1⟩ : ∃ x, Hid (nearF p.s2 0 2 = x) := ⟨_, rfl⟩
  have bsu1 : 0 ≤ su1 ∧ su1 < 2 := by have := near_bd (n := p.s2) (least := 0) (many := 2) (by omega); have e := Ksu1.out; rw [e] at this; omega
  obtain ⟨lsu1, usu1⟩ := bsu1
  obtain ⟨m0, Km0⟩ : ∃ x, Hid (nearF p.s5 0 60 = x) := ⟨_, rfl⟩
  have bm0 : 0 ≤ m0 ∧ m0 < 60 := by have := near_bd (n := p.s5) (least := 0) (many := 60) (by omega); have e := Km0.out; rw [e] at this; omega
  obtain ⟨lm0, um0⟩ := bm0
  obtain ⟨n1, Kn1⟩ : ∃ x, Hid (nearF p.s6 0 60 = x) := ⟨_, rfl⟩
  have bn1 : 0 ≤ n1 ∧ n1 < 60 := by have := near_bd (n := p.s6) (least := 0) (many := 60) (by omega); have e := Kn1.out; rw [e] at this; omega
  obtain ⟨ln1, un1⟩ := bn1
  obtain ⟨n2, Kn2⟩ : ∃ x, Hid (nearF p.s7 0 60 = x) := ⟨_, rfl⟩
  have bn2 : 0 ≤ n2 ∧ n2 < 60 := by have := near_bd (n := p.s7) (least := 0) (many := 60) (by omega); have e := Kn2.out; rw [e] at this; omega
  obtain ⟨ln2, un2⟩ := bn2
  obtain ⟨n3, Kn3⟩ : ∃ x, Hid (nearF p.s8 0 60 = x) := ⟨_, rfl⟩
  have bn3 : 0 ≤ n3 ∧ n3 < 60 := by have := near_bd (n := p.s8) (least := 0) (many := 60) (by omega); have e := Kn3.out; rw [e] at this; omega
  obtain ⟨ln3, un3⟩ := bn3
  obtain ⟨win, Kwin⟩ : ∃ x, Hid (nearF p.s9 1 9 = x) := ⟨_, rfl⟩
  have bwin : 1 ≤ win ∧ win < 10 := by have := near_bd (n := p.s9) (least := 1) (many := 9) (by omega); have e := Kwin.out; rw [e] at this; omega
  obtain ⟨lwin, uwin⟩ := bwin
  obtain ⟨mb, Kmb⟩ : ∃ x, Hid (nearF p.s10 0 4 = x) := ⟨_, rfl⟩
  have bmb : 0 ≤ mb ∧ mb < 4 := by have := near_bd (n := p.s10) (least := 0) (many := 4) (by omega); have e := Kmb.out; rw [e] at this; omega
  obtain ⟨lmb, umb⟩ := bmb
  obtain ⟨dl, Kdl⟩ : ∃ x, Hid (nearF p.s11 1 60 = x) := ⟨_, rfl⟩
  have bdl : 1 ≤ dl ∧ dl < 61 := by have := near_bd (n := p.s11) (least := 1) (many := 60) (by omega); have e := Kdl.out; rw [e] at this; omega
  obtain ⟨ldl, udl⟩ := bdl
  obtain ⟨un0, Kun0⟩ : ∃ x, Hid (nearF p.s3 0 (des + 1) = x) := ⟨_, rfl⟩
  have bun0 : 0 ≤ un0 ∧ un0 < des + 1 := by have := near_bd (n := p.s3) (least := 0) (many := des + 1) (by omega); have e := Kun0.out; rw [e] at this; omega
  obtain ⟨lun0, uun0⟩ := bun0
  have HS : Hid (gSurge p = if str = 2 then des + su1 else su0) := hid (by unfold gSurge; rw [Kstr.out, Kdes.out, Ksu1.out, Ksu0.out])
  have HU : Hid (gUn p = if gSurge p = 0 ∧ un0 = 0 then 1 else un0) := hid (by unfold gUn; rw [Kdes.out, Kun0.out])
  have HST : Hid (gSt p = gSteps str (m0 + 1) n1 n2 n3) := hid (by unfold gSt; rw [Kstr.out, Km0.out, Kn1.out, Kn2.out, Kn3.out])
  have HG : Hid (goodSp p = ⟨ver, des, gSurge p, gUn p, str, (gSt p).1, (gSt p).2.1, (gSt p).2.2.1, (gSt p).2.2.2, win, mb, dl⟩) := hid (by unfold goodSp; rw [Kver.out, Kdes.out, Kstr.out, Kwin.out, Kmb.out, Kdl.out])
  unfold Sp.val
  go_enter Tryd.func23, Tryd.ntmps23
  go_wp2_with fail
  obtain ⟨hB, hT⟩ := new2 w (.cells #[.int .i64 p.s0, .int .i64 p.s1, .int .i64 p.s2, .int .i64 p.s3, .int .i64 p.s4, .int .i64 p.s5, .int .i64 p.s6, .int .i64 p.s7, .int .i64 p.s8, .int .i64 p.s9, .int .i64 p.s10, .int .i64 p.s11] 24) (.cells #[.int .i64 0, .int .i64 0, .int .i64 0, .int .i64 0, .int .i64 0, .int .i64 0, .int .i64 0, .int .i64 0, .int .i64 0, .int .i64 0, .int .i64 0, .int .i64 0] 24)
  have hF := ((Frm.refl M0 w).alloc (.cells #[.int .i64 p.s0, .int .i64 p.s1, .int .i64 p.s2, .int .i64 p.s3, .int .i64 p.s4, .int .i64 p.s5, .int .i64 p.s6, .int .i64 p.s7, .int .i64 p.s8, .int .i64 p.s9, .int .i64 p.s10, .int .i64 p.s11] 24)).alloc (.cells #[.int .i64 0, .int .i64 0, .int .i64 0, .int .i64 0, .int .i64 0, .int .i64 0, .int .i64 0, .int .i64 0, .int .i64 0, .int .i64 0, .int .i64 0, .int .i64 0] 24)
  obtain ⟨b, hb⟩ : ∃ x, x = w.heap.size := ⟨_, rfl⟩
  obtain ⟨w0, hw⟩ : ∃ x, x = (w.alloc (.cells #[.int .i64 p.s0, .int .i64 p.s1, .int .i64 p.s2, .int .i64 p.s3, .int .i64 p.s4, .int .i64 p.s5, .int .i64 p.s6, .int .i64 p.s7, .int .i64 p.s8, .int .i64 p.s9, .int .i64 p.s10, .int .i64 p.s11] 24)).alloc (.cells #[.int .i64 0, .int .i64 0, .int .i64 0, .int .i64 0, .int .i64 0, .int .i64 0, .int .i64 0, .int .i64 0, .int .i64 0, .int .i64 0, .int .i64 0, .int .i64 0] 24) := ⟨_, rfl⟩
  have hz : w0.heap.size = b + 2 := by rw [hw, hb]; simp
  have hs1 : (w.alloc (.cells #[.int .i64 p.s0, .int .i64 p.s1, .int .i64 p.s2, .int .i64 p.s3, .int .i64 p.s4, .int .i64 p.s5, .int .i64 p.s6, .int .i64 p.s7, .int .i64 p.s8, .int .i64 p.s9, .int .i64 p.s10, .int .i64 p.s11] 24)).heap.size = w.heap.size + 1 := by simp
  try rw [hs1]
  rw [← hw, ← hb] at hB hT
  rw [← hw] at hF
  rw [← hw, ← hb]
  have HBB := hid hb
  have B0 := hid hB
  have T0 := hid hT
  have F0 := hid hF
  clear hw hb hB hT hF hs1
  have HL : Hid (∀ wx, Frm M0 w0 wx → wx.heap[b]? = some (.cells #[.int .i64 p.s0, .int .i64 p.s1, .int .i64 p.s2, .int .i64 p.s3, .int .i64 p.s4, .int .i64 p.s5, .int .i64 p.s6, .int .i64 p.s7, .int .i64 p.s8, .int .i64 p.s9, .int .i64 p.s10, .int .i64 p.s11] 24 (0, 0))) := hid (fun wx hx => hx.heap B0.out (fun h => h))
  refine wp_region_Fl 10 11 [0, 1, 2, 3, 4, 5, 6, 7, 8, 9] ⟨some 3, .alloc 24, 0, "ref.go:167", #[], none⟩ (.cells #[.int .i64 0, .int .i64 0, .int .i64 0, .int .i64 0, .int .i64 0, .int .i64 0, .int .i64 0, .int .i64 0, .int .i64 0, .int .i64 0, .int .i64 0, .int .i64 0] 24) (by kernel_rfl) (by kernel_rfl) rfl rfl rfl (fun a w => rfl) ?_
  intro ops QT HO HQ
  obtain ⟨ho0, HO⟩ := HO
  refine wpF_cons _ (ptr b) ho0.out ?_ ?_
  · refine FY_in rfl fun wx hx => ?_
    go_simp
  simp only [Act.put, List.setIfInBounds_toArray, List.set_cons_zero, List.set_cons_succ]
  obtain ⟨ho1, HO⟩ := HO
  refine wpF_cons _ (.int .i64 p.s0) ho1.out ?_ ?_
  · refine FY_in rfl fun wx hx => ?_
    have hc : wx.cell? ⟨b, 0, none⟩ = some (.int .i64 p.s0) := cell_at (HL.out wx hx) 0
    go_simp
  simp only [Act.put, List.setIfInBounds_toArray, List.set_cons_zero, List.set_cons_succ]
  obtain ⟨ho2, HO⟩ := HO
  refine wpF_cons _ (.int .i64 ver) ho2.out ?_ ?_
  · refine FY_in rfl fun wx hx => ?_
    go_simp
    exact (snear_calls _ _ _ _ (by omega) (by omega) (by omega) (by omega)).mono fun e w' h => ⟨by rw [h.1, Kver.out], by rw [h.2]; exact Frm.refl _ _⟩
  simp only [Act.put, List.setIfInBounds_toArray, List.set_cons_zero, List.set_cons_succ]
  obtain ⟨ho3, HO⟩ := HO
  refine wpF_cons _ (.pointer (some ⟨b, 1, none⟩)) ho3.out ?_ ?_
  · refine FY_in rfl fun wx hx => ?_
    go_simp
  simp only [Act.put, List.setIfInBounds_toArray, List.set_cons_zero, List.set_cons_succ]
  obtain ⟨ho4, HO⟩ := HO
  refine wpF_cons _ (.int .i64 p.s1) ho4.out ?_ ?_
  · refine FY_in rfl fun wx hx => ?_
    have hc : wx.cell? ⟨b, 1, none⟩ = some (.int .i64 p.s1) := cell_at (HL.out wx hx) 1
    go_simp
  simp only [Act.put, List.setIfInBounds_toArray, List.set_cons_zero, List.set_cons_succ]
  obtain ⟨ho5, HO⟩ := HO
  refine wpF_cons _ (.int .i64 des) ho5.out ?_ ?_
  · refine FY_in rfl fun wx hx => ?_
    go_simp
    exact (snear_calls _ _ _ _ (by omega) (by omega) (by omega) (by omega)).mono fun e w' h => ⟨by rw [h.1, Kdes.out], by rw [h.2]; exact Frm.refl _ _⟩
  simp only [Act.put, List.setIfInBounds_toArray, List.set_cons_zero, List.set_cons_succ]
  obtain ⟨ho6, HO⟩ := HO
  refine wpF_cons _ (.pointer (some ⟨b, 4, none⟩)) ho6.out ?_ ?_
  · refine FY_in rfl fun wx hx => ?_
    go_simp
  simp only [Act.put, List.setIfInBounds_toArray, List.set_cons_zero, List.set_cons_succ]
  obtain ⟨ho7, HO⟩ := HO
  refine wpF_cons _ (.int .i64 p.s4) ho7.out ?_ ?_
  · refine FY_in rfl fun wx hx => ?_
    have hc : wx.cell? ⟨b, 4, none⟩ = some (.int .i64 p.s4) := cell_at (HL.out wx hx) 4
    go_simp
  simp only [Act.put, List.setIfInBounds_toArray, List.set_cons_zero, List.set_cons_succ]
  obtain ⟨ho8, HO⟩ := HO
  refine wpF_cons _ (.int .i64 str) ho8.out ?_ ?_
  · refine FY_in rfl fun wx hx => ?_
    go_simp
    exact (snear_calls _ _ _ _ (by omega) (by omega) (by omega) (by omega)).mono fun e w' h => ⟨by rw [h.1, Kstr.out], by rw [h.2]; exact Frm.refl _ _⟩
  simp only [Act.put, List.setIfInBounds_toArray, List.set_cons_zero, List.set_cons_succ]
  obtain ⟨ho9, HO⟩ := HO
  refine wpF_cons _ (.agg #[.int .i64 ver, .int .i64 des, .int .i64 0, .int .i64 0, .int .i64 str, .int .i64 0, .int .i64 0, .int .i64 0, .int .i64 0, .int .i64 0, .int .i64 0, .int .i64 0]) ho9.out ?_ ?_
  · refine FY_in rfl fun wx hx => ?_
    go_simp
  simp only [Act.put, List.setIfInBounds_toArray, List.set_cons_zero, List.set_cons_succ]
  refine HQ.out _ ?_
  intro g w2 hf2 hbx hh2
  refine .inl (wp_store_row 24 (.tmp 3) (.tmp 16) rfl g #[.int .i64 ver, .int .i64 des, .int .i64 0, .int .i64 0, .int .i64 str, .int .i64 0, .int .i64 0, .int .i64 0, .int .i64 0, .int .i64 0, .int .i64 0, .int .i64 0] (by kernel_rfl) (by kernel_rfl) _ _ hh2 (by kernel_rfl) rfl (by simp [Value.oneCell']) ?_)
  have G3 := hid (setRow_heap w2 g _ (#[.int .i64 ver, .int .i64 des, .int .i64 0, .int .i64 0, .int .i64 str, .int .i64 0, .int .i64 0, .int .i64 0, .int .i64 0, .int .i64 0, .int .i64 0, .int .i64 0]) _ _ hh2)
  have hfs := hf2.setRow g (#[.int .i64 ver, .int .i64 des, .int .i64 0, .int .i64 0, .int .i64 str, .int .i64 0, .int .i64 0, .int .i64 0, .int .i64 0, .int .i64 0, .int .i64 0, .int .i64 0]) hbx
  have B3 := hid (hfs.heap B0.out (fun h => h))
  have T3 := hid (hfs.heap T0.out (fun h => h))
  have F3 := hid (F0.out.then0 hfs)
  obtain ⟨w3, hw3⟩ : ∃ x, x = w2.setRow g (#[.int .i64 ver, .int .i64 des, .int .i64 0, .int .i64 0, .int .i64 str, .int .i64 0, .int .i64 0, .int .i64 0, .int .i64 0, .int .i64 0, .int .i64 0, .int .i64 0]) := ⟨_, rfl⟩
  rw [← hw3] at G3 B3 T3 F3
  rw [← hw3]
  have hgb : b + 2 ≤ g := by omega
  clear hw3 hfs hh2 hf2 HL B0 T0 F0 HO HQ hbx hz
  go_wp2_with (refine wpList_load_v (by kernel_rfl) 3 (.tmp 17) (by with_reducible rfl) b 2 (by kernel_rfl) _ _ _ B3.out (.int .i64 p.s2) (by kernel_rfl) _ Tryd.underlying3 rfl ?_)
  refine (snear_calls _ _ _ _ (by omega) (by omega) (by omega) (by omega)).mono ?_
  rintro _ _ ⟨rfl, rfl⟩
  rw [Ksu0.out]
  go_wp2_with (first | (refine wpList_store_v (by kernel_rfl) 3 (.tmp 20) (.tmp 19) (by with_reducible rfl) g 2 (by kernel_rfl) (.int .i64 su0) (by kernel_rfl) #[.int .i64 su0] rfl _ _ G3.out (by kernel_rfl) (by simp) (by simp [Value.oneCell']) ?_; intro w4 hh hp; have G4 : Hid (w4.heap[g]? = some (.cells #[.int .i64 ver, .int .i64 des, .int .i64 su0, .int .i64 0, .int .i64 str, .int .i64 0, .int .i64 0, .int .i64 0, .int .i64 0, .int .i64 0, .int .i64 0, .int .i64 0] 24 (0, 0))) := putL_heap hh (by kernel_rfl); have B4 := hid (hp.heap B3.out (by show ¬ b = g; omega)); have T4 := hid (hp.heap T3.out (by show ¬ b + 1 = g; omega)); have F4 := hid (F3.out.trans hp (fun x hx e => by have e' : x = g := e; have := HBB.out; omega)); clear hh hp G3 B3 T3 F3) | (refine wpList_load_v (by kernel_rfl) 3 (.tmp 21) (by with_reducible rfl) b 3 (by kernel_rfl) _ _ _ B4.out (.int .i64 p.s3) (by kernel_rfl) _ Tryd.underlying3 rfl ?_) | (refine wpList_load_v (by kernel_rfl) 3 (.tmp 23) (by with_reducible rfl) g 1 (by kernel_rfl) _ _ _ G4.out (.int .i64 des) (by kernel_rfl) _ Tryd.underlying3 rfl ?_))
  refine (snear_calls _ _ _ _ (by omega) (by omega) (by omega) (by omega)).mono ?_
  rintro _ _ ⟨rfl, rfl⟩
  rw [Kun0.out]
  go_upto_if 30 with (first | (refine wpList_store_v (by kernel_rfl) 3 (.tmp 27) (.tmp 26) (by with_reducible rfl) g 3 (by kernel_rfl) (.int .i64 un0) (by kernel_rfl) #[.int .i64 un0] rfl _ _ G4.out (by kernel_rfl) (by simp) (by simp [Value.oneCell']) ?_; intro w5 hh hp; have G5 : Hid (w5.heap[g]? = some (.cells #[.int .i64 ver, .int .i64 des, .int .i64 su0, .int .i64 un0, .int .i64 str, .int .i64 0, .int .i64 0, .int .i64 0, .int .i64 0, .int .i64 0, .int .i64 0, .int .i64 0] 24 (0, 0))) := putL_heap hh (by kernel_rfl); have B5 := hid (hp.heap B4.out (by show ¬ b = g; omega)); have T5 := hid (hp.heap T4.out (by show ¬ b + 1 = g; omega)); have F5 := hid (F4.out.trans hp (fun x hx e => by have e' : x = g := e; have := HBB.out; omega)); clear hh hp G4 B4 T4 F4) | (refine wpList_load_v (by kernel_rfl) 3 (.tmp 28) (by with_reducible rfl) g 4 (by kernel_rfl) _ _ _ G5.out (.int .i64 str) (by kernel_rfl) _ Tryd.underlying3 rfl ?_))
  go_cut [30] (fun s30 wx => s30 = .bool (str == 2) ∧ ∃ su : Int, Hid (gSurge p = su) ∧ Hid (0 ≤ su ∧ su ≤ 6) ∧ Hid (wx.heap[g]? = some (.cells #[.int .i64 ver, .int .i64 des, .int .i64 su, .int .i64 un0, .int .i64 str, .int .i64 0, .int .i64 0, .int .i64 0, .int .i64 0, .int .i64 0, .int .i64 0, .int .i64 0] 24 (0, 0))) ∧ Hid (wx.heap[b]? = some (.cells #[.int .i64 p.s0, .int .i64 p.s1, .int .i64 p.s2, .int .i64 p.s3, .int .i64 p.s4, .int .i64 p.s5, .int .i64 p.s6, .int .i64 p.s7, .int .i64 p.s8, .int .i64 p.s9, .int .i64 p.s10, .int .i64 p.s11] 24 (0, 0))) ∧ Hid (wx.heap[b + 1]? = some (.cells #[.int .i64 0, .int .i64 0, .int .i64 0, .int .i64 0, .int .i64 0, .int .i64 0, .int .i64 0, .int .i64 0, .int .i64 0, .int .i64 0, .int .i64 0, .int .i64 0] 24 (0, 0))) ∧ Hid (Frm M0 w wx))
  case first =>
    by_cases h2 : str = 2
    case pos =>
      have HS2 := hid h2
      have hs2 : (str == 2) = true := beq_iff_eq.2 h2
      clear h2
      go_wp2_with fail
      clear hs2
      have HSF : Hid (∀ wx, Frm M0 w5 wx → wx.cell? ⟨g, 1, none⟩ = some (.int .i64 des) ∧ wx.cell? ⟨b, 2, none⟩ = some (.int .i64 p.s2)) := hid (fun wx hx => ⟨cell_at (hx.heap G5.out (fun h => h)) 1, cell_at (hx.heap B5.out (fun h => h)) 2⟩)
      have HFq := hid ((Frm.refl M0 w5).drew)
      have HSG : Hid (∀ u, (w5.setCell ⟨g, 2, none⟩ u).drew.cell? ⟨g, 1, none⟩ = some (.int .i64 des) ∧ (w5.setCell ⟨g, 2, none⟩ u).drew.cell? ⟨b, 2, none⟩ = some (.int .i64 p.s2)) := hid (fun u => ⟨cell_at (heap_set_at (w := w5) G5.out (o := 2) u) 1, cell_at (((Frm.refl (fun x => x = g) w5).put g 2 u (fun _ => rfl)).heap B5.out (by show ¬ b = g; omega)) 2⟩)
      have ws : Hid (IntKind.i64.wrap (des + su1) = des + su1) := hid (by rw [IntWalk.i64_left]; unfold wrap64; omega)
      have c2 : w5.cell? ⟨g, 2, none⟩ = some (.int .i64 su0) := cell_at G5.out 2
      have z2 : w5.frozen? ⟨g, 2, none⟩ = false := frozen_at G5.out 2
      have hne : ¬ g = b := by omega
      have ks1 := Ksu1.out
      go_region_held3 (fun wx => wx.cell? ⟨g, 1, none⟩ = some (.int .i64 des) ∧ wx.cell? ⟨b, 2, none⟩ = some (.int .i64 p.s2)) (first | with_reducible exact HSF.out _ HFq.out | with_reducible exact HSG.out _ | go_keep)
        (((with_reducible refine (snear_calls _ _ _ _ (by decide) (by decide) (by decide) (by decide)).mono ?_); (rintro _ _ ⟨rfl, rfl⟩)))
      rw [ws.out]
      go_wp2_with fail
      go_meet
      have e1 := heap_set_at (w := w5) G5.out (o := 2) (.int .i64 (des + su1))
      have fp := (Frm.refl (fun x => x = g) w5).put g 2 (.int .i64 (des + su1)) (fun _ => rfl)
      exact ⟨by rw [HS2.out]; rfl, des + su1, hid (by rw [HS.out, if_pos HS2.out]), hid (by omega), hid e1, hid (fp.heap B5.out (by show ¬ b = g; omega)), hid (fp.heap T5.out (by show ¬ b + 1 = g; omega)), hid ((F5.out.trans fp (fun x hx e => by have e' : x = g := e; have := HBB.out; omega)).drew)⟩
    case neg =>
      have HS2 := hid h2
      have hs2 : (str == 2) = false := beq_eq_false_iff_ne.2 h2
      clear h2
      go_wp2_with fail
      go_meet
      exact ⟨by rw [hs2], su0, hid (by rw [HS.out, if_neg HS2.out]), hid (by omega), G5, B5, T5, F5⟩
  case rest =>
    obtain ⟨rfl, su, HSU, hsu, Gc, Bc, Tc, Fc⟩ := hcut
    clear G5 B5 T5 F5
    obtain ⟨wa, hwa⟩ : ∃ x, x = wc := ⟨_, rfl⟩
    rw [← hwa] at Gc Bc Tc Fc
    rw [← hwa]
    clear hwa
    obtain ⟨lsu, usu⟩ := hsu.out
    obtain ⟨G6, B6, T6, F6⟩ := And.intro Gc (And.intro Bc (And.intro Tc Fc))
    clear Gc Bc Tc Fc hsu
    go_upto_region 6 with fail
    go_cut [45] (fun s45 wx => s45 = .bool ((su == 0) && (un0 == 0)) ∧ Hid (wa = wx))
    case first =>
      by_cases hs0 : su = 0
      case pos =>
        have z0 : (su == 0) = true := beq_iff_eq.2 hs0
        clear hs0
        go_wp2_with (first | (refine wpList_load_v (by kernel_rfl) 3 (.tmp 38) (by with_reducible rfl) g 2 (by kernel_rfl) _ _ _ G6.out (.int .i64 su) (by kernel_rfl) _ Tryd.underlying3 rfl ?_) | (refine wpList_load_v (by kernel_rfl) 3 (.tmp 42) (by with_reducible rfl) g 3 (by kernel_rfl) _ _ _ G6.out (.int .i64 un0) (by kernel_rfl) _ Tryd.underlying3 rfl ?_))
        go_meet
        exact ⟨by rw [z0]; rfl, hid rfl⟩
      case neg =>
        have z0 : (su == 0) = false := beq_eq_false_iff_ne.2 hs0
        clear hs0
        go_wp2_with (refine wpList_load_v (by kernel_rfl) 3 (.tmp 38) (by with_reducible rfl) g 2 (by kernel_rfl) _ _ _ G6.out (.int .i64 su) (by kernel_rfl) _ Tryd.underlying3 rfl ?_)
        go_meet
        exact ⟨by rw [z0]; rfl, hid rfl⟩
    case rest =>
      obtain ⟨rfl, hw⟩ := hcut
      rw [← hw.out]
      clear hw
      obtain ⟨C, HC⟩ : ∃ c, Hid (((su == 0) && (un0 == 0)) = c) := ⟨_, rfl⟩
      rw [HC.out]
      go_upto_if 45 with fail
      go_cut [45] (fun s45 wx => ∃ un : Int, Hid (gUn p = un) ∧ Hid (0 ≤ un ∧ un ≤ 5) ∧ Hid (wx.heap[g]? = some (.cells #[.int .i64 ver, .int .i64 des, .int .i64 su, .int .i64 un, .int .i64 str, .int .i64 0, .int .i64 0, .int .i64 0, .int .i64 0, .int .i64 0, .int .i64 0, .int .i64 0] 24 (0, 0))) ∧ Hid (wx.heap[b]? = some (.cells #[.int .i64 p.s0, .int .i64 p.s1, .int .i64 p.s2, .int .i64 p.s3, .int .i64 p.s4, .int .i64 p.s5, .int .i64 p.s6, .int .i64 p.s7, .int .i64 p.s8, .int .i64 p.s9, .int .i64 p.s10, .int .i64 p.s11] 24 (0, 0))) ∧ Hid (wx.heap[b + 1]? = some (.cells #[.int .i64 0, .int .i64 0, .int .i64 0, .int .i64 0, .int .i64 0, .int .i64 0, .int .i64 0, .int .i64 0, .int .i64 0, .int .i64 0, .int .i64 0, .int .i64 0] 24 (0, 0))) ∧ Hid (Frm M0 w wx))
      case first =>
        cases C
        case false =>
          go_wp2_with fail
          go_meet
          exact ⟨un0, hid (by rw [HU.out, HSU.out, if_neg (fun h => by have e := HC.out; rw [h.1, h.2] at e; cases e)]), hid (by omega), G6, B6, T6, F6⟩
        case true =>
          go_wp2_with (refine wpList_store_v (by kernel_rfl) 3 (.tmp 46) (.const (.int .i64 1)) (by with_reducible rfl) g 3 (by kernel_rfl) (.int .i64 1) (by kernel_rfl) #[.int .i64 1] rfl _ _ G6.out (by kernel_rfl) (by simp) (by simp [Value.oneCell']) ?_; intro w7 hh hp; have G7 : Hid (w7.heap[g]? = some (.cells #[.int .i64 ver, .int .i64 des, .int .i64 su, .int .i64 1, .int .i64 str, .int .i64 0, .int .i64 0, .int .i64 0, .int .i64 0, .int .i64 0, .int .i64 0, .int .i64 0] 24 (0, 0))) := putL_heap hh (by kernel_rfl); have B7 := hid (hp.heap B6.out (by show ¬ b = g; omega)); have T7 := hid (hp.heap T6.out (by show ¬ b + 1 = g; omega)); have F7 := hid (F6.out.trans hp (fun x hx e => by have e' : x = g := e; have := HBB.out; omega)); clear hh hp G6 B6 T6 F6)
          go_meet
          exact ⟨1, hid (by rw [HU.out, HSU.out, if_pos (by have e := HC.out; simpa using e)]), hid (by omega), G7, B7, T7, F7⟩
      case rest =>
        obtain ⟨un, HUN, hun, Gc, Bc, Tc, Fc⟩ := hcut
        clear G6 B6 T6 F6
        obtain ⟨wd, hwd⟩ : ∃ x, x = wc := ⟨_, rfl⟩
        rw [← hwd] at Gc Bc Tc Fc
        rw [← hwd]
        clear hwd
        obtain ⟨lun, uun⟩ := hun.out
        obtain ⟨G8, B8, T8, F8⟩ := And.intro Gc (And.intro Bc (And.intro Tc Fc))
        clear Gc Bc Tc Fc hun HC
        go_upto_if 49 with (refine wpList_load_v (by kernel_rfl) 3 (.tmp 47) (by with_reducible rfl) g 4 (by kernel_rfl) _ _ _ G8.out (.int .i64 str) (by kernel_rfl) _ Tryd.underlying3 rfl ?_)
        go_cut [49] (fun s49 wx => ∃ a0 a1 a2 a3 : Int, Hid (gSt p = (a0, a1, a2, a3)) ∧ Hid (wx.heap[g]? = some (.cells #[.int .i64 ver, .int .i64 des, .int .i64 su, .int .i64 un, .int .i64 str, .int .i64 a0, .int .i64 a1, .int .i64 a2, .int .i64 a3, .int .i64 0, .int .i64 0, .int .i64 0] 24 (0, 0))) ∧ Hid (wx.heap[b]? = some (.cells #[.int .i64 p.s0, .int .i64 p.s1, .int .i64 p.s2, .int .i64 p.s3, .int .i64 p.s4, .int .i64 p.s5, .int .i64 p.s6, .int .i64 p.s7, .int .i64 p.s8, .int .i64 p.s9, .int .i64 p.s10, .int .i64 p.s11] 24 (0, 0))) ∧ Hid (wx.heap[b + 1]? = some (.cells #[.int .i64 0, .int .i64 0, .int .i64 0, .int .i64 0, .int .i64 0, .int .i64 0, .int .i64 0, .int .i64 0, .int .i64 0, .int .i64 0, .int .i64 0, .int .i64 0] 24 (0, 0))) ∧ Hid (Frm M0 w wx))
        case first =>
          by_cases h0 : str = 0
          case neg =>
            have H0 := hid h0
            have z0 : (str == 0) = false := beq_eq_false_iff_ne.2 h0
            clear h0
            go_wp2_with fail
            go_meet
            exact ⟨0, 0, 0, 0, hid (by rw [HST.out]; exact if_neg H0.out), G8, B8, T8, F8⟩
          have H0 := hid h0
          have z0 : (str == 0) = true := beq_iff_eq.2 h0
          clear h0
          go_wp2_with fail
          refine wp_loop_rounds 5 ?_
          rw [rounds_succ]
          go_wp2_with (refine wpList_load_v (by kernel_rfl) 3 (.tmp 56) (by with_reducible rfl) b 5 (by kernel_rfl) _ _ _ B8.out (.int .i64 p.s5) (by kernel_rfl) _ Tryd.underlying3 rfl ?_)
          refine (snear_calls _ _ _ _ (by omega) (by omega) (by omega) (by omega)).mono ?_
          rintro _ _ ⟨rfl, rfl⟩
          rw [Km0.out]
          have f0 : ((m0 + 1) == 0) = false := beq_eq_false_iff_ne.2 (by omega)
          have f1 : decide ((100 : Int) < m0 + 1) = false := decide_eq_false (by omega)
          go_wp2_with (refine wpList_store_v (by kernel_rfl) 3 (.tmp 77) (.tmp 75) (by with_reducible rfl) g 5 (by kernel_rfl) (.int .i64 (m0 + 1)) (by kernel_rfl) #[.int .i64 (m0 + 1)] rfl _ _ G8.out (by kernel_rfl) (by simp) (by simp [Value.oneCell']) ?_; intro w9 hh hp; have G9 : Hid (w9.heap[g]? = some (.cells #[.int .i64 ver, .int .i64 des, .int .i64 su, .int .i64 un, .int .i64 str, .int .i64 (m0 + 1), .int .i64 0, .int .i64 0, .int .i64 0, .int .i64 0, .int .i64 0, .int .i64 0] 24 (0, 0))) := putL_heap hh (by kernel_rfl); have B9 := hid (hp.heap B8.out (by show ¬ b = g; omega)); have T9 := hid (hp.heap T8.out (by show ¬ b + 1 = g; omega)); have F9 := hid (F8.out.trans hp (fun x hx e => by have e' : x = g := e; have := HBB.out; omega)); clear hh hp G8 B8 T8 F8)
          clear f0 f1
          rw [rounds_succ]
          go_wp2_with (refine wpList_load_v (by kernel_rfl) 3 (.tmp 56) (by with_reducible rfl) b 6 (by kernel_rfl) _ _ _ B9.out (.int .i64 p.s6) (by kernel_rfl) _ Tryd.underlying3 rfl ?_)
          refine (snear_calls _ _ _ _ (by omega) (by omega) (by omega) (by omega)).mono ?_
          rintro _ _ ⟨rfl, rfl⟩
          rw [Kn1.out]
          by_cases q1 : n1 = 0
          case pos =>
            have Q1 := hid q1
            have f0 : (n1 == 0) = true := beq_iff_eq.2 q1
            clear q1
            go_wp2_with fail
            go_meet
            exact ⟨(m0 + 1), 0, 0, 0, hid (by rw [HST.out]; unfold gSteps; rw [if_pos H0.out, if_pos (.inl Q1.out)]), G9, B9, T9, F9⟩
          have Q1 := hid q1
          have f10 : (n1 == 0) = false := beq_eq_false_iff_ne.2 q1
          clear q1
          by_cases r1 : 100 < (m0 + 1 + n1)
          case pos =>
            have R1 := hid r1
            have f1 : decide ((100 : Int) < (m0 + 1 + n1)) = true := decide_eq_true r1
            clear r1
            go_wp2_with fail
            go_meet
            exact ⟨(m0 + 1), 0, 0, 0, hid (by rw [HST.out]; unfold gSteps; rw [if_pos H0.out, if_pos (.inr R1.out)]), G9, B9, T9, F9⟩
          have R1 := hid r1
          have f1 : decide ((100 : Int) < (m0 + 1 + n1)) = false := decide_eq_false r1
          clear r1
          go_wp2_with (refine wpList_store_v (by kernel_rfl) 3 (.tmp 77) (.tmp 75) (by with_reducible rfl) g 6 (by kernel_rfl) (.int .i64 (m0 + 1 + n1)) (by kernel_rfl) #[.int .i64 (m0 + 1 + n1)] rfl _ _ G9.out (by kernel_rfl) (by simp) (by simp [Value.oneCell']) ?_; intro w10 hh hp; have G10 : Hid (w10.heap[g]? = some (.cells #[.int .i64 ver, .int .i64 des, .int .i64 su, .int .i64 un, .int .i64 str, .int .i64 (m0 + 1), .int .i64 (m0 + 1 + n1), .int .i64 0, .int .i64 0, .int .i64 0, .int .i64 0, .int .i64 0] 24 (0, 0))) := putL_heap hh (by kernel_rfl); have B10 := hid (hp.heap B9.out (by show ¬ b = g; omega)); have T10 := hid (hp.heap T9.out (by show ¬ b + 1 = g; omega)); have F10 := hid (F9.out.trans hp (fun x hx e => by have e' : x = g := e; have := HBB.out; omega)); clear hh hp G9 B9 T9 F9)
          clear f1
          rw [rounds_succ]
          go_wp2_with (refine wpList_load_v (by kernel_rfl) 3 (.tmp 56) (by with_reducible rfl) b 7 (by kernel_rfl) _ _ _ B10.out (.int .i64 p.s7) (by kernel_rfl) _ Tryd.underlying3 rfl ?_)
          refine (snear_calls _ _ _ _ (by omega) (by omega) (by omega) (by omega)).mono ?_
          rintro _ _ ⟨rfl, rfl⟩
          rw [Kn2.out]
          by_cases q2 : n2 = 0
          case pos =>
            have Q2 := hid q2
            have f0 : (n2 == 0) = true := beq_iff_eq.2 q2
            clear q2
            go_wp2_with fail
            go_meet
            exact ⟨(m0 + 1), (m0 + 1 + n1), 0, 0, hid (by rw [HST.out]; unfold gSteps; rw [if_pos H0.out, if_neg (fun h => h.elim Q1.out (fun x => (by have e := R1.out; omega))), if_pos (.inl Q2.out)]), G10, B10, T10, F10⟩
          have Q2 := hid q2
          have f20 : (n2 == 0) = false := beq_eq_false_iff_ne.2 q2
          clear q2
          by_cases r2 : 100 < (m0 + 1 + n1 + n2)
          case pos =>
            have R2 := hid r2
            have f1 : decide ((100 : Int) < (m0 + 1 + n1 + n2)) = true := decide_eq_true r2
            clear r2
            go_wp2_with fail
            go_meet
            exact ⟨(m0 + 1), (m0 + 1 + n1), 0, 0, hid (by rw [HST.out]; unfold gSteps; rw [if_pos H0.out, if_neg (fun h => h.elim Q1.out (fun x => (by have e := R1.out; omega))), if_pos (.inr R2.out)]), G10, B10, T10, F10⟩
          have R2 := hid r2
          have f1 : decide ((100 : Int) < (m0 + 1 + n1 + n2)) = false := decide_eq_false r2
          clear r2
          go_wp2_with (refine wpList_store_v (by kernel_rfl) 3 (.tmp 77) (.tmp 75) (by with_reducible rfl) g 7 (by kernel_rfl) (.int .i64 (m0 + 1 + n1 + n2)) (by kernel_rfl) #[.int .i64 (m0 + 1 + n1 + n2)] rfl _ _ G10.out (by kernel_rfl) (by simp) (by simp [Value.oneCell']) ?_; intro w11 hh hp; have G11 : Hid (w11.heap[g]? = some (.cells #[.int .i64 ver, .int .i64 des, .int .i64 su, .int .i64 un, .int .i64 str, .int .i64 (m0 + 1), .int .i64 (m0 + 1 + n1), .int .i64 (m0 + 1 + n1 + n2), .int .i64 0, .int .i64 0, .int .i64 0, .int .i64 0] 24 (0, 0))) := putL_heap hh (by kernel_rfl); have B11 := hid (hp.heap B10.out (by show ¬ b = g; omega)); have T11 := hid (hp.heap T10.out (by show ¬ b + 1 = g; omega)); have F11 := hid (F10.out.trans hp (fun x hx e => by have e' : x = g := e; have := HBB.out; omega)); clear hh hp G10 B10 T10 F10)
          clear f1
          rw [rounds_succ]
          go_wp2_with (refine wpList_load_v (by kernel_rfl) 3 (.tmp 56) (by with_reducible rfl) b 8 (by kernel_rfl) _ _ _ B11.out (.int .i64 p.s8) (by kernel_rfl) _ Tryd.underlying3 rfl ?_)
          refine (snear_calls _ _ _ _ (by omega) (by omega) (by omega) (by omega)).mono ?_
          rintro _ _ ⟨rfl, rfl⟩
          rw [Kn3.out]
          by_cases q3 : n3 = 0
          case pos =>
            have Q3 := hid q3
            have f0 : (n3 == 0) = true := beq_iff_eq.2 q3
            clear q3
            go_wp2_with fail
            go_meet
            exact ⟨(m0 + 1), (m0 + 1 + n1), (m0 + 1 + n1 + n2), 0, hid (by rw [HST.out]; unfold gSteps; rw [if_pos H0.out, if_neg (fun h => h.elim Q1.out (fun x => (by have e := R1.out; omega))), if_neg (fun h => h.elim Q2.out (fun x => (by have e := R2.out; omega))), if_pos (.inl Q3.out)]), G11, B11, T11, F11⟩
          have Q3 := hid q3
          have f30 : (n3 == 0) = false := beq_eq_false_iff_ne.2 q3
          clear q3
          by_cases r3 : 100 < (m0 + 1 + n1 + n2 + n3)
          case pos =>
            have R3 := hid r3
            have f1 : decide ((100 : Int) < (m0 + 1 + n1 + n2 + n3)) = true := decide_eq_true r3
            clear r3
            go_wp2_with fail
            go_meet
            exact ⟨(m0 + 1), (m0 + 1 + n1), (m0 + 1 + n1 + n2), 0, hid (by rw [HST.out]; unfold gSteps; rw [if_pos H0.out, if_neg (fun h => h.elim Q1.out (fun x => (by have e := R1.out; omega))), if_neg (fun h => h.elim Q2.out (fun x => (by have e := R2.out; omega))), if_pos (.inr R3.out)]), G11, B11, T11, F11⟩
          have R3 := hid r3
          have f1 : decide ((100 : Int) < (m0 + 1 + n1 + n2 + n3)) = false := decide_eq_false r3
          clear r3
          go_wp2_with (refine wpList_store_v (by kernel_rfl) 3 (.tmp 77) (.tmp 75) (by with_reducible rfl) g 8 (by kernel_rfl) (.int .i64 (m0 + 1 + n1 + n2 + n3)) (by kernel_rfl) #[.int .i64 (m0 + 1 + n1 + n2 + n3)] rfl _ _ G11.out (by kernel_rfl) (by simp) (by simp [Value.oneCell']) ?_; intro w12 hh hp; have G12 : Hid (w12.heap[g]? = some (.cells #[.int .i64 ver, .int .i64 des, .int .i64 su, .int .i64 un, .int .i64 str, .int .i64 (m0 + 1), .int .i64 (m0 + 1 + n1), .int .i64 (m0 + 1 + n1 + n2), .int .i64 (m0 + 1 + n1 + n2 + n3), .int .i64 0, .int .i64 0, .int .i64 0] 24 (0, 0))) := putL_heap hh (by kernel_rfl); have B12 := hid (hp.heap B11.out (by show ¬ b = g; omega)); have T12 := hid (hp.heap T11.out (by show ¬ b + 1 = g; omega)); have F12 := hid (F11.out.trans hp (fun x hx e => by have e' : x = g := e; have := HBB.out; omega)); clear hh hp G11 B11 T11 F11)
          clear f1
          rw [rounds_succ]
          go_wp2_with fail
          go_meet
          exact ⟨(m0 + 1), (m0 + 1 + n1), (m0 + 1 + n1 + n2), (m0 + 1 + n1 + n2 + n3), hid (by rw [HST.out]; unfold gSteps; rw [if_pos H0.out, if_neg (fun h => h.elim Q1.out (fun x => (by have e := R1.out; omega))), if_neg (fun h => h.elim Q2.out (fun x => (by have e := R2.out; omega))), if_neg (fun h => h.elim Q3.out (fun x => (by have e := R3.out; omega)))]), G12, B12, T12, F12⟩
        case rest =>
          obtain ⟨a0, a1, a2, a3, HA, Gc, Bc, Tc, Fc⟩ := hcut
          clear G8 B8 T8 F8
          obtain ⟨we, hwe⟩ : ∃ x, x = wc := ⟨_, rfl⟩
          rw [← hwe] at Gc Bc Tc Fc
          rw [← hwe]
          clear hwe
          obtain ⟨G30, B30, T30, F30⟩ := And.intro Gc (And.intro Bc (And.intro Tc Fc))
          clear Gc Bc Tc Fc
          go_wp2_with (refine wpList_load_v (by kernel_rfl) 3 (.tmp 78) (by with_reducible rfl) b 9 (by kernel_rfl) _ _ _ B30.out (.int .i64 p.s9) (by kernel_rfl) _ Tryd.underlying3 rfl ?_)
          refine (snear_calls _ _ _ _ (by omega) (by omega) (by omega) (by omega)).mono ?_
          rintro _ _ ⟨rfl, rfl⟩
          rw [Kwin.out]
          go_wp2_with (first | (refine wpList_store_v (by kernel_rfl) 3 (.tmp 81) (.tmp 80) (by with_reducible rfl) g 9 (by kernel_rfl) (.int .i64 win) (by kernel_rfl) #[.int .i64 win] rfl _ _ G30.out (by kernel_rfl) (by simp) (by simp [Value.oneCell']) ?_; intro w31 hh hp; have G31 : Hid (w31.heap[g]? = some (.cells #[.int .i64 ver, .int .i64 des, .int .i64 su, .int .i64 un, .int .i64 str, .int .i64 a0, .int .i64 a1, .int .i64 a2, .int .i64 a3, .int .i64 win, .int .i64 0, .int .i64 0] 24 (0, 0))) := putL_heap hh (by kernel_rfl); have B31 := hid (hp.heap B30.out (by show ¬ b = g; omega)); have T31 := hid (hp.heap T30.out (by show ¬ b + 1 = g; omega)); have F31 := hid (F30.out.trans hp (fun x hx e => by have e' : x = g := e; have := HBB.out; omega)); clear hh hp G30 B30 T30 F30) | (refine wpList_load_v (by kernel_rfl) 3 (.tmp 82) (by with_reducible rfl) b 10 (by kernel_rfl) _ _ _ B31.out (.int .i64 p.s10) (by kernel_rfl) _ Tryd.underlying3 rfl ?_))
          refine (snear_calls _ _ _ _ (by omega) (by omega) (by omega) (by omega)).mono ?_
          rintro _ _ ⟨rfl, rfl⟩
          rw [Kmb.out]
          go_wp2_with (first | (refine wpList_store_v (by kernel_rfl) 3 (.tmp 85) (.tmp 84) (by with_reducible rfl) g 10 (by kernel_rfl) (.int .i64 mb) (by kernel_rfl) #[.int .i64 mb] rfl _ _ G31.out (by kernel_rfl) (by simp) (by simp [Value.oneCell']) ?_; intro w32 hh hp; have G32 : Hid (w32.heap[g]? = some (.cells #[.int .i64 ver, .int .i64 des, .int .i64 su, .int .i64 un, .int .i64 str, .int .i64 a0, .int .i64 a1, .int .i64 a2, .int .i64 a3, .int .i64 win, .int .i64 mb, .int .i64 0] 24 (0, 0))) := putL_heap hh (by kernel_rfl); have B32 := hid (hp.heap B31.out (by show ¬ b = g; omega)); have T32 := hid (hp.heap T31.out (by show ¬ b + 1 = g; omega)); have F32 := hid (F31.out.trans hp (fun x hx e => by have e' : x = g := e; have := HBB.out; omega)); clear hh hp G31 B31 T31 F31) | (refine wpList_load_v (by kernel_rfl) 3 (.tmp 86) (by with_reducible rfl) b 11 (by kernel_rfl) _ _ _ B32.out (.int .i64 p.s11) (by kernel_rfl) _ Tryd.underlying3 rfl ?_))
          refine (snear_calls _ _ _ _ (by omega) (by omega) (by omega) (by omega)).mono ?_
          rintro _ _ ⟨rfl, rfl⟩
          rw [Kdl.out]
          go_wp2_with (first | (refine wpList_store_v (by kernel_rfl) 3 (.tmp 89) (.tmp 88) (by with_reducible rfl) g 11 (by kernel_rfl) (.int .i64 dl) (by kernel_rfl) #[.int .i64 dl] rfl _ _ G32.out (by kernel_rfl) (by simp) (by simp [Value.oneCell']) ?_; intro w33 hh hp; have G33 : Hid (w33.heap[g]? = some (.cells #[.int .i64 ver, .int .i64 des, .int .i64 su, .int .i64 un, .int .i64 str, .int .i64 a0, .int .i64 a1, .int .i64 a2, .int .i64 a3, .int .i64 win, .int .i64 mb, .int .i64 dl] 24 (0, 0))) := putL_heap hh (by kernel_rfl); have B33 := hid (hp.heap B32.out (by show ¬ b = g; omega)); have T33 := hid (hp.heap T32.out (by show ¬ b + 1 = g; omega)); have F33 := hid (F32.out.trans hp (fun x hx e => by have e' : x = g := e; have := HBB.out; omega)); clear hh hp G32 B32 T32 F32) | (refine wpList_load_row rfl 24 (.tmp 3) (by with_reducible rfl) g (by kernel_rfl) _ _ _ _ G33.out Tryd.underlying24 rfl (by kernel_rfl) ?_) | (refine wpList_store_row rfl 24 (.tmp 2) (.tmp 90) (by with_reducible rfl) (b + 1) #[.int .i64 ver, .int .i64 des, .int .i64 su, .int .i64 un, .int .i64 str, .int .i64 a0, .int .i64 a1, .int .i64 a2, .int .i64 a3, .int .i64 win, .int .i64 mb, .int .i64 dl] (by kernel_rfl) (by kernel_rfl) _ _ T33.out (by kernel_rfl) rfl (by simp [Value.oneCell']) ?_))
          refine bodyPost_ret (results_cell_row (by rfl) _ _ (b + 1) _ _ _ _ (by kernel_rfl) (setRow_heap _ _ _ _ _ _ T33.out) Tryd.underlying24 rfl (by kernel_rfl)) rfl ⟨by rw [HG.out, HSU.out, HUN.out, HA.out], F33.out.setRow _ _ (by have := HBB.out; omega)⟩
end Go.Proofs.YtinbidmgllmglaaDoor
namespace Go.Proofs.YtinbidmgllmglaaDoor
set_option linter.unusedVariables false
set_option linter.unusedSimpArgs false
set_option maxRecDepth 20000
open Go.RowKit Cp

/-- What a record that may be is like. -/
theorem right_facts {r : Rc} (h : rightB r = true) : (1 ≤ r.k ∧ r.k ≤ 7) ∧ (1 ≤ r.e ∧ r.e ≤ 1099511627776) ∧ (0 ≤ r.w ∧ r.w ≤ 1099511627776) ∧ (0 ≤ r.n ∧ r.n ≤ 1099511627776) ∧ (0 ≤ r.q ∧ r.q ≤ 1099511627776) ∧ r.t.size ≤ 64 ∧
    (r.k ≠ 3 → r.p = Sp.zero) ∧ (r.k = 3 → r.p.chkE = 0) := by
  have he : (ByteArray.empty).size = 0 := rfl
  obtain ⟨k, e, v, n, q, t, p⟩ := r
  unfold rightB at h
  rw [Bool.and_eq_true, btw_true] at h
  obtain ⟨h1, h2⟩ := h
  by_cases hk : 1 ≤ k ∧ k ≤ 7
  case neg =>
    exfalso
    unfold mayK at h2
    rw [if_neg (show ¬ k = 1 by omega), if_neg (show ¬ k = 2 by omega), if_neg (show ¬ k = 3 by omega), if_neg (show ¬ k = 4 by omega), if_neg (show ¬ k = 5 by omega), if_neg (show ¬ k = 6 by omega), if_neg (show ¬ k = 7 by omega)] at h2
    cases h2
  have hk' : k = 1 ∨ k = 2 ∨ k = 3 ∨ k = 4 ∨ k = 5 ∨ k = 6 ∨ k = 7 := by omega
  simp only [] at h1
  rcases hk' with rfl | rfl | rfl | rfl | rfl | rfl | rfl
  · have h3 : leadB ⟨1, e, v, n, q, t, p⟩ = true := h2
    simp only [leadB, Bool.and_eq_true, btw_true, req_iff] at h3
    obtain ⟨a, b, c, _, _, _, _, _, rfl, rfl⟩ := h3
    exact ⟨by simp, by simp only []; omega, by simp only []; omega, by simp only []; omega, by simp only []; omega, by simp [he], fun _ => rfl, fun h => by simp at h⟩
  · have h3 : publishB ⟨2, e, v, n, q, t, p⟩ = true := h2
    simp only [publishB, Bool.and_eq_true, btw_true, req_iff] at h3
    obtain ⟨a, b, _, _, hv, _, hq, _, hp⟩ := h3
    exact ⟨by simp, by simp only []; omega, by simp only []; omega, by simp only []; omega, by simp only []; omega, by simp only []; omega, fun _ => hp, fun h => by simp at h⟩
  · have h3 : beginB ⟨3, e, v, n, q, t, p⟩ = true := h2
    simp only [beginB, Bool.and_eq_true, btw_true, req_iff, decide_eq_true_eq] at h3
    obtain ⟨a, b, _, _, hv, _, hq, rfl, _⟩ := h3
    exact ⟨by simp, by simp only []; omega, by simp only []; omega, by simp only []; omega, by simp only []; omega, by simp [he], fun h => absurd rfl h, fun _ => a⟩
  · have h3 : moveB ⟨4, e, v, n, q, t, p⟩ = true := h2
    simp only [moveB, Bool.and_eq_true, btw_true, req_iff] at h3
    obtain ⟨a, b, _, _, hv, _, hq, _, hp⟩ := h3
    exact ⟨by simp, by simp only []; omega, by simp only []; omega, by simp only []; omega, by simp only []; omega, by simp only []; omega, fun _ => hp, fun h => by simp at h⟩
  · have h3 : intentB ⟨5, e, v, n, q, t, p⟩ = true := h2
    simp only [intentB, unitB, Bool.and_eq_true, btw_true, req_iff] at h3
    obtain ⟨⟨a, b, _, _, _, _, _, rfl, hp⟩, c⟩ := h3
    exact ⟨by simp, by simp only []; omega, by simp only []; omega, by simp only []; omega, by simp only []; omega, by simp [he], fun _ => hp, fun h => by simp at h⟩
  · have h3 : ackB ⟨6, e, v, n, q, t, p⟩ = true := h2
    simp only [ackB, unitB, Bool.and_eq_true, btw_true, req_iff, decide_eq_true_eq] at h3
    obtain ⟨⟨a, b, _, _, _, _, _, rfl, hp⟩, c⟩ := h3
    exact ⟨by simp, by simp only []; omega, by simp only []; omega, by simp only []; omega, by simp only []; omega, by simp [he], fun _ => hp, fun h => by simp at h⟩
  · have h3 : stepB ⟨7, e, v, n, q, t, p⟩ = true := h2
    simp only [stepB, Bool.and_eq_true, btw_true, req_iff] at h3
    obtain ⟨a, b, c, _, _, _, _, hq, _, hp⟩ := h3
    exact ⟨by simp, by simp only []; omega, by simp only []; omega, by simp only []; omega, by simp only []; omega, by simp only []; omega, fun _ => hp, fun h => by simp at h⟩

theorem numW_ok {l : List Int} {n : Int} (h0 : 0 ≤ n) (h1 : n ≤ 1099511627776) : (numW l n).1 = l ++ dig n.toNat := by
  unfold numW; rw [if_pos (mayB_of h0 (by omega))]
theorem textW_ok {l : List Int} {s : ByteArray} (h : s.size ≤ 64) : (textW l s).1 = l ++ dig s.size ++ sb s := by unfold textW; rw [if_pos h]
theorem listW_ok {l xs : List Int} (h : xs.length ≤ 64) (hx : ∀ x ∈ xs, 0 ≤ x ∧ x ≤ 4611686018427387903) : (listW l xs).1 = l ++ dig xs.length ++ digs xs := by
  unfold listW
  rw [if_neg (by omega), if_pos (by unfold allB; rw [List.all_eq_true]; exact fun x hx' => mayB_of (hx x hx').1 (hx x hx').2)]

theorem wire6_eq {r : Rc} (h : rightB r = true) : wire6 r = dig r.k.toNat ++ (dig r.e.toNat ++ (dig r.w.toNat ++ (dig r.n.toNat ++ (dig r.q.toNat ++ (dig r.t.size ++ sb r.t))))) := by
  obtain ⟨hk, he, hw, hn, hq, ht, _⟩ := right_facts h
  unfold wire6
  rw [numW_ok (n := r.k) (by omega) (by omega), numW_ok (n := r.e) (by omega) (by omega), numW_ok hw.1 hw.2, numW_ok hn.1 hn.2, numW_ok hq.1 hq.2, textW_ok ht]
  simp only [List.nil_append, List.append_assoc]
theorem textE_sb {t : ByteArray} (h : t.size ≤ 64) (rest : List Int) : textE (dig t.size ++ sb t ++ rest) 0 = (sb t, rest, 0) := by
  rw [textE_0, ← sb_len t]
  exact textF_sb (sb t) rest (by rw [sb_len]; exact h)
/-- A record that may be is read of its bytes, whatever stands behind them. -/
theorem read_wire {r : Rc} (h : rightB r = true) (rest : List Int) : read6 (wireL r ++ rest) = (r, rest, 0) := by
  obtain ⟨hk, he, hw, hn, hq, ht, hp, hc⟩ := right_facts h
  have h5 : ∀ rest, read5 (wire6 r ++ rest) = ({ r with p := Sp.zero }, rest, 0) := by
    intro rest
    rw [wire6_eq h]
    simp only [List.append_assoc]
    unfold read5
    simp only []
    rw [getF_dig (m := r.k) (by omega) (by omega), getF_dig (m := r.e) (by omega) (by omega), getF_dig hw.1 (by omega), getF_dig hn.1 (by omega), getF_dig hq.1 (by omega), ← List.append_assoc (dig r.t.size), textE_sb ht]
    simp only [strOfNums_sb]
  by_cases h3 : r.k = 3
  · have hl := nums_le (hc h3)
    have e1 : wireL r = wire6 r ++ (dig r.p.nums.length ++ digs r.p.nums) := by
      unfold wireL
      rw [if_pos h3, listW_ok (by simp [Sp.nums]) hl, List.append_assoc]
    unfold read6
    rw [e1, List.append_assoc, h5]
    simp only []
    rw [if_pos h3, listE_0, listF_digs _ _ hl (by simp [Sp.nums])]
    simp only [mkSp]
    rw [if_pos (by rfl), Sp.ofL_nums]
  · have e1 : wireL r = wire6 r := by unfold wireL; rw [if_neg h3]
    unfold read6
    rw [e1, h5]
    simp only []
    rw [if_neg h3, ← hp h3]

theorem getF_back {l : List Int} {e : Int} (hb : Bytey l) (h : (getF l e).2.2 = 0) : e = 0 ∧ l = dig (getF l e).1.toNat ++ (getF l e).2.1 ∧ 0 ≤ (getF l e).1 ∧ (getF l e).1 ≤ 4611686018427387903 ∧ Bytey (getF l e).2.1 := by
  unfold getF at *
  by_cases he : e = 0
  · rw [if_pos he] at h ⊢
    cases hq : rdAux 0 0 l with
    | none => rw [hq] at h; simp at h
    | some p =>
      obtain ⟨n, r⟩ := p
      have := rd_only hb hq
      refine ⟨he, by simpa using this.1, by simp, by simp; omega, fun x hx => hb x ?_⟩
      rw [this.1]; exact List.mem_append.2 (.inr hx)
  · rw [if_neg he] at h; exact absurd h he
theorem textE_back {l : List Int} {e : Int} (hb : Bytey l) (h : (textE l e).2.2 = 0) : e = 0 ∧ l = dig (textE l e).1.length ++ ((textE l e).1 ++ (textE l e).2.1) ∧ (textE l e).1.length ≤ 64 ∧ Bytey (textE l e).1 ∧ Bytey (textE l e).2.1 := by
  unfold textE at *
  by_cases h1 : (getF l e).2.2 = 0
  · obtain ⟨he, hl, h0, h2, hby⟩ := getF_back hb h1
    rw [if_neg (by simpa using h1)] at h ⊢
    by_cases h3 : (getF l e).1.toNat ≤ 64 ∧ (getF l e).1.toNat ≤ (getF l e).2.1.length
    · rw [if_pos h3] at h ⊢
      refine ⟨he, ?_, ?_, fun x hx => hby x (List.mem_of_mem_take hx), fun x hx => hby x (List.mem_of_mem_drop hx)⟩
      · simp only [List.take_append_drop]
        rw [List.length_take, Nat.min_eq_left h3.2]
        exact hl
      · simp only [List.length_take]; omega
    · rw [if_neg h3] at h; simp at h
  · rw [if_pos h1] at h; exact absurd h h1
theorem numsF_back : ∀ (k : Nat) (l : List Int), Bytey l → (numsF k l 0).2.2 = 0 → l = digs (numsF k l 0).1 ++ (numsF k l 0).2.1 ∧ (∀ x ∈ (numsF k l 0).1, 0 ≤ x ∧ x ≤ 4611686018427387903) ∧ Bytey (numsF k l 0).2.1
  | 0, l, hb, _ => ⟨by simp [numsF, digs], by simp [numsF], by simpa [numsF] using hb⟩
  | k + 1, l, hb, h => by
    obtain ⟨⟨xs, l', e'⟩, hq⟩ : ∃ g, g = numsF k l 0 := ⟨_, rfl⟩
    have e : numsF (k + 1) l 0 = (xs ++ [(getF l' e').1], (getF l' e').2.1, (getF l' e').2.2) := by rw [numsF, ← hq]
    have hb0 : Bytey l' := by
      have := (numsF_sub l k).1
      rw [← hq] at this
      exact fun x hx => hb x (this x hx)
    rw [e] at h ⊢
    simp only [] at h ⊢
    obtain ⟨he, hl, h0, h1, hby⟩ := getF_back hb0 h
    subst he
    have ih := numsF_back k l hb (by rw [← hq])
    rw [← hq] at ih
    simp only [] at ih
    refine ⟨?_, fun x hx => ?_, hby⟩
    · rw [digs_app, List.append_assoc, ih.1]
      congr 1
      rw [hl]
      simp [digs, getF_dig h0 h1]
    · rcases List.mem_append.1 hx with hx | hx
      · exact ih.2.1 x hx
      · rw [List.mem_singleton] at hx; subst hx; exact ⟨h0, h1⟩
theorem listE_back {l : List Int} {e : Int} (hb : Bytey l) (h : (listE l e).2.2 = 0) : e = 0 ∧ l = dig (listE l e).1.length ++ (digs (listE l e).1 ++ (listE l e).2.1) ∧ (listE l e).1.length ≤ 64 ∧ (∀ x ∈ (listE l e).1, 0 ≤ x ∧ x ≤ 4611686018427387903) := by
  unfold listE at *
  by_cases h1 : (getF l e).2.2 = 0
  · obtain ⟨he, hl, h0, h2, hby⟩ := getF_back hb h1
    rw [if_neg (by simpa using h1)] at h ⊢
    by_cases h3 : 64 < (getF l e).1.toNat
    · rw [if_pos h3] at h; simp at h
    · rw [if_neg h3] at h ⊢
      by_cases h4 : (numsF (getF l e).1.toNat (getF l e).2.1 0).2.2 = 0
      · rw [if_pos h4] at h ⊢
        obtain ⟨a, b, c⟩ := numsF_back _ _ hby h4
        have hlen := numsF_len (getF l e).1.toNat (getF l e).2.1 0
        refine ⟨he, ?_, by omega, b⟩
        rw [hlen, ← a]
        exact hl
      · rw [if_neg h4] at h; exact absurd h h4
  · rw [if_pos h1] at h; exact absurd h h1
theorem listE_ne_err {l : List Int} {e : Int} (h : e ≠ 0) : (listE l e).2.2 ≠ 0 := by rw [listE_ne l e h]; exact h
theorem endF_back {l : List Int} {e : Int} (h : endF l e = 0) : e = 0 ∧ l = [] := by
  unfold endF at h
  split at h
  · cases h
  · rename_i h1
    exact ⟨h, by
      cases l with
      | nil => rfl
      | cons a b => exact absurd ⟨h, by simp⟩ h1⟩

/-- Bytes that are read as a record that may be are those that are written of it. -/
theorem wire_read {l : List Int} (hb : Bytey l) (he : endF (read6 l).2.1 (read6 l).2.2 = 0) (hr : rightB (read6 l).1 = true) : wireL (read6 l).1 = l := by
  obtain ⟨hE, hL⟩ := endF_back he
  clear he
  have h6 := wire6_eq hr
  obtain ⟨_, _, _, _, _, _, hp, hc⟩ := right_facts hr
  -- the five numbers and the text
  have h5 : ∀ (x : List Int × Int), (read5 l).2.2 = 0 → Bytey (read5 l).2.1 ∧ l = dig (read5 l).1.k.toNat ++ (dig (read5 l).1.e.toNat ++ (dig (read5 l).1.w.toNat ++ (dig (read5 l).1.n.toNat ++ (dig (read5 l).1.q.toNat ++ (dig (read5 l).1.t.size ++ (sb (read5 l).1.t ++ (read5 l).2.1)))))) := by
    intro _ h0
    unfold read5 at h0 ⊢
    simp only [] at h0 ⊢
    have ok : ∀ (l : List Int) (e : Int), Bytey l → Bytey (getF l e).2.1 := fun l e h x hx => by
      obtain ⟨_, _, _, h1, _⟩ := getF_sub l e
      exact h x (h1 x hx)
    have y1 := ok l 0 hb
    have y2 := ok _ (getF l 0).2.2 y1
    have y3 := ok _ (getF (getF l 0).2.1 (getF l 0).2.2).2.2 y2
    have y4 := ok _ (getF (getF (getF l 0).2.1 (getF l 0).2.2).2.1 (getF (getF l 0).2.1 (getF l 0).2.2).2.2).2.2 y3
    have y5 := ok _ (getF (getF (getF (getF l 0).2.1 (getF l 0).2.2).2.1 (getF (getF l 0).2.1 (getF l 0).2.2).2.2).2.1 (getF (getF (getF l 0).2.1 (getF l 0).2.2).2.1 (getF (getF l 0).2.1 (getF l 0).2.2).2.2).2.2).2.2 y4
    obtain ⟨t0, tl, t64, tb, tr⟩ := textE_back y5 h0
    obtain ⟨z4, m5, _⟩ := getF_back y4 t0
    obtain ⟨z3, m4, _⟩ := getF_back y3 z4
    obtain ⟨z2, m3, _⟩ := getF_back y2 z3
    obtain ⟨z1, m2, _⟩ := getF_back y1 z2
    obtain ⟨_, m1, _⟩ := getF_back hb z1
    refine ⟨tr, ?_⟩
    rw [strOfNums_size, sb_str tb, ← tl, ← m5, ← m4, ← m3, ← m2, ← m1]
  by_cases h3 : (read5 l).1.k = 3
  · have e6 : read6 l = ({ (read5 l).1 with p := mkSp (listE (read5 l).2.1 (read5 l).2.2).1 }, (listE (read5 l).2.1 (read5 l).2.2).2.1, (listE (read5 l).2.1 (read5 l).2.2).2.2) := by
      unfold read6; simp only []; rw [if_pos h3]
    rw [e6] at hE hL hr h6 hc ⊢
    simp only [] at hE hL
    have hce : (mkSp (listE (read5 l).2.1 (read5 l).2.2).1).chkE = 0 := hc h3
    -- the error of the list
    by_cases h50 : (read5 l).2.2 = 0
    · obtain ⟨hby, hl5⟩ := h5 ([], 0) h50
      obtain ⟨_, hll, hl64, hlx⟩ := listE_back hby hE
      have h12 : (listE (read5 l).2.1 (read5 l).2.2).1.length = 12 := by
        refine Classical.byContradiction fun hne => ?_
        rw [mkSp, if_neg hne] at hce
        have : Sp.zero.chkE ≠ 0 := by decide
        exact this hce
      have e1 : wireL { (read5 l).1 with p := mkSp (listE (read5 l).2.1 (read5 l).2.2).1 } = wire6 { (read5 l).1 with p := mkSp (listE (read5 l).2.1 (read5 l).2.2).1 } ++ (dig (listE (read5 l).2.1 (read5 l).2.2).1.length ++ digs (listE (read5 l).2.1 (read5 l).2.2).1) := by
        unfold wireL
        rw [if_pos h3]
        have en : (mkSp (listE (read5 l).2.1 (read5 l).2.2).1).nums = (listE (read5 l).2.1 (read5 l).2.2).1 := by rw [mkSp, if_pos h12, Sp.nums_ofL h12]
        simp only [en]
        rw [listW_ok (by omega) hlx, List.append_assoc]
      rw [e1, h6]
      rw [hL, List.append_nil] at hll
      conv => rhs; rw [hl5]
      rw [hll.symm]
      simp only [List.append_assoc]
    · exact absurd hE (listE_ne_err h50)
  · have e6 : read6 l = read5 l := by unfold read6; simp only []; rw [if_neg h3]
    rw [e6] at hE hL hr h6 ⊢
    obtain ⟨_, hl5⟩ := h5 ([], 0) hE
    have e1 : wireL (read5 l).1 = wire6 (read5 l).1 := by unfold wireL; rw [if_neg h3]
    rw [e1, h6]
    conv => rhs; rw [hl5]
    rw [hL, List.append_nil]
end Go.Proofs.YtinbidmgllmglaaDoor
namespace Go.Proofs.YtinbidmgllmglaaDoor
set_option linter.unusedVariables false
set_option linter.unusedSimpArgs false
set_option maxRecDepth 20000
open Go.RowKit

def goodT (t : ByteArray) : ByteArray := if t.size ≤ 20 then ⟨#[116]⟩ ++ t else ⟨#[116]⟩ ++ t.extract 0 20
def goodR (r : Rc) : Rc :=
  let k := nearF r.k 1 7
  let e := nearF r.e 1 9
  if k = 1 then ⟨1, e, nearF r.w 0 4, nearF r.n 0 50, nearF r.q 1 20, ⟨#[]⟩, Sp.zero⟩
  else if k = 2 then ⟨2, e, 0, nearF r.n 1 6, 0, goodT r.t, Sp.zero⟩
  else if k = 3 then ⟨3, e, 0, nearF r.n 0 50, 0, ⟨#[]⟩, goodSp r.p⟩
  else if k = 4 then ⟨4, e, 0, nearF r.n 1 5, 0, goodT r.t, Sp.zero⟩
  else if k = 5 then ⟨5, e, nearF r.w 0 16, nearF r.n 0 7, nearF r.q 1 9, ⟨#[]⟩, Sp.zero⟩
  else if k = 6 then ⟨6, e, nearF r.w 0 16, 0, nearF r.q 1 9, ⟨#[]⟩, Sp.zero⟩
  else ⟨7, e, nearF r.w 1 4, nearF r.n 0 50, 0, goodT r.t, Sp.zero⟩

set_option maxHeartbeats 1000000 in
theorem rnear10_calls (n least many : Int) (w : World) (h0 : 0 ≤ least) (h1 : least ≤ 1000000) (h2 : 0 < many) (h3 : many ≤ 1000000) : Calls Tryd.prog 47 #[.int .i64 n, .int .i64 least, .int .i64 many] w fun r w' => r = .returned (.int .i64 (nearF n least many)) ∧ w = w' := by
  have e1 : IntKind.u64.wrap n = n % 18446744073709551616 := by simp [IntKind.wrap, IntKind.bits, IntKind.signed]
  have e2 : IntKind.u64.wrap many = many := by simp [IntKind.wrap, IntKind.bits, IntKind.signed]; omega
  have hx : 0 ≤ n % 18446744073709551616 := Int.emod_nonneg _ (by omega)
  have e3 : (n % 18446744073709551616).tmod many = n % 18446744073709551616 % many := Int.tmod_eq_emod_of_nonneg hx
  have hy0 : 0 ≤ n % 18446744073709551616 % many := Int.emod_nonneg _ (by omega)
  have hy1 : n % 18446744073709551616 % many < many := Int.emod_lt_of_pos _ h2
  obtain ⟨y, hy⟩ : ∃ y, y = n % 18446744073709551616 % many := ⟨_, rfl⟩
  have HN : Hid (nearF n least many = least + y) := hid (by unfold nearF; rw [hy])
  rw [← hy] at e3 hy0 hy1
  obtain ⟨x, hxx⟩ : ∃ x, x = n % 18446744073709551616 := ⟨_, rfl⟩
  rw [← hxx] at e1 e3 hx
  have E1 := hid e1; have E2 := hid e2; have E3 := hid e3
  have hm0 : ¬ many = 0 := by omega
  have hmb : (many == 0) = false := beq_eq_false_iff_ne.2 hm0
  clear e1 e2 e3 hy hxx hm0
  have E4 : Hid (IntKind.u64.wrap y = y) := hid (by simp [IntKind.wrap, IntKind.bits, IntKind.signed]; omega)
  have E5 : Hid (wrap64 y = y) := hid (by unfold wrap64; omega)
  go_enter Tryd.func47, Tryd.ntmps47
  have e1 := E1.out; have e2 := E2.out; have e3 := E3.out; have e4 := E4.out; have e5 := E5.out
  go_wp2_with fail
  go_ret
  exact ⟨by rw [HN.out]; first | rfl | (simp [e1, e2, e3, e4, e5]; done) | (go_simp; rfl), rfl⟩

set_option maxRecDepth 100000 in
set_option maxHeartbeats 8000000 in
attribute [local go_sem] FUpon in
theorem rgood_calls (r : Rc) (w : World) (hts : r.t.size ≤ 9223372036854775807) : Calls Tryd.prog 19 #[r.val] w fun x w' => x = .returned (goodR r).val ∧ Frm M0 w w' := by
  obtain ⟨kk, Kkk⟩ : ∃ x, Hid (nearF r.k 1 7 = x) := ⟨_, rfl⟩
  have bkk : 1 ≤ kk ∧ kk < 8 := by have := near_bd (n := r.k) (least := 1) (many := 7) (by omega); have e := Kkk.out; rw [e] at this; omega
  obtain ⟨lkk, ukk⟩ := bkk
  obtain ⟨ee, Kee⟩ : ∃ x, Hid (nearF r.e 1 9 = x) := ⟨_, rfl⟩
  have HPV : Hid (r.p.val = .agg #[.int .i64 r.p.s0, .int .i64 r.p.s1, .int .i64 r.p.s2, .int .i64 r.p.s3, .int .i64 r.p.s4, .int .i64 r.p.s5, .int .i64 r.p.s6, .int .i64 r.p.s7, .int .i64 r.p.s8, .int .i64 r.p.s9, .int .i64 r.p.s10, .int .i64 r.p.s11]) := rfl
  have HVV : Hid (r.val = .agg #[.int .i64 r.k, .int .i64 r.e, .int .i64 r.w, .int .i64 r.n, .int .i64 r.q, .string r.t, .int .i64 r.p.s0, .int .i64 r.p.s1, .int .i64 r.p.s2, .int .i64 r.p.s3, .int .i64 r.p.s4, .int .i64 r.p.s5, .int .i64 r.p.s6, .int .i64 r.p.s7, .int .i64 r.p.s8, .int .i64 r.p.s9, .int .i64 r.p.s10, .int .i64 r.p.s11]) := rfl
  rw [HVV.out]
  go_enter Tryd.func19, Tryd.ntmps19
  go_wp2_with fail
  obtain ⟨hB, hT⟩ := new2 w (.cells #[.int .i64 r.k, .int .i64 r.e, .int .i64 r.w, .int .i64 r.n, .int .i64 r.q, .string r.t, .int .i64 r.p.s0, .int .i64 r.p.s1, .int .i64 r.p.s2, .int .i64 r.p.s3, .int .i64 r.p.s4, .int .i64 r.p.s5, .int .i64 r.p.s6, .int .i64 r.p.s7, .int .i64 r.p.s8, .int .i64 r.p.s9, .int .i64 r.p.s10, .int .i64 r.p.s11] 26) (.cells #[.int .i64 0, .int .i64 0, .int .i64 0, .int .i64 0, .int .i64 0, .string ⟨#[]⟩, .int .i64 0, .int .i64 0, .int .i64 0, .int .i64 0, .int .i64 0, .int .i64 0, .int .i64 0, .int .i64 0, .int .i64 0, .int .i64 0, .int .i64 0, .int .i64 0] 26)
  have hF := ((Frm.refl M0 w).alloc (.cells #[.int .i64 r.k, .int .i64 r.e, .int .i64 r.w, .int .i64 r.n, .int .i64 r.q, .string r.t, .int .i64 r.p.s0, .int .i64 r.p.s1, .int .i64 r.p.s2, .int .i64 r.p.s3, .int .i64 r.p.s4, .int .i64 r.p.s5, .int .i64 r.p.s6, .int .i64 r.p.s7, .int .i64 r.p.s8, .int .i64 r.p.s9, .int .i64 r.p.s10, .int .i64 r.p.s11] 26)).alloc (.cells #[.int .i64 0, .int .i64 0, .int .i64 0, .int .i64 0, .int .i64 0, .string ⟨#[]⟩, .int .i64 0, .int .i64 0, .int .i64 0, .int .i64 0, .int .i64 0, .int .i64 0, .int .i64 0, .int .i64 0, .int .i64 0, .int .i64 0, .int .i64 0, .int .i64 0] 26)
  obtain ⟨b, hb⟩ : ∃ x, x = w.heap.size := ⟨_, rfl⟩
  obtain ⟨w0, hw⟩ : ∃ x, x = (w.alloc (.cells #[.int .i64 r.k, .int .i64 r.e, .int .i64 r.w, .int .i64 r.n, .int .i64 r.q, .string r.t, .int .i64 r.p.s0, .int .i64 r.p.s1, .int .i64 r.p.s2, .int .i64 r.p.s3, .int .i64 r.p.s4, .int .i64 r.p.s5, .int .i64 r.p.s6, .int .i64 r.p.s7, .int .i64 r.p.s8, .int .i64 r.p.s9, .int .i64 r.p.s10, .int .i64 r.p.s11] 26)).alloc (.cells #[.int .i64 0, .int .i64 0, .int .i64 0, .int .i64 0, .int .i64 0, .string ⟨#[]⟩, .int .i64 0, .int .i64 0, .int .i64 0, .int .i64 0, .int .i64 0, .int .i64 0, .int .i64 0, .int .i64 0, .int .i64 0, .int .i64 0, .int .i64 0, .int .i64 0] 26) := ⟨_, rfl⟩
  have hz : w0.heap.size = b + 2 := by rw [hw, hb]; simp
  have hs1 : (w.alloc (.cells #[.int .i64 r.k, .int .i64 r.e, .int .i64 r.w, .int .i64 r.n, .int .i64 r.q, .string r.t, .int .i64 r.p.s0, .int .i64 r.p.s1, .int .i64 r.p.s2, .int .i64 r.p.s3, .int .i64 r.p.s4, .int .i64 r.p.s5, .int .i64 r.p.s6, .int .i64 r.p.s7, .int .i64 r.p.s8, .int .i64 r.p.s9, .int .i64 r.p.s10, .int .i64 r.p.s11] 26)).heap.size = w.heap.size + 1 := by simp
  try rw [hs1]
  rw [← hw, ← hb] at hB hT
  rw [← hw] at hF
  rw [← hw, ← hb]
  have HBB := hid hb
  have B0 := hid hB
  have T0 := hid hT
  have F0 := hid hF
  clear hw hb hB hT hF hs1
  have HL : Hid (∀ wx, Frm M0 w0 wx → wx.heap[b]? = some (.cells #[.int .i64 r.k, .int .i64 r.e, .int .i64 r.w, .int .i64 r.n, .int .i64 r.q, .string r.t, .int .i64 r.p.s0, .int .i64 r.p.s1, .int .i64 r.p.s2, .int .i64 r.p.s3, .int .i64 r.p.s4, .int .i64 r.p.s5, .int .i64 r.p.s6, .int .i64 r.p.s7, .int .i64 r.p.s8, .int .i64 r.p.s9, .int .i64 r.p.s10, .int .i64 r.p.s11] 26 (0, 0))) := hid (fun wx hx => hx.heap B0.out (fun h => h))
  refine wp_region_Fl 7 8 [0, 1, 2, 3, 4, 5, 6] ⟨some 3, .alloc 26, 0, "ref.go:128", #[], none⟩ (.cells #[.int .i64 0, .int .i64 0, .int .i64 0, .int .i64 0, .int .i64 0, .string ⟨#[]⟩, .int .i64 0, .int .i64 0, .int .i64 0, .int .i64 0, .int .i64 0, .int .i64 0, .int .i64 0, .int .i64 0, .int .i64 0, .int .i64 0, .int .i64 0, .int .i64 0] 26) (by kernel_rfl) (by kernel_rfl) rfl rfl rfl (fun a w => rfl) ?_
  intro ops QT HO HQ
  obtain ⟨ho0, HO⟩ := HO
  refine wpF_cons _ (ptr b) ho0.out ?_ ?_
  · refine FY_in rfl fun wx hx => ?_
    go_simp
  simp only [Act.put, List.setIfInBounds_toArray, List.set_cons_zero, List.set_cons_succ]
  obtain ⟨ho1, HO⟩ := HO
  refine wpF_cons _ (.int .i64 r.k) ho1.out ?_ ?_
  · refine FY_in rfl fun wx hx => ?_
    have hc : wx.cell? ⟨b, 0, none⟩ = some (.int .i64 r.k) := cell_at (HL.out wx hx) 0
    go_simp
  simp only [Act.put, List.setIfInBounds_toArray, List.set_cons_zero, List.set_cons_succ]
  obtain ⟨ho2, HO⟩ := HO
  refine wpF_cons _ (.int .i64 kk) ho2.out ?_ ?_
  · refine FY_in rfl fun wx hx => ?_
    go_simp
    exact (rnear10_calls _ _ _ _ (by omega) (by omega) (by omega) (by omega)).mono fun e w' h => ⟨by rw [h.1, Kkk.out], by rw [h.2]; exact Frm.refl _ _⟩
  simp only [Act.put, List.setIfInBounds_toArray, List.set_cons_zero, List.set_cons_succ]
  obtain ⟨ho3, HO⟩ := HO
  refine wpF_cons _ (.pointer (some ⟨b, 1, none⟩)) ho3.out ?_ ?_
  · refine FY_in rfl fun wx hx => ?_
    go_simp
  simp only [Act.put, List.setIfInBounds_toArray, List.set_cons_zero, List.set_cons_succ]
  obtain ⟨ho4, HO⟩ := HO
  refine wpF_cons _ (.int .i64 r.e) ho4.out ?_ ?_
  · refine FY_in rfl fun wx hx => ?_
    have hc : wx.cell? ⟨b, 1, none⟩ = some (.int .i64 r.e) := cell_at (HL.out wx hx) 1
    go_simp
  simp only [Act.put, List.setIfInBounds_toArray, List.set_cons_zero, List.set_cons_succ]
  obtain ⟨ho5, HO⟩ := HO
  refine wpF_cons _ (.int .i64 ee) ho5.out ?_ ?_
  · refine FY_in rfl fun wx hx => ?_
    go_simp
    exact (rnear10_calls _ _ _ _ (by omega) (by omega) (by omega) (by omega)).mono fun e w' h => ⟨by rw [h.1, Kee.out], by rw [h.2]; exact Frm.refl _ _⟩
  simp only [Act.put, List.setIfInBounds_toArray, List.set_cons_zero, List.set_cons_succ]
  obtain ⟨ho6, HO⟩ := HO
  refine wpF_cons _ (.agg #[.int .i64 kk, .int .i64 ee, .int .i64 0, .int .i64 0, .int .i64 0, .string ⟨#[]⟩, .int .i64 0, .int .i64 0, .int .i64 0, .int .i64 0, .int .i64 0, .int .i64 0, .int .i64 0, .int .i64 0, .int .i64 0, .int .i64 0, .int .i64 0, .int .i64 0]) ho6.out ?_ ?_
  · refine FY_in rfl fun wx hx => ?_
    go_simp
  simp only [Act.put, List.setIfInBounds_toArray, List.set_cons_zero, List.set_cons_succ]
  refine HQ.out _ ?_
  intro g w2 hf2 hbx hh2
  refine .inl (wp_store_row 26 (.tmp 3) (.tmp 11) rfl g #[.int .i64 kk, .int .i64 ee, .int .i64 0, .int .i64 0, .int .i64 0, .string ⟨#[]⟩, .int .i64 0, .int .i64 0, .int .i64 0, .int .i64 0, .int .i64 0, .int .i64 0, .int .i64 0, .int .i64 0, .int .i64 0, .int .i64 0, .int .i64 0, .int .i64 0] (by kernel_rfl) (by kernel_rfl) _ _ hh2 (by kernel_rfl) rfl (by simp [Value.oneCell']) ?_)
  have G3 := hid (setRow_heap w2 g _ (#[.int .i64 kk, .int .i64 ee, .int .i64 0, .int .i64 0, .int .i64 0, .string ⟨#[]⟩, .int .i64 0, .int .i64 0, .int .i64 0, .int .i64 0, .int .i64 0, .int .i64 0, .int .i64 0, .int .i64 0, .int .i64 0, .int .i64 0, .int .i64 0, .int .i64 0]) _ _ hh2)
  have hfs := hf2.setRow g (#[.int .i64 kk, .int .i64 ee, .int .i64 0, .int .i64 0, .int .i64 0, .string ⟨#[]⟩, .int .i64 0, .int .i64 0, .int .i64 0, .int .i64 0, .int .i64 0, .int .i64 0, .int .i64 0, .int .i64 0, .int .i64 0, .int .i64 0, .int .i64 0, .int .i64 0]) hbx
  have B3 := hid (hfs.heap B0.out (fun h => h))
  have T3 := hid (hfs.heap T0.out (fun h => h))
  have F3 := hid (F0.out.then0 hfs)
  obtain ⟨w3, hw3⟩ : ∃ x, x = w2.setRow g (#[.int .i64 kk, .int .i64 ee, .int .i64 0, .int .i64 0, .int .i64 0, .string ⟨#[]⟩, .int .i64 0, .int .i64 0, .int .i64 0, .int .i64 0, .int .i64 0, .int .i64 0, .int .i64 0, .int .i64 0, .int .i64 0, .int .i64 0, .int .i64 0, .int .i64 0]) := ⟨_, rfl⟩
  rw [← hw3] at G3 B3 T3 F3
  rw [← hw3]
  have hgb : b + 2 ≤ g := by omega
  clear hw3 hfs hh2 hf2 HL B0 T0 F0 HO HQ hbx hz
  clear ho0 ho1 ho2 ho3 ho4 ho5 ho6
  simp only [List.getElem_toArray, List.getElem_cons_succ, List.getElem_cons_zero, Act.put, List.setIfInBounds_toArray, List.set_cons_zero, List.set_cons_succ]
  go_upto_region 2 with fail
  go_cut [4] (fun s4 wx => s4 = .string (goodT r.t) ∧ Hid (w3 = wx))
  case first =>
    by_cases h20 : (r.t.size : Int) ≤ 20
    case pos =>
      have hm : min (r.t.size : Int) 20 = (r.t.size : Int) := by omega
      have H20 : Hid (r.t.size ≤ 20) := hid (by omega)
      go_wp2_with (first | (refine wpList_load_v (by kernel_rfl) 9 (.tmp 12) (by with_reducible rfl) b 5 (by kernel_rfl) _ _ _ B3.out (.string r.t) (by kernel_rfl) _ Tryd.underlying9 rfl ?_) | (refine wpList_load_v (by kernel_rfl) 9 (.tmp 14) (by with_reducible rfl) b 5 (by kernel_rfl) _ _ _ B3.out (.string r.t) (by kernel_rfl) _ Tryd.underlying9 rfl ?_))
      all_goals first
        | (exfalso; omega)
        | (go_meet; exact ⟨by unfold goodT; rw [if_pos H20.out], hid rfl⟩)
    case neg =>
      have hm : min (r.t.size : Int) 20 = 20 := by omega
      have H20 : Hid (¬ r.t.size ≤ 20) := hid (by omega)
      go_wp2_with (first | (refine wpList_load_v (by kernel_rfl) 9 (.tmp 12) (by with_reducible rfl) b 5 (by kernel_rfl) _ _ _ B3.out (.string r.t) (by kernel_rfl) _ Tryd.underlying9 rfl ?_) | (refine wpList_load_v (by kernel_rfl) 9 (.tmp 14) (by with_reducible rfl) b 5 (by kernel_rfl) _ _ _ B3.out (.string r.t) (by kernel_rfl) _ Tryd.underlying9 rfl ?_))
      all_goals first
        | (exfalso; omega)
        | (go_meet; exact ⟨by unfold goodT; rw [if_neg H20.out], hid rfl⟩)
  case rest =>
    obtain ⟨rfl, hw⟩ := hcut
    rw [← hw.out]
    clear hw
    obtain ⟨gt, Hgt⟩ : ∃ x, Hid (goodT r.t = x) := ⟨_, rfl⟩
    rw [Hgt.out]
    have hk : kk = 1 ∨ kk = 2 ∨ kk = 3 ∨ kk = 4 ∨ kk = 5 ∨ kk = 6 ∨ kk = 7 := by omega
    clear lkk ukk
    rcases hk with rfl | rfl | rfl | rfl | rfl | rfl | rfl
    · obtain ⟨x0, X0⟩ : ∃ x, Hid (nearF r.w 0 4 = x) := ⟨_, rfl⟩
      obtain ⟨x1, X1⟩ : ∃ x, Hid (nearF r.n 0 50 = x) := ⟨_, rfl⟩
      obtain ⟨x2, X2⟩ : ∃ x, Hid (nearF r.q 1 20 = x) := ⟨_, rfl⟩
      have HG : Hid (goodR r = ⟨1, ee, x0, x1, x2, ⟨#[]⟩, Sp.zero⟩) := hid (by simp [goodR, Kkk.out, Kee.out, X0.out, X1.out, X2.out])
      go_wp2_with (first | (refine wpList_load_v (by kernel_rfl) 3 (.tmp 20) (by with_reducible rfl) g 0 (by kernel_rfl) _ _ _ G3.out (.int .i64 1) (by kernel_rfl) _ Tryd.underlying3 rfl ?_) | (refine wpList_load_v (by kernel_rfl) 3 (.tmp 24) (by with_reducible rfl) b 2 (by kernel_rfl) _ _ _ B3.out (.int .i64 r.w) (by kernel_rfl) _ Tryd.underlying3 rfl ?_))
      refine (rnear10_calls _ _ _ _ (by decide) (by decide) (by decide) (by decide)).mono ?_
      rintro _ _ ⟨rfl, rfl⟩
      rw [X0.out]
      go_wp2_with (first | (refine wpList_store_v (by kernel_rfl) 3 (.tmp 27) (.tmp 26) (by with_reducible rfl) g 2 (by kernel_rfl) (.int .i64 x0) (by kernel_rfl) #[.int .i64 x0] rfl _ _ G3.out (by kernel_rfl) (by simp) (by simp [Value.oneCell']) ?_; intro w4 hh hp; have G4 : Hid (w4.heap[g]? = some (.cells #[.int .i64 1, .int .i64 ee, .int .i64 x0, .int .i64 0, .int .i64 0, .string ⟨#[]⟩, .int .i64 0, .int .i64 0, .int .i64 0, .int .i64 0, .int .i64 0, .int .i64 0, .int .i64 0, .int .i64 0, .int .i64 0, .int .i64 0, .int .i64 0, .int .i64 0] 26 (0, 0))) := putL_heap hh (by kernel_rfl); have B4 := hid (hp.heap B3.out (by show ¬ b = g; omega)); have T4 := hid (hp.heap T3.out (by show ¬ b + 1 = g; omega)); have F4 := hid (F3.out.trans hp (fun x hx e => by have e' : x = g := e; have := HBB.out; omega)); clear hh hp G3 B3 T3 F3) | (refine wpList_load_v (by kernel_rfl) 3 (.tmp 28) (by with_reducible rfl) b 3 (by kernel_rfl) _ _ _ B4.out (.int .i64 r.n) (by kernel_rfl) _ Tryd.underlying3 rfl ?_))
      refine (rnear10_calls _ _ _ _ (by decide) (by decide) (by decide) (by decide)).mono ?_
      rintro _ _ ⟨rfl, rfl⟩
      rw [X1.out]
      go_wp2_with (first | (refine wpList_store_v (by kernel_rfl) 3 (.tmp 31) (.tmp 30) (by with_reducible rfl) g 3 (by kernel_rfl) (.int .i64 x1) (by kernel_rfl) #[.int .i64 x1] rfl _ _ G4.out (by kernel_rfl) (by simp) (by simp [Value.oneCell']) ?_; intro w5 hh hp; have G5 : Hid (w5.heap[g]? = some (.cells #[.int .i64 1, .int .i64 ee, .int .i64 x0, .int .i64 x1, .int .i64 0, .string ⟨#[]⟩, .int .i64 0, .int .i64 0, .int .i64 0, .int .i64 0, .int .i64 0, .int .i64 0, .int .i64 0, .int .i64 0, .int .i64 0, .int .i64 0, .int .i64 0, .int .i64 0] 26 (0, 0))) := putL_heap hh (by kernel_rfl); have B5 := hid (hp.heap B4.out (by show ¬ b = g; omega)); have T5 := hid (hp.heap T4.out (by show ¬ b + 1 = g; omega)); have F5 := hid (F4.out.trans hp (fun x hx e => by have e' : x = g := e; have := HBB.out; omega)); clear hh hp G4 B4 T4 F4) | (refine wpList_load_v (by kernel_rfl) 3 (.tmp 32) (by with_reducible rfl) b 4 (by kernel_rfl) _ _ _ B5.out (.int .i64 r.q) (by kernel_rfl) _ Tryd.underlying3 rfl ?_))
      refine (rnear10_calls _ _ _ _ (by decide) (by decide) (by decide) (by decide)).mono ?_
      rintro _ _ ⟨rfl, rfl⟩
      rw [X2.out]
      go_wp2_with (first | (refine wpList_store_v (by kernel_rfl) 3 (.tmp 35) (.tmp 34) (by with_reducible rfl) g 4 (by kernel_rfl) (.int .i64 x2) (by kernel_rfl) #[.int .i64 x2] rfl _ _ G5.out (by kernel_rfl) (by simp) (by simp [Value.oneCell']) ?_; intro w6 hh hp; have G6 : Hid (w6.heap[g]? = some (.cells #[.int .i64 1, .int .i64 ee, .int .i64 x0, .int .i64 x1, .int .i64 x2, .string ⟨#[]⟩, .int .i64 0, .int .i64 0, .int .i64 0, .int .i64 0, .int .i64 0, .int .i64 0, .int .i64 0, .int .i64 0, .int .i64 0, .int .i64 0, .int .i64 0, .int .i64 0] 26 (0, 0))) := putL_heap hh (by kernel_rfl); have B6 := hid (hp.heap B5.out (by show ¬ b = g; omega)); have T6 := hid (hp.heap T5.out (by show ¬ b + 1 = g; omega)); have F6 := hid (F5.out.trans hp (fun x hx e => by have e' : x = g := e; have := HBB.out; omega)); clear hh hp G5 B5 T5 F5) | (refine wpList_load_row rfl 26 (.tmp 3) (by with_reducible rfl) g (by kernel_rfl) _ _ _ _ G6.out Tryd.underlying26 rfl (by kernel_rfl) ?_) | (refine wpList_store_row rfl 26 (.tmp 2) (.tmp 98) (by with_reducible rfl) (b + 1) #[.int .i64 1, .int .i64 ee, .int .i64 x0, .int .i64 x1, .int .i64 x2, .string ⟨#[]⟩, .int .i64 0, .int .i64 0, .int .i64 0, .int .i64 0, .int .i64 0, .int .i64 0, .int .i64 0, .int .i64 0, .int .i64 0, .int .i64 0, .int .i64 0, .int .i64 0] (by kernel_rfl) (by kernel_rfl) _ _ T6.out (by kernel_rfl) rfl (by simp [Value.oneCell']) ?_))
      refine bodyPost_ret (results_cell_row (by rfl) _ _ (b + 1) _ _ _ _ (by kernel_rfl) (setRow_heap _ _ _ _ _ _ T6.out) Tryd.underlying26 rfl (by kernel_rfl)) rfl ⟨by rw [HG.out]; rfl, F6.out.setRow _ _ (by have := HBB.out; omega)⟩
    · obtain ⟨x0, X0⟩ : ∃ x, Hid (nearF r.n 1 6 = x) := ⟨_, rfl⟩
      have HG : Hid (goodR r = ⟨2, ee, 0, x0, 0, gt, Sp.zero⟩) := hid (by simp [goodR, Kkk.out, Kee.out, X0.out, Hgt.out])
      go_wp2_with (first | (refine wpList_load_v (by kernel_rfl) 3 (.tmp 20) (by with_reducible rfl) g 0 (by kernel_rfl) _ _ _ G3.out (.int .i64 2) (by kernel_rfl) _ Tryd.underlying3 rfl ?_) | (refine wpList_load_v (by kernel_rfl) 3 (.tmp 38) (by with_reducible rfl) b 3 (by kernel_rfl) _ _ _ B3.out (.int .i64 r.n) (by kernel_rfl) _ Tryd.underlying3 rfl ?_))
      refine (rnear10_calls _ _ _ _ (by decide) (by decide) (by decide) (by decide)).mono ?_
      rintro _ _ ⟨rfl, rfl⟩
      rw [X0.out]
      go_wp2_with (first | (refine wpList_store_v (by kernel_rfl) 3 (.tmp 41) (.tmp 40) (by with_reducible rfl) g 3 (by kernel_rfl) (.int .i64 x0) (by kernel_rfl) #[.int .i64 x0] rfl _ _ G3.out (by kernel_rfl) (by simp) (by simp [Value.oneCell']) ?_; intro w4 hh hp; have G4 : Hid (w4.heap[g]? = some (.cells #[.int .i64 2, .int .i64 ee, .int .i64 0, .int .i64 x0, .int .i64 0, .string ⟨#[]⟩, .int .i64 0, .int .i64 0, .int .i64 0, .int .i64 0, .int .i64 0, .int .i64 0, .int .i64 0, .int .i64 0, .int .i64 0, .int .i64 0, .int .i64 0, .int .i64 0] 26 (0, 0))) := putL_heap hh (by kernel_rfl); have B4 := hid (hp.heap B3.out (by show ¬ b = g; omega)); have T4 := hid (hp.heap T3.out (by show ¬ b + 1 = g; omega)); have F4 := hid (F3.out.trans hp (fun x hx e => by have e' : x = g := e; have := HBB.out; omega)); clear hh hp G3 B3 T3 F3) | (refine wpList_store_v (by kernel_rfl) 9 (.tmp 43) (.tmp 42) (by with_reducible rfl) g 5 (by kernel_rfl) (.string gt) (by kernel_rfl) #[.string gt] rfl _ _ G4.out (by kernel_rfl) (by simp) (by simp [Value.oneCell']) ?_; intro w5 hh hp; have G5 : Hid (w5.heap[g]? = some (.cells #[.int .i64 2, .int .i64 ee, .int .i64 0, .int .i64 x0, .int .i64 0, .string gt, .int .i64 0, .int .i64 0, .int .i64 0, .int .i64 0, .int .i64 0, .int .i64 0, .int .i64 0, .int .i64 0, .int .i64 0, .int .i64 0, .int .i64 0, .int .i64 0] 26 (0, 0))) := putL_heap hh (by kernel_rfl); have B5 := hid (hp.heap B4.out (by show ¬ b = g; omega)); have T5 := hid (hp.heap T4.out (by show ¬ b + 1 = g; omega)); have F5 := hid (F4.out.trans hp (fun x hx e => by have e' : x = g := e; have := HBB.out; omega)); clear hh hp G4 B4 T4 F4) | (refine wpList_load_row rfl 26 (.tmp 3) (by with_reducible rfl) g (by kernel_rfl) _ _ _ _ G5.out Tryd.underlying26 rfl (by kernel_rfl) ?_) | (refine wpList_store_row rfl 26 (.tmp 2) (.tmp 98) (by with_reducible rfl) (b + 1) #[.int .i64 2, .int .i64 ee, .int .i64 0, .int .i64 x0, .int .i64 0, .string gt, .int .i64 0, .int .i64 0, .int .i64 0, .int .i64 0, .int .i64 0, .int .i64 0, .int .i64 0, .int .i64 0, .int .i64 0, .int .i64 0, .int .i64 0, .int .i64 0] (by kernel_rfl) (by kernel_rfl) _ _ T5.out (by kernel_rfl) rfl (by simp [Value.oneCell']) ?_))
      refine bodyPost_ret (results_cell_row (by rfl) _ _ (b + 1) _ _ _ _ (by kernel_rfl) (setRow_heap _ _ _ _ _ _ T5.out) Tryd.underlying26 rfl (by kernel_rfl)) rfl ⟨by rw [HG.out]; rfl, F5.out.setRow _ _ (by have := HBB.out; omega)⟩
    · obtain ⟨x0, X0⟩ : ∃ x, Hid (nearF r.n 0 50 = x) := ⟨_, rfl⟩
      obtain ⟨P, HP⟩ : ∃ x, Hid (goodSp r.p = x) := ⟨_, rfl⟩
      have HQV : Hid (P.val = .agg #[.int .i64 P.s0, .int .i64 P.s1, .int .i64 P.s2, .int .i64 P.s3, .int .i64 P.s4, .int .i64 P.s5, .int .i64 P.s6, .int .i64 P.s7, .int .i64 P.s8, .int .i64 P.s9, .int .i64 P.s10, .int .i64 P.s11]) := rfl
      have HG : Hid (goodR r = ⟨3, ee, 0, x0, 0, ⟨#[]⟩, P⟩) := hid (by simp [goodR, Kkk.out, Kee.out, X0.out, HP.out])
      go_wp2_with (first | (refine wpList_load_v (by kernel_rfl) 3 (.tmp 20) (by with_reducible rfl) g 0 (by kernel_rfl) _ _ _ G3.out (.int .i64 3) (by kernel_rfl) _ Tryd.underlying3 rfl ?_) | (refine wpList_load_v (by kernel_rfl) 3 (.tmp 46) (by with_reducible rfl) b 3 (by kernel_rfl) _ _ _ B3.out (.int .i64 r.n) (by kernel_rfl) _ Tryd.underlying3 rfl ?_))
      refine (rnear10_calls _ _ _ _ (by decide) (by decide) (by decide) (by decide)).mono ?_
      rintro _ _ ⟨rfl, rfl⟩
      rw [X0.out]
      go_wp2_with (first | (refine wpList_store_v (by kernel_rfl) 3 (.tmp 49) (.tmp 48) (by with_reducible rfl) g 3 (by kernel_rfl) (.int .i64 x0) (by kernel_rfl) #[.int .i64 x0] rfl _ _ G3.out (by kernel_rfl) (by simp) (by simp [Value.oneCell']) ?_; intro w4 hh hp; have G4 : Hid (w4.heap[g]? = some (.cells #[.int .i64 3, .int .i64 ee, .int .i64 0, .int .i64 x0, .int .i64 0, .string ⟨#[]⟩, .int .i64 0, .int .i64 0, .int .i64 0, .int .i64 0, .int .i64 0, .int .i64 0, .int .i64 0, .int .i64 0, .int .i64 0, .int .i64 0, .int .i64 0, .int .i64 0] 26 (0, 0))) := putL_heap hh (by kernel_rfl); have B4 := hid (hp.heap B3.out (by show ¬ b = g; omega)); have T4 := hid (hp.heap T3.out (by show ¬ b + 1 = g; omega)); have F4 := hid (F3.out.trans hp (fun x hx e => by have e' : x = g := e; have := HBB.out; omega)); clear hh hp G3 B3 T3 F3) | (refine wpList_load_at (by kernel_rfl) 24 (.tmp 50) (by with_reducible rfl) b 6 (by kernel_rfl) _ _ _ B4.out #[.int .i64 r.p.s0, .int .i64 r.p.s1, .int .i64 r.p.s2, .int .i64 r.p.s3, .int .i64 r.p.s4, .int .i64 r.p.s5, .int .i64 r.p.s6, .int .i64 r.p.s7, .int .i64 r.p.s8, .int .i64 r.p.s9, .int .i64 r.p.s10, .int .i64 r.p.s11] (by kernel_rfl) (by simp) _ Tryd.underlying24 rfl (by kernel_rfl) ?_))
      rw [← HPV.out]
      refine (sgood_calls r.p _).mono ?_
      rintro _ wg ⟨rfl, hf⟩
      rw [HP.out, HQV.out, HPV.out]
      have G9 := hid (hf.heap G4.out (fun h => h))
      have B9 := hid (hf.heap B4.out (fun h => h))
      have T9 := hid (hf.heap T4.out (fun h => h))
      have F9 := hid (F4.out.then0 hf)
      clear hf G4 B4 T4 F4
      go_wp2_with (first | (refine wpList_store_at (by kernel_rfl) 24 (.tmp 53) (.tmp 52) (by with_reducible rfl) g 6 (by kernel_rfl) #[.int .i64 P.s0, .int .i64 P.s1, .int .i64 P.s2, .int .i64 P.s3, .int .i64 P.s4, .int .i64 P.s5, .int .i64 P.s6, .int .i64 P.s7, .int .i64 P.s8, .int .i64 P.s9, .int .i64 P.s10, .int .i64 P.s11] (by kernel_rfl) _ _ G9.out (by kernel_rfl) (by simp) (by simp [Value.oneCell']) ?_; intro w10 hh hp; have G10 : Hid (w10.heap[g]? = some (.cells #[.int .i64 3, .int .i64 ee, .int .i64 0, .int .i64 x0, .int .i64 0, .string ⟨#[]⟩, .int .i64 P.s0, .int .i64 P.s1, .int .i64 P.s2, .int .i64 P.s3, .int .i64 P.s4, .int .i64 P.s5, .int .i64 P.s6, .int .i64 P.s7, .int .i64 P.s8, .int .i64 P.s9, .int .i64 P.s10, .int .i64 P.s11] 26 (0, 0))) := putL_heap hh (by kernel_rfl); have B10 := hid (hp.heap B9.out (by show ¬ b = g; omega)); have T10 := hid (hp.heap T9.out (by show ¬ b + 1 = g; omega)); have F10 := hid (F9.out.trans hp (fun x hx e => by have e' : x = g := e; have := HBB.out; omega)); clear hh hp G9 B9 T9 F9) | (refine wpList_load_row rfl 26 (.tmp 3) (by with_reducible rfl) g (by kernel_rfl) _ _ _ _ G10.out Tryd.underlying26 rfl (by kernel_rfl) ?_) | (refine wpList_store_row rfl 26 (.tmp 2) (.tmp 98) (by with_reducible rfl) (b + 1) #[.int .i64 3, .int .i64 ee, .int .i64 0, .int .i64 x0, .int .i64 0, .string ⟨#[]⟩, .int .i64 P.s0, .int .i64 P.s1, .int .i64 P.s2, .int .i64 P.s3, .int .i64 P.s4, .int .i64 P.s5, .int .i64 P.s6, .int .i64 P.s7, .int .i64 P.s8, .int .i64 P.s9, .int .i64 P.s10, .int .i64 P.s11] (by kernel_rfl) (by kernel_rfl) _ _ T10.out (by kernel_rfl) rfl (by simp [Value.oneCell']) ?_))
      refine bodyPost_ret (results_cell_row (by rfl) _ _ (b + 1) _ _ _ _ (by kernel_rfl) (setRow_heap _ _ _ _ _ _ T10.out) Tryd.underlying26 rfl (by kernel_rfl)) rfl ⟨by rw [HG.out]; rfl, F10.out.setRow _ _ (by have := HBB.out; omega)⟩
    · obtain ⟨x0, X0⟩ : ∃ x, Hid (nearF r.n 1 5 = x) := ⟨_, rfl⟩
      have HG : Hid (goodR r = ⟨4, ee, 0, x0, 0, gt, Sp.zero⟩) := hid (by simp [goodR, Kkk.out, Kee.out, X0.out, Hgt.out])
      go_wp2_with (first | (refine wpList_load_v (by kernel_rfl) 3 (.tmp 20) (by with_reducible rfl) g 0 (by kernel_rfl) _ _ _ G3.out (.int .i64 4) (by kernel_rfl) _ Tryd.underlying3 rfl ?_) | (refine wpList_load_v (by kernel_rfl) 3 (.tmp 56) (by with_reducible rfl) b 3 (by kernel_rfl) _ _ _ B3.out (.int .i64 r.n) (by kernel_rfl) _ Tryd.underlying3 rfl ?_))
      refine (rnear10_calls _ _ _ _ (by decide) (by decide) (by decide) (by decide)).mono ?_
      rintro _ _ ⟨rfl, rfl⟩
      rw [X0.out]
      go_wp2_with (first | (refine wpList_store_v (by kernel_rfl) 3 (.tmp 59) (.tmp 58) (by with_reducible rfl) g 3 (by kernel_rfl) (.int .i64 x0) (by kernel_rfl) #[.int .i64 x0] rfl _ _ G3.out (by kernel_rfl) (by simp) (by simp [Value.oneCell']) ?_; intro w4 hh hp; have G4 : Hid (w4.heap[g]? = some (.cells #[.int .i64 4, .int .i64 ee, .int .i64 0, .int .i64 x0, .int .i64 0, .string ⟨#[]⟩, .int .i64 0, .int .i64 0, .int .i64 0, .int .i64 0, .int .i64 0, .int .i64 0, .int .i64 0, .int .i64 0, .int .i64 0, .int .i64 0, .int .i64 0, .int .i64 0] 26 (0, 0))) := putL_heap hh (by kernel_rfl); have B4 := hid (hp.heap B3.out (by show ¬ b = g; omega)); have T4 := hid (hp.heap T3.out (by show ¬ b + 1 = g; omega)); have F4 := hid (F3.out.trans hp (fun x hx e => by have e' : x = g := e; have := HBB.out; omega)); clear hh hp G3 B3 T3 F3) | (refine wpList_store_v (by kernel_rfl) 9 (.tmp 61) (.tmp 60) (by with_reducible rfl) g 5 (by kernel_rfl) (.string gt) (by kernel_rfl) #[.string gt] rfl _ _ G4.out (by kernel_rfl) (by simp) (by simp [Value.oneCell']) ?_; intro w5 hh hp; have G5 : Hid (w5.heap[g]? = some (.cells #[.int .i64 4, .int .i64 ee, .int .i64 0, .int .i64 x0, .int .i64 0, .string gt, .int .i64 0, .int .i64 0, .int .i64 0, .int .i64 0, .int .i64 0, .int .i64 0, .int .i64 0, .int .i64 0, .int .i64 0, .int .i64 0, .int .i64 0, .int .i64 0] 26 (0, 0))) := putL_heap hh (by kernel_rfl); have B5 := hid (hp.heap B4.out (by show ¬ b = g; omega)); have T5 := hid (hp.heap T4.out (by show ¬ b + 1 = g; omega)); have F5 := hid (F4.out.trans hp (fun x hx e => by have e' : x = g := e; have := HBB.out; omega)); clear hh hp G4 B4 T4 F4) | (refine wpList_load_row rfl 26 (.tmp 3) (by with_reducible rfl) g (by kernel_rfl) _ _ _ _ G5.out Tryd.underlying26 rfl (by kernel_rfl) ?_) | (refine wpList_store_row rfl 26 (.tmp 2) (.tmp 98) (by with_reducible rfl) (b + 1) #[.int .i64 4, .int .i64 ee, .int .i64 0, .int .i64 x0, .int .i64 0, .string gt, .int .i64 0, .int .i64 0, .int .i64 0, .int .i64 0, .int .i64 0, .int .i64 0, .int .i64 0, .int .i64 0, .int .i64 0, .int .i64 0, .int .i64 0, .int .i64 0] (by kernel_rfl) (by kernel_rfl) _ _ T5.out (by kernel_rfl) rfl (by simp [Value.oneCell']) ?_))
      refine bodyPost_ret (results_cell_row (by rfl) _ _ (b + 1) _ _ _ _ (by kernel_rfl) (setRow_heap _ _ _ _ _ _ T5.out) Tryd.underlying26 rfl (by kernel_rfl)) rfl ⟨by rw [HG.out]; rfl, F5.out.setRow _ _ (by have := HBB.out; omega)⟩
    · obtain ⟨x0, X0⟩ : ∃ x, Hid (nearF r.w 0 16 = x) := ⟨_, rfl⟩
      obtain ⟨x1, X1⟩ : ∃ x, Hid (nearF r.n 0 7 = x) := ⟨_, rfl⟩
      obtain ⟨x2, X2⟩ : ∃ x, Hid (nearF r.q 1 9 = x) := ⟨_, rfl⟩
      have HG : Hid (goodR r = ⟨5, ee, x0, x1, x2, ⟨#[]⟩, Sp.zero⟩) := hid (by simp [goodR, Kkk.out, Kee.out, X0.out, X1.out, X2.out])
      go_wp2_with (first | (refine wpList_load_v (by kernel_rfl) 3 (.tmp 20) (by with_reducible rfl) g 0 (by kernel_rfl) _ _ _ G3.out (.int .i64 5) (by kernel_rfl) _ Tryd.underlying3 rfl ?_) | (refine wpList_load_v (by kernel_rfl) 3 (.tmp 64) (by with_reducible rfl) b 2 (by kernel_rfl) _ _ _ B3.out (.int .i64 r.w) (by kernel_rfl) _ Tryd.underlying3 rfl ?_))
      refine (rnear10_calls _ _ _ _ (by decide) (by decide) (by decide) (by decide)).mono ?_
      rintro _ _ ⟨rfl, rfl⟩
      rw [X0.out]
      go_wp2_with (first | (refine wpList_store_v (by kernel_rfl) 3 (.tmp 67) (.tmp 66) (by with_reducible rfl) g 2 (by kernel_rfl) (.int .i64 x0) (by kernel_rfl) #[.int .i64 x0] rfl _ _ G3.out (by kernel_rfl) (by simp) (by simp [Value.oneCell']) ?_; intro w4 hh hp; have G4 : Hid (w4.heap[g]? = some (.cells #[.int .i64 5, .int .i64 ee, .int .i64 x0, .int .i64 0, .int .i64 0, .string ⟨#[]⟩, .int .i64 0, .int .i64 0, .int .i64 0, .int .i64 0, .int .i64 0, .int .i64 0, .int .i64 0, .int .i64 0, .int .i64 0, .int .i64 0, .int .i64 0, .int .i64 0] 26 (0, 0))) := putL_heap hh (by kernel_rfl); have B4 := hid (hp.heap B3.out (by show ¬ b = g; omega)); have T4 := hid (hp.heap T3.out (by show ¬ b + 1 = g; omega)); have F4 := hid (F3.out.trans hp (fun x hx e => by have e' : x = g := e; have := HBB.out; omega)); clear hh hp G3 B3 T3 F3) | (refine wpList_load_v (by kernel_rfl) 3 (.tmp 68) (by with_reducible rfl) b 3 (by kernel_rfl) _ _ _ B4.out (.int .i64 r.n) (by kernel_rfl) _ Tryd.underlying3 rfl ?_))
      refine (rnear10_calls _ _ _ _ (by decide) (by decide) (by decide) (by decide)).mono ?_
      rintro _ _ ⟨rfl, rfl⟩
      rw [X1.out]
      go_wp2_with (first | (refine wpList_store_v (by kernel_rfl) 3 (.tmp 71) (.tmp 70) (by with_reducible rfl) g 3 (by kernel_rfl) (.int .i64 x1) (by kernel_rfl) #[.int .i64 x1] rfl _ _ G4.out (by kernel_rfl) (by simp) (by simp [Value.oneCell']) ?_; intro w5 hh hp; have G5 : Hid (w5.heap[g]? = some (.cells #[.int .i64 5, .int .i64 ee, .int .i64 x0, .int .i64 x1, .int .i64 0, .string ⟨#[]⟩, .int .i64 0, .int .i64 0, .int .i64 0, .int .i64 0, .int .i64 0, .int .i64 0, .int .i64 0, .int .i64 0, .int .i64 0, .int .i64 0, .int .i64 0, .int .i64 0] 26 (0, 0))) := putL_heap hh (by kernel_rfl); have B5 := hid (hp.heap B4.out (by show ¬ b = g; omega)); have T5 := hid (hp.heap T4.out (by show ¬ b + 1 = g; omega)); have F5 := hid (F4.out.trans hp (fun x hx e => by have e' : x = g := e; have := HBB.out; omega)); clear hh hp G4 B4 T4 F4) | (refine wpList_load_v (by kernel_rfl) 3 (.tmp 72) (by with_reducible rfl) b 4 (by kernel_rfl) _ _ _ B5.out (.int .i64 r.q) (by kernel_rfl) _ Tryd.underlying3 rfl ?_))
      refine (rnear10_calls _ _ _ _ (by decide) (by decide) (by decide) (by decide)).mono ?_
      rintro _ _ ⟨rfl, rfl⟩
      rw [X2.out]
      go_wp2_with (first | (refine wpList_store_v (by kernel_rfl) 3 (.tmp 75) (.tmp 74) (by with_reducible rfl) g 4 (by kernel_rfl) (.int .i64 x2) (by kernel_rfl) #[.int .i64 x2] rfl _ _ G5.out (by kernel_rfl) (by simp) (by simp [Value.oneCell']) ?_; intro w6 hh hp; have G6 : Hid (w6.heap[g]? = some (.cells #[.int .i64 5, .int .i64 ee, .int .i64 x0, .int .i64 x1, .int .i64 x2, .string ⟨#[]⟩, .int .i64 0, .int .i64 0, .int .i64 0, .int .i64 0, .int .i64 0, .int .i64 0, .int .i64 0, .int .i64 0, .int .i64 0, .int .i64 0, .int .i64 0, .int .i64 0] 26 (0, 0))) := putL_heap hh (by kernel_rfl); have B6 := hid (hp.heap B5.out (by show ¬ b = g; omega)); have T6 := hid (hp.heap T5.out (by show ¬ b + 1 = g; omega)); have F6 := hid (F5.out.trans hp (fun x hx e => by have e' : x = g := e; have := HBB.out; omega)); clear hh hp G5 B5 T5 F5) | (refine wpList_load_row rfl 26 (.tmp 3) (by with_reducible rfl) g (by kernel_rfl) _ _ _ _ G6.out Tryd.underlying26 rfl (by kernel_rfl) ?_) | (refine wpList_store_row rfl 26 (.tmp 2) (.tmp 98) (by with_reducible rfl) (b + 1) #[.int .i64 5, .int .i64 ee, .int .i64 x0, .int .i64 x1, .int .i64 x2, .string ⟨#[]⟩, .int .i64 0, .int .i64 0, .int .i64 0, .int .i64 0, .int .i64 0, .int .i64 0, .int .i64 0, .int .i64 0, .int .i64 0, .int .i64 0, .int .i64 0, .int .i64 0] (by kernel_rfl) (by kernel_rfl) _ _ T6.out (by kernel_rfl) rfl (by simp [Value.oneCell']) ?_))
      refine bodyPost_ret (results_cell_row (by rfl) _ _ (b + 1) _ _ _ _ (by kernel_rfl) (setRow_heap _ _ _ _ _ _ T6.out) Tryd.underlying26 rfl (by kernel_rfl)) rfl ⟨by rw [HG.out]; rfl, F6.out.setRow _ _ (by have := HBB.out; omega)⟩
    · obtain ⟨x0, X0⟩ : ∃ x, Hid (nearF r.w 0 16 = x) := ⟨_, rfl⟩
      obtain ⟨x1, X1⟩ : ∃ x, Hid (nearF r.q 1 9 = x) := ⟨_, rfl⟩
      have HG : Hid (goodR r = ⟨6, ee, x0, 0, x1, ⟨#[]⟩, Sp.zero⟩) := hid (by simp [goodR, Kkk.out, Kee.out, X0.out, X1.out])
      go_wp2_with (first | (refine wpList_load_v (by kernel_rfl) 3 (.tmp 20) (by with_reducible rfl) g 0 (by kernel_rfl) _ _ _ G3.out (.int .i64 6) (by kernel_rfl) _ Tryd.underlying3 rfl ?_) | (refine wpList_load_v (by kernel_rfl) 3 (.tmp 78) (by with_reducible rfl) b 2 (by kernel_rfl) _ _ _ B3.out (.int .i64 r.w) (by kernel_rfl) _ Tryd.underlying3 rfl ?_))
      refine (rnear10_calls _ _ _ _ (by decide) (by decide) (by decide) (by decide)).mono ?_
      rintro _ _ ⟨rfl, rfl⟩
      rw [X0.out]
      go_wp2_with (first | (refine wpList_store_v (by kernel_rfl) 3 (.tmp 81) (.tmp 80) (by with_reducible rfl) g 2 (by kernel_rfl) (.int .i64 x0) (by kernel_rfl) #[.int .i64 x0] rfl _ _ G3.out (by kernel_rfl) (by simp) (by simp [Value.oneCell']) ?_; intro w4 hh hp; have G4 : Hid (w4.heap[g]? = some (.cells #[.int .i64 6, .int .i64 ee, .int .i64 x0, .int .i64 0, .int .i64 0, .string ⟨#[]⟩, .int .i64 0, .int .i64 0, .int .i64 0, .int .i64 0, .int .i64 0, .int .i64 0, .int .i64 0, .int .i64 0, .int .i64 0, .int .i64 0, .int .i64 0, .int .i64 0] 26 (0, 0))) := putL_heap hh (by kernel_rfl); have B4 := hid (hp.heap B3.out (by show ¬ b = g; omega)); have T4 := hid (hp.heap T3.out (by show ¬ b + 1 = g; omega)); have F4 := hid (F3.out.trans hp (fun x hx e => by have e' : x = g := e; have := HBB.out; omega)); clear hh hp G3 B3 T3 F3) | (refine wpList_load_v (by kernel_rfl) 3 (.tmp 82) (by with_reducible rfl) b 4 (by kernel_rfl) _ _ _ B4.out (.int .i64 r.q) (by kernel_rfl) _ Tryd.underlying3 rfl ?_))
      refine (rnear10_calls _ _ _ _ (by decide) (by decide) (by decide) (by decide)).mono ?_
      rintro _ _ ⟨rfl, rfl⟩
      rw [X1.out]
      go_wp2_with (first | (refine wpList_store_v (by kernel_rfl) 3 (.tmp 85) (.tmp 84) (by with_reducible rfl) g 4 (by kernel_rfl) (.int .i64 x1) (by kernel_rfl) #[.int .i64 x1] rfl _ _ G4.out (by kernel_rfl) (by simp) (by simp [Value.oneCell']) ?_; intro w5 hh hp; have G5 : Hid (w5.heap[g]? = some (.cells #[.int .i64 6, .int .i64 ee, .int .i64 x0, .int .i64 0, .int .i64 x1, .string ⟨#[]⟩, .int .i64 0, .int .i64 0, .int .i64 0, .int .i64 0, .int .i64 0, .int .i64 0, .int .i64 0, .int .i64 0, .int .i64 0, .int .i64 0, .int .i64 0, .int .i64 0] 26 (0, 0))) := putL_heap hh (by kernel_rfl); have B5 := hid (hp.heap B4.out (by show ¬ b = g; omega)); have T5 := hid (hp.heap T4.out (by show ¬ b + 1 = g; omega)); have F5 := hid (F4.out.trans hp (fun x hx e => by have e' : x = g := e; have := HBB.out; omega)); clear hh hp G4 B4 T4 F4) | (refine wpList_load_row rfl 26 (.tmp 3) (by with_reducible rfl) g (by kernel_rfl) _ _ _ _ G5.out Tryd.underlying26 rfl (by kernel_rfl) ?_) | (refine wpList_store_row rfl 26 (.tmp 2) (.tmp 98) (by with_reducible rfl) (b + 1) #[.int .i64 6, .int .i64 ee, .int .i64 x0, .int .i64 0, .int .i64 x1, .string ⟨#[]⟩, .int .i64 0, .int .i64 0, .int .i64 0, .int .i64 0, .int .i64 0, .int .i64 0, .int .i64 0, .int .i64 0, .int .i64 0, .int .i64 0, .int .i64 0, .int .i64 0] (by kernel_rfl) (by kernel_rfl) _ _ T5.out (by kernel_rfl) rfl (by simp [Value.oneCell']) ?_))
      refine bodyPost_ret (results_cell_row (by rfl) _ _ (b + 1) _ _ _ _ (by kernel_rfl) (setRow_heap _ _ _ _ _ _ T5.out) Tryd.underlying26 rfl (by kernel_rfl)) rfl ⟨by rw [HG.out]; rfl, F5.out.setRow _ _ (by have := HBB.out; omega)⟩
    · obtain ⟨x0, X0⟩ : ∃ x, Hid (nearF r.w 1 4 = x) := ⟨_, rfl⟩
      obtain ⟨x1, X1⟩ : ∃ x, Hid (nearF r.n 0 50 = x) := ⟨_, rfl⟩
      have HG : Hid (goodR r = ⟨7, ee, x0, x1, 0, gt, Sp.zero⟩) := hid (by simp [goodR, Kkk.out, Kee.out, X0.out, X1.out, Hgt.out])
      go_wp2_with (first | (refine wpList_load_v (by kernel_rfl) 3 (.tmp 20) (by with_reducible rfl) g 0 (by kernel_rfl) _ _ _ G3.out (.int .i64 7) (by kernel_rfl) _ Tryd.underlying3 rfl ?_) | (refine wpList_load_v (by kernel_rfl) 3 (.tmp 88) (by with_reducible rfl) b 2 (by kernel_rfl) _ _ _ B3.out (.int .i64 r.w) (by kernel_rfl) _ Tryd.underlying3 rfl ?_))
      refine (rnear10_calls _ _ _ _ (by decide) (by decide) (by decide) (by decide)).mono ?_
      rintro _ _ ⟨rfl, rfl⟩
      rw [X0.out]
      go_wp2_with (first | (refine wpList_store_v (by kernel_rfl) 3 (.tmp 91) (.tmp 90) (by with_reducible rfl) g 2 (by kernel_rfl) (.int .i64 x0) (by kernel_rfl) #[.int .i64 x0] rfl _ _ G3.out (by kernel_rfl) (by simp) (by simp [Value.oneCell']) ?_; intro w4 hh hp; have G4 : Hid (w4.heap[g]? = some (.cells #[.int .i64 7, .int .i64 ee, .int .i64 x0, .int .i64 0, .int .i64 0, .string ⟨#[]⟩, .int .i64 0, .int .i64 0, .int .i64 0, .int .i64 0, .int .i64 0, .int .i64 0, .int .i64 0, .int .i64 0, .int .i64 0, .int .i64 0, .int .i64 0, .int .i64 0] 26 (0, 0))) := putL_heap hh (by kernel_rfl); have B4 := hid (hp.heap B3.out (by show ¬ b = g; omega)); have T4 := hid (hp.heap T3.out (by show ¬ b + 1 = g; omega)); have F4 := hid (F3.out.trans hp (fun x hx e => by have e' : x = g := e; have := HBB.out; omega)); clear hh hp G3 B3 T3 F3) | (refine wpList_load_v (by kernel_rfl) 3 (.tmp 92) (by with_reducible rfl) b 3 (by kernel_rfl) _ _ _ B4.out (.int .i64 r.n) (by kernel_rfl) _ Tryd.underlying3 rfl ?_))
      refine (rnear10_calls _ _ _ _ (by decide) (by decide) (by decide) (by decide)).mono ?_
      rintro _ _ ⟨rfl, rfl⟩
      rw [X1.out]
      go_wp2_with (first | (refine wpList_store_v (by kernel_rfl) 3 (.tmp 95) (.tmp 94) (by with_reducible rfl) g 3 (by kernel_rfl) (.int .i64 x1) (by kernel_rfl) #[.int .i64 x1] rfl _ _ G4.out (by kernel_rfl) (by simp) (by simp [Value.oneCell']) ?_; intro w5 hh hp; have G5 : Hid (w5.heap[g]? = some (.cells #[.int .i64 7, .int .i64 ee, .int .i64 x0, .int .i64 x1, .int .i64 0, .string ⟨#[]⟩, .int .i64 0, .int .i64 0, .int .i64 0, .int .i64 0, .int .i64 0, .int .i64 0, .int .i64 0, .int .i64 0, .int .i64 0, .int .i64 0, .int .i64 0, .int .i64 0] 26 (0, 0))) := putL_heap hh (by kernel_rfl); have B5 := hid (hp.heap B4.out (by show ¬ b = g; omega)); have T5 := hid (hp.heap T4.out (by show ¬ b + 1 = g; omega)); have F5 := hid (F4.out.trans hp (fun x hx e => by have e' : x = g := e; have := HBB.out; omega)); clear hh hp G4 B4 T4 F4) | (refine wpList_store_v (by kernel_rfl) 9 (.tmp 97) (.tmp 96) (by with_reducible rfl) g 5 (by kernel_rfl) (.string gt) (by kernel_rfl) #[.string gt] rfl _ _ G5.out (by kernel_rfl) (by simp) (by simp [Value.oneCell']) ?_; intro w6 hh hp; have G6 : Hid (w6.heap[g]? = some (.cells #[.int .i64 7, .int .i64 ee, .int .i64 x0, .int .i64 x1, .int .i64 0, .string gt, .int .i64 0, .int .i64 0, .int .i64 0, .int .i64 0, .int .i64 0, .int .i64 0, .int .i64 0, .int .i64 0, .int .i64 0, .int .i64 0, .int .i64 0, .int .i64 0] 26 (0, 0))) := putL_heap hh (by kernel_rfl); have B6 := hid (hp.heap B5.out (by show ¬ b = g; omega)); have T6 := hid (hp.heap T5.out (by show ¬ b + 1 = g; omega)); have F6 := hid (F5.out.trans hp (fun x hx e => by have e' : x = g := e; have := HBB.out; omega)); clear hh hp G5 B5 T5 F5) | (refine wpList_load_row rfl 26 (.tmp 3) (by with_reducible rfl) g (by kernel_rfl) _ _ _ _ G6.out Tryd.underlying26 rfl (by kernel_rfl) ?_) | (refine wpList_store_row rfl 26 (.tmp 2) (.tmp 98) (by with_reducible rfl) (b + 1) #[.int .i64 7, .int .i64 ee, .int .i64 x0, .int .i64 x1, .int .i64 0, .string gt, .int .i64 0, .int .i64 0, .int .i64 0, .int .i64 0, .int .i64 0, .int .i64 0, .int .i64 0, .int .i64 0, .int .i64 0, .int .i64 0, .int .i64 0, .int .i64 0] (by kernel_rfl) (by kernel_rfl) _ _ T6.out (by kernel_rfl) rfl (by simp [Value.oneCell']) ?_))
      refine bodyPost_ret (results_cell_row (by rfl) _ _ (b + 1) _ _ _ _ (by kernel_rfl) (setRow_heap _ _ _ _ _ _ T6.out) Tryd.underlying26 rfl (by kernel_rfl)) rfl ⟨by rw [HG.out]; rfl, F6.out.setRow _ _ (by have := HBB.out; omega)⟩
end Go.Proofs.YtinbidmgllmglaaDoor
namespace Go.Proofs.YtinbidmgllmglaaDoor
set_option linter.unusedVariables false
set_option linter.unusedSimpArgs false
set_option maxRecDepth 20000
open Go.RowKit

theorem Rd.ofRow {w : World} {k : IntKind} {x : Addr} {len cap : Nat} {zs : List Int} (hl : len ≤ cap) (hm : cap ≤ maxLen) (hz : zs.length = cap)
    (hcell : ∀ i, i < zs.length → w.cell? (x.add i) = some (.int k (zs.getD i 0))) : Rd w 1 (.slice (some x) len cap) (zs.take len).length (ints k (zs.take len)) := by
  have e : (zs.take len).length = len := by rw [List.length_take]; omega
  refine ⟨by simp [ints], .inr ⟨x, cap, by rw [e], by omega, hm, fun j u hu => ?_⟩⟩
  unfold ints at hu
  rw [List.getElem?_map, List.getElem?_take] at hu
  split at hu
  · obtain ⟨y, hy, rfl⟩ := Option.map_eq_some_iff.1 hu
    have hj := (List.getElem?_eq_some_iff.1 hy).1
    rw [hcell j hj, List.getD_eq_getElem?_getD, hy]; rfl
  · cases hu
theorem wf_i64 {n : Int} (h : (Lit.int .i64 n).wf = true) : -9223372036854775808 ≤ n ∧ n ≤ 9223372036854775807 := by
  simp [Lit.wf, IntKind.min, IntKind.max, IntKind.signed, IntKind.bits] at h; omega
theorem wf_u8 {n : Int} (h : (Lit.int .u8 n).wf = true) : 0 ≤ n ∧ n < 256 := by
  simp [Lit.wf, IntKind.min, IntKind.max, IntKind.signed, IntKind.bits] at h; omega
end Go.Proofs.YtinbidmgllmglaaDoor
namespace Go.Proofs.YtinbidmgllmglaaDoor
set_option linter.unusedVariables false
set_option linter.unusedSimpArgs false
set_option maxRecDepth 20000
open Go.RowKit Cp

theorem lives_bytes : bytesF ⟨1, 1, 0, 5, 10, ⟨#[]⟩, Sp.zero⟩ = ([1, 1, 0, 5, 10, 0], 0) := by
  have hr : rightB ⟨1, 1, 0, 5, 10, ⟨#[]⟩, Sp.zero⟩ = true := by decide
  unfold bytesF
  rw [if_pos hr]
  have e : wireL ⟨1, 1, 0, 5, 10, ⟨#[]⟩, Sp.zero⟩ = wire6 ⟨1, 1, 0, 5, 10, ⟨#[]⟩, Sp.zero⟩ := by unfold wireL; rw [if_neg (by decide)]
  rw [e, wire6_eq hr]
  simp only [Prod.mk.injEq, and_true]
  show dig 1 ++ (dig 1 ++ (dig 0 ++ (dig 5 ++ (dig 10 ++ (dig 0 ++ sb ⟨#[]⟩))))) = _
  rw [dig_lt (by decide), dig_lt (by decide), dig_lt (by decide), dig_lt (by decide)]
  rfl
set_option maxRecDepth 20000 in
set_option maxHeartbeats 2000000 in
theorem rlives_calls (w : World) : Calls Tryd.prog 9 #[] w fun x w' => x = .returned (.bool true) ∧ Frm M0 w w' := by
  have HV : Hid (Rc.val ⟨1, 1, 0, 5, 10, ⟨#[]⟩, Sp.zero⟩ = .agg #[.int .i64 1, .int .i64 1, .int .i64 0, .int .i64 5, .int .i64 10, .string ⟨#[]⟩, .int .i64 0, .int .i64 0, .int .i64 0, .int .i64 0, .int .i64 0, .int .i64 0, .int .i64 0, .int .i64 0, .int .i64 0, .int .i64 0, .int .i64 0, .int .i64 0]) := rfl
  go_enter Tryd.func9, Tryd.ntmps9
  go_wp2_with fail
  rw [← HV.out]
  refine (bytes_calls _ _ (by decide)).mono ?_
  rintro _ w1 ⟨v1, rfl, hr, hf⟩
  rw [lives_bytes] at hr ⊢
  have hs := run_str (P := Tryd.prog) 29 9 5 Tryd.underlying29 Tryd.underlying9 Tryd.underlying5 hr
  have he : strOfNums [1, 1, 0, 5, 10, 0] = ⟨#[1, 1, 0, 5, 10, 0]⟩ := rfl
  rw [he] at hs
  have HF := hid hf
  clear hr hf he
  go_wp2_with fail
  refine (name_calls 7 _).mono ?_
  rintro _ w2 ⟨rfl, hf⟩
  have hn : nameS 7 = ⟨#[115, 116, 101, 112]⟩ := rfl
  rw [hn]
  have HF2 := hid (HF.out.then0 hf)
  clear hn hf hs
  go_wp2_with fail
  go_ret
  exact ⟨rfl, HF2.out⟩
theorem rreadOk_iff {l : List Int} (hb : Bytey l) : rreadOk l (read6 l) ↔ (endF (read6 l).2.1 (read6 l).2.2 = 0 ∧ rightB (read6 l).1 = true) := by
  unfold rreadOk rbytesF
  rw [← right_eq]
  constructor
  · rintro ⟨h1, h2, _⟩
    refine ⟨h1, ?_⟩
    cases h : rightB (read6 l).1 with
    | true => rfl
    | false => rw [h] at h2; simp at h2
  · rintro ⟨h1, h2⟩
    rw [if_pos h2]
    exact ⟨h1, rfl, by rw [wire_read hb h1 h2]⟩
/-- What is read is written again. -/
theorem read_bytes {l : List Int} (hb : Bytey l) : ((readF l).2 = 0 ∧ rightB (readF l).1 = true ∧ bytesF (readF l).1 = (l, 0)) ∨ (readF l = (Rc.zero, 2) ∧ bytesF (readF l).1 = ([], 1)) := by
  by_cases h : endF (read6 l).2.1 (read6 l).2.2 = 0 ∧ rightB (read6 l).1 = true
  · left
    have e : readF l = ((read6 l).1, 0) := by unfold readF; simp only []; rw [if_pos h]
    rw [e]
    refine ⟨rfl, h.2, ?_⟩
    unfold bytesF
    rw [if_pos h.2, wire_read hb h.1 h.2]
  · right
    have e : readF l = (Rc.zero, 2) := by unfold readF; simp only []; rw [if_neg h]
    rw [e]
    refine ⟨rfl, ?_⟩
    have : rightB Rc.zero = false := by decide
    unfold bytesF
    rw [this]; rfl
theorem read_small {l : List Int} (hb : Bytey l) : (readF l).1.t.size ≤ 64 := by
  rcases read_bytes hb with ⟨_, h, _⟩ | ⟨h, _⟩
  · exact (right_facts h).2.2.2.2.2.1
  · rw [h]; decide
theorem RdB.later {W w : World} {v : Value} {l : List Int} (h : RdB W v l) (hf : Frm M0 W w) : RdB w v l := fun wx hx => h wx (hf.then0 hx)
end Go.Proofs.YtinbidmgllmglaaDoor
namespace Go.Proofs.YtinbidmgllmglaaDoor
set_option linter.unusedVariables false
set_option linter.unusedSimpArgs false
set_option maxRecDepth 20000
open Go.RowKit Cp

theorem goodSp_ok (p : Sp) : (goodSp p).chkE = 0 := by
  have b0 := near_bd (n := p.s0) (least := 1) (many := 6) (by omega)
  have b1 := near_bd (n := p.s1) (least := 1) (many := 5) (by omega)
  have b4 := near_bd (n := p.s4) (least := 0) (many := 3) (by omega)
  have b2 := near_bd (n := p.s2) (least := 0) (many := 4) (by omega)
  have b2' := near_bd (n := p.s2) (least := 0) (many := 2) (by omega)
  have b3 := near_bd (n := p.s3) (least := 0) (many := nearF p.s1 1 5 + 1) (by omega)
  have b5 := near_bd (n := p.s5) (least := 0) (many := 60) (by omega)
  have b6 := near_bd (n := p.s6) (least := 0) (many := 60) (by omega)
  have b7 := near_bd (n := p.s7) (least := 0) (many := 60) (by omega)
  have b8 := near_bd (n := p.s8) (least := 0) (many := 60) (by omega)
  have b9 := near_bd (n := p.s9) (least := 1) (many := 9) (by omega)
  have b10 := near_bd (n := p.s10) (least := 0) (many := 4) (by omega)
  have b11 := near_bd (n := p.s11) (least := 1) (many := 60) (by omega)
  rw [chkE_zero]
  have hS : (0 ≤ gSurge p ∧ gSurge p ≤ 16 - nearF p.s1 1 5) ∧ (nearF p.s4 0 3 = 2 → nearF p.s1 1 5 ≤ gSurge p) := by
    unfold gSurge
    split <;> omega
  have hU : 0 ≤ gUn p ∧ gUn p ≤ nearF p.s1 1 5 ∧ (0 < gUn p ∨ 0 < gSurge p) := by
    unfold gUn
    split <;> omega
  have hw : wrap64 (16 - nearF p.s1 1 5) = 16 - nearF p.s1 1 5 := by unfold wrap64; omega
  have hT : stepF (nearF p.s4 0 3) (gSt p).1 0 true = true ∧ stepF (nearF p.s4 0 3) (gSt p).2.1 (gSt p).1 false = true ∧ stepF (nearF p.s4 0 3) (gSt p).2.2.1 (gSt p).2.1 false = true ∧ stepF (nearF p.s4 0 3) (gSt p).2.2.2 (gSt p).2.2.1 false = true := by
    unfold gSt gSteps
    generalize nearF p.s4 0 3 = s at *
    generalize nearF p.s5 0 60 = m0 at *
    generalize nearF p.s6 0 60 = n1 at *
    generalize nearF p.s7 0 60 = n2 at *
    generalize nearF p.s8 0 60 = n3 at *
    have zero : ∀ last, stepF s 0 last false = true := by intro last; unfold stepF; by_cases h : s = 0 <;> simp [h]
    have next : ∀ last n, s = 0 → 0 < last → 0 < n → last + n ≤ 100 → stepF s (last + n) last false = true := by
      intro last n hs h1 h2 h3
      have e1 : ¬ last + n = 0 := by omega
      have e2 : ¬ last = 0 := by omega
      unfold stepF
      simp [hs, e1, e2]
      omega
    by_cases hs : s = 0
    · have first : stepF s (m0 + 1) 0 true = true := by unfold stepF; simp [hs]; omega
      rw [if_pos hs]
      by_cases h1 : n1 = 0 ∨ 100 < m0 + 1 + n1
      · rw [if_pos h1]; exact ⟨first, zero _, zero _, zero _⟩
      · rw [if_neg h1]
        by_cases h2 : n2 = 0 ∨ 100 < m0 + 1 + n1 + n2
        · rw [if_pos h2]; exact ⟨first, next _ _ hs (by omega) (by omega) (by omega), zero _, zero _⟩
        · rw [if_neg h2]
          by_cases h3 : n3 = 0 ∨ 100 < m0 + 1 + n1 + n2 + n3
          · rw [if_pos h3]; exact ⟨first, next _ _ hs (by omega) (by omega) (by omega), next _ _ hs (by omega) (by omega) (by omega), zero _⟩
          · rw [if_neg h3]; exact ⟨first, next _ _ hs (by omega) (by omega) (by omega), next _ _ hs (by omega) (by omega) (by omega), next _ _ hs (by omega) (by omega) (by omega)⟩
    · rw [if_neg hs]
      have f0 : stepF s 0 0 true = true := by unfold stepF; simp [hs]
      exact ⟨f0, zero _, zero _, zero _⟩
  unfold Sp.conds
  simp only [List.all_cons, List.all_nil, id_eq, Bool.and_true, Bool.and_eq_true, btw_true, IntWalk.i64_left]
  simp only [goodSp]
  rw [hw]
  refine ⟨by omega, by omega, by omega, ⟨by omega, by rw [Bool.or_eq_true]; exact hU.2.2.imp decide_eq_true decide_eq_true⟩, ⟨by omega, ?_⟩, hT.1, hT.2.1, hT.2.2.1, hT.2.2.2, by omega, by omega, by omega⟩
  have := hS.2
  by_cases h : nearF p.s4 0 3 = 2
  · simp [this h]
  · simp [h]

theorem goodT_size (t : ByteArray) : 1 ≤ (goodT t).size ∧ (goodT t).size ≤ 21 := by
  unfold goodT
  split
  · rename_i h
    rw [ByteArray.size_append]
    have : (⟨#[116]⟩ : ByteArray).size = 1 := rfl
    omega
  · rw [ByteArray.size_append, ByteArray.size_extract]
    have : (⟨#[116]⟩ : ByteArray).size = 1 := rfl
    omega
theorem good_right (r : Rc) : rightB (goodR r) = true := by
  have bk := near_bd (n := r.k) (least := 1) (many := 7) (by omega)
  have be := near_bd (n := r.e) (least := 1) (many := 9) (by omega)
  have he : ByteArray.empty = ⟨#[]⟩ := rfl
  have ht := goodT_size r.t
  have hk : nearF r.k 1 7 = 1 ∨ nearF r.k 1 7 = 2 ∨ nearF r.k 1 7 = 3 ∨ nearF r.k 1 7 = 4 ∨ nearF r.k 1 7 = 5 ∨ nearF r.k 1 7 = 6 ∨ nearF r.k 1 7 = 7 := by omega
  have B : ∀ n l m : Int, 0 < m → l ≤ nearF n l m ∧ nearF n l m < l + m := fun n l m h => near_bd h
  have t1 : (1 : Int) ≤ (goodT r.t).size ∧ ((goodT r.t).size : Int) ≤ 64 := by omega
  rcases hk with h | h | h | h | h | h | h
  · have e : goodR r = ⟨1, nearF r.e 1 9, nearF r.w 0 4, nearF r.n 0 50, nearF r.q 1 20, ⟨#[]⟩, Sp.zero⟩ := by simp [goodR, h]
    rw [e]
    have := B r.w 0 4 (by omega); have := B r.n 0 50 (by omega); have := B r.q 1 20 (by omega)
    simp only [rightB, mayK, if_true, leadB, Bool.and_eq_true, btw_true, req_iff, he, true_and, and_true]
    omega
  · have e : goodR r = ⟨2, nearF r.e 1 9, 0, nearF r.n 1 6, 0, goodT r.t, Sp.zero⟩ := by simp [goodR, h]
    rw [e]
    have := B r.n 1 6 (by omega)
    have hm : mayK ⟨2, nearF r.e 1 9, 0, nearF r.n 1 6, 0, goodT r.t, Sp.zero⟩ = publishB ⟨2, nearF r.e 1 9, 0, nearF r.n 1 6, 0, goodT r.t, Sp.zero⟩ := rfl
    simp only [rightB, hm, publishB, Bool.and_eq_true, btw_true, req_iff, true_and, and_true]
    omega
  · have e : goodR r = ⟨3, nearF r.e 1 9, 0, nearF r.n 0 50, 0, ⟨#[]⟩, goodSp r.p⟩ := by simp [goodR, h]
    rw [e]
    have := B r.n 0 50 (by omega)
    have hm : mayK ⟨3, nearF r.e 1 9, 0, nearF r.n 0 50, 0, ⟨#[]⟩, goodSp r.p⟩ = beginB ⟨3, nearF r.e 1 9, 0, nearF r.n 0 50, 0, ⟨#[]⟩, goodSp r.p⟩ := rfl
    simp only [rightB, hm, beginB, Bool.and_eq_true, btw_true, req_iff, he, true_and, and_true, goodSp_ok, decide_true]
    omega
  · have e : goodR r = ⟨4, nearF r.e 1 9, 0, nearF r.n 1 5, 0, goodT r.t, Sp.zero⟩ := by simp [goodR, h]
    rw [e]
    have := B r.n 1 5 (by omega)
    have hm : mayK ⟨4, nearF r.e 1 9, 0, nearF r.n 1 5, 0, goodT r.t, Sp.zero⟩ = moveB ⟨4, nearF r.e 1 9, 0, nearF r.n 1 5, 0, goodT r.t, Sp.zero⟩ := rfl
    simp only [rightB, hm, moveB, Bool.and_eq_true, btw_true, req_iff, true_and, and_true]
    omega
  · have e : goodR r = ⟨5, nearF r.e 1 9, nearF r.w 0 16, nearF r.n 0 7, nearF r.q 1 9, ⟨#[]⟩, Sp.zero⟩ := by simp [goodR, h]
    rw [e]
    have := B r.w 0 16 (by omega); have := B r.n 0 7 (by omega); have := B r.q 1 9 (by omega)
    have hm : mayK ⟨5, nearF r.e 1 9, nearF r.w 0 16, nearF r.n 0 7, nearF r.q 1 9, ⟨#[]⟩, Sp.zero⟩ = intentB ⟨5, nearF r.e 1 9, nearF r.w 0 16, nearF r.n 0 7, nearF r.q 1 9, ⟨#[]⟩, Sp.zero⟩ := rfl
    simp only [rightB, hm, intentB, unitB, Bool.and_eq_true, btw_true, req_iff, he, true_and, and_true]
    omega
  · have e : goodR r = ⟨6, nearF r.e 1 9, nearF r.w 0 16, 0, nearF r.q 1 9, ⟨#[]⟩, Sp.zero⟩ := by simp [goodR, h]
    rw [e]
    have := B r.w 0 16 (by omega); have := B r.q 1 9 (by omega)
    have hm : mayK ⟨6, nearF r.e 1 9, nearF r.w 0 16, 0, nearF r.q 1 9, ⟨#[]⟩, Sp.zero⟩ = ackB ⟨6, nearF r.e 1 9, nearF r.w 0 16, 0, nearF r.q 1 9, ⟨#[]⟩, Sp.zero⟩ := rfl
    simp only [rightB, hm, ackB, unitB, Bool.and_eq_true, btw_true, req_iff, he, true_and, and_true, decide_true]
    omega
  · have e : goodR r = ⟨7, nearF r.e 1 9, nearF r.w 1 4, nearF r.n 0 50, 0, goodT r.t, Sp.zero⟩ := by simp [goodR, h]
    rw [e]
    have := B r.w 1 4 (by omega); have := B r.n 0 50 (by omega)
    have hm : mayK ⟨7, nearF r.e 1 9, nearF r.w 1 4, nearF r.n 0 50, 0, goodT r.t, Sp.zero⟩ = stepB ⟨7, nearF r.e 1 9, nearF r.w 1 4, nearF r.n 0 50, 0, goodT r.t, Sp.zero⟩ := rfl
    simp only [rightB, hm, stepB, Bool.and_eq_true, btw_true, req_iff, true_and, and_true]
    omega

theorem wire_bytey {r : Rc} (h : rightB r = true) : Bytey (wireL r) := by
  have h6 : Bytey (wire6 r) := by
    rw [wire6_eq h]
    intro x hx
    simp only [List.mem_append] at hx
    rcases hx with hx | hx | hx | hx | hx | hx | hx
    · exact dig_bytes _ x hx
    · exact dig_bytes _ x hx
    · exact dig_bytes _ x hx
    · exact dig_bytes _ x hx
    · exact dig_bytes _ x hx
    · exact dig_bytes _ x hx
    · exact sb_byte _ x hx
  obtain ⟨_, _, _, _, _, _, _, hc⟩ := right_facts h
  unfold wireL
  split
  · rename_i h3
    rw [listW_ok (by simp [Sp.nums]) (nums_le (hc h3))]
    intro x hx
    simp only [List.mem_append] at hx
    rcases hx with (hx | hx) | hx
    · exact h6 x hx
    · exact dig_bytes _ x hx
    · exact digs_bytes _ x hx
  · exact h6
theorem wire_len {r : Rc} (h : rightB r = true) : 0 < (wireL r).length ∧ (wireL r).length ≤ 1000 := by
  obtain ⟨hk, he, hw, hn, hq, ht, _, hc⟩ := right_facts h
  have d1 := dig_len9 (n := r.k.toNat) (by omega)
  have d2 := dig_len9 (n := r.e.toNat) (by omega)
  have d3 := dig_len9 (n := r.w.toNat) (by omega)
  have d4 := dig_len9 (n := r.n.toNat) (by omega)
  have d5 := dig_len9 (n := r.q.toNat) (by omega)
  have d6 := dig_len9 (n := r.t.size) (by omega)
  have p1 := dig_len_pos r.k.toNat
  have s1 := sb_len r.t
  have h6 : 0 < (wire6 r).length ∧ (wire6 r).length ≤ 200 := by
    rw [wire6_eq h]
    simp only [List.length_append]
    omega
  unfold wireL
  split
  · rename_i h3
    have hl := nums_le (hc h3)
    rw [listW_ok (by simp [Sp.nums]) hl]
    simp only [List.length_append]
    have n1 := digs_len r.p.nums hl
    have n2 : r.p.nums.length = 12 := by simp [Sp.nums]
    have n3 := dig_len9 (n := r.p.nums.length) (by omega)
    omega
  · omega
theorem bytes_good {r : Rc} (h : rightB r = true) : bytesF r = (wireL r, 0) := by unfold bytesF; rw [if_pos h]
theorem read_good {r : Rc} (h : rightB r = true) : readF (wireL r) = (r, 0) := by
  have := read_wire h []
  rw [List.append_nil] at this
  unfold readF
  rw [this]
  simp only []
  rw [if_pos ⟨rfl, h⟩]
theorem read_more {r : Rc} (h : rightB r = true) (x : Int) : readF (wireL r ++ [x]) = (Rc.zero, 2) := by
  unfold readF
  rw [read_wire h [x]]
  simp only []
  rw [if_neg (fun hh => by have := hh.1; simp [endF] at this)]
theorem read_less {r : Rc} (h : rightB r = true) : readF ((wireL r).take ((wireL r).length - 1)) = (Rc.zero, 2) := by
  have hb := wire_bytey h
  have hlen := wire_len h
  have hb' : Bytey ((wireL r).take ((wireL r).length - 1)) := fun x hx => hb x (List.mem_of_mem_take hx)
  rcases read_bytes hb' with ⟨_, hr, hy⟩ | ⟨hz, _⟩
  · exfalso
    obtain ⟨r', hr'⟩ : ∃ r', r' = (readF ((wireL r).take ((wireL r).length - 1))).1 := ⟨_, rfl⟩
    rw [← hr'] at hr hy
    rw [bytes_good hr] at hy
    simp only [Prod.mk.injEq, and_true] at hy
    have hs : wireL r = wireL r' ++ [(wireL r)[(wireL r).length - 1]'(by omega)] := by
      rw [hy]
      conv => lhs; rw [← List.take_append_drop ((wireL r).length - 1) (wireL r)]
      congr 1
      rw [List.drop_eq_getElem_cons (by omega)]
      congr 1
      exact List.drop_of_length_le (by omega)
    have a1 := read_wire h []
    rw [List.append_nil, hs, read_wire hr] at a1
    simp at a1
  · exact hz
end Go.Proofs.YtinbidmgllmglaaDoor
namespace Go.Proofs.YtinbidmgllmglaaDoor
set_option linter.unusedVariables false
set_option linter.unusedSimpArgs false
set_option maxRecDepth 20000
open Go.RowKit Go.ChangeShapes Go.WideShapes

def Sp.cells (p : Sp) : List Value := [.int .i64 p.s0, .int .i64 p.s1, .int .i64 p.s2, .int .i64 p.s3, .int .i64 p.s4, .int .i64 p.s5, .int .i64 p.s6, .int .i64 p.s7, .int .i64 p.s8, .int .i64 p.s9, .int .i64 p.s10, .int .i64 p.s11]
def Rc.cells (r : Rc) : List Value := [.int .i64 r.k, .int .i64 r.e, .int .i64 r.w, .int .i64 r.n, .int .i64 r.q, .string r.t, .int .i64 r.p.s0, .int .i64 r.p.s1, .int .i64 r.p.s2, .int .i64 r.p.s3, .int .i64 r.p.s4, .int .i64 r.p.s5, .int .i64 r.p.s6, .int .i64 r.p.s7, .int .i64 r.p.s8, .int .i64 r.p.s9, .int .i64 r.p.s10, .int .i64 r.p.s11]
abbrev wfi (x : Int) : Prop := (Lit.int .i64 x).wf = true
def Sp.ok (p : Sp) : Prop := (wfi p.s0 ∧ wfi p.s1 ∧ wfi p.s2 ∧ wfi p.s3 ∧ wfi p.s4) ∧ (wfi p.s5 ∧ wfi p.s6 ∧ wfi p.s7 ∧ wfi p.s8) ∧ (wfi p.s9 ∧ wfi p.s10 ∧ wfi p.s11)
def Rc.ok (r : Rc) : Prop := (wfi r.k ∧ wfi r.e ∧ wfi r.w ∧ wfi r.n ∧ wfi r.q) ∧ r.t.size ≤ maxLen ∧ r.p.ok

section
variable {H : Type} {enc : TypeId × Value → H} {w : World} {base : Nat} {spare : Nat → Bool} {held : Bool}
theorem fld_int {n : Nat} {c : Value} {y : DataW H × List MemPlace} (h : DataW.trod enc Tryd.prog w base spare held n 3 [c] = some y) : ∃ z, c = .int .i64 z ∧ wfi z := by
  obtain ⟨z, hz, _, hw⟩ := DataW.trod_int Tryd.underlying3 h
  exact ⟨z, by simpa using hz, hw⟩
theorem of_get {α : Type} {o : Option α} {l : List α} {i : Nat} (h : o = l[i]?) (hi : i < l.length) : ∃ y, o = some y := ⟨l[i], by rw [h, List.getElem?_eq_getElem hi]⟩
theorem arr_trod {fuel : Nat} {c0 c1 c2 c3 : Value} {x : DataW H × List MemPlace} (h : DataW.trod enc Tryd.prog w base spare held fuel 22 [c0, c1, c2, c3] = some x) :
    ∃ z0 z1 z2 z3, [c0, c1, c2, c3] = [.int .i64 z0, .int .i64 z1, .int .i64 z2, .int .i64 z3] ∧ wfi z0 ∧ wfi z1 ∧ wfi z2 ∧ wfi z3 := by
  obtain ⟨xs, m, _, _, _, hl, hf⟩ := DataW.trod_array Tryd.underlying22 h
  have h1 : Tryd.prog.cellsOf 3 = 1 := by kernel_rfl
  rw [h1] at hf
  obtain ⟨y0, e0⟩ := of_get (hf 0 (by omega)) (by omega)
  obtain ⟨y1, e1⟩ := of_get (hf 1 (by omega)) (by omega)
  obtain ⟨y2, e2⟩ := of_get (hf 2 (by omega)) (by omega)
  obtain ⟨y3, e3⟩ := of_get (hf 3 (by omega)) (by omega)
  obtain ⟨z0, rfl, w0⟩ := fld_int (c := c0) e0
  obtain ⟨z1, rfl, w1⟩ := fld_int (c := c1) e1
  obtain ⟨z2, rfl, w2⟩ := fld_int (c := c2) e2
  obtain ⟨z3, rfl, w3⟩ := fld_int (c := c3) e3
  exact ⟨z0, z1, z2, z3, rfl, w0, w1, w2, w3⟩
theorem spec_trod {fuel : Nat} {cs : List Value} {x : DataW H × List MemPlace} (h : DataW.trod enc Tryd.prog w base spare held fuel 24 cs = some x) : ∃ p : Sp, cs = p.cells ∧ p.ok := by
  obtain ⟨xs, n, _, _, hc, hl, hf⟩ := DataW.trod_struct Tryd.underlying24 h
  have hc12 : cs.length = 12 := hc.trans (by kernel_rfl)
  have h1 : Tryd.prog.cellsOf 3 = 1 := by kernel_rfl
  have h4 : Tryd.prog.cellsOf 22 = 4 := by kernel_rfl
  have hl9 : xs.length = 9 := hl
  match cs, hc12 with
  | [c0, c1, c2, c3, c4, c5, c6, c7, c8, c9, c10, c11], _ =>
    have fi : ∀ (i : Nat) (f : Field) (c : Value), f.type = 3 → DataW.trod enc Tryd.prog w base spare held n f.type (([c0, c1, c2, c3, c4, c5, c6, c7, c8, c9, c10, c11].drop f.offset).take (Tryd.prog.cellsOf f.type)) = xs[i]? → i < 9 →
        ([c0, c1, c2, c3, c4, c5, c6, c7, c8, c9, c10, c11].drop f.offset).take 1 = [c] → ∃ z, c = .int .i64 z ∧ wfi z := by
      intro i f c ht hh hi hcc
      rw [ht, h1, hcc] at hh
      obtain ⟨y, e⟩ := of_get hh (by omega)
      exact fld_int e
    obtain ⟨z0, rfl, w0⟩ := fi 0 _ c0 rfl (hf 0 _ rfl) (by omega) rfl
    obtain ⟨z1, rfl, w1⟩ := fi 1 _ c1 rfl (hf 1 _ rfl) (by omega) rfl
    obtain ⟨z2, rfl, w2⟩ := fi 2 _ c2 rfl (hf 2 _ rfl) (by omega) rfl
    obtain ⟨z3, rfl, w3⟩ := fi 3 _ c3 rfl (hf 3 _ rfl) (by omega) rfl
    obtain ⟨z4, rfl, w4⟩ := fi 4 _ c4 rfl (hf 4 _ rfl) (by omega) rfl
    obtain ⟨z9, rfl, w9⟩ := fi 6 _ c9 rfl (hf 6 _ rfl) (by omega) rfl
    obtain ⟨z10, rfl, w10⟩ := fi 7 _ c10 rfl (hf 7 _ rfl) (by omega) rfl
    obtain ⟨z11, rfl, w11⟩ := fi 8 _ c11 rfl (hf 8 _ rfl) (by omega) rfl
    have ha : DataW.trod enc Tryd.prog w base spare held n 22 [c5, c6, c7, c8] = xs[5]? := hf 5 _ rfl
    obtain ⟨y, ey⟩ := of_get ha (by omega)
    obtain ⟨z5, z6, z7, z8, e, w5, w6, w7, w8⟩ := arr_trod ey
    simp only [List.cons.injEq, and_true] at e
    obtain ⟨rfl, rfl, rfl, rfl⟩ := e
    exact ⟨⟨z0, z1, z2, z3, z4, z5, z6, z7, z8, z9, z10, z11⟩, rfl, ⟨w0, w1, w2, w3, w4⟩, ⟨w5, w6, w7, w8⟩, w9, w10, w11⟩
theorem rec_trod {fuel : Nat} {cs : List Value} {x : DataW H × List MemPlace} (h : DataW.trod enc Tryd.prog w base spare held fuel 26 cs = some x) : ∃ r : Rc, cs = r.cells ∧ r.ok := by
  obtain ⟨xs, n, _, _, hc, hl, hf⟩ := DataW.trod_struct Tryd.underlying26 h
  have hc18 : cs.length = 18 := hc.trans (by kernel_rfl)
  have h1 : Tryd.prog.cellsOf 3 = 1 := by kernel_rfl
  have hl7 : xs.length = 7 := hl
  match cs, hc18 with
  | [c0, c1, c2, c3, c4, c5, c6, c7, c8, c9, c10, c11, c12, c13, c14, c15, c16, c17], _ =>
    have fi : ∀ (i : Nat) (f : Field) (c : Value), f.type = 3 → DataW.trod enc Tryd.prog w base spare held n f.type (([c0, c1, c2, c3, c4, c5, c6, c7, c8, c9, c10, c11, c12, c13, c14, c15, c16, c17].drop f.offset).take (Tryd.prog.cellsOf f.type)) = xs[i]? → i < 7 →
        ([c0, c1, c2, c3, c4, c5, c6, c7, c8, c9, c10, c11, c12, c13, c14, c15, c16, c17].drop f.offset).take 1 = [c] → ∃ z, c = .int .i64 z ∧ wfi z := by
      intro i f c ht hh hi hcc
      rw [ht, h1, hcc] at hh
      obtain ⟨y, e⟩ := of_get hh (by omega)
      exact fld_int e
    obtain ⟨z0, rfl, w0⟩ := fi 0 _ c0 rfl (hf 0 _ rfl) (by omega) rfl
    obtain ⟨z1, rfl, w1⟩ := fi 1 _ c1 rfl (hf 1 _ rfl) (by omega) rfl
    obtain ⟨z2, rfl, w2⟩ := fi 2 _ c2 rfl (hf 2 _ rfl) (by omega) rfl
    obtain ⟨z3, rfl, w3⟩ := fi 3 _ c3 rfl (hf 3 _ rfl) (by omega) rfl
    obtain ⟨z4, rfl, w4⟩ := fi 4 _ c4 rfl (hf 4 _ rfl) (by omega) rfl
    have hs : DataW.trod enc Tryd.prog w base spare held n 9 [c5] = xs[5]? := hf 5 _ rfl
    obtain ⟨ys, es⟩ := of_get hs (by omega)
    obtain ⟨s, hs1, _, hs2⟩ := DataW.trod_string Tryd.underlying9 es
    simp only [List.cons.injEq, and_true] at hs1
    subst hs1
    have hp : DataW.trod enc Tryd.prog w base spare held n 24 [c6, c7, c8, c9, c10, c11, c12, c13, c14, c15, c16, c17] = xs[6]? := hf 6 _ rfl
    obtain ⟨yp, ep⟩ := of_get hp (by omega)
    obtain ⟨p, e, hok⟩ := spec_trod ep
    simp only [Sp.cells, List.cons.injEq, and_true] at e
    obtain ⟨rfl, rfl, rfl, rfl, rfl, rfl, rfl, rfl, rfl, rfl, rfl, rfl⟩ := e
    exact ⟨⟨z0, z1, z2, z3, z4, s, p⟩, rfl, ⟨w0, w1, w2, w3, w4⟩, hs2, hok⟩
end
end Go.Proofs.YtinbidmgllmglaaDoor
