/- The walks of codec's reader: Read, Err, Left, End, fail, Number, Text, List. The walks of codec's reader: Number at an error and at nil, Text, List. The plain side of the laws that read back what was written: digits are read as the number that they are of. No Go in sight. Bytes that are read as a number are those that are written of it. Plain lists, no condition. The walks of the document's reader: bad, End, GetNumber. No condition. The walks of the document's reader: GetText, GetList. No condition. The walk of the document's reader: GetList. No condition. record.Read. No condition. The reference's record.Read. No condition. Records: the two checks agree; what is read is what was written. Plain Lean, no condition. spec.Read, and the reference's Read. spec.Text. A spec that may be is read of its text as it was. Plain Lean, no condition. The reference's spec that may be, made of any. No condition. Records: what is read is what was written. Plain Lean, no condition. The reference's record that may be, made of any. No condition. Small words for the rows and the laws: a slice of whole numbers that came in reads as a list; min and max. No condition. Records: the document's example; what the reference reads is what the program reads. No condition. The reference's records made of any may be; with a byte less, or more, none is read. Plain Lean, no condition. record.Words. Two records that may be, held by their bytes and words. Plain Lean. Lines, messages and records in words: what is written is read. Plain Lean, no condition. A message's words, on both sides; the reference's Right. A step's line: what is written is read. What stands behind so many blanks. Plain Lean, no condition. The reader of a trace's words: word, number, rest, words; a record's kind. -/
import Derived.Test.YtonlmkcolndaaaaGreatDoorCe
import Derived.Test.YtonlmkcolndaaaaGreatDoorCb
import Derived.Test.YtonlmkcolndaaaaGreatDoorCg
import Derived.Test.YtonlmkcolndaaaaGreatDoorFe
import Derived.Deep.RegionHeld3
import Derived.RegionTactic
import Derived.Deep.DeepCutAuto
import Derived.IntWalk
import Derived.Deep.QuietTactic
import Derived.BigQuiet
import Derived.Lib.Strings
import Derived.Test.YtonlmkcolndaaaaGreatDoorKy
import Derived.Test.YtonlmkcolndaaaaGreatDoorSw
import Derived.Test.YtonlmkcolndaaaaGreatDoorQb
import Derived.Test.YtonlmkcolndaaaaGreatDoorVn
import Derived.Test.YtonlmkcolndaaaaGreatDoorVw
import Derived.Test.YtonlmkcolndaaaaGreatDoorSk
import Derived.Test.YtonlmkcolndaaaaGreatDoorSs
import Derived.Test.YtonlmkcolndaaaaGreatDoorSo
import Derived.Test.YtonlmkcolndaaaaGreatDoorKr
import Derived.Test.YtonlmkcolndaaaaGreatDoorWi
import Derived.Test.YtonlmkcolndaaaaGreatDoorSf
import Derived.Test.YtonlmkcolndaaaaGreatDoorSr
import Derived.Test.YtonlmkcolndaaaaGreatDoorSx
import Derived.Test.YtonlmkcolndaaaaGreatDoorRg
import Derived.Test.YtonlmkcolndaaaaGreatDoorFr
import Derived.Test.YtonlmkcolndaaaaGreatDoorKn
import Derived.Lib.OwnKind
import Derived.Test.YtonlmkcolndaaaaGreatDoorYc
import Derived.Test.YtonlmkcolndaaaaGreatDoorWd
import Derived.Test.YtonlmkcolndaaaaGreatDoorMx
import Derived.Test.YtonlmkcolndaaaaGreatDoorSb
namespace Go.Proofs.YtonlmkcolndaaaaGreatDoor
set_option linter.unusedVariables false
set_option linter.unusedSimpArgs false
set_option maxRecDepth 20000
open Go.RowKit Cp

abbrev rp (rb : Nat) : Value := .pointer (some ⟨rb, 0, none⟩)

/-- What End tells. -/
def endF (l : List Int) (e : Int) : Int := if e = 0 ∧ 0 < l.length then 2 else e
end Go.Proofs.YtonlmkcolndaaaaGreatDoor
namespace Go.Proofs.YtonlmkcolndaaaaGreatDoor
set_option linter.unusedVariables false
set_option linter.unusedSimpArgs false
set_option maxRecDepth 20000
open Go.RowKit Cp

/-- What Text takes: the text's bytes, what is left, the error. -/
def textF (l : List Int) : List Int × List Int × Int :=
  match rdAux 0 0 l with
  | none => ([], [], 2)
  | some (n, r) => if n ≤ 64 ∧ n ≤ r.length then (r.take n, r.drop n, 0) else ([], [], 2)

/-! ### List -/
/-- k numbers are taken, one behind the other; after an error all are 0. -/
def numsF : Nat → List Int → Int → List Int × List Int × Int
  | 0, l, e => ([], l, e)
  | k + 1, l, e => match numsF k l e with
    | (xs, l', e') => (xs ++ [(getF l' e').1], (getF l' e').2.1, (getF l' e').2.2)
/-- What List takes. -/
def listF (l : List Int) : List Int × List Int × Int :=
  match rdAux 0 0 l with
  | none => ([], [], 2)
  | some (n, r) => if 64 < n then ([], [], 2) else if (numsF n r 0).2.2 = 0 then numsF n r 0 else ([], (numsF n r 0).2.1, (numsF n r 0).2.2)

theorem numsF_len (k : Nat) (l : List Int) (e : Int) : (numsF k l e).1.length = k := by
  induction k with
  | zero => rfl
  | succ k ih => rw [numsF]; simp [ih]

theorem info3 : (Tryz.prog.info? 3).map (fun i => (i.zero, i.size, i.bytes)) = some (some (.int .i64 0), 1, 8) := by kernel_rfl

end Go.Proofs.YtonlmkcolndaaaaGreatDoor
namespace Go.Proofs.YtonlmkcolndaaaaGreatDoor
set_option linter.unusedVariables false
set_option linter.unusedSimpArgs false
set_option maxRecDepth 20000
open Go.RowKit Cp

theorem rdAux_dig : ∀ (k m i acc : Nat) (rest : List Int), m ≤ k → i + (dig m).length ≤ 9 → (m = 0 → i = 0) → acc + m * 128 ^ i ≤ 4611686018427387903 → rdAux i acc (dig m ++ rest) = some (acc + m * 128 ^ i, rest) := by
  intro k
  induction k with
  | zero =>
    intro m i acc rest h1 h2 h3 h4
    obtain rfl : m = 0 := by omega
    obtain rfl := h3 rfl
    rw [dig_lt (by omega)]
    simp only [List.cons_append, List.nil_append]
    rw [rdAux, if_neg (by omega), if_neg (by decide), if_neg]
    · simp
    · rintro (h | h)
      · omega
      · simp at h; omega
  | succ k ih =>
    intro m i acc rest h1 h2 h3 h4
    by_cases hm : m < 128
    · rw [dig_lt hm] at h2 ⊢
      simp only [List.cons_append, List.nil_append]
      have e : ((m : Nat) : Int).toNat % 128 = m := by rw [Int.toNat_natCast]; omega
      rw [rdAux, if_neg (by simp at h2; omega), if_neg (by omega), e, if_neg]
      rintro (⟨h5, h6⟩ | h)
      · have := h3 (by omega); omega
      · omega
    · have hd := dig_ge (n := m) (by omega)
      rw [hd] at h2 ⊢
      rw [List.cons_append]
      have hl := dig_len_pos (m / 128)
      rw [List.length_cons] at h2
      have e : ((128 : Int) + ((m % 128 : Nat) : Int)).toNat % 128 = m % 128 := by
        have : ((128 : Int) + ((m % 128 : Nat) : Int)).toNat = 128 + m % 128 := by omega
        rw [this]; omega
      rw [rdAux, if_neg (by omega), if_pos (by omega), e]
      have hs : acc + m % 128 * 128 ^ i + m / 128 * 128 ^ (i + 1) = acc + m * 128 ^ i := by
        have hdm : m = m / 128 * 128 + m % 128 := by omega
        rw [Nat.pow_succ]
        generalize 128 ^ i = p at *
        have : m * p = (m / 128 * 128 + m % 128) * p := by rw [← hdm]
        rw [this, Nat.add_mul, Nat.mul_assoc, Nat.mul_comm 128 p]
        omega
      rw [ih (m / 128) (i + 1) (acc + m % 128 * 128 ^ i) rest (by omega) (by omega) (by omega) (by omega), hs]

theorem rd_dig {m : Nat} (h : m ≤ 4611686018427387903) (rest : List Int) : rdAux 0 0 (dig m ++ rest) = some (m, rest) := by
  have := rdAux_dig m m 0 0 rest (Nat.le_refl _) (by have := dig_len9 h; omega) (fun _ => rfl) (by simpa using h)
  simpa using this

theorem getF_dig {m : Int} (h : 0 ≤ m) (h2 : m ≤ 4611686018427387903) (rest : List Int) : getF (dig m.toNat ++ rest) 0 = (m, rest, 0) := by
  unfold getF
  rw [if_pos rfl, rd_dig (by omega)]
  simp only [Prod.mk.injEq, and_self, and_true]
  omega

theorem numsF_digs (xs : List Int) (rest : List Int) (hx : ∀ x ∈ xs, 0 ≤ x ∧ x ≤ 4611686018427387903) : ∀ k, k ≤ xs.length → numsF k (digs xs ++ rest) 0 = (xs.take k, digs (xs.drop k) ++ rest, 0) := by
  intro k
  induction k with
  | zero => intro _; rfl
  | succ k ih =>
    intro hk
    rw [numsF, ih (by omega)]
    have hlt : k < xs.length := by omega
    rw [List.drop_eq_getElem_cons hlt, digs, List.append_assoc]
    have hb := hx xs[k] (List.getElem_mem hlt)
    simp only []
    rw [getF_dig hb.1 hb.2]
    simp only []
    rw [← List.take_succ_eq_append_getElem hlt]

theorem listF_digs (xs : List Int) (rest : List Int) (hx : ∀ x ∈ xs, 0 ≤ x ∧ x ≤ 4611686018427387903) (h64 : xs.length ≤ 64) : listF (dig xs.length ++ digs xs ++ rest) = (xs, rest, 0) := by
  have h := numsF_digs xs rest hx xs.length (Nat.le_refl _)
  rw [List.take_length, List.drop_length] at h
  unfold listF
  rw [List.append_assoc, rd_dig (by omega)]
  simp only []
  rw [if_neg (by omega), h]
  simp [digs]

theorem textF_sb (s rest : List Int) (h : s.length ≤ 64) : textF (dig s.length ++ s ++ rest) = (s, rest, 0) := by
  unfold textF
  rw [List.append_assoc, rd_dig (by omega)]
  simp only []
  rw [if_pos ⟨h, by simp⟩]
  simp

theorem dig_bytes (n : Nat) : ∀ x ∈ dig n, 0 ≤ x ∧ x < 256 := dig_byte n n (Nat.le_refl _)
theorem digs_bytes (l : List Int) : ∀ x ∈ digs l, 0 ≤ x ∧ x < 256 := by
  induction l with
  | nil => intro x hx; cases hx
  | cons n l ih =>
    intro x hx
    rw [digs] at hx
    rcases List.mem_append.1 hx with h | h
    · exact dig_bytes _ x h
    · exact ih x h
end Go.Proofs.YtonlmkcolndaaaaGreatDoor
namespace Go.Proofs.YtonlmkcolndaaaaGreatDoor
set_option linter.unusedVariables false
set_option linter.unusedSimpArgs false
set_option maxRecDepth 20000
open Go.RowKit Cp

theorem rdAux_only : ∀ (l : List Int) (i acc m : Nat) (r : List Int), (∀ x ∈ l, 0 ≤ x ∧ x < 256) → rdAux i acc l = some (m, r) →
    ∃ d, l = dig d ++ r ∧ m = acc + d * 128 ^ i ∧ (0 < i → 0 < d) ∧ m ≤ 4611686018427387903 := by
  intro l
  induction l with
  | nil => intro i acc m r _ h; rw [rdAux] at h; cases h
  | cons c l ih =>
    intro i acc m r hb h
    have hc := hb c (by simp)
    rw [rdAux] at h
    by_cases h9 : 9 ≤ i
    · rw [if_pos h9] at h; cases h
    · rw [if_neg h9] at h
      by_cases h128 : 128 ≤ c
      · rw [if_pos h128] at h
        obtain ⟨d, hl, hm, hd, hM⟩ := ih _ _ _ _ (fun x hx => hb x (by simp [hx])) h
        have hd0 := hd (by omega)
        refine ⟨d * 128 + c.toNat % 128, ?_, ?_, fun _ => by omega, hM⟩
        · have e1 : (d * 128 + c.toNat % 128) % 128 = c.toNat % 128 := by omega
          have e2 : (d * 128 + c.toNat % 128) / 128 = d := by omega
          rw [dig_ge (by omega), e1, e2, List.cons_append, ← hl]
          congr 1
          omega
        · rw [hm, Nat.pow_succ]
          generalize 128 ^ i = p
          rw [Nat.add_mul, Nat.mul_comm p 128, ← Nat.mul_assoc]
          omega
      · rw [if_neg h128] at h
        by_cases hbad : (c = 0 ∧ 0 < i) ∨ 4611686018427387903 < acc + c.toNat % 128 * 128 ^ i
        · rw [if_pos hbad] at h; cases h
        · rw [if_neg hbad] at h
          simp only [Option.some.injEq, Prod.mk.injEq] at h
          obtain ⟨rfl, rfl⟩ := h
          have e1 : c.toNat % 128 = c.toNat := by omega
          refine ⟨c.toNat, ?_, by rw [e1], fun hi => ?_, by omega⟩
          · rw [dig_lt (by omega)]
            have : ((c.toNat : Nat) : Int) = c := by omega
            rw [this]; rfl
          · rcases Nat.eq_zero_or_pos c.toNat with h0 | h0
            · exact absurd (Or.inl ⟨by omega, hi⟩) hbad
            · exact h0

theorem rd_only {l : List Int} {m : Nat} {r : List Int} (hb : ∀ x ∈ l, 0 ≤ x ∧ x < 256) (h : rdAux 0 0 l = some (m, r)) : l = dig m ++ r ∧ m ≤ 4611686018427387903 := by
  obtain ⟨d, hl, hm, _, hM⟩ := rdAux_only l 0 0 m r hb h
  have : m = d := by rw [hm]; simp
  rw [this]; exact ⟨hl, by omega⟩
end Go.Proofs.YtonlmkcolndaaaaGreatDoor
namespace Go.Proofs.YtonlmkcolndaaaaGreatDoor
set_option linter.unusedVariables false
set_option linter.unusedSimpArgs false
set_option maxRecDepth 20000
open Go.RowKit Cp

abbrev rv (v : Value) (e : Int) : Value := .agg #[v, .int .i64 e]
theorem two {w : World} {g : Nat} {a0 a1 : Value} {e : TypeId} (h : w.heap[g]? = some (.cells #[a0, a1] e (0, 0))) :
    (w.cell? ⟨g, 0, none⟩ = some a0 ∧ w.cell? ⟨g, 1, none⟩ = some a1) ∧ (w.frozen? ⟨g, 0, none⟩ = false ∧ w.frozen? ⟨g, 1, none⟩ = false) := by
  refine ⟨⟨?_, ?_⟩, ?_, ?_⟩ <;> simp [World.cell?, World.frozen?, h]
theorem put2 {w : World} {g : Nat} {a0 a1 : Value} {e : TypeId} (h : w.heap[g]? = some (.cells #[a0, a1] e (0, 0))) (b0 b1 : Value) :
    ((w.setCell ⟨g, 0, none⟩ b0).setCell ⟨g, 1, none⟩ b1).heap[g]? = some (.cells #[b0, b1] e (0, 0)) ∧ Frm (· = g) w ((w.setCell ⟨g, 0, none⟩ b0).setCell ⟨g, 1, none⟩ b1) :=
  ⟨heap_set_at (heap_set_at h b0) b1, ((Frm.refl (· = g) w).put g 0 b0 (fun _ => rfl)).put g 1 b1 (fun _ => rfl)⟩

/-- The slice reads as these bytes wherever the blocks of w0 are as they were. -/
def RdB (w0 : World) (v : Value) (l : List Int) : Prop := ∀ wx, Frm M0 w0 wx → Rd wx 1 v l.length (ints .u8 l)
theorem RdB.nil (w0 : World) : RdB w0 (.slice none 0 0) [] := fun wx _ => Rd.nil _ _
/-- What the document's reader gives: bytes that are left, the error. -/
def RefB (w0 w w' : World) (l : List Int) (e : Int) (r : Ending) (f : Value → Value) : Prop :=
  ∃ v', r = .returned (f (rv v' e)) ∧ Hid (RdB w0 v' l) ∧ Frm M0 w w'
theorem RdB.shape {w0 : World} {v : Value} {l : List Int} (h : RdB w0 v l) : ∃ a c, v = .slice a l.length c ∧ Hid (0 < l.length → ∃ b o, a = some ⟨b, o, none⟩) ∧ l.length ≤ c ∧ c ≤ 9223372036854775807 := by
  have h0 := h w0 (Frm.refl _ _)
  obtain ⟨a, c, rfl, hab⟩ := h0.shape
  obtain ⟨_, h1, h2⟩ := h0.cap
  exact ⟨a, c, rfl, hid hab, h1, h2⟩

def badF (l : List Int) (e : Int) : List Int × Int := if e = 0 then ([], 2) else (l, e)
theorem sb_str {l : List Int} (h : ∀ x ∈ l, 0 ≤ x ∧ x < 256) : sb (strOfNums l) = l := by
  unfold sb
  rw [strOfNums_data, List.map_map]
  refine (List.map_congr_left (g := id) fun x hx => ?_).trans (List.map_id _)
  have := h x hx
  simp
  omega
theorem str_eq {a b : List Int} (h : a = b) : ((strOfNums a).toList == (strOfNums b).toList) = true := by rw [h]; simp
theorem str_ne {a b : List Int} (ha : ∀ x ∈ a, 0 ≤ x ∧ x < 256) (hb : ∀ x ∈ b, 0 ≤ x ∧ x < 256) (h : a ≠ b) : ((strOfNums a).toList == (strOfNums b).toList) = false := by
  rw [beq_eq_false_iff_ne]
  intro e
  refine h ?_
  rw [← sb_str ha, ← sb_str hb]
  unfold sb
  rw [← Lib.toList_data, ← Lib.toList_data, e]
/-- A slice cut from i on. -/
theorem cutB {w0 : World} {b o c : Nat} {l : List Int} (h : RdB w0 (.slice (some ⟨b, o, none⟩) l.length c) l) (i : Nat) (hi : i ≤ l.length) :
    ∃ A : Addr, (if c = i then (some ⟨b, o, none⟩ : Option Addr) else some ⟨b, o + i, none⟩) = some A ∧ RdB w0 (.slice (some A) (l.length - i) (c - i)) (l.drop i) := by
  by_cases hc : c = i
  · refine ⟨⟨b, o, none⟩, by rw [if_pos hc], fun wx hf => ?_⟩
    have h1 := (h wx hf).cap
    have h2 := (h wx hf).dropAll i (by omega)
    rw [show c - i = 0 by omega]
    exact h2
  · exact ⟨⟨b, o + i, none⟩, by rw [if_neg hc], fun wx hf => (h wx hf).drop i hi⟩
theorem RdB.take {w0 : World} {x : Addr} {n c : Nat} {l : List Int} (h : RdB w0 (.slice (some x) n c) l) (i : Nat) (hi : i ≤ l.length) : RdB w0 (.slice (some x) i c) (l.take i) := fun wx hf => by
  have hc := (h wx hf).cap
  have h1 := h wx hf
  rw [hc.1] at h1
  exact h1.take i hi
/-- One digit more: what stands in l is read, or it isn't. -/
theorem num_good {l : List Int} {n i : Nat} (hb : ∀ x ∈ l, 0 ≤ x ∧ x < 256) (h : rdAux 0 0 l = some (n, l.drop (i + 1))) (hi : i < l.length) : dig n = l.take (i + 1) := by
  have h1 := (rd_only hb h).1
  have h2 : l.take (i + 1) ++ l.drop (i + 1) = dig n ++ l.drop (i + 1) := by rw [List.take_append_drop]; exact h1
  exact (List.append_cancel_right h2).symm
theorem num_bad {l : List Int} {n i : Nat} (hn : n ≤ 4611686018427387903) (h : rdAux 0 0 l = none) : dig n ≠ l.take (i + 1) := by
  intro e
  have h2 := rd_dig hn (l.drop (i + 1))
  rw [e, List.take_append_drop, h] at h2
  cases h2

end Go.Proofs.YtonlmkcolndaaaaGreatDoor
namespace Go.Proofs.YtonlmkcolndaaaaGreatDoor
set_option linter.unusedVariables false
set_option linter.unusedSimpArgs false
set_option maxRecDepth 20000
open Go.RowKit Cp

theorem getF_sub (l : List Int) (e : Int) : ∃ n : Nat, (getF l e).1 = (n : Int) ∧ n ≤ 4611686018427387903 ∧ (∀ x ∈ (getF l e).2.1, x ∈ l) ∧ (getF l e).2.1.length ≤ l.length := by
  unfold getF
  split
  · split
    · exact ⟨0, rfl, by omega, by simp, by simp⟩
    · rename_i n r h
      have h2 : ∀ (l : List Int) (i acc : Nat), rdAux i acc l = some (n, r) → n ≤ 4611686018427387903 ∧ (∀ x ∈ r, x ∈ l) ∧ r.length ≤ l.length := by
        intro l
        induction l with
        | nil => intro i acc h; simp [rdAux] at h
        | cons c l ih =>
          intro i acc h
          rw [rdAux] at h
          split at h
          · cases h
          · split at h
            · obtain ⟨h1, h2, h3⟩ := ih _ _ h
              exact ⟨h1, fun x hx => List.mem_cons_of_mem _ (h2 x hx), by simp only [List.length_cons]; omega⟩
            · split at h
              · cases h
              · cases h
                rename_i h9 h128 hbad
                exact ⟨by omega, fun x hx => List.mem_cons_of_mem _ hx, by simp⟩
      obtain ⟨h1, h3, h4⟩ := h2 l 0 0 h
      exact ⟨n, rfl, h1, h3, h4⟩
  · exact ⟨0, rfl, by omega, fun x hx => hx, Nat.le_refl _⟩

/-- What Text gives: the text, what is left, the error. -/
def textE (l : List Int) (e : Int) : List Int × List Int × Int :=
  if (getF l e).2.2 ≠ 0 then ([], (getF l e).2.1, (getF l e).2.2)
  else if (getF l e).1.toNat ≤ 64 ∧ (getF l e).1.toNat ≤ (getF l e).2.1.length then ((getF l e).2.1.take (getF l e).1.toNat, (getF l e).2.1.drop (getF l e).1.toNat, 0) else ([], [], 2)
theorem textE_0 (l : List Int) : textE l 0 = textF l := by
  unfold textE textF getF
  rw [if_pos rfl]
  cases h : rdAux 0 0 l with
  | none => simp
  | some p => obtain ⟨n, r⟩ := p; simp
theorem textE_ne (l : List Int) (e : Int) (he : e ≠ 0) : textE l e = ([], l, e) := by
  unfold textE getF
  rw [if_neg he, if_pos he]

end Go.Proofs.YtonlmkcolndaaaaGreatDoor
namespace Go.Proofs.YtonlmkcolndaaaaGreatDoor
set_option linter.unusedVariables false
set_option linter.unusedSimpArgs false
set_option maxRecDepth 20000
open Go.RowKit Cp

/-- What List gives: the numbers, what is left, the error. -/
def listE (l : List Int) (e : Int) : List Int × List Int × Int :=
  if (getF l e).2.2 ≠ 0 then ([], (getF l e).2.1, (getF l e).2.2)
  else if 64 < (getF l e).1.toNat then ([], [], 2)
  else if (numsF (getF l e).1.toNat (getF l e).2.1 0).2.2 = 0 then numsF (getF l e).1.toNat (getF l e).2.1 0
  else ([], (numsF (getF l e).1.toNat (getF l e).2.1 0).2.1, (numsF (getF l e).1.toNat (getF l e).2.1 0).2.2)
theorem listE_0 (l : List Int) : listE l 0 = listF l := by
  unfold listE listF getF
  rw [if_pos rfl]
  cases h : rdAux 0 0 l with
  | none => simp
  | some p => obtain ⟨n, r⟩ := p; simp
theorem listE_ne (l : List Int) (e : Int) (he : e ≠ 0) : listE l e = ([], l, e) := by
  unfold listE getF
  rw [if_neg he, if_pos he]
theorem getF_err (l : List Int) (h : (getF l 0).2.2 ≠ 0) : getF l 0 = (0, [], 2) := by
  unfold getF at *
  rw [if_pos rfl] at *
  cases hr : rdAux 0 0 l with
  | none => rfl
  | some p => obtain ⟨n, r⟩ := p; rw [hr] at h; exact absurd rfl h
theorem numsF_sub (l : List Int) : ∀ k, (∀ x ∈ (numsF k l 0).2.1, x ∈ l) ∧ (numsF k l 0).2.1.length ≤ l.length := by
  intro k
  induction k with
  | zero => exact ⟨fun x h => h, Nat.le_refl _⟩
  | succ k ih =>
    rw [numsF]
    obtain ⟨n, h1, h2, h3, h4⟩ := getF_sub (numsF k l 0).2.1 (numsF k l 0).2.2
    exact ⟨fun x hx => ih.1 x (h3 x hx), Nat.le_trans h4 ih.2⟩
theorem numsF_dead (l : List Int) (k : Nat) (h : (numsF k l 0).2 = ([], 2)) : ∀ d, (numsF (k + d) l 0).2 = ([], 2) := by
  intro d
  induction d with
  | zero => exact h
  | succ d ih =>
    rw [Nat.add_succ, numsF]
    rw [Prod.ext_iff] at ih
    simp only [ih.1, ih.2]
    rfl
theorem numsF_step (l : List Int) (k : Nat) (xs lk : List Int) (h : numsF k l 0 = (xs, lk, 0)) : numsF (k + 1) l 0 = (xs ++ [(getF lk 0).1], (getF lk 0).2.1, (getF lk 0).2.2) := by rw [numsF, h]

def RefL (w0 w w' : World) (L : List Int × List Int × Int) (r : Ending) : Prop :=
  ∃ v' vl, r = .returned (.tuple #[rv v' L.2.2, vl]) ∧ Hid (RdB w0 v' L.2.1) ∧ Hid (Rd w' 1 vl L.1.length (ints .i64 L.1)) ∧ Hid (∀ k, vl.ownBlock = some k → w.heap.size ≤ k) ∧ Frm M0 w w'

end Go.Proofs.YtonlmkcolndaaaaGreatDoor
namespace Go.Proofs.YtonlmkcolndaaaaGreatDoor
set_option linter.unusedVariables false
set_option linter.unusedSimpArgs false
set_option maxRecDepth 20000
open Go.RowKit Cp

/-- 12 numbers are a spec; others are none. -/
def mkSp (l : List Int) : Sp := if l.length = 12 then Sp.ofL l else Sp.zero
theorem make_u (v : Value) (l : List Int) (w : World) (hr : Rd w 1 v l.length (ints .i64 l)) (hm : l.length ≤ 1000000) :
    Calls Tryz.prog 65 #[v] w fun r w' => ∃ e : Int, r = .returned (.tuple #[(mkSp l).val, .int .i64 e]) ∧ Frm M0 w w' := by
  by_cases h : l.length = 12
  · refine (make_ok v l w hr h).mono ?_
    rintro _ w' ⟨rfl, hf⟩
    exact ⟨0, by unfold mkSp; rw [if_pos h], hf⟩
  · refine (make_bad v l w hr h hm).mono ?_
    rintro _ w' ⟨rfl, hf⟩
    exact ⟨1, by unfold mkSp; rw [if_neg h], hf⟩

/-- The five numbers and the text; what is left, the error. -/
def read5 (l : List Int) : Rc × List Int × Int :=
  let a := getF l 0; let b := getF a.2.1 a.2.2; let c := getF b.2.1 b.2.2; let d := getF c.2.1 c.2.2; let e := getF d.2.1 d.2.2
  let t := textE e.2.1 e.2.2
  (⟨a.1, b.1, c.1, d.1, e.1, strOfNums t.1, Sp.zero⟩, t.2.1, t.2.2)
/-- .. the spec, too. -/
def read6 (l : List Int) : Rc × List Int × Int :=
  let a := read5 l
  if a.1.k = 3 then (let s := listE a.2.1 a.2.2; ({ a.1 with p := mkSp s.1 }, s.2.1, s.2.2)) else a
def readF (l : List Int) : Rc × Int := let a := read6 l; if endF a.2.1 a.2.2 = 0 ∧ rightB a.1 = true then (a.1, 0) else (Rc.zero, 2)
theorem listE_len (l : List Int) (e : Int) : (listE l e).1.length ≤ 64 := by
  by_cases he : e = 0
  · subst he
    rw [listE_0]
    unfold listF
    split
    · simp
    · split
      · simp
      · split
        · rw [numsF_len]; omega
        · simp
  · rw [listE_ne l e he]; simp

end Go.Proofs.YtonlmkcolndaaaaGreatDoor
namespace Go.Proofs.YtonlmkcolndaaaaGreatDoor
set_option linter.unusedVariables false
set_option linter.unusedSimpArgs false
set_option maxRecDepth 20000
open Go.RowKit Cp

/-- What the reference answers. -/
def rreadOk (l : List Int) (a : Rc × List Int × Int) : Prop := endF a.2.1 a.2.2 = 0 ∧ (rbytesF a.1).2 = 0 ∧ strOfNums (rbytesF a.1).1 = strOfNums l
def Bytey (l : List Int) : Prop := ∀ x ∈ l, 0 ≤ x ∧ x < 256
theorem getF_ok {l : List Int} (e : Int) (h : Bytey l ∧ l.length ≤ 1000000) : Bytey (getF l e).2.1 ∧ (getF l e).2.1.length ≤ 1000000 := by
  obtain ⟨_, _, _, h1, h2⟩ := getF_sub l e
  exact ⟨fun x hx => h.1 x (h1 x hx), by omega⟩
theorem textE_ok {l : List Int} (e : Int) (h : Bytey l ∧ l.length ≤ 1000000) : Bytey (textE l e).2.1 ∧ (textE l e).2.1.length ≤ 1000000 := by
  have h1 := getF_ok e h
  unfold textE
  split
  · exact h1
  · split
    · exact ⟨fun x hx => h1.1 x (List.mem_of_mem_drop hx), by rw [List.length_drop]; omega⟩
    · exact ⟨(fun x hx => by cases hx), by simp⟩
theorem textE_len (l : List Int) (e : Int) : (textE l e).1.length ≤ 64 := by
  unfold textE
  split
  · simp
  · split
    · rename_i h; rw [List.length_take]; omega
    · simp

end Go.Proofs.YtonlmkcolndaaaaGreatDoor
namespace Go.Proofs.YtonlmkcolndaaaaGreatDoor
set_option linter.unusedVariables false
set_option linter.unusedSimpArgs false
set_option maxRecDepth 20000
open Go.RowKit Cp

theorem and_cg {a b b' : Bool} (h : a = true → b = b') : (a && b) = (a && b') := by cases a <;> simp_all
theorem btw_true {n lo hi : Int} : btw n lo hi = true ↔ lo ≤ n ∧ n ≤ hi := by simp [btw]
theorem step_first (s n : Int) : stepF s n 0 true = bif !decide (s = 0) then decide (n = 0) else btw n 1 100 := by
  unfold stepF btw
  by_cases hs : s = 0 <;> simp [hs]
  have : (0 < n) ↔ (1 ≤ n) := by omega
  simp [this]
theorem step_next (s n last : Int) (h0 : 0 ≤ last) (h1 : last ≤ 100) : stepF s n last false = rstepF s n last := by
  have hw : wrap64 (last + 1) = last + 1 := by unfold wrap64; omega
  unfold stepF rstepF btw
  rw [hw]
  by_cases hs : s = 0
  · by_cases hn : n = 0
    · simp [hs, hn]
    · by_cases hl : last = 0
      · simp [hs, hn, hl]
      · have h2 : 0 < last := by omega
        have h3 : (last < n) ↔ (last + 1 ≤ n) := by omega
        simp [hs, hn, hl, h2, h3]
  · simp [hs]
theorem stepF_le {s n last : Int} {f : Bool} (h : stepF s n last f = true) (h0 : 0 ≤ last) : 0 ≤ n ∧ n ≤ 100 := by
  unfold stepF at h
  by_cases hs : s = 0
  · cases f
    · by_cases hn : n = 0
      · omega
      · by_cases hl : last = 0
        · simp [hs, hn, hl] at h
        · simp [hs, hn, hl] at h; omega
    · simp [hs] at h; omega
  · simp [hs] at h; omega
theorem conds_all (p : Sp) : p.conds.all id = p.rconds.all id := by
  unfold Sp.conds Sp.rconds
  simp only [List.all_cons, List.all_nil, id_eq, Bool.and_true, IntWalk.i64_left]
  refine and_cg fun h0 => and_cg fun h1 => and_cg fun h2 => ?_
  rw [btw_true] at h0 h1 h2
  have e3 : (btw p.s3 0 p.s1 && (decide (0 < p.s3) || decide (0 < p.s2))) = (btw p.s3 0 p.s1 && !((p.s3 == 0) && (p.s2 == 0))) := by
    refine and_cg fun h3 => ?_
    rw [btw_true] at h3
    rw [Bool.eq_iff_iff]
    simp
    omega
  rw [e3]
  refine and_cg fun _ => ?_
  have e4 : (btw p.s4 0 2 && ((p.s4 != 2) || decide (p.s1 ≤ p.s2))) = (btw p.s4 0 2 && !((p.s4 == 2) && decide (p.s2 < p.s1))) := by
    refine and_cg fun _ => ?_
    rw [Bool.eq_iff_iff]
    simp
  rw [e4]
  refine and_cg fun _ => ?_
  have e5 : p.stepB 0 = p.rstepB 0 := step_first _ _
  rw [e5]
  refine and_cg fun h5 => ?_
  have b5 := stepF_le (s := p.s4) (n := p.s5) (last := 0) (f := true) (by rw [← e5] at h5; exact h5) (by omega)
  have e6 : p.stepB 1 = p.rstepB 1 := step_next _ _ _ b5.1 b5.2
  rw [e6]
  refine and_cg fun h6 => ?_
  have b6 := stepF_le (s := p.s4) (n := p.s6) (last := p.s5) (f := false) (by rw [← e6] at h6; exact h6) b5.1
  have e7 : p.stepB 2 = p.rstepB 2 := step_next _ _ _ b6.1 b6.2
  rw [e7]
  refine and_cg fun h7 => ?_
  have b7 := stepF_le (s := p.s4) (n := p.s7) (last := p.s6) (f := false) (by rw [← e7] at h7; exact h7) b6.1
  have e8 : p.stepB 3 = p.rstepB 3 := step_next _ _ _ b7.1 b7.2
  rw [e8]
theorem chkE_eq (p : Sp) : p.chkE = p.rchkE := by unfold Sp.chkE Sp.rchkE; rw [conds_all]
theorem chkE_zero (p : Sp) : p.chkE = 0 ↔ p.conds.all id = true := by
  unfold Sp.chkE
  cases p.conds.all id <;> simp
/-- The numbers of a spec that may be. -/
theorem nums_le {p : Sp} (h : p.chkE = 0) : ∀ x ∈ p.nums, 0 ≤ x ∧ x ≤ 4611686018427387903 := by
  rw [chkE_zero] at h
  unfold Sp.conds at h
  simp only [List.all_cons, List.all_nil, id_eq, Bool.and_true, Bool.and_eq_true, btw_true, IntWalk.i64_left] at h
  obtain ⟨h0, h1, h2, h3, h4, h5, h6, h7, h8, h9, h10, h11⟩ := h
  have hw : wrap64 (16 - p.s1) = 16 - p.s1 := by unfold wrap64; omega
  rw [hw] at h2
  have b5 := stepF_le (s := p.s4) (n := p.s5) (last := 0) (f := true) h5 (by omega)
  have b6 := stepF_le (s := p.s4) (n := p.s6) (last := p.s5) (f := false) h6 b5.1
  have b7 := stepF_le (s := p.s4) (n := p.s7) (last := p.s6) (f := false) h7 b6.1
  have b8 := stepF_le (s := p.s4) (n := p.s8) (last := p.s7) (f := false) h8 b7.1
  have h31 := h3.1
  have h41 := h4.1
  intro x hx
  simp only [Sp.nums, List.mem_cons, List.not_mem_nil, or_false] at hx
  rcases hx with rfl | rfl | rfl | rfl | rfl | rfl | rfl | rfl | rfl | rfl | rfl | rfl <;> omega

theorem req_iff (a b c d e : Int) (t : ByteArray) (p : Sp) : req ⟨a, b, c, d, e, t, p⟩ Rc.zero = true ↔ a = 0 ∧ b = 0 ∧ c = 0 ∧ d = 0 ∧ e = 0 ∧ t = .empty ∧ p = Sp.zero := by
  simp [req, Rc.zero]
theorem sneq_iff (p : Sp) : (!(sneq p Sp.zero)) = true ↔ p = Sp.zero := by simp [sneq]
theorem sneq_f (p : Sp) : sneq p Sp.zero = false ↔ p = Sp.zero := by simp [sneq]
theorem right_eq (r : Rc) : rightB r = rrightB r := by
  obtain ⟨k, e, v, n, q, t, p⟩ := r
  have he : ByteArray.empty = ⟨#[]⟩ := rfl
  unfold rightB rrightB
  refine and_cg fun _ => ?_
  by_cases h : 1 ≤ k ∧ k ≤ 7
  case neg =>
    have h0 : mayK ⟨k, e, v, n, q, t, p⟩ = false := by
      unfold mayK
      rw [if_neg (show ¬ k = 1 by omega), if_neg (show ¬ k = 2 by omega), if_neg (show ¬ k = 3 by omega), if_neg (show ¬ k = 4 by omega), if_neg (show ¬ k = 5 by omega), if_neg (show ¬ k = 6 by omega), if_neg (show ¬ k = 7 by omega)]
    have h1 : rmayK ⟨k, e, v, n, q, t, p⟩ = false := by
      unfold rmayK
      rw [if_neg (show ¬ k = 1 by omega), if_neg (show ¬ k = 2 by omega), if_neg (show ¬ k = 3 by omega), if_neg (show ¬ k = 4 by omega), if_neg (show ¬ k = 5 by omega), if_neg (show ¬ k = 6 by omega), if_neg (show ¬ k = 7 by omega)]
    rw [h0, h1]; simp
  have hk : k = 1 ∨ k = 2 ∨ k = 3 ∨ k = 4 ∨ k = 5 ∨ k = 6 ∨ k = 7 := by omega
  rcases hk with rfl | rfl | rfl | rfl | rfl | rfl | rfl <;> rw [Bool.eq_iff_iff] <;>
    simp only [mayK, rmayK, leadB, publishB, beginB, moveB, intentB, ackB, unitB, stepB, rk1, rk2, rk3, rk4, rk5, rk6, rk7, if_true, if_false, bareB, cond_true, cond_false, Bool.and_eq_true, req_iff, sneq_iff, decide_eq_true_eq, beq_iff_eq, chkE_eq, he, Bool.not_eq_true',
      (show ¬ (1 : Int) = 3 by omega), (show ¬ (2 : Int) = 3 by omega), (show ¬ (4 : Int) = 3 by omega), (show ¬ (5 : Int) = 3 by omega), (show ¬ (6 : Int) = 3 by omega), (show ¬ (7 : Int) = 3 by omega)] <;> simp
  all_goals (try simp only [req_iff, he, sneq_f, true_and])
  all_goals (constructor <;> intro hh <;> simp_all)
end Go.Proofs.YtonlmkcolndaaaaGreatDoor
namespace Go.Proofs.YtonlmkcolndaaaaGreatDoor
set_option linter.unusedVariables false
set_option linter.unusedSimpArgs false
set_option maxRecDepth 20000
open Go.RowKit

/-- The numbers of words, if all are numbers. -/
def numsW : List (List UInt8) → Option (List Int)
  | [] => some []
  | x :: r => match numF x, numsW r with
    | some n, some l => some (n :: l)
    | _, _ => none
theorem numsW_snoc (x : List UInt8) : ∀ W, numsW (W ++ [x]) = match numsW W, numF x with | some l, some n => some (l ++ [n]) | _, _ => none
  | [] => by
    simp only [List.nil_append, numsW]
    cases numF x <;> rfl
  | y :: W => by
    have ih := numsW_snoc x W
    simp only [List.cons_append, numsW, ih]
    cases numF y <;> cases numsW W <;> cases numF x <;> rfl
theorem numsW_none_app : ∀ (W V : List (List UInt8)), numsW W = none → numsW (W ++ V) = none
  | [], V, h => by cases h
  | y :: W, V, h => by
    simp only [List.cons_append, numsW] at h ⊢
    cases hy : numF y with
    | none => rfl
    | some n =>
      cases hw : numsW W with
      | none => rw [numsW_none_app W V hw]
      | some l => rw [hy, hw] at h; cases h
theorem numsW_len : ∀ (W : List (List UInt8)) (l : List Int), numsW W = some l → l.length = W.length
  | [], l, h => by cases h; rfl
  | y :: W, l, h => by
    simp only [numsW] at h
    cases hy : numF y with
    | none => rw [hy] at h; cases h
    | some n =>
      cases hw : numsW W with
      | none => rw [hy, hw] at h; cases h
      | some l' =>
        rw [hy, hw] at h
        cases h
        rw [List.length_cons, List.length_cons, numsW_len W l' hw]
/-- The spec of a text, or why there is none. -/
def readL (W : List (List UInt8)) : Sp × Int :=
  match numsW W with
  | some l => if l.length = 12 then (if (Sp.ofL l).chkE = 0 then (Sp.ofL l, 0) else (Sp.zero, (Sp.ofL l).chkE)) else (Sp.zero, 2)
  | none => (Sp.zero, 2)
def readS (t : ByteArray) : Sp × Int := readL (splitL t.data.toList)
theorem chkE_cases (p : Sp) : p.chkE = 0 ∨ p.chkE = 11 := by
  unfold Sp.chkE
  cases p.conds.all id
  · exact .inr rfl
  · exact .inl rfl

set_option maxRecDepth 20000 in
set_option maxHeartbeats 4000000 in
theorem sread_calls (t : ByteArray) (w : World) (ht : t.size ≤ 900000) (hg : Glob w) : Calls Tryz.prog 46 #[.string t] w fun e w' => e = .returned (.tuple #[(readS t).1.val, .int .i64 (readS t).2]) ∧ Frm M0 w w' := by
  obtain ⟨rs, HRS⟩ : ∃ x, Hid (readS t = x) := ⟨_, rfl⟩
  rw [HRS.out]
  have HG := hid hg
  clear hg
  go_enter Tryz.func46, Tryz.ntmps46
  go_wp2_with fail
  refine (split_calls t _ (by omega) (HG.out.frm ((Frm.refl M0 w).alloc _))).mono ?_
  rintro _ w1 ⟨b, rfl, hr, hf⟩
  obtain ⟨R, hR⟩ : ∃ x, x = w.heap.size := ⟨_, rfl⟩
  have S1 : Hid (Sb M0 w1 fun x => x.heap[R]? = some (.cells #[.int .i64 0, .int .i64 0, .int .i64 0, .int .i64 0, .int .i64 0, .int .i64 0, .int .i64 0, .int .i64 0, .int .i64 0, .int .i64 0, .int .i64 0, .int .i64 0] 25 (0, 0)) ∧ Rd x 1 (.slice (some ⟨b, 0, none⟩) (splitS t).length (splitS t).length) (splitS t).length (strs (splitS t)) ∧ Frm M0 w x ∧ Glob x) :=
    hid fun wx hx => ⟨hR ▸ (hf.same hx).heap (new1 w _) (fun h => h), hr.frm0 hx, (((Frm.refl M0 w).alloc _).then0 hf).then0 hx, HG.out.frm ((((Frm.refl M0 w).alloc _).then0 hf).then0 hx)⟩
  rw [← hR]
  have HRR := hid hR
  obtain ⟨L, hL⟩ : ∃ x, x = splitS t := ⟨_, rfl⟩
  have HL : Hid (L.map (·.data.toList) = splitL t.data.toList) := hid (by rw [hL]; exact splitS_list t)
  have hl1 : L.length ≤ 1000000 := by
    have h1 := splitL_len t.data.toList
    rw [← HL.out, List.length_map] at h1
    simp at h1
    have e : t.size = t.data.size := rfl
    omega
  rw [← hL] at S1
  rw [← hL]
  clear hL hr hf hR HG
  go_wp2_with fail
  go_loopw [4, 14] (fun v4 i14 wr => ∃ (k : Nat) (ns : List Int), k ≤ L.length ∧ i14 = .int .i64 k ∧ ns.length = k ∧ Hid (wr.ownsRow w1.heap.size 3 1 v4 ns.length (ints .i64 ns)) ∧ Hid (numsW ((L.take k).map (·.data.toList)) = some ns) ∧ Hid (Frm M0 w1 wr)) (fun _ i _ => L.length - (intOf i).toNat)
  case atStart => exact ⟨0, [], Nat.zero_le _, rfl, rfl, hid (World.ownsRow_nil _ _ _ _), hid rfl, hid (Frm.refl _ _)⟩
  case round =>
    obtain ⟨k, ns, hk, rfl, hnk, HO, HN, HF⟩ := hrel
    have S2 := hid (S1.out.step HF.out)
    by_cases hlt : k < L.length
    · have hx : L[k]? = some L[k] := List.getElem?_eq_getElem hlt
      obtain ⟨x, hxx⟩ : ∃ x, x = L[k] := ⟨_, rfl⟩
      rw [← hxx] at hx
      have HX := hid hx
      have hxs : x.size ≤ 1000000 := by
        have h1 : x.data.toList ∈ splitL t.data.toList := by rw [← HL.out]; exact List.mem_map_of_mem (List.mem_of_getElem? hx)
        have h2 := splitL_mem _ _ h1
        simp at h2
        have e1 : x.size = x.data.size := rfl
        have e2 : t.size = t.data.size := rfl
        omega
      have hc : wr.cell? ⟨b, k, none⟩ = some (.string x) := by
        rcases S2.out.now.2.1.2 with ⟨h2, h0⟩ | ⟨a, cap, h2, h3, h4, h6⟩
        · cases h2
        · simp only [Value.slice.injEq, Option.some.injEq] at h2
          obtain ⟨rfl, _, _⟩ := h2
          have := h6 k (.string x) (strs_get L k x hx)
          rw [add_none] at this; simpa using this
      clear hx hxx
      go_wp2_with fail
      refine (snumber_calls x _ hxs S2.out.now.2.2.2).mono ?_
      rintro _ w2 ⟨n, is, rfl, HNR, hf⟩
      have HF2 := hid (HF.out.then0 hf)
      have HO2 := hid (hf.owns HO.out (fun _ _ h => h))
      have hR2 := hid (S2.out.step hf)
      clear hf hc HF HO S2
      cases is
      · have HRZ : Hid (rs = (Sp.zero, 2)) := hid (by
          rw [← HRS.out]
          have e : splitL t.data.toList = ((L.take (k + 1)).map (·.data.toList)) ++ ((L.drop (k + 1)).map (·.data.toList)) := by rw [← List.map_append, List.take_append_drop, HL.out]
          have e2 : numsW ((L.take (k + 1)).map (·.data.toList)) = none := by
            rw [take_snoc HX.out, List.map_append, List.map_cons, List.map_nil, numsW_snoc, HN.out, HNR.out.2 rfl]
          unfold readS readL
          rw [e, numsW_none_app _ _ e2])
        go_wp2_with (refine wpList_store_row rfl 25 (.tmp 2) (.tmp 25) (by with_reducible rfl) R #[.int .i64 0, .int .i64 0, .int .i64 0, .int .i64 0, .int .i64 0, .int .i64 0, .int .i64 0, .int .i64 0, .int .i64 0, .int .i64 0, .int .i64 0, .int .i64 0] (by kernel_rfl) (by kernel_rfl) _ _ hR2.out.now.1 (by kernel_rfl) (by rfl) (by simp [Value.oneCell']) ?_)
        refine bodyPost_ret (results_cell_slot (by rfl) _ _ R _ _ _ _ _ rfl rfl (setRow_heap _ _ _ _ _ _ hR2.out.now.1) Tryz.underlying25 rfl (by kernel_rfl)) rfl ⟨by rw [HRZ.out]; rfl, hR2.out.now.2.2.1.setRow _ _ (by have := HRR.out; omega)⟩
      · have HNN : Hid (numsW ((L.take (k + 1)).map (·.data.toList)) = some (ns ++ [n])) := hid (by
          rw [take_snoc HX.out, List.map_append, List.map_cons, List.map_nil, numsW_snoc, HN.out, HNR.out.1 rfl])
        go_wp2_with (first | (at_builtin; refine wpList_push_int rfl (.tmp 26) (.tmp 28) 61 rfl w1.heap.size 3 .i64 8 Tryz.underlying61 infoI _ ns n rfl HO2.out rfl (by unfold maxLen; omega) (by omega) HF2.out.size ?_; intro v3 w3 ho3 hg3; have HO3 := hid ho3; have HG3 := hid hg3; clear ho3 hg3))
        exact ⟨⟨k + 1, ns ++ [n], by omega, by go_num, by simp; omega, HO3, HNN, hid (HF2.out.grown HG3.out (fun j hj hlt' => absurd (HO2.out.lt j hj).1 (by omega)))⟩, by simp [intOf]; omega⟩
    · obtain rfl : k = L.length := by omega
      have hN := HN.out
      rw [List.take_length, HL.out] at hN
      have HRD : Hid (rs = if ns.length = 12 then (if (Sp.ofL ns).chkE = 0 then (Sp.ofL ns, 0) else (Sp.zero, (Sp.ofL ns).chkE)) else (Sp.zero, 2)) := hid (by rw [← HRS.out]; unfold readS readL; rw [hN])
      have HRO := hid (Rd.ofOwns HO.out)
      clear hN HN HO
      by_cases h12 : ns.length = 12
      case neg =>
        have HRZ : Hid (rs = (Sp.zero, 2)) := hid (by rw [HRD.out, if_neg h12])
        go_wp2_with fail
        refine (make_bad _ ns _ HRO.out h12 (by omega)).mono ?_
        rintro _ w2 ⟨rfl, hf⟩
        have HVZ : Hid (Sp.zero.val = .agg #[.int .i64 0, .int .i64 0, .int .i64 0, .int .i64 0, .int .i64 0, .int .i64 0, .int .i64 0, .int .i64 0, .int .i64 0, .int .i64 0, .int .i64 0, .int .i64 0]) := rfl
        rw [HVZ.out]
        have S3 := hid (S2.out.step hf)
        have HZ1 := hid (new1 w2 (.cells #[.int .i64 0, .int .i64 0, .int .i64 0, .int .i64 0, .int .i64 0, .int .i64 0, .int .i64 0, .int .i64 0, .int .i64 0, .int .i64 0, .int .i64 0, .int .i64 0] 25))
        clear hf S2
        go_upto_region 12 with (refine wpList_store_row rfl 25 (.tmp 9) (.tmp 34) (by with_reducible rfl) w2.heap.size #[.int .i64 0, .int .i64 0, .int .i64 0, .int .i64 0, .int .i64 0, .int .i64 0, .int .i64 0, .int .i64 0, .int .i64 0, .int .i64 0, .int .i64 0, .int .i64 0] (by kernel_rfl) (by kernel_rfl) _ _ HZ1.out (by kernel_rfl) (by rfl) (by simp [Value.oneCell']) ?_)
        have hfr := ((Frm.refl M0 w2).alloc (.cells #[.int .i64 0, .int .i64 0, .int .i64 0, .int .i64 0, .int .i64 0, .int .i64 0, .int .i64 0, .int .i64 0, .int .i64 0, .int .i64 0, .int .i64 0, .int .i64 0] 25)).setRow w2.heap.size #[.int .i64 0, .int .i64 0, .int .i64 0, .int .i64 0, .int .i64 0, .int .i64 0, .int .i64 0, .int .i64 0, .int .i64 0, .int .i64 0, .int .i64 0, .int .i64 0] (Nat.le_refl _)
        obtain ⟨w3, hw3⟩ : ∃ x, x = (w2.alloc (.cells #[.int .i64 0, .int .i64 0, .int .i64 0, .int .i64 0, .int .i64 0, .int .i64 0, .int .i64 0, .int .i64 0, .int .i64 0, .int .i64 0, .int .i64 0, .int .i64 0] 25)).setRow w2.heap.size #[.int .i64 0, .int .i64 0, .int .i64 0, .int .i64 0, .int .i64 0, .int .i64 0, .int .i64 0, .int .i64 0, .int .i64 0, .int .i64 0, .int .i64 0, .int .i64 0] := ⟨_, rfl⟩
        rw [← hw3] at hfr
        rw [← hw3]
        have S4 := hid (S3.out.step hfr)
        clear hw3 hfr S3 HZ1
        go_wp2_with (refine wpList_store_row rfl 25 (.tmp 2) (.tmp 38) (by with_reducible rfl) R #[.int .i64 0, .int .i64 0, .int .i64 0, .int .i64 0, .int .i64 0, .int .i64 0, .int .i64 0, .int .i64 0, .int .i64 0, .int .i64 0, .int .i64 0, .int .i64 0] (by kernel_rfl) (by kernel_rfl) _ _ S4.out.now.1 (by kernel_rfl) (by rfl) (by simp [Value.oneCell']) ?_)
        refine bodyPost_ret (results_cell_slot (by rfl) _ _ R _ _ _ _ _ rfl rfl (setRow_heap _ _ _ _ _ _ S4.out.now.1) Tryz.underlying25 rfl (by kernel_rfl)) rfl ⟨by rw [HRZ.out]; rfl, S4.out.now.2.2.1.setRow _ _ (by have := HRR.out; omega)⟩
      case pos =>
        go_wp2_with fail
        refine (make_ok _ ns _ HRO.out h12).mono ?_
        rintro _ w2 ⟨rfl, hf⟩
        have hrd := HRD.out
        rw [if_pos h12] at hrd
        obtain ⟨P, hP⟩ : ∃ P, P = Sp.ofL ns := ⟨_, rfl⟩
        rw [← hP] at hrd ⊢
        have HRD2 := hid hrd
        have HVP : Hid (P.val = .agg #[.int .i64 P.s0, .int .i64 P.s1, .int .i64 P.s2, .int .i64 P.s3, .int .i64 P.s4, .int .i64 P.s5, .int .i64 P.s6, .int .i64 P.s7, .int .i64 P.s8, .int .i64 P.s9, .int .i64 P.s10, .int .i64 P.s11]) := rfl
        rw [HVP.out]
        have S3 := hid (S2.out.step hf)
        have HZ1 := hid (new1 w2 (.cells #[.int .i64 0, .int .i64 0, .int .i64 0, .int .i64 0, .int .i64 0, .int .i64 0, .int .i64 0, .int .i64 0, .int .i64 0, .int .i64 0, .int .i64 0, .int .i64 0] 25))
        clear hf S2 hP hrd HRD
        go_upto_region 11 with (refine wpList_store_row rfl 25 (.tmp 9) (.tmp 34) (by with_reducible rfl) w2.heap.size #[.int .i64 P.s0, .int .i64 P.s1, .int .i64 P.s2, .int .i64 P.s3, .int .i64 P.s4, .int .i64 P.s5, .int .i64 P.s6, .int .i64 P.s7, .int .i64 P.s8, .int .i64 P.s9, .int .i64 P.s10, .int .i64 P.s11] (by kernel_rfl) (by kernel_rfl) _ _ HZ1.out (by kernel_rfl) (by rfl) (by simp [Value.oneCell']) ?_)
        have hfr := ((Frm.refl M0 w2).alloc (.cells #[.int .i64 0, .int .i64 0, .int .i64 0, .int .i64 0, .int .i64 0, .int .i64 0, .int .i64 0, .int .i64 0, .int .i64 0, .int .i64 0, .int .i64 0, .int .i64 0] 25)).setRow w2.heap.size #[.int .i64 P.s0, .int .i64 P.s1, .int .i64 P.s2, .int .i64 P.s3, .int .i64 P.s4, .int .i64 P.s5, .int .i64 P.s6, .int .i64 P.s7, .int .i64 P.s8, .int .i64 P.s9, .int .i64 P.s10, .int .i64 P.s11] (Nat.le_refl _)
        have hP3 := setRow_heap _ w2.heap.size _ #[.int .i64 P.s0, .int .i64 P.s1, .int .i64 P.s2, .int .i64 P.s3, .int .i64 P.s4, .int .i64 P.s5, .int .i64 P.s6, .int .i64 P.s7, .int .i64 P.s8, .int .i64 P.s9, .int .i64 P.s10, .int .i64 P.s11] _ _ HZ1.out
        obtain ⟨w3, hw3⟩ : ∃ x, x = (w2.alloc (.cells #[.int .i64 0, .int .i64 0, .int .i64 0, .int .i64 0, .int .i64 0, .int .i64 0, .int .i64 0, .int .i64 0, .int .i64 0, .int .i64 0, .int .i64 0, .int .i64 0] 25)).setRow w2.heap.size #[.int .i64 P.s0, .int .i64 P.s1, .int .i64 P.s2, .int .i64 P.s3, .int .i64 P.s4, .int .i64 P.s5, .int .i64 P.s6, .int .i64 P.s7, .int .i64 P.s8, .int .i64 P.s9, .int .i64 P.s10, .int .i64 P.s11] := ⟨_, rfl⟩
        rw [← hw3] at hfr hP3
        rw [← hw3]
        have S4 := hid ((S3.out.step hfr).and (Sb.heap hP3 (fun h => h)))
        clear hw3 hfr S3 HZ1 hP3
        go_wp2_with (refine wpList_load_row_w (by kernel_rfl) 25 (.tmp 9) (by with_reducible rfl) w2.heap.size (by kernel_rfl) _ _ _ _ S4.out.now.2 Tryz.underlying25 rfl (by kernel_rfl) ?_)
        rw [← HVP.out]
        refine (check_calls P _).mono ?_
        rintro _ w4 ⟨rfl, hf⟩
        rw [HVP.out]
        have S5 := hid (S4.out.step hf)
        clear hf S4
        rcases chkE_cases P with h | h
        · have HRZ : Hid (rs = (P, 0)) := hid (by rw [HRD2.out, if_pos h])
          rw [h]
          clear h
          go_wp2_with (first | (refine wpList_load_row_w (by kernel_rfl) 25 (.tmp 9) (by with_reducible rfl) w2.heap.size (by kernel_rfl) _ _ _ _ S5.out.now.2 Tryz.underlying25 rfl (by kernel_rfl) ?_) | (refine wpList_store_row rfl 25 (.tmp 2) (.tmp 48) (by with_reducible rfl) R #[.int .i64 P.s0, .int .i64 P.s1, .int .i64 P.s2, .int .i64 P.s3, .int .i64 P.s4, .int .i64 P.s5, .int .i64 P.s6, .int .i64 P.s7, .int .i64 P.s8, .int .i64 P.s9, .int .i64 P.s10, .int .i64 P.s11] (by kernel_rfl) (by kernel_rfl) _ _ S5.out.now.1.1 (by kernel_rfl) (by rfl) (by simp [Value.oneCell']) ?_))
          refine bodyPost_ret (results_cell_slot (by rfl) _ _ R _ _ _ _ _ rfl rfl (setRow_heap _ _ _ _ _ _ S5.out.now.1.1) Tryz.underlying25 rfl (by kernel_rfl)) rfl ⟨by rw [HRZ.out]; rfl, S5.out.now.1.2.2.1.setRow _ _ (by have := HRR.out; omega)⟩
        · have HRZ : Hid (rs = (Sp.zero, 11)) := hid (by rw [HRD2.out, if_neg (by omega), h])
          rw [h]
          clear h
          go_wp2_with (refine wpList_store_row rfl 25 (.tmp 2) (.tmp 46) (by with_reducible rfl) R #[.int .i64 0, .int .i64 0, .int .i64 0, .int .i64 0, .int .i64 0, .int .i64 0, .int .i64 0, .int .i64 0, .int .i64 0, .int .i64 0, .int .i64 0, .int .i64 0] (by kernel_rfl) (by kernel_rfl) _ _ S5.out.now.1.1 (by kernel_rfl) (by rfl) (by simp [Value.oneCell']) ?_)
          refine bodyPost_ret (results_cell_slot (by rfl) _ _ R _ _ _ _ _ rfl rfl (setRow_heap _ _ _ _ _ _ S5.out.now.1.1) Tryz.underlying25 rfl (by kernel_rfl)) rfl ⟨by rw [HRZ.out]; rfl, S5.out.now.1.2.2.1.setRow _ _ (by have := HRR.out; omega)⟩
end Go.Proofs.YtonlmkcolndaaaaGreatDoor
namespace Go.Proofs.YtonlmkcolndaaaaGreatDoor
set_option linter.unusedVariables false
set_option linter.unusedSimpArgs false
set_option maxRecDepth 20000
open Go.RowKit

def Sp.small (p : Sp) : Prop := ∀ x ∈ p.nums, -9223372036854775808 ≤ x ∧ x ≤ 9223372036854775807
/-- Numbers as words. -/
def words (l : List Int) : List ByteArray := l.map fun n => str (Lib.itoa n)
/-- Words, a blank between. -/
def joinS (l : List ByteArray) : ByteArray := str (Lib.join (l.map (·.data.toList)) [32])
def textS (p : Sp) : ByteArray := joinS (words p.nums)
theorem nums_len (p : Sp) : p.nums.length = 12 := rfl

theorem joinTail_bound (n : Nat) : ∀ (r : List (List UInt8)), (∀ x ∈ r, x.length ≤ n) → (Lib.joinTail [32] r).length ≤ r.length * (n + 1) := by
  intro r
  induction r with
  | nil => intro _; simp [Lib.joinTail]
  | cons y r ih =>
    intro h
    have h1 := h y (by simp)
    have h2 := ih (fun x hx => h x (by simp [hx]))
    simp only [Lib.joinTail, List.map_cons, List.flatten_cons, List.length_append, List.length_cons, List.length_nil] at h2 ⊢
    rw [Nat.succ_mul]; omega
theorem join_bound (n : Nat) (r : List (List UInt8)) (h : ∀ x ∈ r, x.length ≤ n) : (Lib.join r [32]).length ≤ r.length * (n + 1) := by
  cases r with
  | nil => simp [Lib.join_nil]
  | cons y r =>
    have h1 := h y (by simp)
    have h2 := joinTail_bound n r (fun x hx => h x (by simp [hx]))
    rw [Lib.join_cons, List.length_append, List.length_cons, Nat.succ_mul]; omega
theorem words_bound (l : List Int) (h : ∀ x ∈ l, -9223372036854775808 ≤ x ∧ x ≤ 9223372036854775807) : ∀ x ∈ words l, x.size ≤ 21 := by
  intro x hx
  obtain ⟨n, hn, rfl⟩ := List.mem_map.1 hx
  have := Lib.itoa_length_le n (h n hn).1 (h n hn).2
  show (Lib.itoa n).toArray.size ≤ 21
  simpa using this
theorem words_snoc (l : List Int) (n : Int) : words l ++ [str (Lib.itoa n)] = words (l ++ [n]) := by simp [words]
theorem words_len (l : List Int) : (words l).length = l.length := by simp [words]
theorem joinS_size (n : Nat) (l : List ByteArray) (h : ∀ x ∈ l, x.size ≤ n) : (Lib.join (l.map (·.data.toList)) [32]).length ≤ l.length * (n + 1) := by
  have := join_bound n (l.map (·.data.toList)) (by
    intro x hx
    obtain ⟨s, hs, rfl⟩ := List.mem_map.1 hx
    have := h s hs
    show s.data.toList.length ≤ n
    rw [Array.length_toList]; exact this)
  rwa [List.length_map] at this

set_option maxHeartbeats 2000000 in
set_option maxRecDepth 20000 in
theorem stext_calls (p : Sp) (w : World) (ht : Tab w) (hp : p.small) : Calls Tryz.prog 53 #[p.val] w fun e w' => e = .returned (.string (textS p)) ∧ Frm M0 w w' := by
  have HT := hid ht; clear ht
  have HV : Hid (p.val = .agg #[.int .i64 p.s0, .int .i64 p.s1, .int .i64 p.s2, .int .i64 p.s3, .int .i64 p.s4, .int .i64 p.s5, .int .i64 p.s6, .int .i64 p.s7, .int .i64 p.s8, .int .i64 p.s9, .int .i64 p.s10, .int .i64 p.s11]) := rfl
  rw [HV.out]
  go_enter Tryz.func53, Tryz.ntmps53
  go_wp2_with (refine wpList_load_row rfl 25 (.tmp 1) (by with_reducible rfl) w.heap.size rfl _ _ _ _ (heap_alloc_last w _) Tryz.underlying25 rfl (by kernel_rfl) ?_)
  rw [← HV.out]
  refine (fields_calls p _).mono ?_
  rintro _ w1 ⟨v, rfl, hr, hf⟩
  have HF1 := hid (((Frm.refl M0 w).alloc _).then0 hf)
  have HR := hid (Rd.ofOwns hr)
  clear hr hf
  obtain ⟨a, c, rfl, hsh⟩ := HR.out.shape
  obtain ⟨b, o, rfl⟩ := hsh (by rw [nums_len]; omega)
  clear hsh
  obtain ⟨L, hL⟩ : ∃ L, L = p.nums := ⟨_, rfl⟩
  have HL : Hid (textS p = joinS (words L)) := by rw [hL]; rfl
  have HP : Hid (∀ x ∈ L, -9223372036854775808 ≤ x ∧ x ≤ 9223372036854775807) := by rw [hL]; exact hp
  have hn : L.length = 12 := by rw [hL]; rfl
  rw [← hL] at HR
  rw [← hL, hn]
  have HN := hid hn
  clear hL hp hn
  go_wp2_with fail
  go_loopw [3, 5, 9] (fun v3 _s5 i9 wr => ∃ k : Nat, k ≤ 12 ∧ i9 = .int .i64 k ∧ Hid (wr.ownsRow w1.heap.size 9 1 v3 (words (L.take k)).length (strs (words (L.take k)))) ∧ Hid (Frm M0 w1 wr)) (fun _ _ i _ => 12 - (intOf i).toNat)
  case atStart => exact ⟨0, Nat.zero_le _, rfl, hid (World.ownsRow_nil _ _ _ _), hid (Frm.refl _ _)⟩
  case round =>
    obtain ⟨k, hk, rfl, HO, HF⟩ := hrel
    have hlw : (words (L.take k)).length = k := by rw [words_len, List.length_take, HN.out]; omega
    have HLW := hid hlw; clear hlw
    by_cases hlt : k < 12
    · have hkL : k < L.length := by rw [HN.out]; exact hlt
      obtain ⟨x, HX, hc⟩ := (HR.out.frm0 HF.out).cellAt k hkL
      have hx := HP.out x (List.mem_of_getElem? HX.out)
      have HXB := hid hx
      clear hx hkL
      go_wp2_with fail
      refine (itoa_calls x _ HXB.out.1 HXB.out.2 (HT.out.frm (HF1.out.then0 HF.out))).mono ?_
      rintro _ w2 ⟨rfl, hf⟩
      have HO2 := hid (hf.owns HO.out (fun _ _ h => h))
      have HF2 := hid (HF.out.then0 hf)
      clear hf hc
      go_wp2_with (first | (at_builtin; refine wpList_push_el strs_len strs_one rfl (.tmp 13) (.tmp 16) 59 rfl w1.heap.size 9 (.string ⟨#[]⟩) 16 Tryz.underlying59 (by kernel_rfl) rfl (by decide) _ (words (L.take k)) (str (Lib.itoa x)) #[.string (str (Lib.itoa x))] rfl rfl HO2.out rfl (by rw [HLW.out]; omega) (by rw [HLW.out]; omega) HF2.out.size ?_; intro v3 w3 ho3 hg3; have HO3 := hid ho3; have HG3 := hid hg3; clear ho3 hg3))
      refine ⟨⟨k + 1, by omega, by go_num, hid ?_, hid ?_⟩, by simp [intOf]; omega⟩
      · rw [take_snoc HX.out, ← words_snoc]; exact HO3.out
      · exact HF2.out.grown HG3.out (fun j hj hlt' => absurd (HO2.out.lt j hj).1 (by omega))
    · obtain rfl : k = 12 := by omega
      have ht : L.take 12 = L := List.take_of_length_le (by rw [HN.out]; omega)
      have hR := Rd.ofOwns HO.out
      rw [ht] at hR HLW
      obtain ⟨a3, c3, h3, _⟩ := hR.shape
      have HLB := hid (joinS_size 21 (words L) (words_bound L HP.out))
      have HRR := hid hR
      clear hR ht
      subst h3
      go_wp2_with fail
      refine (join_calls _ (words L) ⟨#[32]⟩ _ HRR.out (by rw [HLW.out]; omega) (by rw [HLW.out]; omega) ?_).mono ?_
      · have := HLB.out
        rw [HLW.out] at this
        exact Nat.le_trans this (by omega)
      rintro _ w3 ⟨rfl, hf⟩
      go_wp2_with fail
      go_ret
      exact ⟨by rw [HL.out]; rfl, (HF1.out.then0 HF.out).then0 hf⟩
end Go.Proofs.YtonlmkcolndaaaaGreatDoor
namespace Go.Proofs.YtonlmkcolndaaaaGreatDoor
set_option linter.unusedVariables false
set_option linter.unusedSimpArgs false
set_option maxRecDepth 20000
open Go.RowKit

theorem splitL_plain : ∀ (x : List UInt8), (32 : UInt8) ∉ x → splitL x = [x]
  | [], _ => rfl
  | c :: x, h => by
    have hc : c ≠ 32 := fun e => h (by rw [e]; simp)
    exact splitL_cons_ne hc (splitL_plain x (fun hh => h (by simp [hh])))
theorem splitL_app (t : List UInt8) : ∀ (x : List UInt8), (32 : UInt8) ∉ x → splitL (x ++ 32 :: t) = x :: splitL t
  | [], _ => splitL_blank t
  | c :: x, h => by
    have hc : c ≠ 32 := fun e => h (by rw [e]; simp)
    exact splitL_cons_ne hc (splitL_app t x (fun hh => h (by simp [hh])))
theorem splitL_join : ∀ (xs : List (List UInt8)), xs ≠ [] → (∀ x ∈ xs, (32 : UInt8) ∉ x) → splitL (Lib.join xs [32]) = xs
  | [], h, _ => absurd rfl h
  | [x], _, h => by rw [Lib.join_one]; exact splitL_plain x (h x (by simp))
  | x :: y :: r, _, h => by
    have e : Lib.join (x :: y :: r) [32] = x ++ 32 :: Lib.join (y :: r) [32] := by
      rw [Lib.join_cons, Lib.join_cons]; simp [Lib.joinTail]
    rw [e, splitL_app _ _ (h x (by simp)), splitL_join (y :: r) (by simp) (fun z hz => h z (by simp [hz]))]
theorem itoa_nob (u : Int) : (32 : UInt8) ∉ Lib.itoa u := by
  unfold Lib.itoa
  intro h
  split at h
  · rcases List.mem_cons.1 h with h | h
    · exact absurd h (by decide)
    · have := (dec_bytes _ _ h).1
      exact absurd this (by decide)
  · have := (dec_bytes _ _ h).1
    exact absurd this (by decide)
theorem nDigits_le : ∀ (k u : Nat), 1 ≤ k → u < 10 ^ k → Lib.nDigits u ≤ k
  | 0, _, h, _ => absurd h (by omega)
  | k + 1, u, _, hu => by
    by_cases h : u < 10
    · rw [Lib.nDigits_small h]; omega
    · rw [Lib.nDigits_big h]
      rw [Nat.pow_succ] at hu
      rcases k with _ | k
      · simp at hu; omega
      · have := nDigits_le (k + 1) (u / 10) (by omega) (by omega)
        omega
theorem numF_itoa {u : Int} (h0 : -1000000000 < u) (h1 : u < 1000000000) : numF (Lib.itoa u) = some u :=
  numF_some.2 ⟨by rw [digN_itoa]; exact nDigits_le 9 _ (by omega) (by have e : (10 : Nat) ^ 9 = 1000000000 := rfl; omega), rfl⟩
theorem numsW_itoa : ∀ (l : List Int), (∀ x ∈ l, -1000000000 < x ∧ x < 1000000000) → numsW (l.map Lib.itoa) = some l
  | [], _ => rfl
  | x :: l, h => by
    simp only [List.map_cons, numsW]
    rw [numF_itoa (h x (by simp)).1 (h x (by simp)).2, numsW_itoa l (fun y hy => h y (by simp [hy]))]
theorem nums_le2 {p : Sp} (h : p.chkE = 0) : ∀ x ∈ p.nums, 0 ≤ x ∧ x ≤ 1048576 := by
  rw [chkE_zero] at h
  unfold Sp.conds at h
  simp only [List.all_cons, List.all_nil, id_eq, Bool.and_true, Bool.and_eq_true, btw_true, IntWalk.i64_left] at h
  obtain ⟨h0, h1, h2, h3, h4, h5, h6, h7, h8, h9, h10, h11⟩ := h
  have hw : wrap64 (16 - p.s1) = 16 - p.s1 := by unfold wrap64; omega
  rw [hw] at h2
  have b5 := stepF_le (s := p.s4) (n := p.s5) (last := 0) (f := true) h5 (by omega)
  have b6 := stepF_le (s := p.s4) (n := p.s6) (last := p.s5) (f := false) h6 b5.1
  have b7 := stepF_le (s := p.s4) (n := p.s7) (last := p.s6) (f := false) h7 b6.1
  have b8 := stepF_le (s := p.s4) (n := p.s8) (last := p.s7) (f := false) h8 b7.1
  have h31 := h3.1
  have h41 := h4.1
  intro x hx
  simp only [Sp.nums, List.mem_cons, List.not_mem_nil, or_false] at hx
  rcases hx with rfl | rfl | rfl | rfl | rfl | rfl | rfl | rfl | rfl | rfl | rfl | rfl <;> omega
theorem text_list (p : Sp) : (textS p).data.toList = Lib.join (p.nums.map Lib.itoa) [32] := by
  have e : ∀ l : List Int, (words l).map (·.data.toList) = l.map Lib.itoa := fun l => by unfold words; rw [List.map_map]; rfl
  show Lib.join ((words p.nums).map (·.data.toList)) [32] = _
  rw [e]
theorem ofL_of (p : Sp) : Sp.ofL p.nums = p := rfl
theorem read_text {p : Sp} (h : p.chkE = 0) : readS (textS p) = (p, 0) := by
  unfold readS readL
  rw [text_list, splitL_join _ (by simp [Sp.nums]) (fun x hx => by obtain ⟨u, _, rfl⟩ := List.mem_map.1 hx; exact itoa_nob u), numsW_itoa _ (fun x hx => by have := nums_le2 h x hx; omega)]
  simp only []
  rw [if_pos (show p.nums.length = 12 from rfl), ofL_of, if_pos h]
end Go.Proofs.YtonlmkcolndaaaaGreatDoor
namespace Go.Proofs.YtonlmkcolndaaaaGreatDoor
set_option linter.unusedVariables false
set_option linter.unusedSimpArgs false
set_option maxRecDepth 20000
open Go.RowKit

def gSurge (p : Sp) : Int := if nearF p.s4 0 3 = 2 then nearF p.s1 1 5 + nearF p.s2 0 2 else nearF p.s2 0 4
def gUn (p : Sp) : Int := if gSurge p = 0 ∧ nearF p.s3 0 (nearF p.s1 1 5 + 1) = 0 then 1 else nearF p.s3 0 (nearF p.s1 1 5 + 1)
/-- The steps that a strategy's numbers make. -/
def gSteps (s n0 n1 n2 n3 : Int) : Int × Int × Int × Int :=
  if s = 0 then
    (if n1 = 0 ∨ 100 < n0 + n1 then (n0, 0, 0, 0) else
      (if n2 = 0 ∨ 100 < n0 + n1 + n2 then (n0, n0 + n1, 0, 0) else
        (if n3 = 0 ∨ 100 < n0 + n1 + n2 + n3 then (n0, n0 + n1, n0 + n1 + n2, 0) else (n0, n0 + n1, n0 + n1 + n2, n0 + n1 + n2 + n3))))
  else (0, 0, 0, 0)
def gSt (p : Sp) : Int × Int × Int × Int := gSteps (nearF p.s4 0 3) (nearF p.s5 0 60 + 1) (nearF p.s6 0 60) (nearF p.s7 0 60) (nearF p.s8 0 60)
def goodSp (p : Sp) : Sp := ⟨nearF p.s0 1 6, nearF p.s1 1 5, gSurge p, gUn p, nearF p.s4 0 3, (gSt p).1, (gSt p).2.1, (gSt p).2.2.1, (gSt p).2.2.2, nearF p.s9 1 9, nearF p.s10 0 4, nearF p.s11 1 60⟩
theorem near_bd {n least many : Int} (h : 0 < many) : least ≤ nearF n least many ∧ nearF n least many < least + many := by
  unfold nearF
  have h1 := Int.emod_nonneg (n % 18446744073709551616) (show many ≠ 0 by omega)
  have h2 := Int.emod_lt_of_pos (n % 18446744073709551616) h
  omega

set_option maxRecDepth 100000 in
set_option maxHeartbeats 8000000 in
attribute [local go_sem] FUpon in
theorem sgood_calls (p : Sp) (w : World) : Calls Tryz.prog 50 #[p.val] w fun x w' => x = .returned (goodSp p).val ∧ Frm M0 w w' := by
  obtain ⟨ver, Kver⟩ : ∃ x, Hid (nearF p.s0 1 6 = x) := ⟨_, rfl⟩
  have bver : 1 ≤ ver ∧ ver < 7 := by have := near_bd (n := p.s0) (least := 1) (many := 6) (by omega); have e := Kver.out; rw [e] at this; omega
  obtain ⟨lver, uver⟩ := bver
  obtain ⟨des, Kdes⟩ : ∃ x, Hid (nearF p.s1 1 5 = x) := ⟨_, rfl⟩
  have bdes : 1 ≤ des ∧ des < 6 := by have := near_bd (n := p.s1) (least := 1) (many := 5) (by omega); have e := Kdes.out; rw [e] at this; omega
  obtain ⟨ldes, udes⟩ := bdes
  obtain ⟨str, Kstr⟩ : ∃ x, Hid (nearF p.s4 0 3 = x) := ⟨_, rfl⟩
  have bstr : 0 ≤ str ∧ str < 3 := by have := near_bd (n := p.s4) (least := 0) (many := 3) (by omega); have e := Kstr.out; rw [e] at this; omega
  obtain ⟨lstr, ustr⟩ := bstr
  obtain ⟨su0, Ksu0⟩ : ∃ x, Hid (nearF p.s2 0 4 = x) := ⟨_, rfl⟩
  have bsu0 : 0 ≤ su0 ∧ su0 < 4 := by have := near_bd (n := p.s2) (least := 0) (many := 4) (by omega); have e := Ksu0.out; rw [e] at this; omega
  obtain ⟨lsu0, usu0⟩ := bsu0
  obtain ⟨su1, Ksu1⟩ : ∃ x, Hid (nearF p.s2 0 2 = x) := ⟨_, rfl⟩
  have bsu1 : 0 ≤ su1 ∧ su1 < 2 := by have := near_bd (n := p.s2) (least := 0) (many := 2) (by omega); have e := Ksu1.out; rw [e] at this; omega
  obtain ⟨lsu1, usu1⟩ := bsu1
  obtain ⟨m0, Km0⟩ : ∃ x, Hid (nearF p.s5 0 60 = x) := ⟨_, rfl⟩
  have bm0 : 0 ≤ m0 ∧ m0 < 60 := by have := near_bd (n := p.s5) (least := 0) (many := 60) (by omega); have e := Km0.out; rw [e] at this; omega
  obtain ⟨lm0, um0⟩ := bm0
  obtain ⟨n1, Kn1⟩ : ∃ x, Hid (nearF p.s6 0 60 = x) := ⟨_, rfl⟩
  have bn1 : 0 ≤ n1 ∧ n1 < 60 := by have := near_bd (n := p.s6) (least := 0) (many := 60) (by omega); have e := Kn1.out; rw [e] at this; omega
  obtain ⟨ln1, un1⟩ := bn1
  obtain ⟨n2, Kn2⟩ : ∃ x, Hid (nearF p.s7 0 60 = x) := ⟨_, rfl⟩
  have bn2 : 0 ≤ n2 ∧ n2 < 60 := by have := near_bd (n := p.s7) (least := 0) (many := 60) (by omega); have e := Kn2.out; rw [e] at this; omega
  obtain ⟨ln2, un2⟩ := bn2
  obtain ⟨n3, Kn3⟩ : ∃ x, Hid (nearF p.s8 0 60 = x) := ⟨_, rfl⟩
  have bn3 : 0 ≤ n3 ∧ n3 < 60 := by have := near_bd (n := p.s8) (least := 0) (many := 60) (by omega); have e := Kn3.out; rw [e] at this; omega
  obtain ⟨ln3, un3⟩ := bn3
  obtain ⟨win, Kwin⟩ : ∃ x, Hid (nearF p.s9 1 9 = x) := ⟨_, rfl⟩
  have bwin : 1 ≤ win ∧ win < 10 := by have := near_bd (n := p.s9) (least := 1) (many := 9) (by omega); have e := Kwin.out; rw [e] at this; omega
  obtain ⟨lwin, uwin⟩ := bwin
  obtain ⟨mb, Kmb⟩ : ∃ x, Hid (nearF p.s10 0 4 = x) := ⟨_, rfl⟩
  have bmb : 0 ≤ mb ∧ mb < 4 := by have := near_bd (n := p.s10) (least := 0) (many := 4) (by omega); have e := Kmb.out; rw [e] at this; omega
  obtain ⟨lmb, umb⟩ := bmb
  obtain ⟨dl, Kdl⟩ : ∃ x, Hid (nearF p.s11 1 60 = x) := ⟨_, rfl⟩
  have bdl : 1 ≤ dl ∧ dl < 61 := by have := near_bd (n := p.s11) (least := 1) (many := 60) (by omega); have e := Kdl.out; rw [e] at this; omega
  obtain ⟨ldl, udl⟩ := bdl
  obtain ⟨un0, Kun0⟩ : ∃ x, Hid (nearF p.s3 0 (des + 1) = x) := ⟨_, rfl⟩
  have bun0 : 0 ≤ un0 ∧ un0 < des + 1 := by have := near_bd (n := p.s3) (least := 0) (many := des + 1) (by omega); have e := Kun0.out; rw [e] at this; omega
  obtain ⟨lun0, uun0⟩ := bun0
  have HS : Hid (gSurge p = if str = 2 then des + su1 else su0) := hid (by unfold gSurge; rw [Kstr.out, Kdes.out, Ksu1.out, Ksu0.out])
  have HU : Hid (gUn p = if gSurge p = 0 ∧ un0 = 0 then 1 else un0) := hid (by unfold gUn; rw [Kdes.out, Kun0.out])
  have HST : Hid (gSt p = gSteps str (m0 + 1) n1 n2 n3) := hid (by unfold gSt; rw [Kstr.out, Km0.out, Kn1.out, Kn2.out, Kn3.out])
  have HG : Hid (goodSp p = ⟨ver, des, gSurge p, gUn p, str, (gSt p).1, (gSt p).2.1, (gSt p).2.2.1, (gSt p).2.2.2, win, mb, dl⟩) := hid (by unfold goodSp; rw [Kver.out, Kdes.out, Kstr.out, Kwin.out, Kmb.out, Kdl.out])
  unfold Sp.val
  go_enter Tryz.func50, Tryz.ntmps50
  go_wp2_with fail
  obtain ⟨hB, hT⟩ := new2 w (.cells #[.int .i64 p.s0, .int .i64 p.s1, .int .i64 p.s2, .int .i64 p.s3, .int .i64 p.s4, .int .i64 p.s5, .int .i64 p.s6, .int .i64 p.s7, .int .i64 p.s8, .int .i64 p.s9, .int .i64 p.s10, .int .i64 p.s11] 25) (.cells #[.int .i64 0, .int .i64 0, .int .i64 0, .int .i64 0, .int .i64 0, .int .i64 0, .int .i64 0, .int .i64 0, .int .i64 0, .int .i64 0, .int .i64 0, .int .i64 0] 25)
  have hF := ((Frm.refl M0 w).alloc (.cells #[.int .i64 p.s0, .int .i64 p.s1, .int .i64 p.s2, .int .i64 p.s3, .int .i64 p.s4, .int .i64 p.s5, .int .i64 p.s6, .int .i64 p.s7, .int .i64 p.s8, .int .i64 p.s9, .int .i64 p.s10, .int .i64 p.s11] 25)).alloc (.cells #[.int .i64 0, .int .i64 0, .int .i64 0, .int .i64 0, .int .i64 0, .int .i64 0, .int .i64 0, .int .i64 0, .int .i64 0, .int .i64 0, .int .i64 0, .int .i64 0] 25)
  obtain ⟨b, hb⟩ : ∃ x, x = w.heap.size := ⟨_, rfl⟩
  obtain ⟨w0, hw⟩ : ∃ x, x = (w.alloc (.cells #[.int .i64 p.s0, .int .i64 p.s1, .int .i64 p.s2, .int .i64 p.s3, .int .i64 p.s4, .int .i64 p.s5, .int .i64 p.s6, .int .i64 p.s7, .int .i64 p.s8, .int .i64 p.s9, .int .i64 p.s10, .int .i64 p.s11] 25)).alloc (.cells #[.int .i64 0, .int .i64 0, .int .i64 0, .int .i64 0, .int .i64 0, .int .i64 0, .int .i64 0, .int .i64 0, .int .i64 0, .int .i64 0, .int .i64 0, .int .i64 0] 25) := ⟨_, rfl⟩
  have hz : w0.heap.size = b + 2 := by rw [hw, hb]; simp
  have hs1 : (w.alloc (.cells #[.int .i64 p.s0, .int .i64 p.s1, .int .i64 p.s2, .int .i64 p.s3, .int .i64 p.s4, .int .i64 p.s5, .int .i64 p.s6, .int .i64 p.s7, .int .i64 p.s8, .int .i64 p.s9, .int .i64 p.s10, .int .i64 p.s11] 25)).heap.size = w.heap.size + 1 := by simp
  try rw [hs1]
  rw [← hw, ← hb] at hB hT
  rw [← hw] at hF
  rw [← hw, ← hb]
  have HBB := hid hb
  have B0 := hid hB
  have T0 := hid hT
  have F0 := hid hF
  clear hw hb hB hT hF hs1
  have HL : Hid (∀ wx, Frm M0 w0 wx → wx.heap[b]? = some (.cells #[.int .i64 p.s0, .int .i64 p.s1, .int .i64 p.s2, .int .i64 p.s3, .int .i64 p.s4, .int .i64 p.s5, .int .i64 p.s6, .int .i64 p.s7, .int .i64 p.s8, .int .i64 p.s9, .int .i64 p.s10, .int .i64 p.s11] 25 (0, 0))) := hid (fun wx hx => hx.heap B0.out (fun h => h))
  refine wp_region_Fl 10 11 [0, 1, 2, 3, 4, 5, 6, 7, 8, 9] ⟨some 3, .alloc 25, 0, "ref.go:167", #[], none⟩ (.cells #[.int .i64 0, .int .i64 0, .int .i64 0, .int .i64 0, .int .i64 0, .int .i64 0, .int .i64 0, .int .i64 0, .int .i64 0, .int .i64 0, .int .i64 0, .int .i64 0] 25) (by kernel_rfl) (by kernel_rfl) rfl rfl rfl (fun a w => rfl) ?_
  intro ops QT HO HQ
  obtain ⟨ho0, HO⟩ := HO
  refine wpF_cons _ (ptr b) ho0.out ?_ ?_
  · refine FY_in rfl fun wx hx => ?_
    go_simp
  simp only [Act.put, List.setIfInBounds_toArray, List.set_cons_zero, List.set_cons_succ]
  obtain ⟨ho1, HO⟩ := HO
  refine wpF_cons _ (.int .i64 p.s0) ho1.out ?_ ?_
  · refine FY_in rfl fun wx hx => ?_
    have hc : wx.cell? ⟨b, 0, none⟩ = some (.int .i64 p.s0) := cell_at (HL.out wx hx) 0
    go_simp
  simp only [Act.put, List.setIfInBounds_toArray, List.set_cons_zero, List.set_cons_succ]
  obtain ⟨ho2, HO⟩ := HO
  refine wpF_cons _ (.int .i64 ver) ho2.out ?_ ?_
  · refine FY_in rfl fun wx hx => ?_
    go_simp
    exact (snear_calls _ _ _ _ (by omega) (by omega) (by omega) (by omega)).mono fun e w' h => ⟨by rw [h.1, Kver.out], by rw [h.2]; exact Frm.refl _ _⟩
  simp only [Act.put, List.setIfInBounds_toArray, List.set_cons_zero, List.set_cons_succ]
  obtain ⟨ho3, HO⟩ := HO
  refine wpF_cons _ (.pointer (some ⟨b, 1, none⟩)) ho3.out ?_ ?_
  · refine FY_in rfl fun wx hx => ?_
    go_simp
  simp only [Act.put, List.setIfInBounds_toArray, List.set_cons_zero, List.set_cons_succ]
  obtain ⟨ho4, HO⟩ := HO
  refine wpF_cons _ (.int .i64 p.s1) ho4.out ?_ ?_
  · refine FY_in rfl fun wx hx => ?_
    have hc : wx.cell? ⟨b, 1, none⟩ = some (.int .i64 p.s1) := cell_at (HL.out wx hx) 1
    go_simp
  simp only [Act.put, List.setIfInBounds_toArray, List.set_cons_zero, List.set_cons_succ]
  obtain ⟨ho5, HO⟩ := HO
  refine wpF_cons _ (.int .i64 des) ho5.out ?_ ?_
  · refine FY_in rfl fun wx hx => ?_
    go_simp
    exact (snear_calls _ _ _ _ (by omega) (by omega) (by omega) (by omega)).mono fun e w' h => ⟨by rw [h.1, Kdes.out], by rw [h.2]; exact Frm.refl _ _⟩
  simp only [Act.put, List.setIfInBounds_toArray, List.set_cons_zero, List.set_cons_succ]
  obtain ⟨ho6, HO⟩ := HO
  refine wpF_cons _ (.pointer (some ⟨b, 4, none⟩)) ho6.out ?_ ?_
  · refine FY_in rfl fun wx hx => ?_
    go_simp
  simp only [Act.put, List.setIfInBounds_toArray, List.set_cons_zero, List.set_cons_succ]
  obtain ⟨ho7, HO⟩ := HO
  refine wpF_cons _ (.int .i64 p.s4) ho7.out ?_ ?_
  · refine FY_in rfl fun wx hx => ?_
    have hc : wx.cell? ⟨b, 4, none⟩ = some (.int .i64 p.s4) := cell_at (HL.out wx hx) 4
    go_simp
  simp only [Act.put, List.setIfInBounds_toArray, List.set_cons_zero, List.set_cons_succ]
  obtain ⟨ho8, HO⟩ := HO
  refine wpF_cons _ (.int .i64 str) ho8.out ?_ ?_
  · refine FY_in rfl fun wx hx => ?_
    go_simp
    exact (snear_calls _ _ _ _ (by omega) (by omega) (by omega) (by omega)).mono fun e w' h => ⟨by rw [h.1, Kstr.out], by rw [h.2]; exact Frm.refl _ _⟩
  simp only [Act.put, List.setIfInBounds_toArray, List.set_cons_zero, List.set_cons_succ]
  obtain ⟨ho9, HO⟩ := HO
  refine wpF_cons _ (.agg #[.int .i64 ver, .int .i64 des, .int .i64 0, .int .i64 0, .int .i64 str, .int .i64 0, .int .i64 0, .int .i64 0, .int .i64 0, .int .i64 0, .int .i64 0, .int .i64 0]) ho9.out ?_ ?_
  · refine FY_in rfl fun wx hx => ?_
    go_simp
  simp only [Act.put, List.setIfInBounds_toArray, List.set_cons_zero, List.set_cons_succ]
  refine HQ.out _ ?_
  intro g w2 hf2 hbx hh2
  refine .inl (wp_store_row 25 (.tmp 3) (.tmp 16) rfl g #[.int .i64 ver, .int .i64 des, .int .i64 0, .int .i64 0, .int .i64 str, .int .i64 0, .int .i64 0, .int .i64 0, .int .i64 0, .int .i64 0, .int .i64 0, .int .i64 0] (by kernel_rfl) (by kernel_rfl) _ _ hh2 (by kernel_rfl) rfl (by simp [Value.oneCell']) ?_)
  have G3 := hid (setRow_heap w2 g _ (#[.int .i64 ver, .int .i64 des, .int .i64 0, .int .i64 0, .int .i64 str, .int .i64 0, .int .i64 0, .int .i64 0, .int .i64 0, .int .i64 0, .int .i64 0, .int .i64 0]) _ _ hh2)
  have hfs := hf2.setRow g (#[.int .i64 ver, .int .i64 des, .int .i64 0, .int .i64 0, .int .i64 str, .int .i64 0, .int .i64 0, .int .i64 0, .int .i64 0, .int .i64 0, .int .i64 0, .int .i64 0]) hbx
  have B3 := hid (hfs.heap B0.out (fun h => h))
  have T3 := hid (hfs.heap T0.out (fun h => h))
  have F3 := hid (F0.out.then0 hfs)
  obtain ⟨w3, hw3⟩ : ∃ x, x = w2.setRow g (#[.int .i64 ver, .int .i64 des, .int .i64 0, .int .i64 0, .int .i64 str, .int .i64 0, .int .i64 0, .int .i64 0, .int .i64 0, .int .i64 0, .int .i64 0, .int .i64 0]) := ⟨_, rfl⟩
  rw [← hw3] at G3 B3 T3 F3
  rw [← hw3]
  have hgb : b + 2 ≤ g := by omega
  clear hw3 hfs hh2 hf2 HL B0 T0 F0 HO HQ hbx hz
  go_wp2_with (refine wpList_load_v (by kernel_rfl) 3 (.tmp 17) (by with_reducible rfl) b 2 (by kernel_rfl) _ _ _ B3.out (.int .i64 p.s2) (by kernel_rfl) _ Tryz.underlying3 rfl ?_)
  refine (snear_calls _ _ _ _ (by omega) (by omega) (by omega) (by omega)).mono ?_
  rintro _ _ ⟨rfl, rfl⟩
  rw [Ksu0.out]
  go_wp2_with (first | (refine wpList_store_v (by kernel_rfl) 3 (.tmp 20) (.tmp 19) (by with_reducible rfl) g 2 (by kernel_rfl) (.int .i64 su0) (by kernel_rfl) #[.int .i64 su0] rfl _ _ G3.out (by kernel_rfl) (by simp) (by simp [Value.oneCell']) ?_; intro w4 hh hp; have G4 : Hid (w4.heap[g]? = some (.cells #[.int .i64 ver, .int .i64 des, .int .i64 su0, .int .i64 0, .int .i64 str, .int .i64 0, .int .i64 0, .int .i64 0, .int .i64 0, .int .i64 0, .int .i64 0, .int .i64 0] 25 (0, 0))) := putL_heap hh (by kernel_rfl); have B4 := hid (hp.heap B3.out (by show ¬ b = g; omega)); have T4 := hid (hp.heap T3.out (by show ¬ b + 1 = g; omega)); have F4 := hid (F3.out.trans hp (fun x hx e => by have e' : x = g := e; have := HBB.out; omega)); clear hh hp G3 B3 T3 F3) | (refine wpList_load_v (by kernel_rfl) 3 (.tmp 21) (by with_reducible rfl) b 3 (by kernel_rfl) _ _ _ B4.out (.int .i64 p.s3) (by kernel_rfl) _ Tryz.underlying3 rfl ?_) | (refine wpList_load_v (by kernel_rfl) 3 (.tmp 23) (by with_reducible rfl) g 1 (by kernel_rfl) _ _ _ G4.out (.int .i64 des) (by kernel_rfl) _ Tryz.underlying3 rfl ?_))
  refine (snear_calls _ _ _ _ (by omega) (by omega) (by omega) (by omega)).mono ?_
  rintro _ _ ⟨rfl, rfl⟩
  rw [Kun0.out]
  go_upto_if 30 with (first | (refine wpList_store_v (by kernel_rfl) 3 (.tmp 27) (.tmp 26) (by with_reducible rfl) g 3 (by kernel_rfl) (.int .i64 un0) (by kernel_rfl) #[.int .i64 un0] rfl _ _ G4.out (by kernel_rfl) (by simp) (by simp [Value.oneCell']) ?_; intro w5 hh hp; have G5 : Hid (w5.heap[g]? = some (.cells #[.int .i64 ver, .int .i64 des, .int .i64 su0, .int .i64 un0, .int .i64 str, .int .i64 0, .int .i64 0, .int .i64 0, .int .i64 0, .int .i64 0, .int .i64 0, .int .i64 0] 25 (0, 0))) := putL_heap hh (by kernel_rfl); have B5 := hid (hp.heap B4.out (by show ¬ b = g; omega)); have T5 := hid (hp.heap T4.out (by show ¬ b + 1 = g; omega)); have F5 := hid (F4.out.trans hp (fun x hx e => by have e' : x = g := e; have := HBB.out; omega)); clear hh hp G4 B4 T4 F4) | (refine wpList_load_v (by kernel_rfl) 3 (.tmp 28) (by with_reducible rfl) g 4 (by kernel_rfl) _ _ _ G5.out (.int .i64 str) (by kernel_rfl) _ Tryz.underlying3 rfl ?_))
  go_cut [30] (fun s30 wx => s30 = .bool (str == 2) ∧ ∃ su : Int, Hid (gSurge p = su) ∧ Hid (0 ≤ su ∧ su ≤ 6) ∧ Hid (wx.heap[g]? = some (.cells #[.int .i64 ver, .int .i64 des, .int .i64 su, .int .i64 un0, .int .i64 str, .int .i64 0, .int .i64 0, .int .i64 0, .int .i64 0, .int .i64 0, .int .i64 0, .int .i64 0] 25 (0, 0))) ∧ Hid (wx.heap[b]? = some (.cells #[.int .i64 p.s0, .int .i64 p.s1, .int .i64 p.s2, .int .i64 p.s3, .int .i64 p.s4, .int .i64 p.s5, .int .i64 p.s6, .int .i64 p.s7, .int .i64 p.s8, .int .i64 p.s9, .int .i64 p.s10, .int .i64 p.s11] 25 (0, 0))) ∧ Hid (wx.heap[b + 1]? = some (.cells #[.int .i64 0, .int .i64 0, .int .i64 0, .int .i64 0, .int .i64 0, .int .i64 0, .int .i64 0, .int .i64 0, .int .i64 0, .int .i64 0, .int .i64 0, .int .i64 0] 25 (0, 0))) ∧ Hid (Frm M0 w wx))
  case first =>
    by_cases h2 : str = 2
    case pos =>
      have HS2 := hid h2
      have hs2 : (str == 2) = true := beq_iff_eq.2 h2
      clear h2
      go_wp2_with fail
      clear hs2
      have HSF : Hid (∀ wx, Frm M0 w5 wx → wx.cell? ⟨g, 1, none⟩ = some (.int .i64 des) ∧ wx.cell? ⟨b, 2, none⟩ = some (.int .i64 p.s2)) := hid (fun wx hx => ⟨cell_at (hx.heap G5.out (fun h => h)) 1, cell_at (hx.heap B5.out (fun h => h)) 2⟩)
      have HFq := hid ((Frm.refl M0 w5).drew)
      have HSG : Hid (∀ u, (w5.setCell ⟨g, 2, none⟩ u).drew.cell? ⟨g, 1, none⟩ = some (.int .i64 des) ∧ (w5.setCell ⟨g, 2, none⟩ u).drew.cell? ⟨b, 2, none⟩ = some (.int .i64 p.s2)) := hid (fun u => ⟨cell_at (heap_set_at (w := w5) G5.out (o := 2) u) 1, cell_at (((Frm.refl (fun x => x = g) w5).put g 2 u (fun _ => rfl)).heap B5.out (by show ¬ b = g; omega)) 2⟩)
      have ws : Hid (IntKind.i64.wrap (des + su1) = des + su1) := hid (by rw [IntWalk.i64_left]; unfold wrap64; omega)
      have c2 : w5.cell? ⟨g, 2, none⟩ = some (.int .i64 su0) := cell_at G5.out 2
      have z2 : w5.frozen? ⟨g, 2, none⟩ = false := frozen_at G5.out 2
      have hne : ¬ g = b := by omega
      have ks1 := Ksu1.out
      go_region_held3 (fun wx => wx.cell? ⟨g, 1, none⟩ = some (.int .i64 des) ∧ wx.cell? ⟨b, 2, none⟩ = some (.int .i64 p.s2)) (first | with_reducible exact HSF.out _ HFq.out | with_reducible exact HSG.out _ | go_keep)
        (((with_reducible refine (snear_calls _ _ _ _ (by decide) (by decide) (by decide) (by decide)).mono ?_); (rintro _ _ ⟨rfl, rfl⟩)))
      rw [ws.out]
      go_wp2_with fail
      go_meet
      have e1 := heap_set_at (w := w5) G5.out (o := 2) (.int .i64 (des + su1))
      have fp := (Frm.refl (fun x => x = g) w5).put g 2 (.int .i64 (des + su1)) (fun _ => rfl)
      exact ⟨by rw [HS2.out]; rfl, des + su1, hid (by rw [HS.out, if_pos HS2.out]), hid (by omega), hid e1, hid (fp.heap B5.out (by show ¬ b = g; omega)), hid (fp.heap T5.out (by show ¬ b + 1 = g; omega)), hid ((F5.out.trans fp (fun x hx e => by have e' : x = g := e; have := HBB.out; omega)).drew)⟩
    case neg =>
      have HS2 := hid h2
      have hs2 : (str == 2) = false := beq_eq_false_iff_ne.2 h2
      clear h2
      go_wp2_with fail
      go_meet
      exact ⟨by rw [hs2], su0, hid (by rw [HS.out, if_neg HS2.out]), hid (by omega), G5, B5, T5, F5⟩
  case rest =>
    obtain ⟨rfl, su, HSU, hsu, Gc, Bc, Tc, Fc⟩ := hcut
    clear G5 B5 T5 F5
    obtain ⟨wa, hwa⟩ : ∃ x, x = wc := ⟨_, rfl⟩
    rw [← hwa] at Gc Bc Tc Fc
    rw [← hwa]
    clear hwa
    obtain ⟨lsu, usu⟩ := hsu.out
    obtain ⟨G6, B6, T6, F6⟩ := And.intro Gc (And.intro Bc (And.intro Tc Fc))
    clear Gc Bc Tc Fc hsu
    go_upto_region 6 with fail
    go_cut [45] (fun s45 wx => s45 = .bool ((su == 0) && (un0 == 0)) ∧ Hid (wa = wx))
    case first =>
      by_cases hs0 : su = 0
      case pos =>
        have z0 : (su == 0) = true := beq_iff_eq.2 hs0
        clear hs0
        go_wp2_with (first | (refine wpList_load_v (by kernel_rfl) 3 (.tmp 38) (by with_reducible rfl) g 2 (by kernel_rfl) _ _ _ G6.out (.int .i64 su) (by kernel_rfl) _ Tryz.underlying3 rfl ?_) | (refine wpList_load_v (by kernel_rfl) 3 (.tmp 42) (by with_reducible rfl) g 3 (by kernel_rfl) _ _ _ G6.out (.int .i64 un0) (by kernel_rfl) _ Tryz.underlying3 rfl ?_))
        go_meet
        exact ⟨by rw [z0]; rfl, hid rfl⟩
      case neg =>
        have z0 : (su == 0) = false := beq_eq_false_iff_ne.2 hs0
        clear hs0
        go_wp2_with (refine wpList_load_v (by kernel_rfl) 3 (.tmp 38) (by with_reducible rfl) g 2 (by kernel_rfl) _ _ _ G6.out (.int .i64 su) (by kernel_rfl) _ Tryz.underlying3 rfl ?_)
        go_meet
        exact ⟨by rw [z0]; rfl, hid rfl⟩
    case rest =>
      obtain ⟨rfl, hw⟩ := hcut
      rw [← hw.out]
      clear hw
      obtain ⟨C, HC⟩ : ∃ c, Hid (((su == 0) && (un0 == 0)) = c) := ⟨_, rfl⟩
      rw [HC.out]
      go_upto_if 45 with fail
      go_cut [45] (fun s45 wx => ∃ un : Int, Hid (gUn p = un) ∧ Hid (0 ≤ un ∧ un ≤ 5) ∧ Hid (wx.heap[g]? = some (.cells #[.int .i64 ver, .int .i64 des, .int .i64 su, .int .i64 un, .int .i64 str, .int .i64 0, .int .i64 0, .int .i64 0, .int .i64 0, .int .i64 0, .int .i64 0, .int .i64 0] 25 (0, 0))) ∧ Hid (wx.heap[b]? = some (.cells #[.int .i64 p.s0, .int .i64 p.s1, .int .i64 p.s2, .int .i64 p.s3, .int .i64 p.s4, .int .i64 p.s5, .int .i64 p.s6, .int .i64 p.s7, .int .i64 p.s8, .int .i64 p.s9, .int .i64 p.s10, .int .i64 p.s11] 25 (0, 0))) ∧ Hid (wx.heap[b + 1]? = some (.cells #[.int .i64 0, .int .i64 0, .int .i64 0, .int .i64 0, .int .i64 0, .int .i64 0, .int .i64 0, .int .i64 0, .int .i64 0, .int .i64 0, .int .i64 0, .int .i64 0] 25 (0, 0))) ∧ Hid (Frm M0 w wx))
      case first =>
        cases C
        case false =>
          go_wp2_with fail
          go_meet
          exact ⟨un0, hid (by rw [HU.out, HSU.out, if_neg (fun h => by have e := HC.out; rw [h.1, h.2] at e; cases e)]), hid (by omega), G6, B6, T6, F6⟩
        case true =>
          go_wp2_with (refine wpList_store_v (by kernel_rfl) 3 (.tmp 46) (.const (.int .i64 1)) (by with_reducible rfl) g 3 (by kernel_rfl) (.int .i64 1) (by kernel_rfl) #[.int .i64 1] rfl _ _ G6.out (by kernel_rfl) (by simp) (by simp [Value.oneCell']) ?_; intro w7 hh hp; have G7 : Hid (w7.heap[g]? = some (.cells #[.int .i64 ver, .int .i64 des, .int .i64 su, .int .i64 1, .int .i64 str, .int .i64 0, .int .i64 0, .int .i64 0, .int .i64 0, .int .i64 0, .int .i64 0, .int .i64 0] 25 (0, 0))) := putL_heap hh (by kernel_rfl); have B7 := hid (hp.heap B6.out (by show ¬ b = g; omega)); have T7 := hid (hp.heap T6.out (by show ¬ b + 1 = g; omega)); have F7 := hid (F6.out.trans hp (fun x hx e => by have e' : x = g := e; have := HBB.out; omega)); clear hh hp G6 B6 T6 F6)
          go_meet
          exact ⟨1, hid (by rw [HU.out, HSU.out, if_pos (by have e := HC.out; simpa using e)]), hid (by omega), G7, B7, T7, F7⟩
      case rest =>
        obtain ⟨un, HUN, hun, Gc, Bc, Tc, Fc⟩ := hcut
        clear G6 B6 T6 F6
        obtain ⟨wd, hwd⟩ : ∃ x, x = wc := ⟨_, rfl⟩
        rw [← hwd] at Gc Bc Tc Fc
        rw [← hwd]
        clear hwd
        obtain ⟨lun, uun⟩ := hun.out
        obtain ⟨G8, B8, T8, F8⟩ := And.intro Gc (And.intro Bc (And.intro Tc Fc))
        clear Gc Bc Tc Fc hun HC
        go_upto_if 49 with (refine wpList_load_v (by kernel_rfl) 3 (.tmp 47) (by with_reducible rfl) g 4 (by kernel_rfl) _ _ _ G8.out (.int .i64 str) (by kernel_rfl) _ Tryz.underlying3 rfl ?_)
        go_cut [49] (fun s49 wx => ∃ a0 a1 a2 a3 : Int, Hid (gSt p = (a0, a1, a2, a3)) ∧ Hid (wx.heap[g]? = some (.cells #[.int .i64 ver, .int .i64 des, .int .i64 su, .int .i64 un, .int .i64 str, .int .i64 a0, .int .i64 a1, .int .i64 a2, .int .i64 a3, .int .i64 0, .int .i64 0, .int .i64 0] 25 (0, 0))) ∧ Hid (wx.heap[b]? = some (.cells #[.int .i64 p.s0, .int .i64 p.s1, .int .i64 p.s2, .int .i64 p.s3, .int .i64 p.s4, .int .i64 p.s5, .int .i64 p.s6, .int .i64 p.s7, .int .i64 p.s8, .int .i64 p.s9, .int .i64 p.s10, .int .i64 p.s11] 25 (0, 0))) ∧ Hid (wx.heap[b + 1]? = some (.cells #[.int .i64 0, .int .i64 0, .int .i64 0, .int .i64 0, .int .i64 0, .int .i64 0, .int .i64 0, .int .i64 0, .int .i64 0, .int .i64 0, .int .i64 0, .int .i64 0] 25 (0, 0))) ∧ Hid (Frm M0 w wx))
        case first =>
          by_cases h0 : str = 0
          case neg =>
            have H0 := hid h0
            have z0 : (str == 0) = false := beq_eq_false_iff_ne.2 h0
            clear h0
            go_wp2_with fail
            go_meet
            exact ⟨0, 0, 0, 0, hid (by rw [HST.out]; exact if_neg H0.out), G8, B8, T8, F8⟩
          have H0 := hid h0
          have z0 : (str == 0) = true := beq_iff_eq.2 h0
          clear h0
          go_wp2_with fail
          refine wp_loop_rounds 5 ?_
          rw [rounds_succ]
          go_wp2_with (refine wpList_load_v (by kernel_rfl) 3 (.tmp 56) (by with_reducible rfl) b 5 (by kernel_rfl) _ _ _ B8.out (.int .i64 p.s5) (by kernel_rfl) _ Tryz.underlying3 rfl ?_)
          refine (snear_calls _ _ _ _ (by omega) (by omega) (by omega) (by omega)).mono ?_
          rintro _ _ ⟨rfl, rfl⟩
          rw [Km0.out]
          have f0 : ((m0 + 1) == 0) = false := beq_eq_false_iff_ne.2 (by omega)
          have f1 : decide ((100 : Int) < m0 + 1) = false := decide_eq_false (by omega)
          go_wp2_with (refine wpList_store_v (by kernel_rfl) 3 (.tmp 77) (.tmp 75) (by with_reducible rfl) g 5 (by kernel_rfl) (.int .i64 (m0 + 1)) (by kernel_rfl) #[.int .i64 (m0 + 1)] rfl _ _ G8.out (by kernel_rfl) (by simp) (by simp [Value.oneCell']) ?_; intro w9 hh hp; have G9 : Hid (w9.heap[g]? = some (.cells #[.int .i64 ver, .int .i64 des, .int .i64 su, .int .i64 un, .int .i64 str, .int .i64 (m0 + 1), .int .i64 0, .int .i64 0, .int .i64 0, .int .i64 0, .int .i64 0, .int .i64 0] 25 (0, 0))) := putL_heap hh (by kernel_rfl); have B9 := hid (hp.heap B8.out (by show ¬ b = g; omega)); have T9 := hid (hp.heap T8.out (by show ¬ b + 1 = g; omega)); have F9 := hid (F8.out.trans hp (fun x hx e => by have e' : x = g := e; have := HBB.out; omega)); clear hh hp G8 B8 T8 F8)
          clear f0 f1
          rw [rounds_succ]
          go_wp2_with (refine wpList_load_v (by kernel_rfl) 3 (.tmp 56) (by with_reducible rfl) b 6 (by kernel_rfl) _ _ _ B9.out (.int .i64 p.s6) (by kernel_rfl) _ Tryz.underlying3 rfl ?_)
          refine (snear_calls _ _ _ _ (by omega) (by omega) (by omega) (by omega)).mono ?_
          rintro _ _ ⟨rfl, rfl⟩
          rw [Kn1.out]
          by_cases q1 : n1 = 0
          case pos =>
            have Q1 := hid q1
            have f0 : (n1 == 0) = true := beq_iff_eq.2 q1
            clear q1
            go_wp2_with fail
            go_meet
            exact ⟨(m0 + 1), 0, 0, 0, hid (by rw [HST.out]; unfold gSteps; rw [if_pos H0.out, if_pos (.inl Q1.out)]), G9, B9, T9, F9⟩
          have Q1 := hid q1
          have f10 : (n1 == 0) = false := beq_eq_false_iff_ne.2 q1
          clear q1
          by_cases r1 : 100 < (m0 + 1 + n1)
          case pos =>
            have R1 := hid r1
            have f1 : decide ((100 : Int) < (m0 + 1 + n1)) = true := decide_eq_true r1
            clear r1
            go_wp2_with fail
            go_meet
            exact ⟨(m0 + 1), 0, 0, 0, hid (by rw [HST.out]; unfold gSteps; rw [if_pos H0.out, if_pos (.inr R1.out)]), G9, B9, T9, F9⟩
          have R1 := hid r1
          have f1 : decide ((100 : Int) < (m0 + 1 + n1)) = false := decide_eq_false r1
          clear r1
          go_wp2_with (refine wpList_store_v (by kernel_rfl) 3 (.tmp 77) (.tmp 75) (by with_reducible rfl) g 6 (by kernel_rfl) (.int .i64 (m0 + 1 + n1)) (by kernel_rfl) #[.int .i64 (m0 + 1 + n1)] rfl _ _ G9.out (by kernel_rfl) (by simp) (by simp [Value.oneCell']) ?_; intro w10 hh hp; have G10 : Hid (w10.heap[g]? = some (.cells #[.int .i64 ver, .int .i64 des, .int .i64 su, .int .i64 un, .int .i64 str, .int .i64 (m0 + 1), .int .i64 (m0 + 1 + n1), .int .i64 0, .int .i64 0, .int .i64 0, .int .i64 0, .int .i64 0] 25 (0, 0))) := putL_heap hh (by kernel_rfl); have B10 := hid (hp.heap B9.out (by show ¬ b = g; omega)); have T10 := hid (hp.heap T9.out (by show ¬ b + 1 = g; omega)); have F10 := hid (F9.out.trans hp (fun x hx e => by have e' : x = g := e; have := HBB.out; omega)); clear hh hp G9 B9 T9 F9)
          clear f1
          rw [rounds_succ]
          go_wp2_with (refine wpList_load_v (by kernel_rfl) 3 (.tmp 56) (by with_reducible rfl) b 7 (by kernel_rfl) _ _ _ B10.out (.int .i64 p.s7) (by kernel_rfl) _ Tryz.underlying3 rfl ?_)
          refine (snear_calls _ _ _ _ (by omega) (by omega) (by omega) (by omega)).mono ?_
          rintro _ _ ⟨rfl, rfl⟩
          rw [Kn2.out]
          by_cases q2 : n2 = 0
          case pos =>
            have Q2 := hid q2
            have f0 : (n2 == 0) = true := beq_iff_eq.2 q2
            clear q2
            go_wp2_with fail
            go_meet
            exact ⟨(m0 + 1), (m0 + 1 + n1), 0, 0, hid (by rw [HST.out]; unfold gSteps; rw [if_pos H0.out, if_neg (fun h => h.elim Q1.out (fun x => (by have e := R1.out; omega))), if_pos (.inl Q2.out)]), G10, B10, T10, F10⟩
          have Q2 := hid q2
          have f20 : (n2 == 0) = false := beq_eq_false_iff_ne.2 q2
          clear q2
          by_cases r2 : 100 < (m0 + 1 + n1 + n2)
          case pos =>
            have R2 := hid r2
            have f1 : decide ((100 : Int) < (m0 + 1 + n1 + n2)) = true := decide_eq_true r2
            clear r2
            go_wp2_with fail
            go_meet
            exact ⟨(m0 + 1), (m0 + 1 + n1), 0, 0, hid (by rw [HST.out]; unfold gSteps; rw [if_pos H0.out, if_neg (fun h => h.elim Q1.out (fun x => (by have e := R1.out; omega))), if_pos (.inr R2.out)]), G10, B10, T10, F10⟩
          have R2 := hid r2
          have f1 : decide ((100 : Int) < (m0 + 1 + n1 + n2)) = false := decide_eq_false r2
          clear r2
          go_wp2_with (refine wpList_store_v (by kernel_rfl) 3 (.tmp 77) (.tmp 75) (by with_reducible rfl) g 7 (by kernel_rfl) (.int .i64 (m0 + 1 + n1 + n2)) (by kernel_rfl) #[.int .i64 (m0 + 1 + n1 + n2)] rfl _ _ G10.out (by kernel_rfl) (by simp) (by simp [Value.oneCell']) ?_; intro w11 hh hp; have G11 : Hid (w11.heap[g]? = some (.cells #[.int .i64 ver, .int .i64 des, .int .i64 su, .int .i64 un, .int .i64 str, .int .i64 (m0 + 1), .int .i64 (m0 + 1 + n1), .int .i64 (m0 + 1 + n1 + n2), .int .i64 0, .int .i64 0, .int .i64 0, .int .i64 0] 25 (0, 0))) := putL_heap hh (by kernel_rfl); have B11 := hid (hp.heap B10.out (by show ¬ b = g; omega)); have T11 := hid (hp.heap T10.out (by show ¬ b + 1 = g; omega)); have F11 := hid (F10.out.trans hp (fun x hx e => by have e' : x = g := e; have := HBB.out; omega)); clear hh hp G10 B10 T10 F10)
          clear f1
          rw [rounds_succ]
          go_wp2_with (refine wpList_load_v (by kernel_rfl) 3 (.tmp 56) (by with_reducible rfl) b 8 (by kernel_rfl) _ _ _ B11.out (.int .i64 p.s8) (by kernel_rfl) _ Tryz.underlying3 rfl ?_)
          refine (snear_calls _ _ _ _ (by omega) (by omega) (by omega) (by omega)).mono ?_
          rintro _ _ ⟨rfl, rfl⟩
          rw [Kn3.out]
          by_cases q3 : n3 = 0
          case pos =>
            have Q3 := hid q3
            have f0 : (n3 == 0) = true := beq_iff_eq.2 q3
            clear q3
            go_wp2_with fail
            go_meet
            exact ⟨(m0 + 1), (m0 + 1 + n1), (m0 + 1 + n1 + n2), 0, hid (by rw [HST.out]; unfold gSteps; rw [if_pos H0.out, if_neg (fun h => h.elim Q1.out (fun x => (by have e := R1.out; omega))), if_neg (fun h => h.elim Q2.out (fun x => (by have e := R2.out; omega))), if_pos (.inl Q3.out)]), G11, B11, T11, F11⟩
          have Q3 := hid q3
          have f30 : (n3 == 0) = false := beq_eq_false_iff_ne.2 q3
          clear q3
          by_cases r3 : 100 < (m0 + 1 + n1 + n2 + n3)
          case pos =>
            have R3 := hid r3
            have f1 : decide ((100 : Int) < (m0 + 1 + n1 + n2 + n3)) = true := decide_eq_true r3
            clear r3
            go_wp2_with fail
            go_meet
            exact ⟨(m0 + 1), (m0 + 1 + n1), (m0 + 1 + n1 + n2), 0, hid (by rw [HST.out]; unfold gSteps; rw [if_pos H0.out, if_neg (fun h => h.elim Q1.out (fun x => (by have e := R1.out; omega))), if_neg (fun h => h.elim Q2.out (fun x => (by have e := R2.out; omega))), if_pos (.inr R3.out)]), G11, B11, T11, F11⟩
          have R3 := hid r3
          have f1 : decide ((100 : Int) < (m0 + 1 + n1 + n2 + n3)) = false := decide_eq_false r3
          clear r3
          go_wp2_with (refine wpList_store_v (by kernel_rfl) 3 (.tmp 77) (.tmp 75) (by with_reducible rfl) g 8 (by kernel_rfl) (.int .i64 (m0 + 1 + n1 + n2 + n3)) (by kernel_rfl) #[.int .i64 (m0 + 1 + n1 + n2 + n3)] rfl _ _ G11.out (by kernel_rfl) (by simp) (by simp [Value.oneCell']) ?_; intro w12 hh hp; have G12 : Hid (w12.heap[g]? = some (.cells #[.int .i64 ver, .int .i64 des, .int .i64 su, .int .i64 un, .int .i64 str, .int .i64 (m0 + 1), .int .i64 (m0 + 1 + n1), .int .i64 (m0 + 1 + n1 + n2), .int .i64 (m0 + 1 + n1 + n2 + n3), .int .i64 0, .int .i64 0, .int .i64 0] 25 (0, 0))) := putL_heap hh (by kernel_rfl); have B12 := hid (hp.heap B11.out (by show ¬ b = g; omega)); have T12 := hid (hp.heap T11.out (by show ¬ b + 1 = g; omega)); have F12 := hid (F11.out.trans hp (fun x hx e => by have e' : x = g := e; have := HBB.out; omega)); clear hh hp G11 B11 T11 F11)
          clear f1
          rw [rounds_succ]
          go_wp2_with fail
          go_meet
          exact ⟨(m0 + 1), (m0 + 1 + n1), (m0 + 1 + n1 + n2), (m0 + 1 + n1 + n2 + n3), hid (by rw [HST.out]; unfold gSteps; rw [if_pos H0.out, if_neg (fun h => h.elim Q1.out (fun x => (by have e := R1.out; omega))), if_neg (fun h => h.elim Q2.out (fun x => (by have e := R2.out; omega))), if_neg (fun h => h.elim Q3.out (fun x => (by have e := R3.out; omega)))]), G12, B12, T12, F12⟩
        case rest =>
          obtain ⟨a0, a1, a2, a3, HA, Gc, Bc, Tc, Fc⟩ := hcut
          clear G8 B8 T8 F8
          obtain ⟨we, hwe⟩ : ∃ x, x = wc := ⟨_, rfl⟩
          rw [← hwe] at Gc Bc Tc Fc
          rw [← hwe]
          clear hwe
          obtain ⟨G30, B30, T30, F30⟩ := And.intro Gc (And.intro Bc (And.intro Tc Fc))
          clear Gc Bc Tc Fc
          go_wp2_with (refine wpList_load_v (by kernel_rfl) 3 (.tmp 78) (by with_reducible rfl) b 9 (by kernel_rfl) _ _ _ B30.out (.int .i64 p.s9) (by kernel_rfl) _ Tryz.underlying3 rfl ?_)
          refine (snear_calls _ _ _ _ (by omega) (by omega) (by omega) (by omega)).mono ?_
          rintro _ _ ⟨rfl, rfl⟩
          rw [Kwin.out]
          go_wp2_with (first | (refine wpList_store_v (by kernel_rfl) 3 (.tmp 81) (.tmp 80) (by with_reducible rfl) g 9 (by kernel_rfl) (.int .i64 win) (by kernel_rfl) #[.int .i64 win] rfl _ _ G30.out (by kernel_rfl) (by simp) (by simp [Value.oneCell']) ?_; intro w31 hh hp; have G31 : Hid (w31.heap[g]? = some (.cells #[.int .i64 ver, .int .i64 des, .int .i64 su, .int .i64 un, .int .i64 str, .int .i64 a0, .int .i64 a1, .int .i64 a2, .int .i64 a3, .int .i64 win, .int .i64 0, .int .i64 0] 25 (0, 0))) := putL_heap hh (by kernel_rfl); have B31 := hid (hp.heap B30.out (by show ¬ b = g; omega)); have T31 := hid (hp.heap T30.out (by show ¬ b + 1 = g; omega)); have F31 := hid (F30.out.trans hp (fun x hx e => by have e' : x = g := e; have := HBB.out; omega)); clear hh hp G30 B30 T30 F30) | (refine wpList_load_v (by kernel_rfl) 3 (.tmp 82) (by with_reducible rfl) b 10 (by kernel_rfl) _ _ _ B31.out (.int .i64 p.s10) (by kernel_rfl) _ Tryz.underlying3 rfl ?_))
          refine (snear_calls _ _ _ _ (by omega) (by omega) (by omega) (by omega)).mono ?_
          rintro _ _ ⟨rfl, rfl⟩
          rw [Kmb.out]
          go_wp2_with (first | (refine wpList_store_v (by kernel_rfl) 3 (.tmp 85) (.tmp 84) (by with_reducible rfl) g 10 (by kernel_rfl) (.int .i64 mb) (by kernel_rfl) #[.int .i64 mb] rfl _ _ G31.out (by kernel_rfl) (by simp) (by simp [Value.oneCell']) ?_; intro w32 hh hp; have G32 : Hid (w32.heap[g]? = some (.cells #[.int .i64 ver, .int .i64 des, .int .i64 su, .int .i64 un, .int .i64 str, .int .i64 a0, .int .i64 a1, .int .i64 a2, .int .i64 a3, .int .i64 win, .int .i64 mb, .int .i64 0] 25 (0, 0))) := putL_heap hh (by kernel_rfl); have B32 := hid (hp.heap B31.out (by show ¬ b = g; omega)); have T32 := hid (hp.heap T31.out (by show ¬ b + 1 = g; omega)); have F32 := hid (F31.out.trans hp (fun x hx e => by have e' : x = g := e; have := HBB.out; omega)); clear hh hp G31 B31 T31 F31) | (refine wpList_load_v (by kernel_rfl) 3 (.tmp 86) (by with_reducible rfl) b 11 (by kernel_rfl) _ _ _ B32.out (.int .i64 p.s11) (by kernel_rfl) _ Tryz.underlying3 rfl ?_))
          refine (snear_calls _ _ _ _ (by omega) (by omega) (by omega) (by omega)).mono ?_
          rintro _ _ ⟨rfl, rfl⟩
          rw [Kdl.out]
          go_wp2_with (first | (refine wpList_store_v (by kernel_rfl) 3 (.tmp 89) (.tmp 88) (by with_reducible rfl) g 11 (by kernel_rfl) (.int .i64 dl) (by kernel_rfl) #[.int .i64 dl] rfl _ _ G32.out (by kernel_rfl) (by simp) (by simp [Value.oneCell']) ?_; intro w33 hh hp; have G33 : Hid (w33.heap[g]? = some (.cells #[.int .i64 ver, .int .i64 des, .int .i64 su, .int .i64 un, .int .i64 str, .int .i64 a0, .int .i64 a1, .int .i64 a2, .int .i64 a3, .int .i64 win, .int .i64 mb, .int .i64 dl] 25 (0, 0))) := putL_heap hh (by kernel_rfl); have B33 := hid (hp.heap B32.out (by show ¬ b = g; omega)); have T33 := hid (hp.heap T32.out (by show ¬ b + 1 = g; omega)); have F33 := hid (F32.out.trans hp (fun x hx e => by have e' : x = g := e; have := HBB.out; omega)); clear hh hp G32 B32 T32 F32) | (refine wpList_load_row rfl 25 (.tmp 3) (by with_reducible rfl) g (by kernel_rfl) _ _ _ _ G33.out Tryz.underlying25 rfl (by kernel_rfl) ?_) | (refine wpList_store_row rfl 25 (.tmp 2) (.tmp 90) (by with_reducible rfl) (b + 1) #[.int .i64 ver, .int .i64 des, .int .i64 su, .int .i64 un, .int .i64 str, .int .i64 a0, .int .i64 a1, .int .i64 a2, .int .i64 a3, .int .i64 win, .int .i64 mb, .int .i64 dl] (by kernel_rfl) (by kernel_rfl) _ _ T33.out (by kernel_rfl) rfl (by simp [Value.oneCell']) ?_))
          refine bodyPost_ret (results_cell_row (by rfl) _ _ (b + 1) _ _ _ _ (by kernel_rfl) (setRow_heap _ _ _ _ _ _ T33.out) Tryz.underlying25 rfl (by kernel_rfl)) rfl ⟨by rw [HG.out, HSU.out, HUN.out, HA.out], F33.out.setRow _ _ (by have := HBB.out; omega)⟩
end Go.Proofs.YtonlmkcolndaaaaGreatDoor
namespace Go.Proofs.YtonlmkcolndaaaaGreatDoor
set_option linter.unusedVariables false
set_option linter.unusedSimpArgs false
set_option maxRecDepth 20000
open Go.RowKit Cp

/-- What a record that may be is like. -/
theorem right_facts {r : Rc} (h : rightB r = true) : (1 ≤ r.k ∧ r.k ≤ 7) ∧ (1 ≤ r.e ∧ r.e ≤ 1099511627776) ∧ (0 ≤ r.w ∧ r.w ≤ 1099511627776) ∧ (0 ≤ r.n ∧ r.n ≤ 1099511627776) ∧ (0 ≤ r.q ∧ r.q ≤ 1099511627776) ∧ r.t.size ≤ 64 ∧
    (r.k ≠ 3 → r.p = Sp.zero) ∧ (r.k = 3 → r.p.chkE = 0) := by
  have he : (ByteArray.empty).size = 0 := rfl
  obtain ⟨k, e, v, n, q, t, p⟩ := r
  unfold rightB at h
  rw [Bool.and_eq_true, btw_true] at h
  obtain ⟨h1, h2⟩ := h
  by_cases hk : 1 ≤ k ∧ k ≤ 7
  case neg =>
    exfalso
    unfold mayK at h2
    rw [if_neg (show ¬ k = 1 by omega), if_neg (show ¬ k = 2 by omega), if_neg (show ¬ k = 3 by omega), if_neg (show ¬ k = 4 by omega), if_neg (show ¬ k = 5 by omega), if_neg (show ¬ k = 6 by omega), if_neg (show ¬ k = 7 by omega)] at h2
    cases h2
  have hk' : k = 1 ∨ k = 2 ∨ k = 3 ∨ k = 4 ∨ k = 5 ∨ k = 6 ∨ k = 7 := by omega
  simp only [] at h1
  rcases hk' with rfl | rfl | rfl | rfl | rfl | rfl | rfl
  · have h3 : leadB ⟨1, e, v, n, q, t, p⟩ = true := h2
    simp only [leadB, Bool.and_eq_true, btw_true, req_iff] at h3
    obtain ⟨a, b, c, _, _, _, _, _, rfl, rfl⟩ := h3
    exact ⟨by simp, by simp only []; omega, by simp only []; omega, by simp only []; omega, by simp only []; omega, by simp [he], fun _ => rfl, fun h => by simp at h⟩
  · have h3 : publishB ⟨2, e, v, n, q, t, p⟩ = true := h2
    simp only [publishB, Bool.and_eq_true, btw_true, req_iff] at h3
    obtain ⟨a, b, _, _, hv, _, hq, _, hp⟩ := h3
    exact ⟨by simp, by simp only []; omega, by simp only []; omega, by simp only []; omega, by simp only []; omega, by simp only []; omega, fun _ => hp, fun h => by simp at h⟩
  · have h3 : beginB ⟨3, e, v, n, q, t, p⟩ = true := h2
    simp only [beginB, Bool.and_eq_true, btw_true, req_iff, decide_eq_true_eq] at h3
    obtain ⟨a, b, _, _, hv, _, hq, rfl, _⟩ := h3
    exact ⟨by simp, by simp only []; omega, by simp only []; omega, by simp only []; omega, by simp only []; omega, by simp [he], fun h => absurd rfl h, fun _ => a⟩
  · have h3 : moveB ⟨4, e, v, n, q, t, p⟩ = true := h2
    simp only [moveB, Bool.and_eq_true, btw_true, req_iff] at h3
    obtain ⟨a, b, _, _, hv, _, hq, _, hp⟩ := h3
    exact ⟨by simp, by simp only []; omega, by simp only []; omega, by simp only []; omega, by simp only []; omega, by simp only []; omega, fun _ => hp, fun h => by simp at h⟩
  · have h3 : intentB ⟨5, e, v, n, q, t, p⟩ = true := h2
    simp only [intentB, unitB, Bool.and_eq_true, btw_true, req_iff] at h3
    obtain ⟨⟨a, b, _, _, _, _, _, rfl, hp⟩, c⟩ := h3
    exact ⟨by simp, by simp only []; omega, by simp only []; omega, by simp only []; omega, by simp only []; omega, by simp [he], fun _ => hp, fun h => by simp at h⟩
  · have h3 : ackB ⟨6, e, v, n, q, t, p⟩ = true := h2
    simp only [ackB, unitB, Bool.and_eq_true, btw_true, req_iff, decide_eq_true_eq] at h3
    obtain ⟨⟨a, b, _, _, _, _, _, rfl, hp⟩, c⟩ := h3
    exact ⟨by simp, by simp only []; omega, by simp only []; omega, by simp only []; omega, by simp only []; omega, by simp [he], fun _ => hp, fun h => by simp at h⟩
  · have h3 : stepB ⟨7, e, v, n, q, t, p⟩ = true := h2
    simp only [stepB, Bool.and_eq_true, btw_true, req_iff] at h3
    obtain ⟨a, b, c, _, _, _, _, hq, _, hp⟩ := h3
    exact ⟨by simp, by simp only []; omega, by simp only []; omega, by simp only []; omega, by simp only []; omega, by simp only []; omega, fun _ => hp, fun h => by simp at h⟩

theorem numW_ok {l : List Int} {n : Int} (h0 : 0 ≤ n) (h1 : n ≤ 1099511627776) : (numW l n).1 = l ++ dig n.toNat := by
  unfold numW; rw [if_pos (mayB_of h0 (by omega))]
theorem textW_ok {l : List Int} {s : ByteArray} (h : s.size ≤ 64) : (textW l s).1 = l ++ dig s.size ++ sb s := by unfold textW; rw [if_pos h]
theorem listW_ok {l xs : List Int} (h : xs.length ≤ 64) (hx : ∀ x ∈ xs, 0 ≤ x ∧ x ≤ 4611686018427387903) : (listW l xs).1 = l ++ dig xs.length ++ digs xs := by
  unfold listW
  rw [if_neg (by omega), if_pos (by unfold allB; rw [List.all_eq_true]; exact fun x hx' => mayB_of (hx x hx').1 (hx x hx').2)]

theorem wire6_eq {r : Rc} (h : rightB r = true) : wire6 r = dig r.k.toNat ++ (dig r.e.toNat ++ (dig r.w.toNat ++ (dig r.n.toNat ++ (dig r.q.toNat ++ (dig r.t.size ++ sb r.t))))) := by
  obtain ⟨hk, he, hw, hn, hq, ht, _⟩ := right_facts h
  unfold wire6
  rw [numW_ok (n := r.k) (by omega) (by omega), numW_ok (n := r.e) (by omega) (by omega), numW_ok hw.1 hw.2, numW_ok hn.1 hn.2, numW_ok hq.1 hq.2, textW_ok ht]
  simp only [List.nil_append, List.append_assoc]
theorem textE_sb {t : ByteArray} (h : t.size ≤ 64) (rest : List Int) : textE (dig t.size ++ sb t ++ rest) 0 = (sb t, rest, 0) := by
  rw [textE_0, ← sb_len t]
  exact textF_sb (sb t) rest (by rw [sb_len]; exact h)
/-- A record that may be is read of its bytes, whatever stands behind them. -/
theorem read_wire {r : Rc} (h : rightB r = true) (rest : List Int) : read6 (wireL r ++ rest) = (r, rest, 0) := by
  obtain ⟨hk, he, hw, hn, hq, ht, hp, hc⟩ := right_facts h
  have h5 : ∀ rest, read5 (wire6 r ++ rest) = ({ r with p := Sp.zero }, rest, 0) := by
    intro rest
    rw [wire6_eq h]
    simp only [List.append_assoc]
    unfold read5
    simp only []
    rw [getF_dig (m := r.k) (by omega) (by omega), getF_dig (m := r.e) (by omega) (by omega), getF_dig hw.1 (by omega), getF_dig hn.1 (by omega), getF_dig hq.1 (by omega), ← List.append_assoc (dig r.t.size), textE_sb ht]
    simp only [strOfNums_sb]
  by_cases h3 : r.k = 3
  · have hl := nums_le (hc h3)
    have e1 : wireL r = wire6 r ++ (dig r.p.nums.length ++ digs r.p.nums) := by
      unfold wireL
      rw [if_pos h3, listW_ok (by simp [Sp.nums]) hl, List.append_assoc]
    unfold read6
    rw [e1, List.append_assoc, h5]
    simp only []
    rw [if_pos h3, listE_0, listF_digs _ _ hl (by simp [Sp.nums])]
    simp only [mkSp]
    rw [if_pos (by rfl), Sp.ofL_nums]
  · have e1 : wireL r = wire6 r := by unfold wireL; rw [if_neg h3]
    unfold read6
    rw [e1, h5]
    simp only []
    rw [if_neg h3, ← hp h3]

theorem getF_back {l : List Int} {e : Int} (hb : Bytey l) (h : (getF l e).2.2 = 0) : e = 0 ∧ l = dig (getF l e).1.toNat ++ (getF l e).2.1 ∧ 0 ≤ (getF l e).1 ∧ (getF l e).1 ≤ 4611686018427387903 ∧ Bytey (getF l e).2.1 := by
  unfold getF at *
  by_cases he : e = 0
  · rw [if_pos he] at h ⊢
    cases hq : rdAux 0 0 l with
    | none => rw [hq] at h; simp at h
    | some p =>
      obtain ⟨n, r⟩ := p
      have := rd_only hb hq
      refine ⟨he, by simpa using this.1, by simp, by simp; omega, fun x hx => hb x ?_⟩
      rw [this.1]; exact List.mem_append.2 (.inr hx)
  · rw [if_neg he] at h; exact absurd h he
theorem textE_back {l : List Int} {e : Int} (hb : Bytey l) (h : (textE l e).2.2 = 0) : e = 0 ∧ l = dig (textE l e).1.length ++ ((textE l e).1 ++ (textE l e).2.1) ∧ (textE l e).1.length ≤ 64 ∧ Bytey (textE l e).1 ∧ Bytey (textE l e).2.1 := by
  unfold textE at *
  by_cases h1 : (getF l e).2.2 = 0
  · obtain ⟨he, hl, h0, h2, hby⟩ := getF_back hb h1
    rw [if_neg (by simpa using h1)] at h ⊢
    by_cases h3 : (getF l e).1.toNat ≤ 64 ∧ (getF l e).1.toNat ≤ (getF l e).2.1.length
    · rw [if_pos h3] at h ⊢
      refine ⟨he, ?_, ?_, fun x hx => hby x (List.mem_of_mem_take hx), fun x hx => hby x (List.mem_of_mem_drop hx)⟩
      · simp only [List.take_append_drop]
        rw [List.length_take, Nat.min_eq_left h3.2]
        exact hl
      · simp only [List.length_take]; omega
    · rw [if_neg h3] at h; simp at h
  · rw [if_pos h1] at h; exact absurd h h1
theorem numsF_back : ∀ (k : Nat) (l : List Int), Bytey l → (numsF k l 0).2.2 = 0 → l = digs (numsF k l 0).1 ++ (numsF k l 0).2.1 ∧ (∀ x ∈ (numsF k l 0).1, 0 ≤ x ∧ x ≤ 4611686018427387903) ∧ Bytey (numsF k l 0).2.1
  | 0, l, hb, _ => ⟨by simp [numsF, digs], by simp [numsF], by simpa [numsF] using hb⟩
  | k + 1, l, hb, h => by
    obtain ⟨⟨xs, l', e'⟩, hq⟩ : ∃ g, g = numsF k l 0 := ⟨_, rfl⟩
    have e : numsF (k + 1) l 0 = (xs ++ [(getF l' e').1], (getF l' e').2.1, (getF l' e').2.2) := by rw [numsF, ← hq]
    have hb0 : Bytey l' := by
      have := (numsF_sub l k).1
      rw [← hq] at this
      exact fun x hx => hb x (this x hx)
    rw [e] at h ⊢
    simp only [] at h ⊢
    obtain ⟨he, hl, h0, h1, hby⟩ := getF_back hb0 h
    subst he
    have ih := numsF_back k l hb (by rw [← hq])
    rw [← hq] at ih
    simp only [] at ih
    refine ⟨?_, fun x hx => ?_, hby⟩
    · rw [digs_app, List.append_assoc, ih.1]
      congr 1
      rw [hl]
      simp [digs, getF_dig h0 h1]
    · rcases List.mem_append.1 hx with hx | hx
      · exact ih.2.1 x hx
      · rw [List.mem_singleton] at hx; subst hx; exact ⟨h0, h1⟩
theorem listE_back {l : List Int} {e : Int} (hb : Bytey l) (h : (listE l e).2.2 = 0) : e = 0 ∧ l = dig (listE l e).1.length ++ (digs (listE l e).1 ++ (listE l e).2.1) ∧ (listE l e).1.length ≤ 64 ∧ (∀ x ∈ (listE l e).1, 0 ≤ x ∧ x ≤ 4611686018427387903) := by
  unfold listE at *
  by_cases h1 : (getF l e).2.2 = 0
  · obtain ⟨he, hl, h0, h2, hby⟩ := getF_back hb h1
    rw [if_neg (by simpa using h1)] at h ⊢
    by_cases h3 : 64 < (getF l e).1.toNat
    · rw [if_pos h3] at h; simp at h
    · rw [if_neg h3] at h ⊢
      by_cases h4 : (numsF (getF l e).1.toNat (getF l e).2.1 0).2.2 = 0
      · rw [if_pos h4] at h ⊢
        obtain ⟨a, b, c⟩ := numsF_back _ _ hby h4
        have hlen := numsF_len (getF l e).1.toNat (getF l e).2.1 0
        refine ⟨he, ?_, by omega, b⟩
        rw [hlen, ← a]
        exact hl
      · rw [if_neg h4] at h; exact absurd h h4
  · rw [if_pos h1] at h; exact absurd h h1
theorem listE_ne_err {l : List Int} {e : Int} (h : e ≠ 0) : (listE l e).2.2 ≠ 0 := by rw [listE_ne l e h]; exact h
theorem endF_back {l : List Int} {e : Int} (h : endF l e = 0) : e = 0 ∧ l = [] := by
  unfold endF at h
  split at h
  · cases h
  · rename_i h1
    exact ⟨h, by
      cases l with
      | nil => rfl
      | cons a b => exact absurd ⟨h, by simp⟩ h1⟩

/-- Bytes that are read as a record that may be are those that are written of it. -/
theorem wire_read {l : List Int} (hb : Bytey l) (he : endF (read6 l).2.1 (read6 l).2.2 = 0) (hr : rightB (read6 l).1 = true) : wireL (read6 l).1 = l := by
  obtain ⟨hE, hL⟩ := endF_back he
  clear he
  have h6 := wire6_eq hr
  obtain ⟨_, _, _, _, _, _, hp, hc⟩ := right_facts hr
  -- the five numbers and the text
  have h5 : ∀ (x : List Int × Int), (read5 l).2.2 = 0 → Bytey (read5 l).2.1 ∧ l = dig (read5 l).1.k.toNat ++ (dig (read5 l).1.e.toNat ++ (dig (read5 l).1.w.toNat ++ (dig (read5 l).1.n.toNat ++ (dig (read5 l).1.q.toNat ++ (dig (read5 l).1.t.size ++ (sb (read5 l).1.t ++ (read5 l).2.1)))))) := by
    intro _ h0
    unfold read5 at h0 ⊢
    simp only [] at h0 ⊢
    have ok : ∀ (l : List Int) (e : Int), Bytey l → Bytey (getF l e).2.1 := fun l e h x hx => by
      obtain ⟨_, _, _, h1, _⟩ := getF_sub l e
      exact h x (h1 x hx)
    have y1 := ok l 0 hb
    have y2 := ok _ (getF l 0).2.2 y1
    have y3 := ok _ (getF (getF l 0).2.1 (getF l 0).2.2).2.2 y2
    have y4 := ok _ (getF (getF (getF l 0).2.1 (getF l 0).2.2).2.1 (getF (getF l 0).2.1 (getF l 0).2.2).2.2).2.2 y3
    have y5 := ok _ (getF (getF (getF (getF l 0).2.1 (getF l 0).2.2).2.1 (getF (getF l 0).2.1 (getF l 0).2.2).2.2).2.1 (getF (getF (getF l 0).2.1 (getF l 0).2.2).2.1 (getF (getF l 0).2.1 (getF l 0).2.2).2.2).2.2).2.2 y4
    obtain ⟨t0, tl, t64, tb, tr⟩ := textE_back y5 h0
    obtain ⟨z4, m5, _⟩ := getF_back y4 t0
    obtain ⟨z3, m4, _⟩ := getF_back y3 z4
    obtain ⟨z2, m3, _⟩ := getF_back y2 z3
    obtain ⟨z1, m2, _⟩ := getF_back y1 z2
    obtain ⟨_, m1, _⟩ := getF_back hb z1
    refine ⟨tr, ?_⟩
    rw [strOfNums_size, sb_str tb, ← tl, ← m5, ← m4, ← m3, ← m2, ← m1]
  by_cases h3 : (read5 l).1.k = 3
  · have e6 : read6 l = ({ (read5 l).1 with p := mkSp (listE (read5 l).2.1 (read5 l).2.2).1 }, (listE (read5 l).2.1 (read5 l).2.2).2.1, (listE (read5 l).2.1 (read5 l).2.2).2.2) := by
      unfold read6; simp only []; rw [if_pos h3]
    rw [e6] at hE hL hr h6 hc ⊢
    simp only [] at hE hL
    have hce : (mkSp (listE (read5 l).2.1 (read5 l).2.2).1).chkE = 0 := hc h3
    -- the error of the list
    by_cases h50 : (read5 l).2.2 = 0
    · obtain ⟨hby, hl5⟩ := h5 ([], 0) h50
      obtain ⟨_, hll, hl64, hlx⟩ := listE_back hby hE
      have h12 : (listE (read5 l).2.1 (read5 l).2.2).1.length = 12 := by
        refine Classical.byContradiction fun hne => ?_
        rw [mkSp, if_neg hne] at hce
        have : Sp.zero.chkE ≠ 0 := by decide
        exact this hce
      have e1 : wireL { (read5 l).1 with p := mkSp (listE (read5 l).2.1 (read5 l).2.2).1 } = wire6 { (read5 l).1 with p := mkSp (listE (read5 l).2.1 (read5 l).2.2).1 } ++ (dig (listE (read5 l).2.1 (read5 l).2.2).1.length ++ digs (listE (read5 l).2.1 (read5 l).2.2).1) := by
        unfold wireL
        rw [if_pos h3]
        have en : (mkSp (listE (read5 l).2.1 (read5 l).2.2).1).nums = (listE (read5 l).2.1 (read5 l).2.2).1 := by rw [mkSp, if_pos h12, Sp.nums_ofL h12]
        simp only [en]
        rw [listW_ok (by omega) hlx, List.append_assoc]
      rw [e1, h6]
      rw [hL, List.append_nil] at hll
      conv => rhs; rw [hl5]
      rw [hll.symm]
      simp only [List.append_assoc]
    · exact absurd hE (listE_ne_err h50)
  · have e6 : read6 l = read5 l := by unfold read6; simp only []; rw [if_neg h3]
    rw [e6] at hE hL hr h6 ⊢
    obtain ⟨_, hl5⟩ := h5 ([], 0) hE
    have e1 : wireL (read5 l).1 = wire6 (read5 l).1 := by unfold wireL; rw [if_neg h3]
    rw [e1, h6]
    conv => rhs; rw [hl5]
    rw [hL, List.append_nil]
end Go.Proofs.YtonlmkcolndaaaaGreatDoor
namespace Go.Proofs.YtonlmkcolndaaaaGreatDoor
set_option linter.unusedVariables false
set_option linter.unusedSimpArgs false
set_option maxRecDepth 20000
open Go.RowKit

def goodT (t : ByteArray) : ByteArray := if t.size ≤ 20 then ⟨#[116]⟩ ++ t else ⟨#[116]⟩ ++ t.extract 0 20
def goodR (r : Rc) : Rc :=
  let k := nearF r.k 1 7
  let e := nearF r.e 1 9
  if k = 1 then ⟨1, e, nearF r.w 0 4, nearF r.n 0 50, nearF r.q 1 20, ⟨#[]⟩, Sp.zero⟩
  else if k = 2 then ⟨2, e, 0, nearF r.n 1 6, 0, goodT r.t, Sp.zero⟩
  else if k = 3 then ⟨3, e, 0, nearF r.n 0 50, 0, ⟨#[]⟩, goodSp r.p⟩
  else if k = 4 then ⟨4, e, 0, nearF r.n 1 5, 0, goodT r.t, Sp.zero⟩
  else if k = 5 then ⟨5, e, nearF r.w 0 16, nearF r.n 0 7, nearF r.q 1 9, ⟨#[]⟩, Sp.zero⟩
  else if k = 6 then ⟨6, e, nearF r.w 0 16, 0, nearF r.q 1 9, ⟨#[]⟩, Sp.zero⟩
  else ⟨7, e, nearF r.w 1 4, nearF r.n 0 50, 0, goodT r.t, Sp.zero⟩

set_option maxHeartbeats 1000000 in
theorem rnear10_calls (n least many : Int) (w : World) (h0 : 0 ≤ least) (h1 : least ≤ 1000000) (h2 : 0 < many) (h3 : many ≤ 1000000) : Calls Tryz.prog 49 #[.int .i64 n, .int .i64 least, .int .i64 many] w fun r w' => r = .returned (.int .i64 (nearF n least many)) ∧ w = w' := by
  have e1 : IntKind.u64.wrap n = n % 18446744073709551616 := by simp [IntKind.wrap, IntKind.bits, IntKind.signed]
  have e2 : IntKind.u64.wrap many = many := by simp [IntKind.wrap, IntKind.bits, IntKind.signed]; omega
  have hx : 0 ≤ n % 18446744073709551616 := Int.emod_nonneg _ (by omega)
  have e3 : (n % 18446744073709551616).tmod many = n % 18446744073709551616 % many := Int.tmod_eq_emod_of_nonneg hx
  have hy0 : 0 ≤ n % 18446744073709551616 % many := Int.emod_nonneg _ (by omega)
  have hy1 : n % 18446744073709551616 % many < many := Int.emod_lt_of_pos _ h2
  obtain ⟨y, hy⟩ : ∃ y, y = n % 18446744073709551616 % many := ⟨_, rfl⟩
  have HN : Hid (nearF n least many = least + y) := hid (by unfold nearF; rw [hy])
  rw [← hy] at e3 hy0 hy1
  obtain ⟨x, hxx⟩ : ∃ x, x = n % 18446744073709551616 := ⟨_, rfl⟩
  rw [← hxx] at e1 e3 hx
  have E1 := hid e1; have E2 := hid e2; have E3 := hid e3
  have hm0 : ¬ many = 0 := by omega
  have hmb : (many == 0) = false := beq_eq_false_iff_ne.2 hm0
  clear e1 e2 e3 hy hxx hm0
  have E4 : Hid (IntKind.u64.wrap y = y) := hid (by simp [IntKind.wrap, IntKind.bits, IntKind.signed]; omega)
  have E5 : Hid (wrap64 y = y) := hid (by unfold wrap64; omega)
  go_enter Tryz.func49, Tryz.ntmps49
  have e1 := E1.out; have e2 := E2.out; have e3 := E3.out; have e4 := E4.out; have e5 := E5.out
  go_wp2_with fail
  go_ret
  exact ⟨by rw [HN.out]; first | rfl | (simp [e1, e2, e3, e4, e5]; done) | (go_simp; rfl), rfl⟩

set_option maxRecDepth 100000 in
set_option maxHeartbeats 8000000 in
attribute [local go_sem] FUpon in
theorem rgood_calls (r : Rc) (w : World) (hts : r.t.size ≤ 9223372036854775807) : Calls Tryz.prog 24 #[r.val] w fun x w' => x = .returned (goodR r).val ∧ Frm M0 w w' := by
  obtain ⟨kk, Kkk⟩ : ∃ x, Hid (nearF r.k 1 7 = x) := ⟨_, rfl⟩
  have bkk : 1 ≤ kk ∧ kk < 8 := by have := near_bd (n := r.k) (least := 1) (many := 7) (by omega); have e := Kkk.out; rw [e] at this; omega
  obtain ⟨lkk, ukk⟩ := bkk
  obtain ⟨ee, Kee⟩ : ∃ x, Hid (nearF r.e 1 9 = x) := ⟨_, rfl⟩
  have HPV : Hid (r.p.val = .agg #[.int .i64 r.p.s0, .int .i64 r.p.s1, .int .i64 r.p.s2, .int .i64 r.p.s3, .int .i64 r.p.s4, .int .i64 r.p.s5, .int .i64 r.p.s6, .int .i64 r.p.s7, .int .i64 r.p.s8, .int .i64 r.p.s9, .int .i64 r.p.s10, .int .i64 r.p.s11]) := rfl
  have HVV : Hid (r.val = .agg #[.int .i64 r.k, .int .i64 r.e, .int .i64 r.w, .int .i64 r.n, .int .i64 r.q, .string r.t, .int .i64 r.p.s0, .int .i64 r.p.s1, .int .i64 r.p.s2, .int .i64 r.p.s3, .int .i64 r.p.s4, .int .i64 r.p.s5, .int .i64 r.p.s6, .int .i64 r.p.s7, .int .i64 r.p.s8, .int .i64 r.p.s9, .int .i64 r.p.s10, .int .i64 r.p.s11]) := rfl
  rw [HVV.out]
  go_enter Tryz.func24, Tryz.ntmps24
  go_wp2_with fail
  obtain ⟨hB, hT⟩ := new2 w (.cells #[.int .i64 r.k, .int .i64 r.e, .int .i64 r.w, .int .i64 r.n, .int .i64 r.q, .string r.t, .int .i64 r.p.s0, .int .i64 r.p.s1, .int .i64 r.p.s2, .int .i64 r.p.s3, .int .i64 r.p.s4, .int .i64 r.p.s5, .int .i64 r.p.s6, .int .i64 r.p.s7, .int .i64 r.p.s8, .int .i64 r.p.s9, .int .i64 r.p.s10, .int .i64 r.p.s11] 27) (.cells #[.int .i64 0, .int .i64 0, .int .i64 0, .int .i64 0, .int .i64 0, .string ⟨#[]⟩, .int .i64 0, .int .i64 0, .int .i64 0, .int .i64 0, .int .i64 0, .int .i64 0, .int .i64 0, .int .i64 0, .int .i64 0, .int .i64 0, .int .i64 0, .int .i64 0] 27)
  have hF := ((Frm.refl M0 w).alloc (.cells #[.int .i64 r.k, .int .i64 r.e, .int .i64 r.w, .int .i64 r.n, .int .i64 r.q, .string r.t, .int .i64 r.p.s0, .int .i64 r.p.s1, .int .i64 r.p.s2, .int .i64 r.p.s3, .int .i64 r.p.s4, .int .i64 r.p.s5, .int .i64 r.p.s6, .int .i64 r.p.s7, .int .i64 r.p.s8, .int .i64 r.p.s9, .int .i64 r.p.s10, .int .i64 r.p.s11] 27)).alloc (.cells #[.int .i64 0, .int .i64 0, .int .i64 0, .int .i64 0, .int .i64 0, .string ⟨#[]⟩, .int .i64 0, .int .i64 0, .int .i64 0, .int .i64 0, .int .i64 0, .int .i64 0, .int .i64 0, .int .i64 0, .int .i64 0, .int .i64 0, .int .i64 0, .int .i64 0] 27)
  obtain ⟨b, hb⟩ : ∃ x, x = w.heap.size := ⟨_, rfl⟩
  obtain ⟨w0, hw⟩ : ∃ x, x = (w.alloc (.cells #[.int .i64 r.k, .int .i64 r.e, .int .i64 r.w, .int .i64 r.n, .int .i64 r.q, .string r.t, .int .i64 r.p.s0, .int .i64 r.p.s1, .int .i64 r.p.s2, .int .i64 r.p.s3, .int .i64 r.p.s4, .int .i64 r.p.s5, .int .i64 r.p.s6, .int .i64 r.p.s7, .int .i64 r.p.s8, .int .i64 r.p.s9, .int .i64 r.p.s10, .int .i64 r.p.s11] 27)).alloc (.cells #[.int .i64 0, .int .i64 0, .int .i64 0, .int .i64 0, .int .i64 0, .string ⟨#[]⟩, .int .i64 0, .int .i64 0, .int .i64 0, .int .i64 0, .int .i64 0, .int .i64 0, .int .i64 0, .int .i64 0, .int .i64 0, .int .i64 0, .int .i64 0, .int .i64 0] 27) := ⟨_, rfl⟩
  have hz : w0.heap.size = b + 2 := by rw [hw, hb]; simp
  have hs1 : (w.alloc (.cells #[.int .i64 r.k, .int .i64 r.e, .int .i64 r.w, .int .i64 r.n, .int .i64 r.q, .string r.t, .int .i64 r.p.s0, .int .i64 r.p.s1, .int .i64 r.p.s2, .int .i64 r.p.s3, .int .i64 r.p.s4, .int .i64 r.p.s5, .int .i64 r.p.s6, .int .i64 r.p.s7, .int .i64 r.p.s8, .int .i64 r.p.s9, .int .i64 r.p.s10, .int .i64 r.p.s11] 27)).heap.size = w.heap.size + 1 := by simp
  try rw [hs1]
  rw [← hw, ← hb] at hB hT
  rw [← hw] at hF
  rw [← hw, ← hb]
  have HBB := hid hb
  have B0 := hid hB
  have T0 := hid hT
  have F0 := hid hF
  clear hw hb hB hT hF hs1
  have HL : Hid (∀ wx, Frm M0 w0 wx → wx.heap[b]? = some (.cells #[.int .i64 r.k, .int .i64 r.e, .int .i64 r.w, .int .i64 r.n, .int .i64 r.q, .string r.t, .int .i64 r.p.s0, .int .i64 r.p.s1, .int .i64 r.p.s2, .int .i64 r.p.s3, .int .i64 r.p.s4, .int .i64 r.p.s5, .int .i64 r.p.s6, .int .i64 r.p.s7, .int .i64 r.p.s8, .int .i64 r.p.s9, .int .i64 r.p.s10, .int .i64 r.p.s11] 27 (0, 0))) := hid (fun wx hx => hx.heap B0.out (fun h => h))
  refine wp_region_Fl 7 8 [0, 1, 2, 3, 4, 5, 6] ⟨some 3, .alloc 27, 0, "ref.go:128", #[], none⟩ (.cells #[.int .i64 0, .int .i64 0, .int .i64 0, .int .i64 0, .int .i64 0, .string ⟨#[]⟩, .int .i64 0, .int .i64 0, .int .i64 0, .int .i64 0, .int .i64 0, .int .i64 0, .int .i64 0, .int .i64 0, .int .i64 0, .int .i64 0, .int .i64 0, .int .i64 0] 27) (by kernel_rfl) (by kernel_rfl) rfl rfl rfl (fun a w => rfl) ?_
  intro ops QT HO HQ
  obtain ⟨ho0, HO⟩ := HO
  refine wpF_cons _ (ptr b) ho0.out ?_ ?_
  · refine FY_in rfl fun wx hx => ?_
    go_simp
  simp only [Act.put, List.setIfInBounds_toArray, List.set_cons_zero, List.set_cons_succ]
  obtain ⟨ho1, HO⟩ := HO
  refine wpF_cons _ (.int .i64 r.k) ho1.out ?_ ?_
  · refine FY_in rfl fun wx hx => ?_
    have hc : wx.cell? ⟨b, 0, none⟩ = some (.int .i64 r.k) := cell_at (HL.out wx hx) 0
    go_simp
  simp only [Act.put, List.setIfInBounds_toArray, List.set_cons_zero, List.set_cons_succ]
  obtain ⟨ho2, HO⟩ := HO
  refine wpF_cons _ (.int .i64 kk) ho2.out ?_ ?_
  · refine FY_in rfl fun wx hx => ?_
    go_simp
    exact (rnear10_calls _ _ _ _ (by omega) (by omega) (by omega) (by omega)).mono fun e w' h => ⟨by rw [h.1, Kkk.out], by rw [h.2]; exact Frm.refl _ _⟩
  simp only [Act.put, List.setIfInBounds_toArray, List.set_cons_zero, List.set_cons_succ]
  obtain ⟨ho3, HO⟩ := HO
  refine wpF_cons _ (.pointer (some ⟨b, 1, none⟩)) ho3.out ?_ ?_
  · refine FY_in rfl fun wx hx => ?_
    go_simp
  simp only [Act.put, List.setIfInBounds_toArray, List.set_cons_zero, List.set_cons_succ]
  obtain ⟨ho4, HO⟩ := HO
  refine wpF_cons _ (.int .i64 r.e) ho4.out ?_ ?_
  · refine FY_in rfl fun wx hx => ?_
    have hc : wx.cell? ⟨b, 1, none⟩ = some (.int .i64 r.e) := cell_at (HL.out wx hx) 1
    go_simp
  simp only [Act.put, List.setIfInBounds_toArray, List.set_cons_zero, List.set_cons_succ]
  obtain ⟨ho5, HO⟩ := HO
  refine wpF_cons _ (.int .i64 ee) ho5.out ?_ ?_
  · refine FY_in rfl fun wx hx => ?_
    go_simp
    exact (rnear10_calls _ _ _ _ (by omega) (by omega) (by omega) (by omega)).mono fun e w' h => ⟨by rw [h.1, Kee.out], by rw [h.2]; exact Frm.refl _ _⟩
  simp only [Act.put, List.setIfInBounds_toArray, List.set_cons_zero, List.set_cons_succ]
  obtain ⟨ho6, HO⟩ := HO
  refine wpF_cons _ (.agg #[.int .i64 kk, .int .i64 ee, .int .i64 0, .int .i64 0, .int .i64 0, .string ⟨#[]⟩, .int .i64 0, .int .i64 0, .int .i64 0, .int .i64 0, .int .i64 0, .int .i64 0, .int .i64 0, .int .i64 0, .int .i64 0, .int .i64 0, .int .i64 0, .int .i64 0]) ho6.out ?_ ?_
  · refine FY_in rfl fun wx hx => ?_
    go_simp
  simp only [Act.put, List.setIfInBounds_toArray, List.set_cons_zero, List.set_cons_succ]
  refine HQ.out _ ?_
  intro g w2 hf2 hbx hh2
  refine .inl (wp_store_row 27 (.tmp 3) (.tmp 11) rfl g #[.int .i64 kk, .int .i64 ee, .int .i64 0, .int .i64 0, .int .i64 0, .string ⟨#[]⟩, .int .i64 0, .int .i64 0, .int .i64 0, .int .i64 0, .int .i64 0, .int .i64 0, .int .i64 0, .int .i64 0, .int .i64 0, .int .i64 0, .int .i64 0, .int .i64 0] (by kernel_rfl) (by kernel_rfl) _ _ hh2 (by kernel_rfl) rfl (by simp [Value.oneCell']) ?_)
  have G3 := hid (setRow_heap w2 g _ (#[.int .i64 kk, .int .i64 ee, .int .i64 0, .int .i64 0, .int .i64 0, .string ⟨#[]⟩, .int .i64 0, .int .i64 0, .int .i64 0, .int .i64 0, .int .i64 0, .int .i64 0, .int .i64 0, .int .i64 0, .int .i64 0, .int .i64 0, .int .i64 0, .int .i64 0]) _ _ hh2)
  have hfs := hf2.setRow g (#[.int .i64 kk, .int .i64 ee, .int .i64 0, .int .i64 0, .int .i64 0, .string ⟨#[]⟩, .int .i64 0, .int .i64 0, .int .i64 0, .int .i64 0, .int .i64 0, .int .i64 0, .int .i64 0, .int .i64 0, .int .i64 0, .int .i64 0, .int .i64 0, .int .i64 0]) hbx
  have B3 := hid (hfs.heap B0.out (fun h => h))
  have T3 := hid (hfs.heap T0.out (fun h => h))
  have F3 := hid (F0.out.then0 hfs)
  obtain ⟨w3, hw3⟩ : ∃ x, x = w2.setRow g (#[.int .i64 kk, .int .i64 ee, .int .i64 0, .int .i64 0, .int .i64 0, .string ⟨#[]⟩, .int .i64 0, .int .i64 0, .int .i64 0, .int .i64 0, .int .i64 0, .int .i64 0, .int .i64 0, .int .i64 0, .int .i64 0, .int .i64 0, .int .i64 0, .int .i64 0]) := ⟨_, rfl⟩
  rw [← hw3] at G3 B3 T3 F3
  rw [← hw3]
  have hgb : b + 2 ≤ g := by omega
  clear hw3 hfs hh2 hf2 HL B0 T0 F0 HO HQ hbx hz
  clear ho0 ho1 ho2 ho3 ho4 ho5 ho6
  simp only [List.getElem_toArray, List.getElem_cons_succ, List.getElem_cons_zero, Act.put, List.setIfInBounds_toArray, List.set_cons_zero, List.set_cons_succ]
  go_upto_region 2 with fail
  go_cut [4] (fun s4 wx => s4 = .string (goodT r.t) ∧ Hid (w3 = wx))
  case first =>
    by_cases h20 : (r.t.size : Int) ≤ 20
    case pos =>
      have hm : min (r.t.size : Int) 20 = (r.t.size : Int) := by omega
      have H20 : Hid (r.t.size ≤ 20) := hid (by omega)
      go_wp2_with (first | (refine wpList_load_v (by kernel_rfl) 9 (.tmp 12) (by with_reducible rfl) b 5 (by kernel_rfl) _ _ _ B3.out (.string r.t) (by kernel_rfl) _ Tryz.underlying9 rfl ?_) | (refine wpList_load_v (by kernel_rfl) 9 (.tmp 14) (by with_reducible rfl) b 5 (by kernel_rfl) _ _ _ B3.out (.string r.t) (by kernel_rfl) _ Tryz.underlying9 rfl ?_))
      all_goals first
        | (exfalso; omega)
        | (go_meet; exact ⟨by unfold goodT; rw [if_pos H20.out], hid rfl⟩)
    case neg =>
      have hm : min (r.t.size : Int) 20 = 20 := by omega
      have H20 : Hid (¬ r.t.size ≤ 20) := hid (by omega)
      go_wp2_with (first | (refine wpList_load_v (by kernel_rfl) 9 (.tmp 12) (by with_reducible rfl) b 5 (by kernel_rfl) _ _ _ B3.out (.string r.t) (by kernel_rfl) _ Tryz.underlying9 rfl ?_) | (refine wpList_load_v (by kernel_rfl) 9 (.tmp 14) (by with_reducible rfl) b 5 (by kernel_rfl) _ _ _ B3.out (.string r.t) (by kernel_rfl) _ Tryz.underlying9 rfl ?_))
      all_goals first
        | (exfalso; omega)
        | (go_meet; exact ⟨by unfold goodT; rw [if_neg H20.out], hid rfl⟩)
  case rest =>
    obtain ⟨rfl, hw⟩ := hcut
    rw [← hw.out]
    clear hw
    obtain ⟨gt, Hgt⟩ : ∃ x, Hid (goodT r.t = x) := ⟨_, rfl⟩
    rw [Hgt.out]
    have hk : kk = 1 ∨ kk = 2 ∨ kk = 3 ∨ kk = 4 ∨ kk = 5 ∨ kk = 6 ∨ kk = 7 := by omega
    clear lkk ukk
    rcases hk with rfl | rfl | rfl | rfl | rfl | rfl | rfl
    · obtain ⟨x0, X0⟩ : ∃ x, Hid (nearF r.w 0 4 = x) := ⟨_, rfl⟩
      obtain ⟨x1, X1⟩ : ∃ x, Hid (nearF r.n 0 50 = x) := ⟨_, rfl⟩
      obtain ⟨x2, X2⟩ : ∃ x, Hid (nearF r.q 1 20 = x) := ⟨_, rfl⟩
      have HG : Hid (goodR r = ⟨1, ee, x0, x1, x2, ⟨#[]⟩, Sp.zero⟩) := hid (by simp [goodR, Kkk.out, Kee.out, X0.out, X1.out, X2.out])
      go_wp2_with (first | (refine wpList_load_v (by kernel_rfl) 3 (.tmp 20) (by with_reducible rfl) g 0 (by kernel_rfl) _ _ _ G3.out (.int .i64 1) (by kernel_rfl) _ Tryz.underlying3 rfl ?_) | (refine wpList_load_v (by kernel_rfl) 3 (.tmp 24) (by with_reducible rfl) b 2 (by kernel_rfl) _ _ _ B3.out (.int .i64 r.w) (by kernel_rfl) _ Tryz.underlying3 rfl ?_))
      refine (rnear10_calls _ _ _ _ (by decide) (by decide) (by decide) (by decide)).mono ?_
      rintro _ _ ⟨rfl, rfl⟩
      rw [X0.out]
      go_wp2_with (first | (refine wpList_store_v (by kernel_rfl) 3 (.tmp 27) (.tmp 26) (by with_reducible rfl) g 2 (by kernel_rfl) (.int .i64 x0) (by kernel_rfl) #[.int .i64 x0] rfl _ _ G3.out (by kernel_rfl) (by simp) (by simp [Value.oneCell']) ?_; intro w4 hh hp; have G4 : Hid (w4.heap[g]? = some (.cells #[.int .i64 1, .int .i64 ee, .int .i64 x0, .int .i64 0, .int .i64 0, .string ⟨#[]⟩, .int .i64 0, .int .i64 0, .int .i64 0, .int .i64 0, .int .i64 0, .int .i64 0, .int .i64 0, .int .i64 0, .int .i64 0, .int .i64 0, .int .i64 0, .int .i64 0] 27 (0, 0))) := putL_heap hh (by kernel_rfl); have B4 := hid (hp.heap B3.out (by show ¬ b = g; omega)); have T4 := hid (hp.heap T3.out (by show ¬ b + 1 = g; omega)); have F4 := hid (F3.out.trans hp (fun x hx e => by have e' : x = g := e; have := HBB.out; omega)); clear hh hp G3 B3 T3 F3) | (refine wpList_load_v (by kernel_rfl) 3 (.tmp 28) (by with_reducible rfl) b 3 (by kernel_rfl) _ _ _ B4.out (.int .i64 r.n) (by kernel_rfl) _ Tryz.underlying3 rfl ?_))
      refine (rnear10_calls _ _ _ _ (by decide) (by decide) (by decide) (by decide)).mono ?_
      rintro _ _ ⟨rfl, rfl⟩
      rw [X1.out]
      go_wp2_with (first | (refine wpList_store_v (by kernel_rfl) 3 (.tmp 31) (.tmp 30) (by with_reducible rfl) g 3 (by kernel_rfl) (.int .i64 x1) (by kernel_rfl) #[.int .i64 x1] rfl _ _ G4.out (by kernel_rfl) (by simp) (by simp [Value.oneCell']) ?_; intro w5 hh hp; have G5 : Hid (w5.heap[g]? = some (.cells #[.int .i64 1, .int .i64 ee, .int .i64 x0, .int .i64 x1, .int .i64 0, .string ⟨#[]⟩, .int .i64 0, .int .i64 0, .int .i64 0, .int .i64 0, .int .i64 0, .int .i64 0, .int .i64 0, .int .i64 0, .int .i64 0, .int .i64 0, .int .i64 0, .int .i64 0] 27 (0, 0))) := putL_heap hh (by kernel_rfl); have B5 := hid (hp.heap B4.out (by show ¬ b = g; omega)); have T5 := hid (hp.heap T4.out (by show ¬ b + 1 = g; omega)); have F5 := hid (F4.out.trans hp (fun x hx e => by have e' : x = g := e; have := HBB.out; omega)); clear hh hp G4 B4 T4 F4) | (refine wpList_load_v (by kernel_rfl) 3 (.tmp 32) (by with_reducible rfl) b 4 (by kernel_rfl) _ _ _ B5.out (.int .i64 r.q) (by kernel_rfl) _ Tryz.underlying3 rfl ?_))
      refine (rnear10_calls _ _ _ _ (by decide) (by decide) (by decide) (by decide)).mono ?_
      rintro _ _ ⟨rfl, rfl⟩
      rw [X2.out]
      go_wp2_with (first | (refine wpList_store_v (by kernel_rfl) 3 (.tmp 35) (.tmp 34) (by with_reducible rfl) g 4 (by kernel_rfl) (.int .i64 x2) (by kernel_rfl) #[.int .i64 x2] rfl _ _ G5.out (by kernel_rfl) (by simp) (by simp [Value.oneCell']) ?_; intro w6 hh hp; have G6 : Hid (w6.heap[g]? = some (.cells #[.int .i64 1, .int .i64 ee, .int .i64 x0, .int .i64 x1, .int .i64 x2, .string ⟨#[]⟩, .int .i64 0, .int .i64 0, .int .i64 0, .int .i64 0, .int .i64 0, .int .i64 0, .int .i64 0, .int .i64 0, .int .i64 0, .int .i64 0, .int .i64 0, .int .i64 0] 27 (0, 0))) := putL_heap hh (by kernel_rfl); have B6 := hid (hp.heap B5.out (by show ¬ b = g; omega)); have T6 := hid (hp.heap T5.out (by show ¬ b + 1 = g; omega)); have F6 := hid (F5.out.trans hp (fun x hx e => by have e' : x = g := e; have := HBB.out; omega)); clear hh hp G5 B5 T5 F5) | (refine wpList_load_row rfl 27 (.tmp 3) (by with_reducible rfl) g (by kernel_rfl) _ _ _ _ G6.out Tryz.underlying27 rfl (by kernel_rfl) ?_) | (refine wpList_store_row rfl 27 (.tmp 2) (.tmp 98) (by with_reducible rfl) (b + 1) #[.int .i64 1, .int .i64 ee, .int .i64 x0, .int .i64 x1, .int .i64 x2, .string ⟨#[]⟩, .int .i64 0, .int .i64 0, .int .i64 0, .int .i64 0, .int .i64 0, .int .i64 0, .int .i64 0, .int .i64 0, .int .i64 0, .int .i64 0, .int .i64 0, .int .i64 0] (by kernel_rfl) (by kernel_rfl) _ _ T6.out (by kernel_rfl) rfl (by simp [Value.oneCell']) ?_))
      refine bodyPost_ret (results_cell_row (by rfl) _ _ (b + 1) _ _ _ _ (by kernel_rfl) (setRow_heap _ _ _ _ _ _ T6.out) Tryz.underlying27 rfl (by kernel_rfl)) rfl ⟨by rw [HG.out]; rfl, F6.out.setRow _ _ (by have := HBB.out; omega)⟩
    · obtain ⟨x0, X0⟩ : ∃ x, Hid (nearF r.n 1 6 = x) := ⟨_, rfl⟩
      have HG : Hid (goodR r = ⟨2, ee, 0, x0, 0, gt, Sp.zero⟩) := hid (by simp [goodR, Kkk.out, Kee.out, X0.out, Hgt.out])
      go_wp2_with (first | (refine wpList_load_v (by kernel_rfl) 3 (.tmp 20) (by with_reducible rfl) g 0 (by kernel_rfl) _ _ _ G3.out (.int .i64 2) (by kernel_rfl) _ Tryz.underlying3 rfl ?_) | (refine wpList_load_v (by kernel_rfl) 3 (.tmp 38) (by with_reducible rfl) b 3 (by kernel_rfl) _ _ _ B3.out (.int .i64 r.n) (by kernel_rfl) _ Tryz.underlying3 rfl ?_))
      refine (rnear10_calls _ _ _ _ (by decide) (by decide) (by decide) (by decide)).mono ?_
      rintro _ _ ⟨rfl, rfl⟩
      rw [X0.out]
      go_wp2_with (first | (refine wpList_store_v (by kernel_rfl) 3 (.tmp 41) (.tmp 40) (by with_reducible rfl) g 3 (by kernel_rfl) (.int .i64 x0) (by kernel_rfl) #[.int .i64 x0] rfl _ _ G3.out (by kernel_rfl) (by simp) (by simp [Value.oneCell']) ?_; intro w4 hh hp; have G4 : Hid (w4.heap[g]? = some (.cells #[.int .i64 2, .int .i64 ee, .int .i64 0, .int .i64 x0, .int .i64 0, .string ⟨#[]⟩, .int .i64 0, .int .i64 0, .int .i64 0, .int .i64 0, .int .i64 0, .int .i64 0, .int .i64 0, .int .i64 0, .int .i64 0, .int .i64 0, .int .i64 0, .int .i64 0] 27 (0, 0))) := putL_heap hh (by kernel_rfl); have B4 := hid (hp.heap B3.out (by show ¬ b = g; omega)); have T4 := hid (hp.heap T3.out (by show ¬ b + 1 = g; omega)); have F4 := hid (F3.out.trans hp (fun x hx e => by have e' : x = g := e; have := HBB.out; omega)); clear hh hp G3 B3 T3 F3) | (refine wpList_store_v (by kernel_rfl) 9 (.tmp 43) (.tmp 42) (by with_reducible rfl) g 5 (by kernel_rfl) (.string gt) (by kernel_rfl) #[.string gt] rfl _ _ G4.out (by kernel_rfl) (by simp) (by simp [Value.oneCell']) ?_; intro w5 hh hp; have G5 : Hid (w5.heap[g]? = some (.cells #[.int .i64 2, .int .i64 ee, .int .i64 0, .int .i64 x0, .int .i64 0, .string gt, .int .i64 0, .int .i64 0, .int .i64 0, .int .i64 0, .int .i64 0, .int .i64 0, .int .i64 0, .int .i64 0, .int .i64 0, .int .i64 0, .int .i64 0, .int .i64 0] 27 (0, 0))) := putL_heap hh (by kernel_rfl); have B5 := hid (hp.heap B4.out (by show ¬ b = g; omega)); have T5 := hid (hp.heap T4.out (by show ¬ b + 1 = g; omega)); have F5 := hid (F4.out.trans hp (fun x hx e => by have e' : x = g := e; have := HBB.out; omega)); clear hh hp G4 B4 T4 F4) | (refine wpList_load_row rfl 27 (.tmp 3) (by with_reducible rfl) g (by kernel_rfl) _ _ _ _ G5.out Tryz.underlying27 rfl (by kernel_rfl) ?_) | (refine wpList_store_row rfl 27 (.tmp 2) (.tmp 98) (by with_reducible rfl) (b + 1) #[.int .i64 2, .int .i64 ee, .int .i64 0, .int .i64 x0, .int .i64 0, .string gt, .int .i64 0, .int .i64 0, .int .i64 0, .int .i64 0, .int .i64 0, .int .i64 0, .int .i64 0, .int .i64 0, .int .i64 0, .int .i64 0, .int .i64 0, .int .i64 0] (by kernel_rfl) (by kernel_rfl) _ _ T5.out (by kernel_rfl) rfl (by simp [Value.oneCell']) ?_))
      refine bodyPost_ret (results_cell_row (by rfl) _ _ (b + 1) _ _ _ _ (by kernel_rfl) (setRow_heap _ _ _ _ _ _ T5.out) Tryz.underlying27 rfl (by kernel_rfl)) rfl ⟨by rw [HG.out]; rfl, F5.out.setRow _ _ (by have := HBB.out; omega)⟩
    · obtain ⟨x0, X0⟩ : ∃ x, Hid (nearF r.n 0 50 = x) := ⟨_, rfl⟩
      obtain ⟨P, HP⟩ : ∃ x, Hid (goodSp r.p = x) := ⟨_, rfl⟩
      have HQV : Hid (P.val = .agg #[.int .i64 P.s0, .int .i64 P.s1, .int .i64 P.s2, .int .i64 P.s3, .int .i64 P.s4, .int .i64 P.s5, .int .i64 P.s6, .int .i64 P.s7, .int .i64 P.s8, .int .i64 P.s9, .int .i64 P.s10, .int .i64 P.s11]) := rfl
      have HG : Hid (goodR r = ⟨3, ee, 0, x0, 0, ⟨#[]⟩, P⟩) := hid (by simp [goodR, Kkk.out, Kee.out, X0.out, HP.out])
      go_wp2_with (first | (refine wpList_load_v (by kernel_rfl) 3 (.tmp 20) (by with_reducible rfl) g 0 (by kernel_rfl) _ _ _ G3.out (.int .i64 3) (by kernel_rfl) _ Tryz.underlying3 rfl ?_) | (refine wpList_load_v (by kernel_rfl) 3 (.tmp 46) (by with_reducible rfl) b 3 (by kernel_rfl) _ _ _ B3.out (.int .i64 r.n) (by kernel_rfl) _ Tryz.underlying3 rfl ?_))
      refine (rnear10_calls _ _ _ _ (by decide) (by decide) (by decide) (by decide)).mono ?_
      rintro _ _ ⟨rfl, rfl⟩
      rw [X0.out]
      go_wp2_with (first | (refine wpList_store_v (by kernel_rfl) 3 (.tmp 49) (.tmp 48) (by with_reducible rfl) g 3 (by kernel_rfl) (.int .i64 x0) (by kernel_rfl) #[.int .i64 x0] rfl _ _ G3.out (by kernel_rfl) (by simp) (by simp [Value.oneCell']) ?_; intro w4 hh hp; have G4 : Hid (w4.heap[g]? = some (.cells #[.int .i64 3, .int .i64 ee, .int .i64 0, .int .i64 x0, .int .i64 0, .string ⟨#[]⟩, .int .i64 0, .int .i64 0, .int .i64 0, .int .i64 0, .int .i64 0, .int .i64 0, .int .i64 0, .int .i64 0, .int .i64 0, .int .i64 0, .int .i64 0, .int .i64 0] 27 (0, 0))) := putL_heap hh (by kernel_rfl); have B4 := hid (hp.heap B3.out (by show ¬ b = g; omega)); have T4 := hid (hp.heap T3.out (by show ¬ b + 1 = g; omega)); have F4 := hid (F3.out.trans hp (fun x hx e => by have e' : x = g := e; have := HBB.out; omega)); clear hh hp G3 B3 T3 F3) | (refine wpList_load_at (by kernel_rfl) 25 (.tmp 50) (by with_reducible rfl) b 6 (by kernel_rfl) _ _ _ B4.out #[.int .i64 r.p.s0, .int .i64 r.p.s1, .int .i64 r.p.s2, .int .i64 r.p.s3, .int .i64 r.p.s4, .int .i64 r.p.s5, .int .i64 r.p.s6, .int .i64 r.p.s7, .int .i64 r.p.s8, .int .i64 r.p.s9, .int .i64 r.p.s10, .int .i64 r.p.s11] (by kernel_rfl) (by simp) _ Tryz.underlying25 rfl (by kernel_rfl) ?_))
      rw [← HPV.out]
      refine (sgood_calls r.p _).mono ?_
      rintro _ wg ⟨rfl, hf⟩
      rw [HP.out, HQV.out, HPV.out]
      have G9 := hid (hf.heap G4.out (fun h => h))
      have B9 := hid (hf.heap B4.out (fun h => h))
      have T9 := hid (hf.heap T4.out (fun h => h))
      have F9 := hid (F4.out.then0 hf)
      clear hf G4 B4 T4 F4
      go_wp2_with (first | (refine wpList_store_at (by kernel_rfl) 25 (.tmp 53) (.tmp 52) (by with_reducible rfl) g 6 (by kernel_rfl) #[.int .i64 P.s0, .int .i64 P.s1, .int .i64 P.s2, .int .i64 P.s3, .int .i64 P.s4, .int .i64 P.s5, .int .i64 P.s6, .int .i64 P.s7, .int .i64 P.s8, .int .i64 P.s9, .int .i64 P.s10, .int .i64 P.s11] (by kernel_rfl) _ _ G9.out (by kernel_rfl) (by simp) (by simp [Value.oneCell']) ?_; intro w10 hh hp; have G10 : Hid (w10.heap[g]? = some (.cells #[.int .i64 3, .int .i64 ee, .int .i64 0, .int .i64 x0, .int .i64 0, .string ⟨#[]⟩, .int .i64 P.s0, .int .i64 P.s1, .int .i64 P.s2, .int .i64 P.s3, .int .i64 P.s4, .int .i64 P.s5, .int .i64 P.s6, .int .i64 P.s7, .int .i64 P.s8, .int .i64 P.s9, .int .i64 P.s10, .int .i64 P.s11] 27 (0, 0))) := putL_heap hh (by kernel_rfl); have B10 := hid (hp.heap B9.out (by show ¬ b = g; omega)); have T10 := hid (hp.heap T9.out (by show ¬ b + 1 = g; omega)); have F10 := hid (F9.out.trans hp (fun x hx e => by have e' : x = g := e; have := HBB.out; omega)); clear hh hp G9 B9 T9 F9) | (refine wpList_load_row rfl 27 (.tmp 3) (by with_reducible rfl) g (by kernel_rfl) _ _ _ _ G10.out Tryz.underlying27 rfl (by kernel_rfl) ?_) | (refine wpList_store_row rfl 27 (.tmp 2) (.tmp 98) (by with_reducible rfl) (b + 1) #[.int .i64 3, .int .i64 ee, .int .i64 0, .int .i64 x0, .int .i64 0, .string ⟨#[]⟩, .int .i64 P.s0, .int .i64 P.s1, .int .i64 P.s2, .int .i64 P.s3, .int .i64 P.s4, .int .i64 P.s5, .int .i64 P.s6, .int .i64 P.s7, .int .i64 P.s8, .int .i64 P.s9, .int .i64 P.s10, .int .i64 P.s11] (by kernel_rfl) (by kernel_rfl) _ _ T10.out (by kernel_rfl) rfl (by simp [Value.oneCell']) ?_))
      refine bodyPost_ret (results_cell_row (by rfl) _ _ (b + 1) _ _ _ _ (by kernel_rfl) (setRow_heap _ _ _ _ _ _ T10.out) Tryz.underlying27 rfl (by kernel_rfl)) rfl ⟨by rw [HG.out]; rfl, F10.out.setRow _ _ (by have := HBB.out; omega)⟩
    · obtain ⟨x0, X0⟩ : ∃ x, Hid (nearF r.n 1 5 = x) := ⟨_, rfl⟩
      have HG : Hid (goodR r = ⟨4, ee, 0, x0, 0, gt, Sp.zero⟩) := hid (by simp [goodR, Kkk.out, Kee.out, X0.out, Hgt.out])
      go_wp2_with (first | (refine wpList_load_v (by kernel_rfl) 3 (.tmp 20) (by with_reducible rfl) g 0 (by kernel_rfl) _ _ _ G3.out (.int .i64 4) (by kernel_rfl) _ Tryz.underlying3 rfl ?_) | (refine wpList_load_v (by kernel_rfl) 3 (.tmp 56) (by with_reducible rfl) b 3 (by kernel_rfl) _ _ _ B3.out (.int .i64 r.n) (by kernel_rfl) _ Tryz.underlying3 rfl ?_))
      refine (rnear10_calls _ _ _ _ (by decide) (by decide) (by decide) (by decide)).mono ?_
      rintro _ _ ⟨rfl, rfl⟩
      rw [X0.out]
      go_wp2_with (first | (refine wpList_store_v (by kernel_rfl) 3 (.tmp 59) (.tmp 58) (by with_reducible rfl) g 3 (by kernel_rfl) (.int .i64 x0) (by kernel_rfl) #[.int .i64 x0] rfl _ _ G3.out (by kernel_rfl) (by simp) (by simp [Value.oneCell']) ?_; intro w4 hh hp; have G4 : Hid (w4.heap[g]? = some (.cells #[.int .i64 4, .int .i64 ee, .int .i64 0, .int .i64 x0, .int .i64 0, .string ⟨#[]⟩, .int .i64 0, .int .i64 0, .int .i64 0, .int .i64 0, .int .i64 0, .int .i64 0, .int .i64 0, .int .i64 0, .int .i64 0, .int .i64 0, .int .i64 0, .int .i64 0] 27 (0, 0))) := putL_heap hh (by kernel_rfl); have B4 := hid (hp.heap B3.out (by show ¬ b = g; omega)); have T4 := hid (hp.heap T3.out (by show ¬ b + 1 = g; omega)); have F4 := hid (F3.out.trans hp (fun x hx e => by have e' : x = g := e; have := HBB.out; omega)); clear hh hp G3 B3 T3 F3) | (refine wpList_store_v (by kernel_rfl) 9 (.tmp 61) (.tmp 60) (by with_reducible rfl) g 5 (by kernel_rfl) (.string gt) (by kernel_rfl) #[.string gt] rfl _ _ G4.out (by kernel_rfl) (by simp) (by simp [Value.oneCell']) ?_; intro w5 hh hp; have G5 : Hid (w5.heap[g]? = some (.cells #[.int .i64 4, .int .i64 ee, .int .i64 0, .int .i64 x0, .int .i64 0, .string gt, .int .i64 0, .int .i64 0, .int .i64 0, .int .i64 0, .int .i64 0, .int .i64 0, .int .i64 0, .int .i64 0, .int .i64 0, .int .i64 0, .int .i64 0, .int .i64 0] 27 (0, 0))) := putL_heap hh (by kernel_rfl); have B5 := hid (hp.heap B4.out (by show ¬ b = g; omega)); have T5 := hid (hp.heap T4.out (by show ¬ b + 1 = g; omega)); have F5 := hid (F4.out.trans hp (fun x hx e => by have e' : x = g := e; have := HBB.out; omega)); clear hh hp G4 B4 T4 F4) | (refine wpList_load_row rfl 27 (.tmp 3) (by with_reducible rfl) g (by kernel_rfl) _ _ _ _ G5.out Tryz.underlying27 rfl (by kernel_rfl) ?_) | (refine wpList_store_row rfl 27 (.tmp 2) (.tmp 98) (by with_reducible rfl) (b + 1) #[.int .i64 4, .int .i64 ee, .int .i64 0, .int .i64 x0, .int .i64 0, .string gt, .int .i64 0, .int .i64 0, .int .i64 0, .int .i64 0, .int .i64 0, .int .i64 0, .int .i64 0, .int .i64 0, .int .i64 0, .int .i64 0, .int .i64 0, .int .i64 0] (by kernel_rfl) (by kernel_rfl) _ _ T5.out (by kernel_rfl) rfl (by simp [Value.oneCell']) ?_))
      refine bodyPost_ret (results_cell_row (by rfl) _ _ (b + 1) _ _ _ _ (by kernel_rfl) (setRow_heap _ _ _ _ _ _ T5.out) Tryz.underlying27 rfl (by kernel_rfl)) rfl ⟨by rw [HG.out]; rfl, F5.out.setRow _ _ (by have := HBB.out; omega)⟩
    · obtain ⟨x0, X0⟩ : ∃ x, Hid (nearF r.w 0 16 = x) := ⟨_, rfl⟩
      obtain ⟨x1, X1⟩ : ∃ x, Hid (nearF r.n 0 7 = x) := ⟨_, rfl⟩
      obtain ⟨x2, X2⟩ : ∃ x, Hid (nearF r.q 1 9 = x) := ⟨_, rfl⟩
      have HG : Hid (goodR r = ⟨5, ee, x0, x1, x2, ⟨#[]⟩, Sp.zero⟩) := hid (by simp [goodR, Kkk.out, Kee.out, X0.out, X1.out, X2.out])
      go_wp2_with (first | (refine wpList_load_v (by kernel_rfl) 3 (.tmp 20) (by with_reducible rfl) g 0 (by kernel_rfl) _ _ _ G3.out (.int .i64 5) (by kernel_rfl) _ Tryz.underlying3 rfl ?_) | (refine wpList_load_v (by kernel_rfl) 3 (.tmp 64) (by with_reducible rfl) b 2 (by kernel_rfl) _ _ _ B3.out (.int .i64 r.w) (by kernel_rfl) _ Tryz.underlying3 rfl ?_))
      refine (rnear10_calls _ _ _ _ (by decide) (by decide) (by decide) (by decide)).mono ?_
      rintro _ _ ⟨rfl, rfl⟩
      rw [X0.out]
      go_wp2_with (first | (refine wpList_store_v (by kernel_rfl) 3 (.tmp 67) (.tmp 66) (by with_reducible rfl) g 2 (by kernel_rfl) (.int .i64 x0) (by kernel_rfl) #[.int .i64 x0] rfl _ _ G3.out (by kernel_rfl) (by simp) (by simp [Value.oneCell']) ?_; intro w4 hh hp; have G4 : Hid (w4.heap[g]? = some (.cells #[.int .i64 5, .int .i64 ee, .int .i64 x0, .int .i64 0, .int .i64 0, .string ⟨#[]⟩, .int .i64 0, .int .i64 0, .int .i64 0, .int .i64 0, .int .i64 0, .int .i64 0, .int .i64 0, .int .i64 0, .int .i64 0, .int .i64 0, .int .i64 0, .int .i64 0] 27 (0, 0))) := putL_heap hh (by kernel_rfl); have B4 := hid (hp.heap B3.out (by show ¬ b = g; omega)); have T4 := hid (hp.heap T3.out (by show ¬ b + 1 = g; omega)); have F4 := hid (F3.out.trans hp (fun x hx e => by have e' : x = g := e; have := HBB.out; omega)); clear hh hp G3 B3 T3 F3) | (refine wpList_load_v (by kernel_rfl) 3 (.tmp 68) (by with_reducible rfl) b 3 (by kernel_rfl) _ _ _ B4.out (.int .i64 r.n) (by kernel_rfl) _ Tryz.underlying3 rfl ?_))
      refine (rnear10_calls _ _ _ _ (by decide) (by decide) (by decide) (by decide)).mono ?_
      rintro _ _ ⟨rfl, rfl⟩
      rw [X1.out]
      go_wp2_with (first | (refine wpList_store_v (by kernel_rfl) 3 (.tmp 71) (.tmp 70) (by with_reducible rfl) g 3 (by kernel_rfl) (.int .i64 x1) (by kernel_rfl) #[.int .i64 x1] rfl _ _ G4.out (by kernel_rfl) (by simp) (by simp [Value.oneCell']) ?_; intro w5 hh hp; have G5 : Hid (w5.heap[g]? = some (.cells #[.int .i64 5, .int .i64 ee, .int .i64 x0, .int .i64 x1, .int .i64 0, .string ⟨#[]⟩, .int .i64 0, .int .i64 0, .int .i64 0, .int .i64 0, .int .i64 0, .int .i64 0, .int .i64 0, .int .i64 0, .int .i64 0, .int .i64 0, .int .i64 0, .int .i64 0] 27 (0, 0))) := putL_heap hh (by kernel_rfl); have B5 := hid (hp.heap B4.out (by show ¬ b = g; omega)); have T5 := hid (hp.heap T4.out (by show ¬ b + 1 = g; omega)); have F5 := hid (F4.out.trans hp (fun x hx e => by have e' : x = g := e; have := HBB.out; omega)); clear hh hp G4 B4 T4 F4) | (refine wpList_load_v (by kernel_rfl) 3 (.tmp 72) (by with_reducible rfl) b 4 (by kernel_rfl) _ _ _ B5.out (.int .i64 r.q) (by kernel_rfl) _ Tryz.underlying3 rfl ?_))
      refine (rnear10_calls _ _ _ _ (by decide) (by decide) (by decide) (by decide)).mono ?_
      rintro _ _ ⟨rfl, rfl⟩
      rw [X2.out]
      go_wp2_with (first | (refine wpList_store_v (by kernel_rfl) 3 (.tmp 75) (.tmp 74) (by with_reducible rfl) g 4 (by kernel_rfl) (.int .i64 x2) (by kernel_rfl) #[.int .i64 x2] rfl _ _ G5.out (by kernel_rfl) (by simp) (by simp [Value.oneCell']) ?_; intro w6 hh hp; have G6 : Hid (w6.heap[g]? = some (.cells #[.int .i64 5, .int .i64 ee, .int .i64 x0, .int .i64 x1, .int .i64 x2, .string ⟨#[]⟩, .int .i64 0, .int .i64 0, .int .i64 0, .int .i64 0, .int .i64 0, .int .i64 0, .int .i64 0, .int .i64 0, .int .i64 0, .int .i64 0, .int .i64 0, .int .i64 0] 27 (0, 0))) := putL_heap hh (by kernel_rfl); have B6 := hid (hp.heap B5.out (by show ¬ b = g; omega)); have T6 := hid (hp.heap T5.out (by show ¬ b + 1 = g; omega)); have F6 := hid (F5.out.trans hp (fun x hx e => by have e' : x = g := e; have := HBB.out; omega)); clear hh hp G5 B5 T5 F5) | (refine wpList_load_row rfl 27 (.tmp 3) (by with_reducible rfl) g (by kernel_rfl) _ _ _ _ G6.out Tryz.underlying27 rfl (by kernel_rfl) ?_) | (refine wpList_store_row rfl 27 (.tmp 2) (.tmp 98) (by with_reducible rfl) (b + 1) #[.int .i64 5, .int .i64 ee, .int .i64 x0, .int .i64 x1, .int .i64 x2, .string ⟨#[]⟩, .int .i64 0, .int .i64 0, .int .i64 0, .int .i64 0, .int .i64 0, .int .i64 0, .int .i64 0, .int .i64 0, .int .i64 0, .int .i64 0, .int .i64 0, .int .i64 0] (by kernel_rfl) (by kernel_rfl) _ _ T6.out (by kernel_rfl) rfl (by simp [Value.oneCell']) ?_))
      refine bodyPost_ret (results_cell_row (by rfl) _ _ (b + 1) _ _ _ _ (by kernel_rfl) (setRow_heap _ _ _ _ _ _ T6.out) Tryz.underlying27 rfl (by kernel_rfl)) rfl ⟨by rw [HG.out]; rfl, F6.out.setRow _ _ (by have := HBB.out; omega)⟩
    · obtain ⟨x0, X0⟩ : ∃ x, Hid (nearF r.w 0 16 = x) := ⟨_, rfl⟩
      obtain ⟨x1, X1⟩ : ∃ x, Hid (nearF r.q 1 9 = x) := ⟨_, rfl⟩
      have HG : Hid (goodR r = ⟨6, ee, x0, 0, x1, ⟨#[]⟩, Sp.zero⟩) := hid (by simp [goodR, Kkk.out, Kee.out, X0.out, X1.out])
      go_wp2_with (first | (refine wpList_load_v (by kernel_rfl) 3 (.tmp 20) (by with_reducible rfl) g 0 (by kernel_rfl) _ _ _ G3.out (.int .i64 6) (by kernel_rfl) _ Tryz.underlying3 rfl ?_) | (refine wpList_load_v (by kernel_rfl) 3 (.tmp 78) (by with_reducible rfl) b 2 (by kernel_rfl) _ _ _ B3.out (.int .i64 r.w) (by kernel_rfl) _ Tryz.underlying3 rfl ?_))
      refine (rnear10_calls _ _ _ _ (by decide) (by decide) (by decide) (by decide)).mono ?_
      rintro _ _ ⟨rfl, rfl⟩
      rw [X0.out]
      go_wp2_with (first | (refine wpList_store_v (by kernel_rfl) 3 (.tmp 81) (.tmp 80) (by with_reducible rfl) g 2 (by kernel_rfl) (.int .i64 x0) (by kernel_rfl) #[.int .i64 x0] rfl _ _ G3.out (by kernel_rfl) (by simp) (by simp [Value.oneCell']) ?_; intro w4 hh hp; have G4 : Hid (w4.heap[g]? = some (.cells #[.int .i64 6, .int .i64 ee, .int .i64 x0, .int .i64 0, .int .i64 0, .string ⟨#[]⟩, .int .i64 0, .int .i64 0, .int .i64 0, .int .i64 0, .int .i64 0, .int .i64 0, .int .i64 0, .int .i64 0, .int .i64 0, .int .i64 0, .int .i64 0, .int .i64 0] 27 (0, 0))) := putL_heap hh (by kernel_rfl); have B4 := hid (hp.heap B3.out (by show ¬ b = g; omega)); have T4 := hid (hp.heap T3.out (by show ¬ b + 1 = g; omega)); have F4 := hid (F3.out.trans hp (fun x hx e => by have e' : x = g := e; have := HBB.out; omega)); clear hh hp G3 B3 T3 F3) | (refine wpList_load_v (by kernel_rfl) 3 (.tmp 82) (by with_reducible rfl) b 4 (by kernel_rfl) _ _ _ B4.out (.int .i64 r.q) (by kernel_rfl) _ Tryz.underlying3 rfl ?_))
      refine (rnear10_calls _ _ _ _ (by decide) (by decide) (by decide) (by decide)).mono ?_
      rintro _ _ ⟨rfl, rfl⟩
      rw [X1.out]
      go_wp2_with (first | (refine wpList_store_v (by kernel_rfl) 3 (.tmp 85) (.tmp 84) (by with_reducible rfl) g 4 (by kernel_rfl) (.int .i64 x1) (by kernel_rfl) #[.int .i64 x1] rfl _ _ G4.out (by kernel_rfl) (by simp) (by simp [Value.oneCell']) ?_; intro w5 hh hp; have G5 : Hid (w5.heap[g]? = some (.cells #[.int .i64 6, .int .i64 ee, .int .i64 x0, .int .i64 0, .int .i64 x1, .string ⟨#[]⟩, .int .i64 0, .int .i64 0, .int .i64 0, .int .i64 0, .int .i64 0, .int .i64 0, .int .i64 0, .int .i64 0, .int .i64 0, .int .i64 0, .int .i64 0, .int .i64 0] 27 (0, 0))) := putL_heap hh (by kernel_rfl); have B5 := hid (hp.heap B4.out (by show ¬ b = g; omega)); have T5 := hid (hp.heap T4.out (by show ¬ b + 1 = g; omega)); have F5 := hid (F4.out.trans hp (fun x hx e => by have e' : x = g := e; have := HBB.out; omega)); clear hh hp G4 B4 T4 F4) | (refine wpList_load_row rfl 27 (.tmp 3) (by with_reducible rfl) g (by kernel_rfl) _ _ _ _ G5.out Tryz.underlying27 rfl (by kernel_rfl) ?_) | (refine wpList_store_row rfl 27 (.tmp 2) (.tmp 98) (by with_reducible rfl) (b + 1) #[.int .i64 6, .int .i64 ee, .int .i64 x0, .int .i64 0, .int .i64 x1, .string ⟨#[]⟩, .int .i64 0, .int .i64 0, .int .i64 0, .int .i64 0, .int .i64 0, .int .i64 0, .int .i64 0, .int .i64 0, .int .i64 0, .int .i64 0, .int .i64 0, .int .i64 0] (by kernel_rfl) (by kernel_rfl) _ _ T5.out (by kernel_rfl) rfl (by simp [Value.oneCell']) ?_))
      refine bodyPost_ret (results_cell_row (by rfl) _ _ (b + 1) _ _ _ _ (by kernel_rfl) (setRow_heap _ _ _ _ _ _ T5.out) Tryz.underlying27 rfl (by kernel_rfl)) rfl ⟨by rw [HG.out]; rfl, F5.out.setRow _ _ (by have := HBB.out; omega)⟩
    · obtain ⟨x0, X0⟩ : ∃ x, Hid (nearF r.w 1 4 = x) := ⟨_, rfl⟩
      obtain ⟨x1, X1⟩ : ∃ x, Hid (nearF r.n 0 50 = x) := ⟨_, rfl⟩
      have HG : Hid (goodR r = ⟨7, ee, x0, x1, 0, gt, Sp.zero⟩) := hid (by simp [goodR, Kkk.out, Kee.out, X0.out, X1.out, Hgt.out])
      go_wp2_with (first | (refine wpList_load_v (by kernel_rfl) 3 (.tmp 20) (by with_reducible rfl) g 0 (by kernel_rfl) _ _ _ G3.out (.int .i64 7) (by kernel_rfl) _ Tryz.underlying3 rfl ?_) | (refine wpList_load_v (by kernel_rfl) 3 (.tmp 88) (by with_reducible rfl) b 2 (by kernel_rfl) _ _ _ B3.out (.int .i64 r.w) (by kernel_rfl) _ Tryz.underlying3 rfl ?_))
      refine (rnear10_calls _ _ _ _ (by decide) (by decide) (by decide) (by decide)).mono ?_
      rintro _ _ ⟨rfl, rfl⟩
      rw [X0.out]
      go_wp2_with (first | (refine wpList_store_v (by kernel_rfl) 3 (.tmp 91) (.tmp 90) (by with_reducible rfl) g 2 (by kernel_rfl) (.int .i64 x0) (by kernel_rfl) #[.int .i64 x0] rfl _ _ G3.out (by kernel_rfl) (by simp) (by simp [Value.oneCell']) ?_; intro w4 hh hp; have G4 : Hid (w4.heap[g]? = some (.cells #[.int .i64 7, .int .i64 ee, .int .i64 x0, .int .i64 0, .int .i64 0, .string ⟨#[]⟩, .int .i64 0, .int .i64 0, .int .i64 0, .int .i64 0, .int .i64 0, .int .i64 0, .int .i64 0, .int .i64 0, .int .i64 0, .int .i64 0, .int .i64 0, .int .i64 0] 27 (0, 0))) := putL_heap hh (by kernel_rfl); have B4 := hid (hp.heap B3.out (by show ¬ b = g; omega)); have T4 := hid (hp.heap T3.out (by show ¬ b + 1 = g; omega)); have F4 := hid (F3.out.trans hp (fun x hx e => by have e' : x = g := e; have := HBB.out; omega)); clear hh hp G3 B3 T3 F3) | (refine wpList_load_v (by kernel_rfl) 3 (.tmp 92) (by with_reducible rfl) b 3 (by kernel_rfl) _ _ _ B4.out (.int .i64 r.n) (by kernel_rfl) _ Tryz.underlying3 rfl ?_))
      refine (rnear10_calls _ _ _ _ (by decide) (by decide) (by decide) (by decide)).mono ?_
      rintro _ _ ⟨rfl, rfl⟩
      rw [X1.out]
      go_wp2_with (first | (refine wpList_store_v (by kernel_rfl) 3 (.tmp 95) (.tmp 94) (by with_reducible rfl) g 3 (by kernel_rfl) (.int .i64 x1) (by kernel_rfl) #[.int .i64 x1] rfl _ _ G4.out (by kernel_rfl) (by simp) (by simp [Value.oneCell']) ?_; intro w5 hh hp; have G5 : Hid (w5.heap[g]? = some (.cells #[.int .i64 7, .int .i64 ee, .int .i64 x0, .int .i64 x1, .int .i64 0, .string ⟨#[]⟩, .int .i64 0, .int .i64 0, .int .i64 0, .int .i64 0, .int .i64 0, .int .i64 0, .int .i64 0, .int .i64 0, .int .i64 0, .int .i64 0, .int .i64 0, .int .i64 0] 27 (0, 0))) := putL_heap hh (by kernel_rfl); have B5 := hid (hp.heap B4.out (by show ¬ b = g; omega)); have T5 := hid (hp.heap T4.out (by show ¬ b + 1 = g; omega)); have F5 := hid (F4.out.trans hp (fun x hx e => by have e' : x = g := e; have := HBB.out; omega)); clear hh hp G4 B4 T4 F4) | (refine wpList_store_v (by kernel_rfl) 9 (.tmp 97) (.tmp 96) (by with_reducible rfl) g 5 (by kernel_rfl) (.string gt) (by kernel_rfl) #[.string gt] rfl _ _ G5.out (by kernel_rfl) (by simp) (by simp [Value.oneCell']) ?_; intro w6 hh hp; have G6 : Hid (w6.heap[g]? = some (.cells #[.int .i64 7, .int .i64 ee, .int .i64 x0, .int .i64 x1, .int .i64 0, .string gt, .int .i64 0, .int .i64 0, .int .i64 0, .int .i64 0, .int .i64 0, .int .i64 0, .int .i64 0, .int .i64 0, .int .i64 0, .int .i64 0, .int .i64 0, .int .i64 0] 27 (0, 0))) := putL_heap hh (by kernel_rfl); have B6 := hid (hp.heap B5.out (by show ¬ b = g; omega)); have T6 := hid (hp.heap T5.out (by show ¬ b + 1 = g; omega)); have F6 := hid (F5.out.trans hp (fun x hx e => by have e' : x = g := e; have := HBB.out; omega)); clear hh hp G5 B5 T5 F5) | (refine wpList_load_row rfl 27 (.tmp 3) (by with_reducible rfl) g (by kernel_rfl) _ _ _ _ G6.out Tryz.underlying27 rfl (by kernel_rfl) ?_) | (refine wpList_store_row rfl 27 (.tmp 2) (.tmp 98) (by with_reducible rfl) (b + 1) #[.int .i64 7, .int .i64 ee, .int .i64 x0, .int .i64 x1, .int .i64 0, .string gt, .int .i64 0, .int .i64 0, .int .i64 0, .int .i64 0, .int .i64 0, .int .i64 0, .int .i64 0, .int .i64 0, .int .i64 0, .int .i64 0, .int .i64 0, .int .i64 0] (by kernel_rfl) (by kernel_rfl) _ _ T6.out (by kernel_rfl) rfl (by simp [Value.oneCell']) ?_))
      refine bodyPost_ret (results_cell_row (by rfl) _ _ (b + 1) _ _ _ _ (by kernel_rfl) (setRow_heap _ _ _ _ _ _ T6.out) Tryz.underlying27 rfl (by kernel_rfl)) rfl ⟨by rw [HG.out]; rfl, F6.out.setRow _ _ (by have := HBB.out; omega)⟩
end Go.Proofs.YtonlmkcolndaaaaGreatDoor
namespace Go.Proofs.YtonlmkcolndaaaaGreatDoor
set_option linter.unusedVariables false
set_option linter.unusedSimpArgs false
set_option maxRecDepth 20000
open Go.RowKit

theorem Rd.ofRow {w : World} {k : IntKind} {x : Addr} {len cap : Nat} {zs : List Int} (hl : len ≤ cap) (hm : cap ≤ maxLen) (hz : zs.length = cap)
    (hcell : ∀ i, i < zs.length → w.cell? (x.add i) = some (.int k (zs.getD i 0))) : Rd w 1 (.slice (some x) len cap) (zs.take len).length (ints k (zs.take len)) := by
  have e : (zs.take len).length = len := by rw [List.length_take]; omega
  refine ⟨by simp [ints], .inr ⟨x, cap, by rw [e], by omega, hm, fun j u hu => ?_⟩⟩
  unfold ints at hu
  rw [List.getElem?_map, List.getElem?_take] at hu
  split at hu
  · obtain ⟨y, hy, rfl⟩ := Option.map_eq_some_iff.1 hu
    have hj := (List.getElem?_eq_some_iff.1 hy).1
    rw [hcell j hj, List.getD_eq_getElem?_getD, hy]; rfl
  · cases hu
theorem wf_i64 {n : Int} (h : (Lit.int .i64 n).wf = true) : -9223372036854775808 ≤ n ∧ n ≤ 9223372036854775807 := by
  simp [Lit.wf, IntKind.min, IntKind.max, IntKind.signed, IntKind.bits] at h; omega
theorem wf_u8 {n : Int} (h : (Lit.int .u8 n).wf = true) : 0 ≤ n ∧ n < 256 := by
  simp [Lit.wf, IntKind.min, IntKind.max, IntKind.signed, IntKind.bits] at h; omega
end Go.Proofs.YtonlmkcolndaaaaGreatDoor
namespace Go.Proofs.YtonlmkcolndaaaaGreatDoor
set_option linter.unusedVariables false
set_option linter.unusedSimpArgs false
set_option maxRecDepth 20000
open Go.RowKit Cp

theorem lives_bytes : bytesF ⟨1, 1, 0, 5, 10, ⟨#[]⟩, Sp.zero⟩ = ([1, 1, 0, 5, 10, 0], 0) := by
  have hr : rightB ⟨1, 1, 0, 5, 10, ⟨#[]⟩, Sp.zero⟩ = true := by decide
  unfold bytesF
  rw [if_pos hr]
  have e : wireL ⟨1, 1, 0, 5, 10, ⟨#[]⟩, Sp.zero⟩ = wire6 ⟨1, 1, 0, 5, 10, ⟨#[]⟩, Sp.zero⟩ := by unfold wireL; rw [if_neg (by decide)]
  rw [e, wire6_eq hr]
  simp only [Prod.mk.injEq, and_true]
  show dig 1 ++ (dig 1 ++ (dig 0 ++ (dig 5 ++ (dig 10 ++ (dig 0 ++ sb ⟨#[]⟩))))) = _
  rw [dig_lt (by decide), dig_lt (by decide), dig_lt (by decide), dig_lt (by decide)]
  rfl
theorem rreadOk_iff {l : List Int} (hb : Bytey l) : rreadOk l (read6 l) ↔ (endF (read6 l).2.1 (read6 l).2.2 = 0 ∧ rightB (read6 l).1 = true) := by
  unfold rreadOk rbytesF
  rw [← right_eq]
  constructor
  · rintro ⟨h1, h2, _⟩
    refine ⟨h1, ?_⟩
    cases h : rightB (read6 l).1 with
    | true => rfl
    | false => rw [h] at h2; simp at h2
  · rintro ⟨h1, h2⟩
    rw [if_pos h2]
    exact ⟨h1, rfl, by rw [wire_read hb h1 h2]⟩
/-- What is read is written again. -/
theorem read_bytes {l : List Int} (hb : Bytey l) : ((readF l).2 = 0 ∧ rightB (readF l).1 = true ∧ bytesF (readF l).1 = (l, 0)) ∨ (readF l = (Rc.zero, 2) ∧ bytesF (readF l).1 = ([], 1)) := by
  by_cases h : endF (read6 l).2.1 (read6 l).2.2 = 0 ∧ rightB (read6 l).1 = true
  · left
    have e : readF l = ((read6 l).1, 0) := by unfold readF; simp only []; rw [if_pos h]
    rw [e]
    refine ⟨rfl, h.2, ?_⟩
    unfold bytesF
    rw [if_pos h.2, wire_read hb h.1 h.2]
  · right
    have e : readF l = (Rc.zero, 2) := by unfold readF; simp only []; rw [if_neg h]
    rw [e]
    refine ⟨rfl, ?_⟩
    have : rightB Rc.zero = false := by decide
    unfold bytesF
    rw [this]; rfl
theorem read_small {l : List Int} (hb : Bytey l) : (readF l).1.t.size ≤ 64 := by
  rcases read_bytes hb with ⟨_, h, _⟩ | ⟨h, _⟩
  · exact (right_facts h).2.2.2.2.2.1
  · rw [h]; decide
theorem RdB.later {W w : World} {v : Value} {l : List Int} (h : RdB W v l) (hf : Frm M0 W w) : RdB w v l := fun wx hx => h wx (hf.then0 hx)
end Go.Proofs.YtonlmkcolndaaaaGreatDoor
namespace Go.Proofs.YtonlmkcolndaaaaGreatDoor
set_option linter.unusedVariables false
set_option linter.unusedSimpArgs false
set_option maxRecDepth 20000
open Go.RowKit Cp

theorem goodSp_ok (p : Sp) : (goodSp p).chkE = 0 := by
  have b0 := near_bd (n := p.s0) (least := 1) (many := 6) (by omega)
  have b1 := near_bd (n := p.s1) (least := 1) (many := 5) (by omega)
  have b4 := near_bd (n := p.s4) (least := 0) (many := 3) (by omega)
  have b2 := near_bd (n := p.s2) (least := 0) (many := 4) (by omega)
  have b2' := near_bd (n := p.s2) (least := 0) (many := 2) (by omega)
  have b3 := near_bd (n := p.s3) (least := 0) (many := nearF p.s1 1 5 + 1) (by omega)
  have b5 := near_bd (n := p.s5) (least := 0) (many := 60) (by omega)
  have b6 := near_bd (n := p.s6) (least := 0) (many := 60) (by omega)
  have b7 := near_bd (n := p.s7) (least := 0) (many := 60) (by omega)
  have b8 := near_bd (n := p.s8) (least := 0) (many := 60) (by omega)
  have b9 := near_bd (n := p.s9) (least := 1) (many := 9) (by omega)
  have b10 := near_bd (n := p.s10) (least := 0) (many := 4) (by omega)
  have b11 := near_bd (n := p.s11) (least := 1) (many := 60) (by omega)
  rw [chkE_zero]
  have hS : (0 ≤ gSurge p ∧ gSurge p ≤ 16 - nearF p.s1 1 5) ∧ (nearF p.s4 0 3 = 2 → nearF p.s1 1 5 ≤ gSurge p) := by
    unfold gSurge
    split <;> omega
  have hU : 0 ≤ gUn p ∧ gUn p ≤ nearF p.s1 1 5 ∧ (0 < gUn p ∨ 0 < gSurge p) := by
    unfold gUn
    split <;> omega
  have hw : wrap64 (16 - nearF p.s1 1 5) = 16 - nearF p.s1 1 5 := by unfold wrap64; omega
  have hT : stepF (nearF p.s4 0 3) (gSt p).1 0 true = true ∧ stepF (nearF p.s4 0 3) (gSt p).2.1 (gSt p).1 false = true ∧ stepF (nearF p.s4 0 3) (gSt p).2.2.1 (gSt p).2.1 false = true ∧ stepF (nearF p.s4 0 3) (gSt p).2.2.2 (gSt p).2.2.1 false = true := by
    unfold gSt gSteps
    generalize nearF p.s4 0 3 = s at *
    generalize nearF p.s5 0 60 = m0 at *
    generalize nearF p.s6 0 60 = n1 at *
    generalize nearF p.s7 0 60 = n2 at *
    generalize nearF p.s8 0 60 = n3 at *
    have zero : ∀ last, stepF s 0 last false = true := by intro last; unfold stepF; by_cases h : s = 0 <;> simp [h]
    have next : ∀ last n, s = 0 → 0 < last → 0 < n → last + n ≤ 100 → stepF s (last + n) last false = true := by
      intro last n hs h1 h2 h3
      have e1 : ¬ last + n = 0 := by omega
      have e2 : ¬ last = 0 := by omega
      unfold stepF
      simp [hs, e1, e2]
      omega
    by_cases hs : s = 0
    · have first : stepF s (m0 + 1) 0 true = true := by unfold stepF; simp [hs]; omega
      rw [if_pos hs]
      by_cases h1 : n1 = 0 ∨ 100 < m0 + 1 + n1
      · rw [if_pos h1]; exact ⟨first, zero _, zero _, zero _⟩
      · rw [if_neg h1]
        by_cases h2 : n2 = 0 ∨ 100 < m0 + 1 + n1 + n2
        · rw [if_pos h2]; exact ⟨first, next _ _ hs (by omega) (by omega) (by omega), zero _, zero _⟩
        · rw [if_neg h2]
          by_cases h3 : n3 = 0 ∨ 100 < m0 + 1 + n1 + n2 + n3
          · rw [if_pos h3]; exact ⟨first, next _ _ hs (by omega) (by omega) (by omega), next _ _ hs (by omega) (by omega) (by omega), zero _⟩
          · rw [if_neg h3]; exact ⟨first, next _ _ hs (by omega) (by omega) (by omega), next _ _ hs (by omega) (by omega) (by omega), next _ _ hs (by omega) (by omega) (by omega)⟩
    · rw [if_neg hs]
      have f0 : stepF s 0 0 true = true := by unfold stepF; simp [hs]
      exact ⟨f0, zero _, zero _, zero _⟩
  unfold Sp.conds
  simp only [List.all_cons, List.all_nil, id_eq, Bool.and_true, Bool.and_eq_true, btw_true, IntWalk.i64_left]
  simp only [goodSp]
  rw [hw]
  refine ⟨by omega, by omega, by omega, ⟨by omega, by rw [Bool.or_eq_true]; exact hU.2.2.imp decide_eq_true decide_eq_true⟩, ⟨by omega, ?_⟩, hT.1, hT.2.1, hT.2.2.1, hT.2.2.2, by omega, by omega, by omega⟩
  have := hS.2
  by_cases h : nearF p.s4 0 3 = 2
  · simp [this h]
  · simp [h]

theorem goodT_size (t : ByteArray) : 1 ≤ (goodT t).size ∧ (goodT t).size ≤ 21 := by
  unfold goodT
  split
  · rename_i h
    rw [ByteArray.size_append]
    have : (⟨#[116]⟩ : ByteArray).size = 1 := rfl
    omega
  · rw [ByteArray.size_append, ByteArray.size_extract]
    have : (⟨#[116]⟩ : ByteArray).size = 1 := rfl
    omega
theorem good_right (r : Rc) : rightB (goodR r) = true := by
  have bk := near_bd (n := r.k) (least := 1) (many := 7) (by omega)
  have be := near_bd (n := r.e) (least := 1) (many := 9) (by omega)
  have he : ByteArray.empty = ⟨#[]⟩ := rfl
  have ht := goodT_size r.t
  have hk : nearF r.k 1 7 = 1 ∨ nearF r.k 1 7 = 2 ∨ nearF r.k 1 7 = 3 ∨ nearF r.k 1 7 = 4 ∨ nearF r.k 1 7 = 5 ∨ nearF r.k 1 7 = 6 ∨ nearF r.k 1 7 = 7 := by omega
  have B : ∀ n l m : Int, 0 < m → l ≤ nearF n l m ∧ nearF n l m < l + m := fun n l m h => near_bd h
  have t1 : (1 : Int) ≤ (goodT r.t).size ∧ ((goodT r.t).size : Int) ≤ 64 := by omega
  rcases hk with h | h | h | h | h | h | h
  · have e : goodR r = ⟨1, nearF r.e 1 9, nearF r.w 0 4, nearF r.n 0 50, nearF r.q 1 20, ⟨#[]⟩, Sp.zero⟩ := by simp [goodR, h]
    rw [e]
    have := B r.w 0 4 (by omega); have := B r.n 0 50 (by omega); have := B r.q 1 20 (by omega)
    simp only [rightB, mayK, if_true, leadB, Bool.and_eq_true, btw_true, req_iff, he, true_and, and_true]
    omega
  · have e : goodR r = ⟨2, nearF r.e 1 9, 0, nearF r.n 1 6, 0, goodT r.t, Sp.zero⟩ := by simp [goodR, h]
    rw [e]
    have := B r.n 1 6 (by omega)
    have hm : mayK ⟨2, nearF r.e 1 9, 0, nearF r.n 1 6, 0, goodT r.t, Sp.zero⟩ = publishB ⟨2, nearF r.e 1 9, 0, nearF r.n 1 6, 0, goodT r.t, Sp.zero⟩ := rfl
    simp only [rightB, hm, publishB, Bool.and_eq_true, btw_true, req_iff, true_and, and_true]
    omega
  · have e : goodR r = ⟨3, nearF r.e 1 9, 0, nearF r.n 0 50, 0, ⟨#[]⟩, goodSp r.p⟩ := by simp [goodR, h]
    rw [e]
    have := B r.n 0 50 (by omega)
    have hm : mayK ⟨3, nearF r.e 1 9, 0, nearF r.n 0 50, 0, ⟨#[]⟩, goodSp r.p⟩ = beginB ⟨3, nearF r.e 1 9, 0, nearF r.n 0 50, 0, ⟨#[]⟩, goodSp r.p⟩ := rfl
    simp only [rightB, hm, beginB, Bool.and_eq_true, btw_true, req_iff, he, true_and, and_true, goodSp_ok, decide_true]
    omega
  · have e : goodR r = ⟨4, nearF r.e 1 9, 0, nearF r.n 1 5, 0, goodT r.t, Sp.zero⟩ := by simp [goodR, h]
    rw [e]
    have := B r.n 1 5 (by omega)
    have hm : mayK ⟨4, nearF r.e 1 9, 0, nearF r.n 1 5, 0, goodT r.t, Sp.zero⟩ = moveB ⟨4, nearF r.e 1 9, 0, nearF r.n 1 5, 0, goodT r.t, Sp.zero⟩ := rfl
    simp only [rightB, hm, moveB, Bool.and_eq_true, btw_true, req_iff, true_and, and_true]
    omega
  · have e : goodR r = ⟨5, nearF r.e 1 9, nearF r.w 0 16, nearF r.n 0 7, nearF r.q 1 9, ⟨#[]⟩, Sp.zero⟩ := by simp [goodR, h]
    rw [e]
    have := B r.w 0 16 (by omega); have := B r.n 0 7 (by omega); have := B r.q 1 9 (by omega)
    have hm : mayK ⟨5, nearF r.e 1 9, nearF r.w 0 16, nearF r.n 0 7, nearF r.q 1 9, ⟨#[]⟩, Sp.zero⟩ = intentB ⟨5, nearF r.e 1 9, nearF r.w 0 16, nearF r.n 0 7, nearF r.q 1 9, ⟨#[]⟩, Sp.zero⟩ := rfl
    simp only [rightB, hm, intentB, unitB, Bool.and_eq_true, btw_true, req_iff, he, true_and, and_true]
    omega
  · have e : goodR r = ⟨6, nearF r.e 1 9, nearF r.w 0 16, 0, nearF r.q 1 9, ⟨#[]⟩, Sp.zero⟩ := by simp [goodR, h]
    rw [e]
    have := B r.w 0 16 (by omega); have := B r.q 1 9 (by omega)
    have hm : mayK ⟨6, nearF r.e 1 9, nearF r.w 0 16, 0, nearF r.q 1 9, ⟨#[]⟩, Sp.zero⟩ = ackB ⟨6, nearF r.e 1 9, nearF r.w 0 16, 0, nearF r.q 1 9, ⟨#[]⟩, Sp.zero⟩ := rfl
    simp only [rightB, hm, ackB, unitB, Bool.and_eq_true, btw_true, req_iff, he, true_and, and_true, decide_true]
    omega
  · have e : goodR r = ⟨7, nearF r.e 1 9, nearF r.w 1 4, nearF r.n 0 50, 0, goodT r.t, Sp.zero⟩ := by simp [goodR, h]
    rw [e]
    have := B r.w 1 4 (by omega); have := B r.n 0 50 (by omega)
    have hm : mayK ⟨7, nearF r.e 1 9, nearF r.w 1 4, nearF r.n 0 50, 0, goodT r.t, Sp.zero⟩ = stepB ⟨7, nearF r.e 1 9, nearF r.w 1 4, nearF r.n 0 50, 0, goodT r.t, Sp.zero⟩ := rfl
    simp only [rightB, hm, stepB, Bool.and_eq_true, btw_true, req_iff, true_and, and_true]
    omega

theorem wire_bytey {r : Rc} (h : rightB r = true) : Bytey (wireL r) := by
  have h6 : Bytey (wire6 r) := by
    rw [wire6_eq h]
    intro x hx
    simp only [List.mem_append] at hx
    rcases hx with hx | hx | hx | hx | hx | hx | hx
    · exact dig_bytes _ x hx
    · exact dig_bytes _ x hx
    · exact dig_bytes _ x hx
    · exact dig_bytes _ x hx
    · exact dig_bytes _ x hx
    · exact dig_bytes _ x hx
    · exact sb_byte _ x hx
  obtain ⟨_, _, _, _, _, _, _, hc⟩ := right_facts h
  unfold wireL
  split
  · rename_i h3
    rw [listW_ok (by simp [Sp.nums]) (nums_le (hc h3))]
    intro x hx
    simp only [List.mem_append] at hx
    rcases hx with (hx | hx) | hx
    · exact h6 x hx
    · exact dig_bytes _ x hx
    · exact digs_bytes _ x hx
  · exact h6
theorem wire_len {r : Rc} (h : rightB r = true) : 0 < (wireL r).length ∧ (wireL r).length ≤ 1000 := by
  obtain ⟨hk, he, hw, hn, hq, ht, _, hc⟩ := right_facts h
  have d1 := dig_len9 (n := r.k.toNat) (by omega)
  have d2 := dig_len9 (n := r.e.toNat) (by omega)
  have d3 := dig_len9 (n := r.w.toNat) (by omega)
  have d4 := dig_len9 (n := r.n.toNat) (by omega)
  have d5 := dig_len9 (n := r.q.toNat) (by omega)
  have d6 := dig_len9 (n := r.t.size) (by omega)
  have p1 := dig_len_pos r.k.toNat
  have s1 := sb_len r.t
  have h6 : 0 < (wire6 r).length ∧ (wire6 r).length ≤ 200 := by
    rw [wire6_eq h]
    simp only [List.length_append]
    omega
  unfold wireL
  split
  · rename_i h3
    have hl := nums_le (hc h3)
    rw [listW_ok (by simp [Sp.nums]) hl]
    simp only [List.length_append]
    have n1 := digs_len r.p.nums hl
    have n2 : r.p.nums.length = 12 := by simp [Sp.nums]
    have n3 := dig_len9 (n := r.p.nums.length) (by omega)
    omega
  · omega
theorem bytes_good {r : Rc} (h : rightB r = true) : bytesF r = (wireL r, 0) := by unfold bytesF; rw [if_pos h]
theorem read_good {r : Rc} (h : rightB r = true) : readF (wireL r) = (r, 0) := by
  have := read_wire h []
  rw [List.append_nil] at this
  unfold readF
  rw [this]
  simp only []
  rw [if_pos ⟨rfl, h⟩]
theorem read_more {r : Rc} (h : rightB r = true) (x : Int) : readF (wireL r ++ [x]) = (Rc.zero, 2) := by
  unfold readF
  rw [read_wire h [x]]
  simp only []
  rw [if_neg (fun hh => by have := hh.1; simp [endF] at this)]
theorem read_less {r : Rc} (h : rightB r = true) : readF ((wireL r).take ((wireL r).length - 1)) = (Rc.zero, 2) := by
  have hb := wire_bytey h
  have hlen := wire_len h
  have hb' : Bytey ((wireL r).take ((wireL r).length - 1)) := fun x hx => hb x (List.mem_of_mem_take hx)
  rcases read_bytes hb' with ⟨_, hr, hy⟩ | ⟨hz, _⟩
  · exfalso
    obtain ⟨r', hr'⟩ : ∃ r', r' = (readF ((wireL r).take ((wireL r).length - 1))).1 := ⟨_, rfl⟩
    rw [← hr'] at hr hy
    rw [bytes_good hr] at hy
    simp only [Prod.mk.injEq, and_true] at hy
    have hs : wireL r = wireL r' ++ [(wireL r)[(wireL r).length - 1]'(by omega)] := by
      rw [hy]
      conv => lhs; rw [← List.take_append_drop ((wireL r).length - 1) (wireL r)]
      congr 1
      rw [List.drop_eq_getElem_cons (by omega)]
      congr 1
      exact List.drop_of_length_le (by omega)
    have a1 := read_wire h []
    rw [List.append_nil, hs, read_wire hr] at a1
    simp at a1
  · exact hz
end Go.Proofs.YtonlmkcolndaaaaGreatDoor
namespace Go.Proofs.YtonlmkcolndaaaaGreatDoor
set_option linter.unusedVariables false
set_option linter.unusedSimpArgs false
set_option maxRecDepth 20000
open Go.RowKit

def Rc.four (r : Rc) : List Int := [r.e, r.w, r.n, r.q]
/-- Its numbers are ints, its text is short. -/
structure Rc.fine (r : Rc) : Prop where
  ns : ∀ x ∈ r.four, -9223372036854775808 ≤ x ∧ x ≤ 9223372036854775807
  t : r.t.size ≤ 100000
  p : r.k = 3 → r.p.small
def partsA (r : Rc) : List ByteArray := nameS r.k :: words r.four
def partsT (r : Rc) : List ByteArray := if r.t.toList.isEmpty = true then [] else [r.t]
def partsP (r : Rc) : List ByteArray := if r.k = 3 then [textS r.p] else []
/-- A record's words. -/
def wordsS (r : Rc) : ByteArray := if rightB r = true then joinS (partsA r ++ partsT r ++ partsP r) else ⟨#[]⟩

theorem nameS_size (k : Int) : (nameS k).size ≤ 21 := by
  unfold nameS
  repeat' split
  all_goals decide
theorem textS_size (p : Sp) (h : p.small) : (textS p).size ≤ 264 := by
  have := joinS_size 21 (words p.nums) (words_bound _ h)
  rw [words_len, nums_len] at this
  show (Lib.join ((words p.nums).map (·.data.toList)) [32]).toArray.size ≤ 264
  rw [List.size_toArray]; exact this
theorem parts_bound (r : Rc) (h : r.fine) : ∀ x ∈ partsA r ++ partsT r ++ partsP r, x.size ≤ 100000 := by
  intro x hx
  rcases List.mem_append.1 hx with hx | hx
  · rcases List.mem_append.1 hx with hx | hx
    · rcases List.mem_cons.1 hx with rfl | hx
      · exact Nat.le_trans (nameS_size _) (by decide)
      · exact Nat.le_trans (words_bound _ h.ns x hx) (by decide)
    · unfold partsT at hx
      split at hx
      · cases hx
      · simp only [List.mem_singleton] at hx; subst hx; exact h.t
  · unfold partsP at hx
    split at hx
    · rename_i h3; simp only [List.mem_singleton] at hx; subst hx; exact Nat.le_trans (textS_size _ (h.p h3)) (by decide)
    · cases hx
theorem parts_len (r : Rc) : (partsA r ++ partsT r ++ partsP r).length ≤ 7 ∧ 0 < (partsA r ++ partsT r ++ partsP r).length := by
  have h1 : (partsA r).length = 5 := by simp [partsA, words, Rc.four]
  have h2 : (partsT r).length ≤ 1 := by unfold partsT; split <;> simp
  have h3 : (partsP r).length ≤ 1 := by unfold partsP; split <;> simp
  rw [List.length_append, List.length_append]; omega

set_option maxHeartbeats 4000000 in
theorem rwords_calls (r : Rc) (w : World) (ht : Tab w) (hr : r.fine) : Calls Tryz.prog 26 #[r.val] w fun e w' => e = .returned (.string (wordsS r)) ∧ Frm M0 w w' := by
  have HT := hid ht; clear ht
  have HY := hid hr; clear hr
  have HV : Hid (r.val = .agg #[.int .i64 r.k, .int .i64 r.e, .int .i64 r.w, .int .i64 r.n, .int .i64 r.q, .string r.t, .int .i64 r.p.s0, .int .i64 r.p.s1, .int .i64 r.p.s2, .int .i64 r.p.s3, .int .i64 r.p.s4, .int .i64 r.p.s5, .int .i64 r.p.s6, .int .i64 r.p.s7, .int .i64 r.p.s8, .int .i64 r.p.s9, .int .i64 r.p.s10, .int .i64 r.p.s11]) := rfl
  rw [HV.out]
  go_enter Tryz.func26, Tryz.ntmps26
  go_wp2_with (refine wpList_load_row rfl 27 (.tmp 1) (by with_reducible rfl) w.heap.size rfl _ _ _ _ (heap_alloc_last w _) Tryz.underlying27 rfl (by kernel_rfl) ?_)
  rw [← HV.out]
  refine (right_calls r _).mono ?_
  rintro _ w1 ⟨rfl, hf⟩
  obtain ⟨b, hb⟩ : ∃ b, b = w.heap.size := ⟨_, rfl⟩
  have HH := hid (hf.heap (heap_alloc_last w (.cells #[.int .i64 r.k, .int .i64 r.e, .int .i64 r.w, .int .i64 r.n, .int .i64 r.q, .string r.t, .int .i64 r.p.s0, .int .i64 r.p.s1, .int .i64 r.p.s2, .int .i64 r.p.s3, .int .i64 r.p.s4, .int .i64 r.p.s5, .int .i64 r.p.s6, .int .i64 r.p.s7, .int .i64 r.p.s8, .int .i64 r.p.s9, .int .i64 r.p.s10, .int .i64 r.p.s11] 27)) (fun h => h))
  have HF := hid (((Frm.refl M0 w).alloc (.cells #[.int .i64 r.k, .int .i64 r.e, .int .i64 r.w, .int .i64 r.n, .int .i64 r.q, .string r.t, .int .i64 r.p.s0, .int .i64 r.p.s1, .int .i64 r.p.s2, .int .i64 r.p.s3, .int .i64 r.p.s4, .int .i64 r.p.s5, .int .i64 r.p.s6, .int .i64 r.p.s7, .int .i64 r.p.s8, .int .i64 r.p.s9, .int .i64 r.p.s10, .int .i64 r.p.s11] 27)).then0 hf)
  rw [← hb] at HH ⊢
  rw [HV.out]
  clear hf hb
  obtain ⟨x, HX⟩ : ∃ x, Hid (rightB r = x) := ⟨_, rfl⟩
  rw [HX.out]
  cases x
  · go_wp2_with fail
    go_ret
    exact ⟨by unfold wordsS; rw [if_neg (by rw [HX.out]; decide)]; rfl, HF.out⟩
  have c0 : w1.cell? ⟨b, 0, none⟩ = some (.int .i64 r.k) := cell_at HH.out 0
  go_wp2_with fail
  refine (name_calls r.k _).mono ?_
  rintro _ w2 ⟨rfl, hf⟩
  have H2 := hid (hf.heap HH.out (fun h => h))
  have F2 := hid (HF.out.then0 hf)
  clear hf c0 HH HF
  go_upto_region 4 with fail
  have O3 := hid ((World.ownsRow_lit (base := w2.heap.size) (e := 9) (size := 1) w2 #[.string (nameS r.k)] 1 (Nat.le_refl _) (by unfold maxLen; omega) rfl))
  have H3 := hid (((Frm.refl M0 w2).alloc (.cells #[.string (nameS r.k)] 9)).heap H2.out (fun h => h))
  have F3 := hid (F2.out.alloc (.cells #[.string (nameS r.k)] 9))
  have hbs : b < w2.heap.size := (Array.getElem?_eq_some_iff.1 H2.out).1
  have hws : w.heap.size ≤ w2.heap.size := F2.out.size
  obtain ⟨s0, hs0⟩ : ∃ s0, s0 = w2.heap.size := ⟨_, rfl⟩
  obtain ⟨w3, hw3⟩ : ∃ x, x = w2.alloc (.cells #[.string (nameS r.k)] 9) := ⟨_, rfl⟩
  rw [← hw3, ← hs0] at O3
  rw [← hs0] at hbs hws
  have hs3 : s0 ≤ w3.heap.size := by rw [hs0, hw3]; exact ((Frm.refl M0 w2).alloc (.cells #[.string (nameS r.k)] 9)).size
  rw [← hw3] at H3 F3
  rw [← hw3, ← hs0]
  clear hw3 H2 F2 hs0
  have c1 : w3.cell? ⟨b, 1, none⟩ = some (.int .i64 r.e) := cell_at H3.out 1
  have c2 : w3.cell? ⟨b, 2, none⟩ = some (.int .i64 r.w) := cell_at H3.out 2
  have c3 : w3.cell? ⟨b, 3, none⟩ = some (.int .i64 r.n) := cell_at H3.out 3
  have c4 : w3.cell? ⟨b, 4, none⟩ = some (.int .i64 r.q) := cell_at H3.out 4
  go_wp2_with fail
  have H4 := hid (((Frm.refl M0 w3).alloc (.cells #[.int .i64 r.e, .int .i64 r.w, .int .i64 r.n, .int .i64 r.q] 3)).heap H3.out (fun h => h))
  have F4 := hid (F3.out.alloc (.cells #[.int .i64 r.e, .int .i64 r.w, .int .i64 r.n, .int .i64 r.q] 3))
  have O4 := hid (O3.out.alloc (.cells #[.int .i64 r.e, .int .i64 r.w, .int .i64 r.n, .int .i64 r.q] 3))
  have R4 := hid (Rd.ofOwns (World.ownsRow_lit (base := w3.heap.size) (e := 3) (size := 1) w3 #[.int .i64 r.e, .int .i64 r.w, .int .i64 r.n, .int .i64 r.q] 4 (Nat.le_refl _) (by unfold maxLen; omega) rfl))
  obtain ⟨g, hg⟩ : ∃ g, g = w3.heap.size := ⟨_, rfl⟩
  obtain ⟨w4, hw4⟩ : ∃ x, x = w3.alloc (.cells #[.int .i64 r.e, .int .i64 r.w, .int .i64 r.n, .int .i64 r.q] 3) := ⟨_, rfl⟩
  rw [← hw4] at H4 F4 O4 R4
  rw [← hg] at R4
  rw [← hw4, ← hg]
  have G4 := hid (show w4.heap[g]? = some (.cells #[.int .i64 r.e, .int .i64 r.w, .int .i64 r.n, .int .i64 r.q] 3 (0, 0)) by rw [hw4, hg]; exact new1 w3 _)
  have hs4 : s0 ≤ w4.heap.size := by rw [hw4]; exact Nat.le_trans hs3 ((Frm.refl M0 w3).alloc _).size
  clear hw4 H3 F3 O3 hg c1 c2 c3 c4
  obtain ⟨L, hL⟩ : ∃ L, L = r.four := ⟨_, rfl⟩
  have R5 : Hid (Rd w4 1 (.slice (some ⟨g, 0, none⟩) 4 4) L.length (ints .i64 L)) := by rw [hL]; exact R4
  have HA : Hid (partsA r = nameS r.k :: words L) := by rw [hL]; rfl
  have HP : Hid (∀ x ∈ L, -9223372036854775808 ≤ x ∧ x ≤ 9223372036854775807) := by rw [hL]; exact HY.out.ns
  have HN : Hid (L.length = 4) := by rw [hL]; rfl
  clear hL R4
  have HB := hid (And.intro hbs (And.intro hws hs4))
  clear hbs hws hs4 hs3
  go_loopw [3, 5, 23] (fun v3 _s5 i9 wr => ∃ k : Nat, k ≤ 4 ∧ i9 = .int .i64 k ∧ Hid (wr.ownsRow s0 9 1 v3 (nameS r.k :: words (L.take k)).length (strs (nameS r.k :: words (L.take k)))) ∧ Hid (Frm (fun x => s0 ≤ x ∧ x ≠ g) w4 wr)) (fun _ _ i _ => 4 - (intOf i).toNat)
  case atStart => exact ⟨0, Nat.zero_le _, rfl, O4, hid (Frm.refl _ _)⟩
  case round =>
    clear O4
    obtain ⟨k, hk, rfl, HO, HF⟩ := hrel
    have hlw : (nameS r.k :: words (L.take k)).length = k + 1 := by rw [List.length_cons, words_len, List.length_take, HN.out]; omega
    have HLW := hid hlw; clear hlw
    have hF : Frm M0 w wr := F4.out.trans HF.out (fun j hj hm => by have := HB.out.2.1; omega)
    have HFF := hid hF; clear hF
    have HG := hid (HF.out.heap G4.out (fun h => h.2 rfl))
    have HS : Hid (s0 ≤ wr.heap.size) := hid (Nat.le_trans HB.out.2.2 HF.out.size)
    by_cases hlt : k < 4
    · have hkL : k < L.length := by rw [HN.out]; exact hlt
      obtain ⟨x, HX, hc⟩ := (R5.out.frm HF.out (fun j hj h => h.2 (Option.some.inj hj).symm)).cellAt k hkL
      rw [Nat.zero_add] at hc
      have hx := HP.out x (List.mem_of_getElem? HX.out)
      have HXB := hid hx
      clear hx hkL
      go_wp2_with fail
      refine (itoa_calls x _ HXB.out.1 HXB.out.2 (HT.out.frm HFF.out)).mono ?_
      rintro _ w5 ⟨rfl, hf⟩
      have HO2 := hid (hf.owns HO.out (fun _ _ h => h))
      have HF2 := hid (HF.out.then0 hf)
      have HG2 := hid (hf.heap HG.out (fun h => h))
      clear hf hc
      go_wp2_with (first | (at_builtin; refine wpList_push_el strs_len strs_one rfl (.tmp 27) (.tmp 30) 59 rfl s0 9 (.string ⟨#[]⟩) 16 Tryz.underlying59 (by kernel_rfl) rfl (by decide) _ (nameS r.k :: words (L.take k)) (str (Lib.itoa x)) #[.string (str (Lib.itoa x))] rfl rfl HO2.out rfl (by rw [HLW.out]; omega) (by rw [HLW.out]; omega) (Nat.le_trans HB.out.2.2 HF2.out.size) ?_; intro v3 w6 ho3 hg3; have HO3 := hid ho3; have HG3 := hid hg3; clear ho3 hg3))
      refine ⟨⟨k + 1, by omega, by go_num, hid ?_, hid ?_⟩, by simp [intOf]; omega⟩
      · rw [take_snoc HX.out, ← words_snoc]; exact HO3.out
      · refine HF2.out.grown HG3.out (fun j hj hlt' => ⟨(HO2.out.lt j hj).1, ?_⟩)
        rintro rfl
        obtain ⟨c, fz, hcc⟩ := Lib.ownsRow_kind HO2.out _ hj
        rw [HG2.out] at hcc
        simp at hcc
    · obtain rfl : k = 4 := by omega
      have ht : L.take 4 = L := List.take_of_length_le (by rw [HN.out]; omega)
      have hO := HO.out
      rw [ht, ← HA.out] at hO
      have HO5 := hid hO
      have hH := HF.out.heap H4.out (fun h => by have := HB.out.1; omega)
      have HH := hid hH
      have HTT := hid (HT.out.frm HFF.out)
      clear HO hO ht hH HLW R5 HG
      -- behind the loop
      have HLA : Hid ((partsA r).length = 5) := by rw [HA.out]; exact hid (by rw [List.length_cons, words_len, HN.out])
      have c5 : wr.cell? ⟨b, 5, none⟩ = some (.string r.t) := cell_at HH.out 5
      have hj : ∀ (l : List ByteArray), l = partsA r ++ partsT r ++ partsP r → (Lib.join (l.map (·.data.toList)) [32]).length ≤ 140737488355328 := by
        rintro l rfl
        have h1 := joinS_size 100000 _ (parts_bound r HY.out)
        have h2 := (parts_len r).1
        exact Nat.le_trans h1 (Nat.le_trans (Nat.mul_le_mul_right _ h2) (by decide))
      have HJ := hid hj; clear hj
      by_cases hE : r.t.toList.isEmpty = true
      case pos =>
        have HE := hid hE
        go_upto_region 11 with fail
        clear c5 hE
        have c0 : wr.cell? ⟨b, 0, none⟩ = some (.int .i64 r.k) := cell_at HH.out 0
        by_cases hk : r.k = 3
        case neg =>
          have HK := hid hk
          have hkb : (r.k == 3) = false := beq_eq_false_iff_ne.2 hk
          clear hk
          go_upto_region 13 with fail
          clear c0 hkb
          have hR := Rd.ofOwns HO5.out
          obtain ⟨aj, cj, hjv, _⟩ := hR.shape
          have HRR := hid hR; clear hR
          have HEQ : Hid (partsA r = partsA r ++ partsT r ++ partsP r) := hid (by unfold partsT partsP; rw [if_pos HE.out, if_neg HK.out]; try simp)
          clear HO5
          subst hjv
          go_wp2_with fail
          refine (join_calls _ (partsA r) ⟨#[32]⟩ _ HRR.out (by rw [HLA.out]; omega) (by rw [HLA.out]; omega) (HJ.out _ HEQ.out)).mono ?_
          rintro _ wz ⟨rfl, hf⟩
          go_wp2_with fail
          go_ret
          exact ⟨by unfold wordsS; rw [if_pos HX.out, ← HEQ.out]; rfl, HFF.out.then0 hf⟩
        case pos =>
          have HK := hid hk
          have hkb : (r.k == 3) = true := beq_iff_eq.2 hk
          clear hk
          have HPV : Hid (r.p.val = .agg #[.int .i64 r.p.s0, .int .i64 r.p.s1, .int .i64 r.p.s2, .int .i64 r.p.s3, .int .i64 r.p.s4, .int .i64 r.p.s5, .int .i64 r.p.s6, .int .i64 r.p.s7, .int .i64 r.p.s8, .int .i64 r.p.s9, .int .i64 r.p.s10, .int .i64 r.p.s11]) := rfl
          go_upto_region 12 with fail
          clear c0 hkb
          go_wp2_with (refine wpList_load_at (by kernel_rfl) 25 (.tmp 45) (by with_reducible rfl) b 6 (by kernel_rfl) _ _ _ HH.out #[.int .i64 r.p.s0, .int .i64 r.p.s1, .int .i64 r.p.s2, .int .i64 r.p.s3, .int .i64 r.p.s4, .int .i64 r.p.s5, .int .i64 r.p.s6, .int .i64 r.p.s7, .int .i64 r.p.s8, .int .i64 r.p.s9, .int .i64 r.p.s10, .int .i64 r.p.s11] (by kernel_rfl) (by simp) _ Tryz.underlying25 rfl (by kernel_rfl) ?_)
          rw [← HPV.out]
          refine (stext_calls r.p _ (HT.out.frm HFF.out) (HY.out.p HK.out)).mono ?_
          rintro _ w8 ⟨rfl, hf⟩
          have HO8 := hid (hf.owns HO5.out (fun _ _ h => h))
          have F8 := hid (HFF.out.then0 hf)
          have Z8 : Hid (s0 ≤ w8.heap.size) := hid (Nat.le_trans HS.out hf.size)
          clear hf
          go_upto_region 13 with (at_builtin; refine wpList_push_el strs_len strs_one rfl (.tmp 44) (.tmp 48) 59 rfl s0 9 (.string ⟨#[]⟩) 16 Tryz.underlying59 (by kernel_rfl) rfl (by decide) _ (partsA r) (textS r.p) #[.string (textS r.p)] rfl rfl HO8.out rfl (by rw [HLA.out]; omega) (by rw [HLA.out]; omega) Z8.out ?_; intro v9 w9 ho hg; have HO9 := hid ho; have HG9 := hid hg; clear ho hg)
          have F9 := hid (F8.out.grown HG9.out (fun j hj hlt' => absurd (HO8.out.lt j hj).1 (by have := HB.out.2.1; omega)))
          have HL9 : Hid ((partsA r ++ [textS r.p]).length = 6) := hid (by rw [List.length_append, HLA.out]; rfl)
          clear HG9 HO8 HO5
          have hR := Rd.ofOwns HO9.out
          obtain ⟨aj, cj, hjv, _⟩ := hR.shape
          have HRR := hid hR; clear hR
          have HEQ : Hid (partsA r ++ [textS r.p] = partsA r ++ partsT r ++ partsP r) := hid (by unfold partsT partsP; rw [if_pos HE.out, if_pos HK.out]; try simp)
          clear HO9
          subst hjv
          go_wp2_with fail
          refine (join_calls _ (partsA r ++ [textS r.p]) ⟨#[32]⟩ _ HRR.out (by rw [HL9.out]; omega) (by rw [HL9.out]; omega) (HJ.out _ HEQ.out)).mono ?_
          rintro _ wz ⟨rfl, hf⟩
          go_wp2_with fail
          go_ret
          exact ⟨by unfold wordsS; rw [if_pos HX.out, ← HEQ.out]; rfl, F9.out.then0 hf⟩
      case neg =>
        have HE := hid hE
        have hE2 : r.t.toList.isEmpty = false := by simpa using hE
        clear hE
        go_upto_region 11 with (at_builtin; refine wpList_push_el strs_len strs_one rfl (.tmp 36) (.tmp 39) 59 rfl s0 9 (.string ⟨#[]⟩) 16 Tryz.underlying59 (by kernel_rfl) rfl (by decide) _ (partsA r) r.t #[.string r.t] rfl rfl HO5.out rfl (by rw [HLA.out]; omega) (by rw [HLA.out]; omega) HS.out ?_; intro v7 w7 ho hg; have HO7 := hid ho; have HG7 := hid hg; clear ho hg)
        have hq : Frm (fun x => s0 ≤ x) wr w7 := (Frm.refl _ _).grown HG7.out (fun j hj _ => (HO5.out.lt j hj).1)
        have H7 := hid (hq.heap HH.out (fun h => by have h' : s0 ≤ b := h; have := HB.out.1; omega))
        have F7 := hid (HFF.out.trans hq (fun j hj hm => by have hm' : s0 ≤ j := hm; have := HB.out.2.1; omega))
        have Z7 : Hid (s0 ≤ w7.heap.size) := hid (Nat.le_trans HS.out hq.size)
        have HL7 : Hid ((partsA r ++ [r.t]).length = 6) := hid (by rw [List.length_append, HLA.out]; rfl)
        clear c5 hE2 hq HG7 HO5
        have c0 : w7.cell? ⟨b, 0, none⟩ = some (.int .i64 r.k) := cell_at H7.out 0
        by_cases hk : r.k = 3
        case neg =>
          have HK := hid hk
          have hkb : (r.k == 3) = false := beq_eq_false_iff_ne.2 hk
          clear hk
          go_upto_region 13 with fail
          clear c0 hkb
          have hR := Rd.ofOwns HO7.out
          obtain ⟨aj, cj, hjv, _⟩ := hR.shape
          have HRR := hid hR; clear hR
          have HEQ : Hid (partsA r ++ [r.t] = partsA r ++ partsT r ++ partsP r) := hid (by unfold partsT partsP; rw [if_neg HE.out, if_neg HK.out]; try simp)
          clear HO7
          subst hjv
          go_wp2_with fail
          refine (join_calls _ (partsA r ++ [r.t]) ⟨#[32]⟩ _ HRR.out (by rw [HL7.out]; omega) (by rw [HL7.out]; omega) (HJ.out _ HEQ.out)).mono ?_
          rintro _ wz ⟨rfl, hf⟩
          go_wp2_with fail
          go_ret
          exact ⟨by unfold wordsS; rw [if_pos HX.out, ← HEQ.out]; rfl, F7.out.then0 hf⟩
        case pos =>
          have HK := hid hk
          have hkb : (r.k == 3) = true := beq_iff_eq.2 hk
          clear hk
          have HPV : Hid (r.p.val = .agg #[.int .i64 r.p.s0, .int .i64 r.p.s1, .int .i64 r.p.s2, .int .i64 r.p.s3, .int .i64 r.p.s4, .int .i64 r.p.s5, .int .i64 r.p.s6, .int .i64 r.p.s7, .int .i64 r.p.s8, .int .i64 r.p.s9, .int .i64 r.p.s10, .int .i64 r.p.s11]) := rfl
          go_upto_region 12 with fail
          clear c0 hkb
          go_wp2_with (refine wpList_load_at (by kernel_rfl) 25 (.tmp 45) (by with_reducible rfl) b 6 (by kernel_rfl) _ _ _ H7.out #[.int .i64 r.p.s0, .int .i64 r.p.s1, .int .i64 r.p.s2, .int .i64 r.p.s3, .int .i64 r.p.s4, .int .i64 r.p.s5, .int .i64 r.p.s6, .int .i64 r.p.s7, .int .i64 r.p.s8, .int .i64 r.p.s9, .int .i64 r.p.s10, .int .i64 r.p.s11] (by kernel_rfl) (by simp) _ Tryz.underlying25 rfl (by kernel_rfl) ?_)
          rw [← HPV.out]
          refine (stext_calls r.p _ (HT.out.frm F7.out) (HY.out.p HK.out)).mono ?_
          rintro _ w8 ⟨rfl, hf⟩
          have HO8 := hid (hf.owns HO7.out (fun _ _ h => h))
          have F8 := hid (F7.out.then0 hf)
          have Z8 : Hid (s0 ≤ w8.heap.size) := hid (Nat.le_trans Z7.out hf.size)
          clear hf
          go_upto_region 13 with (at_builtin; refine wpList_push_el strs_len strs_one rfl (.tmp 44) (.tmp 48) 59 rfl s0 9 (.string ⟨#[]⟩) 16 Tryz.underlying59 (by kernel_rfl) rfl (by decide) _ (partsA r ++ [r.t]) (textS r.p) #[.string (textS r.p)] rfl rfl HO8.out rfl (by rw [HL7.out]; omega) (by rw [HL7.out]; omega) Z8.out ?_; intro v9 w9 ho hg; have HO9 := hid ho; have HG9 := hid hg; clear ho hg)
          have F9 := hid (F8.out.grown HG9.out (fun j hj hlt' => absurd (HO8.out.lt j hj).1 (by have := HB.out.2.1; omega)))
          have HL9 : Hid ((partsA r ++ [r.t] ++ [textS r.p]).length = 7) := hid (by rw [List.length_append, HL7.out]; rfl)
          clear HG9 HO8 HO7
          have hR := Rd.ofOwns HO9.out
          obtain ⟨aj, cj, hjv, _⟩ := hR.shape
          have HRR := hid hR; clear hR
          have HEQ : Hid (partsA r ++ [r.t] ++ [textS r.p] = partsA r ++ partsT r ++ partsP r) := hid (by unfold partsT partsP; rw [if_neg HE.out, if_pos HK.out]; try simp)
          clear HO9
          subst hjv
          go_wp2_with fail
          refine (join_calls _ (partsA r ++ [r.t] ++ [textS r.p]) ⟨#[32]⟩ _ HRR.out (by rw [HL9.out]; omega) (by rw [HL9.out]; omega) (HJ.out _ HEQ.out)).mono ?_
          rintro _ wz ⟨rfl, hf⟩
          go_wp2_with fail
          go_ret
          exact ⟨by unfold wordsS; rw [if_pos HX.out, ← HEQ.out]; rfl, F9.out.then0 hf⟩
end Go.Proofs.YtonlmkcolndaaaaGreatDoor
namespace Go.Proofs.YtonlmkcolndaaaaGreatDoor
set_option linter.unusedVariables false
set_option linter.unusedSimpArgs false
set_option maxRecDepth 20000
open Go.RowKit Cp

theorem wire_inj {g h : Rc} (hg : rightB g = true) (hh : rightB h = true) (e : wireL g = wireL h) : g = h := by
  have a := read_good hg
  rw [e, read_good hh] at a
  exact (Prod.mk.inj a).1.symm
theorem words_some {g : Rc} (hg : rightB g = true) : (wordsS g).toList.isEmpty = false := by
  have hk : g.k = 1 ∨ g.k = 2 ∨ g.k = 3 ∨ g.k = 4 ∨ g.k = 5 ∨ g.k = 6 ∨ g.k = 7 := by
    obtain ⟨hk, _⟩ := right_facts hg
    omega
  have hn : ∃ c l, (nameS g.k).data.toList = c :: l := by
    rcases hk with h | h | h | h | h | h | h <;> rw [h] <;> exact ⟨_, _, rfl⟩
  obtain ⟨c, l, hn⟩ := hn
  have e : (wordsS g).toList = Lib.join ((partsA g ++ partsT g ++ partsP g).map (·.data.toList)) [32] := by
    rw [Lib.toList_data]
    unfold wordsS; rw [if_pos hg]; rfl
  rw [e]
  have e2 : (partsA g ++ partsT g ++ partsP g).map (·.data.toList) = (c :: l) :: ((words g.four ++ partsT g ++ partsP g).map (·.data.toList)) := by
    rw [← hn]; simp [partsA]
  rw [e2, Lib.join_cons]
  rfl
theorem right_fine {g : Rc} (hg : rightB g = true) : g.fine := by
  obtain ⟨hk, he, hw, hn, hq, ht, _, hc⟩ := right_facts hg
  refine ⟨?_, by omega, fun h3 x hx => ?_⟩
  · intro x hx
    simp only [Rc.four, List.mem_cons, List.not_mem_nil, or_false] at hx
    rcases hx with rfl | rfl | rfl | rfl <;> omega
  · have := nums_le (hc h3) x hx
    omega
end Go.Proofs.YtonlmkcolndaaaaGreatDoor
namespace Go.Proofs.YtonlmkcolndaaaaGreatDoor
set_option linter.unusedVariables false
set_option linter.unusedSimpArgs false
set_option maxRecDepth 20000
open Go.RowKit

theorem empty_isE : (⟨#[]⟩ : ByteArray).toList.isEmpty = true := by rw [Lib.toList_data]; rfl
theorem join_two (x y : List UInt8) (r : List (List UInt8)) : Lib.join (x :: y :: r) [32] = x ++ 32 :: Lib.join (y :: r) [32] := by
  rw [Lib.join_cons, Lib.join_cons]; simp [Lib.joinTail]
theorem join_ne (x : List UInt8) {r : List (List UInt8)} (h : r ≠ []) : Lib.join (x :: r) [32] = x ++ 32 :: Lib.join r [32] := by
  obtain ⟨y, s, rfl⟩ := List.exists_cons_of_ne_nil h
  exact join_two x y s
theorem splitL_joinR (t : List UInt8) : ∀ (xs : List (List UInt8)), (∀ x ∈ xs, (32 : UInt8) ∉ x) → splitL (Lib.join (xs ++ [t]) [32]) = xs ++ splitL t
  | [], _ => by rw [List.nil_append, Lib.join_one]; rfl
  | x :: xs, h => by
    rw [List.cons_append, join_ne x (by simp), splitL_app _ _ (h x (by simp)), splitL_joinR t xs (fun z hz => h z (by simp [hz]))]; rfl
theorem join_split : ∀ (l : List UInt8), Lib.join (splitL l) [32] = l
  | [] => rfl
  | c :: l => by
    have ih := join_split l
    obtain ⟨x, r, e⟩ := splitL_ne l
    by_cases h : c = 32
    · subst h
      rw [splitL_blank, join_ne _ (by rw [e]; simp), ih]; rfl
    · rw [splitL_cons_ne h e]
      rw [e, Lib.join_cons] at ih
      rw [Lib.join_cons, List.cons_append, ih]
theorem str_data (s : ByteArray) : str s.data.toList = s := by
  show (⟨s.data.toList.toArray⟩ : ByteArray) = s
  rfl

/-- The word at a place; none is empty. -/
def wd (W : List (List UInt8)) (i : Nat) : List UInt8 := W.getD i []
/-- All that is left behind so many words. -/
def restS (W : List (List UInt8)) (k : Nat) : ByteArray := str (Lib.join (W.drop k) [32])
/-- A number of a trace: none's is 0. -/
def numT (l : List UInt8) : Int := match Lib.atoiAll l with | .ok v => if digN l ≤ 9 then v else 0 | _ => 0
def numQ (l : List UInt8) : Int := match numF l with | some v => v | none => 0
/-- A way to read numbers of at most nine digits. -/
structure Nums (f : List UInt8 → Int) : Prop where
  ok : ∀ u : Int, -1000000000 < u → u < 1000000000 → f (Lib.itoa u) = u
  no : ∀ u : Int, f (Lib.itoa u) = u → -1000000000 < u ∧ u < 1000000000
theorem nums_T : Nums numT where
  ok u h0 h1 := by
    have hd := (numF_some.1 (numF_itoa h0 h1)).1
    unfold numT
    rw [atoi_itoa u (by omega) (by omega)]
    simp only []
    rw [if_pos hd]
  no u h := by
    unfold numT at h
    split at h
    · split at h
      · rename_i hd; exact small_itoa hd
      · omega
    · omega
theorem nums_Q : Nums numQ where
  ok u h0 h1 := by
    unfold numQ
    rw [numF_itoa h0 h1]
  no u h := by
    unfold numQ at h
    split at h
    · rename_i v hv
      subst h
      exact small_itoa (numF_some.1 hv).1
    · omega

/-- Is it read? Only what is written again as it was. -/
def accB (again s : ByteArray) : Bool := !again.toList.isEmpty && decide (again = s)
theorem accB_iff {a s : ByteArray} : accB a s = true ↔ a.toList.isEmpty = false ∧ a = s := by
  unfold accB
  rw [Bool.and_eq_true, decide_eq_true_eq, Bool.not_eq_true']

/- Messages. -/
def Mg.five (m : Mg) : List Int := [m.e, m.s, m.u, m.v, m.t]
def fiveB (l : List Int) : Bool := l.all fun x => decide (0 ≤ x) && decide (x ≤ 999999999)
def msgB (m : Mg) : Bool := decide (1 ≤ m.k ∧ m.k ≤ 2) && fiveB m.five
theorem msgB_iff {m : Mg} : msgB m = true ↔ (1 ≤ m.k ∧ m.k ≤ 2) ∧ ∀ x ∈ m.five, 0 ≤ x ∧ x ≤ 999999999 := by
  unfold msgB fiveB
  rw [Bool.and_eq_true, List.all_eq_true, decide_eq_true_eq]
  simp only [Bool.and_eq_true, decide_eq_true_eq]
def kndW (k : Int) : ByteArray := kndL.getD k.toNat ⟨#[]⟩
def msgS (m : Mg) : ByteArray := if msgB m = true then joinS (kndW m.k :: words m.five) else ⟨#[]⟩
def candM (f : List UInt8 → Int) (g : List UInt8 → Int) (s : ByteArray) : Mg :=
  ⟨g (wd (splitL s.data.toList) 0), f (wd (splitL s.data.toList) 1), f (wd (splitL s.data.toList) 2), f (wd (splitL s.data.toList) 3), f (wd (splitL s.data.toList) 4), f (wd (splitL s.data.toList) 5)⟩
def kindM (l : List UInt8) : Int := Lib.idxOfS kndL (str l)
def kindMr (l : List UInt8) : Int := if str l = ⟨#[114, 101, 112, 111, 114, 116]⟩ then 2 else 1
def msgR (f g : List UInt8 → Int) (s : ByteArray) : Mg × Int := if accB (msgS (candM f g s)) s = true then (candM f g s, 0) else (Mg.zero, 2)
/-- The message of words. -/
def msgF (s : ByteArray) : Mg × Int := msgR numT kindM s

theorem words_list (l : List Int) : (words l).map (·.data.toList) = l.map Lib.itoa := by unfold words; rw [List.map_map]; rfl
theorem joinS_data (l : List ByteArray) : (joinS l).data.toList = Lib.join (l.map (·.data.toList)) [32] := rfl
theorem words_nob (l : List Int) : ∀ x ∈ l.map Lib.itoa, (32 : UInt8) ∉ x := fun x hx => by obtain ⟨u, _, rfl⟩ := List.mem_map.1 hx; exact itoa_nob u
theorem knd_cases {k : Int} (h : 1 ≤ k ∧ k ≤ 2) : k = 1 ∨ k = 2 := by omega
theorem msg_split {m : Mg} (h : msgB m = true) : splitL (msgS m).data.toList = (kndW m.k).data.toList :: m.five.map Lib.itoa := by
  obtain ⟨hk, _⟩ := msgB_iff.1 h
  unfold msgS
  rw [if_pos h, joinS_data, List.map_cons, words_list, splitL_join _ (by simp)]
  intro x hx
  rcases List.mem_cons.1 hx with rfl | hx
  · rcases knd_cases hk with hk | hk <;> rw [hk] <;> decide
  · exact words_nob _ x hx
theorem msg_back {f g : List UInt8 → Int} (hf : Nums f) (hg : ∀ k, 1 ≤ k ∧ k ≤ 2 → g (kndW k).data.toList = k) {m : Mg} (h : msgB m = true) : candM f g (msgS m) = m := by
  obtain ⟨hk, h5⟩ := msgB_iff.1 h
  obtain ⟨k, e, s, u, v, t⟩ := m
  have b := fun x hx => h5 x hx
  simp only [Mg.five, List.mem_cons, List.not_mem_nil, or_false, forall_eq_or_imp, forall_eq] at b
  obtain ⟨b1, b2, b3, b4, b5⟩ := b
  unfold candM
  rw [msg_split h]
  show (⟨g (kndW k).data.toList, f (Lib.itoa e), f (Lib.itoa s), f (Lib.itoa u), f (Lib.itoa v), f (Lib.itoa t)⟩ : Mg) = _
  rw [hg k hk, hf.ok e (by omega) (by omega), hf.ok s (by omega) (by omega), hf.ok u (by omega) (by omega), hf.ok v (by omega) (by omega), hf.ok t (by omega) (by omega)]
theorem kindM_ok : ∀ k, 1 ≤ k ∧ k ≤ 2 → kindM (kndW k).data.toList = k := by
  intro k hk
  rcases knd_cases hk with rfl | rfl
  · exact idx_hit (k := 1) (by decide) rfl (by decide)
  · exact idx_hit (k := 2) (by decide) rfl (by decide)
theorem kindMr_ok : ∀ k, 1 ≤ k ∧ k ≤ 2 → kindMr (kndW k).data.toList = k := by
  intro k hk
  rcases knd_cases hk with rfl | rfl <;> decide
theorem msg_of_some {m : Mg} (h : (msgS m).toList.isEmpty = false) : msgB m = true := by
  cases hb : msgB m with
  | true => rfl
  | false =>
    unfold msgS at h
    rw [hb, if_neg (by decide)] at h
    rw [empty_isE] at h; cases h
theorem msg_some {m : Mg} (h : msgB m = true) : (msgS m).toList.isEmpty = false := by
  obtain ⟨hk, _⟩ := msgB_iff.1 h
  have e := msg_split h
  cases hl : (msgS m).data.toList with
  | nil =>
    rw [hl] at e
    rcases knd_cases hk with hk | hk <;> rw [hk] at e <;> cases e
  | cons c l => rw [Lib.toList_data, hl]; rfl
theorem msg_agree {f g f' g' : List UInt8 → Int} (hf : Nums f) (hg : ∀ k, 1 ≤ k ∧ k ≤ 2 → g (kndW k).data.toList = k) (hf' : Nums f') (hg' : ∀ k, 1 ≤ k ∧ k ≤ 2 → g' (kndW k).data.toList = k) (s : ByteArray) : msgR f g s = msgR f' g' s := by
  have key : ∀ {f g f' g' : List UInt8 → Int}, Nums f → (∀ k, 1 ≤ k ∧ k ≤ 2 → g (kndW k).data.toList = k) → Nums f' → (∀ k, 1 ≤ k ∧ k ≤ 2 → g' (kndW k).data.toList = k) → accB (msgS (candM f g s)) s = true → candM f' g' s = candM f g s := by
    intro f g f' g' hf hg hf' hg' h
    obtain ⟨h1, h2⟩ := accB_iff.1 h
    have := msg_back hf' hg' (msg_of_some h1)
    rwa [h2] at this
  unfold msgR
  by_cases h : accB (msgS (candM f g s)) s = true
  · have e := key hf hg hf' hg' h
    rw [e]
  · by_cases h' : accB (msgS (candM f' g' s)) s = true
    · have e := key hf' hg' hf hg h'
      rw [e] at h
      exact absurd h' h
    · rw [if_neg h, if_neg h']
theorem msgF_r (s : ByteArray) : msgR numQ kindMr s = msgF s := msg_agree nums_Q kindMr_ok nums_T kindM_ok s
theorem msgF_back {m : Mg} (h : msgB m = true) : msgF (msgS m) = (m, 0) := by
  unfold msgF msgR
  rw [msg_back nums_T kindM_ok h, if_pos (accB_iff.2 ⟨msg_some h, rfl⟩)]
theorem msgF_only (s : ByteArray) : (msgF s = (Mg.zero, 2)) ∨ ((msgF s).2 = 0 ∧ msgS (msgF s).1 = s ∧ msgB (msgF s).1 = true) := by
  unfold msgF msgR
  by_cases h : accB (msgS (candM numT kindM s)) s = true
  · rw [if_pos h]
    obtain ⟨h1, h2⟩ := accB_iff.1 h
    exact .inr ⟨rfl, h2, msg_of_some h1⟩
  · rw [if_neg h]; exact .inl rfl

/- Records. -/
def kindF (l : List UInt8) : Int := if str l = nameS 1 then 1 else if str l = nameS 2 then 2 else if str l = nameS 3 then 3 else if str l = nameS 4 then 4 else if str l = nameS 5 then 5 else if str l = nameS 6 then 6 else if str l = nameS 7 then 7 else 0
def candR (f : List UInt8 → Int) (s : ByteArray) : Rc :=
  ⟨kindF (wd (splitL s.data.toList) 0), f (wd (splitL s.data.toList) 1), f (wd (splitL s.data.toList) 2), f (wd (splitL s.data.toList) 3), f (wd (splitL s.data.toList) 4),
    if kindF (wd (splitL s.data.toList) 0) = 3 then ⟨#[]⟩ else restS (splitL s.data.toList) 5, if kindF (wd (splitL s.data.toList) 0) = 3 then (readS (restS (splitL s.data.toList) 5)).1 else Sp.zero⟩
def recR (f : List UInt8 → Int) (s : ByteArray) : Rc × Int := if accB (wordsS (candR f s)) s = true then (candR f s, 0) else (Rc.zero, 2)
/-- The record of words. -/
def recF (s : ByteArray) : Rc × Int := recR numT s
theorem kindF_name {k : Int} (h : 1 ≤ k ∧ k ≤ 7) : kindF (nameS k).data.toList = k := by
  have hk : k = 1 ∨ k = 2 ∨ k = 3 ∨ k = 4 ∨ k = 5 ∨ k = 6 ∨ k = 7 := by omega
  rcases hk with rfl | rfl | rfl | rfl | rfl | rfl | rfl <;> decide
theorem name_nob {k : Int} (h : 1 ≤ k ∧ k ≤ 7) : (32 : UInt8) ∉ (nameS k).data.toList := by
  have hk : k = 1 ∨ k = 2 ∨ k = 3 ∨ k = 4 ∨ k = 5 ∨ k = 6 ∨ k = 7 := by omega
  rcases hk with rfl | rfl | rfl | rfl | rfl | rfl | rfl <;> decide
theorem rec_of_some {r : Rc} (h : (wordsS r).toList.isEmpty = false) : rightB r = true := by
  cases hb : rightB r with
  | true => rfl
  | false =>
    unfold wordsS at h
    rw [hb, if_neg (by decide)] at h
    rw [empty_isE] at h; cases h
theorem begin_text {r : Rc} (h : rightB r = true) (h3 : r.k = 3) : r.t = ByteArray.empty := by
  obtain ⟨k, e, v, n, q, t, p⟩ := r
  simp only [] at h3
  subst h3
  unfold rightB at h
  rw [Bool.and_eq_true] at h
  have h3 : beginB ⟨3, e, v, n, q, t, p⟩ = true := h.2
  simp only [beginB, Bool.and_eq_true, btw_true, req_iff, decide_eq_true_eq] at h3
  obtain ⟨_, _, _, _, _, _, _, ht, _⟩ := h3
  exact ht
/-- What stands behind a record's first five words. -/
def tailL (r : Rc) : List (List UInt8) := if r.k = 3 then splitL (textS r.p).data.toList else if r.t.toList.isEmpty = true then [] else splitL r.t.data.toList
theorem rec_split {r : Rc} (h : rightB r = true) : splitL (wordsS r).data.toList = (nameS r.k).data.toList :: (r.four.map Lib.itoa ++ tailL r) := by
  obtain ⟨hk, _⟩ := right_facts h
  have nob : ∀ x ∈ (nameS r.k).data.toList :: r.four.map Lib.itoa, (32 : UInt8) ∉ x := by
    intro x hx
    rcases List.mem_cons.1 hx with rfl | hx
    · exact name_nob hk
    · exact words_nob _ x hx
  have e0 : (partsA r).map (·.data.toList) = (nameS r.k).data.toList :: r.four.map Lib.itoa := by
    unfold partsA; rw [List.map_cons, words_list]
  unfold wordsS
  rw [if_pos h, joinS_data, List.map_append, List.map_append, e0]
  unfold tailL partsT partsP
  by_cases h3 : r.k = 3
  · have ht : r.t.toList.isEmpty = true := by rw [begin_text h h3]; exact empty_isE
    rw [if_pos h3, if_pos h3, if_pos ht]
    simp only [List.map_nil, List.append_nil, List.map_cons]
    rw [splitL_joinR _ _ nob]; rfl
  · rw [if_neg h3, if_neg h3]
    by_cases ht : r.t.toList.isEmpty = true
    · rw [if_pos ht, if_pos ht]
      simp only [List.map_nil, List.append_nil]
      exact splitL_join _ (by simp) nob
    · rw [if_neg ht, if_neg ht]
      simp only [List.map_nil, List.append_nil, List.map_cons]
      rw [splitL_joinR _ _ nob]; rfl
def Rc.small (r : Rc) : Prop := ∀ x ∈ r.four, -1000000000 < x ∧ x < 1000000000
theorem rec_back {f : List UInt8 → Int} (hf : Nums f) {r : Rc} (h : rightB r = true) (hs : r.small) : candR f (wordsS r) = r := by
  obtain ⟨hk, _, _, _, _, _, hp, hc⟩ := right_facts h
  have b := fun x hx => hs x hx
  simp only [Rc.four, List.mem_cons, List.not_mem_nil, or_false, forall_eq_or_imp, forall_eq] at b
  obtain ⟨b1, b2, b3, b4⟩ := b
  have hrest : restS (splitL (wordsS r).data.toList) 5 = str (Lib.join (tailL r) [32]) := by
    unfold restS
    rw [rec_split h]; rfl
  have hk0 : wd (splitL (wordsS r).data.toList) 0 = (nameS r.k).data.toList := by rw [rec_split h]; rfl
  unfold candR
  rw [hrest, hk0, kindF_name hk, rec_split h]
  show (⟨r.k, f (Lib.itoa r.e), f (Lib.itoa r.w), f (Lib.itoa r.n), f (Lib.itoa r.q), _, _⟩ : Rc) = _
  rw [hf.ok _ b1.1 b1.2, hf.ok _ b2.1 b2.2, hf.ok _ b3.1 b3.2, hf.ok _ b4.1 b4.2]
  unfold tailL
  by_cases h3 : r.k = 3
  · rw [if_pos h3, if_pos h3, if_pos h3, join_split, str_data, read_text (hc h3)]
    have := begin_text h h3
    obtain ⟨k, e, v, n, q, t, p⟩ := r
    simp only [] at this ⊢
    rw [this]; rfl
  · rw [if_neg h3, if_neg h3, if_neg h3]
    have := hp h3
    obtain ⟨k, e, v, n, q, t, p⟩ := r
    simp only [] at this ⊢
    rw [this]
    congr 1
    by_cases ht : t.toList.isEmpty = true
    · rw [if_pos ht]
      rw [Lib.toList_data, List.isEmpty_iff] at ht
      rw [← str_data t, ht]; rfl
    · rw [if_neg ht, join_split, str_data]
theorem rec_small {f : List UInt8 → Int} (hf : Nums f) {s : ByteArray} (h : accB (wordsS (candR f s)) s = true) : (candR f s).small := by
  obtain ⟨h1, h2⟩ := accB_iff.1 h
  have hr := rec_of_some h1
  have e := rec_split hr
  rw [h2] at e
  obtain ⟨c, hc⟩ : ∃ c, c = candR f s := ⟨_, rfl⟩
  have e1 : c.e = f (wd (splitL s.data.toList) 1) := by rw [hc]; rfl
  have e2 : c.w = f (wd (splitL s.data.toList) 2) := by rw [hc]; rfl
  have e3 : c.n = f (wd (splitL s.data.toList) 3) := by rw [hc]; rfl
  have e4 : c.q = f (wd (splitL s.data.toList) 4) := by rw [hc]; rfl
  rw [← hc] at e ⊢
  rw [e] at e1 e2 e3 e4
  intro x hx
  simp only [Rc.four, List.mem_cons, List.not_mem_nil, or_false] at hx
  rcases hx with rfl | rfl | rfl | rfl
  · exact hf.no _ e1.symm
  · exact hf.no _ e2.symm
  · exact hf.no _ e3.symm
  · exact hf.no _ e4.symm
theorem rec_agree {f f' : List UInt8 → Int} (hf : Nums f) (hf' : Nums f') (s : ByteArray) : recR f s = recR f' s := by
  have key : ∀ {f f' : List UInt8 → Int}, Nums f → Nums f' → accB (wordsS (candR f s)) s = true → candR f' s = candR f s := by
    intro f f' hf hf' h
    obtain ⟨h1, h2⟩ := accB_iff.1 h
    have := rec_back hf' (rec_of_some h1) (rec_small hf h)
    rwa [h2] at this
  unfold recR
  by_cases h : accB (wordsS (candR f s)) s = true
  · have e := key hf hf' h
    rw [e]
  · by_cases h' : accB (wordsS (candR f' s)) s = true
    · have e := key hf' hf h'
      rw [e] at h
      exact absurd h' h
    · rw [if_neg h, if_neg h']
theorem recF_r (s : ByteArray) : recR numQ s = recF s := rec_agree nums_Q nums_T s
theorem recF_back {r : Rc} (h : rightB r = true) (hs : r.small) : recF (wordsS r) = (r, 0) := by
  unfold recF recR
  rw [rec_back nums_T h hs, if_pos (accB_iff.2 ⟨words_some h, rfl⟩)]
theorem recF_only (s : ByteArray) : (recF s = (Rc.zero, 2)) ∨ ((recF s).2 = 0 ∧ wordsS (recF s).1 = s ∧ rightB (recF s).1 = true ∧ (recF s).1.small) := by
  unfold recF recR
  by_cases h : accB (wordsS (candR numT s)) s = true
  · rw [if_pos h]
    obtain ⟨h1, h2⟩ := accB_iff.1 h
    exact .inr ⟨rfl, h2, rec_of_some h1, rec_small nums_T h⟩
  · rw [if_neg h]; exact .inl rfl
/-- A message's words are no record's, and the other way. -/
theorem recF_msg {m : Mg} (h : msgB m = true) : recF (msgS m) = (Rc.zero, 2) := by
  rcases recF_only (msgS m) with h1 | ⟨_, h2, h3, _⟩
  · exact h1
  · have e := rec_split h3
    rw [h2, msg_split h] at e
    have e := (List.cons.inj e).1
    obtain ⟨hk, _⟩ := msgB_iff.1 h
    obtain ⟨hk', _⟩ := right_facts h3
    exfalso
    revert e
    have hr : (recF (msgS m)).1.k = 1 ∨ (recF (msgS m)).1.k = 2 ∨ (recF (msgS m)).1.k = 3 ∨ (recF (msgS m)).1.k = 4 ∨ (recF (msgS m)).1.k = 5 ∨ (recF (msgS m)).1.k = 6 ∨ (recF (msgS m)).1.k = 7 := by omega
    rcases knd_cases hk with hk | hk <;> rw [hk] <;> rcases hr with h | h | h | h | h | h | h <;> rw [h] <;> decide
theorem msgF_rec {r : Rc} (h : rightB r = true) : msgF (wordsS r) = (Mg.zero, 2) := by
  rcases msgF_only (wordsS r) with h1 | ⟨_, h2, h3⟩
  · exact h1
  · have e := msg_split h3
    rw [h2, rec_split h] at e
    have e := (List.cons.inj e).1
    obtain ⟨hk, _⟩ := msgB_iff.1 h3
    obtain ⟨hk', _⟩ := right_facts h
    exfalso
    revert e
    have hr : r.k = 1 ∨ r.k = 2 ∨ r.k = 3 ∨ r.k = 4 ∨ r.k = 5 ∨ r.k = 6 ∨ r.k = 7 := by omega
    rcases knd_cases hk with hk | hk <;> rw [hk] <;> rcases hr with h | h | h | h | h | h | h <;> rw [h] <;> decide
end Go.Proofs.YtonlmkcolndaaaaGreatDoor
namespace Go.Proofs.YtonlmkcolndaaaaGreatDoor
set_option linter.unusedVariables false
set_option linter.unusedSimpArgs false
set_option maxRecDepth 20000
open Go.RowKit

theorem inB_knd (k : Int) : inB kndL k = decide (1 ≤ k ∧ k ≤ 2) := by
  by_cases h : 0 ≤ k ∧ k ≤ 2
  · have hk : k = 0 ∨ k = 1 ∨ k = 2 := by omega
    rcases hk with rfl | rfl | rfl <;> decide +kernel
  · unfold inB
    rw [show kndL.length = 3 from rfl]
    rw [decide_eq_false (show ¬ (1 ≤ k ∧ k ≤ 2) by omega)]
    by_cases h0 : 0 ≤ k
    · rw [decide_eq_false (show ¬ k < ((3 : Nat) : Int) by omega)]; simp
    · rw [decide_eq_false h0]; rfl
/-- A message's box. -/
abbrev mgC (k e s u v t : Int) : Array Value := #[.int .i64 k, .int .i64 e, .int .i64 s, .int .i64 u, .int .i64 v, .int .i64 t]
theorem fiveB_take {l : List Int} {x : Int} {k : Nat} (h : l[k]? = some x) : fiveB (l.take (k + 1)) = (fiveB (l.take k) && (decide (0 ≤ x) && decide (x ≤ 999999999))) := by
  rw [take_snoc h]
  unfold fiveB
  rw [List.all_append]
  simp
theorem fiveB_bad {l : List Int} {x : Int} (h : x ∈ l) (hx : ¬ (0 ≤ x ∧ x ≤ 999999999)) : fiveB l = false := by
  rw [← Bool.not_eq_true]
  unfold fiveB
  rw [List.all_eq_true]
  intro hh
  have := hh x h
  rw [Bool.and_eq_true, decide_eq_true_eq, decide_eq_true_eq] at this
  exact hx this
theorem five_join (x : ByteArray) (L : List Int) (hx : x.size ≤ 21) (hL : L.length = 5) (hb : ∀ y ∈ L, -9223372036854775808 ≤ y ∧ y ≤ 9223372036854775807) : (Lib.join ((x :: words L).map (·.data.toList)) [32]).length ≤ 140737488355328 := by
  have h1 := joinS_size 21 (x :: words L) (fun z hz => by
    rcases List.mem_cons.1 hz with rfl | hz
    · exact hx
    · exact words_bound _ hb z hz)
  rw [List.length_cons, words_len, hL] at h1
  exact Nat.le_trans h1 (by decide)

set_option maxRecDepth 20000 in
set_option maxHeartbeats 4000000 in
theorem tmsg_calls (m : Mg) (w : World) (ht : Tab w) : Calls Tryz.prog 12 #[m.val] w fun x w' => x = .returned (.string (msgS m)) ∧ Frm M0 w w' := by
  have HT := hid ht
  obtain ⟨k, e, s, u, v, t⟩ := m
  obtain ⟨R, HR⟩ : ∃ R, Hid (R = msgS ⟨k, e, s, u, v, t⟩) := ⟨_, rfl⟩
  rw [← HR.out]
  obtain ⟨i, HI⟩ : ∃ i, Hid (inB kndL k = i) := ⟨_, rfl⟩
  clear ht
  unfold Mg.val
  simp only []
  go_enter Tryz.func12, Tryz.ntmps12
  go_upto_region 1 with fail
  obtain ⟨b, hb⟩ : ∃ b, b = w.heap.size := ⟨_, rfl⟩
  obtain ⟨w1, hw1⟩ : ∃ x, x = w.alloc (.cells (mgC k e s u v t) 29) := ⟨_, rfl⟩
  have hh := new1 w (.cells (mgC k e s u v t) 29)
  have hf0 := (Frm.refl M0 w).alloc (.cells (mgC k e s u v t) 29)
  rw [← hw1] at hh hf0 ⊢
  rw [← hb] at hh ⊢
  have HH := hid hh
  have HF := hid hf0
  have HB := hid hb
  clear hw1 hb hh hf0
  have HSF : Hid (∀ wx, Frm M0 w1 wx → wx.cell? ⟨b, 0, none⟩ = some (.int .i64 k)) := hid (fun wx hx => cell_at (hx.heap HH.out (fun h => h)) 0)
  have HFq := hid ((Frm.refl M0 w1).drew)
  go_region_held3 (fun wx => wx.cell? ⟨b, 0, none⟩ = some (.int .i64 k)) (first | with_reducible exact HSF.out _ HFq.out | go_keep)
    (first
     | (go_at_call 31; (refine (knd_calls _).mono ?_); (rintro _ wk ⟨bk, _hbk, rfl, hr, hf⟩); (have hx := Frm.then0 HFq.out hf); clear HFq; (have HFq := hid hx); (have HRd := hid hr); clear hx hf hr)
     | (go_at_call 28; (refine (in_calls _ kndL k _ HRd.out).mono ?_); (rintro _ w2 ⟨rfl, hf⟩); (have hx := Frm.then0 HFq.out hf); clear HFq; (have HFq := hid hx); clear hx hf; rw [HI.out]))
  have HF2 := hid (HF.out.then0 HFq.out)
  have HH2 := hid (HFq.out.heap HH.out (fun h => h))
  clear HSF HFq HRd HF HH
  have HII := inB_knd k
  rw [HI.out] at HII
  cases i
  · have HZ : Hid (R = ⟨#[]⟩) := hid (by
      rw [HR.out]; unfold msgS
      rw [if_neg]
      rw [msgB_iff]
      intro h
      have := of_decide_eq_false HII.symm
      exact this h.1)
    clear HII
    go_wp2_with fail
    go_ret
    exact ⟨by rw [HZ.out]; rfl, HF2.out⟩
  have hk := of_decide_eq_true HII.symm
  clear HII HI
  obtain ⟨n, rfl⟩ : ∃ n : Nat, k = n := ⟨k.toNat, by omega⟩
  have hn : n < kndL.length := by show n < 3; omega
  have hn0 : (0 : Int) ≤ (n : Int) := by omega
  have hn1 : (n : Int) < 3 := by omega
  obtain ⟨X, HX⟩ : ∃ X, Hid (kndL[n] = X) := ⟨_, hid rfl⟩
  have HKW : Hid (kndW n = X) := hid (by rw [← HX.out]; unfold kndW; rw [Int.toNat_natCast, List.getD_eq_getElem?_getD, List.getElem?_eq_getElem hn]; rfl)
  have HXS : Hid (X.size ≤ 21) := hid (by
    rw [← HKW.out]
    rcases knd_cases hk with h | h <;> rw [h] <;> decide)
  have HN := hid hn
  have HK := hid hk
  clear hk
  have HSF : Hid (∀ wx, Frm M0 w2 wx → wx.cell? ⟨b, 0, none⟩ = some (.int .i64 n)) := hid (fun wx hx => cell_at (hx.heap HH2.out (fun h => h)) 0)
  have HFq := hid ((Frm.refl M0 w2).drew)
  go_upto_region 3 with fail
  have c00 : w2.cell? ⟨b, 0, none⟩ = some (.int .i64 n) := HSF.out _ (Frm.refl _ _)
  go_cut [3] (fun s3 wx => ∃ wk, s3 = .slice (some ⟨wk.heap.size, 0, none⟩) 1 1 ∧ Hid (Frm M0 w2 wk) ∧ Hid (wk.alloc (.cells #[.string X] 9) = wx))
  case first =>
    go_region_with
      (first
       | (go_at_call 31; (refine (knd_calls _).mono ?_); (rintro _ wk ⟨bk, _hbk, rfl, hr, hf⟩); (have hc := hr.strAt n HN.out); rw [Nat.zero_add, HX.out] at hc; (have hx := Frm.then0 HFq.out hf); (have c0 := HSF.out _ hx); clear HFq; (have HFq := hid hx); clear hx hf hr))
    all_goals (go_wp2_with fail; go_meet; exact ⟨_, rfl, HFq, hid rfl⟩)
  obtain ⟨wk, rfl, HFq, HWK⟩ := hcut
  rw [← HWK.out]
  clear HWK
  have HF3 := hid ((HF2.out.then0 HFq.out).alloc (.cells #[.string X] 9))
  have HH3 := hid (((HFq.out.alloc (.cells #[.string X] 9))).heap HH2.out (fun h => h))
  have O3 := hid ((World.ownsRow_lit (base := wk.heap.size) (e := 9) (size := 1) wk #[.string X] 1 (Nat.le_refl _) (by unfold maxLen; omega) rfl))
  obtain ⟨s0, hs0⟩ : ∃ s0, s0 = wk.heap.size := ⟨_, rfl⟩
  obtain ⟨w3, hw3⟩ : ∃ x, x = wk.alloc (.cells #[.string X] 9) := ⟨_, rfl⟩
  have hbs : b < wk.heap.size := sb_lt (HFq.out.heap HH2.out (fun h => h))
  have hws : w.heap.size ≤ wk.heap.size := (HF2.out.then0 HFq.out).size
  have hs3 : s0 ≤ w3.heap.size := by rw [hs0, hw3]; exact ((Frm.refl M0 wk).alloc (.cells #[.string X] 9)).size
  rw [← hw3] at HF3 HH3 O3
  rw [← hs0] at O3 hbs hws
  rw [← hw3, ← hs0]
  have HBB := hid (And.intro hbs (And.intro hws hs3))
  clear hw3 hs0 HSF HFq HF2 HH2 hbs hws hs3 hn0 hn1
  have c1 : w3.cell? ⟨b, 1, none⟩ = some (.int .i64 e) := cell_at HH3.out 1
  have c2 : w3.cell? ⟨b, 2, none⟩ = some (.int .i64 s) := cell_at HH3.out 2
  have c3 : w3.cell? ⟨b, 3, none⟩ = some (.int .i64 u) := cell_at HH3.out 3
  have c4 : w3.cell? ⟨b, 4, none⟩ = some (.int .i64 v) := cell_at HH3.out 4
  have c5 : w3.cell? ⟨b, 5, none⟩ = some (.int .i64 t) := cell_at HH3.out 5
  go_wp2_with fail
  have F4 := hid (HF3.out.alloc (.cells #[.int .i64 e, .int .i64 s, .int .i64 u, .int .i64 v, .int .i64 t] 3))
  have O4 := hid (O3.out.alloc (.cells #[.int .i64 e, .int .i64 s, .int .i64 u, .int .i64 v, .int .i64 t] 3))
  have R4 := hid (Rd.ofOwns (World.ownsRow_lit (base := w3.heap.size) (e := 3) (size := 1) w3 #[.int .i64 e, .int .i64 s, .int .i64 u, .int .i64 v, .int .i64 t] 5 (Nat.le_refl _) (by unfold maxLen; omega) rfl))
  obtain ⟨g, hg⟩ : ∃ g, g = w3.heap.size := ⟨_, rfl⟩
  obtain ⟨w4, hw4⟩ : ∃ x, x = w3.alloc (.cells #[.int .i64 e, .int .i64 s, .int .i64 u, .int .i64 v, .int .i64 t] 3) := ⟨_, rfl⟩
  rw [← hw4] at F4 O4 R4
  rw [← hg] at R4
  rw [← hw4, ← hg]
  have G4 := hid (show w4.heap[g]? = some (.cells #[.int .i64 e, .int .i64 s, .int .i64 u, .int .i64 v, .int .i64 t] 3 (0, 0)) by rw [hw4, hg]; exact new1 w3 _)
  have hs4 : s0 ≤ w4.heap.size := by rw [hw4]; exact Nat.le_trans HBB.out.2.2 ((Frm.refl M0 w3).alloc _).size
  have HB := hid (And.intro HBB.out.2.1 hs4)
  clear hw4 HH3 HF3 O3 hg c1 c2 c3 c4 c5 HBB hs4
  obtain ⟨L, hL⟩ : ∃ L, L = [e, s, u, v, t] := ⟨_, rfl⟩
  have R5 : Hid (Rd w4 1 (.slice (some ⟨g, 0, none⟩) 5 5) L.length (ints .i64 L)) := by rw [hL]; exact R4
  have HN5 : Hid (L.length = 5) := by rw [hL]; rfl
  have HRR : Hid (R = if fiveB L = true then joinS (X :: words L) else ⟨#[]⟩) := hid (by
    rw [HR.out, hL]
    unfold msgS msgB
    rw [show decide (1 ≤ (⟨(n : Int), e, s, u, v, t⟩ : Mg).k ∧ (⟨(n : Int), e, s, u, v, t⟩ : Mg).k ≤ 2) = true from decide_eq_true HK.out, Bool.true_and]
    show (if fiveB [e, s, u, v, t] = true then joinS (kndW n :: words [e, s, u, v, t]) else _) = _
    rw [HKW.out])
  clear hL R4 HR HKW HX
  go_loopw [3, 5, 29] (fun v3 _s5 i9 wr => ∃ k : Nat, k ≤ 5 ∧ i9 = .int .i64 k ∧ Hid (wr.ownsRow s0 9 1 v3 (X :: words (L.take k)).length (strs (X :: words (L.take k)))) ∧ Hid (fiveB (L.take k) = true) ∧ Hid (Frm (fun x => s0 ≤ x ∧ x ≠ g) w4 wr)) (fun _ _ i _ => 5 - (intOf i).toNat)
  case atStart => exact ⟨0, Nat.zero_le _, rfl, O4, hid rfl, hid (Frm.refl _ _)⟩
  case round =>
    clear O4
    obtain ⟨k, hk, rfl, HO, HOK, HF⟩ := hrel
    have hlw : (X :: words (L.take k)).length = k + 1 := by rw [List.length_cons, words_len, List.length_take, HN5.out]; omega
    have HLW := hid hlw; clear hlw
    have HFF : Hid (Frm M0 w wr) := hid (F4.out.trans HF.out (fun j hj hm => by have := HB.out.1; omega))
    have HG := hid (HF.out.heap G4.out (fun h => h.2 rfl))
    by_cases hlt : k < 5
    · have hkL : k < L.length := by rw [HN5.out]; exact hlt
      obtain ⟨x, HXx, hc⟩ := (R5.out.frm HF.out (fun j hj h => h.2 (Option.some.inj hj).symm)).cellAt k hkL
      rw [Nat.zero_add] at hc
      clear hkL
      by_cases hx : 0 ≤ x ∧ x ≤ 999999999
      case neg =>
        have HZ : Hid (R = ⟨#[]⟩) := hid (by
          rw [HRR.out, fiveB_bad (List.mem_of_getElem? HXx.out) hx]; rfl)
        by_cases hx0 : x < 0
        · clear hx
          go_wp2_with fail
          go_ret
          exact ⟨by rw [HZ.out]; rfl, HFF.out⟩
        · have hx1 : (999999999 : Int) < x := by omega
          clear hx
          go_wp2_with fail
          go_ret
          exact ⟨by rw [HZ.out]; rfl, HFF.out⟩
      have hx0 : ¬ x < 0 := by omega
      have hx1 : ¬ (999999999 : Int) < x := by omega
      have HXB := hid hx
      clear hx
      go_wp2_with fail
      refine (itoa_calls x _ (by have := HXB.out; omega) (by have := HXB.out; omega) (HT.out.frm HFF.out)).mono ?_
      rintro _ w5 ⟨rfl, hf⟩
      have HO2 := hid (hf.owns HO.out (fun _ _ h => h))
      have HF2 := hid (HF.out.then0 hf)
      have HG2 := hid (hf.heap HG.out (fun h => h))
      clear hf hc hx0 hx1
      go_wp2_with (first | (at_builtin; refine wpList_push_el strs_len strs_one rfl (.tmp 39) (.tmp 42) 59 rfl s0 9 (.string ⟨#[]⟩) 16 Tryz.underlying59 (by kernel_rfl) rfl (by decide) _ (X :: words (L.take k)) (str (Lib.itoa x)) #[.string (str (Lib.itoa x))] rfl rfl HO2.out rfl (by rw [HLW.out]; omega) (by rw [HLW.out]; omega) (Nat.le_trans HB.out.2 HF2.out.size) ?_; intro v3 w6 ho3 hg3; have HO3 := hid ho3; have HG3 := hid hg3; clear ho3 hg3))
      refine ⟨⟨k + 1, by omega, by go_num, hid ?_, hid ?_, hid ?_⟩, by simp [intOf]; omega⟩
      · rw [take_snoc HXx.out, ← words_snoc]; exact HO3.out
      · rw [fiveB_take HXx.out, HOK.out, decide_eq_true HXB.out.1, decide_eq_true HXB.out.2]; rfl
      · refine HF2.out.grown HG3.out (fun j hj hlt' => ⟨(HO2.out.lt j hj).1, ?_⟩)
        rintro rfl
        obtain ⟨c, fz, hcc⟩ := Lib.ownsRow_kind HO2.out _ hj
        rw [HG2.out] at hcc
        simp at hcc
    · obtain rfl : k = 5 := by omega
      have ht : L.take 5 = L := List.take_of_length_le (by rw [HN5.out]; omega)
      have hO := HO.out
      have hK := HOK.out
      rw [ht] at hO hK
      have HZ : Hid (R = joinS (X :: words L)) := hid (by rw [HRR.out, if_pos hK])
      have HO5 := hid (Rd.ofOwns hO)
      have HJ := hid (five_join X L HXS.out HN5.out (fun y hy => by
        have h1 := hK
        unfold fiveB at h1
        rw [List.all_eq_true] at h1
        have h2 := h1 y hy
        rw [Bool.and_eq_true, decide_eq_true_eq, decide_eq_true_eq] at h2
        omega))
      have hlen : (X :: words L).length = 6 := by rw [List.length_cons, words_len, HN5.out]
      have HLN := hid hlen
      clear HO hO hK ht HOK HLW HG hlen
      go_wp2_with fail
      refine (join_calls _ (X :: words L) ⟨#[32]⟩ _ HO5.out (by rw [HLN.out]; omega) (by rw [HLN.out]; omega) HJ.out).mono ?_
      rintro _ w5 ⟨rfl, hf⟩
      have HF5 := hid (HFF.out.then0 hf)
      have HZ2 : Hid (R = str (Lib.join ((X :: words L).map (·.data.toList)) (⟨#[32]⟩ : ByteArray).data.toList)) := hid (by rw [HZ.out]; rfl)
      rw [← HZ2.out]
      clear hf
      go_wp2_with fail
      go_ret
      exact ⟨rfl, HF5.out⟩

/-- The least, and the greatest, of five. -/
def mn5 (a b c d e : Int) : Int := min (min (min (min a b) c) d) e
def mx5 (a b c d e : Int) : Int := max (max (max (max a b) c) d) e
theorem mn5_nonneg (a b c d e : Int) : 0 ≤ mn5 a b c d e ↔ 0 ≤ a ∧ 0 ≤ b ∧ 0 ≤ c ∧ 0 ≤ d ∧ 0 ≤ e := by unfold mn5; omega
theorem mx5_le (a b c d e n : Int) : mx5 a b c d e ≤ n ↔ a ≤ n ∧ b ≤ n ∧ c ≤ n ∧ d ≤ n ∧ e ≤ n := by unfold mx5; omega
theorem run_mn5 {P : Program} (w : World) (ts : Array TypeId) (t : TypeId) (a b c d e : Int) :
    (Builtin.min_ ts t #[.int .i64 a, .int .i64 b, .int .i64 c, .int .i64 d, .int .i64 e]).run P w = .ok (.int .i64 (mn5 a b c d e)) w := by
  simp only [Builtin.min_, List.foldlM_cons, List.foldlM_nil, Builtin.min2, mn_if, Sem.run_bind, Sem.run_pure, Result.andThen_ok]
  rfl
theorem run_mx5 {P : Program} (w : World) (ts : Array TypeId) (t : TypeId) (a b c d e : Int) :
    (Builtin.max_ ts t #[.int .i64 a, .int .i64 b, .int .i64 c, .int .i64 d, .int .i64 e]).run P w = .ok (.int .i64 (mx5 a b c d e)) w := by
  simp only [Builtin.max_, List.foldlM_cons, List.foldlM_nil, Builtin.max2, mx_if, Sem.run_bind, Sem.run_pure, Result.andThen_ok]
  rfl
end Go.Proofs.YtonlmkcolndaaaaGreatDoor
namespace Go.Proofs.YtonlmkcolndaaaaGreatDoor
set_option linter.unusedVariables false
set_option linter.unusedSimpArgs false
set_option maxRecDepth 20000
open Go.RowKit

def didW (d : Int) : ByteArray := didL.getD d.toNat ⟨#[]⟩
/-- Does what is behind a line's first two words belong there? -/
def moreB (o : Ot) : Bool := if o.d = 0 then req o.r Rc.zero && meq o.m Mg.zero else if o.d = 1 then !(wordsS o.r).toList.isEmpty && (decide (o.e = 0) && meq o.m Mg.zero) else !(msgS o.m).toList.isEmpty && req o.r Rc.zero
def restO (o : Ot) : List ByteArray := if o.d = 0 then [] else if o.d = 1 then [wordsS o.r] else [msgS o.m]
def lineB (o : Ot) : Bool := decide (0 ≤ o.d ∧ o.d ≤ 3) && (decide (0 ≤ o.e ∧ o.e ≤ 13) && moreB o)
/-- A step's line. -/
def lineS (o : Ot) : ByteArray := if lineB o = true then joinS (didW o.d :: wordE o.e :: restO o) else ⟨#[]⟩
theorem lineB_iff {o : Ot} : lineB o = true ↔ (0 ≤ o.d ∧ o.d ≤ 3) ∧ (0 ≤ o.e ∧ o.e ≤ 13) ∧ moreB o = true := by
  unfold lineB
  rw [Bool.and_eq_true, Bool.and_eq_true, decide_eq_true_eq, decide_eq_true_eq]

theorem did_fin : ∀ k : Fin 4, (32 : UInt8) ∉ (didW k.val).data.toList ∧ (didW k.val).data.toList ≠ [] := by decide +kernel
theorem err_fin : ∀ k : Fin 14, (32 : UInt8) ∉ (wordE k.val).data.toList ∧ (errnoF (str (wordE k.val).data.toList)).1 = k.val := by decide +kernel
theorem did_nob {d : Int} (h : 0 ≤ d ∧ d ≤ 3) : (32 : UInt8) ∉ (didW d).data.toList ∧ (didW d).data.toList ≠ [] := by
  obtain ⟨k, rfl⟩ : ∃ k : Nat, d = k := ⟨d.toNat, by omega⟩
  exact did_fin ⟨k, by omega⟩
theorem errw_nob {e : Int} (h : 0 ≤ e ∧ e ≤ 13) : (32 : UInt8) ∉ (wordE e).data.toList ∧ (errnoF (str (wordE e).data.toList)).1 = e := by
  obtain ⟨k, rfl⟩ : ∃ k : Nat, e = k := ⟨e.toNat, by omega⟩
  exact err_fin ⟨k, by omega⟩

def tailO (o : Ot) : List (List UInt8) := if o.d = 0 then [] else if o.d = 1 then splitL (wordsS o.r).data.toList else splitL (msgS o.m).data.toList
theorem line_split {o : Ot} (h : lineB o = true) : splitL (lineS o).data.toList = (didW o.d).data.toList :: (wordE o.e).data.toList :: tailO o := by
  obtain ⟨hd, he, _⟩ := lineB_iff.1 h
  have nob : ∀ x ∈ [(didW o.d).data.toList, (wordE o.e).data.toList], (32 : UInt8) ∉ x := by
    intro x hx
    simp only [List.mem_cons, List.not_mem_nil, or_false] at hx
    rcases hx with rfl | rfl
    · exact (did_nob hd).1
    · exact (errw_nob he).1
  unfold lineS
  rw [if_pos h, joinS_data]
  unfold restO tailO
  by_cases h0 : o.d = 0
  · rw [if_pos h0, if_pos h0]
    exact splitL_join _ (by simp) nob
  · rw [if_neg h0, if_neg h0]
    by_cases h1 : o.d = 1
    · rw [if_pos h1, if_pos h1]
      exact splitL_joinR _ [_, _] nob
    · rw [if_neg h1, if_neg h1]
      exact splitL_joinR _ [_, _] nob
theorem line_some {o : Ot} (h : lineB o = true) : (lineS o).toList.isEmpty = false := by
  obtain ⟨hd, he, _⟩ := lineB_iff.1 h
  have e := line_split h
  cases hl : (lineS o).data.toList with
  | nil =>
    rw [hl] at e
    exact absurd (List.cons.inj e).1.symm (did_nob hd).2
  | cons c l => rw [Lib.toList_data, hl]; rfl
theorem line_of_some {o : Ot} (h : (lineS o).toList.isEmpty = false) : lineB o = true := by
  cases hb : lineB o with
  | true => rfl
  | false =>
    unfold lineS at h
    rw [hb, if_neg (by decide)] at h
    rw [empty_isE] at h; cases h

def candO (g : List UInt8 → Int) (s : ByteArray) : Ot :=
  ⟨g (wd (splitL s.data.toList) 0), (errnoF (str (wd (splitL s.data.toList) 1))).1,
    if g (wd (splitL s.data.toList) 0) = 1 then (recF (restS (splitL s.data.toList) 2)).1 else Rc.zero,
    if g (wd (splitL s.data.toList) 0) = 2 ∨ g (wd (splitL s.data.toList) 0) = 3 then (msgF (restS (splitL s.data.toList) 2)).1 else Mg.zero⟩
def parR (g : List UInt8 → Int) (s : ByteArray) : Ot × Int := if accB (lineS (candO g s)) s = true then (candO g s, 0) else (Ot.zero, 2)
def didF (l : List UInt8) : Int := Lib.idxOfS didL (str l)
def didFr (l : List UInt8) : Int := max (didF l) 0
/-- The step of a line. -/
def parF (s : ByteArray) : Ot × Int := parR didF s
def Dids (g : List UInt8 → Int) : Prop := ∀ d, 0 ≤ d ∧ d ≤ 3 → g (didW d).data.toList = d
theorem didF_fin : ∀ k : Fin 4, didF (didW k.val).data.toList = k.val := by decide +kernel
theorem dids_F : Dids didF := by
  intro d h
  obtain ⟨k, rfl⟩ : ∃ k : Nat, d = k := ⟨d.toNat, by omega⟩
  exact didF_fin ⟨k, by omega⟩
theorem dids_R : Dids didFr := by
  intro d h
  unfold didFr
  rw [dids_F d h]; omega
theorem meq_iff {a b : Mg} : meq a b = true ↔ a = b := by unfold meq; rw [decide_eq_true_eq]
theorem req_iff2 {a b : Rc} : req a b = true ↔ a = b := by unfold req; rw [decide_eq_true_eq]
theorem recF_small (s : ByteArray) : (recF s).1.small := by
  rcases recF_only s with h | ⟨_, _, _, h⟩
  · rw [h]
    intro x hx
    simp only [Rc.four, Rc.zero, List.mem_cons, List.not_mem_nil, or_false, or_self] at hx
    subst hx
    omega
  · exact h
theorem o_back {g : List UInt8 → Int} (hg : Dids g) {o : Ot} (h : lineB o = true) (hs : o.d = 1 → o.r.small) : candO g (lineS o) = o := by
  obtain ⟨hd, he, hm⟩ := lineB_iff.1 h
  have h0 : wd (splitL (lineS o).data.toList) 0 = (didW o.d).data.toList := by rw [line_split h]; rfl
  have h1 : wd (splitL (lineS o).data.toList) 1 = (wordE o.e).data.toList := by rw [line_split h]; rfl
  have h2 : restS (splitL (lineS o).data.toList) 2 = str (Lib.join (tailO o) [32]) := by unfold restS; rw [line_split h]; rfl
  unfold candO
  rw [h0, h1, h2, hg _ hd, (errw_nob he).2]
  obtain ⟨d, e, r, m⟩ := o
  simp only [moreB] at hm
  simp only [tailO] at hd hs ⊢
  have hc : d = 0 ∨ d = 1 ∨ d = 2 ∨ d = 3 := by omega
  rcases hc with rfl | rfl | rfl | rfl
  · simp only [if_true, Bool.and_eq_true, req_iff2, meq_iff] at hm
    obtain ⟨rfl, rfl⟩ := hm
    rfl
  · rw [if_neg (by decide), if_pos rfl, Bool.and_eq_true, Bool.and_eq_true, Bool.not_eq_true', meq_iff] at hm
    obtain ⟨hw, _, rfl⟩ := hm
    show (⟨1, e, (recF (str (Lib.join (splitL (wordsS r).data.toList) [32]))).1, Mg.zero⟩ : Ot) = _
    rw [join_split, str_data, recF_back (rec_of_some hw) (hs rfl)]
  · rw [if_neg (by decide), if_neg (by decide), Bool.and_eq_true, Bool.not_eq_true', req_iff2] at hm
    obtain ⟨hw, rfl⟩ := hm
    show (⟨2, e, Rc.zero, (msgF (str (Lib.join (splitL (msgS m).data.toList) [32]))).1⟩ : Ot) = _
    rw [join_split, str_data, msgF_back (msg_of_some hw)]
  · rw [if_neg (by decide), if_neg (by decide), Bool.and_eq_true, Bool.not_eq_true', req_iff2] at hm
    obtain ⟨hw, rfl⟩ := hm
    show (⟨3, e, Rc.zero, (msgF (str (Lib.join (splitL (msgS m).data.toList) [32]))).1⟩ : Ot) = _
    rw [join_split, str_data, msgF_back (msg_of_some hw)]
theorem cand_small (g : List UInt8 → Int) (s : ByteArray) : (candO g s).d = 1 → (candO g s).r.small := by
  intro h
  have h1 : g (wd (splitL s.data.toList) 0) = 1 := h
  have e : (candO g s).r = (recF (restS (splitL s.data.toList) 2)).1 := by
    unfold candO; simp only []; rw [if_pos h1]
  rw [e]; exact recF_small _
theorem par_agree {g g' : List UInt8 → Int} (hg : Dids g) (hg' : Dids g') (s : ByteArray) : parR g s = parR g' s := by
  have key : ∀ {g g' : List UInt8 → Int}, Dids g → Dids g' → accB (lineS (candO g s)) s = true → candO g' s = candO g s := by
    intro g g' hg hg' h
    obtain ⟨h1, h2⟩ := accB_iff.1 h
    have := o_back hg' (line_of_some h1) (cand_small g s)
    rwa [h2] at this
  unfold parR
  by_cases h : accB (lineS (candO g s)) s = true
  · have e := key hg hg' h
    rw [e]
  · by_cases h' : accB (lineS (candO g' s)) s = true
    · have e := key hg' hg h'
      rw [e] at h
      exact absurd h' h
    · rw [if_neg h, if_neg h']
theorem parF_r (s : ByteArray) : parR didFr s = parF s := par_agree dids_R dids_F s
theorem parF_back {o : Ot} (h : lineB o = true) (hs : o.d = 1 → o.r.small) : parF (lineS o) = (o, 0) := by
  unfold parF parR
  rw [o_back dids_F h hs, if_pos (accB_iff.2 ⟨line_some h, rfl⟩)]
theorem parF_only (s : ByteArray) : (parF s = (Ot.zero, 2)) ∨ ((parF s).2 = 0 ∧ lineS (parF s).1 = s) := by
  unfold parF parR
  by_cases h : accB (lineS (candO didF s)) s = true
  · rw [if_pos h]
    exact .inr ⟨rfl, (accB_iff.1 h).2⟩
  · rw [if_neg h]; exact .inl rfl

/-- What stands behind so many blanks. -/
def behL : List UInt8 → Nat → List UInt8
  | [], _ => []
  | c :: l, n => if c = 32 then (if n ≤ 1 then l else behL l (n - 1)) else behL l n
theorem behL_join : ∀ (l : List UInt8) (n : Nat), 1 ≤ n → behL l n = Lib.join ((splitL l).drop n) [32]
  | [], n, h => by
    obtain ⟨m, rfl⟩ : ∃ m, n = m + 1 := ⟨n - 1, by omega⟩
    simp [behL, splitL]; rfl
  | c :: l, n, h => by
    by_cases hc : c = 32
    · subst hc
      rw [splitL_blank]
      unfold behL
      rw [if_pos rfl]
      by_cases hn : n ≤ 1
      · obtain rfl : n = 1 := by omega
        rw [if_pos hn, List.drop_one, List.tail_cons, join_split]
      · obtain ⟨m, rfl⟩ : ∃ m, n = m + 1 := ⟨n - 1, by omega⟩
        rw [if_neg hn, List.drop_succ_cons, Nat.add_sub_cancel, behL_join l m (by omega)]
    · obtain ⟨x, r, e⟩ := splitL_ne l
      have ih := behL_join l n h
      obtain ⟨m, rfl⟩ : ∃ m, n = m + 1 := ⟨n - 1, by omega⟩
      unfold behL
      rw [if_neg hc, splitL_cons_ne hc e, ih, e, List.drop_succ_cons, List.drop_succ_cons]
theorem behS (s : ByteArray) (n : Nat) (h : 1 ≤ n) : str (behL s.data.toList n) = restS (splitL s.data.toList) n := by
  unfold restS; rw [behL_join _ _ h]
end Go.Proofs.YtonlmkcolndaaaaGreatDoor
namespace Go.Proofs.YtonlmkcolndaaaaGreatDoor
set_option linter.unusedVariables false
set_option linter.unusedSimpArgs false
set_option maxRecDepth 20000
open Go.RowKit

/-- A reader at a block that has these words left; it and its words lie below B. -/
def RdrAt (w : World) (b B : Nat) (L : List ByteArray) : Prop :=
  ∃ v, w.heap[b]? = some (.cells #[v] 94 (0, 0)) ∧ Rd w 1 v L.length (strs L) ∧ b < B ∧ ∀ j, v.ownBlock = some j → j < B ∧ j ≠ b
theorem RdrAt.frm {w w' : World} {b B : Nat} {L : List ByteArray} {M : Nat → Prop} (h : RdrAt w b B L) (hf : Frm M w w') (hM : ∀ j, j < B → ¬ M j) : RdrAt w' b B L := by
  obtain ⟨v, h1, h2, h3, h4⟩ := h
  exact ⟨v, hf.heap h1 (hM b h3), h2.frm hf (fun j hj => hM j (h4 j hj).1), h3, h4⟩
theorem RdrAt.frm0 {w w' : World} {b B : Nat} {L : List ByteArray} (h : RdrAt w b B L) (hf : Frm M0 w w') : RdrAt w' b B L := h.frm hf (fun _ _ h => h)
theorem RdrAt.up {w : World} {b B B' : Nat} {L : List ByteArray} (h : RdrAt w b B L) (hB : B ≤ B') : RdrAt w b B' L := by
  obtain ⟨v, h1, h2, h3, h4⟩ := h
  exact ⟨v, h1, h2, by omega, fun j hj => ⟨by have := (h4 j hj).1; omega, (h4 j hj).2⟩⟩
abbrev ptrB (b : Nat) : Value := .pointer (some ⟨b, 0, none⟩)
theorem getD_drop0 (L : List ByteArray) (i : Nat) (h : i < L.length) : (L.drop i)[0]'(by rw [List.length_drop]; omega) = L.getD i ⟨#[]⟩ := by
  rw [List.getElem_drop, List.getD_eq_getElem?_getD, List.getElem?_eq_getElem (by omega)]; rfl
set_option maxRecDepth 20000 in
set_option maxHeartbeats 4000000 in
theorem word1_calls (b B : Nat) (L : List ByteArray) (i : Nat) (w : World) (h : RdrAt w b B (L.drop i)) : Calls Tryz.prog 39 #[ptrB b] w fun x w' => x = .returned (.string (L.getD i ⟨#[]⟩)) ∧ RdrAt w' b B (L.drop (i + 1)) ∧ Frm (fun j => j = b) w w' := by
  have HR := hid h
  obtain ⟨v, h1, h2, h3, h4⟩ := h
  obtain ⟨a, c, rfl, hsh⟩ := h2.shape
  have c0 : w.cell? ⟨b, 0, none⟩ = some (.slice a (L.drop i).length c) := cell_at h1 0
  have z0 : w.frozen? ⟨b, 0, none⟩ = false := frozen_at h1 0
  obtain ⟨x, HX⟩ : ∃ x, Hid (L.getD i ⟨#[]⟩ = x) := ⟨_, rfl⟩
  rw [HX.out]
  by_cases hi : i < L.length
  case neg =>
    have e0 : (L.drop i).length = 0 := by rw [List.length_drop]; omega
    have e1 : L.drop (i + 1) = L.drop i := by rw [List.drop_of_length_le (by omega), List.drop_of_length_le (by omega)]
    have HE : Hid (x = ⟨#[]⟩) := hid (by rw [← HX.out, List.getD_eq_getElem?_getD, List.getElem?_eq_none (by omega)]; rfl)
    rw [e0] at c0
    rw [e1, HE.out]
    clear h1 h2 h3 h4 hsh hi e0 e1
    go_enter Tryz.func39, Tryz.ntmps39
    go_wp2_with fail
    go_ret
    exact ⟨rfl, HR.out, Frm.refl _ _⟩
  have hl : (L.drop i).length = L.length - i := List.length_drop ..
  obtain ⟨sb, o, rfl⟩ := hsh (by omega)
  have hc := h2.strAt 0 (by omega)
  rw [getD_drop0 L i hi, HX.out, Nat.add_zero] at hc
  have hcut := h2.cutFrom strs_len 1 (by omega)
  rw [List.drop_drop, Nat.mul_one, hl] at hcut
  obtain ⟨_, hcap, hcap2⟩ := h2.cap
  have H1 := hid h1
  have H4 := hid (And.intro h3 h4)
  rw [hl] at c0 hcap
  by_cases hc1 : c = 1
  · subst hc1
    have hn : L.length - i = 1 := by omega
    have H2 := hid (h2.cutAll strs_len (m := 0) rfl 0 (by omega))
    rw [hn] at c0
    have HE : Hid (L.drop (i + 1) = []) := hid (List.drop_of_length_le (by omega))
    have HS := hid (heap_set_at (o := 0) h1 (.slice (some ⟨sb, o, none⟩) 0 0))
    clear h1 h2 h3 h4 hcut hl hsh hi hn hcap hcap2
    go_enter Tryz.func39, Tryz.ntmps39
    go_wp2_with fail
    go_ret
    refine ⟨rfl, ⟨_, HS.out, ?_, H4.out.1, ?_⟩, (Frm.refl _ _).put b 0 _ (fun _ => rfl)⟩
    · rw [HE.out]
      have h5 := H2.out
      exact h5.frm ((Frm.refl (fun j => j = b) w).put b 0 _ (fun _ => rfl)) (fun j hj e => by
        have h6 : j ≠ b := (H4.out.2 j hj).2
        exact h6 e)
    · exact fun j hj => H4.out.2 j hj
  obtain ⟨n, hn⟩ : ∃ n, n + 1 = L.length - i := ⟨L.length - i - 1, by omega⟩
  obtain ⟨c', rfl⟩ : ∃ c', c = c' + 1 + 1 := ⟨c - 2, by omega⟩
  have HS := hid (heap_set_at (o := 0) h1 (.slice (some ⟨sb, o + 1, none⟩) n (c' + 1)))
  rw [← hn] at c0 hcap
  rw [← hn, Nat.add_sub_cancel, Nat.add_sub_cancel] at hcut
  have H2 := hid hcut
  have HN := hid hn
  clear h1 h2 h3 h4 hcut hl hsh hi hn
  go_enter Tryz.func39, Tryz.ntmps39
  go_wp2_with fail
  go_ret
  refine ⟨rfl, ⟨_, HS.out, ?_, H4.out.1, ?_⟩, (Frm.refl _ _).put b 0 _ (fun _ => rfl)⟩
  · have h5 := H2.out
    have e : (L.drop (i + 1)).length = n := by rw [List.length_drop]; have := HN.out; omega
    exact h5.frm ((Frm.refl (fun j => j = b) w).put b 0 _ (fun _ => rfl)) (fun j hj e => by
      have h6 : j ≠ b := (H4.out.2 j hj).2
      exact h6 e)
  · exact fun j hj => H4.out.2 j hj

theorem wd_of {L : List ByteArray} {W : List (List UInt8)} (h : L.map (·.data.toList) = W) (i : Nat) : wd W i = (L.getD i ⟨#[]⟩).data.toList := by
  subst h
  unfold wd
  rw [List.getD_eq_getElem?_getD, List.getD_eq_getElem?_getD, List.getElem?_map]
  cases L[i]? <;> rfl
theorem numT_ok {l : List UInt8} {v : Int} (h : Lib.atoiAll l = .ok v) : numT l = if digN l ≤ 9 then v else 0 := by unfold numT; rw [h]
theorem numT_no {l : List UInt8} (h : ∀ v, Lib.atoiAll l ≠ .ok v) : numT l = 0 := by
  unfold numT
  split
  · rename_i v hv; exact absurd hv (h v)
  · rfl
set_option maxRecDepth 20000 in
set_option maxHeartbeats 4000000 in
theorem tnum_calls (b B : Nat) (L : List ByteArray) (i : Nat) (w : World) (h : RdrAt w b B (L.drop i)) (hs : ∀ x ∈ L, x.size ≤ 1000000) (hgb : ∀ w', Frm (fun j => j = b) w w' → Glob w') : Calls Tryz.prog 43 #[ptrB b] w fun x w' => x = .returned (.int .i64 (numT (L.getD i ⟨#[]⟩).data.toList)) ∧ RdrAt w' b B (L.drop (i + 1)) ∧ Frm (fun j => j = b) w w' := by
  have HW := hid (word1_calls b B L i w h)
  have HG := hid hgb
  have hsz : (L.getD i ⟨#[]⟩).size ≤ 1000000 := by
    rw [List.getD_eq_getElem?_getD]
    cases he : L[i]? with
    | none => decide
    | some x => exact hs x (List.mem_of_getElem? he)
  clear h hs hgb
  obtain ⟨s, HX⟩ : ∃ s, Hid (L.getD i ⟨#[]⟩ = s) := ⟨_, rfl⟩
  rw [HX.out] at HW hsz ⊢
  have HZ := hid hsz
  obtain ⟨R, HR⟩ : ∃ R, Hid (R = numT s.data.toList) := ⟨_, rfl⟩
  rw [← HR.out]
  by_cases hok : ∃ v, Lib.atoiAll s.data.toList = .ok v
  case neg =>
    have HN : Hid (R = 0) := hid (by rw [HR.out]; exact numT_no fun v h => hok ⟨v, h⟩)
    have HC : Hid (∀ wx, Glob wx → Calls Tryz.prog 61 #[.string s] wx fun e w' => ∃ n T N, e = .returned (.tuple #[.int .i64 n, .iface T (.pointer (some ⟨N, 0, none⟩))]) ∧ Frm M0 wx w') := hid (fun wx hx => atoi_no s wx HZ.out hx fun v h => hok ⟨v, h⟩)
    clear hok hsz
    go_enter Tryz.func43, Tryz.ntmps43
    go_wp2_with fail
    refine HW.out.mono ?_
    rintro _ w1 ⟨rfl, hr, hf⟩
    have HF := hid hf
    have HRd := hid hr
    have HG1 := hid (HG.out _ hf)
    clear hf hr
    go_wp2_with fail
    refine (HC.out _ HG1.out).mono ?_
    rintro _ w2 ⟨n, T, N, rfl, hf⟩
    have HF2 := hid (HF.out.then0 hf)
    have HRd2 := hid (HRd.out.frm0 hf)
    clear hf
    go_wp2_with fail
    go_ret
    exact ⟨by rw [HN.out]; rfl, HRd2.out, HF2.out⟩
  obtain ⟨v, hv⟩ := hok
  have HNT := hid (numT_ok hv)
  have HC : Hid (∀ wx, Calls Tryz.prog 61 #[.string s] wx fun e w' => e = .returned (.tuple #[.int .i64 v, .nilIface]) ∧ Frm M0 wx w') := hid (fun wx => atoi_ok s v wx HZ.out hv)
  obtain ⟨y, HY⟩ : ∃ y, Hid (str (Lib.trimPrefix s.data.toList [45]) = y) := ⟨_, rfl⟩
  have hy : y.size = digN s.data.toList := by rw [← HY.out, str_size, trim_len]
  clear hv hsz
  by_cases hd : y.size ≤ 9
  · have HN : Hid (R = v) := hid (by rw [HR.out, HNT.out, if_pos (by omega)])
    clear hy
    have hd' : decide ((9 : Int) < (y.size : Int)) = false := decide_eq_false (by omega)
    have hd2 : decide ((y.size : Int) ≤ 9) = true := decide_eq_true (by omega)
    go_enter Tryz.func43, Tryz.ntmps43
    go_wp2_with fail
    refine HW.out.mono ?_
    rintro _ w1 ⟨rfl, hr, hf⟩
    have HF := hid hf
    have HRd := hid hr
    clear hf hr
    go_wp2_with fail
    refine (HC.out _).mono ?_
    rintro _ w2 ⟨rfl, hf⟩
    have HF2 := hid (HF.out.then0 hf)
    have HRd2 := hid (HRd.out.frm0 hf)
    clear hf
    go_wp2_with fail
    refine (trim_calls s _ _).mono ?_
    rintro _ w3 ⟨rfl, hf⟩
    have HF3 := hid (HF2.out.then0 hf)
    have HRd3 := hid (HRd2.out.frm0 hf)
    clear hf
    rw [show (⟨#[45]⟩ : ByteArray).data.toList = [45] from rfl, HY.out]
    go_wp2_with fail
    go_ret
    exact ⟨by rw [HN.out]; rfl, HRd3.out, HF3.out⟩
  · have HN : Hid (R = 0) := hid (by rw [HR.out, HNT.out, if_neg (by omega)])
    clear hy
    have hd' : decide ((9 : Int) < (y.size : Int)) = true := decide_eq_true (by omega)
    have hd2 : decide ((y.size : Int) ≤ 9) = false := decide_eq_false (by omega)
    go_enter Tryz.func43, Tryz.ntmps43
    go_wp2_with fail
    refine HW.out.mono ?_
    rintro _ w1 ⟨rfl, hr, hf⟩
    have HF := hid hf
    have HRd := hid hr
    clear hf hr
    go_wp2_with fail
    refine (HC.out _).mono ?_
    rintro _ w2 ⟨rfl, hf⟩
    have HF2 := hid (HF.out.then0 hf)
    have HRd2 := hid (HRd.out.frm0 hf)
    clear hf
    go_wp2_with fail
    refine (trim_calls s _ _).mono ?_
    rintro _ w3 ⟨rfl, hf⟩
    have HF3 := hid (HF2.out.then0 hf)
    have HRd3 := hid (HRd2.out.frm0 hf)
    clear hf
    rw [show (⟨#[45]⟩ : ByteArray).data.toList = [45] from rfl, HY.out]
    go_wp2_with fail
    go_ret
    exact ⟨by rw [HN.out]; rfl, HRd3.out, HF3.out⟩
set_option maxRecDepth 20000 in
theorem trest_calls (b B : Nat) (L : List ByteArray) (w : World) (h : RdrAt w b B L) (hl : L.length ≤ 1000001) (hs : ∀ x ∈ L, x.size ≤ 1000000) : Calls Tryz.prog 40 #[ptrB b] w fun x w' => x = .returned (.string (joinS L)) ∧ Frm M0 w w' := by
  obtain ⟨v, h1, h2, h3, h4⟩ := h
  have hj : Hid (Calls Tryz.prog 33 #[v, .string ⟨#[32]⟩] w fun e w' => e = .returned (.string (joinS L)) ∧ Frm M0 w w') := by
    by_cases h0 : 0 < L.length
    · have hb := joinS_size 1000000 L hs
      exact hid (join_calls v L ⟨#[32]⟩ w h2 h0 (by omega) (Nat.le_trans hb (Nat.le_trans (Nat.mul_le_mul_right _ hl) (by decide))))
    · have e : L = [] := List.eq_nil_of_length_eq_zero (by omega)
      subst e
      obtain ⟨a, c, rfl, _⟩ := h2.shape
      exact hid ((Tryz.strings_Join_none a c ⟨#[32]⟩ w).mono fun e w' h => ⟨h.1, by rw [h.2]; exact Frm.refl _ _⟩)
  obtain ⟨a, c, rfl, hsh⟩ := h2.shape
  have c0 : w.cell? ⟨b, 0, none⟩ = some (.slice a L.length c) := cell_at h1 0
  obtain ⟨R, HR⟩ : ∃ R, Hid (joinS L = R) := ⟨_, rfl⟩
  rw [HR.out] at hj ⊢
  clear h1 h2 h3 h4 hsh hs hl
  go_enter Tryz.func40, Tryz.ntmps40
  go_wp2_with fail
  refine hj.out.mono ?_
  rintro _ w1 ⟨rfl, hf⟩
  have HF := hid hf
  clear hf
  go_wp2_with fail
  go_ret
  exact ⟨rfl, HF.out⟩
set_option maxRecDepth 20000 in
theorem twords_calls (s : ByteArray) (w : World) (hs : s.size ≤ 1000000) (hg : Glob w) : Calls Tryz.prog 37 #[.string s] w fun x w' => ∃ b, x = .returned (ptrB b) ∧ w.heap.size ≤ b ∧ RdrAt w' b w'.heap.size (splitS s) ∧ Frm M0 w w' := by
  have HC := hid (split_calls s w hs hg)
  clear hs hg
  go_enter Tryz.func37, Tryz.ntmps37
  go_wp2_with fail
  refine HC.out.mono ?_
  rintro _ w1 ⟨b, rfl, hr, hf⟩
  have HF := hid hf
  have HR := hid hr
  clear hf hr
  go_wp2_with fail
  go_ret
  have hb := HR.out.shape
  have hlt : b < w1.heap.size ∨ (splitS s).length = 0 := by
    by_cases h0 : 0 < (splitS s).length
    · have hc := HR.out.strAt 0 h0
      exact .inl (World.block_lt_of_cell? _ _ hc)
    · exact .inr (by omega)
  have h0 : 0 < (splitS s).length := by rw [splitS_len]; omega
  have hlt : b < w1.heap.size := by rcases hlt with h | h <;> omega
  refine ⟨w1.heap.size, rfl, HF.out.size, ⟨_, new1 w1 _, HR.out.frm0 ((Frm.refl M0 w1).alloc _), by simp, fun j hj => ?_⟩, HF.out.alloc _⟩
  have e : b = j := Option.some.inj hj
  subst e
  exact ⟨by simp; omega, by omega⟩
theorem kindF_hit {s : ByteArray} {k : Int} (h : 1 ≤ k ∧ k ≤ 7) (e : nameS k = s) : kindF s.data.toList = k := by rw [← e]; exact kindF_name h
theorem kindF_miss {s : ByteArray} (h : ∀ j : Nat, 1 ≤ j → j < 8 → nameS j ≠ s) : kindF s.data.toList = 0 := by
  unfold kindF
  rw [str_data]
  rw [if_neg (fun e => h 1 (by omega) (by omega) e.symm), if_neg (fun e => h 2 (by omega) (by omega) e.symm), if_neg (fun e => h 3 (by omega) (by omega) e.symm), if_neg (fun e => h 4 (by omega) (by omega) e.symm), if_neg (fun e => h 5 (by omega) (by omega) e.symm), if_neg (fun e => h 6 (by omega) (by omega) e.symm), if_neg (fun e => h 7 (by omega) (by omega) e.symm)]
set_option maxRecDepth 20000 in
set_option maxHeartbeats 2000000 in
theorem tkind_calls (s : ByteArray) (w : World) : Calls Tryz.prog 45 #[.string s] w fun x w' => x = .returned (.int .i64 (kindF s.data.toList)) ∧ Frm M0 w w' := by
  obtain ⟨E, HE⟩ : ∃ E, Hid (kindF s.data.toList = E) := ⟨_, rfl⟩
  rw [HE.out]
  go_enter Tryz.func45, Tryz.ntmps45
  go_wp2_with fail
  go_loopw [3] (fun i3 wr => ∃ k : Nat, 1 ≤ k ∧ k ≤ 8 ∧ i3 = .int .i64 k ∧ Hid (∀ j : Nat, 1 ≤ j → j < k → nameS j ≠ s) ∧ Hid (Frm M0 w wr)) (fun i _ => 8 - (intOf i).toNat)
  case atStart => exact ⟨1, by omega, by omega, rfl, hid (fun j hj hk => by omega), hid (Frm.refl _ _)⟩
  case round =>
    obtain ⟨k, hk1, hk, rfl, HN, HF⟩ := hrel
    by_cases hlt : k < 8
    · have hle : decide ((k : Int) ≤ 7) = true := decide_eq_true (by omega)
      go_wp2_with fail
      refine (name_calls k _).mono ?_
      rintro _ w2 ⟨rfl, hf⟩
      have HF2 := hid (HF.out.then0 hf)
      clear hf
      obtain ⟨x, HX⟩ : ∃ x, Hid (nameS k = x) := ⟨_, rfl⟩
      rw [HX.out]
      by_cases hx : x = s
      · have hb : (x.toList == s.toList) = true := by rw [hx]; simp
        have HR : Hid (E = k) := hid (by rw [← HE.out]; exact kindF_hit (by omega) (by rw [HX.out, hx]))
        clear hx
        go_wp2_with fail
        go_ret
        exact ⟨by rw [HR.out]; rfl, HF2.out⟩
      · have hb : (x.toList == s.toList) = false := by
          rw [beq_eq_false_iff_ne]; intro h; exact hx ((Go.Lib.bytes_beq_iff x s).1 (by simp [h]))
        have HNN : Hid (∀ j : Nat, 1 ≤ j → j < k + 1 → nameS j ≠ s) := hid (fun j hj0 hj => by
          by_cases hjk : j < k
          · exact HN.out j hj0 hjk
          · obtain rfl : j = k := by omega
            rw [HX.out]; exact hx)
        clear hx
        go_wp2_with fail
        exact ⟨⟨k + 1, by omega, by omega, by go_num, HNN, HF2⟩, by simp [intOf]; omega⟩
    · obtain rfl : k = 8 := by omega
      have HR : Hid (E = 0) := hid (by rw [← HE.out]; exact kindF_miss HN.out)
      go_wp2_with fail
      go_ret
      exact ⟨by rw [HR.out]; rfl, HF.out⟩
end Go.Proofs.YtonlmkcolndaaaaGreatDoor
