/- The walks of the document's reader: bad, End, GetNumber. No condition. -/
import Derived.Test.YtinbidmgllmglaaDoorCg
import Derived.Test.YtinbidmgllmglaaDoorOn
import Derived.Test.YtinbidmgllmglaaDoorFe
import Derived.Deep.RegionHeld3
import Derived.RegionTactic
import Derived.Deep.DeepCutAuto
import Derived.IntWalk
import Derived.Deep.QuietTactic
import Derived.BigQuiet
import Derived.Lib.Strings
namespace Go.Proofs.YtinbidmgllmglaaDoor
set_option linter.unusedVariables false
set_option linter.unusedSimpArgs false
set_option maxRecDepth 20000
open Go.RowKit Cp

abbrev rv (v : Value) (e : Int) : Value := .agg #[v, .int .i64 e]
theorem two {w : World} {g : Nat} {a0 a1 : Value} {e : TypeId} (h : w.heap[g]? = some (.cells #[a0, a1] e (0, 0))) :
    (w.cell? ⟨g, 0, none⟩ = some a0 ∧ w.cell? ⟨g, 1, none⟩ = some a1) ∧ (w.frozen? ⟨g, 0, none⟩ = false ∧ w.frozen? ⟨g, 1, none⟩ = false) := by
  refine ⟨⟨?_, ?_⟩, ?_, ?_⟩ <;> simp [World.cell?, World.frozen?, h]
theorem put2 {w : World} {g : Nat} {a0 a1 : Value} {e : TypeId} (h : w.heap[g]? = some (.cells #[a0, a1] e (0, 0))) (b0 b1 : Value) :
    ((w.setCell ⟨g, 0, none⟩ b0).setCell ⟨g, 1, none⟩ b1).heap[g]? = some (.cells #[b0, b1] e (0, 0)) ∧ Frm (· = g) w ((w.setCell ⟨g, 0, none⟩ b0).setCell ⟨g, 1, none⟩ b1) :=
  ⟨heap_set_at (heap_set_at h b0) b1, ((Frm.refl (· = g) w).put g 0 b0 (fun _ => rfl)).put g 1 b1 (fun _ => rfl)⟩

/-- The slice reads as these bytes wherever the blocks of w0 are as they were. -/
def RdB (w0 : World) (v : Value) (l : List Int) : Prop := ∀ wx, Frm M0 w0 wx → Rd wx 1 v l.length (ints .u8 l)
theorem RdB.nil (w0 : World) : RdB w0 (.slice none 0 0) [] := fun wx _ => Rd.nil _ _
/-- What the document's reader gives: bytes that are left, the error. -/
def RefB (w0 w w' : World) (l : List Int) (e : Int) (r : Ending) (f : Value → Value) : Prop :=
  ∃ v', r = .returned (f (rv v' e)) ∧ Hid (RdB w0 v' l) ∧ Frm M0 w w'
theorem RdB.shape {w0 : World} {v : Value} {l : List Int} (h : RdB w0 v l) : ∃ a c, v = .slice a l.length c ∧ Hid (0 < l.length → ∃ b o, a = some ⟨b, o, none⟩) ∧ l.length ≤ c ∧ c ≤ 9223372036854775807 := by
  have h0 := h w0 (Frm.refl _ _)
  obtain ⟨a, c, rfl, hab⟩ := h0.shape
  obtain ⟨_, h1, h2⟩ := h0.cap
  exact ⟨a, c, rfl, hid hab, h1, h2⟩

def badF (l : List Int) (e : Int) : List Int × Int := if e = 0 then ([], 2) else (l, e)
theorem sb_str {l : List Int} (h : ∀ x ∈ l, 0 ≤ x ∧ x < 256) : sb (strOfNums l) = l := by
  unfold sb
  rw [strOfNums_data, List.map_map]
  refine (List.map_congr_left (g := id) fun x hx => ?_).trans (List.map_id _)
  have := h x hx
  simp
  omega
theorem str_eq {a b : List Int} (h : a = b) : ((strOfNums a).toList == (strOfNums b).toList) = true := by rw [h]; simp
theorem str_ne {a b : List Int} (ha : ∀ x ∈ a, 0 ≤ x ∧ x < 256) (hb : ∀ x ∈ b, 0 ≤ x ∧ x < 256) (h : a ≠ b) : ((strOfNums a).toList == (strOfNums b).toList) = false := by
  rw [beq_eq_false_iff_ne]
  intro e
  refine h ?_
  rw [← sb_str ha, ← sb_str hb]
  unfold sb
  rw [← Lib.toList_data, ← Lib.toList_data, e]
/-- A slice cut from i on. -/
theorem cutB {w0 : World} {b o c : Nat} {l : List Int} (h : RdB w0 (.slice (some ⟨b, o, none⟩) l.length c) l) (i : Nat) (hi : i ≤ l.length) :
    ∃ A : Addr, (if c = i then (some ⟨b, o, none⟩ : Option Addr) else some ⟨b, o + i, none⟩) = some A ∧ RdB w0 (.slice (some A) (l.length - i) (c - i)) (l.drop i) := by
  by_cases hc : c = i
  · refine ⟨⟨b, o, none⟩, by rw [if_pos hc], fun wx hf => ?_⟩
    have h1 := (h wx hf).cap
    have h2 := (h wx hf).dropAll i (by omega)
    rw [show c - i = 0 by omega]
    exact h2
  · exact ⟨⟨b, o + i, none⟩, by rw [if_neg hc], fun wx hf => (h wx hf).drop i hi⟩
theorem RdB.take {w0 : World} {x : Addr} {n c : Nat} {l : List Int} (h : RdB w0 (.slice (some x) n c) l) (i : Nat) (hi : i ≤ l.length) : RdB w0 (.slice (some x) i c) (l.take i) := fun wx hf => by
  have hc := (h wx hf).cap
  have h1 := h wx hf
  rw [hc.1] at h1
  exact h1.take i hi
/-- One digit more: what stands in l is read, or it isn't. -/
theorem num_good {l : List Int} {n i : Nat} (hb : ∀ x ∈ l, 0 ≤ x ∧ x < 256) (h : rdAux 0 0 l = some (n, l.drop (i + 1))) (hi : i < l.length) : dig n = l.take (i + 1) := by
  have h1 := (rd_only hb h).1
  have h2 : l.take (i + 1) ++ l.drop (i + 1) = dig n ++ l.drop (i + 1) := by rw [List.take_append_drop]; exact h1
  exact (List.append_cancel_right h2).symm
theorem num_bad {l : List Int} {n i : Nat} (hn : n ≤ 4611686018427387903) (h : rdAux 0 0 l = none) : dig n ≠ l.take (i + 1) := by
  intro e
  have h2 := rd_dig hn (l.drop (i + 1))
  rw [e, List.take_append_drop, h] at h2
  cases h2

end Go.Proofs.YtinbidmgllmglaaDoor
