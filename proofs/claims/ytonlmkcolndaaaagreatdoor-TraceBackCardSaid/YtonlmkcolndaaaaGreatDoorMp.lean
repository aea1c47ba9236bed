/- Maps by whole numbers that a call makes of constants: insert, lookup, entry by entry. No condition. -/
import Derived.Test.YtonlmkcolndaaaaGreatDoorFe
import Derived.MapKept
namespace Go.Proofs.YtonlmkcolndaaaaGreatDoor
set_option linter.unusedVariables false
set_option linter.unusedSimpArgs false
set_option maxRecDepth 20000
open Go.RowKit Go.MapKept

/-- The entries of a map, in the row in which they came. -/
def imap : Nat → List (Int × Value) → List MapEntry
  | _, [] => []
  | i, p :: l => { key := .int .i64 p.1, val := p.2, born := i } :: imap (i + 1) l
def imapO (l : List (Int × Value)) : Obj := .map (imap 0 l).toArray l.length
theorem imap_app : ∀ (l : List (Int × Value)) (i : Nat) (p : Int × Value), imap i (l ++ [p]) = imap i l ++ [{ key := .int .i64 p.1, val := p.2, born := i + l.length }]
  | [], i, p => by simp [imap]
  | q :: l, i, p => by rw [List.cons_append, imap, imap_app l (i + 1) p, imap]; simp; omega
theorem findNow_miss {k : Int} : ∀ (l : List (Int × Value)) (j i : Nat), (∀ p ∈ l, p.1 ≠ k) → Instr.findNow (.int .i64) (.int .i64 k) (imap j l) i = some none
  | [], _, _, _ => rfl
  | p :: l, j, i, h => by
    have h1 : (k == p.1) = false := by rw [beq_eq_false_iff_ne]; exact fun e => h p (by simp) e.symm
    rw [imap, Instr.findNow]
    simp only [Instr.sameNow, if_true, h1]
    exact findNow_miss l (j + 1) (i + 1) (fun q hq => h q (List.mem_cons_of_mem _ hq))
theorem findNow_hit {k : Int} {v : Value} : ∀ (l : List (Int × Value)) (j i : Nat), l.lookup k = some v → ∃ t, Instr.findNow (.int .i64) (.int .i64 k) (imap j l) i = some (some (t, v))
  | [], _, _, h => by simp at h
  | p :: l, j, i, h => by
    rw [imap, Instr.findNow]
    simp only [Instr.sameNow, if_true]
    rw [show p = (p.1, p.2) from rfl, List.lookup_cons] at h
    cases hk : (k == p.1) with
    | true =>
      rw [hk] at h
      cases h
      exact ⟨i, rfl⟩
    | false =>
      rw [hk] at h
      exact findNow_hit l (j + 1) (i + 1) h
/-- The object of a block turned whole. -/
def putO (w : World) (b : Nat) (o : Obj) : World := { w with heap := w.heap.setIfInBounds b o }
theorem putO_frm (w : World) (b : Nat) (o : Obj) : Frm (· = b) w (putO w b o) :=
  ⟨rfl, rfl, rfl, by simp [putO], fun k _ hk => by simp only [putO]; rw [Array.getElem?_setIfInBounds_ne (fun e => hk e.symm)]⟩
theorem putO_at {w : World} {b : Nat} {o : Obj} (o' : Obj) (h : w.heap[b]? = some o) : (putO w b o').heap[b]? = some o' := by
  have hlt := (Array.getElem?_eq_some_iff.1 h).1
  simp [putO, hlt]
section
variable {P : Program} {w : World} {T K E : TypeId} {B : Nat} {l : List (Int × Value)}
theorem insert_run (ht : P.underlying T = some (.map K E)) (hk : P.underlying K = some (.int .i64)) (hb : w.heap[B]? = some (imapO l)) (k : Int) (v : Value) (hm : ∀ p ∈ l, p.1 ≠ k) :
    (Instr.mapUpdate T (.map (some B)) (.int .i64 k) v).run P w = .ok () (putO w B (imapO (l ++ [(k, v)]))) := by
  have hb' : w.heap[B]? = some (.map (imap 0 l).toArray l.length) := hb
  have hf := Go.MapKept.run_findKey (w := w) (P := P) hk (findNow_miss l 0 0 hm)
  have hc := Go.MapKept.run_checkKey (w := w) (P := P) (k := .int .i64 k) hk rfl false 9999
  have hs := run_setObj_map (P := P) (.map ((imap 0 l).toArray.push { key := .int .i64 k, val := v, born := l.length }) (l.length + 1)) hb'
  have he : Obj.map ((imap 0 l).toArray.push { key := .int .i64 k, val := v, born := l.length }) (l.length + 1) = imapO (l ++ [(k, v)]) := by
    unfold imapO
    rw [imap_app]
    simp
  have h1 : (Instr.mapUpdate T (.map (some B)) (.int .i64 k) v).run P w = .ok () { w with heap := w.heap.setIfInBounds B (Obj.map ((imap 0 l).toArray.push { key := .int .i64 k, val := v, born := l.length }) (l.length + 1)) } := by
    simp only [List.push_toArray] at hs ⊢
    simp [Instr.mapUpdate, run_underlying ht, Go.MapKept.run_getObj_map hb', hc, hf, hs, Result.andThen]
  rw [h1, he]
  rfl
theorem look_hit (ht : P.underlying T = some (.map K E)) (hk : P.underlying K = some (.int .i64)) (hb : w.heap[B]? = some (imapO l)) (k : Int) (v : Value) (h : l.lookup k = some v) (ok : Bool) :
    (Instr.lookup T (.map (some B)) (.int .i64 k) ok).run P w = .ok (if ok then .tuple #[v, .bool true] else v) w := by
  have hb' : w.heap[B]? = some (.map (imap 0 l).toArray l.length) := hb
  obtain ⟨t, hn⟩ := findNow_hit l 0 0 h
  have hf := Go.MapKept.run_findKey (w := w) (P := P) hk hn
  have hc := Go.MapKept.run_checkKey (w := w) (P := P) (k := .int .i64 k) hk rfl (imap 0 l).toArray.isEmpty 9999
  clear hb
  cases ok <;> simp_all [Instr.lookup, run_underlying ht, Go.MapKept.run_getObj_map hb', Result.andThen]
theorem look_miss (ht : P.underlying T = some (.map K E)) (hk : P.underlying K = some (.int .i64)) (hb : w.heap[B]? = some (imapO l)) (k : Int) (z : Value) (hz : (zeroValue E).run P w = .ok z w) (hm : ∀ p ∈ l, p.1 ≠ k) (ok : Bool) :
    (Instr.lookup T (.map (some B)) (.int .i64 k) ok).run P w = .ok (if ok then .tuple #[z, .bool false] else z) w := by
  have hb' : w.heap[B]? = some (.map (imap 0 l).toArray l.length) := hb
  have hf := Go.MapKept.run_findKey (w := w) (P := P) hk (findNow_miss l 0 0 hm)
  have hc := Go.MapKept.run_checkKey (w := w) (P := P) (k := .int .i64 k) hk rfl (imap 0 l).toArray.isEmpty 9999
  clear hb
  cases ok <;> simp_all [Instr.lookup, run_underlying ht, Go.MapKept.run_getObj_map hb', Result.andThen]
/-- The operation is an insert at this key; it is a makeMap. -/
theorem is_insert (k : Int) {ops : Array Oper} {rest : List Oper} {a : Act} {Q : Exit → Act → World → Prop} {t ty : TypeId} {m x : Operand} {pos : String} {after : Array Edge} {g : Option (Nat × Bool)}
    (h : wpList P ops Q (⟨none, .insert t m (.const (.int .i64 k)) x, ty, pos, after, g⟩ :: rest) a w) : wpList P ops Q (⟨none, .insert t m (.const (.int .i64 k)) x, ty, pos, after, g⟩ :: rest) a w := h
theorem is_makeMap {ops : Array Oper} {rest : List Oper} {a : Act} {Q : Exit → Act → World → Prop} {t ty : TypeId} {d : Option Tmp} {pos : String} {after : Array Edge} {g : Option (Nat × Bool)}
    (h : wpList P ops Q (⟨d, .makeMap t none, ty, pos, after, g⟩ :: rest) a w) : wpList P ops Q (⟨d, .makeMap t none, ty, pos, after, g⟩ :: rest) a w := h
/-- A map literal's map is made. -/
theorem wpList_makeMap {ops : Array Oper} {rest : List Oper} {o : Oper} {a : Act} {Q : Exit → Act → World → Prop} (hgd : o.guard = none) (t : TypeId) (ho : o.op = .makeMap t none)
    (h : ∀ (B : Nat) (w' : World), w'.heap[B]? = some (imapO []) → w.heap.size ≤ B → Frm M0 w w' → wpList P ops Q rest (a.put o.dst (.map (some B))) w') : wpList P ops Q (o :: rest) a w := by
  refine wpList_plain hgd fun K hK => ?_
  have hrun : (Instr.makeMap t none).run P w = .ok (.map (some w.heap.size)) (w.alloc (.map #[] 0)) := rfl
  unfold Oper.wp
  simp [execOp, ho, hrun, Result.andThen]
  exact hK _ _ (h _ _ (new1 w _) (Nat.le_refl _) ((Frm.refl _ _).alloc _))
/-- 'm[k] = x' of a map literal. -/
theorem wpList_insert {ops : Array Oper} {rest : List Oper} {o : Oper} {a : Act} {Q : Exit → Act → World → Prop} (hgd : o.guard = none) (m k x : Operand) (ho : o.op = .insert T m k x)
    (ht : P.underlying T = some (.map K E)) (hk : P.underlying K = some (.int .i64)) (hm' : a.eval m = .map (some B)) (hb : w.heap[B]? = some (imapO l)) (n : Int) (hkv : a.eval k = .int .i64 n) (hm : ∀ p ∈ l, p.1 ≠ n)
    (h : ∀ w', w'.heap[B]? = some (imapO (l ++ [(n, a.eval x)])) → Frm (· = B) w w' → wpList P ops Q rest (a.put o.dst undef) w') : wpList P ops Q (o :: rest) a w := by
  refine wpList_plain hgd fun K hK => ?_
  have hrun := insert_run ht hk hb n (a.eval x) hm
  unfold Oper.wp
  simp [execOp, ho, hm', hkv, hrun, Result.andThen]
  exact hK _ _ (h _ (putO_at _ hb) (putO_frm _ _ _))
end
end Go.Proofs.YtonlmkcolndaaaaGreatDoor
