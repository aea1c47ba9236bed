/- Rows of elements of several cells: how they are appended to, cut, read. No condition. -/
import Derived.Test.YtonlmkcolndaaaaGreatDoorFr
namespace Go.Proofs.YtonlmkcolndaaaaGreatDoor
set_option linter.unusedVariables false
set_option linter.unusedSimpArgs false
set_option maxRecDepth 20000
open Go.RowKit

section
variable {α : Type} {enc : α → List Value} {sz : Nat}
theorem els_len (he : ∀ a, (enc a).length = sz) (l : List α) : (l.flatMap enc).length = l.length * sz := by
  induction l with
  | nil => simp
  | cons b l ih => rw [List.flatMap_cons, List.length_append, ih, he, List.length_cons, Nat.succ_mul]; omega
theorem els_get (he : ∀ a, (enc a).length = sz) : ∀ (l : List α) (i r : Nat) (a : α), l[i]? = some a → r < sz → (l.flatMap enc)[i * sz + r]? = (enc a)[r]? := by
  intro l
  induction l with
  | nil => intro i r a h; simp at h
  | cons b l ih =>
    intro i r a h hr
    rw [List.flatMap_cons]
    rcases i with _ | i
    · simp only [List.getElem?_cons_zero, Option.some.injEq] at h
      subst h
      rw [List.getElem?_append_left (by rw [he]; omega)]
      simp
    · rw [List.getElem?_append_right (by rw [he]; rw [Nat.succ_mul]; omega), he, show (i + 1) * sz + r - sz = i * sz + r by rw [Nat.succ_mul]; omega]
      exact ih i r a (by simpa using h) hr
theorem els_one (h1 : ∀ a, ∀ u ∈ enc a, u.oneCell' = true) (l : List α) : ∀ u ∈ l.flatMap enc, u.oneCell' = true := by
  intro u hu
  obtain ⟨m, _, hm⟩ := List.mem_flatMap.1 hu
  exact h1 m u hm
theorem els_take (he : ∀ a, (enc a).length = sz) : ∀ (l : List α) (k : Nat), (l.flatMap enc).take (k * sz) = (l.take k).flatMap enc := by
  intro l
  induction l with
  | nil => intro k; simp
  | cons m l ih =>
    intro k
    rcases k with _ | k
    · simp
    · rw [List.flatMap_cons, List.take_succ_cons, List.flatMap_cons, ← ih k, show (k + 1) * sz = (enc m).length + k * sz by rw [he, Nat.succ_mul]; omega, List.take_length_add_append]
theorem els_drop (he : ∀ a, (enc a).length = sz) : ∀ (l : List α) (k : Nat), (l.flatMap enc).drop (k * sz) = (l.drop k).flatMap enc := by
  intro l
  induction l with
  | nil => intro k; simp
  | cons m l ih =>
    intro k
    rcases k with _ | k
    · simp
    · rw [List.flatMap_cons, List.drop_succ_cons, ← ih k, show (k + 1) * sz = (enc m).length + k * sz by rw [he, Nat.succ_mul]; omega, List.drop_length_add_append]

/-- 'append(own, src...)': rows of elements. -/
theorem wpList_push_els {P : Program} {w : World} {ops : Array Oper} {rest : List Oper} {o : Oper} {a : Act} {Q : Exit → Act → World → Prop} (he : ∀ a, (enc a).length = sz) (h1 : ∀ a, ∀ u ∈ enc a, u.oneCell' = true)
    (hgd : o.guard = none) (s x : Operand) (t : TypeId)
    (ho : o.op = .call { callee := .builtin .append, args := #[s, x], argTypes := #[t, t] })
    (base : Nat) (e : TypeId) (z : Value) (bytes : Nat) (ht : P.underlying t = some (.slice e)) (hinfo : (P.info? e).map (fun i => (i.zero, i.size, i.bytes)) = some (some z, sz, bytes))
    (hzs : z.cells.size = sz) (hsz : 0 < sz)
    (v : Value) (l : List α) (hs : a.eval s = v) (hown : w.ownsRow base e sz v l.length (l.flatMap enc))
    (vs : Value) (m : List α) (hx : a.eval x = vs) (hr : Rd w sz vs m.length (m.flatMap enc))
    (hbytes : (l.length + m.length) * bytes ≤ 140737488355328) (h63 : l.length + m.length ≤ 140737488355328) (hbase : base ≤ w.heap.size)
    (h : ∀ v' w', w'.ownsRow base e sz v' (l ++ m).length ((l ++ m).flatMap enc) → w.grownBy w' v.ownBlock → wpList P ops Q rest (a.put o.dst v') w') : wpList P ops Q (o :: rest) a w := by
  refine wpList_append_src hgd s x t ho base e z sz bytes ht hinfo hzs hsz v l.length (l.flatMap enc) hs hown vs m.length (m.flatMap enc) hx hr (els_one h1 _) (by unfold maxLen; omega) hbytes hbase ?_
  intro v' w' h2 h3
  refine h v' w' ?_ h3
  rw [List.length_append, List.flatMap_append]
  exact h2

/-- 'append(own, x)', x an element that was just laid in a block of its own. -/
theorem wpList_push_el {P : Program} {w : World} {ops : Array Oper} {rest : List Oper} {o : Oper} {a : Act} {Q : Exit → Act → World → Prop} (he : ∀ a, (enc a).length = sz) (h1 : ∀ a, ∀ u ∈ enc a, u.oneCell' = true)
    (hgd : o.guard = none) (s x : Operand) (t : TypeId)
    (ho : o.op = .call { callee := .builtin .append, args := #[s, x], argTypes := #[t, t] })
    (base : Nat) (e : TypeId) (z : Value) (bytes : Nat) (ht : P.underlying t = some (.slice e)) (hinfo : (P.info? e).map (fun i => (i.zero, i.size, i.bytes)) = some (some z, sz, bytes))
    (hzs : z.cells.size = sz) (hsz : 0 < sz)
    (v : Value) (l : List α) (y : α) (cs : Array Value) (hcs : cs.toList = enc y) (hs : a.eval s = v) (hown : w.ownsRow base e sz v l.length (l.flatMap enc))
    (hx : a.eval x = .slice (some ⟨w.heap.size, 0, none⟩) 1 1)
    (hbytes : (l.length + 1) * bytes ≤ 140737488355328) (h63 : l.length + 1 ≤ 140737488355328) (hbase : base ≤ w.heap.size)
    (h : ∀ v' w', w'.ownsRow base e sz v' (l ++ [y]).length ((l ++ [y]).flatMap enc) → w.grownBy w' v.ownBlock → wpList P ops Q rest (a.put o.dst v') w') :
    wpList P ops Q (o :: rest) a (w.alloc (.cells cs e)) := by
  refine wpList_push_els he h1 hgd s x t ho base e z bytes ht hinfo hzs hsz v l hs (hown.alloc _) _ [y] hx ?_ hbytes h63 (by simp; omega) ?_
  · refine ⟨by simp [he], .inr ⟨⟨w.heap.size, 0, none⟩, 1, rfl, Nat.le_refl _, by unfold maxLen; omega, fun j u hu => ?_⟩⟩
    rw [add_none, World.cell?_alloc_at _ _ _ _ rfl]
    simp only [List.flatMap_cons, List.flatMap_nil, List.append_nil] at hu
    rw [← hcs, Array.getElem?_toList] at hu
    simpa using hu
  · intro v' w' h2 h3
    refine h v' w' h2 ?_
    have g := World.grownBy_alloc w (.cells cs e) v.ownBlock
    exact ⟨h3.os.trans g.os, h3.tape.trans g.tape, h3.output.trans g.output, Nat.le_trans g.size h3.size, fun i hi hn => (h3.block i (Nat.lt_of_lt_of_le hi g.size) hn).trans (g.block i hi hn)⟩

theorem Rd.cutTo {w : World} (he : ∀ a, (enc a).length = sz) {x : Option Addr} {n c : Nat} {l : List α} (h : Rd w sz (.slice x n c) l.length (l.flatMap enc)) (i : Nat) (hi : i ≤ l.length) :
    Rd w sz (.slice x i c) (l.take i).length ((l.take i).flatMap enc) := by
  have e : (l.take i).length = i := by rw [List.length_take]; omega
  rcases h.2 with ⟨h2, h0⟩ | ⟨x', cap, h2, h3, h4, h6⟩
  · simp only [Value.slice.injEq] at h2
    obtain ⟨rfl, rfl, rfl⟩ := h2
    have : i = 0 := by omega
    subst this
    simp only [List.take_zero]; exact Rd.nil _ _
  · simp only [Value.slice.injEq] at h2
    obtain ⟨rfl, rfl, rfl⟩ := h2
    refine ⟨els_len he _, .inr ⟨x', c, by rw [e], by omega, by omega, fun j u hu => h6 j u ?_⟩⟩
    rw [← els_take he, List.getElem?_take] at hu
    split at hu
    · exact hu
    · cases hu
theorem Rd.cutFrom {w : World} (he : ∀ a, (enc a).length = sz) {b o n c : Nat} {l : List α} (h : Rd w sz (.slice (some ⟨b, o, none⟩) n c) l.length (l.flatMap enc)) (i : Nat) (hi : i ≤ l.length) :
    Rd w sz (.slice (some ⟨b, o + i * sz, none⟩) (l.length - i) (c - i)) (l.drop i).length ((l.drop i).flatMap enc) := by
  rcases h.2 with ⟨h2, h0⟩ | ⟨x, cap, h2, h3, h4, h6⟩
  · cases h2
  · simp only [Value.slice.injEq, Option.some.injEq] at h2
    obtain ⟨rfl, rfl, rfl⟩ := h2
    refine ⟨els_len he _, .inr ⟨⟨b, o + i * sz, none⟩, c - i, by rw [List.length_drop], by rw [List.length_drop]; omega, by omega, fun j u hu => ?_⟩⟩
    rw [add_none, Nat.add_assoc, ← add_none]
    refine h6 (i * sz + j) u ?_
    rw [← els_drop he, List.getElem?_drop] at hu
    exact hu
theorem Rd.cutAll {w : World} (he : ∀ a, (enc a).length = sz) {x : Addr} {n c m : Nat} {l : List α} (h : Rd w sz (.slice (some x) n c) l.length (l.flatMap enc)) (hm : m = 0) (c' : Nat) (hc' : c' ≤ 100) :
    Rd w sz (.slice (some x) m c') 0 [] := by
  subst hm
  exact ⟨by simp, .inr ⟨x, c', rfl, Nat.zero_le _, by unfold maxLen; omega, fun j u hu => by simp at hu⟩⟩
end

theorem Rd.shapeL {w : World} {size n : Nat} {v : Value} {xs : List Value} (h : Rd w size v n xs) : ∃ a m c, v = .slice a m c ∧ Hid (m = n ∧ (0 < n * size → ∃ b o, a = some ⟨b, o, none⟩)) := by
  obtain ⟨a, c, h1, h2⟩ := h.shapeN
  exact ⟨a, n, c, h1, hid ⟨rfl, h2⟩⟩
theorem Frm.putN {a w : World} (h : Frm M0 a w) (b o : Nat) (u : Value) (hb : a.heap.size ≤ b) : Frm M0 a (w.setCell ⟨b, o, none⟩ u) := h.put b o u (fun h => by omega)
/-- Blocks that were just laid. -/
theorem new1 (w : World) (a : Obj) : (w.alloc a).heap[w.heap.size]? = some a := by
  show (w.heap.push a)[w.heap.size]? = some a
  simp
theorem new2 (w : World) (a b : Obj) : ((w.alloc a).alloc b).heap[w.heap.size]? = some a ∧ ((w.alloc a).alloc b).heap[w.heap.size + 1]? = some b := by
  refine ⟨((Frm.refl M0 _).alloc b).heap (new1 w a) (fun h => h), ?_⟩
  have := new1 (w.alloc a) b
  simpa using this
theorem new3 (w : World) (a b c : Obj) : (((w.alloc a).alloc b).alloc c).heap[w.heap.size]? = some a ∧ (((w.alloc a).alloc b).alloc c).heap[w.heap.size + 1]? = some b ∧ (((w.alloc a).alloc b).alloc c).heap[w.heap.size + 2]? = some c := by
  refine ⟨((Frm.refl M0 _).alloc c).heap (new2 w a b).1 (fun h => h), ((Frm.refl M0 _).alloc c).heap (new2 w a b).2 (fun h => h), ?_⟩
  have := new1 ((w.alloc a).alloc b) c
  simpa using this
end Go.Proofs.YtonlmkcolndaaaaGreatDoor
