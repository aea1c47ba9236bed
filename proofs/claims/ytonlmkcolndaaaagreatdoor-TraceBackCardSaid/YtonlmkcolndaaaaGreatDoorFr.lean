/- What the walks of this seat are told of memory: which blocks a call may have turned, and which lists a slice reads as. No condition. -/
import Derived.Test.YtonlmkcolndaaaaGreatDoorProg
import Derived.WalkKit
import Derived.KernelRfl
import Derived.WalkSpells
import Derived.Outline
import Derived.Laws.BytesArg
import Derived.Laws.AppendOwnNone
import Derived.Lib.ConvBytes
import Derived.Deep.Draws
import Derived.Lib.AppendStr
import Derived.ScopeJumps
namespace Go.Proofs.YtonlmkcolndaaaaGreatDoor
set_option linter.unusedVariables false
set_option linter.unusedSimpArgs false
set_option maxRecDepth 20000
open Go.RowKit

theorem hid {p : Prop} (h : p) : Hid p := h

/-- Of the blocks that were there only those in M may have turned. -/
structure Frm (M : Nat → Prop) (w w' : World) : Prop where
  os : w'.os = w.os
  tape : w'.tape = w.tape
  output : w'.output = w.output
  size : w.heap.size ≤ w'.heap.size
  block : ∀ k, k < w.heap.size → ¬ M k → w'.heap[k]? = w.heap[k]?

abbrev M0 : Nat → Prop := fun _ => False

section
variable {M M' : Nat → Prop} {a w w' : World}
theorem Frm.refl (M : Nat → Prop) (w : World) : Frm M w w := ⟨rfl, rfl, rfl, Nat.le_refl _, fun _ _ _ => rfl⟩
theorem Frm.trans (h : Frm M a w) (k : Frm M' w w') (hm : ∀ b, b < a.heap.size → M' b → M b) : Frm M a w' :=
  ⟨k.os.trans h.os, k.tape.trans h.tape, k.output.trans h.output, Nat.le_trans h.size k.size,
    fun i hi hn => (k.block i (Nat.lt_of_lt_of_le hi h.size) (fun hm' => hn (hm i hi hm'))).trans (h.block i hi hn)⟩
theorem Frm.mono (h : Frm M w w') (hm : ∀ b, b < w.heap.size → M b → M' b) : Frm M' w w' :=
  ⟨h.os, h.tape, h.output, h.size, fun i hi hn => h.block i hi (fun x => hn (hm i hi x))⟩
theorem Frm.then0 (h : Frm M a w) (k : Frm M0 w w') : Frm M a w' := h.trans k (fun _ _ h => h.elim)
theorem Frm.same (h : Frm M a w) (k : Frm M w w') : Frm M a w' := h.trans k (fun _ _ h => h)
theorem Frm.drew (h : Frm M a w) : Frm M a w.drew := ⟨h.os, h.tape, h.output, h.size, h.block⟩
theorem Frm.drewN (h : Frm M a w) (n : Nat) : Frm M a (w.drewN n) := ⟨h.os, h.tape, h.output, h.size, h.block⟩
theorem Frm.alloc (h : Frm M a w) (o : Obj) : Frm M a (w.alloc o) :=
  h.trans (M' := M0) ⟨rfl, rfl, rfl, by simp, fun k hk _ => Below.heap_alloc _ _ _ hk⟩ (fun _ _ h => h.elim)
theorem Frm.setCell (h : Frm M a w) {p : Addr} (u : Value) (hp : p.block < a.heap.size → M p.block) : Frm M a (w.setCell p u) :=
  h.trans (M' := fun b => b = p.block) ⟨rfl, rfl, rfl, by simp [World.setCell], fun k _ hk => Below.heap_setCell _ _ _ _ hk⟩ (fun b hb e => by subst e; exact hp hb)
theorem Frm.grown {row : Option Nat} (h : Frm M a w) (hg : w.grownBy w' row) (hr : ∀ k, row = some k → k < a.heap.size → M k) : Frm M a w' :=
  h.trans (M' := fun b => row = some b) ⟨hg.os, hg.tape, hg.output, hg.size, fun k hk hn => hg.block k hk (fun e => hn e.symm)⟩ (fun b hb e => hr b e hb)
theorem Frm.below (h : Frm M0 w w') : Below w.heap.size w w' := ⟨h.os, h.tape, h.output, h.size, fun k hk => h.block k hk (fun h => h)⟩
theorem Frm.belowM {B : Nat} (h : Frm M w w') (hB : B ≤ w.heap.size) (hM : ∀ k, M k → B ≤ k) : Below B w w' :=
  ⟨h.os, h.tape, h.output, h.size, fun k hk => h.block k (by omega) (fun x => by have := hM k x; omega)⟩
theorem Frm.ofBelow {B : Nat} (h : Below B w w') (hB : ∀ k, B ≤ k → k < w.heap.size → M k) : Frm M w w' :=
  ⟨h.os, h.tape, h.output, h.size, fun k hk hn => h.block k (Nat.lt_of_not_le fun x => hn (hB k x hk))⟩
theorem Frm.cell (h : Frm M w w') {p : Addr} {v : Value} (hc : w.cell? p = some v) (hn : ¬ M p.block) : w'.cell? p = some v :=
  (World.cell?_of_block (w := w) (h.block p.block (World.block_lt_of_cell? w p hc) hn)).trans hc
theorem Frm.frozen (h : Frm M w w') {p : Addr} {v : Value} (hc : w.cell? p = some v) (hn : ¬ M p.block) : w'.frozen? p = w.frozen? p :=
  World.frozen?_of_block (w := w) (h.block p.block (World.block_lt_of_cell? w p hc) hn)
theorem Frm.heap (h : Frm M w w') {b : Nat} {o : Obj} (hc : w.heap[b]? = some o) (hn : ¬ M b) : w'.heap[b]? = some o := by
  have hb : b < w.heap.size := (Array.getElem?_eq_some_iff.1 hc).1
  rw [h.block b hb hn]; exact hc
theorem Frm.owns {base : Nat} {e : TypeId} {size : Nat} {v : Value} {n : Nat} {xs : List Value} (h : Frm M w w') (ho : w.ownsRow base e size v n xs) (hn : ∀ k, v.ownBlock = some k → ¬ M k) :
    w'.ownsRow base e size v n xs := by
  refine ⟨ho.1, ?_⟩
  rcases ho.2 with h2 | ⟨g, cap, cur, hv, hg, hh, r⟩
  · exact Or.inl h2
  · exact Or.inr ⟨g, cap, cur, hv, hg, h.heap hh (hn g (by rw [hv]; rfl)), r⟩
end

theorem add_none (b o j : Nat) : (⟨b, o, none⟩ : Addr).add j = ⟨b, o + j, none⟩ := by unfold Addr.add; split <;> simp_all
theorem add_block (x : Addr) (j : Nat) : (x.add j).block = x.block := by unfold Addr.add; split <;> rfl

/-- The slice value v, of n elements of 'size' cells, reads as the cells xs. -/
def Rd (w : World) (size : Nat) (v : Value) (n : Nat) (xs : List Value) : Prop :=
  xs.length = n * size ∧ ((v = .slice none 0 0 ∧ n = 0) ∨
   ∃ x cap, v = .slice (some x) n cap ∧ n ≤ cap ∧ cap ≤ maxLen ∧ ∀ j u, xs[j]? = some u → w.cell? (Addr.add x j) = some u)

section
variable {M : Nat → Prop} {w w' : World} {size n : Nat} {v : Value} {xs : List Value}
theorem Rd.frm (h : Rd w size v n xs) (hf : Frm M w w') (hn : ∀ k, v.ownBlock = some k → ¬ M k) : Rd w' size v n xs := by
  refine ⟨h.1, ?_⟩
  rcases h.2 with h2 | ⟨x, cap, hv, h1, h3, hc⟩
  · exact .inl h2
  · refine .inr ⟨x, cap, hv, h1, h3, fun j u hu => hf.cell (hc j u hu) (by rw [add_block]; exact hn x.block (by rw [hv]; rfl))⟩
theorem Rd.frm0 (h : Rd w size v n xs) (hf : Frm M0 w w') : Rd w' size v n xs := h.frm hf (fun _ _ h => h)
theorem Rd.nil (w : World) (size : Nat) : Rd w size (.slice none 0 0) 0 [] := ⟨by simp, .inl ⟨rfl, rfl⟩⟩
theorem Rd.ofOwns {base : Nat} {e : TypeId} (h : w.ownsRow base e size v n xs) : Rd w size v n xs := by
  refine ⟨h.1, ?_⟩
  rcases h.2 with h2 | ⟨g, cap, cur, hv, hg, hh, h1, h3, h4, h5⟩
  · exact .inl h2
  · exact .inr ⟨⟨g, 0, none⟩, cap, hv, h1, h3, fun j u hu => h.cells (g := g) (by rw [hv]; rfl) j u hu⟩
end

theorem owns_base {w : World} {B B' : Nat} {e : TypeId} {size n : Nat} {v : Value} {xs : List Value} (h : w.ownsRow B' e size v n xs) (hB : B ≤ B') : w.ownsRow B e size v n xs := by
  refine ⟨h.1, ?_⟩
  rcases h.2 with h2 | ⟨g, cap, cur, hv, hg, r⟩
  · exact .inl h2
  · exact .inr ⟨g, cap, cur, hv, Nat.le_trans hB hg, r⟩


/-- A list of whole numbers of a kind, as cells. -/
abbrev ints (k : IntKind) (l : List Int) : List Value := l.map (Value.int k)
theorem ints_app (k : IntKind) (l : List Int) (x : Int) : ints k l ++ [.int k x] = ints k (l ++ [x]) := by simp [ints]
theorem ints_one (k : IntKind) (l : List Int) : ∀ u ∈ ints k l, u.oneCell' = true := by
  intro u hu; obtain ⟨x, _, rfl⟩ := List.mem_map.1 hu; rfl

/-- 'append(own, src...)', src read as a list, nil too. -/
theorem wpList_append_src {P : Program} {w : World} {ops : Array Oper} {rest : List Oper} {o : Oper} {a : Act} {Q : Exit → Act → World → Prop} (hgd : o.guard = none) (s x : Operand) (t : TypeId)
    (ho : o.op = .call { callee := .builtin .append, args := #[s, x], argTypes := #[t, t] })
    (base : Nat) (e : TypeId) (z : Value) (size bytes : Nat) (ht : P.underlying t = some (.slice e)) (hinfo : (P.info? e).map (fun i => (i.zero, i.size, i.bytes)) = some (some z, size, bytes))
    (hzs : z.cells.size = size) (hsz : 0 < size)
    (v : Value) (n : Nat) (xs : List Value) (hs : a.eval s = v) (hown : w.ownsRow base e size v n xs)
    (vs : Value) (m : Nat) (news : List Value) (hx : a.eval x = vs) (hr : Rd w size vs m news) (h1 : ∀ u ∈ news, u.oneCell' = true)
    (h63 : n + m ≤ maxLen) (hbytes : (n + m) * bytes ≤ 140737488355328) (hbase : base ≤ w.heap.size)
    (h : ∀ v' w', w'.ownsRow base e size v' (n + m) (xs ++ news) → w.grownBy w' v.ownBlock → wpList P ops Q rest (a.put o.dst v') w') : wpList P ops Q (o :: rest) a w := by
  obtain ⟨i, hi, hz, hsize, hby⟩ := info_parts hinfo
  rcases hr.2 with ⟨rfl, rfl⟩ | ⟨ad, cap, rfl, hc1, hc2, hcell⟩
  · have hn : news = [] := List.eq_nil_of_length_eq_zero (by simpa using hr.1)
    subst hn
    refine wpList_append_own_none hgd s x t ho base e i size ht hi v n xs hs hown hx ?_
    exact h v w (by simpa using hown) ⟨rfl, rfl, rfl, Nat.le_refl _, fun _ _ _ => rfl⟩
  · refine wpList_append_own w hgd s x t ho base e i z size bytes ht hi hz hsize hby hzs hsz v n xs hs hown ad m cap news hx hr.1 hcell h1 h63 hbytes hbase ?_
    intro v' w' h2 h3 _; exact h v' w' h2 h3

/-- 'append(own, x)', x a whole number that was just laid in a block of its own. -/
theorem wpList_push_int {P : Program} {w : World} {ops : Array Oper} {rest : List Oper} {o : Oper} {a : Act} {Q : Exit → Act → World → Prop} (hgd : o.guard = none) (s x : Operand) (t : TypeId)
    (ho : o.op = .call { callee := .builtin .append, args := #[s, x], argTypes := #[t, t] })
    (base : Nat) (e : TypeId) (k : IntKind) (bytes : Nat) (ht : P.underlying t = some (.slice e)) (hinfo : (P.info? e).map (fun i => (i.zero, i.size, i.bytes)) = some (some (.int k 0), 1, bytes))
    (v : Value) (l : List Int) (y : Int) (hs : a.eval s = v) (hown : w.ownsRow base e 1 v l.length (ints k l))
    (hx : a.eval x = .slice (some ⟨w.heap.size, 0, none⟩) 1 1)
    (h63 : l.length + 1 ≤ maxLen) (hbytes : (l.length + 1) * bytes ≤ 140737488355328) (hbase : base ≤ w.heap.size)
    (h : ∀ v' w', w'.ownsRow base e 1 v' (l ++ [y]).length (ints k (l ++ [y])) → w.grownBy w' v.ownBlock → wpList P ops Q rest (a.put o.dst v') w') :
    wpList P ops Q (o :: rest) a (w.alloc (.cells #[.int k y] e)) := by
  refine wpList_append_src hgd s x t ho base e (.int k 0) 1 bytes ht hinfo rfl (by decide) v l.length (ints k l) hs (hown.alloc _) _ 1 [.int k y] hx ?_ ?_ h63 hbytes (by simp; omega) ?_
  · refine ⟨rfl, .inr ⟨⟨w.heap.size, 0, none⟩, 1, rfl, Nat.le_refl _, by unfold maxLen; omega, fun j u hu => ?_⟩⟩
    have hj : j = 0 := by
      rcases j with _ | j
      · rfl
      · simp at hu
    subst hj
    simp only [List.getElem?_cons_zero, Option.some.injEq] at hu
    subst hu
    rw [add_none, World.cell?_alloc_at _ _ _ _ rfl]
    rfl
  · intro u hu; simp at hu; subst hu; rfl
  · intro v' w' h2 h3
    refine h v' w' ?_ ?_
    · rw [ints_app] at h2; simpa using h2
    · have g := World.grownBy_alloc w (.cells #[.int k y] e) v.ownBlock
      exact ⟨h3.os.trans g.os, h3.tape.trans g.tape, h3.output.trans g.output, Nat.le_trans g.size h3.size, fun i hi hn => (h3.block i (Nat.lt_of_lt_of_le hi g.size) hn).trans (g.block i hi hn)⟩

/-- A string's bytes as numbers. -/
def sb (s : ByteArray) : List Int := s.data.toList.map fun c => (c.toNat : Int)
theorem sb_len (s : ByteArray) : (sb s).length = s.size := by unfold sb; rw [List.length_map]; rfl
theorem sb_cells (s : ByteArray) : Lib.strCells s = ints .u8 (sb s) := by unfold sb Lib.strCells ints; rw [List.map_map]; rfl
theorem sb_byte (s : ByteArray) : ∀ x ∈ sb s, 0 ≤ x ∧ x < 256 := by
  intro x hx
  obtain ⟨c, _, rfl⟩ := List.mem_map.1 hx
  have := c.toNat_lt
  exact ⟨by omega, by show ((c.toNat : Nat) : Int) < 256; omega⟩

/-- 'append(own, s...)', s a string. -/
theorem wpList_push_str {P : Program} {w : World} {ops : Array Oper} {rest : List Oper} {o : Oper} {a : Act} {Q : Exit → Act → World → Prop} (hgd : o.guard = none) (sl x : Operand) (t u : TypeId)
    (ho : o.op = .call { callee := .builtin .append, args := #[sl, x], argTypes := #[t, u] })
    (base : Nat) (e : TypeId) (ht : P.underlying t = some (.slice e)) (hu : P.underlying u = some .string) (hinfo : (P.info? e).map (fun i => (i.zero, i.size, i.bytes)) = some (some (.int .u8 0), 1, 1))
    (v : Value) (l : List Int) (hs : a.eval sl = v) (hown : w.ownsRow base e 1 v l.length (ints .u8 l)) (s : ByteArray) (hx : a.eval x = .string s)
    (hbytes : l.length + s.size ≤ 140737488355328) (hbase : base ≤ w.heap.size)
    (h : ∀ v' w', w'.ownsRow base e 1 v' (l ++ sb s).length (ints .u8 (l ++ sb s)) → w.grownBy w' v.ownBlock → wpList P ops Q rest (a.put o.dst v') w') : wpList P ops Q (o :: rest) a w := by
  obtain ⟨i, hi, hz, hsize, hby⟩ := info_parts hinfo
  refine Lib.wpList_append_own_string w hgd sl x t u ho base e i ht hu hi hz hsize hby v l.length (ints .u8 l) hs hown s hx (by unfold maxLen; omega) hbytes hbase ?_
  intro v' w' h2 h3 _
  refine h v' w' ?_ h3
  rw [sb_cells] at h2
  rw [List.length_append, sb_len]
  unfold ints at h2 ⊢
  rw [List.map_append]
  exact h2

theorem Rd.cellAt {w : World} {b o len cap n : Nat} {k : IntKind} {l : List Int} (h : Rd w 1 (.slice (some ⟨b, o, none⟩) len cap) n (ints k l)) (i : Nat) (hi : i < l.length) :
    ∃ x, Hid (l[i]? = some x) ∧ w.cell? ⟨b, o + i, none⟩ = some (.int k x) := by
  rcases h.2 with ⟨h2, _⟩ | ⟨x, cap', h2, _, _, hc⟩
  · cases h2
  · simp only [Value.slice.injEq, Option.some.injEq] at h2
    obtain ⟨rfl, rfl, rfl⟩ := h2
    refine ⟨l[i], by rw [List.getElem?_eq_getElem hi]; exact rfl, ?_⟩
    rw [← add_none]
    exact hc i _ (by simp [ints, hi])
theorem take_snoc {α : Type} {l : List α} {i : Nat} {x : α} (h : l[i]? = some x) : l.take (i + 1) = l.take i ++ [x] := by
  obtain ⟨hi, rfl⟩ := List.getElem?_eq_some_iff.1 h
  exact List.take_succ_eq_append_getElem hi
/-- The shape of a slice that reads as a list: nil, or at an address. -/
theorem Rd.shapeN {w : World} {size n : Nat} {v : Value} {xs : List Value} (h : Rd w size v n xs) : ∃ a c, v = .slice a n c ∧ (0 < n * size → ∃ b o, a = some ⟨b, o, none⟩) := by
  rcases h.2 with ⟨rfl, h0⟩ | ⟨x, cap, rfl, _, _, hc⟩
  · exact ⟨none, 0, by rw [h0], fun h => by rw [h0] at h; omega⟩
  · refine ⟨_, _, rfl, fun h0 => ?_⟩
    obtain ⟨u, hu⟩ : ∃ u, xs[0]? = some u := ⟨xs[0]'(by rw [h.1]; exact h0), List.getElem?_eq_getElem _⟩
    have hs := World.cell?_spot (hc 0 u hu)
    obtain ⟨b, o, sp⟩ := x
    have : sp = none := by simpa [Addr.add] using hs
    exact ⟨b, o, by rw [this]⟩
theorem Rd.shape {w : World} {n : Nat} {v : Value} {xs : List Value} (h : Rd w 1 v n xs) : ∃ a c, v = .slice a n c ∧ (0 < n → ∃ b o, a = some ⟨b, o, none⟩) := by
  obtain ⟨a, c, h1, h2⟩ := h.shapeN
  exact ⟨a, c, h1, fun h => h2 (by omega)⟩

/-- 'append(own, src...)', both of whole numbers. -/
theorem wpList_push_ints {P : Program} {w : World} {ops : Array Oper} {rest : List Oper} {o : Oper} {a : Act} {Q : Exit → Act → World → Prop} (hgd : o.guard = none) (s x : Operand) (t : TypeId)
    (ho : o.op = .call { callee := .builtin .append, args := #[s, x], argTypes := #[t, t] })
    (base : Nat) (e : TypeId) (k : IntKind) (bytes : Nat) (ht : P.underlying t = some (.slice e)) (hinfo : (P.info? e).map (fun i => (i.zero, i.size, i.bytes)) = some (some (.int k 0), 1, bytes))
    (v : Value) (l : List Int) (hs : a.eval s = v) (hown : w.ownsRow base e 1 v l.length (ints k l))
    (vs : Value) (m : List Int) (hx : a.eval x = vs) (hr : Rd w 1 vs m.length (ints k m))
    (hbytes : (l.length + m.length) * bytes ≤ 140737488355328) (hmax : l.length + m.length ≤ 140737488355328) (hbase : base ≤ w.heap.size)
    (h : ∀ v' w', w'.ownsRow base e 1 v' (l ++ m).length (ints k (l ++ m)) → w.grownBy w' v.ownBlock → wpList P ops Q rest (a.put o.dst v') w') : wpList P ops Q (o :: rest) a w := by
  refine wpList_append_src hgd s x t ho base e (.int k 0) 1 bytes ht hinfo rfl (by decide) v l.length (ints k l) hs hown vs m.length (ints k m) hx hr (ints_one _ _) (by unfold maxLen; omega) hbytes hbase ?_
  intro v' w' h2 h3
  refine h v' w' ?_ h3
  rw [List.length_append]
  unfold ints at h2 ⊢
  rw [List.map_append]
  exact h2

/-- '[]byte(s)': new memory, which reads as the string's bytes. -/
theorem wpList_conv {P : Program} {w : World} {ops : Array Oper} {rest : List Oper} {o : Oper} {a : Act} {Q : Exit → Act → World → Prop} (hgd : o.guard = none) (x : Operand) (src dst e : TypeId)
    (ho : o.op = .convert src dst x) {u : TypeDesc} (hs : P.underlying src = some u) (hd : P.underlying dst = some (.slice e)) (he : P.underlying e = some (.int .u8)) (s : ByteArray) (hx : a.eval x = .string s) (hlen : s.size ≤ 140737488355328)
    (h : ∀ v' w', Rd w' 1 v' (sb s).length (ints .u8 (sb s)) → Frm M0 w w' → v'.ownBlock = some w.heap.size → wpList P ops Q rest (a.put o.dst v') w') : wpList P ops Q (o :: rest) a w := by
  refine wpList_plain hgd fun K hK => ?_
  have hrun := Lib.run_convert_string_bytes w src dst e s hs hd he
  unfold Oper.wp
  simp only [execOp, ho, hx, Sem.run_bind, hrun, Result.andThen_ok]
  refine hK _ _ (h _ _ ?_ ?_ rfl)
  · refine ⟨by simp, .inr ⟨⟨w.heap.size, 0, none⟩, grownCap w s.size 0 e, by rw [sb_len], ?_, ?_, fun j y hy => ?_⟩⟩
    · rw [sb_len]; exact grownCap_ge w s.size 0 e
    · exact grownCap_le_maxLen w s.size 0 e (by unfold maxLen; omega)
    · have hj : j < s.size := by
        have := (List.getElem?_eq_some_iff.1 hy).1
        simp only [ints, List.length_map, sb_len] at this
        exact this
      rw [add_none, Nat.zero_add, Lib.bytesWorld_cell w e s j hj, ← hy]
      have hj2 : j < s.data.toList.length := by rw [Array.length_toList]; exact hj
      simp only [ints, sb, List.getElem?_map, List.getElem?_eq_getElem hj2, Option.map_some, List.getD_eq_getElem?_getD, Option.getD_some]
  · refine ⟨rfl, rfl, rfl, by rw [Lib.bytesWorld_size]; omega, fun k hk _ => Lib.bytesWorld_at_old w e s k hk⟩

/-- A scope with one label: what stands behind the label is walked once. -/
theorem wp_scope_again {P : Program} {a : Act} {w : World} {Q : Exit → Act → World → Prop} {c rest : Code} (l : Nat) (J : Act → World → Prop) (μ : Act → World → Nat) (hf : findLabel c l = some (Code.skip.seq rest))
    (start : (∀ a w, J a w → rest.wp P (Exit.jump l J Q) a w) → c.wp P (Exit.jump l J Q) a w)
    (pass : ∀ a w, J a w → rest.wp P (Exit.jump l (fun a' w' => J a' w' ∧ μ a' w' < μ a w) Q) a w) : (Code.scope c).wp P Q a w := by
  refine wp_scope_jumps l J μ hf (start fun a w h => Code.wp_mono ?_ (pass a w h)) (fun a w h => wp_seq_k fun K hK => wp_skip (hK _ _ (pass a w h)))
  intro e a' w' he
  cases e with
  | goto l' => exact ⟨he.1, he.2.1⟩
  | _ => exact he

theorem heap_set_at {w : World} {b o : Nat} {c : Array Value} {e : TypeId} {f : Nat × Nat} (h : w.heap[b]? = some (.cells c e f)) (v : Value) :
    (w.setCell ⟨b, o, none⟩ v).heap[b]? = some (.cells (c.setIfInBounds o v) e f) := by
  simp only [World.setCell, Array.getElem?_modify, if_true, h, Option.map_some]
  rfl
theorem Frm.put {M : Nat → Prop} {a w : World} (h : Frm M a w) (b o : Nat) (u : Value) (hb : b < a.heap.size → M b) : Frm M a (w.setCell ⟨b, o, none⟩ u) := h.setCell (p := ⟨b, o, none⟩) u hb

theorem Rd.cap {w : World} {size n m c : Nat} {a : Option Addr} {xs : List Value} (h : Rd w size (.slice a m c) n xs) : m = n ∧ n ≤ c ∧ c ≤ 9223372036854775807 := by
  rcases h.2 with ⟨h2, h0⟩ | ⟨x, cap, h2, h3, h4, _⟩
  · cases h2; exact ⟨h0.symm, by omega, by omega⟩
  · simp only [Value.slice.injEq] at h2
    unfold maxLen at h4
    obtain ⟨_, rfl, rfl⟩ := h2
    exact ⟨rfl, h3, h4⟩
theorem Rd.drop {w : World} {b o n c : Nat} {k : IntKind} {l : List Int} (h : Rd w 1 (.slice (some ⟨b, o, none⟩) n c) l.length (ints k l)) (i : Nat) (hi : i ≤ l.length) :
    Rd w 1 (.slice (some ⟨b, o + i, none⟩) (l.length - i) (c - i)) (l.drop i).length (ints k (l.drop i)) := by
  rcases h.2 with ⟨h2, h0⟩ | ⟨x, cap, h2, h3, h4, h6⟩
  · cases h2
  · simp only [Value.slice.injEq, Option.some.injEq] at h2
    obtain ⟨rfl, rfl, rfl⟩ := h2
    refine ⟨by simp [ints], .inr ⟨⟨b, o + i, none⟩, c - i, by rw [List.length_drop], by rw [List.length_drop]; omega, by omega, fun j u hu => ?_⟩⟩
    rw [add_none, Nat.add_assoc, ← add_none]
    refine h6 (i + j) u ?_
    rw [← hu]; unfold ints; rw [List.map_drop, List.getElem?_drop]
theorem Rd.dropAll {w : World} {x : Addr} {n c : Nat} {k : IntKind} {l : List Int} (_h : Rd w 1 (.slice (some x) n c) l.length (ints k l)) (i : Nat) (hi : l.length ≤ i) :
    Rd w 1 (.slice (some x) (l.length - i) 0) (l.drop i).length (ints k (l.drop i)) := by
  refine ⟨by simp [ints], .inr ⟨x, 0, by rw [List.length_drop], by rw [List.length_drop]; omega, by omega, fun j u hu => ?_⟩⟩
  rw [List.drop_of_length_le hi] at hu
  simp [ints] at hu
theorem Rd.take {w : World} {x : Addr} {n c : Nat} {k : IntKind} {l : List Int} (h : Rd w 1 (.slice (some x) n c) l.length (ints k l)) (i : Nat) (hi : i ≤ l.length) :
    Rd w 1 (.slice (some x) i c) (l.take i).length (ints k (l.take i)) := by
  rcases h.2 with ⟨h2, h0⟩ | ⟨x', cap, h2, h3, h4, h6⟩
  · cases h2
  · simp only [Value.slice.injEq, Option.some.injEq] at h2
    obtain ⟨rfl, rfl, rfl⟩ := h2
    have e : (l.take i).length = i := by rw [List.length_take]; omega
    refine ⟨by simp [ints], .inr ⟨x, c, by rw [e], by omega, by omega, fun j u hu => h6 j u ?_⟩⟩
    unfold ints at hu ⊢
    rw [List.map_take, List.getElem?_take] at hu
    split at hu
    · exact hu
    · cases hu
theorem strOfNums_sb (s : ByteArray) : strOfNums (sb s) = s := by
  have h : (strOfNums (sb s)).data.toList = s.data.toList := by
    rw [strOfNums_data]; unfold sb; rw [List.map_map]
    refine (List.map_congr_left (g := id) fun c _ => ?_).trans (List.map_id _)
    simp
  cases s with | mk d => exact congrArg ByteArray.mk (Array.toList_inj.1 h)
theorem strOfNums_nil : strOfNums [] = ⟨#[]⟩ := rfl
theorem Rd.cellsOf {w : World} {b o n c : Nat} {k : IntKind} {l : List Int} (h : Rd w 1 (.slice (some ⟨b, o, none⟩) n c) l.length (ints k l)) : ∀ i, i < l.length → w.cell? ⟨b, o + i, none⟩ = some (.int k (l.getD i 0)) := by
  intro i hi
  obtain ⟨x, hx, hc⟩ := h.cellAt i hi
  rw [hc, List.getD_eq_getElem?_getD, hx.out]; rfl
theorem run_str {P : Program} {w : World} {v : Value} {l : List Int} (src dst e : TypeId) (hs : P.underlying src = some (.slice e)) (hd : P.underlying dst = some .string) (he : P.underlying e = some (.int .u8))
    (hr : Rd w 1 v l.length (ints .u8 l)) : (convert src dst v).run P w = .ok (.string (strOfNums l)) w := by
  rcases hr.2 with ⟨rfl, h0⟩ | ⟨x, cap, rfl, h1, h2, h4⟩
  · have hl0 : l = [] := List.eq_nil_of_length_eq_zero h0
    subst hl0
    exact run_convert_bytes_nil w src e hs he 0 0 dst hd
  · have hl : (loadCells x l.length).run P w = .ok (l.map (Value.int .u8)).toArray w := by
      have := run_loadCells_list (P := P) w x (l.map (Value.int .u8)) h4
      simpa using this
    rw [run_convert_bytes_string w src dst e _ l.length cap hs he hd, run_bytesToString w _ l.length cap l hl, foldl_push_bytes]
    simp [strOfNums, ByteArray.empty, ByteArray.emptyWithCapacity]
    rfl
/-- 'string(b)': the bytes' string. -/
theorem wpList_str {P : Program} {w : World} {ops : Array Oper} {rest : List Oper} {o : Oper} {a : Act} {Q : Exit → Act → World → Prop} (hgd : o.guard = none) (x : Operand) (src dst e : TypeId)
    (ho : o.op = .convert src dst x) (hs : P.underlying src = some (.slice e)) (hd : P.underlying dst = some .string) (he : P.underlying e = some (.int .u8)) (v : Value) (l : List Int) (hx : a.eval x = v)
    (hr : Rd w 1 v l.length (ints .u8 l)) (h : wpList P ops Q rest (a.put o.dst (.string (strOfNums l))) w) : wpList P ops Q (o :: rest) a w := by
  refine wpList_plain hgd fun K hK => ?_
  have hrun := run_str (P := P) src dst e hs hd he hr
  unfold Oper.wp
  simp only [execOp, ho, hx, Sem.run_bind, hrun, Result.andThen_ok]
  exact hK _ _ h

end Go.Proofs.YtonlmkcolndaaaaGreatDoor
