/- What the walks of this seat are told of memory: which blocks a call may have turned, and which lists a slice reads as. No condition. Rows of elements of several cells: how they are appended to, cut, read. No condition. What the shelf lays at this dump (Tryz.strconv_Itoa). strconv.Itoa and strings.Join as the walks here take them. What holds in every world that grew out of one, but for some blocks. No condition. What the shelf lays at this dump (Tryz.slices_Contains_int, Tryz.slices_Contains_int_empty, Tryz.slices_Equal_string, Tryz.slices_Equal_string_empty, Tryz.slices_Index_string, Tryz.slices_Index_string_empty, Tryz.slices_Sort_int, Tryz.slices_Sort_int_none, Tryz.slices_Sort_string, Tryz.slices_Sort_string_none, Tryz.strconv_Atoi_ok, Tryz.strconv_Atoi_range_var, Tryz.strconv_Atoi_syntax_var). codec's writers and the reference's, each by one plain function of what came in: numW, textW, listW. strings.Split, strings.TrimPrefix, strconv.Atoi as the walks here take them, and what they want of the library's variables. From what a row lists of the library's variables, and from the world's shape, to what the walks here want of them. Maps by whole numbers that a call makes of constants: insert, lookup, entry by entry. No condition. Maps by texts: lookup, put (anew or over what is there), length. No condition. Records by value; the walk of record.kinds: the map of kinds, of closures. No condition. Two records held against each other. No condition. Records by value; what the closures of record.kinds say. No condition. What the closures of record.kinds say of a record (in progress). spec: between, step, pointers. No condition. spec: Fields, Make. No condition. A region that draws its order, whose operations yield one value whatever fresh memory was made, beside one allocation that a last store fills: one walk of the text's order serves every order. No condition. spec.Check. No condition. kinds$5: begin. No condition. kinds$7, kinds$8: intent, ack. No condition. kinds$4, kinds$6, kinds$9: publish, move, step. No condition. record.Right. No condition. record.Right and record.Name, whole. No condition. A message, as a value. No condition. What a step tells, as a value. No condition. A region that draws its order, whose operations yield one value each whatever fresh memory was made, beside some allocations, and behind them a tail in one forced order: one walk of the text's order serves every order. No condition. A region that draws its order: the step of one operation. No condition. A struct or an array that lies in a block, whole or as a part of it: loaded, stored. No condition. min and max of two whole numbers, kept whole. No condition. The trace's tables of words, in, Word of both sides. A number and its digits: what Atoi reads, what the reference counts. Plain Lean, no condition. spec.number, and the reference's Number. The error of a word, on both sides; slices.Index over texts. The walks of the document's reader: bad, End, GetNumber. No condition. Re -/
import Derived.Test.YtmacpdddimcmgaaGreatDoorProg
import Derived.WalkKit
import Derived.KernelRfl
import Derived.WalkSpells
import Derived.Outline
import Derived.Laws.BytesArg
import Derived.Laws.AppendOwnNone
import Derived.Lib.ConvBytes
import Derived.Deep.Draws
import Derived.Lib.AppendStr
import Derived.ScopeJumps
import Derived.Shelf.Small.Bits
import Derived.Shelf.Small.Wraps
import Derived.Shelf.Strconv.Atoi
import Derived.Shelf.Strconv.Itoa0
import Derived.Shelf.Strconv.Itoa1
import Derived.Shelf.LaysM
import Derived.Shelf.Strconv.Itoa2
import Derived.Shelf.Strconv.Itoa3
import Derived.Shelf.Strconv.AtoiErrFast
import Derived.Shelf.Strconv.ParseIntEmpty
import Derived.Shelf.Strconv.AtoiFail
import Derived.Shelf.Strconv.Clone
import Derived.Shelf.Strconv.SyntaxError
import Derived.Shelf.LaysC
import Derived.Shelf.Strconv.ToError
import Derived.Shelf.Strconv.Lower
import Derived.Shelf.Strconv.ParseUint10
import Derived.Shelf.Strconv.ParseUint10Empty
import Derived.Shelf.Strconv.ParseUint10Any
import Derived.Shelf.Strconv.ParseInt10
import Derived.Shelf.Strconv.AtoiLong
import Derived.Shelf.Strconv.AtoiInnerAll
import Derived.Shelf.Strconv.RangeError
import Derived.Shelf.Strconv.ToErrorRange
import Derived.Shelf.Strconv.AtoiAll
import Derived.Shelf.Strconv.ErrVarAll
import Derived.Shelf.Sort.Plain
import Derived.Shelf.Slices.Turned
import Derived.Shelf.Slices.Equal
import Derived.Ground.Names2Prog
import Derived.Shelf.Slices.SearchI
import Derived.Shelf.Slices.In.SortNone
import Derived.Lib.ItoaLen
import Derived.Lib.Split
import Derived.Lib.SplitLaws
import Derived.Lib.Strings
import Derived.Lib.Join
import Derived.Handed
import Derived.Shelf.Vars
import Derived.Stop.LaidErr
import Derived.LaidMore
import Derived.LaidSub
import Derived.ProofKit
import Derived.MapKept
import Derived.Deep.DeepCutAuto
import Derived.Deep.RegionHeld3
import Derived.Laws.EntriesVeiled
import Derived.ChangeKeysEq
import Derived.Lib.SlicesS
import Derived.Deep.QuietTactic
import Derived.BigQuiet
import Derived.Deep.WholeRow
import Derived.StillTailTactics
import Derived.StillTail
import Derived.Laws.Tables
import Derived.BigFrame
import Derived.RegionTactic
import Derived.IntWalk
namespace Go.Proofs.YtmacpdddimcmgaaGreatDoor
set_option linter.unusedVariables false
set_option linter.unusedSimpArgs false
set_option maxRecDepth 20000
open Go.RowKit
theorem hid {p : Prop} (h : p) : Hid p := h
structure Frm (M : Nat → Prop) (w w' : World) : Prop where
  os : w'.os = w.os
  tape : w'.tape = w.tape
  output : w'.output = w.output
  size : w.heap.size ≤ w'.heap.size
  block : ∀ k, k < w.heap.size → ¬ M k → w'.heap[k]? = w.heap[k]?
abbrev M0 : Nat → Prop := fun _ => False
section
variable {M M' : Nat → Prop} {a w w' : World}
theorem Frm.refl (M : Nat → Prop) (w : World) : Frm M w w := ⟨rfl, rfl, rfl, Nat.le_refl _, fun _ _ _ => rfl⟩
theorem Frm.trans (h : Frm M a w) (k : Frm M' w w') (hm : ∀ b, b < a.heap.size → M' b → M b) : Frm M a w' :=
  ⟨k.os.trans h.os, k.tape.trans h.tape, k.output.trans h.output, Nat.le_trans h.size k.size,
    fun i hi hn => (k.block i (Nat.lt_of_lt_of_le hi h.size) (fun hm' => hn (hm i hi hm'))).trans (h.block i hi hn)⟩
theorem Frm.mono (h : Frm M w w') (hm : ∀ b, b < w.heap.size → M b → M' b) : Frm M' w w' :=
  ⟨h.os, h.tape, h.output, h.size, fun i hi hn => h.block i hi (fun x => hn (hm i hi x))⟩
theorem Frm.then0 (h : Frm M a w) (k : Frm M0 w w') : Frm M a w' := h.trans k (fun _ _ h => h.elim)
theorem Frm.same (h : Frm M a w) (k : Frm M w w') : Frm M a w' := h.trans k (fun _ _ h => h)
theorem Frm.drew (h : Frm M a w) : Frm M a w.drew := ⟨h.os, h.tape, h.output, h.size, h.block⟩
theorem Frm.drewN (h : Frm M a w) (n : Nat) : Frm M a (w.drewN n) := ⟨h.os, h.tape, h.output, h.size, h.block⟩
theorem Frm.alloc (h : Frm M a w) (o : Obj) : Frm M a (w.alloc o) :=
  h.trans (M' := M0) ⟨rfl, rfl, rfl, by simp, fun k hk _ => Below.heap_alloc _ _ _ hk⟩ (fun _ _ h => h.elim)
theorem Frm.setCell (h : Frm M a w) {p : Addr} (u : Value) (hp : p.block < a.heap.size → M p.block) : Frm M a (w.setCell p u) :=
  h.trans (M' := fun b => b = p.block) ⟨rfl, rfl, rfl, by simp [World.setCell], fun k _ hk => Below.heap_setCell _ _ _ _ hk⟩ (fun b hb e => by subst e; exact hp hb)
theorem Frm.grown {row : Option Nat} (h : Frm M a w) (hg : w.grownBy w' row) (hr : ∀ k, row = some k → k < a.heap.size → M k) : Frm M a w' :=
  h.trans (M' := fun b => row = some b) ⟨hg.os, hg.tape, hg.output, hg.size, fun k hk hn => hg.block k hk (fun e => hn e.symm)⟩ (fun b hb e => hr b e hb)
theorem Frm.below (h : Frm M0 w w') : Below w.heap.size w w' := ⟨h.os, h.tape, h.output, h.size, fun k hk => h.block k hk (fun h => h)⟩
theorem Frm.ofBelow {B : Nat} (h : Below B w w') (hB : ∀ k, B ≤ k → k < w.heap.size → M k) : Frm M w w' :=
  ⟨h.os, h.tape, h.output, h.size, fun k hk hn => h.block k (Nat.lt_of_not_le fun x => hn (hB k x hk))⟩
theorem Frm.cell (h : Frm M w w') {p : Addr} {v : Value} (hc : w.cell? p = some v) (hn : ¬ M p.block) : w'.cell? p = some v :=
  (World.cell?_of_block (w := w) (h.block p.block (World.block_lt_of_cell? w p hc) hn)).trans hc
theorem Frm.heap (h : Frm M w w') {b : Nat} {o : Obj} (hc : w.heap[b]? = some o) (hn : ¬ M b) : w'.heap[b]? = some o := by
  have hb : b < w.heap.size := (Array.getElem?_eq_some_iff.1 hc).1
  rw [h.block b hb hn]; exact hc
theorem Frm.owns {base : Nat} {e : TypeId} {size : Nat} {v : Value} {n : Nat} {xs : List Value} (h : Frm M w w') (ho : w.ownsRow base e size v n xs) (hn : ∀ k, v.ownBlock = some k → ¬ M k) :
    w'.ownsRow base e size v n xs := by
  refine ⟨ho.1, ?_⟩
  rcases ho.2 with h2 | ⟨g, cap, cur, hv, hg, hh, r⟩
  · exact Or.inl h2
  · exact Or.inr ⟨g, cap, cur, hv, hg, h.heap hh (hn g (by rw [hv]; rfl)), r⟩
end
theorem add_none (b o j : Nat) : (⟨b, o, none⟩ : Addr).add j = ⟨b, o + j, none⟩ := by unfold Addr.add; split <;> simp_all
theorem add_block (x : Addr) (j : Nat) : (x.add j).block = x.block := by unfold Addr.add; split <;> rfl
def Rd (w : World) (size : Nat) (v : Value) (n : Nat) (xs : List Value) : Prop :=
  xs.length = n * size ∧ ((v = .slice none 0 0 ∧ n = 0) ∨
   ∃ x cap, v = .slice (some x) n cap ∧ n ≤ cap ∧ cap ≤ maxLen ∧ ∀ j u, xs[j]? = some u → w.cell? (Addr.add x j) = some u)
section
variable {M : Nat → Prop} {w w' : World} {size n : Nat} {v : Value} {xs : List Value}
theorem Rd.frm (h : Rd w size v n xs) (hf : Frm M w w') (hn : ∀ k, v.ownBlock = some k → ¬ M k) : Rd w' size v n xs := by
  refine ⟨h.1, ?_⟩
  rcases h.2 with h2 | ⟨x, cap, hv, h1, h3, hc⟩
  · exact .inl h2
  · refine .inr ⟨x, cap, hv, h1, h3, fun j u hu => hf.cell (hc j u hu) (by rw [add_block]; exact hn x.block (by rw [hv]; rfl))⟩
theorem Rd.frm0 (h : Rd w size v n xs) (hf : Frm M0 w w') : Rd w' size v n xs := h.frm hf (fun _ _ h => h)
theorem Rd.nil (w : World) (size : Nat) : Rd w size (.slice none 0 0) 0 [] := ⟨by simp, .inl ⟨rfl, rfl⟩⟩
theorem Rd.ofOwns {base : Nat} {e : TypeId} (h : w.ownsRow base e size v n xs) : Rd w size v n xs := by
  refine ⟨h.1, ?_⟩
  rcases h.2 with h2 | ⟨g, cap, cur, hv, hg, hh, h1, h3, h4, h5⟩
  · exact .inl h2
  · exact .inr ⟨⟨g, 0, none⟩, cap, hv, h1, h3, fun j u hu => h.cells (g := g) (by rw [hv]; rfl) j u hu⟩
end
theorem owns_base {w : World} {B B' : Nat} {e : TypeId} {size n : Nat} {v : Value} {xs : List Value} (h : w.ownsRow B' e size v n xs) (hB : B ≤ B') : w.ownsRow B e size v n xs := by
  refine ⟨h.1, ?_⟩
  rcases h.2 with h2 | ⟨g, cap, cur, hv, hg, r⟩
  · exact .inl h2
  · exact .inr ⟨g, cap, cur, hv, Nat.le_trans hB hg, r⟩
abbrev ints (k : IntKind) (l : List Int) : List Value := l.map (Value.int k)
theorem ints_app (k : IntKind) (l : List Int) (x : Int) : ints k l ++ [.int k x] = ints k (l ++ [x]) := by simp [ints]
theorem wpList_append_src {P : Program} {w : World} {ops : Array Oper} {rest : List Oper} {o : Oper} {a : Act} {Q : Exit → Act → World → Prop} (hgd : o.guard = none) (s x : Operand) (t : TypeId)
    (ho : o.op = .call { callee := .builtin .append, args := #[s, x], argTypes := #[t, t] })
    (base : Nat) (e : TypeId) (z : Value) (size bytes : Nat) (ht : P.underlying t = some (.slice e)) (hinfo : (P.info? e).map (fun i => (i.zero, i.size, i.bytes)) = some (some z, size, bytes))
    (hzs : z.cells.size = size) (hsz : 0 < size)
    (v : Value) (n : Nat) (xs : List Value) (hs : a.eval s = v) (hown : w.ownsRow base e size v n xs)
    (vs : Value) (m : Nat) (news : List Value) (hx : a.eval x = vs) (hr : Rd w size vs m news) (h1 : ∀ u ∈ news, u.oneCell' = true)
    (h63 : n + m ≤ maxLen) (hbytes : (n + m) * bytes ≤ 140737488355328) (hbase : base ≤ w.heap.size)
    (h : ∀ v' w', w'.ownsRow base e size v' (n + m) (xs ++ news) → w.grownBy w' v.ownBlock → wpList P ops Q rest (a.put o.dst v') w') : wpList P ops Q (o :: rest) a w := by
  obtain ⟨i, hi, hz, hsize, hby⟩ := info_parts hinfo
  rcases hr.2 with ⟨rfl, rfl⟩ | ⟨ad, cap, rfl, hc1, hc2, hcell⟩
  · have hn : news = [] := List.eq_nil_of_length_eq_zero (by simpa using hr.1)
    subst hn
    refine wpList_append_own_none hgd s x t ho base e i size ht hi v n xs hs hown hx ?_
    exact h v w (by simpa using hown) ⟨rfl, rfl, rfl, Nat.le_refl _, fun _ _ _ => rfl⟩
  · refine wpList_append_own w hgd s x t ho base e i z size bytes ht hi hz hsize hby hzs hsz v n xs hs hown ad m cap news hx hr.1 hcell h1 h63 hbytes hbase ?_
    intro v' w' h2 h3 _; exact h v' w' h2 h3
theorem wpList_push_int {P : Program} {w : World} {ops : Array Oper} {rest : List Oper} {o : Oper} {a : Act} {Q : Exit → Act → World → Prop} (hgd : o.guard = none) (s x : Operand) (t : TypeId)
    (ho : o.op = .call { callee := .builtin .append, args := #[s, x], argTypes := #[t, t] })
    (base : Nat) (e : TypeId) (k : IntKind) (bytes : Nat) (ht : P.underlying t = some (.slice e)) (hinfo : (P.info? e).map (fun i => (i.zero, i.size, i.bytes)) = some (some (.int k 0), 1, bytes))
    (v : Value) (l : List Int) (y : Int) (hs : a.eval s = v) (hown : w.ownsRow base e 1 v l.length (ints k l))
    (hx : a.eval x = .slice (some ⟨w.heap.size, 0, none⟩) 1 1)
    (h63 : l.length + 1 ≤ maxLen) (hbytes : (l.length + 1) * bytes ≤ 140737488355328) (hbase : base ≤ w.heap.size)
    (h : ∀ v' w', w'.ownsRow base e 1 v' (l ++ [y]).length (ints k (l ++ [y])) → w.grownBy w' v.ownBlock → wpList P ops Q rest (a.put o.dst v') w') :
    wpList P ops Q (o :: rest) a (w.alloc (.cells #[.int k y] e)) := by
  refine wpList_append_src hgd s x t ho base e (.int k 0) 1 bytes ht hinfo rfl (by decide) v l.length (ints k l) hs (hown.alloc _) _ 1 [.int k y] hx ?_ ?_ h63 hbytes (by simp; omega) ?_
  · refine ⟨rfl, .inr ⟨⟨w.heap.size, 0, none⟩, 1, rfl, Nat.le_refl _, by unfold maxLen; omega, fun j u hu => ?_⟩⟩
    have hj : j = 0 := by
      rcases j with _ | j
      · rfl
      · simp at hu
    subst hj
    simp only [List.getElem?_cons_zero, Option.some.injEq] at hu
    subst hu
    rw [add_none, World.cell?_alloc_at _ _ _ _ rfl]
    rfl
  · intro u hu; simp at hu; subst hu; rfl
  · intro v' w' h2 h3
    refine h v' w' ?_ ?_
    · rw [ints_app] at h2; simpa using h2
    · have g := World.grownBy_alloc w (.cells #[.int k y] e) v.ownBlock
      exact ⟨h3.os.trans g.os, h3.tape.trans g.tape, h3.output.trans g.output, Nat.le_trans g.size h3.size, fun i hi hn => (h3.block i (Nat.lt_of_lt_of_le hi g.size) hn).trans (g.block i hi hn)⟩
def sb (s : ByteArray) : List Int := s.data.toList.map fun c => (c.toNat : Int)
theorem Rd.cellAt {w : World} {b o len cap n : Nat} {k : IntKind} {l : List Int} (h : Rd w 1 (.slice (some ⟨b, o, none⟩) len cap) n (ints k l)) (i : Nat) (hi : i < l.length) :
    ∃ x, Hid (l[i]? = some x) ∧ w.cell? ⟨b, o + i, none⟩ = some (.int k x) := by
  rcases h.2 with ⟨h2, _⟩ | ⟨x, cap', h2, _, _, hc⟩
  · cases h2
  · simp only [Value.slice.injEq, Option.some.injEq] at h2
    obtain ⟨rfl, rfl, rfl⟩ := h2
    refine ⟨l[i], by rw [List.getElem?_eq_getElem hi]; exact rfl, ?_⟩
    rw [← add_none]
    exact hc i _ (by simp [ints, hi])
theorem take_snoc {α : Type} {l : List α} {i : Nat} {x : α} (h : l[i]? = some x) : l.take (i + 1) = l.take i ++ [x] := by
  obtain ⟨hi, rfl⟩ := List.getElem?_eq_some_iff.1 h
  exact List.take_succ_eq_append_getElem hi
theorem Rd.shapeN {w : World} {size n : Nat} {v : Value} {xs : List Value} (h : Rd w size v n xs) : ∃ a c, v = .slice a n c ∧ (0 < n * size → ∃ b o, a = some ⟨b, o, none⟩) := by
  rcases h.2 with ⟨rfl, h0⟩ | ⟨x, cap, rfl, _, _, hc⟩
  · exact ⟨none, 0, by rw [h0], fun h => by rw [h0] at h; omega⟩
  · refine ⟨_, _, rfl, fun h0 => ?_⟩
    obtain ⟨u, hu⟩ : ∃ u, xs[0]? = some u := ⟨xs[0]'(by rw [h.1]; exact h0), List.getElem?_eq_getElem _⟩
    have hs := World.cell?_spot (hc 0 u hu)
    obtain ⟨b, o, sp⟩ := x
    have : sp = none := by simpa [Addr.add] using hs
    exact ⟨b, o, by rw [this]⟩
theorem Rd.shape {w : World} {n : Nat} {v : Value} {xs : List Value} (h : Rd w 1 v n xs) : ∃ a c, v = .slice a n c ∧ (0 < n → ∃ b o, a = some ⟨b, o, none⟩) := by
  obtain ⟨a, c, h1, h2⟩ := h.shapeN
  exact ⟨a, c, h1, fun h => h2 (by omega)⟩
theorem heap_set_at {w : World} {b o : Nat} {c : Array Value} {e : TypeId} {f : Nat × Nat} (h : w.heap[b]? = some (.cells c e f)) (v : Value) :
    (w.setCell ⟨b, o, none⟩ v).heap[b]? = some (.cells (c.setIfInBounds o v) e f) := by
  simp only [World.setCell, Array.getElem?_modify, if_true, h, Option.map_some]
  rfl
theorem Frm.put {M : Nat → Prop} {a w : World} (h : Frm M a w) (b o : Nat) (u : Value) (hb : b < a.heap.size → M b) : Frm M a (w.setCell ⟨b, o, none⟩ u) := h.setCell (p := ⟨b, o, none⟩) u hb
theorem Rd.cap {w : World} {size n m c : Nat} {a : Option Addr} {xs : List Value} (h : Rd w size (.slice a m c) n xs) : m = n ∧ n ≤ c ∧ c ≤ 9223372036854775807 := by
  rcases h.2 with ⟨h2, h0⟩ | ⟨x, cap, h2, h3, h4, _⟩
  · cases h2; exact ⟨h0.symm, by omega, by omega⟩
  · simp only [Value.slice.injEq] at h2
    unfold maxLen at h4
    obtain ⟨_, rfl, rfl⟩ := h2
    exact ⟨rfl, h3, h4⟩
theorem Rd.drop {w : World} {b o n c : Nat} {k : IntKind} {l : List Int} (h : Rd w 1 (.slice (some ⟨b, o, none⟩) n c) l.length (ints k l)) (i : Nat) (hi : i ≤ l.length) :
    Rd w 1 (.slice (some ⟨b, o + i, none⟩) (l.length - i) (c - i)) (l.drop i).length (ints k (l.drop i)) := by
  rcases h.2 with ⟨h2, h0⟩ | ⟨x, cap, h2, h3, h4, h6⟩
  · cases h2
  · simp only [Value.slice.injEq, Option.some.injEq] at h2
    obtain ⟨rfl, rfl, rfl⟩ := h2
    refine ⟨by simp [ints], .inr ⟨⟨b, o + i, none⟩, c - i, by rw [List.length_drop], by rw [List.length_drop]; omega, by omega, fun j u hu => ?_⟩⟩
    rw [add_none, Nat.add_assoc, ← add_none]
    refine h6 (i + j) u ?_
    rw [← hu]; unfold ints; rw [List.map_drop, List.getElem?_drop]
theorem Rd.take {w : World} {x : Addr} {n c : Nat} {k : IntKind} {l : List Int} (h : Rd w 1 (.slice (some x) n c) l.length (ints k l)) (i : Nat) (hi : i ≤ l.length) :
    Rd w 1 (.slice (some x) i c) (l.take i).length (ints k (l.take i)) := by
  rcases h.2 with ⟨h2, h0⟩ | ⟨x', cap, h2, h3, h4, h6⟩
  · cases h2
  · simp only [Value.slice.injEq, Option.some.injEq] at h2
    obtain ⟨rfl, rfl, rfl⟩ := h2
    have e : (l.take i).length = i := by rw [List.length_take]; omega
    refine ⟨by simp [ints], .inr ⟨x, c, by rw [e], by omega, by omega, fun j u hu => h6 j u ?_⟩⟩
    unfold ints at hu ⊢
    rw [List.map_take, List.getElem?_take] at hu
    split at hu
    · exact hu
    · cases hu
theorem Rd.cellsOf {w : World} {b o n c : Nat} {k : IntKind} {l : List Int} (h : Rd w 1 (.slice (some ⟨b, o, none⟩) n c) l.length (ints k l)) : ∀ i, i < l.length → w.cell? ⟨b, o + i, none⟩ = some (.int k (l.getD i 0)) := by
  intro i hi
  obtain ⟨x, hx, hc⟩ := h.cellAt i hi
  rw [hc, List.getD_eq_getElem?_getD, hx.out]; rfl
end Go.Proofs.YtmacpdddimcmgaaGreatDoor
namespace Go.Proofs.YtmacpdddimcmgaaGreatDoor
set_option linter.unusedVariables false
set_option linter.unusedSimpArgs false
set_option maxRecDepth 20000
open Go.RowKit
section
variable {α : Type} {enc : α → List Value} {sz : Nat}
theorem els_len (he : ∀ a, (enc a).length = sz) (l : List α) : (l.flatMap enc).length = l.length * sz := by
  induction l with
  | nil => simp
  | cons b l ih => rw [List.flatMap_cons, List.length_append, ih, he, List.length_cons, Nat.succ_mul]; omega
theorem els_get (he : ∀ a, (enc a).length = sz) : ∀ (l : List α) (i r : Nat) (a : α), l[i]? = some a → r < sz → (l.flatMap enc)[i * sz + r]? = (enc a)[r]? := by
  intro l
  induction l with
  | nil => intro i r a h; simp at h
  | cons b l ih =>
    intro i r a h hr
    rw [List.flatMap_cons]
    rcases i with _ | i
    · simp only [List.getElem?_cons_zero, Option.some.injEq] at h
      subst h
      rw [List.getElem?_append_left (by rw [he]; omega)]
      simp
    · rw [List.getElem?_append_right (by rw [he]; rw [Nat.succ_mul]; omega), he, show (i + 1) * sz + r - sz = i * sz + r by rw [Nat.succ_mul]; omega]
      exact ih i r a (by simpa using h) hr
theorem els_one (h1 : ∀ a, ∀ u ∈ enc a, u.oneCell' = true) (l : List α) : ∀ u ∈ l.flatMap enc, u.oneCell' = true := by
  intro u hu
  obtain ⟨m, _, hm⟩ := List.mem_flatMap.1 hu
  exact h1 m u hm
theorem els_drop (he : ∀ a, (enc a).length = sz) : ∀ (l : List α) (k : Nat), (l.flatMap enc).drop (k * sz) = (l.drop k).flatMap enc := by
  intro l
  induction l with
  | nil => intro k; simp
  | cons m l ih =>
    intro k
    rcases k with _ | k
    · simp
    · rw [List.flatMap_cons, List.drop_succ_cons, ← ih k, show (k + 1) * sz = (enc m).length + k * sz by rw [he, Nat.succ_mul]; omega, List.drop_length_add_append]
theorem wpList_push_els {P : Program} {w : World} {ops : Array Oper} {rest : List Oper} {o : Oper} {a : Act} {Q : Exit → Act → World → Prop} (he : ∀ a, (enc a).length = sz) (h1 : ∀ a, ∀ u ∈ enc a, u.oneCell' = true)
    (hgd : o.guard = none) (s x : Operand) (t : TypeId)
    (ho : o.op = .call { callee := .builtin .append, args := #[s, x], argTypes := #[t, t] })
    (base : Nat) (e : TypeId) (z : Value) (bytes : Nat) (ht : P.underlying t = some (.slice e)) (hinfo : (P.info? e).map (fun i => (i.zero, i.size, i.bytes)) = some (some z, sz, bytes))
    (hzs : z.cells.size = sz) (hsz : 0 < sz)
    (v : Value) (l : List α) (hs : a.eval s = v) (hown : w.ownsRow base e sz v l.length (l.flatMap enc))
    (vs : Value) (m : List α) (hx : a.eval x = vs) (hr : Rd w sz vs m.length (m.flatMap enc))
    (hbytes : (l.length + m.length) * bytes ≤ 140737488355328) (h63 : l.length + m.length ≤ 140737488355328) (hbase : base ≤ w.heap.size)
    (h : ∀ v' w', w'.ownsRow base e sz v' (l ++ m).length ((l ++ m).flatMap enc) → w.grownBy w' v.ownBlock → wpList P ops Q rest (a.put o.dst v') w') : wpList P ops Q (o :: rest) a w := by
  refine wpList_append_src hgd s x t ho base e z sz bytes ht hinfo hzs hsz v l.length (l.flatMap enc) hs hown vs m.length (m.flatMap enc) hx hr (els_one h1 _) (by unfold maxLen; omega) hbytes hbase ?_
  intro v' w' h2 h3
  refine h v' w' ?_ h3
  rw [List.length_append, List.flatMap_append]
  exact h2
end
theorem Rd.shapeL {w : World} {size n : Nat} {v : Value} {xs : List Value} (h : Rd w size v n xs) : ∃ a m c, v = .slice a m c ∧ Hid (m = n ∧ (0 < n * size → ∃ b o, a = some ⟨b, o, none⟩)) := by
  obtain ⟨a, c, h1, h2⟩ := h.shapeN
  exact ⟨a, n, c, h1, hid ⟨rfl, h2⟩⟩
theorem Frm.putN {a w : World} (h : Frm M0 a w) (b o : Nat) (u : Value) (hb : a.heap.size ≤ b) : Frm M0 a (w.setCell ⟨b, o, none⟩ u) := h.put b o u (fun h => by omega)
theorem new1 (w : World) (a : Obj) : (w.alloc a).heap[w.heap.size]? = some a := by
  show (w.heap.push a)[w.heap.size]? = some a
  simp
theorem new2 (w : World) (a b : Obj) : ((w.alloc a).alloc b).heap[w.heap.size]? = some a ∧ ((w.alloc a).alloc b).heap[w.heap.size + 1]? = some b := by
  refine ⟨((Frm.refl M0 _).alloc b).heap (new1 w a) (fun h => h), ?_⟩
  have := new1 (w.alloc a) b
  simpa using this
end Go.Proofs.YtmacpdddimcmgaaGreatDoor
namespace Go.Proofs
open Go.Shelf
def Tryz.laysM171_ren : Go.Shelf.Ren := ⟨fun | 171 => 38 | 243 => 67 | 246 => 96 | 283 => 143 | 284 => 144 | 285 => 145 | 286 => 146 | 129 => 116 | 317 => 169 | 318 => 170 | 319 => 171 | 320 => 172 | 337 => 180 | 338 => 181 | n => n, fun | 3 => 3 | 9 => 9 | 2 => 2 | 4 => 4 | 171 => 194 | 0 => 0 | 53 => 182 | 37 => 165 | 5 => 5 | 173 => 196 | 212 => 217 | 51 => 180 | 20 => 20 | 213 => 218 | 46 => 108 | 232 => 237 | 233 => 238 | n => n, fun | 17 => 2 | 18 => 3 | 19 => 4 | n => n⟩
theorem Tryz.laysM171 : Go.Proofs.LaysM.n171 Tryz.prog Tryz.laysM171_ren := {
  mixed := by kernel_rfl
  f129 := Tryz.func116.trans (congrArg some (by kernel_rfl))
  f171 := Tryz.func38.trans (congrArg some (by kernel_rfl))
  f243 := Tryz.func67.trans (congrArg some (by kernel_rfl))
  f246 := Tryz.func96.trans (congrArg some (by kernel_rfl))
  f283 := Tryz.func143.trans (congrArg some (by kernel_rfl))
  f284 := Tryz.func144.trans (congrArg some (by kernel_rfl))
  f285 := Tryz.func145.trans (congrArg some (by kernel_rfl))
  f286 := Tryz.func146.trans (congrArg some (by kernel_rfl))
  f317 := Tryz.func169.trans (congrArg some (by kernel_rfl))
  f318 := Tryz.func170.trans (congrArg some (by kernel_rfl))
  f319 := Tryz.func171.trans (congrArg some (by kernel_rfl))
  f320 := Tryz.func172.trans (congrArg some (by kernel_rfl))
  f337 := Tryz.func180.trans (congrArg some (by kernel_rfl))
  f338 := Tryz.func181.trans (congrArg some (by kernel_rfl))
  t0 := Tryz.underlying0
  a0 := Tryz.isAgg0
  z0 := Tryz.sizeOf0
  v0 := Tryz.zeroValue0
  t2 := Tryz.underlying2
  a2 := Tryz.isAgg2
  z2 := Tryz.sizeOf2
  v2 := Tryz.zeroValue2
  t3 := Tryz.underlying3
  a3 := Tryz.isAgg3
  z3 := Tryz.sizeOf3
  v3 := Tryz.zeroValue3
  t4 := Tryz.underlying4
  a4 := Tryz.isAgg4
  z4 := Tryz.sizeOf4
  v4 := Tryz.zeroValue4
  t5 := Tryz.underlying5
  a5 := Tryz.isAgg5
  z5 := Tryz.sizeOf5
  v5 := Tryz.zeroValue5
  t9 := Tryz.underlying9
  a9 := Tryz.isAgg9
  z9 := Tryz.sizeOf9
  v9 := Tryz.zeroValue9
  t20 := Tryz.underlying20
  a20 := Tryz.isAgg20
  z20 := Tryz.sizeOf20
  v20 := Tryz.zeroValue20
  t37 := Tryz.underlying165
  a37 := Tryz.isAgg165
  z37 := Tryz.sizeOf165
  v37 := Tryz.zeroValue165
  t46 := Tryz.underlying108
  a46 := Tryz.isAgg108
  z46 := Tryz.sizeOf108
  v46 := Tryz.zeroValue108
  t51 := Tryz.underlying180
  a51 := Tryz.isAgg180
  z51 := Tryz.sizeOf180
  v51 := Tryz.zeroValue180
  t53 := Tryz.underlying182
  a53 := Tryz.isAgg182
  z53 := Tryz.sizeOf182
  v53 := Tryz.zeroValue182
  t171 := Tryz.underlying194
  a171 := Tryz.isAgg194
  z171 := Tryz.sizeOf194
  v171 := Tryz.zeroValue194
  t173 := Tryz.underlying196
  a173 := Tryz.isAgg196
  z173 := Tryz.sizeOf196
  v173 := Tryz.zeroValue196
  t212 := Tryz.underlying217
  a212 := Tryz.isAgg217
  z212 := Tryz.sizeOf217
  v212 := Tryz.zeroValue217
  t213 := Tryz.underlying218
  a213 := Tryz.isAgg218
  z213 := Tryz.sizeOf218
  t232 := Tryz.underlying237
  a232 := Tryz.isAgg237
  z232 := Tryz.sizeOf237
  v232 := Tryz.zeroValue237
  t233 := Tryz.underlying238
  a233 := Tryz.isAgg238
  z233 := Tryz.sizeOf238
  v233 := Tryz.zeroValue238
  g17 := by kernel_rfl
  g18 := by kernel_rfl
  g19 := by kernel_rfl
  i0 := by kernel_rfl
  i2 := by kernel_rfl
  i3 := by kernel_rfl
  i4 := by kernel_rfl
  i5 := by kernel_rfl
  i9 := by kernel_rfl
  i20 := by kernel_rfl
  i37 := by kernel_rfl
  i46 := by kernel_rfl
  i51 := by kernel_rfl
  i53 := by kernel_rfl
  i171 := by kernel_rfl
  i173 := by kernel_rfl
  i212 := by kernel_rfl
  i232 := by kernel_rfl
  i233 := by kernel_rfl
  m17 := by kernel_rfl
  m18 := by kernel_rfl
  m19 := by kernel_rfl }
open Go.RowKit Go.Sort Go.Lib in
theorem Tryz.strconv_Itoa (n : Int) (h0 : -9223372036854775808 ≤ n) (h1 : n ≤ 9223372036854775807) (w : World) (htab : Lib.TabIs Tryz.prog w "internal/strconv.uint64pow10" .u64 Lib.pow10Tab) :
    Calls Tryz.prog 38 #[.int .i64 n] w fun e w' => e = .returned (.string ⟨(Lib.itoa n).toArray⟩) ∧ ∃ k os, w' = grow (w.drewN k) os := Any.strconv_Itoa Tryz.laysM171 n h0 h1 w htab
end Go.Proofs
namespace Go.Proofs.YtmacpdddimcmgaaGreatDoor
set_option linter.unusedVariables false
set_option linter.unusedSimpArgs false
set_option maxRecDepth 20000
open Go.RowKit
abbrev Tab (w : World) : Prop := Lib.TabIs Tryz.prog w "internal/strconv.uint64pow10" .u64 Lib.pow10Tab
theorem Tab.frm {w w' : World} (h : Tab w) (hf : Frm M0 w w') : Tab w' := by
  have h0 : w.var? Tryz.prog "internal/strconv.uint64pow10" = _ := h
  show w'.var? Tryz.prog "internal/strconv.uint64pow10" = _
  rw [← h0]
  unfold World.var? at h0 ⊢
  obtain ⟨g, hg⟩ : ∃ g, Tryz.prog.globalNamed "internal/strconv.uint64pow10" = g := ⟨_, rfl⟩
  rw [hg] at h0 ⊢
  cases g with
  | none => rfl
  | some g =>
    simp only [Option.bind_some] at h0 ⊢
    have hb : g < w.heap.size := by
      apply Classical.byContradiction; intro hn
      rw [Array.getElem?_eq_none (by omega)] at h0
      cases h0
    rw [hf.block g hb (fun h => h)]
abbrev str (l : List UInt8) : ByteArray := ⟨l.toArray⟩
theorem itoa_calls (n : Int) (w : World) (h0 : -9223372036854775808 ≤ n) (h1 : n ≤ 9223372036854775807) (ht : Tab w) :
    Calls Tryz.prog 38 #[.int .i64 n] w fun e w' => e = .returned (.string (str (Lib.itoa n))) ∧ Frm M0 w w' := by
  refine (Tryz.strconv_Itoa n h0 h1 w ht).mono ?_
  rintro e w' ⟨rfl, k, os, rfl⟩
  refine ⟨rfl, rfl, rfl, rfl, ?_, ?_⟩
  · simp [Sort.grow, World.drewN]
  · intro i hi _
    show (w.heap ++ os)[i]? = w.heap[i]?
    exact Array.getElem?_append_left hi
abbrev strCell (s : ByteArray) : List Value := [.string s]
abbrev strs (l : List ByteArray) : List Value := l.flatMap strCell
theorem strs_len (a : ByteArray) : (strCell a).length = 1 := rfl
theorem strs_get (l : List ByteArray) (j : Nat) (x : ByteArray) (h : l[j]? = some x) : (strs l)[j]? = some (.string x) := by
  have := els_get (enc := strCell) (sz := 1) strs_len l j 0 x h (by omega)
  simpa using this
end Go.Proofs.YtmacpdddimcmgaaGreatDoor
namespace Go.Proofs.YtmacpdddimcmgaaGreatDoor
set_option linter.unusedVariables false
set_option linter.unusedSimpArgs false
set_option maxRecDepth 20000
open Go.RowKit
theorem sb_cell {w : World} {g : Nat} {cur : Array Value} {e : TypeId} {f : Nat × Nat} (hh : w.heap[g]? = some (.cells cur e f)) (o : Nat) : w.cell? ⟨g, o, none⟩ = cur[o]? := by
  simp [World.cell?, hh]
theorem sb_free {w : World} {g : Nat} {cur : Array Value} {e : TypeId} (hh : w.heap[g]? = some (.cells cur e (0, 0))) (o : Nat) : w.frozen? ⟨g, o, none⟩ = false := by
  simp [World.frozen?, hh]
theorem sb_lt {w : World} {g : Nat} {o : Obj} (hh : w.heap[g]? = some o) : g < w.heap.size := (Array.getElem?_eq_some_iff.1 hh).1
def Sb (X : Nat → Prop) (w : World) (P : World → Prop) : Prop := ∀ wx, Frm X w wx → P wx
section
variable {X : Nat → Prop} {w w' : World} {P Q : World → Prop}
theorem Sb.now (h : Sb X w P) : P w := h w (Frm.refl _ _)
theorem Sb.step (h : Sb X w P) (hf : Frm M0 w w') : Sb X w' P := fun wx hx => h wx ((hf.mono (fun _ _ h => h.elim)).trans hx (fun _ _ h => h))
theorem Sb.stepX (h : Sb X w P) (hf : Frm X w w') : Sb X w' P := fun wx hx => h wx (hf.trans hx (fun _ _ h => h))
theorem Sb.alloc (h : Sb X w P) (o : Obj) : Sb X (w.alloc o) P := h.step ((Frm.refl M0 w).alloc o)
theorem Sb.put (h : Sb X w P) (b o : Nat) (u : Value) (hb : X b) : Sb X (w.setCell ⟨b, o, none⟩ u) P := h.stepX ((Frm.refl X w).put b o u (fun _ => hb))
theorem Sb.drew (h : Sb X w P) : Sb X w.drew P := h.stepX ((Frm.refl X w).drew)
theorem Sb.drewN (h : Sb X w P) (n : Nat) : Sb X (w.drewN n) P := h.stepX ((Frm.refl X w).drewN n)
theorem Sb.and (h : Sb X w P) (k : Sb X w Q) : Sb X w (fun x => P x ∧ Q x) := fun wx hx => ⟨h wx hx, k wx hx⟩
theorem Sb.map (h : Sb X w P) (k : ∀ x, P x → Q x) : Sb X w Q := fun wx hx => k wx (h wx hx)
theorem Sb.heap {b : Nat} {o : Obj} (h : w.heap[b]? = some o) (hb : ¬ X b) : Sb X w (fun x => x.heap[b]? = some o) := fun wx hx => hx.heap h hb
theorem Sb.rd {size n : Nat} {v : Value} {xs : List Value} (h : Rd w size v n xs) (hb : ∀ k, v.ownBlock = some k → ¬ X k) : Sb X w (fun x => Rd x size v n xs) := fun wx hx => h.frm hx hb
theorem Sb.frm {W : World} (h : Frm X W w) : Sb X w (fun x => Frm X W x) := fun wx hx => h.trans hx (fun _ _ h => h)
theorem Sb.frm0 {W : World} (h : Frm M0 W w) (hX : ∀ b, X b → W.heap.size ≤ b) : Sb X w (fun x => Frm M0 W x) := fun wx hx => h.trans hx (fun b hb hm => by have := hX b hm; omega)
end
def valsL : List Value → Nat → Value
  | [], _ => undef
  | v :: _, 0 => v
  | _ :: l, n + 1 => valsL l n
theorem valsL_zero (v : Value) (l : List Value) : valsL (v :: l) 0 = v := rfl
theorem valsL_succ (v : Value) (l : List Value) (n : Nat) : valsL (v :: l) (n + 1) = valsL l n := rfl
end Go.Proofs.YtmacpdddimcmgaaGreatDoor
namespace Go.Proofs
open Go.Shelf
def Tryz.lays190_ren : Go.Shelf.Ren := ⟨fun | 190 => 148 | 125 => 72 | 258 => 174 | 128 => 115 | 129 => 116 | 302 => 182 | 303 => 183 | 304 => 184 | 305 => 185 | 306 => 186 | 307 => 187 | 308 => 188 | 309 => 189 | 310 => 190 | 333 => 191 | 329 => 155 | 330 => 156 | 334 => 192 | 335 => 193 | 336 => 194 | 344 => 195 | n => n, fun | 31 => 49 | 9 => 9 | 3 => 3 | 46 => 108 | 0 => 0 | 51 => 180 | 53 => 182 | 4 => 4 | 183 => 173 | 182 => 172 | 131 => 109 | 5 => 5 | 218 => 206 | 222 => 210 | 228 => 226 | 229 => 227 | n => n, fun | n => n⟩
theorem Tryz.lays190 : Go.Proofs.Lays.n190 Tryz.prog Tryz.lays190_ren := {
  mixed := by kernel_rfl
  f125 := Tryz.func72.trans (congrArg some (by kernel_rfl))
  f128 := Tryz.func115.trans (congrArg some (by kernel_rfl))
  f129 := Tryz.func116.trans (congrArg some (by kernel_rfl))
  f190 := Tryz.func148.trans (congrArg some (by kernel_rfl))
  f258 := Tryz.func174.trans (congrArg some (by kernel_rfl))
  f302 := Tryz.func182.trans (congrArg some (by kernel_rfl))
  f303 := Tryz.func183.trans (congrArg some (by kernel_rfl))
  f304 := Tryz.func184.trans (congrArg some (by kernel_rfl))
  f305 := Tryz.func185.trans (congrArg some (by kernel_rfl))
  f306 := Tryz.func186.trans (congrArg some (by kernel_rfl))
  f307 := Tryz.func187.trans (congrArg some (by kernel_rfl))
  f308 := Tryz.func188.trans (congrArg some (by kernel_rfl))
  f309 := Tryz.func189.trans (congrArg some (by kernel_rfl))
  f310 := Tryz.func190.trans (congrArg some (by kernel_rfl))
  f329 := Tryz.func155.trans (congrArg some (by kernel_rfl))
  f330 := Tryz.func156.trans (congrArg some (by kernel_rfl))
  f333 := Tryz.func191.trans (congrArg some (by kernel_rfl))
  f334 := Tryz.func192.trans (congrArg some (by kernel_rfl))
  f335 := Tryz.func193.trans (congrArg some (by kernel_rfl))
  f336 := Tryz.func194.trans (congrArg some (by kernel_rfl))
  f344 := Tryz.func195.trans (congrArg some (by kernel_rfl))
  t0 := Tryz.underlying0
  a0 := Tryz.isAgg0
  z0 := Tryz.sizeOf0
  v0 := Tryz.zeroValue0
  t3 := Tryz.underlying3
  a3 := Tryz.isAgg3
  z3 := Tryz.sizeOf3
  v3 := Tryz.zeroValue3
  t4 := Tryz.underlying4
  a4 := Tryz.isAgg4
  z4 := Tryz.sizeOf4
  v4 := Tryz.zeroValue4
  t5 := Tryz.underlying5
  a5 := Tryz.isAgg5
  z5 := Tryz.sizeOf5
  v5 := Tryz.zeroValue5
  t9 := Tryz.underlying9
  a9 := Tryz.isAgg9
  z9 := Tryz.sizeOf9
  v9 := Tryz.zeroValue9
  t31 := Tryz.underlying49
  a31 := Tryz.isAgg49
  z31 := Tryz.sizeOf49
  v31 := Tryz.zeroValue49
  t46 := Tryz.underlying108
  a46 := Tryz.isAgg108
  z46 := Tryz.sizeOf108
  v46 := Tryz.zeroValue108
  t51 := Tryz.underlying180
  a51 := Tryz.isAgg180
  z51 := Tryz.sizeOf180
  v51 := Tryz.zeroValue180
  t53 := Tryz.underlying182
  a53 := Tryz.isAgg182
  z53 := Tryz.sizeOf182
  v53 := Tryz.zeroValue182
  t131 := Tryz.underlying109
  a131 := Tryz.isAgg109
  z131 := Tryz.sizeOf109
  v131 := Tryz.zeroValue109
  t182 := Tryz.underlying172
  a182 := Tryz.isAgg172
  z182 := Tryz.sizeOf172
  v182 := Tryz.zeroValue172
  t183 := Tryz.underlying173
  a183 := Tryz.isAgg173
  z183 := Tryz.sizeOf173
  v183 := Tryz.zeroValue173
  t218 := Tryz.underlying206
  a218 := Tryz.isAgg206
  z218 := Tryz.sizeOf206
  v218 := Tryz.zeroValue206
  t222 := Tryz.underlying210
  a222 := Tryz.isAgg210
  z222 := Tryz.sizeOf210
  v222 := Tryz.zeroValue210
  t228 := Tryz.underlying226
  a228 := Tryz.isAgg226
  z228 := Tryz.sizeOf226
  v228 := Tryz.zeroValue226
  t229 := Tryz.underlying227
  a229 := Tryz.isAgg227
  z229 := Tryz.sizeOf227
  v229 := Tryz.zeroValue227 }
open Go.Sort Go.RowKit in
theorem Tryz.slices_Sort_string (blk off cap : Nat) (ss : List (List UInt8)) (w : World) (hH : Holds encStr w blk off ss.toArray) (hblk : blk < w.heap.size) (hsz : ss.length < 4611686018427387904) :
    Calls Tryz.prog 148 #[.slice (some ⟨blk, off, none⟩) ss.length cap] w fun e w' =>
      e = .returned (.tuple #[]) ∧ ∃ n os, w' = grow (putRow encStr (Sort.ahead w n) blk off (ss.mergeSort fun x y => decide (x ≤ y)).toArray) os := Any.slices_Sort_string Tryz.lays190 blk off cap ss w hH hblk hsz
def Tryz.lays107_ren : Go.Shelf.Ren := ⟨fun | 107 => 131 | 108 => 164 | n => n, fun | 28 => 47 | 3 => 3 | 4 => 4 | 0 => 0 | n => n, fun | n => n⟩
theorem Tryz.lays107 : Go.Proofs.Lays.n107 Tryz.prog Tryz.lays107_ren := {
  mixed := by kernel_rfl
  f107 := Tryz.func131.trans (congrArg some (by kernel_rfl))
  f108 := Tryz.func164.trans (congrArg some (by kernel_rfl))
  t0 := Tryz.underlying0
  a0 := Tryz.isAgg0
  z0 := Tryz.sizeOf0
  v0 := Tryz.zeroValue0
  t3 := Tryz.underlying3
  a3 := Tryz.isAgg3
  z3 := Tryz.sizeOf3
  v3 := Tryz.zeroValue3
  t4 := Tryz.underlying4
  a4 := Tryz.isAgg4
  z4 := Tryz.sizeOf4
  v4 := Tryz.zeroValue4
  t28 := Tryz.underlying47
  a28 := Tryz.isAgg47
  z28 := Tryz.sizeOf47
  v28 := Tryz.zeroValue47 }
open Go.Lib in
theorem Tryz.slices_Contains_int (b off n c : Nat) (zs : List Int) (x : Int) (w : World) (hz : n ≤ zs.length) (hbig : n ≤ 9223372036854775807) (hc : ∀ j, j < zs.length → w.cell? ⟨b, off + j, none⟩ = some (.int .i64 (zs.getD j 0))) :
    Calls Tryz.prog 131 #[.slice (some ⟨b, off, none⟩) n c, .int .i64 x] w fun e w' => e = .returned (.bool ((zs.take n).contains x)) ∧ w' = w := Any.slices_Contains_int Tryz.lays107 b off n c zs x w hz hbig hc
open Go.Lib in
theorem Tryz.slices_Contains_int_empty (a : Option Addr) (c : Nat) (x : Int) (w : World) :
    Calls Tryz.prog 131 #[.slice a 0 c, .int .i64 x] w fun e w' => e = .returned (.bool false) ∧ w' = w := Any.slices_Contains_int_empty Tryz.lays107 a c x w
def Tryz.lays109_ren : Go.Shelf.Ren := ⟨fun | 109 => 162 | n => n, fun | 31 => 49 | 9 => 9 | 3 => 3 | 0 => 0 | 4 => 4 | n => n, fun | n => n⟩
theorem Tryz.lays109 : Go.Proofs.Lays.n109 Tryz.prog Tryz.lays109_ren := {
  mixed := by kernel_rfl
  f109 := Tryz.func162.trans (congrArg some (by kernel_rfl))
  t0 := Tryz.underlying0
  a0 := Tryz.isAgg0
  z0 := Tryz.sizeOf0
  v0 := Tryz.zeroValue0
  t3 := Tryz.underlying3
  a3 := Tryz.isAgg3
  z3 := Tryz.sizeOf3
  v3 := Tryz.zeroValue3
  t4 := Tryz.underlying4
  a4 := Tryz.isAgg4
  z4 := Tryz.sizeOf4
  v4 := Tryz.zeroValue4
  t9 := Tryz.underlying9
  a9 := Tryz.isAgg9
  z9 := Tryz.sizeOf9
  v9 := Tryz.zeroValue9
  t31 := Tryz.underlying49
  a31 := Tryz.isAgg49
  z31 := Tryz.sizeOf49
  v31 := Tryz.zeroValue49 }
open Go.Lib in
theorem Tryz.slices_Index_string (b off n c : Nat) (zs : List ByteArray) (x : ByteArray) (w : World) (hz : n ≤ zs.length) (hbig : n ≤ 9223372036854775807) (hc : ∀ j, j < zs.length → w.cell? ⟨b, off + j, none⟩ = some (.string (zs.getD j ByteArray.empty))) :
    Calls Tryz.prog 162 #[.slice (some ⟨b, off, none⟩) n c, .string x] w fun e w' => e = .returned (.int .i64 (Lib.idxOfS (zs.take n) x)) ∧ w' = w := Any.slices_Index_string Tryz.lays109 b off n c zs x w hz hbig hc
open Go.Lib in
theorem Tryz.slices_Index_string_empty (a : Option Addr) (c : Nat) (x : ByteArray) (w : World) :
    Calls Tryz.prog 162 #[.slice a 0 c, .string x] w fun e w' => e = .returned (.int .i64 (Lib.idxOfS [] x)) ∧ w' = w := Any.slices_Index_string_empty Tryz.lays109 a c x w
open Go.RowKit Go.Sort in
theorem Tryz.slices_Sort_string_none (p : Option Addr) (cap : Nat) (w : World) :
    Calls Tryz.prog 148 #[.slice p 0 cap] w fun e w' => e = .returned (.tuple #[]) ∧ w' = w := Any.slices_Sort_string_none Tryz.lays190 p cap w
end Go.Proofs
namespace Go.Proofs.YtmacpdddimcmgaaGreatDoor
set_option linter.unusedVariables false
set_option linter.unusedSimpArgs false
set_option maxRecDepth 20000
namespace Cp
end Cp
open Go.RowKit Cp
namespace Cp
end Cp
theorem Rd.new {w : World} {k : IntKind} {y : Int} {e : TypeId} : Rd (w.alloc (.cells #[.int k y] e)) 1 (.slice (some ⟨w.heap.size, 0, none⟩) 1 1) [y].length (ints k [y]) := by
  refine ⟨rfl, .inr ⟨⟨w.heap.size, 0, none⟩, 1, rfl, Nat.le_refl _, by unfold maxLen; omega, fun j u hu => ?_⟩⟩
  have hj : j = 0 := by
    rcases j with _ | j
    · rfl
    · simp at hu
  subst hj
  simp only [ints, List.map_cons, List.map_nil, List.getElem?_cons_zero, Option.some.injEq] at hu
  subst hu
  rw [add_none, World.cell?_alloc_at _ _ _ _ rfl]
  rfl
end Go.Proofs.YtmacpdddimcmgaaGreatDoor
namespace Go.Proofs.YtmacpdddimcmgaaGreatDoor
set_option linter.unusedVariables false
set_option linter.unusedSimpArgs false
set_option maxRecDepth 20000
open Go.RowKit
theorem var_frm {w w' : World} {name : String} {x : Array Value} (h : w.var? Tryz.prog name = some x) (hf : Frm M0 w w') : w'.var? Tryz.prog name = some x := by
  rw [← h]
  unfold World.var? at h ⊢
  obtain ⟨g, hg⟩ : ∃ g, Tryz.prog.globalNamed name = g := ⟨_, rfl⟩
  rw [hg] at h ⊢
  cases g with
  | none => rfl
  | some g =>
    simp only [Option.bind_some] at h ⊢
    have hb : g < w.heap.size := by
      apply Classical.byContradiction; intro hn
      rw [Array.getElem?_eq_none (by omega)] at h
      cases h
    rw [hf.block g hb (fun h => h)]
structure Glob (w : World) : Prop where
  tab : Tab w
  syn : ∃ tp p, w.var? Tryz.prog "strconv.ErrSyntax" = some #[.iface tp p]
  rng : ∃ tp p, w.var? Tryz.prog "strconv.ErrRange" = some #[.iface tp p]
theorem Glob.frm {w w' : World} (h : Glob w) (hf : Frm M0 w w') : Glob w' := by
  obtain ⟨h1, ⟨t3, p3, h3⟩, ⟨t4, p4, h4⟩⟩ := h
  exact ⟨h1.frm hf, ⟨t3, p3, var_frm h3 hf⟩, ⟨t4, p4, var_frm h4 hf⟩⟩
end Go.Proofs.YtmacpdddimcmgaaGreatDoor
namespace Go.Proofs.YtmacpdddimcmgaaGreatDoor
set_option linter.unusedVariables false
set_option linter.unusedSimpArgs false
set_option maxRecDepth 20000
open Go.RowKit
section
variable {H : Type} {enc : TypeId × Value → H}
theorem handed_and_shaped {a : Assume} {C : Checked} {os : Os} {f : FuncId} {fn : Func} {s : ChangeSpec} {conds : List PathCond} {apart fresh handsOn again : Bool} {X : World → Array Value → Prop}
    (hX : ∀ (w w' : World) (args : Array Value), w.heap = w'.heap → X w args → X w' args)
    (own : ownKnob C.prog.godebug = none) (started : os.Started) (noInit : C.prog.inits.idxOf? f = none) (hfn : C.prog.funcs[f]? = some fn)
    (witness : ∃ (w : World) (tape : Tape) (i : Input), w.os = os ∧ (w.forCall tape i).Shaped C.prog ∧ i.vars = [] ∧ Input.okWide C.prog (w.forCall tape i) .any w.heap.size f i ∧
      ((s.pre enc C.prog fn conds apart (w.forCall tape i).memory i.args ∧ X (w.forCall tape i).memory i.args) ∧ sizedMet enc C.prog fn (OpenSpec.ofChange s) apart (w.forCall tape i).memory i.args) ∧ a.holds C.prog (lone (Frame.enter C.prog f i.args .normal) [] (w.forCall tape i)))
    (contract : ∀ (W : World) (base : Nat) (args : Array Value) (ds gs : List (DataW H)) (before : List MemPlace),
      (∀ (j : Nat) t v, fn.params[j]? = some t → args[j]? = some v → Value.okWide C.prog W .any base t v) →
      DataW.Whole enc C.prog fn.params.toList s.vars apart W args.toList ds gs before →
      W.ShapedOpen C.prog → X W args →
      Calls C.prog f args W fun e W' => ∃ v, e = .returned v ∧ s.post enc C.prog fn apart fresh handsOn again W args v W') :
    ReturnsInHanded a C os f .any (fun w args => (s.pre enc C.prog fn conds apart w args ∧ X w args) ∧ sizedMet enc C.prog fn (OpenSpec.ofChange s) apart w args) (s.post enc C.prog fn apart fresh handsOn again) := by
  refine returnsInHanded_of_calls own started noInit witness ?_
  intro w tape i _ hsh _ hok hpre hholds
  obtain ⟨_, _, _, fn', hfn', _, _, _, _, hval⟩ := hok
  have e : fn' = fn := Option.some.inj (hfn'.symm.trans hfn)
  subst e
  obtain ⟨⟨⟨ds, gs, before, hw, hc⟩, hx⟩, hz⟩ := hpre
  have hw' := DataW.Whole.of_heap (w' := w.forCall tape i) (by rfl) hw
  refine (contract (w.forCall tape i) w.heap.size i.args ds gs before hval hw' hsh (hX _ _ _ (by rfl) hx)).mono fun e W' ⟨v, he, hp⟩ => ?_
  subst he
  exact ChangeSpec.post_blind hp
end
theorem gPow' : Tryz.prog.globalNamed "internal/strconv.uint64pow10" = some 2 := by kernel_rfl
theorem gES : Tryz.prog.globalNamed "strconv.ErrSyntax" = some 0 := by kernel_rfl
theorem gER : Tryz.prog.globalNamed "strconv.ErrRange" = some 1 := by kernel_rfl
theorem gEST : (Tryz.prog.globals[0]?).map (·.type) = some 91 := by kernel_rfl
theorem gERT : (Tryz.prog.globals[1]?).map (·.type) = some 91 := by kernel_rfl
theorem starE : "*" ++ "errors.errorString" = "*errors.errorString" := by decide
theorem rowE (u : TypeId) (h : Tryz.prog.typeName? 3 u = some "*errors.errorString") : u = 223 :=
  typeName_ptr_named (nm := "errors.errorString") (by rw [starE]; kernel_rfl) (by kernel_rfl) (by decide) u (by rw [starE]; exact h)
theorem glob_of {W : World} {L : List (String × DataW Unit)} (h : laidMet Tryz.prog L W) (hsh : W.ShapedOpen Tryz.prog) (t1 t2 : List UInt8)
    (e0 : L.filter (fun x => x.1 == "internal/strconv.uint64pow10") = [("internal/strconv.uint64pow10", Lib.tabData .u64 Lib.pow10Tab)])
    (e1 : L.filter (fun x => x.1 == "strconv.ErrSyntax") = [("strconv.ErrSyntax", .iface "*errors.errorString" (.ptr (.agg [.lit (.string t1)])))])
    (e2 : L.filter (fun x => x.1 == "strconv.ErrRange") = [("strconv.ErrRange", .iface "*errors.errorString" (.ptr (.agg [.lit (.string t2)])))]) : Glob W := by
  have h0 := h.filter (fun x => x.1 == "internal/strconv.uint64pow10")
  have h1 := h.filter (fun x => x.1 == "strconv.ErrSyntax")
  have h2 := h.filter (fun x => x.1 == "strconv.ErrRange")
  rw [e0] at h0
  rw [e1] at h1
  rw [e2] at h2
  obtain ⟨a1, _, hv1, -, -, -⟩ := laid_sentinel h1 gES gEST Tryz.underlying91 rowE Tryz.underlying223 Tryz.underlying225 rfl rfl Tryz.underlying9 (by kernel_rfl) (by kernel_rfl)
  obtain ⟨a2, _, hv2, -, -, -⟩ := laid_sentinel h2 gER gERT Tryz.underlying91 rowE Tryz.underlying223 Tryz.underlying225 rfl rfl Tryz.underlying9 (by kernel_rfl) (by kernel_rfl)
  exact ⟨Lib.tabIs_of_head (rest := []) (g := 2) (t := 217) (e := 182) (n := 20) gPow' (by kernel_rfl) Tryz.underlying217 Tryz.underlying182 (by kernel_rfl) (by kernel_rfl) h0,
    ⟨_, _, hv1⟩, ⟨_, _, hv2⟩⟩
end Go.Proofs.YtmacpdddimcmgaaGreatDoor
namespace Go.Proofs.YtmacpdddimcmgaaGreatDoor
set_option linter.unusedVariables false
set_option linter.unusedSimpArgs false
set_option maxRecDepth 20000
open Go.RowKit Go.MapKept
def imap : Nat → List (Int × Value) → List MapEntry
  | _, [] => []
  | i, p :: l => { key := .int .i64 p.1, val := p.2, born := i } :: imap (i + 1) l
def imapO (l : List (Int × Value)) : Obj := .map (imap 0 l).toArray l.length
theorem imap_app : ∀ (l : List (Int × Value)) (i : Nat) (p : Int × Value), imap i (l ++ [p]) = imap i l ++ [{ key := .int .i64 p.1, val := p.2, born := i + l.length }]
  | [], i, p => by simp [imap]
  | q :: l, i, p => by rw [List.cons_append, imap, imap_app l (i + 1) p, imap]; simp; omega
theorem findNow_miss {k : Int} : ∀ (l : List (Int × Value)) (j i : Nat), (∀ p ∈ l, p.1 ≠ k) → Instr.findNow (.int .i64) (.int .i64 k) (imap j l) i = some none
  | [], _, _, _ => rfl
  | p :: l, j, i, h => by
    have h1 : (k == p.1) = false := by rw [beq_eq_false_iff_ne]; exact fun e => h p (by simp) e.symm
    rw [imap, Instr.findNow]
    simp only [Instr.sameNow, if_true, h1]
    exact findNow_miss l (j + 1) (i + 1) (fun q hq => h q (List.mem_cons_of_mem _ hq))
theorem findNow_hit {k : Int} {v : Value} : ∀ (l : List (Int × Value)) (j i : Nat), l.lookup k = some v → ∃ t, Instr.findNow (.int .i64) (.int .i64 k) (imap j l) i = some (some (t, v))
  | [], _, _, h => by simp at h
  | p :: l, j, i, h => by
    rw [imap, Instr.findNow]
    simp only [Instr.sameNow, if_true]
    rw [show p = (p.1, p.2) from rfl, List.lookup_cons] at h
    cases hk : (k == p.1) with
    | true =>
      rw [hk] at h
      cases h
      exact ⟨i, rfl⟩
    | false =>
      rw [hk] at h
      exact findNow_hit l (j + 1) (i + 1) h
def putO (w : World) (b : Nat) (o : Obj) : World := { w with heap := w.heap.setIfInBounds b o }
theorem putO_frm (w : World) (b : Nat) (o : Obj) : Frm (· = b) w (putO w b o) :=
  ⟨rfl, rfl, rfl, by simp [putO], fun k _ hk => by simp only [putO]; rw [Array.getElem?_setIfInBounds_ne (fun e => hk e.symm)]⟩
theorem putO_at {w : World} {b : Nat} {o : Obj} (o' : Obj) (h : w.heap[b]? = some o) : (putO w b o').heap[b]? = some o' := by
  have hlt := (Array.getElem?_eq_some_iff.1 h).1
  simp [putO, hlt]
section
variable {P : Program} {w : World} {T K E : TypeId} {B : Nat} {l : List (Int × Value)}
theorem insert_run (ht : P.underlying T = some (.map K E)) (hk : P.underlying K = some (.int .i64)) (hb : w.heap[B]? = some (imapO l)) (k : Int) (v : Value) (hm : ∀ p ∈ l, p.1 ≠ k) :
    (Instr.mapUpdate T (.map (some B)) (.int .i64 k) v).run P w = .ok () (putO w B (imapO (l ++ [(k, v)]))) := by
  have hb' : w.heap[B]? = some (.map (imap 0 l).toArray l.length) := hb
  have hf := Go.MapKept.run_findKey (w := w) (P := P) hk (findNow_miss l 0 0 hm)
  have hc := Go.MapKept.run_checkKey (w := w) (P := P) (k := .int .i64 k) hk rfl false 9999
  have hs := run_setObj_map (P := P) (.map ((imap 0 l).toArray.push { key := .int .i64 k, val := v, born := l.length }) (l.length + 1)) hb'
  have he : Obj.map ((imap 0 l).toArray.push { key := .int .i64 k, val := v, born := l.length }) (l.length + 1) = imapO (l ++ [(k, v)]) := by
    unfold imapO
    rw [imap_app]
    simp
  have h1 : (Instr.mapUpdate T (.map (some B)) (.int .i64 k) v).run P w = .ok () { w with heap := w.heap.setIfInBounds B (Obj.map ((imap 0 l).toArray.push { key := .int .i64 k, val := v, born := l.length }) (l.length + 1)) } := by
    simp only [List.push_toArray] at hs ⊢
    simp [Instr.mapUpdate, run_underlying ht, Go.MapKept.run_getObj_map hb', hc, hf, hs, Result.andThen]
  rw [h1, he]
  rfl
theorem look_hit (ht : P.underlying T = some (.map K E)) (hk : P.underlying K = some (.int .i64)) (hb : w.heap[B]? = some (imapO l)) (k : Int) (v : Value) (h : l.lookup k = some v) (ok : Bool) :
    (Instr.lookup T (.map (some B)) (.int .i64 k) ok).run P w = .ok (if ok then .tuple #[v, .bool true] else v) w := by
  have hb' : w.heap[B]? = some (.map (imap 0 l).toArray l.length) := hb
  obtain ⟨t, hn⟩ := findNow_hit l 0 0 h
  have hf := Go.MapKept.run_findKey (w := w) (P := P) hk hn
  have hc := Go.MapKept.run_checkKey (w := w) (P := P) (k := .int .i64 k) hk rfl (imap 0 l).toArray.isEmpty 9999
  clear hb
  cases ok <;> simp_all [Instr.lookup, run_underlying ht, Go.MapKept.run_getObj_map hb', Result.andThen]
theorem look_miss (ht : P.underlying T = some (.map K E)) (hk : P.underlying K = some (.int .i64)) (hb : w.heap[B]? = some (imapO l)) (k : Int) (z : Value) (hz : (zeroValue E).run P w = .ok z w) (hm : ∀ p ∈ l, p.1 ≠ k) (ok : Bool) :
    (Instr.lookup T (.map (some B)) (.int .i64 k) ok).run P w = .ok (if ok then .tuple #[z, .bool false] else z) w := by
  have hb' : w.heap[B]? = some (.map (imap 0 l).toArray l.length) := hb
  have hf := Go.MapKept.run_findKey (w := w) (P := P) hk (findNow_miss l 0 0 hm)
  have hc := Go.MapKept.run_checkKey (w := w) (P := P) (k := .int .i64 k) hk rfl (imap 0 l).toArray.isEmpty 9999
  clear hb
  cases ok <;> simp_all [Instr.lookup, run_underlying ht, Go.MapKept.run_getObj_map hb', Result.andThen]
theorem is_insert (k : Int) {ops : Array Oper} {rest : List Oper} {a : Act} {Q : Exit → Act → World → Prop} {t ty : TypeId} {m x : Operand} {pos : String} {after : Array Edge} {g : Option (Nat × Bool)}
    (h : wpList P ops Q (⟨none, .insert t m (.const (.int .i64 k)) x, ty, pos, after, g⟩ :: rest) a w) : wpList P ops Q (⟨none, .insert t m (.const (.int .i64 k)) x, ty, pos, after, g⟩ :: rest) a w := h
theorem is_makeMap {ops : Array Oper} {rest : List Oper} {a : Act} {Q : Exit → Act → World → Prop} {t ty : TypeId} {d : Option Tmp} {pos : String} {after : Array Edge} {g : Option (Nat × Bool)}
    (h : wpList P ops Q (⟨d, .makeMap t none, ty, pos, after, g⟩ :: rest) a w) : wpList P ops Q (⟨d, .makeMap t none, ty, pos, after, g⟩ :: rest) a w := h
theorem wpList_makeMap {ops : Array Oper} {rest : List Oper} {o : Oper} {a : Act} {Q : Exit → Act → World → Prop} (hgd : o.guard = none) (t : TypeId) (ho : o.op = .makeMap t none)
    (h : ∀ (B : Nat) (w' : World), w'.heap[B]? = some (imapO []) → w.heap.size ≤ B → Frm M0 w w' → wpList P ops Q rest (a.put o.dst (.map (some B))) w') : wpList P ops Q (o :: rest) a w := by
  refine wpList_plain hgd fun K hK => ?_
  have hrun : (Instr.makeMap t none).run P w = .ok (.map (some w.heap.size)) (w.alloc (.map #[] 0)) := rfl
  unfold Oper.wp
  simp [execOp, ho, hrun, Result.andThen]
  exact hK _ _ (h _ _ (new1 w _) (Nat.le_refl _) ((Frm.refl _ _).alloc _))
theorem wpList_insert {ops : Array Oper} {rest : List Oper} {o : Oper} {a : Act} {Q : Exit → Act → World → Prop} (hgd : o.guard = none) (m k x : Operand) (ho : o.op = .insert T m k x)
    (ht : P.underlying T = some (.map K E)) (hk : P.underlying K = some (.int .i64)) (hm' : a.eval m = .map (some B)) (hb : w.heap[B]? = some (imapO l)) (n : Int) (hkv : a.eval k = .int .i64 n) (hm : ∀ p ∈ l, p.1 ≠ n)
    (h : ∀ w', w'.heap[B]? = some (imapO (l ++ [(n, a.eval x)])) → Frm (· = B) w w' → wpList P ops Q rest (a.put o.dst undef) w') : wpList P ops Q (o :: rest) a w := by
  refine wpList_plain hgd fun K hK => ?_
  have hrun := insert_run ht hk hb n (a.eval x) hm
  unfold Oper.wp
  simp [execOp, ho, hm', hkv, hrun, Result.andThen]
  exact hK _ _ (h _ (putO_at _ hb) (putO_frm _ _ _))
end
end Go.Proofs.YtmacpdddimcmgaaGreatDoor
namespace Go.Proofs.YtmacpdddimcmgaaGreatDoor
set_option linter.unusedVariables false
set_option linter.unusedSimpArgs false
set_option maxRecDepth 20000
open Go.RowKit Go.MapKept
def smap : Nat → List (ByteArray × Value) → List MapEntry
  | _, [] => []
  | i, p :: l => { key := .string p.1, val := p.2, born := i } :: smap (i + 1) l
def smapO (l : List (ByteArray × Value)) : Obj := .map (smap 0 l).toArray l.length
theorem smap_app : ∀ (l : List (ByteArray × Value)) (i : Nat) (p : ByteArray × Value), smap i (l ++ [p]) = smap i l ++ [{ key := .string p.1, val := p.2, born := i + l.length }]
  | [], i, p => by simp [smap]
  | q :: l, i, p => by rw [List.cons_append, smap, smap_app l (i + 1) p, smap]; simp; omega
theorem smap_len : ∀ (l : List (ByteArray × Value)) (i : Nat), (smap i l).length = l.length
  | [], _ => rfl
  | p :: l, i => by rw [smap, List.length_cons, List.length_cons, smap_len l (i + 1)]
def sget (l : List (ByteArray × Value)) (k : ByteArray) : Option Value := (l.find? fun p => decide (p.1 = k)).map (·.2)
def sput : List (ByteArray × Value) → ByteArray → Value → List (ByteArray × Value)
  | [], k, v => [(k, v)]
  | (a, x) :: l, k, v => if a = k then (a, v) :: l else (a, x) :: sput l k v
theorem same_str (a b : ByteArray) : Instr.sameNow .string (.string a) (.string b) = some (decide (a = b)) := by
  show some (a == b) = _
  congr 1
  rw [Bool.eq_iff_iff, Go.MapKept.bytes_beq, decide_eq_true_eq]
theorem findS_miss {k : ByteArray} : ∀ (l : List (ByteArray × Value)) (j i : Nat), sget l k = none → Instr.findNow .string (.string k) (smap j l) i = some none
  | [], _, _, _ => rfl
  | p :: l, j, i, h => by
    have hne : p.1 ≠ k := by
      intro e
      unfold sget at h
      rw [List.find?_cons, show decide (p.1 = k) = true from decide_eq_true e] at h
      cases h
    have h2 : sget l k = none := by
      unfold sget at h ⊢
      rw [List.find?_cons, show decide (p.1 = k) = false from decide_eq_false hne] at h
      exact h
    rw [smap, Instr.findNow]
    simp only [same_str, decide_eq_false (show ¬ k = p.1 from fun e => hne e.symm)]
    exact findS_miss l (j + 1) (i + 1) h2
theorem findS_hit {k : ByteArray} {v : Value} (u : Value) : ∀ (l : List (ByteArray × Value)) (j i : Nat), sget l k = some v → ∃ t, Instr.findNow .string (.string k) (smap j l) i = some (some (i + t, v)) ∧ (∃ e, (smap j l)[t]? = some e ∧ e.key = .string k) ∧
      (smap j l).modify t (fun e => { e with key := .string k, val := u }) = smap j (sput l k u)
  | [], _, _, h => by cases h
  | p :: l, j, i, h => by
    by_cases hk : p.1 = k
    · refine ⟨0, ?_, ⟨_, rfl, by simp only [hk]⟩, ?_⟩
      · rw [smap, Instr.findNow]
        simp only [same_str, decide_eq_true hk.symm]
        unfold sget at h
        rw [List.find?_cons, show decide (p.1 = k) = true from decide_eq_true hk] at h
        simp only [Option.map_some, Option.some.injEq] at h
        rw [h]; rfl
      · obtain ⟨a, x⟩ := p
        simp only [] at hk
        subst hk
        simp [smap, sput]
    · have h2 : sget l k = some v := by
        unfold sget at h ⊢
        rw [List.find?_cons, show decide (p.1 = k) = false from decide_eq_false hk] at h
        exact h
      obtain ⟨t, h3, ⟨e, h4, h5⟩, h6⟩ := findS_hit u l (j + 1) (i + 1) h2
      refine ⟨t + 1, ?_, ⟨e, by rw [smap, List.getElem?_cons_succ]; exact h4, h5⟩, ?_⟩
      · rw [smap, Instr.findNow]
        simp only [same_str, decide_eq_false (show ¬ k = p.1 from fun e => hk e.symm)]
        rw [h3, show i + (t + 1) = i + 1 + t by omega]
      · obtain ⟨a, x⟩ := p
        simp only [] at hk
        rw [smap, List.modify_succ_cons, h6, sput, if_neg hk, smap]
theorem sput_new {k : ByteArray} {v : Value} : ∀ (l : List (ByteArray × Value)), sget l k = none → sput l k v = l ++ [(k, v)]
  | [], _ => rfl
  | (a, x) :: l, h => by
    have hne : a ≠ k := by
      intro e
      unfold sget at h
      rw [List.find?_cons, show decide (a = k) = true from decide_eq_true e] at h
      cases h
    have h2 : sget l k = none := by
      unfold sget at h ⊢
      rw [List.find?_cons, show decide (a = k) = false from decide_eq_false hne] at h
      exact h
    rw [sput, if_neg hne, sput_new l h2]; rfl
theorem sput_len {k : ByteArray} {v w : Value} : ∀ (l : List (ByteArray × Value)), sget l k = some w → (sput l k v).length = l.length
  | [], h => by cases h
  | (a, x) :: l, h => by
    by_cases hk : a = k
    · rw [sput, if_pos hk]; rfl
    · have h2 : sget l k = some w := by
        unfold sget at h ⊢
        rw [List.find?_cons, show decide (a = k) = false from decide_eq_false hk] at h
        exact h
      rw [sput, if_neg hk, List.length_cons, List.length_cons, sput_len l h2]
section
variable {P : Program} {w : World} {T K E : TypeId} {B : Nat} {l : List (ByteArray × Value)}
theorem sput_run (ht : P.underlying T = some (.map K E)) (hk : P.underlying K = some .string) (hb : w.heap[B]? = some (smapO l)) (k : ByteArray) (v : Value) :
    (Instr.mapUpdate T (.map (some B)) (.string k) v).run P w = .ok () (putO w B (smapO (sput l k v))) := by
  have hb' : w.heap[B]? = some (.map (smap 0 l).toArray l.length) := hb
  have hc := Go.MapKept.run_checkKey (w := w) (P := P) (k := .string k) hk trivial false 9999
  cases hg : sget l k with
  | none =>
    have hf := Go.MapKept.run_findKey (w := w) (P := P) hk (findS_miss l 0 0 hg)
    have hs := run_setObj_map (P := P) (.map ((smap 0 l).toArray.push { key := .string k, val := v, born := l.length }) (l.length + 1)) hb'
    have he : Obj.map ((smap 0 l).toArray.push { key := .string k, val := v, born := l.length }) (l.length + 1) = smapO (sput l k v) := by
      unfold smapO
      rw [sput_new l hg, smap_app]
      simp
    have h1 : (Instr.mapUpdate T (.map (some B)) (.string k) v).run P w = .ok () { w with heap := w.heap.setIfInBounds B (Obj.map ((smap 0 l).toArray.push { key := .string k, val := v, born := l.length }) (l.length + 1)) } := by
      simp only [List.push_toArray] at hs ⊢
      simp [Instr.mapUpdate, run_underlying ht, Go.MapKept.run_getObj_map hb', hc, hf, hs, Result.andThen]
    rw [h1, he]
    rfl
  | some x =>
    obtain ⟨t, h3, ⟨e, h4, h5⟩, h6⟩ := findS_hit v l 0 0 hg
    rw [Nat.zero_add] at h3
    have hf := Go.MapKept.run_findKey (w := w) (P := P) hk h3
    have hj : (smap 0 l).toArray[t]? = some e := by rw [List.getElem?_toArray]; exact h4
    have hst := Go.MapKept.run_keyThatStays (P := P) (w := w) (d := .string) (k := .string k) trivial
    have hs := run_setObj_map (P := P) (.map ((smap 0 l).toArray.modify t fun e => { e with key := .string k, val := v }) l.length) hb'
    have he : Obj.map ((smap 0 l).toArray.modify t fun e => { e with key := .string k, val := v }) l.length = smapO (sput l k v) := by
      unfold smapO
      rw [sput_len l hg, ← h6]
      congr 1
      apply Array.toList_inj.1
      rw [Array.toList_modify]
    have h1 : (Instr.mapUpdate T (.map (some B)) (.string k) v).run P w = .ok () { w with heap := w.heap.setIfInBounds B (.map ((smap 0 l).toArray.modify t fun e => { e with key := .string k, val := v }) l.length) } := by
      simp [Instr.mapUpdate, run_underlying ht, Go.MapKept.run_getObj_map hb', hc, hf, Result.andThen]
      rw [show (smap 0 l)[t]? = some e from h4]
      simp only [Option.map_some, Option.getD_some, h5, hst, Result.andThen_ok]
      have e5 : ((smap 0 l).modify t fun e => { e with key := .string k, val := v }).toArray = (smap 0 l).toArray.modify t fun e => { e with key := .string k, val := v } := by
        apply Array.toList_inj.1
        rw [Array.toList_modify]
      rw [e5, hs]
    rw [h1, he]
    rfl
theorem sget_hit (ht : P.underlying T = some (.map K E)) (hk : P.underlying K = some .string) (hb : w.heap[B]? = some (smapO l)) (k : ByteArray) (v : Value) (h : sget l k = some v) (ok : Bool) :
    (Instr.lookup T (.map (some B)) (.string k) ok).run P w = .ok (if ok then .tuple #[v, .bool true] else v) w := by
  have hb' : w.heap[B]? = some (.map (smap 0 l).toArray l.length) := hb
  obtain ⟨t, hn, _⟩ := findS_hit v l 0 0 h
  have hf := Go.MapKept.run_findKey (w := w) (P := P) hk hn
  have hc := Go.MapKept.run_checkKey (w := w) (P := P) (k := .string k) hk trivial (smap 0 l).toArray.isEmpty 9999
  clear hb
  cases ok <;> simp_all [Instr.lookup, run_underlying ht, Go.MapKept.run_getObj_map hb', Result.andThen]
theorem sget_miss (ht : P.underlying T = some (.map K E)) (hk : P.underlying K = some .string) (hb : w.heap[B]? = some (smapO l)) (k : ByteArray) (z : Value) (hz : (zeroValue E).run P w = .ok z w) (h : sget l k = none) (ok : Bool) :
    (Instr.lookup T (.map (some B)) (.string k) ok).run P w = .ok (if ok then .tuple #[z, .bool false] else z) w := by
  have hb' : w.heap[B]? = some (.map (smap 0 l).toArray l.length) := hb
  have hf := Go.MapKept.run_findKey (w := w) (P := P) hk (findS_miss l 0 0 h)
  have hc := Go.MapKept.run_checkKey (w := w) (P := P) (k := .string k) hk trivial (smap 0 l).toArray.isEmpty 9999
  clear hb
  cases ok <;> simp_all [Instr.lookup, run_underlying ht, Go.MapKept.run_getObj_map hb', Result.andThen]
end
end Go.Proofs.YtmacpdddimcmgaaGreatDoor
namespace Go.Proofs.YtmacpdddimcmgaaGreatDoor
set_option linter.unusedVariables false
set_option linter.unusedSimpArgs false
set_option maxRecDepth 20000
open Go.RowKit
abbrev fnv (k : FuncId) (cap : Array Value) : Value := .func (.func k) #[] cap
abbrev ptr (b : Nat) : Value := .pointer (some ⟨b, 0, none⟩)
def kindsL (t1 t2 : Nat) : List (Int × Value) :=
  [(1, .agg #[.string ⟨#[108, 101, 97, 100]⟩, fnv 119 #[ptr t1]]),
   (2, .agg #[.string ⟨#[112, 117, 98, 108, 105, 115, 104]⟩, fnv 120 #[ptr t1]]),
   (3, .agg #[.string ⟨#[98, 101, 103, 105, 110]⟩, fnv 122 #[ptr t1]]),
   (4, .agg #[.string ⟨#[109, 111, 118, 101]⟩, fnv 124 #[ptr t1]]),
   (5, .agg #[.string ⟨#[105, 110, 116, 101, 110, 116]⟩, fnv 125 #[ptr t2]]),
   (6, .agg #[.string ⟨#[97, 99, 107]⟩, fnv 126 #[ptr t2]]),
   (7, .agg #[.string ⟨#[115, 116, 101, 112]⟩, fnv 127 #[ptr t1]])]
theorem cell_at1 {w : World} {g : Nat} {a0 : Value} {e : TypeId} {f : Nat × Nat} (h : w.heap[g]? = some (.cells #[a0] e f)) : w.cell? ⟨g, 0, none⟩ = some a0 := by simp [World.cell?, h]
set_option maxHeartbeats 1000000 in
theorem kinds_calls (w : World) : Calls Tryz.prog 73 #[] w fun r w' => ∃ B t1 t2 : Nat, r = .returned (.map (some B)) ∧ Hid (w'.heap[B]? = some (imapO (kindsL t1 t2))) ∧
    Hid (w'.cell? ⟨t1, 0, none⟩ = some (fnv 117 #[])) ∧ Hid (w'.cell? ⟨t2, 0, none⟩ = some (fnv 118 #[ptr t1])) ∧ Frm M0 w w' := by
  go_enter Tryz.func73, Tryz.ntmps73
  go_wp2_with (first
    | (refine is_makeMap ?_; refine wpList_makeMap rfl _ (by rfl) ?_; intro B w' hb' hB hf'; have hx : Frm M0 w w' := ((((Frm.refl M0 w).alloc _).alloc _).then0 hf'); have hc1 : w'.heap[w.heap.size]? = some (.cells #[fnv 117 #[]] 95) := hf'.heap (new2 w _ _).1 (fun h => h); have hc2 : w'.heap[w.heap.size + 1]? = some (.cells #[fnv 118 #[ptr w.heap.size]] 95) := hf'.heap (new2 w _ _).2 (fun h => h); have hz : w.heap.size + 1 < B := (by simp at hB; omega); have HB := hid hb'; have HF := hid hx; have HC1 := hid hc1; have HC2 := hid hc2; clear hx hc1 hc2 hb' hf' hB)
    | (refine is_insert 1 ?_; refine wpList_insert (l := []) rfl _ _ _ (by rfl) Tryz.underlying142 Tryz.underlying3 (by rfl) HB.out 1 (by rfl) (by simp) ?_; intro w' hb' hf'; have hx : w'.heap[B]? = some (imapO [(1, .agg #[.string ⟨#[108, 101, 97, 100]⟩, fnv 119 #[ptr (w.heap.size)]])]) := hb'; have hy := HF.out.trans hf' (fun b hb e => by have e' : b = B := e; omega); have hc1 := hf'.heap HC1.out (by show ¬ w.heap.size = B; omega); have hc2 := hf'.heap HC2.out (by show ¬ w.heap.size + 1 = B; omega); clear HB HF HC1 HC2; have HB := hid hx; have HF := hid hy; have HC1 := hid hc1; have HC2 := hid hc2; clear hx hy hc1 hc2 hb' hf')
    | (refine is_insert 2 ?_; refine wpList_insert (l := [(1, .agg #[.string ⟨#[108, 101, 97, 100]⟩, fnv 119 #[ptr (w.heap.size)]])]) rfl _ _ _ (by rfl) Tryz.underlying142 Tryz.underlying3 (by rfl) HB.out 2 (by rfl) (by simp) ?_; intro w' hb' hf'; have hx : w'.heap[B]? = some (imapO [(1, .agg #[.string ⟨#[108, 101, 97, 100]⟩, fnv 119 #[ptr (w.heap.size)]]), (2, .agg #[.string ⟨#[112, 117, 98, 108, 105, 115, 104]⟩, fnv 120 #[ptr (w.heap.size)]])]) := hb'; have hy := HF.out.trans hf' (fun b hb e => by have e' : b = B := e; omega); have hc1 := hf'.heap HC1.out (by show ¬ w.heap.size = B; omega); have hc2 := hf'.heap HC2.out (by show ¬ w.heap.size + 1 = B; omega); clear HB HF HC1 HC2; have HB := hid hx; have HF := hid hy; have HC1 := hid hc1; have HC2 := hid hc2; clear hx hy hc1 hc2 hb' hf')
    | (refine is_insert 3 ?_; refine wpList_insert (l := [(1, .agg #[.string ⟨#[108, 101, 97, 100]⟩, fnv 119 #[ptr (w.heap.size)]]), (2, .agg #[.string ⟨#[112, 117, 98, 108, 105, 115, 104]⟩, fnv 120 #[ptr (w.heap.size)]])]) rfl _ _ _ (by rfl) Tryz.underlying142 Tryz.underlying3 (by rfl) HB.out 3 (by rfl) (by simp) ?_; intro w' hb' hf'; have hx : w'.heap[B]? = some (imapO [(1, .agg #[.string ⟨#[108, 101, 97, 100]⟩, fnv 119 #[ptr (w.heap.size)]]), (2, .agg #[.string ⟨#[112, 117, 98, 108, 105, 115, 104]⟩, fnv 120 #[ptr (w.heap.size)]]), (3, .agg #[.string ⟨#[98, 101, 103, 105, 110]⟩, fnv 122 #[ptr (w.heap.size)]])]) := hb'; have hy := HF.out.trans hf' (fun b hb e => by have e' : b = B := e; omega); have hc1 := hf'.heap HC1.out (by show ¬ w.heap.size = B; omega); have hc2 := hf'.heap HC2.out (by show ¬ w.heap.size + 1 = B; omega); clear HB HF HC1 HC2; have HB := hid hx; have HF := hid hy; have HC1 := hid hc1; have HC2 := hid hc2; clear hx hy hc1 hc2 hb' hf')
    | (refine is_insert 4 ?_; refine wpList_insert (l := [(1, .agg #[.string ⟨#[108, 101, 97, 100]⟩, fnv 119 #[ptr (w.heap.size)]]), (2, .agg #[.string ⟨#[112, 117, 98, 108, 105, 115, 104]⟩, fnv 120 #[ptr (w.heap.size)]]), (3, .agg #[.string ⟨#[98, 101, 103, 105, 110]⟩, fnv 122 #[ptr (w.heap.size)]])]) rfl _ _ _ (by rfl) Tryz.underlying142 Tryz.underlying3 (by rfl) HB.out 4 (by rfl) (by simp) ?_; intro w' hb' hf'; have hx : w'.heap[B]? = some (imapO [(1, .agg #[.string ⟨#[108, 101, 97, 100]⟩, fnv 119 #[ptr (w.heap.size)]]), (2, .agg #[.string ⟨#[112, 117, 98, 108, 105, 115, 104]⟩, fnv 120 #[ptr (w.heap.size)]]), (3, .agg #[.string ⟨#[98, 101, 103, 105, 110]⟩, fnv 122 #[ptr (w.heap.size)]]), (4, .agg #[.string ⟨#[109, 111, 118, 101]⟩, fnv 124 #[ptr (w.heap.size)]])]) := hb'; have hy := HF.out.trans hf' (fun b hb e => by have e' : b = B := e; omega); have hc1 := hf'.heap HC1.out (by show ¬ w.heap.size = B; omega); have hc2 := hf'.heap HC2.out (by show ¬ w.heap.size + 1 = B; omega); clear HB HF HC1 HC2; have HB := hid hx; have HF := hid hy; have HC1 := hid hc1; have HC2 := hid hc2; clear hx hy hc1 hc2 hb' hf')
    | (refine is_insert 5 ?_; refine wpList_insert (l := [(1, .agg #[.string ⟨#[108, 101, 97, 100]⟩, fnv 119 #[ptr (w.heap.size)]]), (2, .agg #[.string ⟨#[112, 117, 98, 108, 105, 115, 104]⟩, fnv 120 #[ptr (w.heap.size)]]), (3, .agg #[.string ⟨#[98, 101, 103, 105, 110]⟩, fnv 122 #[ptr (w.heap.size)]]), (4, .agg #[.string ⟨#[109, 111, 118, 101]⟩, fnv 124 #[ptr (w.heap.size)]])]) rfl _ _ _ (by rfl) Tryz.underlying142 Tryz.underlying3 (by rfl) HB.out 5 (by rfl) (by simp) ?_; intro w' hb' hf'; have hx : w'.heap[B]? = some (imapO [(1, .agg #[.string ⟨#[108, 101, 97, 100]⟩, fnv 119 #[ptr (w.heap.size)]]), (2, .agg #[.string ⟨#[112, 117, 98, 108, 105, 115, 104]⟩, fnv 120 #[ptr (w.heap.size)]]), (3, .agg #[.string ⟨#[98, 101, 103, 105, 110]⟩, fnv 122 #[ptr (w.heap.size)]]), (4, .agg #[.string ⟨#[109, 111, 118, 101]⟩, fnv 124 #[ptr (w.heap.size)]]), (5, .agg #[.string ⟨#[105, 110, 116, 101, 110, 116]⟩, fnv 125 #[ptr (w.heap.size + 1)]])]) := hb'; have hy := HF.out.trans hf' (fun b hb e => by have e' : b = B := e; omega); have hc1 := hf'.heap HC1.out (by show ¬ w.heap.size = B; omega); have hc2 := hf'.heap HC2.out (by show ¬ w.heap.size + 1 = B; omega); clear HB HF HC1 HC2; have HB := hid hx; have HF := hid hy; have HC1 := hid hc1; have HC2 := hid hc2; clear hx hy hc1 hc2 hb' hf')
    | (refine is_insert 6 ?_; refine wpList_insert (l := [(1, .agg #[.string ⟨#[108, 101, 97, 100]⟩, fnv 119 #[ptr (w.heap.size)]]), (2, .agg #[.string ⟨#[112, 117, 98, 108, 105, 115, 104]⟩, fnv 120 #[ptr (w.heap.size)]]), (3, .agg #[.string ⟨#[98, 101, 103, 105, 110]⟩, fnv 122 #[ptr (w.heap.size)]]), (4, .agg #[.string ⟨#[109, 111, 118, 101]⟩, fnv 124 #[ptr (w.heap.size)]]), (5, .agg #[.string ⟨#[105, 110, 116, 101, 110, 116]⟩, fnv 125 #[ptr (w.heap.size + 1)]])]) rfl _ _ _ (by rfl) Tryz.underlying142 Tryz.underlying3 (by rfl) HB.out 6 (by rfl) (by simp) ?_; intro w' hb' hf'; have hx : w'.heap[B]? = some (imapO [(1, .agg #[.string ⟨#[108, 101, 97, 100]⟩, fnv 119 #[ptr (w.heap.size)]]), (2, .agg #[.string ⟨#[112, 117, 98, 108, 105, 115, 104]⟩, fnv 120 #[ptr (w.heap.size)]]), (3, .agg #[.string ⟨#[98, 101, 103, 105, 110]⟩, fnv 122 #[ptr (w.heap.size)]]), (4, .agg #[.string ⟨#[109, 111, 118, 101]⟩, fnv 124 #[ptr (w.heap.size)]]), (5, .agg #[.string ⟨#[105, 110, 116, 101, 110, 116]⟩, fnv 125 #[ptr (w.heap.size + 1)]]), (6, .agg #[.string ⟨#[97, 99, 107]⟩, fnv 126 #[ptr (w.heap.size + 1)]])]) := hb'; have hy := HF.out.trans hf' (fun b hb e => by have e' : b = B := e; omega); have hc1 := hf'.heap HC1.out (by show ¬ w.heap.size = B; omega); have hc2 := hf'.heap HC2.out (by show ¬ w.heap.size + 1 = B; omega); clear HB HF HC1 HC2; have HB := hid hx; have HF := hid hy; have HC1 := hid hc1; have HC2 := hid hc2; clear hx hy hc1 hc2 hb' hf')
    | (refine is_insert 7 ?_; refine wpList_insert (l := [(1, .agg #[.string ⟨#[108, 101, 97, 100]⟩, fnv 119 #[ptr (w.heap.size)]]), (2, .agg #[.string ⟨#[112, 117, 98, 108, 105, 115, 104]⟩, fnv 120 #[ptr (w.heap.size)]]), (3, .agg #[.string ⟨#[98, 101, 103, 105, 110]⟩, fnv 122 #[ptr (w.heap.size)]]), (4, .agg #[.string ⟨#[109, 111, 118, 101]⟩, fnv 124 #[ptr (w.heap.size)]]), (5, .agg #[.string ⟨#[105, 110, 116, 101, 110, 116]⟩, fnv 125 #[ptr (w.heap.size + 1)]]), (6, .agg #[.string ⟨#[97, 99, 107]⟩, fnv 126 #[ptr (w.heap.size + 1)]])]) rfl _ _ _ (by rfl) Tryz.underlying142 Tryz.underlying3 (by rfl) HB.out 7 (by rfl) (by simp) ?_; intro w' hb' hf'; have hx : w'.heap[B]? = some (imapO [(1, .agg #[.string ⟨#[108, 101, 97, 100]⟩, fnv 119 #[ptr (w.heap.size)]]), (2, .agg #[.string ⟨#[112, 117, 98, 108, 105, 115, 104]⟩, fnv 120 #[ptr (w.heap.size)]]), (3, .agg #[.string ⟨#[98, 101, 103, 105, 110]⟩, fnv 122 #[ptr (w.heap.size)]]), (4, .agg #[.string ⟨#[109, 111, 118, 101]⟩, fnv 124 #[ptr (w.heap.size)]]), (5, .agg #[.string ⟨#[105, 110, 116, 101, 110, 116]⟩, fnv 125 #[ptr (w.heap.size + 1)]]), (6, .agg #[.string ⟨#[97, 99, 107]⟩, fnv 126 #[ptr (w.heap.size + 1)]]), (7, .agg #[.string ⟨#[115, 116, 101, 112]⟩, fnv 127 #[ptr (w.heap.size)]])]) := hb'; have hy := HF.out.trans hf' (fun b hb e => by have e' : b = B := e; omega); have hc1 := hf'.heap HC1.out (by show ¬ w.heap.size = B; omega); have hc2 := hf'.heap HC2.out (by show ¬ w.heap.size + 1 = B; omega); clear HB HF HC1 HC2; have HB := hid hx; have HF := hid hy; have HC1 := hid hc1; have HC2 := hid hc2; clear hx hy hc1 hc2 hb' hf'))
  go_ret
  exact ⟨B, w.heap.size, w.heap.size + 1, rfl, HB, hid (cell_at1 HC1.out), hid (cell_at1 HC2.out), HF.out⟩
end Go.Proofs.YtmacpdddimcmgaaGreatDoor
namespace Go.Proofs.YtmacpdddimcmgaaGreatDoor
set_option linter.unusedVariables false
set_option linter.unusedSimpArgs false
set_option maxRecDepth 20000
open Go.RowKit
structure Sp where
  s0 : Int
  s1 : Int
  s2 : Int
  s3 : Int
  s4 : Int
  s5 : Int
  s6 : Int
  s7 : Int
  s8 : Int
  s9 : Int
  s10 : Int
  s11 : Int
  deriving DecidableEq
structure Rc where
  k : Int
  e : Int
  w : Int
  n : Int
  q : Int
  t : ByteArray
  p : Sp
  deriving DecidableEq
def Sp.val (p : Sp) : Value := .agg #[.int .i64 p.s0, .int .i64 p.s1, .int .i64 p.s2, .int .i64 p.s3, .int .i64 p.s4, .int .i64 p.s5, .int .i64 p.s6, .int .i64 p.s7, .int .i64 p.s8, .int .i64 p.s9, .int .i64 p.s10, .int .i64 p.s11]
def Rc.val (r : Rc) : Value := .agg #[.int .i64 r.k, .int .i64 r.e, .int .i64 r.w, .int .i64 r.n, .int .i64 r.q, .string r.t, .int .i64 r.p.s0, .int .i64 r.p.s1, .int .i64 r.p.s2, .int .i64 r.p.s3, .int .i64 r.p.s4, .int .i64 r.p.s5, .int .i64 r.p.s6, .int .i64 r.p.s7, .int .i64 r.p.s8, .int .i64 r.p.s9, .int .i64 r.p.s10, .int .i64 r.p.s11]
def Sp.zero : Sp := ⟨0, 0, 0, 0, 0, 0, 0, 0, 0, 0, 0, 0⟩
def req (a b : Rc) : Bool := decide (a = b)
def Rc.zero : Rc := ⟨0, 0, 0, 0, 0, .empty, Sp.zero⟩
section
variable {P : Program} {w : World}
theorem eqFields_cons {d : Nat} {xs ys : Array Value} {f : Field} {fs : List Field} {a b : Value} {r q : Bool} (hn : f.name ≠ "_") (ha : (part f.type xs f.offset).run P w = .ok a w) (hb : (part f.type ys f.offset).run P w = .ok b w)
    (hr : (Op.equalIn d f.type a b).run P w = .ok r w) (hq : (Op.eqFields d xs ys fs).run P w = .ok q w) : (Op.eqFields d xs ys (f :: fs)).run P w = .ok (r && q) w := by
  unfold Op.eqFields
  rw [if_pos hn]
  simp only [Sem.run_bind, ha, hb, hr, Result.andThen_ok]
  cases r <;> simp [hq]
theorem eqItems_cons {d c i : Nat} {e : TypeId} {xs ys : Array Value} {is : List Nat} {a b : Value} {r q : Bool} (ha : (part e xs (i * c)).run P w = .ok a w) (hb : (part e ys (i * c)).run P w = .ok b w)
    (hr : (Op.equalIn d e a b).run P w = .ok r w) (hq : (Op.eqItems d e c xs ys is).run P w = .ok q w) : (Op.eqItems d e c xs ys (i :: is)).run P w = .ok (r && q) w := by
  unfold Op.eqItems
  simp only [Sem.run_bind, ha, hb, hr, Result.andThen_ok]
  cases r <;> simp [hq]
end
theorem part_int (w : World) (xs : Array Value) (o : Nat) (n : Int) (h : xs[o]? = some (.int .i64 n)) : (part 3 xs o).run Tryz.prog w = .ok (.int .i64 n) w := by
  simp [part, isAgg, run_underlying Tryz.underlying3, h, Result.andThen]
theorem eq_arr (w : World) (d : Nat) (a0 a1 a2 a3 b0 b1 b2 b3 : Int) :
    (Op.equalIn (d + 1 + 1) 28 (.agg #[.int .i64 a0, .int .i64 a1, .int .i64 a2, .int .i64 a3]) (.agg #[.int .i64 b0, .int .i64 b1, .int .i64 b2, .int .i64 b3])).run Tryz.prog w = .ok (a0 == b0 && (a1 == b1 && (a2 == b2 && (a3 == b3 && true)))) w := by
  obtain ⟨i, hi⟩ := info_of_underlying (P := Tryz.prog) Tryz.underlying3
  rw [run_equalIn_array w (d + 1) _ _ Tryz.underlying28 hi]
  have hc : Tryz.prog.cellsOf 3 = 1 := by kernel_rfl
  rw [hc]
  have he : ∀ x y : Int, (Op.equalIn (d + 1) 3 (.int .i64 x) (.int .i64 y)).run Tryz.prog w = .ok (x == y) w := fun x y => run_equalIn_int w d _ _ _ x y Tryz.underlying3
  exact eqItems_cons (part_int w _ _ a0 rfl) (part_int w _ _ b0 rfl) (he _ _) (eqItems_cons (part_int w _ _ a1 rfl) (part_int w _ _ b1 rfl) (he _ _) (eqItems_cons (part_int w _ _ a2 rfl) (part_int w _ _ b2 rfl) (he _ _)
    (eqItems_cons (part_int w _ _ a3 rfl) (part_int w _ _ b3 rfl) (he _ _) rfl)))
theorem part_arr (w : World) (xs : Array Value) (o : Nat) : (part 28 xs o).run Tryz.prog w = .ok (.agg (xs.extract o (o + 4))) w := by
  obtain ⟨i, hi⟩ := info_of_underlying (P := Tryz.prog) Tryz.underlying28
  have hc : Tryz.prog.cellsOf 28 = 4 := by kernel_rfl
  simp [part, isAgg, run_underlying Tryz.underlying28, run_sizeOf w hi, hc, Result.andThen]
theorem part_spec (w : World) (xs : Array Value) (o : Nat) : (part 30 xs o).run Tryz.prog w = .ok (.agg (xs.extract o (o + 12))) w := by
  obtain ⟨i, hi⟩ := info_of_underlying (P := Tryz.prog) Tryz.underlying30
  have hc : Tryz.prog.cellsOf 30 = 12 := by kernel_rfl
  simp [part, isAgg, run_underlying Tryz.underlying30, run_sizeOf w hi, hc, Result.andThen]
theorem part_str (w : World) (xs : Array Value) (o : Nat) (s : ByteArray) (h : xs[o]? = some (.string s)) : (part 9 xs o).run Tryz.prog w = .ok (.string s) w := by
  simp [part, isAgg, run_underlying Tryz.underlying9, h, Result.andThen]
set_option maxHeartbeats 1000000 in
set_option maxRecDepth 20000 in
theorem eq_spec (w : World) (d : Nat) (a0 b0 a1 b1 a2 b2 a3 b3 a4 b4 a5 b5 a6 b6 a7 b7 a8 b8 a9 b9 a10 b10 a11 b11 : Int) :
    (Op.equalIn (d + 1 + 1 + 1) 30 (.agg #[.int .i64 a0, .int .i64 a1, .int .i64 a2, .int .i64 a3, .int .i64 a4, .int .i64 a5, .int .i64 a6, .int .i64 a7, .int .i64 a8, .int .i64 a9, .int .i64 a10, .int .i64 a11]) (.agg #[.int .i64 b0, .int .i64 b1, .int .i64 b2, .int .i64 b3, .int .i64 b4, .int .i64 b5, .int .i64 b6, .int .i64 b7, .int .i64 b8, .int .i64 b9, .int .i64 b10, .int .i64 b11])).run Tryz.prog w = .ok ((a0 == b0) && ((a1 == b1) && ((a2 == b2) && ((a3 == b3) && ((a4 == b4) && ((a5 == b5 && (a6 == b6 && (a7 == b7 && (a8 == b8 && true)))) && ((a9 == b9) && ((a10 == b10) && ((a11 == b11) && true))))))))) w := by
  rw [run_equalIn_struct w (d + 1 + 1) _ _ _ Tryz.underlying30 (by kernel_rfl)]
  have he : ∀ x y : Int, (Op.equalIn (d + 1 + 1) 3 (.int .i64 x) (.int .i64 y)).run Tryz.prog w = .ok (x == y) w := fun x y => run_equalIn_int w (d + 1) _ _ _ x y Tryz.underlying3
  exact (eqFields_cons (by decide) (part_int w _ _ a0 rfl) (part_int w _ _ b0 rfl) (he _ _) (eqFields_cons (by decide) (part_int w _ _ a1 rfl) (part_int w _ _ b1 rfl) (he _ _) (eqFields_cons (by decide) (part_int w _ _ a2 rfl) (part_int w _ _ b2 rfl) (he _ _) (eqFields_cons (by decide) (part_int w _ _ a3 rfl) (part_int w _ _ b3 rfl) (he _ _) (eqFields_cons (by decide) (part_int w _ _ a4 rfl) (part_int w _ _ b4 rfl) (he _ _) (eqFields_cons (by decide) (part_arr w _ 5) (part_arr w _ 5) (eq_arr w d _ _ _ _ _ _ _ _) (eqFields_cons (by decide) (part_int w _ _ a9 rfl) (part_int w _ _ b9 rfl) (he _ _) (eqFields_cons (by decide) (part_int w _ _ a10 rfl) (part_int w _ _ b10 rfl) (he _ _) (eqFields_cons (by decide) (part_int w _ _ a11 rfl) (part_int w _ _ b11 rfl) (he _ _) rfl)))))))))
theorem eq_sp (w : World) (d : Nat) (a0 a1 a2 a3 a4 a5 a6 a7 a8 a9 a10 a11 b0 b1 b2 b3 b4 b5 b6 b7 b8 b9 b10 b11 : Int) :
    (Op.equalIn (d + 1 + 1 + 1) 30 (.agg #[.int .i64 a0, .int .i64 a1, .int .i64 a2, .int .i64 a3, .int .i64 a4, .int .i64 a5, .int .i64 a6, .int .i64 a7, .int .i64 a8, .int .i64 a9, .int .i64 a10, .int .i64 a11]) (.agg #[.int .i64 b0, .int .i64 b1, .int .i64 b2, .int .i64 b3, .int .i64 b4, .int .i64 b5, .int .i64 b6, .int .i64 b7, .int .i64 b8, .int .i64 b9, .int .i64 b10, .int .i64 b11])).run Tryz.prog w = .ok (decide (Sp.mk a0 a1 a2 a3 a4 a5 a6 a7 a8 a9 a10 a11 = Sp.mk b0 b1 b2 b3 b4 b5 b6 b7 b8 b9 b10 b11)) w := by
  rw [eq_spec]
  congr 1
  rw [Bool.eq_iff_iff]
  simp only [Bool.and_eq_true, beq_iff_eq, decide_eq_true_eq, Sp.mk.injEq, and_true, and_assoc]
set_option maxHeartbeats 1000000 in
set_option maxRecDepth 20000 in
theorem eq_rec (w : World) (k e v n q k' e' v' n' q' : Int) (t t' : ByteArray) (a0 a1 a2 a3 a4 a5 a6 a7 a8 a9 a10 a11 b0 b1 b2 b3 b4 b5 b6 b7 b8 b9 b10 b11 : Int) :
    (Op.equalIn (9996 + 1 + 1 + 1 + 1) 37 (.agg #[.int .i64 k, .int .i64 e, .int .i64 v, .int .i64 n, .int .i64 q, .string t, .int .i64 a0, .int .i64 a1, .int .i64 a2, .int .i64 a3, .int .i64 a4, .int .i64 a5, .int .i64 a6, .int .i64 a7, .int .i64 a8, .int .i64 a9, .int .i64 a10, .int .i64 a11]) (.agg #[.int .i64 k', .int .i64 e', .int .i64 v', .int .i64 n', .int .i64 q', .string t', .int .i64 b0, .int .i64 b1, .int .i64 b2, .int .i64 b3, .int .i64 b4, .int .i64 b5, .int .i64 b6, .int .i64 b7, .int .i64 b8, .int .i64 b9, .int .i64 b10, .int .i64 b11])).run Tryz.prog w
      = .ok (k == k' && (e == e' && (v == v' && (n == n' && (q == q' && (t.toList == t'.toList && (decide (Sp.mk a0 a1 a2 a3 a4 a5 a6 a7 a8 a9 a10 a11 = Sp.mk b0 b1 b2 b3 b4 b5 b6 b7 b8 b9 b10 b11) && true))))))) w := by
  rw [run_equalIn_struct w (9996 + 1 + 1 + 1) _ _ _ Tryz.underlying37 (by kernel_rfl)]
  have he : ∀ x y : Int, (Op.equalIn (9996 + 1 + 1 + 1) 3 (.int .i64 x) (.int .i64 y)).run Tryz.prog w = .ok (x == y) w := fun x y => run_equalIn_int w (9996 + 1 + 1) _ _ _ x y Tryz.underlying3
  have hs : (Op.equalIn (9996 + 1 + 1 + 1) 9 (.string t) (.string t')).run Tryz.prog w = .ok (t.toList == t'.toList) w := run_equalIn_string w (9996 + 1 + 1) _ _ _ Tryz.underlying9
  exact (eqFields_cons (by decide) (part_int w _ _ k rfl) (part_int w _ _ k' rfl) (he _ _) (eqFields_cons (by decide) (part_int w _ _ e rfl) (part_int w _ _ e' rfl) (he _ _) (eqFields_cons (by decide) (part_int w _ _ v rfl) (part_int w _ _ v' rfl) (he _ _)
    (eqFields_cons (by decide) (part_int w _ _ n rfl) (part_int w _ _ n' rfl) (he _ _) (eqFields_cons (by decide) (part_int w _ _ q rfl) (part_int w _ _ q' rfl) (he _ _) (eqFields_cons (by decide) (part_str w _ _ t rfl) (part_str w _ _ t' rfl) hs
    (eqFields_cons (by decide) (part_spec w _ 6) (part_spec w _ 6) (eq_sp w 9996 a0 a1 a2 a3 a4 a5 a6 a7 a8 a9 a10 a11 b0 b1 b2 b3 b4 b5 b6 b7 b8 b9 b10 b11) rfl)))))))
theorem eql_rec (w : World) (k e v n q k' e' v' n' q' : Int) (t t' : ByteArray) (a0 a1 a2 a3 a4 a5 a6 a7 a8 a9 a10 a11 b0 b1 b2 b3 b4 b5 b6 b7 b8 b9 b10 b11 : Int) :
    (binOp .eql 37 (.agg #[.int .i64 k, .int .i64 e, .int .i64 v, .int .i64 n, .int .i64 q, .string t, .int .i64 a0, .int .i64 a1, .int .i64 a2, .int .i64 a3, .int .i64 a4, .int .i64 a5, .int .i64 a6, .int .i64 a7, .int .i64 a8, .int .i64 a9, .int .i64 a10, .int .i64 a11]) (.agg #[.int .i64 k', .int .i64 e', .int .i64 v', .int .i64 n', .int .i64 q', .string t', .int .i64 b0, .int .i64 b1, .int .i64 b2, .int .i64 b3, .int .i64 b4, .int .i64 b5, .int .i64 b6, .int .i64 b7, .int .i64 b8, .int .i64 b9, .int .i64 b10, .int .i64 b11])).run Tryz.prog w
      = .ok (.bool (req (Rc.mk k e v n q t (Sp.mk a0 a1 a2 a3 a4 a5 a6 a7 a8 a9 a10 a11)) (Rc.mk k' e' v' n' q' t' (Sp.mk b0 b1 b2 b3 b4 b5 b6 b7 b8 b9 b10 b11)))) w := by
  rw [run_eql_struct, show (10000 : Nat) = 9996 + 1 + 1 + 1 + 1 from rfl, eq_rec]
  show Result.ok _ _ = _
  unfold req
  congr 2
  rw [Bool.eq_iff_iff]
  simp only [Bool.and_eq_true, beq_iff_eq, decide_eq_true_eq, Rc.mk.injEq, and_true, (beq_iff_eq (a := t.toList) (b := t'.toList)).symm.trans (Go.Lib.bytes_beq_iff t t')]
end Go.Proofs.YtmacpdddimcmgaaGreatDoor
namespace Go.Proofs.YtmacpdddimcmgaaGreatDoor
set_option linter.unusedVariables false
set_option linter.unusedSimpArgs false
set_option maxRecDepth 20000
open Go.RowKit
def btw (n lo hi : Int) : Bool := decide (lo ≤ n) && decide (n ≤ hi)
theorem btw_calls (n lo hi : Int) (w : World) : Calls Tryz.prog 74 #[.int .i64 n, .int .i64 lo, .int .i64 hi] w fun r w' => r = .returned (.bool (btw n lo hi)) ∧ w = w' := by
  have hB : Hid (btw n lo hi = (decide (lo ≤ n) && decide (n ≤ hi))) := rfl
  by_cases h : lo ≤ n
  · have hb : Hid (btw n lo hi = decide (n ≤ hi)) := by unfold Hid btw; rw [decide_eq_true h]; rfl
    clear hB
    go_enter Tryz.func74, Tryz.ntmps74
    go_wp2_with fail
    go_ret
    exact ⟨by rw [hb.out]; rfl, rfl⟩
  · have hb : Hid (btw n lo hi = false) := by unfold Hid btw; rw [decide_eq_false h]; rfl
    clear hB
    go_enter Tryz.func74, Tryz.ntmps74
    go_wp2_with fail
    go_ret
    exact ⟨by rw [hb.out]; rfl, rfl⟩
set_option maxRecDepth 20000 in
set_option maxHeartbeats 2000000 in
attribute [-go_sem] run_eql_struct in
attribute [local go_sem] eql_rec in
theorem bare_calls (r : Rc) (w : World) : Calls Tryz.prog 117 #[r.val] w fun x w' => x = .returned (.bool (req r Rc.zero)) ∧ Frm M0 w w' := by
  unfold Rc.val
  go_enter Tryz.func117, Tryz.ntmps117
  go_wp2_with (refine wpList_load_row rfl 37 (.tmp 1) rfl w.heap.size rfl _ _ _ _ (heap_alloc_last w _) Tryz.underlying37 rfl (by kernel_rfl) ?_)
  go_ret
  exact ⟨rfl, (Frm.refl M0 w).alloc _⟩
end Go.Proofs.YtmacpdddimcmgaaGreatDoor
namespace Go.Proofs.YtmacpdddimcmgaaGreatDoor
set_option linter.unusedVariables false
set_option linter.unusedSimpArgs false
set_option maxRecDepth 20000
open Go.RowKit
theorem cell_at {w : World} {g : Nat} {cur : Array Value} {e : TypeId} {f : Nat × Nat} (hh : w.heap[g]? = some (.cells cur e f)) (o : Nat) : w.cell? ⟨g, o, none⟩ = cur[o]? := by
  simp [World.cell?, hh]
theorem frozen_at {w : World} {g : Nat} {cur : Array Value} {e : TypeId} (hh : w.heap[g]? = some (.cells cur e (0, 0))) (o : Nat) : w.frozen? ⟨g, o, none⟩ = false := by
  simp [World.frozen?, hh]
def unitB (r : Rc) : Bool := btw r.w 0 15 && (btw r.q 1 1099511627776 && req ⟨0, 0, 0, 0, 0, r.t, r.p⟩ Rc.zero)
set_option maxRecDepth 20000 in
set_option maxHeartbeats 2000000 in
theorem unit_calls (r : Rc) (t1 : Nat) (w : World) (h1 : w.cell? ⟨t1, 0, none⟩ = some (fnv 117 #[])) : Calls Tryz.prog 118 #[r.val, ptr t1] w fun x w' => x = .returned (.bool (unitB r)) ∧ Frm M0 w w' := by
  unfold Rc.val
  have H1 := hid h1; clear h1
  go_enter Tryz.func118, Tryz.ntmps118
  go_wp2_with fail
  refine (btw_calls _ _ _ _).mono ?_
  rintro _ _ ⟨rfl, rfl⟩
  obtain ⟨b1, HB1⟩ : ∃ b1, Hid (btw r.w 0 15 = b1) := ⟨_, rfl⟩
  rw [HB1.out]
  cases b1
  · go_wp2_with fail
    go_ret
    exact ⟨by simp [unitB, HB1.out], (Frm.refl M0 w).alloc _⟩
  go_wp2_with fail
  refine (btw_calls _ _ _ _).mono ?_
  rintro _ _ ⟨rfl, rfl⟩
  obtain ⟨b2, HB2⟩ : ∃ b2, Hid (btw r.q 1 1099511627776 = b2) := ⟨_, rfl⟩
  rw [HB2.out]
  cases b2
  · go_wp2_with fail
    go_ret
    exact ⟨by simp [unitB, HB1.out, HB2.out], (Frm.refl M0 w).alloc _⟩
  have hc := ((Frm.refl M0 w).alloc (.cells #[.int .i64 r.k, .int .i64 r.e, .int .i64 r.w, .int .i64 r.n, .int .i64 r.q, .string r.t, .int .i64 r.p.s0, .int .i64 r.p.s1, .int .i64 r.p.s2, .int .i64 r.p.s3, .int .i64 r.p.s4, .int .i64 r.p.s5, .int .i64 r.p.s6, .int .i64 r.p.s7, .int .i64 r.p.s8, .int .i64 r.p.s9, .int .i64 r.p.s10, .int .i64 r.p.s11] 37)).cell H1.out (fun h => h)
  go_wp2_with fail
  refine (bare_calls ⟨0, 0, 0, 0, 0, r.t, r.p⟩ _).mono ?_
  rintro _ w' ⟨rfl, hf⟩
  have HF := hid (((Frm.refl M0 w).alloc _).then0 hf); clear hf
  go_wp2_with fail
  go_ret
  exact ⟨by simp [unitB, HB1.out, HB2.out], HF.out⟩
def leadB (r : Rc) : Bool := btw r.w 0 63 && (btw r.n 0 1099511627776 && (btw r.q 1 1048576 && req ⟨0, 0, 0, 0, 0, r.t, r.p⟩ Rc.zero))
set_option maxRecDepth 20000 in
set_option maxHeartbeats 2000000 in
theorem lead_calls (r : Rc) (t1 : Nat) (w : World) (h1 : w.cell? ⟨t1, 0, none⟩ = some (fnv 117 #[])) : Calls Tryz.prog 119 #[r.val, ptr t1] w fun x w' => x = .returned (.bool (leadB r)) ∧ Frm M0 w w' := by
  unfold Rc.val
  have H1 := hid h1; clear h1
  go_enter Tryz.func119, Tryz.ntmps119
  go_wp2_with fail
  refine (btw_calls _ _ _ _).mono ?_
  rintro _ _ ⟨rfl, rfl⟩
  obtain ⟨b1, HB1⟩ : ∃ b, Hid (btw r.w 0 63 = b) := ⟨_, rfl⟩
  rw [HB1.out]
  cases b1
  · go_wp2_with fail
    go_ret
    exact ⟨by simp [leadB, HB1.out], (Frm.refl M0 w).alloc _⟩
  go_wp2_with fail
  refine (btw_calls _ _ _ _).mono ?_
  rintro _ _ ⟨rfl, rfl⟩
  obtain ⟨b2, HB2⟩ : ∃ b, Hid (btw r.n 0 1099511627776 = b) := ⟨_, rfl⟩
  rw [HB2.out]
  cases b2
  · go_wp2_with fail
    go_ret
    exact ⟨by simp [leadB, HB1.out, HB2.out], (Frm.refl M0 w).alloc _⟩
  go_wp2_with fail
  refine (btw_calls _ _ _ _).mono ?_
  rintro _ _ ⟨rfl, rfl⟩
  obtain ⟨b3, HB3⟩ : ∃ b, Hid (btw r.q 1 1048576 = b) := ⟨_, rfl⟩
  rw [HB3.out]
  cases b3
  · go_wp2_with fail
    go_ret
    exact ⟨by simp [leadB, HB1.out, HB2.out, HB3.out], (Frm.refl M0 w).alloc _⟩
  have hc := ((Frm.refl M0 w).alloc (.cells #[.int .i64 r.k, .int .i64 r.e, .int .i64 r.w, .int .i64 r.n, .int .i64 r.q, .string r.t, .int .i64 r.p.s0, .int .i64 r.p.s1, .int .i64 r.p.s2, .int .i64 r.p.s3, .int .i64 r.p.s4, .int .i64 r.p.s5, .int .i64 r.p.s6, .int .i64 r.p.s7, .int .i64 r.p.s8, .int .i64 r.p.s9, .int .i64 r.p.s10, .int .i64 r.p.s11] 37)).cell H1.out (fun h => h)
  go_wp2_with fail
  refine (bare_calls ⟨0, 0, 0, 0, 0, r.t, r.p⟩ _).mono ?_
  rintro _ w' ⟨rfl, hf⟩
  have HF := hid (((Frm.refl M0 w).alloc _).then0 hf); clear hf
  go_wp2_with fail
  go_ret
  exact ⟨by simp [leadB, HB1.out, HB2.out, HB3.out], HF.out⟩
set_option maxRecDepth 20000 in
theorem text_calls (r : Rc) (b : Nat) (w : World) (h : w.heap[b]? = some (.cells #[.int .i64 r.k, .int .i64 r.e, .int .i64 r.w, .int .i64 r.n, .int .i64 r.q, .string r.t, .int .i64 r.p.s0, .int .i64 r.p.s1, .int .i64 r.p.s2, .int .i64 r.p.s3, .int .i64 r.p.s4, .int .i64 r.p.s5, .int .i64 r.p.s6, .int .i64 r.p.s7, .int .i64 r.p.s8, .int .i64 r.p.s9, .int .i64 r.p.s10, .int .i64 r.p.s11] 37 (0, 0))) : Calls Tryz.prog 121 #[ptr b] w fun x w' => x = .returned (.bool (btw r.t.size 1 64)) ∧ w'.heap[b]? = some (.cells #[.int .i64 r.k, .int .i64 r.e, .int .i64 r.w, .int .i64 r.n, .int .i64 r.q, .string ⟨#[]⟩, .int .i64 r.p.s0, .int .i64 r.p.s1, .int .i64 r.p.s2, .int .i64 r.p.s3, .int .i64 r.p.s4, .int .i64 r.p.s5, .int .i64 r.p.s6, .int .i64 r.p.s7, .int .i64 r.p.s8, .int .i64 r.p.s9, .int .i64 r.p.s10, .int .i64 r.p.s11] 37 (0, 0)) ∧ Frm (· = b) w w' := by
  have hc : w.cell? ⟨b, 5, none⟩ = some (.string r.t) := cell_at h 5
  have hz := frozen_at h 5
  have H := hid h; clear h
  go_enter Tryz.func121, Tryz.ntmps121
  go_wp2_with fail
  refine (btw_calls _ _ _ _).mono ?_
  rintro _ _ ⟨rfl, rfl⟩
  go_wp2_with fail
  go_ret
  exact ⟨rfl, heap_set_at H.out _, (Frm.refl (· = b) _).put b 5 _ (fun _ => rfl)⟩
end Go.Proofs.YtmacpdddimcmgaaGreatDoor
namespace Go.Proofs.YtmacpdddimcmgaaGreatDoor
set_option linter.unusedVariables false
set_option linter.unusedSimpArgs false
set_option maxRecDepth 20000
open Go.RowKit
theorem Frm.setRow {a w : World} (h : Frm M0 a w) (g : Nat) (cs : Array Value) (hg : a.heap.size ≤ g) : Frm M0 a (w.setRow g cs) :=
  h.trans (M' := fun b => b = g) ⟨rfl, rfl, rfl, by simp, fun k _ hk => by
    unfold World.setRow
    rw [Array.getElem?_modify, if_neg (fun e => hk e.symm)]⟩ (fun b hb e => by have e' : b = g := e; omega)
theorem sbtw_calls (n lo hi : Int) (w : World) : Calls Tryz.prog 160 #[.int .i64 n, .int .i64 lo, .int .i64 hi] w fun r w' => r = .returned (.bool (btw n lo hi)) ∧ w = w' := by
  have hB : Hid (btw n lo hi = (decide (lo ≤ n) && decide (n ≤ hi))) := rfl
  by_cases h : lo ≤ n
  · have hb : Hid (btw n lo hi = decide (n ≤ hi)) := by unfold Hid btw; rw [decide_eq_true h]; rfl
    clear hB
    go_enter Tryz.func160, Tryz.ntmps160
    go_wp2_with fail
    go_ret
    exact ⟨by rw [hb.out]; rfl, rfl⟩
  · have hb : Hid (btw n lo hi = false) := by unfold Hid btw; rw [decide_eq_false h]; rfl
    clear hB
    go_enter Tryz.func160, Tryz.ntmps160
    go_wp2_with fail
    go_ret
    exact ⟨by rw [hb.out]; rfl, rfl⟩
def stepF (s n last : Int) (first : Bool) : Bool :=
  bif !decide (s = 0) || (!first && decide (n = 0)) then decide (n = 0) else bif !first && decide (last = 0) then false else decide (last < n) && decide (n ≤ 100)
def Sp.stepB (p : Sp) : Nat → Bool
  | 0 => stepF p.s4 p.s5 0 true
  | 1 => stepF p.s4 p.s6 p.s5 false
  | 2 => stepF p.s4 p.s7 p.s6 false
  | _ => stepF p.s4 p.s8 p.s7 false
set_option maxRecDepth 20000 in
theorem step0_calls (p : Sp) (w : World) : Calls Tryz.prog 161 #[p.val, .int .i64 0] w fun r w' => r = .returned (.bool (p.stepB 0)) ∧ Frm M0 w w' := by
  unfold Sp.val
  have HE : Hid (p.stepB 0 = stepF p.s4 p.s5 0 true) := rfl
  by_cases h4 : p.s4 = 0
  · by_cases h1 : 0 < p.s5
    · have HD : Hid (stepF p.s4 p.s5 0 true = decide (p.s5 ≤ 100)) := hid (by simp [stepF, h4, h1])
      go_enter Tryz.func161, Tryz.ntmps161
      go_wp2_with fail
      go_ret
      exact ⟨by rw [HE.out, HD.out]; rfl, (Frm.refl M0 w).alloc _⟩
    · have HD : Hid (stepF p.s4 p.s5 0 true = false) := hid (by simp [stepF, h4, h1])
      go_enter Tryz.func161, Tryz.ntmps161
      go_wp2_with fail
      go_ret
      exact ⟨by rw [HE.out, HD.out]; rfl, (Frm.refl M0 w).alloc _⟩
  · have HD : Hid (stepF p.s4 p.s5 0 true = decide (p.s5 = 0)) := hid (by simp [stepF, h4])
    go_enter Tryz.func161, Tryz.ntmps161
    go_wp2_with fail
    go_ret
    exact ⟨by rw [HE.out, HD.out]; first | rfl | (simp; exact Bool.eq_iff_iff.mpr (by simp)), (Frm.refl M0 w).alloc _⟩
set_option maxRecDepth 20000 in
theorem step1_calls (p : Sp) (w : World) : Calls Tryz.prog 161 #[p.val, .int .i64 1] w fun r w' => r = .returned (.bool (p.stepB 1)) ∧ Frm M0 w w' := by
  unfold Sp.val
  have HE : Hid (p.stepB 1 = stepF p.s4 p.s6 p.s5 false) := rfl
  by_cases h4 : p.s4 = 0
  · by_cases h0 : p.s6 = 0
    · have HD : Hid (stepF p.s4 p.s6 p.s5 false = true) := hid (by simp [stepF, h4, h0])
      go_enter Tryz.func161, Tryz.ntmps161
      go_wp2_with fail
      go_ret
      exact ⟨by rw [HE.out, HD.out]; rfl, (Frm.refl M0 w).alloc _⟩
    · by_cases hl : p.s5 = 0
      · have HD : Hid (stepF p.s4 p.s6 p.s5 false = false) := hid (by simp [stepF, h4, h0, hl])
        go_enter Tryz.func161, Tryz.ntmps161
        go_wp2_with fail
        go_ret
        exact ⟨by rw [HE.out, HD.out]; rfl, (Frm.refl M0 w).alloc _⟩
      · by_cases h1 : p.s5 < p.s6
        · have HD : Hid (stepF p.s4 p.s6 p.s5 false = decide (p.s6 ≤ 100)) := hid (by simp [stepF, h4, h0, hl, h1])
          go_enter Tryz.func161, Tryz.ntmps161
          go_wp2_with fail
          go_ret
          exact ⟨by rw [HE.out, HD.out]; rfl, (Frm.refl M0 w).alloc _⟩
        · have HD : Hid (stepF p.s4 p.s6 p.s5 false = false) := hid (by simp [stepF, h4, h0, hl, h1])
          go_enter Tryz.func161, Tryz.ntmps161
          go_wp2_with fail
          go_ret
          exact ⟨by rw [HE.out, HD.out]; rfl, (Frm.refl M0 w).alloc _⟩
  · have HD : Hid (stepF p.s4 p.s6 p.s5 false = decide (p.s6 = 0)) := hid (by simp [stepF, h4])
    go_enter Tryz.func161, Tryz.ntmps161
    go_wp2_with fail
    go_ret
    exact ⟨by rw [HE.out, HD.out]; first | rfl | (simp; exact Bool.eq_iff_iff.mpr (by simp)), (Frm.refl M0 w).alloc _⟩
set_option maxRecDepth 20000 in
theorem step2_calls (p : Sp) (w : World) : Calls Tryz.prog 161 #[p.val, .int .i64 2] w fun r w' => r = .returned (.bool (p.stepB 2)) ∧ Frm M0 w w' := by
  unfold Sp.val
  have HE : Hid (p.stepB 2 = stepF p.s4 p.s7 p.s6 false) := rfl
  by_cases h4 : p.s4 = 0
  · by_cases h0 : p.s7 = 0
    · have HD : Hid (stepF p.s4 p.s7 p.s6 false = true) := hid (by simp [stepF, h4, h0])
      go_enter Tryz.func161, Tryz.ntmps161
      go_wp2_with fail
      go_ret
      exact ⟨by rw [HE.out, HD.out]; rfl, (Frm.refl M0 w).alloc _⟩
    · by_cases hl : p.s6 = 0
      · have HD : Hid (stepF p.s4 p.s7 p.s6 false = false) := hid (by simp [stepF, h4, h0, hl])
        go_enter Tryz.func161, Tryz.ntmps161
        go_wp2_with fail
        go_ret
        exact ⟨by rw [HE.out, HD.out]; rfl, (Frm.refl M0 w).alloc _⟩
      · by_cases h1 : p.s6 < p.s7
        · have HD : Hid (stepF p.s4 p.s7 p.s6 false = decide (p.s7 ≤ 100)) := hid (by simp [stepF, h4, h0, hl, h1])
          go_enter Tryz.func161, Tryz.ntmps161
          go_wp2_with fail
          go_ret
          exact ⟨by rw [HE.out, HD.out]; rfl, (Frm.refl M0 w).alloc _⟩
        · have HD : Hid (stepF p.s4 p.s7 p.s6 false = false) := hid (by simp [stepF, h4, h0, hl, h1])
          go_enter Tryz.func161, Tryz.ntmps161
          go_wp2_with fail
          go_ret
          exact ⟨by rw [HE.out, HD.out]; rfl, (Frm.refl M0 w).alloc _⟩
  · have HD : Hid (stepF p.s4 p.s7 p.s6 false = decide (p.s7 = 0)) := hid (by simp [stepF, h4])
    go_enter Tryz.func161, Tryz.ntmps161
    go_wp2_with fail
    go_ret
    exact ⟨by rw [HE.out, HD.out]; first | rfl | (simp; exact Bool.eq_iff_iff.mpr (by simp)), (Frm.refl M0 w).alloc _⟩
set_option maxRecDepth 20000 in
theorem step3_calls (p : Sp) (w : World) : Calls Tryz.prog 161 #[p.val, .int .i64 3] w fun r w' => r = .returned (.bool (p.stepB 3)) ∧ Frm M0 w w' := by
  unfold Sp.val
  have HE : Hid (p.stepB 3 = stepF p.s4 p.s8 p.s7 false) := rfl
  by_cases h4 : p.s4 = 0
  · by_cases h0 : p.s8 = 0
    · have HD : Hid (stepF p.s4 p.s8 p.s7 false = true) := hid (by simp [stepF, h4, h0])
      go_enter Tryz.func161, Tryz.ntmps161
      go_wp2_with fail
      go_ret
      exact ⟨by rw [HE.out, HD.out]; rfl, (Frm.refl M0 w).alloc _⟩
    · by_cases hl : p.s7 = 0
      · have HD : Hid (stepF p.s4 p.s8 p.s7 false = false) := hid (by simp [stepF, h4, h0, hl])
        go_enter Tryz.func161, Tryz.ntmps161
        go_wp2_with fail
        go_ret
        exact ⟨by rw [HE.out, HD.out]; rfl, (Frm.refl M0 w).alloc _⟩
      · by_cases h1 : p.s7 < p.s8
        · have HD : Hid (stepF p.s4 p.s8 p.s7 false = decide (p.s8 ≤ 100)) := hid (by simp [stepF, h4, h0, hl, h1])
          go_enter Tryz.func161, Tryz.ntmps161
          go_wp2_with fail
          go_ret
          exact ⟨by rw [HE.out, HD.out]; rfl, (Frm.refl M0 w).alloc _⟩
        · have HD : Hid (stepF p.s4 p.s8 p.s7 false = false) := hid (by simp [stepF, h4, h0, hl, h1])
          go_enter Tryz.func161, Tryz.ntmps161
          go_wp2_with fail
          go_ret
          exact ⟨by rw [HE.out, HD.out]; rfl, (Frm.refl M0 w).alloc _⟩
  · have HD : Hid (stepF p.s4 p.s8 p.s7 false = decide (p.s8 = 0)) := hid (by simp [stepF, h4])
    go_enter Tryz.func161, Tryz.ntmps161
    go_wp2_with fail
    go_ret
    exact ⟨by rw [HE.out, HD.out]; first | rfl | (simp; exact Bool.eq_iff_iff.mpr (by simp)), (Frm.refl M0 w).alloc _⟩
end Go.Proofs.YtmacpdddimcmgaaGreatDoor
namespace Go.Proofs.YtmacpdddimcmgaaGreatDoor
set_option linter.unusedVariables false
set_option linter.unusedSimpArgs false
set_option maxRecDepth 20000
open Go.RowKit
theorem infoI : (Tryz.prog.info? 3).map (fun i => (i.zero, i.size, i.bytes)) = some (some (.int .i64 0), 1, 8) := by kernel_rfl
theorem results_cell_slot {P : Program} {fn : Func} {p q : Tmp} {ty : TypeId} (h : fn.results = #[.cell p ty, .tmp q]) (tmps : Array Value) (w : World) (g : Nat) (t : TypeId) (cs : Array Value) (fr : Nat × Nat) (d : TypeDesc) (v : Value)
    (hp : tmps.getD p undef = .pointer (some ⟨g, 0, none⟩)) (hq : tmps.getD q undef = v) (hg : w.heap[g]? = some (.cells cs t fr))
    (hu : P.underlying ty = some d) (hd : (match d with | .struct _ | .array _ _ => true | _ => false) = true) (hi : (P.info? ty).map (·.size) = some cs.size) :
    (results fn tmps).run P w = .ok (.tuple #[.agg cs, v]) w := by
  have hp' : tmps[p]?.getD undef = .pointer (some ⟨g, 0, none⟩) := by simpa using hp
  have hq' : tmps[q]?.getD undef = v := by simpa using hq
  simp [results, h, hp', hq', asAddr, run_loadVar_row w g t ty cs fr d hg hu hd hi]
theorem wpList_index {P : Program} {w : World} {ops : Array Oper} {rest : List Oper} {o : Oper} {a : Act} {Q : Exit → Act → World → Prop} (hgd : o.guard = none) (t e : TypeId) (x ix : Operand) (ho : o.op = .index t x ix)
    {n : Nat} {d : TypeDesc} (ht : P.underlying t = some (.array n e)) (he : P.underlying e = some d) (hd : (match d with | .struct _ | .array _ _ => false | _ => true) = true) (hs : (P.info? e).map (·.size) = some 1)
    (cs : Array Value) (hx : a.eval x = .agg cs) (k : IntKind) (i : Nat) (hi : a.eval ix = .int k i) (hn : i < n) (v : Value) (hv : cs[i]? = some v)
    (h : wpList P ops Q rest (a.put o.dst v) w) : wpList P ops Q (o :: rest) a w := by
  refine wpList_plain hgd fun K hK => ?_
  obtain ⟨inf, hinf, hsz⟩ : ∃ i, P.info? e = some i ∧ i.size = 1 := by
    cases hq : P.info? e with
    | none => simp [hq] at hs
    | some i => exact ⟨i, rfl, by simpa [hq] using hs⟩
  have hp : (part e cs i).run P w = .ok v w := by
    cases d <;> simp at hd <;> simp [part, isAgg, run_underlying he, hv, Result.andThen]
  have hrun : (Instr.index t (.agg cs) (.int k i)).run P w = .ok v w := by
    have h1 : (0 : Int) ≤ i ∧ (i : Int) < n := by omega
    have h2 : ¬ n ≤ i := by omega
    simp [Instr.index, asIntOf, run_underlying ht, h1, h2, sizeOf, typeInfo, hinf, hsz, hp, Result.andThen]
  unfold Oper.wp
  simp only [execOp, ho, hx, hi, Sem.run_bind, hrun, Result.andThen_ok]
  exact hK _ _ h
def Sp.nums (p : Sp) : List Int := [p.s0, p.s1, p.s2, p.s3, p.s4, p.s5, p.s6, p.s7, p.s8, p.s9, p.s10, p.s11]
end Go.Proofs.YtmacpdddimcmgaaGreatDoor
namespace Go.Proofs.YtmacpdddimcmgaaGreatDoor
set_option linter.unusedVariables false
set_option linter.unusedSimpArgs false
set_option maxRecDepth 20000
open Go.RowKit
section
variable {P : Program} {ops : Array Oper} {w0 : World} {A n : Nat} {QT : Act → Prop}
def FUpon (P : Program) (w : World) (v : Value) : Result Next → Prop
  | .ok (.value u) w' => w' = w ∧ u = v
  | .ok (.enter f args) w' => w' = w ∧ Calls P f args w (fun e w'' => e = .returned v ∧ Frm M0 w w'')
  | _ => False
def FY (P : Program) (ops : Array Oper) (w0 : World) (o : Oper) (v : Value) (a : Act) : Prop :=
  (Region.wanted o (yielded ops a.tmps) = true ∧ ∀ w, Frm M0 w0 w → FUpon P w v ((execOp a.eval o).run P w)) ∨ (Region.wanted o (yielded ops a.tmps) = false ∧ v = undef)
theorem FY.same {o : Oper} {v : Value} {a a' : Act} (h : FY P ops w0 o v a) (he : execOp a'.eval o = execOp a.eval o) (hw : Region.wanted o (yielded ops a'.tmps) = Region.wanted o (yielded ops a.tmps)) : FY P ops w0 o v a' := by
  unfold FY at *; rw [he, hw]; exact h
theorem FY.put {o : Oper} {v u : Value} {a : Act} {d : Option Tmp} (hs : ∀ cs b, o.op ≠ .select cs b) (h : FY P ops w0 o v a) (hd : ∀ x, d = some x → x ∉ o.looksAt ops) : FY P ops w0 o v (a.put d u) :=
  h.same (execOp_put o hs a d u hd) (wanted_put o a d u hd)
theorem FY.unput {o : Oper} {v u : Value} {a : Act} {d : Option Tmp} (hs : ∀ cs b, o.op ≠ .select cs b) (h : FY P ops w0 o v (a.put d u)) (hd : ∀ x, d = some x → x ∉ o.looksAt ops) : FY P ops w0 o v a :=
  h.same (execOp_put o hs a d u hd).symm (wanted_put o a d u hd).symm
theorem FY.wp {o : Oper} {v : Value} {a : Act} {w : World} {i : Nat} {K : Act → World → Prop} {Q : Exit → Act → World → Prop} (hy : FY P ops w0 o v a) (hi : ops[i]? = some o) (hF : Frm M0 w0 w) (h : ∀ w', Frm M0 w w' → K (a.put o.dst v) w') :
    wpOp P ops Q i K a w := by
  unfold wpOp
  simp only [hi]
  rcases hy with ⟨hw, hv⟩ | ⟨hw, rfl⟩
  · simp only [hw, if_true]
    refine .inl ?_
    have h3 := hv w hF
    unfold Oper.wp
    generalize (execOp a.eval o).run P w = r at *
    cases r with
    | ok m w' =>
      cases m <;> simp only [FUpon] at h3 <;> simp only [Oper.upon]
      case value u =>
        obtain ⟨rfl, rfl⟩ := h3
        exact h _ (Frm.refl _ _)
      case enter f args =>
        obtain ⟨rfl, hc⟩ := h3
        exact hc.mono fun e w'' ⟨he, hw''⟩ => by subst he; exact h _ hw''
    | halt x w' => simp only [FUpon] at h3
  · simp only [hw, Bool.false_eq_true, if_false]; exact h _ (Frm.refl _ _)
abbrev hd (A n i : Nat) : Prop := i < n ∧ i ≠ A
def AnyF (P : Program) (ops : Array Oper) (w0 : World) (A n : Nat) (QT : Act → Prop) : Nat → Array Bool → Act → Prop
  | 0, listed, a => (∀ i ∈ Region.ready .any ops listed, ¬ hd A n i) ∧ n ∈ Region.ready .any ops listed ∧ QT a
  | f + 1, listed, a => ((∀ i ∈ Region.ready .any ops listed, ¬ hd A n i) → n ∈ Region.ready .any ops listed ∧ QT a) ∧
    ∀ i ∈ Region.ready .any ops listed, hd A n i → ∃ o v, ops[i]? = some o ∧ FY P ops w0 o v a ∧ AnyF P ops w0 A n QT f (listed.setIfInBounds i true) (a.put o.dst v)
theorem AnyF_first {i : Nat} {oi : Oper} {v : Value} (hi : ops[i]? = some oi) (hsel : ∀ (j : Nat) (o : Oper) cs b, ops[j]? = some o → o.op ≠ .select cs b) (hin : hd A n i) :
    ∀ (f : Nat) (listed : Array Bool) (a : Act),
      (∀ j oj, ops[j]? = some oj → j ≠ i → listed.getD j true = false → (∀ e ∈ oj.after, Region.binds .any e = true → e.on ≠ i) → oi.apart ops oj = true) →
      i ∈ Region.ready .any ops listed → FY P ops w0 oi v a → AnyF P ops w0 A n QT f (listed.setIfInBounds i true) (a.put oi.dst v) → AnyF P ops w0 A n QT (f + 1) listed a := by
  intro f
  induction f with
  | zero =>
    intro listed a _ hr hy H
    refine ⟨fun h => absurd hin (h i hr), fun j hj hjh => ?_⟩
    by_cases hji : j = i
    · subst hji; exact ⟨oi, v, hi, hy, H⟩
    · exact absurd hjh (H.1 j (ready_mono hj hji))
  | succ f ih =>
    intro listed a hfree hr hy H
    refine ⟨fun h => absurd hin (h i hr), fun j hj hjh => ?_⟩
    by_cases hji : j = i
    · subst hji; exact ⟨oi, v, hi, hy, H⟩
    · obtain ⟨oj, u, hoj, hyj, hK⟩ := H.2 j (ready_mono hj hji) hjh
      obtain ⟨hjun, oj', hoj', hall⟩ := mem_ready.1 hj
      obtain rfl : oj' = oj := Option.some.inj (hoj'.symm.trans hoj)
      have hnot : ∀ e ∈ oj'.after, Region.binds .any e = true → e.on ≠ i := fun e he hb heq => by
        have h1 := hall e he hb
        have h0 := (mem_ready.1 hr).1
        rw [heq, getD_both h0] at h1
        cases h1
      obtain ⟨p1, p2, p3⟩ := Oper.apart_spec (hfree j oj' hoj hji hjun hnot)
      refine ⟨oj', u, hoj, hyj.unput (hsel j oj' · · hoj) p1, ?_⟩
      refine ih (listed.setIfInBounds j true) (a.put oj'.dst u) ?_ (ready_mono hr (Ne.symm hji)) (hy.put (hsel i oi · · hi) p3) ?_
      · intro k ok hk hki hun hno
        refine hfree k ok hk hki ?_ hno
        by_cases hjk : j = k
        · subst hjk; exact hjun
        · rw [getD_set_ne true hjk] at hun; exact hun
      · rw [Array.setIfInBounds_comm _ _ hji, ← Act.put_comm a v u p2]
        exact hK
def wpF (P : Program) (ops : Array Oper) (w0 : World) (QT : Act → Prop) : List Nat → Act → Prop
  | [], a => QT a
  | k :: ks, a => ∃ o v, ops[k]? = some o ∧ FY P ops w0 o v a ∧ wpF P ops w0 QT ks (a.put o.dst v)
def lexF (ops : Array Oper) (A n : Nat) : List Nat → Array Bool → Bool
  | [], listed => ((Region.ready .any ops listed).all fun i => !(decide (i < n) && decide (i ≠ A))) && (Region.ready .any ops listed).contains n
  | k :: ks, listed => (Region.ready .any ops listed).contains k && Region.free .any ops listed k && (decide (k < n) && decide (k ≠ A)) && lexF ops A n ks (listed.setIfInBounds k true)
theorem wpF_any (hs : Region.noSelect ops = true) : ∀ (ks : List Nat) (listed : Array Bool) (a : Act), lexF ops A n ks listed = true → wpF P ops w0 QT ks a → AnyF P ops w0 A n QT ks.length listed a
  | [], listed, a, hB, h => by
    simp only [lexF, Bool.and_eq_true, List.all_eq_true, Bool.not_eq_true', Bool.and_eq_false_iff, decide_eq_false_iff_not] at hB
    refine ⟨fun i hi hh => ?_, by simpa using hB.2, h⟩
    rcases hB.1 i hi with h1 | h1
    · exact h1 hh.1
    · exact h1 hh.2
  | k :: ks, listed, a, hB, h => by
    simp only [lexF, Bool.and_eq_true, decide_eq_true_eq] at hB
    obtain ⟨⟨⟨hr, hf⟩, hh⟩, hB'⟩ := hB
    obtain ⟨o, v, ho, hy, hK⟩ := h
    exact AnyF_first ho (Region.noSelect_spec hs) hh ks.length listed a (Region.free_spec ho hf) (by simpa using hr) hy (wpF_any hs ks _ _ hB' hK)
theorem wpF_cons {k : Nat} {ks : List Nat} {a : Act} (o : Oper) (v : Value) (ho : ops[k]? = some o) (hy : FY P ops w0 o v a) (h : wpF P ops w0 QT ks (a.put o.dst v)) : wpF P ops w0 QT (k :: ks) a := ⟨o, v, ho, hy, h⟩
theorem all_listed {listed : Array Bool} (hs : Region.sinkB .any ops n = true) (hc : Region.chainB .any ops n = true) (hn : n < ops.size) (inv : HeadInv .any ops n listed) (h : n ∈ Region.ready .any ops listed) : ∀ i, i < n → listed.getD i true = true := fun i hi => by
  cases hl : listed.getD i true with
  | true => rfl
  | false => exact absurd h (tail_waits hs hc hn inv (n - i) i rfl hi hl n (Nat.le_refl _))
section
variable {Q : Exit → Act → World → Prop} {oA : Oper} {obj : Obj}
theorem sound2 (hs : Region.sinkB .any ops n = true) (hc : Region.chainB .any ops n = true) (hn : n + 1 = ops.size) (hsel : ∀ (j : Nat) (o : Oper) cs b, ops[j]? = some o → o.op ≠ .select cs b)
    (hAp : ∀ j oj, ops[j]? = some oj → hd A n j → oj.apart ops oA = true) (b : Nat)
    (HT : ∀ a w, QT a → Frm M0 w0 w → w0.heap.size ≤ b → w.heap[b]? = some obj → wpOp P ops Q n (fun a' w' => Q .normal a' w') (a.put oA.dst (.pointer (some ⟨b, 0, none⟩))) w) :
    ∀ (f : Nat) (listed : Array Bool) (a : Act) (w : World), HeadInv .any ops n listed → listed.getD A true = true → AnyF P ops w0 A n QT f listed a → Frm M0 w0 w → w0.heap.size ≤ b → w.heap[b]? = some obj →
      wpAny P .any ops Q (f + 1) listed (a.put oA.dst (.pointer (some ⟨b, 0, none⟩))) w := by
  have stepT : ∀ (f : Nat) (listed : Array Bool) (a : Act) (w : World), HeadInv .any ops n listed → n ∈ Region.ready .any ops listed → QT a → Frm M0 w0 w → w0.heap.size ≤ b → w.heap[b]? = some obj →
      wpOp P ops Q n (wpAny P .any ops Q f (listed.setIfInBounds n true)) (a.put oA.dst (.pointer (some ⟨b, 0, none⟩))) w := by
    intro f listed a w inv hr hq hF hb ho
    refine wpOp_mono (fun a' w' h => wpAny_done ?_ h f) (HT a w hq hF hb ho)
    refine List.eq_nil_iff_forall_not_mem.2 fun j hj => ?_
    have hj1 := (mem_ready.1 hj).1
    have hjs : j < ops.size := by
      obtain ⟨_, o, ho, _⟩ := mem_ready.1 hj
      exact (Array.getElem?_eq_some_iff.1 ho).1
    by_cases hjn : j = n
    · subst hjn
      have : j < listed.size := by rw [inv.size]; omega
      simp [this] at hj1
    · rw [getD_set_ne true (Ne.symm hjn), all_listed hs hc (by omega) inv hr j (by omega)] at hj1
      cases hj1
  have nohead : ∀ (listed : Array Bool), HeadInv .any ops n listed → n ∈ Region.ready .any ops listed → ∀ i ∈ Region.ready .any ops listed, ¬ hd A n i := fun listed inv hr i hi hh => by
    have := all_listed hs hc (by omega) inv hr i hh.1
    rw [(mem_ready.1 hi).1] at this; cases this
  intro f
  induction f with
  | zero =>
    intro listed a w inv hA H hF hb ho
    obtain ⟨h1, h2, h3⟩ := H
    refine ⟨fun h => (by rw [h] at h2; cases h2), fun i hi => ?_⟩
    by_cases hin : i = n
    · subst hin; exact stepT 0 listed a w inv hi h3 hF hb ho
    · exfalso
      have hlt : i < ops.size := by obtain ⟨_, o, ho', _⟩ := mem_ready.1 hi; exact (Array.getElem?_eq_some_iff.1 ho').1
      by_cases hiA : i = A
      · subst hiA; have := (mem_ready.1 hi).1; rw [hA] at this; cases this
      · exact h1 i hi ⟨by omega, hiA⟩
  | succ f ih =>
    intro listed a w inv hA H hF hb ho
    refine ⟨fun h => ?_, fun i hi => ?_⟩
    · have := (H.1 (fun i hi => by rw [h] at hi; cases hi)).1
      rw [h] at this; cases this
    · by_cases hin : i = n
      · subst hin; exact stepT (f + 1) listed a w inv hi (H.1 (nohead listed inv hi)).2 hF hb ho
      · have hlt : i < ops.size := by obtain ⟨_, o, ho', _⟩ := mem_ready.1 hi; exact (Array.getElem?_eq_some_iff.1 ho').1
        by_cases hiA : i = A
        · exfalso; subst hiA; have := (mem_ready.1 hi).1; rw [hA] at this; cases this
        · obtain ⟨o, v, hoi, hy, hK⟩ := H.2 i hi ⟨by omega, hiA⟩
          obtain ⟨p1, p2, p3⟩ := Oper.apart_spec (hAp i o hoi ⟨by omega, hiA⟩)
          refine (hy.put (hsel i o · · hoi) p3).wp hoi hF fun w' hf => ?_
          rw [← Act.put_comm a v _ p2]
          refine ih _ _ _ (inv.set hi (by omega)) (by rw [getD_set_ne true hiA]; exact hA) hK (hF.same hf) hb (hf.heap ho (fun h => h))
theorem sound1 (hs : Region.sinkB .any ops n = true) (hc : Region.chainB .any ops n = true) (hn : n + 1 = ops.size) (hsel : ∀ (j : Nat) (o : Oper) cs b, ops[j]? = some o → o.op ≠ .select cs b)
    (hA : ops[A]? = some oA) (hAn : A < n) (hAw : oA.guard = none) (hAa : oA.after = #[]) (hAx : ∀ a w, (execOp (Act.eval a) oA).run P w = .ok (.value (.pointer (some ⟨w.heap.size, 0, none⟩))) (w.alloc obj))
    (hAp : ∀ j oj, ops[j]? = some oj → hd A n j → oj.apart ops oA = true)
    (HT : ∀ b a w, QT a → Frm M0 w0 w → w0.heap.size ≤ b → w.heap[b]? = some obj → wpOp P ops Q n (fun a' w' => Q .normal a' w') (a.put oA.dst (.pointer (some ⟨b, 0, none⟩))) w) :
    ∀ (f : Nat) (listed : Array Bool) (a : Act) (w : World), HeadInv .any ops n listed → listed.getD A true = false → AnyF P ops w0 A n QT f (listed.setIfInBounds A true) a → Frm M0 w0 w →
      wpAny P .any ops Q (f + 2) listed a w := by
  have rA : ∀ (listed : Array Bool), listed.getD A true = false → A ∈ Region.ready .any ops listed := fun listed h => mem_ready.2 ⟨h, oA, hA, fun e he => by rw [hAa] at he; simp at he⟩
  have stepA : ∀ (f : Nat) (listed : Array Bool) (a : Act) (w : World), HeadInv .any ops n listed → listed.getD A true = false → AnyF P ops w0 A n QT f (listed.setIfInBounds A true) a → Frm M0 w0 w →
      wpOp P ops Q A (wpAny P .any ops Q (f + 1) (listed.setIfInBounds A true)) a w := by
    intro f listed a w inv hl H hF
    unfold wpOp
    simp only [hA]
    have hwt : Region.wanted oA (yielded ops a.tmps) = true := by unfold Region.wanted; rw [hAw]
    simp only [hwt, if_true]
    refine .inl ?_
    unfold Oper.wp
    rw [hAx]
    refine sound2 hs hc hn hsel hAp w.heap.size (HT w.heap.size) f _ a (w.alloc obj) (inv.set (rA listed hl) hAn) ?_ H (hF.alloc _) hF.size (heap_alloc_last w _)
    have : A < listed.size := by rw [inv.size]; omega
    simp [this]
  intro f
  induction f with
  | zero =>
    intro listed a w inv hl H hF
    refine ⟨fun h => (by have := rA listed hl; rw [h] at this; cases this), fun i hi => ?_⟩
    by_cases hiA : i = A
    · subst hiA; exact stepA 0 listed a w inv hl H hF
    · have hlt : i < ops.size := by obtain ⟨_, o, ho', _⟩ := mem_ready.1 hi; exact (Array.getElem?_eq_some_iff.1 ho').1
      by_cases hin : i = n
      · subst hin; have := all_listed hs hc (by omega) inv hi A hAn; rw [hl] at this; cases this
      · exact absurd ⟨by omega, hiA⟩ (H.1 i (ready_mono hi hiA))
  | succ f ih =>
    intro listed a w inv hl H hF
    refine ⟨fun h => (by have := rA listed hl; rw [h] at this; cases this), fun i hi => ?_⟩
    by_cases hiA : i = A
    · subst hiA; exact stepA (f + 1) listed a w inv hl H hF
    · have hlt : i < ops.size := by obtain ⟨_, o, ho', _⟩ := mem_ready.1 hi; exact (Array.getElem?_eq_some_iff.1 ho').1
      by_cases hin : i = n
      · subst hin; have := all_listed hs hc (by omega) inv hi A hAn; rw [hl] at this; cases this
      · obtain ⟨o, v, hoi, hy, hK⟩ := H.2 i (ready_mono hi hiA) ⟨by omega, hiA⟩
        refine hy.wp hoi hF fun w' hf => ?_
        refine ih _ _ _ (inv.set hi (by omega)) (by rw [getD_set_ne true hiA]; exact hl) ?_ (hF.same hf)
        rw [Array.setIfInBounds_comm _ _ hiA]; exact hK
end
end
theorem fu_load_row {P : Program} {o : Oper} {a : Act} {w : World} (hgd : o.guard = none) (ty : TypeId) (x : Operand) (ho : o.op = .load ty x) (g : Nat) (hx : a.eval x = .pointer (some ⟨g, 0, none⟩)) (t : TypeId) (cs : Array Value) (fr : Nat × Nat) (d : TypeDesc)
    (hg : w.heap[g]? = some (.cells cs t fr)) (hu : P.underlying ty = some d) (hd : (match d with | .struct _ | .array _ _ => true | _ => false) = true) (hi : (P.info? ty).map (·.size) = some cs.size) :
    FUpon P w (.agg cs) ((execOp a.eval o).run P w) := by
  simp only [execOp, ho, hx, Instr.loadAt, Instr.sureAddr, Sem.run_bind, Sem.run_pure, Result.andThen_ok, run_loadVar_row w g t ty cs fr d hg hu hd hi]
  exact ⟨rfl, rfl⟩
theorem inv_false {m i : Nat} (h : i < m) : (Array.replicate m false).getD i true = false := by simp [h]
def lexFB (ops : Array Oper) (A n : Nat) (ks : List Nat) (oA : Oper) : Bool :=
  Region.noSelect ops && Region.sinkB .any ops n && Region.chainB .any ops n && (decide (n + 1 = ops.size) && decide (ks.length + 2 = ops.size)) && decide (A < n) && ((List.range n).all fun j => decide (j = A) || match ops[j]? with | some oj => oj.apart ops oA | none => true) &&
  lexF ops A n ks ((Array.replicate ops.size false).setIfInBounds A true)
theorem wp_region_F {P : Program} {id : Nat} {Q : Exit → Act → World → Prop} {a : Act} {w : World} {l : List Oper} (A n : Nat) (ks : List Nat) (oA : Oper) (obj : Obj) (hm : P.follows .mixedOrders = true) (hB : lexFB l.toArray A n ks oA = true)
    (hA : l.toArray[A]? = some oA) (hAw : oA.guard = none) (hAa : oA.after = #[]) (hAx : ∀ a w, (execOp (Act.eval a) oA).run P w = .ok (.value (.pointer (some ⟨w.heap.size, 0, none⟩))) (w.alloc obj))
    (h : wpF P l.toArray w (fun a' => ∀ b w', Frm M0 w w' → w.heap.size ≤ b → w'.heap[b]? = some obj → wpOp P l.toArray Q n (fun a'' w'' => Q .normal a'' w'') (a'.put oA.dst (.pointer (some ⟨b, 0, none⟩))) w') ks a) :
    (Code.region id l.toArray true).wp P Q a w := by
  simp only [lexFB, Bool.and_eq_true, decide_eq_true_eq] at hB
  obtain ⟨⟨⟨⟨⟨⟨hsel, hs⟩, hc⟩, hn, hks⟩, hAn⟩, hAp⟩, hlex⟩ := hB
  refine wp_region_any hm ?_
  have inv : HeadInv .any l.toArray n (Array.replicate l.toArray.size false) := by
    refine ⟨by simp, ?_, ?_⟩
    · intro j oj _ hl; rw [getD_replicate_false] at hl; cases hl
    · intro t h1 h2
      have : t < l.toArray.size := h2
      simp at this
      simp [this]
  have hF := wpF_any (P := P) (w0 := w) hsel ks _ a hlex h
  have hlA : (Array.replicate l.toArray.size false).getD A true = false := inv_false (by omega)
  have := sound1 (Q := Q) hs hc hn (Region.noSelect_spec hsel) hA hAn hAw hAa hAx ?_ (fun b a' w' hq hf hb ho => hq b w' hf hb ho) ks.length _ a { w with drawn := w.drawn + 1 } inv hlA hF ((Frm.refl M0 w).drew)
  · rw [hks] at this; exact this
  · intro j oj hj hh
    have := List.all_eq_true.1 hAp j (List.mem_range.2 hh.1)
    simp only [hj, Bool.or_eq_true, decide_eq_true_eq] at this
    rcases this with h1 | h1
    · exact absurd h1 hh.2
    · exact h1
def AllOps (ops : Array Oper) : List Oper → Nat → Prop
  | [], _ => True
  | o :: l, k => Hid (ops[k]? = some o) ∧ AllOps ops l (k + 1)
theorem allOps_of {ops : Array Oper} : ∀ (l : List Oper) (k : Nat), (∀ j o, l[j]? = some o → ops[k + j]? = some o) → AllOps ops l k
  | [], _, _ => trivial
  | o :: l, k, h => ⟨hid (by simpa using h 0 o rfl), allOps_of l (k + 1) fun j o' hj => by have := h (j + 1) o' (by simpa using hj); rw [show k + 1 + j = k + (j + 1) by omega]; exact this⟩
theorem wp_region_Fl {P : Program} {id : Nat} {Q : Exit → Act → World → Prop} {a : Act} {w : World} {l : List Oper} (A n : Nat) (ks : List Nat) (oA : Oper) (obj : Obj) (hm : P.follows .mixedOrders = true) (hB : lexFB l.toArray A n ks oA = true)
    (hA : l.toArray[A]? = some oA) (hAw : oA.guard = none) (hAa : oA.after = #[]) (hAx : ∀ a w, (execOp (Act.eval a) oA).run P w = .ok (.value (.pointer (some ⟨w.heap.size, 0, none⟩))) (w.alloc obj))
    (h : ∀ (ops : Array Oper) (QT : Act → Prop), AllOps ops l 0 →
      Hid (∀ a', (∀ b w', Frm M0 w w' → w.heap.size ≤ b → w'.heap[b]? = some obj → wpOp P l.toArray Q n (fun a'' w'' => Q .normal a'' w'') (a'.put oA.dst (.pointer (some ⟨b, 0, none⟩))) w') → QT a') → wpF P ops w QT ks a) :
    (Code.region id l.toArray true).wp P Q a w :=
  wp_region_F A n ks oA obj hm hB hA hAw hAa hAx (h _ _ (allOps_of l 0 fun j o hj => by simpa using hj) (hid fun _ h => h))
section
variable {P : Program} {ops : Array Oper} {w0 : World} {o oj : Oper} {v : Value} {a : Act} {j d : Nat} {want : Bool}
theorem tmps_eval (a : Act) (d : Nat) : a.eval (.tmp d) = a.tmps[d]?.getD undef := by simp [Act.eval]
theorem FY_yes (hg : o.guard = some (j, want)) (hj : ops[j]? = some oj) (hd : oj.dst = some d) (hb : a.eval (.tmp d) = .bool want) (h : ∀ w, Frm M0 w0 w → FUpon P w v ((execOp a.eval o).run P w)) : FY P ops w0 o v a := by
  rw [tmps_eval] at hb
  refine .inl ⟨?_, h⟩
  cases hq : a.tmps[d]? with
  | none => rw [hq] at hb; cases hb
  | some x =>
    rw [hq] at hb
    have hx : x = .bool want := hb
    simp [Region.wanted, yielded, hg, hj, hd, hq, hx]
theorem FY_no (hg : o.guard = some (j, want)) (hj : ops[j]? = some oj) (hd : oj.dst = some d) (hb : a.eval (.tmp d) = .bool !want) : FY P ops w0 o undef a := by
  rw [tmps_eval] at hb
  refine .inr ⟨?_, rfl⟩
  cases hq : a.tmps[d]? with
  | none => rw [hq] at hb; cases hb
  | some x =>
    rw [hq] at hb
    have hx : x = .bool !want := hb
    cases want <;> simp [Region.wanted, yielded, hg, hj, hd, hq, hx]
theorem FY_un (hg : o.guard = some (j, want)) (hj : ops[j]? = some oj) (hd : oj.dst = some d) (hb : a.eval (.tmp d) = undef) : FY P ops w0 o undef a := by
  rw [tmps_eval] at hb
  refine .inr ⟨?_, rfl⟩
  cases hq : a.tmps[d]? with
  | none => simp [Region.wanted, yielded, hg, hj, hd, hq]
  | some x =>
    rw [hq] at hb
    have hx : x = undef := hb
    simp [Region.wanted, yielded, hg, hj, hd, hq, hx, undef]
theorem FY_in (hg : o.guard = none) (h : ∀ w, Frm M0 w0 w → FUpon P w v ((execOp a.eval o).run P w)) : FY P ops w0 o v a := .inl ⟨by simp [Region.wanted, hg], h⟩
end
end Go.Proofs.YtmacpdddimcmgaaGreatDoor
namespace Go.Proofs.YtmacpdddimcmgaaGreatDoor
set_option linter.unusedVariables false
set_option linter.unusedSimpArgs false
set_option maxRecDepth 20000
open Go.RowKit
def Sp.conds (p : Sp) : List Bool :=
  [btw p.s0 1 1048576, btw p.s1 1 16, btw p.s2 0 (IntKind.i64.wrap (16 - p.s1)), btw p.s3 0 p.s1 && (decide (0 < p.s3) || decide (0 < p.s2)), btw p.s4 0 2 && ((p.s4 != 2) || decide (p.s1 ≤ p.s2)), p.stepB 0, p.stepB 1, p.stepB 2, p.stepB 3,
   btw p.s9 1 1048576, btw p.s10 0 1048576, btw p.s11 1 1048576]
def chkF : List Bool → Int → Int
  | [], _ => 0
  | b :: l, i => bif b then chkF l (i + 1) else i + 1
def Sp.chkN (p : Sp) : Int := chkF p.conds 0
def Sp.chkE (p : Sp) : Int := bif p.conds.all id then 0 else 11
set_option maxRecDepth 100000 in
set_option maxHeartbeats 8000000 in
attribute [local go_sem] FUpon in
theorem check_calls (p : Sp) (w : World) : Calls Tryz.prog 123 #[p.val] w fun x w' => x = .returned (.tuple #[.int .i64 p.chkN, .int .i64 p.chkE]) ∧ Frm M0 w w' := by
  obtain ⟨k0, Kk0⟩ : ∃ b, Hid (btw p.s0 1 1048576 = b) := ⟨_, rfl⟩
  obtain ⟨k1, Kk1⟩ : ∃ b, Hid (btw p.s1 1 16 = b) := ⟨_, rfl⟩
  obtain ⟨k2, Kk2⟩ : ∃ b, Hid (btw p.s2 0 (IntKind.i64.wrap (16 - p.s1)) = b) := ⟨_, rfl⟩
  obtain ⟨b3, Kb3⟩ : ∃ b, Hid (btw p.s3 0 p.s1 = b) := ⟨_, rfl⟩
  obtain ⟨g3, Kg3⟩ : ∃ b, Hid (decide (0 < p.s3) = b) := ⟨_, rfl⟩
  obtain ⟨h3, Kh3⟩ : ∃ b, Hid (decide (0 < p.s2) = b) := ⟨_, rfl⟩
  obtain ⟨k3, Kk3⟩ : ∃ b, Hid ((b3 && (g3 || h3)) = b) := ⟨_, rfl⟩
  obtain ⟨b4, Kb4⟩ : ∃ b, Hid (btw p.s4 0 2 = b) := ⟨_, rfl⟩
  obtain ⟨g4, Kg4⟩ : ∃ b, Hid ((p.s4 != 2) = b) := ⟨_, rfl⟩
  obtain ⟨h4, Kh4⟩ : ∃ b, Hid (decide (p.s1 ≤ p.s2) = b) := ⟨_, rfl⟩
  obtain ⟨k4, Kk4⟩ : ∃ b, Hid ((b4 && (g4 || h4)) = b) := ⟨_, rfl⟩
  obtain ⟨k5, Kk5⟩ : ∃ b, Hid (p.stepB 0 = b) := ⟨_, rfl⟩
  obtain ⟨k6, Kk6⟩ : ∃ b, Hid (p.stepB 1 = b) := ⟨_, rfl⟩
  obtain ⟨k7, Kk7⟩ : ∃ b, Hid (p.stepB 2 = b) := ⟨_, rfl⟩
  obtain ⟨k8, Kk8⟩ : ∃ b, Hid (p.stepB 3 = b) := ⟨_, rfl⟩
  obtain ⟨k9, Kk9⟩ : ∃ b, Hid (btw p.s9 1 1048576 = b) := ⟨_, rfl⟩
  obtain ⟨k10, Kk10⟩ : ∃ b, Hid (btw p.s10 0 1048576 = b) := ⟨_, rfl⟩
  obtain ⟨k11, Kk11⟩ : ∃ b, Hid (btw p.s11 1 1048576 = b) := ⟨_, rfl⟩
  have HCO : Hid (p.conds = [k0, k1, k2, k3, k4, k5, k6, k7, k8, k9, k10, k11]) := hid (by unfold Sp.conds; rw [Kk0.out, Kk1.out, Kk2.out, Kb3.out, Kg3.out, Kh3.out, Kk3.out, Kb4.out, Kg4.out, Kh4.out, Kk4.out, Kk5.out, Kk6.out, Kk7.out, Kk8.out, Kk9.out, Kk10.out, Kk11.out])
  have HV : Hid (p.val = .agg #[.int .i64 p.s0, .int .i64 p.s1, .int .i64 p.s2, .int .i64 p.s3, .int .i64 p.s4, .int .i64 p.s5, .int .i64 p.s6, .int .i64 p.s7, .int .i64 p.s8, .int .i64 p.s9, .int .i64 p.s10, .int .i64 p.s11]) := rfl
  rw [HV.out]
  go_enter Tryz.func123, Tryz.ntmps123
  go_wp2_with fail
  have HH := hid (heap_alloc_last w (.cells #[.int .i64 p.s0, .int .i64 p.s1, .int .i64 p.s2, .int .i64 p.s3, .int .i64 p.s4, .int .i64 p.s5, .int .i64 p.s6, .int .i64 p.s7, .int .i64 p.s8, .int .i64 p.s9, .int .i64 p.s10, .int .i64 p.s11] 30))
  have HF := hid ((Frm.refl M0 w).alloc (.cells #[.int .i64 p.s0, .int .i64 p.s1, .int .i64 p.s2, .int .i64 p.s3, .int .i64 p.s4, .int .i64 p.s5, .int .i64 p.s6, .int .i64 p.s7, .int .i64 p.s8, .int .i64 p.s9, .int .i64 p.s10, .int .i64 p.s11] 30))
  obtain ⟨b, hb⟩ : ∃ b, b = w.heap.size := ⟨_, rfl⟩
  obtain ⟨w1, hw1⟩ : ∃ x, x = w.alloc (.cells #[.int .i64 p.s0, .int .i64 p.s1, .int .i64 p.s2, .int .i64 p.s3, .int .i64 p.s4, .int .i64 p.s5, .int .i64 p.s6, .int .i64 p.s7, .int .i64 p.s8, .int .i64 p.s9, .int .i64 p.s10, .int .i64 p.s11] 30) := ⟨_, rfl⟩
  rw [← hw1, ← hb] at HH
  rw [← hw1] at HF
  rw [← hw1, ← hb]
  clear hw1
  have HB := hid hb; clear hb
  have HL : Hid (∀ wx, Frm M0 w1 wx → wx.heap[b]? = some (.cells #[.int .i64 p.s0, .int .i64 p.s1, .int .i64 p.s2, .int .i64 p.s3, .int .i64 p.s4, .int .i64 p.s5, .int .i64 p.s6, .int .i64 p.s7, .int .i64 p.s8, .int .i64 p.s9, .int .i64 p.s10, .int .i64 p.s11] 30 (0, 0))) := hid (fun wx hx => hx.heap HH.out (fun h => h))
  refine wp_region_Fl 60 61 [0, 1, 2, 3, 4, 5, 6, 7, 8, 9, 10, 11, 12, 13, 14, 15, 16, 17, 18, 19, 20, 21, 22, 23, 24, 25, 26, 27, 28, 29, 30, 31, 32, 33, 34, 35, 36, 37, 38, 39, 40, 41, 42, 43, 44, 45, 46, 47, 48, 49, 50, 51, 52, 53, 54, 55, 56, 57, 58, 59] ⟨some 4, .alloc 213, 0, "spec.go:64", #[], none⟩ (.cells (Array.replicate 12 (.bool false)) 213) (by kernel_rfl) (by kernel_rfl) rfl rfl rfl (fun a w => rfl) ?_
  intro ops QT HO HQ
  obtain ⟨ho0, HO⟩ := HO
  refine wpF_cons _ (ptr b) ho0.out ?_ ?_
  · refine FY_in rfl fun wx hx => ?_
    go_simp
  simp only [Act.put, List.setIfInBounds_toArray, List.set_cons_zero, List.set_cons_succ]
  obtain ⟨ho1, HO⟩ := HO
  refine wpF_cons _ (.int .i64 p.s0) ho1.out ?_ ?_
  · refine FY_in rfl fun wx hx => ?_
    have hc : wx.cell? ⟨b, 0, none⟩ = some (.int .i64 p.s0) := cell_at (HL.out wx hx) 0
    go_simp
  simp only [Act.put, List.setIfInBounds_toArray, List.set_cons_zero, List.set_cons_succ]
  obtain ⟨ho2, HO⟩ := HO
  refine wpF_cons _ (.bool k0) ho2.out ?_ ?_
  · refine FY_in rfl fun wx hx => ?_
    go_simp
    exact (sbtw_calls _ _ _ _).mono fun e w' h => ⟨by rw [h.1, Kk0.out], by rw [h.2]; exact Frm.refl _ _⟩
  simp only [Act.put, List.setIfInBounds_toArray, List.set_cons_zero, List.set_cons_succ]
  obtain ⟨ho3, HO⟩ := HO
  refine wpF_cons _ (.pointer (some ⟨b, 1, none⟩)) ho3.out ?_ ?_
  · refine FY_in rfl fun wx hx => ?_
    go_simp
  simp only [Act.put, List.setIfInBounds_toArray, List.set_cons_zero, List.set_cons_succ]
  obtain ⟨ho4, HO⟩ := HO
  refine wpF_cons _ (.int .i64 p.s1) ho4.out ?_ ?_
  · refine FY_in rfl fun wx hx => ?_
    have hc : wx.cell? ⟨b, 1, none⟩ = some (.int .i64 p.s1) := cell_at (HL.out wx hx) 1
    go_simp
  simp only [Act.put, List.setIfInBounds_toArray, List.set_cons_zero, List.set_cons_succ]
  obtain ⟨ho5, HO⟩ := HO
  refine wpF_cons _ (.bool k1) ho5.out ?_ ?_
  · refine FY_in rfl fun wx hx => ?_
    go_simp
    exact (sbtw_calls _ _ _ _).mono fun e w' h => ⟨by rw [h.1, Kk1.out], by rw [h.2]; exact Frm.refl _ _⟩
  simp only [Act.put, List.setIfInBounds_toArray, List.set_cons_zero, List.set_cons_succ]
  obtain ⟨ho6, HO⟩ := HO
  refine wpF_cons _ (.pointer (some ⟨b, 2, none⟩)) ho6.out ?_ ?_
  · refine FY_in rfl fun wx hx => ?_
    go_simp
  simp only [Act.put, List.setIfInBounds_toArray, List.set_cons_zero, List.set_cons_succ]
  obtain ⟨ho7, HO⟩ := HO
  refine wpF_cons _ (.int .i64 p.s2) ho7.out ?_ ?_
  · refine FY_in rfl fun wx hx => ?_
    have hc : wx.cell? ⟨b, 2, none⟩ = some (.int .i64 p.s2) := cell_at (HL.out wx hx) 2
    go_simp
  simp only [Act.put, List.setIfInBounds_toArray, List.set_cons_zero, List.set_cons_succ]
  obtain ⟨ho8, HO⟩ := HO
  refine wpF_cons _ (.pointer (some ⟨b, 1, none⟩)) ho8.out ?_ ?_
  · refine FY_in rfl fun wx hx => ?_
    go_simp
  simp only [Act.put, List.setIfInBounds_toArray, List.set_cons_zero, List.set_cons_succ]
  obtain ⟨ho9, HO⟩ := HO
  refine wpF_cons _ (.int .i64 p.s1) ho9.out ?_ ?_
  · refine FY_in rfl fun wx hx => ?_
    have hc : wx.cell? ⟨b, 1, none⟩ = some (.int .i64 p.s1) := cell_at (HL.out wx hx) 1
    go_simp
  simp only [Act.put, List.setIfInBounds_toArray, List.set_cons_zero, List.set_cons_succ]
  obtain ⟨ho10, HO⟩ := HO
  refine wpF_cons _ (.int .i64 (IntKind.i64.wrap (16 - p.s1))) ho10.out ?_ ?_
  · refine FY_in rfl fun wx hx => ?_
    go_simp
  simp only [Act.put, List.setIfInBounds_toArray, List.set_cons_zero, List.set_cons_succ]
  obtain ⟨ho11, HO⟩ := HO
  refine wpF_cons _ (.bool k2) ho11.out ?_ ?_
  · refine FY_in rfl fun wx hx => ?_
    go_simp
    exact (sbtw_calls _ _ _ _).mono fun e w' h => ⟨by rw [h.1, Kk2.out], by rw [h.2]; exact Frm.refl _ _⟩
  simp only [Act.put, List.setIfInBounds_toArray, List.set_cons_zero, List.set_cons_succ]
  obtain ⟨ho12, HO⟩ := HO
  refine wpF_cons _ (.pointer (some ⟨b, 3, none⟩)) ho12.out ?_ ?_
  · refine FY_in rfl fun wx hx => ?_
    go_simp
  simp only [Act.put, List.setIfInBounds_toArray, List.set_cons_zero, List.set_cons_succ]
  obtain ⟨ho13, HO⟩ := HO
  refine wpF_cons _ (.int .i64 p.s3) ho13.out ?_ ?_
  · refine FY_in rfl fun wx hx => ?_
    have hc : wx.cell? ⟨b, 3, none⟩ = some (.int .i64 p.s3) := cell_at (HL.out wx hx) 3
    go_simp
  simp only [Act.put, List.setIfInBounds_toArray, List.set_cons_zero, List.set_cons_succ]
  obtain ⟨ho14, HO⟩ := HO
  refine wpF_cons _ (.pointer (some ⟨b, 1, none⟩)) ho14.out ?_ ?_
  · refine FY_in rfl fun wx hx => ?_
    go_simp
  simp only [Act.put, List.setIfInBounds_toArray, List.set_cons_zero, List.set_cons_succ]
  obtain ⟨ho15, HO⟩ := HO
  refine wpF_cons _ (.int .i64 p.s1) ho15.out ?_ ?_
  · refine FY_in rfl fun wx hx => ?_
    have hc : wx.cell? ⟨b, 1, none⟩ = some (.int .i64 p.s1) := cell_at (HL.out wx hx) 1
    go_simp
  simp only [Act.put, List.setIfInBounds_toArray, List.set_cons_zero, List.set_cons_succ]
  obtain ⟨ho16, HO⟩ := HO
  refine wpF_cons _ (.bool b3) ho16.out ?_ ?_
  · refine FY_in rfl fun wx hx => ?_
    go_simp
    exact (sbtw_calls _ _ _ _).mono fun e w' h => ⟨by rw [h.1, Kb3.out], by rw [h.2]; exact Frm.refl _ _⟩
  simp only [Act.put, List.setIfInBounds_toArray, List.set_cons_zero, List.set_cons_succ]
  obtain ⟨ho17, HO⟩ := HO
  refine wpF_cons _ (.bool b3) ho17.out ?_ ?_
  · refine FY_in rfl fun wx hx => ?_
    go_simp
  simp only [Act.put, List.setIfInBounds_toArray, List.set_cons_zero, List.set_cons_succ]
  obtain ⟨ho18, HO⟩ := HO
  refine wpF_cons _ (bif b3 then (.pointer (some ⟨b, 3, none⟩)) else undef) ho18.out ?_ ?_
  · cases b3
    · exact FY_no (d := 24) rfl ho17.out (by rfl) (by kernel_rfl)
    · refine FY_yes (d := 24) rfl ho17.out (by rfl) (by kernel_rfl) fun wx hx => ?_
      go_simp
  simp only [Act.put, List.setIfInBounds_toArray, List.set_cons_zero, List.set_cons_succ]
  obtain ⟨ho19, HO⟩ := HO
  refine wpF_cons _ (bif b3 then (.int .i64 p.s3) else undef) ho19.out ?_ ?_
  · cases b3
    · exact FY_no (d := 24) rfl ho17.out (by rfl) (by kernel_rfl)
    · refine FY_yes (d := 24) rfl ho17.out (by rfl) (by kernel_rfl) fun wx hx => ?_
      have hc : wx.cell? ⟨b, 3, none⟩ = some (.int .i64 p.s3) := cell_at (HL.out wx hx) 3
      go_simp
  simp only [Act.put, List.setIfInBounds_toArray, List.set_cons_zero, List.set_cons_succ]
  obtain ⟨ho20, HO⟩ := HO
  refine wpF_cons _ (bif b3 then (.bool g3) else undef) ho20.out ?_ ?_
  · cases b3
    · exact FY_no (d := 24) rfl ho17.out (by rfl) (by kernel_rfl)
    · refine FY_yes (d := 24) rfl ho17.out (by rfl) (by kernel_rfl) fun wx hx => ?_
      have hk := Kg3.out
      go_simp
  simp only [Act.put, List.setIfInBounds_toArray, List.set_cons_zero, List.set_cons_succ]
  obtain ⟨ho21, HO⟩ := HO
  refine wpF_cons _ (bif b3 then (.bool g3) else undef) ho21.out ?_ ?_
  · cases b3
    · exact FY_no (d := 24) rfl ho17.out (by rfl) (by kernel_rfl)
    · refine FY_yes (d := 24) rfl ho17.out (by rfl) (by kernel_rfl) fun wx hx => ?_
      go_simp
  simp only [Act.put, List.setIfInBounds_toArray, List.set_cons_zero, List.set_cons_succ]
  obtain ⟨ho22, HO⟩ := HO
  refine wpF_cons _ (bif b3 then (bif g3 then undef else (.pointer (some ⟨b, 2, none⟩))) else undef) ho22.out ?_ ?_
  · cases b3
    · exact FY_un (d := 28) rfl ho21.out (by rfl) (by kernel_rfl)
    · cases g3
      · refine FY_yes (d := 28) rfl ho21.out (by rfl) (by kernel_rfl) fun wx hx => ?_
        go_simp
      · exact FY_no (d := 28) rfl ho21.out (by rfl) (by kernel_rfl)
  simp only [Act.put, List.setIfInBounds_toArray, List.set_cons_zero, List.set_cons_succ]
  obtain ⟨ho23, HO⟩ := HO
  refine wpF_cons _ (bif b3 then (bif g3 then undef else (.int .i64 p.s2)) else undef) ho23.out ?_ ?_
  · cases b3
    · exact FY_un (d := 28) rfl ho21.out (by rfl) (by kernel_rfl)
    · cases g3
      · refine FY_yes (d := 28) rfl ho21.out (by rfl) (by kernel_rfl) fun wx hx => ?_
        have hc : wx.cell? ⟨b, 2, none⟩ = some (.int .i64 p.s2) := cell_at (HL.out wx hx) 2
        go_simp
      · exact FY_no (d := 28) rfl ho21.out (by rfl) (by kernel_rfl)
  simp only [Act.put, List.setIfInBounds_toArray, List.set_cons_zero, List.set_cons_succ]
  obtain ⟨ho24, HO⟩ := HO
  refine wpF_cons _ (bif b3 then (bif g3 then undef else (.bool h3)) else undef) ho24.out ?_ ?_
  · cases b3
    · exact FY_un (d := 28) rfl ho21.out (by rfl) (by kernel_rfl)
    · cases g3
      · refine FY_yes (d := 28) rfl ho21.out (by rfl) (by kernel_rfl) fun wx hx => ?_
        have hk := Kh3.out
        go_simp
      · exact FY_no (d := 28) rfl ho21.out (by rfl) (by kernel_rfl)
  simp only [Act.put, List.setIfInBounds_toArray, List.set_cons_zero, List.set_cons_succ]
  obtain ⟨ho25, HO⟩ := HO
  refine wpF_cons _ (bif b3 then (.bool (g3 || h3)) else undef) ho25.out ?_ ?_
  · cases b3
    · exact FY_no (d := 24) rfl ho17.out (by rfl) (by kernel_rfl)
    · refine FY_yes (d := 24) rfl ho17.out (by rfl) (by kernel_rfl) fun wx hx => ?_
      cases g3 <;> go_simp
  simp only [Act.put, List.setIfInBounds_toArray, List.set_cons_zero, List.set_cons_succ]
  obtain ⟨ho26, HO⟩ := HO
  refine wpF_cons _ (.bool k3) ho26.out ?_ ?_
  · refine FY_in rfl fun wx hx => ?_
    have hk := Kk3.out
    cases b3 <;> go_simp
    exact hk.symm
  simp only [Act.put, List.setIfInBounds_toArray, List.set_cons_zero, List.set_cons_succ]
  obtain ⟨ho27, HO⟩ := HO
  refine wpF_cons _ (.pointer (some ⟨b, 4, none⟩)) ho27.out ?_ ?_
  · refine FY_in rfl fun wx hx => ?_
    go_simp
  simp only [Act.put, List.setIfInBounds_toArray, List.set_cons_zero, List.set_cons_succ]
  obtain ⟨ho28, HO⟩ := HO
  refine wpF_cons _ (.int .i64 p.s4) ho28.out ?_ ?_
  · refine FY_in rfl fun wx hx => ?_
    have hc : wx.cell? ⟨b, 4, none⟩ = some (.int .i64 p.s4) := cell_at (HL.out wx hx) 4
    go_simp
  simp only [Act.put, List.setIfInBounds_toArray, List.set_cons_zero, List.set_cons_succ]
  obtain ⟨ho29, HO⟩ := HO
  refine wpF_cons _ (.bool b4) ho29.out ?_ ?_
  · refine FY_in rfl fun wx hx => ?_
    go_simp
    exact (sbtw_calls _ _ _ _).mono fun e w' h => ⟨by rw [h.1, Kb4.out], by rw [h.2]; exact Frm.refl _ _⟩
  simp only [Act.put, List.setIfInBounds_toArray, List.set_cons_zero, List.set_cons_succ]
  obtain ⟨ho30, HO⟩ := HO
  refine wpF_cons _ (.bool b4) ho30.out ?_ ?_
  · refine FY_in rfl fun wx hx => ?_
    go_simp
  simp only [Act.put, List.setIfInBounds_toArray, List.set_cons_zero, List.set_cons_succ]
  obtain ⟨ho31, HO⟩ := HO
  refine wpF_cons _ (bif b4 then (.pointer (some ⟨b, 4, none⟩)) else undef) ho31.out ?_ ?_
  · cases b4
    · exact FY_no (d := 37) rfl ho30.out (by rfl) (by kernel_rfl)
    · refine FY_yes (d := 37) rfl ho30.out (by rfl) (by kernel_rfl) fun wx hx => ?_
      go_simp
  simp only [Act.put, List.setIfInBounds_toArray, List.set_cons_zero, List.set_cons_succ]
  obtain ⟨ho32, HO⟩ := HO
  refine wpF_cons _ (bif b4 then (.int .i64 p.s4) else undef) ho32.out ?_ ?_
  · cases b4
    · exact FY_no (d := 37) rfl ho30.out (by rfl) (by kernel_rfl)
    · refine FY_yes (d := 37) rfl ho30.out (by rfl) (by kernel_rfl) fun wx hx => ?_
      have hc : wx.cell? ⟨b, 4, none⟩ = some (.int .i64 p.s4) := cell_at (HL.out wx hx) 4
      go_simp
  simp only [Act.put, List.setIfInBounds_toArray, List.set_cons_zero, List.set_cons_succ]
  obtain ⟨ho33, HO⟩ := HO
  refine wpF_cons _ (bif b4 then (.bool g4) else undef) ho33.out ?_ ?_
  · cases b4
    · exact FY_no (d := 37) rfl ho30.out (by rfl) (by kernel_rfl)
    · refine FY_yes (d := 37) rfl ho30.out (by rfl) (by kernel_rfl) fun wx hx => ?_
      have hk := Kg4.out
      go_simp
  simp only [Act.put, List.setIfInBounds_toArray, List.set_cons_zero, List.set_cons_succ]
  obtain ⟨ho34, HO⟩ := HO
  refine wpF_cons _ (bif b4 then (.bool g4) else undef) ho34.out ?_ ?_
  · cases b4
    · exact FY_no (d := 37) rfl ho30.out (by rfl) (by kernel_rfl)
    · refine FY_yes (d := 37) rfl ho30.out (by rfl) (by kernel_rfl) fun wx hx => ?_
      go_simp
  simp only [Act.put, List.setIfInBounds_toArray, List.set_cons_zero, List.set_cons_succ]
  obtain ⟨ho35, HO⟩ := HO
  refine wpF_cons _ (bif b4 then (bif g4 then undef else (.pointer (some ⟨b, 2, none⟩))) else undef) ho35.out ?_ ?_
  · cases b4
    · exact FY_un (d := 41) rfl ho34.out (by rfl) (by kernel_rfl)
    · cases g4
      · refine FY_yes (d := 41) rfl ho34.out (by rfl) (by kernel_rfl) fun wx hx => ?_
        go_simp
      · exact FY_no (d := 41) rfl ho34.out (by rfl) (by kernel_rfl)
  simp only [Act.put, List.setIfInBounds_toArray, List.set_cons_zero, List.set_cons_succ]
  obtain ⟨ho36, HO⟩ := HO
  refine wpF_cons _ (bif b4 then (bif g4 then undef else (.int .i64 p.s2)) else undef) ho36.out ?_ ?_
  · cases b4
    · exact FY_un (d := 41) rfl ho34.out (by rfl) (by kernel_rfl)
    · cases g4
      · refine FY_yes (d := 41) rfl ho34.out (by rfl) (by kernel_rfl) fun wx hx => ?_
        have hc : wx.cell? ⟨b, 2, none⟩ = some (.int .i64 p.s2) := cell_at (HL.out wx hx) 2
        go_simp
      · exact FY_no (d := 41) rfl ho34.out (by rfl) (by kernel_rfl)
  simp only [Act.put, List.setIfInBounds_toArray, List.set_cons_zero, List.set_cons_succ]
  obtain ⟨ho37, HO⟩ := HO
  refine wpF_cons _ (bif b4 then (bif g4 then undef else (.pointer (some ⟨b, 1, none⟩))) else undef) ho37.out ?_ ?_
  · cases b4
    · exact FY_un (d := 41) rfl ho34.out (by rfl) (by kernel_rfl)
    · cases g4
      · refine FY_yes (d := 41) rfl ho34.out (by rfl) (by kernel_rfl) fun wx hx => ?_
        go_simp
      · exact FY_no (d := 41) rfl ho34.out (by rfl) (by kernel_rfl)
  simp only [Act.put, List.setIfInBounds_toArray, List.set_cons_zero, List.set_cons_succ]
  obtain ⟨ho38, HO⟩ := HO
  refine wpF_cons _ (bif b4 then (bif g4 then undef else (.int .i64 p.s1)) else undef) ho38.out ?_ ?_
  · cases b4
    · exact FY_un (d := 41) rfl ho34.out (by rfl) (by kernel_rfl)
    · cases g4
      · refine FY_yes (d := 41) rfl ho34.out (by rfl) (by kernel_rfl) fun wx hx => ?_
        have hc : wx.cell? ⟨b, 1, none⟩ = some (.int .i64 p.s1) := cell_at (HL.out wx hx) 1
        go_simp
      · exact FY_no (d := 41) rfl ho34.out (by rfl) (by kernel_rfl)
  simp only [Act.put, List.setIfInBounds_toArray, List.set_cons_zero, List.set_cons_succ]
  obtain ⟨ho39, HO⟩ := HO
  refine wpF_cons _ (bif b4 then (bif g4 then undef else (.bool h4)) else undef) ho39.out ?_ ?_
  · cases b4
    · exact FY_un (d := 41) rfl ho34.out (by rfl) (by kernel_rfl)
    · cases g4
      · refine FY_yes (d := 41) rfl ho34.out (by rfl) (by kernel_rfl) fun wx hx => ?_
        have hk := Kh4.out
        go_simp
      · exact FY_no (d := 41) rfl ho34.out (by rfl) (by kernel_rfl)
  simp only [Act.put, List.setIfInBounds_toArray, List.set_cons_zero, List.set_cons_succ]
  obtain ⟨ho40, HO⟩ := HO
  refine wpF_cons _ (bif b4 then (.bool (g4 || h4)) else undef) ho40.out ?_ ?_
  · cases b4
    · exact FY_no (d := 37) rfl ho30.out (by rfl) (by kernel_rfl)
    · refine FY_yes (d := 37) rfl ho30.out (by rfl) (by kernel_rfl) fun wx hx => ?_
      cases g4 <;> go_simp
  simp only [Act.put, List.setIfInBounds_toArray, List.set_cons_zero, List.set_cons_succ]
  obtain ⟨ho41, HO⟩ := HO
  refine wpF_cons _ (.bool k4) ho41.out ?_ ?_
  · refine FY_in rfl fun wx hx => ?_
    have hk := Kk4.out
    cases b4 <;> go_simp
    exact hk.symm
  simp only [Act.put, List.setIfInBounds_toArray, List.set_cons_zero, List.set_cons_succ]
  obtain ⟨ho42, HO⟩ := HO
  refine wpF_cons _ (.agg #[.int .i64 p.s0, .int .i64 p.s1, .int .i64 p.s2, .int .i64 p.s3, .int .i64 p.s4, .int .i64 p.s5, .int .i64 p.s6, .int .i64 p.s7, .int .i64 p.s8, .int .i64 p.s9, .int .i64 p.s10, .int .i64 p.s11]) ho42.out ?_ ?_
  · refine FY_in rfl fun wx hx => ?_
    exact fu_load_row rfl 30 (.tmp 1) rfl b (by kernel_rfl) _ _ _ _ (HL.out wx hx) Tryz.underlying30 rfl (by kernel_rfl)
  simp only [Act.put, List.setIfInBounds_toArray, List.set_cons_zero, List.set_cons_succ]
  obtain ⟨ho43, HO⟩ := HO
  refine wpF_cons _ (.bool k5) ho43.out ?_ ?_
  · refine FY_in rfl fun wx hx => ?_
    go_simp
    rw [← HV.out]
    exact (step0_calls p _).mono fun e w' h => ⟨by rw [h.1, Kk5.out], h.2⟩
  simp only [Act.put, List.setIfInBounds_toArray, List.set_cons_zero, List.set_cons_succ]
  obtain ⟨ho44, HO⟩ := HO
  refine wpF_cons _ (.agg #[.int .i64 p.s0, .int .i64 p.s1, .int .i64 p.s2, .int .i64 p.s3, .int .i64 p.s4, .int .i64 p.s5, .int .i64 p.s6, .int .i64 p.s7, .int .i64 p.s8, .int .i64 p.s9, .int .i64 p.s10, .int .i64 p.s11]) ho44.out ?_ ?_
  · refine FY_in rfl fun wx hx => ?_
    exact fu_load_row rfl 30 (.tmp 1) rfl b (by kernel_rfl) _ _ _ _ (HL.out wx hx) Tryz.underlying30 rfl (by kernel_rfl)
  simp only [Act.put, List.setIfInBounds_toArray, List.set_cons_zero, List.set_cons_succ]
  obtain ⟨ho45, HO⟩ := HO
  refine wpF_cons _ (.bool k6) ho45.out ?_ ?_
  · refine FY_in rfl fun wx hx => ?_
    go_simp
    rw [← HV.out]
    exact (step1_calls p _).mono fun e w' h => ⟨by rw [h.1, Kk6.out], h.2⟩
  simp only [Act.put, List.setIfInBounds_toArray, List.set_cons_zero, List.set_cons_succ]
  obtain ⟨ho46, HO⟩ := HO
  refine wpF_cons _ (.agg #[.int .i64 p.s0, .int .i64 p.s1, .int .i64 p.s2, .int .i64 p.s3, .int .i64 p.s4, .int .i64 p.s5, .int .i64 p.s6, .int .i64 p.s7, .int .i64 p.s8, .int .i64 p.s9, .int .i64 p.s10, .int .i64 p.s11]) ho46.out ?_ ?_
  · refine FY_in rfl fun wx hx => ?_
    exact fu_load_row rfl 30 (.tmp 1) rfl b (by kernel_rfl) _ _ _ _ (HL.out wx hx) Tryz.underlying30 rfl (by kernel_rfl)
  simp only [Act.put, List.setIfInBounds_toArray, List.set_cons_zero, List.set_cons_succ]
  obtain ⟨ho47, HO⟩ := HO
  refine wpF_cons _ (.bool k7) ho47.out ?_ ?_
  · refine FY_in rfl fun wx hx => ?_
    go_simp
    rw [← HV.out]
    exact (step2_calls p _).mono fun e w' h => ⟨by rw [h.1, Kk7.out], h.2⟩
  simp only [Act.put, List.setIfInBounds_toArray, List.set_cons_zero, List.set_cons_succ]
  obtain ⟨ho48, HO⟩ := HO
  refine wpF_cons _ (.agg #[.int .i64 p.s0, .int .i64 p.s1, .int .i64 p.s2, .int .i64 p.s3, .int .i64 p.s4, .int .i64 p.s5, .int .i64 p.s6, .int .i64 p.s7, .int .i64 p.s8, .int .i64 p.s9, .int .i64 p.s10, .int .i64 p.s11]) ho48.out ?_ ?_
  · refine FY_in rfl fun wx hx => ?_
    exact fu_load_row rfl 30 (.tmp 1) rfl b (by kernel_rfl) _ _ _ _ (HL.out wx hx) Tryz.underlying30 rfl (by kernel_rfl)
  simp only [Act.put, List.setIfInBounds_toArray, List.set_cons_zero, List.set_cons_succ]
  obtain ⟨ho49, HO⟩ := HO
  refine wpF_cons _ (.bool k8) ho49.out ?_ ?_
  · refine FY_in rfl fun wx hx => ?_
    go_simp
    rw [← HV.out]
    exact (step3_calls p _).mono fun e w' h => ⟨by rw [h.1, Kk8.out], h.2⟩
  simp only [Act.put, List.setIfInBounds_toArray, List.set_cons_zero, List.set_cons_succ]
  obtain ⟨ho50, HO⟩ := HO
  refine wpF_cons _ (.pointer (some ⟨b, 9, none⟩)) ho50.out ?_ ?_
  · refine FY_in rfl fun wx hx => ?_
    go_simp
  simp only [Act.put, List.setIfInBounds_toArray, List.set_cons_zero, List.set_cons_succ]
  obtain ⟨ho51, HO⟩ := HO
  refine wpF_cons _ (.int .i64 p.s9) ho51.out ?_ ?_
  · refine FY_in rfl fun wx hx => ?_
    have hc : wx.cell? ⟨b, 9, none⟩ = some (.int .i64 p.s9) := cell_at (HL.out wx hx) 9
    go_simp
  simp only [Act.put, List.setIfInBounds_toArray, List.set_cons_zero, List.set_cons_succ]
  obtain ⟨ho52, HO⟩ := HO
  refine wpF_cons _ (.bool k9) ho52.out ?_ ?_
  · refine FY_in rfl fun wx hx => ?_
    go_simp
    exact (sbtw_calls _ _ _ _).mono fun e w' h => ⟨by rw [h.1, Kk9.out], by rw [h.2]; exact Frm.refl _ _⟩
  simp only [Act.put, List.setIfInBounds_toArray, List.set_cons_zero, List.set_cons_succ]
  obtain ⟨ho53, HO⟩ := HO
  refine wpF_cons _ (.pointer (some ⟨b, 10, none⟩)) ho53.out ?_ ?_
  · refine FY_in rfl fun wx hx => ?_
    go_simp
  simp only [Act.put, List.setIfInBounds_toArray, List.set_cons_zero, List.set_cons_succ]
  obtain ⟨ho54, HO⟩ := HO
  refine wpF_cons _ (.int .i64 p.s10) ho54.out ?_ ?_
  · refine FY_in rfl fun wx hx => ?_
    have hc : wx.cell? ⟨b, 10, none⟩ = some (.int .i64 p.s10) := cell_at (HL.out wx hx) 10
    go_simp
  simp only [Act.put, List.setIfInBounds_toArray, List.set_cons_zero, List.set_cons_succ]
  obtain ⟨ho55, HO⟩ := HO
  refine wpF_cons _ (.bool k10) ho55.out ?_ ?_
  · refine FY_in rfl fun wx hx => ?_
    go_simp
    exact (sbtw_calls _ _ _ _).mono fun e w' h => ⟨by rw [h.1, Kk10.out], by rw [h.2]; exact Frm.refl _ _⟩
  simp only [Act.put, List.setIfInBounds_toArray, List.set_cons_zero, List.set_cons_succ]
  obtain ⟨ho56, HO⟩ := HO
  refine wpF_cons _ (.pointer (some ⟨b, 11, none⟩)) ho56.out ?_ ?_
  · refine FY_in rfl fun wx hx => ?_
    go_simp
  simp only [Act.put, List.setIfInBounds_toArray, List.set_cons_zero, List.set_cons_succ]
  obtain ⟨ho57, HO⟩ := HO
  refine wpF_cons _ (.int .i64 p.s11) ho57.out ?_ ?_
  · refine FY_in rfl fun wx hx => ?_
    have hc : wx.cell? ⟨b, 11, none⟩ = some (.int .i64 p.s11) := cell_at (HL.out wx hx) 11
    go_simp
  simp only [Act.put, List.setIfInBounds_toArray, List.set_cons_zero, List.set_cons_succ]
  obtain ⟨ho58, HO⟩ := HO
  refine wpF_cons _ (.bool k11) ho58.out ?_ ?_
  · refine FY_in rfl fun wx hx => ?_
    go_simp
    exact (sbtw_calls _ _ _ _).mono fun e w' h => ⟨by rw [h.1, Kk11.out], by rw [h.2]; exact Frm.refl _ _⟩
  simp only [Act.put, List.setIfInBounds_toArray, List.set_cons_zero, List.set_cons_succ]
  obtain ⟨ho59, HO⟩ := HO
  refine wpF_cons _ (.agg #[.bool k0, .bool k1, .bool k2, .bool k3, .bool k4, .bool k5, .bool k6, .bool k7, .bool k8, .bool k9, .bool k10, .bool k11]) ho59.out ?_ ?_
  · refine FY_in rfl fun wx hx => ?_
    go_simp
  simp only [Act.put, List.setIfInBounds_toArray, List.set_cons_zero, List.set_cons_succ]
  refine HQ.out _ ?_
  intro bx w2 hf2 hbx hh2
  refine .inl (wp_store_row 213 (.tmp 4) (.tmp 66) rfl bx _ rfl rfl _ _ hh2 (by kernel_rfl) rfl (by simp [Value.oneCell']) ?_)
  have H2 := hid (setRow_heap w2 bx _ (#[.bool k0, .bool k1, .bool k2, .bool k3, .bool k4, .bool k5, .bool k6, .bool k7, .bool k8, .bool k9, .bool k10, .bool k11]) _ _ hh2)
  have F2 := hid ((HF.out.then0 hf2).setRow bx (#[.bool k0, .bool k1, .bool k2, .bool k3, .bool k4, .bool k5, .bool k6, .bool k7, .bool k8, .bool k9, .bool k10, .bool k11]) (Nat.le_trans HF.out.size hbx))
  obtain ⟨w3, hw3⟩ : ∃ x, x = w2.setRow bx (#[.bool k0, .bool k1, .bool k2, .bool k3, .bool k4, .bool k5, .bool k6, .bool k7, .bool k8, .bool k9, .bool k10, .bool k11]) := ⟨_, rfl⟩
  rw [← hw3] at H2 F2
  rw [← hw3]
  clear hw3 hh2 hbx hf2 HL HH HF HB
  go_wp2_with (refine wpList_load_row rfl 213 (.tmp 4) (by with_reducible rfl) bx rfl _ _ _ _ H2.out Tryz.underlying213 rfl (by kernel_rfl) ?_)
  refine wp_loop_rounds 13 ?_
  rw [rounds_succ]
  cases k0
  · go_wp2_with (refine wpList_index rfl 213 4 (.tmp 67) (.tmp 68) (by with_reducible rfl) Tryz.underlying213 Tryz.underlying4 rfl (by kernel_rfl) _ rfl .i64 0 rfl (by decide) (.bool false) rfl ?_)
    go_ret2
    exact ⟨by rw [Sp.chkN, Sp.chkE, HCO.out]; rfl, F2.out⟩
  go_wp2_with (refine wpList_index rfl 213 4 (.tmp 67) (.tmp 68) (by with_reducible rfl) Tryz.underlying213 Tryz.underlying4 rfl (by kernel_rfl) _ rfl .i64 0 rfl (by decide) (.bool true) rfl ?_)
  rw [rounds_succ]
  cases k1
  · go_wp2_with (refine wpList_index rfl 213 4 (.tmp 67) (.tmp 68) (by with_reducible rfl) Tryz.underlying213 Tryz.underlying4 rfl (by kernel_rfl) _ rfl .i64 1 rfl (by decide) (.bool false) rfl ?_)
    go_ret2
    exact ⟨by rw [Sp.chkN, Sp.chkE, HCO.out]; rfl, F2.out⟩
  go_wp2_with (refine wpList_index rfl 213 4 (.tmp 67) (.tmp 68) (by with_reducible rfl) Tryz.underlying213 Tryz.underlying4 rfl (by kernel_rfl) _ rfl .i64 1 rfl (by decide) (.bool true) rfl ?_)
  rw [rounds_succ]
  cases k2
  · go_wp2_with (refine wpList_index rfl 213 4 (.tmp 67) (.tmp 68) (by with_reducible rfl) Tryz.underlying213 Tryz.underlying4 rfl (by kernel_rfl) _ rfl .i64 2 rfl (by decide) (.bool false) rfl ?_)
    go_ret2
    exact ⟨by rw [Sp.chkN, Sp.chkE, HCO.out]; rfl, F2.out⟩
  go_wp2_with (refine wpList_index rfl 213 4 (.tmp 67) (.tmp 68) (by with_reducible rfl) Tryz.underlying213 Tryz.underlying4 rfl (by kernel_rfl) _ rfl .i64 2 rfl (by decide) (.bool true) rfl ?_)
  rw [rounds_succ]
  cases k3
  · go_wp2_with (refine wpList_index rfl 213 4 (.tmp 67) (.tmp 68) (by with_reducible rfl) Tryz.underlying213 Tryz.underlying4 rfl (by kernel_rfl) _ rfl .i64 3 rfl (by decide) (.bool false) rfl ?_)
    go_ret2
    exact ⟨by rw [Sp.chkN, Sp.chkE, HCO.out]; rfl, F2.out⟩
  go_wp2_with (refine wpList_index rfl 213 4 (.tmp 67) (.tmp 68) (by with_reducible rfl) Tryz.underlying213 Tryz.underlying4 rfl (by kernel_rfl) _ rfl .i64 3 rfl (by decide) (.bool true) rfl ?_)
  rw [rounds_succ]
  cases k4
  · go_wp2_with (refine wpList_index rfl 213 4 (.tmp 67) (.tmp 68) (by with_reducible rfl) Tryz.underlying213 Tryz.underlying4 rfl (by kernel_rfl) _ rfl .i64 4 rfl (by decide) (.bool false) rfl ?_)
    go_ret2
    exact ⟨by rw [Sp.chkN, Sp.chkE, HCO.out]; rfl, F2.out⟩
  go_wp2_with (refine wpList_index rfl 213 4 (.tmp 67) (.tmp 68) (by with_reducible rfl) Tryz.underlying213 Tryz.underlying4 rfl (by kernel_rfl) _ rfl .i64 4 rfl (by decide) (.bool true) rfl ?_)
  rw [rounds_succ]
  cases k5
  · go_wp2_with (refine wpList_index rfl 213 4 (.tmp 67) (.tmp 68) (by with_reducible rfl) Tryz.underlying213 Tryz.underlying4 rfl (by kernel_rfl) _ rfl .i64 5 rfl (by decide) (.bool false) rfl ?_)
    go_ret2
    exact ⟨by rw [Sp.chkN, Sp.chkE, HCO.out]; rfl, F2.out⟩
  go_wp2_with (refine wpList_index rfl 213 4 (.tmp 67) (.tmp 68) (by with_reducible rfl) Tryz.underlying213 Tryz.underlying4 rfl (by kernel_rfl) _ rfl .i64 5 rfl (by decide) (.bool true) rfl ?_)
  rw [rounds_succ]
  cases k6
  · go_wp2_with (refine wpList_index rfl 213 4 (.tmp 67) (.tmp 68) (by with_reducible rfl) Tryz.underlying213 Tryz.underlying4 rfl (by kernel_rfl) _ rfl .i64 6 rfl (by decide) (.bool false) rfl ?_)
    go_ret2
    exact ⟨by rw [Sp.chkN, Sp.chkE, HCO.out]; rfl, F2.out⟩
  go_wp2_with (refine wpList_index rfl 213 4 (.tmp 67) (.tmp 68) (by with_reducible rfl) Tryz.underlying213 Tryz.underlying4 rfl (by kernel_rfl) _ rfl .i64 6 rfl (by decide) (.bool true) rfl ?_)
  rw [rounds_succ]
  cases k7
  · go_wp2_with (refine wpList_index rfl 213 4 (.tmp 67) (.tmp 68) (by with_reducible rfl) Tryz.underlying213 Tryz.underlying4 rfl (by kernel_rfl) _ rfl .i64 7 rfl (by decide) (.bool false) rfl ?_)
    go_ret2
    exact ⟨by rw [Sp.chkN, Sp.chkE, HCO.out]; rfl, F2.out⟩
  go_wp2_with (refine wpList_index rfl 213 4 (.tmp 67) (.tmp 68) (by with_reducible rfl) Tryz.underlying213 Tryz.underlying4 rfl (by kernel_rfl) _ rfl .i64 7 rfl (by decide) (.bool true) rfl ?_)
  rw [rounds_succ]
  cases k8
  · go_wp2_with (refine wpList_index rfl 213 4 (.tmp 67) (.tmp 68) (by with_reducible rfl) Tryz.underlying213 Tryz.underlying4 rfl (by kernel_rfl) _ rfl .i64 8 rfl (by decide) (.bool false) rfl ?_)
    go_ret2
    exact ⟨by rw [Sp.chkN, Sp.chkE, HCO.out]; rfl, F2.out⟩
  go_wp2_with (refine wpList_index rfl 213 4 (.tmp 67) (.tmp 68) (by with_reducible rfl) Tryz.underlying213 Tryz.underlying4 rfl (by kernel_rfl) _ rfl .i64 8 rfl (by decide) (.bool true) rfl ?_)
  rw [rounds_succ]
  cases k9
  · go_wp2_with (refine wpList_index rfl 213 4 (.tmp 67) (.tmp 68) (by with_reducible rfl) Tryz.underlying213 Tryz.underlying4 rfl (by kernel_rfl) _ rfl .i64 9 rfl (by decide) (.bool false) rfl ?_)
    go_ret2
    exact ⟨by rw [Sp.chkN, Sp.chkE, HCO.out]; rfl, F2.out⟩
  go_wp2_with (refine wpList_index rfl 213 4 (.tmp 67) (.tmp 68) (by with_reducible rfl) Tryz.underlying213 Tryz.underlying4 rfl (by kernel_rfl) _ rfl .i64 9 rfl (by decide) (.bool true) rfl ?_)
  rw [rounds_succ]
  cases k10
  · go_wp2_with (refine wpList_index rfl 213 4 (.tmp 67) (.tmp 68) (by with_reducible rfl) Tryz.underlying213 Tryz.underlying4 rfl (by kernel_rfl) _ rfl .i64 10 rfl (by decide) (.bool false) rfl ?_)
    go_ret2
    exact ⟨by rw [Sp.chkN, Sp.chkE, HCO.out]; rfl, F2.out⟩
  go_wp2_with (refine wpList_index rfl 213 4 (.tmp 67) (.tmp 68) (by with_reducible rfl) Tryz.underlying213 Tryz.underlying4 rfl (by kernel_rfl) _ rfl .i64 10 rfl (by decide) (.bool true) rfl ?_)
  rw [rounds_succ]
  cases k11
  · go_wp2_with (refine wpList_index rfl 213 4 (.tmp 67) (.tmp 68) (by with_reducible rfl) Tryz.underlying213 Tryz.underlying4 rfl (by kernel_rfl) _ rfl .i64 11 rfl (by decide) (.bool false) rfl ?_)
    go_ret2
    exact ⟨by rw [Sp.chkN, Sp.chkE, HCO.out]; rfl, F2.out⟩
  go_wp2_with (refine wpList_index rfl 213 4 (.tmp 67) (.tmp 68) (by with_reducible rfl) Tryz.underlying213 Tryz.underlying4 rfl (by kernel_rfl) _ rfl .i64 11 rfl (by decide) (.bool true) rfl ?_)
  rw [rounds_succ]
  go_wp2_with fail
  go_ret2
  exact ⟨by rw [Sp.chkN, Sp.chkE, HCO.out]; rfl, F2.out⟩
end Go.Proofs.YtmacpdddimcmgaaGreatDoor
namespace Go.Proofs.YtmacpdddimcmgaaGreatDoor
set_option linter.unusedVariables false
set_option linter.unusedSimpArgs false
set_option maxRecDepth 20000
open Go.RowKit
def beginB (r : Rc) : Bool := decide (r.p.chkE = 0) && (btw r.n 0 1099511627776 && req ⟨0, 0, r.w, 0, r.q, r.t, Sp.zero⟩ Rc.zero)
set_option maxRecDepth 20000 in
set_option maxHeartbeats 2000000 in
theorem begin_calls (r : Rc) (t1 : Nat) (w : World) (h1 : w.cell? ⟨t1, 0, none⟩ = some (fnv 117 #[])) : Calls Tryz.prog 122 #[r.val, ptr t1] w fun x w' => x = .returned (.bool (beginB r)) ∧ Frm M0 w w' := by
  unfold Rc.val
  have H1 := hid (((Frm.refl M0 w).alloc (.cells #[.int .i64 r.k, .int .i64 r.e, .int .i64 r.w, .int .i64 r.n, .int .i64 r.q, .string r.t, .int .i64 r.p.s0, .int .i64 r.p.s1, .int .i64 r.p.s2, .int .i64 r.p.s3, .int .i64 r.p.s4, .int .i64 r.p.s5, .int .i64 r.p.s6, .int .i64 r.p.s7, .int .i64 r.p.s8, .int .i64 r.p.s9, .int .i64 r.p.s10, .int .i64 r.p.s11] 37)).cell h1 (fun h => h))
  clear h1
  have HV : Hid (r.p.val = .agg #[.int .i64 r.p.s0, .int .i64 r.p.s1, .int .i64 r.p.s2, .int .i64 r.p.s3, .int .i64 r.p.s4, .int .i64 r.p.s5, .int .i64 r.p.s6, .int .i64 r.p.s7, .int .i64 r.p.s8, .int .i64 r.p.s9, .int .i64 r.p.s10, .int .i64 r.p.s11]) := rfl
  go_enter Tryz.func122, Tryz.ntmps122
  go_wp2_with fail
  rw [← HV.out]
  refine (check_calls r.p _).mono ?_
  rintro _ w1 ⟨rfl, hf⟩
  have hh := hf.heap (heap_alloc_last w _) (fun h => h)
  have HF := hid (((Frm.refl M0 w).alloc (.cells #[.int .i64 r.k, .int .i64 r.e, .int .i64 r.w, .int .i64 r.n, .int .i64 r.q, .string r.t, .int .i64 r.p.s0, .int .i64 r.p.s1, .int .i64 r.p.s2, .int .i64 r.p.s3, .int .i64 r.p.s4, .int .i64 r.p.s5, .int .i64 r.p.s6, .int .i64 r.p.s7, .int .i64 r.p.s8, .int .i64 r.p.s9, .int .i64 r.p.s10, .int .i64 r.p.s11] 37)).then0 hf)
  have hc1 := hf.cell H1.out (fun h => h)
  obtain ⟨e, HE⟩ : ∃ e, Hid (r.p.chkE = e) := ⟨_, rfl⟩
  rw [HE.out]
  obtain ⟨n, HN⟩ : ∃ n, Hid (r.p.chkN = n) := ⟨_, rfl⟩
  rw [HN.out]
  have c2 : w1.cell? ⟨w.heap.size, 2, none⟩ = some (.int .i64 r.w) := cell_at hh 2
  have c3 : w1.cell? ⟨w.heap.size, 3, none⟩ = some (.int .i64 r.n) := cell_at hh 3
  have c4 : w1.cell? ⟨w.heap.size, 4, none⟩ = some (.int .i64 r.q) := cell_at hh 4
  have c5 : w1.cell? ⟨w.heap.size, 5, none⟩ = some (.string r.t) := cell_at hh 5
  clear hf hh H1 HV
  by_cases he : e = 0
  case neg =>
    have hb : Hid (beginB r = false) := hid (by simp [beginB, HE.out, he])
    go_wp2_with fail
    go_ret
    exact ⟨by rw [hb.out]; rfl, HF.out⟩
  have hb : Hid (beginB r = (btw r.n 0 1099511627776 && req ⟨0, 0, r.w, 0, r.q, r.t, Sp.zero⟩ Rc.zero)) := hid (by simp [beginB, HE.out, he])
  go_wp2_with fail
  refine (btw_calls _ _ _ _).mono ?_
  rintro _ _ ⟨rfl, rfl⟩
  obtain ⟨b1, HB1⟩ : ∃ b, Hid (btw r.n 0 1099511627776 = b) := ⟨_, rfl⟩
  rw [HB1.out]
  cases b1
  · go_wp2_with fail
    go_ret
    exact ⟨by rw [hb.out, HB1.out]; rfl, HF.out⟩
  go_wp2_with fail
  refine (bare_calls ⟨0, 0, r.w, 0, r.q, r.t, Sp.zero⟩ _).mono ?_
  rintro _ w2 ⟨rfl, hf2⟩
  have HF2 := hid (HF.out.then0 hf2); clear hf2
  go_wp2_with fail
  go_ret
  exact ⟨by rw [hb.out, HB1.out]; rfl, HF2.out⟩
end Go.Proofs.YtmacpdddimcmgaaGreatDoor
namespace Go.Proofs.YtmacpdddimcmgaaGreatDoor
set_option linter.unusedVariables false
set_option linter.unusedSimpArgs false
set_option maxRecDepth 20000
open Go.RowKit
def intentB (r : Rc) : Bool := unitB r && btw r.n 0 1048576
set_option maxRecDepth 20000 in
set_option maxHeartbeats 2000000 in
theorem intent_calls (r : Rc) (t1 t2 : Nat) (w : World) (h1 : w.cell? ⟨t1, 0, none⟩ = some (fnv 117 #[])) (h2 : w.cell? ⟨t2, 0, none⟩ = some (fnv 118 #[ptr t1])) :
    Calls Tryz.prog 125 #[r.val, ptr t2] w fun x w' => x = .returned (.bool (intentB r)) ∧ Frm M0 w w' := by
  unfold Rc.val
  have hk1 := ((Frm.refl M0 w).alloc (.cells #[.int .i64 r.k, .int .i64 r.e, .int .i64 r.w, .int .i64 r.n, .int .i64 r.q, .string r.t, .int .i64 r.p.s0, .int .i64 r.p.s1, .int .i64 r.p.s2, .int .i64 r.p.s3, .int .i64 r.p.s4, .int .i64 r.p.s5, .int .i64 r.p.s6, .int .i64 r.p.s7, .int .i64 r.p.s8, .int .i64 r.p.s9, .int .i64 r.p.s10, .int .i64 r.p.s11] 37)).cell h1 (fun h => h)
  have hk2 := ((Frm.refl M0 w).alloc (.cells #[.int .i64 r.k, .int .i64 r.e, .int .i64 r.w, .int .i64 r.n, .int .i64 r.q, .string r.t, .int .i64 r.p.s0, .int .i64 r.p.s1, .int .i64 r.p.s2, .int .i64 r.p.s3, .int .i64 r.p.s4, .int .i64 r.p.s5, .int .i64 r.p.s6, .int .i64 r.p.s7, .int .i64 r.p.s8, .int .i64 r.p.s9, .int .i64 r.p.s10, .int .i64 r.p.s11] 37)).cell h2 (fun h => h)
  have H1 := hid hk1; clear hk1 h1 h2
  go_enter Tryz.func125, Tryz.ntmps125
  go_wp2_with (refine wpList_load_row rfl 37 (.tmp 2) rfl w.heap.size rfl _ _ _ _ (heap_alloc_last w _) Tryz.underlying37 rfl (by kernel_rfl) ?_)
  refine (unit_calls r t1 _ H1.out).mono ?_
  rintro _ w' ⟨rfl, hf⟩
  have hb5 := hf.heap (heap_alloc_last w _) (fun h => h)
  have hn : w'.cell? ⟨w.heap.size, 3, none⟩ = some (.int .i64 r.n) := cell_at hb5 3
  have HF := hid (((Frm.refl M0 w).alloc _).then0 hf); clear hf hb5
  obtain ⟨b1, HB1⟩ : ∃ b, Hid (unitB r = b) := ⟨_, rfl⟩
  rw [HB1.out]
  cases b1
  · go_wp2_with fail
    go_ret
    exact ⟨by simp [intentB, HB1.out], HF.out⟩
  go_wp2_with fail
  refine (btw_calls _ _ _ _).mono ?_
  rintro _ _ ⟨rfl, rfl⟩
  go_wp2_with fail
  go_ret
  exact ⟨by simp [intentB, HB1.out], HF.out⟩
def ackB (r : Rc) : Bool := unitB r && decide (r.n = 0)
set_option maxRecDepth 20000 in
set_option maxHeartbeats 2000000 in
theorem ack_calls (r : Rc) (t1 t2 : Nat) (w : World) (h1 : w.cell? ⟨t1, 0, none⟩ = some (fnv 117 #[])) (h2 : w.cell? ⟨t2, 0, none⟩ = some (fnv 118 #[ptr t1])) :
    Calls Tryz.prog 126 #[r.val, ptr t2] w fun x w' => x = .returned (.bool (ackB r)) ∧ Frm M0 w w' := by
  unfold Rc.val
  have hk1 := ((Frm.refl M0 w).alloc (.cells #[.int .i64 r.k, .int .i64 r.e, .int .i64 r.w, .int .i64 r.n, .int .i64 r.q, .string r.t, .int .i64 r.p.s0, .int .i64 r.p.s1, .int .i64 r.p.s2, .int .i64 r.p.s3, .int .i64 r.p.s4, .int .i64 r.p.s5, .int .i64 r.p.s6, .int .i64 r.p.s7, .int .i64 r.p.s8, .int .i64 r.p.s9, .int .i64 r.p.s10, .int .i64 r.p.s11] 37)).cell h1 (fun h => h)
  have hk2 := ((Frm.refl M0 w).alloc (.cells #[.int .i64 r.k, .int .i64 r.e, .int .i64 r.w, .int .i64 r.n, .int .i64 r.q, .string r.t, .int .i64 r.p.s0, .int .i64 r.p.s1, .int .i64 r.p.s2, .int .i64 r.p.s3, .int .i64 r.p.s4, .int .i64 r.p.s5, .int .i64 r.p.s6, .int .i64 r.p.s7, .int .i64 r.p.s8, .int .i64 r.p.s9, .int .i64 r.p.s10, .int .i64 r.p.s11] 37)).cell h2 (fun h => h)
  have H1 := hid hk1; clear hk1 h1 h2
  go_enter Tryz.func126, Tryz.ntmps126
  go_wp2_with (refine wpList_load_row rfl 37 (.tmp 2) rfl w.heap.size rfl _ _ _ _ (heap_alloc_last w _) Tryz.underlying37 rfl (by kernel_rfl) ?_)
  refine (unit_calls r t1 _ H1.out).mono ?_
  rintro _ w' ⟨rfl, hf⟩
  have hb5 := hf.heap (heap_alloc_last w _) (fun h => h)
  have hn : w'.cell? ⟨w.heap.size, 3, none⟩ = some (.int .i64 r.n) := cell_at hb5 3
  have HF := hid (((Frm.refl M0 w).alloc _).then0 hf); clear hf hb5
  obtain ⟨b1, HB1⟩ : ∃ b, Hid (unitB r = b) := ⟨_, rfl⟩
  rw [HB1.out]
  have HA : Hid (ackB r = (b1 && decide (r.n = 0))) := hid (by unfold ackB; rw [HB1.out])
  cases b1
  · go_wp2_with fail
    go_ret
    exact ⟨by rw [HA.out]; rfl, HF.out⟩
  go_wp2_with fail
  go_ret
  exact ⟨by rw [HA.out]; simp; exact Bool.eq_iff_iff.mpr (by simp), HF.out⟩
end Go.Proofs.YtmacpdddimcmgaaGreatDoor
namespace Go.Proofs.YtmacpdddimcmgaaGreatDoor
set_option linter.unusedVariables false
set_option linter.unusedSimpArgs false
set_option maxRecDepth 20000
open Go.RowKit
def publishB (r : Rc) : Bool := btw r.t.size 1 64 && (btw r.n 1 1048576 && (req ⟨0, 0, r.w, 0, r.q, .empty, r.p⟩ Rc.zero))
set_option maxRecDepth 20000 in
set_option maxHeartbeats 2000000 in
theorem publish_calls (r : Rc) (t1 : Nat) (w : World) (h1 : w.cell? ⟨t1, 0, none⟩ = some (fnv 117 #[])) : Calls Tryz.prog 120 #[r.val, ptr t1] w fun x w' => x = .returned (.bool (publishB r)) ∧ Frm M0 w w' := by
  unfold Rc.val
  have H1 := hid (((Frm.refl M0 w).alloc (.cells #[.int .i64 r.k, .int .i64 r.e, .int .i64 r.w, .int .i64 r.n, .int .i64 r.q, .string r.t, .int .i64 r.p.s0, .int .i64 r.p.s1, .int .i64 r.p.s2, .int .i64 r.p.s3, .int .i64 r.p.s4, .int .i64 r.p.s5, .int .i64 r.p.s6, .int .i64 r.p.s7, .int .i64 r.p.s8, .int .i64 r.p.s9, .int .i64 r.p.s10, .int .i64 r.p.s11] 37)).cell h1 (fun h => h))
  have ht : t1 < w.heap.size := World.block_lt_of_cell? w ⟨t1, 0, none⟩ h1
  clear h1
  go_enter Tryz.func120, Tryz.ntmps120
  go_wp2_with fail
  refine (text_calls r _ _ (heap_alloc_last w _)).mono ?_
  rintro _ w1 ⟨rfl, hh, hf⟩
  have hc1 := hf.cell H1.out (by show ¬ t1 = _; omega)
  have hF : Frm M0 w w1 := ((Frm.refl M0 w).alloc (.cells #[.int .i64 r.k, .int .i64 r.e, .int .i64 r.w, .int .i64 r.n, .int .i64 r.q, .string r.t, .int .i64 r.p.s0, .int .i64 r.p.s1, .int .i64 r.p.s2, .int .i64 r.p.s3, .int .i64 r.p.s4, .int .i64 r.p.s5, .int .i64 r.p.s6, .int .i64 r.p.s7, .int .i64 r.p.s8, .int .i64 r.p.s9, .int .i64 r.p.s10, .int .i64 r.p.s11] 37)).trans hf (fun b hb e => by subst e; exact absurd hb (Nat.lt_irrefl _))
  have HF := hid hF
  have HH := hid hh
  have HC := hid hc1
  clear hF hf hh hc1 H1
  obtain ⟨c2, c3, c4⟩ : w1.cell? ⟨w.heap.size, 2, none⟩ = some (.int .i64 r.w) ∧ w1.cell? ⟨w.heap.size, 3, none⟩ = some (.int .i64 r.n) ∧ w1.cell? ⟨w.heap.size, 4, none⟩ = some (.int .i64 r.q) := ⟨cell_at HH.out 2, cell_at HH.out 3, cell_at HH.out 4⟩
  obtain ⟨b0, HB0⟩ : ∃ b, Hid (btw r.t.size 1 64 = b) := ⟨_, rfl⟩
  rw [HB0.out]
  cases b0
  · go_wp2_with fail
    go_ret
    exact ⟨by simp [publishB, HB0.out], HF.out⟩
  go_wp2_with fail
  refine (btw_calls _ _ _ _).mono ?_
  rintro _ _ ⟨rfl, rfl⟩
  obtain ⟨b1, HB1⟩ : ∃ b, Hid (btw r.n 1 1048576 = b) := ⟨_, rfl⟩
  rw [HB1.out]
  cases b1
  · go_wp2_with fail
    go_ret
    exact ⟨by simp [publishB, HB0.out, HB1.out], HF.out⟩
  have hc := HC.out
  have d0 : w1.cell? ⟨w.heap.size, 6, none⟩ = some (.int .i64 r.p.s0) := cell_at HH.out 6
  have d1 : w1.cell? ⟨w.heap.size, 7, none⟩ = some (.int .i64 r.p.s1) := cell_at HH.out 7
  have d2 : w1.cell? ⟨w.heap.size, 8, none⟩ = some (.int .i64 r.p.s2) := cell_at HH.out 8
  have d3 : w1.cell? ⟨w.heap.size, 9, none⟩ = some (.int .i64 r.p.s3) := cell_at HH.out 9
  have d4 : w1.cell? ⟨w.heap.size, 10, none⟩ = some (.int .i64 r.p.s4) := cell_at HH.out 10
  have d5 : w1.cell? ⟨w.heap.size, 11, none⟩ = some (.int .i64 r.p.s5) := cell_at HH.out 11
  have d6 : w1.cell? ⟨w.heap.size, 12, none⟩ = some (.int .i64 r.p.s6) := cell_at HH.out 12
  have d7 : w1.cell? ⟨w.heap.size, 13, none⟩ = some (.int .i64 r.p.s7) := cell_at HH.out 13
  have d8 : w1.cell? ⟨w.heap.size, 14, none⟩ = some (.int .i64 r.p.s8) := cell_at HH.out 14
  have d9 : w1.cell? ⟨w.heap.size, 15, none⟩ = some (.int .i64 r.p.s9) := cell_at HH.out 15
  have d10 : w1.cell? ⟨w.heap.size, 16, none⟩ = some (.int .i64 r.p.s10) := cell_at HH.out 16
  have d11 : w1.cell? ⟨w.heap.size, 17, none⟩ = some (.int .i64 r.p.s11) := cell_at HH.out 17
  go_wp2_with fail
  refine (bare_calls ⟨0, 0, r.w, 0, r.q, .empty, r.p⟩ _).mono ?_
  rintro _ w2 ⟨rfl, hf2⟩
  have HF2 := hid (HF.out.then0 hf2); clear hf2
  go_wp2_with fail
  go_ret
  exact ⟨by simp [publishB, HB0.out, HB1.out], HF2.out⟩
def moveB (r : Rc) : Bool := btw r.t.size 1 64 && (btw r.n 1 5 && (req ⟨0, 0, r.w, 0, r.q, .empty, r.p⟩ Rc.zero))
set_option maxRecDepth 20000 in
set_option maxHeartbeats 2000000 in
theorem move_calls (r : Rc) (t1 : Nat) (w : World) (h1 : w.cell? ⟨t1, 0, none⟩ = some (fnv 117 #[])) : Calls Tryz.prog 124 #[r.val, ptr t1] w fun x w' => x = .returned (.bool (moveB r)) ∧ Frm M0 w w' := by
  unfold Rc.val
  have H1 := hid (((Frm.refl M0 w).alloc (.cells #[.int .i64 r.k, .int .i64 r.e, .int .i64 r.w, .int .i64 r.n, .int .i64 r.q, .string r.t, .int .i64 r.p.s0, .int .i64 r.p.s1, .int .i64 r.p.s2, .int .i64 r.p.s3, .int .i64 r.p.s4, .int .i64 r.p.s5, .int .i64 r.p.s6, .int .i64 r.p.s7, .int .i64 r.p.s8, .int .i64 r.p.s9, .int .i64 r.p.s10, .int .i64 r.p.s11] 37)).cell h1 (fun h => h))
  have ht : t1 < w.heap.size := World.block_lt_of_cell? w ⟨t1, 0, none⟩ h1
  clear h1
  go_enter Tryz.func124, Tryz.ntmps124
  go_wp2_with fail
  refine (text_calls r _ _ (heap_alloc_last w _)).mono ?_
  rintro _ w1 ⟨rfl, hh, hf⟩
  have hc1 := hf.cell H1.out (by show ¬ t1 = _; omega)
  have hF : Frm M0 w w1 := ((Frm.refl M0 w).alloc (.cells #[.int .i64 r.k, .int .i64 r.e, .int .i64 r.w, .int .i64 r.n, .int .i64 r.q, .string r.t, .int .i64 r.p.s0, .int .i64 r.p.s1, .int .i64 r.p.s2, .int .i64 r.p.s3, .int .i64 r.p.s4, .int .i64 r.p.s5, .int .i64 r.p.s6, .int .i64 r.p.s7, .int .i64 r.p.s8, .int .i64 r.p.s9, .int .i64 r.p.s10, .int .i64 r.p.s11] 37)).trans hf (fun b hb e => by subst e; exact absurd hb (Nat.lt_irrefl _))
  have HF := hid hF
  have HH := hid hh
  have HC := hid hc1
  clear hF hf hh hc1 H1
  obtain ⟨c2, c3, c4⟩ : w1.cell? ⟨w.heap.size, 2, none⟩ = some (.int .i64 r.w) ∧ w1.cell? ⟨w.heap.size, 3, none⟩ = some (.int .i64 r.n) ∧ w1.cell? ⟨w.heap.size, 4, none⟩ = some (.int .i64 r.q) := ⟨cell_at HH.out 2, cell_at HH.out 3, cell_at HH.out 4⟩
  obtain ⟨b0, HB0⟩ : ∃ b, Hid (btw r.t.size 1 64 = b) := ⟨_, rfl⟩
  rw [HB0.out]
  cases b0
  · go_wp2_with fail
    go_ret
    exact ⟨by simp [moveB, HB0.out], HF.out⟩
  go_wp2_with fail
  refine (btw_calls _ _ _ _).mono ?_
  rintro _ _ ⟨rfl, rfl⟩
  obtain ⟨b1, HB1⟩ : ∃ b, Hid (btw r.n 1 5 = b) := ⟨_, rfl⟩
  rw [HB1.out]
  cases b1
  · go_wp2_with fail
    go_ret
    exact ⟨by simp [moveB, HB0.out, HB1.out], HF.out⟩
  have hc := HC.out
  have d0 : w1.cell? ⟨w.heap.size, 6, none⟩ = some (.int .i64 r.p.s0) := cell_at HH.out 6
  have d1 : w1.cell? ⟨w.heap.size, 7, none⟩ = some (.int .i64 r.p.s1) := cell_at HH.out 7
  have d2 : w1.cell? ⟨w.heap.size, 8, none⟩ = some (.int .i64 r.p.s2) := cell_at HH.out 8
  have d3 : w1.cell? ⟨w.heap.size, 9, none⟩ = some (.int .i64 r.p.s3) := cell_at HH.out 9
  have d4 : w1.cell? ⟨w.heap.size, 10, none⟩ = some (.int .i64 r.p.s4) := cell_at HH.out 10
  have d5 : w1.cell? ⟨w.heap.size, 11, none⟩ = some (.int .i64 r.p.s5) := cell_at HH.out 11
  have d6 : w1.cell? ⟨w.heap.size, 12, none⟩ = some (.int .i64 r.p.s6) := cell_at HH.out 12
  have d7 : w1.cell? ⟨w.heap.size, 13, none⟩ = some (.int .i64 r.p.s7) := cell_at HH.out 13
  have d8 : w1.cell? ⟨w.heap.size, 14, none⟩ = some (.int .i64 r.p.s8) := cell_at HH.out 14
  have d9 : w1.cell? ⟨w.heap.size, 15, none⟩ = some (.int .i64 r.p.s9) := cell_at HH.out 15
  have d10 : w1.cell? ⟨w.heap.size, 16, none⟩ = some (.int .i64 r.p.s10) := cell_at HH.out 16
  have d11 : w1.cell? ⟨w.heap.size, 17, none⟩ = some (.int .i64 r.p.s11) := cell_at HH.out 17
  go_wp2_with fail
  refine (bare_calls ⟨0, 0, r.w, 0, r.q, .empty, r.p⟩ _).mono ?_
  rintro _ w2 ⟨rfl, hf2⟩
  have HF2 := hid (HF.out.then0 hf2); clear hf2
  go_wp2_with fail
  go_ret
  exact ⟨by simp [moveB, HB0.out, HB1.out], HF2.out⟩
def stepB (r : Rc) : Bool := btw r.t.size 1 64 && (btw r.w 1 4 && (btw r.n 0 1099511627776 && (req ⟨0, 0, 0, 0, r.q, .empty, r.p⟩ Rc.zero)))
set_option maxRecDepth 20000 in
set_option maxHeartbeats 2000000 in
theorem step_calls (r : Rc) (t1 : Nat) (w : World) (h1 : w.cell? ⟨t1, 0, none⟩ = some (fnv 117 #[])) : Calls Tryz.prog 127 #[r.val, ptr t1] w fun x w' => x = .returned (.bool (stepB r)) ∧ Frm M0 w w' := by
  unfold Rc.val
  have H1 := hid (((Frm.refl M0 w).alloc (.cells #[.int .i64 r.k, .int .i64 r.e, .int .i64 r.w, .int .i64 r.n, .int .i64 r.q, .string r.t, .int .i64 r.p.s0, .int .i64 r.p.s1, .int .i64 r.p.s2, .int .i64 r.p.s3, .int .i64 r.p.s4, .int .i64 r.p.s5, .int .i64 r.p.s6, .int .i64 r.p.s7, .int .i64 r.p.s8, .int .i64 r.p.s9, .int .i64 r.p.s10, .int .i64 r.p.s11] 37)).cell h1 (fun h => h))
  have ht : t1 < w.heap.size := World.block_lt_of_cell? w ⟨t1, 0, none⟩ h1
  clear h1
  go_enter Tryz.func127, Tryz.ntmps127
  go_wp2_with fail
  refine (text_calls r _ _ (heap_alloc_last w _)).mono ?_
  rintro _ w1 ⟨rfl, hh, hf⟩
  have hc1 := hf.cell H1.out (by show ¬ t1 = _; omega)
  have hF : Frm M0 w w1 := ((Frm.refl M0 w).alloc (.cells #[.int .i64 r.k, .int .i64 r.e, .int .i64 r.w, .int .i64 r.n, .int .i64 r.q, .string r.t, .int .i64 r.p.s0, .int .i64 r.p.s1, .int .i64 r.p.s2, .int .i64 r.p.s3, .int .i64 r.p.s4, .int .i64 r.p.s5, .int .i64 r.p.s6, .int .i64 r.p.s7, .int .i64 r.p.s8, .int .i64 r.p.s9, .int .i64 r.p.s10, .int .i64 r.p.s11] 37)).trans hf (fun b hb e => by subst e; exact absurd hb (Nat.lt_irrefl _))
  have HF := hid hF
  have HH := hid hh
  have HC := hid hc1
  clear hF hf hh hc1 H1
  obtain ⟨c2, c3, c4⟩ : w1.cell? ⟨w.heap.size, 2, none⟩ = some (.int .i64 r.w) ∧ w1.cell? ⟨w.heap.size, 3, none⟩ = some (.int .i64 r.n) ∧ w1.cell? ⟨w.heap.size, 4, none⟩ = some (.int .i64 r.q) := ⟨cell_at HH.out 2, cell_at HH.out 3, cell_at HH.out 4⟩
  obtain ⟨b0, HB0⟩ : ∃ b, Hid (btw r.t.size 1 64 = b) := ⟨_, rfl⟩
  rw [HB0.out]
  cases b0
  · go_wp2_with fail
    go_ret
    exact ⟨by simp [stepB, HB0.out], HF.out⟩
  go_wp2_with fail
  refine (btw_calls _ _ _ _).mono ?_
  rintro _ _ ⟨rfl, rfl⟩
  obtain ⟨b1, HB1⟩ : ∃ b, Hid (btw r.w 1 4 = b) := ⟨_, rfl⟩
  rw [HB1.out]
  cases b1
  · go_wp2_with fail
    go_ret
    exact ⟨by simp [stepB, HB0.out, HB1.out], HF.out⟩
  go_wp2_with fail
  refine (btw_calls _ _ _ _).mono ?_
  rintro _ _ ⟨rfl, rfl⟩
  obtain ⟨b2, HB2⟩ : ∃ b, Hid (btw r.n 0 1099511627776 = b) := ⟨_, rfl⟩
  rw [HB2.out]
  cases b2
  · go_wp2_with fail
    go_ret
    exact ⟨by simp [stepB, HB0.out, HB1.out, HB2.out], HF.out⟩
  have hc := HC.out
  have d0 : w1.cell? ⟨w.heap.size, 6, none⟩ = some (.int .i64 r.p.s0) := cell_at HH.out 6
  have d1 : w1.cell? ⟨w.heap.size, 7, none⟩ = some (.int .i64 r.p.s1) := cell_at HH.out 7
  have d2 : w1.cell? ⟨w.heap.size, 8, none⟩ = some (.int .i64 r.p.s2) := cell_at HH.out 8
  have d3 : w1.cell? ⟨w.heap.size, 9, none⟩ = some (.int .i64 r.p.s3) := cell_at HH.out 9
  have d4 : w1.cell? ⟨w.heap.size, 10, none⟩ = some (.int .i64 r.p.s4) := cell_at HH.out 10
  have d5 : w1.cell? ⟨w.heap.size, 11, none⟩ = some (.int .i64 r.p.s5) := cell_at HH.out 11
  have d6 : w1.cell? ⟨w.heap.size, 12, none⟩ = some (.int .i64 r.p.s6) := cell_at HH.out 12
  have d7 : w1.cell? ⟨w.heap.size, 13, none⟩ = some (.int .i64 r.p.s7) := cell_at HH.out 13
  have d8 : w1.cell? ⟨w.heap.size, 14, none⟩ = some (.int .i64 r.p.s8) := cell_at HH.out 14
  have d9 : w1.cell? ⟨w.heap.size, 15, none⟩ = some (.int .i64 r.p.s9) := cell_at HH.out 15
  have d10 : w1.cell? ⟨w.heap.size, 16, none⟩ = some (.int .i64 r.p.s10) := cell_at HH.out 16
  have d11 : w1.cell? ⟨w.heap.size, 17, none⟩ = some (.int .i64 r.p.s11) := cell_at HH.out 17
  go_wp2_with fail
  refine (bare_calls ⟨0, 0, 0, 0, r.q, .empty, r.p⟩ _).mono ?_
  rintro _ w2 ⟨rfl, hf2⟩
  have HF2 := hid (HF.out.then0 hf2); clear hf2
  go_wp2_with fail
  go_ret
  exact ⟨by simp [stepB, HB0.out, HB1.out, HB2.out], HF2.out⟩
end Go.Proofs.YtmacpdddimcmgaaGreatDoor
namespace Go.Proofs.YtmacpdddimcmgaaGreatDoor
set_option linter.unusedVariables false
set_option linter.unusedSimpArgs false
set_option maxRecDepth 20000
open Go.RowKit
theorem wpList_load_row_w {P : Program} {ops : Array Oper} {rest : List Oper} {o : Oper} {a : Act} {w : World} {Q : Exit → Act → World → Prop} (hw : Region.wanted o (yielded ops a.tmps) = true) (ty : TypeId) (x : Operand) (ho : o.op = .load ty x)
    (g : Nat) (hx : a.eval x = .pointer (some ⟨g, 0, none⟩)) (t : TypeId) (cs : Array Value) (fr : Nat × Nat) (d : TypeDesc) (hg : w.heap[g]? = some (.cells cs t fr))
    (hu : P.underlying ty = some d) (hd : (match d with | .struct _ | .array _ _ => true | _ => false) = true) (hi : (P.info? ty).map (·.size) = some cs.size)
    (h : wpList P ops Q rest (a.put o.dst (.agg cs)) w) : wpList P ops Q (o :: rest) a w :=
  BigFrame.wpList_want hw fun _ hK => wp_load_row ty x ho g hx t cs fr d hg hu hd hi (hK _ _ h)
set_option maxRecDepth 20000 in
set_option maxHeartbeats 2000000 in
theorem right_hit (r : Rc) (w : World) (nm : ByteArray) (fn : FuncId) (cap : Nat → Nat → Array Value) (A : Bool) (hcf : ∀ args w, (callFunc fn args).run Tryz.prog w = .ok (.enter fn args) w) (hl : ∀ t1 t2, (kindsL t1 t2).lookup r.k = some (.agg #[.string nm, fnv fn (cap t1 t2)]))
    (hm : ∀ t1 t2 w, w.cell? ⟨t1, 0, none⟩ = some (fnv 117 #[]) → w.cell? ⟨t2, 0, none⟩ = some (fnv 118 #[ptr t1]) → Calls Tryz.prog fn (#[r.val] ++ cap t1 t2) w fun x w' => x = .returned (.bool A) ∧ Frm M0 w w') :
    Calls Tryz.prog 45 #[r.val] w fun x w' => x = .returned (.bool (btw r.e 1 1099511627776 && A)) ∧ Frm M0 w w' := by
  have HLK := hid hl; clear hl
  have HM := hid hm; clear hm
  have HCF := hid hcf
  have HV : Hid (r.val = .agg #[.int .i64 r.k, .int .i64 r.e, .int .i64 r.w, .int .i64 r.n, .int .i64 r.q, .string r.t, .int .i64 r.p.s0, .int .i64 r.p.s1, .int .i64 r.p.s2, .int .i64 r.p.s3, .int .i64 r.p.s4, .int .i64 r.p.s5, .int .i64 r.p.s6, .int .i64 r.p.s7, .int .i64 r.p.s8, .int .i64 r.p.s9, .int .i64 r.p.s10, .int .i64 r.p.s11]) := rfl
  rw [HV.out]
  go_enter Tryz.func45, Tryz.ntmps45
  go_wp2_with fail
  have HH := hid (heap_alloc_last w (.cells #[.int .i64 r.k, .int .i64 r.e, .int .i64 r.w, .int .i64 r.n, .int .i64 r.q, .string r.t, .int .i64 r.p.s0, .int .i64 r.p.s1, .int .i64 r.p.s2, .int .i64 r.p.s3, .int .i64 r.p.s4, .int .i64 r.p.s5, .int .i64 r.p.s6, .int .i64 r.p.s7, .int .i64 r.p.s8, .int .i64 r.p.s9, .int .i64 r.p.s10, .int .i64 r.p.s11] 37))
  have HF := hid ((Frm.refl M0 w).alloc (.cells #[.int .i64 r.k, .int .i64 r.e, .int .i64 r.w, .int .i64 r.n, .int .i64 r.q, .string r.t, .int .i64 r.p.s0, .int .i64 r.p.s1, .int .i64 r.p.s2, .int .i64 r.p.s3, .int .i64 r.p.s4, .int .i64 r.p.s5, .int .i64 r.p.s6, .int .i64 r.p.s7, .int .i64 r.p.s8, .int .i64 r.p.s9, .int .i64 r.p.s10, .int .i64 r.p.s11] 37))
  obtain ⟨b, hb⟩ : ∃ b, b = w.heap.size := ⟨_, rfl⟩
  obtain ⟨w1, hw1⟩ : ∃ x, x = w.alloc (.cells #[.int .i64 r.k, .int .i64 r.e, .int .i64 r.w, .int .i64 r.n, .int .i64 r.q, .string r.t, .int .i64 r.p.s0, .int .i64 r.p.s1, .int .i64 r.p.s2, .int .i64 r.p.s3, .int .i64 r.p.s4, .int .i64 r.p.s5, .int .i64 r.p.s6, .int .i64 r.p.s7, .int .i64 r.p.s8, .int .i64 r.p.s9, .int .i64 r.p.s10, .int .i64 r.p.s11] 37) := ⟨_, rfl⟩
  rw [← hw1, ← hb] at HH
  rw [← hw1] at HF
  rw [← hw1, ← hb]
  clear hw1 hb
  have HSF : Hid (∀ wx, Frm M0 w1 wx → wx.cell? ⟨b, 0, none⟩ = some (.int .i64 r.k)) := hid (fun wx hx => cell_at (hx.heap HH.out (fun h => h)) 0)
  have HFq := hid ((Frm.refl M0 w1).drew)
  go_region_held3 (fun wx => wx.cell? ⟨b, 0, none⟩ = some (.int .i64 r.k)) (first | with_reducible exact HSF.out _ HFq.out | with_reducible exact HSF.out _ (Frm.alloc HFq.out _) | with_reducible exact HSF.out _ (Frm.drew (Frm.alloc (Frm.refl M0 _) _)) | with_reducible exact HSF.out _ (Frm.putN (Frm.putN HFq.out _ _ _ (Nat.le_refl _)) _ _ _ (Nat.le_refl _)) | go_keep)
    (((with_reducible refine (kinds_calls _).mono ?_); (rintro _ wk ⟨B, t1, t2, rfl, HB, HC1, HC2, hf⟩); (first | (with_reducible have hx := Frm.then0 HFq.out hf) | ((with_reducible have hx := Frm.then0 (Frm.drew (Frm.alloc (Frm.refl M0 w1) _)) hf); (have hq := hf.heap (show (w1.alloc (.cells #[.string ⟨#[]⟩, .nilFunc] 140)).drew.heap[w1.heap.size]? = _ from new1 w1 _) (fun h => h)); (have e0 : wk.cell? ⟨w1.heap.size, 0, none⟩ = some (.string ⟨#[]⟩) := cell_at hq 0); (have e1 : wk.cell? ⟨w1.heap.size, 1, none⟩ = some .nilFunc := cell_at hq 1); (have z0 : wk.frozen? ⟨w1.heap.size, 0, none⟩ = false := frozen_at hq 0); (have z1 : wk.frozen? ⟨w1.heap.size, 1, none⟩ = false := frozen_at hq 1); (have HQ := hid hq); clear hq)); clear HFq; have HFq := hid hx; clear hx hf;
      (have hl1 := look_hit (P := Tryz.prog) (T := 142) Tryz.underlying142 Tryz.underlying3 HB.out r.k _ (HLK.out t1 t2) true); (have hl2 := fun o => look_hit (P := Tryz.prog) (T := 142) Tryz.underlying142 Tryz.underlying3 (((Frm.refl M0 wk).alloc o).heap HB.out (fun h => h)) r.k _ (HLK.out t1 t2) true)))
  all_goals
    first
    | (fail_if_success (have hzz := e0)
       have hh : (wk.alloc (.cells #[.string nm, fnv fn (cap t1 t2)] 140)).heap[wk.heap.size]? = some (.cells #[.string nm, fnv fn (cap t1 t2)] 140 (0, 0)) := new1 wk _
       have hF : Frm M0 w1 (wk.alloc (.cells #[.string nm, fnv fn (cap t1 t2)] 140)) := HFq.out.alloc _
       have hc1 := ((Frm.refl M0 wk).alloc (.cells #[.string nm, fnv fn (cap t1 t2)] 140)).cell HC1.out (fun h => h)
       have hc2 := ((Frm.refl M0 wk).alloc (.cells #[.string nm, fnv fn (cap t1 t2)] 140)).cell HC2.out (fun h => h)
       revert hh hF hc1 hc2
       clear hl1 hl2
       generalize wk.alloc (.cells #[.string nm, fnv fn (cap t1 t2)] 140) = wr
       generalize wk.heap.size = tb
       intro hh hF hc1 hc2)
    | (have hne : ¬ t1 = w1.heap.size := (fun e => (by have := HC1.out; rw [e, e0] at this; cases this))
       have hne2 : ¬ t2 = w1.heap.size := (fun e => (by have := HC2.out; rw [e, e0] at this; cases this))
       have hh : ((wk.setCell ⟨w1.heap.size, 0, none⟩ (.string nm)).setCell ⟨w1.heap.size, 1, none⟩ (fnv fn (cap t1 t2))).heap[w1.heap.size]? = some (.cells #[.string nm, fnv fn (cap t1 t2)] 140 (0, 0)) := heap_set_at (heap_set_at HQ.out _) _
       have hF : Frm M0 w1 ((wk.setCell ⟨w1.heap.size, 0, none⟩ (.string nm)).setCell ⟨w1.heap.size, 1, none⟩ (fnv fn (cap t1 t2))) := (HFq.out.putN _ _ _ (Nat.le_refl _)).putN _ _ _ (Nat.le_refl _)
       have hp : Frm (· = w1.heap.size) wk ((wk.setCell ⟨w1.heap.size, 0, none⟩ (.string nm)).setCell ⟨w1.heap.size, 1, none⟩ (fnv fn (cap t1 t2))) := ((Frm.refl (fun x => x = w1.heap.size) wk).put _ _ _ (fun _ => rfl)).put _ _ _ (fun _ => rfl)
       have hc1 := hp.cell HC1.out hne
       have hc2 := hp.cell HC2.out hne2
       revert hh hF hc1 hc2
       clear hp hne hne2 hl1 hl2 HQ e0 e1 z0 z1
       generalize (wk.setCell ⟨w1.heap.size, 0, none⟩ (.string nm)).setCell ⟨w1.heap.size, 1, none⟩ (fnv fn (cap t1 t2)) = wr
       generalize w1.heap.size = tb
       intro hh hF hc1 hc2)
  all_goals
    have c1 : wr.cell? ⟨b, 1, none⟩ = some (.int .i64 r.e) := cell_at (hF.heap HH.out (fun h => h)) 1
    have e1 : wr.cell? ⟨tb, 1, none⟩ = some (fnv fn (cap t1 t2)) := cell_at hh 1
    have HB18 := hid (hF.heap HH.out (fun h => h))
    have HFr := hid (HF.out.then0 hF)
    have hm := HM.out t1 t2 wr hc1 hc2
    rw [HV.out] at hm
    have HMM := hid hm
    clear hm hh hF hc1 hc2 HSF HFq
    clear hcf
    go_wp2_with fail
    refine (btw_calls _ _ _ _).mono ?_
    rintro _ _ ⟨rfl, rfl⟩
    obtain ⟨b1, HB1⟩ : ∃ b, Hid (btw r.e 1 1099511627776 = b) := ⟨_, rfl⟩
    rw [HB1.out]
    cases b1
    case false =>
      go_wp2_with fail
      go_ret
      exact ⟨by first | rfl | (rw [HB1.out]; rfl), HFr.out⟩
    case true =>
      have hcf := HCF.out
      go_wp2_with (refine wpList_load_row_w (by kernel_rfl) 37 (.tmp 1) (by with_reducible rfl) b (by kernel_rfl) _ _ _ _ HB18.out Tryz.underlying37 rfl (by kernel_rfl) ?_)
      refine HMM.out.mono ?_
      rintro _ w9 ⟨rfl, hf9⟩
      have HF9 := hid (HFr.out.then0 hf9)
      clear hf9
      go_wp2_with fail
      go_ret
      exact ⟨by first | rfl | (rw [HB1.out]; rfl), HF9.out⟩
end Go.Proofs.YtmacpdddimcmgaaGreatDoor
namespace Go.Proofs.YtmacpdddimcmgaaGreatDoor
set_option linter.unusedVariables false
set_option linter.unusedSimpArgs false
set_option maxRecDepth 20000
open Go.RowKit
theorem zeroKind (w : World) : (zeroValue 140).run Tryz.prog w = .ok (.agg #[.string ⟨#[]⟩, .nilFunc]) w := (zero_of_info (n := 2) (by kernel_rfl)).1 w
theorem kinds_miss {k : Int} (h : ¬ (1 ≤ k ∧ k ≤ 7)) (t1 t2 : Nat) : ∀ p ∈ kindsL t1 t2, p.1 ≠ k := by
  intro p hp
  simp only [kindsL, List.mem_cons, List.not_mem_nil, or_false] at hp
  rcases hp with rfl | rfl | rfl | rfl | rfl | rfl | rfl <;> simp <;> omega
set_option maxRecDepth 20000 in
set_option maxHeartbeats 2000000 in
theorem right_miss (r : Rc) (w : World) (hk : ¬ (1 ≤ r.k ∧ r.k ≤ 7)) : Calls Tryz.prog 45 #[r.val] w fun x w' => x = .returned (.bool false) ∧ Frm M0 w w' := by
  have HLK := hid (kinds_miss hk); clear hk
  have HV : Hid (r.val = .agg #[.int .i64 r.k, .int .i64 r.e, .int .i64 r.w, .int .i64 r.n, .int .i64 r.q, .string r.t, .int .i64 r.p.s0, .int .i64 r.p.s1, .int .i64 r.p.s2, .int .i64 r.p.s3, .int .i64 r.p.s4, .int .i64 r.p.s5, .int .i64 r.p.s6, .int .i64 r.p.s7, .int .i64 r.p.s8, .int .i64 r.p.s9, .int .i64 r.p.s10, .int .i64 r.p.s11]) := rfl
  rw [HV.out]
  go_enter Tryz.func45, Tryz.ntmps45
  go_wp2_with fail
  have HH := hid (heap_alloc_last w (.cells #[.int .i64 r.k, .int .i64 r.e, .int .i64 r.w, .int .i64 r.n, .int .i64 r.q, .string r.t, .int .i64 r.p.s0, .int .i64 r.p.s1, .int .i64 r.p.s2, .int .i64 r.p.s3, .int .i64 r.p.s4, .int .i64 r.p.s5, .int .i64 r.p.s6, .int .i64 r.p.s7, .int .i64 r.p.s8, .int .i64 r.p.s9, .int .i64 r.p.s10, .int .i64 r.p.s11] 37))
  have HF := hid ((Frm.refl M0 w).alloc (.cells #[.int .i64 r.k, .int .i64 r.e, .int .i64 r.w, .int .i64 r.n, .int .i64 r.q, .string r.t, .int .i64 r.p.s0, .int .i64 r.p.s1, .int .i64 r.p.s2, .int .i64 r.p.s3, .int .i64 r.p.s4, .int .i64 r.p.s5, .int .i64 r.p.s6, .int .i64 r.p.s7, .int .i64 r.p.s8, .int .i64 r.p.s9, .int .i64 r.p.s10, .int .i64 r.p.s11] 37))
  obtain ⟨b, hb⟩ : ∃ b, b = w.heap.size := ⟨_, rfl⟩
  obtain ⟨w1, hw1⟩ : ∃ x, x = w.alloc (.cells #[.int .i64 r.k, .int .i64 r.e, .int .i64 r.w, .int .i64 r.n, .int .i64 r.q, .string r.t, .int .i64 r.p.s0, .int .i64 r.p.s1, .int .i64 r.p.s2, .int .i64 r.p.s3, .int .i64 r.p.s4, .int .i64 r.p.s5, .int .i64 r.p.s6, .int .i64 r.p.s7, .int .i64 r.p.s8, .int .i64 r.p.s9, .int .i64 r.p.s10, .int .i64 r.p.s11] 37) := ⟨_, rfl⟩
  rw [← hw1, ← hb] at HH
  rw [← hw1] at HF
  rw [← hw1, ← hb]
  clear hw1 hb
  have HSF : Hid (∀ wx, Frm M0 w1 wx → wx.cell? ⟨b, 0, none⟩ = some (.int .i64 r.k)) := hid (fun wx hx => cell_at (hx.heap HH.out (fun h => h)) 0)
  have HFq := hid ((Frm.refl M0 w1).drew)
  go_region_held3 (fun wx => wx.cell? ⟨b, 0, none⟩ = some (.int .i64 r.k)) (first | with_reducible exact HSF.out _ HFq.out | with_reducible exact HSF.out _ (Frm.alloc HFq.out _) | with_reducible exact HSF.out _ (Frm.drew (Frm.alloc (Frm.refl M0 _) _)) | with_reducible exact HSF.out _ (Frm.putN (Frm.putN HFq.out _ _ _ (Nat.le_refl _)) _ _ _ (Nat.le_refl _)) | go_keep)
    (((with_reducible refine (kinds_calls _).mono ?_); (rintro _ wk ⟨B, t1, t2, rfl, HB, HC1, HC2, hf⟩); (first | (with_reducible have hx := Frm.then0 HFq.out hf) | ((with_reducible have hx := Frm.then0 (Frm.drew (Frm.alloc (Frm.refl M0 w1) _)) hf); (have hq := hf.heap (show (w1.alloc (.cells #[.string ⟨#[]⟩, .nilFunc] 140)).drew.heap[w1.heap.size]? = _ from new1 w1 _) (fun h => h)); (have e0 : wk.cell? ⟨w1.heap.size, 0, none⟩ = some (.string ⟨#[]⟩) := cell_at hq 0); (have e1 : wk.cell? ⟨w1.heap.size, 1, none⟩ = some .nilFunc := cell_at hq 1); (have z0 : wk.frozen? ⟨w1.heap.size, 0, none⟩ = false := frozen_at hq 0); (have z1 : wk.frozen? ⟨w1.heap.size, 1, none⟩ = false := frozen_at hq 1); (have HQ := hid hq); clear hq)); clear HFq; have HFq := hid hx; clear hx hf;
      (have hl1 := look_miss (P := Tryz.prog) (T := 142) Tryz.underlying142 Tryz.underlying3 HB.out r.k _ (zeroKind _) (HLK.out t1 t2) true); (have hl2 := fun o => look_miss (P := Tryz.prog) (T := 142) Tryz.underlying142 Tryz.underlying3 (((Frm.refl M0 wk).alloc o).heap HB.out (fun h => h)) r.k _ (zeroKind _) (HLK.out t1 t2) true)))
  all_goals
    go_wp2_with fail
    go_ret
    refine ⟨rfl, ?_⟩
    first
    | exact (HF.out.then0 HFq.out).alloc _
    | exact HF.out.then0 ((HFq.out.putN _ _ _ (Nat.le_refl _)).putN _ _ _ (Nat.le_refl _))
    | exact HF.out.then0 HFq.out
def mayK (r : Rc) : Bool := if r.k = 1 then leadB r else if r.k = 2 then publishB r else if r.k = 3 then beginB r else if r.k = 4 then moveB r else if r.k = 5 then intentB r else if r.k = 6 then ackB r else if r.k = 7 then stepB r else false
def rightB (r : Rc) : Bool := btw r.e 1 1099511627776 && mayK r
theorem right_calls (r : Rc) (w : World) : Calls Tryz.prog 45 #[r.val] w fun x w' => x = .returned (.bool (rightB r)) ∧ Frm M0 w w' := by
  by_cases h : 1 ≤ r.k ∧ r.k ≤ 7
  case neg =>
    have e : rightB r = false := by
      unfold rightB mayK
      rw [if_neg (by omega), if_neg (by omega), if_neg (by omega), if_neg (by omega), if_neg (by omega), if_neg (by omega), if_neg (by omega)]
      simp
    rw [e]; exact right_miss r w h
  have hk : r.k = 1 ∨ r.k = 2 ∨ r.k = 3 ∨ r.k = 4 ∨ r.k = 5 ∨ r.k = 6 ∨ r.k = 7 := by omega
  rcases hk with hk | hk | hk | hk | hk | hk | hk
  · have e : rightB r = (btw r.e 1 1099511627776 && leadB r) := by unfold rightB mayK; rw [if_pos hk]
    rw [e]
    exact right_hit r w ⟨#[108, 101, 97, 100]⟩ 119 (fun t1 t2 => #[ptr t1]) (leadB r) (fun _ _ => rfl) (fun t1 t2 => by rw [hk]; rfl) (fun t1 t2 w h1 h2 => lead_calls r t1 w h1)
  · have e : rightB r = (btw r.e 1 1099511627776 && publishB r) := by unfold rightB mayK; rw [if_neg (by omega), if_pos hk]
    rw [e]
    exact right_hit r w ⟨#[112, 117, 98, 108, 105, 115, 104]⟩ 120 (fun t1 t2 => #[ptr t1]) (publishB r) (fun _ _ => rfl) (fun t1 t2 => by rw [hk]; rfl) (fun t1 t2 w h1 h2 => publish_calls r t1 w h1)
  · have e : rightB r = (btw r.e 1 1099511627776 && beginB r) := by unfold rightB mayK; rw [if_neg (by omega), if_neg (by omega), if_pos hk]
    rw [e]
    exact right_hit r w ⟨#[98, 101, 103, 105, 110]⟩ 122 (fun t1 t2 => #[ptr t1]) (beginB r) (fun _ _ => rfl) (fun t1 t2 => by rw [hk]; rfl) (fun t1 t2 w h1 h2 => begin_calls r t1 w h1)
  · have e : rightB r = (btw r.e 1 1099511627776 && moveB r) := by unfold rightB mayK; rw [if_neg (by omega), if_neg (by omega), if_neg (by omega), if_pos hk]
    rw [e]
    exact right_hit r w ⟨#[109, 111, 118, 101]⟩ 124 (fun t1 t2 => #[ptr t1]) (moveB r) (fun _ _ => rfl) (fun t1 t2 => by rw [hk]; rfl) (fun t1 t2 w h1 h2 => move_calls r t1 w h1)
  · have e : rightB r = (btw r.e 1 1099511627776 && intentB r) := by unfold rightB mayK; rw [if_neg (by omega), if_neg (by omega), if_neg (by omega), if_neg (by omega), if_pos hk]
    rw [e]
    exact right_hit r w ⟨#[105, 110, 116, 101, 110, 116]⟩ 125 (fun t1 t2 => #[ptr t2]) (intentB r) (fun _ _ => rfl) (fun t1 t2 => by rw [hk]; rfl) (fun t1 t2 w h1 h2 => intent_calls r t1 t2 w h1 h2)
  · have e : rightB r = (btw r.e 1 1099511627776 && ackB r) := by unfold rightB mayK; rw [if_neg (by omega), if_neg (by omega), if_neg (by omega), if_neg (by omega), if_neg (by omega), if_pos hk]
    rw [e]
    exact right_hit r w ⟨#[97, 99, 107]⟩ 126 (fun t1 t2 => #[ptr t2]) (ackB r) (fun _ _ => rfl) (fun t1 t2 => by rw [hk]; rfl) (fun t1 t2 w h1 h2 => ack_calls r t1 t2 w h1 h2)
  · have e : rightB r = (btw r.e 1 1099511627776 && stepB r) := by unfold rightB mayK; rw [if_neg (by omega), if_neg (by omega), if_neg (by omega), if_neg (by omega), if_neg (by omega), if_neg (by omega), if_pos hk]
    rw [e]
    exact right_hit r w ⟨#[115, 116, 101, 112]⟩ 127 (fun t1 t2 => #[ptr t1]) (stepB r) (fun _ _ => rfl) (fun t1 t2 => by rw [hk]; rfl) (fun t1 t2 w h1 h2 => step_calls r t1 w h1)
end Go.Proofs.YtmacpdddimcmgaaGreatDoor
namespace Go.Proofs.YtmacpdddimcmgaaGreatDoor
set_option linter.unusedVariables false
set_option linter.unusedSimpArgs false
set_option maxRecDepth 20000
open Go.RowKit
structure Mg where
  k : Int
  e : Int
  s : Int
  u : Int
  v : Int
  t : Int
  deriving DecidableEq
def Mg.val (m : Mg) : Value := .agg #[.int .i64 m.k, .int .i64 m.e, .int .i64 m.s, .int .i64 m.u, .int .i64 m.v, .int .i64 m.t]
def Mg.zero : Mg := ⟨0, 0, 0, 0, 0, 0⟩
end Go.Proofs.YtmacpdddimcmgaaGreatDoor
namespace Go.Proofs.YtmacpdddimcmgaaGreatDoor
set_option linter.unusedVariables false
set_option linter.unusedSimpArgs false
set_option maxRecDepth 20000
open Go.RowKit
structure Ot where
  d : Int
  e : Int
  r : Rc
  m : Mg
  deriving DecidableEq
def Ot.val (o : Ot) : Value := .agg #[.int .i64 o.d, .int .i64 o.e, .int .i64 o.r.k, .int .i64 o.r.e, .int .i64 o.r.w, .int .i64 o.r.n, .int .i64 o.r.q, .string o.r.t, .int .i64 o.r.p.s0, .int .i64 o.r.p.s1, .int .i64 o.r.p.s2, .int .i64 o.r.p.s3, .int .i64 o.r.p.s4, .int .i64 o.r.p.s5, .int .i64 o.r.p.s6, .int .i64 o.r.p.s7, .int .i64 o.r.p.s8, .int .i64 o.r.p.s9, .int .i64 o.r.p.s10, .int .i64 o.r.p.s11, .int .i64 o.m.k, .int .i64 o.m.e, .int .i64 o.m.s, .int .i64 o.m.u, .int .i64 o.m.v, .int .i64 o.m.t]
def Ot.zero : Ot := ⟨0, 0, Rc.zero, Mg.zero⟩
end Go.Proofs.YtmacpdddimcmgaaGreatDoor
namespace Go.Proofs.YtmacpdddimcmgaaGreatDoor
set_option linter.unusedVariables false
set_option linter.unusedSimpArgs false
set_option maxRecDepth 20000
open Go.RowKit
theorem frm_setRow (w : World) (g : Nat) (cs : Array Value) : Frm (fun x => x = g) w (w.setRow g cs) := by
  refine ⟨rfl, rfl, rfl, ?_, ?_⟩
  · simp [World.setRow]
  · intro k hk hn
    have hn' : ¬ g = k := fun h => hn h.symm
    simp [World.setRow, Array.getElem?_modify, hn']
theorem fu_load_row_g {P : Program} {o : Oper} {a : Act} {w : World} (ty : TypeId) (x : Operand) (ho : o.op = .load ty x) (g : Nat) (hx : a.eval x = .pointer (some ⟨g, 0, none⟩)) (t : TypeId) (cs : Array Value) (fr : Nat × Nat) (d : TypeDesc)
    (hg : w.heap[g]? = some (.cells cs t fr)) (hu : P.underlying ty = some d) (hd : (match d with | .struct _ | .array _ _ => true | _ => false) = true) (hi : (P.info? ty).map (·.size) = some cs.size) :
    FUpon P w (.agg cs) ((execOp a.eval o).run P w) := by
  simp only [execOp, ho, hx, Instr.loadAt, Instr.sureAddr, Sem.run_bind, Sem.run_pure, Result.andThen_ok, run_loadVar_row w g t ty cs fr d hg hu hd hi]
  exact ⟨rfl, rfl⟩
abbrev ptrV (b : Nat) : Value := .pointer (some ⟨b, 0, none⟩)
def upd (E : Nat → Nat) (i b : Nat) : Nat → Nat := fun j => if j = i then b else E j
theorem upd_comm (E : Nat → Nat) {i j : Nat} (b c : Nat) (h : j ≠ i) : upd (upd E i b) j c = upd (upd E j c) i b := by
  funext k; unfold upd
  by_cases h1 : k = j
  · subst h1; simp [h]
  · simp [h1]
section
variable {P : Program} {ops : Array Oper} {w0 : World} {al : Nat → Option Obj} {vals : Nat → Value} {n : Nat} {L : Array Bool → Act → (Nat → Nat) → Prop}
def stepG (P : Program) (ops : Array Oper) (w0 : World) (al : Nat → Option Obj) (vals : Nat → Value) (i : Nat) (o : Oper) (K : Act → (Nat → Nat) → Prop) (a : Act) (E : Nat → Nat) : Prop :=
  match al i with
  | none => FY P ops w0 o (vals i) a ∧ K (a.put o.dst (vals i)) E
  | some _ => ∀ b, K (a.put o.dst (ptrV b)) (upd E i b)
theorem stepG_mono {i : Nat} {o : Oper} {K K' : Act → (Nat → Nat) → Prop} {a : Act} {E : Nat → Nat} (hK : ∀ a E, K a E → K' a E) (h : stepG P ops w0 al vals i o K a E) : stepG P ops w0 al vals i o K' a E := by
  unfold stepG at *
  split at h
  · exact ⟨h.1, hK _ _ h.2⟩
  · exact fun b => hK _ _ (h b)
def AnyG (P : Program) (ops : Array Oper) (w0 : World) (al : Nat → Option Obj) (vals : Nat → Value) (n : Nat) (L : Array Bool → Act → (Nat → Nat) → Prop) : Nat → Array Bool → Act → (Nat → Nat) → Prop
  | 0, listed, a, E => L listed a E
  | f + 1, listed, a, E => Region.ready .any ops listed ≠ [] ∧ ∀ i ∈ Region.ready .any ops listed, i < n ∧ ∃ o, ops[i]? = some o ∧ stepG P ops w0 al vals i o (AnyG P ops w0 al vals n L f (listed.setIfInBounds i true)) a E
theorem stepG_swap {i j : Nat} {oi oj : Oper} {a : Act} {E : Nat → Nat} {K : Act → (Nat → Nat) → Prop} (hji : j ≠ i) (hap : oi.apart ops oj = true) (hsi : ∀ cs b, oi.op ≠ .select cs b) (hsj : ∀ cs b, oj.op ≠ .select cs b)
    (h : stepG P ops w0 al vals i oi (fun a' E' => stepG P ops w0 al vals j oj K a' E') a E) : stepG P ops w0 al vals j oj (fun a' E' => stepG P ops w0 al vals i oi K a' E') a E := by
  obtain ⟨p1, p2, p3⟩ := Oper.apart_spec hap
  unfold stepG at *
  cases hi : al i with
  | none =>
    cases hj : al j with
    | none =>
      simp only [hi, hj] at h ⊢
      obtain ⟨h1, h2, h3⟩ := h
      exact ⟨h2.unput hsj p1, h1.put hsi p3, by rw [← Act.put_comm a (vals i) (vals j) p2]; exact h3⟩
    | some oj' =>
      simp only [hi, hj] at h ⊢
      obtain ⟨h1, h2⟩ := h
      exact fun b => ⟨h1.put hsi p3, by rw [← Act.put_comm a (vals i) _ p2]; exact h2 b⟩
  | some oi' =>
    cases hj : al j with
    | none =>
      simp only [hi, hj] at h ⊢
      refine ⟨(h 0).1.unput hsj p1, fun b => ?_⟩
      rw [← Act.put_comm a _ (vals j) p2]; exact (h b).2
    | some oj' =>
      simp only [hi, hj] at h ⊢
      intro c b
      rw [← Act.put_comm a _ _ p2, ← upd_comm E b c hji]
      exact h b c
theorem AnyG_first {i : Nat} {oi : Oper} (hi : ops[i]? = some oi) (hsel : ∀ (j : Nat) (o : Oper) cs b, ops[j]? = some o → o.op ≠ .select cs b)
    (hs : Region.sinkB .any ops n = true) (hc : Region.chainB .any ops n = true) (hn : n < ops.size) (hin : i < n) (hdone : ∀ listed a E, L listed a E → ∀ j ∈ Region.ready .any ops listed, n ≤ j) :
    ∀ (f : Nat) (listed : Array Bool) (a : Act) (E : Nat → Nat), HeadInv .any ops n listed →
      (∀ j oj, ops[j]? = some oj → j ≠ i → listed.getD j true = false → (∀ e ∈ oj.after, Region.binds .any e = true → e.on ≠ i) → oi.apart ops oj = true) →
      i ∈ Region.ready .any ops listed → stepG P ops w0 al vals i oi (AnyG P ops w0 al vals n L f (listed.setIfInBounds i true)) a E → AnyG P ops w0 al vals n L (f + 1) listed a E := by
  intro f
  induction f with
  | zero =>
    intro listed a E inv _ hr H
    have hun := (mem_ready.1 hr).1
    refine ⟨fun h => (by rw [h] at hr; cases hr), fun j hj => ?_⟩
    have hjn : j < n := by
      rcases Nat.lt_or_ge j n with h | h
      · exact h
      · exact absurd hj (tail_waits hs hc hn inv _ i rfl hin hun j h)
    refine ⟨hjn, ?_⟩
    by_cases hji : j = i
    · subst hji; exact ⟨oi, hi, H⟩
    · exfalso
      have hL : ∃ a' E', L (listed.setIfInBounds i true) a' E' := by
        unfold stepG at H
        split at H
        · exact ⟨_, _, H.2⟩
        · exact ⟨_, _, H 0⟩
      obtain ⟨a', E', hL⟩ := hL
      have := hdone _ _ _ hL j (ready_mono hj hji)
      omega
  | succ f ih =>
    intro listed a E inv hfree hr H
    have hun := (mem_ready.1 hr).1
    refine ⟨fun h => (by rw [h] at hr; cases hr), fun j hj => ?_⟩
    have hjn : j < n := by
      rcases Nat.lt_or_ge j n with h | h
      · exact h
      · exact absurd hj (tail_waits hs hc hn inv _ i rfl hin hun j h)
    refine ⟨hjn, ?_⟩
    by_cases hji : j = i
    · subst hji; exact ⟨oi, hi, H⟩
    · obtain ⟨hjun, oj, hoj, hall⟩ := mem_ready.1 hj
      have hnot : ∀ e ∈ oj.after, Region.binds .any e = true → e.on ≠ i := fun e he hb heq => by
        have h1 := hall e he hb
        rw [heq, getD_both hun] at h1
        cases h1
      have hap := hfree j oj hoj hji hjun hnot
      have H2 : stepG P ops w0 al vals i oi (fun a' E' => stepG P ops w0 al vals j oj (AnyG P ops w0 al vals n L f ((listed.setIfInBounds i true).setIfInBounds j true)) a' E') a E :=
        stepG_mono (fun a' E' h => by
          obtain ⟨_, o', ho', h'⟩ := h.2 j (ready_mono hj hji)
          obtain rfl : o' = oj := Option.some.inj (ho'.symm.trans hoj)
          exact h') H
      refine ⟨oj, hoj, stepG_mono (fun a' E' h => ?_) (stepG_swap hji hap (hsel i oi · · hi) (hsel j oj · · hoj) H2)⟩
      refine ih (listed.setIfInBounds j true) a' E' (inv.set hj hjn) ?_ (ready_mono hr (Ne.symm hji)) ?_
      · intro k ok hk hki hun' hno
        refine hfree k ok hk hki ?_ hno
        by_cases hjk : j = k
        · subst hjk; exact hjun
        · rw [getD_set_ne true hjk] at hun'; exact hun'
      · rw [Array.setIfInBounds_comm _ _ hji]; exact h
def wpG (P : Program) (ops : Array Oper) (w0 : World) (al : Nat → Option Obj) (vals : Nat → Value) (QT : Act → (Nat → Nat) → Prop) : Nat → Nat → Act → (Nat → Nat) → Prop
  | 0, _, a, E => QT a E
  | m + 1, k, a, E => ∃ o, ops[k]? = some o ∧ stepG P ops w0 al vals k o (wpG P ops w0 al vals QT m (k + 1)) a E
def lexG (ops : Array Oper) (n : Nat) : Nat → Nat → Array Bool → Bool
  | 0, _, listed => Region.seqB .any ops (ops.size - n) n listed
  | m + 1, k, listed => (Region.ready .any ops listed).contains k && Region.free .any ops listed k && decide (k < n) && lexG ops n m (k + 1) (listed.setIfInBounds k true)
theorem wpG_any {QT : Act → (Nat → Nat) → Prop} (hsel : Region.noSelect ops = true) (hs : Region.sinkB .any ops n = true) (hc : Region.chainB .any ops n = true) (hn : n < ops.size) :
    ∀ (m k : Nat) (listed : Array Bool) (a : Act) (E : Nat → Nat), HeadInv .any ops n listed → lexG ops n m k listed = true → wpG P ops w0 al vals QT m k a E →
      AnyG P ops w0 al vals n (fun listed a E => Region.seqB .any ops (ops.size - n) n listed = true ∧ HeadInv .any ops n listed ∧ QT a E) m listed a E
  | 0, k, listed, a, E, inv, hB, h => ⟨hB, inv, h⟩
  | m + 1, k, listed, a, E, inv, hB, h => by
    simp only [lexG, Bool.and_eq_true, decide_eq_true_eq] at hB
    obtain ⟨⟨⟨hr, hf⟩, hk⟩, hB'⟩ := hB
    obtain ⟨o, ho, hst⟩ := h
    have hr' : k ∈ Region.ready .any ops listed := by simpa using hr
    exact AnyG_first ho (Region.noSelect_spec hsel) hs hc hn hk (fun listed a E hL => seqB_ready hL.1) m listed a E inv (Region.free_spec ho hf) hr' (stepG_mono (fun a' E' h' => wpG_any hsel hs hc hn m (k + 1) _ a' E' (inv.set hr' hk) hB' h') hst)
structure Got (al : Nat → Option Obj) (w0 : World) (listed : Array Bool) (E : Nat → Nat) (w : World) : Prop where
  frm : Frm M0 w0 w
  at' : ∀ i obj, al i = some obj → listed.getD i false = true → w0.heap.size ≤ E i ∧ w.heap[E i]? = some obj
  ne : ∀ i j oi oj, al i = some oi → al j = some oj → listed.getD i false = true → listed.getD j false = true → E i = E j → i = j
theorem Got.grow {listed : Array Bool} {E : Nat → Nat} {w w' : World} (h : Got al w0 listed E w) (hf : Frm M0 w w') : Got al w0 listed E w' :=
  ⟨h.frm.same hf, fun i obj h1 h2 => ⟨(h.at' i obj h1 h2).1, hf.heap (h.at' i obj h1 h2).2 (fun h => h)⟩, h.ne⟩
theorem getD_set_cases {listed : Array Bool} {i j : Nat} (h : (listed.setIfInBounds i true).getD j false = true) : j = i ∨ listed.getD j false = true := by
  by_cases hj : i = j
  · exact .inl hj.symm
  · rw [getD_set_ne false hj] at h; exact .inr h
theorem Got.list {listed : Array Bool} {E : Nat → Nat} {w : World} {i : Nat} (h : Got al w0 listed E w) (hi : al i = none) : Got al w0 (listed.setIfInBounds i true) E w := by
  have e : ∀ j oj, al j = some oj → (listed.setIfInBounds i true).getD j false = true → listed.getD j false = true := by
    intro j oj hj hl
    rcases getD_set_cases hl with rfl | h'
    · rw [hi] at hj; cases hj
    · exact h'
  exact ⟨h.frm, fun j obj h1 h2 => h.at' j obj h1 (e j _ h1 h2), fun j k oj ok h1 h2 h3 h4 => h.ne j k oj ok h1 h2 (e j _ h1 h3) (e k _ h2 h4)⟩
theorem Got.made {listed : Array Bool} {E : Nat → Nat} {w : World} {i : Nat} {obj : Obj} (h : Got al w0 listed E w) (hi : al i = some obj) (hl : listed.getD i false = false) : Got al w0 (listed.setIfInBounds i true) (upd E i w.heap.size) (w.alloc obj) := by
  have hlt : ∀ j oj, al j = some oj → listed.getD j false = true → E j < w.heap.size := fun j oj h1 h2 => (Array.getElem?_eq_some_iff.1 (h.at' j oj h1 h2).2).1
  refine ⟨h.frm.alloc _, fun j oj h1 h2 => ?_, fun j k oj ok h1 h2 h3 h4 he => ?_⟩
  · by_cases hj : j = i
    · subst hj
      obtain rfl : oj = obj := Option.some.inj (h1.symm.trans hi)
      simp only [upd, if_true]
      exact ⟨h.frm.size, heap_alloc_last w oj⟩
    · rcases getD_set_cases h2 with h' | h'
      · exact absurd h' hj
      · simp only [upd, if_neg hj]
        exact ⟨(h.at' j oj h1 h').1, ((Frm.refl M0 w).alloc obj).heap (h.at' j oj h1 h').2 (fun h => h)⟩
  · by_cases hj : j = i
    · by_cases hk : k = i
      · rw [hj, hk]
      · rcases getD_set_cases h4 with h' | h'
        · exact absurd h' hk
        · have := hlt k ok h2 h'
          simp only [upd, if_pos hj, if_neg hk] at he
          omega
    · rcases getD_set_cases h3 with h' | h'
      · exact absurd h' hj
      · have hl3 := hlt j oj h1 h'
        by_cases hk : k = i
        · simp only [upd, if_neg hj, if_pos hk] at he; omega
        · rcases getD_set_cases h4 with h'' | h''
          · exact absurd h'' hk
          · simp only [upd, if_neg hj, if_neg hk] at he
            exact h.ne j k oj ok h1 h2 h' h'' he
theorem sound_G {Q : Exit → Act → World → Prop} {g : Nat} (hal : ∀ i o obj, ops[i]? = some o → al i = some obj → o.guard = none ∧ ∀ a w, (execOp (Act.eval a) o).run P w = .ok (.value (ptrV w.heap.size)) (w.alloc obj))
    (HT : ∀ listed a E w, L listed a E → Got al w0 listed E w → wpAny P .any ops Q g listed a w) :
    ∀ (f : Nat) (listed : Array Bool) (a : Act) (E : Nat → Nat) (w : World), AnyG P ops w0 al vals n L f listed a E → Got al w0 listed E w → wpAny P .any ops Q (f + g) listed a w
  | 0, listed, a, E, w, h, hg => by rw [Nat.zero_add]; exact HT _ _ _ _ h hg
  | f + 1, listed, a, E, w, h, hg => by
    rw [show f + 1 + g = (f + g) + 1 by omega]
    refine ⟨fun h0 => absurd h0 h.1, fun i hi => ?_⟩
    obtain ⟨hin, o, ho, hst⟩ := h.2 i hi
    unfold stepG at hst
    cases hai : al i with
    | none =>
      rw [hai] at hst
      exact hst.1.wp ho hg.frm fun w' hf => sound_G hal HT f _ _ _ _ hst.2 ((hg.list hai).grow hf)
    | some obj =>
      rw [hai] at hst
      simp only [] at hst
      obtain ⟨hgd, hx⟩ := hal i o obj ho hai
      unfold wpOp
      simp only [ho]
      have hwt : Region.wanted o (yielded ops a.tmps) = true := by unfold Region.wanted; rw [hgd]
      simp only [hwt, if_true]
      refine .inl ?_
      unfold Oper.wp
      rw [hx]
      exact sound_G hal HT f _ _ _ _ (hst w.heap.size) (hg.made hai (getD_both (mem_ready.1 hi).1))
theorem wpG_val {QT : Act → (Nat → Nat) → Prop} {m k : Nat} {a : Act} {E : Nat → Nat} (o : Oper) (v : Value) (ho : ops[k]? = some o) (hk : al k = none) (hv : vals k = v) (hy : FY P ops w0 o v a) (h : wpG P ops w0 al vals QT m (k + 1) (a.put o.dst v) E) : wpG P ops w0 al vals QT (m + 1) k a E := by
  subst hv
  refine ⟨o, ho, ?_⟩
  unfold stepG; rw [hk]; exact ⟨hy, h⟩
theorem wpG_new {QT : Act → (Nat → Nat) → Prop} {m k : Nat} {a : Act} {E : Nat → Nat} (o : Oper) (obj : Obj) (ho : ops[k]? = some o) (hk : al k = some obj) (h : ∀ b, wpG P ops w0 al vals QT m (k + 1) (a.put o.dst (ptrV b)) (upd E k b)) : wpG P ops w0 al vals QT (m + 1) k a E := by
  refine ⟨o, ho, ?_⟩
  unfold stepG; rw [hk]; exact h
theorem wp_region_G {P : Program} {id : Nat} {Q : Exit → Act → World → Prop} {a : Act} {w : World} {l : List Oper} (n : Nat) (al : Nat → Option Obj) (vals : Nat → Value) (hm : P.follows .mixedOrders = true)
    (hB : (Region.noSelect l.toArray && Region.sinkB .any l.toArray n && Region.chainB .any l.toArray n && decide (n < l.toArray.size) && lexG l.toArray n n 0 (Array.replicate l.toArray.size false)) = true)
    (hal : ∀ i o obj, l.toArray[i]? = some o → al i = some obj → o.guard = none ∧ ∀ a w, (execOp (Act.eval a) o).run P w = .ok (.value (ptrV w.heap.size)) (w.alloc obj))
    (h : ∀ (ops : Array Oper) (QT : Act → (Nat → Nat) → Prop), AllOps ops l 0 →
      Hid (∀ a' E, (∀ w', Frm M0 w w' → (∀ i obj, i < n → al i = some obj → w.heap.size ≤ E i ∧ w'.heap[E i]? = some obj) → (∀ i j oi oj, i < n → j < n → al i = some oi → al j = some oj → E i = E j → i = j) → wpList P l.toArray Q (l.drop n) a' w') → QT a' E) →
      wpG P ops w al vals QT n 0 a (fun _ => 0)) :
    (Code.region id l.toArray true).wp P Q a w := by
  simp only [Bool.and_eq_true, decide_eq_true_eq] at hB
  obtain ⟨⟨⟨⟨hsel, hs⟩, hc⟩, hn⟩, hlex⟩ := hB
  refine wp_region_any hm ?_
  have inv : HeadInv .any l.toArray n (Array.replicate l.toArray.size false) := by
    refine ⟨by simp, ?_, ?_⟩
    · intro j oj _ hl; rw [getD_replicate_false] at hl; cases hl
    · intro t h1 h2
      have : t < l.toArray.size := h2
      simp at this
      simp [this]
  have hG := wpG_any (P := P) (w0 := w) hsel hs hc hn n 0 _ a _ inv hlex (h l.toArray (fun a' E => ∀ w', Frm M0 w w' → (∀ i obj, i < n → al i = some obj → w.heap.size ≤ E i ∧ w'.heap[E i]? = some obj) → (∀ i j oi oj, i < n → j < n → al i = some oi → al j = some oj → E i = E j → i = j) → wpList P l.toArray Q (l.drop n) a' w') (allOps_of l 0 fun j o hj => by simpa using hj) (hid fun _ _ h => h))
  have hsize : l.toArray.size = n + (l.toArray.size - n) := by omega
  have := sound_G (Q := Q) (g := l.toArray.size - n) hal ?_ n _ a (fun _ => 0) { w with drawn := w.drawn + 1 } hG ⟨(Frm.refl M0 w).drew, fun i obj _ hl => (by rw [getD_replicate_false] at hl; cases hl), fun i j oi oj _ _ hl => (by rw [getD_replicate_false] at hl; cases hl)⟩
  · rw [← hsize] at this; exact this
  · rintro listed a' E w' ⟨hq, hv, hQ⟩ hg
    have hin : n ∈ Region.ready .any l.toArray listed := by
      obtain ⟨m, hm⟩ : ∃ m, l.toArray.size - n = m + 1 := ⟨l.toArray.size - n - 1, by omega⟩
      rw [hm] at hq
      simp only [Region.seqB, Bool.and_eq_true, decide_eq_true_eq] at hq
      rw [hq.1]; simp
    have hl : ∀ i, i < n → listed.getD i false = true := fun i hi => by
      have h1 := all_listed hs hc hn hv hin i hi
      have h2 : i < listed.size := by rw [hv.size]; omega
      simp [h2] at h1 ⊢; exact h1
    have hlen : (l.drop n).length = l.toArray.size - n := by simp
    rw [← hlen]
    refine wpAny_of_seq (l.drop n) n listed a' w' (fun j => by simp) (by rw [hlen]; exact hq) (hQ w' hg.frm (fun i obj hi h1 => hg.at' i obj h1 (hl i hi)) (fun i j oi oj hi hj h1 h2 he => hg.ne i j oi oj h1 h2 (hl i hi) (hl j hj) he))
end
end Go.Proofs.YtmacpdddimcmgaaGreatDoor
namespace Go.Proofs.YtmacpdddimcmgaaGreatDoor
set_option linter.unusedVariables false
set_option linter.unusedSimpArgs false
set_option maxRecDepth 20000
open Go.RowKit
section
variable {P : Program} {ops : Array Oper} {w0 : World} {al : Nat → Option Obj} {vals : Nat → Value}
theorem wpG_v {QT : Act → (Nat → Nat) → Prop} {m k : Nat} {a : Act} {E : Nat → Nat} {o : Oper} (ho : ops[k]? = some o) (hk : al k = none) (hy : FY P ops w0 o (vals k) a) (h : wpG P ops w0 al vals QT m (k + 1) (a.put o.dst (vals k)) E) : wpG P ops w0 al vals QT (m + 1) k a E :=
  wpG_val o (vals k) ho hk rfl hy h
end
end Go.Proofs.YtmacpdddimcmgaaGreatDoor
namespace Go.Proofs.YtmacpdddimcmgaaGreatDoor
set_option linter.unusedVariables false
set_option linter.unusedSimpArgs false
set_option maxRecDepth 20000
open Go.RowKit
def putL : Array Value → Nat → List Value → Array Value
  | cur, _, [] => cur
  | cur, k, v :: r => putL (cur.setIfInBounds k v) (k + 1) r
section
variable {P : Program}
theorem addr_add (g o j : Nat) : (⟨g, o, none⟩ : Addr).add j = ⟨g, o + j, none⟩ := add_none g o j
theorem run_storeCells_off (g o : Nat) (t : TypeId) : ∀ (vs : List Value) (i : Nat) (cur : Array Value) (w : World), w.heap[g]? = some (.cells cur t (0, 0)) → o + i + vs.length ≤ cur.size → (∀ v ∈ vs, v.oneCell' = true) →
    ∃ w', (storeCells ⟨g, o, none⟩ vs i).run P w = .ok () w' ∧ w'.heap[g]? = some (.cells (putL cur (o + i) vs) t (0, 0)) ∧ Frm (fun x => x = g) w w'
  | [], i, cur, w, hg, _, _ => ⟨w, rfl, hg, Frm.refl _ _⟩
  | v :: r, i, cur, w, hg, hl, h1 => by
    have hi : o + i < cur.size := by simp at hl; omega
    have hcell : w.cell? ⟨g, o + i, none⟩ = some cur[o + i] := by simp [World.cell?, hg, hi]
    have hfro : w.frozen? ⟨g, o + i, none⟩ = false := by simp [World.frozen?, hg]
    have hst : (store ((⟨g, o, none⟩ : Addr).add i) v).run P w = .ok () (w.setCell ⟨g, o + i, none⟩ v) := by
      rw [addr_add, run_store P w _ v _ (h1 v (by simp)), hcell]
      simp [hfro]
    obtain ⟨w', h2, h3, h4⟩ := run_storeCells_off g o t r (i + 1) (cur.setIfInBounds (o + i) v) (w.setCell ⟨g, o + i, none⟩ v) (heap_set_at hg v) (by simp at hl ⊢; omega) (fun x hx => h1 x (by simp [hx]))
    exact ⟨w', by simp only [storeCells, Sem.run_bind, hst, Result.andThen_ok, h2], h3, ((Frm.refl (fun x => x = g) w).put g (o + i) v (fun _ => rfl)).same h4⟩
theorem wpList_load_at {ops : Array Oper} {rest : List Oper} {op : Oper} {a : Act} {w : World} {Q : Exit → Act → World → Prop} (hw : Region.wanted op (yielded ops a.tmps) = true) (ty : TypeId) (x : Operand) (ho : op.op = .load ty x)
    (g o : Nat) (hx : a.eval x = .pointer (some ⟨g, o, none⟩)) (t : TypeId) (cur : Array Value) (fr : Nat × Nat) (hg : w.heap[g]? = some (.cells cur t fr)) (cs : Array Value) (hc : cs = cur.extract o (o + cs.size)) (hl : o + cs.size ≤ cur.size)
    (d : TypeDesc) (hu : P.underlying ty = some d) (hd : (match d with | .struct _ | .array _ _ => true | _ => false) = true) (hi : (P.info? ty).map (·.size) = some cs.size)
    (h : wpList P ops Q rest (a.put op.dst (.agg cs)) w) : wpList P ops Q (op :: rest) a w := by
  refine BigFrame.wpList_want hw fun K hK => ?_
  have hl : (loadCells ⟨g, o, none⟩ cs.toList.length).run P w = .ok cs.toList.toArray w :=
    run_loadCells_list (P := P) w ⟨g, o, none⟩ cs.toList (fun j v hv => by
      rw [addr_add]
      have hj : j < cs.size := by have := (List.getElem?_eq_some_iff.1 hv).1; simpa using this
      have h1 : cs[j]? = some v := by simpa using hv
      rw [hc] at h1
      rw [Array.getElem?_extract] at h1
      simp only [World.cell?, hg, if_true]
      split at h1
      · exact h1
      · cases h1)
  clear hc
  have hrun : (loadVar ty ⟨g, o, none⟩).run P w = .ok (.agg cs) w := by
    cases hq : P.info? ty with
    | none => simp [hq] at hi
    | some i =>
      have hs : i.size = cs.size := by simpa [hq] using hi
      have hagg : (isAgg ty).run P w = .ok true w := by
        unfold isAgg
        rw [Sem.run_bind, run_underlying hu w]
        cases d <;> simp_all
      simp only [Array.length_toList, Array.toArray_toList] at hl
      simp [loadVar, Sem.run_bind, hagg, sizeOf, typeInfo, hq, hs, hl]
  unfold Oper.wp execOp
  simp only [ho, hx, Instr.loadAt, Instr.sureAddr, Sem.run_bind, Sem.run_pure, Result.andThen_ok, hrun]
  exact hK _ _ h
end
end Go.Proofs.YtmacpdddimcmgaaGreatDoor
namespace Go.Proofs.YtmacpdddimcmgaaGreatDoor
set_option linter.unusedVariables false
set_option linter.unusedSimpArgs false
set_option maxRecDepth 20000
open Go.RowKit
theorem mn_if (x y : Int) : (if y < x then y else x) = min x y := by omega
theorem mx_if (x y : Int) : (if x < y then y else x) = max x y := by omega
theorem run_mn2 {P : Program} (w : World) (ts : Array TypeId) (t : TypeId) (a b : Int) :
    (Builtin.min_ ts t #[.int .i64 a, .int .i64 b]).run P w = .ok (.int .i64 (min a b)) w := by
  simp only [Builtin.min_, List.foldlM_cons, List.foldlM_nil, Builtin.min2, mn_if, Sem.run_bind, Sem.run_pure, Result.andThen_ok]
theorem run_mx2 {P : Program} (w : World) (ts : Array TypeId) (t : TypeId) (a b : Int) :
    (Builtin.max_ ts t #[.int .i64 a, .int .i64 b]).run P w = .ok (.int .i64 (max a b)) w := by
  simp only [Builtin.max_, List.foldlM_cons, List.foldlM_nil, Builtin.max2, mx_if, Sem.run_bind, Sem.run_pure, Result.andThen_ok]
end Go.Proofs.YtmacpdddimcmgaaGreatDoor
namespace Go.Proofs.YtmacpdddimcmgaaGreatDoor
set_option linter.unusedVariables false
set_option linter.unusedSimpArgs false
set_option maxRecDepth 20000
open Go.RowKit
theorem rd_new (w : World) (l : List ByteArray) (hl : l.length ≤ 1000000 := by decide) : Rd (w.alloc (.cells (l.map Value.string).toArray 9)) 1 (.slice (some ⟨w.heap.size, 0, none⟩) l.length l.length) l.length (strs l) := by
  refine ⟨by rw [els_len strs_len], .inr ⟨⟨w.heap.size, 0, none⟩, l.length, rfl, Nat.le_refl _, by unfold maxLen; omega, fun j u hu => ?_⟩⟩
  rw [add_none, World.cell?_alloc_at _ _ _ _ rfl, Nat.zero_add]
  show (l.map Value.string).toArray[j]? = some u
  rw [List.getElem?_toArray, ← hu, show strs l = l.map Value.string from (List.map_eq_flatMap ..).symm]
theorem Rd.strAt {w : World} {b o n c : Nat} {l : List ByteArray} (h : Rd w 1 (.slice (some ⟨b, o, none⟩) n c) l.length (strs l)) (i : Nat) (hi : i < l.length) : w.cell? ⟨b, o + i, none⟩ = some (.string (l[i])) := by
  rcases h.2 with ⟨h2, _⟩ | ⟨x, cap', h2, _, _, hc⟩
  · cases h2
  · simp only [Value.slice.injEq, Option.some.injEq] at h2
    obtain ⟨rfl, rfl, rfl⟩ := h2
    rw [← add_none]
    exact hc i _ (strs_get l i _ (List.getElem?_eq_getElem hi))
end Go.Proofs.YtmacpdddimcmgaaGreatDoor
namespace Go.Proofs.YtmacpdddimcmgaaGreatDoor
set_option linter.unusedVariables false
set_option linter.unusedSimpArgs false
set_option maxRecDepth 20000
theorem dig_toNat {d : Nat} (h : d < 10) : (UInt8.ofNat (48 + d)).toNat = 48 + d := by
  rw [UInt8.toNat_ofNat']; omega
theorem dec_bytes : ∀ (N : Nat), ∀ c ∈ Lib.decDigits N, 48 ≤ c.toNat ∧ c.toNat ≤ 57 := by
  intro N
  induction N using Nat.strongRecOn with
  | ind N ih =>
    intro c hc
    rw [Lib.decDigits] at hc
    split at hc
    · rename_i h
      simp only [List.mem_singleton] at hc
      subst hc
      rw [dig_toNat h]; omega
    · rcases List.mem_append.1 hc with h1 | h1
      · exact ih (N / 10) (by omega) c h1
      · simp only [List.mem_singleton] at h1
        subst h1
        rw [dig_toNat (by omega)]; omega
theorem dec_ne (N : Nat) : Lib.decDigits N ≠ [] := by
  rw [Lib.decDigits]; split <;> simp
theorem dec_head (N : Nat) : ∃ c l, Lib.decDigits N = c :: l ∧ 48 ≤ c.toNat := by
  cases h : Lib.decDigits N with
  | nil => exact absurd h (dec_ne N)
  | cons c l => exact ⟨c, l, rfl, (dec_bytes N c (by rw [h]; simp)).1⟩
theorem parse_app (r : List UInt8) : ∀ (l : List UInt8) (acc : Nat), Lib.parseUint10 acc (l ++ r) = match Lib.parseUint10 acc l with | .ok a => Lib.parseUint10 a r | e => e := by
  intro l
  induction l with
  | nil => intro acc; rfl
  | cons c l ih =>
    intro acc
    simp only [List.cons_append, Lib.parseUint10]
    split
    · split
      · rfl
      · split
        · rfl
        · exact ih _
    · rfl
theorem parse_dec : ∀ (N : Nat), N < 18446744073709551616 → Lib.parseUint10 0 (Lib.decDigits N) = .ok N := by
  intro N
  induction N using Nat.strongRecOn with
  | ind N ih =>
    intro hN
    rw [Lib.decDigits]
    split
    · rename_i h
      simp only [Lib.parseUint10, dig_toNat h]
      rw [if_pos (by omega), if_neg (by omega), if_neg (by omega)]
      congr 1; omega
    · rw [parse_app, ih (N / 10) (by omega) (by omega)]
      simp only [Lib.parseUint10, dig_toNat (show N % 10 < 10 by omega)]
      rw [if_pos (by omega), if_neg (by omega), if_neg (by omega)]
      congr 1; omega
theorem atoi_itoa (u : Int) (h0 : -9223372036854775808 ≤ u) (h1 : u ≤ 9223372036854775807) : Lib.atoiAll (Lib.itoa u) = .ok u := by
  unfold Lib.itoa
  by_cases h : u < 0
  · rw [if_pos h]
    unfold Lib.atoiAll
    simp only []
    rw [if_pos (by right; rfl)]
    have hp : Lib.parseMag (Lib.decDigits u.natAbs) = .ok u.natAbs := by
      unfold Lib.parseMag; rw [if_neg (dec_ne _), parse_dec _ (by omega)]
    rw [hp]
    simp only []
    rw [if_neg (by intro hh; exact hh.1 rfl), if_neg (by omega), if_pos (by rfl)]
    congr 1; omega
  · rw [if_neg h]
    obtain ⟨c, l, e, hc⟩ := dec_head u.toNat
    have hb := dec_bytes u.toNat c (by rw [e]; simp)
    have hp : Lib.parseMag (Lib.decDigits u.toNat) = .ok u.toNat := by
      unfold Lib.parseMag; rw [if_neg (dec_ne _), parse_dec _ (by omega)]
    rw [e] at hp ⊢
    unfold Lib.atoiAll
    simp only []
    rw [if_neg (by omega), hp]
    simp only []
    rw [if_neg (by omega), if_neg (by omega), if_neg (by omega)]
    congr 1; omega
theorem itoa_inj {u v : Int} (h0 : -9223372036854775808 ≤ u ∧ u ≤ 9223372036854775807) (h1 : -9223372036854775808 ≤ v ∧ v ≤ 9223372036854775807) (h : Lib.itoa u = Lib.itoa v) : u = v := by
  have a := atoi_itoa u h0.1 h0.2
  rw [h, atoi_itoa v h1.1 h1.2] at a
  injection a with a
  exact a.symm
end Go.Proofs.YtmacpdddimcmgaaGreatDoor
namespace Go.Proofs.YtmacpdddimcmgaaGreatDoor
set_option linter.unusedVariables false
set_option linter.unusedSimpArgs false
set_option maxRecDepth 20000
open Go.RowKit
theorem str_size (l : List UInt8) : (str l).size = l.length := List.size_toArray
end Go.Proofs.YtmacpdddimcmgaaGreatDoor
namespace Go.Proofs.YtmacpdddimcmgaaGreatDoor
set_option linter.unusedVariables false
set_option linter.unusedSimpArgs false
set_option maxRecDepth 20000
open Go.RowKit
theorem sindex_calls (v : Value) (l : List ByteArray) (x : ByteArray) (w : World) (h : Rd w 1 v l.length (strs l)) (hl : l.length ≤ 1000000) :
    Calls Tryz.prog 162 #[v, .string x] w fun e w' => e = .returned (.int .i64 (Lib.idxOfS l x)) ∧ w = w' := by
  obtain ⟨a, c, rfl, hsh⟩ := h.shape
  by_cases h0 : 0 < l.length
  · obtain ⟨b, o, rfl⟩ := hsh h0
    have := Tryz.slices_Index_string b o l.length c l x w (Nat.le_refl _) (by omega) (fun j hj => by
      rw [List.getD_eq_getElem?_getD, List.getElem?_eq_getElem hj]; exact h.strAt j hj)
    rw [List.take_length] at this
    exact this.mono fun e w' h => ⟨h.1, h.2.symm⟩
  · have e : l = [] := List.eq_nil_of_length_eq_zero (by omega)
    subst e
    exact (Tryz.slices_Index_string_empty a c x w).mono fun e w' h => ⟨h.1, h.2.symm⟩
end Go.Proofs.YtmacpdddimcmgaaGreatDoor
namespace Go.Proofs.YtmacpdddimcmgaaGreatDoor
set_option linter.unusedVariables false
set_option linter.unusedSimpArgs false
set_option maxRecDepth 20000
namespace Cp
end Cp
open Go.RowKit Cp
theorem two {w : World} {g : Nat} {a0 a1 : Value} {e : TypeId} (h : w.heap[g]? = some (.cells #[a0, a1] e (0, 0))) :
    (w.cell? ⟨g, 0, none⟩ = some a0 ∧ w.cell? ⟨g, 1, none⟩ = some a1) ∧ (w.frozen? ⟨g, 0, none⟩ = false ∧ w.frozen? ⟨g, 1, none⟩ = false) := by
  refine ⟨⟨?_, ?_⟩, ?_, ?_⟩ <;> simp [World.cell?, World.frozen?, h]
def RdB (w0 : World) (v : Value) (l : List Int) : Prop := ∀ wx, Frm M0 w0 wx → Rd wx 1 v l.length (ints .u8 l)
theorem RdB.nil (w0 : World) : RdB w0 (.slice none 0 0) [] := fun wx _ => Rd.nil _ _
theorem RdB.shape {w0 : World} {v : Value} {l : List Int} (h : RdB w0 v l) : ∃ a c, v = .slice a l.length c ∧ Hid (0 < l.length → ∃ b o, a = some ⟨b, o, none⟩) ∧ l.length ≤ c ∧ c ≤ 9223372036854775807 := by
  have h0 := h w0 (Frm.refl _ _)
  obtain ⟨a, c, rfl, hab⟩ := h0.shape
  obtain ⟨_, h1, h2⟩ := h0.cap
  exact ⟨a, c, rfl, hid hab, h1, h2⟩
theorem RdB.take {w0 : World} {x : Addr} {n c : Nat} {l : List Int} (h : RdB w0 (.slice (some x) n c) l) (i : Nat) (hi : i ≤ l.length) : RdB w0 (.slice (some x) i c) (l.take i) := fun wx hf => by
  have hc := (h wx hf).cap
  have h1 := h wx hf
  rw [hc.1] at h1
  exact h1.take i hi
end Go.Proofs.YtmacpdddimcmgaaGreatDoor
namespace Go.Proofs.YtmacpdddimcmgaaGreatDoor
set_option linter.unusedVariables false
set_option linter.unusedSimpArgs false
set_option maxRecDepth 20000
namespace Cp
end Cp
open Go.RowKit Cp
theorem btw_true {n lo hi : Int} : btw n lo hi = true ↔ lo ≤ n ∧ n ≤ hi := by simp [btw]
theorem stepF_le {s n last : Int} {f : Bool} (h : stepF s n last f = true) (h0 : 0 ≤ last) : 0 ≤ n ∧ n ≤ 100 := by
  unfold stepF at h
  by_cases hs : s = 0
  · cases f
    · by_cases hn : n = 0
      · omega
      · by_cases hl : last = 0
        · simp [hs, hn, hl] at h
        · simp [hs, hn, hl] at h; omega
    · simp [hs] at h; omega
  · simp [hs] at h; omega
theorem chkE_zero (p : Sp) : p.chkE = 0 ↔ p.conds.all id = true := by
  unfold Sp.chkE
  cases p.conds.all id <;> simp
theorem req_iff (a b c d e : Int) (t : ByteArray) (p : Sp) : req ⟨a, b, c, d, e, t, p⟩ Rc.zero = true ↔ a = 0 ∧ b = 0 ∧ c = 0 ∧ d = 0 ∧ e = 0 ∧ t = .empty ∧ p = Sp.zero := by
  simp [req, Rc.zero]
end Go.Proofs.YtmacpdddimcmgaaGreatDoor
namespace Go.Proofs.YtmacpdddimcmgaaGreatDoor
set_option linter.unusedVariables false
set_option linter.unusedSimpArgs false
set_option maxRecDepth 20000
open Go.RowKit
theorem nums_le2 {p : Sp} (h : p.chkE = 0) : ∀ x ∈ p.nums, 0 ≤ x ∧ x ≤ 1048576 := by
  rw [chkE_zero] at h
  unfold Sp.conds at h
  simp only [List.all_cons, List.all_nil, id_eq, Bool.and_true, Bool.and_eq_true, btw_true, IntWalk.i64_left] at h
  obtain ⟨h0, h1, h2, h3, h4, h5, h6, h7, h8, h9, h10, h11⟩ := h
  have hw : wrap64 (16 - p.s1) = 16 - p.s1 := by unfold wrap64; omega
  rw [hw] at h2
  have b5 := stepF_le (s := p.s4) (n := p.s5) (last := 0) (f := true) h5 (by omega)
  have b6 := stepF_le (s := p.s4) (n := p.s6) (last := p.s5) (f := false) h6 b5.1
  have b7 := stepF_le (s := p.s4) (n := p.s7) (last := p.s6) (f := false) h7 b6.1
  have b8 := stepF_le (s := p.s4) (n := p.s8) (last := p.s7) (f := false) h8 b7.1
  have h31 := h3.1
  have h41 := h4.1
  intro x hx
  simp only [Sp.nums, List.mem_cons, List.not_mem_nil, or_false] at hx
  rcases hx with rfl | rfl | rfl | rfl | rfl | rfl | rfl | rfl | rfl | rfl | rfl | rfl <;> omega
end Go.Proofs.YtmacpdddimcmgaaGreatDoor
namespace Go.Proofs.YtmacpdddimcmgaaGreatDoor
set_option linter.unusedVariables false
set_option linter.unusedSimpArgs false
set_option maxRecDepth 20000
namespace Cp
end Cp
open Go.RowKit Cp
theorem right_facts {r : Rc} (h : rightB r = true) : (1 ≤ r.k ∧ r.k ≤ 7) ∧ (1 ≤ r.e ∧ r.e ≤ 1099511627776) ∧ (0 ≤ r.w ∧ r.w ≤ 1099511627776) ∧ (0 ≤ r.n ∧ r.n ≤ 1099511627776) ∧ (0 ≤ r.q ∧ r.q ≤ 1099511627776) ∧ r.t.size ≤ 64 ∧
    (r.k ≠ 3 → r.p = Sp.zero) ∧ (r.k = 3 → r.p.chkE = 0) := by
  have he : (ByteArray.empty).size = 0 := rfl
  obtain ⟨k, e, v, n, q, t, p⟩ := r
  unfold rightB at h
  rw [Bool.and_eq_true, btw_true] at h
  obtain ⟨h1, h2⟩ := h
  by_cases hk : 1 ≤ k ∧ k ≤ 7
  case neg =>
    exfalso
    unfold mayK at h2
    rw [if_neg (show ¬ k = 1 by omega), if_neg (show ¬ k = 2 by omega), if_neg (show ¬ k = 3 by omega), if_neg (show ¬ k = 4 by omega), if_neg (show ¬ k = 5 by omega), if_neg (show ¬ k = 6 by omega), if_neg (show ¬ k = 7 by omega)] at h2
    cases h2
  have hk' : k = 1 ∨ k = 2 ∨ k = 3 ∨ k = 4 ∨ k = 5 ∨ k = 6 ∨ k = 7 := by omega
  simp only [] at h1
  rcases hk' with rfl | rfl | rfl | rfl | rfl | rfl | rfl
  · have h3 : leadB ⟨1, e, v, n, q, t, p⟩ = true := h2
    simp only [leadB, Bool.and_eq_true, btw_true, req_iff] at h3
    obtain ⟨a, b, c, _, _, _, _, _, rfl, rfl⟩ := h3
    exact ⟨by simp, by simp only []; omega, by simp only []; omega, by simp only []; omega, by simp only []; omega, by simp [he], fun _ => rfl, fun h => by simp at h⟩
  · have h3 : publishB ⟨2, e, v, n, q, t, p⟩ = true := h2
    simp only [publishB, Bool.and_eq_true, btw_true, req_iff] at h3
    obtain ⟨a, b, _, _, hv, _, hq, _, hp⟩ := h3
    exact ⟨by simp, by simp only []; omega, by simp only []; omega, by simp only []; omega, by simp only []; omega, by simp only []; omega, fun _ => hp, fun h => by simp at h⟩
  · have h3 : beginB ⟨3, e, v, n, q, t, p⟩ = true := h2
    simp only [beginB, Bool.and_eq_true, btw_true, req_iff, decide_eq_true_eq] at h3
    obtain ⟨a, b, _, _, hv, _, hq, rfl, _⟩ := h3
    exact ⟨by simp, by simp only []; omega, by simp only []; omega, by simp only []; omega, by simp only []; omega, by simp [he], fun h => absurd rfl h, fun _ => a⟩
  · have h3 : moveB ⟨4, e, v, n, q, t, p⟩ = true := h2
    simp only [moveB, Bool.and_eq_true, btw_true, req_iff] at h3
    obtain ⟨a, b, _, _, hv, _, hq, _, hp⟩ := h3
    exact ⟨by simp, by simp only []; omega, by simp only []; omega, by simp only []; omega, by simp only []; omega, by simp only []; omega, fun _ => hp, fun h => by simp at h⟩
  · have h3 : intentB ⟨5, e, v, n, q, t, p⟩ = true := h2
    simp only [intentB, unitB, Bool.and_eq_true, btw_true, req_iff] at h3
    obtain ⟨⟨a, b, _, _, _, _, _, rfl, hp⟩, c⟩ := h3
    exact ⟨by simp, by simp only []; omega, by simp only []; omega, by simp only []; omega, by simp only []; omega, by simp [he], fun _ => hp, fun h => by simp at h⟩
  · have h3 : ackB ⟨6, e, v, n, q, t, p⟩ = true := h2
    simp only [ackB, unitB, Bool.and_eq_true, btw_true, req_iff, decide_eq_true_eq] at h3
    obtain ⟨⟨a, b, _, _, _, _, _, rfl, hp⟩, c⟩ := h3
    exact ⟨by simp, by simp only []; omega, by simp only []; omega, by simp only []; omega, by simp only []; omega, by simp [he], fun _ => hp, fun h => by simp at h⟩
  · have h3 : stepB ⟨7, e, v, n, q, t, p⟩ = true := h2
    simp only [stepB, Bool.and_eq_true, btw_true, req_iff] at h3
    obtain ⟨a, b, c, _, _, _, _, hq, _, hp⟩ := h3
    exact ⟨by simp, by simp only []; omega, by simp only []; omega, by simp only []; omega, by simp only []; omega, by simp only []; omega, fun _ => hp, fun h => by simp at h⟩
end Go.Proofs.YtmacpdddimcmgaaGreatDoor
namespace Go.Proofs.YtmacpdddimcmgaaGreatDoor
set_option linter.unusedVariables false
set_option linter.unusedSimpArgs false
set_option maxRecDepth 20000
namespace Cp
end Cp
open Go.RowKit Cp
theorem RdB.later {W w : World} {v : Value} {l : List Int} (h : RdB W v l) (hf : Frm M0 W w) : RdB w v l := fun wx hx => h wx (hf.then0 hx)
end Go.Proofs.YtmacpdddimcmgaaGreatDoor
namespace Go.Proofs.YtmacpdddimcmgaaGreatDoor
set_option linter.unusedVariables false
set_option linter.unusedSimpArgs false
set_option maxRecDepth 20000
structure Ls where
  h : Int
  e : Int
  u : Int
  deriving DecidableEq
def lateF (a b : Int) : Int := min (a + b) 1099511627776
def ltRight (h n q : Int) : Bool := decide (0 ≤ h) && (decide (h < 64) && (decide (0 ≤ n) && (decide (n ≤ 1099511627776) && (decide (1 ≤ q) && decide (q ≤ 1048576)))))
def freeF (m : Int) (l : Option Ls) (now : Int) : Bool := match l with | none => true | some l => decide (l.u = 0) || decide (lateF l.u m ≤ now)
def holdsF (l : Option Ls) (h e now : Int) : Bool := match l with | none => false | some l => decide (l.h = h ∧ l.e = e) && (decide (0 < l.u) && decide (now < l.u))
def takeF (m : Int) (l : Option Ls) (h now q : Int) : Option Ls × Int × Int :=
  if ltRight h now q = false then (l, 0, 1)
  else if freeF m l now = false then (l, 0, 9)
  else
    let e := (match l with | none => 0 | some l => l.e) + 1
    (some ⟨h, e, lateF now q⟩, e, 0)
def ownF (l : Option Ls) (h e : Int) : Int := match l with | none => 5 | some l => if l.h = h ∧ l.e = e then 0 else 8
def renewF (l : Option Ls) (h e now q : Int) : Option Ls × Int × Int :=
  if ltRight h now q = false then (l, 0, 1)
  else if ownF l h e ≠ 0 then (l, 0, ownF l h e)
  else if holdsF l h e now = false then (l, 0, 9)
  else match l with
    | none => (l, 0, 5)
    | some x => (some ⟨x.h, x.e, max x.u (lateF now q)⟩, max x.u (lateF now q), 0)
end Go.Proofs.YtmacpdddimcmgaaGreatDoor
namespace Go.Proofs.YtmacpdddimcmgaaGreatDoor
set_option linter.unusedVariables false
set_option linter.unusedSimpArgs false
set_option maxRecDepth 20000
open Go.RowKit
/- Phases. -/
def phT : List (List Int) := [[1, -1, -1, -1, -1, -1, -1, -1, -1], [-1, 2, -1, 1, 4, 4, 4, 3, -1], [-1, -1, 1, -1, -1, -1, 4, -1, -1], [1, -1, -1, -1, -1, -1, -1, -1, -1], [-1, -1, -1, -1, -1, -1, -1, -1, 5], [1, -1, -1, -1, -1, -1, -1, -1, -1]]
def phL (p ev : Int) : Int := (phT.getD p.toNat []).getD ev.toNat (-1)
def nextF (p ev : Int) : Int × Bool := if (0 ≤ p ∧ p < 6) ∧ (0 ≤ ev ∧ ev < 9) ∧ phL p ev ≠ -1 then (phL p ev, true) else (p, false)
def evL : List ByteArray := [⟨#[98, 101, 103, 105, 110]⟩, ⟨#[112, 97, 117, 115, 101]⟩, ⟨#[114, 101, 115, 117, 109, 101]⟩, ⟨#[112, 114, 111, 109, 111, 116, 101]⟩, ⟨#[104, 101, 97, 108, 116, 104]⟩, ⟨#[100, 101, 97, 100, 108, 105, 110, 101]⟩, ⟨#[97, 98, 111, 114, 116]⟩, ⟨#[100, 111, 110, 101]⟩, ⟨#[98, 97, 99, 107]⟩]
def ofF (t : ByteArray) : Int × Bool := (max (Lib.idxOfS evL t) 0, decide (0 ≤ Lib.idxOfS evL t))
def openF (p : Int) : Bool := decide (p = 1) || (decide (p = 2) || decide (p = 4))
def betweenF (f t : Int) : List Int := ((List.range 9).map Int.ofNat).filter fun ev => decide (nextF f ev = (t, true))
structure Vw where
  epoch : Int
  leader : Int
  until' : Int
  stable : Int
  from' : Int
  phase : Int
  step : Int
  since : Int
  begun : Int
  seq : Int
  spec : Sp
  deriving DecidableEq
def Vw.zero : Vw := ⟨0, 0, 0, 0, 0, 0, 0, 0, 0, 0, Sp.zero⟩
def Vw.cells (v : Vw) : List Value := [.int .i64 v.epoch, .int .i64 v.leader, .int .i64 v.until', .int .i64 v.stable, .int .i64 v.from', .int .i64 v.phase, .int .i64 v.step, .int .i64 v.since, .int .i64 v.begun, .int .i64 v.seq, .int .i64 v.spec.s0, .int .i64 v.spec.s1, .int .i64 v.spec.s2, .int .i64 v.spec.s3, .int .i64 v.spec.s4, .int .i64 v.spec.s5, .int .i64 v.spec.s6, .int .i64 v.spec.s7, .int .i64 v.spec.s8, .int .i64 v.spec.s9, .int .i64 v.spec.s10, .int .i64 v.spec.s11]
structure Un where
  v : Int
  s : Int
  d : Bool
  deriving DecidableEq
structure Bk where
  m : Int
  l : Option Ls
  vs : List (Int × ByteArray)
  w : Vw
  us : List Un
  h : List Rc
def Bk.new (m : Int) : Bk := ⟨m, none, [], Vw.zero, List.replicate 16 ⟨0, 0, true⟩, []⟩
def Bk.digest (b : Bk) (n : Int) : Option ByteArray := (b.vs.find? fun x => decide (x.1 = n)).map (·.2)
def Bk.unit (b : Bk) (i : Int) : Un := b.us.getD i.toNat ⟨0, 0, true⟩
def passedS : ByteArray := ⟨#[112, 97, 115, 115, 101, 100]⟩
def promoteS : ByteArray := ⟨#[112, 114, 111, 109, 111, 116, 101]⟩
def stepsN (p : Sp) : Int := (([p.s5, p.s6, p.s7, p.s8].takeWhile (fun n => n != 0)).length : Nat)
def Bk.leadE (b : Bk) (r : Rc) : Int :=
  if r.e = b.w.epoch then (if b.w.leader ≠ r.w ∨ holdsF b.l r.w r.e r.n = false then 9 else 0)
  else if r.e = wrap64 (b.w.epoch + 1) then (if freeF b.m b.l r.n = false then 9 else 0) else 8
def Bk.publishE (b : Bk) (r : Rc) : Int := if (b.digest r.n).isSome = true then 6 else if 64 ≤ b.vs.length then 4 else 0
def Bk.beginE (b : Bk) (r : Rc) : Int := if openF b.w.phase = true then 10 else if (b.digest r.p.s0).isSome = false then 5 else if r.p.s0 = b.w.stable then 6 else 0
def Bk.moveE (b : Bk) (r : Rc) : Int := if (ofF r.t).2 = false ∨ (ofF r.t).1 = 0 ∨ (ofF r.t).1 = 3 then 2 else if (ofF r.t).1 ∈ betweenF b.w.phase r.n then 0 else 10
def Bk.intentE (b : Bk) (r : Rc) : Int := if b.w.phase ≠ 1 ∧ b.w.phase ≠ 4 then 10 else if r.q ≠ wrap64 (b.w.seq + 1) then 7 else if r.n ≠ 0 ∧ r.n ≠ b.w.spec.s0 ∧ r.n ≠ b.w.from' then 5 else 0
def Bk.ackE (b : Bk) (r : Rc) : Int := if (b.unit r.w).s ≠ r.q then 7 else if (b.unit r.w).d = true then 10 else 0
def Bk.stepE (b : Bk) (r : Rc) : Int := if b.w.phase ≠ 1 then 10 else if r.t ≠ passedS ∧ r.t ≠ promoteS then 2 else if r.w ≠ wrap64 (b.w.step + 1) ∨ stepsN b.w.spec < r.w then 7 else 0
def Bk.check (b : Bk) (r : Rc) : Int :=
  if rightB r = false then 1
  else if r.k ≠ 1 ∧ r.e ≠ b.w.epoch then 8
  else if r.k = 1 then b.leadE r else if r.k = 2 then b.publishE r else if r.k = 3 then b.beginE r else if r.k = 4 then b.moveE r else if r.k = 5 then b.intentE r else if r.k = 6 then b.ackE r else b.stepE r
def Bk.leads (b : Bk) (r : Rc) : Option Ls := if r.e = b.w.epoch then (renewF b.l r.w r.e r.n r.q).1 else (takeF b.m b.l r.w r.n r.q).1
def lastN (l : List Rc) : List Rc := l.drop (l.length - 24)
def Bk.does (b : Bk) (r : Rc) : Bk :=
  if r.k = 1 then
    let l := b.leads r
    let x := l.getD ⟨0, 0, 0⟩
    { b with l := l, w := { b.w with epoch := x.e, leader := x.h, until' := x.u } }
  else if r.k = 2 then { b with vs := b.vs ++ [(r.n, r.t)] }
  else if r.k = 3 then { b with w := { b.w with spec := r.p, phase := 1, step := 0, since := r.n, begun := r.n, from' := b.w.stable }, h := lastN (b.h ++ [r]) }
  else if r.k = 4 then { b with w := { b.w with phase := r.n, stable := if r.n = 3 then b.w.spec.s0 else b.w.stable }, h := lastN (b.h ++ [r]) }
  else if r.k = 5 then { b with w := { b.w with seq := r.q }, us := b.us.set r.w.toNat ⟨r.n, r.q, false⟩ }
  else if r.k = 6 then { b with us := b.us.set r.w.toNat ⟨(b.unit r.w).v, (b.unit r.w).s, true⟩ }
  else { b with w := { b.w with step := r.w, since := r.n }, h := lastN (b.h ++ [r]) }
def Bk.apply (b : Bk) (r : Rc) : Bk × Int := if b.check r = 0 then (b.does r, 0) else (b, b.check r)
end Go.Proofs.YtmacpdddimcmgaaGreatDoor
namespace Go.Proofs.YtmacpdddimcmgaaGreatDoor
set_option linter.unusedVariables false
set_option linter.unusedSimpArgs false
set_option maxRecDepth 20000
open Go.RowKit
structure Bk.Inv (b : Bk) : Prop where
  us : b.us.length = 16
  lv : (b.l = none ∧ b.w.epoch = 0) ∨ ∃ x, b.l = some x ∧ x.e = b.w.epoch ∧ x.h = b.w.leader
  ep : 0 ≤ b.w.epoch ∧ b.w.epoch ≤ 1099511627776
  sq : 0 ≤ b.w.seq ∧ b.w.seq ≤ 1099511627776
  un : ∀ u ∈ b.us, 0 ≤ u.s ∧ u.s ≤ b.w.seq
  hi : b.h.length ≤ 24
  vs : b.vs.length ≤ 64
  st : b.w.stable = 0 ∨ (b.digest b.w.stable).isSome = true
  sp : openF b.w.phase = true → (b.digest b.w.spec.s0).isSome = true
  fr : openF b.w.phase = true ∨ b.w.phase = 5 → b.w.stable = b.w.from'
theorem Bk.inv_new (m : Int) : (Bk.new m).Inv where
  us := by simp [Bk.new]
  lv := .inl ⟨rfl, rfl⟩
  ep := by simp [Bk.new, Vw.zero]
  sq := by simp [Bk.new, Vw.zero]
  un u hu := by
    simp only [Bk.new, List.mem_replicate] at hu
    rw [hu.2]; simp [Bk.new, Vw.zero]
  hi := by simp [Bk.new]
  vs := by simp [Bk.new]
  st := .inl rfl
  sp h := by simp [Bk.new, Vw.zero, openF] at h
  fr h := by simp [Bk.new, Vw.zero, openF] at h
theorem right_kind {r : Rc} (h : rightB r = true) : 1 ≤ r.k ∧ r.k ≤ 7 := (right_facts h).1
theorem right_lead {r : Rc} (h : rightB r = true) (hk : r.k = 1) : ltRight r.w r.n r.q = true := by
  obtain ⟨k, e, v, n, q, t, p⟩ := r
  simp only [] at hk
  subst hk
  unfold rightB at h
  rw [Bool.and_eq_true] at h
  have h3 : leadB ⟨1, e, v, n, q, t, p⟩ = true := h.2
  simp only [leadB, Bool.and_eq_true, btw_true] at h3
  obtain ⟨h4, h5, h6, _⟩ := h3
  simp only [ltRight, Bool.and_eq_true, decide_eq_true_eq]
  omega
theorem right_unit {r : Rc} (h : rightB r = true) (hk : r.k = 5 ∨ r.k = 6) : 0 ≤ r.w ∧ r.w ≤ 15 := by
  obtain ⟨k, e, v, n, q, t, p⟩ := r
  simp only [] at hk
  unfold rightB at h
  rw [Bool.and_eq_true] at h
  rcases hk with rfl | rfl
  · have h3 : intentB ⟨5, e, v, n, q, t, p⟩ = true := h.2
    simp only [intentB, unitB, Bool.and_eq_true, btw_true] at h3
    exact h3.1.1
  · have h3 : ackB ⟨6, e, v, n, q, t, p⟩ = true := h.2
    simp only [ackB, unitB, Bool.and_eq_true, btw_true] at h3
    exact h3.1.1
theorem check_zero {b : Bk} {r : Rc} (h : b.check r = 0) : rightB r = true ∧ (r.k = 1 ∨ r.e = b.w.epoch) ∧
    ((r.k = 1 ∧ b.leadE r = 0) ∨ (r.k = 2 ∧ b.publishE r = 0) ∨ (r.k = 3 ∧ b.beginE r = 0) ∨ (r.k = 4 ∧ b.moveE r = 0) ∨ (r.k = 5 ∧ b.intentE r = 0) ∨ (r.k = 6 ∧ b.ackE r = 0) ∨ (r.k = 7 ∧ b.stepE r = 0)) := by
  unfold Bk.check at h
  by_cases hr : rightB r = false
  · rw [if_pos hr] at h; cases h
  rw [if_neg hr] at h
  have hr : rightB r = true := by simpa using hr
  have hk := right_kind hr
  by_cases he : r.k ≠ 1 ∧ r.e ≠ b.w.epoch
  · rw [if_pos he] at h; cases h
  rw [if_neg he] at h
  refine ⟨hr, by omega, ?_⟩
  have hc : r.k = 1 ∨ r.k = 2 ∨ r.k = 3 ∨ r.k = 4 ∨ r.k = 5 ∨ r.k = 6 ∨ r.k = 7 := by omega
  rcases hc with hk | hk | hk | hk | hk | hk | hk <;> simp [hk] at h ⊢ <;> exact h
theorem leads_some {b : Bk} (hi : b.Inv) {r : Rc} (hr : rightB r = true) (hk : r.k = 1) (h : b.leadE r = 0) : ∃ u, b.leads r = some ⟨r.w, r.e, u⟩ ∧ (r.e = b.w.epoch ∨ r.e = b.w.epoch + 1) := by
  have hl := right_lead hr hk
  have hep := hi.ep
  have hw : wrap64 (b.w.epoch + 1) = b.w.epoch + 1 := by unfold wrap64; omega
  unfold Bk.leadE at h
  rw [hw] at h
  unfold Bk.leads
  by_cases h1 : r.e = b.w.epoch
  · rw [if_pos h1] at h ⊢
    split at h
    · cases h
    · rename_i hn
      have hld : b.w.leader = r.w := by
        apply Classical.byContradiction; intro hx; exact hn (.inl hx)
      have hh : holdsF b.l r.w r.e r.n = true := by
        cases hq : holdsF b.l r.w r.e r.n with
        | true => rfl
        | false => exact absurd (.inr hq) hn
      rcases hi.lv with ⟨h2, _⟩ | ⟨x, h2, h3, h4⟩
      · rw [h2] at hh; cases hh
      · unfold renewF
        rw [hl, if_neg (by decide)]
        have hown : ownF b.l r.w r.e = 0 := by
          rw [h2]; unfold ownF
          simp only []
          rw [if_pos ⟨by rw [h4, hld], by rw [h3, h1]⟩]
        rw [hown, if_neg (by decide), hh, if_neg (by decide), h2]
        refine ⟨max x.u (lateF r.n r.q), ?_, .inl h1⟩
        show some (⟨x.h, x.e, max x.u (lateF r.n r.q)⟩ : Ls) = _
        rw [h4, hld, h3, h1]
  · rw [if_neg h1] at h ⊢
    by_cases h2 : r.e = b.w.epoch + 1
    · rw [if_pos h2] at h
      split at h
      · cases h
      · rename_i hn
        have hf : freeF b.m b.l r.n = true := by simpa using hn
        unfold takeF
        rw [hl, if_neg (by decide), hf, if_neg (by decide)]
        have he : (match b.l with | none => (0 : Int) | some l => l.e) + 1 = r.e := by
          rcases hi.lv with ⟨h3, h4⟩ | ⟨x, h3, h4, _⟩
          · rw [h3]; simp only []; omega
          · rw [h3]; simp only []; omega
        refine ⟨lateF r.n r.q, ?_, .inr h2⟩
        show some (⟨r.w, (match b.l with | none => (0 : Int) | some l => l.e) + 1, lateF r.n r.q⟩ : Ls) = _
        rw [he]
    · rw [if_neg h2] at h; cases h
theorem ph_fin : ∀ (p : Fin 6) (ev : Fin 9), ev.val ≠ 0 → phL p.val ev.val ≠ -1 → (p.val = 1 ∨ p.val = 2 ∨ p.val = 4) ∧ (phL p.val ev.val = 3 → p.val = 1) ∧ (phL p.val ev.val = 5 → p.val = 4) := by decide +kernel
theorem move_from {b : Bk} {r : Rc} (h : b.moveE r = 0) : openF b.w.phase = true ∧ (r.n = 3 → b.w.phase = 1) := by
  unfold Bk.moveE at h
  split at h
  · cases h
  · rename_i hn
    split at h
    · rename_i hm
      unfold betweenF at hm
      rw [List.mem_filter] at hm
      obtain ⟨hm1, hm2⟩ := hm
      have hm2 := of_decide_eq_true hm2
      obtain ⟨j, hj, he⟩ := List.mem_map.1 hm1
      rw [List.mem_range] at hj
      have h0 : (ofF r.t).1 ≠ 0 := fun h => hn (.inr (.inl h))
      rw [← he] at hm2 h0
      unfold nextF at hm2
      split at hm2
      · rename_i hc
        obtain ⟨hp, _, hne⟩ := hc
        obtain ⟨p, hpp⟩ : ∃ p : Nat, b.w.phase = p := ⟨b.w.phase.toNat, by omega⟩
        rw [hpp] at hm2 hne hp ⊢
        have hf := ph_fin ⟨p, by omega⟩ ⟨j, hj⟩ (by intro h; apply h0; simp only [] at h; rw [h]; rfl) hne
        obtain ⟨hf1, hf2, _⟩ := hf
        simp only [] at hf1 hf2
        have hn2 : phL p (Int.ofNat j) = r.n := (Prod.mk.inj hm2).1
        refine ⟨?_, fun h3 => ?_⟩
        · unfold openF
          rcases hf1 with h | h | h <;> rw [h] <;> rfl
        · have := hf2 (hn2.trans h3)
          omega
      · have h2 := (Prod.mk.inj hm2).2
        cases h2
    · cases h
theorem digest_more {b : Bk} {n k : Int} {t : ByteArray} (h : (b.digest n).isSome = true) : (Bk.digest { b with vs := b.vs ++ [(k, t)] } n).isSome = true := by
  unfold Bk.digest at h ⊢
  simp only [Option.isSome_map, List.find?_append] at h ⊢
  cases hq : List.find? (fun x : Int × ByteArray => decide (x.1 = n)) b.vs with
  | none => rw [hq] at h; cases h
  | some x => rfl
theorem lastN_len (l : List Rc) : (lastN l).length ≤ 24 := by unfold lastN; rw [List.length_drop]; omega
theorem lead_epoch {r : Rc} (h : rightB r = true) : 1 ≤ r.e ∧ r.e ≤ 1099511627776 := (right_facts h).2.1
theorem mem_set {α : Type} {l : List α} {i : Nat} {a x : α} (h : x ∈ l.set i a) : x = a ∨ x ∈ l := by
  rcases List.mem_or_eq_of_mem_set h with h | h
  · exact .inr h
  · exact .inl h
theorem unit_mem {b : Bk} (hi : b.Inv) {w : Int} (h : 0 ≤ w ∧ w ≤ 15) : b.unit w ∈ b.us := by
  unfold Bk.unit
  rw [List.getD_eq_getElem?_getD, List.getElem?_eq_getElem (by have := hi.us; omega)]
  exact List.getElem_mem _
theorem Bk.inv_does {b : Bk} (hi : b.Inv) {r : Rc} (h : b.check r = 0) : (b.does r).Inv := by
  obtain ⟨hr, he, hc⟩ := check_zero h
  have hep := lead_epoch hr
  rcases hc with ⟨hk, h0⟩ | ⟨hk, h0⟩ | ⟨hk, h0⟩ | ⟨hk, h0⟩ | ⟨hk, h0⟩ | ⟨hk, h0⟩ | ⟨hk, h0⟩
  · obtain ⟨u, hl, _⟩ := leads_some hi hr hk h0
    have e : b.does r = { b with l := some ⟨r.w, r.e, u⟩, w := { b.w with epoch := r.e, leader := r.w, until' := u } } := by
      unfold Bk.does
      rw [if_pos hk, hl]; rfl
    rw [e]
    exact ⟨hi.us, .inr ⟨_, rfl, rfl, rfl⟩, ⟨by show (0 : Int) ≤ r.e; omega, hep.2⟩, hi.sq, hi.un, hi.hi, hi.vs, hi.st, hi.sp, hi.fr⟩
  · have e : b.does r = { b with vs := b.vs ++ [(r.n, r.t)] } := by
      unfold Bk.does
      rw [if_neg (by omega), if_pos hk]
    rw [e]
    have hv : b.vs.length < 64 := by
      unfold Bk.publishE at h0
      split at h0
      · cases h0
      · split at h0
        · cases h0
        · omega
    refine ⟨hi.us, hi.lv, hi.ep, hi.sq, hi.un, hi.hi, by simp; omega, ?_, fun ho => digest_more (hi.sp ho), hi.fr⟩
    rcases hi.st with h1 | h1
    · exact .inl h1
    · exact .inr (digest_more h1)
  · have e : b.does r = { b with w := { b.w with spec := r.p, phase := 1, step := 0, since := r.n, begun := r.n, from' := b.w.stable }, h := lastN (b.h ++ [r]) } := by
      unfold Bk.does
      rw [if_neg (by omega), if_neg (by omega), if_pos hk]
    rw [e]
    have hd : (b.digest r.p.s0).isSome = true := by
      unfold Bk.beginE at h0
      split at h0
      · cases h0
      · split at h0
        · cases h0
        · rename_i hn
          cases hq : (b.digest r.p.s0).isSome with
          | true => rfl
          | false => exact absurd hq hn
    exact ⟨hi.us, hi.lv, hi.ep, hi.sq, hi.un, lastN_len _, hi.vs, hi.st, fun _ => hd, fun _ => rfl⟩
  · have e : b.does r = { b with w := { b.w with phase := r.n, stable := if r.n = 3 then b.w.spec.s0 else b.w.stable }, h := lastN (b.h ++ [r]) } := by
      unfold Bk.does
      rw [if_neg (by omega), if_neg (by omega), if_neg (by omega), if_pos hk]
    rw [e]
    obtain ⟨ho, h1⟩ := move_from h0
    refine ⟨hi.us, hi.lv, hi.ep, hi.sq, hi.un, lastN_len _, hi.vs, ?_, fun _ => hi.sp ho, fun hp => ?_⟩
    · show (if r.n = 3 then b.w.spec.s0 else b.w.stable) = 0 ∨ (b.digest (if r.n = 3 then b.w.spec.s0 else b.w.stable)).isSome = true
      split
      · exact .inr (hi.sp ho)
      · exact hi.st
    · have hn : ¬ r.n = 3 := by
        intro h3
        have hp2 : openF r.n = true ∨ r.n = 5 := hp
        rw [h3] at hp2
        rcases hp2 with h | h
        · revert h; decide
        · omega
      show (if r.n = 3 then b.w.spec.s0 else b.w.stable) = b.w.from'
      rw [if_neg hn]
      exact hi.fr (.inl ho)
  · have e : b.does r = { b with w := { b.w with seq := r.q }, us := b.us.set r.w.toNat ⟨r.n, r.q, false⟩ } := by
      unfold Bk.does
      rw [if_neg (by omega), if_neg (by omega), if_neg (by omega), if_neg (by omega), if_pos hk]
    rw [e]
    have hq : r.q = b.w.seq + 1 := by
      have hw : wrap64 (b.w.seq + 1) = b.w.seq + 1 := by have := hi.sq; unfold wrap64; omega
      unfold Bk.intentE at h0
      rw [hw] at h0
      split at h0
      · cases h0
      · split at h0
        · cases h0
        · rename_i hn; omega
    have hqb := (right_facts hr).2.2.2.2.1
    refine ⟨by simp [hi.us], hi.lv, hi.ep, ⟨by show (0 : Int) ≤ r.q; omega, by show r.q ≤ _; omega⟩, fun u hu => ?_, hi.hi, hi.vs, hi.st, hi.sp, hi.fr⟩
    rcases mem_set hu with rfl | hu
    · exact ⟨by show (0 : Int) ≤ r.q; omega, Int.le_refl _⟩
    · have := hi.un u hu
      exact ⟨this.1, by show u.s ≤ r.q; omega⟩
  · have e : b.does r = { b with us := b.us.set r.w.toNat ⟨(b.unit r.w).v, (b.unit r.w).s, true⟩ } := by
      unfold Bk.does
      rw [if_neg (by omega), if_neg (by omega), if_neg (by omega), if_neg (by omega), if_neg (by omega), if_pos hk]
    rw [e]
    refine ⟨by simp [hi.us], hi.lv, hi.ep, hi.sq, fun u hu => ?_, hi.hi, hi.vs, hi.st, hi.sp, hi.fr⟩
    rcases mem_set hu with rfl | hu
    · have h2 := hi.un (b.unit r.w) (unit_mem hi (right_unit hr (.inr hk)))
      exact h2
    · exact hi.un u hu
  · have e : b.does r = { b with w := { b.w with step := r.w, since := r.n }, h := lastN (b.h ++ [r]) } := by
      unfold Bk.does
      rw [if_neg (by omega), if_neg (by omega), if_neg (by omega), if_neg (by omega), if_neg (by omega), if_neg (by omega)]
    rw [e]
    exact ⟨hi.us, hi.lv, hi.ep, hi.sq, hi.un, lastN_len _, hi.vs, hi.st, hi.sp, hi.fr⟩
theorem Bk.inv_apply {b : Bk} (hi : b.Inv) (r : Rc) : (b.apply r).1.Inv := by
  unfold Bk.apply
  split
  · rename_i h; exact Bk.inv_does hi h
  · exact hi
/- What the laws say of one record. -/
end Go.Proofs.YtmacpdddimcmgaaGreatDoor
namespace Go.Proofs.YtmacpdddimcmgaaGreatDoor
set_option linter.unusedVariables false
set_option linter.unusedSimpArgs false
set_option maxRecDepth 20000
open Go.RowKit
def kvFrom : Nat → List (Int × ByteArray) → List (ByteArray × Value)
  | _, [] => []
  | i, (n, t) :: l => (str (Lib.itoa n), .agg #[.string t, .int .i64 ((i : Int) + 1)]) :: kvFrom (i + 1) l
abbrev i64R (n : Int) : Prop := -9223372036854775808 ≤ n ∧ n ≤ 9223372036854775807
theorem key_inj {n k : Int} (hn : i64R n) (hk : i64R k) (h : str (Lib.itoa n) = str (Lib.itoa k)) : n = k := by
  refine itoa_inj hn hk ?_
  have := congrArg (fun s : ByteArray => s.data.toList) h
  exact this
theorem kv_len : ∀ (l : List (Int × ByteArray)) (i : Nat), (kvFrom i l).length = l.length
  | [], _ => rfl
  | (n, t) :: l, i => by rw [kvFrom, List.length_cons, List.length_cons, kv_len l (i + 1)]
theorem kv_miss {n : Int} (hn : i64R n) : ∀ (l : List (Int × ByteArray)) (i : Nat), (∀ x ∈ l, i64R x.1) → l.find? (fun x => decide (x.1 = n)) = none → sget (kvFrom i l) (str (Lib.itoa n)) = none
  | [], _, _, _ => rfl
  | (k, t) :: l, i, hr, h => by
    have hne : k ≠ n := by
      intro e
      rw [List.find?_cons, show decide (k = n) = true from decide_eq_true e] at h
      cases h
    rw [List.find?_cons, show decide (k = n) = false from decide_eq_false hne] at h
    have ih := kv_miss hn l (i + 1) (fun x hx => hr x (by simp [hx])) h
    unfold sget at ih ⊢
    rw [kvFrom, List.find?_cons, show decide (str (Lib.itoa k) = str (Lib.itoa n)) = false from decide_eq_false (fun e => hne (key_inj (hr (k, t) (by simp)) hn e))]
    exact ih
theorem kv_app (n : Int) (t : ByteArray) : ∀ (l : List (Int × ByteArray)) (i : Nat), kvFrom i (l ++ [(n, t)]) = kvFrom i l ++ [(str (Lib.itoa n), .agg #[.string t, .int .i64 (((i + l.length : Nat) : Int) + 1)])]
  | [], i => rfl
  | (k, u) :: l, i => by
    rw [List.cons_append, kvFrom, kv_app n t l (i + 1), kvFrom, List.cons_append, List.length_cons, show i + 1 + l.length = i + (l.length + 1) by omega]
theorem kv_put {n : Int} (hn : i64R n) (t : ByteArray) (l : List (Int × ByteArray)) (hr : ∀ x ∈ l, i64R x.1) (h : l.find? (fun x => decide (x.1 = n)) = none) :
    sput (kvFrom 0 l) (str (Lib.itoa n)) (.agg #[.string t, .int .i64 ((l.length : Int) + 1)]) = kvFrom 0 (l ++ [(n, t)]) := by
  rw [sput_new _ (kv_miss hn l 0 hr h), kv_app, Nat.zero_add]
end Go.Proofs.YtmacpdddimcmgaaGreatDoor
namespace Go.Proofs.YtmacpdddimcmgaaGreatDoor
set_option linter.unusedVariables false
set_option linter.unusedSimpArgs false
set_option maxRecDepth 20000
open Go.RowKit
def Bk.all (b : Bk) : List Rc → Bk × Int
  | [] => (b, 0)
  | r :: l => let x := b.apply r; let y := Bk.all x.1 l; (y.1, (if x.2 = 0 then 1 else 0) + y.2)
theorem Bk.inv_all : ∀ (l : List Rc) (b : Bk), b.Inv → (b.all l).1.Inv
  | [], b, h => h
  | r :: l, b, h => by
    show (Bk.all (b.apply r).1 l).1.Inv
    exact Bk.inv_all l _ (Bk.inv_apply h r)
def lifeSp : Sp := ⟨1, 1, 1, 0, 1, 0, 0, 0, 0, 1, 0, 9⟩
def lifeL : List Rc := [⟨1, 1, 0, 0, 9, ⟨#[]⟩, Sp.zero⟩, ⟨2, 1, 0, 1, 0, ⟨#[120]⟩, Sp.zero⟩, ⟨3, 1, 0, 0, 0, ⟨#[]⟩, lifeSp⟩, ⟨4, 1, 0, 3, 0, ⟨#[100, 111, 110, 101]⟩, Sp.zero⟩]
theorem life_all : ((Bk.new 2).all lifeL).2 = 4 ∧ ((Bk.new 2).all lifeL).1.w.stable = 1 ∧ ((Bk.new 2).all lifeL).1.w.phase = 3 ∧ ((Bk.new 2).all lifeL).1.h.length = 2 ∧ ((Bk.new 2).all lifeL).1.us.length = 16 := by decide +kernel
end Go.Proofs.YtmacpdddimcmgaaGreatDoor
