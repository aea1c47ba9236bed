/- A region that draws its order, whose operations yield one value whatever fresh memory was made, beside one allocation that a last store fills: one walk of the text's order serves every order. No condition. -/
import Derived.Test.YtonlmkcolndaaaaGreatDoorFr
import Derived.StillTail
import Derived.Deep.WholeRow
namespace Go.Proofs.YtonlmkcolndaaaaGreatDoor
set_option linter.unusedVariables false
set_option linter.unusedSimpArgs false
set_option maxRecDepth 20000
open Go.RowKit

section
variable {P : Program} {ops : Array Oper} {w0 : World} {A n : Nat} {QT : Act → Prop}

/-- What is asked of an operation that has run: the value v in the world that it got, or a call that hands back v and makes fresh memory alone. -/
def FUpon (P : Program) (w : World) (v : Value) : Result Next → Prop
  | .ok (.value u) w' => w' = w ∧ u = v
  | .ok (.enter f args) w' => w' = w ∧ Calls P f args w (fun e w'' => e = .returned v ∧ Frm M0 w w'')
  | _ => False
/-- The operation yields v in every world that grew out of w0. -/
def FY (P : Program) (ops : Array Oper) (w0 : World) (o : Oper) (v : Value) (a : Act) : Prop :=
  (Region.wanted o (yielded ops a.tmps) = true ∧ ∀ w, Frm M0 w0 w → FUpon P w v ((execOp a.eval o).run P w)) ∨ (Region.wanted o (yielded ops a.tmps) = false ∧ v = undef)
theorem FY.same {o : Oper} {v : Value} {a a' : Act} (h : FY P ops w0 o v a) (he : execOp a'.eval o = execOp a.eval o) (hw : Region.wanted o (yielded ops a'.tmps) = Region.wanted o (yielded ops a.tmps)) : FY P ops w0 o v a' := by
  unfold FY at *; rw [he, hw]; exact h
theorem FY.put {o : Oper} {v u : Value} {a : Act} {d : Option Tmp} (hs : ∀ cs b, o.op ≠ .select cs b) (h : FY P ops w0 o v a) (hd : ∀ x, d = some x → x ∉ o.looksAt ops) : FY P ops w0 o v (a.put d u) :=
  h.same (execOp_put o hs a d u hd) (wanted_put o a d u hd)
theorem FY.unput {o : Oper} {v u : Value} {a : Act} {d : Option Tmp} (hs : ∀ cs b, o.op ≠ .select cs b) (h : FY P ops w0 o v (a.put d u)) (hd : ∀ x, d = some x → x ∉ o.looksAt ops) : FY P ops w0 o v a :=
  h.same (execOp_put o hs a d u hd).symm (wanted_put o a d u hd).symm
theorem FY.wp {o : Oper} {v : Value} {a : Act} {w : World} {i : Nat} {K : Act → World → Prop} {Q : Exit → Act → World → Prop} (hy : FY P ops w0 o v a) (hi : ops[i]? = some o) (hF : Frm M0 w0 w) (h : ∀ w', Frm M0 w w' → K (a.put o.dst v) w') :
    wpOp P ops Q i K a w := by
  unfold wpOp
  simp only [hi]
  rcases hy with ⟨hw, hv⟩ | ⟨hw, rfl⟩
  · simp only [hw, if_true]
    refine .inl ?_
    have h3 := hv w hF
    unfold Oper.wp
    generalize (execOp a.eval o).run P w = r at *
    cases r with
    | ok m w' =>
      cases m <;> simp only [FUpon] at h3 <;> simp only [Oper.upon]
      case value u =>
        obtain ⟨rfl, rfl⟩ := h3
        exact h _ (Frm.refl _ _)
      case enter f args =>
        obtain ⟨rfl, hc⟩ := h3
        exact hc.mono fun e w'' ⟨he, hw''⟩ => by subst he; exact h _ hw''
    | halt x w' => simp only [FUpon] at h3
  · simp only [hw, Bool.false_eq_true, if_false]; exact h _ (Frm.refl _ _)

/-- Those of the region's operations that are neither the allocation nor the last store. -/
abbrev hd (A n i : Nat) : Prop := i < n ∧ i ≠ A
def AnyF (P : Program) (ops : Array Oper) (w0 : World) (A n : Nat) (QT : Act → Prop) : Nat → Array Bool → Act → Prop
  | 0, listed, a => (∀ i ∈ Region.ready .any ops listed, ¬ hd A n i) ∧ n ∈ Region.ready .any ops listed ∧ QT a
  | f + 1, listed, a => ((∀ i ∈ Region.ready .any ops listed, ¬ hd A n i) → n ∈ Region.ready .any ops listed ∧ QT a) ∧
    ∀ i ∈ Region.ready .any ops listed, hd A n i → ∃ o v, ops[i]? = some o ∧ FY P ops w0 o v a ∧ AnyF P ops w0 A n QT f (listed.setIfInBounds i true) (a.put o.dst v)

theorem AnyF_first {i : Nat} {oi : Oper} {v : Value} (hi : ops[i]? = some oi) (hsel : ∀ (j : Nat) (o : Oper) cs b, ops[j]? = some o → o.op ≠ .select cs b) (hin : hd A n i) :
    ∀ (f : Nat) (listed : Array Bool) (a : Act),
      (∀ j oj, ops[j]? = some oj → j ≠ i → listed.getD j true = false → (∀ e ∈ oj.after, Region.binds .any e = true → e.on ≠ i) → oi.apart ops oj = true) →
      i ∈ Region.ready .any ops listed → FY P ops w0 oi v a → AnyF P ops w0 A n QT f (listed.setIfInBounds i true) (a.put oi.dst v) → AnyF P ops w0 A n QT (f + 1) listed a := by
  intro f
  induction f with
  | zero =>
    intro listed a _ hr hy H
    refine ⟨fun h => absurd hin (h i hr), fun j hj hjh => ?_⟩
    by_cases hji : j = i
    · subst hji; exact ⟨oi, v, hi, hy, H⟩
    · exact absurd hjh (H.1 j (ready_mono hj hji))
  | succ f ih =>
    intro listed a hfree hr hy H
    refine ⟨fun h => absurd hin (h i hr), fun j hj hjh => ?_⟩
    by_cases hji : j = i
    · subst hji; exact ⟨oi, v, hi, hy, H⟩
    · obtain ⟨oj, u, hoj, hyj, hK⟩ := H.2 j (ready_mono hj hji) hjh
      obtain ⟨hjun, oj', hoj', hall⟩ := mem_ready.1 hj
      obtain rfl : oj' = oj := Option.some.inj (hoj'.symm.trans hoj)
      have hnot : ∀ e ∈ oj'.after, Region.binds .any e = true → e.on ≠ i := fun e he hb heq => by
        have h1 := hall e he hb
        have h0 := (mem_ready.1 hr).1
        rw [heq, getD_both h0] at h1
        cases h1
      obtain ⟨p1, p2, p3⟩ := Oper.apart_spec (hfree j oj' hoj hji hjun hnot)
      refine ⟨oj', u, hoj, hyj.unput (hsel j oj' · · hoj) p1, ?_⟩
      refine ih (listed.setIfInBounds j true) (a.put oj'.dst u) ?_ (ready_mono hr (Ne.symm hji)) (hy.put (hsel i oi · · hi) p3) ?_
      · intro k ok hk hki hun hno
        refine hfree k ok hk hki ?_ hno
        by_cases hjk : j = k
        · subst hjk; exact hjun
        · rw [getD_set_ne true hjk] at hun; exact hun
      · rw [Array.setIfInBounds_comm _ _ hji, ← Act.put_comm a v u p2]
        exact hK

/-- The text's order, of the indices ks. -/
def wpF (P : Program) (ops : Array Oper) (w0 : World) (QT : Act → Prop) : List Nat → Act → Prop
  | [], a => QT a
  | k :: ks, a => ∃ o v, ops[k]? = some o ∧ FY P ops w0 o v a ∧ wpF P ops w0 QT ks (a.put o.dst v)
def lexF (ops : Array Oper) (A n : Nat) : List Nat → Array Bool → Bool
  | [], listed => ((Region.ready .any ops listed).all fun i => !(decide (i < n) && decide (i ≠ A))) && (Region.ready .any ops listed).contains n
  | k :: ks, listed => (Region.ready .any ops listed).contains k && Region.free .any ops listed k && (decide (k < n) && decide (k ≠ A)) && lexF ops A n ks (listed.setIfInBounds k true)
theorem wpF_any (hs : Region.noSelect ops = true) : ∀ (ks : List Nat) (listed : Array Bool) (a : Act), lexF ops A n ks listed = true → wpF P ops w0 QT ks a → AnyF P ops w0 A n QT ks.length listed a
  | [], listed, a, hB, h => by
    simp only [lexF, Bool.and_eq_true, List.all_eq_true, Bool.not_eq_true', Bool.and_eq_false_iff, decide_eq_false_iff_not] at hB
    refine ⟨fun i hi hh => ?_, by simpa using hB.2, h⟩
    rcases hB.1 i hi with h1 | h1
    · exact h1 hh.1
    · exact h1 hh.2
  | k :: ks, listed, a, hB, h => by
    simp only [lexF, Bool.and_eq_true, decide_eq_true_eq] at hB
    obtain ⟨⟨⟨hr, hf⟩, hh⟩, hB'⟩ := hB
    obtain ⟨o, v, ho, hy, hK⟩ := h
    exact AnyF_first ho (Region.noSelect_spec hs) hh ks.length listed a (Region.free_spec ho hf) (by simpa using hr) hy (wpF_any hs ks _ _ hB' hK)
theorem wpF_cons {k : Nat} {ks : List Nat} {a : Act} (o : Oper) (v : Value) (ho : ops[k]? = some o) (hy : FY P ops w0 o v a) (h : wpF P ops w0 QT ks (a.put o.dst v)) : wpF P ops w0 QT (k :: ks) a := ⟨o, v, ho, hy, h⟩

theorem all_listed {listed : Array Bool} (hs : Region.sinkB .any ops n = true) (hc : Region.chainB .any ops n = true) (hn : n < ops.size) (inv : HeadInv .any ops n listed) (h : n ∈ Region.ready .any ops listed) : ∀ i, i < n → listed.getD i true = true := fun i hi => by
  cases hl : listed.getD i true with
  | true => rfl
  | false => exact absurd h (tail_waits hs hc hn inv (n - i) i rfl hi hl n (Nat.le_refl _))

section
variable {Q : Exit → Act → World → Prop} {oA : Oper} {obj : Obj}
/-- Behind the allocation. -/
theorem sound2 (hs : Region.sinkB .any ops n = true) (hc : Region.chainB .any ops n = true) (hn : n + 1 = ops.size) (hsel : ∀ (j : Nat) (o : Oper) cs b, ops[j]? = some o → o.op ≠ .select cs b)
    (hAp : ∀ j oj, ops[j]? = some oj → hd A n j → oj.apart ops oA = true) (b : Nat)
    (HT : ∀ a w, QT a → Frm M0 w0 w → w0.heap.size ≤ b → w.heap[b]? = some obj → wpOp P ops Q n (fun a' w' => Q .normal a' w') (a.put oA.dst (.pointer (some ⟨b, 0, none⟩))) w) :
    ∀ (f : Nat) (listed : Array Bool) (a : Act) (w : World), HeadInv .any ops n listed → listed.getD A true = true → AnyF P ops w0 A n QT f listed a → Frm M0 w0 w → w0.heap.size ≤ b → w.heap[b]? = some obj →
      wpAny P .any ops Q (f + 1) listed (a.put oA.dst (.pointer (some ⟨b, 0, none⟩))) w := by
  have stepT : ∀ (f : Nat) (listed : Array Bool) (a : Act) (w : World), HeadInv .any ops n listed → n ∈ Region.ready .any ops listed → QT a → Frm M0 w0 w → w0.heap.size ≤ b → w.heap[b]? = some obj →
      wpOp P ops Q n (wpAny P .any ops Q f (listed.setIfInBounds n true)) (a.put oA.dst (.pointer (some ⟨b, 0, none⟩))) w := by
    intro f listed a w inv hr hq hF hb ho
    refine wpOp_mono (fun a' w' h => wpAny_done ?_ h f) (HT a w hq hF hb ho)
    refine List.eq_nil_iff_forall_not_mem.2 fun j hj => ?_
    have hj1 := (mem_ready.1 hj).1
    have hjs : j < ops.size := by
      obtain ⟨_, o, ho, _⟩ := mem_ready.1 hj
      exact (Array.getElem?_eq_some_iff.1 ho).1
    by_cases hjn : j = n
    · subst hjn
      have : j < listed.size := by rw [inv.size]; omega
      simp [this] at hj1
    · rw [getD_set_ne true (Ne.symm hjn), all_listed hs hc (by omega) inv hr j (by omega)] at hj1
      cases hj1
  have nohead : ∀ (listed : Array Bool), HeadInv .any ops n listed → n ∈ Region.ready .any ops listed → ∀ i ∈ Region.ready .any ops listed, ¬ hd A n i := fun listed inv hr i hi hh => by
    have := all_listed hs hc (by omega) inv hr i hh.1
    rw [(mem_ready.1 hi).1] at this; cases this
  intro f
  induction f with
  | zero =>
    intro listed a w inv hA H hF hb ho
    obtain ⟨h1, h2, h3⟩ := H
    refine ⟨fun h => (by rw [h] at h2; cases h2), fun i hi => ?_⟩
    by_cases hin : i = n
    · subst hin; exact stepT 0 listed a w inv hi h3 hF hb ho
    · exfalso
      have hlt : i < ops.size := by obtain ⟨_, o, ho', _⟩ := mem_ready.1 hi; exact (Array.getElem?_eq_some_iff.1 ho').1
      by_cases hiA : i = A
      · subst hiA; have := (mem_ready.1 hi).1; rw [hA] at this; cases this
      · exact h1 i hi ⟨by omega, hiA⟩
  | succ f ih =>
    intro listed a w inv hA H hF hb ho
    refine ⟨fun h => ?_, fun i hi => ?_⟩
    · have := (H.1 (fun i hi => by rw [h] at hi; cases hi)).1
      rw [h] at this; cases this
    · by_cases hin : i = n
      · subst hin; exact stepT (f + 1) listed a w inv hi (H.1 (nohead listed inv hi)).2 hF hb ho
      · have hlt : i < ops.size := by obtain ⟨_, o, ho', _⟩ := mem_ready.1 hi; exact (Array.getElem?_eq_some_iff.1 ho').1
        by_cases hiA : i = A
        · exfalso; subst hiA; have := (mem_ready.1 hi).1; rw [hA] at this; cases this
        · obtain ⟨o, v, hoi, hy, hK⟩ := H.2 i hi ⟨by omega, hiA⟩
          obtain ⟨p1, p2, p3⟩ := Oper.apart_spec (hAp i o hoi ⟨by omega, hiA⟩)
          refine (hy.put (hsel i o · · hoi) p3).wp hoi hF fun w' hf => ?_
          rw [← Act.put_comm a v _ p2]
          refine ih _ _ _ (inv.set hi (by omega)) (by rw [getD_set_ne true hiA]; exact hA) hK (hF.same hf) hb (hf.heap ho (fun h => h))

/-- From the beginning. -/
theorem sound1 (hs : Region.sinkB .any ops n = true) (hc : Region.chainB .any ops n = true) (hn : n + 1 = ops.size) (hsel : ∀ (j : Nat) (o : Oper) cs b, ops[j]? = some o → o.op ≠ .select cs b)
    (hA : ops[A]? = some oA) (hAn : A < n) (hAw : oA.guard = none) (hAa : oA.after = #[]) (hAx : ∀ a w, (execOp (Act.eval a) oA).run P w = .ok (.value (.pointer (some ⟨w.heap.size, 0, none⟩))) (w.alloc obj))
    (hAp : ∀ j oj, ops[j]? = some oj → hd A n j → oj.apart ops oA = true)
    (HT : ∀ b a w, QT a → Frm M0 w0 w → w0.heap.size ≤ b → w.heap[b]? = some obj → wpOp P ops Q n (fun a' w' => Q .normal a' w') (a.put oA.dst (.pointer (some ⟨b, 0, none⟩))) w) :
    ∀ (f : Nat) (listed : Array Bool) (a : Act) (w : World), HeadInv .any ops n listed → listed.getD A true = false → AnyF P ops w0 A n QT f (listed.setIfInBounds A true) a → Frm M0 w0 w →
      wpAny P .any ops Q (f + 2) listed a w := by
  have rA : ∀ (listed : Array Bool), listed.getD A true = false → A ∈ Region.ready .any ops listed := fun listed h => mem_ready.2 ⟨h, oA, hA, fun e he => by rw [hAa] at he; simp at he⟩
  have stepA : ∀ (f : Nat) (listed : Array Bool) (a : Act) (w : World), HeadInv .any ops n listed → listed.getD A true = false → AnyF P ops w0 A n QT f (listed.setIfInBounds A true) a → Frm M0 w0 w →
      wpOp P ops Q A (wpAny P .any ops Q (f + 1) (listed.setIfInBounds A true)) a w := by
    intro f listed a w inv hl H hF
    unfold wpOp
    simp only [hA]
    have hwt : Region.wanted oA (yielded ops a.tmps) = true := by unfold Region.wanted; rw [hAw]
    simp only [hwt, if_true]
    refine .inl ?_
    unfold Oper.wp
    rw [hAx]
    refine sound2 hs hc hn hsel hAp w.heap.size (HT w.heap.size) f _ a (w.alloc obj) (inv.set (rA listed hl) hAn) ?_ H (hF.alloc _) hF.size (heap_alloc_last w _)
    have : A < listed.size := by rw [inv.size]; omega
    simp [this]
  intro f
  induction f with
  | zero =>
    intro listed a w inv hl H hF
    refine ⟨fun h => (by have := rA listed hl; rw [h] at this; cases this), fun i hi => ?_⟩
    by_cases hiA : i = A
    · subst hiA; exact stepA 0 listed a w inv hl H hF
    · have hlt : i < ops.size := by obtain ⟨_, o, ho', _⟩ := mem_ready.1 hi; exact (Array.getElem?_eq_some_iff.1 ho').1
      by_cases hin : i = n
      · subst hin; have := all_listed hs hc (by omega) inv hi A hAn; rw [hl] at this; cases this
      · exact absurd ⟨by omega, hiA⟩ (H.1 i (ready_mono hi hiA))
  | succ f ih =>
    intro listed a w inv hl H hF
    refine ⟨fun h => (by have := rA listed hl; rw [h] at this; cases this), fun i hi => ?_⟩
    by_cases hiA : i = A
    · subst hiA; exact stepA (f + 1) listed a w inv hl H hF
    · have hlt : i < ops.size := by obtain ⟨_, o, ho', _⟩ := mem_ready.1 hi; exact (Array.getElem?_eq_some_iff.1 ho').1
      by_cases hin : i = n
      · subst hin; have := all_listed hs hc (by omega) inv hi A hAn; rw [hl] at this; cases this
      · obtain ⟨o, v, hoi, hy, hK⟩ := H.2 i (ready_mono hi hiA) ⟨by omega, hiA⟩
        refine hy.wp hoi hF fun w' hf => ?_
        refine ih _ _ _ (inv.set hi (by omega)) (by rw [getD_set_ne true hiA]; exact hl) ?_ (hF.same hf)
        rw [Array.setIfInBounds_comm _ _ hiA]; exact hK
end
end

/-- A whole struct loaded. -/
theorem fu_load_row {P : Program} {o : Oper} {a : Act} {w : World} (hgd : o.guard = none) (ty : TypeId) (x : Operand) (ho : o.op = .load ty x) (g : Nat) (hx : a.eval x = .pointer (some ⟨g, 0, none⟩)) (t : TypeId) (cs : Array Value) (fr : Nat × Nat) (d : TypeDesc)
    (hg : w.heap[g]? = some (.cells cs t fr)) (hu : P.underlying ty = some d) (hd : (match d with | .struct _ | .array _ _ => true | _ => false) = true) (hi : (P.info? ty).map (·.size) = some cs.size) :
    FUpon P w (.agg cs) ((execOp a.eval o).run P w) := by
  simp only [execOp, ho, hx, Instr.loadAt, Instr.sureAddr, Sem.run_bind, Sem.run_pure, Result.andThen_ok, run_loadVar_row w g t ty cs fr d hg hu hd hi]
  exact ⟨rfl, rfl⟩
theorem inv_false {m i : Nat} (h : i < m) : (Array.replicate m false).getD i true = false := by simp [h]
/-- The side conditions as one Bool. -/
def lexFB (ops : Array Oper) (A n : Nat) (ks : List Nat) (oA : Oper) : Bool :=
  Region.noSelect ops && Region.sinkB .any ops n && Region.chainB .any ops n && (decide (n + 1 = ops.size) && decide (ks.length + 2 = ops.size)) && decide (A < n) && ((List.range n).all fun j => decide (j = A) || match ops[j]? with | some oj => oj.apart ops oA | none => true) &&
  lexF ops A n ks ((Array.replicate ops.size false).setIfInBounds A true)
theorem wp_region_F {P : Program} {id : Nat} {Q : Exit → Act → World → Prop} {a : Act} {w : World} {l : List Oper} (A n : Nat) (ks : List Nat) (oA : Oper) (obj : Obj) (hm : P.follows .mixedOrders = true) (hB : lexFB l.toArray A n ks oA = true)
    (hA : l.toArray[A]? = some oA) (hAw : oA.guard = none) (hAa : oA.after = #[]) (hAx : ∀ a w, (execOp (Act.eval a) oA).run P w = .ok (.value (.pointer (some ⟨w.heap.size, 0, none⟩))) (w.alloc obj))
    (h : wpF P l.toArray w (fun a' => ∀ b w', Frm M0 w w' → w.heap.size ≤ b → w'.heap[b]? = some obj → wpOp P l.toArray Q n (fun a'' w'' => Q .normal a'' w'') (a'.put oA.dst (.pointer (some ⟨b, 0, none⟩))) w') ks a) :
    (Code.region id l.toArray true).wp P Q a w := by
  simp only [lexFB, Bool.and_eq_true, decide_eq_true_eq] at hB
  obtain ⟨⟨⟨⟨⟨⟨hsel, hs⟩, hc⟩, hn, hks⟩, hAn⟩, hAp⟩, hlex⟩ := hB
  refine wp_region_any hm ?_
  have inv : HeadInv .any l.toArray n (Array.replicate l.toArray.size false) := by
    refine ⟨by simp, ?_, ?_⟩
    · intro j oj _ hl; rw [getD_replicate_false] at hl; cases hl
    · intro t h1 h2
      have : t < l.toArray.size := h2
      simp at this
      simp [this]
  have hF := wpF_any (P := P) (w0 := w) hsel ks _ a hlex h
  have hlA : (Array.replicate l.toArray.size false).getD A true = false := inv_false (by omega)
  have := sound1 (Q := Q) hs hc hn (Region.noSelect_spec hsel) hA hAn hAw hAa hAx ?_ (fun b a' w' hq hf hb ho => hq b w' hf hb ho) ks.length _ a { w with drawn := w.drawn + 1 } inv hlA hF ((Frm.refl M0 w).drew)
  · rw [hks] at this; exact this
  · intro j oj hj hh
    have := List.all_eq_true.1 hAp j (List.mem_range.2 hh.1)
    simp only [hj, Bool.or_eq_true, decide_eq_true_eq] at this
    rcases this with h1 | h1
    · exact absurd h1 hh.2
    · exact h1
/-- Each operation at its place. -/
def AllOps (ops : Array Oper) : List Oper → Nat → Prop
  | [], _ => True
  | o :: l, k => Hid (ops[k]? = some o) ∧ AllOps ops l (k + 1)
theorem allOps_of {ops : Array Oper} : ∀ (l : List Oper) (k : Nat), (∀ j o, l[j]? = some o → ops[k + j]? = some o) → AllOps ops l k
  | [], _, _ => trivial
  | o :: l, k, h => ⟨hid (by simpa using h 0 o rfl), allOps_of l (k + 1) fun j o' hj => by have := h (j + 1) o' (by simpa using hj); rw [show k + 1 + j = k + (j + 1) by omega]; exact this⟩
/-- The same, the region and what follows behind letters. -/
theorem wp_region_Fl {P : Program} {id : Nat} {Q : Exit → Act → World → Prop} {a : Act} {w : World} {l : List Oper} (A n : Nat) (ks : List Nat) (oA : Oper) (obj : Obj) (hm : P.follows .mixedOrders = true) (hB : lexFB l.toArray A n ks oA = true)
    (hA : l.toArray[A]? = some oA) (hAw : oA.guard = none) (hAa : oA.after = #[]) (hAx : ∀ a w, (execOp (Act.eval a) oA).run P w = .ok (.value (.pointer (some ⟨w.heap.size, 0, none⟩))) (w.alloc obj))
    (h : ∀ (ops : Array Oper) (QT : Act → Prop), AllOps ops l 0 →
      Hid (∀ a', (∀ b w', Frm M0 w w' → w.heap.size ≤ b → w'.heap[b]? = some obj → wpOp P l.toArray Q n (fun a'' w'' => Q .normal a'' w'') (a'.put oA.dst (.pointer (some ⟨b, 0, none⟩))) w') → QT a') → wpF P ops w QT ks a) :
    (Code.region id l.toArray true).wp P Q a w :=
  wp_region_F A n ks oA obj hm hB hA hAw hAa hAx (h _ _ (allOps_of l 0 fun j o hj => by simpa using hj) (hid fun _ h => h))
section
variable {P : Program} {ops : Array Oper} {w0 : World} {o oj : Oper} {v : Value} {a : Act} {j d : Nat} {want : Bool}
theorem tmps_eval (a : Act) (d : Nat) : a.eval (.tmp d) = a.tmps[d]?.getD undef := by simp [Act.eval]
theorem FY_yes (hg : o.guard = some (j, want)) (hj : ops[j]? = some oj) (hd : oj.dst = some d) (hb : a.eval (.tmp d) = .bool want) (h : ∀ w, Frm M0 w0 w → FUpon P w v ((execOp a.eval o).run P w)) : FY P ops w0 o v a := by
  rw [tmps_eval] at hb
  refine .inl ⟨?_, h⟩
  cases hq : a.tmps[d]? with
  | none => rw [hq] at hb; cases hb
  | some x =>
    rw [hq] at hb
    have hx : x = .bool want := hb
    simp [Region.wanted, yielded, hg, hj, hd, hq, hx]
theorem FY_no (hg : o.guard = some (j, want)) (hj : ops[j]? = some oj) (hd : oj.dst = some d) (hb : a.eval (.tmp d) = .bool !want) : FY P ops w0 o undef a := by
  rw [tmps_eval] at hb
  refine .inr ⟨?_, rfl⟩
  cases hq : a.tmps[d]? with
  | none => rw [hq] at hb; cases hb
  | some x =>
    rw [hq] at hb
    have hx : x = .bool !want := hb
    cases want <;> simp [Region.wanted, yielded, hg, hj, hd, hq, hx]
theorem FY_un (hg : o.guard = some (j, want)) (hj : ops[j]? = some oj) (hd : oj.dst = some d) (hb : a.eval (.tmp d) = undef) : FY P ops w0 o undef a := by
  rw [tmps_eval] at hb
  refine .inr ⟨?_, rfl⟩
  cases hq : a.tmps[d]? with
  | none => simp [Region.wanted, yielded, hg, hj, hd, hq]
  | some x =>
    rw [hq] at hb
    have hx : x = undef := hb
    simp [Region.wanted, yielded, hg, hj, hd, hq, hx, undef]
theorem FY_in (hg : o.guard = none) (h : ∀ w, Frm M0 w0 w → FUpon P w v ((execOp a.eval o).run P w)) : FY P ops w0 o v a := .inl ⟨by simp [Region.wanted, hg], h⟩
end
end Go.Proofs.YtonlmkcolndaaaaGreatDoor
