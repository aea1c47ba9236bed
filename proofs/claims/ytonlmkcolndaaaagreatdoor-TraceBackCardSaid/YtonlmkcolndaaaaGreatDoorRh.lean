/- A region that draws its order, whose operations yield one value each whatever fresh memory was made, beside some allocations, and behind them a tail in one forced order: one walk of the text's order serves every order. No condition. -/
import Derived.Test.YtonlmkcolndaaaaGreatDoorRg
namespace Go.Proofs.YtonlmkcolndaaaaGreatDoor
set_option linter.unusedVariables false
set_option linter.unusedSimpArgs false
set_option maxRecDepth 20000
open Go.RowKit

/-- A row set anew: the block alone turns. -/
theorem frm_setRow (w : World) (g : Nat) (cs : Array Value) : Frm (fun x => x = g) w (w.setRow g cs) := by
  refine ⟨rfl, rfl, rfl, ?_, ?_⟩
  · simp [World.setRow]
  · intro k hk hn
    have hn' : ¬ g = k := fun h => hn h.symm
    simp [World.setRow, Array.getElem?_modify, hn']
theorem fu_load_row_g {P : Program} {o : Oper} {a : Act} {w : World} (ty : TypeId) (x : Operand) (ho : o.op = .load ty x) (g : Nat) (hx : a.eval x = .pointer (some ⟨g, 0, none⟩)) (t : TypeId) (cs : Array Value) (fr : Nat × Nat) (d : TypeDesc)
    (hg : w.heap[g]? = some (.cells cs t fr)) (hu : P.underlying ty = some d) (hd : (match d with | .struct _ | .array _ _ => true | _ => false) = true) (hi : (P.info? ty).map (·.size) = some cs.size) :
    FUpon P w (.agg cs) ((execOp a.eval o).run P w) := by
  simp only [execOp, ho, hx, Instr.loadAt, Instr.sureAddr, Sem.run_bind, Sem.run_pure, Result.andThen_ok, run_loadVar_row w g t ty cs fr d hg hu hd hi]
  exact ⟨rfl, rfl⟩
abbrev ptrV (b : Nat) : Value := .pointer (some ⟨b, 0, none⟩)
def upd (E : Nat → Nat) (i b : Nat) : Nat → Nat := fun j => if j = i then b else E j
theorem upd_comm (E : Nat → Nat) {i j : Nat} (b c : Nat) (h : j ≠ i) : upd (upd E i b) j c = upd (upd E j c) i b := by
  funext k; unfold upd
  by_cases h1 : k = j
  · subst h1; simp [h]
  · simp [h1]

section
variable {P : Program} {ops : Array Oper} {w0 : World} {al : Nat → Option Obj} {vals : Nat → Value} {n : Nat} {L : Array Bool → Act → (Nat → Nat) → Prop}

/-- One operation: a value, or a block. -/
def stepG (P : Program) (ops : Array Oper) (w0 : World) (al : Nat → Option Obj) (vals : Nat → Value) (i : Nat) (o : Oper) (K : Act → (Nat → Nat) → Prop) (a : Act) (E : Nat → Nat) : Prop :=
  match al i with
  | none => FY P ops w0 o (vals i) a ∧ K (a.put o.dst (vals i)) E
  | some _ => ∀ b, K (a.put o.dst (ptrV b)) (upd E i b)
theorem stepG_mono {i : Nat} {o : Oper} {K K' : Act → (Nat → Nat) → Prop} {a : Act} {E : Nat → Nat} (hK : ∀ a E, K a E → K' a E) (h : stepG P ops w0 al vals i o K a E) : stepG P ops w0 al vals i o K' a E := by
  unfold stepG at *
  split at h
  · exact ⟨h.1, hK _ _ h.2⟩
  · exact fun b => hK _ _ (h b)
def AnyG (P : Program) (ops : Array Oper) (w0 : World) (al : Nat → Option Obj) (vals : Nat → Value) (n : Nat) (L : Array Bool → Act → (Nat → Nat) → Prop) : Nat → Array Bool → Act → (Nat → Nat) → Prop
  | 0, listed, a, E => L listed a E
  | f + 1, listed, a, E => Region.ready .any ops listed ≠ [] ∧ ∀ i ∈ Region.ready .any ops listed, i < n ∧ ∃ o, ops[i]? = some o ∧ stepG P ops w0 al vals i o (AnyG P ops w0 al vals n L f (listed.setIfInBounds i true)) a E

/-- Two operations that stand apart change places. -/
theorem stepG_swap {i j : Nat} {oi oj : Oper} {a : Act} {E : Nat → Nat} {K : Act → (Nat → Nat) → Prop} (hji : j ≠ i) (hap : oi.apart ops oj = true) (hsi : ∀ cs b, oi.op ≠ .select cs b) (hsj : ∀ cs b, oj.op ≠ .select cs b)
    (h : stepG P ops w0 al vals i oi (fun a' E' => stepG P ops w0 al vals j oj K a' E') a E) : stepG P ops w0 al vals j oj (fun a' E' => stepG P ops w0 al vals i oi K a' E') a E := by
  obtain ⟨p1, p2, p3⟩ := Oper.apart_spec hap
  unfold stepG at *
  cases hi : al i with
  | none =>
    cases hj : al j with
    | none =>
      simp only [hi, hj] at h ⊢
      obtain ⟨h1, h2, h3⟩ := h
      exact ⟨h2.unput hsj p1, h1.put hsi p3, by rw [← Act.put_comm a (vals i) (vals j) p2]; exact h3⟩
    | some oj' =>
      simp only [hi, hj] at h ⊢
      obtain ⟨h1, h2⟩ := h
      exact fun b => ⟨h1.put hsi p3, by rw [← Act.put_comm a (vals i) _ p2]; exact h2 b⟩
  | some oi' =>
    cases hj : al j with
    | none =>
      simp only [hi, hj] at h ⊢
      refine ⟨(h 0).1.unput hsj p1, fun b => ?_⟩
      rw [← Act.put_comm a _ (vals j) p2]; exact (h b).2
    | some oj' =>
      simp only [hi, hj] at h ⊢
      intro c b
      rw [← Act.put_comm a _ _ p2, ← upd_comm E b c hji]
      exact h b c

theorem AnyG_first {i : Nat} {oi : Oper} (hi : ops[i]? = some oi) (hsel : ∀ (j : Nat) (o : Oper) cs b, ops[j]? = some o → o.op ≠ .select cs b)
    (hs : Region.sinkB .any ops n = true) (hc : Region.chainB .any ops n = true) (hn : n < ops.size) (hin : i < n) (hdone : ∀ listed a E, L listed a E → ∀ j ∈ Region.ready .any ops listed, n ≤ j) :
    ∀ (f : Nat) (listed : Array Bool) (a : Act) (E : Nat → Nat), HeadInv .any ops n listed →
      (∀ j oj, ops[j]? = some oj → j ≠ i → listed.getD j true = false → (∀ e ∈ oj.after, Region.binds .any e = true → e.on ≠ i) → oi.apart ops oj = true) →
      i ∈ Region.ready .any ops listed → stepG P ops w0 al vals i oi (AnyG P ops w0 al vals n L f (listed.setIfInBounds i true)) a E → AnyG P ops w0 al vals n L (f + 1) listed a E := by
  intro f
  induction f with
  | zero =>
    intro listed a E inv _ hr H
    have hun := (mem_ready.1 hr).1
    refine ⟨fun h => (by rw [h] at hr; cases hr), fun j hj => ?_⟩
    have hjn : j < n := by
      rcases Nat.lt_or_ge j n with h | h
      · exact h
      · exact absurd hj (tail_waits hs hc hn inv _ i rfl hin hun j h)
    refine ⟨hjn, ?_⟩
    by_cases hji : j = i
    · subst hji; exact ⟨oi, hi, H⟩
    · exfalso
      have hL : ∃ a' E', L (listed.setIfInBounds i true) a' E' := by
        unfold stepG at H
        split at H
        · exact ⟨_, _, H.2⟩
        · exact ⟨_, _, H 0⟩
      obtain ⟨a', E', hL⟩ := hL
      have := hdone _ _ _ hL j (ready_mono hj hji)
      omega
  | succ f ih =>
    intro listed a E inv hfree hr H
    have hun := (mem_ready.1 hr).1
    refine ⟨fun h => (by rw [h] at hr; cases hr), fun j hj => ?_⟩
    have hjn : j < n := by
      rcases Nat.lt_or_ge j n with h | h
      · exact h
      · exact absurd hj (tail_waits hs hc hn inv _ i rfl hin hun j h)
    refine ⟨hjn, ?_⟩
    by_cases hji : j = i
    · subst hji; exact ⟨oi, hi, H⟩
    · obtain ⟨hjun, oj, hoj, hall⟩ := mem_ready.1 hj
      have hnot : ∀ e ∈ oj.after, Region.binds .any e = true → e.on ≠ i := fun e he hb heq => by
        have h1 := hall e he hb
        rw [heq, getD_both hun] at h1
        cases h1
      have hap := hfree j oj hoj hji hjun hnot
      have H2 : stepG P ops w0 al vals i oi (fun a' E' => stepG P ops w0 al vals j oj (AnyG P ops w0 al vals n L f ((listed.setIfInBounds i true).setIfInBounds j true)) a' E') a E :=
        stepG_mono (fun a' E' h => by
          obtain ⟨_, o', ho', h'⟩ := h.2 j (ready_mono hj hji)
          obtain rfl : o' = oj := Option.some.inj (ho'.symm.trans hoj)
          exact h') H
      refine ⟨oj, hoj, stepG_mono (fun a' E' h => ?_) (stepG_swap hji hap (hsel i oi · · hi) (hsel j oj · · hoj) H2)⟩
      refine ih (listed.setIfInBounds j true) a' E' (inv.set hj hjn) ?_ (ready_mono hr (Ne.symm hji)) ?_
      · intro k ok hk hki hun' hno
        refine hfree k ok hk hki ?_ hno
        by_cases hjk : j = k
        · subst hjk; exact hjun
        · rw [getD_set_ne true hjk] at hun'; exact hun'
      · rw [Array.setIfInBounds_comm _ _ hji]; exact h

/-- The text's order. -/
def wpG (P : Program) (ops : Array Oper) (w0 : World) (al : Nat → Option Obj) (vals : Nat → Value) (QT : Act → (Nat → Nat) → Prop) : Nat → Nat → Act → (Nat → Nat) → Prop
  | 0, _, a, E => QT a E
  | m + 1, k, a, E => ∃ o, ops[k]? = some o ∧ stepG P ops w0 al vals k o (wpG P ops w0 al vals QT m (k + 1)) a E
/-- All that stand ahead of n are listed, in the text's order. -/
def lexG (ops : Array Oper) (n : Nat) : Nat → Nat → Array Bool → Bool
  | 0, _, listed => Region.seqB .any ops (ops.size - n) n listed
  | m + 1, k, listed => (Region.ready .any ops listed).contains k && Region.free .any ops listed k && decide (k < n) && lexG ops n m (k + 1) (listed.setIfInBounds k true)
theorem wpG_any {QT : Act → (Nat → Nat) → Prop} (hsel : Region.noSelect ops = true) (hs : Region.sinkB .any ops n = true) (hc : Region.chainB .any ops n = true) (hn : n < ops.size) :
    ∀ (m k : Nat) (listed : Array Bool) (a : Act) (E : Nat → Nat), HeadInv .any ops n listed → lexG ops n m k listed = true → wpG P ops w0 al vals QT m k a E →
      AnyG P ops w0 al vals n (fun listed a E => Region.seqB .any ops (ops.size - n) n listed = true ∧ HeadInv .any ops n listed ∧ QT a E) m listed a E
  | 0, k, listed, a, E, inv, hB, h => ⟨hB, inv, h⟩
  | m + 1, k, listed, a, E, inv, hB, h => by
    simp only [lexG, Bool.and_eq_true, decide_eq_true_eq] at hB
    obtain ⟨⟨⟨hr, hf⟩, hk⟩, hB'⟩ := hB
    obtain ⟨o, ho, hst⟩ := h
    have hr' : k ∈ Region.ready .any ops listed := by simpa using hr
    exact AnyG_first ho (Region.noSelect_spec hsel) hs hc hn hk (fun listed a E hL => seqB_ready hL.1) m listed a E inv (Region.free_spec ho hf) hr' (stepG_mono (fun a' E' h' => wpG_any hsel hs hc hn m (k + 1) _ a' E' (inv.set hr' hk) hB' h') hst)

/-- What is known of the blocks. -/
structure Got (al : Nat → Option Obj) (w0 : World) (listed : Array Bool) (E : Nat → Nat) (w : World) : Prop where
  frm : Frm M0 w0 w
  at' : ∀ i obj, al i = some obj → listed.getD i false = true → w0.heap.size ≤ E i ∧ w.heap[E i]? = some obj
  ne : ∀ i j oi oj, al i = some oi → al j = some oj → listed.getD i false = true → listed.getD j false = true → E i = E j → i = j
theorem Got.grow {listed : Array Bool} {E : Nat → Nat} {w w' : World} (h : Got al w0 listed E w) (hf : Frm M0 w w') : Got al w0 listed E w' :=
  ⟨h.frm.same hf, fun i obj h1 h2 => ⟨(h.at' i obj h1 h2).1, hf.heap (h.at' i obj h1 h2).2 (fun h => h)⟩, h.ne⟩
theorem getD_set_cases {listed : Array Bool} {i j : Nat} (h : (listed.setIfInBounds i true).getD j false = true) : j = i ∨ listed.getD j false = true := by
  by_cases hj : i = j
  · exact .inl hj.symm
  · rw [getD_set_ne false hj] at h; exact .inr h
theorem Got.list {listed : Array Bool} {E : Nat → Nat} {w : World} {i : Nat} (h : Got al w0 listed E w) (hi : al i = none) : Got al w0 (listed.setIfInBounds i true) E w := by
  have e : ∀ j oj, al j = some oj → (listed.setIfInBounds i true).getD j false = true → listed.getD j false = true := by
    intro j oj hj hl
    rcases getD_set_cases hl with rfl | h'
    · rw [hi] at hj; cases hj
    · exact h'
  exact ⟨h.frm, fun j obj h1 h2 => h.at' j obj h1 (e j _ h1 h2), fun j k oj ok h1 h2 h3 h4 => h.ne j k oj ok h1 h2 (e j _ h1 h3) (e k _ h2 h4)⟩
theorem Got.made {listed : Array Bool} {E : Nat → Nat} {w : World} {i : Nat} {obj : Obj} (h : Got al w0 listed E w) (hi : al i = some obj) (hl : listed.getD i false = false) : Got al w0 (listed.setIfInBounds i true) (upd E i w.heap.size) (w.alloc obj) := by
  have hlt : ∀ j oj, al j = some oj → listed.getD j false = true → E j < w.heap.size := fun j oj h1 h2 => (Array.getElem?_eq_some_iff.1 (h.at' j oj h1 h2).2).1
  refine ⟨h.frm.alloc _, fun j oj h1 h2 => ?_, fun j k oj ok h1 h2 h3 h4 he => ?_⟩
  · by_cases hj : j = i
    · subst hj
      obtain rfl : oj = obj := Option.some.inj (h1.symm.trans hi)
      simp only [upd, if_true]
      exact ⟨h.frm.size, heap_alloc_last w oj⟩
    · rcases getD_set_cases h2 with h' | h'
      · exact absurd h' hj
      · simp only [upd, if_neg hj]
        exact ⟨(h.at' j oj h1 h').1, ((Frm.refl M0 w).alloc obj).heap (h.at' j oj h1 h').2 (fun h => h)⟩
  · by_cases hj : j = i
    · by_cases hk : k = i
      · rw [hj, hk]
      · rcases getD_set_cases h4 with h' | h'
        · exact absurd h' hk
        · have := hlt k ok h2 h'
          simp only [upd, if_pos hj, if_neg hk] at he
          omega
    · rcases getD_set_cases h3 with h' | h'
      · exact absurd h' hj
      · have hl3 := hlt j oj h1 h'
        by_cases hk : k = i
        · simp only [upd, if_neg hj, if_pos hk] at he; omega
        · rcases getD_set_cases h4 with h'' | h''
          · exact absurd h'' hk
          · simp only [upd, if_neg hj, if_neg hk] at he
            exact h.ne j k oj ok h1 h2 h' h'' he

theorem sound_G {Q : Exit → Act → World → Prop} {g : Nat} (hal : ∀ i o obj, ops[i]? = some o → al i = some obj → o.guard = none ∧ ∀ a w, (execOp (Act.eval a) o).run P w = .ok (.value (ptrV w.heap.size)) (w.alloc obj))
    (HT : ∀ listed a E w, L listed a E → Got al w0 listed E w → wpAny P .any ops Q g listed a w) :
    ∀ (f : Nat) (listed : Array Bool) (a : Act) (E : Nat → Nat) (w : World), AnyG P ops w0 al vals n L f listed a E → Got al w0 listed E w → wpAny P .any ops Q (f + g) listed a w
  | 0, listed, a, E, w, h, hg => by rw [Nat.zero_add]; exact HT _ _ _ _ h hg
  | f + 1, listed, a, E, w, h, hg => by
    rw [show f + 1 + g = (f + g) + 1 by omega]
    refine ⟨fun h0 => absurd h0 h.1, fun i hi => ?_⟩
    obtain ⟨hin, o, ho, hst⟩ := h.2 i hi
    unfold stepG at hst
    cases hai : al i with
    | none =>
      rw [hai] at hst
      exact hst.1.wp ho hg.frm fun w' hf => sound_G hal HT f _ _ _ _ hst.2 ((hg.list hai).grow hf)
    | some obj =>
      rw [hai] at hst
      simp only [] at hst
      obtain ⟨hgd, hx⟩ := hal i o obj ho hai
      unfold wpOp
      simp only [ho]
      have hwt : Region.wanted o (yielded ops a.tmps) = true := by unfold Region.wanted; rw [hgd]
      simp only [hwt, if_true]
      refine .inl ?_
      unfold Oper.wp
      rw [hx]
      exact sound_G hal HT f _ _ _ _ (hst w.heap.size) (hg.made hai (getD_both (mem_ready.1 hi).1))

theorem wpG_val {QT : Act → (Nat → Nat) → Prop} {m k : Nat} {a : Act} {E : Nat → Nat} (o : Oper) (v : Value) (ho : ops[k]? = some o) (hk : al k = none) (hv : vals k = v) (hy : FY P ops w0 o v a) (h : wpG P ops w0 al vals QT m (k + 1) (a.put o.dst v) E) : wpG P ops w0 al vals QT (m + 1) k a E := by
  subst hv
  refine ⟨o, ho, ?_⟩
  unfold stepG; rw [hk]; exact ⟨hy, h⟩
theorem wpG_new {QT : Act → (Nat → Nat) → Prop} {m k : Nat} {a : Act} {E : Nat → Nat} (o : Oper) (obj : Obj) (ho : ops[k]? = some o) (hk : al k = some obj) (h : ∀ b, wpG P ops w0 al vals QT m (k + 1) (a.put o.dst (ptrV b)) (upd E k b)) : wpG P ops w0 al vals QT (m + 1) k a E := by
  refine ⟨o, ho, ?_⟩
  unfold stepG; rw [hk]; exact h
theorem wp_region_G {P : Program} {id : Nat} {Q : Exit → Act → World → Prop} {a : Act} {w : World} {l : List Oper} (n : Nat) (al : Nat → Option Obj) (vals : Nat → Value) (hm : P.follows .mixedOrders = true)
    (hB : (Region.noSelect l.toArray && Region.sinkB .any l.toArray n && Region.chainB .any l.toArray n && decide (n < l.toArray.size) && lexG l.toArray n n 0 (Array.replicate l.toArray.size false)) = true)
    (hal : ∀ i o obj, l.toArray[i]? = some o → al i = some obj → o.guard = none ∧ ∀ a w, (execOp (Act.eval a) o).run P w = .ok (.value (ptrV w.heap.size)) (w.alloc obj))
    (h : ∀ (ops : Array Oper) (QT : Act → (Nat → Nat) → Prop), AllOps ops l 0 →
      Hid (∀ a' E, (∀ w', Frm M0 w w' → (∀ i obj, i < n → al i = some obj → w.heap.size ≤ E i ∧ w'.heap[E i]? = some obj) → (∀ i j oi oj, i < n → j < n → al i = some oi → al j = some oj → E i = E j → i = j) → wpList P l.toArray Q (l.drop n) a' w') → QT a' E) →
      wpG P ops w al vals QT n 0 a (fun _ => 0)) :
    (Code.region id l.toArray true).wp P Q a w := by
  simp only [Bool.and_eq_true, decide_eq_true_eq] at hB
  obtain ⟨⟨⟨⟨hsel, hs⟩, hc⟩, hn⟩, hlex⟩ := hB
  refine wp_region_any hm ?_
  have inv : HeadInv .any l.toArray n (Array.replicate l.toArray.size false) := by
    refine ⟨by simp, ?_, ?_⟩
    · intro j oj _ hl; rw [getD_replicate_false] at hl; cases hl
    · intro t h1 h2
      have : t < l.toArray.size := h2
      simp at this
      simp [this]
  have hG := wpG_any (P := P) (w0 := w) hsel hs hc hn n 0 _ a _ inv hlex (h l.toArray (fun a' E => ∀ w', Frm M0 w w' → (∀ i obj, i < n → al i = some obj → w.heap.size ≤ E i ∧ w'.heap[E i]? = some obj) → (∀ i j oi oj, i < n → j < n → al i = some oi → al j = some oj → E i = E j → i = j) → wpList P l.toArray Q (l.drop n) a' w') (allOps_of l 0 fun j o hj => by simpa using hj) (hid fun _ _ h => h))
  have hsize : l.toArray.size = n + (l.toArray.size - n) := by omega
  have := sound_G (Q := Q) (g := l.toArray.size - n) hal ?_ n _ a (fun _ => 0) { w with drawn := w.drawn + 1 } hG ⟨(Frm.refl M0 w).drew, fun i obj _ hl => (by rw [getD_replicate_false] at hl; cases hl), fun i j oi oj _ _ hl => (by rw [getD_replicate_false] at hl; cases hl)⟩
  · rw [← hsize] at this; exact this
  · rintro listed a' E w' ⟨hq, hv, hQ⟩ hg
    have hin : n ∈ Region.ready .any l.toArray listed := by
      obtain ⟨m, hm⟩ : ∃ m, l.toArray.size - n = m + 1 := ⟨l.toArray.size - n - 1, by omega⟩
      rw [hm] at hq
      simp only [Region.seqB, Bool.and_eq_true, decide_eq_true_eq] at hq
      rw [hq.1]; simp
    have hl : ∀ i, i < n → listed.getD i false = true := fun i hi => by
      have h1 := all_listed hs hc hn hv hin i hi
      have h2 : i < listed.size := by rw [hv.size]; omega
      simp [h2] at h1 ⊢; exact h1
    have hlen : (l.drop n).length = l.toArray.size - n := by simp
    rw [← hlen]
    refine wpAny_of_seq (l.drop n) n listed a' w' (fun j => by simp) (by rw [hlen]; exact hq) (hQ w' hg.frm (fun i obj hi h1 => hg.at' i obj h1 (hl i hi)) (fun i j oi oj hi hj h1 h2 he => hg.ne i j oi oj h1 h2 (hl i hi) (hl j hj) he))
end
end Go.Proofs.YtonlmkcolndaaaaGreatDoor
