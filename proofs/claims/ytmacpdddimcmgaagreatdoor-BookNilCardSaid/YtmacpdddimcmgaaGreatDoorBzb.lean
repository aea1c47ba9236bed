/- What else holds of a book that records made; its versions in their row. Plain Lean, no condition. A load of a struct at an offset of a block known whole, in a region that draws its order. No condition. A region in the text's order whose operations yield one value each, whatever fresh memory was made: the same walk as for one that draws its order. No condition. num.Cut, Need, Room, spec.Budget, spec.Steps. The lease table: late, right, Get. The lease table: Free, Holds, own, right. The lease table: own, right, Take, Renew, New. The store of texts: right, New, Get. The store of texts: why, Do: of one op that puts a version anew. What the shelf lays at this dump: slices.Sorted of maps.Keys. The store's keys: Since, Keys, Len. Phases. A slice at an offset of a block of one's own: append in place or anew; what is cut off ahead. No condition. A region that draws its order, whose operations yield one value each in every world between, beside some that turn the world one behind the other: one walk of the text's order serves every order. No condition. A record, a spec that came in by value. No condition. A book in memory. -/
import Derived.Test.YtmacpdddimcmgaaGreatDoorBza
import Derived.Deep.WholeRow
import Derived.Deep.DeepCutAuto
import Derived.Shelf.SlIter.Nil
import Derived.Shelf.SortM.Plain
import Derived.Shelf.SortM.SortNone
import Derived.Ground.GgzProg
import Derived.Ground.SlgmProg
import Derived.Test.YtmacpdddimcmgaaGreatDoorProg
import Derived.ArgAppend
import Derived.ChangeSame
import Derived.OpenShut
namespace Go.Proofs.YtmacpdddimcmgaaGreatDoor
set_option linter.unusedVariables false
set_option linter.unusedSimpArgs false
set_option maxRecDepth 20000
open Go.RowKit
structure Bk.Ok (b : Bk) : Prop where
  inv : b.Inv
  mg : 0 ≤ b.m ∧ b.m ≤ 1048576
  lu : ∀ x, b.l = some x → (1 ≤ x.u ∧ x.u ≤ 1099511627776) ∧ (0 ≤ x.h ∧ x.h < 64) ∧ (0 ≤ x.e ∧ x.e ≤ 1099511627776)
  vk : ∀ x ∈ b.vs, (1 ≤ x.1 ∧ x.1 ≤ 1048576) ∧ 1 ≤ x.2.size ∧ x.2.size ≤ 64
  nd : (b.vs.map (·.1)).Nodup
  hr : ∀ r ∈ b.h, rightB r = true
  un : b.w.until' = (b.l.getD ⟨0, 0, 0⟩).u
theorem Bk.ok_new {m : Int} (h : 0 ≤ m ∧ m ≤ 1048576) : (Bk.new m).Ok where
  inv := Bk.inv_new m
  mg := h
  lu x hx := by cases hx
  vk x hx := by cases hx
  nd := List.nodup_nil
  hr r hr := by cases hr
  un := rfl
theorem lastN_mem {l : List Rc} {r : Rc} (h : r ∈ lastN l) : r ∈ l := List.mem_of_mem_drop h
theorem right_publish {r : Rc} (h : rightB r = true) (hk : r.k = 2) : (1 ≤ r.n ∧ r.n ≤ 1048576) ∧ 1 ≤ r.t.size ∧ r.t.size ≤ 64 := by
  obtain ⟨k, e, v, n, q, t, p⟩ := r
  simp only [] at hk
  subst hk
  unfold rightB at h
  rw [Bool.and_eq_true] at h
  have h3 : publishB ⟨2, e, v, n, q, t, p⟩ = true := h.2
  simp only [publishB, Bool.and_eq_true, btw_true] at h3
  obtain ⟨h4, h5, _⟩ := h3
  simp only []
  omega
theorem late_bd {n q : Int} (hn : 0 ≤ n ∧ n ≤ 1099511627776) (hq : 1 ≤ q) : 1 ≤ lateF n q ∧ lateF n q ≤ 1099511627776 := by unfold lateF; omega
theorem leads_full {b : Bk} (hb : b.Ok) {r : Rc} (hr : rightB r = true) (hk : r.k = 1) (h : b.leadE r = 0) : ∃ u, b.leads r = some ⟨r.w, r.e, u⟩ ∧ (1 ≤ u ∧ u ≤ 1099511627776) := by
  obtain ⟨u, hl, _⟩ := leads_some hb.inv hr hk h
  refine ⟨u, hl, ?_⟩
  have hlt := right_lead hr hk
  have hlt' := hlt
  simp only [ltRight, Bool.and_eq_true, decide_eq_true_eq] at hlt'
  have hlb := late_bd (n := r.n) (q := r.q) ⟨by omega, by omega⟩ (by omega)
  unfold Bk.leads at hl
  by_cases h1 : r.e = b.w.epoch
  · rw [if_pos h1] at hl
    unfold renewF at hl
    rw [hlt, if_neg (by decide)] at hl
    cases hbl : b.l with
    | none =>
      rw [hbl] at hl
      rw [if_pos (show ownF none r.w r.e ≠ 0 by show (5 : Int) ≠ 0; decide)] at hl
      cases hl
    | some x =>
      have hx := hb.lu x hbl
      rw [hbl] at hl
      split at hl
      · simp only [Option.some.injEq] at hl; have := congrArg Ls.u hl; simp only [] at this; omega
      · split at hl
        · simp only [Option.some.injEq] at hl; have := congrArg Ls.u hl; simp only [] at this; omega
        · simp only [Option.some.injEq] at hl; have := congrArg Ls.u hl; simp only [] at this; omega
  · rw [if_neg h1] at hl
    unfold takeF at hl
    rw [hlt, if_neg (by decide)] at hl
    split at hl
    · have := (hb.lu _ hl).1
      exact this
    · simp only [Option.some.injEq] at hl; have := congrArg Ls.u hl; simp only [] at this; omega
theorem Bk.ok_does {b : Bk} (hb : b.Ok) {r : Rc} (h : b.check r = 0) : (b.does r).Ok := by
  have hi2 := Bk.inv_does hb.inv h
  obtain ⟨hr, he, hc⟩ := check_zero h
  have hf := right_facts hr
  have hln : ∀ x ∈ lastN (b.h ++ [r]), rightB x = true := fun x hx => by
    rcases List.mem_append.1 (lastN_mem hx) with h | h
    · exact hb.hr x h
    · rw [List.mem_singleton.1 h]; exact hr
  rcases hc with ⟨hk, h0⟩ | ⟨hk, h0⟩ | ⟨hk, h0⟩ | ⟨hk, h0⟩ | ⟨hk, h0⟩ | ⟨hk, h0⟩ | ⟨hk, h0⟩
  · obtain ⟨u, hl, hu⟩ := leads_full hb hr hk h0
    have hlt := right_lead hr hk
    simp only [ltRight, Bool.and_eq_true, decide_eq_true_eq] at hlt
    have e : b.does r = { b with l := some ⟨r.w, r.e, u⟩, w := { b.w with epoch := r.e, leader := r.w, until' := u } } := by
      unfold Bk.does
      rw [if_pos hk, hl]; rfl
    rw [e] at hi2 ⊢
    refine ⟨hi2, hb.mg, fun x hx => ?_, hb.vk, hb.nd, hb.hr, rfl⟩
    have hx := Option.some.inj hx
    subst hx
    exact ⟨hu, ⟨(by show 0 ≤ r.w; omega), (by show r.w < 64; omega)⟩, (by show 0 ≤ r.e; omega), (by show r.e ≤ 1099511627776; omega)⟩
  · have e : b.does r = { b with vs := b.vs ++ [(r.n, r.t)] } := by
      unfold Bk.does
      rw [if_neg (by omega), if_pos hk]
    rw [e] at hi2 ⊢
    refine ⟨hi2, hb.mg, hb.lu, fun x hx => ?_, ?_, hb.hr, hb.un⟩
    · rcases List.mem_append.1 hx with h | h
      · exact hb.vk x h
      · rw [List.mem_singleton.1 h]; exact right_publish hr hk
    · show ((b.vs ++ [(r.n, r.t)]).map (·.1)).Nodup
      rw [List.map_append, List.nodup_append]
      refine ⟨hb.nd, by simp, fun a ha c hc => ?_⟩
      simp only [List.map_cons, List.map_nil, List.mem_singleton] at hc
      subst hc
      intro e
      subst e
      obtain ⟨y, hy, hye⟩ := List.mem_map.1 ha
      unfold Bk.publishE at h0
      split at h0
      · cases h0
      · rename_i hn
        apply hn
        unfold Bk.digest
        rw [Option.isSome_map, List.find?_isSome]
        exact ⟨y, hy, by simpa using hye⟩
  · have e : b.does r = { b with w := { b.w with spec := r.p, phase := 1, step := 0, since := r.n, begun := r.n, from' := b.w.stable }, h := lastN (b.h ++ [r]) } := by
      unfold Bk.does
      rw [if_neg (by omega), if_neg (by omega), if_pos hk]
    rw [e] at hi2 ⊢
    exact ⟨hi2, hb.mg, hb.lu, hb.vk, hb.nd, hln, hb.un⟩
  · have e : b.does r = { b with w := { b.w with phase := r.n, stable := if r.n = 3 then b.w.spec.s0 else b.w.stable }, h := lastN (b.h ++ [r]) } := by
      unfold Bk.does
      rw [if_neg (by omega), if_neg (by omega), if_neg (by omega), if_pos hk]
    rw [e] at hi2 ⊢
    exact ⟨hi2, hb.mg, hb.lu, hb.vk, hb.nd, hln, hb.un⟩
  · have e : b.does r = { b with w := { b.w with seq := r.q }, us := b.us.set r.w.toNat ⟨r.n, r.q, false⟩ } := by
      unfold Bk.does
      rw [if_neg (by omega), if_neg (by omega), if_neg (by omega), if_neg (by omega), if_pos hk]
    rw [e] at hi2 ⊢
    exact ⟨hi2, hb.mg, hb.lu, hb.vk, hb.nd, hb.hr, hb.un⟩
  · have e : b.does r = { b with us := b.us.set r.w.toNat ⟨(b.unit r.w).v, (b.unit r.w).s, true⟩ } := by
      unfold Bk.does
      rw [if_neg (by omega), if_neg (by omega), if_neg (by omega), if_neg (by omega), if_neg (by omega), if_pos hk]
    rw [e] at hi2 ⊢
    exact ⟨hi2, hb.mg, hb.lu, hb.vk, hb.nd, hb.hr, hb.un⟩
  · have e : b.does r = { b with w := { b.w with step := r.w, since := r.n }, h := lastN (b.h ++ [r]) } := by
      unfold Bk.does
      rw [if_neg (by omega), if_neg (by omega), if_neg (by omega), if_neg (by omega), if_neg (by omega), if_neg (by omega)]
    rw [e] at hi2 ⊢
    exact ⟨hi2, hb.mg, hb.lu, hb.vk, hb.nd, hln, hb.un⟩
theorem Bk.ok_apply {b : Bk} (hb : b.Ok) (r : Rc) : (b.apply r).1.Ok := by
  unfold Bk.apply
  split
  · rename_i h; exact Bk.ok_does hb h
  · exact hb
theorem Bk.ok_all : ∀ (l : List Rc) (b : Bk), b.Ok → (b.all l).1.Ok
  | [], b, h => h
  | r :: l, b, h => by
    show (Bk.all (b.apply r).1 l).1.Ok
    exact Bk.ok_all l _ (Bk.ok_apply h r)
def kvE : Nat → List (Int × ByteArray) → Int → ByteArray × Int
  | _, [], _ => (⟨#[]⟩, 0)
  | i, (k, t) :: l, n => if k = n then (t, (i : Int) + 1) else kvE (i + 1) l n
theorem kvE_miss {n : Int} : ∀ (l : List (Int × ByteArray)) (i : Nat), l.find? (fun x => decide (x.1 = n)) = none → kvE i l n = (⟨#[]⟩, 0)
  | [], _, _ => rfl
  | (k, t) :: l, i, h => by
    have hne : k ≠ n := by
      intro e
      rw [List.find?_cons, show decide (k = n) = true from decide_eq_true e] at h
      cases h
    rw [List.find?_cons, show decide (k = n) = false from decide_eq_false hne] at h
    unfold kvE
    rw [if_neg hne]
    exact kvE_miss l (i + 1) h
theorem kvE_hit {n : Int} {t : ByteArray} (hn : i64R n) : ∀ (l : List (Int × ByteArray)) (i : Nat), (∀ x ∈ l, i64R x.1) → (l.find? fun x => decide (x.1 = n)).map (·.2) = some t →
    sget (kvFrom i l) (str (Lib.itoa n)) = some (.agg #[.string t, .int .i64 (kvE i l n).2]) ∧ (kvE i l n).1 = t ∧ 0 < (kvE i l n).2 ∧ (kvE i l n).2 ≤ (i : Int) + l.length
  | [], _, _, h => by cases h
  | (k, u) :: l, i, hr, h => by
    by_cases hk : k = n
    · rw [List.find?_cons, show decide (k = n) = true from decide_eq_true hk] at h
      simp only [Option.map_some, Option.some.injEq] at h
      unfold kvE
      rw [if_pos hk]
      refine ⟨?_, h, by show 0 < (i : Int) + 1; omega, by rw [List.length_cons]; show (i : Int) + 1 ≤ _; omega⟩
      unfold sget
      rw [kvFrom, List.find?_cons, show decide (str (Lib.itoa k) = str (Lib.itoa n)) = true from decide_eq_true (by rw [hk])]
      rw [← h]; rfl
    · rw [List.find?_cons, show decide (k = n) = false from decide_eq_false hk] at h
      obtain ⟨h1, h2, h3, h4⟩ := kvE_hit hn l (i + 1) (fun x hx => hr x (by simp [hx])) h
      unfold kvE
      rw [if_neg hk]
      refine ⟨?_, h2, h3, by rw [List.length_cons]; omega⟩
      unfold sget at h1 ⊢
      rw [kvFrom, List.find?_cons, show decide (str (Lib.itoa k) = str (Lib.itoa n)) = false from decide_eq_false (fun e => hk (key_inj (hr (k, u) (by simp)) hn e))]
      exact h1
theorem kvE_all {n : Int} (hn : i64R n) (l : List (Int × ByteArray)) (hr : ∀ x ∈ l, i64R x.1) :
    (sget (kvFrom 0 l) (str (Lib.itoa n)) = none ∧ kvE 0 l n = (⟨#[]⟩, 0) ∧ (l.find? fun x => decide (x.1 = n)) = none) ∨
    (sget (kvFrom 0 l) (str (Lib.itoa n)) = some (.agg #[.string (kvE 0 l n).1, .int .i64 (kvE 0 l n).2]) ∧ 0 < (kvE 0 l n).2 ∧ ((l.find? fun x => decide (x.1 = n)).map (·.2) = some (kvE 0 l n).1) ∧ (kvE 0 l n).2 ≤ l.length) := by
  cases h : (l.find? fun x => decide (x.1 = n)) with
  | none => exact .inl ⟨kv_miss hn l 0 hr h, kvE_miss l 0 h, rfl⟩
  | some x =>
    obtain ⟨h1, h2, h3, h4⟩ := kvE_hit (t := x.2) hn l 0 hr (by rw [h]; rfl)
    refine .inr ⟨?_, h3, ?_, by omega⟩
    · rw [h1, h2]
    · rw [h2]; rfl
theorem kvE_is {n : Int} (hn : i64R n) (l : List (Int × ByteArray)) (hr : ∀ x ∈ l, i64R x.1) : decide (0 < (kvE 0 l n).2) = ((l.find? fun x => decide (x.1 = n)).map (·.2)).isSome := by
  rcases kvE_all hn l hr with ⟨_, h1, h2⟩ | ⟨_, h1, h2, _⟩
  · rw [h1, h2]; rfl
  · rw [h2, decide_eq_true h1]; rfl
end Go.Proofs.YtmacpdddimcmgaaGreatDoor
namespace Go.Proofs.YtmacpdddimcmgaaGreatDoor
set_option linter.unusedVariables false
set_option linter.unusedSimpArgs false
set_option maxRecDepth 20000
open Go.RowKit
theorem fu_load_at_g {P : Program} {op : Oper} {a : Act} {w : World} (ty : TypeId) (x : Operand) (ho : op.op = .load ty x) (g o : Nat) (hx : a.eval x = .pointer (some ⟨g, o, none⟩)) (t : TypeId) (cur cs : Array Value) (fr : Nat × Nat) (d : TypeDesc)
    (hg : w.heap[g]? = some (.cells cur t fr)) (hc : cs = cur.extract o (o + cs.size)) (hl : o + cs.size ≤ cur.size) (hu : P.underlying ty = some d) (hd : (match d with | .struct _ | .array _ _ => true | _ => false) = true) (hi : (P.info? ty).map (·.size) = some cs.size) :
    FUpon P w (.agg cs) ((execOp a.eval op).run P w) := by
  have hl : (loadCells ⟨g, o, none⟩ cs.toList.length).run P w = .ok cs.toList.toArray w :=
    run_loadCells_list (P := P) w ⟨g, o, none⟩ cs.toList (fun j v hv => by
      rw [addr_add]
      have hj : j < cs.size := by have := (List.getElem?_eq_some_iff.1 hv).1; simpa using this
      have h1 : cs[j]? = some v := by simpa using hv
      rw [hc] at h1
      rw [Array.getElem?_extract] at h1
      simp only [World.cell?, hg, if_true]
      split at h1
      · exact h1
      · cases h1)
  clear hc
  have hrun : (loadVar ty ⟨g, o, none⟩).run P w = .ok (.agg cs) w := by
    cases hq : P.info? ty with
    | none => simp [hq] at hi
    | some i =>
      have hs : i.size = cs.size := by simpa [hq] using hi
      have hagg : (isAgg ty).run P w = .ok true w := by
        unfold isAgg
        rw [Sem.run_bind, run_underlying hu w]
        cases d <;> simp_all
      simp only [Array.length_toList, Array.toArray_toList] at hl
      simp [loadVar, Sem.run_bind, hagg, sizeOf, typeInfo, hq, hs, hl]
  simp only [execOp, ho, hx, Instr.loadAt, Instr.sureAddr, Sem.run_bind, Sem.run_pure, Result.andThen_ok, hrun]
  exact ⟨rfl, rfl⟩
end Go.Proofs.YtmacpdddimcmgaaGreatDoor
namespace Go.Proofs.YtmacpdddimcmgaaGreatDoor
set_option linter.unusedVariables false
set_option linter.unusedSimpArgs false
set_option maxRecDepth 20000
open Go.RowKit
section
variable {P : Program} {ops : Array Oper} {w0 : World} {vals : Nat → Value}
theorem sound_N {Q : Exit → Act → World → Prop} {QT : Act → (Nat → Nat) → Prop} {tail : List Oper} (HT : ∀ a E w, QT a E → Frm M0 w0 w → wpList P ops Q tail a w) :
    ∀ (l : List Oper) (k : Nat) (a : Act) (E : Nat → Nat) (w : World), (∀ j o, l[j]? = some o → ops[k + j]? = some o) → wpG P ops w0 (fun _ => none) vals QT l.length k a E → Frm M0 w0 w → wpList P ops Q (l ++ tail) a w
  | [], k, a, E, w, _, h, hf => HT a E w h hf
  | o :: l, k, a, E, w, ho, h, hf => by
    obtain ⟨o', ho', hst⟩ := h
    have h0 := ho 0 o rfl
    rw [Nat.add_zero] at h0
    obtain rfl : o' = o := Option.some.inj (ho'.symm.trans h0)
    obtain ⟨hy, hk⟩ := hst
    have hwp := hy.wp (Q := Q) (K := wpList P ops Q (l ++ tail)) h0 hf (fun w' hf' => sound_N HT l (k + 1) _ _ _ (fun j o hj => by
      have := ho (j + 1) o (by simpa using hj)
      rwa [show k + (j + 1) = k + 1 + j by omega] at this) hk (hf.then0 hf'))
    unfold wpOp at hwp
    rw [h0] at hwp
    exact hwp
end
theorem wp_region_N {P : Program} {id : Nat} {Q : Exit → Act → World → Prop} {a : Act} {w : World} {l : List Oper} (n : Nat) (vals : Nat → Value) (hB : decide (n ≤ l.length) = true)
    (h : ∀ (ops : Array Oper) (QT : Act → (Nat → Nat) → Prop), AllOps ops l 0 →
      Hid (∀ a' E, (∀ w', Frm M0 w w' → wpList P l.toArray Q (l.drop n) a' w') → QT a' E) →
      wpG P ops w (fun _ => none) vals QT n 0 a (fun _ => 0)) :
    (Code.region id l.toArray false).wp P Q a w := by
  refine wp_region_list ?_
  have hn : n ≤ l.length := of_decide_eq_true hB
  have hG := h l.toArray (fun a' E => ∀ w', Frm M0 w w' → wpList P l.toArray Q (l.drop n) a' w') (allOps_of l 0 fun j o hj => by simpa using hj) (hid fun _ _ h => h)
  have hlen : (l.take n).length = n := by rw [List.length_take]; omega
  rw [← hlen] at hG
  have := sound_N (Q := Q) (tail := l.drop n) (fun a E w hq hf => by
    have h1 := hq w hf
    rwa [hlen] at h1) (l.take n) 0 a (fun _ => 0) w (fun j o hj => by
      rw [Nat.zero_add]
      have h1 : j < (l.take n).length := (List.getElem?_eq_some_iff.1 hj).1
      rw [List.getElem?_take] at hj
      split at hj
      · simpa using hj
      · cases hj) hG (Frm.refl _ _)
  rw [List.take_append_drop] at this
  simpa using this
end Go.Proofs.YtmacpdddimcmgaaGreatDoor
namespace Go.Proofs.YtmacpdddimcmgaaGreatDoor
set_option linter.unusedVariables false
set_option linter.unusedSimpArgs false
set_option maxRecDepth 20000
open Go.RowKit
attribute [-go_sem] run_max_int2 run_min_int2
attribute [local go_sem] run_mn2 run_mx2
def cutF (n : Int) : Int := min (max n 0) 1048576
theorem cutF_bd (n : Int) : 0 ≤ cutF n ∧ cutF n ≤ 1048576 := by unfold cutF; omega
theorem cut_calls (n : Int) (w : World) : Calls Tryz.prog 62 #[.int .i64 n] w fun e w' => e = .returned (.int .i64 (cutF n)) ∧ w = w' := by
  go_enter Tryz.func62, Tryz.ntmps62
  go_wp2_with fail
  go_ret
  exact ⟨rfl, rfl⟩
def stepsL (p : Sp) : List Int := [p.s5, p.s6, p.s7, p.s8]
def stepsF (p : Sp) : List Int := (stepsL p).takeWhile (fun n => n != 0)
theorem takeW_end {l : List Int} {k : Nat} (h : ∀ x ∈ l.take k, x ≠ 0) (hk : l[k]? = some 0) : l.takeWhile (fun n => n != 0) = l.take k := by
  induction l generalizing k with
  | nil => simp at hk
  | cons a l ih =>
    rcases k with _ | k
    · simp only [List.getElem?_cons_zero, Option.some.injEq] at hk
      subst hk; simp
    · have ha : a ≠ 0 := h a (by simp)
      rw [List.takeWhile_cons, List.take_succ_cons, if_pos (by simpa using ha), ih (k := k) (fun x hx => h x (by rw [List.take_succ_cons]; exact List.mem_cons_of_mem _ hx)) (by simpa using hk)]
theorem takeW_all {l : List Int} (h : ∀ x ∈ l, x ≠ 0) : l.takeWhile (fun n => n != 0) = l := by
  induction l with
  | nil => rfl
  | cons a l ih => rw [List.takeWhile_cons, if_pos (by simpa using h a (by simp)), ih (fun x hx => h x (by simp [hx]))]
set_option maxRecDepth 20000 in
set_option maxHeartbeats 4000000 in
theorem steps_calls (p : Sp) (w : World) : Calls Tryz.prog 133 #[p.val] w fun r w' => ∃ v, r = .returned v ∧ w'.ownsRow w.heap.size 3 1 v (stepsF p).length (ints .i64 (stepsF p)) ∧ Frm M0 w w' := by
  have HV : Hid (p.val = .agg #[.int .i64 p.s0, .int .i64 p.s1, .int .i64 p.s2, .int .i64 p.s3, .int .i64 p.s4, .int .i64 p.s5, .int .i64 p.s6, .int .i64 p.s7, .int .i64 p.s8, .int .i64 p.s9, .int .i64 p.s10, .int .i64 p.s11]) := rfl
  rw [HV.out]
  have HSL : Hid (stepsL p = [p.s5, p.s6, p.s7, p.s8]) := rfl
  obtain ⟨SF, HSF⟩ : ∃ x, Hid (stepsF p = x) := ⟨_, rfl⟩
  rw [HSF.out]
  have H0 := hid (new1 w (.cells #[.int .i64 p.s0, .int .i64 p.s1, .int .i64 p.s2, .int .i64 p.s3, .int .i64 p.s4, .int .i64 p.s5, .int .i64 p.s6, .int .i64 p.s7, .int .i64 p.s8, .int .i64 p.s9, .int .i64 p.s10, .int .i64 p.s11] 30))
  go_enter Tryz.func133, Tryz.ntmps133
  go_wp2_with (refine wpList_load_at (by kernel_rfl) 28 (.tmp 6) (by with_reducible rfl) w.heap.size 5 (by kernel_rfl) _ _ _ H0.out #[.int .i64 p.s5, .int .i64 p.s6, .int .i64 p.s7, .int .i64 p.s8] (by rfl) (by decide) _ Tryz.underlying28 rfl (by kernel_rfl) ?_)
  have HF0 := hid ((Frm.refl M0 w).alloc (.cells #[.int .i64 p.s0, .int .i64 p.s1, .int .i64 p.s2, .int .i64 p.s3, .int .i64 p.s4, .int .i64 p.s5, .int .i64 p.s6, .int .i64 p.s7, .int .i64 p.s8, .int .i64 p.s9, .int .i64 p.s10, .int .i64 p.s11] 30))
  obtain ⟨w1, hw1⟩ : ∃ x, x = w.alloc (.cells #[.int .i64 p.s0, .int .i64 p.s1, .int .i64 p.s2, .int .i64 p.s3, .int .i64 p.s4, .int .i64 p.s5, .int .i64 p.s6, .int .i64 p.s7, .int .i64 p.s8, .int .i64 p.s9, .int .i64 p.s10, .int .i64 p.s11] 30) := ⟨_, rfl⟩
  rw [← hw1] at HF0
  rw [← hw1]
  clear hw1 H0
  go_loopw [3, 8] (fun v3 i8 wr => ∃ k : Nat, k ≤ 4 ∧ i8 = .int .i64 k ∧ Hid (∀ x ∈ (stepsL p).take k, x ≠ 0) ∧ Hid (wr.ownsRow w1.heap.size 3 1 v3 ((stepsL p).take k).length (ints .i64 ((stepsL p).take k))) ∧ Hid (Frm M0 w1 wr)) (fun _ i _ => 4 - (intOf i).toNat)
  case atStart => exact ⟨0, by omega, rfl, hid (by simp), hid (World.ownsRow_nil _ _ _ _), hid (Frm.refl _ _)⟩
  case round =>
    obtain ⟨k, hk, rfl, HNZ, HO, HF⟩ := hrel
    have HLN : Hid (((stepsL p).take k).length = k) := hid (by rw [List.length_take, HSL.out]; simp; omega)
    by_cases hlt : k < 4
    · obtain ⟨x, HX⟩ : ∃ x, Hid ((stepsL p)[k]? = some x) := ⟨(stepsL p)[k]'(by rw [HSL.out]; simpa using hlt), hid (List.getElem?_eq_getElem _)⟩
      have HXV : Hid (#[Value.int .i64 p.s5, .int .i64 p.s6, .int .i64 p.s7, .int .i64 p.s8][k]? = some (.int .i64 x)) := hid (by
        show (((stepsL p).map (Value.int .i64)).toArray)[k]? = _
        rw [List.getElem?_toArray, List.getElem?_map, HX.out]; rfl)
      by_cases hx : x = 0
      · subst hx
        go_wp2_with (refine wpList_index rfl 28 3 (.tmp 7) (.tmp 8) (by with_reducible rfl) Tryz.underlying28 Tryz.underlying3 rfl (by kernel_rfl) _ rfl .i64 k rfl hlt (.int .i64 0) HXV.out ?_)
        go_ret
        have e : SF = (stepsL p).take k := by rw [← HSF.out]; exact takeW_end HNZ.out HX.out
        rw [e]
        exact ⟨_, rfl, owns_base HO.out HF0.out.size, HF0.out.then0 HF.out⟩
      · have hx' : (x == 0) = false := by simpa using hx
        have HXN := hid hx
        clear hx
        go_wp2_with (first | (refine wpList_index rfl 28 3 (.tmp 7) (.tmp 8) (by with_reducible rfl) Tryz.underlying28 Tryz.underlying3 rfl (by kernel_rfl) _ rfl .i64 k rfl hlt (.int .i64 x) HXV.out ?_) | (at_builtin; refine wpList_push_int rfl (.tmp 13) (.tmp 15) 47 rfl w1.heap.size 3 .i64 8 Tryz.underlying47 infoI _ ((stepsL p).take k) x rfl HO.out rfl (by rw [HLN.out]; unfold maxLen; omega) (by rw [HLN.out]; omega) HF.out.size ?_; intro v3 w3 ho3 hg3; have HO3 := hid ho3; have HG3 := hid hg3; clear ho3 hg3))
        refine ⟨⟨k + 1, by omega, by go_num, hid ?_, hid ?_, hid (HF.out.grown HG3.out (fun j hj hlt' => absurd (HO.out.lt j hj).1 (by omega)))⟩, by simp [intOf]; omega⟩
        · rw [take_snoc HX.out]
          intro y hy
          rcases List.mem_append.1 hy with h | h
          · exact HNZ.out y h
          · simp at h; subst h; exact HXN.out
        · rw [take_snoc HX.out]; exact HO3.out
    · obtain rfl : k = 4 := by omega
      have e : (stepsL p).take 4 = stepsL p := List.take_of_length_le (by rw [HSL.out]; simp)
      have hNZ := HNZ.out
      have hO := HO.out
      rw [e] at hNZ hO
      have e2 : SF = stepsL p := by rw [← HSF.out]; exact takeW_all hNZ
      rw [← e2] at hO
      have HOO := hid hO
      clear hO hNZ HO HNZ HLN e e2
      go_wp2_with fail
      go_ret
      exact ⟨_, rfl, owns_base HOO.out HF0.out.size, HF0.out.then0 HF.out⟩
end Go.Proofs.YtmacpdddimcmgaaGreatDoor
namespace Go.Proofs.YtmacpdddimcmgaaGreatDoor
set_option linter.unusedVariables false
set_option linter.unusedSimpArgs false
set_option maxRecDepth 20000
open Go.RowKit
def leadS : ByteArray := ⟨#[108, 101, 97, 100]⟩
def Ls.val (x : Ls) : Value := .agg #[.int .i64 x.h, .int .i64 x.e, .int .i64 x.u]
def lsV (l : Option Ls) : Value := (l.getD ⟨0, 0, 0⟩).val
def lsL : Option Ls → List (ByteArray × Value)
  | none => []
  | some x => [(leadS, x.val)]
def TabAt (w : World) (b B : Nat) (m : Int) (l : Option Ls) : Prop :=
  w.heap[b]? = some (.cells #[.int .i64 m, .map (some B)] 122 (0, 0)) ∧ w.heap[B]? = some (smapO (lsL l)) ∧ b ≠ B
theorem TabAt.frm {M : Nat → Prop} {w w' : World} {b B : Nat} {m : Int} {l : Option Ls} (h : TabAt w b B m l) (hf : Frm M w w') (h1 : ¬ M b) (h2 : ¬ M B) : TabAt w' b B m l := ⟨hf.heap h.1 h1, hf.heap h.2.1 h2, h.2.2⟩
theorem TabAt.frm0 {w w' : World} {b B : Nat} {m : Int} {l : Option Ls} (h : TabAt w b B m l) (hf : Frm M0 w w') : TabAt w' b B m l := h.frm hf (fun h => h) (fun h => h)
theorem tab_lookup {w : World} {B : Nat} {l : Option Ls} (h : w.heap[B]? = some (smapO (lsL l))) (ok : Bool) :
    (Instr.lookup 120 (.map (some B)) (.string leadS) ok).run Tryz.prog w = .ok (if ok then .tuple #[lsV l, .bool l.isSome] else lsV l) w := by
  cases l with
  | none =>
    have hz : (zeroValue 129).run Tryz.prog w = .ok (.agg #[.int .i64 0, .int .i64 0, .int .i64 0]) w := (zero_of_info (n := 3) (by kernel_rfl)).1 w
    exact sget_miss (P := Tryz.prog) (T := 120) Tryz.underlying120 Tryz.underlying9 h leadS _ hz rfl ok
  | some x => exact sget_hit (P := Tryz.prog) (T := 120) Tryz.underlying120 Tryz.underlying9 h leadS x.val (by unfold sget lsL; rfl) ok
theorem tab_put {w : World} {B : Nat} {l : Option Ls} (h : w.heap[B]? = some (smapO (lsL l))) (x : Ls) :
    (Instr.mapUpdate 120 (.map (some B)) (.string leadS) x.val).run Tryz.prog w = .ok () (putO w B (smapO (lsL (some x)))) := by
  have := sput_run (P := Tryz.prog) (T := 120) Tryz.underlying120 Tryz.underlying9 h leadS x.val
  have e : sput (lsL l) leadS x.val = lsL (some x) := by
    cases l with
    | none => rfl
    | some y => unfold lsL sput; rw [if_pos rfl]
  rw [e] at this
  exact this
attribute [-go_sem] run_max_int2 run_min_int2 in
attribute [local go_sem] run_mn2 run_mx2 in
theorem late_calls (a b : Int) (w : World) : Calls Tryz.prog 82 #[.int .i64 a, .int .i64 b] w fun x w' => x = .returned (.int .i64 (min (wrap64 (a + b)) 1099511627776)) ∧ Frm M0 w w' := by
  go_enter Tryz.func82, Tryz.ntmps82
  go_wp2_with fail
  go_ret
  exact ⟨rfl, Frm.refl _ _⟩
set_option maxRecDepth 20000 in
theorem get_calls (b B : Nat) (m : Int) (l : Option Ls) (w : World) (h : TabAt w b B m l) : Calls Tryz.prog 65 #[.pointer (some ⟨b, 0, none⟩), .string leadS] w fun x w' => x = .returned (.tuple #[lsV l, .bool l.isSome]) ∧ Frm M0 w w' := by
  obtain ⟨h1, h2, h3⟩ := h
  have hl : ∀ wx : World, wx.heap[B]? = some (smapO (lsL l)) → (Instr.lookup 120 (.map (some B)) (.string leadS) true).run Tryz.prog wx = .ok (.tuple #[lsV l, .bool l.isSome]) wx := fun wx hx => tab_lookup hx true
  obtain ⟨x1, x2, x3, hx⟩ : ∃ x1 x2 x3 : Int, lsV l = .agg #[.int .i64 x1, .int .i64 x2, .int .i64 x3] := ⟨_, _, _, rfl⟩
  obtain ⟨I, hI⟩ : ∃ I, l.isSome = I := ⟨_, rfl⟩
  rw [hI, hx]
  simp only [hI, hx] at hl
  have HL := hid hl
  clear hl hx hI
  go_enter Tryz.func65, Tryz.ntmps65
  go_upto_region 1 with fail
  obtain ⟨r0, hr0⟩ : ∃ q, q = w.heap.size := ⟨_, rfl⟩
  obtain ⟨w1, hw1⟩ : ∃ q, q = w.alloc (.cells #[.int .i64 0, .int .i64 0, .int .i64 0] 129) := ⟨_, rfl⟩
  have hn := new1 w (.cells #[.int .i64 0, .int .i64 0, .int .i64 0] 129)
  have hf := (Frm.refl M0 w).alloc (.cells #[.int .i64 0, .int .i64 0, .int .i64 0] 129)
  rw [← hw1] at hn hf ⊢
  rw [← hr0] at hn ⊢
  have h1' := hf.heap h1 (fun h => h)
  have c1 : w1.cell? ⟨b, 1, none⟩ = some (.map (some B)) := sb_cell h1' 1
  have hl := HL.out w1 (hf.heap h2 (fun h => h))
  have HN := hid hn
  have HF := hid hf
  have HR := hid hr0
  clear hw1 hn hf h1' h1 h2 hr0 HL
  go_upto_region 4 with fail
  obtain ⟨b6, hb6⟩ : ∃ q, q = w1.heap.size := ⟨_, rfl⟩
  obtain ⟨w2, hw2⟩ : ∃ q, q = w1.alloc (.cells #[.int .i64 x1, .int .i64 x2, .int .i64 x3] 129) := ⟨_, rfl⟩
  have hn := new1 w1 (.cells #[.int .i64 x1, .int .i64 x2, .int .i64 x3] 129)
  have hf := (Frm.refl M0 w1).alloc (.cells #[.int .i64 x1, .int .i64 x2, .int .i64 x3] 129)
  rw [← hw2] at hn hf ⊢
  rw [← hb6] at hn ⊢
  have H6 := hid hn
  have H0 := hid (hf.heap HN.out (fun h => h))
  have HF2 := hid (HF.out.then0 hf)
  clear hw2 hn hf hb6 c1 hl HN HF
  go_wp2_with (first | (refine wpList_load_row_w (by kernel_rfl) 129 (.tmp 6) (by with_reducible rfl) b6 (by kernel_rfl) _ _ _ _ H6.out Tryz.underlying129 rfl (by kernel_rfl) ?_) | (refine wpList_store_row rfl 129 (.tmp 4) (.tmp 20) (by with_reducible rfl) r0 #[.int .i64 x1, .int .i64 x2, .int .i64 x3] (by kernel_rfl) (by kernel_rfl) _ _ H0.out (by kernel_rfl) (by rfl) (by simp [Value.oneCell']) ?_))
  refine bodyPost_ret (results_cell_slot (by rfl) _ _ r0 _ _ _ _ _ rfl rfl (setRow_heap _ _ _ _ _ _ H0.out) Tryz.underlying129 rfl (by kernel_rfl)) rfl ?_
  exact ⟨rfl, HF2.out.setRow _ _ (by have := HR.out; omega)⟩
end Go.Proofs.YtmacpdddimcmgaaGreatDoor
namespace Go.Proofs.YtmacpdddimcmgaaGreatDoor
set_option linter.unusedVariables false
set_option linter.unusedSimpArgs false
set_option maxRecDepth 20000
open Go.RowKit
theorem wrap_of {a : Int} (h : -9223372036854775808 ≤ a ∧ a ≤ 9223372036854775807) : wrap64 a = a := by unfold wrap64; omega
def lsq (a b : Ls) : Bool := decide (a = b)
set_option maxHeartbeats 1000000 in
theorem eq_ls (w : World) (d : Nat) (xh xe xu yh ye yu : Int) :
    (Op.equalIn (d + 1 + 1) 129 (.agg #[.int .i64 xh, .int .i64 xe, .int .i64 xu]) (.agg #[.int .i64 yh, .int .i64 ye, .int .i64 yu])).run Tryz.prog w = .ok (lsq ⟨xh, xe, xu⟩ ⟨yh, ye, yu⟩) w := by
  rw [run_equalIn_struct w (d + 1) _ _ _ Tryz.underlying129 (by kernel_rfl)]
  have he : ∀ x y : Int, (Op.equalIn (d + 1) 3 (.int .i64 x) (.int .i64 y)).run Tryz.prog w = .ok (x == y) w := fun x y => run_equalIn_int w d _ _ _ x y Tryz.underlying3
  refine Eq.trans (eqFields_cons (by decide) (part_int w _ _ xh rfl) (part_int w _ _ yh rfl) (he _ _) (eqFields_cons (by decide) (part_int w _ _ xe rfl) (part_int w _ _ ye rfl) (he _ _) (eqFields_cons (by decide) (part_int w _ _ xu rfl) (part_int w _ _ yu rfl) (he _ _) rfl))) ?_
  congr 1
  unfold lsq
  rw [Bool.eq_iff_iff]
  simp only [Bool.and_eq_true, beq_iff_eq, decide_eq_true_eq, Ls.mk.injEq, and_true]
theorem eql_ls (w : World) (xh xe xu yh ye yu : Int) :
    (binOp .eql 129 (.agg #[.int .i64 xh, .int .i64 xe, .int .i64 xu]) (.agg #[.int .i64 yh, .int .i64 ye, .int .i64 yu])).run Tryz.prog w = .ok (.bool (lsq ⟨xh, xe, xu⟩ ⟨yh, ye, yu⟩)) w := by
  rw [run_eql_struct, show (10000 : Nat) = 9998 + 1 + 1 from rfl, eq_ls]; rfl
theorem neq_ls (w : World) (xh xe xu yh ye yu : Int) :
    (binOp .neq 129 (.agg #[.int .i64 xh, .int .i64 xe, .int .i64 xu]) (.agg #[.int .i64 yh, .int .i64 ye, .int .i64 yu])).run Tryz.prog w = .ok (.bool (!lsq ⟨xh, xe, xu⟩ ⟨yh, ye, yu⟩)) w := by
  rw [run_neq_struct, show (10000 : Nat) = 9998 + 1 + 1 from rfl, eq_ls]; rfl
set_option maxRecDepth 20000 in
set_option maxHeartbeats 2000000 in
theorem tfree_calls (b B : Nat) (m : Int) (l : Option Ls) (now : Int) (w : World) (h : TabAt w b B m l) (hm : 0 ≤ m ∧ m ≤ 1048576) (hl : ∀ x, l = some x → 0 ≤ x.u ∧ x.u ≤ 1099511627776) :
    Calls Tryz.prog 47 #[.pointer (some ⟨b, 0, none⟩), .string leadS, .int .i64 now] w fun x w' => x = .returned (.bool (freeF m l now)) ∧ Frm M0 w w' := by
  obtain ⟨R, HR⟩ : ∃ R, Hid (freeF m l now = R) := ⟨_, rfl⟩
  obtain ⟨x1, x2, x3, hx⟩ : ∃ x1 x2 x3 : Int, l.getD ⟨0, 0, 0⟩ = ⟨x1, x2, x3⟩ := ⟨_, _, _, rfl⟩
  obtain ⟨I, hI⟩ : ∃ I, l.isSome = I := ⟨_, rfl⟩
  have HXV : Hid (lsV l = .agg #[.int .i64 x1, .int .i64 x2, .int .i64 x3]) := by show lsV l = _; unfold lsV; rw [hx]; rfl
  have HI := hid hI
  have HRR : Hid ((I = false → R = true) ∧ (I = true → x3 = 0 → R = true) ∧ (I = true → ¬ x3 = 0 → R = decide (min (wrap64 (x3 + m)) 1099511627776 ≤ now))) := by
    rw [← HR.out]
    refine hid (And.intro (fun hq => ?_) (And.intro (fun hq h0 => ?_) (fun hq h0 => ?_)))
    · cases l with
      | none => rfl
      | some y => rw [← hI] at hq; cases hq
    · cases l with
      | none => rfl
      | some y =>
        have e : y.u = x3 := congrArg Ls.u hx
        show (decide (y.u = 0) || _) = true
        rw [e, decide_eq_true h0]; rfl
    · cases l with
      | none => rw [← hI] at hq; cases hq
      | some y =>
        have hy := hl y rfl
        have e : y.u = x3 := congrArg Ls.u hx
        have ew : wrap64 (x3 + m) = x3 + m := wrap_of (by omega)
        show (decide (y.u = 0) || decide (lateF y.u m ≤ now)) = _
        rw [e, decide_eq_false h0, ew]; rfl
  rw [HR.out]
  have HT := hid h
  clear h hm hl hx hI HR
  go_enter Tryz.func47, Tryz.ntmps47
  go_wp2_with fail
  refine (get_calls b B m l _ HT.out).mono ?_
  rintro _ w1 ⟨rfl, hf⟩
  rw [HXV.out, HI.out]
  have HF1 := hid hf
  have HT1 := hid (HT.out.frm0 hf)
  clear hf HT HXV HI
  have HN := hid (new1 w1 (.cells #[.int .i64 0, .int .i64 0, .int .i64 0] 129))
  go_upto_region 2 with (refine wpList_store_row rfl 129 (.tmp 7) (.tmp 13) (by with_reducible rfl) w1.heap.size #[.int .i64 x1, .int .i64 x2, .int .i64 x3] (by kernel_rfl) (by kernel_rfl) _ _ HN.out (by kernel_rfl) (by rfl) (by simp [Value.oneCell']) ?_)
  obtain ⟨b7, hb7⟩ : ∃ q, q = w1.heap.size := ⟨_, rfl⟩
  obtain ⟨w2, hw2⟩ : ∃ q, q = (w1.alloc (.cells #[.int .i64 0, .int .i64 0, .int .i64 0] 129)).setRow w1.heap.size #[.int .i64 x1, .int .i64 x2, .int .i64 x3] := ⟨_, rfl⟩
  have hn := setRow_heap _ w1.heap.size _ #[.int .i64 x1, .int .i64 x2, .int .i64 x3] _ _ HN.out
  have hf2 : Frm M0 w1 ((w1.alloc (.cells #[.int .i64 0, .int .i64 0, .int .i64 0] 129)).setRow w1.heap.size #[.int .i64 x1, .int .i64 x2, .int .i64 x3]) := ((Frm.refl M0 w1).alloc _).setRow _ _ (Nat.le_refl _)
  rw [← hw2] at hn hf2 ⊢
  rw [← hb7] at hn ⊢
  have H7 := hid hn
  have HT2 := hid (HT1.out.frm0 hf2)
  have HF2 := hid (HF1.out.then0 hf2)
  clear hn hf2 hw2 hb7 HN HT1 HF1
  cases I with
  | false =>
    have hR := HRR.out.1 rfl
    clear HRR
    subst hR
    apply wp_region_G 22 (fun _ => none) (valsL (_ :: _ :: _ :: _ :: _ :: _ :: _ :: _ :: _ :: _ :: _ :: _ :: _ :: _ :: _ :: _ :: _ :: _ :: _ :: _ :: _ :: _ :: [])) ?hm1 ?hB1 ?hal1 ?main1
    case hm1 => kernel_rfl
    case hB1 => kernel_rfl
    case hal1 =>
      intro i o obj ho hi
      cases hi
    rotate_left 22
    intro ops QT HO HQ
    obtain ⟨ho0, HO⟩ := HO
    refine wpG_v ho0.out rfl ?_ ?_
    · simp only [valsL_zero, valsL_succ]; apply FY_in rfl; intro wx hx
      go_simp
      exact ⟨rfl, rfl⟩
    simp only [Act.put, List.setIfInBounds_toArray, List.set_cons_zero, List.set_cons_succ, valsL_zero, valsL_succ]
    obtain ⟨ho1, HO⟩ := HO
    refine wpG_v ho1.out rfl ?_ ?_
    · simp only [valsL_zero, valsL_succ]; apply FY_in rfl; intro wx hx
      go_simp
      exact ⟨rfl, rfl⟩
    simp only [Act.put, List.setIfInBounds_toArray, List.set_cons_zero, List.set_cons_succ, valsL_zero, valsL_succ]
    obtain ⟨ho2, HO⟩ := HO
    refine wpG_v ho2.out rfl ?_ ?_
    · simp only [valsL_zero, valsL_succ]; apply FY_in rfl; intro wx hx
      go_simp
      exact ⟨rfl, rfl⟩
    simp only [Act.put, List.setIfInBounds_toArray, List.set_cons_zero, List.set_cons_succ, valsL_zero, valsL_succ]
    obtain ⟨ho3, HO⟩ := HO
    refine wpG_v ho3.out rfl ?_ ?_
    · simp only [valsL_zero, valsL_succ]; apply FY_yes (d := 17) rfl ho2.out (by rfl) (by kernel_rfl); intro wx hx
      go_simp
      exact ⟨rfl, rfl⟩
    simp only [Act.put, List.setIfInBounds_toArray, List.set_cons_zero, List.set_cons_succ, valsL_zero, valsL_succ]
    obtain ⟨ho4, HO⟩ := HO
    refine wpG_v ho4.out rfl ?_ ?_
    · simp only [valsL_zero, valsL_succ]; apply FY_yes (d := 17) rfl ho2.out (by rfl) (by kernel_rfl); intro wx hx
      go_simp
      exact ⟨rfl, rfl⟩
    simp only [Act.put, List.setIfInBounds_toArray, List.set_cons_zero, List.set_cons_succ, valsL_zero, valsL_succ]
    obtain ⟨ho5, HO⟩ := HO
    refine wpG_v ho5.out rfl ?_ ?_
    · simp only [valsL_zero, valsL_succ]; apply FY_yes (d := 17) rfl ho2.out (by rfl) (by kernel_rfl); intro wx hx
      go_simp
      exact ⟨rfl, rfl⟩
    simp only [Act.put, List.setIfInBounds_toArray, List.set_cons_zero, List.set_cons_succ, valsL_zero, valsL_succ]
    obtain ⟨ho6, HO⟩ := HO
    refine wpG_v ho6.out rfl ?_ ?_
    · simp only [valsL_zero, valsL_succ]; exact FY_no (d := 20) rfl ho5.out (by rfl) (by kernel_rfl)
    simp only [Act.put, List.setIfInBounds_toArray, List.set_cons_zero, List.set_cons_succ, valsL_zero, valsL_succ]
    obtain ⟨ho7, HO⟩ := HO
    refine wpG_v ho7.out rfl ?_ ?_
    · simp only [valsL_zero, valsL_succ]; exact FY_no (d := 20) rfl ho5.out (by rfl) (by kernel_rfl)
    simp only [Act.put, List.setIfInBounds_toArray, List.set_cons_zero, List.set_cons_succ, valsL_zero, valsL_succ]
    obtain ⟨ho8, HO⟩ := HO
    refine wpG_v ho8.out rfl ?_ ?_
    · simp only [valsL_zero, valsL_succ]; exact FY_no (d := 20) rfl ho5.out (by rfl) (by kernel_rfl)
    simp only [Act.put, List.setIfInBounds_toArray, List.set_cons_zero, List.set_cons_succ, valsL_zero, valsL_succ]
    obtain ⟨ho9, HO⟩ := HO
    refine wpG_v ho9.out rfl ?_ ?_
    · simp only [valsL_zero, valsL_succ]; apply FY_yes (d := 17) rfl ho2.out (by rfl) (by kernel_rfl); intro wx hx
      go_simp
      exact ⟨rfl, rfl⟩
    simp only [Act.put, List.setIfInBounds_toArray, List.set_cons_zero, List.set_cons_succ, valsL_zero, valsL_succ]
    obtain ⟨ho10, HO⟩ := HO
    refine wpG_v ho10.out rfl ?_ ?_
    · simp only [valsL_zero, valsL_succ]; apply FY_yes (d := 17) rfl ho2.out (by rfl) (by kernel_rfl); intro wx hx
      go_simp
      exact ⟨rfl, rfl⟩
    simp only [Act.put, List.setIfInBounds_toArray, List.set_cons_zero, List.set_cons_succ, valsL_zero, valsL_succ]
    obtain ⟨ho11, HO⟩ := HO
    refine wpG_v ho11.out rfl ?_ ?_
    · simp only [valsL_zero, valsL_succ]; exact FY_no (d := 25) rfl ho10.out (by rfl) (by kernel_rfl)
    simp only [Act.put, List.setIfInBounds_toArray, List.set_cons_zero, List.set_cons_succ, valsL_zero, valsL_succ]
    obtain ⟨ho12, HO⟩ := HO
    refine wpG_v ho12.out rfl ?_ ?_
    · simp only [valsL_zero, valsL_succ]; exact FY_no (d := 25) rfl ho10.out (by rfl) (by kernel_rfl)
    simp only [Act.put, List.setIfInBounds_toArray, List.set_cons_zero, List.set_cons_succ, valsL_zero, valsL_succ]
    obtain ⟨ho13, HO⟩ := HO
    refine wpG_v ho13.out rfl ?_ ?_
    · simp only [valsL_zero, valsL_succ]; exact FY_no (d := 25) rfl ho10.out (by rfl) (by kernel_rfl)
    simp only [Act.put, List.setIfInBounds_toArray, List.set_cons_zero, List.set_cons_succ, valsL_zero, valsL_succ]
    obtain ⟨ho14, HO⟩ := HO
    refine wpG_v ho14.out rfl ?_ ?_
    · simp only [valsL_zero, valsL_succ]; exact FY_no (d := 25) rfl ho10.out (by rfl) (by kernel_rfl)
    simp only [Act.put, List.setIfInBounds_toArray, List.set_cons_zero, List.set_cons_succ, valsL_zero, valsL_succ]
    obtain ⟨ho15, HO⟩ := HO
    refine wpG_v ho15.out rfl ?_ ?_
    · simp only [valsL_zero, valsL_succ]; exact FY_no (d := 25) rfl ho10.out (by rfl) (by kernel_rfl)
    simp only [Act.put, List.setIfInBounds_toArray, List.set_cons_zero, List.set_cons_succ, valsL_zero, valsL_succ]
    obtain ⟨ho16, HO⟩ := HO
    refine wpG_v ho16.out rfl ?_ ?_
    · simp only [valsL_zero, valsL_succ]; exact FY_no (d := 25) rfl ho10.out (by rfl) (by kernel_rfl)
    simp only [Act.put, List.setIfInBounds_toArray, List.set_cons_zero, List.set_cons_succ, valsL_zero, valsL_succ]
    obtain ⟨ho17, HO⟩ := HO
    refine wpG_v ho17.out rfl ?_ ?_
    · simp only [valsL_zero, valsL_succ]; exact FY_no (d := 25) rfl ho10.out (by rfl) (by kernel_rfl)
    simp only [Act.put, List.setIfInBounds_toArray, List.set_cons_zero, List.set_cons_succ, valsL_zero, valsL_succ]
    obtain ⟨ho18, HO⟩ := HO
    refine wpG_v ho18.out rfl ?_ ?_
    · simp only [valsL_zero, valsL_succ]; exact FY_no (d := 25) rfl ho10.out (by rfl) (by kernel_rfl)
    simp only [Act.put, List.setIfInBounds_toArray, List.set_cons_zero, List.set_cons_succ, valsL_zero, valsL_succ]
    obtain ⟨ho19, HO⟩ := HO
    refine wpG_v ho19.out rfl ?_ ?_
    · simp only [valsL_zero, valsL_succ]; exact FY_no (d := 25) rfl ho10.out (by rfl) (by kernel_rfl)
    simp only [Act.put, List.setIfInBounds_toArray, List.set_cons_zero, List.set_cons_succ, valsL_zero, valsL_succ]
    obtain ⟨ho20, HO⟩ := HO
    refine wpG_v ho20.out rfl ?_ ?_
    · simp only [valsL_zero, valsL_succ]; apply FY_yes (d := 17) rfl ho2.out (by rfl) (by kernel_rfl); intro wx hx
      go_simp
      exact ⟨rfl, rfl⟩
    simp only [Act.put, List.setIfInBounds_toArray, List.set_cons_zero, List.set_cons_succ, valsL_zero, valsL_succ]
    obtain ⟨ho21, HO⟩ := HO
    refine wpG_v ho21.out rfl ?_ ?_
    · simp only [valsL_zero, valsL_succ]; apply FY_in rfl; intro wx hx
      go_simp
      exact ⟨rfl, rfl⟩
    simp only [Act.put, List.setIfInBounds_toArray, List.set_cons_zero, List.set_cons_succ, valsL_zero, valsL_succ]
    refine HQ.out _ _ ?_
    intro wr hf hE hN
    simp only [List.drop_succ_cons, List.drop_zero]
    clear HQ HO hE hN ho0 ho1 ho2 ho3 ho4 ho5 ho6 ho7 ho8 ho9 ho10 ho11 ho12 ho13 ho14 ho15 ho16 ho17 ho18 ho19 ho20 ho21
    have HF := hid (HF2.out.then0 hf)
    clear hf
    go_wp2_with fail
    go_ret
    exact ⟨rfl, HF.out⟩
  | true =>
    by_cases h0 : x3 = 0
    · have hR := HRR.out.2.1 rfl h0
      clear HRR
      subst hR
      subst h0
      apply wp_region_G 22 (fun _ => none) (valsL (_ :: _ :: _ :: _ :: _ :: _ :: _ :: _ :: _ :: _ :: _ :: _ :: _ :: _ :: _ :: _ :: _ :: _ :: _ :: _ :: _ :: _ :: [])) ?hm2 ?hB2 ?hal2 ?main2
      case hm2 => kernel_rfl
      case hB2 => kernel_rfl
      case hal2 =>
        intro i o obj ho hi
        cases hi
      rotate_left 22
      intro ops QT HO HQ
      obtain ⟨ho0, HO⟩ := HO
      refine wpG_v ho0.out rfl ?_ ?_
      · simp only [valsL_zero, valsL_succ]; apply FY_in rfl; intro wx hx
        go_simp
        exact ⟨rfl, rfl⟩
      simp only [Act.put, List.setIfInBounds_toArray, List.set_cons_zero, List.set_cons_succ, valsL_zero, valsL_succ]
      obtain ⟨ho1, HO⟩ := HO
      refine wpG_v ho1.out rfl ?_ ?_
      · simp only [valsL_zero, valsL_succ]; apply FY_in rfl; intro wx hx
        go_simp
        exact ⟨rfl, rfl⟩
      simp only [Act.put, List.setIfInBounds_toArray, List.set_cons_zero, List.set_cons_succ, valsL_zero, valsL_succ]
      obtain ⟨ho2, HO⟩ := HO
      refine wpG_v ho2.out rfl ?_ ?_
      · simp only [valsL_zero, valsL_succ]; apply FY_in rfl; intro wx hx
        go_simp
        exact ⟨rfl, rfl⟩
      simp only [Act.put, List.setIfInBounds_toArray, List.set_cons_zero, List.set_cons_succ, valsL_zero, valsL_succ]
      obtain ⟨ho3, HO⟩ := HO
      refine wpG_v ho3.out rfl ?_ ?_
      · simp only [valsL_zero, valsL_succ]; apply FY_yes (d := 17) rfl ho2.out (by rfl) (by kernel_rfl); intro wx hx
        go_simp
        exact ⟨rfl, rfl⟩
      simp only [Act.put, List.setIfInBounds_toArray, List.set_cons_zero, List.set_cons_succ, valsL_zero, valsL_succ]
      obtain ⟨ho4, HO⟩ := HO
      refine wpG_v ho4.out rfl ?_ ?_
      · simp only [valsL_zero, valsL_succ]; apply FY_yes (d := 17) rfl ho2.out (by rfl) (by kernel_rfl); intro wx hx
        go_simp
        exact ⟨rfl, rfl⟩
      simp only [Act.put, List.setIfInBounds_toArray, List.set_cons_zero, List.set_cons_succ, valsL_zero, valsL_succ]
      obtain ⟨ho5, HO⟩ := HO
      refine wpG_v ho5.out rfl ?_ ?_
      · simp only [valsL_zero, valsL_succ]; apply FY_yes (d := 17) rfl ho2.out (by rfl) (by kernel_rfl); intro wx hx
        go_simp
        exact ⟨rfl, rfl⟩
      simp only [Act.put, List.setIfInBounds_toArray, List.set_cons_zero, List.set_cons_succ, valsL_zero, valsL_succ]
      obtain ⟨ho6, HO⟩ := HO
      refine wpG_v ho6.out rfl ?_ ?_
      · simp only [valsL_zero, valsL_succ]; apply FY_yes (d := 20) rfl ho5.out (by rfl) (by kernel_rfl); intro wx hx
        go_simp
        exact ⟨rfl, rfl⟩
      simp only [Act.put, List.setIfInBounds_toArray, List.set_cons_zero, List.set_cons_succ, valsL_zero, valsL_succ]
      obtain ⟨ho7, HO⟩ := HO
      refine wpG_v ho7.out rfl ?_ ?_
      · simp only [valsL_zero, valsL_succ]; apply FY_yes (d := 20) rfl ho5.out (by rfl) (by kernel_rfl); intro wx hx
        have hc0 := sb_cell (hx.heap H7.out (fun h => h))
        go_simp
        exact ⟨rfl, rfl⟩
      simp only [Act.put, List.setIfInBounds_toArray, List.set_cons_zero, List.set_cons_succ, valsL_zero, valsL_succ]
      obtain ⟨ho8, HO⟩ := HO
      refine wpG_v ho8.out rfl ?_ ?_
      · simp only [valsL_zero, valsL_succ]; apply FY_yes (d := 20) rfl ho5.out (by rfl) (by kernel_rfl); intro wx hx
        go_simp
        exact ⟨rfl, rfl⟩
      simp only [Act.put, List.setIfInBounds_toArray, List.set_cons_zero, List.set_cons_succ, valsL_zero, valsL_succ]
      obtain ⟨ho9, HO⟩ := HO
      refine wpG_v ho9.out rfl ?_ ?_
      · simp only [valsL_zero, valsL_succ]; apply FY_yes (d := 17) rfl ho2.out (by rfl) (by kernel_rfl); intro wx hx
        go_simp
        exact ⟨rfl, rfl⟩
      simp only [Act.put, List.setIfInBounds_toArray, List.set_cons_zero, List.set_cons_succ, valsL_zero, valsL_succ]
      obtain ⟨ho10, HO⟩ := HO
      refine wpG_v ho10.out rfl ?_ ?_
      · simp only [valsL_zero, valsL_succ]; apply FY_yes (d := 17) rfl ho2.out (by rfl) (by kernel_rfl); intro wx hx
        go_simp
        exact ⟨rfl, rfl⟩
      simp only [Act.put, List.setIfInBounds_toArray, List.set_cons_zero, List.set_cons_succ, valsL_zero, valsL_succ]
      obtain ⟨ho11, HO⟩ := HO
      refine wpG_v ho11.out rfl ?_ ?_
      · simp only [valsL_zero, valsL_succ]; exact FY_no (d := 25) rfl ho10.out (by rfl) (by kernel_rfl)
      simp only [Act.put, List.setIfInBounds_toArray, List.set_cons_zero, List.set_cons_succ, valsL_zero, valsL_succ]
      obtain ⟨ho12, HO⟩ := HO
      refine wpG_v ho12.out rfl ?_ ?_
      · simp only [valsL_zero, valsL_succ]; exact FY_no (d := 25) rfl ho10.out (by rfl) (by kernel_rfl)
      simp only [Act.put, List.setIfInBounds_toArray, List.set_cons_zero, List.set_cons_succ, valsL_zero, valsL_succ]
      obtain ⟨ho13, HO⟩ := HO
      refine wpG_v ho13.out rfl ?_ ?_
      · simp only [valsL_zero, valsL_succ]; exact FY_no (d := 25) rfl ho10.out (by rfl) (by kernel_rfl)
      simp only [Act.put, List.setIfInBounds_toArray, List.set_cons_zero, List.set_cons_succ, valsL_zero, valsL_succ]
      obtain ⟨ho14, HO⟩ := HO
      refine wpG_v ho14.out rfl ?_ ?_
      · simp only [valsL_zero, valsL_succ]; exact FY_no (d := 25) rfl ho10.out (by rfl) (by kernel_rfl)
      simp only [Act.put, List.setIfInBounds_toArray, List.set_cons_zero, List.set_cons_succ, valsL_zero, valsL_succ]
      obtain ⟨ho15, HO⟩ := HO
      refine wpG_v ho15.out rfl ?_ ?_
      · simp only [valsL_zero, valsL_succ]; exact FY_no (d := 25) rfl ho10.out (by rfl) (by kernel_rfl)
      simp only [Act.put, List.setIfInBounds_toArray, List.set_cons_zero, List.set_cons_succ, valsL_zero, valsL_succ]
      obtain ⟨ho16, HO⟩ := HO
      refine wpG_v ho16.out rfl ?_ ?_
      · simp only [valsL_zero, valsL_succ]; exact FY_no (d := 25) rfl ho10.out (by rfl) (by kernel_rfl)
      simp only [Act.put, List.setIfInBounds_toArray, List.set_cons_zero, List.set_cons_succ, valsL_zero, valsL_succ]
      obtain ⟨ho17, HO⟩ := HO
      refine wpG_v ho17.out rfl ?_ ?_
      · simp only [valsL_zero, valsL_succ]; exact FY_no (d := 25) rfl ho10.out (by rfl) (by kernel_rfl)
      simp only [Act.put, List.setIfInBounds_toArray, List.set_cons_zero, List.set_cons_succ, valsL_zero, valsL_succ]
      obtain ⟨ho18, HO⟩ := HO
      refine wpG_v ho18.out rfl ?_ ?_
      · simp only [valsL_zero, valsL_succ]; exact FY_no (d := 25) rfl ho10.out (by rfl) (by kernel_rfl)
      simp only [Act.put, List.setIfInBounds_toArray, List.set_cons_zero, List.set_cons_succ, valsL_zero, valsL_succ]
      obtain ⟨ho19, HO⟩ := HO
      refine wpG_v ho19.out rfl ?_ ?_
      · simp only [valsL_zero, valsL_succ]; exact FY_no (d := 25) rfl ho10.out (by rfl) (by kernel_rfl)
      simp only [Act.put, List.setIfInBounds_toArray, List.set_cons_zero, List.set_cons_succ, valsL_zero, valsL_succ]
      obtain ⟨ho20, HO⟩ := HO
      refine wpG_v ho20.out rfl ?_ ?_
      · simp only [valsL_zero, valsL_succ]; apply FY_yes (d := 17) rfl ho2.out (by rfl) (by kernel_rfl); intro wx hx
        go_simp
        exact ⟨rfl, rfl⟩
      simp only [Act.put, List.setIfInBounds_toArray, List.set_cons_zero, List.set_cons_succ, valsL_zero, valsL_succ]
      obtain ⟨ho21, HO⟩ := HO
      refine wpG_v ho21.out rfl ?_ ?_
      · simp only [valsL_zero, valsL_succ]; apply FY_in rfl; intro wx hx
        go_simp
        exact ⟨rfl, rfl⟩
      simp only [Act.put, List.setIfInBounds_toArray, List.set_cons_zero, List.set_cons_succ, valsL_zero, valsL_succ]
      refine HQ.out _ _ ?_
      intro wr hf hE hN
      simp only [List.drop_succ_cons, List.drop_zero]
      clear HQ HO hE hN ho0 ho1 ho2 ho3 ho4 ho5 ho6 ho7 ho8 ho9 ho10 ho11 ho12 ho13 ho14 ho15 ho16 ho17 ho18 ho19 ho20 ho21
      have HF := hid (HF2.out.then0 hf)
      clear hf
      go_wp2_with fail
      go_ret
      exact ⟨rfl, HF.out⟩
    · have hR := HRR.out.2.2 rfl h0
      clear HRR
      have H30 : (x3 == 0) = false := by simpa using h0
      clear h0
      apply wp_region_G 22 (fun _ => none) (valsL (_ :: _ :: _ :: _ :: _ :: _ :: _ :: _ :: _ :: _ :: _ :: _ :: _ :: _ :: _ :: _ :: _ :: _ :: _ :: _ :: _ :: _ :: [])) ?hm3 ?hB3 ?hal3 ?main3
      case hm3 => kernel_rfl
      case hB3 => kernel_rfl
      case hal3 =>
        intro i o obj ho hi
        cases hi
      rotate_left 22
      intro ops QT HO HQ
      obtain ⟨ho0, HO⟩ := HO
      refine wpG_v ho0.out rfl ?_ ?_
      · simp only [valsL_zero, valsL_succ]; apply FY_in rfl; intro wx hx
        go_simp
        exact ⟨rfl, rfl⟩
      simp only [Act.put, List.setIfInBounds_toArray, List.set_cons_zero, List.set_cons_succ, valsL_zero, valsL_succ]
      obtain ⟨ho1, HO⟩ := HO
      refine wpG_v ho1.out rfl ?_ ?_
      · simp only [valsL_zero, valsL_succ]; apply FY_in rfl; intro wx hx
        go_simp
        exact ⟨rfl, rfl⟩
      simp only [Act.put, List.setIfInBounds_toArray, List.set_cons_zero, List.set_cons_succ, valsL_zero, valsL_succ]
      obtain ⟨ho2, HO⟩ := HO
      refine wpG_v ho2.out rfl ?_ ?_
      · simp only [valsL_zero, valsL_succ]; apply FY_in rfl; intro wx hx
        go_simp
        exact ⟨rfl, rfl⟩
      simp only [Act.put, List.setIfInBounds_toArray, List.set_cons_zero, List.set_cons_succ, valsL_zero, valsL_succ]
      obtain ⟨ho3, HO⟩ := HO
      refine wpG_v ho3.out rfl ?_ ?_
      · simp only [valsL_zero, valsL_succ]; apply FY_yes (d := 17) rfl ho2.out (by rfl) (by kernel_rfl); intro wx hx
        go_simp
        exact ⟨rfl, rfl⟩
      simp only [Act.put, List.setIfInBounds_toArray, List.set_cons_zero, List.set_cons_succ, valsL_zero, valsL_succ]
      obtain ⟨ho4, HO⟩ := HO
      refine wpG_v ho4.out rfl ?_ ?_
      · simp only [valsL_zero, valsL_succ]; apply FY_yes (d := 17) rfl ho2.out (by rfl) (by kernel_rfl); intro wx hx
        go_simp
        exact ⟨rfl, rfl⟩
      simp only [Act.put, List.setIfInBounds_toArray, List.set_cons_zero, List.set_cons_succ, valsL_zero, valsL_succ]
      obtain ⟨ho5, HO⟩ := HO
      refine wpG_v ho5.out rfl ?_ ?_
      · simp only [valsL_zero, valsL_succ]; apply FY_yes (d := 17) rfl ho2.out (by rfl) (by kernel_rfl); intro wx hx
        go_simp
        exact ⟨rfl, rfl⟩
      simp only [Act.put, List.setIfInBounds_toArray, List.set_cons_zero, List.set_cons_succ, valsL_zero, valsL_succ]
      obtain ⟨ho6, HO⟩ := HO
      refine wpG_v ho6.out rfl ?_ ?_
      · simp only [valsL_zero, valsL_succ]; apply FY_yes (d := 20) rfl ho5.out (by rfl) (by kernel_rfl); intro wx hx
        go_simp
        exact ⟨rfl, rfl⟩
      simp only [Act.put, List.setIfInBounds_toArray, List.set_cons_zero, List.set_cons_succ, valsL_zero, valsL_succ]
      obtain ⟨ho7, HO⟩ := HO
      refine wpG_v ho7.out rfl ?_ ?_
      · simp only [valsL_zero, valsL_succ]; apply FY_yes (d := 20) rfl ho5.out (by rfl) (by kernel_rfl); intro wx hx
        have hc0 := sb_cell ((HT2.out.frm0 hx).1)
        have hc1 := sb_cell (hx.heap H7.out (fun h => h))
        go_simp
        exact ⟨rfl, rfl⟩
      simp only [Act.put, List.setIfInBounds_toArray, List.set_cons_zero, List.set_cons_succ, valsL_zero, valsL_succ]
      obtain ⟨ho8, HO⟩ := HO
      refine wpG_v ho8.out rfl ?_ ?_
      · simp only [valsL_zero, valsL_succ]; apply FY_yes (d := 20) rfl ho5.out (by rfl) (by kernel_rfl); intro wx hx
        go_simp
        exact ⟨rfl, rfl⟩
      simp only [Act.put, List.setIfInBounds_toArray, List.set_cons_zero, List.set_cons_succ, valsL_zero, valsL_succ]
      obtain ⟨ho9, HO⟩ := HO
      refine wpG_v ho9.out rfl ?_ ?_
      · simp only [valsL_zero, valsL_succ]; apply FY_yes (d := 17) rfl ho2.out (by rfl) (by kernel_rfl); intro wx hx
        go_simp
        exact ⟨rfl, rfl⟩
      simp only [Act.put, List.setIfInBounds_toArray, List.set_cons_zero, List.set_cons_succ, valsL_zero, valsL_succ]
      obtain ⟨ho10, HO⟩ := HO
      refine wpG_v ho10.out rfl ?_ ?_
      · simp only [valsL_zero, valsL_succ]; apply FY_yes (d := 17) rfl ho2.out (by rfl) (by kernel_rfl); intro wx hx
        go_simp
        exact ⟨rfl, rfl⟩
      simp only [Act.put, List.setIfInBounds_toArray, List.set_cons_zero, List.set_cons_succ, valsL_zero, valsL_succ]
      obtain ⟨ho11, HO⟩ := HO
      refine wpG_v ho11.out rfl ?_ ?_
      · simp only [valsL_zero, valsL_succ]; apply FY_yes (d := 25) rfl ho10.out (by rfl) (by kernel_rfl); intro wx hx
        go_simp
        exact ⟨rfl, rfl⟩
      simp only [Act.put, List.setIfInBounds_toArray, List.set_cons_zero, List.set_cons_succ, valsL_zero, valsL_succ]
      obtain ⟨ho12, HO⟩ := HO
      refine wpG_v ho12.out rfl ?_ ?_
      · simp only [valsL_zero, valsL_succ]; apply FY_yes (d := 25) rfl ho10.out (by rfl) (by kernel_rfl); intro wx hx
        go_simp
        exact ⟨rfl, rfl⟩
      simp only [Act.put, List.setIfInBounds_toArray, List.set_cons_zero, List.set_cons_succ, valsL_zero, valsL_succ]
      obtain ⟨ho13, HO⟩ := HO
      refine wpG_v ho13.out rfl ?_ ?_
      · simp only [valsL_zero, valsL_succ]; apply FY_yes (d := 25) rfl ho10.out (by rfl) (by kernel_rfl); intro wx hx
        have hc0 := sb_cell ((HT2.out.frm0 hx).1)
        have hc1 := sb_cell (hx.heap H7.out (fun h => h))
        go_simp
        exact ⟨rfl, rfl⟩
      simp only [Act.put, List.setIfInBounds_toArray, List.set_cons_zero, List.set_cons_succ, valsL_zero, valsL_succ]
      obtain ⟨ho14, HO⟩ := HO
      refine wpG_v ho14.out rfl ?_ ?_
      · simp only [valsL_zero, valsL_succ]; apply FY_yes (d := 25) rfl ho10.out (by rfl) (by kernel_rfl); intro wx hx
        go_simp
        exact ⟨rfl, rfl⟩
      simp only [Act.put, List.setIfInBounds_toArray, List.set_cons_zero, List.set_cons_succ, valsL_zero, valsL_succ]
      obtain ⟨ho15, HO⟩ := HO
      refine wpG_v ho15.out rfl ?_ ?_
      · simp only [valsL_zero, valsL_succ]; apply FY_yes (d := 25) rfl ho10.out (by rfl) (by kernel_rfl); intro wx hx
        go_simp
        exact ⟨rfl, rfl⟩
      simp only [Act.put, List.setIfInBounds_toArray, List.set_cons_zero, List.set_cons_succ, valsL_zero, valsL_succ]
      obtain ⟨ho16, HO⟩ := HO
      refine wpG_v ho16.out rfl ?_ ?_
      · simp only [valsL_zero, valsL_succ]; apply FY_yes (d := 25) rfl ho10.out (by rfl) (by kernel_rfl); intro wx hx
        go_simp
        exact ⟨rfl, rfl⟩
      simp only [Act.put, List.setIfInBounds_toArray, List.set_cons_zero, List.set_cons_succ, valsL_zero, valsL_succ]
      obtain ⟨ho17, HO⟩ := HO
      refine wpG_v ho17.out rfl ?_ ?_
      · simp only [valsL_zero, valsL_succ]; apply FY_yes (d := 25) rfl ho10.out (by rfl) (by kernel_rfl); intro wx hx
        have hc0 := sb_cell ((HT2.out.frm0 hx).1)
        have hc1 := sb_cell (hx.heap H7.out (fun h => h))
        go_simp
        exact ⟨rfl, rfl⟩
      simp only [Act.put, List.setIfInBounds_toArray, List.set_cons_zero, List.set_cons_succ, valsL_zero, valsL_succ]
      obtain ⟨ho18, HO⟩ := HO
      refine wpG_v ho18.out rfl ?_ ?_
      · simp only [valsL_zero, valsL_succ]; apply FY_yes (d := 25) rfl ho10.out (by rfl) (by kernel_rfl); intro wx hx
        go_simp
        exact ⟨rfl, (late_calls _ _ _).mono (fun e w' h => ⟨h.1, h.2⟩)⟩
      simp only [Act.put, List.setIfInBounds_toArray, List.set_cons_zero, List.set_cons_succ, valsL_zero, valsL_succ]
      obtain ⟨ho19, HO⟩ := HO
      refine wpG_v ho19.out rfl ?_ ?_
      · simp only [valsL_zero, valsL_succ]; apply FY_yes (d := 25) rfl ho10.out (by rfl) (by kernel_rfl); intro wx hx
        go_simp
        exact ⟨rfl, rfl⟩
      simp only [Act.put, List.setIfInBounds_toArray, List.set_cons_zero, List.set_cons_succ, valsL_zero, valsL_succ]
      obtain ⟨ho20, HO⟩ := HO
      refine wpG_v ho20.out rfl ?_ ?_
      · simp only [valsL_zero, valsL_succ]; apply FY_yes (d := 17) rfl ho2.out (by rfl) (by kernel_rfl); intro wx hx
        go_simp
        exact ⟨rfl, rfl⟩
      simp only [Act.put, List.setIfInBounds_toArray, List.set_cons_zero, List.set_cons_succ, valsL_zero, valsL_succ]
      obtain ⟨ho21, HO⟩ := HO
      refine wpG_v ho21.out rfl ?_ ?_
      · simp only [valsL_zero, valsL_succ]; apply FY_in rfl; intro wx hx
        go_simp
        exact ⟨rfl, rfl⟩
      simp only [Act.put, List.setIfInBounds_toArray, List.set_cons_zero, List.set_cons_succ, valsL_zero, valsL_succ]
      refine HQ.out _ _ ?_
      intro wr hf hE hN
      simp only [List.drop_succ_cons, List.drop_zero]
      clear HQ HO hE hN ho0 ho1 ho2 ho3 ho4 ho5 ho6 ho7 ho8 ho9 ho10 ho11 ho12 ho13 ho14 ho15 ho16 ho17 ho18 ho19 ho20 ho21
      have HF := hid (HF2.out.then0 hf)
      clear hf
      subst hR
      go_wp2_with fail
      go_ret
      exact ⟨rfl, HF.out⟩
set_option maxRecDepth 20000 in
set_option maxHeartbeats 2000000 in
attribute [-go_sem] run_eql_struct in
attribute [local go_sem] eql_ls in
theorem holds_calls (b B : Nat) (m : Int) (l : Option Ls) (hh ee now : Int) (w : World) (h : TabAt w b B m l) :
    Calls Tryz.prog 94 #[.pointer (some ⟨b, 0, none⟩), .string leadS, .int .i64 hh, .int .i64 ee, .int .i64 now] w fun x w' => x = .returned (.bool (holdsF l hh ee now)) ∧ Frm M0 w w' := by
  obtain ⟨R, HR⟩ : ∃ R, Hid (holdsF l hh ee now = R) := ⟨_, rfl⟩
  obtain ⟨x1, x2, x3, hx⟩ : ∃ x1 x2 x3 : Int, l.getD ⟨0, 0, 0⟩ = ⟨x1, x2, x3⟩ := ⟨_, _, _, rfl⟩
  obtain ⟨I, hI⟩ : ∃ I, l.isSome = I := ⟨_, rfl⟩
  have HXV : Hid (lsV l = .agg #[.int .i64 x1, .int .i64 x2, .int .i64 x3]) := by show lsV l = _; unfold lsV; rw [hx]; rfl
  have HI := hid hI
  obtain ⟨Q, HQ⟩ : ∃ Q, Hid (lsq ⟨x1, x2, x3⟩ ⟨hh, ee, x3⟩ = Q) := ⟨_, rfl⟩
  have HRR : Hid (R = (I && (Q && (decide (0 < x3) && decide (now < x3))))) := by
    show R = _
    rw [← HR.out, ← HQ.out]
    cases l with
    | none => rw [← hI]; rfl
    | some y =>
      have e1 : y.h = x1 := congrArg Ls.h hx
      have e2 : y.e = x2 := congrArg Ls.e hx
      have e3 : y.u = x3 := congrArg Ls.u hx
      rw [← hI]
      show (decide (y.h = hh ∧ y.e = ee) && (decide (0 < y.u) && decide (now < y.u))) = (true && _)
      rw [e1, e2, e3, Bool.true_and]
      congr 1
      unfold lsq
      rw [Bool.eq_iff_iff, decide_eq_true_eq, decide_eq_true_eq, Ls.mk.injEq]
      simp
  rw [HR.out]
  have HT := hid h
  clear h hx hI HR
  go_enter Tryz.func94, Tryz.ntmps94
  go_wp2_with fail
  refine (get_calls b B m l _ HT.out).mono ?_
  rintro _ w1 ⟨rfl, hf⟩
  rw [HXV.out, HI.out]
  have HF1 := hid hf
  clear hf HT HXV HI
  have HN := hid (new1 w1 (.cells #[.int .i64 0, .int .i64 0, .int .i64 0] 129))
  go_upto_region 2 with (refine wpList_store_row rfl 129 (.tmp 11) (.tmp 17) (by with_reducible rfl) w1.heap.size #[.int .i64 x1, .int .i64 x2, .int .i64 x3] (by kernel_rfl) (by kernel_rfl) _ _ HN.out (by kernel_rfl) (by rfl) (by simp [Value.oneCell']) ?_)
  obtain ⟨b7, hb7⟩ : ∃ q, q = w1.heap.size := ⟨_, rfl⟩
  obtain ⟨w2, hw2⟩ : ∃ q, q = (w1.alloc (.cells #[.int .i64 0, .int .i64 0, .int .i64 0] 129)).setRow w1.heap.size #[.int .i64 x1, .int .i64 x2, .int .i64 x3] := ⟨_, rfl⟩
  have hn := setRow_heap _ w1.heap.size _ #[.int .i64 x1, .int .i64 x2, .int .i64 x3] _ _ HN.out
  have hf2 : Frm M0 w1 ((w1.alloc (.cells #[.int .i64 0, .int .i64 0, .int .i64 0] 129)).setRow w1.heap.size #[.int .i64 x1, .int .i64 x2, .int .i64 x3]) := ((Frm.refl M0 w1).alloc _).setRow _ _ (Nat.le_refl _)
  rw [← hw2] at hn hf2 ⊢
  rw [← hb7] at hn ⊢
  have H7 := hid hn
  have HF2 := hid (HF1.out.then0 hf2)
  clear hn hf2 hw2 hb7 HN HF1
  cases I with
  | false =>
    have hR : R = false := HRR.out
    clear HRR
    subst hR
    apply wp_region_N 21 (valsL (_ :: _ :: _ :: _ :: _ :: _ :: _ :: _ :: _ :: _ :: _ :: _ :: _ :: _ :: _ :: _ :: _ :: _ :: _ :: _ :: _ :: [])) ?hB4 ?main4
    case hB4 => kernel_rfl
    rotate_left 21
    intro ops QT HO HQ
    obtain ⟨ho0, HO⟩ := HO
    refine wpG_v ho0.out rfl ?_ ?_
    · simp only [valsL_zero, valsL_succ]; apply FY_in rfl; intro wx hx
      go_simp
      exact ⟨rfl, rfl⟩
    simp only [Act.put, List.setIfInBounds_toArray, List.set_cons_zero, List.set_cons_succ, valsL_zero, valsL_succ]
    obtain ⟨ho1, HO⟩ := HO
    refine wpG_v ho1.out rfl ?_ ?_
    · simp only [valsL_zero, valsL_succ]; apply FY_in rfl; intro wx hx
      go_simp
      exact ⟨rfl, rfl⟩
    simp only [Act.put, List.setIfInBounds_toArray, List.set_cons_zero, List.set_cons_succ, valsL_zero, valsL_succ]
    obtain ⟨ho2, HO⟩ := HO
    refine wpG_v ho2.out rfl ?_ ?_
    · simp only [valsL_zero, valsL_succ]; exact FY_no (d := 20) rfl ho1.out (by rfl) (by kernel_rfl)
    simp only [Act.put, List.setIfInBounds_toArray, List.set_cons_zero, List.set_cons_succ, valsL_zero, valsL_succ]
    obtain ⟨ho3, HO⟩ := HO
    refine wpG_v ho3.out rfl ?_ ?_
    · simp only [valsL_zero, valsL_succ]; exact FY_no (d := 20) rfl ho1.out (by rfl) (by kernel_rfl)
    simp only [Act.put, List.setIfInBounds_toArray, List.set_cons_zero, List.set_cons_succ, valsL_zero, valsL_succ]
    obtain ⟨ho4, HO⟩ := HO
    refine wpG_v ho4.out rfl ?_ ?_
    · simp only [valsL_zero, valsL_succ]; exact FY_no (d := 20) rfl ho1.out (by rfl) (by kernel_rfl)
    simp only [Act.put, List.setIfInBounds_toArray, List.set_cons_zero, List.set_cons_succ, valsL_zero, valsL_succ]
    obtain ⟨ho5, HO⟩ := HO
    refine wpG_v ho5.out rfl ?_ ?_
    · simp only [valsL_zero, valsL_succ]; exact FY_no (d := 20) rfl ho1.out (by rfl) (by kernel_rfl)
    simp only [Act.put, List.setIfInBounds_toArray, List.set_cons_zero, List.set_cons_succ, valsL_zero, valsL_succ]
    obtain ⟨ho6, HO⟩ := HO
    refine wpG_v ho6.out rfl ?_ ?_
    · simp only [valsL_zero, valsL_succ]; exact FY_no (d := 20) rfl ho1.out (by rfl) (by kernel_rfl)
    simp only [Act.put, List.setIfInBounds_toArray, List.set_cons_zero, List.set_cons_succ, valsL_zero, valsL_succ]
    obtain ⟨ho7, HO⟩ := HO
    refine wpG_v ho7.out rfl ?_ ?_
    · simp only [valsL_zero, valsL_succ]; exact FY_no (d := 20) rfl ho1.out (by rfl) (by kernel_rfl)
    simp only [Act.put, List.setIfInBounds_toArray, List.set_cons_zero, List.set_cons_succ, valsL_zero, valsL_succ]
    obtain ⟨ho8, HO⟩ := HO
    refine wpG_v ho8.out rfl ?_ ?_
    · simp only [valsL_zero, valsL_succ]; exact FY_no (d := 20) rfl ho1.out (by rfl) (by kernel_rfl)
    simp only [Act.put, List.setIfInBounds_toArray, List.set_cons_zero, List.set_cons_succ, valsL_zero, valsL_succ]
    obtain ⟨ho9, HO⟩ := HO
    refine wpG_v ho9.out rfl ?_ ?_
    · simp only [valsL_zero, valsL_succ]; apply FY_in rfl; intro wx hx
      go_simp
      exact ⟨rfl, rfl⟩
    simp only [Act.put, List.setIfInBounds_toArray, List.set_cons_zero, List.set_cons_succ, valsL_zero, valsL_succ]
    obtain ⟨ho10, HO⟩ := HO
    refine wpG_v ho10.out rfl ?_ ?_
    · simp only [valsL_zero, valsL_succ]; apply FY_in rfl; intro wx hx
      go_simp
      exact ⟨rfl, rfl⟩
    simp only [Act.put, List.setIfInBounds_toArray, List.set_cons_zero, List.set_cons_succ, valsL_zero, valsL_succ]
    obtain ⟨ho11, HO⟩ := HO
    refine wpG_v ho11.out rfl ?_ ?_
    · simp only [valsL_zero, valsL_succ]; exact FY_no (d := 29) rfl ho10.out (by rfl) (by kernel_rfl)
    simp only [Act.put, List.setIfInBounds_toArray, List.set_cons_zero, List.set_cons_succ, valsL_zero, valsL_succ]
    obtain ⟨ho12, HO⟩ := HO
    refine wpG_v ho12.out rfl ?_ ?_
    · simp only [valsL_zero, valsL_succ]; exact FY_no (d := 29) rfl ho10.out (by rfl) (by kernel_rfl)
    simp only [Act.put, List.setIfInBounds_toArray, List.set_cons_zero, List.set_cons_succ, valsL_zero, valsL_succ]
    obtain ⟨ho13, HO⟩ := HO
    refine wpG_v ho13.out rfl ?_ ?_
    · simp only [valsL_zero, valsL_succ]; exact FY_no (d := 29) rfl ho10.out (by rfl) (by kernel_rfl)
    simp only [Act.put, List.setIfInBounds_toArray, List.set_cons_zero, List.set_cons_succ, valsL_zero, valsL_succ]
    obtain ⟨ho14, HO⟩ := HO
    refine wpG_v ho14.out rfl ?_ ?_
    · simp only [valsL_zero, valsL_succ]; apply FY_in rfl; intro wx hx
      go_simp
      exact ⟨rfl, rfl⟩
    simp only [Act.put, List.setIfInBounds_toArray, List.set_cons_zero, List.set_cons_succ, valsL_zero, valsL_succ]
    obtain ⟨ho15, HO⟩ := HO
    refine wpG_v ho15.out rfl ?_ ?_
    · simp only [valsL_zero, valsL_succ]; apply FY_in rfl; intro wx hx
      go_simp
      exact ⟨rfl, rfl⟩
    simp only [Act.put, List.setIfInBounds_toArray, List.set_cons_zero, List.set_cons_succ, valsL_zero, valsL_succ]
    obtain ⟨ho16, HO⟩ := HO
    refine wpG_v ho16.out rfl ?_ ?_
    · simp only [valsL_zero, valsL_succ]; exact FY_no (d := 34) rfl ho15.out (by rfl) (by kernel_rfl)
    simp only [Act.put, List.setIfInBounds_toArray, List.set_cons_zero, List.set_cons_succ, valsL_zero, valsL_succ]
    obtain ⟨ho17, HO⟩ := HO
    refine wpG_v ho17.out rfl ?_ ?_
    · simp only [valsL_zero, valsL_succ]; exact FY_no (d := 34) rfl ho15.out (by rfl) (by kernel_rfl)
    simp only [Act.put, List.setIfInBounds_toArray, List.set_cons_zero, List.set_cons_succ, valsL_zero, valsL_succ]
    obtain ⟨ho18, HO⟩ := HO
    refine wpG_v ho18.out rfl ?_ ?_
    · simp only [valsL_zero, valsL_succ]; exact FY_no (d := 34) rfl ho15.out (by rfl) (by kernel_rfl)
    simp only [Act.put, List.setIfInBounds_toArray, List.set_cons_zero, List.set_cons_succ, valsL_zero, valsL_succ]
    obtain ⟨ho19, HO⟩ := HO
    refine wpG_v ho19.out rfl ?_ ?_
    · simp only [valsL_zero, valsL_succ]; exact FY_no (d := 34) rfl ho15.out (by rfl) (by kernel_rfl)
    simp only [Act.put, List.setIfInBounds_toArray, List.set_cons_zero, List.set_cons_succ, valsL_zero, valsL_succ]
    obtain ⟨ho20, HO⟩ := HO
    refine wpG_v ho20.out rfl ?_ ?_
    · simp only [valsL_zero, valsL_succ]; apply FY_in rfl; intro wx hx
      go_simp
      exact ⟨rfl, rfl⟩
    simp only [Act.put, List.setIfInBounds_toArray, List.set_cons_zero, List.set_cons_succ, valsL_zero, valsL_succ]
    refine HQ.out _ _ ?_
    intro wr hf
    simp only [List.drop_succ_cons, List.drop_zero]
    clear HQ HO ho0 ho1 ho2 ho3 ho4 ho5 ho6 ho7 ho8 ho9 ho10 ho11 ho12 ho13 ho14 ho15 ho16 ho17 ho18 ho19 ho20
    have HF := hid (HF2.out.then0 hf)
    clear hf
    go_wp2_with fail
    go_ret
    exact ⟨rfl, HF.out⟩
  | true =>
    have hq : lsq ⟨x1, x2, x3⟩ ⟨hh, ee, x3⟩ = Q := HQ.out
    have e1 : R = (Q && (decide (0 < x3) && decide (now < x3))) := HRR.out
    clear HRR
    cases Q with
    | false =>
      have hR : R = false := e1
      clear e1
      subst hR
      apply wp_region_N 21 (valsL (_ :: _ :: (.agg #[.int .i64 x1, .int .i64 x2, .int .i64 x3]) :: _ :: _ :: _ :: _ :: _ :: _ :: _ :: _ :: _ :: _ :: _ :: _ :: _ :: _ :: _ :: _ :: _ :: _ :: [])) ?hB5 ?main5
      case hB5 => kernel_rfl
      rotate_left 20
      intro ops QT HO HQ
      obtain ⟨ho0, HO⟩ := HO
      refine wpG_v ho0.out rfl ?_ ?_
      · simp only [valsL_zero, valsL_succ]; apply FY_in rfl; intro wx hx
        go_simp
        exact ⟨rfl, rfl⟩
      simp only [Act.put, List.setIfInBounds_toArray, List.set_cons_zero, List.set_cons_succ, valsL_zero, valsL_succ]
      obtain ⟨ho1, HO⟩ := HO
      refine wpG_v ho1.out rfl ?_ ?_
      · simp only [valsL_zero, valsL_succ]; apply FY_in rfl; intro wx hx
        go_simp
        exact ⟨rfl, rfl⟩
      simp only [Act.put, List.setIfInBounds_toArray, List.set_cons_zero, List.set_cons_succ, valsL_zero, valsL_succ]
      obtain ⟨ho2, HO⟩ := HO
      refine wpG_v ho2.out rfl ?_ ?_
      · simp only [valsL_zero, valsL_succ]; apply FY_yes (d := 20) rfl ho1.out (by rfl) (by kernel_rfl); intro wx hx
        exact fu_load_row_g 129 (.tmp 11) rfl (b7) (by kernel_rfl) _ _ _ _ (hx.heap H7.out (fun h => h)) Tryz.underlying129 rfl (by kernel_rfl)
      simp only [Act.put, List.setIfInBounds_toArray, List.set_cons_zero, List.set_cons_succ, valsL_zero, valsL_succ]
      obtain ⟨ho3, HO⟩ := HO
      refine wpG_v ho3.out rfl ?_ ?_
      · simp only [valsL_zero, valsL_succ]; apply FY_yes (d := 20) rfl ho1.out (by rfl) (by kernel_rfl); intro wx hx
        go_simp
        exact ⟨rfl, rfl⟩
      simp only [Act.put, List.setIfInBounds_toArray, List.set_cons_zero, List.set_cons_succ, valsL_zero, valsL_succ]
      obtain ⟨ho4, HO⟩ := HO
      refine wpG_v ho4.out rfl ?_ ?_
      · simp only [valsL_zero, valsL_succ]; apply FY_yes (d := 20) rfl ho1.out (by rfl) (by kernel_rfl); intro wx hx
        go_simp
        exact ⟨rfl, rfl⟩
      simp only [Act.put, List.setIfInBounds_toArray, List.set_cons_zero, List.set_cons_succ, valsL_zero, valsL_succ]
      obtain ⟨ho5, HO⟩ := HO
      refine wpG_v ho5.out rfl ?_ ?_
      · simp only [valsL_zero, valsL_succ]; apply FY_yes (d := 20) rfl ho1.out (by rfl) (by kernel_rfl); intro wx hx
        go_simp
        exact ⟨rfl, rfl⟩
      simp only [Act.put, List.setIfInBounds_toArray, List.set_cons_zero, List.set_cons_succ, valsL_zero, valsL_succ]
      obtain ⟨ho6, HO⟩ := HO
      refine wpG_v ho6.out rfl ?_ ?_
      · simp only [valsL_zero, valsL_succ]; apply FY_yes (d := 20) rfl ho1.out (by rfl) (by kernel_rfl); intro wx hx
        have hc0 := sb_cell (hx.heap H7.out (fun h => h))
        go_simp
        exact ⟨rfl, rfl⟩
      simp only [Act.put, List.setIfInBounds_toArray, List.set_cons_zero, List.set_cons_succ, valsL_zero, valsL_succ]
      obtain ⟨ho7, HO⟩ := HO
      refine wpG_v ho7.out rfl ?_ ?_
      · simp only [valsL_zero, valsL_succ]; apply FY_yes (d := 20) rfl ho1.out (by rfl) (by kernel_rfl); intro wx hx
        go_simp
        exact ⟨rfl, rfl⟩
      simp only [Act.put, List.setIfInBounds_toArray, List.set_cons_zero, List.set_cons_succ, valsL_zero, valsL_succ]
      obtain ⟨ho8, HO⟩ := HO
      refine wpG_v ho8.out rfl ?_ ?_
      · simp only [valsL_zero, valsL_succ]; apply FY_yes (d := 20) rfl ho1.out (by rfl) (by kernel_rfl); intro wx hx
        go_simp
        exact ⟨rfl, rfl⟩
      simp only [Act.put, List.setIfInBounds_toArray, List.set_cons_zero, List.set_cons_succ, valsL_zero, valsL_succ]
      obtain ⟨ho9, HO⟩ := HO
      refine wpG_v ho9.out rfl ?_ ?_
      · simp only [valsL_zero, valsL_succ]; apply FY_in rfl; intro wx hx
        go_simp
        exact ⟨rfl, rfl⟩
      simp only [Act.put, List.setIfInBounds_toArray, List.set_cons_zero, List.set_cons_succ, valsL_zero, valsL_succ]
      obtain ⟨ho10, HO⟩ := HO
      refine wpG_v ho10.out rfl ?_ ?_
      · simp only [valsL_zero, valsL_succ]; apply FY_in rfl; intro wx hx
        go_simp
        exact ⟨rfl, rfl⟩
      simp only [Act.put, List.setIfInBounds_toArray, List.set_cons_zero, List.set_cons_succ, valsL_zero, valsL_succ]
      obtain ⟨ho11, HO⟩ := HO
      refine wpG_v ho11.out rfl ?_ ?_
      · simp only [valsL_zero, valsL_succ]; exact FY_no (d := 29) rfl ho10.out (by rfl) (by kernel_rfl)
      simp only [Act.put, List.setIfInBounds_toArray, List.set_cons_zero, List.set_cons_succ, valsL_zero, valsL_succ]
      obtain ⟨ho12, HO⟩ := HO
      refine wpG_v ho12.out rfl ?_ ?_
      · simp only [valsL_zero, valsL_succ]; exact FY_no (d := 29) rfl ho10.out (by rfl) (by kernel_rfl)
      simp only [Act.put, List.setIfInBounds_toArray, List.set_cons_zero, List.set_cons_succ, valsL_zero, valsL_succ]
      obtain ⟨ho13, HO⟩ := HO
      refine wpG_v ho13.out rfl ?_ ?_
      · simp only [valsL_zero, valsL_succ]; exact FY_no (d := 29) rfl ho10.out (by rfl) (by kernel_rfl)
      simp only [Act.put, List.setIfInBounds_toArray, List.set_cons_zero, List.set_cons_succ, valsL_zero, valsL_succ]
      obtain ⟨ho14, HO⟩ := HO
      refine wpG_v ho14.out rfl ?_ ?_
      · simp only [valsL_zero, valsL_succ]; apply FY_in rfl; intro wx hx
        go_simp
        exact ⟨rfl, rfl⟩
      simp only [Act.put, List.setIfInBounds_toArray, List.set_cons_zero, List.set_cons_succ, valsL_zero, valsL_succ]
      obtain ⟨ho15, HO⟩ := HO
      refine wpG_v ho15.out rfl ?_ ?_
      · simp only [valsL_zero, valsL_succ]; apply FY_in rfl; intro wx hx
        go_simp
        exact ⟨rfl, rfl⟩
      simp only [Act.put, List.setIfInBounds_toArray, List.set_cons_zero, List.set_cons_succ, valsL_zero, valsL_succ]
      obtain ⟨ho16, HO⟩ := HO
      refine wpG_v ho16.out rfl ?_ ?_
      · simp only [valsL_zero, valsL_succ]; exact FY_no (d := 34) rfl ho15.out (by rfl) (by kernel_rfl)
      simp only [Act.put, List.setIfInBounds_toArray, List.set_cons_zero, List.set_cons_succ, valsL_zero, valsL_succ]
      obtain ⟨ho17, HO⟩ := HO
      refine wpG_v ho17.out rfl ?_ ?_
      · simp only [valsL_zero, valsL_succ]; exact FY_no (d := 34) rfl ho15.out (by rfl) (by kernel_rfl)
      simp only [Act.put, List.setIfInBounds_toArray, List.set_cons_zero, List.set_cons_succ, valsL_zero, valsL_succ]
      obtain ⟨ho18, HO⟩ := HO
      refine wpG_v ho18.out rfl ?_ ?_
      · simp only [valsL_zero, valsL_succ]; exact FY_no (d := 34) rfl ho15.out (by rfl) (by kernel_rfl)
      simp only [Act.put, List.setIfInBounds_toArray, List.set_cons_zero, List.set_cons_succ, valsL_zero, valsL_succ]
      obtain ⟨ho19, HO⟩ := HO
      refine wpG_v ho19.out rfl ?_ ?_
      · simp only [valsL_zero, valsL_succ]; exact FY_no (d := 34) rfl ho15.out (by rfl) (by kernel_rfl)
      simp only [Act.put, List.setIfInBounds_toArray, List.set_cons_zero, List.set_cons_succ, valsL_zero, valsL_succ]
      obtain ⟨ho20, HO⟩ := HO
      refine wpG_v ho20.out rfl ?_ ?_
      · simp only [valsL_zero, valsL_succ]; apply FY_in rfl; intro wx hx
        go_simp
        exact ⟨rfl, rfl⟩
      simp only [Act.put, List.setIfInBounds_toArray, List.set_cons_zero, List.set_cons_succ, valsL_zero, valsL_succ]
      refine HQ.out _ _ ?_
      intro wr hf
      simp only [List.drop_succ_cons, List.drop_zero]
      clear HQ HO ho0 ho1 ho2 ho3 ho4 ho5 ho6 ho7 ho8 ho9 ho10 ho11 ho12 ho13 ho14 ho15 ho16 ho17 ho18 ho19 ho20
      have HF := hid (HF2.out.then0 hf)
      clear hf
      go_wp2_with fail
      go_ret
      exact ⟨rfl, HF.out⟩
    | true =>
      by_cases h0 : 0 < x3
      · have hR : R = decide (now < x3) := by rw [e1, decide_eq_true h0]; rfl
        clear e1
        subst hR
        apply wp_region_N 21 (valsL (_ :: _ :: (.agg #[.int .i64 x1, .int .i64 x2, .int .i64 x3]) :: _ :: _ :: _ :: _ :: _ :: _ :: _ :: _ :: _ :: _ :: _ :: _ :: _ :: _ :: _ :: _ :: _ :: _ :: [])) ?hB6 ?main6
        case hB6 => kernel_rfl
        rotate_left 20
        intro ops QT HO HQ
        obtain ⟨ho0, HO⟩ := HO
        refine wpG_v ho0.out rfl ?_ ?_
        · simp only [valsL_zero, valsL_succ]; apply FY_in rfl; intro wx hx
          go_simp
          exact ⟨rfl, rfl⟩
        simp only [Act.put, List.setIfInBounds_toArray, List.set_cons_zero, List.set_cons_succ, valsL_zero, valsL_succ]
        obtain ⟨ho1, HO⟩ := HO
        refine wpG_v ho1.out rfl ?_ ?_
        · simp only [valsL_zero, valsL_succ]; apply FY_in rfl; intro wx hx
          go_simp
          exact ⟨rfl, rfl⟩
        simp only [Act.put, List.setIfInBounds_toArray, List.set_cons_zero, List.set_cons_succ, valsL_zero, valsL_succ]
        obtain ⟨ho2, HO⟩ := HO
        refine wpG_v ho2.out rfl ?_ ?_
        · simp only [valsL_zero, valsL_succ]; apply FY_yes (d := 20) rfl ho1.out (by rfl) (by kernel_rfl); intro wx hx
          exact fu_load_row_g 129 (.tmp 11) rfl (b7) (by kernel_rfl) _ _ _ _ (hx.heap H7.out (fun h => h)) Tryz.underlying129 rfl (by kernel_rfl)
        simp only [Act.put, List.setIfInBounds_toArray, List.set_cons_zero, List.set_cons_succ, valsL_zero, valsL_succ]
        obtain ⟨ho3, HO⟩ := HO
        refine wpG_v ho3.out rfl ?_ ?_
        · simp only [valsL_zero, valsL_succ]; apply FY_yes (d := 20) rfl ho1.out (by rfl) (by kernel_rfl); intro wx hx
          go_simp
          exact ⟨rfl, rfl⟩
        simp only [Act.put, List.setIfInBounds_toArray, List.set_cons_zero, List.set_cons_succ, valsL_zero, valsL_succ]
        obtain ⟨ho4, HO⟩ := HO
        refine wpG_v ho4.out rfl ?_ ?_
        · simp only [valsL_zero, valsL_succ]; apply FY_yes (d := 20) rfl ho1.out (by rfl) (by kernel_rfl); intro wx hx
          go_simp
          exact ⟨rfl, rfl⟩
        simp only [Act.put, List.setIfInBounds_toArray, List.set_cons_zero, List.set_cons_succ, valsL_zero, valsL_succ]
        obtain ⟨ho5, HO⟩ := HO
        refine wpG_v ho5.out rfl ?_ ?_
        · simp only [valsL_zero, valsL_succ]; apply FY_yes (d := 20) rfl ho1.out (by rfl) (by kernel_rfl); intro wx hx
          go_simp
          exact ⟨rfl, rfl⟩
        simp only [Act.put, List.setIfInBounds_toArray, List.set_cons_zero, List.set_cons_succ, valsL_zero, valsL_succ]
        obtain ⟨ho6, HO⟩ := HO
        refine wpG_v ho6.out rfl ?_ ?_
        · simp only [valsL_zero, valsL_succ]; apply FY_yes (d := 20) rfl ho1.out (by rfl) (by kernel_rfl); intro wx hx
          have hc0 := sb_cell (hx.heap H7.out (fun h => h))
          go_simp
          exact ⟨rfl, rfl⟩
        simp only [Act.put, List.setIfInBounds_toArray, List.set_cons_zero, List.set_cons_succ, valsL_zero, valsL_succ]
        obtain ⟨ho7, HO⟩ := HO
        refine wpG_v ho7.out rfl ?_ ?_
        · simp only [valsL_zero, valsL_succ]; apply FY_yes (d := 20) rfl ho1.out (by rfl) (by kernel_rfl); intro wx hx
          go_simp
          exact ⟨rfl, rfl⟩
        simp only [Act.put, List.setIfInBounds_toArray, List.set_cons_zero, List.set_cons_succ, valsL_zero, valsL_succ]
        obtain ⟨ho8, HO⟩ := HO
        refine wpG_v ho8.out rfl ?_ ?_
        · simp only [valsL_zero, valsL_succ]; apply FY_yes (d := 20) rfl ho1.out (by rfl) (by kernel_rfl); intro wx hx
          go_simp
          exact ⟨rfl, rfl⟩
        simp only [Act.put, List.setIfInBounds_toArray, List.set_cons_zero, List.set_cons_succ, valsL_zero, valsL_succ]
        obtain ⟨ho9, HO⟩ := HO
        refine wpG_v ho9.out rfl ?_ ?_
        · simp only [valsL_zero, valsL_succ]; apply FY_in rfl; intro wx hx
          go_simp
          exact ⟨rfl, rfl⟩
        simp only [Act.put, List.setIfInBounds_toArray, List.set_cons_zero, List.set_cons_succ, valsL_zero, valsL_succ]
        obtain ⟨ho10, HO⟩ := HO
        refine wpG_v ho10.out rfl ?_ ?_
        · simp only [valsL_zero, valsL_succ]; apply FY_in rfl; intro wx hx
          go_simp
          exact ⟨rfl, rfl⟩
        simp only [Act.put, List.setIfInBounds_toArray, List.set_cons_zero, List.set_cons_succ, valsL_zero, valsL_succ]
        obtain ⟨ho11, HO⟩ := HO
        refine wpG_v ho11.out rfl ?_ ?_
        · simp only [valsL_zero, valsL_succ]; apply FY_yes (d := 29) rfl ho10.out (by rfl) (by kernel_rfl); intro wx hx
          go_simp
          exact ⟨rfl, rfl⟩
        simp only [Act.put, List.setIfInBounds_toArray, List.set_cons_zero, List.set_cons_succ, valsL_zero, valsL_succ]
        obtain ⟨ho12, HO⟩ := HO
        refine wpG_v ho12.out rfl ?_ ?_
        · simp only [valsL_zero, valsL_succ]; apply FY_yes (d := 29) rfl ho10.out (by rfl) (by kernel_rfl); intro wx hx
          have hc0 := sb_cell (hx.heap H7.out (fun h => h))
          go_simp
          exact ⟨rfl, rfl⟩
        simp only [Act.put, List.setIfInBounds_toArray, List.set_cons_zero, List.set_cons_succ, valsL_zero, valsL_succ]
        obtain ⟨ho13, HO⟩ := HO
        refine wpG_v ho13.out rfl ?_ ?_
        · simp only [valsL_zero, valsL_succ]; apply FY_yes (d := 29) rfl ho10.out (by rfl) (by kernel_rfl); intro wx hx
          go_simp
          exact ⟨rfl, rfl⟩
        simp only [Act.put, List.setIfInBounds_toArray, List.set_cons_zero, List.set_cons_succ, valsL_zero, valsL_succ]
        obtain ⟨ho14, HO⟩ := HO
        refine wpG_v ho14.out rfl ?_ ?_
        · simp only [valsL_zero, valsL_succ]; apply FY_in rfl; intro wx hx
          go_simp
          exact ⟨rfl, rfl⟩
        simp only [Act.put, List.setIfInBounds_toArray, List.set_cons_zero, List.set_cons_succ, valsL_zero, valsL_succ]
        obtain ⟨ho15, HO⟩ := HO
        refine wpG_v ho15.out rfl ?_ ?_
        · simp only [valsL_zero, valsL_succ]; apply FY_in rfl; intro wx hx
          go_simp
          exact ⟨rfl, rfl⟩
        simp only [Act.put, List.setIfInBounds_toArray, List.set_cons_zero, List.set_cons_succ, valsL_zero, valsL_succ]
        obtain ⟨ho16, HO⟩ := HO
        refine wpG_v ho16.out rfl ?_ ?_
        · simp only [valsL_zero, valsL_succ]; apply FY_yes (d := 34) rfl ho15.out (by rfl) (by kernel_rfl); intro wx hx
          go_simp
          exact ⟨rfl, rfl⟩
        simp only [Act.put, List.setIfInBounds_toArray, List.set_cons_zero, List.set_cons_succ, valsL_zero, valsL_succ]
        obtain ⟨ho17, HO⟩ := HO
        refine wpG_v ho17.out rfl ?_ ?_
        · simp only [valsL_zero, valsL_succ]; apply FY_yes (d := 34) rfl ho15.out (by rfl) (by kernel_rfl); intro wx hx
          go_simp
          exact ⟨rfl, rfl⟩
        simp only [Act.put, List.setIfInBounds_toArray, List.set_cons_zero, List.set_cons_succ, valsL_zero, valsL_succ]
        obtain ⟨ho18, HO⟩ := HO
        refine wpG_v ho18.out rfl ?_ ?_
        · simp only [valsL_zero, valsL_succ]; apply FY_yes (d := 34) rfl ho15.out (by rfl) (by kernel_rfl); intro wx hx
          have hc0 := sb_cell (hx.heap H7.out (fun h => h))
          go_simp
          exact ⟨rfl, rfl⟩
        simp only [Act.put, List.setIfInBounds_toArray, List.set_cons_zero, List.set_cons_succ, valsL_zero, valsL_succ]
        obtain ⟨ho19, HO⟩ := HO
        refine wpG_v ho19.out rfl ?_ ?_
        · simp only [valsL_zero, valsL_succ]; apply FY_yes (d := 34) rfl ho15.out (by rfl) (by kernel_rfl); intro wx hx
          go_simp
          exact ⟨rfl, rfl⟩
        simp only [Act.put, List.setIfInBounds_toArray, List.set_cons_zero, List.set_cons_succ, valsL_zero, valsL_succ]
        obtain ⟨ho20, HO⟩ := HO
        refine wpG_v ho20.out rfl ?_ ?_
        · simp only [valsL_zero, valsL_succ]; apply FY_in rfl; intro wx hx
          go_simp
          exact ⟨rfl, rfl⟩
        simp only [Act.put, List.setIfInBounds_toArray, List.set_cons_zero, List.set_cons_succ, valsL_zero, valsL_succ]
        refine HQ.out _ _ ?_
        intro wr hf
        simp only [List.drop_succ_cons, List.drop_zero]
        clear HQ HO ho0 ho1 ho2 ho3 ho4 ho5 ho6 ho7 ho8 ho9 ho10 ho11 ho12 ho13 ho14 ho15 ho16 ho17 ho18 ho19 ho20
        have HF := hid (HF2.out.then0 hf)
        clear hf
        go_wp2_with fail
        go_ret
        exact ⟨rfl, HF.out⟩
      · have hR : R = false := by rw [e1, decide_eq_false h0]; rfl
        clear e1
        subst hR
        apply wp_region_N 21 (valsL (_ :: _ :: (.agg #[.int .i64 x1, .int .i64 x2, .int .i64 x3]) :: _ :: _ :: _ :: _ :: _ :: _ :: _ :: _ :: _ :: _ :: _ :: _ :: _ :: _ :: _ :: _ :: _ :: _ :: [])) ?hB7 ?main7
        case hB7 => kernel_rfl
        rotate_left 20
        intro ops QT HO HQ
        obtain ⟨ho0, HO⟩ := HO
        refine wpG_v ho0.out rfl ?_ ?_
        · simp only [valsL_zero, valsL_succ]; apply FY_in rfl; intro wx hx
          go_simp
          exact ⟨rfl, rfl⟩
        simp only [Act.put, List.setIfInBounds_toArray, List.set_cons_zero, List.set_cons_succ, valsL_zero, valsL_succ]
        obtain ⟨ho1, HO⟩ := HO
        refine wpG_v ho1.out rfl ?_ ?_
        · simp only [valsL_zero, valsL_succ]; apply FY_in rfl; intro wx hx
          go_simp
          exact ⟨rfl, rfl⟩
        simp only [Act.put, List.setIfInBounds_toArray, List.set_cons_zero, List.set_cons_succ, valsL_zero, valsL_succ]
        obtain ⟨ho2, HO⟩ := HO
        refine wpG_v ho2.out rfl ?_ ?_
        · simp only [valsL_zero, valsL_succ]; apply FY_yes (d := 20) rfl ho1.out (by rfl) (by kernel_rfl); intro wx hx
          exact fu_load_row_g 129 (.tmp 11) rfl (b7) (by kernel_rfl) _ _ _ _ (hx.heap H7.out (fun h => h)) Tryz.underlying129 rfl (by kernel_rfl)
        simp only [Act.put, List.setIfInBounds_toArray, List.set_cons_zero, List.set_cons_succ, valsL_zero, valsL_succ]
        obtain ⟨ho3, HO⟩ := HO
        refine wpG_v ho3.out rfl ?_ ?_
        · simp only [valsL_zero, valsL_succ]; apply FY_yes (d := 20) rfl ho1.out (by rfl) (by kernel_rfl); intro wx hx
          go_simp
          exact ⟨rfl, rfl⟩
        simp only [Act.put, List.setIfInBounds_toArray, List.set_cons_zero, List.set_cons_succ, valsL_zero, valsL_succ]
        obtain ⟨ho4, HO⟩ := HO
        refine wpG_v ho4.out rfl ?_ ?_
        · simp only [valsL_zero, valsL_succ]; apply FY_yes (d := 20) rfl ho1.out (by rfl) (by kernel_rfl); intro wx hx
          go_simp
          exact ⟨rfl, rfl⟩
        simp only [Act.put, List.setIfInBounds_toArray, List.set_cons_zero, List.set_cons_succ, valsL_zero, valsL_succ]
        obtain ⟨ho5, HO⟩ := HO
        refine wpG_v ho5.out rfl ?_ ?_
        · simp only [valsL_zero, valsL_succ]; apply FY_yes (d := 20) rfl ho1.out (by rfl) (by kernel_rfl); intro wx hx
          go_simp
          exact ⟨rfl, rfl⟩
        simp only [Act.put, List.setIfInBounds_toArray, List.set_cons_zero, List.set_cons_succ, valsL_zero, valsL_succ]
        obtain ⟨ho6, HO⟩ := HO
        refine wpG_v ho6.out rfl ?_ ?_
        · simp only [valsL_zero, valsL_succ]; apply FY_yes (d := 20) rfl ho1.out (by rfl) (by kernel_rfl); intro wx hx
          have hc0 := sb_cell (hx.heap H7.out (fun h => h))
          go_simp
          exact ⟨rfl, rfl⟩
        simp only [Act.put, List.setIfInBounds_toArray, List.set_cons_zero, List.set_cons_succ, valsL_zero, valsL_succ]
        obtain ⟨ho7, HO⟩ := HO
        refine wpG_v ho7.out rfl ?_ ?_
        · simp only [valsL_zero, valsL_succ]; apply FY_yes (d := 20) rfl ho1.out (by rfl) (by kernel_rfl); intro wx hx
          go_simp
          exact ⟨rfl, rfl⟩
        simp only [Act.put, List.setIfInBounds_toArray, List.set_cons_zero, List.set_cons_succ, valsL_zero, valsL_succ]
        obtain ⟨ho8, HO⟩ := HO
        refine wpG_v ho8.out rfl ?_ ?_
        · simp only [valsL_zero, valsL_succ]; apply FY_yes (d := 20) rfl ho1.out (by rfl) (by kernel_rfl); intro wx hx
          go_simp
          exact ⟨rfl, rfl⟩
        simp only [Act.put, List.setIfInBounds_toArray, List.set_cons_zero, List.set_cons_succ, valsL_zero, valsL_succ]
        obtain ⟨ho9, HO⟩ := HO
        refine wpG_v ho9.out rfl ?_ ?_
        · simp only [valsL_zero, valsL_succ]; apply FY_in rfl; intro wx hx
          go_simp
          exact ⟨rfl, rfl⟩
        simp only [Act.put, List.setIfInBounds_toArray, List.set_cons_zero, List.set_cons_succ, valsL_zero, valsL_succ]
        obtain ⟨ho10, HO⟩ := HO
        refine wpG_v ho10.out rfl ?_ ?_
        · simp only [valsL_zero, valsL_succ]; apply FY_in rfl; intro wx hx
          go_simp
          exact ⟨rfl, rfl⟩
        simp only [Act.put, List.setIfInBounds_toArray, List.set_cons_zero, List.set_cons_succ, valsL_zero, valsL_succ]
        obtain ⟨ho11, HO⟩ := HO
        refine wpG_v ho11.out rfl ?_ ?_
        · simp only [valsL_zero, valsL_succ]; apply FY_yes (d := 29) rfl ho10.out (by rfl) (by kernel_rfl); intro wx hx
          go_simp
          exact ⟨rfl, rfl⟩
        simp only [Act.put, List.setIfInBounds_toArray, List.set_cons_zero, List.set_cons_succ, valsL_zero, valsL_succ]
        obtain ⟨ho12, HO⟩ := HO
        refine wpG_v ho12.out rfl ?_ ?_
        · simp only [valsL_zero, valsL_succ]; apply FY_yes (d := 29) rfl ho10.out (by rfl) (by kernel_rfl); intro wx hx
          have hc0 := sb_cell (hx.heap H7.out (fun h => h))
          go_simp
          exact ⟨rfl, rfl⟩
        simp only [Act.put, List.setIfInBounds_toArray, List.set_cons_zero, List.set_cons_succ, valsL_zero, valsL_succ]
        obtain ⟨ho13, HO⟩ := HO
        refine wpG_v ho13.out rfl ?_ ?_
        · simp only [valsL_zero, valsL_succ]; apply FY_yes (d := 29) rfl ho10.out (by rfl) (by kernel_rfl); intro wx hx
          go_simp
          exact ⟨rfl, rfl⟩
        simp only [Act.put, List.setIfInBounds_toArray, List.set_cons_zero, List.set_cons_succ, valsL_zero, valsL_succ]
        obtain ⟨ho14, HO⟩ := HO
        refine wpG_v ho14.out rfl ?_ ?_
        · simp only [valsL_zero, valsL_succ]; apply FY_in rfl; intro wx hx
          go_simp
          exact ⟨rfl, rfl⟩
        simp only [Act.put, List.setIfInBounds_toArray, List.set_cons_zero, List.set_cons_succ, valsL_zero, valsL_succ]
        obtain ⟨ho15, HO⟩ := HO
        refine wpG_v ho15.out rfl ?_ ?_
        · simp only [valsL_zero, valsL_succ]; apply FY_in rfl; intro wx hx
          go_simp
          exact ⟨rfl, rfl⟩
        simp only [Act.put, List.setIfInBounds_toArray, List.set_cons_zero, List.set_cons_succ, valsL_zero, valsL_succ]
        obtain ⟨ho16, HO⟩ := HO
        refine wpG_v ho16.out rfl ?_ ?_
        · simp only [valsL_zero, valsL_succ]; exact FY_no (d := 34) rfl ho15.out (by rfl) (by kernel_rfl)
        simp only [Act.put, List.setIfInBounds_toArray, List.set_cons_zero, List.set_cons_succ, valsL_zero, valsL_succ]
        obtain ⟨ho17, HO⟩ := HO
        refine wpG_v ho17.out rfl ?_ ?_
        · simp only [valsL_zero, valsL_succ]; exact FY_no (d := 34) rfl ho15.out (by rfl) (by kernel_rfl)
        simp only [Act.put, List.setIfInBounds_toArray, List.set_cons_zero, List.set_cons_succ, valsL_zero, valsL_succ]
        obtain ⟨ho18, HO⟩ := HO
        refine wpG_v ho18.out rfl ?_ ?_
        · simp only [valsL_zero, valsL_succ]; exact FY_no (d := 34) rfl ho15.out (by rfl) (by kernel_rfl)
        simp only [Act.put, List.setIfInBounds_toArray, List.set_cons_zero, List.set_cons_succ, valsL_zero, valsL_succ]
        obtain ⟨ho19, HO⟩ := HO
        refine wpG_v ho19.out rfl ?_ ?_
        · simp only [valsL_zero, valsL_succ]; exact FY_no (d := 34) rfl ho15.out (by rfl) (by kernel_rfl)
        simp only [Act.put, List.setIfInBounds_toArray, List.set_cons_zero, List.set_cons_succ, valsL_zero, valsL_succ]
        obtain ⟨ho20, HO⟩ := HO
        refine wpG_v ho20.out rfl ?_ ?_
        · simp only [valsL_zero, valsL_succ]; apply FY_in rfl; intro wx hx
          go_simp
          exact ⟨rfl, rfl⟩
        simp only [Act.put, List.setIfInBounds_toArray, List.set_cons_zero, List.set_cons_succ, valsL_zero, valsL_succ]
        refine HQ.out _ _ ?_
        intro wr hf
        simp only [List.drop_succ_cons, List.drop_zero]
        clear HQ HO ho0 ho1 ho2 ho3 ho4 ho5 ho6 ho7 ho8 ho9 ho10 ho11 ho12 ho13 ho14 ho15 ho16 ho17 ho18 ho19 ho20
        have HF := hid (HF2.out.then0 hf)
        clear hf
        go_wp2_with fail
        go_ret
        exact ⟨rfl, HF.out⟩
end Go.Proofs.YtmacpdddimcmgaaGreatDoor
namespace Go.Proofs.YtmacpdddimcmgaaGreatDoor
set_option linter.unusedVariables false
set_option linter.unusedSimpArgs false
set_option maxRecDepth 20000
open Go.RowKit
set_option maxRecDepth 20000 in
set_option maxHeartbeats 4000000 in
attribute [-go_sem] run_eql_struct run_neq_struct in
attribute [local go_sem] eql_ls neq_ls in
theorem own_calls (b B : Nat) (m : Int) (l : Option Ls) (hh ee : Int) (w : World) (h : TabAt w b B m l) :
    Calls Tryz.prog 93 #[.pointer (some ⟨b, 0, none⟩), .string leadS, .int .i64 hh, .int .i64 ee] w fun x w' => x = .returned (.tuple #[lsV l, .int .i64 (ownF l hh ee)]) ∧ Frm M0 w w' := by
  obtain ⟨R, HR⟩ : ∃ R, Hid (ownF l hh ee = R) := ⟨_, rfl⟩
  obtain ⟨x1, x2, x3, hx⟩ : ∃ x1 x2 x3 : Int, l.getD ⟨0, 0, 0⟩ = ⟨x1, x2, x3⟩ := ⟨_, _, _, rfl⟩
  obtain ⟨I, hI⟩ : ∃ I, l.isSome = I := ⟨_, rfl⟩
  have HXV : Hid (lsV l = .agg #[.int .i64 x1, .int .i64 x2, .int .i64 x3]) := by show lsV l = _; unfold lsV; rw [hx]; rfl
  have HI := hid hI
  obtain ⟨Q, HQ⟩ : ∃ Q, Hid (lsq ⟨x1, x2, x3⟩ ⟨hh, ee, x3⟩ = Q) := ⟨_, rfl⟩
  have HRR : Hid (R = if I = false then 5 else if Q = true then 0 else 8) := by
    show R = _
    rw [← HR.out, ← HQ.out]
    cases l with
    | none => rw [← hI]; rfl
    | some y =>
      have e1 : y.h = x1 := congrArg Ls.h hx
      have e2 : y.e = x2 := congrArg Ls.e hx
      rw [← hI]
      show (if y.h = hh ∧ y.e = ee then (0 : Int) else 8) = if true = false then 5 else if lsq ⟨x1, x2, x3⟩ ⟨hh, ee, x3⟩ = true then 0 else 8
      rw [e1, e2, if_neg (by decide : ¬ true = false)]
      unfold lsq
      simp [decide_eq_true_eq]
  rw [HR.out, HXV.out]
  have HT := hid h
  clear h hx hI HR
  go_enter Tryz.func93, Tryz.ntmps93
  go_wp2_with fail
  obtain ⟨r0, hr0⟩ : ∃ q, q = w.heap.size := ⟨_, rfl⟩
  obtain ⟨w0, hw0⟩ : ∃ q, q = w.alloc (.cells #[.int .i64 0, .int .i64 0, .int .i64 0] 129) := ⟨_, rfl⟩
  have hn := new1 w (.cells #[.int .i64 0, .int .i64 0, .int .i64 0] 129)
  have hf := (Frm.refl M0 w).alloc (.cells #[.int .i64 0, .int .i64 0, .int .i64 0] 129)
  rw [← hw0] at hn hf ⊢
  rw [← hr0] at hn ⊢
  have H0 := hid hn
  have HF0 := hid hf
  have HZ := hid hr0
  clear hn hf hw0 hr0
  refine (get_calls b B m l _ (HT.out.frm0 HF0.out)).mono ?_
  rintro _ w1 ⟨rfl, hf⟩
  rw [HXV.out, HI.out]
  have HF1 := hid (HF0.out.then0 hf)
  have H1 := hid (hf.heap H0.out (fun h => h))
  clear hf HT HXV HI H0 HF0
  have HN := hid (new1 w1 (.cells #[.int .i64 0, .int .i64 0, .int .i64 0] 129))
  go_upto_region 2 with (refine wpList_store_row rfl 129 (.tmp 10) (.tmp 16) (by with_reducible rfl) w1.heap.size #[.int .i64 x1, .int .i64 x2, .int .i64 x3] (by kernel_rfl) (by kernel_rfl) _ _ HN.out (by kernel_rfl) (by rfl) (by simp [Value.oneCell']) ?_)
  obtain ⟨b7, hb7⟩ : ∃ q, q = w1.heap.size := ⟨_, rfl⟩
  obtain ⟨w2, hw2⟩ : ∃ q, q = (w1.alloc (.cells #[.int .i64 0, .int .i64 0, .int .i64 0] 129)).setRow w1.heap.size #[.int .i64 x1, .int .i64 x2, .int .i64 x3] := ⟨_, rfl⟩
  have hn := setRow_heap _ w1.heap.size _ #[.int .i64 x1, .int .i64 x2, .int .i64 x3] _ _ HN.out
  have hf2 : Frm M0 w1 ((w1.alloc (.cells #[.int .i64 0, .int .i64 0, .int .i64 0] 129)).setRow w1.heap.size #[.int .i64 x1, .int .i64 x2, .int .i64 x3]) := ((Frm.refl M0 w1).alloc _).setRow _ _ (Nat.le_refl _)
  rw [← hw2] at hn hf2 ⊢
  rw [← hb7] at hn ⊢
  have H7 := hid hn
  have H2 := hid (hf2.heap H1.out (fun h => h))
  have HF2 := hid (HF1.out.then0 hf2)
  have c2 : w2.cell? ⟨b7, 2, none⟩ = some (.int .i64 x3) := sb_cell hn 2
  clear hn hf2 hw2 hb7 HN HF1 H1
  cases I with
  | false =>
    have hR : R = 5 := HRR.out
    clear HRR
    subst hR
    go_wp2_with (first | (refine wpList_load_row_w (by kernel_rfl) 129 (.tmp 10) (by with_reducible rfl) b7 (by kernel_rfl) _ _ _ _ H7.out Tryz.underlying129 rfl (by kernel_rfl) ?_) | (refine wpList_store_row rfl 129 (.tmp 8) (.tmp 25) (by with_reducible rfl) r0 #[.int .i64 x1, .int .i64 x2, .int .i64 x3] (by kernel_rfl) (by kernel_rfl) _ _ H2.out (by kernel_rfl) (by rfl) (by simp [Value.oneCell']) ?_))
    refine bodyPost_ret (results_cell_slot (by rfl) _ _ r0 _ _ _ _ _ rfl rfl (setRow_heap _ _ _ _ _ _ H2.out) Tryz.underlying129 rfl (by kernel_rfl)) rfl ?_
    exact ⟨rfl, HF2.out.setRow _ _ (by have := HZ.out; omega)⟩
  | true =>
    have hq : lsq ⟨x1, x2, x3⟩ ⟨hh, ee, x3⟩ = Q := HQ.out
    cases Q with
    | true =>
      have hR : R = 0 := HRR.out
      clear HRR
      subst hR
      go_wp2_with (first | (refine wpList_load_row_w (by kernel_rfl) 129 (.tmp 10) (by with_reducible rfl) b7 (by kernel_rfl) _ _ _ _ H7.out Tryz.underlying129 rfl (by kernel_rfl) ?_) | (refine wpList_store_row rfl 129 (.tmp 8) (.tmp 35) (by with_reducible rfl) r0 #[.int .i64 x1, .int .i64 x2, .int .i64 x3] (by kernel_rfl) (by kernel_rfl) _ _ H2.out (by kernel_rfl) (by rfl) (by simp [Value.oneCell']) ?_))
      refine bodyPost_ret (results_cell_slot (by rfl) _ _ r0 _ _ _ _ _ rfl rfl (setRow_heap _ _ _ _ _ _ H2.out) Tryz.underlying129 rfl (by kernel_rfl)) rfl ?_
      exact ⟨rfl, HF2.out.setRow _ _ (by have := HZ.out; omega)⟩
    | false =>
      have hR : R = 8 := HRR.out
      clear HRR
      subst hR
      go_wp2_with (first | (refine wpList_load_row_w (by kernel_rfl) 129 (.tmp 10) (by with_reducible rfl) b7 (by kernel_rfl) _ _ _ _ H7.out Tryz.underlying129 rfl (by kernel_rfl) ?_) | (refine wpList_store_row rfl 129 (.tmp 8) (.tmp 34) (by with_reducible rfl) r0 #[.int .i64 x1, .int .i64 x2, .int .i64 x3] (by kernel_rfl) (by kernel_rfl) _ _ H2.out (by kernel_rfl) (by rfl) (by simp [Value.oneCell']) ?_))
      refine bodyPost_ret (results_cell_slot (by rfl) _ _ r0 _ _ _ _ _ rfl rfl (setRow_heap _ _ _ _ _ _ H2.out) Tryz.underlying129 rfl (by kernel_rfl)) rfl ?_
      exact ⟨rfl, HF2.out.setRow _ _ (by have := HZ.out; omega)⟩
theorem lright_calls (hh now q : Int) (w : World) :
    Calls Tryz.prog 92 #[.string leadS, .int .i64 hh, .int .i64 now, .int .i64 q] w fun x w' => x = .returned (.bool (ltRight hh now q)) ∧ Frm M0 w w' := by
  obtain ⟨R, HR⟩ : ∃ R, Hid (ltRight hh now q = R) := ⟨_, rfl⟩
  rw [HR.out]
  have HRR : Hid (R = true ↔ (0 ≤ hh ∧ hh < 64 ∧ 0 ≤ now ∧ now ≤ 1099511627776 ∧ 1 ≤ q ∧ q ≤ 1048576)) := by
    show R = true ↔ _
    rw [← HR.out]
    simp only [ltRight, Bool.and_eq_true, decide_eq_true_eq]
  clear HR
  unfold leadS
  go_enter Tryz.func92, Tryz.ntmps92
  go_wp2_with fail
  all_goals
    have hrr := HRR.out
    first
    | (have hR : R = decide (q ≤ 1048576) := (by rw [Bool.eq_iff_iff, hrr, decide_eq_true_eq]; omega)); subst hR; go_ret; exact ⟨rfl, Frm.refl _ _⟩
    | (have hR : R = false := (by cases R with | false => rfl | true => (have := hrr.1 rfl; omega))); subst hR; go_ret; exact ⟨rfl, Frm.refl _ _⟩
theorem field_ls (w : World) (a b c : Int) : (Instr.field 129 (.agg #[.int .i64 a, .int .i64 b, .int .i64 c]) 1).run Tryz.prog w = .ok (.int .i64 b) w := by
  have h := part_int w #[.int .i64 a, .int .i64 b, .int .i64 c] 1 b rfl
  simp [Instr.field, run_underlying Tryz.underlying129, asAgg, h, Result.andThen]
def Lb (l : Option Ls) : Prop := ∀ x, l = some x → (0 ≤ x.u ∧ x.u ≤ 1099511627776) ∧ (0 ≤ x.e ∧ x.e ≤ 1099511627776)
set_option maxRecDepth 20000 in
set_option maxHeartbeats 4000000 in
theorem take_calls (b B : Nat) (m : Int) (l : Option Ls) (hh now q : Int) (w : World) (h : TabAt w b B m l) (hm : 0 ≤ m ∧ m ≤ 1048576) (hl : Lb l) :
    Calls Tryz.prog 64 #[.pointer (some ⟨b, 0, none⟩), .string leadS, .int .i64 hh, .int .i64 now, .int .i64 q] w fun x w' =>
      x = .returned (.tuple #[.int .i64 (takeF m l hh now q).2.1, .int .i64 (takeF m l hh now q).2.2]) ∧ TabAt w' b B m (takeF m l hh now q).1 ∧ Frm (fun k => k = B) w w' := by
  obtain ⟨L', n1, n2, HR⟩ : ∃ L' n1 n2, Hid (takeF m l hh now q = (L', n1, n2)) := ⟨_, _, _, rfl⟩
  rw [HR.out]
  simp only []
  have HT := hid h
  have HM := hid hm
  have HL := hid hl
  clear h hm hl
  obtain ⟨c1, hc1⟩ : ∃ c, ltRight hh now q = c := ⟨_, rfl⟩
  have HC1 := hid hc1
  clear hc1
  go_enter Tryz.func64, Tryz.ntmps64
  go_wp2_with fail
  refine (lright_calls hh now q _).mono ?_
  rintro _ w1 ⟨rfl, hf⟩
  rw [HC1.out]
  have HF1 := hid hf
  have HT1 := hid (HT.out.frm0 hf)
  clear hf HT
  cases c1 with
  | false =>
    go_wp2_with fail
    go_ret2
    have hR := HR.out
    unfold takeF at hR
    rw [if_pos HC1.out] at hR
    simp only [Prod.mk.injEq] at hR
    obtain ⟨rfl, rfl, rfl⟩ := hR
    exact ⟨rfl, HT1.out, HF1.out.mono (fun _ _ h => h.elim)⟩
  | true =>
    go_wp2_with fail
    refine (tfree_calls b B m l now _ HT1.out HM.out (fun x hx => (HL.out x hx).1)).mono ?_
    rintro _ w2 ⟨rfl, hf⟩
    have HF2 := hid (HF1.out.then0 hf)
    have HT2 := hid (HT1.out.frm0 hf)
    clear hf HT1 HF1
    obtain ⟨c2, hc2⟩ : ∃ c, freeF m l now = c := ⟨_, rfl⟩
    rw [hc2]
    have HC2 := hid hc2
    clear hc2
    cases c2 with
    | false =>
      go_wp2_with fail
      go_ret2
      have hR := HR.out
      unfold takeF at hR
      rw [if_neg (by rw [HC1.out]; decide), if_pos HC2.out] at hR
      simp only [Prod.mk.injEq] at hR
      obtain ⟨rfl, rfl, rfl⟩ := hR
      exact ⟨rfl, HT2.out, HF2.out.mono (fun _ _ h => h.elim)⟩
    | true =>
      obtain ⟨x1, x2, x3, hx⟩ : ∃ x1 x2 x3 : Int, l.getD ⟨0, 0, 0⟩ = ⟨x1, x2, x3⟩ := ⟨_, _, _, rfl⟩
      have HXV : Hid (lsV l = .agg #[.int .i64 x1, .int .i64 x2, .int .i64 x3]) := by show lsV l = _; unfold lsV; rw [hx]; rfl
      have HX2 : Hid (takeF m l hh now q = (some ⟨hh, x2 + 1, lateF now q⟩, x2 + 1, 0) ∧ wrap64 (x2 + 1) = x2 + 1) := by
        have hE := HL.out
        have hr1 := HC1.out
        have hr2 := HC2.out
        have e2 : (l.getD ⟨0, 0, 0⟩).e = x2 := by rw [hx]
        clear HR HT2
        unfold takeF
        rw [if_neg (by rw [hr1]; decide), if_neg (by rw [hr2]; decide)]
        cases l with
        | none =>
          have e3 : (0 : Int) = x2 := e2
          subst e3
          exact hid (And.intro rfl (wrap_of (by omega)))
        | some y =>
          have e3 : y.e = x2 := e2
          have := hE y rfl
          subst e3
          exact hid (And.intro rfl (wrap_of (by omega)))
      have hR := HR.out
      rw [HX2.out.1] at hR
      simp only [Prod.mk.injEq] at hR
      have HRR := hid hR
      clear hR HR hx
      have ct : w2.cell? ⟨b, 1, none⟩ = some (.map (some B)) := sb_cell HT2.out.1 1
      have hlk := tab_lookup HT2.out.2.1 false
      rw [HXV.out] at hlk
      simp only [if_neg (show ¬ (false = true) by decide)] at hlk
      have HLT := hid hlk
      clear hlk
      have hlk := HLT.out
      have hfl := field_ls w2 x1 x2 x3
      go_upto_region 6 with fail
      clear hlk hfl ct HLT
      apply wp_region_G 11 (fun _ => none) (valsL (_ :: _ :: _ :: _ :: _ :: _ :: _ :: _ :: _ :: _ :: _ :: [])) ?hm1 ?hB1 ?hal1 ?main1
      case hm1 => kernel_rfl
      case hB1 => kernel_rfl
      case hal1 =>
        intro i o obj ho hi
        cases hi
      rotate_left 11
      intro ops QT HO HQ
      obtain ⟨ho0, HO⟩ := HO
      refine wpG_v ho0.out rfl ?_ ?_
      · simp only [valsL_zero, valsL_succ]; apply FY_in rfl; intro wx hx
        go_simp
        exact ⟨rfl, rfl⟩
      simp only [Act.put, List.setIfInBounds_toArray, List.set_cons_zero, List.set_cons_succ, valsL_zero, valsL_succ]
      obtain ⟨ho1, HO⟩ := HO
      refine wpG_v ho1.out rfl ?_ ?_
      · simp only [valsL_zero, valsL_succ]; apply FY_in rfl; intro wx hx
        go_simp
        exact ⟨rfl, rfl⟩
      simp only [Act.put, List.setIfInBounds_toArray, List.set_cons_zero, List.set_cons_succ, valsL_zero, valsL_succ]
      obtain ⟨ho2, HO⟩ := HO
      refine wpG_v ho2.out rfl ?_ ?_
      · simp only [valsL_zero, valsL_succ]; apply FY_in rfl; intro wx hx
        go_simp
        exact ⟨rfl, rfl⟩
      simp only [Act.put, List.setIfInBounds_toArray, List.set_cons_zero, List.set_cons_succ, valsL_zero, valsL_succ]
      obtain ⟨ho3, HO⟩ := HO
      refine wpG_v ho3.out rfl ?_ ?_
      · simp only [valsL_zero, valsL_succ]; apply FY_in rfl; intro wx hx
        have hc0 := sb_cell ((HT2.out.frm0 hx).1)
        go_simp
        exact ⟨rfl, rfl⟩
      simp only [Act.put, List.setIfInBounds_toArray, List.set_cons_zero, List.set_cons_succ, valsL_zero, valsL_succ]
      obtain ⟨ho4, HO⟩ := HO
      refine wpG_v ho4.out rfl ?_ ?_
      · simp only [valsL_zero, valsL_succ]; apply FY_in rfl; intro wx hx
        go_simp
        exact ⟨rfl, rfl⟩
      simp only [Act.put, List.setIfInBounds_toArray, List.set_cons_zero, List.set_cons_succ, valsL_zero, valsL_succ]
      obtain ⟨ho5, HO⟩ := HO
      refine wpG_v ho5.out rfl ?_ ?_
      · simp only [valsL_zero, valsL_succ]; apply FY_in rfl; intro wx hx
        go_simp
        exact ⟨rfl, rfl⟩
      simp only [Act.put, List.setIfInBounds_toArray, List.set_cons_zero, List.set_cons_succ, valsL_zero, valsL_succ]
      obtain ⟨ho6, HO⟩ := HO
      refine wpG_v ho6.out rfl ?_ ?_
      · simp only [valsL_zero, valsL_succ]; apply FY_in rfl; intro wx hx
        go_simp
        exact ⟨rfl, rfl⟩
      simp only [Act.put, List.setIfInBounds_toArray, List.set_cons_zero, List.set_cons_succ, valsL_zero, valsL_succ]
      obtain ⟨ho7, HO⟩ := HO
      refine wpG_v ho7.out rfl ?_ ?_
      · simp only [valsL_zero, valsL_succ]; apply FY_in rfl; intro wx hx
        go_simp
        exact ⟨rfl, rfl⟩
      simp only [Act.put, List.setIfInBounds_toArray, List.set_cons_zero, List.set_cons_succ, valsL_zero, valsL_succ]
      obtain ⟨ho8, HO⟩ := HO
      refine wpG_v ho8.out rfl ?_ ?_
      · simp only [valsL_zero, valsL_succ]; apply FY_in rfl; intro wx hx
        go_simp
        exact ⟨rfl, rfl⟩
      simp only [Act.put, List.setIfInBounds_toArray, List.set_cons_zero, List.set_cons_succ, valsL_zero, valsL_succ]
      obtain ⟨ho9, HO⟩ := HO
      refine wpG_v ho9.out rfl ?_ ?_
      · simp only [valsL_zero, valsL_succ]; apply FY_in rfl; intro wx hx
        go_simp
        exact ⟨rfl, (late_calls _ _ _).mono (fun e w' h => ⟨h.1, h.2⟩)⟩
      simp only [Act.put, List.setIfInBounds_toArray, List.set_cons_zero, List.set_cons_succ, valsL_zero, valsL_succ]
      obtain ⟨ho10, HO⟩ := HO
      refine wpG_v ho10.out rfl ?_ ?_
      · simp only [valsL_zero, valsL_succ]; apply FY_in rfl; intro wx hx
        go_simp
        exact ⟨rfl, rfl⟩
      simp only [Act.put, List.setIfInBounds_toArray, List.set_cons_zero, List.set_cons_succ, valsL_zero, valsL_succ]
      refine HQ.out _ _ ?_
      intro wr hf hE hN
      simp only [List.drop_succ_cons, List.drop_zero]
      clear HQ HO hE hN ho0 ho1 ho2 ho3 ho4 ho5 ho6 ho7 ho8 ho9 ho10
      have HF3 := hid (HF2.out.then0 hf)
      have HT3 := hid (HT2.out.frm0 hf)
      clear hf HT2 HF2
      have hp : (Instr.mapUpdate 120 (.map (some B)) (.string leadS) (.agg #[.int .i64 hh, .int .i64 (wrap64 (x2 + 1)), .int .i64 (min (wrap64 (now + q)) 1099511627776)])).run Tryz.prog wr = .ok () (putO wr B (smapO (lsL (some ⟨hh, wrap64 (x2 + 1), min (wrap64 (now + q)) 1099511627776⟩)))) := tab_put HT3.out.2.1 ⟨hh, wrap64 (x2 + 1), min (wrap64 (now + q)) 1099511627776⟩
      go_wp2_with fail
      go_ret2
      have hlr := HC1.out
      simp only [ltRight, Bool.and_eq_true, decide_eq_true_eq] at hlr
      have ew : wrap64 (now + q) = now + q := wrap_of (by omega)
      obtain ⟨e1, e2, e3⟩ := HRR.out
      rw [← e1, ← e2, ← e3]
      refine ⟨by rw [HX2.out.2]; rfl, ⟨(putO_frm wr B _).heap HT3.out.1 HT3.out.2.2, ?_, HT3.out.2.2⟩, HF3.out.mono (fun _ _ h => h.elim) |>.same (putO_frm wr B _)⟩
      rw [putO_at _ HT3.out.2.1, HX2.out.2, ew]
      rfl
set_option maxRecDepth 20000 in
set_option maxHeartbeats 4000000 in
attribute [-go_sem] run_max_int2 run_min_int2 in
attribute [local go_sem] run_mn2 run_mx2 in
theorem renew_calls (b B : Nat) (m : Int) (l : Option Ls) (hh ee now q : Int) (w : World) (h : TabAt w b B m l) (hl : Lb l) :
    Calls Tryz.prog 63 #[.pointer (some ⟨b, 0, none⟩), .string leadS, .int .i64 hh, .int .i64 ee, .int .i64 now, .int .i64 q] w fun x w' =>
      x = .returned (.tuple #[.int .i64 (renewF l hh ee now q).2.1, .int .i64 (renewF l hh ee now q).2.2]) ∧ TabAt w' b B m (renewF l hh ee now q).1 ∧ Frm (fun k => k = B) w w' := by
  obtain ⟨L', n1, n2, HR⟩ : ∃ L' n1 n2, Hid (renewF l hh ee now q = (L', n1, n2)) := ⟨_, _, _, rfl⟩
  rw [HR.out]
  simp only []
  have HT := hid h
  have HL := hid hl
  clear h hl
  obtain ⟨c1, hc1⟩ : ∃ c, ltRight hh now q = c := ⟨_, rfl⟩
  have HC1 := hid hc1
  clear hc1
  go_enter Tryz.func63, Tryz.ntmps63
  go_wp2_with fail
  refine (lright_calls hh now q _).mono ?_
  rintro _ w1 ⟨rfl, hf⟩
  rw [HC1.out]
  have HF1 := hid hf
  have HT1 := hid (HT.out.frm0 hf)
  clear hf HT
  cases c1 with
  | false =>
    go_wp2_with fail
    go_ret2
    have hR := HR.out
    unfold renewF at hR
    rw [if_pos HC1.out] at hR
    simp only [Prod.mk.injEq] at hR
    obtain ⟨rfl, rfl, rfl⟩ := hR
    exact ⟨rfl, HT1.out, HF1.out.mono (fun _ _ h => h.elim)⟩
  | true =>
    go_wp2_with fail
    refine (own_calls b B m l hh ee _ HT1.out).mono ?_
    rintro _ w2 ⟨rfl, hf⟩
    have HF2 := hid (HF1.out.then0 hf)
    have HT2 := hid (HT1.out.frm0 hf)
    clear hf HT1 HF1
    obtain ⟨x1, x2, x3, hx⟩ : ∃ x1 x2 x3 : Int, l.getD ⟨0, 0, 0⟩ = ⟨x1, x2, x3⟩ := ⟨_, _, _, rfl⟩
    have HXV : Hid (lsV l = .agg #[.int .i64 x1, .int .i64 x2, .int .i64 x3]) := by show lsV l = _; unfold lsV; rw [hx]; rfl
    have HX := hid hx
    obtain ⟨o, ho⟩ : ∃ o, ownF l hh ee = o := ⟨_, rfl⟩
    have HO := hid ho
    rw [HXV.out, ho]
    clear hx ho HXV
    have HN := hid (new1 w2 (.cells #[.int .i64 0, .int .i64 0, .int .i64 0] 129))
    go_upto_region 4 with (refine wpList_store_row rfl 129 (.tmp 14) (.tmp 28) (by with_reducible rfl) w2.heap.size #[.int .i64 x1, .int .i64 x2, .int .i64 x3] (by kernel_rfl) (by kernel_rfl) _ _ HN.out (by kernel_rfl) (by rfl) (by simp [Value.oneCell']) ?_)
    obtain ⟨b7, hb7⟩ : ∃ q, q = w2.heap.size := ⟨_, rfl⟩
    obtain ⟨w3, hw3⟩ : ∃ q, q = (w2.alloc (.cells #[.int .i64 0, .int .i64 0, .int .i64 0] 129)).setRow w2.heap.size #[.int .i64 x1, .int .i64 x2, .int .i64 x3] := ⟨_, rfl⟩
    have hn := setRow_heap _ w2.heap.size _ #[.int .i64 x1, .int .i64 x2, .int .i64 x3] _ _ HN.out
    have hf2 : Frm M0 w2 ((w2.alloc (.cells #[.int .i64 0, .int .i64 0, .int .i64 0] 129)).setRow w2.heap.size #[.int .i64 x1, .int .i64 x2, .int .i64 x3]) := ((Frm.refl M0 w2).alloc _).setRow _ _ (Nat.le_refl _)
    rw [← hw3] at hn hf2 ⊢
    rw [← hb7] at hn ⊢
    have H7 := hid hn
    have HB7 := hid hb7
    have HT3 := hid (HT2.out.frm0 hf2)
    have HF3 := hid (HF2.out.then0 hf2)
    have HZ := hid (And.intro HF2.out.size hf2.size)
    clear hn hf2 hw3 hb7 HN HF2
    by_cases h0 : o = 0
    case neg =>
      have h0' : (o == 0) = false := by simpa using h0
      have H0 := hid h0
      clear h0
      go_wp2_with fail
      go_ret2
      have hR := HR.out
      unfold renewF at hR
      rw [if_neg (by rw [HC1.out]; decide), if_pos (by rw [HO.out]; exact H0.out), HO.out] at hR
      simp only [Prod.mk.injEq] at hR
      obtain ⟨rfl, rfl, rfl⟩ := hR
      exact ⟨rfl, HT3.out, HF3.out.mono (fun _ _ h => h.elim)⟩
    case pos =>
      subst h0
      go_wp2_with fail
      refine (holds_calls b B m l hh ee now _ HT3.out).mono ?_
      rintro _ w4 ⟨rfl, hf⟩
      have HF4 := hid (HF3.out.then0 hf)
      have HT4 := hid (HT3.out.frm0 hf)
      have H74 := hid (hf.heap H7.out (fun h => h))
      have HZ4 := hid hf.size
      clear hf HT3 HF3 H7
      obtain ⟨c2, hc2⟩ : ∃ c, holdsF l hh ee now = c := ⟨_, rfl⟩
      rw [hc2]
      have HC2 := hid hc2
      clear hc2
      cases c2 with
      | false =>
        go_wp2_with fail
        go_ret2
        have hR := HR.out
        unfold renewF at hR
        rw [if_neg (by rw [HC1.out]; decide), if_neg (by rw [HO.out]; decide), if_pos HC2.out] at hR
        simp only [Prod.mk.injEq] at hR
        obtain ⟨rfl, rfl, rfl⟩ := hR
        exact ⟨rfl, HT4.out, HF4.out.mono (fun _ _ h => h.elim)⟩
      | true =>
        have HRR : Hid (L' = some ⟨x1, x2, max x3 (lateF now q)⟩ ∧ n1 = max x3 (lateF now q) ∧ n2 = 0) := by
          have hR := HR.out
          have hc2 := HC2.out
          have hx := HX.out
          unfold renewF at hR
          rw [if_neg (by rw [HC1.out]; decide), if_neg (by rw [HO.out]; decide), if_neg (by rw [HC2.out]; decide)] at hR
          clear HR HT2 HT4
          cases l with
          | none => cases hc2
          | some y =>
            have hx' : y = ⟨x1, x2, x3⟩ := hx
            subst hx'
            simp only [Prod.mk.injEq] at hR
            obtain ⟨e1, e2, e3⟩ := hR
            exact hid (And.intro e1.symm (And.intro e2.symm e3.symm))
        clear HR HX
        have HLT : Hid (min (wrap64 (now + q)) 1099511627776 = lateF now q) := by
          have hlr := HC1.out
          simp only [ltRight, Bool.and_eq_true, decide_eq_true_eq] at hlr
          show min (wrap64 (now + q)) 1099511627776 = lateF now q
          rw [wrap_of (by omega)]; rfl
        go_upto_region 8 with fail
        apply wp_region_G 7 (fun _ => none) (valsL (_ :: _ :: _ :: _ :: _ :: _ :: _ :: [])) ?hm2 ?hB2 ?hal2 ?main2
        case hm2 => kernel_rfl
        case hB2 => kernel_rfl
        case hal2 =>
          intro i o obj ho hi
          cases hi
        rotate_left 7
        intro ops QT HO HQ
        obtain ⟨ho0, HO⟩ := HO
        refine wpG_v ho0.out rfl ?_ ?_
        · simp only [valsL_zero, valsL_succ]; apply FY_in rfl; intro wx hx
          go_simp
          exact ⟨rfl, rfl⟩
        simp only [Act.put, List.setIfInBounds_toArray, List.set_cons_zero, List.set_cons_succ, valsL_zero, valsL_succ]
        obtain ⟨ho1, HO⟩ := HO
        refine wpG_v ho1.out rfl ?_ ?_
        · simp only [valsL_zero, valsL_succ]; apply FY_in rfl; intro wx hx
          have hc0 := sb_cell (hx.heap H74.out (fun h => h))
          go_simp
          exact ⟨rfl, rfl⟩
        simp only [Act.put, List.setIfInBounds_toArray, List.set_cons_zero, List.set_cons_succ, valsL_zero, valsL_succ]
        obtain ⟨ho2, HO⟩ := HO
        refine wpG_v ho2.out rfl ?_ ?_
        · simp only [valsL_zero, valsL_succ]; apply FY_in rfl; intro wx hx
          go_simp
          exact ⟨rfl, rfl⟩
        simp only [Act.put, List.setIfInBounds_toArray, List.set_cons_zero, List.set_cons_succ, valsL_zero, valsL_succ]
        obtain ⟨ho3, HO⟩ := HO
        refine wpG_v ho3.out rfl ?_ ?_
        · simp only [valsL_zero, valsL_succ]; apply FY_in rfl; intro wx hx
          go_simp
          exact ⟨rfl, rfl⟩
        simp only [Act.put, List.setIfInBounds_toArray, List.set_cons_zero, List.set_cons_succ, valsL_zero, valsL_succ]
        obtain ⟨ho4, HO⟩ := HO
        refine wpG_v ho4.out rfl ?_ ?_
        · simp only [valsL_zero, valsL_succ]; apply FY_in rfl; intro wx hx
          go_simp
          exact ⟨rfl, (late_calls _ _ _).mono (fun e w' h => ⟨h.1, h.2⟩)⟩
        simp only [Act.put, List.setIfInBounds_toArray, List.set_cons_zero, List.set_cons_succ, valsL_zero, valsL_succ]
        obtain ⟨ho5, HO⟩ := HO
        refine wpG_v ho5.out rfl ?_ ?_
        · simp only [valsL_zero, valsL_succ]; apply FY_in rfl; intro wx hx
          go_simp
          exact ⟨rfl, rfl⟩
        simp only [Act.put, List.setIfInBounds_toArray, List.set_cons_zero, List.set_cons_succ, valsL_zero, valsL_succ]
        obtain ⟨ho6, HO⟩ := HO
        refine wpG_v ho6.out rfl ?_ ?_
        · simp only [valsL_zero, valsL_succ]; apply FY_in rfl; intro wx hx
          go_simp
          exact ⟨rfl, rfl⟩
        simp only [Act.put, List.setIfInBounds_toArray, List.set_cons_zero, List.set_cons_succ, valsL_zero, valsL_succ]
        refine HQ.out _ _ ?_
        intro w5 hf hE hN
        simp only [List.drop_succ_cons, List.drop_zero]
        clear HQ HO hE hN ho0 ho1 ho2 ho3 ho4 ho5 ho6
        have HF5 := hid (HF4.out.then0 hf)
        have HT5 := hid (HT4.out.frm0 hf)
        have H75 := hid (hf.heap H74.out (fun h => h))
        have HZ5 := hid hf.size
        clear hf HT4 HF4 H74
        rw [HLT.out]
        obtain ⟨M, hM⟩ : ∃ M, max x3 (lateF now q) = M := ⟨_, rfl⟩
        have HRM := HRR.out
        rw [hM] at HRM ⊢
        have HRM := hid HRM
        clear HRR HLT hM
        have z2 := sb_free H75.out 2
        have c2 : w5.cell? ⟨b7, 2, none⟩ = some (.int .i64 x3) := sb_cell H75.out 2
        go_upto_region 9 with fail
        have hn := heap_set_at (o := 2) H75.out (.int .i64 M)
        obtain ⟨w6, hw6⟩ : ∃ q, q = w5.setCell ⟨b7, 2, none⟩ (.int .i64 M) := ⟨_, rfl⟩
        have hf : Frm (fun k => k = b7) w5 (w5.setCell ⟨b7, 2, none⟩ (.int .i64 M)) := (Frm.refl _ _).put b7 2 _ (fun _ => rfl)
        have hw : w.heap.size ≤ b7 := by have := HZ.out; have := HB7.out; omega
        rw [← hw6] at hn hf ⊢
        have hlt : B < w2.heap.size ∧ b < w2.heap.size := ⟨sb_lt HT2.out.2.1, sb_lt HT2.out.1⟩
        have hne : B ≠ b7 ∧ b ≠ b7 := by have := HB7.out; omega
        have hn' : w6.heap[b7]? = some (.cells #[.int .i64 x1, .int .i64 x2, .int .i64 M] 129 (0, 0)) := hn
        have H6 := hid hn'
        have HF6 := hid (HF5.out.trans hf (fun k hk e => by have e : k = b7 := e; omega))
        have HT6 := hid (HT5.out.frm hf hne.2 hne.1)
        clear hf hn hn' hw6 c2 z2 HF5 HT5 H75 hw
        apply wp_region_G 6 (fun _ => none) (valsL (_ :: _ :: _ :: _ :: _ :: (.agg #[.int .i64 x1, .int .i64 x2, .int .i64 M]) :: [])) ?hm3 ?hB3 ?hal3 ?main3
        case hm3 => kernel_rfl
        case hB3 => kernel_rfl
        case hal3 =>
          intro i o obj ho hi
          cases hi
        rotate_left 5
        intro ops QT HO HQ
        obtain ⟨ho0, HO⟩ := HO
        refine wpG_v ho0.out rfl ?_ ?_
        · simp only [valsL_zero, valsL_succ]; apply FY_in rfl; intro wx hx
          go_simp
          exact ⟨rfl, rfl⟩
        simp only [Act.put, List.setIfInBounds_toArray, List.set_cons_zero, List.set_cons_succ, valsL_zero, valsL_succ]
        obtain ⟨ho1, HO⟩ := HO
        refine wpG_v ho1.out rfl ?_ ?_
        · simp only [valsL_zero, valsL_succ]; apply FY_in rfl; intro wx hx
          go_simp
          exact ⟨rfl, rfl⟩
        simp only [Act.put, List.setIfInBounds_toArray, List.set_cons_zero, List.set_cons_succ, valsL_zero, valsL_succ]
        obtain ⟨ho2, HO⟩ := HO
        refine wpG_v ho2.out rfl ?_ ?_
        · simp only [valsL_zero, valsL_succ]; apply FY_in rfl; intro wx hx
          go_simp
          exact ⟨rfl, rfl⟩
        simp only [Act.put, List.setIfInBounds_toArray, List.set_cons_zero, List.set_cons_succ, valsL_zero, valsL_succ]
        obtain ⟨ho3, HO⟩ := HO
        refine wpG_v ho3.out rfl ?_ ?_
        · simp only [valsL_zero, valsL_succ]; apply FY_in rfl; intro wx hx
          have hc0 := sb_cell ((HT6.out.frm0 hx).1)
          have hc1 := sb_cell (hx.heap H6.out (fun h => h))
          go_simp
          exact ⟨rfl, rfl⟩
        simp only [Act.put, List.setIfInBounds_toArray, List.set_cons_zero, List.set_cons_succ, valsL_zero, valsL_succ]
        obtain ⟨ho4, HO⟩ := HO
        refine wpG_v ho4.out rfl ?_ ?_
        · simp only [valsL_zero, valsL_succ]; apply FY_in rfl; intro wx hx
          go_simp
          exact ⟨rfl, rfl⟩
        simp only [Act.put, List.setIfInBounds_toArray, List.set_cons_zero, List.set_cons_succ, valsL_zero, valsL_succ]
        obtain ⟨ho5, HO⟩ := HO
        refine wpG_v ho5.out rfl ?_ ?_
        · simp only [valsL_zero, valsL_succ]; apply FY_in rfl; intro wx hx
          exact fu_load_row_g 129 (.tmp 14) rfl (b7) (by kernel_rfl) _ _ _ _ (hx.heap H6.out (fun h => h)) Tryz.underlying129 rfl (by kernel_rfl)
        simp only [Act.put, List.setIfInBounds_toArray, List.set_cons_zero, List.set_cons_succ, valsL_zero, valsL_succ]
        refine HQ.out _ _ ?_
        intro w7 hf hE hN
        simp only [List.drop_succ_cons, List.drop_zero]
        clear HQ HO hE hN ho0 ho1 ho2 ho3 ho4 ho5
        have HF7 := hid (HF6.out.then0 hf)
        have HT7 := hid (HT6.out.frm0 hf)
        have H77 := hid (hf.heap H6.out (fun h => h))
        clear hf HT6 HF6 H6
        have hp : (Instr.mapUpdate 120 (.map (some B)) (.string leadS) (.agg #[.int .i64 x1, .int .i64 x2, .int .i64 M])).run Tryz.prog w7 = .ok () (putO w7 B (smapO (lsL (some ⟨x1, x2, M⟩)))) := tab_put HT7.out.2.1 ⟨x1, x2, M⟩
        have h8 := (putO_frm w7 B (smapO (lsL (some ⟨x1, x2, M⟩)))).heap H77.out (fun e => hne.1 e.symm)
        have c8 : (putO w7 B (smapO (lsL (some ⟨x1, x2, M⟩)))).cell? ⟨b7, 2, none⟩ = some (.int .i64 M) := sb_cell h8 2
        have HNE := hid hne
        clear hne hlt h8
        go_wp2_with fail
        go_ret2
        obtain ⟨e1, e2, e3⟩ := HRM.out
        subst e1 e2 e3
        refine ⟨rfl, ⟨(putO_frm w7 B _).heap HT7.out.1 HT7.out.2.2, ?_, HT7.out.2.2⟩, (HF7.out.mono (fun _ _ h => h.elim)).same (putO_frm w7 B _)⟩
        exact putO_at _ HT7.out.2.1
set_option maxRecDepth 20000 in
set_option maxHeartbeats 4000000 in
theorem lnew_calls (m : Int) (w : World) :
    Calls Tryz.prog 34 #[.int .i64 m] w fun x w' => ∃ b B, x = .returned (.pointer (some ⟨b, 0, none⟩)) ∧ TabAt w' b B (cutF m) none ∧ (w.heap.size ≤ b ∧ w.heap.size ≤ B) ∧ Frm M0 w w' := by
  obtain ⟨c, hc⟩ : ∃ c, cutF m = c := ⟨_, rfl⟩
  have HC := hid hc
  rw [hc]
  clear hc
  go_enter Tryz.func34, Tryz.ntmps34
  go_wp2_with fail
  refine (cut_calls m _).mono ?_
  rintro _ w1 ⟨rfl, rfl⟩
  rw [HC.out]
  have hmk : (Instr.makeMap 120 none).run Tryz.prog w = .ok (.map (some w.heap.size)) (w.alloc (.map #[] 0)) := rfl
  go_wp2_with fail
  go_ret
  have h2 := new2 w (.map #[] 0) (.cells #[.int .i64 c, .map (some w.heap.size)] 122)
  exact ⟨_, _, rfl, ⟨h2.2, h2.1, by omega⟩, ⟨by omega, by omega⟩, ((Frm.refl M0 w).alloc _).alloc _⟩
end Go.Proofs.YtmacpdddimcmgaaGreatDoor
namespace Go.Proofs.YtmacpdddimcmgaaGreatDoor
set_option linter.unusedVariables false
set_option linter.unusedSimpArgs false
set_option maxRecDepth 20000
open Go.RowKit
theorem ne_empty {k : ByteArray} (h : 1 ≤ k.size) : k.toList.isEmpty = false := by
  cases hq : k.toList.isEmpty with
  | false => rfl
  | true =>
    have h1 : k.toList = [] := List.isEmpty_iff.1 hq
    have h2 : k.toList.length = k.size := by rw [ByteArray.toList_eq, Array.length_toList]; rfl
    rw [h1] at h2
    simp at h2
    omega
set_option maxRecDepth 20000 in
set_option maxHeartbeats 4000000 in
theorem kright_calls (g : Nat) (k v : ByteArray) (e : TypeId) (w : World) (h : w.heap[g]? = some (.cells #[.string k, .string v, .int .i64 0, .bool false] e (0, 0))) (hk : 1 ≤ k.size ∧ k.size ≤ 64) (hv : v.size ≤ 64) :
    Calls Tryz.prog 95 #[.slice (some ⟨g, 0, none⟩) 1 1] w fun x w' => x = .returned (.bool true) ∧ Frm M0 w w' := by
  have HG := hid h
  have HK := hid hk
  have HV := hid hv
  clear h hk hv
  go_enter Tryz.func95, Tryz.ntmps95
  have hmk : (Instr.makeMap 193 none).run Tryz.prog w = .ok (.map (some w.heap.size)) (w.alloc (.map #[] 0)) := rfl
  go_upto_region 2 with fail
  clear hmk
  obtain ⟨B, hB⟩ : ∃ q, q = w.heap.size := ⟨_, rfl⟩
  obtain ⟨w1, hw1⟩ : ∃ q, q = w.alloc (.map #[] 0) := ⟨_, rfl⟩
  have hn : (w.alloc (.map #[] 0)).heap[w.heap.size]? = some (smapO []) := new1 w _
  have hf := (Frm.refl M0 w).alloc (.map #[] 0)
  rw [← hw1] at hn hf ⊢
  rw [← hB] at hn ⊢
  have HN := hid hn
  have HF := hid hf
  have HG1 := hid (hf.heap HG.out (fun h => h))
  have HBB := hid hB
  clear hn hf hw1 HG hB
  go_wp2_with fail
  refine wp_loop_rounds 2 ?_
  rw [rounds_succ]
  have HO := hid (new1 w1 (.cells #[.string ⟨#[]⟩, .string ⟨#[]⟩, .int .i64 0, .bool false] 83))
  have HG2 := hid (((Frm.refl M0 w1).alloc (.cells #[.string ⟨#[]⟩, .string ⟨#[]⟩, .int .i64 0, .bool false] 83)).heap HG1.out (fun h => h))
  go_upto_region 5 with (first | (refine wpList_load_row_w (by kernel_rfl) 83 (.tmp 11) (by with_reducible rfl) g (by kernel_rfl) _ _ _ _ HG1.out Tryz.underlying83 rfl (by kernel_rfl) ?_) | (refine wpList_load_row_w (by kernel_rfl) 83 (.tmp 11) (by with_reducible rfl) g (by kernel_rfl) _ _ _ _ HG2.out Tryz.underlying83 rfl (by kernel_rfl) ?_) | (refine wpList_store_row rfl 83 (.tmp 5) (.tmp 12) (by with_reducible rfl) w1.heap.size #[.string k, .string v, .int .i64 0, .bool false] (by kernel_rfl) (by kernel_rfl) _ _ HO.out (by kernel_rfl) (by rfl) (by simp [Value.oneCell']) ?_))
  (obtain ⟨b5, hbb5⟩ : ∃ q, q = w1.heap.size := ⟨_, rfl⟩); (obtain ⟨w2, hww2⟩ : ∃ q, q = (w1.alloc (.cells #[.string ⟨#[]⟩, .string ⟨#[]⟩, .int .i64 0, .bool false] 83)).setRow w1.heap.size #[.string k, .string v, .int .i64 0, .bool false] := ⟨_, rfl⟩); have hn := setRow_heap _ w1.heap.size _ #[.string k, .string v, .int .i64 0, .bool false] _ _ HO.out; have hf : Frm M0 w1 ((w1.alloc (.cells #[.string ⟨#[]⟩, .string ⟨#[]⟩, .int .i64 0, .bool false] 83)).setRow w1.heap.size #[.string k, .string v, .int .i64 0, .bool false]) := ((Frm.refl M0 w1).alloc _).setRow _ _ (Nat.le_refl _); rw [← hww2] at hn hf ⊢; rw [← hbb5] at hn ⊢; clear hww2
  have HF2 := hid (HF.out.then0 hf)
  have HN2 := hid (hf.heap HN.out (fun h => h))
  have c0 : w2.cell? ⟨b5, 0, none⟩ = some (.string k) := sb_cell hn 0
  have c1 : w2.cell? ⟨b5, 1, none⟩ = some (.string v) := sb_cell hn 1
  have hne : B ≠ b5 := by have := sb_lt HN.out; omega
  have hlk := sget_miss (P := Tryz.prog) (T := 193) Tryz.underlying193 Tryz.underlying9 HN2.out k (.bool false) (by rfl) rfl false
  simp only [if_neg (show ¬ (false = true) by decide)] at hlk
  have hk1 : k.toList.isEmpty = false := ne_empty HK.out.1
  have hk2 : ¬ (64 : Int) < k.size := by have := HK.out.2; omega
  have hv2 : ¬ (64 : Int) < v.size := by have := HV.out; omega
  have hp := sput_run (P := Tryz.prog) (T := 193) Tryz.underlying193 Tryz.underlying9 HN2.out k (.bool true)
  have HNE := hid hne
  have HFP := hid ((HF2.out.mono (M' := fun j => j = B) (fun _ _ h => h.elim)).same (putO_frm w2 B (smapO (sput [] k (.bool true)))))
  clear hn hf hne HO HG2 HN HF hbb5
  go_wp2_with fail
  clear hlk hp c0 c1
  rw [rounds_succ]
  go_wp2_with fail
  go_ret
  refine ⟨rfl, HFP.out.os, HFP.out.tape, HFP.out.output, HFP.out.size, fun j hj hn => HFP.out.block j hj (fun e => ?_)⟩
  have e : j = B := e
  have := HBB.out
  omega
def StoAt (w : World) (s S : Nat) (vs : List (Int × ByteArray)) : Prop :=
  w.heap[s]? = some (.cells #[.map (some S), .int .i64 vs.length] 125 (0, 0)) ∧ w.heap[S]? = some (smapO (kvFrom 0 vs)) ∧ s ≠ S
theorem StoAt.frm {M : Nat → Prop} {w w' : World} {s S : Nat} {vs : List (Int × ByteArray)} (h : StoAt w s S vs) (hf : Frm M w w') (h1 : ¬ M s) (h2 : ¬ M S) : StoAt w' s S vs := ⟨hf.heap h.1 h1, hf.heap h.2.1 h2, h.2.2⟩
theorem StoAt.frm0 {w w' : World} {s S : Nat} {vs : List (Int × ByteArray)} (h : StoAt w s S vs) (hf : Frm M0 w w') : StoAt w' s S vs := h.frm hf (fun h => h) (fun h => h)
abbrev vsOk (vs : List (Int × ByteArray)) : Prop := ∀ x ∈ vs, i64R x.1
theorem sto_lookup {w : World} {S : Nat} {vs : List (Int × ByteArray)} {n : Int} (h : w.heap[S]? = some (smapO (kvFrom 0 vs))) (hn : i64R n) (hr : vsOk vs) :
    (Instr.lookup 123 (.map (some S)) (.string (str (Lib.itoa n))) false).run Tryz.prog w = .ok (.agg #[.string (kvE 0 vs n).1, .int .i64 (kvE 0 vs n).2]) w := by
  rcases kvE_all hn vs hr with ⟨h1, h2, _⟩ | ⟨h1, _⟩
  · have hz : (zeroValue 134).run Tryz.prog w = .ok (.agg #[.string ⟨#[]⟩, .int .i64 0]) w := (zero_of_info (n := 2) (by kernel_rfl)).1 w
    rw [h2]
    exact sget_miss (P := Tryz.prog) (T := 123) Tryz.underlying123 Tryz.underlying9 h _ _ hz h1 false
  · exact sget_hit (P := Tryz.prog) (T := 123) Tryz.underlying123 Tryz.underlying9 h _ _ h1 false
set_option maxRecDepth 20000 in
set_option maxHeartbeats 4000000 in
theorem knew_calls (w : World) :
    Calls Tryz.prog 35 #[] w fun x w' => ∃ s S, x = .returned (.pointer (some ⟨s, 0, none⟩)) ∧ StoAt w' s S [] ∧ (w.heap.size ≤ s ∧ w.heap.size ≤ S) ∧ Frm M0 w w' := by
  go_enter Tryz.func35, Tryz.ntmps35
  have hmk : (Instr.makeMap 123 none).run Tryz.prog w = .ok (.map (some w.heap.size)) (w.alloc (.map #[] 0)) := rfl
  go_wp2_with fail
  go_ret
  have h2 := new2 w (.map #[] 0) (.cells #[.map (some w.heap.size), .int .i64 0] 125)
  exact ⟨_, _, rfl, ⟨h2.2, h2.1, by omega⟩, ⟨by omega, by omega⟩, ((Frm.refl M0 w).alloc _).alloc _⟩
set_option maxRecDepth 20000 in
set_option maxHeartbeats 4000000 in
theorem kget_calls (s S : Nat) (vs : List (Int × ByteArray)) (n : Int) (w : World) (h : StoAt w s S vs) (hn : i64R n) (hr : vsOk vs) :
    Calls Tryz.prog 39 #[.pointer (some ⟨s, 0, none⟩), .string (str (Lib.itoa n))] w fun x w' => x = .returned (.tuple #[.string (kvE 0 vs n).1, .int .i64 (kvE 0 vs n).2]) ∧ Frm M0 w w' := by
  have HS := hid h
  have hl := sto_lookup h.2.1 hn hr
  obtain ⟨T, hT⟩ : ∃ q, (kvE 0 vs n).1 = q := ⟨_, rfl⟩
  obtain ⟨R, hR⟩ : ∃ q, (kvE 0 vs n).2 = q := ⟨_, rfl⟩
  obtain ⟨K, hK⟩ : ∃ q, str (Lib.itoa n) = q := ⟨_, rfl⟩
  rw [hT, hR, hK] at hl
  rw [hT, hR, hK]
  clear h hn hr hT hR hK
  have c0 : w.cell? ⟨s, 0, none⟩ = some (.map (some S)) := sb_cell HS.out.1 0
  go_enter Tryz.func39, Tryz.ntmps39
  have HO := hid (new1 w (.cells #[.string ⟨#[]⟩, .int .i64 0] 134))
  go_upto_region 4 with (refine wpList_store_row rfl 134 (.tmp 6) (.tmp 14) (by with_reducible rfl) w.heap.size #[.string T, .int .i64 R] (by kernel_rfl) (by kernel_rfl) _ _ HO.out (by kernel_rfl) (by rfl) (by simp [Value.oneCell']) ?_)
  (obtain ⟨b6, hbb6⟩ : ∃ q, q = w.heap.size := ⟨_, rfl⟩); (obtain ⟨w1, hww1⟩ : ∃ q, q = (w.alloc (.cells #[.string ⟨#[]⟩, .int .i64 0] 134)).setRow w.heap.size #[.string T, .int .i64 R] := ⟨_, rfl⟩); have hn := setRow_heap _ w.heap.size _ #[.string T, .int .i64 R] _ _ HO.out; have hf : Frm M0 w ((w.alloc (.cells #[.string ⟨#[]⟩, .int .i64 0] 134)).setRow w.heap.size #[.string T, .int .i64 R]) := ((Frm.refl M0 w).alloc _).setRow _ _ (Nat.le_refl _); rw [← hww1] at hn hf ⊢; rw [← hbb6] at hn ⊢; clear hww1
  have HF := hid hf
  have H6 := hid hn
  clear hf hn c0 hl HO hbb6
  apply wp_region_G 5 (fun _ => none) (valsL (_ :: _ :: _ :: _ :: _ :: [])) ?hm1 ?hB1 ?hal1 ?main1
  case hm1 => kernel_rfl
  case hB1 => kernel_rfl
  case hal1 =>
    intro i o obj ho hi
    cases hi
  rotate_left 5
  intro ops QT HO HQ
  obtain ⟨ho0, HO⟩ := HO
  refine wpG_v ho0.out rfl ?_ ?_
  · simp only [valsL_zero, valsL_succ]; apply FY_in rfl; intro wx hx
    go_simp
    exact ⟨rfl, rfl⟩
  simp only [Act.put, List.setIfInBounds_toArray, List.set_cons_zero, List.set_cons_succ, valsL_zero, valsL_succ]
  obtain ⟨ho1, HO⟩ := HO
  refine wpG_v ho1.out rfl ?_ ?_
  · simp only [valsL_zero, valsL_succ]; apply FY_in rfl; intro wx hx
    have hc0 := sb_cell (hx.heap H6.out (fun h => h))
    go_simp
    exact ⟨rfl, rfl⟩
  simp only [Act.put, List.setIfInBounds_toArray, List.set_cons_zero, List.set_cons_succ, valsL_zero, valsL_succ]
  obtain ⟨ho2, HO⟩ := HO
  refine wpG_v ho2.out rfl ?_ ?_
  · simp only [valsL_zero, valsL_succ]; apply FY_in rfl; intro wx hx
    go_simp
    exact ⟨rfl, rfl⟩
  simp only [Act.put, List.setIfInBounds_toArray, List.set_cons_zero, List.set_cons_succ, valsL_zero, valsL_succ]
  obtain ⟨ho3, HO⟩ := HO
  refine wpG_v ho3.out rfl ?_ ?_
  · simp only [valsL_zero, valsL_succ]; apply FY_in rfl; intro wx hx
    have hc0 := sb_cell (hx.heap H6.out (fun h => h))
    go_simp
    exact ⟨rfl, rfl⟩
  simp only [Act.put, List.setIfInBounds_toArray, List.set_cons_zero, List.set_cons_succ, valsL_zero, valsL_succ]
  obtain ⟨ho4, HO⟩ := HO
  refine wpG_v ho4.out rfl ?_ ?_
  · simp only [valsL_zero, valsL_succ]; apply FY_in rfl; intro wx hx
    go_simp
    exact ⟨rfl, rfl⟩
  simp only [Act.put, List.setIfInBounds_toArray, List.set_cons_zero, List.set_cons_succ, valsL_zero, valsL_succ]
  refine HQ.out _ _ ?_
  intro wr hf hE hN
  simp only [List.drop_succ_cons, List.drop_zero]
  clear HQ HO hE hN ho0 ho1 ho2 ho3 ho4
  have HF2 := hid (HF.out.then0 hf)
  clear hf
  go_wp2_with fail
  go_ret2
  exact ⟨rfl, HF2.out⟩
end Go.Proofs.YtmacpdddimcmgaaGreatDoor
namespace Go.Proofs.YtmacpdddimcmgaaGreatDoor
set_option linter.unusedVariables false
set_option linter.unusedSimpArgs false
set_option maxRecDepth 20000
open Go.RowKit
theorem field_entry (w : World) (a : ByteArray) (b : Int) : (Instr.field 134 (.agg #[.string a, .int .i64 b]) 1).run Tryz.prog w = .ok (.int .i64 b) w := by
  have h := part_int w #[.string a, .int .i64 b] 1 b rfl
  simp [Instr.field, run_underlying Tryz.underlying134, asAgg, h, Result.andThen]
theorem itoa_size {n : Int} (hn : i64R n) : 1 ≤ (str (Lib.itoa n)).size ∧ (str (Lib.itoa n)).size ≤ 64 := by
  have h1 := Lib.itoa_length_le n hn.1 hn.2
  have h2 : (Lib.itoa n).length ≠ 0 := by
    intro h0
    have he := List.eq_nil_of_length_eq_zero h0
    have h := atoi_itoa n hn.1 hn.2
    rw [he] at h
    cases h
  rw [str_size]
  omega
def opC (n : Int) (t : ByteArray) : Array Value := #[.string (str (Lib.itoa n)), .string t, .int .i64 0, .bool false]
set_option maxRecDepth 20000 in
set_option maxHeartbeats 4000000 in
theorem kwhy_calls (s S g : Nat) (vs : List (Int × ByteArray)) (n : Int) (t : ByteArray) (e : TypeId) (w : World) (h : StoAt w s S vs) (hg : w.heap[g]? = some (.cells (opC n t) e (0, 0))) (hn : i64R n) (hr : vsOk vs)
    (ht : t.size ≤ 64) (hm : vs.find? (fun x => decide (x.1 = n)) = none) (hc : vs.length < 64) :
    Calls Tryz.prog 66 #[.pointer (some ⟨s, 0, none⟩), .slice (some ⟨g, 0, none⟩) 1 1] w fun x w' => x = .returned (.int .i64 0) ∧ Frm M0 w w' := by
  unfold opC at hg
  have HS := hid h
  have HG := hid hg
  have HC := hid hc
  have HKS := hid (itoa_size hn)
  have HT := hid ht
  have HL : Hid (∀ wx : World, wx.heap[S]? = some (smapO (kvFrom 0 vs)) → (Instr.lookup 123 (.map (some S)) (.string (str (Lib.itoa n))) false).run Tryz.prog wx = .ok (.agg #[.string ⟨#[]⟩, .int .i64 0]) wx) := hid fun wx hx => by
    have := sto_lookup hx hn hr
    rw [kvE_miss vs 0 hm] at this
    exact this
  obtain ⟨K, hK⟩ : ∃ q, str (Lib.itoa n) = q := ⟨_, rfl⟩
  rw [hK] at HG HKS HL
  clear h hg hn hr ht hm hc hK
  go_enter Tryz.func66, Tryz.ntmps66
  go_wp2_with fail
  refine (kright_calls g K t e w HG.out HKS.out HT.out).mono ?_
  rintro _ w1 ⟨rfl, hf⟩
  have HS1 := hid (HS.out.frm0 hf)
  have HG1 := hid (hf.heap HG.out (fun h => h))
  have HF1 := hid hf
  clear hf HS HG
  have hmap : w1.heap[S]? = some (.map (smap 0 (kvFrom 0 vs)).toArray (kvFrom 0 vs).length) := HS1.out.2.1
  have hsz : (smap 0 (kvFrom 0 vs)).toArray.size = vs.length := by rw [List.size_toArray, smap_len, kv_len]
  have c0 : w1.cell? ⟨s, 0, none⟩ = some (.map (some S)) := sb_cell HS1.out.1 0
  obtain ⟨EA, hEA⟩ : ∃ q, (smap 0 (kvFrom 0 vs)).toArray = q := ⟨_, rfl⟩
  rw [hEA] at hmap hsz
  have hlen := run_len_map (P := Tryz.prog) (w := w1) 123 3 S EA _ (by kernel_rfl) hmap
  rw [hsz] at hlen
  clear hEA hsz hmap
  go_upto_region 5 with fail
  clear c0 hlen
  go_wp2_with fail
  refine wp_loop_rounds 2 ?_
  rw [rounds_succ]
  have HO := hid (new1 w1 (.cells #[.string ⟨#[]⟩, .string ⟨#[]⟩, .int .i64 0, .bool false] 83))
  have HG2 := hid (((Frm.refl M0 w1).alloc (.cells #[.string ⟨#[]⟩, .string ⟨#[]⟩, .int .i64 0, .bool false] 83)).heap HG1.out (fun h => h))
  go_upto_region 8 with (first | (refine wpList_load_row_w (by kernel_rfl) 83 (.tmp 26) (by with_reducible rfl) g (by kernel_rfl) _ _ _ _ HG1.out Tryz.underlying83 rfl (by kernel_rfl) ?_) | (refine wpList_load_row_w (by kernel_rfl) 83 (.tmp 26) (by with_reducible rfl) g (by kernel_rfl) _ _ _ _ HG2.out Tryz.underlying83 rfl (by kernel_rfl) ?_) | (refine wpList_store_row rfl 83 (.tmp 8) (.tmp 27) (by with_reducible rfl) w1.heap.size #[.string K, .string t, .int .i64 0, .bool false] (by kernel_rfl) (by kernel_rfl) _ _ HO.out (by kernel_rfl) (by rfl) (by simp [Value.oneCell']) ?_))
  (obtain ⟨b8, hbb8⟩ : ∃ q, q = w1.heap.size := ⟨_, rfl⟩); (obtain ⟨w2, hww2⟩ : ∃ q, q = (w1.alloc (.cells #[.string ⟨#[]⟩, .string ⟨#[]⟩, .int .i64 0, .bool false] 83)).setRow w1.heap.size #[.string K, .string t, .int .i64 0, .bool false] := ⟨_, rfl⟩); have hn := setRow_heap _ w1.heap.size _ #[.string K, .string t, .int .i64 0, .bool false] _ _ HO.out; have hf : Frm M0 w1 ((w1.alloc (.cells #[.string ⟨#[]⟩, .string ⟨#[]⟩, .int .i64 0, .bool false] 83)).setRow w1.heap.size #[.string K, .string t, .int .i64 0, .bool false]) := ((Frm.refl M0 w1).alloc _).setRow _ _ (Nat.le_refl _); rw [← hww2] at hn hf ⊢; rw [← hbb8] at hn ⊢; clear hww2
  have HF2 := hid (HF1.out.then0 hf)
  have HS2 := hid (HS1.out.frm0 hf)
  have H8 := hid hn
  clear hf hn HF1 HS1 HG1 HG2 HO hbb8
  apply wp_region_G 8 (fun _ => none) (valsL (_ :: _ :: _ :: _ :: _ :: _ :: _ :: _ :: [])) ?hm1 ?hB1 ?hal1 ?main1
  case hm1 => kernel_rfl
  case hB1 => kernel_rfl
  case hal1 =>
    intro i o obj ho hi
    cases hi
  rotate_left 8
  intro ops QT HO HQ
  obtain ⟨ho0, HO⟩ := HO
  refine wpG_v ho0.out rfl ?_ ?_
  · simp only [valsL_zero, valsL_succ]; apply FY_in rfl; intro wx hx
    go_simp
    exact ⟨rfl, rfl⟩
  simp only [Act.put, List.setIfInBounds_toArray, List.set_cons_zero, List.set_cons_succ, valsL_zero, valsL_succ]
  obtain ⟨ho1, HO⟩ := HO
  refine wpG_v ho1.out rfl ?_ ?_
  · simp only [valsL_zero, valsL_succ]; apply FY_in rfl; intro wx hx
    go_simp
    exact ⟨rfl, rfl⟩
  simp only [Act.put, List.setIfInBounds_toArray, List.set_cons_zero, List.set_cons_succ, valsL_zero, valsL_succ]
  obtain ⟨ho2, HO⟩ := HO
  refine wpG_v ho2.out rfl ?_ ?_
  · simp only [valsL_zero, valsL_succ]; apply FY_in rfl; intro wx hx
    go_simp
    exact ⟨rfl, rfl⟩
  simp only [Act.put, List.setIfInBounds_toArray, List.set_cons_zero, List.set_cons_succ, valsL_zero, valsL_succ]
  obtain ⟨ho3, HO⟩ := HO
  refine wpG_v ho3.out rfl ?_ ?_
  · simp only [valsL_zero, valsL_succ]; apply FY_in rfl; intro wx hx
    have hc0 := sb_cell (hx.heap H8.out (fun h => h))
    have hc1 := sb_cell ((HS2.out.frm0 hx).1)
    go_simp
    exact ⟨rfl, rfl⟩
  simp only [Act.put, List.setIfInBounds_toArray, List.set_cons_zero, List.set_cons_succ, valsL_zero, valsL_succ]
  obtain ⟨ho4, HO⟩ := HO
  refine wpG_v ho4.out rfl ?_ ?_
  · simp only [valsL_zero, valsL_succ]; apply FY_in rfl; intro wx hx
    go_simp
    exact ⟨rfl, rfl⟩
  simp only [Act.put, List.setIfInBounds_toArray, List.set_cons_zero, List.set_cons_succ, valsL_zero, valsL_succ]
  obtain ⟨ho5, HO⟩ := HO
  refine wpG_v ho5.out rfl ?_ ?_
  · simp only [valsL_zero, valsL_succ]; apply FY_in rfl; intro wx hx
    have hc0 := sb_cell (hx.heap H8.out (fun h => h))
    have hc1 := sb_cell ((HS2.out.frm0 hx).1)
    go_simp
    exact ⟨rfl, rfl⟩
  simp only [Act.put, List.setIfInBounds_toArray, List.set_cons_zero, List.set_cons_succ, valsL_zero, valsL_succ]
  obtain ⟨ho6, HO⟩ := HO
  refine wpG_v ho6.out rfl ?_ ?_
  · simp only [valsL_zero, valsL_succ]; apply FY_in rfl; intro wx hx
    have hl := HL.out wx (HS2.out.frm0 hx).2.1
    go_simp
    exact ⟨rfl, rfl⟩
  simp only [Act.put, List.setIfInBounds_toArray, List.set_cons_zero, List.set_cons_succ, valsL_zero, valsL_succ]
  obtain ⟨ho7, HO⟩ := HO
  refine wpG_v ho7.out rfl ?_ ?_
  · simp only [valsL_zero, valsL_succ]; apply FY_in rfl; intro wx hx
    have hq := field_entry wx ⟨#[]⟩ 0
    go_simp
    exact ⟨rfl, rfl⟩
  simp only [Act.put, List.setIfInBounds_toArray, List.set_cons_zero, List.set_cons_succ, valsL_zero, valsL_succ]
  refine HQ.out _ _ ?_
  intro w3 hf hE hN
  simp only [List.drop_succ_cons, List.drop_zero]
  clear HQ HO hE hN ho0 ho1 ho2 ho3 ho4 ho5 ho6 ho7
  have HF3 := hid (HF2.out.then0 hf)
  have h83 := hf.heap H8.out (fun h => h)
  have c2 : w3.cell? ⟨b8, 2, none⟩ = some (.int .i64 0) := sb_cell h83 2
  have c3 : w3.cell? ⟨b8, 3, none⟩ = some (.bool false) := sb_cell h83 3
  clear hf h83 H8 HS2 HF2
  go_wp2_with fail
  clear c2 c3
  rw [rounds_succ]
  have hc1 : wrap64 ((vs.length : Int) + 1) = (vs.length : Int) + 1 := wrap_of (by have := HC.out; omega)
  have hc2 : ¬ (64 : Int) < (vs.length : Int) + 1 := by have := HC.out; omega
  rw [hc1]
  clear hc1
  go_wp2_with fail
  go_ret
  exact ⟨rfl, HF3.out⟩
set_option maxRecDepth 20000 in
set_option maxHeartbeats 4000000 in
theorem kdo_calls (s S g : Nat) (vs : List (Int × ByteArray)) (n : Int) (t : ByteArray) (e : TypeId) (w : World) (h : StoAt w s S vs) (hg : w.heap[g]? = some (.cells (opC n t) e (0, 0))) (hn : i64R n) (hr : vsOk vs)
    (ht : t.size ≤ 64) (hm : vs.find? (fun x => decide (x.1 = n)) = none) (hc : vs.length < 64) (hgs : g ≠ s) :
    Calls Tryz.prog 37 #[.pointer (some ⟨s, 0, none⟩), .slice (some ⟨g, 0, none⟩) 1 1] w fun x w' =>
      x = .returned (.tuple #[.int .i64 ((vs.length : Int) + 1), .int .i64 0]) ∧ StoAt w' s S (vs ++ [(n, t)]) ∧ Frm (fun k => k = s ∨ k = S) w w' := by
  have HE : Hid (sput (kvFrom 0 vs) (str (Lib.itoa n)) (.agg #[.string t, .int .i64 ((vs.length : Int) + 1)]) = kvFrom 0 (vs ++ [(n, t)])) := hid (kv_put hn t vs hr hm)
  have HW := hid (kwhy_calls s S g vs n t e w h hg hn hr ht hm hc)
  unfold opC at hg
  have HS := hid h
  have HG := hid hg
  have HC := hid hc
  have HGS := hid hgs
  have hlen : ((vs ++ [(n, t)]).length : Int) = (vs.length : Int) + 1 := by simp
  have HLEN := hid hlen
  obtain ⟨K, hK⟩ : ∃ q, str (Lib.itoa n) = q := ⟨_, rfl⟩
  rw [hK] at HG HE
  clear h hg hn hr ht hm hc hK hgs hlen
  go_enter Tryz.func37, Tryz.ntmps37
  go_wp2_with fail
  refine HW.out.mono ?_
  rintro _ w1 ⟨rfl, hf⟩
  have HS1 := hid (HS.out.frm0 hf)
  have HG1 := hid (hf.heap HG.out (fun h => h))
  have HF1 := hid hf
  clear hf HS HG HW
  have c1 : w1.cell? ⟨s, 1, none⟩ = some (.int .i64 vs.length) := sb_cell HS1.out.1 1
  have z1 := sb_free HS1.out.1 1
  have hc1 : wrap64 ((vs.length : Int) + 1) = (vs.length : Int) + 1 := wrap_of (by have := HC.out; omega)
  go_upto_region 5 with fail
  rw [hc1]
  have hn := heap_set_at (o := 1) HS1.out.1 (.int .i64 ((vs.length : Int) + 1))
  have hn : (w1.setCell ⟨s, 1, none⟩ (.int .i64 ((vs.length : Int) + 1))).heap[s]? = some (.cells #[.map (some S), .int .i64 ((vs.length : Int) + 1)] 125 (0, 0)) := hn
  have hf : Frm (fun k => k = s) w1 (w1.setCell ⟨s, 1, none⟩ (.int .i64 ((vs.length : Int) + 1))) := (Frm.refl _ _).put s 1 _ (fun _ => rfl)
  obtain ⟨w2, hw2⟩ : ∃ q, q = w1.setCell ⟨s, 1, none⟩ (.int .i64 ((vs.length : Int) + 1)) := ⟨_, rfl⟩
  rw [← hw2] at hn hf ⊢
  obtain ⟨L, hL⟩ : ∃ q, q = (vs.length : Int) + 1 := ⟨_, rfl⟩
  rw [← hL] at hn HE HLEN ⊢
  have HL := hid hL
  have H2 := hid hn
  have HM2 := hid (hf.heap HS1.out.2.1 (fun e => HS1.out.2.2 e.symm))
  have HF2 := hid (((HF1.out.mono (M' := fun k => k = s) (fun _ _ h => h.elim)).same hf))
  have HG2 := hid (hf.heap HG1.out HGS.out)
  have HNE := hid HS1.out.2.2
  clear hn hf hw2 c1 z1 hc1 hL HS1 HF1 HG1
  go_wp2_with fail
  refine wp_loop_rounds 2 ?_
  rw [rounds_succ]
  have HO := hid (new1 w2 (.cells #[.string ⟨#[]⟩, .string ⟨#[]⟩, .int .i64 0, .bool false] 83))
  have HG3 := hid (((Frm.refl M0 w2).alloc (.cells #[.string ⟨#[]⟩, .string ⟨#[]⟩, .int .i64 0, .bool false] 83)).heap HG2.out (fun h => h))
  go_upto_region 8 with (first | (refine wpList_load_row_w (by kernel_rfl) 83 (.tmp 26) (by with_reducible rfl) g (by kernel_rfl) _ _ _ _ HG2.out Tryz.underlying83 rfl (by kernel_rfl) ?_) | (refine wpList_load_row_w (by kernel_rfl) 83 (.tmp 26) (by with_reducible rfl) g (by kernel_rfl) _ _ _ _ HG3.out Tryz.underlying83 rfl (by kernel_rfl) ?_) | (refine wpList_store_row rfl 83 (.tmp 8) (.tmp 27) (by with_reducible rfl) w2.heap.size #[.string K, .string t, .int .i64 0, .bool false] (by kernel_rfl) (by kernel_rfl) _ _ HO.out (by kernel_rfl) (by rfl) (by simp [Value.oneCell']) ?_))
  (obtain ⟨b8, hbb8⟩ : ∃ q, q = w2.heap.size := ⟨_, rfl⟩); (obtain ⟨w3, hww3⟩ : ∃ q, q = (w2.alloc (.cells #[.string ⟨#[]⟩, .string ⟨#[]⟩, .int .i64 0, .bool false] 83)).setRow w2.heap.size #[.string K, .string t, .int .i64 0, .bool false] := ⟨_, rfl⟩); have hn := setRow_heap _ w2.heap.size _ #[.string K, .string t, .int .i64 0, .bool false] _ _ HO.out; have hf : Frm M0 w2 ((w2.alloc (.cells #[.string ⟨#[]⟩, .string ⟨#[]⟩, .int .i64 0, .bool false] 83)).setRow w2.heap.size #[.string K, .string t, .int .i64 0, .bool false]) := ((Frm.refl M0 w2).alloc _).setRow _ _ (Nat.le_refl _); rw [← hww3] at hn hf ⊢; rw [← hbb8] at hn ⊢; clear hww3
  have HF3 := hid (HF2.out.then0 hf)
  have H3 := hid (hf.heap H2.out (fun h => h))
  have HM3 := hid (hf.heap HM2.out (fun h => h))
  have H8 := hid hn
  have c3 : w3.cell? ⟨b8, 3, none⟩ = some (.bool false) := sb_cell hn 3
  clear hf hn HF2 HM2 H2 HG2 HG3 HO hbb8
  go_upto_region 10 with fail
  clear c3
  apply wp_region_G 13 (fun _ => none) (valsL (_ :: _ :: _ :: _ :: _ :: _ :: _ :: _ :: _ :: _ :: _ :: _ :: _ :: [])) ?hm2 ?hB2 ?hal2 ?main2
  case hm2 => kernel_rfl
  case hB2 => kernel_rfl
  case hal2 =>
    intro i o obj ho hi
    cases hi
  rotate_left 13
  intro ops QT HO HQ
  obtain ⟨ho0, HO⟩ := HO
  refine wpG_v ho0.out rfl ?_ ?_
  · simp only [valsL_zero, valsL_succ]; apply FY_in rfl; intro wx hx
    go_simp
    exact ⟨rfl, rfl⟩
  simp only [Act.put, List.setIfInBounds_toArray, List.set_cons_zero, List.set_cons_succ, valsL_zero, valsL_succ]
  obtain ⟨ho1, HO⟩ := HO
  refine wpG_v ho1.out rfl ?_ ?_
  · simp only [valsL_zero, valsL_succ]; apply FY_in rfl; intro wx hx
    go_simp
    exact ⟨rfl, rfl⟩
  simp only [Act.put, List.setIfInBounds_toArray, List.set_cons_zero, List.set_cons_succ, valsL_zero, valsL_succ]
  obtain ⟨ho2, HO⟩ := HO
  refine wpG_v ho2.out rfl ?_ ?_
  · simp only [valsL_zero, valsL_succ]; apply FY_in rfl; intro wx hx
    go_simp
    exact ⟨rfl, rfl⟩
  simp only [Act.put, List.setIfInBounds_toArray, List.set_cons_zero, List.set_cons_succ, valsL_zero, valsL_succ]
  obtain ⟨ho3, HO⟩ := HO
  refine wpG_v ho3.out rfl ?_ ?_
  · simp only [valsL_zero, valsL_succ]; apply FY_in rfl; intro wx hx
    have hc0 := sb_cell (hx.heap H8.out (fun h => h))
    have hc1 := sb_cell (hx.heap H3.out (fun h => h))
    go_simp
    exact ⟨rfl, rfl⟩
  simp only [Act.put, List.setIfInBounds_toArray, List.set_cons_zero, List.set_cons_succ, valsL_zero, valsL_succ]
  obtain ⟨ho4, HO⟩ := HO
  refine wpG_v ho4.out rfl ?_ ?_
  · simp only [valsL_zero, valsL_succ]; apply FY_in rfl; intro wx hx
    go_simp
    exact ⟨rfl, rfl⟩
  simp only [Act.put, List.setIfInBounds_toArray, List.set_cons_zero, List.set_cons_succ, valsL_zero, valsL_succ]
  obtain ⟨ho5, HO⟩ := HO
  refine wpG_v ho5.out rfl ?_ ?_
  · simp only [valsL_zero, valsL_succ]; apply FY_in rfl; intro wx hx
    have hc0 := sb_cell (hx.heap H8.out (fun h => h))
    have hc1 := sb_cell (hx.heap H3.out (fun h => h))
    go_simp
    exact ⟨rfl, rfl⟩
  simp only [Act.put, List.setIfInBounds_toArray, List.set_cons_zero, List.set_cons_succ, valsL_zero, valsL_succ]
  obtain ⟨ho6, HO⟩ := HO
  refine wpG_v ho6.out rfl ?_ ?_
  · simp only [valsL_zero, valsL_succ]; apply FY_in rfl; intro wx hx
    go_simp
    exact ⟨rfl, rfl⟩
  simp only [Act.put, List.setIfInBounds_toArray, List.set_cons_zero, List.set_cons_succ, valsL_zero, valsL_succ]
  obtain ⟨ho7, HO⟩ := HO
  refine wpG_v ho7.out rfl ?_ ?_
  · simp only [valsL_zero, valsL_succ]; apply FY_in rfl; intro wx hx
    have hc0 := sb_cell (hx.heap H8.out (fun h => h))
    have hc1 := sb_cell (hx.heap H3.out (fun h => h))
    go_simp
    exact ⟨rfl, rfl⟩
  simp only [Act.put, List.setIfInBounds_toArray, List.set_cons_zero, List.set_cons_succ, valsL_zero, valsL_succ]
  obtain ⟨ho8, HO⟩ := HO
  refine wpG_v ho8.out rfl ?_ ?_
  · simp only [valsL_zero, valsL_succ]; apply FY_in rfl; intro wx hx
    go_simp
    exact ⟨rfl, rfl⟩
  simp only [Act.put, List.setIfInBounds_toArray, List.set_cons_zero, List.set_cons_succ, valsL_zero, valsL_succ]
  obtain ⟨ho9, HO⟩ := HO
  refine wpG_v ho9.out rfl ?_ ?_
  · simp only [valsL_zero, valsL_succ]; apply FY_in rfl; intro wx hx
    go_simp
    exact ⟨rfl, rfl⟩
  simp only [Act.put, List.setIfInBounds_toArray, List.set_cons_zero, List.set_cons_succ, valsL_zero, valsL_succ]
  obtain ⟨ho10, HO⟩ := HO
  refine wpG_v ho10.out rfl ?_ ?_
  · simp only [valsL_zero, valsL_succ]; apply FY_in rfl; intro wx hx
    go_simp
    exact ⟨rfl, rfl⟩
  simp only [Act.put, List.setIfInBounds_toArray, List.set_cons_zero, List.set_cons_succ, valsL_zero, valsL_succ]
  obtain ⟨ho11, HO⟩ := HO
  refine wpG_v ho11.out rfl ?_ ?_
  · simp only [valsL_zero, valsL_succ]; apply FY_in rfl; intro wx hx
    have hc0 := sb_cell (hx.heap H8.out (fun h => h))
    have hc1 := sb_cell (hx.heap H3.out (fun h => h))
    go_simp
    exact ⟨rfl, rfl⟩
  simp only [Act.put, List.setIfInBounds_toArray, List.set_cons_zero, List.set_cons_succ, valsL_zero, valsL_succ]
  obtain ⟨ho12, HO⟩ := HO
  refine wpG_v ho12.out rfl ?_ ?_
  · simp only [valsL_zero, valsL_succ]; apply FY_in rfl; intro wx hx
    go_simp
    exact ⟨rfl, rfl⟩
  simp only [Act.put, List.setIfInBounds_toArray, List.set_cons_zero, List.set_cons_succ, valsL_zero, valsL_succ]
  refine HQ.out _ _ ?_
  intro w4 hf hE hN
  simp only [List.drop_succ_cons, List.drop_zero]
  clear HQ HO hE hN ho0 ho1 ho2 ho3 ho4 ho5 ho6 ho7 ho8 ho9 ho10 ho11 ho12
  have HF4 := hid (HF3.out.then0 hf)
  have H4 := hid (hf.heap H3.out (fun h => h))
  have HM4 := hid (hf.heap HM3.out (fun h => h))
  clear hf H8 H3 HM3 HF3
  have hp := sput_run (P := Tryz.prog) (T := 123) Tryz.underlying123 Tryz.underlying9 HM4.out K (.agg #[.string t, .int .i64 L])
  rw [HE.out] at hp
  have hpf := putO_frm w4 S (smapO (kvFrom 0 (vs ++ [(n, t)])))
  have h5 := hpf.heap H4.out HNE.out
  have c5 : (putO w4 S (smapO (kvFrom 0 (vs ++ [(n, t)])))).cell? ⟨s, 1, none⟩ = some (.int .i64 L) := sb_cell h5 1
  have HPF := hid hpf
  have H5 := hid h5
  clear hpf h5
  go_wp2_with fail
  clear hp
  rw [rounds_succ]
  go_wp2_with fail
  go_ret2
  refine ⟨by rw [HL.out]; rfl, ⟨by rw [HLEN.out]; exact H5.out, putO_at _ HM4.out, HNE.out⟩, ?_⟩
  exact (HF4.out.mono (fun _ _ e => .inl e)).same (HPF.out.mono (fun _ _ e => .inr e))
end Go.Proofs.YtmacpdddimcmgaaGreatDoor
namespace Go.Proofs
open Go.RowKit Go.Maps Go.Sort Go.Shelf
def Tryz.keys98_ren : Go.Shelf.Ren := ⟨fun | 7 => 98 | 10 => 149 | n => n, fun | 23 => 123 | 26 => 9 | 3 => 134 | 28 => 160 | 0 => 0 | 27 => 159 | 33 => 163 | 4 => 4 | n => n, fun | n => n⟩
theorem Tryz.keys98 : Go.Proofs.SlLaysZ.n7 Tryz.prog Tryz.keys98_ren := {
  mixed := by kernel_rfl
  f7 := ⟨Tryz.f98.name, by decide, Tryz.func98.trans (congrArg some (by kernel_rfl))⟩
  f10 := ⟨Tryz.f149.name, by decide, Tryz.func149.trans (congrArg some (by kernel_rfl))⟩
  t0 := Tryz.underlying0
  a0 := Tryz.isAgg0
  z0 := Tryz.sizeOf0
  v0 := Tryz.zeroValue0
  t4 := Tryz.underlying4
  a4 := Tryz.isAgg4
  z4 := Tryz.sizeOf4
  v4 := Tryz.zeroValue4
  t23 := Tryz.underlying123
  a23 := Tryz.isAgg123
  z23 := Tryz.sizeOf123
  v23 := Tryz.zeroValue123
  t26 := Tryz.underlying9
  a26 := Tryz.isAgg9
  z26 := Tryz.sizeOf9
  v26 := Tryz.zeroValue9
  t27 := Tryz.underlying159
  a27 := Tryz.isAgg159
  z27 := Tryz.sizeOf159
  v27 := Tryz.zeroValue159
  t28 := Tryz.underlying160
  a28 := Tryz.isAgg160
  z28 := Tryz.sizeOf160
  v28 := Tryz.zeroValue160
  t33 := Tryz.underlying163
  a33 := Tryz.isAgg163
  z33 := Tryz.sizeOf163
  v33 := Tryz.zeroValue163 }
def Tryz.sorted97_ren : Go.Shelf.Ren := ⟨fun | 6 => 97 | 8 => 147 | 9 => 148 | 11 => 173 | 13 => 72 | 12 => 174 | 23 => 115 | 24 => 116 | 14 => 182 | 15 => 183 | 16 => 184 | 17 => 185 | 18 => 186 | 19 => 187 | 20 => 188 | 21 => 189 | 22 => 190 | 25 => 191 | 26 => 155 | 27 => 156 | 28 => 192 | 29 => 193 | 30 => 194 | 31 => 195 | n => n, fun | 26 => 9 | 28 => 160 | 24 => 49 | 0 => 0 | 3 => 3 | 37 => 108 | 48 => 180 | 50 => 182 | 4 => 4 | 40 => 173 | 39 => 172 | 45 => 109 | 5 => 5 | 9 => 9 | 51 => 206 | 55 => 210 | 57 => 226 | 58 => 227 | 33 => 163 | n => n, fun | n => n⟩
theorem Tryz.sorted97 : Go.Proofs.SlLaysZ.n6 Tryz.prog Tryz.sorted97_ren := {
  mixed := by kernel_rfl
  f6 := ⟨Tryz.f97.name, by decide, Tryz.func97.trans (congrArg some (by kernel_rfl))⟩
  f8 := ⟨Tryz.f147.name, by decide, Tryz.func147.trans (congrArg some (by kernel_rfl))⟩
  f11 := ⟨Tryz.f173.name, by decide, Tryz.func173.trans (congrArg some (by kernel_rfl))⟩
  t0 := Tryz.underlying0
  a0 := Tryz.isAgg0
  z0 := Tryz.sizeOf0
  v0 := Tryz.zeroValue0
  t24 := Tryz.underlying49
  a24 := Tryz.isAgg49
  z24 := Tryz.sizeOf49
  v24 := Tryz.zeroValue49
  t26 := Tryz.underlying9
  a26 := Tryz.isAgg9
  z26 := Tryz.sizeOf9
  v26 := Tryz.zeroValue9
  t28 := Tryz.underlying160
  a28 := Tryz.isAgg160
  z28 := Tryz.sizeOf160
  v28 := Tryz.zeroValue160
  i26 := by kernel_rfl }
def Tryz.sort148_ren : Go.Shelf.Ren := ⟨fun | 6 => 148 | 8 => 72 | 9 => 174 | 19 => 115 | 20 => 116 | 21 => 182 | 22 => 183 | 23 => 184 | 24 => 185 | 25 => 186 | 26 => 187 | 27 => 188 | 28 => 189 | 29 => 190 | 36 => 191 | 31 => 155 | 32 => 156 | 37 => 192 | 38 => 193 | 39 => 194 | 41 => 195 | n => n, fun | 27 => 49 | 29 => 9 | 3 => 3 | 32 => 108 | 26 => 49 | 0 => 0 | 44 => 180 | 46 => 182 | 4 => 4 | 36 => 173 | 35 => 172 | 41 => 109 | 5 => 5 | 9 => 9 | 53 => 206 | 57 => 210 | 63 => 226 | 64 => 227 | n => n, fun | n => n⟩
theorem Tryz.sort148 : Go.Proofs.SlLaysM.n6 Tryz.prog Tryz.sort148_ren := {
  mixed := by kernel_rfl
  f6 := ⟨Tryz.f148.name, by decide, Tryz.func148.trans (congrArg some (by kernel_rfl))⟩
  f8 := Tryz.func72.trans (congrArg some (by kernel_rfl))
  f9 := ⟨Tryz.f174.name, by decide, Tryz.func174.trans (congrArg some (by kernel_rfl))⟩
  f19 := Tryz.func115.trans (congrArg some (by kernel_rfl))
  f20 := Tryz.func116.trans (congrArg some (by kernel_rfl))
  f21 := ⟨Tryz.f182.name, by decide, Tryz.func182.trans (congrArg some (by kernel_rfl))⟩
  f22 := ⟨Tryz.f183.name, by decide, Tryz.func183.trans (congrArg some (by kernel_rfl))⟩
  f23 := ⟨Tryz.f184.name, by decide, Tryz.func184.trans (congrArg some (by kernel_rfl))⟩
  f24 := ⟨Tryz.f185.name, by decide, Tryz.func185.trans (congrArg some (by kernel_rfl))⟩
  f25 := ⟨Tryz.f186.name, by decide, Tryz.func186.trans (congrArg some (by kernel_rfl))⟩
  f26 := ⟨Tryz.f187.name, by decide, Tryz.func187.trans (congrArg some (by kernel_rfl))⟩
  f27 := ⟨Tryz.f188.name, by decide, Tryz.func188.trans (congrArg some (by kernel_rfl))⟩
  f28 := ⟨Tryz.f189.name, by decide, Tryz.func189.trans (congrArg some (by kernel_rfl))⟩
  f29 := ⟨Tryz.f190.name, by decide, Tryz.func190.trans (congrArg some (by kernel_rfl))⟩
  f31 := Tryz.func155.trans (congrArg some (by kernel_rfl))
  f32 := Tryz.func156.trans (congrArg some (by kernel_rfl))
  f36 := ⟨Tryz.f191.name, by decide, Tryz.func191.trans (congrArg some (by kernel_rfl))⟩
  f37 := ⟨Tryz.f192.name, by decide, Tryz.func192.trans (congrArg some (by kernel_rfl))⟩
  f38 := ⟨Tryz.f193.name, by decide, Tryz.func193.trans (congrArg some (by kernel_rfl))⟩
  f39 := ⟨Tryz.f194.name, by decide, Tryz.func194.trans (congrArg some (by kernel_rfl))⟩
  f41 := ⟨Tryz.f195.name, by decide, Tryz.func195.trans (congrArg some (by kernel_rfl))⟩
  t0 := Tryz.underlying0
  a0 := Tryz.isAgg0
  z0 := Tryz.sizeOf0
  v0 := Tryz.zeroValue0
  t3 := Tryz.underlying3
  a3 := Tryz.isAgg3
  z3 := Tryz.sizeOf3
  v3 := Tryz.zeroValue3
  t4 := Tryz.underlying4
  a4 := Tryz.isAgg4
  z4 := Tryz.sizeOf4
  v4 := Tryz.zeroValue4
  t5 := Tryz.underlying5
  a5 := Tryz.isAgg5
  z5 := Tryz.sizeOf5
  v5 := Tryz.zeroValue5
  t9 := Tryz.underlying9
  a9 := Tryz.isAgg9
  z9 := Tryz.sizeOf9
  v9 := Tryz.zeroValue9
  t26 := Tryz.underlying49
  a26 := Tryz.isAgg49
  z26 := Tryz.sizeOf49
  v26 := Tryz.zeroValue49
  t27 := Tryz.underlying49
  a27 := Tryz.isAgg49
  z27 := Tryz.sizeOf49
  v27 := Tryz.zeroValue49
  t29 := Tryz.underlying9
  a29 := Tryz.isAgg9
  z29 := Tryz.sizeOf9
  v29 := Tryz.zeroValue9
  t32 := Tryz.underlying108
  a32 := Tryz.isAgg108
  z32 := Tryz.sizeOf108
  v32 := Tryz.zeroValue108
  t35 := Tryz.underlying172
  a35 := Tryz.isAgg172
  z35 := Tryz.sizeOf172
  v35 := Tryz.zeroValue172
  t36 := Tryz.underlying173
  a36 := Tryz.isAgg173
  z36 := Tryz.sizeOf173
  v36 := Tryz.zeroValue173
  t41 := Tryz.underlying109
  a41 := Tryz.isAgg109
  z41 := Tryz.sizeOf109
  v41 := Tryz.zeroValue109
  t44 := Tryz.underlying180
  a44 := Tryz.isAgg180
  z44 := Tryz.sizeOf180
  v44 := Tryz.zeroValue180
  t46 := Tryz.underlying182
  a46 := Tryz.isAgg182
  z46 := Tryz.sizeOf182
  v46 := Tryz.zeroValue182
  t53 := Tryz.underlying206
  a53 := Tryz.isAgg206
  z53 := Tryz.sizeOf206
  v53 := Tryz.zeroValue206
  t57 := Tryz.underlying210
  a57 := Tryz.isAgg210
  z57 := Tryz.sizeOf210
  v57 := Tryz.zeroValue210
  t63 := Tryz.underlying226
  a63 := Tryz.isAgg226
  z63 := Tryz.sizeOf226
  v63 := Tryz.zeroValue226
  t64 := Tryz.underlying227
  a64 := Tryz.isAgg227
  z64 := Tryz.sizeOf227
  v64 := Tryz.zeroValue227 }
set_option maxHeartbeats 1000000 in
theorem Tryz.sorts97 (m : Nat) : AnyZ.SortsIn Tryz.prog Tryz.sorted97_ren Fence.wide m :=
  ⟨fun blk off cap ss W hH hblk hsz => callsIn_wide.2 (AnyM.slices_Sort_string Tryz.sort148 blk off cap ss W hH hblk hsz),
   fun p cap W => callsIn_wide.2 (AnyM.slices_Sort_string_none Tryz.sort148 p cap W)⟩
set_option maxHeartbeats 1000000 in
theorem Tryz.maps_Keys_98 (mb : Option Nat) (W : World) : CallsIn Fence.wide 5 Tryz.prog 98 #[.map mb] W fun e w' => e = .returned (.func (.func 149) #[] #[.pointer (some ⟨W.heap.size, 0, none⟩)]) ∧ w' = W.alloc (.cells #[.map mb] 123) :=
  AnyZ.keys_in Tryz.keys98 Fence.wide 5 trivial rfl mb W
set_option maxHeartbeats 1000000 in
theorem Tryz.slices_Sorted_keys_97_98 {H : Type} (b nn : Nat) (D0 : DataW H) (R : Value → Option (DataW H × List MemPlace)) (w : World) (hown : w.ownsMap Tryz.prog 9 R b nn D0) (hmax : Maps.size D0 ≤ maxLen) (hbytes : Maps.size D0 * 16 ≤ 140737488355328) :
    CallsIn Fence.wide 5 Tryz.prog 97 #[.func (.func 149) #[] #[.pointer (some ⟨w.heap.size, 0, none⟩)]] (w.alloc (.cells #[.map (some b)] 123)) fun e w' => ∃ (v : Value) (ss : List (List UInt8)), e = .returned v ∧ ss.Perm (strKeys D0) ∧
      w'.ownsRow (w.alloc (.cells #[.map (some b)] 123)).heap.size 9 1 v ss.length ((ss.mergeSort (fun x y => decide (x ≤ y))).map encStr) ∧ (v = .slice none 0 0 ↔ ss = []) ∧ Below (w.alloc (.cells #[.map (some b)] 123)).heap.size (w.alloc (.cells #[.map (some b)] 123)) w' := by
  have hbl := hown.lt
  have hseq : SeqGives Fence.wide 2 Tryz.prog 149 #[.pointer (some ⟨w.heap.size, 0, none⟩)] encStr (fun ss => ss.Perm (strKeys D0)) (Maps.size D0) (w.alloc (.cells #[.map (some b)] 123)) :=
    AnyZ.keys_gives (ρ := Tryz.keys98_ren) { Tryz.keys98 with } Fence.wide _ trivial rfl (by omega) w.heap.size b nn D0 _ (by simp) (by simp) (by
      obtain ⟨es, clock, hb, Ft, hs, hD⟩ := hown
      exact ⟨es, clock, (Below.heap_alloc _ _ b hbl).trans hb, Ft, hs, hD⟩)
  exact AnyZ.sorted_in Tryz.sorted97 Fence.wide 5 trivial trivial trivial trivial rfl (by omega) (Tryz.sorts97 _) (enters_of Tryz.func148 (by kernel_rfl) rfl) 149 #[.pointer (some ⟨w.heap.size, 0, none⟩)] trivial (enters_of Tryz.func149 (by kernel_rfl) rfl) _ _ hmax hbytes _ hseq
end Go.Proofs
namespace Go.Proofs.YtmacpdddimcmgaaGreatDoor
set_option linter.unusedVariables false
set_option linter.unusedSimpArgs false
set_option maxRecDepth 20000
open Go.RowKit
def RT : Value → Option (DataW Unit × List MemPlace) := fun _ => some (.lit (.bool true), [])
theorem smap_born : ∀ (l : List (ByteArray × Value)) (i : Nat), (smap i l).map (·.born) = List.range' i l.length
  | [], _ => rfl
  | p :: l, i => by rw [smap, List.map_cons, smap_born l (i + 1), List.length_cons, List.range'_succ]
theorem smap_key : ∀ (l : List (ByteArray × Value)) (i : Nat), (smap i l).map (·.key) = l.map fun p => Value.string p.1
  | [], _ => rfl
  | p :: l, i => by rw [smap, List.map_cons, smap_key l (i + 1), List.map_cons]
theorem kv_keys : ∀ (l : List (Int × ByteArray)) (i : Nat), (kvFrom i l).map (·.1) = l.map fun x => str (Lib.itoa x.1)
  | [], _ => rfl
  | (n, t) :: l, i => by rw [kvFrom, List.map_cons, kv_keys l (i + 1), List.map_cons]
theorem strs_nodup : ∀ {vs : List (Int × ByteArray)}, (vs.map (·.1)).Nodup → vsOk vs → (vs.map fun x => str (Lib.itoa x.1)).Nodup
  | [], _, _ => List.nodup_nil
  | x :: l, hd, hr => by
    rw [List.map_cons, List.nodup_cons] at hd ⊢
    refine ⟨fun hm => hd.1 ?_, strs_nodup hd.2 (fun y hy => hr y (by simp [hy]))⟩
    obtain ⟨y, hy, he⟩ := List.mem_map.1 hm
    have := key_inj (hr y (by simp [hy])) (hr x (by simp)) he
    rw [← this]
    exact List.mem_map_of_mem hy
theorem rg_key {x : MapEntry} {s : ByteArray} (h : x.key = .string s) (hs : s.size ≤ maxLen) : Go.WideElems.rg Tryz.prog 9 RT x = (.string s.data.toList, .lit (.bool true)) := by
  unfold Go.WideElems.rg Go.WideElems.rd
  rw [h, Go.WideMaps.keyOf_string_mk Tryz.underlying9 hs]
  rfl
theorem own_sto {w : World} {S : Nat} {vs : List (Int × ByteArray)} (h : w.heap[S]? = some (smapO (kvFrom 0 vs))) (hn : (vs.map (·.1)).Nodup) (hr : vsOk vs) (hl : vs.length ≤ 64) :
    ∃ D : DataW Unit, w.ownsMap Tryz.prog 9 RT S vs.length D ∧ (strKeys D).Perm (vs.map fun x => Lib.itoa x.1) ∧ Maps.size D = vs.length := by
  have hsz : ∀ x ∈ smap 0 (kvFrom 0 vs), ∃ n : Int, i64R n ∧ x.key = .string (str (Lib.itoa n)) := by
    intro x hx
    have h1 : x.key ∈ (smap 0 (kvFrom 0 vs)).map (·.key) := List.mem_map_of_mem hx
    have h2 : (kvFrom 0 vs).map (fun p => Value.string p.1) = ((kvFrom 0 vs).map (·.1)).map Value.string := by rw [List.map_map]; rfl
    rw [smap_key, h2, kv_keys, List.map_map] at h1
    obtain ⟨y, hy, he⟩ := List.mem_map.1 h1
    exact ⟨y.1, hr y hy, he.symm⟩
  have hk : ∀ {n : Int}, i64R n → (str (Lib.itoa n)).size ≤ maxLen := fun {n} hh => by have := (itoa_size hh).2; unfold maxLen; omega
  have hlen : (smap 0 (kvFrom 0 vs)).length = vs.length := by rw [smap_len, kv_len]
  refine ⟨.map (((smap 0 (kvFrom 0 vs)).toArray.toList.map (Go.WideElems.rg Tryz.prog 9 RT)).foldr DataW.insert []), ⟨_, _, h, ⟨?_, ⟨?_, ?_, ?_⟩, ?_⟩, ?_, rfl⟩, ?_, ?_⟩
  · rw [List.size_toArray, hlen]; unfold maxLen; omega
  · intro x hx
    have h1 : x.born ∈ (smap 0 (kvFrom 0 vs)).map (·.born) := List.mem_map_of_mem hx
    rw [smap_born] at h1
    have := List.mem_range'.1 h1
    omega
  · show ((smap 0 (kvFrom 0 vs)).map (·.born)).Nodup
    rw [smap_born]
    exact List.nodup_range'
  · show ((smap 0 (kvFrom 0 vs)).map (·.key)).Nodup
    have h2 : (kvFrom 0 vs).map (fun p => Value.string p.1) = ((kvFrom 0 vs).map (·.1)).map Value.string := by rw [List.map_map]; rfl
    rw [smap_key, h2, kv_keys]
    refine List.Pairwise.map _ (fun a b hne e => hne ?_) (strs_nodup hn hr)
    exact Value.string.inj e
  · intro x hx
    obtain ⟨n, hn2, hkey⟩ := hsz x hx
    refine ⟨(.string (str (Lib.itoa n)).data.toList, .lit (.bool true)), ?_⟩
    unfold Go.WideElems.rd
    rw [hkey, Go.WideMaps.keyOf_string_mk Tryz.underlying9 (hk hn2)]
    rfl
  · rw [List.size_toArray, hlen]; exact Nat.le_refl _
  · show (List.map (fun p : Lit × DataW Unit => strOf p.1) _).Perm _
    refine ((Go.WideShapes.sorted_perm _).map _).trans ?_
    rw [List.map_map]
    have e : (smap 0 (kvFrom 0 vs)).map ((fun p : Lit × DataW Unit => strOf p.1) ∘ Go.WideElems.rg Tryz.prog 9 RT) = vs.map fun x => Lib.itoa x.1 := by
      have e1 : (smap 0 (kvFrom 0 vs)).map ((fun p : Lit × DataW Unit => strOf p.1) ∘ Go.WideElems.rg Tryz.prog 9 RT) = ((smap 0 (kvFrom 0 vs)).map (·.key)).map fun v => (match v with | .string s => s.data.toList | _ => []) := by
        rw [List.map_map]
        refine List.map_congr_left fun x hx => ?_
        obtain ⟨n, hn2, hkey⟩ := hsz x hx
        show strOf (Go.WideElems.rg Tryz.prog 9 RT x).1 = (match x.key with | .string s => s.data.toList | _ => [])
        rw [rg_key hkey (hk hn2), hkey]; rfl
      have h2 : (kvFrom 0 vs).map (fun p => Value.string p.1) = ((kvFrom 0 vs).map (·.1)).map Value.string := by rw [List.map_map]; rfl
      rw [e1, smap_key, h2, kv_keys, List.map_map, List.map_map]
      refine List.map_congr_left fun x hx => ?_
      rfl
    rw [e]
  · show (((smap 0 (kvFrom 0 vs)).toArray.toList.map (Go.WideElems.rg Tryz.prog 9 RT)).foldr DataW.insert []).length = _
    rw [(Go.WideShapes.sorted_perm _).length_eq, List.length_map, hlen]
set_option maxRecDepth 20000 in
set_option maxHeartbeats 4000000 in
theorem since1_calls (s S p2 p3 : Nat) (vs : List (Int × ByteArray)) (n : Int) (w : World) (h : StoAt w s S vs) (h2 : w.cell? ⟨p2, 0, none⟩ = some (.pointer (some ⟨s, 0, none⟩))) (h3 : w.cell? ⟨p3, 0, none⟩ = some (.int .i64 0)) (hn : i64R n) (hr : vsOk vs)
    (hm : n ∈ vs.map (·.1)) :
    Calls Tryz.prog 100 #[.string (str (Lib.itoa n)), .pointer (some ⟨p2, 0, none⟩), .pointer (some ⟨p3, 0, none⟩)] w fun x w' => x = .returned (.bool false) ∧ Frm M0 w w' := by
  have hpos : 0 < (kvE 0 vs n).2 := by
    rcases kvE_all hn vs hr with ⟨_, _, h0⟩ | ⟨_, h0, _⟩
    · exfalso
      obtain ⟨x, hx, he⟩ := List.mem_map.1 hm
      have := List.find?_eq_none.1 h0 x hx
      simp [he] at this
    · exact h0
  have HL : Hid (∀ wx : World, wx.heap[S]? = some (smapO (kvFrom 0 vs)) → (Instr.lookup 123 (.map (some S)) (.string (str (Lib.itoa n))) false).run Tryz.prog wx = .ok (.agg #[.string (kvE 0 vs n).1, .int .i64 (kvE 0 vs n).2]) wx) := hid fun wx hx => sto_lookup hx hn hr
  obtain ⟨K, hK⟩ : ∃ q, str (Lib.itoa n) = q := ⟨_, rfl⟩
  obtain ⟨E1, hE1⟩ : ∃ q, (kvE 0 vs n).1 = q := ⟨_, rfl⟩
  obtain ⟨E2, hE2⟩ : ∃ q, (kvE 0 vs n).2 = q := ⟨_, rfl⟩
  rw [hK, hE1, hE2] at HL
  rw [hE2] at hpos
  rw [hK]
  have HS := hid h
  have H2 := hid h2
  have H3 := hid h3
  have hle : ¬ E2 ≤ 0 := by omega
  clear h h2 h3 hn hr hm hK hE1 hE2 hpos
  go_enter Tryz.func100, Tryz.ntmps100
  go_upto_region 1 with fail
  apply wp_region_G 9 (fun _ => none) (valsL (_ :: _ :: _ :: _ :: _ :: _ :: _ :: _ :: _ :: [])) ?hm1 ?hB1 ?hal1 ?main1
  case hm1 => kernel_rfl
  case hB1 => kernel_rfl
  case hal1 =>
    intro i o obj ho hi
    cases hi
  rotate_left 9
  intro ops QT HO HQ
  obtain ⟨ho0, HO⟩ := HO
  refine wpG_v ho0.out rfl ?_ ?_
  · simp only [valsL_zero, valsL_succ]; apply FY_in rfl; intro wx hx
    have hc := hx.cell H2.out (fun h => h)
    go_simp
    exact ⟨rfl, rfl⟩
  simp only [Act.put, List.setIfInBounds_toArray, List.set_cons_zero, List.set_cons_succ, valsL_zero, valsL_succ]
  obtain ⟨ho1, HO⟩ := HO
  refine wpG_v ho1.out rfl ?_ ?_
  · simp only [valsL_zero, valsL_succ]; apply FY_in rfl; intro wx hx
    go_simp
    exact ⟨rfl, rfl⟩
  simp only [Act.put, List.setIfInBounds_toArray, List.set_cons_zero, List.set_cons_succ, valsL_zero, valsL_succ]
  obtain ⟨ho2, HO⟩ := HO
  refine wpG_v ho2.out rfl ?_ ?_
  · simp only [valsL_zero, valsL_succ]; apply FY_in rfl; intro wx hx
    go_simp
    exact ⟨rfl, rfl⟩
  simp only [Act.put, List.setIfInBounds_toArray, List.set_cons_zero, List.set_cons_succ, valsL_zero, valsL_succ]
  obtain ⟨ho3, HO⟩ := HO
  refine wpG_v ho3.out rfl ?_ ?_
  · simp only [valsL_zero, valsL_succ]; apply FY_in rfl; intro wx hx
    have hc := sb_cell (HS.out.frm0 hx).1 0
    go_simp
    exact ⟨rfl, rfl⟩
  simp only [Act.put, List.setIfInBounds_toArray, List.set_cons_zero, List.set_cons_succ, valsL_zero, valsL_succ]
  obtain ⟨ho4, HO⟩ := HO
  refine wpG_v ho4.out rfl ?_ ?_
  · simp only [valsL_zero, valsL_succ]; apply FY_in rfl; intro wx hx
    go_simp
    exact ⟨rfl, rfl⟩
  simp only [Act.put, List.setIfInBounds_toArray, List.set_cons_zero, List.set_cons_succ, valsL_zero, valsL_succ]
  obtain ⟨ho5, HO⟩ := HO
  refine wpG_v ho5.out rfl ?_ ?_
  · simp only [valsL_zero, valsL_succ]; apply FY_in rfl; intro wx hx
    have hl := HL.out wx (HS.out.frm0 hx).2.1
    go_simp
    exact ⟨rfl, rfl⟩
  simp only [Act.put, List.setIfInBounds_toArray, List.set_cons_zero, List.set_cons_succ, valsL_zero, valsL_succ]
  obtain ⟨ho6, HO⟩ := HO
  refine wpG_v ho6.out rfl ?_ ?_
  · simp only [valsL_zero, valsL_succ]; apply FY_in rfl; intro wx hx
    have hq := field_entry wx E1 E2
    go_simp
    exact ⟨rfl, rfl⟩
  simp only [Act.put, List.setIfInBounds_toArray, List.set_cons_zero, List.set_cons_succ, valsL_zero, valsL_succ]
  obtain ⟨ho7, HO⟩ := HO
  refine wpG_v ho7.out rfl ?_ ?_
  · simp only [valsL_zero, valsL_succ]; apply FY_in rfl; intro wx hx
    have hc := hx.cell H3.out (fun h => h)
    go_simp
    exact ⟨rfl, rfl⟩
  simp only [Act.put, List.setIfInBounds_toArray, List.set_cons_zero, List.set_cons_succ, valsL_zero, valsL_succ]
  obtain ⟨ho8, HO⟩ := HO
  refine wpG_v ho8.out rfl ?_ ?_
  · simp only [valsL_zero, valsL_succ]; apply FY_in rfl; intro wx hx
    go_simp
    exact ⟨rfl, rfl⟩
  simp only [Act.put, List.setIfInBounds_toArray, List.set_cons_zero, List.set_cons_succ, valsL_zero, valsL_succ]
  refine HQ.out _ _ ?_
  intro w1 hf hE hN
  simp only [List.drop_succ_cons, List.drop_zero]
  clear HQ HO hE hN ho0 ho1 ho2 ho3 ho4 ho5 ho6 ho7 ho8
  have HF := hid hf
  clear hf
  go_wp2_with fail
  go_ret
  exact ⟨rfl, HF.out⟩
set_option maxRecDepth 20000 in
set_option maxHeartbeats 4000000 in
theorem ixfunc_calls (p2 p3 : Nat) (v : Value) (l : List ByteArray) (w : World) (hv : Rd w 1 v l.length (strs l)) (hl : l.length ≤ 1000000)
    (hc : ∀ k ∈ l, ∀ wx, Frm M0 w wx → Calls Tryz.prog 100 #[.string k, .pointer (some ⟨p2, 0, none⟩), .pointer (some ⟨p3, 0, none⟩)] wx fun x w' => x = .returned (.bool false) ∧ Frm M0 wx w') :
    Calls Tryz.prog 150 #[v, fnv 100 #[.pointer (some ⟨p2, 0, none⟩), .pointer (some ⟨p3, 0, none⟩)]] w fun x w' => x = .returned (.int .i64 (-1)) ∧ Frm M0 w w' := by
  obtain ⟨a, c, rfl, hsh⟩ := hv.shape
  have HV := hid hv
  have HC := hid hc
  clear hv hc
  by_cases h0 : 0 < l.length
  case neg =>
    have e : l = [] := List.eq_nil_of_length_eq_zero (by omega)
    subst e
    clear h0 hsh
    go_enter Tryz.func150, Tryz.ntmps150
    go_wp2_with fail
    refine wp_loop_rounds 1 ?_
    rw [rounds_succ]
    go_wp2_with fail
    go_ret
    exact ⟨rfl, Frm.refl _ _⟩
  case pos =>
    obtain ⟨b, o, rfl⟩ := hsh h0
    clear h0 hsh
    go_enter Tryz.func150, Tryz.ntmps150
    go_wp2_with fail
    go_loopw [8] (fun i8 wr => ∃ k : Nat, k ≤ l.length ∧ i8 = .int .i64 k ∧ Hid (Frm M0 w wr)) (fun i _ => l.length - (intOf i).toNat)
    case atStart => exact ⟨0, Nat.zero_le _, rfl, hid (Frm.refl _ _)⟩
    case round =>
      obtain ⟨k, hk, rfl, HF⟩ := hrel
      by_cases hlt : k < l.length
      · have hcell := (HV.out.frm0 HF.out).strAt k hlt
        obtain ⟨x, hx⟩ : ∃ x, l[k] = x := ⟨_, rfl⟩
        rw [hx] at hcell
        have HX := hid (show x ∈ l by rw [← hx]; exact List.getElem_mem hlt)
        clear hx
        go_wp2_with fail
        refine (HC.out x HX.out _ HF.out).mono ?_
        rintro _ w2 ⟨rfl, hf⟩
        have HF2 := hid (HF.out.then0 hf)
        clear hf hcell
        go_wp2_with fail
        exact ⟨⟨k + 1, by omega, by go_num, HF2⟩, by simp [intOf]; omega⟩
      · go_wp2_with fail
        go_ret
        exact ⟨rfl, HF.out⟩
set_option maxRecDepth 20000 in
set_option maxHeartbeats 4000000 in
theorem delfunc_calls (p2 p3 : Nat) (v : Value) (l : List ByteArray) (w : World) (hv : Rd w 1 v l.length (strs l)) (hl : l.length ≤ 1000000)
    (hc : ∀ k ∈ l, ∀ wx, Frm M0 w wx → Calls Tryz.prog 100 #[.string k, .pointer (some ⟨p2, 0, none⟩), .pointer (some ⟨p3, 0, none⟩)] wx fun x w' => x = .returned (.bool false) ∧ Frm M0 wx w') :
    Calls Tryz.prog 99 #[v, fnv 100 #[.pointer (some ⟨p2, 0, none⟩), .pointer (some ⟨p3, 0, none⟩)]] w fun x w' => x = .returned v ∧ Frm M0 w w' := by
  have HI := hid (ixfunc_calls p2 p3 v l w hv hl hc)
  clear hv hl hc
  go_enter Tryz.func99, Tryz.ntmps99
  go_wp2_with fail
  refine HI.out.mono ?_
  rintro _ w1 ⟨rfl, hf⟩
  have HF := hid hf
  clear hf
  go_wp2_with fail
  go_ret
  exact ⟨rfl, HF.out⟩
theorem perm_map {α β : Type} {f : α → β} : ∀ {a : List α} {l : List β}, l.Perm (a.map f) → ∃ a' : List α, l = a'.map f ∧ a'.Perm a
  | a, l, h => by
    obtain ⟨l2, h1, h2⟩ : ∃ a' : List α, a'.Perm a ∧ a'.map f = l := by
      induction a generalizing l with
      | nil => exact ⟨[], List.Perm.refl _, (List.Perm.eq_nil h).symm⟩
      | cons x a ih =>
        have hm : f x ∈ l := h.mem_iff.2 (by simp)
        obtain ⟨l1, l2, rfl⟩ := List.append_of_mem hm
        have h2 : (l1 ++ l2).Perm (a.map f) := by
          have := (List.perm_middle (a := f x) (l₁ := l1) (l₂ := l2)).symm.trans h
          exact List.Perm.cons_inv this
        obtain ⟨a', hp, he⟩ := ih _ h2
        obtain ⟨b1, b2, rfl, e1, e2⟩ := List.map_eq_append_iff.1 he
        exact ⟨b1 ++ x :: b2, (List.perm_middle).trans (hp.cons x), by rw [List.map_append, List.map_cons, e1, e2]⟩
    exact ⟨l2, h2.symm, h1⟩
set_option maxRecDepth 20000 in
set_option maxHeartbeats 4000000 in
theorem since_calls (s S : Nat) (vs : List (Int × ByteArray)) (w : World) (h : StoAt w s S vs) (hr : vsOk vs) (hn : (vs.map (·.1)).Nodup) (hl : vs.length ≤ 64) :
    Calls Tryz.prog 68 #[.pointer (some ⟨s, 0, none⟩), .int .i64 0] w fun x w' => ∃ v, ∃ ns : List Int, x = .returned v ∧ w'.ownsRow w.heap.size 9 1 v ns.length (strs (ns.map fun n => str (Lib.itoa n))) ∧ ns.Perm (vs.map (·.1)) ∧ Frm M0 w w' := by
  have HS := hid h
  have HR := hid hr
  have HN := hid hn
  have HL := hid hl
  clear h hr hn hl
  go_enter Tryz.func68, Tryz.ntmps68
  have HF2 := hid (((Frm.refl M0 w).alloc (.cells #[.pointer (some ⟨s, 0, none⟩)] 73)).alloc (.cells #[.int .i64 0] 3))
  have HN2 := hid (new2 w (.cells #[.pointer (some ⟨s, 0, none⟩)] 73) (.cells #[.int .i64 0] 3))
  go_upto_region 1 with fail
  obtain ⟨p2, hp2⟩ : ∃ q, q = w.heap.size := ⟨_, rfl⟩
  obtain ⟨w2, hw2⟩ : ∃ q, q = (w.alloc (.cells #[.pointer (some ⟨s, 0, none⟩)] 73)).alloc (.cells #[.int .i64 0] 3) := ⟨_, rfl⟩
  rw [← hw2, ← hp2] at HN2
  rw [← hw2] at HF2
  rw [← hw2, ← hp2]
  clear hw2 hp2
  have HS2 := hid (HS.out.frm0 HF2.out)
  have c2 : w2.cell? ⟨p2, 0, none⟩ = some (.pointer (some ⟨s, 0, none⟩)) := sb_cell HN2.out.1 0
  have c0 : w2.cell? ⟨s, 0, none⟩ = some (.map (some S)) := sb_cell HS2.out.1 0
  go_wp2_with fail
  refine (callsIn_wide.1 (Tryz.maps_Keys_98 (some S) w2)).mono ?_
  rintro _ _ ⟨rfl, rfl⟩
  obtain ⟨D, hD, hDp, hDs⟩ := own_sto HS2.out.2.1 HN.out HR.out HL.out
  have HSO := hid (callsIn_wide.1 (Tryz.slices_Sorted_keys_97_98 S vs.length D RT w2 hD (by rw [hDs]; have := HL.out; unfold maxLen; omega) (by rw [hDs]; have := HL.out; omega)))
  have HDP := hid hDp
  clear hD hDs hDp c2 c0
  go_wp2_with fail
  refine HSO.out.mono ?_
  rintro _ w4 ⟨v, ss, rfl, hp, ho, -, hb⟩
  have hf : Frm M0 w2 w4 := ((Frm.refl M0 w2).alloc _).trans (Frm.ofBelow hb (fun k h1 h2 => by omega)) (fun _ _ h => h)
  have hms : (ss.mergeSort (fun x y => decide (x ≤ y))).Perm (vs.map fun x => Lib.itoa x.1) := ((List.mergeSort_perm ss _).trans hp).trans HDP.out
  obtain ⟨ns, hns, hnp⟩ : ∃ ns : List Int, ss.mergeSort (fun x y => decide (x ≤ y)) = ns.map Lib.itoa ∧ ns.Perm (vs.map (·.1)) := by
    have e : vs.map (fun x => Lib.itoa x.1) = (vs.map (·.1)).map Lib.itoa := by rw [List.map_map]; rfl
    rw [e] at hms
    exact perm_map hms
  have hlen : ss.length = ns.length := by rw [← List.length_mergeSort (le := fun x y => decide (x ≤ y)) ss, hns, List.length_map]
  have hst : (ss.mergeSort (fun x y => decide (x ≤ y))).map encStr = strs (ns.map fun n => str (Lib.itoa n)) := by
    rw [hns]
    show _ = (ns.map fun n => str (Lib.itoa n)).flatMap strCell
    rw [List.flatMap_map, List.map_map]
    exact (List.map_eq_flatMap ..)
  rw [hst, hlen] at ho
  have HO := hid ho
  have HNP := hid hnp
  have HF4 := hid (HF2.out.then0 hf)
  have HS4 := hid (HS2.out.frm0 hf)
  have H24 := hid (hf.cell (show w2.cell? ⟨p2, 0, none⟩ = some (.pointer (some ⟨s, 0, none⟩)) from sb_cell HN2.out.1 0) (fun h => h))
  have H34 := hid (hf.cell (show w2.cell? ⟨p2 + 1, 0, none⟩ = some (.int .i64 0) from sb_cell HN2.out.2 0) (fun h => h))
  have HZ4 := hid hf.size
  have hnl : ns.length = vs.length := by rw [hnp.length_eq, List.length_map]
  have HNL := hid hnl
  clear hms hns hst hlen ho hnp hf hb hp HSO HDP HN2 HS2 HS hnl
  go_wp2_with fail
  refine (delfunc_calls p2 (p2 + 1) v (ns.map fun n => str (Lib.itoa n)) w4 (by rw [List.length_map]; exact Rd.ofOwns HO.out) (by rw [List.length_map]; have := HNL.out; have := HL.out; omega) (fun k hk wx hx => by
    obtain ⟨n, hn, rfl⟩ := List.mem_map.1 hk
    have hm := HNP.out.mem_iff.1 hn
    refine since1_calls s S p2 (p2 + 1) vs n wx (HS4.out.frm0 hx) (hx.cell H24.out (fun h => h)) (hx.cell H34.out (fun h => h)) ?_ HR.out hm
    obtain ⟨y, hy, rfl⟩ := List.mem_map.1 hm
    exact HR.out y hy)).mono ?_
  rintro _ w5 ⟨rfl, hf⟩
  have HF5 := hid (HF4.out.then0 hf)
  have HO5 := hid (hf.owns HO.out (fun _ _ h => h))
  clear hf
  go_wp2_with fail
  go_ret
  exact ⟨v, ns, rfl, owns_base HO5.out (by have := HF2.out.size; simp; omega), HNP.out, HF5.out⟩
set_option maxRecDepth 20000 in
set_option maxHeartbeats 4000000 in
theorem keys_calls (s S : Nat) (vs : List (Int × ByteArray)) (w : World) (h : StoAt w s S vs) (hr : vsOk vs) (hn : (vs.map (·.1)).Nodup) (hl : vs.length ≤ 64) :
    Calls Tryz.prog 42 #[.pointer (some ⟨s, 0, none⟩)] w fun x w' => ∃ v, ∃ ns : List Int, x = .returned v ∧ w'.ownsRow w.heap.size 9 1 v ns.length (strs (ns.map fun n => str (Lib.itoa n))) ∧ ns.Perm (vs.map (·.1)) ∧ Frm M0 w w' := by
  have HC := hid (since_calls s S vs w h hr hn hl)
  clear h hr hn hl
  go_enter Tryz.func42, Tryz.ntmps42
  go_wp2_with fail
  refine HC.out.mono ?_
  rintro _ w1 ⟨v, ns, rfl, ho, hp, hf⟩
  have HO := hid ho
  have HP := hid hp
  have HF := hid hf
  clear ho hp hf
  go_wp2_with fail
  go_ret
  exact ⟨v, ns, rfl, HO.out, HP.out, HF.out⟩
set_option maxRecDepth 20000 in
set_option maxHeartbeats 4000000 in
theorem klen_calls (s S : Nat) (vs : List (Int × ByteArray)) (w : World) (h : StoAt w s S vs) (hr : vsOk vs) (hn : (vs.map (·.1)).Nodup) (hl : vs.length ≤ 64) :
    Calls Tryz.prog 128 #[.pointer (some ⟨s, 0, none⟩)] w fun x w' => x = .returned (.int .i64 vs.length) ∧ Frm M0 w w' := by
  have HC := hid (keys_calls s S vs w h hr hn hl)
  clear h hr hn hl
  go_enter Tryz.func128, Tryz.ntmps128
  go_wp2_with fail
  refine HC.out.mono ?_
  rintro _ w1 ⟨v, ns, rfl, ho, hp, hf⟩
  obtain ⟨a, c, rfl, -⟩ := (Rd.ofOwns ho).shape
  have HP := hid hp.length_eq
  have HF := hid hf
  clear ho hp hf
  go_wp2_with fail
  go_ret
  have e : vs.length = ns.length := by rw [HP.out, List.length_map]
  exact ⟨by rw [e]; rfl, HF.out⟩
end Go.Proofs.YtmacpdddimcmgaaGreatDoor
namespace Go.Proofs.YtmacpdddimcmgaaGreatDoor
set_option linter.unusedVariables false
set_option linter.unusedSimpArgs false
set_option maxRecDepth 20000
open Go.RowKit
set_option maxHeartbeats 1000000 in
theorem popen_calls (p : Int) (w : World) : Calls Tryz.prog 129 #[.int .i64 p] w fun x w' => x = .returned (.bool (openF p)) ∧ Frm M0 w w' := by
  obtain ⟨R, HR⟩ : ∃ R, Hid (openF p = R) := ⟨_, rfl⟩
  rw [HR.out]
  have HRR : Hid (R = true ↔ (p = 1 ∨ p = 2 ∨ p = 4)) := by
    show R = true ↔ _
    rw [← HR.out]
    simp [openF]
  clear HR
  go_enter Tryz.func129, Tryz.ntmps129
  go_wp2_with fail
  all_goals
    have hrr := HRR.out
    first
    | (have hR : R = true := hrr.2 (by simp_all)); subst hR; go_ret; exact ⟨rfl, Frm.refl _ _⟩
    | (have hR : R = (p == 1 || p == 2 || p == 4) := (by rw [Bool.eq_iff_iff, hrr]; simp [or_assoc])); subst hR; go_ret; exact ⟨rfl, Frm.refl _ _⟩
theorem pin_calls (p : Int) (w : World) : Calls Tryz.prog 178 #[.int .i64 p] w fun x w' => x = .returned (.bool (decide (0 ≤ p) && decide (p < 6))) ∧ Frm M0 w w' := by
  obtain ⟨R, HR⟩ : ∃ R, Hid ((decide (0 ≤ p) && decide (p < 6)) = R) := ⟨_, rfl⟩
  rw [HR.out]
  have HRR : Hid (R = true ↔ (0 ≤ p ∧ p < 6)) := by
    show R = true ↔ _
    rw [← HR.out]
    simp
  clear HR
  go_enter Tryz.func178, Tryz.ntmps178
  go_wp2_with fail
  all_goals
    have hrr := HRR.out
    first
    | (have hR : R = decide (p < 6) := (by rw [Bool.eq_iff_iff, hrr, decide_eq_true_eq]; omega)); subst hR; go_ret; exact ⟨rfl, Frm.refl _ _⟩
    | (have hR : R = false := (by cases R with | false => rfl | true => (have := hrr.1 rfl; omega))); subst hR; go_ret; exact ⟨rfl, Frm.refl _ _⟩
def phA : List Int := [1, -1, -1, -1, -1, -1, -1, -1, -1, -1, 2, -1, 1, 4, 4, 4, 3, -1, -1, -1, 1, -1, -1, -1, 4, -1, -1, 1, -1, -1, -1, -1, -1, -1, -1, -1, -1, -1, -1, -1, -1, -1, -1, -1, 5, 1, -1, -1, -1, -1, -1, -1, -1, -1]
theorem phA_fin : ∀ (p : Fin 6) (ev : Fin 9), phA[p.val * 9 + ev.val]? = some (phL p.val ev.val) := by decide +kernel
set_option maxRecDepth 20000 in
set_option maxHeartbeats 4000000 in
theorem plead_calls (p ev : Nat) (hp : p < 6) (he : ev < 9) (w : World) : Calls Tryz.prog 179 #[.int .i64 p, .int .i64 ev] w fun x w' => x = .returned (.int .i64 (phL p ev)) ∧ Frm M0 w w' := by
  have HA := hid (phA_fin ⟨p, hp⟩ ⟨ev, he⟩)
  obtain ⟨R, HR⟩ : ∃ R, Hid (phL p ev = R) := ⟨_, rfl⟩
  rw [HR.out]
  have HAA : Hid (phA[p * 9 + ev]? = some R) := by rw [← HR.out]; exact HA
  clear HA HR
  go_enter Tryz.func179, Tryz.ntmps179
  have HN := hid (new1 w (.cells #[.int .i64 0, .int .i64 0, .int .i64 0, .int .i64 0, .int .i64 0, .int .i64 0, .int .i64 0, .int .i64 0, .int .i64 0, .int .i64 0, .int .i64 0, .int .i64 0, .int .i64 0, .int .i64 0, .int .i64 0, .int .i64 0, .int .i64 0, .int .i64 0, .int .i64 0, .int .i64 0, .int .i64 0, .int .i64 0, .int .i64 0, .int .i64 0, .int .i64 0, .int .i64 0, .int .i64 0, .int .i64 0, .int .i64 0, .int .i64 0, .int .i64 0, .int .i64 0, .int .i64 0, .int .i64 0, .int .i64 0, .int .i64 0, .int .i64 0, .int .i64 0, .int .i64 0, .int .i64 0, .int .i64 0, .int .i64 0, .int .i64 0, .int .i64 0, .int .i64 0, .int .i64 0, .int .i64 0, .int .i64 0, .int .i64 0, .int .i64 0, .int .i64 0, .int .i64 0, .int .i64 0, .int .i64 0] 236))
  go_upto_region 2 with (refine wpList_store_row rfl 236 (.tmp 5) (.tmp 12) (by with_reducible rfl) w.heap.size #[.int .i64 1, .int .i64 (-1), .int .i64 (-1), .int .i64 (-1), .int .i64 (-1), .int .i64 (-1), .int .i64 (-1), .int .i64 (-1), .int .i64 (-1), .int .i64 (-1), .int .i64 2, .int .i64 (-1), .int .i64 1, .int .i64 4, .int .i64 4, .int .i64 4, .int .i64 3, .int .i64 (-1), .int .i64 (-1), .int .i64 (-1), .int .i64 1, .int .i64 (-1), .int .i64 (-1), .int .i64 (-1), .int .i64 4, .int .i64 (-1), .int .i64 (-1), .int .i64 1, .int .i64 (-1), .int .i64 (-1), .int .i64 (-1), .int .i64 (-1), .int .i64 (-1), .int .i64 (-1), .int .i64 (-1), .int .i64 (-1), .int .i64 (-1), .int .i64 (-1), .int .i64 (-1), .int .i64 (-1), .int .i64 (-1), .int .i64 (-1), .int .i64 (-1), .int .i64 (-1), .int .i64 5, .int .i64 1, .int .i64 (-1), .int .i64 (-1), .int .i64 (-1), .int .i64 (-1), .int .i64 (-1), .int .i64 (-1), .int .i64 (-1), .int .i64 (-1)] (by kernel_rfl) (by kernel_rfl) _ _ HN.out (by kernel_rfl) (by rfl) (by simp [Value.oneCell']) ?_)
  (obtain ⟨b5, hbb5⟩ : ∃ q, q = w.heap.size := ⟨_, rfl⟩); (obtain ⟨w1, hww1⟩ : ∃ q, q = (w.alloc (.cells #[.int .i64 0, .int .i64 0, .int .i64 0, .int .i64 0, .int .i64 0, .int .i64 0, .int .i64 0, .int .i64 0, .int .i64 0, .int .i64 0, .int .i64 0, .int .i64 0, .int .i64 0, .int .i64 0, .int .i64 0, .int .i64 0, .int .i64 0, .int .i64 0, .int .i64 0, .int .i64 0, .int .i64 0, .int .i64 0, .int .i64 0, .int .i64 0, .int .i64 0, .int .i64 0, .int .i64 0, .int .i64 0, .int .i64 0, .int .i64 0, .int .i64 0, .int .i64 0, .int .i64 0, .int .i64 0, .int .i64 0, .int .i64 0, .int .i64 0, .int .i64 0, .int .i64 0, .int .i64 0, .int .i64 0, .int .i64 0, .int .i64 0, .int .i64 0, .int .i64 0, .int .i64 0, .int .i64 0, .int .i64 0, .int .i64 0, .int .i64 0, .int .i64 0, .int .i64 0, .int .i64 0, .int .i64 0] 236)).setRow w.heap.size #[.int .i64 1, .int .i64 (-1), .int .i64 (-1), .int .i64 (-1), .int .i64 (-1), .int .i64 (-1), .int .i64 (-1), .int .i64 (-1), .int .i64 (-1), .int .i64 (-1), .int .i64 2, .int .i64 (-1), .int .i64 1, .int .i64 4, .int .i64 4, .int .i64 4, .int .i64 3, .int .i64 (-1), .int .i64 (-1), .int .i64 (-1), .int .i64 1, .int .i64 (-1), .int .i64 (-1), .int .i64 (-1), .int .i64 4, .int .i64 (-1), .int .i64 (-1), .int .i64 1, .int .i64 (-1), .int .i64 (-1), .int .i64 (-1), .int .i64 (-1), .int .i64 (-1), .int .i64 (-1), .int .i64 (-1), .int .i64 (-1), .int .i64 (-1), .int .i64 (-1), .int .i64 (-1), .int .i64 (-1), .int .i64 (-1), .int .i64 (-1), .int .i64 (-1), .int .i64 (-1), .int .i64 5, .int .i64 1, .int .i64 (-1), .int .i64 (-1), .int .i64 (-1), .int .i64 (-1), .int .i64 (-1), .int .i64 (-1), .int .i64 (-1), .int .i64 (-1)] := ⟨_, rfl⟩); have hn := setRow_heap _ w.heap.size _ #[.int .i64 1, .int .i64 (-1), .int .i64 (-1), .int .i64 (-1), .int .i64 (-1), .int .i64 (-1), .int .i64 (-1), .int .i64 (-1), .int .i64 (-1), .int .i64 (-1), .int .i64 2, .int .i64 (-1), .int .i64 1, .int .i64 4, .int .i64 4, .int .i64 4, .int .i64 3, .int .i64 (-1), .int .i64 (-1), .int .i64 (-1), .int .i64 1, .int .i64 (-1), .int .i64 (-1), .int .i64 (-1), .int .i64 4, .int .i64 (-1), .int .i64 (-1), .int .i64 1, .int .i64 (-1), .int .i64 (-1), .int .i64 (-1), .int .i64 (-1), .int .i64 (-1), .int .i64 (-1), .int .i64 (-1), .int .i64 (-1), .int .i64 (-1), .int .i64 (-1), .int .i64 (-1), .int .i64 (-1), .int .i64 (-1), .int .i64 (-1), .int .i64 (-1), .int .i64 (-1), .int .i64 5, .int .i64 1, .int .i64 (-1), .int .i64 (-1), .int .i64 (-1), .int .i64 (-1), .int .i64 (-1), .int .i64 (-1), .int .i64 (-1), .int .i64 (-1)] _ _ HN.out; have hf : Frm M0 w ((w.alloc (.cells #[.int .i64 0, .int .i64 0, .int .i64 0, .int .i64 0, .int .i64 0, .int .i64 0, .int .i64 0, .int .i64 0, .int .i64 0, .int .i64 0, .int .i64 0, .int .i64 0, .int .i64 0, .int .i64 0, .int .i64 0, .int .i64 0, .int .i64 0, .int .i64 0, .int .i64 0, .int .i64 0, .int .i64 0, .int .i64 0, .int .i64 0, .int .i64 0, .int .i64 0, .int .i64 0, .int .i64 0, .int .i64 0, .int .i64 0, .int .i64 0, .int .i64 0, .int .i64 0, .int .i64 0, .int .i64 0, .int .i64 0, .int .i64 0, .int .i64 0, .int .i64 0, .int .i64 0, .int .i64 0, .int .i64 0, .int .i64 0, .int .i64 0, .int .i64 0, .int .i64 0, .int .i64 0, .int .i64 0, .int .i64 0, .int .i64 0, .int .i64 0, .int .i64 0, .int .i64 0, .int .i64 0, .int .i64 0] 236)).setRow w.heap.size #[.int .i64 1, .int .i64 (-1), .int .i64 (-1), .int .i64 (-1), .int .i64 (-1), .int .i64 (-1), .int .i64 (-1), .int .i64 (-1), .int .i64 (-1), .int .i64 (-1), .int .i64 2, .int .i64 (-1), .int .i64 1, .int .i64 4, .int .i64 4, .int .i64 4, .int .i64 3, .int .i64 (-1), .int .i64 (-1), .int .i64 (-1), .int .i64 1, .int .i64 (-1), .int .i64 (-1), .int .i64 (-1), .int .i64 4, .int .i64 (-1), .int .i64 (-1), .int .i64 1, .int .i64 (-1), .int .i64 (-1), .int .i64 (-1), .int .i64 (-1), .int .i64 (-1), .int .i64 (-1), .int .i64 (-1), .int .i64 (-1), .int .i64 (-1), .int .i64 (-1), .int .i64 (-1), .int .i64 (-1), .int .i64 (-1), .int .i64 (-1), .int .i64 (-1), .int .i64 (-1), .int .i64 5, .int .i64 1, .int .i64 (-1), .int .i64 (-1), .int .i64 (-1), .int .i64 (-1), .int .i64 (-1), .int .i64 (-1), .int .i64 (-1), .int .i64 (-1)]) := ((Frm.refl M0 w).alloc _).setRow _ _ (Nat.le_refl _); rw [← hww1] at hn hf ⊢; rw [← hbb5] at hn ⊢; clear hww1
  have HF := hid hf
  have hc : w1.cell? ⟨b5, p * 9 + ev, none⟩ = some (.int .i64 R) := by
    rw [sb_cell hn]
    show ((phA.map (Value.int .i64)).toArray)[p * 9 + ev]? = _
    rw [List.getElem?_toArray, List.getElem?_map, HAA.out]; rfl
  clear hn hf HN HAA hbb5
  go_wp2_with fail
  go_ret
  exact ⟨rfl, HF.out⟩
set_option maxRecDepth 20000 in
set_option maxHeartbeats 4000000 in
theorem pnext_calls (p ev : Int) (w : World) : Calls Tryz.prog 165 #[.int .i64 p, .int .i64 ev] w fun x w' => x = .returned (.tuple #[.int .i64 (nextF p ev).1, .bool (nextF p ev).2]) ∧ Frm M0 w w' := by
  obtain ⟨N1, N2, HN⟩ : ∃ a b, Hid (nextF p ev = (a, b)) := ⟨_, _, rfl⟩
  rw [HN.out]
  simp only []
  by_cases hp : 0 ≤ p ∧ p < 6
  case neg =>
    have hd : (decide (0 ≤ p) && decide (p < 6)) = false := by
      rw [Bool.eq_false_iff]; intro h; simp at h; exact hp h
    have hn := HN.out
    unfold nextF at hn
    rw [if_neg (fun h => hp h.1)] at hn
    simp only [Prod.mk.injEq] at hn
    have HNN := hid hn
    have HD := hid hd
    clear HN hn hd hp
    go_enter Tryz.func165, Tryz.ntmps165
    go_wp2_with fail
    refine (pin_calls p _).mono ?_
    rintro _ w1 ⟨rfl, hf⟩
    rw [HD.out]
    have HF := hid hf
    clear hf
    go_wp2_with fail
    go_ret2
    rw [← HNN.out.1, ← HNN.out.2]
    exact ⟨rfl, HF.out⟩
  case pos =>
    have hd : (decide (0 ≤ p) && decide (p < 6)) = true := by simp; exact hp
    have HD := hid hd
    clear hd
    by_cases he : 0 ≤ ev ∧ ev < 9
    case neg =>
      have hn := HN.out
      unfold nextF at hn
      rw [if_neg (fun h => he h.2.1)] at hn
      simp only [Prod.mk.injEq] at hn
      have HNN := hid hn
      have HE := hid he
      clear HN hn hp he
      go_enter Tryz.func165, Tryz.ntmps165
      go_wp2_with fail
      refine (pin_calls p _).mono ?_
      rintro _ w1 ⟨rfl, hf⟩
      rw [HD.out]
      have HF := hid hf
      clear hf
      by_cases h0 : ev < 0
      · go_wp2_with fail
        go_ret2
        rw [← HNN.out.1, ← HNN.out.2]
        exact ⟨rfl, HF.out⟩
      · have h9 : (9 : Int) ≤ ev := by have := HE.out; omega
        go_wp2_with fail
        go_ret2
        rw [← HNN.out.1, ← HNN.out.2]
        exact ⟨rfl, HF.out⟩
    case pos =>
      obtain ⟨q, rfl⟩ : ∃ q : Nat, p = q := ⟨p.toNat, by omega⟩
      obtain ⟨k, rfl⟩ : ∃ k : Nat, ev = k := ⟨ev.toNat, by omega⟩
      have hq : q < 6 := by omega
      have hk : k < 9 := by omega
      have hn := HN.out
      unfold nextF at hn
      obtain ⟨R, hR⟩ : ∃ R, phL q k = R := ⟨_, rfl⟩
      rw [hR] at hn
      have HR := hid hR
      have HNN : Hid ((R = -1 → N1 = q ∧ N2 = false) ∧ (R ≠ -1 → N1 = R ∧ N2 = true)) := by
        refine hid (And.intro (fun h => ?_) (fun h => ?_))
        · rw [if_neg (fun hh => hh.2.2 h)] at hn
          simp only [Prod.mk.injEq] at hn
          exact ⟨hn.1.symm, hn.2.symm⟩
        · rw [if_pos ⟨hp, he, h⟩] at hn
          simp only [Prod.mk.injEq] at hn
          exact ⟨hn.1.symm, hn.2.symm⟩
      have h1 : ¬ (k : Int) < 0 := by omega
      have h2 : ¬ (9 : Int) ≤ k := by omega
      have HQ := hid (And.intro hq hk)
      clear HN hn hp he hR hq hk
      go_enter Tryz.func165, Tryz.ntmps165
      go_wp2_with fail
      refine (pin_calls q _).mono ?_
      rintro _ w1 ⟨rfl, hf⟩
      rw [HD.out]
      have HF := hid hf
      clear hf
      go_wp2_with fail
      refine (plead_calls q k HQ.out.1 HQ.out.2 _).mono ?_
      rintro _ w2 ⟨rfl, hf⟩
      rw [HR.out]
      have HF2 := hid (HF.out.then0 hf)
      clear hf
      by_cases hm : R = -1
      · obtain ⟨rfl, rfl⟩ := HNN.out.1 hm
        subst hm
        clear HNN
        go_wp2_with fail
        go_ret2
        exact ⟨rfl, HF2.out⟩
      · obtain ⟨rfl, rfl⟩ := HNN.out.2 hm
        have hm' : (N1 == -1) = false := by simpa using hm
        clear HNN hm
        go_wp2_with fail
        go_ret2
        exact ⟨rfl, HF2.out⟩
theorem pwords_calls (w : World) : Calls Tryz.prog 163 #[] w fun e w' => ∃ b, e = .returned (.slice (some ⟨b, 0, none⟩) 9 9) ∧ Rd w' 1 (.slice (some ⟨b, 0, none⟩) 9 9) 9 (strs evL) ∧ Frm M0 w w' := by
  have HR := hid (rd_new w evL)
  go_enter Tryz.func163, Tryz.ntmps163
  go_wp2_with fail
  go_ret
  exact ⟨w.heap.size, rfl, HR.out, (Frm.refl M0 w).alloc _⟩
attribute [-go_sem] run_max_int2 run_min_int2 in
attribute [local go_sem] run_mn2 run_mx2 in
theorem pof_calls (t : ByteArray) (w : World) : Calls Tryz.prog 130 #[.string t] w fun x w' => x = .returned (.tuple #[.int .i64 (ofF t).1, .bool (ofF t).2]) ∧ Frm M0 w w' := by
  have HE : Hid (ofF t = (max (Lib.idxOfS evL t) 0, decide (0 ≤ Lib.idxOfS evL t))) := rfl
  go_enter Tryz.func130, Tryz.ntmps130
  go_wp2_with fail
  refine (pwords_calls _).mono ?_
  rintro _ w1 ⟨b, rfl, hr, hf⟩
  have HF := hid hf
  clear hf
  go_wp2_with fail
  refine (sindex_calls _ evL t _ hr (by decide)).mono ?_
  rintro _ w2 ⟨rfl, rfl⟩
  clear hr
  obtain ⟨i, hi⟩ : ∃ i, i = Lib.idxOfS evL t := ⟨_, rfl⟩
  rw [← hi] at HE ⊢
  clear hi
  go_wp2_with fail
  go_ret2
  exact ⟨by rw [HE.out]; rfl, HF.out⟩
def betw (f t : Int) (k : Nat) : List Int := ((List.range k).map Int.ofNat).filter fun ev => decide (nextF f ev = (t, true))
theorem betw_succ (f t : Int) (k : Nat) : betw f t (k + 1) = if nextF f k = (t, true) then betw f t k ++ [(k : Int)] else betw f t k := by
  unfold betw
  rw [List.range_succ, List.map_append, List.filter_append]
  by_cases h : nextF f k = (t, true)
  · rw [if_pos h]
    have : decide (nextF f (Int.ofNat k) = (t, true)) = true := decide_eq_true h
    simp only [List.map_cons, List.map_nil, List.filter_cons, List.filter_nil, this, if_true]
    rfl
  · rw [if_neg h]
    have : decide (nextF f (Int.ofNat k) = (t, true)) = false := decide_eq_false h
    simp only [List.map_cons, List.map_nil, List.filter_cons, List.filter_nil, this]
    simp
theorem betw_len (f t : Int) (k : Nat) : (betw f t k).length ≤ k := by
  unfold betw
  refine Nat.le_trans (List.length_filter_le _ _) ?_
  simp
set_option maxRecDepth 20000 in
set_option maxHeartbeats 4000000 in
theorem pbetween_calls (f t : Int) (w : World) : Calls Tryz.prog 132 #[.int .i64 f, .int .i64 t] w fun x w' => ∃ v, x = .returned v ∧ w'.ownsRow w.heap.size 3 1 v (betweenF f t).length (ints .i64 (betweenF f t)) ∧ Frm M0 w w' := by
  have HE : Hid (betweenF f t = betw f t 9) := rfl
  rw [HE.out]
  go_enter Tryz.func132, Tryz.ntmps132
  go_wp2_with fail
  go_loopw [5, 9] (fun v5 i9 wr => ∃ k : Nat, k ≤ 9 ∧ i9 = .int .i64 k ∧ Hid (wr.ownsRow w.heap.size 3 1 v5 (betw f t k).length (ints .i64 (betw f t k))) ∧ Hid (Frm M0 w wr)) (fun _ i _ => 9 - (intOf i).toNat)
  case atStart => exact ⟨0, by omega, rfl, hid (World.ownsRow_nil _ _ _ _), hid (Frm.refl _ _)⟩
  case round =>
    obtain ⟨k, hk, rfl, HO, HF⟩ := hrel
    by_cases hlt : k < 9
    · go_wp2_with fail
      refine (pnext_calls f k _).mono ?_
      rintro _ w2 ⟨rfl, hf⟩
      have HO2 := hid (hf.owns HO.out (fun _ _ h => h))
      have HF2 := hid (HF.out.then0 hf)
      clear hf HO HF
      obtain ⟨N1, N2, hN⟩ : ∃ a b, nextF f k = (a, b) := ⟨_, _, rfl⟩
      have HS := hid (betw_succ f t k)
      rw [hN] at HS ⊢
      clear hN
      simp only []
      have HLN := hid (betw_len f t k)
      cases N2 with
      | false =>
        have HS2 : Hid (betw f t (k + 1) = betw f t k) := by
          show betw f t (k + 1) = betw f t k
          rw [HS.out, if_neg (by intro h; simp at h)]
        go_wp2_with fail
        exact ⟨⟨k + 1, by omega, by go_num, hid (by rw [HS2.out]; exact HO2.out), HF2⟩, by simp [intOf]; omega⟩
      | true =>
        by_cases h1 : N1 = t
        · have HS2 : Hid (betw f t (k + 1) = betw f t k ++ [(k : Int)]) := by
            show betw f t (k + 1) = _
            rw [HS.out, if_pos (by rw [h1])]
          subst h1
          go_wp2_with (at_builtin; refine wpList_push_int rfl (.tmp 24) (.tmp 26) 47 rfl w.heap.size 3 .i64 8 Tryz.underlying47 infoI _ (betw f N1 k) k rfl HO2.out rfl (by have := HLN.out; unfold maxLen; omega) (by have := HLN.out; omega) HF2.out.size ?_; intro v3 w3 ho3 hg3; have HO3 := hid ho3; have HG3 := hid hg3; clear ho3 hg3)
          exact ⟨⟨k + 1, by omega, by go_num, hid (by rw [HS2.out]; exact HO3.out), hid (HF2.out.grown HG3.out (fun j hj hlt' => absurd (HO2.out.lt j hj).1 (by omega)))⟩, by simp [intOf]; omega⟩
        · have HS2 : Hid (betw f t (k + 1) = betw f t k) := by
            show betw f t (k + 1) = betw f t k
            rw [HS.out, if_neg (by intro h; simp at h; exact h1 h)]
          have h1' : (N1 == t) = false := by simpa using h1
          clear h1
          go_wp2_with fail
          exact ⟨⟨k + 1, by omega, by go_num, hid (by rw [HS2.out]; exact HO2.out), HF2⟩, by simp [intOf]; omega⟩
    · obtain rfl : k = 9 := by omega
      go_wp2_with fail
      go_ret
      exact ⟨_, rfl, HO.out, HF.out⟩
theorem icontains_calls (v : Value) (l : List Int) (x : Int) (w : World) (h : Rd w 1 v l.length (ints .i64 l)) (hl : l.length ≤ 1000000) :
    Calls Tryz.prog 131 #[v, .int .i64 x] w fun e w' => e = .returned (.bool (decide (x ∈ l))) ∧ w = w' := by
  obtain ⟨a, c, rfl, hsh⟩ := h.shape
  by_cases h0 : 0 < l.length
  · obtain ⟨b, o, rfl⟩ := hsh h0
    have := Tryz.slices_Contains_int b o l.length c l x w (Nat.le_refl _) (by omega) (h.cellsOf)
    rw [List.take_length] at this
    refine this.mono fun e w' h => ⟨h.1.trans ?_, h.2.symm⟩
    congr 2
    rw [Bool.eq_iff_iff, decide_eq_true_eq, List.contains_iff_mem]
  · have e : l = [] := List.eq_nil_of_length_eq_zero (by omega)
    subst e
    exact (Tryz.slices_Contains_int_empty a c x w).mono fun e w' h => ⟨h.1.trans (by simp), h.2.symm⟩
end Go.Proofs.YtmacpdddimcmgaaGreatDoor
namespace Go.Proofs.YtmacpdddimcmgaaGreatDoor
set_option linter.unusedVariables false
set_option linter.unusedSimpArgs false
set_option maxRecDepth 20000
open Go.RowKit
def Ow (w : World) (e : TypeId) (size : Nat) (v : Value) (n : Nat) (xs : List Value) : Prop :=
  xs.length = n * size ∧ ((v = .slice none 0 0 ∧ n = 0) ∨
    ∃ g o cap cur, v = .slice (some ⟨g, o, none⟩) n cap ∧ w.heap[g]? = some (.cells cur e (0, 0)) ∧ n ≤ cap ∧ cap ≤ maxLen ∧ o + cap * size ≤ cur.size ∧ ∀ j u, xs[j]? = some u → cur[o + j]? = some u)
section
variable {w w' : World} {e : TypeId} {size n : Nat} {v : Value} {xs : List Value}
theorem Ow.nil (w : World) (e : TypeId) (size : Nat) : Ow w e size (.slice none 0 0) 0 [] := ⟨by simp, .inl ⟨rfl, rfl⟩⟩
theorem Ow.ofOwns {base : Nat} (h : w.ownsRow base e size v n xs) : Ow w e size v n xs := by
  refine ⟨h.1, ?_⟩
  rcases h.2 with h2 | ⟨g, cap, cur, hv, hg, hh, h1, h3, h4, h5⟩
  · exact .inl h2
  · refine .inr ⟨g, 0, cap, cur, hv, hh, h1, h3, by omega, fun j u hu => ?_⟩
    rw [← h5, List.getElem?_take] at hu
    split at hu
    · rw [Nat.zero_add, ← hu, Array.getElem?_toList]
    · cases hu
theorem Ow.rd (h : Ow w e size v n xs) : Rd w size v n xs := by
  refine ⟨h.1, ?_⟩
  rcases h.2 with h2 | ⟨g, o, cap, cur, hv, hh, h1, h3, h4, h5⟩
  · exact .inl h2
  · refine .inr ⟨_, cap, hv, h1, h3, fun j u hu => ?_⟩
    rw [add_none]
    exact (sb_cell hh _).trans (h5 j u hu)
theorem Ow.frm {M : Nat → Prop} (h : Ow w e size v n xs) (hf : Frm M w w') (hn : ∀ k, v.ownBlock = some k → ¬ M k) : Ow w' e size v n xs := by
  refine ⟨h.1, ?_⟩
  rcases h.2 with h2 | ⟨g, o, cap, cur, hv, hh, r⟩
  · exact .inl h2
  · exact .inr ⟨g, o, cap, cur, hv, hf.heap hh (hn g (by rw [hv]; rfl)), r⟩
theorem Ow.lt (h : Ow w e size v n xs) : ∀ k, v.ownBlock = some k → k < w.heap.size := by
  intro k hk
  rcases h.2 with ⟨rfl, _⟩ | ⟨g, o, cap, cur, rfl, hh, _⟩
  · cases hk
  · cases hk
    exact (Array.getElem?_eq_some_iff.1 hh).1
end
section
variable {P : Program} {w : World} {e : TypeId} {size n : Nat} {v : Value} {xs : List Value}
theorem ow_of_room {o : Nat} {cur : Array Value} {news : List Value} {m cap g : Nat} (hh : w.heap[g]? = some (.cells cur e (0, 0))) (hx : xs.length = n * size) (hl : news.length = m * size)
    (hcap : n + m ≤ cap) (hm : cap ≤ maxLen) (hfit : o + cap * size ≤ cur.size) (hc : ∀ j u, xs[j]? = some u → cur[o + j]? = some u) :
    Ow (w.setRow g (cur.toList.take (o + n * size) ++ news ++ cur.toList.drop (o + n * size + news.length)).toArray) e size (.slice (some ⟨g, o, none⟩) (n + m) cap) (n + m) (xs ++ news) := by
  have h1 : (n + m) * size ≤ cap * size := Nat.mul_le_mul_right _ hcap
  have h2 : (n + m) * size = n * size + m * size := Nat.add_mul _ _ _
  have hlt : (cur.toList.take (o + n * size)).length = o + n * size := by rw [List.length_take, Array.length_toList]; omega
  refine ⟨by rw [List.length_append, hx, hl, h2], .inr ⟨g, o, cap, _, rfl, setRow_heap w g cur _ e _ hh, hcap, hm, ?_, fun j u hu => ?_⟩⟩
  · simp only [List.size_toArray, List.length_append, List.length_take, List.length_drop, Array.length_toList]
    omega
  · rw [List.getElem?_toArray, List.append_assoc]
    by_cases hj : j < xs.length
    · rw [List.getElem?_append_left hj] at hu
      rw [List.getElem?_append_left (by rw [hlt]; omega), List.getElem?_take, if_pos (by omega), Array.getElem?_toList]
      exact hc j u hu
    · rw [List.getElem?_append_right (by omega)] at hu
      rw [List.getElem?_append_right (by rw [hlt]; omega), hlt, List.getElem?_append_left (by have := (List.getElem?_eq_some_iff.1 hu).1; omega)]
      rw [← hu]
      congr 1
      omega
theorem run_append_ow (t ty : TypeId) (i : TypeInfo) (z : Value) (bytes : Nat) (ht : P.underlying t = some (.slice e)) (hi : P.info? e = some i) (hz : i.zero = some z)
    (hsize : i.size = size) (hby : i.bytes = bytes) (hzs : z.cells.size = size) (hsz : 0 < size) (how : Ow w e size v n xs)
    (a : Addr) (m c : Nat) (news : List Value) (hl : news.length = m * size) (hnews : ∀ j u, news[j]? = some u → w.cell? (a.add j) = some u) (h1 : ∀ u ∈ news, u.oneCell' = true)
    (h63 : n + m ≤ maxLen) (hbytes : (n + m) * bytes ≤ 140737488355328) :
    ∃ v' w', (Builtin.append_ #[t, t] ty #[v, .slice (some a) m c]).run P w = .ok v' w' ∧ Ow w' e size v' (n + m) (xs ++ news) ∧ w.grownBy w' v.ownBlock ∧ (∀ k, v'.ownBlock = some k → v.ownBlock = some k ∨ w.heap.size ≤ k) := by
  rcases how.2 with ⟨rfl, rfl⟩ | ⟨g, o, cap, cur, rfl, hh, h3, h4, h5, h6⟩
  · have hx : xs = [] := List.eq_nil_of_length_eq_zero (by simpa using how.1)
    subst hx
    obtain ⟨v', w', hr, ho, hg, _⟩ := run_append_own (P := P) w w.heap.size t ty e i z size bytes ht hi hz hsize hby hzs hsz (.slice none 0 0) 0 [] (World.ownsRow_nil w _ e size) a m c news hl hnews h1 h63 hbytes (Nat.le_refl _)
    exact ⟨v', w', hr, Ow.ofOwns ho, hg, fun k hk => .inr (ho.lt k hk).1⟩
  · by_cases hroom : n + m ≤ cap
    · subst hsize
      have hf := run_firstCells_some (P := P) w i.size m a m c news hl hnews
      have hcm : (n + m) * i.size ≤ cap * i.size := Nat.mul_le_mul_right _ hroom
      rw [Nat.add_mul] at hcm
      have hst := run_storeCells_at P g (o + n * i.size) e news 0 cur w hh (by omega) h1
      simp only [Nat.add_zero] at hst
      refine ⟨_, _, ?_, ow_of_room (n := n) hh how.1 hl hroom h4 h5 h6, ⟨rfl, rfl, rfl, by simp, fun k hk hne => setRow_other w g k _ (fun e => hne (by simp [Value.ownBlock, e]))⟩, fun k hk => .inl hk⟩
      simp [Builtin.append_, run_underlying ht, sizeOf, typeInfo, hi, Builtin.lenOf, hroom, hf, Addr.add_lit, hst]
    · obtain ⟨v', w', hrun, r1, r2⟩ := run_append_arg_grows (P := P) w t ty e i z size bytes ht hi hz hsize hby hzs hsz ⟨g, o, none⟩ n cap xs how.1 (fun j u hj => by rw [Addr.add_lit]; exact (sb_cell hh _).trans (h6 j u hj)) a m c news hl hnews (by omega) h63 hbytes
      exact ⟨v', w', hrun, Ow.ofOwns r1, ⟨r2.os, r2.tape, r2.output, r2.size, fun k hk _ => r2.block k hk (by simp)⟩, fun k hk => .inr (r1.lt k hk).1⟩
end
theorem Ow.cut {α : Type} {enc : α → List Value} {sz : Nat} (he : ∀ a, (enc a).length = sz) {w : World} {e : TypeId} {g o n c : Nat} {l : List α} (h : Ow w e sz (.slice (some ⟨g, o, none⟩) n c) l.length (l.flatMap enc)) (i : Nat) (hi : i ≤ l.length) :
    Ow w e sz (.slice (some ⟨g, o + i * sz, none⟩) (l.length - i) (c - i)) (l.drop i).length ((l.drop i).flatMap enc) := by
  rcases h.2 with ⟨h2, h0⟩ | ⟨g', o', cap, cur, h2, h3, h4, h5, h6, h7⟩
  · cases h2
  · simp only [Value.slice.injEq, Option.some.injEq, Addr.mk.injEq, and_true] at h2
    obtain ⟨⟨rfl, rfl⟩, rfl, rfl⟩ := h2
    have hm : (c - i) * sz + i * sz = c * sz := by rw [← Nat.add_mul]; congr 1; omega
    refine ⟨els_len he _, .inr ⟨g, o + i * sz, c - i, cur, by rw [List.length_drop], h3, by rw [List.length_drop]; omega, by omega, by omega, fun j u hu => ?_⟩⟩
    rw [Nat.add_assoc]
    refine h7 (i * sz + j) u ?_
    rw [← els_drop he, List.getElem?_drop] at hu
    exact hu
end Go.Proofs.YtmacpdddimcmgaaGreatDoor
namespace Go.Proofs.YtmacpdddimcmgaaGreatDoor
set_option linter.unusedVariables false
set_option linter.unusedSimpArgs false
set_option maxRecDepth 20000
open Go.RowKit
def updV (E : Nat → Value) (i : Nat) (v : Value) : Nat → Value := fun j => if j = i then v else E j
def WUpon (P : Program) (K : Value → World → Prop) : Result Next → Prop
  | .ok (.value u) w' => K u w'
  | .ok .skip w' => K undef w'
  | .ok (.enter f args) w' => Calls P f args w' (fun e w'' => ∃ u, e = .returned u ∧ K u w'')
  | _ => False
def FI (P : Program) (ops : Array Oper) (Inv : World → Prop) (o : Oper) (v : Value) (a : Act) : Prop :=
  (Region.wanted o (yielded ops a.tmps) = true ∧ ∀ w, Inv w → FUpon P w v ((execOp a.eval o).run P w)) ∨ (Region.wanted o (yielded ops a.tmps) = false ∧ v = undef)
def FW (P : Program) (ops : Array Oper) (G : Nat → Value → Prop) (J : Nat → (Nat → Value) → World → Prop) (i c : Nat) (o : Oper) (a : Act) (E : Nat → Value) : Prop :=
  Region.wanted o (yielded ops a.tmps) = true ∧ ∀ w, J c E w → WUpon P (fun u w' => G i u ∧ J (c + 1) (updV E i u) w') ((execOp a.eval o).run P w)
section
variable {P : Program} {ops : Array Oper} {Inv : World → Prop} {G : Nat → Value → Prop} {J : Nat → (Nat → Value) → World → Prop} {o : Oper} {v u : Value} {a a' : Act} {d : Option Tmp} {i c : Nat} {E : Nat → Value}
theorem FI.same (h : FI P ops Inv o v a) (he : execOp a'.eval o = execOp a.eval o) (hw : Region.wanted o (yielded ops a'.tmps) = Region.wanted o (yielded ops a.tmps)) : FI P ops Inv o v a' := by
  unfold FI at *; rw [he, hw]; exact h
theorem FI.put (hs : ∀ cs b, o.op ≠ .select cs b) (h : FI P ops Inv o v a) (hd : ∀ x, d = some x → x ∉ o.looksAt ops) : FI P ops Inv o v (a.put d u) :=
  h.same (execOp_put o hs a d u hd) (wanted_put o a d u hd)
theorem FI.unput (hs : ∀ cs b, o.op ≠ .select cs b) (h : FI P ops Inv o v (a.put d u)) (hd : ∀ x, d = some x → x ∉ o.looksAt ops) : FI P ops Inv o v a :=
  h.same (execOp_put o hs a d u hd).symm (wanted_put o a d u hd).symm
theorem FW.same (h : FW P ops G J i c o a E) (he : execOp a'.eval o = execOp a.eval o) (hw : Region.wanted o (yielded ops a'.tmps) = Region.wanted o (yielded ops a.tmps)) : FW P ops G J i c o a' E := by
  unfold FW at *; rw [he, hw]; exact h
theorem FW.put (hs : ∀ cs b, o.op ≠ .select cs b) (h : FW P ops G J i c o a E) (hd : ∀ x, d = some x → x ∉ o.looksAt ops) : FW P ops G J i c o (a.put d u) E :=
  h.same (execOp_put o hs a d u hd) (wanted_put o a d u hd)
theorem FW.unput (hs : ∀ cs b, o.op ≠ .select cs b) (h : FW P ops G J i c o (a.put d u) E) (hd : ∀ x, d = some x → x ∉ o.looksAt ops) : FW P ops G J i c o a E :=
  h.same (execOp_put o hs a d u hd).symm (wanted_put o a d u hd).symm
theorem FI.wp {w : World} {K : Act → World → Prop} {Q : Exit → Act → World → Prop} (hy : FI P ops Inv o v a) (hi : ops[i]? = some o) (hF : Inv w) (h : ∀ w', Frm M0 w w' → K (a.put o.dst v) w') :
    wpOp P ops Q i K a w := by
  unfold wpOp
  simp only [hi]
  rcases hy with ⟨hw, hv⟩ | ⟨hw, rfl⟩
  · simp only [hw, if_true]
    refine .inl ?_
    have h3 := hv w hF
    unfold Oper.wp
    generalize (execOp a.eval o).run P w = r at *
    cases r with
    | ok m w' =>
      cases m <;> simp only [FUpon] at h3 <;> simp only [Oper.upon]
      case value u =>
        obtain ⟨rfl, rfl⟩ := h3
        exact h _ (Frm.refl _ _)
      case enter f args =>
        obtain ⟨rfl, hc⟩ := h3
        exact hc.mono fun e w'' ⟨he, hw''⟩ => by subst he; exact h _ hw''
    | halt x w' => simp only [FUpon] at h3
  · simp only [hw, Bool.false_eq_true, if_false]; exact h _ (Frm.refl _ _)
theorem FW.wp {w : World} {K : Act → World → Prop} {Q : Exit → Act → World → Prop} (hy : FW P ops G J i c o a E) (hi : ops[i]? = some o) (hF : J c E w) (h : ∀ u w', G i u → J (c + 1) (updV E i u) w' → K (a.put o.dst u) w') :
    wpOp P ops Q i K a w := by
  unfold wpOp
  simp only [hi]
  obtain ⟨hw, hv⟩ := hy
  simp only [hw, if_true]
  refine .inl ?_
  have h3 := hv w hF
  unfold Oper.wp
  generalize (execOp a.eval o).run P w = r at *
  cases r with
  | ok m w' =>
    cases m <;> simp only [WUpon] at h3 <;> simp only [Oper.upon]
    case value u => exact h _ _ h3.1 h3.2
    case skip => exact h _ _ h3.1 h3.2
    case enter f args => exact h3.mono fun e w'' ⟨u, he, hg, hw''⟩ => by subst he; exact h _ _ hg hw''
  | halt x w' => simp only [WUpon] at h3
end
section
variable {P : Program} {ops : Array Oper} {Inv : Nat → World → Prop} {G : Nat → Value → Prop} {J : Nat → (Nat → Value) → World → Prop} {wi : Nat → Option Nat} {vals : Nat → Value} {L : Array Bool → Act → (Nat → Value) → Prop}
def stepS (P : Program) (ops : Array Oper) (Inv : Nat → World → Prop) (G : Nat → Value → Prop) (J : Nat → (Nat → Value) → World → Prop) (wi : Nat → Option Nat) (vals : Nat → Value) (i : Nat) (o : Oper) (K : Act → (Nat → Value) → Prop) (a : Act) (E : Nat → Value) : Prop :=
  match wi i with
  | none => FI P ops (Inv i) o (vals i) a ∧ K (a.put o.dst (vals i)) E
  | some c => FW P ops G J i c o a E ∧ ∀ u, G i u → K (a.put o.dst u) (updV E i u)
theorem stepS_mono {i : Nat} {o : Oper} {K K' : Act → (Nat → Value) → Prop} {a : Act} {E : Nat → Value} (hK : ∀ a E, K a E → K' a E) (h : stepS P ops Inv G J wi vals i o K a E) : stepS P ops Inv G J wi vals i o K' a E := by
  unfold stepS at *
  split at h
  · exact ⟨h.1, hK _ _ h.2⟩
  · exact ⟨h.1, fun u hg => hK _ _ (h.2 u hg)⟩
def AnyS (P : Program) (ops : Array Oper) (Inv : Nat → World → Prop) (G : Nat → Value → Prop) (J : Nat → (Nat → Value) → World → Prop) (wi : Nat → Option Nat) (vals : Nat → Value) (L : Array Bool → Act → (Nat → Value) → Prop) : Nat → Array Bool → Act → (Nat → Value) → Prop
  | 0, listed, a, E => L listed a E
  | f + 1, listed, a, E => Region.ready .any ops listed ≠ [] ∧ ∀ i ∈ Region.ready .any ops listed, ∃ o, ops[i]? = some o ∧ stepS P ops Inv G J wi vals i o (AnyS P ops Inv G J wi vals L f (listed.setIfInBounds i true)) a E
theorem stepS_swap {i j : Nat} {oi oj : Oper} {a : Act} {E : Nat → Value} {K : Act → (Nat → Value) → Prop} (hG : ∀ i, ∃ u, G i u) (hWW : wi i = none ∨ wi j = none) (hap : oi.apart ops oj = true) (hsi : ∀ cs b, oi.op ≠ .select cs b) (hsj : ∀ cs b, oj.op ≠ .select cs b)
    (h : stepS P ops Inv G J wi vals i oi (fun a' E' => stepS P ops Inv G J wi vals j oj K a' E') a E) : stepS P ops Inv G J wi vals j oj (fun a' E' => stepS P ops Inv G J wi vals i oi K a' E') a E := by
  obtain ⟨p1, p2, p3⟩ := Oper.apart_spec hap
  unfold stepS at *
  cases hi : wi i with
  | none =>
    cases hj : wi j with
    | none =>
      simp only [hi, hj] at h ⊢
      obtain ⟨h1, h2, h3⟩ := h
      exact ⟨h2.unput hsj p1, h1.put hsi p3, by rw [← Act.put_comm a (vals i) (vals j) p2]; exact h3⟩
    | some c =>
      simp only [hi, hj] at h ⊢
      obtain ⟨h1, h2, h3⟩ := h
      exact ⟨h2.unput hsj p1, fun u hg => ⟨h1.put hsi p3, by rw [← Act.put_comm a (vals i) _ p2]; exact h3 u hg⟩⟩
  | some c =>
    cases hj : wi j with
    | none =>
      simp only [hi, hj] at h ⊢
      obtain ⟨h1, h2⟩ := h
      obtain ⟨u0, hu0⟩ := hG i
      refine ⟨(h2 u0 hu0).1.unput hsj p1, h1.put hsi p3, fun u hg => ?_⟩
      rw [← Act.put_comm a _ (vals j) p2]; exact (h2 u hg).2
    | some c' =>
      rcases hWW with h0 | h0
      · rw [hi] at h0; cases h0
      · rw [hj] at h0; cases h0
structure Chn (ops : Array Oper) (wi : Nat → Option Nat) (m : Nat) : Prop where
  lt : ∀ i c, i < ops.size → wi i = some c → c < m
  uni : ∀ i j c, i < ops.size → j < ops.size → wi i = some c → wi j = some c → i = j
  has : ∀ c, c < m → ∃ i, i < ops.size ∧ wi i = some c
  wait : ∀ i c, i < ops.size → wi i = some (c + 1) → ∃ s, s < ops.size ∧ wi s = some c ∧ Region.waitsFor .any ops i s = true
theorem ready_lt {listed : Array Bool} {i : Nat} (h : i ∈ Region.ready .any ops listed) : i < ops.size := by
  obtain ⟨_, o, ho, _⟩ := mem_ready.1 h
  exact (Array.getElem?_eq_some_iff.1 ho).1
theorem Chn.before {m : Nat} (hc : Chn ops wi m) {listed : Array Bool} (inv : HeadInv .any ops ops.size listed) : ∀ (c : Nat) (i : Nat), i < ops.size → wi i = some c → listed.getD i false = true → ∀ c' s, s < ops.size → wi s = some c' → c' < c → listed.getD s false = true
  | 0, i, hi, hw, hl, c', s, hs, hws, hlt => by omega
  | c + 1, i, hi, hw, hl, c', s, hs, hws, hlt => by
    obtain ⟨t, ht, hwt, hwf⟩ := hc.wait i c hi hw
    obtain ⟨oi, hoi, e, he, hb, heq⟩ := Region.waitsFor_spec hwf
    have hlt' : listed.getD t false = true := by rw [← heq]; exact inv.closed i oi hoi hl e he hb
    by_cases hcc : c' = c
    · subst hcc
      have := hc.uni s t c' hs ht hws hwt
      subst this
      exact hlt'
    · exact hc.before inv c t ht hwt hlt' c' s hs hws (by omega)
theorem Chn.ready {m : Nat} (hc : Chn ops wi m) {listed : Array Bool} (inv : HeadInv .any ops ops.size listed) {i c : Nat} (hr : i ∈ Region.ready .any ops listed) (hw : wi i = some c) : ∀ c' s, s < ops.size → wi s = some c' → c' < c → listed.getD s false = true := by
  intro c' s hs hws hlt
  rcases c with _ | c
  · omega
  · have hi := ready_lt hr
    obtain ⟨t, ht, hwt, hwf⟩ := hc.wait i c hi hw
    obtain ⟨oi, hoi, e, he, hb, heq⟩ := Region.waitsFor_spec hwf
    obtain ⟨_, o', ho', hall⟩ := mem_ready.1 hr
    obtain rfl : o' = oi := Option.some.inj (ho'.symm.trans hoi)
    have hlt' : listed.getD t false = true := by rw [← heq]; exact hall e he hb
    by_cases hcc : c' = c
    · subst hcc
      have := hc.uni s t c' hs ht hws hwt
      subst this
      exact hlt'
    · exact hc.before inv c t ht hwt hlt' c' s hs hws (by omega)
theorem Chn.one {m : Nat} (hc : Chn ops wi m) {listed : Array Bool} (inv : HeadInv .any ops ops.size listed) {i j : Nat} (hi : i ∈ Region.ready .any ops listed) (hj : j ∈ Region.ready .any ops listed) (hne : j ≠ i) : wi i = none ∨ wi j = none := by
  cases h1 : wi i with
  | none => exact .inl rfl
  | some c =>
    cases h2 : wi j with
    | none => exact .inr rfl
    | some c' =>
      exfalso
      have hui := getD_both (mem_ready.1 hi).1
      have huj := getD_both (mem_ready.1 hj).1
      rcases Nat.lt_trichotomy c c' with h | h | h
      · have := hc.ready inv hj h2 c i (ready_lt hi) h1 h
        rw [hui] at this; cases this
      · subst h
        exact hne (hc.uni j i c (ready_lt hj) (ready_lt hi) h2 h1)
      · have := hc.ready inv hi h1 c' j (ready_lt hj) h2 h
        rw [huj] at this; cases this
theorem AnyS_first {m i : Nat} {oi : Oper} (hG : ∀ i, ∃ u, G i u) (hch : Chn ops wi m) (hi : ops[i]? = some oi) (hsel : ∀ (j : Nat) (o : Oper) cs b, ops[j]? = some o → o.op ≠ .select cs b)
    (hdone : ∀ listed a E, L listed a E → Region.ready .any ops listed = []) :
    ∀ (f : Nat) (listed : Array Bool) (a : Act) (E : Nat → Value), HeadInv .any ops ops.size listed →
      (∀ j oj, ops[j]? = some oj → j ≠ i → listed.getD j true = false → (∀ e ∈ oj.after, Region.binds .any e = true → e.on ≠ i) → oi.apart ops oj = true) →
      i ∈ Region.ready .any ops listed → stepS P ops Inv G J wi vals i oi (AnyS P ops Inv G J wi vals L f (listed.setIfInBounds i true)) a E → AnyS P ops Inv G J wi vals L (f + 1) listed a E := by
  intro f
  induction f with
  | zero =>
    intro listed a E inv _ hr H
    refine ⟨fun h => (by rw [h] at hr; cases hr), fun j hj => ?_⟩
    by_cases hji : j = i
    · subst hji; exact ⟨oi, hi, H⟩
    · exfalso
      have hL : ∃ a' E', L (listed.setIfInBounds i true) a' E' := by
        unfold stepS at H
        split at H
        · exact ⟨_, _, H.2⟩
        · obtain ⟨u0, hu0⟩ := hG i; exact ⟨_, _, H.2 u0 hu0⟩
      obtain ⟨a', E', hL⟩ := hL
      have h1 := hdone _ _ _ hL
      have h2 := ready_mono hj hji
      rw [h1] at h2
      cases h2
  | succ f ih =>
    intro listed a E inv hfree hr H
    refine ⟨fun h => (by rw [h] at hr; cases hr), fun j hj => ?_⟩
    by_cases hji : j = i
    · subst hji; exact ⟨oi, hi, H⟩
    · obtain ⟨hjun, oj, hoj, hall⟩ := mem_ready.1 hj
      have hun := (mem_ready.1 hr).1
      have hnot : ∀ e ∈ oj.after, Region.binds .any e = true → e.on ≠ i := fun e he hb heq => by
        have h1 := hall e he hb
        rw [heq, getD_both hun] at h1
        cases h1
      have hap := hfree j oj hoj hji hjun hnot
      have H2 : stepS P ops Inv G J wi vals i oi (fun a' E' => stepS P ops Inv G J wi vals j oj (AnyS P ops Inv G J wi vals L f ((listed.setIfInBounds i true).setIfInBounds j true)) a' E') a E :=
        stepS_mono (fun a' E' h => by
          obtain ⟨o', ho', h'⟩ := h.2 j (ready_mono hj hji)
          obtain rfl : o' = oj := Option.some.inj (ho'.symm.trans hoj)
          exact h') H
      refine ⟨oj, hoj, stepS_mono (fun a' E' h => ?_) (stepS_swap hG (hch.one inv hr hj hji) hap (hsel i oi · · hi) (hsel j oj · · hoj) H2)⟩
      refine ih (listed.setIfInBounds j true) a' E' (inv.set hj (ready_lt hj)) ?_ (ready_mono hr (Ne.symm hji)) ?_
      · intro k ok hk hki hun' hno
        refine hfree k ok hk hki ?_ hno
        by_cases hjk : j = k
        · subst hjk; exact hjun
        · rw [getD_set_ne true hjk] at hun'; exact hun'
      · rw [Array.setIfInBounds_comm _ _ hji]; exact h
def wpS (P : Program) (ops : Array Oper) (Inv : Nat → World → Prop) (G : Nat → Value → Prop) (J : Nat → (Nat → Value) → World → Prop) (wi : Nat → Option Nat) (vals : Nat → Value) (QT : Act → (Nat → Value) → Prop) : Nat → Nat → Act → (Nat → Value) → Prop
  | 0, _, a, E => QT a E
  | m + 1, k, a, E => ∃ o, ops[k]? = some o ∧ stepS P ops Inv G J wi vals k o (wpS P ops Inv G J wi vals QT m (k + 1)) a E
def lexS (ops : Array Oper) : Nat → Nat → Array Bool → Bool
  | 0, _, listed => (Region.ready .any ops listed).isEmpty && ((List.range ops.size).all fun i => listed.getD i false)
  | m + 1, k, listed => (Region.ready .any ops listed).contains k && Region.free .any ops listed k && lexS ops m (k + 1) (listed.setIfInBounds k true)
def AllL (ops : Array Oper) (listed : Array Bool) : Prop := ∀ i, i < ops.size → listed.getD i false = true
theorem wpS_any {mm : Nat} {QT : Act → (Nat → Value) → Prop} (hG : ∀ i, ∃ u, G i u) (hch : Chn ops wi mm) (hsel : Region.noSelect ops = true) :
    ∀ (m k : Nat) (listed : Array Bool) (a : Act) (E : Nat → Value), HeadInv .any ops ops.size listed → lexS ops m k listed = true → wpS P ops Inv G J wi vals QT m k a E →
      AnyS P ops Inv G J wi vals (fun listed a E => Region.ready .any ops listed = [] ∧ AllL ops listed ∧ QT a E) m listed a E
  | 0, k, listed, a, E, inv, hB, h => by
    simp only [lexS, Bool.and_eq_true, List.isEmpty_iff, List.all_eq_true, List.mem_range] at hB
    exact ⟨hB.1, hB.2, h⟩
  | m + 1, k, listed, a, E, inv, hB, h => by
    simp only [lexS, Bool.and_eq_true] at hB
    obtain ⟨⟨hr, hf⟩, hB'⟩ := hB
    obtain ⟨o, ho, hst⟩ := h
    have hr' : k ∈ Region.ready .any ops listed := by simpa using hr
    exact AnyS_first hG hch ho (Region.noSelect_spec hsel) (fun listed a E hL => hL.1) m listed a E inv (Region.free_spec ho hf) hr' (stepS_mono (fun a' E' h' => wpS_any hG hch hsel m (k + 1) _ a' E' (inv.set hr' (ready_lt hr')) hB' h') hst)
def Cnt (ops : Array Oper) (wi : Nat → Option Nat) (listed : Array Bool) (c : Nat) : Prop := ∀ i c', i < ops.size → wi i = some c' → (listed.getD i false = true ↔ c' < c)
theorem sound_S {m : Nat} {Q : Exit → Act → World → Prop} {QT : Act → (Nat → Value) → Prop} (hch : Chn ops wi m) {bnd : Nat → Nat} (hbn : ∀ i, i < ops.size → m ≤ bnd i ∨ ∃ s, s < ops.size ∧ wi s = some (bnd i) ∧ Region.waitsFor .any ops s i = true) (hInv : ∀ c E w, c ≤ m → J c E w → ∀ i, c ≤ bnd i → Inv i w) (hgrow : ∀ c E w w', c ≤ m → J c E w → Frm M0 w w' → J c E w')
    (HT : ∀ a E w, QT a E → J m E w → Q .normal a w) :
    ∀ (f : Nat) (listed : Array Bool) (a : Act) (E : Nat → Value) (w : World) (c : Nat), AnyS P ops Inv G J wi vals (fun listed a E => Region.ready .any ops listed = [] ∧ AllL ops listed ∧ QT a E) f listed a E → HeadInv .any ops ops.size listed →
      Cnt ops wi listed c → c ≤ m → J c E w → wpAny P .any ops Q f listed a w
  | 0, listed, a, E, w, c, h, inv, hn, hm, hj => by
    obtain ⟨h1, h2, h3⟩ := h
    have hc : c = m := by
      rcases Nat.lt_or_ge c m with hlt | hge
      · obtain ⟨i, hi, hw⟩ := hch.has c hlt
        have := (hn i c hi hw).1 (h2 i hi)
        omega
      · omega
    subst hc
    exact ⟨h1, HT a E w h3 hj⟩
  | f + 1, listed, a, E, w, c, h, inv, hn, hm, hj => by
    refine ⟨fun h0 => absurd h0 h.1, fun i hi => ?_⟩
    obtain ⟨o, ho, hst⟩ := h.2 i hi
    have hil := ready_lt hi
    unfold stepS at hst
    cases hwi : wi i with
    | none =>
      rw [hwi] at hst
      have hcb : c ≤ bnd i := by
        rcases hbn i hil with h1 | ⟨s, hs, hws, hwf⟩
        · omega
        · rcases Nat.lt_or_ge (bnd i) c with hlt | hge
          · exfalso
            have hls := (hn s (bnd i) hs hws).2 hlt
            obtain ⟨os, hos, e, he, hb, heq⟩ := Region.waitsFor_spec hwf
            have := inv.closed s os hos hls e he hb
            rw [heq, getD_both (mem_ready.1 hi).1] at this
            cases this
          · exact hge
      refine hst.1.wp ho (hInv c E w hm hj i hcb) fun w' hf => sound_S hch hbn hInv hgrow HT f _ _ _ _ c hst.2 (inv.set hi hil) (fun k c' hk hw => ?_) hm (hgrow c E w w' hm hj hf)
      have hki : i ≠ k := fun e => by subst e; rw [hwi] at hw; cases hw
      rw [getD_set_ne false hki]
      exact hn k c' hk hw
    | some c' =>
      rw [hwi] at hst
      simp only [] at hst
      have hcc : c' = c := by
        have h1 : ¬ c' < c := fun hlt => by
          have := (hn i c' hil hwi).2 hlt
          rw [getD_both (mem_ready.1 hi).1] at this; cases this
        rcases Nat.lt_or_ge c c' with hlt | hge
        · obtain ⟨s, hs, hws⟩ := hch.has c (by have := hch.lt i c' hil hwi; omega)
          have := (hn s c hs hws).1 (hch.ready inv hi hwi c s hs hws hlt)
          omega
        · omega
      subst hcc
      refine hst.1.wp ho hj fun u w' hg hj' => sound_S hch hbn hInv hgrow HT f _ _ _ _ (c' + 1) (hst.2 u hg) (inv.set hi hil) (fun k c2 hk hw => ?_) (hch.lt i c' hil hwi) hj'
      by_cases hki : i = k
      · subst hki
        obtain rfl : c2 = c' := Option.some.inj (hw.symm.trans hwi)
        have : (listed.setIfInBounds i true).getD i false = true := by
          have hsz : i < listed.size := by rw [inv.size]; exact hil
          simp [hsz]
        rw [this]
        simp
      · rw [getD_set_ne false hki]
        rw [hn k c2 hk hw]
        have : c2 ≠ c' := fun e => by subst e; exact hki (hch.uni i k c2 hil hk hwi hw)
        omega
theorem wpS_v {QT : Act → (Nat → Value) → Prop} {m k : Nat} {a : Act} {E : Nat → Value} (o : Oper) (v : Value) (ho : ops[k]? = some o) (hk : wi k = none) (hv : vals k = v) (hy : FI P ops (Inv k) o v a) (h : wpS P ops Inv G J wi vals QT m (k + 1) (a.put o.dst v) E) : wpS P ops Inv G J wi vals QT (m + 1) k a E := by
  subst hv
  refine ⟨o, ho, ?_⟩
  unfold stepS; rw [hk]; exact ⟨hy, h⟩
theorem wpS_w {QT : Act → (Nat → Value) → Prop} {m k : Nat} {a : Act} {E : Nat → Value} (o : Oper) (c : Nat) (ho : ops[k]? = some o) (hk : wi k = some c) (hy : FW P ops G J k c o a E) (h : ∀ u, G k u → wpS P ops Inv G J wi vals QT m (k + 1) (a.put o.dst u) (updV E k u)) : wpS P ops Inv G J wi vals QT (m + 1) k a E := by
  refine ⟨o, ho, ?_⟩
  unfold stepS; rw [hk]; exact ⟨hy, h⟩
end
section
variable {P : Program} {ops : Array Oper} {Inv : Nat → World → Prop} {G : Nat → Value → Prop} {J : Nat → (Nat → Value) → World → Prop} {wi : Nat → Option Nat} {vals : Nat → Value} {QT : Act → (Nat → Value) → Prop} {m k : Nat} {a : Act} {E : Nat → Value} {o : Oper}
theorem wpS_V (ho : ops[k]? = some o) (hk : wi k = none) (hy : FI P ops (Inv k) o (vals k) a) (h : wpS P ops Inv G J wi vals QT m (k + 1) (a.put o.dst (vals k)) E) : wpS P ops Inv G J wi vals QT (m + 1) k a E := wpS_v o (vals k) ho hk rfl hy h
theorem wpS_W {c : Nat} (ho : ops[k]? = some o) (hk : wi k = some c) (hy : FW P ops G J k c o a E) (h : ∀ u, G k u → wpS P ops Inv G J wi vals QT m (k + 1) (a.put o.dst u) (updV E k u)) : wpS P ops Inv G J wi vals QT (m + 1) k a E := wpS_w o c ho hk hy h
end
def wiL : List Nat → Nat → Nat → Option Nat
  | [], _, _ => none
  | x :: l, c, i => if i = x then some c else wiL l (c + 1) i
def chnB (ops : Array Oper) (ws : List Nat) : Bool :=
  ((List.range ops.size).all fun i => match wiL ws 0 i with
    | none => true
    | some c => decide (c < ws.length) && decide (ws[c]? = some i) && (match c with | 0 => true | c' + 1 => (match ws[c']? with | none => false | some s => decide (wiL ws 0 s = some c') && decide (s < ops.size) && Region.waitsFor .any ops i s))) &&
  ((List.range ws.length).all fun c => match ws[c]? with | none => false | some s => decide (s < ops.size) && decide (wiL ws 0 s = some c))
theorem chn_of {ops : Array Oper} {ws : List Nat} (h : chnB ops ws = true) : Chn ops (wiL ws 0) ws.length := by
  simp only [chnB, Bool.and_eq_true, List.all_eq_true, List.mem_range] at h
  obtain ⟨h1, h2⟩ := h
  refine ⟨fun i c hi hw => ?_, fun i j c hi hj hwi hwj => ?_, fun c hc => ?_, fun i c hi hw => ?_⟩
  · have := h1 i hi
    rw [hw] at this
    simp only [Bool.and_eq_true, decide_eq_true_eq] at this
    exact this.1.1
  · have a1 := h1 i hi
    have a2 := h1 j hj
    rw [hwi] at a1
    rw [hwj] at a2
    simp only [Bool.and_eq_true, decide_eq_true_eq] at a1 a2
    exact Option.some.inj (a1.1.2.symm.trans a2.1.2)
  · have := h2 c hc
    split at this
    · cases this
    · rename_i s hs
      simp only [Bool.and_eq_true, decide_eq_true_eq] at this
      exact ⟨s, this.1, this.2⟩
  · have := h1 i hi
    rw [hw] at this
    simp only [Bool.and_eq_true, decide_eq_true_eq] at this
    have h3 := this.2
    split at h3
    · cases h3
    · rename_i s hs
      simp only [Bool.and_eq_true, decide_eq_true_eq] at h3
      exact ⟨s, h3.1.2, h3.1.1, h3.2⟩
def bndB (ops : Array Oper) (ws : List Nat) (bnd : Nat → Nat) : Bool :=
  (List.range ops.size).all fun i => decide (ws.length ≤ bnd i) || match ws[bnd i]? with | none => false | some s => decide (s < ops.size) && decide (wiL ws 0 s = some (bnd i)) && Region.waitsFor .any ops s i
theorem bnd_of {ops : Array Oper} {ws : List Nat} {bnd : Nat → Nat} (h : bndB ops ws bnd = true) : ∀ i, i < ops.size → ws.length ≤ bnd i ∨ ∃ s, s < ops.size ∧ wiL ws 0 s = some (bnd i) ∧ Region.waitsFor .any ops s i = true := by
  intro i hi
  simp only [bndB, List.all_eq_true, List.mem_range] at h
  have h1 := h i hi
  simp only [Bool.or_eq_true, decide_eq_true_eq] at h1
  rcases h1 with h1 | h1
  · exact .inl h1
  · right
    split at h1
    · cases h1
    · rename_i s hs
      simp only [Bool.and_eq_true, decide_eq_true_eq] at h1
      exact ⟨s, h1.1.1, h1.1.2, h1.2⟩
theorem wp_region_S {P : Program} {id : Nat} {Q : Exit → Act → World → Prop} {a : Act} {w : World} {l : List Oper} (ws : List Nat) (vals : Nat → Value) (bnd : Nat → Nat) (Inv : Nat → World → Prop) (G : Nat → Value → Prop) (J : Nat → (Nat → Value) → World → Prop) (hm : P.follows .mixedOrders = true)
    (hB : (Region.noSelect l.toArray && chnB l.toArray ws && bndB l.toArray ws bnd && lexS l.toArray l.toArray.size 0 (Array.replicate l.toArray.size false)) = true)
    (hG : ∀ i, ∃ u, G i u) (hInv : ∀ c E w, c ≤ ws.length → J c E w → ∀ i, c ≤ bnd i → Inv i w) (hgrow : ∀ c E w w', c ≤ ws.length → J c E w → Frm M0 w w' → J c E w') (h0 : ∀ w', Frm M0 w w' → J 0 (fun _ => undef) w')
    (h : ∀ (ops : Array Oper) (QT : Act → (Nat → Value) → Prop), AllOps ops l 0 →
      Hid (∀ a' E, (∀ w', J ws.length E w' → wpList P l.toArray Q [] a' w') → QT a' E) →
      wpS P ops Inv G J (wiL ws 0) vals QT l.length 0 a (fun _ => undef)) :
    (Code.region id l.toArray true).wp P Q a w := by
  simp only [Bool.and_eq_true] at hB
  obtain ⟨⟨⟨hsel, hc⟩, hbb⟩, hlex⟩ := hB
  refine wp_region_any hm ?_
  have inv : HeadInv .any l.toArray l.toArray.size (Array.replicate l.toArray.size false) := by
    refine ⟨by simp, ?_, ?_⟩
    · intro j oj _ hl; rw [getD_replicate_false] at hl; cases hl
    · intro t h1 h2; omega
  have hch := chn_of hc
  have hS := wpS_any (P := P) (Inv := Inv) (J := J) hG hch hsel l.toArray.size 0 _ a _ inv hlex (h l.toArray (fun a' E => ∀ w', J ws.length E w' → wpList P l.toArray Q [] a' w') (allOps_of l 0 fun j o hj => by simpa using hj) (hid fun _ _ h => h))
  refine sound_S (Q := Q) hch (bnd_of hbb) hInv hgrow (fun a E w hq hj => hq w hj) l.toArray.size _ a _ _ 0 hS inv (fun i c' hi hw => ?_) (Nat.zero_le _) (h0 _ ((Frm.refl M0 w).drew))
  rw [getD_replicate_false]
  simp
section
variable {P : Program} {ops : Array Oper} {Inv : World → Prop} {G : Nat → Value → Prop} {J : Nat → (Nat → Value) → World → Prop} {o oj : Oper} {v : Value} {a : Act} {j d i c : Nat} {want : Bool} {E : Nat → Value}
theorem FI_in (hg : o.guard = none) (h : ∀ w, Inv w → FUpon P w v ((execOp a.eval o).run P w)) : FI P ops Inv o v a := .inl ⟨by simp [Region.wanted, hg], h⟩
theorem FW_in (hg : o.guard = none) (h : ∀ w, J c E w → WUpon P (fun u w' => G i u ∧ J (c + 1) (updV E i u) w') ((execOp a.eval o).run P w)) : FW P ops G J i c o a E := ⟨by simp [Region.wanted, hg], h⟩
theorem want_yes (hg : o.guard = some (j, want)) (hj : ops[j]? = some oj) (hd : oj.dst = some d) (hb : a.eval (.tmp d) = .bool want) : Region.wanted o (yielded ops a.tmps) = true := by
  rw [tmps_eval] at hb
  cases hq : a.tmps[d]? with
  | none => rw [hq] at hb; cases hb
  | some x =>
    rw [hq] at hb
    have hx : x = .bool want := hb
    simp [Region.wanted, yielded, hg, hj, hd, hq, hx]
theorem FI_yes (hg : o.guard = some (j, want)) (hj : ops[j]? = some oj) (hd : oj.dst = some d) (hb : a.eval (.tmp d) = .bool want) (h : ∀ w, Inv w → FUpon P w v ((execOp a.eval o).run P w)) : FI P ops Inv o v a := .inl ⟨want_yes hg hj hd hb, h⟩
theorem FW_yes (hg : o.guard = some (j, want)) (hj : ops[j]? = some oj) (hd : oj.dst = some d) (hb : a.eval (.tmp d) = .bool want) (h : ∀ w, J c E w → WUpon P (fun u w' => G i u ∧ J (c + 1) (updV E i u) w') ((execOp a.eval o).run P w)) : FW P ops G J i c o a E := ⟨want_yes hg hj hd hb, h⟩
end
end Go.Proofs.YtmacpdddimcmgaaGreatDoor
namespace Go.Proofs.YtmacpdddimcmgaaGreatDoor
set_option linter.unusedVariables false
set_option linter.unusedSimpArgs false
set_option maxRecDepth 20000
open Go.RowKit Go.ChangeShapes Go.WideShapes
def Sp.cells (p : Sp) : List Value := [.int .i64 p.s0, .int .i64 p.s1, .int .i64 p.s2, .int .i64 p.s3, .int .i64 p.s4, .int .i64 p.s5, .int .i64 p.s6, .int .i64 p.s7, .int .i64 p.s8, .int .i64 p.s9, .int .i64 p.s10, .int .i64 p.s11]
def Rc.cells (r : Rc) : List Value := [.int .i64 r.k, .int .i64 r.e, .int .i64 r.w, .int .i64 r.n, .int .i64 r.q, .string r.t, .int .i64 r.p.s0, .int .i64 r.p.s1, .int .i64 r.p.s2, .int .i64 r.p.s3, .int .i64 r.p.s4, .int .i64 r.p.s5, .int .i64 r.p.s6, .int .i64 r.p.s7, .int .i64 r.p.s8, .int .i64 r.p.s9, .int .i64 r.p.s10, .int .i64 r.p.s11]
abbrev wfi (x : Int) : Prop := (Lit.int .i64 x).wf = true
def Sp.ok (p : Sp) : Prop := (wfi p.s0 ∧ wfi p.s1 ∧ wfi p.s2 ∧ wfi p.s3 ∧ wfi p.s4) ∧ (wfi p.s5 ∧ wfi p.s6 ∧ wfi p.s7 ∧ wfi p.s8) ∧ (wfi p.s9 ∧ wfi p.s10 ∧ wfi p.s11)
def Rc.ok (r : Rc) : Prop := (wfi r.k ∧ wfi r.e ∧ wfi r.w ∧ wfi r.n ∧ wfi r.q) ∧ r.t.size ≤ maxLen ∧ r.p.ok
section
variable {H : Type} {enc : TypeId × Value → H} {w : World} {base : Nat} {spare : Nat → Bool} {held : Bool}
theorem fld_int {n : Nat} {c : Value} {y : DataW H × List MemPlace} (h : DataW.trod enc Tryz.prog w base spare held n 3 [c] = some y) : ∃ z, c = .int .i64 z ∧ wfi z := by
  obtain ⟨z, hz, _, hw⟩ := DataW.trod_int Tryz.underlying3 h
  exact ⟨z, by simpa using hz, hw⟩
theorem of_get {α : Type} {o : Option α} {l : List α} {i : Nat} (h : o = l[i]?) (hi : i < l.length) : ∃ y, o = some y := ⟨l[i], by rw [h, List.getElem?_eq_getElem hi]⟩
theorem arr_trod {fuel : Nat} {c0 c1 c2 c3 : Value} {x : DataW H × List MemPlace} (h : DataW.trod enc Tryz.prog w base spare held fuel 28 [c0, c1, c2, c3] = some x) :
    ∃ z0 z1 z2 z3, [c0, c1, c2, c3] = [.int .i64 z0, .int .i64 z1, .int .i64 z2, .int .i64 z3] ∧ wfi z0 ∧ wfi z1 ∧ wfi z2 ∧ wfi z3 := by
  obtain ⟨xs, m, _, _, _, hl, hf⟩ := DataW.trod_array Tryz.underlying28 h
  have h1 : Tryz.prog.cellsOf 3 = 1 := by kernel_rfl
  rw [h1] at hf
  obtain ⟨y0, e0⟩ := of_get (hf 0 (by omega)) (by omega)
  obtain ⟨y1, e1⟩ := of_get (hf 1 (by omega)) (by omega)
  obtain ⟨y2, e2⟩ := of_get (hf 2 (by omega)) (by omega)
  obtain ⟨y3, e3⟩ := of_get (hf 3 (by omega)) (by omega)
  obtain ⟨z0, rfl, w0⟩ := fld_int (c := c0) e0
  obtain ⟨z1, rfl, w1⟩ := fld_int (c := c1) e1
  obtain ⟨z2, rfl, w2⟩ := fld_int (c := c2) e2
  obtain ⟨z3, rfl, w3⟩ := fld_int (c := c3) e3
  exact ⟨z0, z1, z2, z3, rfl, w0, w1, w2, w3⟩
theorem spec_trod {fuel : Nat} {cs : List Value} {x : DataW H × List MemPlace} (h : DataW.trod enc Tryz.prog w base spare held fuel 30 cs = some x) : ∃ p : Sp, cs = p.cells ∧ p.ok := by
  obtain ⟨xs, n, _, _, hc, hl, hf⟩ := DataW.trod_struct Tryz.underlying30 h
  have hc12 : cs.length = 12 := hc.trans (by kernel_rfl)
  have h1 : Tryz.prog.cellsOf 3 = 1 := by kernel_rfl
  have h4 : Tryz.prog.cellsOf 28 = 4 := by kernel_rfl
  have hl9 : xs.length = 9 := hl
  match cs, hc12 with
  | [c0, c1, c2, c3, c4, c5, c6, c7, c8, c9, c10, c11], _ =>
    have fi : ∀ (i : Nat) (f : Field) (c : Value), f.type = 3 → DataW.trod enc Tryz.prog w base spare held n f.type (([c0, c1, c2, c3, c4, c5, c6, c7, c8, c9, c10, c11].drop f.offset).take (Tryz.prog.cellsOf f.type)) = xs[i]? → i < 9 →
        ([c0, c1, c2, c3, c4, c5, c6, c7, c8, c9, c10, c11].drop f.offset).take 1 = [c] → ∃ z, c = .int .i64 z ∧ wfi z := by
      intro i f c ht hh hi hcc
      rw [ht, h1, hcc] at hh
      obtain ⟨y, e⟩ := of_get hh (by omega)
      exact fld_int e
    obtain ⟨z0, rfl, w0⟩ := fi 0 _ c0 rfl (hf 0 _ rfl) (by omega) rfl
    obtain ⟨z1, rfl, w1⟩ := fi 1 _ c1 rfl (hf 1 _ rfl) (by omega) rfl
    obtain ⟨z2, rfl, w2⟩ := fi 2 _ c2 rfl (hf 2 _ rfl) (by omega) rfl
    obtain ⟨z3, rfl, w3⟩ := fi 3 _ c3 rfl (hf 3 _ rfl) (by omega) rfl
    obtain ⟨z4, rfl, w4⟩ := fi 4 _ c4 rfl (hf 4 _ rfl) (by omega) rfl
    obtain ⟨z9, rfl, w9⟩ := fi 6 _ c9 rfl (hf 6 _ rfl) (by omega) rfl
    obtain ⟨z10, rfl, w10⟩ := fi 7 _ c10 rfl (hf 7 _ rfl) (by omega) rfl
    obtain ⟨z11, rfl, w11⟩ := fi 8 _ c11 rfl (hf 8 _ rfl) (by omega) rfl
    have ha : DataW.trod enc Tryz.prog w base spare held n 28 [c5, c6, c7, c8] = xs[5]? := hf 5 _ rfl
    obtain ⟨y, ey⟩ := of_get ha (by omega)
    obtain ⟨z5, z6, z7, z8, e, w5, w6, w7, w8⟩ := arr_trod ey
    simp only [List.cons.injEq, and_true] at e
    obtain ⟨rfl, rfl, rfl, rfl⟩ := e
    exact ⟨⟨z0, z1, z2, z3, z4, z5, z6, z7, z8, z9, z10, z11⟩, rfl, ⟨w0, w1, w2, w3, w4⟩, ⟨w5, w6, w7, w8⟩, w9, w10, w11⟩
theorem rec_trod {fuel : Nat} {cs : List Value} {x : DataW H × List MemPlace} (h : DataW.trod enc Tryz.prog w base spare held fuel 37 cs = some x) : ∃ r : Rc, cs = r.cells ∧ r.ok := by
  obtain ⟨xs, n, _, _, hc, hl, hf⟩ := DataW.trod_struct Tryz.underlying37 h
  have hc18 : cs.length = 18 := hc.trans (by kernel_rfl)
  have h1 : Tryz.prog.cellsOf 3 = 1 := by kernel_rfl
  have hl7 : xs.length = 7 := hl
  match cs, hc18 with
  | [c0, c1, c2, c3, c4, c5, c6, c7, c8, c9, c10, c11, c12, c13, c14, c15, c16, c17], _ =>
    have fi : ∀ (i : Nat) (f : Field) (c : Value), f.type = 3 → DataW.trod enc Tryz.prog w base spare held n f.type (([c0, c1, c2, c3, c4, c5, c6, c7, c8, c9, c10, c11, c12, c13, c14, c15, c16, c17].drop f.offset).take (Tryz.prog.cellsOf f.type)) = xs[i]? → i < 7 →
        ([c0, c1, c2, c3, c4, c5, c6, c7, c8, c9, c10, c11, c12, c13, c14, c15, c16, c17].drop f.offset).take 1 = [c] → ∃ z, c = .int .i64 z ∧ wfi z := by
      intro i f c ht hh hi hcc
      rw [ht, h1, hcc] at hh
      obtain ⟨y, e⟩ := of_get hh (by omega)
      exact fld_int e
    obtain ⟨z0, rfl, w0⟩ := fi 0 _ c0 rfl (hf 0 _ rfl) (by omega) rfl
    obtain ⟨z1, rfl, w1⟩ := fi 1 _ c1 rfl (hf 1 _ rfl) (by omega) rfl
    obtain ⟨z2, rfl, w2⟩ := fi 2 _ c2 rfl (hf 2 _ rfl) (by omega) rfl
    obtain ⟨z3, rfl, w3⟩ := fi 3 _ c3 rfl (hf 3 _ rfl) (by omega) rfl
    obtain ⟨z4, rfl, w4⟩ := fi 4 _ c4 rfl (hf 4 _ rfl) (by omega) rfl
    have hs : DataW.trod enc Tryz.prog w base spare held n 9 [c5] = xs[5]? := hf 5 _ rfl
    obtain ⟨ys, es⟩ := of_get hs (by omega)
    obtain ⟨s, hs1, _, hs2⟩ := DataW.trod_string Tryz.underlying9 es
    simp only [List.cons.injEq, and_true] at hs1
    subst hs1
    have hp : DataW.trod enc Tryz.prog w base spare held n 30 [c6, c7, c8, c9, c10, c11, c12, c13, c14, c15, c16, c17] = xs[6]? := hf 6 _ rfl
    obtain ⟨yp, ep⟩ := of_get hp (by omega)
    obtain ⟨p, e, hok⟩ := spec_trod ep
    simp only [Sp.cells, List.cons.injEq, and_true] at e
    obtain ⟨rfl, rfl, rfl, rfl, rfl, rfl, rfl, rfl, rfl, rfl, rfl, rfl⟩ := e
    exact ⟨⟨z0, z1, z2, z3, z4, s, p⟩, rfl, ⟨w0, w1, w2, w3, w4⟩, hs2, hok⟩
end
end Go.Proofs.YtmacpdddimcmgaaGreatDoor
namespace Go.Proofs.YtmacpdddimcmgaaGreatDoor
set_option linter.unusedVariables false
set_option linter.unusedSimpArgs false
set_option maxRecDepth 20000
open Go.RowKit
def Un.cells (u : Un) : List Value := [.int .i64 u.v, .int .i64 u.s, .bool u.d]
theorem un_len (u : Un) : (Un.cells u).length = 3 := rfl
theorem un_one (u : Un) : ∀ x ∈ Un.cells u, x.oneCell' = true := by intro x hx; simp only [Un.cells, List.mem_cons, List.not_mem_nil, or_false] at hx; rcases hx with rfl | rfl | rfl <;> rfl
theorem rcc_len (r : Rc) : (Rc.cells r).length = 18 := rfl
theorem rcc_one (r : Rc) : ∀ x ∈ Rc.cells r, x.oneCell' = true := by
  intro x hx
  simp only [Rc.cells, List.mem_cons, List.not_mem_nil, or_false] at hx
  rcases hx with rfl | rfl | rfl | rfl | rfl | rfl | rfl | rfl | rfl | rfl | rfl | rfl | rfl | rfl | rfl | rfl | rfl | rfl <;> rfl
structure BkP where
  tb : Nat
  TB : Nat
  sb : Nat
  SB : Nat
  hv : Value
def bkCells (p : BkP) (W : Vw) (us : List Un) : List Value := .pointer (some ⟨p.tb, 0, none⟩) :: .pointer (some ⟨p.sb, 0, none⟩) :: (W.cells ++ (us.flatMap Un.cells ++ [p.hv]))
def bkM (b : Nat) (p : BkP) (k : Nat) : Prop := k = b ∨ k = p.tb ∨ k = p.TB ∨ k = p.sb ∨ k = p.SB ∨ p.hv.ownBlock = some k
structure BkAt (w : World) (b : Nat) (p : BkP) (B : Bk) : Prop where
  blk : w.heap[b]? = some (.cells (bkCells p B.w B.us).toArray 76 (0, 0))
  tab : TabAt w p.tb p.TB B.m B.l
  sto : StoAt w p.sb p.SB B.vs
  his : Ow w 37 18 p.hv B.h.length (B.h.flatMap Rc.cells)
  len : B.us.length = 16
  dis : p.TB ≠ p.SB
section
variable {w w' : World} {b : Nat} {p : BkP} {B : Bk} {M : Nat → Prop}
theorem BkAt.frm (h : BkAt w b p B) (hf : Frm M w w') (hm : ∀ k, bkM b p k → ¬ M k) : BkAt w' b p B :=
  ⟨hf.heap h.blk (hm b (.inl rfl)), h.tab.frm hf (hm _ (.inr (.inl rfl))) (hm _ (.inr (.inr (.inl rfl)))), h.sto.frm hf (hm _ (.inr (.inr (.inr (.inl rfl))))) (hm _ (.inr (.inr (.inr (.inr (.inl rfl)))))),
    h.his.frm hf (fun k hk => hm k (.inr (.inr (.inr (.inr (.inr hk)))))), h.len, h.dis⟩
theorem BkAt.frm0 (h : BkAt w b p B) (hf : Frm M0 w w') : BkAt w' b p B := h.frm hf (fun _ _ h => h)
theorem BkAt.lt (h : BkAt w b p B) : ∀ k, bkM b p k → k < w.heap.size := by
  intro k hk
  rcases hk with rfl | rfl | rfl | rfl | rfl | hk
  · exact sb_lt h.blk
  · exact sb_lt h.tab.1
  · exact sb_lt h.tab.2.1
  · exact sb_lt h.sto.1
  · exact sb_lt h.sto.2.1
  · exact h.his.lt k hk
theorem BkAt.at (h : BkAt w b p B) (o : Nat) : w.cell? ⟨b, o, none⟩ = (bkCells p B.w B.us)[o]? := by rw [sb_cell h.blk, List.getElem?_toArray]
theorem bk_units (p : BkP) (W : Vw) (us : List Un) (j : Nat) : (bkCells p W us)[24 + j]? = (us.flatMap Un.cells ++ [p.hv])[j]? := by
  show ([.pointer (some ⟨p.tb, 0, none⟩), .pointer (some ⟨p.sb, 0, none⟩)] ++ W.cells ++ (us.flatMap Un.cells ++ [p.hv]))[24 + j]? = _
  rw [List.getElem?_append_right (by show 24 ≤ 24 + j; omega)]
  show (us.flatMap Un.cells ++ [p.hv])[24 + j - 24]? = _
  congr 1
  omega
theorem BkAt.view (h : BkAt w b p B) : ∀ j v, B.w.cells[j]? = some v → w.cell? ⟨b, 2 + j, none⟩ = some v := by
  intro j v hv
  rw [h.at, show 2 + j = j + 1 + 1 by omega]
  show (B.w.cells ++ (B.us.flatMap Un.cells ++ [p.hv]))[j]? = some v
  rw [List.getElem?_append_left (List.getElem?_eq_some_iff.1 hv).1]
  exact hv
theorem BkAt.unit (h : BkAt w b p B) {i : Nat} (hi : i < 16) : ∀ j v, (Un.cells (B.us.getD i ⟨0, 0, true⟩))[j]? = some v → w.cell? ⟨b, 24 + (i * 3 + j), none⟩ = some v := by
  intro j v hv
  have hj : j < 3 := by have := (List.getElem?_eq_some_iff.1 hv).1; rw [un_len] at this; exact this
  rw [h.at, bk_units, List.getElem?_append_left (by rw [els_len un_len, h.len]; omega), els_get un_len _ i j (B.us.getD i ⟨0, 0, true⟩) ?_ hj]
  · exact hv
  · rw [List.getD_eq_getElem?_getD, List.getElem?_eq_getElem (by rw [h.len]; exact hi)]; rfl
theorem BkAt.hist (h : BkAt w b p B) : w.cell? ⟨b, 72, none⟩ = some p.hv := by
  rw [h.at, show (72 : Nat) = 24 + 48 from rfl, bk_units, List.getElem?_append_right (by rw [els_len un_len, h.len]; exact Nat.le_refl _), els_len un_len, h.len]
  rfl
theorem BkAt.free (h : BkAt w b p B) (o : Nat) : w.frozen? ⟨b, o, none⟩ = false := sb_free h.blk o
theorem BkAt.units (h : BkAt w b p B) : Rd w 3 (.slice (some ⟨b, 24, none⟩) 16 16) B.us.length (B.us.flatMap Un.cells) := by
  refine ⟨els_len un_len _, .inr ⟨⟨b, 24, none⟩, 16, by rw [h.len], by rw [h.len]; omega, by unfold maxLen; omega, fun j u hu => ?_⟩⟩
  rw [add_none, h.at, bk_units, List.getElem?_append_left (List.getElem?_eq_some_iff.1 hu).1]
  exact hu
theorem BkAt.c0 (h : BkAt w b p B) : w.cell? ⟨b, 0, none⟩ = some (.pointer (some ⟨p.tb, 0, none⟩)) := h.at 0
theorem BkAt.c1 (h : BkAt w b p B) : w.cell? ⟨b, 1, none⟩ = some (.pointer (some ⟨p.sb, 0, none⟩)) := h.at 1
theorem BkAt.c2 (h : BkAt w b p B) : w.cell? ⟨b, 2, none⟩ = some (.int .i64 B.w.epoch) := h.at 2
theorem BkAt.c3 (h : BkAt w b p B) : w.cell? ⟨b, 3, none⟩ = some (.int .i64 B.w.leader) := h.at 3
theorem BkAt.c4 (h : BkAt w b p B) : w.cell? ⟨b, 4, none⟩ = some (.int .i64 B.w.until') := h.at 4
theorem BkAt.c5 (h : BkAt w b p B) : w.cell? ⟨b, 5, none⟩ = some (.int .i64 B.w.stable) := h.at 5
theorem BkAt.c6 (h : BkAt w b p B) : w.cell? ⟨b, 6, none⟩ = some (.int .i64 B.w.from') := h.at 6
theorem BkAt.c7 (h : BkAt w b p B) : w.cell? ⟨b, 7, none⟩ = some (.int .i64 B.w.phase) := h.at 7
theorem BkAt.c8 (h : BkAt w b p B) : w.cell? ⟨b, 8, none⟩ = some (.int .i64 B.w.step) := h.at 8
theorem BkAt.c11 (h : BkAt w b p B) : w.cell? ⟨b, 11, none⟩ = some (.int .i64 B.w.seq) := h.at 11
theorem BkAt.c12 (h : BkAt w b p B) : w.cell? ⟨b, 12, none⟩ = some (.int .i64 B.w.spec.s0) := h.at 12
theorem BkAt.put (h : BkAt w b p B) (hf : Frm (fun k => k = b) w w') {W : Vw} {us : List Un} (hb : w'.heap[b]? = some (.cells (bkCells p W us).toArray 76 (0, 0))) (hl : us.length = 16)
    (hd : b ≠ p.tb ∧ b ≠ p.TB ∧ b ≠ p.sb ∧ b ≠ p.SB ∧ p.hv.ownBlock ≠ some b) : BkAt w' b p { B with w := W, us := us } :=
  ⟨hb, h.tab.frm hf (fun e => hd.1 e.symm) (fun e => hd.2.1 e.symm), h.sto.frm hf (fun e => hd.2.2.1 e.symm) (fun e => hd.2.2.2.1 e.symm), h.his.frm hf (fun k hk e => hd.2.2.2.2 (by have e : k = b := e; rw [← e]; exact hk)), hl, h.dis⟩
theorem cells_ne {t t' : TypeId} {a a' : Array Value} {f f' : Nat × Nat} {k k' : Nat} (h : w.heap[k]? = some (.cells a t f)) (h' : w.heap[k']? = some (.cells a' t' f')) (ht : t ≠ t') : k ≠ k' := by
  rintro rfl
  rw [h] at h'
  simp only [Option.some.injEq, Obj.cells.injEq] at h'
  exact ht h'.2.1
theorem cells_ne_map {t : TypeId} {a : Array Value} {f : Nat × Nat} {k k' : Nat} {l : List (ByteArray × Value)} (h : w.heap[k]? = some (.cells a t f)) (h' : w.heap[k']? = some (smapO l)) : k ≠ k' := by
  rintro rfl
  rw [h] at h'
  unfold smapO at h'
  cases h'
theorem BkAt.apart (h : BkAt w b p B) : b ≠ p.tb ∧ b ≠ p.TB ∧ b ≠ p.sb ∧ b ≠ p.SB ∧ p.hv.ownBlock ≠ some b := by
  refine ⟨cells_ne h.blk h.tab.1 (by decide), cells_ne_map h.blk h.tab.2.1, cells_ne h.blk h.sto.1 (by decide), cells_ne_map h.blk h.sto.2.1, fun e => ?_⟩
  rcases h.his.2 with ⟨h1, _⟩ | ⟨g, o, cap, cur, h1, hh, _⟩
  · rw [h1] at e; cases e
  · rw [h1] at e
    have e2 : g = b := Option.some.inj e
    exact cells_ne hh h.blk (by decide) e2
theorem BkAt.apart2 (h : BkAt w b p B) : p.tb ≠ p.sb ∧ p.tb ≠ p.SB ∧ p.TB ≠ p.sb ∧ (∀ k, p.hv.ownBlock = some k → k ≠ p.tb ∧ k ≠ p.TB ∧ k ≠ p.sb ∧ k ≠ p.SB) := by
  refine ⟨cells_ne h.tab.1 h.sto.1 (by decide), cells_ne_map h.tab.1 h.sto.2.1, fun e => cells_ne_map h.sto.1 h.tab.2.1 e.symm, fun k hk => ?_⟩
  rcases h.his.2 with ⟨h1, _⟩ | ⟨g, o, cap, cur, h1, hh, _⟩
  · rw [h1] at hk; cases hk
  · rw [h1] at hk
    have e2 : g = k := Option.some.inj hk
    subst e2
    exact ⟨cells_ne hh h.tab.1 (by decide), cells_ne_map hh h.tab.2.1, cells_ne hh h.sto.1 (by decide), cells_ne_map hh h.sto.2.1⟩
end
section
variable {P : Program} {ops : Array Oper} {rest : List Oper} {op : Oper} {a : Act} {w : World} {Q : Exit → Act → World → Prop}
theorem run_load_c (ty : TypeId) (g o : Nat) (cs : Array Value) (hc : ∀ j v, cs.toList[j]? = some v → w.cell? ⟨g, o + j, none⟩ = some v)
    (d : TypeDesc) (hu : P.underlying ty = some d) (hd : (match d with | .struct _ | .array _ _ => true | _ => false) = true) (hi : (P.info? ty).map (·.size) = some cs.size) :
    (loadVar ty ⟨g, o, none⟩).run P w = .ok (.agg cs) w := by
  have hl : (loadCells ⟨g, o, none⟩ cs.toList.length).run P w = .ok cs.toList.toArray w :=
    run_loadCells_list (P := P) w ⟨g, o, none⟩ cs.toList (fun j v hv => by rw [addr_add]; exact hc j v hv)
  have hagg : (isAgg ty).run P w = .ok true w := by
    unfold isAgg
    rw [Sem.run_bind, run_underlying hu w]
    cases d <;> simp_all
  cases hq : P.info? ty with
  | none => simp [hq] at hi
  | some i =>
    have hs : cs.size = i.size := by simp [hq] at hi; omega
    simp only [Array.length_toList, Array.toArray_toList] at hl
    simp [loadVar, hagg, sizeOf, typeInfo, hq, ← hs, hl, Result.andThen]
theorem wpList_load_c (hw : Region.wanted op (yielded ops a.tmps) = true) (ty : TypeId) (x : Operand) (ho : op.op = .load ty x) (g o : Nat) (hx : a.eval x = .pointer (some ⟨g, o, none⟩)) (cs : Array Value)
    (hc : ∀ j v, cs.toList[j]? = some v → w.cell? ⟨g, o + j, none⟩ = some v) (d : TypeDesc) (hu : P.underlying ty = some d) (hd : (match d with | .struct _ | .array _ _ => true | _ => false) = true) (hi : (P.info? ty).map (·.size) = some cs.size)
    (h : wpList P ops Q rest (a.put op.dst (.agg cs)) w) : wpList P ops Q (op :: rest) a w := by
  refine BigFrame.wpList_want hw fun K hK => ?_
  have hrun := run_load_c (P := P) ty g o cs hc d hu hd hi
  unfold Oper.wp
  simp only [execOp, ho, hx, Instr.loadAt, Instr.sureAddr, Sem.run_bind, Sem.run_pure, Result.andThen_ok, hrun]
  exact hK _ _ h
theorem fu_load_c (ty : TypeId) (x : Operand) (ho : op.op = .load ty x) (g o : Nat) (hx : a.eval x = .pointer (some ⟨g, o, none⟩)) (cs : Array Value)
    (hc : ∀ j v, cs.toList[j]? = some v → w.cell? ⟨g, o + j, none⟩ = some v) (d : TypeDesc) (hu : P.underlying ty = some d) (hd : (match d with | .struct _ | .array _ _ => true | _ => false) = true) (hi : (P.info? ty).map (·.size) = some cs.size) :
    FUpon P w (.agg cs) ((execOp a.eval op).run P w) := by
  have hrun := run_load_c (P := P) ty g o cs hc d hu hd hi
  simp only [execOp, ho, hx, Instr.loadAt, Instr.sureAddr, Sem.run_bind, Sem.run_pure, Result.andThen_ok, hrun]
  exact ⟨rfl, rfl⟩
theorem results_cell1 {fn : Func} {p : Tmp} {ty : TypeId} (h : fn.results = #[.cell p ty]) (tmps : Array Value) (g : Nat) (t : TypeId) (cs : Array Value) (fr : Nat × Nat) (d : TypeDesc)
    (hp : tmps.getD p undef = .pointer (some ⟨g, 0, none⟩)) (hg : w.heap[g]? = some (.cells cs t fr))
    (hu : P.underlying ty = some d) (hd : (match d with | .struct _ | .array _ _ => true | _ => false) = true) (hi : (P.info? ty).map (·.size) = some cs.size) :
    (results fn tmps).run P w = .ok (.agg cs) w := by
  have hp' : tmps[p]?.getD undef = .pointer (some ⟨g, 0, none⟩) := by simpa using hp
  simp [results, h, hp', asAddr, run_loadVar_row w g t ty cs fr d hg hu hd hi]
end
end Go.Proofs.YtmacpdddimcmgaaGreatDoor
