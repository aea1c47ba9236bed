/- The reference's record.Read. No condition. -/
import Derived.Test.YtinbidmgllmglaaQb
import Derived.Test.YtinbidmgllmglaaKz
namespace Go.Proofs.Ytinbidmgllmglaa
set_option linter.unusedVariables false
set_option linter.unusedSimpArgs false
open Go.RowKit Cp

/-- What the reference answers. -/
def rreadOk (l : List Int) (a : Rc × List Int × Int) : Prop := endF a.2.1 a.2.2 = 0 ∧ (rbytesF a.1).2 = 0 ∧ strOfNums (rbytesF a.1).1 = strOfNums l
def Bytey (l : List Int) : Prop := ∀ x ∈ l, 0 ≤ x ∧ x < 256
theorem getF_ok {l : List Int} (e : Int) (h : Bytey l ∧ l.length ≤ 1000000) : Bytey (getF l e).2.1 ∧ (getF l e).2.1.length ≤ 1000000 := by
  obtain ⟨_, _, _, h1, h2⟩ := getF_sub l e
  exact ⟨fun x hx => h.1 x (h1 x hx), by omega⟩
theorem textE_ok {l : List Int} (e : Int) (h : Bytey l ∧ l.length ≤ 1000000) : Bytey (textE l e).2.1 ∧ (textE l e).2.1.length ≤ 1000000 := by
  have h1 := getF_ok e h
  unfold textE
  split
  · exact h1
  · split
    · exact ⟨fun x hx => h1.1 x (List.mem_of_mem_drop hx), by rw [List.length_drop]; omega⟩
    · exact ⟨(fun x hx => by cases hx), by simp⟩
theorem textE_len (l : List Int) (e : Int) : (textE l e).1.length ≤ 64 := by
  unfold textE
  split
  · simp
  · split
    · rename_i h; rw [List.length_take]; omega
    · simp

set_option maxRecDepth 20000 in
set_option maxHeartbeats 8000000 in
theorem rread_calls (v : Value) (l : List Int) (w : World) (hl : l.length ≤ 1000000) (hr : RdB w v l) (hy : Bytey l) :
    Calls Try.prog 8 #[v] w fun x w' => Frm M0 w w' ∧ ((rreadOk l (read6 l) ∧ x = .returned (.tuple #[(read6 l).1.val, .int .i64 0])) ∨ (¬ rreadOk l (read6 l) ∧ x = .returned (.tuple #[Rc.zero.val, .int .i64 2]))) := by
  have HR := hid hr
  have HY1 := hid (And.intro hy hl)
  clear hy hl
  obtain ⟨a0, c0, rfl, _, _, _⟩ := hr.shape
  clear hr
  go_enter Try.func8, Try.ntmps8
  go_wp2_with fail
  obtain ⟨hT, hS⟩ := new2 w (.cells #[.int .i64 0, .int .i64 0, .int .i64 0, .int .i64 0, .int .i64 0, .string ⟨#[]⟩, .int .i64 0, .int .i64 0, .int .i64 0, .int .i64 0, .int .i64 0, .int .i64 0, .int .i64 0, .int .i64 0, .int .i64 0, .int .i64 0, .int .i64 0, .int .i64 0] 28) (.cells #[.slice a0 l.length c0, .int .i64 0] 51)
  have hF := ((Frm.refl M0 w).alloc (.cells #[.int .i64 0, .int .i64 0, .int .i64 0, .int .i64 0, .int .i64 0, .string ⟨#[]⟩, .int .i64 0, .int .i64 0, .int .i64 0, .int .i64 0, .int .i64 0, .int .i64 0, .int .i64 0, .int .i64 0, .int .i64 0, .int .i64 0, .int .i64 0, .int .i64 0] 28)).alloc (.cells #[.slice a0 l.length c0, .int .i64 0] 51)
  obtain ⟨T, ht⟩ : ∃ x, x = w.heap.size := ⟨_, rfl⟩
  obtain ⟨w0, hw⟩ : ∃ x, x = (w.alloc (.cells #[.int .i64 0, .int .i64 0, .int .i64 0, .int .i64 0, .int .i64 0, .string ⟨#[]⟩, .int .i64 0, .int .i64 0, .int .i64 0, .int .i64 0, .int .i64 0, .int .i64 0, .int .i64 0, .int .i64 0, .int .i64 0, .int .i64 0, .int .i64 0, .int .i64 0] 28)).alloc (.cells #[.slice a0 l.length c0, .int .i64 0] 51) := ⟨_, rfl⟩
  have hz : w0.heap.size = T + 2 := by rw [hw, ht]; simp
  have hs1 : (w.alloc (.cells #[.int .i64 0, .int .i64 0, .int .i64 0, .int .i64 0, .int .i64 0, .string ⟨#[]⟩, .int .i64 0, .int .i64 0, .int .i64 0, .int .i64 0, .int .i64 0, .int .i64 0, .int .i64 0, .int .i64 0, .int .i64 0, .int .i64 0, .int .i64 0, .int .i64 0] 28)).heap.size = w.heap.size + 1 := by simp
  try rw [hs1]
  rw [← hw, ← ht] at hT hS
  rw [← hw] at hF
  rw [← hw, ← ht]
  have HTT := hid ht
  have T0 := hid hT
  have H0 := hid hS
  have F0 := hid hF
  have Z0 : T + 2 ≤ w0.heap.size := by omega
  clear hw ht hT hS hF hz hs1
  have O0 : Hid (World.ownsRow w0 (T + 2) 3 1 (.slice none 0 0) ([] : List Int).length (ints .i64 [])) := hid (World.ownsRow_nil _ _ _ _)
  obtain ⟨l1, hl1⟩ : ∃ x, x = l := ⟨_, rfl⟩
  obtain ⟨e1, he1⟩ : ∃ x : Int, x = 0 := ⟨_, rfl⟩
  have B0 : Hid (RdB w (.slice a0 l1.length c0) l1) := hid (by rw [hl1]; exact HR.out)
  have H0' : Hid (w0.heap[T + 1]? = some (.cells #[.slice a0 l1.length c0, .int .i64 e1] 51 (0, 0))) := hid (by rw [hl1, he1]; exact H0.out)
  clear H0
  have H0 := H0'
  clear H0'
  have Y1 : Hid (Bytey l1 ∧ l1.length ≤ 1000000) := hid (by rw [hl1]; exact HY1.out)
  have HE1 := hid he1
  have HL1 := hid hl1
  clear he1 hl1
  refine wp_loop_rounds 6 ?_
  rw [rounds_succ]
  go_wp2_with (refine wpList_load_row rfl 51 (.tmp 4) (by with_reducible rfl) (T + 1) (by kernel_rfl) _ _ _ _ H0.out Try.underlying51 rfl (by kernel_rfl) ?_)
  refine (getNum_calls w (.slice a0 l1.length c0) l1 e1 _ F0.out B0.out Y1.out.1 Y1.out.2).mono ?_
  rintro _ u1 ⟨v1, rfl, hb, hf⟩
  obtain ⟨a1, c1, rfl, _, _, _⟩ := hb.out.shape
  obtain ⟨n0, HN0⟩ : ∃ x, Hid (x = (getF l1 e1).1) := ⟨_, rfl⟩
  obtain ⟨l2, HL2⟩ : ∃ x, Hid (x = (getF l1 e1).2.1) := ⟨_, rfl⟩
  obtain ⟨e2, HE2⟩ : ∃ x, Hid (x = (getF l1 e1).2.2) := ⟨_, rfl⟩
  have Y2 : Hid (Bytey l2 ∧ l2.length ≤ 1000000) := hid (by rw [HL2.out]; exact getF_ok _ Y1.out)
  rw [← HL2.out] at hb
  rw [← HN0.out, ← HL2.out, ← HE2.out]
  have B1 := hb
  have HU := hid (hf.heap H0.out (fun h => h))
  have TU := hid (hf.heap T0.out (fun h => h))
  have OU := hid (hf.owns O0.out (fun _ _ h => h))
  have FU := hid (F0.out.then0 hf)
  have ZU : T + 2 ≤ u1.heap.size := Nat.le_trans Z0 hf.size
  clear hb hf H0 T0 O0 F0 Z0
  unfold rv
  go_wp2_with (first | (refine wpList_store_at (by kernel_rfl) 51 (.tmp 4) (.tmp 27) (by with_reducible rfl) (T + 1) 0 (by kernel_rfl) #[.slice a1 l2.length c1, .int .i64 e2] (by kernel_rfl) _ _ (((Frm.refl M0 u1).alloc _).heap HU.out (fun h => h)) (by kernel_rfl) (by simp) (by simp [Value.oneCell']) ?_; intro wx hh hp; have HX : Hid (wx.heap[T + 1]? = some (.cells #[.slice a1 l2.length c1, .int .i64 e2] 51 (0, 0))) := putL_heap hh (by kernel_rfl); have TX := hid (hp.heap (((Frm.refl M0 u1).alloc _).heap TU.out (fun h => h)) (by show ¬ T = T + 1; omega)); have OX := hid (hp.owns (World.ownsRow.alloc OU.out _) (fun k hk e => by have h1 := (OU.out.lt k hk).1; have e' : k = T + 1 := e; omega)); have FX := hid ((FU.out.alloc _).trans hp (fun b hb e => by have e' : b = T + 1 := e; have := HTT.out; omega)); have ZX : T + 2 ≤ wx.heap.size := Nat.le_trans ZU (Nat.le_trans (by simp) hp.size); clear hh hp HU TU OU FU ZU) | (at_builtin; refine wpList_push_int rfl (.tmp 28) (.tmp 30) 47 rfl (T + 2) 3 .i64 8 Try.underlying47 infoI _ [] _ rfl OX.out rfl (by simp [maxLen]) (by simp) ZX ?_; intro vl1 w1 ho hg; have O1 := hid ho; have HG := hid hg; clear ho hg))
  have g : Frm (fun k => T + 2 ≤ k) wx w1 := (Frm.refl _ _).grown HG.out (fun k hk _ => (OX.out.lt k hk).1)
  have H1 := hid (g.heap HX.out (by show ¬ T + 2 ≤ T + 1; omega))
  have T1 := hid (g.heap TX.out (by show ¬ T + 2 ≤ T; omega))
  have F1 := hid (FX.out.trans g (fun k hk hm => by have hm' : T + 2 ≤ k := hm; have := HTT.out; omega))
  have Z1 : T + 2 ≤ w1.heap.size := Nat.le_trans ZX g.size
  clear g HG HX TX OX FX ZX
  rw [rounds_succ]
  go_wp2_with (refine wpList_load_row rfl 51 (.tmp 4) (by with_reducible rfl) (T + 1) (by kernel_rfl) _ _ _ _ H1.out Try.underlying51 rfl (by kernel_rfl) ?_)
  refine (getNum_calls w (.slice a1 l2.length c1) l2 e2 _ F1.out B1.out Y2.out.1 Y2.out.2).mono ?_
  rintro _ u2 ⟨v2, rfl, hb, hf⟩
  obtain ⟨a2, c2, rfl, _, _, _⟩ := hb.out.shape
  obtain ⟨n1, HN1⟩ : ∃ x, Hid (x = (getF l2 e2).1) := ⟨_, rfl⟩
  obtain ⟨l3, HL3⟩ : ∃ x, Hid (x = (getF l2 e2).2.1) := ⟨_, rfl⟩
  obtain ⟨e3, HE3⟩ : ∃ x, Hid (x = (getF l2 e2).2.2) := ⟨_, rfl⟩
  have Y3 : Hid (Bytey l3 ∧ l3.length ≤ 1000000) := hid (by rw [HL3.out]; exact getF_ok _ Y2.out)
  rw [← HL3.out] at hb
  rw [← HN1.out, ← HL3.out, ← HE3.out]
  have B2 := hb
  have HU := hid (hf.heap H1.out (fun h => h))
  have TU := hid (hf.heap T1.out (fun h => h))
  have OU := hid (hf.owns O1.out (fun _ _ h => h))
  have FU := hid (F1.out.then0 hf)
  have ZU : T + 2 ≤ u2.heap.size := Nat.le_trans Z1 hf.size
  clear hb hf H1 T1 O1 F1 Z1
  unfold rv
  go_wp2_with (first | (refine wpList_store_at (by kernel_rfl) 51 (.tmp 4) (.tmp 27) (by with_reducible rfl) (T + 1) 0 (by kernel_rfl) #[.slice a2 l3.length c2, .int .i64 e3] (by kernel_rfl) _ _ (((Frm.refl M0 u2).alloc _).heap HU.out (fun h => h)) (by kernel_rfl) (by simp) (by simp [Value.oneCell']) ?_; intro wx hh hp; have HX : Hid (wx.heap[T + 1]? = some (.cells #[.slice a2 l3.length c2, .int .i64 e3] 51 (0, 0))) := putL_heap hh (by kernel_rfl); have TX := hid (hp.heap (((Frm.refl M0 u2).alloc _).heap TU.out (fun h => h)) (by show ¬ T = T + 1; omega)); have OX := hid (hp.owns (World.ownsRow.alloc OU.out _) (fun k hk e => by have h1 := (OU.out.lt k hk).1; have e' : k = T + 1 := e; omega)); have FX := hid ((FU.out.alloc _).trans hp (fun b hb e => by have e' : b = T + 1 := e; have := HTT.out; omega)); have ZX : T + 2 ≤ wx.heap.size := Nat.le_trans ZU (Nat.le_trans (by simp) hp.size); clear hh hp HU TU OU FU ZU) | (at_builtin; refine wpList_push_int rfl (.tmp 28) (.tmp 30) 47 rfl (T + 2) 3 .i64 8 Try.underlying47 infoI _ [n0] _ rfl OX.out rfl (by simp [maxLen]) (by simp) ZX ?_; intro vl2 w2 ho hg; have O2 := hid ho; have HG := hid hg; clear ho hg))
  have g : Frm (fun k => T + 2 ≤ k) wx w2 := (Frm.refl _ _).grown HG.out (fun k hk _ => (OX.out.lt k hk).1)
  have H2 := hid (g.heap HX.out (by show ¬ T + 2 ≤ T + 1; omega))
  have T2 := hid (g.heap TX.out (by show ¬ T + 2 ≤ T; omega))
  have F2 := hid (FX.out.trans g (fun k hk hm => by have hm' : T + 2 ≤ k := hm; have := HTT.out; omega))
  have Z2 : T + 2 ≤ w2.heap.size := Nat.le_trans ZX g.size
  clear g HG HX TX OX FX ZX
  rw [rounds_succ]
  go_wp2_with (refine wpList_load_row rfl 51 (.tmp 4) (by with_reducible rfl) (T + 1) (by kernel_rfl) _ _ _ _ H2.out Try.underlying51 rfl (by kernel_rfl) ?_)
  refine (getNum_calls w (.slice a2 l3.length c2) l3 e3 _ F2.out B2.out Y3.out.1 Y3.out.2).mono ?_
  rintro _ u3 ⟨v3, rfl, hb, hf⟩
  obtain ⟨a3, c3, rfl, _, _, _⟩ := hb.out.shape
  obtain ⟨n2, HN2⟩ : ∃ x, Hid (x = (getF l3 e3).1) := ⟨_, rfl⟩
  obtain ⟨l4, HL4⟩ : ∃ x, Hid (x = (getF l3 e3).2.1) := ⟨_, rfl⟩
  obtain ⟨e4, HE4⟩ : ∃ x, Hid (x = (getF l3 e3).2.2) := ⟨_, rfl⟩
  have Y4 : Hid (Bytey l4 ∧ l4.length ≤ 1000000) := hid (by rw [HL4.out]; exact getF_ok _ Y3.out)
  rw [← HL4.out] at hb
  rw [← HN2.out, ← HL4.out, ← HE4.out]
  have B3 := hb
  have HU := hid (hf.heap H2.out (fun h => h))
  have TU := hid (hf.heap T2.out (fun h => h))
  have OU := hid (hf.owns O2.out (fun _ _ h => h))
  have FU := hid (F2.out.then0 hf)
  have ZU : T + 2 ≤ u3.heap.size := Nat.le_trans Z2 hf.size
  clear hb hf H2 T2 O2 F2 Z2
  unfold rv
  go_wp2_with (first | (refine wpList_store_at (by kernel_rfl) 51 (.tmp 4) (.tmp 27) (by with_reducible rfl) (T + 1) 0 (by kernel_rfl) #[.slice a3 l4.length c3, .int .i64 e4] (by kernel_rfl) _ _ (((Frm.refl M0 u3).alloc _).heap HU.out (fun h => h)) (by kernel_rfl) (by simp) (by simp [Value.oneCell']) ?_; intro wx hh hp; have HX : Hid (wx.heap[T + 1]? = some (.cells #[.slice a3 l4.length c3, .int .i64 e4] 51 (0, 0))) := putL_heap hh (by kernel_rfl); have TX := hid (hp.heap (((Frm.refl M0 u3).alloc _).heap TU.out (fun h => h)) (by show ¬ T = T + 1; omega)); have OX := hid (hp.owns (World.ownsRow.alloc OU.out _) (fun k hk e => by have h1 := (OU.out.lt k hk).1; have e' : k = T + 1 := e; omega)); have FX := hid ((FU.out.alloc _).trans hp (fun b hb e => by have e' : b = T + 1 := e; have := HTT.out; omega)); have ZX : T + 2 ≤ wx.heap.size := Nat.le_trans ZU (Nat.le_trans (by simp) hp.size); clear hh hp HU TU OU FU ZU) | (at_builtin; refine wpList_push_int rfl (.tmp 28) (.tmp 30) 47 rfl (T + 2) 3 .i64 8 Try.underlying47 infoI _ [n0, n1] _ rfl OX.out rfl (by simp [maxLen]) (by simp) ZX ?_; intro vl3 w3 ho hg; have O3 := hid ho; have HG := hid hg; clear ho hg))
  have g : Frm (fun k => T + 2 ≤ k) wx w3 := (Frm.refl _ _).grown HG.out (fun k hk _ => (OX.out.lt k hk).1)
  have H3 := hid (g.heap HX.out (by show ¬ T + 2 ≤ T + 1; omega))
  have T3 := hid (g.heap TX.out (by show ¬ T + 2 ≤ T; omega))
  have F3 := hid (FX.out.trans g (fun k hk hm => by have hm' : T + 2 ≤ k := hm; have := HTT.out; omega))
  have Z3 : T + 2 ≤ w3.heap.size := Nat.le_trans ZX g.size
  clear g HG HX TX OX FX ZX
  rw [rounds_succ]
  go_wp2_with (refine wpList_load_row rfl 51 (.tmp 4) (by with_reducible rfl) (T + 1) (by kernel_rfl) _ _ _ _ H3.out Try.underlying51 rfl (by kernel_rfl) ?_)
  refine (getNum_calls w (.slice a3 l4.length c3) l4 e4 _ F3.out B3.out Y4.out.1 Y4.out.2).mono ?_
  rintro _ u4 ⟨v4, rfl, hb, hf⟩
  obtain ⟨a4, c4, rfl, _, _, _⟩ := hb.out.shape
  obtain ⟨n3, HN3⟩ : ∃ x, Hid (x = (getF l4 e4).1) := ⟨_, rfl⟩
  obtain ⟨l5, HL5⟩ : ∃ x, Hid (x = (getF l4 e4).2.1) := ⟨_, rfl⟩
  obtain ⟨e5, HE5⟩ : ∃ x, Hid (x = (getF l4 e4).2.2) := ⟨_, rfl⟩
  have Y5 : Hid (Bytey l5 ∧ l5.length ≤ 1000000) := hid (by rw [HL5.out]; exact getF_ok _ Y4.out)
  rw [← HL5.out] at hb
  rw [← HN3.out, ← HL5.out, ← HE5.out]
  have B4 := hb
  have HU := hid (hf.heap H3.out (fun h => h))
  have TU := hid (hf.heap T3.out (fun h => h))
  have OU := hid (hf.owns O3.out (fun _ _ h => h))
  have FU := hid (F3.out.then0 hf)
  have ZU : T + 2 ≤ u4.heap.size := Nat.le_trans Z3 hf.size
  clear hb hf H3 T3 O3 F3 Z3
  unfold rv
  go_wp2_with (first | (refine wpList_store_at (by kernel_rfl) 51 (.tmp 4) (.tmp 27) (by with_reducible rfl) (T + 1) 0 (by kernel_rfl) #[.slice a4 l5.length c4, .int .i64 e5] (by kernel_rfl) _ _ (((Frm.refl M0 u4).alloc _).heap HU.out (fun h => h)) (by kernel_rfl) (by simp) (by simp [Value.oneCell']) ?_; intro wx hh hp; have HX : Hid (wx.heap[T + 1]? = some (.cells #[.slice a4 l5.length c4, .int .i64 e5] 51 (0, 0))) := putL_heap hh (by kernel_rfl); have TX := hid (hp.heap (((Frm.refl M0 u4).alloc _).heap TU.out (fun h => h)) (by show ¬ T = T + 1; omega)); have OX := hid (hp.owns (World.ownsRow.alloc OU.out _) (fun k hk e => by have h1 := (OU.out.lt k hk).1; have e' : k = T + 1 := e; omega)); have FX := hid ((FU.out.alloc _).trans hp (fun b hb e => by have e' : b = T + 1 := e; have := HTT.out; omega)); have ZX : T + 2 ≤ wx.heap.size := Nat.le_trans ZU (Nat.le_trans (by simp) hp.size); clear hh hp HU TU OU FU ZU) | (at_builtin; refine wpList_push_int rfl (.tmp 28) (.tmp 30) 47 rfl (T + 2) 3 .i64 8 Try.underlying47 infoI _ [n0, n1, n2] _ rfl OX.out rfl (by simp [maxLen]) (by simp) ZX ?_; intro vl4 w4 ho hg; have O4 := hid ho; have HG := hid hg; clear ho hg))
  have g : Frm (fun k => T + 2 ≤ k) wx w4 := (Frm.refl _ _).grown HG.out (fun k hk _ => (OX.out.lt k hk).1)
  have H4 := hid (g.heap HX.out (by show ¬ T + 2 ≤ T + 1; omega))
  have T4 := hid (g.heap TX.out (by show ¬ T + 2 ≤ T; omega))
  have F4 := hid (FX.out.trans g (fun k hk hm => by have hm' : T + 2 ≤ k := hm; have := HTT.out; omega))
  have Z4 : T + 2 ≤ w4.heap.size := Nat.le_trans ZX g.size
  clear g HG HX TX OX FX ZX
  rw [rounds_succ]
  go_wp2_with (refine wpList_load_row rfl 51 (.tmp 4) (by with_reducible rfl) (T + 1) (by kernel_rfl) _ _ _ _ H4.out Try.underlying51 rfl (by kernel_rfl) ?_)
  refine (getNum_calls w (.slice a4 l5.length c4) l5 e5 _ F4.out B4.out Y5.out.1 Y5.out.2).mono ?_
  rintro _ u5 ⟨v5, rfl, hb, hf⟩
  obtain ⟨a5, c5, rfl, _, _, _⟩ := hb.out.shape
  obtain ⟨n4, HN4⟩ : ∃ x, Hid (x = (getF l5 e5).1) := ⟨_, rfl⟩
  obtain ⟨l6, HL6⟩ : ∃ x, Hid (x = (getF l5 e5).2.1) := ⟨_, rfl⟩
  obtain ⟨e6, HE6⟩ : ∃ x, Hid (x = (getF l5 e5).2.2) := ⟨_, rfl⟩
  have Y6 : Hid (Bytey l6 ∧ l6.length ≤ 1000000) := hid (by rw [HL6.out]; exact getF_ok _ Y5.out)
  rw [← HL6.out] at hb
  rw [← HN4.out, ← HL6.out, ← HE6.out]
  have B5 := hb
  have HU := hid (hf.heap H4.out (fun h => h))
  have TU := hid (hf.heap T4.out (fun h => h))
  have OU := hid (hf.owns O4.out (fun _ _ h => h))
  have FU := hid (F4.out.then0 hf)
  have ZU : T + 2 ≤ u5.heap.size := Nat.le_trans Z4 hf.size
  clear hb hf H4 T4 O4 F4 Z4
  unfold rv
  go_wp2_with (first | (refine wpList_store_at (by kernel_rfl) 51 (.tmp 4) (.tmp 27) (by with_reducible rfl) (T + 1) 0 (by kernel_rfl) #[.slice a5 l6.length c5, .int .i64 e6] (by kernel_rfl) _ _ (((Frm.refl M0 u5).alloc _).heap HU.out (fun h => h)) (by kernel_rfl) (by simp) (by simp [Value.oneCell']) ?_; intro wx hh hp; have HX : Hid (wx.heap[T + 1]? = some (.cells #[.slice a5 l6.length c5, .int .i64 e6] 51 (0, 0))) := putL_heap hh (by kernel_rfl); have TX := hid (hp.heap (((Frm.refl M0 u5).alloc _).heap TU.out (fun h => h)) (by show ¬ T = T + 1; omega)); have OX := hid (hp.owns (World.ownsRow.alloc OU.out _) (fun k hk e => by have h1 := (OU.out.lt k hk).1; have e' : k = T + 1 := e; omega)); have FX := hid ((FU.out.alloc _).trans hp (fun b hb e => by have e' : b = T + 1 := e; have := HTT.out; omega)); have ZX : T + 2 ≤ wx.heap.size := Nat.le_trans ZU (Nat.le_trans (by simp) hp.size); clear hh hp HU TU OU FU ZU) | (at_builtin; refine wpList_push_int rfl (.tmp 28) (.tmp 30) 47 rfl (T + 2) 3 .i64 8 Try.underlying47 infoI _ [n0, n1, n2, n3] _ rfl OX.out rfl (by simp [maxLen]) (by simp) ZX ?_; intro vl5 w5 ho hg; have O5 := hid ho; have HG := hid hg; clear ho hg))
  have g : Frm (fun k => T + 2 ≤ k) wx w5 := (Frm.refl _ _).grown HG.out (fun k hk _ => (OX.out.lt k hk).1)
  have H5 := hid (g.heap HX.out (by show ¬ T + 2 ≤ T + 1; omega))
  have T5 := hid (g.heap TX.out (by show ¬ T + 2 ≤ T; omega))
  have F5 := hid (FX.out.trans g (fun k hk hm => by have hm' : T + 2 ≤ k := hm; have := HTT.out; omega))
  have Z5 : T + 2 ≤ w5.heap.size := Nat.le_trans ZX g.size
  clear g HG HX TX OX FX ZX
  rw [rounds_succ]
  obtain ⟨sh, cp, rfl, hsh⟩ := (Rd.ofOwns O5.out).shape
  obtain ⟨sb, so, rfl⟩ := hsh (by simp)
  clear hsh
  go_wp2_with (refine wpList_load_row rfl 51 (.tmp 4) (by with_reducible rfl) (T + 1) (by kernel_rfl) _ _ _ _ H5.out Try.underlying51 rfl (by kernel_rfl) ?_)
  refine (getText_calls w (.slice a5 l6.length c5) l6 e6 _ F5.out B5.out Y6.out.1 Y6.out.2).mono ?_
  rintro _ u6 ⟨v6, rfl, hb, hf⟩
  obtain ⟨a6, c6, rfl, _, _, _⟩ := hb.out.shape
  obtain ⟨t, HTX⟩ : ∃ x, Hid (x = strOfNums (textE l6 e6).1) := ⟨_, rfl⟩
  obtain ⟨l7, HL7⟩ : ∃ x, Hid (x = (textE l6 e6).2.1) := ⟨_, rfl⟩
  obtain ⟨e7, HE7⟩ : ∃ x, Hid (x = (textE l6 e6).2.2) := ⟨_, rfl⟩
  have Y7 : Hid (Bytey l7 ∧ l7.length ≤ 1000000) := hid (by rw [HL7.out]; exact textE_ok _ Y6.out)
  have ht64 : t.size ≤ 64 := by rw [HTX.out, strOfNums_size]; exact textE_len _ _
  rw [← HL7.out] at hb
  rw [← HTX.out, ← HL7.out, ← HE7.out]
  have B6 := hb
  have H5r : Hid (read5 l = (⟨n0, n1, n2, n3, n4, t, Sp.zero⟩, l7, e7)) := hid (by
    unfold read5
    simp only []
    rw [← HL1.out, ← HE1.out, ← HN0.out, ← HL2.out, ← HE2.out, ← HN1.out, ← HL3.out, ← HE3.out, ← HN2.out, ← HL4.out, ← HE4.out, ← HN3.out, ← HL5.out, ← HE5.out, ← HN4.out, ← HL6.out, ← HE6.out, ← HTX.out, ← HL7.out, ← HE7.out])
  have hh := new1 u6 (.cells #[.slice a6 l7.length c6, .int .i64 e7] 51)
  have hfa : Frm M0 u6 (u6.alloc (.cells #[.slice a6 l7.length c6, .int .i64 e7] 51)) := (Frm.refl _ _).alloc _
  have T6 := hid (hfa.heap (hf.heap T5.out (fun h => h)) (fun h => h))
  have R6 := hid ((Rd.ofOwns (hf.owns O5.out (fun _ _ h => h))).frm0 hfa)
  have F6 := hid ((F5.out.then0 hf).then0 hfa)
  have hz6 : T + 2 ≤ u6.heap.size := Nat.le_trans Z5 hf.size
  unfold rv
  go_wp2_with fail
  obtain ⟨S9, hS9⟩ : ∃ x, x = u6.heap.size := ⟨_, rfl⟩
  obtain ⟨w6, hw⟩ : ∃ x, x = u6.alloc (.cells #[.slice a6 l7.length c6, .int .i64 e7] 51) := ⟨_, rfl⟩
  have hz : w6.heap.size = S9 + 1 := by rw [hw, hS9]; simp
  rw [← hw, ← hS9] at hh
  rw [← hw] at T6 R6 F6
  rw [← hw, ← hS9]
  rw [← hS9] at hz6
  have H6 := hid hh
  clear hw hh hf hfa hS9 H5 T5 O5 F5 Z5 hb
  have hcl := R6.out.cellsOf
  have q0 : w6.cell? ⟨sb, so, none⟩ = some (.int .i64 n0) := hcl 0 (by simp)
  have q1 : w6.cell? ⟨sb, so + 1, none⟩ = some (.int .i64 n1) := hcl 1 (by simp)
  have q2 : w6.cell? ⟨sb, so + 2, none⟩ = some (.int .i64 n2) := hcl 2 (by simp)
  have q3 : w6.cell? ⟨sb, so + 3, none⟩ = some (.int .i64 n3) := hcl 3 (by simp)
  have q4 : w6.cell? ⟨sb, so + 4, none⟩ = some (.int .i64 n4) := hcl 4 (by simp)
  have HSF : Hid (∀ wx, Frm M0 w6 wx → wx.cell? ⟨sb, so, none⟩ = some (.int .i64 n0) ∧ wx.cell? ⟨sb, so + 1, none⟩ = some (.int .i64 n1) ∧ wx.cell? ⟨sb, so + 2, none⟩ = some (.int .i64 n2) ∧ wx.cell? ⟨sb, so + 3, none⟩ = some (.int .i64 n3) ∧ wx.cell? ⟨sb, so + 4, none⟩ = some (.int .i64 n4)) := hid (fun wx hx => ⟨hx.cell q0 (fun h => h), hx.cell q1 (fun h => h), hx.cell q2 (fun h => h), hx.cell q3 (fun h => h), hx.cell q4 (fun h => h)⟩)
  clear hcl q0 q1 q2 q3 q4
  have HFq := hid ((Frm.refl M0 w6).drew)
  go_region_held3 (fun wx => wx.cell? ⟨sb, so, none⟩ = some (.int .i64 n0) ∧ wx.cell? ⟨sb, so + 1, none⟩ = some (.int .i64 n1) ∧ wx.cell? ⟨sb, so + 2, none⟩ = some (.int .i64 n2) ∧ wx.cell? ⟨sb, so + 3, none⟩ = some (.int .i64 n3) ∧ wx.cell? ⟨sb, so + 4, none⟩ = some (.int .i64 n4)) (first | with_reducible exact HSF.out _ HFq.out | with_reducible exact HSF.out _ (Frm.drew (Frm.alloc (Frm.refl M0 _) _)) | go_keep) (fail)
  have hn := new1 w6 (.cells #[.int .i64 n0, .int .i64 n1, .int .i64 n2, .int .i64 n3, .int .i64 n4, .string t, .int .i64 0, .int .i64 0, .int .i64 0, .int .i64 0, .int .i64 0, .int .i64 0, .int .i64 0, .int .i64 0, .int .i64 0, .int .i64 0, .int .i64 0, .int .i64 0] 28)
  have hfa : Frm M0 w6 (w6.alloc (.cells #[.int .i64 n0, .int .i64 n1, .int .i64 n2, .int .i64 n3, .int .i64 n4, .string t, .int .i64 0, .int .i64 0, .int .i64 0, .int .i64 0, .int .i64 0, .int .i64 0, .int .i64 0, .int .i64 0, .int .i64 0, .int .i64 0, .int .i64 0, .int .i64 0] 28)).drew := ((Frm.refl _ _).alloc _).drew
  obtain ⟨w7, hw⟩ : ∃ x, x = (w6.alloc (.cells #[.int .i64 n0, .int .i64 n1, .int .i64 n2, .int .i64 n3, .int .i64 n4, .string t, .int .i64 0, .int .i64 0, .int .i64 0, .int .i64 0, .int .i64 0, .int .i64 0, .int .i64 0, .int .i64 0, .int .i64 0, .int .i64 0, .int .i64 0, .int .i64 0] 28)).drew := ⟨_, rfl⟩
  have T7 := hid (hfa.heap T6.out (fun h => h))
  have H7 := hid (hfa.heap H6.out (fun h => h))
  have F7 := hid (F6.out.then0 hfa)
  have hr7 : (w6.alloc (.cells #[.int .i64 n0, .int .i64 n1, .int .i64 n2, .int .i64 n3, .int .i64 n4, .string t, .int .i64 0, .int .i64 0, .int .i64 0, .int .i64 0, .int .i64 0, .int .i64 0, .int .i64 0, .int .i64 0, .int .i64 0, .int .i64 0, .int .i64 0, .int .i64 0] 28)).drew.heap[S9 + 1]? = some (.cells #[.int .i64 n0, .int .i64 n1, .int .i64 n2, .int .i64 n3, .int .i64 n4, .string t, .int .i64 0, .int .i64 0, .int .i64 0, .int .i64 0, .int .i64 0, .int .i64 0, .int .i64 0, .int .i64 0, .int .i64 0, .int .i64 0, .int .i64 0, .int .i64 0] 28 (0, 0)) := by rw [← hz]; exact hn
  rw [← hw] at T7 H7 F7 hr7
  rw [← hw]
  have R7 := hid hr7
  clear hw hr7 hn hfa T6 H6 F6 R6 HSF HFq hz
  by_cases hk : n0 = 3
  case neg =>
    have HK := hid hk
    have hkb : (n0 == 3) = false := beq_eq_false_iff_ne.2 hk
    have hk0 : w7.cell? ⟨S9 + 1, 0, none⟩ = some (.int .i64 n0) := cell_at R7.out 0
    clear hk
    have HX6 : Hid (read6 l = (⟨n0, n1, n2, n3, n4, t, Sp.zero⟩, l7, e7)) := hid (by unfold read6; rw [H5r.out]; exact if_neg HK.out)
    have HV : Hid (Rc.val ⟨n0, n1, n2, n3, n4, t, Sp.zero⟩ = .agg #[.int .i64 n0, .int .i64 n1, .int .i64 n2, .int .i64 n3, .int .i64 n4, .string t, .int .i64 0, .int .i64 0, .int .i64 0, .int .i64 0, .int .i64 0, .int .i64 0, .int .i64 0, .int .i64 0, .int .i64 0, .int .i64 0, .int .i64 0, .int .i64 0]) := rfl
    go_wp2_with (refine wpList_load_row rfl 28 (.tmp 11) (by with_reducible rfl) (S9 + 1) (by kernel_rfl) _ _ _ _ R7.out Try.underlying28 rfl (by kernel_rfl) ?_)
    rw [← HV.out]
    refine (rbytes_calls ⟨n0, n1, n2, n3, n4, t, Sp.zero⟩ _ (by show t.size ≤ 100000; omega)).mono ?_
    rintro _ wb ⟨vb, rfl, hb, hf⟩
    rw [HV.out]
    obtain ⟨bs, HBS⟩ : ∃ x, Hid (x = (rbytesF ⟨n0, n1, n2, n3, n4, t, Sp.zero⟩).1) := ⟨_, rfl⟩
    obtain ⟨be, HBE⟩ : ∃ x, Hid (x = (rbytesF ⟨n0, n1, n2, n3, n4, t, Sp.zero⟩).2) := ⟨_, rfl⟩
    rw [← HBS.out] at hb
    rw [← HBE.out]
    have RB := hid (hf.heap R7.out (fun h => h))
    have HB := hid (hf.heap H7.out (fun h => h))
    have TB := hid (hf.heap T7.out (fun h => h))
    have FB := hid (F7.out.then0 hf)
    have HBB := hid hb
    clear hf hb
    go_wp2_with (refine wpList_load_row rfl 51 (.tmp 9) (by with_reducible rfl) S9 (by kernel_rfl) _ _ _ _ HB.out Try.underlying51 rfl (by kernel_rfl) ?_)
    refine (refEnd_calls (.slice a6 l7.length c6) l7 e7 _ (B6.out _ FB.out)).mono ?_
    rintro _ we ⟨rfl, hf⟩
    obtain ⟨x, HXE⟩ : ∃ x, Hid (endF l7 e7 = x) := ⟨_, rfl⟩
    rw [HXE.out]
    have RE := hid (hf.heap RB.out (fun h => h))
    have TE := hid (hf.heap TB.out (fun h => h))
    have FE := hid (FB.out.then0 hf)
    have HBE2 := hid (HBB.out.frm0 hf)
    have hcb := run_str (P := Try.prog) 22 9 5 Try.underlying22 Try.underlying9 Try.underlying5 HBE2.out
    have hcl := run_str (P := Try.prog) 22 9 5 Try.underlying22 Try.underlying9 Try.underlying5 (HR.out _ FE.out)
    clear hf HBB HB RB TB FB HBE2
    by_cases hx : x = 0
    case neg =>
      have hno : Hid (¬ rreadOk l (read6 l)) := hid (fun h => by rw [HX6.out] at h; exact hx (HXE.out.symm.trans h.1))
      clear hcb hcl
      go_wp2_with (refine wpList_store_row rfl 28 (.tmp 2) (.tmp 88) (by with_reducible rfl) T #[.int .i64 0, .int .i64 0, .int .i64 0, .int .i64 0, .int .i64 0, .string ⟨#[]⟩, .int .i64 0, .int .i64 0, .int .i64 0, .int .i64 0, .int .i64 0, .int .i64 0, .int .i64 0, .int .i64 0, .int .i64 0, .int .i64 0, .int .i64 0, .int .i64 0] (by kernel_rfl) (by kernel_rfl) _ _ TE.out (by kernel_rfl) rfl (by simp [Value.oneCell']) ?_)
      refine bodyPost_ret (results_cell_slot (by rfl) _ _ T _ _ _ _ (.int .i64 2) (by kernel_rfl) (by kernel_rfl) (setRow_heap _ _ _ _ _ _ TE.out) Try.underlying28 rfl (by kernel_rfl)) rfl ⟨FE.out.setRow _ _ (by have := HTT.out; omega), .inr ⟨hno.out, rfl⟩⟩
    by_cases hbe : be = 0
    case neg =>
      have hno : Hid (¬ rreadOk l (read6 l)) := hid (fun h => by rw [HX6.out] at h; exact hbe (HBE.out.trans h.2.1))
      clear hcb hcl
      go_wp2_with (refine wpList_store_row rfl 28 (.tmp 2) (.tmp 88) (by with_reducible rfl) T #[.int .i64 0, .int .i64 0, .int .i64 0, .int .i64 0, .int .i64 0, .string ⟨#[]⟩, .int .i64 0, .int .i64 0, .int .i64 0, .int .i64 0, .int .i64 0, .int .i64 0, .int .i64 0, .int .i64 0, .int .i64 0, .int .i64 0, .int .i64 0, .int .i64 0] (by kernel_rfl) (by kernel_rfl) _ _ TE.out (by kernel_rfl) rfl (by simp [Value.oneCell']) ?_)
      refine bodyPost_ret (results_cell_slot (by rfl) _ _ T _ _ _ _ (.int .i64 2) (by kernel_rfl) (by kernel_rfl) (setRow_heap _ _ _ _ _ _ TE.out) Try.underlying28 rfl (by kernel_rfl)) rfl ⟨FE.out.setRow _ _ (by have := HTT.out; omega), .inr ⟨hno.out, rfl⟩⟩
    by_cases hst : strOfNums bs = strOfNums l
    case neg =>
      have hno : Hid (¬ rreadOk l (read6 l)) := hid (fun h => by rw [HX6.out] at h; exact hst ((congrArg strOfNums HBS.out).trans h.2.2))
      have hq : ((strOfNums bs).toList == (strOfNums l).toList) = false := by
        cases hc : ((strOfNums bs).toList == (strOfNums l).toList) with
        | false => rfl
        | true => exact absurd ((Go.Lib.bytes_beq_iff _ _).1 hc) hst
      clear hst
      go_wp2_with (refine wpList_store_row rfl 28 (.tmp 2) (.tmp 88) (by with_reducible rfl) T #[.int .i64 0, .int .i64 0, .int .i64 0, .int .i64 0, .int .i64 0, .string ⟨#[]⟩, .int .i64 0, .int .i64 0, .int .i64 0, .int .i64 0, .int .i64 0, .int .i64 0, .int .i64 0, .int .i64 0, .int .i64 0, .int .i64 0, .int .i64 0, .int .i64 0] (by kernel_rfl) (by kernel_rfl) _ _ TE.out (by kernel_rfl) rfl (by simp [Value.oneCell']) ?_)
      refine bodyPost_ret (results_cell_slot (by rfl) _ _ T _ _ _ _ (.int .i64 2) (by kernel_rfl) (by kernel_rfl) (setRow_heap _ _ _ _ _ _ TE.out) Try.underlying28 rfl (by kernel_rfl)) rfl ⟨FE.out.setRow _ _ (by have := HTT.out; omega), .inr ⟨hno.out, rfl⟩⟩
    have hok : Hid (rreadOk l (read6 l)) := hid (by rw [HX6.out]; exact ⟨HXE.out.trans hx, HBE.out.symm.trans hbe, (congrArg strOfNums HBS.out).symm.trans hst⟩)
    have hq : ((strOfNums bs).toList == (strOfNums l).toList) = true := (Go.Lib.bytes_beq_iff _ _).2 hst
    clear hst
    go_wp2_with (first | (refine wpList_load_row rfl 28 (.tmp 11) (by with_reducible rfl) (S9 + 1) (by kernel_rfl) _ _ _ _ RE.out Try.underlying28 rfl (by kernel_rfl) ?_) | (refine wpList_store_row rfl 28 (.tmp 2) (.tmp 89) (by with_reducible rfl) T #[.int .i64 n0, .int .i64 n1, .int .i64 n2, .int .i64 n3, .int .i64 n4, .string t, .int .i64 0, .int .i64 0, .int .i64 0, .int .i64 0, .int .i64 0, .int .i64 0, .int .i64 0, .int .i64 0, .int .i64 0, .int .i64 0, .int .i64 0, .int .i64 0] (by kernel_rfl) (by kernel_rfl) _ _ TE.out (by kernel_rfl) rfl (by simp [Value.oneCell']) ?_))
    refine bodyPost_ret (results_cell_slot (by rfl) _ _ T _ _ _ _ (.int .i64 0) (by kernel_rfl) (by kernel_rfl) (setRow_heap _ _ _ _ _ _ TE.out) Try.underlying28 rfl (by kernel_rfl)) rfl ⟨FE.out.setRow _ _ (by have := HTT.out; omega), .inl ⟨hok.out, by rw [HX6.out]; rfl⟩⟩
  have HK := hid hk
  have hk0 : w7.cell? ⟨S9 + 1, 0, none⟩ = some (.int .i64 n0) := cell_at R7.out 0
  go_wp2_with (refine wpList_load_row rfl 51 (.tmp 9) (by with_reducible rfl) S9 (by kernel_rfl) _ _ _ _ H7.out Try.underlying51 rfl (by kernel_rfl) ?_)
  clear hk0 hk
  refine (getList_calls w (.slice a6 l7.length c6) l7 e7 _ F7.out B6.out Y7.out.1 Y7.out.2).mono ?_
  rintro _ u8 ⟨v8, vl, rfl, hb, hrl, hown, hf⟩
  obtain ⟨a8, c8, rfl, _, _, _⟩ := hb.out.shape
  obtain ⟨ls, HLS⟩ : ∃ x, Hid (x = (listE l7 e7).1) := ⟨_, rfl⟩
  obtain ⟨l8, HL8⟩ : ∃ x, Hid (x = (listE l7 e7).2.1) := ⟨_, rfl⟩
  obtain ⟨e8, HE8⟩ : ∃ x, Hid (x = (listE l7 e7).2.2) := ⟨_, rfl⟩
  rw [← HL8.out] at hb
  rw [← HLS.out] at hrl
  rw [← HE8.out, ← HL8.out]
  obtain ⟨sl, cl, rfl, _⟩ := hrl.out.shape
  have B8 := hb
  have hlen : ls.length ≤ 64 := by rw [HLS.out]; exact listE_len _ _
  have RU := hid (hf.heap R7.out (fun h => h))
  have HU := hid (hf.heap H7.out (fun h => h))
  have TU := hid (hf.heap T7.out (fun h => h))
  have FU := hid (F7.out.then0 hf)
  have hlt : S9 + 1 < w7.heap.size := (Array.getElem?_eq_some_iff.1 R7.out).1
  have hno9 : Hid (∀ k, (Value.slice sl ls.length cl).ownBlock = some k → ¬ k = S9) := hid (fun k hk e => by have := hown.out k hk; omega)
  clear hf hb hown R7 H7 T7 F7 hlt
  unfold rv
  by_cases h12 : ls.length = 12
  case neg =>
    have HL12 := hid h12
    have hne12 : ¬ ((ls.length : Int) = 12) := by omega
    have hb12 : ((ls.length : Int) == 12) = false := beq_eq_false_iff_ne.2 hne12
    clear h12 hne12
    go_upto_region 16 with (refine wpList_store_at (by kernel_rfl) 51 (.tmp 9) (.tmp 62) (by with_reducible rfl) S9 0 (by kernel_rfl) #[.slice a8 l8.length c8, .int .i64 e8] (by kernel_rfl) _ _ (((Frm.refl M0 u8).alloc _).heap HU.out (fun h => h)) (by kernel_rfl) (by simp) (by simp [Value.oneCell']) ?_; intro w9 hh hp; have H9 : Hid (w9.heap[S9]? = some (.cells #[.slice a8 l8.length c8, .int .i64 e8] 51 (0, 0))) := putL_heap hh (by kernel_rfl); have R9 := hid (hp.heap (((Frm.refl M0 u8).alloc _).heap RU.out (fun h => h)) (by show ¬ S9 + 1 = S9; omega)); have T9 := hid (hp.heap (((Frm.refl M0 u8).alloc _).heap TU.out (fun h => h)) (by show ¬ T = S9; omega)); have F9 := hid ((FU.out.alloc _).trans hp (fun b hb e => by have e' : b = S9 := e; have := HTT.out; omega)); clear hh hp HU RU TU FU)
    have HX6 : Hid (read6 l = (⟨n0, n1, n2, n3, n4, t, Sp.zero⟩, l8, e8)) := hid (by unfold read6; rw [H5r.out]; refine (if_pos HK.out).trans ?_; simp only []; rw [← HL8.out, ← HE8.out, ← HLS.out, mkSp, if_neg HL12.out])
    have HV : Hid (Rc.val ⟨n0, n1, n2, n3, n4, t, Sp.zero⟩ = .agg #[.int .i64 n0, .int .i64 n1, .int .i64 n2, .int .i64 n3, .int .i64 n4, .string t, .int .i64 0, .int .i64 0, .int .i64 0, .int .i64 0, .int .i64 0, .int .i64 0, .int .i64 0, .int .i64 0, .int .i64 0, .int .i64 0, .int .i64 0, .int .i64 0]) := rfl
    go_wp2_with (refine wpList_load_row rfl 28 (.tmp 11) (by with_reducible rfl) (S9 + 1) (by kernel_rfl) _ _ _ _ R9.out Try.underlying28 rfl (by kernel_rfl) ?_)
    rw [← HV.out]
    refine (rbytes_calls ⟨n0, n1, n2, n3, n4, t, Sp.zero⟩ _ (by show t.size ≤ 100000; omega)).mono ?_
    rintro _ wb ⟨vb, rfl, hb, hf⟩
    rw [HV.out]
    obtain ⟨bs, HBS⟩ : ∃ x, Hid (x = (rbytesF ⟨n0, n1, n2, n3, n4, t, Sp.zero⟩).1) := ⟨_, rfl⟩
    obtain ⟨be, HBE⟩ : ∃ x, Hid (x = (rbytesF ⟨n0, n1, n2, n3, n4, t, Sp.zero⟩).2) := ⟨_, rfl⟩
    rw [← HBS.out] at hb
    rw [← HBE.out]
    have RB := hid (hf.heap R9.out (fun h => h))
    have HB := hid (hf.heap H9.out (fun h => h))
    have TB := hid (hf.heap T9.out (fun h => h))
    have FB := hid (F9.out.then0 hf)
    have HBB := hid hb
    clear hf hb
    go_wp2_with (refine wpList_load_row rfl 51 (.tmp 9) (by with_reducible rfl) S9 (by kernel_rfl) _ _ _ _ HB.out Try.underlying51 rfl (by kernel_rfl) ?_)
    refine (refEnd_calls (.slice a8 l8.length c8) l8 e8 _ (B8.out _ FB.out)).mono ?_
    rintro _ we ⟨rfl, hf⟩
    obtain ⟨x, HXE⟩ : ∃ x, Hid (endF l8 e8 = x) := ⟨_, rfl⟩
    rw [HXE.out]
    have RE := hid (hf.heap RB.out (fun h => h))
    have TE := hid (hf.heap TB.out (fun h => h))
    have FE := hid (FB.out.then0 hf)
    have HBE2 := hid (HBB.out.frm0 hf)
    have hcb := run_str (P := Try.prog) 22 9 5 Try.underlying22 Try.underlying9 Try.underlying5 HBE2.out
    have hcl := run_str (P := Try.prog) 22 9 5 Try.underlying22 Try.underlying9 Try.underlying5 (HR.out _ FE.out)
    clear hf HBB HB RB TB FB HBE2
    by_cases hx : x = 0
    case neg =>
      have hno : Hid (¬ rreadOk l (read6 l)) := hid (fun h => by rw [HX6.out] at h; exact hx (HXE.out.symm.trans h.1))
      clear hcb hcl
      go_wp2_with (refine wpList_store_row rfl 28 (.tmp 2) (.tmp 88) (by with_reducible rfl) T #[.int .i64 0, .int .i64 0, .int .i64 0, .int .i64 0, .int .i64 0, .string ⟨#[]⟩, .int .i64 0, .int .i64 0, .int .i64 0, .int .i64 0, .int .i64 0, .int .i64 0, .int .i64 0, .int .i64 0, .int .i64 0, .int .i64 0, .int .i64 0, .int .i64 0] (by kernel_rfl) (by kernel_rfl) _ _ TE.out (by kernel_rfl) rfl (by simp [Value.oneCell']) ?_)
      refine bodyPost_ret (results_cell_slot (by rfl) _ _ T _ _ _ _ (.int .i64 2) (by kernel_rfl) (by kernel_rfl) (setRow_heap _ _ _ _ _ _ TE.out) Try.underlying28 rfl (by kernel_rfl)) rfl ⟨FE.out.setRow _ _ (by have := HTT.out; omega), .inr ⟨hno.out, rfl⟩⟩
    by_cases hbe : be = 0
    case neg =>
      have hno : Hid (¬ rreadOk l (read6 l)) := hid (fun h => by rw [HX6.out] at h; exact hbe (HBE.out.trans h.2.1))
      clear hcb hcl
      go_wp2_with (refine wpList_store_row rfl 28 (.tmp 2) (.tmp 88) (by with_reducible rfl) T #[.int .i64 0, .int .i64 0, .int .i64 0, .int .i64 0, .int .i64 0, .string ⟨#[]⟩, .int .i64 0, .int .i64 0, .int .i64 0, .int .i64 0, .int .i64 0, .int .i64 0, .int .i64 0, .int .i64 0, .int .i64 0, .int .i64 0, .int .i64 0, .int .i64 0] (by kernel_rfl) (by kernel_rfl) _ _ TE.out (by kernel_rfl) rfl (by simp [Value.oneCell']) ?_)
      refine bodyPost_ret (results_cell_slot (by rfl) _ _ T _ _ _ _ (.int .i64 2) (by kernel_rfl) (by kernel_rfl) (setRow_heap _ _ _ _ _ _ TE.out) Try.underlying28 rfl (by kernel_rfl)) rfl ⟨FE.out.setRow _ _ (by have := HTT.out; omega), .inr ⟨hno.out, rfl⟩⟩
    by_cases hst : strOfNums bs = strOfNums l
    case neg =>
      have hno : Hid (¬ rreadOk l (read6 l)) := hid (fun h => by rw [HX6.out] at h; exact hst ((congrArg strOfNums HBS.out).trans h.2.2))
      have hq : ((strOfNums bs).toList == (strOfNums l).toList) = false := by
        cases hc : ((strOfNums bs).toList == (strOfNums l).toList) with
        | false => rfl
        | true => exact absurd ((Go.Lib.bytes_beq_iff _ _).1 hc) hst
      clear hst
      go_wp2_with (refine wpList_store_row rfl 28 (.tmp 2) (.tmp 88) (by with_reducible rfl) T #[.int .i64 0, .int .i64 0, .int .i64 0, .int .i64 0, .int .i64 0, .string ⟨#[]⟩, .int .i64 0, .int .i64 0, .int .i64 0, .int .i64 0, .int .i64 0, .int .i64 0, .int .i64 0, .int .i64 0, .int .i64 0, .int .i64 0, .int .i64 0, .int .i64 0] (by kernel_rfl) (by kernel_rfl) _ _ TE.out (by kernel_rfl) rfl (by simp [Value.oneCell']) ?_)
      refine bodyPost_ret (results_cell_slot (by rfl) _ _ T _ _ _ _ (.int .i64 2) (by kernel_rfl) (by kernel_rfl) (setRow_heap _ _ _ _ _ _ TE.out) Try.underlying28 rfl (by kernel_rfl)) rfl ⟨FE.out.setRow _ _ (by have := HTT.out; omega), .inr ⟨hno.out, rfl⟩⟩
    have hok : Hid (rreadOk l (read6 l)) := hid (by rw [HX6.out]; exact ⟨HXE.out.trans hx, HBE.out.symm.trans hbe, (congrArg strOfNums HBS.out).symm.trans hst⟩)
    have hq : ((strOfNums bs).toList == (strOfNums l).toList) = true := (Go.Lib.bytes_beq_iff _ _).2 hst
    clear hst
    go_wp2_with (first | (refine wpList_load_row rfl 28 (.tmp 11) (by with_reducible rfl) (S9 + 1) (by kernel_rfl) _ _ _ _ RE.out Try.underlying28 rfl (by kernel_rfl) ?_) | (refine wpList_store_row rfl 28 (.tmp 2) (.tmp 89) (by with_reducible rfl) T #[.int .i64 n0, .int .i64 n1, .int .i64 n2, .int .i64 n3, .int .i64 n4, .string t, .int .i64 0, .int .i64 0, .int .i64 0, .int .i64 0, .int .i64 0, .int .i64 0, .int .i64 0, .int .i64 0, .int .i64 0, .int .i64 0, .int .i64 0, .int .i64 0] (by kernel_rfl) (by kernel_rfl) _ _ TE.out (by kernel_rfl) rfl (by simp [Value.oneCell']) ?_))
    refine bodyPost_ret (results_cell_slot (by rfl) _ _ T _ _ _ _ (.int .i64 0) (by kernel_rfl) (by kernel_rfl) (setRow_heap _ _ _ _ _ _ TE.out) Try.underlying28 rfl (by kernel_rfl)) rfl ⟨FE.out.setRow _ _ (by have := HTT.out; omega), .inl ⟨hok.out, by rw [HX6.out]; rfl⟩⟩
  have HL12 := hid h12
  have hb12 : ((ls.length : Int) == 12) = true := beq_iff_eq.2 (by omega)
  clear h12
  go_wp2_with (refine wpList_store_at (by kernel_rfl) 51 (.tmp 9) (.tmp 62) (by with_reducible rfl) S9 0 (by kernel_rfl) #[.slice a8 l8.length c8, .int .i64 e8] (by kernel_rfl) _ _ (((Frm.refl M0 u8).alloc _).heap HU.out (fun h => h)) (by kernel_rfl) (by simp) (by simp [Value.oneCell']) ?_; intro w9 hh hp; have H9 : Hid (w9.heap[S9]? = some (.cells #[.slice a8 l8.length c8, .int .i64 e8] 51 (0, 0))) := putL_heap hh (by kernel_rfl); have R9 := hid (hp.heap (((Frm.refl M0 u8).alloc _).heap RU.out (fun h => h)) (by show ¬ S9 + 1 = S9; omega)); have T9 := hid (hp.heap (((Frm.refl M0 u8).alloc _).heap TU.out (fun h => h)) (by show ¬ T = S9; omega)); have F9 := hid ((FU.out.alloc _).trans hp (fun b hb e => by have e' : b = S9 := e; have := HTT.out; omega)); have L9 := hid ((hrl.out.frm0 ((Frm.refl M0 u8).alloc _)).frm hp (fun k hk e => hno9.out k hk e)); clear hh hp HU RU TU FU)
  refine (rof_calls _ ls _ L9.out HL12.out).mono ?_
  rintro _ u9 ⟨rfl, hf⟩
  obtain ⟨P, HP⟩ : ∃ x, Hid (x = Sp.ofL ls) := ⟨_, rfl⟩
  rw [← HP.out]
  have HPV : Hid (P.val = .agg #[.int .i64 P.s0, .int .i64 P.s1, .int .i64 P.s2, .int .i64 P.s3, .int .i64 P.s4, .int .i64 P.s5, .int .i64 P.s6, .int .i64 P.s7, .int .i64 P.s8, .int .i64 P.s9, .int .i64 P.s10, .int .i64 P.s11]) := rfl
  rw [HPV.out]
  have RU := hid (hf.heap R9.out (fun h => h))
  have HU := hid (hf.heap H9.out (fun h => h))
  have TU := hid (hf.heap T9.out (fun h => h))
  have FU := hid (F9.out.then0 hf)
  clear hf H9 R9 T9 F9 L9
  go_upto_region 16 with (refine wpList_store_at (by kernel_rfl) 26 (.tmp 68) (.tmp 67) (by with_reducible rfl) (S9 + 1) 6 (by kernel_rfl) #[.int .i64 P.s0, .int .i64 P.s1, .int .i64 P.s2, .int .i64 P.s3, .int .i64 P.s4, .int .i64 P.s5, .int .i64 P.s6, .int .i64 P.s7, .int .i64 P.s8, .int .i64 P.s9, .int .i64 P.s10, .int .i64 P.s11] (by kernel_rfl) _ _ RU.out (by kernel_rfl) (by simp) (by simp [Value.oneCell']) ?_; intro w10 hh hp; have R10 : Hid (w10.heap[S9 + 1]? = some (.cells #[.int .i64 n0, .int .i64 n1, .int .i64 n2, .int .i64 n3, .int .i64 n4, .string t, .int .i64 P.s0, .int .i64 P.s1, .int .i64 P.s2, .int .i64 P.s3, .int .i64 P.s4, .int .i64 P.s5, .int .i64 P.s6, .int .i64 P.s7, .int .i64 P.s8, .int .i64 P.s9, .int .i64 P.s10, .int .i64 P.s11] 28 (0, 0))) := putL_heap hh (by kernel_rfl); have H10 := hid (hp.heap HU.out (by show ¬ S9 = S9 + 1; omega)); have T10 := hid (hp.heap TU.out (by show ¬ T = S9 + 1; omega)); have F10 := hid (FU.out.trans hp (fun b hb e => by have e' : b = S9 + 1 := e; have := HTT.out; omega)); clear hh hp HU RU TU FU)
  have HX6 : Hid (read6 l = (⟨n0, n1, n2, n3, n4, t, P⟩, l8, e8)) := hid (by unfold read6; rw [H5r.out]; refine (if_pos HK.out).trans ?_; simp only []; rw [← HL8.out, ← HE8.out, ← HLS.out, mkSp, if_pos HL12.out, HP.out])
  have HV : Hid (Rc.val ⟨n0, n1, n2, n3, n4, t, P⟩ = .agg #[.int .i64 n0, .int .i64 n1, .int .i64 n2, .int .i64 n3, .int .i64 n4, .string t, .int .i64 P.s0, .int .i64 P.s1, .int .i64 P.s2, .int .i64 P.s3, .int .i64 P.s4, .int .i64 P.s5, .int .i64 P.s6, .int .i64 P.s7, .int .i64 P.s8, .int .i64 P.s9, .int .i64 P.s10, .int .i64 P.s11]) := rfl
  go_wp2_with (refine wpList_load_row rfl 28 (.tmp 11) (by with_reducible rfl) (S9 + 1) (by kernel_rfl) _ _ _ _ R10.out Try.underlying28 rfl (by kernel_rfl) ?_)
  rw [← HV.out]
  refine (rbytes_calls ⟨n0, n1, n2, n3, n4, t, P⟩ _ (by show t.size ≤ 100000; omega)).mono ?_
  rintro _ wb ⟨vb, rfl, hb, hf⟩
  rw [HV.out]
  obtain ⟨bs, HBS⟩ : ∃ x, Hid (x = (rbytesF ⟨n0, n1, n2, n3, n4, t, P⟩).1) := ⟨_, rfl⟩
  obtain ⟨be, HBE⟩ : ∃ x, Hid (x = (rbytesF ⟨n0, n1, n2, n3, n4, t, P⟩).2) := ⟨_, rfl⟩
  rw [← HBS.out] at hb
  rw [← HBE.out]
  have RB := hid (hf.heap R10.out (fun h => h))
  have HB := hid (hf.heap H10.out (fun h => h))
  have TB := hid (hf.heap T10.out (fun h => h))
  have FB := hid (F10.out.then0 hf)
  have HBB := hid hb
  clear hf hb
  go_wp2_with (refine wpList_load_row rfl 51 (.tmp 9) (by with_reducible rfl) S9 (by kernel_rfl) _ _ _ _ HB.out Try.underlying51 rfl (by kernel_rfl) ?_)
  refine (refEnd_calls (.slice a8 l8.length c8) l8 e8 _ (B8.out _ FB.out)).mono ?_
  rintro _ we ⟨rfl, hf⟩
  obtain ⟨x, HXE⟩ : ∃ x, Hid (endF l8 e8 = x) := ⟨_, rfl⟩
  rw [HXE.out]
  have RE := hid (hf.heap RB.out (fun h => h))
  have TE := hid (hf.heap TB.out (fun h => h))
  have FE := hid (FB.out.then0 hf)
  have HBE2 := hid (HBB.out.frm0 hf)
  have hcb := run_str (P := Try.prog) 22 9 5 Try.underlying22 Try.underlying9 Try.underlying5 HBE2.out
  have hcl := run_str (P := Try.prog) 22 9 5 Try.underlying22 Try.underlying9 Try.underlying5 (HR.out _ FE.out)
  clear hf HBB HB RB TB FB HBE2
  by_cases hx : x = 0
  case neg =>
    have hno : Hid (¬ rreadOk l (read6 l)) := hid (fun h => by rw [HX6.out] at h; exact hx (HXE.out.symm.trans h.1))
    clear hcb hcl
    go_wp2_with (refine wpList_store_row rfl 28 (.tmp 2) (.tmp 88) (by with_reducible rfl) T #[.int .i64 0, .int .i64 0, .int .i64 0, .int .i64 0, .int .i64 0, .string ⟨#[]⟩, .int .i64 0, .int .i64 0, .int .i64 0, .int .i64 0, .int .i64 0, .int .i64 0, .int .i64 0, .int .i64 0, .int .i64 0, .int .i64 0, .int .i64 0, .int .i64 0] (by kernel_rfl) (by kernel_rfl) _ _ TE.out (by kernel_rfl) rfl (by simp [Value.oneCell']) ?_)
    refine bodyPost_ret (results_cell_slot (by rfl) _ _ T _ _ _ _ (.int .i64 2) (by kernel_rfl) (by kernel_rfl) (setRow_heap _ _ _ _ _ _ TE.out) Try.underlying28 rfl (by kernel_rfl)) rfl ⟨FE.out.setRow _ _ (by have := HTT.out; omega), .inr ⟨hno.out, rfl⟩⟩
  by_cases hbe : be = 0
  case neg =>
    have hno : Hid (¬ rreadOk l (read6 l)) := hid (fun h => by rw [HX6.out] at h; exact hbe (HBE.out.trans h.2.1))
    clear hcb hcl
    go_wp2_with (refine wpList_store_row rfl 28 (.tmp 2) (.tmp 88) (by with_reducible rfl) T #[.int .i64 0, .int .i64 0, .int .i64 0, .int .i64 0, .int .i64 0, .string ⟨#[]⟩, .int .i64 0, .int .i64 0, .int .i64 0, .int .i64 0, .int .i64 0, .int .i64 0, .int .i64 0, .int .i64 0, .int .i64 0, .int .i64 0, .int .i64 0, .int .i64 0] (by kernel_rfl) (by kernel_rfl) _ _ TE.out (by kernel_rfl) rfl (by simp [Value.oneCell']) ?_)
    refine bodyPost_ret (results_cell_slot (by rfl) _ _ T _ _ _ _ (.int .i64 2) (by kernel_rfl) (by kernel_rfl) (setRow_heap _ _ _ _ _ _ TE.out) Try.underlying28 rfl (by kernel_rfl)) rfl ⟨FE.out.setRow _ _ (by have := HTT.out; omega), .inr ⟨hno.out, rfl⟩⟩
  by_cases hst : strOfNums bs = strOfNums l
  case neg =>
    have hno : Hid (¬ rreadOk l (read6 l)) := hid (fun h => by rw [HX6.out] at h; exact hst ((congrArg strOfNums HBS.out).trans h.2.2))
    have hq : ((strOfNums bs).toList == (strOfNums l).toList) = false := by
      cases hc : ((strOfNums bs).toList == (strOfNums l).toList) with
      | false => rfl
      | true => exact absurd ((Go.Lib.bytes_beq_iff _ _).1 hc) hst
    clear hst
    go_wp2_with (refine wpList_store_row rfl 28 (.tmp 2) (.tmp 88) (by with_reducible rfl) T #[.int .i64 0, .int .i64 0, .int .i64 0, .int .i64 0, .int .i64 0, .string ⟨#[]⟩, .int .i64 0, .int .i64 0, .int .i64 0, .int .i64 0, .int .i64 0, .int .i64 0, .int .i64 0, .int .i64 0, .int .i64 0, .int .i64 0, .int .i64 0, .int .i64 0] (by kernel_rfl) (by kernel_rfl) _ _ TE.out (by kernel_rfl) rfl (by simp [Value.oneCell']) ?_)
    refine bodyPost_ret (results_cell_slot (by rfl) _ _ T _ _ _ _ (.int .i64 2) (by kernel_rfl) (by kernel_rfl) (setRow_heap _ _ _ _ _ _ TE.out) Try.underlying28 rfl (by kernel_rfl)) rfl ⟨FE.out.setRow _ _ (by have := HTT.out; omega), .inr ⟨hno.out, rfl⟩⟩
  have hok : Hid (rreadOk l (read6 l)) := hid (by rw [HX6.out]; exact ⟨HXE.out.trans hx, HBE.out.symm.trans hbe, (congrArg strOfNums HBS.out).symm.trans hst⟩)
  have hq : ((strOfNums bs).toList == (strOfNums l).toList) = true := (Go.Lib.bytes_beq_iff _ _).2 hst
  clear hst
  go_wp2_with (first | (refine wpList_load_row rfl 28 (.tmp 11) (by with_reducible rfl) (S9 + 1) (by kernel_rfl) _ _ _ _ RE.out Try.underlying28 rfl (by kernel_rfl) ?_) | (refine wpList_store_row rfl 28 (.tmp 2) (.tmp 89) (by with_reducible rfl) T #[.int .i64 n0, .int .i64 n1, .int .i64 n2, .int .i64 n3, .int .i64 n4, .string t, .int .i64 P.s0, .int .i64 P.s1, .int .i64 P.s2, .int .i64 P.s3, .int .i64 P.s4, .int .i64 P.s5, .int .i64 P.s6, .int .i64 P.s7, .int .i64 P.s8, .int .i64 P.s9, .int .i64 P.s10, .int .i64 P.s11] (by kernel_rfl) (by kernel_rfl) _ _ TE.out (by kernel_rfl) rfl (by simp [Value.oneCell']) ?_))
  refine bodyPost_ret (results_cell_slot (by rfl) _ _ T _ _ _ _ (.int .i64 0) (by kernel_rfl) (by kernel_rfl) (setRow_heap _ _ _ _ _ _ TE.out) Try.underlying28 rfl (by kernel_rfl)) rfl ⟨FE.out.setRow _ _ (by have := HTT.out; omega), .inl ⟨hok.out, by rw [HX6.out]; rfl⟩⟩
end Go.Proofs.Ytinbidmgllmglaa
