/- Nets that step: what is known of their blocks. The document's example. No condition. -/
import Derived.Test.YtbepcohcdgfkaaaNg
import Derived.Deep.RegionHeld3
namespace Go.Proofs.Ytbepcohcdgfkaaa
set_option linter.unusedVariables false
set_option linter.unusedSimpArgs false
open Go.RowKit Go.Conc

/-- The net, of whose blocks P tells. -/
def NetP (P : Nat → Prop) (w : World) (nb c : Nat) (vb : Option Nat) (N : Net) : Prop := NetR w nb c vb N ∧ ∀ b, NF nb c vb b → P b
theorem NetP.turn {P : Nat → Prop} {w w' : World} {nb c : Nat} {vb : Option Nat} {N N' : Net} (h : NetP P w nb c vb N) (ht : Turned w w' nb c vb N') (hP : ∀ g, w.heap.size ≤ g → P g) :
    ∃ vb', NetP P w' nb c vb' N' ∧ Frm P w w' := by
  obtain ⟨vb', h1, h2, h3⟩ := ht
  refine ⟨vb', ⟨h1, fun b hb => ?_⟩, h2.mono (fun b _ hb => h.2 b hb)⟩
  rcases hb with rfl | rfl | hb
  · exact h.2 _ (.inl rfl)
  · exact h.2 _ (.inr (.inl rfl))
  · rcases h3 with rfl | ⟨g, rfl, hg⟩
    · exact h.2 _ (.inr (.inr hb))
    · cases hb; exact hP _ hg
theorem NetP.frm {P M : Nat → Prop} {w w' : World} {nb c : Nat} {vb : Option Nat} {N : Net} (h : NetP P w nb c vb N) (hf : Frm M w w') (hM : ∀ b, P b → ¬ M b) : NetP P w' nb c vb N :=
  ⟨h.1.frm hf (fun b hb => hM b (h.2 b hb)), h.2⟩
theorem NetP.more {P P' : Nat → Prop} {w : World} {nb c : Nat} {vb : Option Nat} {N : Net} (h : NetP P w nb c vb N) (hp : ∀ b, b < w.heap.size → P b → P' b) : NetP P' w nb c vb N :=
  ⟨h.1, fun b hb => hp b (h.1.lt b hb) (h.2 b hb)⟩

abbrev mA : Mg := ⟨1, 0, 0, 1, 0, 0⟩
abbrev mB : Mg := ⟨2, 0, 0, 2, 0, 0⟩

theorem mA_send : (Net.mk 4 [] 0 0).send mA = (⟨4, [mA], 1, 0⟩, 0) := by
  have h : rightB mA = true := by decide
  unfold Net.send
  rw [if_neg (by rw [h]; decide), if_pos (by decide)]
  simp [wrap64]
theorem mB_send : (Net.mk 4 [mA] 1 0).send mB = (⟨4, [mA, mB], 2, 0⟩, 0) := by
  have h : rightB mB = true := by decide
  unfold Net.send
  rw [if_neg (by rw [h]; decide), if_pos (by decide)]
  simp [wrap64]

theorem mAB_take : (Net.mk 4 [mA, mB] 2 0).take 1 = (⟨4, [mA], 2, 0⟩, mB, true) := by
  have h : (pl 1 2).toNat = 1 := by decide
  unfold Net.take
  rw [if_neg (by decide)]
  simp only [List.length_cons, List.length_nil, h]
  rfl
theorem mA_take : (Net.mk 4 [mA] 2 0).take 5 = (⟨4, [], 2, 0⟩, mA, true) := by
  have h : (pl 5 1).toNat = 0 := by decide
  unfold Net.take
  rw [if_neg (by decide)]
  simp only [List.length_cons, List.length_nil, h]
  rfl

set_option maxHeartbeats 1000000 in
theorem lives_calls (W : World) : Calls Try.prog 9 #[] W fun r w' => r = .returned (.bool true) ∧ Frm M0 W w' := by
  go_enter Try.func9, Try.ntmps9
  go_wp2_with fail
  refine (new_calls 4 W).mono ?_
  rintro r w1 ⟨rfl, hr1, hf1⟩
  have HR1 := hid hr1
  have HF1 := hid hf1
  clear hr1 hf1
  go_upto_region 4 with fail
  obtain ⟨w2, hw2⟩ : ∃ w2, w2 = (w1.alloc (.cells #[.int .i64 1, .int .i64 0, .int .i64 0, .int .i64 1, .int .i64 0, .int .i64 0] 29)).alloc (.cells #[.int .i64 2, .int .i64 0, .int .i64 0, .int .i64 2, .int .i64 0, .int .i64 0] 29) := ⟨_, rfl⟩
  have hf2 : Frm M0 w1 w2 := by rw [hw2]; exact ((Frm.refl _ _).alloc _).alloc _
  have hz : w2.heap.size = w1.heap.size + 2 := by rw [hw2]; simp
  have hz1 := HF1.out.size
  have hA : w2.heap[w1.heap.size]? = some (.cells #[.int .i64 1, .int .i64 0, .int .i64 0, .int .i64 1, .int .i64 0, .int .i64 0] 29 (0, 0)) := by
    rw [hw2]; exact ((Frm.refl M0 _).alloc _).heap (heap_alloc_new w1 _) (fun h => h)
  have hB : w2.heap[w1.heap.size + 1]? = some (.cells #[.int .i64 2, .int .i64 0, .int .i64 0, .int .i64 2, .int .i64 0, .int .i64 0] 29 (0, 0)) := by
    rw [hw2]
    have := heap_alloc_new (w1.alloc (.cells #[.int .i64 1, .int .i64 0, .int .i64 0, .int .i64 1, .int .i64 0, .int .i64 0] 29)) (.cells #[.int .i64 2, .int .i64 0, .int .i64 0, .int .i64 2, .int .i64 0, .int .i64 0] 29)
    simpa using this
  rw [← hw2]
  clear hw2
  have HN2 : Hid (NetP (fun b => W.heap.size ≤ b ∧ b ≠ w1.heap.size ∧ b ≠ w1.heap.size + 1) w2.drew (W.heap.size + 1) W.heap.size none ⟨4, [], 0, 0⟩) := by
    refine hid ⟨HR1.out.frm (hf2.then0 (Frm.refl M0 w2).drew) (fun _ _ h => h), fun b hb => ?_⟩
    have hl := HR1.out.lt b hb
    rcases hb with rfl | rfl | hb
    · omega
    · omega
    · cases hb
  have HF2 := hid (HF1.out.then0 hf2)
  have HA := hid hA
  have HB := hid hB
  have hS : w2.drew.cell? ⟨w1.heap.size, 0, none⟩ = some (.int .i64 1) ∧ w2.drew.cell? ⟨w1.heap.size, 1, none⟩ = some (.int .i64 0) ∧ w2.drew.cell? ⟨w1.heap.size, 2, none⟩ = some (.int .i64 0) ∧ w2.drew.cell? ⟨w1.heap.size, 3, none⟩ = some (.int .i64 1) ∧ w2.drew.cell? ⟨w1.heap.size, 4, none⟩ = some (.int .i64 0) ∧ w2.drew.cell? ⟨w1.heap.size, 5, none⟩ = some (.int .i64 0) ∧ w2.drew.cell? ⟨w1.heap.size + 1, 0, none⟩ = some (.int .i64 2) ∧ w2.drew.cell? ⟨w1.heap.size + 1, 1, none⟩ = some (.int .i64 0) ∧ w2.drew.cell? ⟨w1.heap.size + 1, 2, none⟩ = some (.int .i64 0) ∧ w2.drew.cell? ⟨w1.heap.size + 1, 3, none⟩ = some (.int .i64 2) ∧ w2.drew.cell? ⟨w1.heap.size + 1, 4, none⟩ = some (.int .i64 0) ∧ w2.drew.cell? ⟨w1.heap.size + 1, 5, none⟩ = some (.int .i64 0) :=
    ⟨cell_at hA 0, cell_at hA 1, cell_at hA 2, cell_at hA 3, cell_at hA 4, cell_at hA 5, cell_at hB 0, cell_at hB 1, cell_at hB 2, cell_at hB 3, cell_at hB 4, cell_at hB 5⟩
  have hSF : Hid (∀ w3, Frm (fun b => W.heap.size ≤ b ∧ b ≠ w1.heap.size ∧ b ≠ w1.heap.size + 1) w2 w3 → w3.cell? ⟨w1.heap.size, 0, none⟩ = some (.int .i64 1) ∧ w3.cell? ⟨w1.heap.size, 1, none⟩ = some (.int .i64 0) ∧ w3.cell? ⟨w1.heap.size, 2, none⟩ = some (.int .i64 0) ∧ w3.cell? ⟨w1.heap.size, 3, none⟩ = some (.int .i64 1) ∧ w3.cell? ⟨w1.heap.size, 4, none⟩ = some (.int .i64 0) ∧ w3.cell? ⟨w1.heap.size, 5, none⟩ = some (.int .i64 0) ∧ w3.cell? ⟨w1.heap.size + 1, 0, none⟩ = some (.int .i64 2) ∧ w3.cell? ⟨w1.heap.size + 1, 1, none⟩ = some (.int .i64 0) ∧ w3.cell? ⟨w1.heap.size + 1, 2, none⟩ = some (.int .i64 0) ∧ w3.cell? ⟨w1.heap.size + 1, 3, none⟩ = some (.int .i64 2) ∧ w3.cell? ⟨w1.heap.size + 1, 4, none⟩ = some (.int .i64 0) ∧ w3.cell? ⟨w1.heap.size + 1, 5, none⟩ = some (.int .i64 0)) := hid (fun w3 hf =>
    ⟨hf.cell (cell_at hA 0) (by simp), hf.cell (cell_at hA 1) (by simp), hf.cell (cell_at hA 2) (by simp), hf.cell (cell_at hA 3) (by simp), hf.cell (cell_at hA 4) (by simp), hf.cell (cell_at hA 5) (by simp),
     hf.cell (cell_at hB 0) (by simp), hf.cell (cell_at hB 1) (by simp), hf.cell (cell_at hB 2) (by simp), hf.cell (cell_at hB 3) (by simp), hf.cell (cell_at hB 4) (by simp), hf.cell (cell_at hB 5) (by simp)⟩)
  clear hA hB hf2
  have S3 : Hid (Calls Try.prog 11 #[pn (W.heap.size + 1), .agg #[.int .i64 1, .int .i64 0, .int .i64 0, .int .i64 1, .int .i64 0, .int .i64 0]] w2.drew fun r w3 => r = .returned (.int .i64 0) ∧ Hid (∃ vb, NetP (fun b => W.heap.size ≤ b ∧ b ≠ w1.heap.size ∧ b ≠ w1.heap.size + 1) w3 (W.heap.size + 1) W.heap.size vb ⟨4, [mA], 1, 0⟩) ∧
      Hid (Frm (fun b => W.heap.size ≤ b ∧ b ≠ w1.heap.size ∧ b ≠ w1.heap.size + 1) w2 w3)) := by
    have hs := send_calls _ _ _ _ mA _ HN2.out.1
    rw [mA_send] at hs
    refine hid (hs.mono ?_)
    rintro r w3 ⟨rfl, ht3⟩
    obtain ⟨vb3, hn3, hf3⟩ := HN2.out.turn ht3 (fun g (hg : w2.heap.size ≤ g) => by omega)
    exact ⟨rfl, ⟨vb3, hn3⟩, (Frm.refl _ w2).drew.same hf3⟩
  have S4 : Hid (∀ w3, Hid (∃ vb, NetP (fun b => W.heap.size ≤ b ∧ b ≠ w1.heap.size ∧ b ≠ w1.heap.size + 1) w3 (W.heap.size + 1) W.heap.size vb ⟨4, [mA], 1, 0⟩) → Hid (Frm (fun b => W.heap.size ≤ b ∧ b ≠ w1.heap.size ∧ b ≠ w1.heap.size + 1) w2 w3) →
      Calls Try.prog 11 #[pn (W.heap.size + 1), .agg #[.int .i64 2, .int .i64 0, .int .i64 0, .int .i64 2, .int .i64 0, .int .i64 0]] w3 fun r w4 => r = .returned (.int .i64 0) ∧ Hid (∃ vb, NetP (fun b => W.heap.size ≤ b ∧ b ≠ w1.heap.size ∧ b ≠ w1.heap.size + 1) w4 (W.heap.size + 1) W.heap.size vb ⟨4, [mA, mB], 2, 0⟩) ∧
      Hid (Frm (fun b => W.heap.size ≤ b ∧ b ≠ w1.heap.size ∧ b ≠ w1.heap.size + 1) w2 w4)) := by
    rintro w3 ⟨vb3, hn3⟩ hf3
    have hz3 := hf3.out.size
    have hs := send_calls _ _ _ _ mB _ hn3.1
    rw [mB_send] at hs
    refine hs.mono ?_
    rintro r w4 ⟨rfl, ht4⟩
    obtain ⟨vb4, hn4, hf4⟩ := hn3.turn ht4 (fun g hg => by omega)
    exact ⟨rfl, ⟨vb4, hn4⟩, hf3.out.same hf4⟩
  go_cut [4, 5] (fun s4 s5 wx => s4 = .int .i64 0 ∧ s5 = .int .i64 0 ∧ Hid (∃ vb, NetP (fun b => W.heap.size ≤ b ∧ b ≠ w1.heap.size ∧ b ≠ w1.heap.size + 1) wx (W.heap.size + 1) W.heap.size vb ⟨4, [mA, mB], 2, 0⟩) ∧ Hid (Frm (fun b => W.heap.size ≤ b ∧ b ≠ w1.heap.size ∧ b ≠ w1.heap.size + 1) w2 wx))
  case first =>
    go_region_held3 (fun wx => wx.cell? ⟨w1.heap.size, 0, none⟩ = some (.int .i64 1) ∧ wx.cell? ⟨w1.heap.size, 1, none⟩ = some (.int .i64 0) ∧ wx.cell? ⟨w1.heap.size, 2, none⟩ = some (.int .i64 0) ∧ wx.cell? ⟨w1.heap.size, 3, none⟩ = some (.int .i64 1) ∧ wx.cell? ⟨w1.heap.size, 4, none⟩ = some (.int .i64 0) ∧ wx.cell? ⟨w1.heap.size, 5, none⟩ = some (.int .i64 0) ∧ wx.cell? ⟨w1.heap.size + 1, 0, none⟩ = some (.int .i64 2) ∧ wx.cell? ⟨w1.heap.size + 1, 1, none⟩ = some (.int .i64 0) ∧ wx.cell? ⟨w1.heap.size + 1, 2, none⟩ = some (.int .i64 0) ∧ wx.cell? ⟨w1.heap.size + 1, 3, none⟩ = some (.int .i64 2) ∧ wx.cell? ⟨w1.heap.size + 1, 4, none⟩ = some (.int .i64 0) ∧ wx.cell? ⟨w1.heap.size + 1, 5, none⟩ = some (.int .i64 0)) (first | exact hSF.out _ HF4.out | exact hSF.out _ HF3.out | assumption)
      (first
        | (go_at_call 11; refine (S4.out _ HN3 HF3).mono ?_; rintro r w4 ⟨rfl, HN4, HF4⟩)
        | (go_at_call 11; refine S3.out.mono ?_; rintro r w3 ⟨rfl, HN3, HF3⟩))
    all_goals (go_wp2_with fail; go_meet; exact ⟨rfl, rfl, HN4, HF4⟩)
  case rest =>
    obtain ⟨rfl, rfl, HN4, HF4⟩ := hcut
    clear S3 S4 hS
    obtain ⟨vb4, hn4⟩ := HN4.out
    have HN := hid hn4
    have hz4 := HF4.out.size
    have HS4 := hid (hSF.out _ HF4.out)
    have ht := take_calls _ _ _ _ 1 (by decide) _ hn4.1
    rw [mAB_take] at ht
    have HT := hid ht
    clear HN4 hn4 ht
    go_wp2_with fail
    refine HT.out.mono ?_
    rintro r w5 ⟨rfl, ht5⟩
    obtain ⟨vb5, hn5, hf5⟩ := HN.out.turn ht5 (fun g hg => by omega)
    have hz5 := hf5.size
    have hf6 := (Frm.refl M0 w5).alloc (.cells #[.int .i64 2, .int .i64 0, .int .i64 0, .int .i64 2, .int .i64 0, .int .i64 0] 29)
    have hn6 : NetP (fun b => W.heap.size ≤ b ∧ b ≠ w1.heap.size ∧ b ≠ w1.heap.size + 1 ∧ b ≠ w5.heap.size) (w5.alloc (.cells #[.int .i64 2, .int .i64 0, .int .i64 0, .int .i64 2, .int .i64 0, .int .i64 0] 29)) (W.heap.size + 1) W.heap.size vb5 ⟨4, [mA], 2, 0⟩ :=
      (hn5.more (fun b hb h => ⟨h.1, h.2.1, h.2.2, by omega⟩)).frm hf6 (fun _ _ h => h)
    have ht := take_calls _ _ _ _ 5 (by decide) _ hn6.1
    rw [mA_take] at ht
    have HT2 := hid ht
    have HN6 := hid hn6
    have HF6 := hid ((HF4.out.same hf5).then0 hf6)
    have hc6 : (w5.alloc (.cells #[.int .i64 2, .int .i64 0, .int .i64 0, .int .i64 2, .int .i64 0, .int .i64 0] 29)).heap[w5.heap.size]? = some (.cells #[.int .i64 2, .int .i64 0, .int .i64 0, .int .i64 2, .int .i64 0, .int .i64 0] 29 (0, 0)) := heap_alloc_new w5 _
    have hz6 : (w5.alloc (.cells #[.int .i64 2, .int .i64 0, .int .i64 0, .int .i64 2, .int .i64 0, .int .i64 0] 29)).heap.size = w5.heap.size + 1 := by simp
    have HC6 := hid hc6
    have HZ6 := hid hz6
    have hsA := hid (hSF.out _ ((HF4.out.same hf5).then0 hf6))
    clear ht5 hn5 hf5 HT HN hn6 ht hf6 hc6 hz6
    rw [show mB.val = .agg #[.int .i64 2, .int .i64 0, .int .i64 0, .int .i64 2, .int .i64 0, .int .i64 0] from rfl]
    go_wp2_with fail
    refine HT2.out.mono ?_
    rintro r w7 ⟨rfl, ht7⟩
    obtain ⟨vb7, hn7, hf7⟩ := HN6.out.turn ht7 (fun g hg => by have := HZ6.out; omega)
    rw [show mA.val = .agg #[.int .i64 1, .int .i64 0, .int .i64 0, .int .i64 1, .int .i64 0, .int .i64 0] from rfl]
    have hz7 := hf7.size
    have hz6' := HZ6.out
    have hfa : Frm (fun b => W.heap.size ≤ b ∧ b ≠ w1.heap.size ∧ b ≠ w1.heap.size + 1) w2 (w7.alloc (.cells #[.int .i64 1, .int .i64 0, .int .i64 0, .int .i64 1, .int .i64 0, .int .i64 0] 29)) := (HF6.out.trans hf7 (fun b _ h => ⟨h.1, h.2.1, h.2.2.1⟩)).alloc _
    have hx6 : (w7.alloc (.cells #[.int .i64 1, .int .i64 0, .int .i64 0, .int .i64 1, .int .i64 0, .int .i64 0] 29)).heap[w5.heap.size]? = some (.cells #[.int .i64 2, .int .i64 0, .int .i64 0, .int .i64 2, .int .i64 0, .int .i64 0] 29 (0, 0)) := ((Frm.refl M0 w7).alloc _).heap (hf7.heap HC6.out (by simp)) (fun h => h)
    have hx8 : (w7.alloc (.cells #[.int .i64 1, .int .i64 0, .int .i64 0, .int .i64 1, .int .i64 0, .int .i64 0] 29)).heap[w7.heap.size]? = some (.cells #[.int .i64 1, .int .i64 0, .int .i64 0, .int .i64 1, .int .i64 0, .int .i64 0] 29 (0, 0)) := heap_alloc_new w7 _
    have hs := sent_calls _ _ _ _ _ (hn7.1.frm ((Frm.refl M0 w7).alloc (.cells #[.int .i64 1, .int .i64 0, .int .i64 0, .int .i64 1, .int .i64 0, .int .i64 0] 29)) (fun _ _ h => h))
    have hl := len_calls _ _ _ _ _ (hn7.1.frm ((Frm.refl M0 w7).alloc (.cells #[.int .i64 1, .int .i64 0, .int .i64 0, .int .i64 1, .int .i64 0, .int .i64 0] 29)) (fun _ _ h => h))
    obtain ⟨p0, p1, p2, p3, p4, p5, q0, q1, q2, q3, q4, q5⟩ := hSF.out _ hfa
    have r0 : (w7.alloc (.cells #[.int .i64 1, .int .i64 0, .int .i64 0, .int .i64 1, .int .i64 0, .int .i64 0] 29)).cell? ⟨w5.heap.size, 0, none⟩ = some (.int .i64 2) := cell_at hx6 0
    have s0 : (w7.alloc (.cells #[.int .i64 1, .int .i64 0, .int .i64 0, .int .i64 1, .int .i64 0, .int .i64 0] 29)).cell? ⟨w7.heap.size, 0, none⟩ = some (.int .i64 1) := cell_at hx8 0
    have r1 : (w7.alloc (.cells #[.int .i64 1, .int .i64 0, .int .i64 0, .int .i64 1, .int .i64 0, .int .i64 0] 29)).cell? ⟨w5.heap.size, 1, none⟩ = some (.int .i64 0) := cell_at hx6 1
    have s1 : (w7.alloc (.cells #[.int .i64 1, .int .i64 0, .int .i64 0, .int .i64 1, .int .i64 0, .int .i64 0] 29)).cell? ⟨w7.heap.size, 1, none⟩ = some (.int .i64 0) := cell_at hx8 1
    have r2 : (w7.alloc (.cells #[.int .i64 1, .int .i64 0, .int .i64 0, .int .i64 1, .int .i64 0, .int .i64 0] 29)).cell? ⟨w5.heap.size, 2, none⟩ = some (.int .i64 0) := cell_at hx6 2
    have s2 : (w7.alloc (.cells #[.int .i64 1, .int .i64 0, .int .i64 0, .int .i64 1, .int .i64 0, .int .i64 0] 29)).cell? ⟨w7.heap.size, 2, none⟩ = some (.int .i64 0) := cell_at hx8 2
    have r3 : (w7.alloc (.cells #[.int .i64 1, .int .i64 0, .int .i64 0, .int .i64 1, .int .i64 0, .int .i64 0] 29)).cell? ⟨w5.heap.size, 3, none⟩ = some (.int .i64 2) := cell_at hx6 3
    have s3 : (w7.alloc (.cells #[.int .i64 1, .int .i64 0, .int .i64 0, .int .i64 1, .int .i64 0, .int .i64 0] 29)).cell? ⟨w7.heap.size, 3, none⟩ = some (.int .i64 1) := cell_at hx8 3
    have r4 : (w7.alloc (.cells #[.int .i64 1, .int .i64 0, .int .i64 0, .int .i64 1, .int .i64 0, .int .i64 0] 29)).cell? ⟨w5.heap.size, 4, none⟩ = some (.int .i64 0) := cell_at hx6 4
    have s4 : (w7.alloc (.cells #[.int .i64 1, .int .i64 0, .int .i64 0, .int .i64 1, .int .i64 0, .int .i64 0] 29)).cell? ⟨w7.heap.size, 4, none⟩ = some (.int .i64 0) := cell_at hx8 4
    have r5 : (w7.alloc (.cells #[.int .i64 1, .int .i64 0, .int .i64 0, .int .i64 1, .int .i64 0, .int .i64 0] 29)).cell? ⟨w5.heap.size, 5, none⟩ = some (.int .i64 0) := cell_at hx6 5
    have s5 : (w7.alloc (.cells #[.int .i64 1, .int .i64 0, .int .i64 0, .int .i64 1, .int .i64 0, .int .i64 0] 29)).cell? ⟨w7.heap.size, 5, none⟩ = some (.int .i64 0) := cell_at hx8 5
    have HS := hid hs
    have HL := hid hl
    have HFA := hid hfa
    clear hs hl hfa hx6 hx8 hn7 hf7 ht7 hz hz1 hz4 hz5 hz7 hz6'
    go_wp2_with (first
      | (go_at_call 15; refine HS.out.mono ?_; rintro r wq ⟨rfl, rfl⟩)
      | (go_at_call 14; refine HL.out.mono ?_; rintro r wq ⟨rfl, rfl⟩))
    go_ret
    exact ⟨rfl, HF2.out.trans HFA.out (fun b hb h => absurd h.1 (by omega))⟩
end Go.Proofs.Ytbepcohcdgfkaaa
