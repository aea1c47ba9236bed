/- A net and the document's net beside it, in memory. No condition. -/
import Derived.Test.YtbepcohcdgfkaaaNz
import Derived.Test.YtbepcohcdgfkaaaNw
namespace Go.Proofs.Ytbepcohcdgfkaaa
set_option linter.unusedVariables false
set_option linter.unusedSimpArgs false
open Go.RowKit Go.Conc

/-- The net N at (nb, ch, vb), from B on; the document's net M in the block b8, its row in v. -/
structure Two (B : Nat) (w : World) (nb ch : Nat) (vb : Option Nat) (b8 : Nat) (v : Value) (N M : Net) : Prop where
  net : NetR w nb ch vb N
  from' : ∀ b, NF nb ch vb b → B ≤ b ∧ b ≠ b8
  box : w.heap[b8]? = some (.cells #[.int .i64 M.room, v, .int .i64 M.sent, .int .i64 M.lost] 48 (0, 0))
  rd : Rd w 6 v M.l.length (msgs M.l)
  vl : VL w v
  far : ∀ k, v.ownBlock = some k → k ≠ b8 ∧ ¬ NF nb ch vb k
  b8 : B ≤ b8

section
variable {B nb ch b8 : Nat} {w w' w2 : World} {vb : Option Nat} {v : Value} {N M N' M' : Net}
theorem Two.frm (h : Two B w nb ch vb b8 v N M) (hf : Frm M0 w w') : Two B w' nb ch vb b8 v N M :=
  ⟨h.net.frm hf (fun _ _ h => h), h.from', hf.heap h.box (fun h => h), h.rd.frm0 hf, h.vl.frm hf, h.far, h.b8⟩
theorem Two.turn (h : Two B w nb ch vb b8 v N M) (hB : B ≤ w.heap.size) (ht : Turned w w' nb ch vb N') : ∃ vb', Two B w' nb ch vb' b8 v N' M ∧ Frm (fun b => B ≤ b) w w' := by
  obtain ⟨vb', g1, g2, g3⟩ := ht
  have hlt8 : b8 < w.heap.size := (Array.getElem?_eq_some_iff.1 h.box).1
  have hn : ∀ k, NF nb ch vb' k → NF nb ch vb k ∨ w.heap.size ≤ k := by
    rintro k (rfl | rfl | hk)
    · exact .inl (.inl rfl)
    · exact .inl (.inr (.inl rfl))
    · rcases g3 with rfl | ⟨g, rfl, hg⟩
      · exact .inl (.inr (.inr hk))
      · cases hk; exact .inr hg
  refine ⟨vb', ⟨g1, fun b hb => ?_, g2.heap h.box (fun hh => (h.from' _ hh).2 rfl), h.rd.frm g2 (fun k hk => (h.far k hk).2), h.vl.frm g2, fun k hk => ⟨(h.far k hk).1, fun hh => ?_⟩, h.b8⟩, g2.mono (fun b _ hb => (h.from' b hb).1)⟩
  · rcases hn b hb with hb | hb
    · exact h.from' b hb
    · exact ⟨by omega, by omega⟩
  · rcases hn k hh with hh | hh
    · exact (h.far k hk).2 hh
    · have := h.vl k hk; omega
theorem Two.ref {w1 : World} {v' : Value} (h : Two B w nb ch vb b8 v N M) (hr : Rd w1 6 v' M'.l.length (msgs M'.l)) (hk : (∀ k, v'.ownBlock = some k → v.ownBlock = some k ∨ w.heap.size ≤ k) ∧ VL w1 v') (hf : Frm M0 w w1)
    (hf2 : Frm (fun b => b = b8) w1 w2) (hb : w2.heap[b8]? = some (.cells #[.int .i64 M'.room, v', .int .i64 M'.sent, .int .i64 M'.lost] 48 (0, 0))) : Two B w2 nb ch vb b8 v' N M' := by
  have hlt8 : b8 < w.heap.size := (Array.getElem?_eq_some_iff.1 h.box).1
  have hfar : ∀ k, v'.ownBlock = some k → k ≠ b8 ∧ ¬ NF nb ch vb k := by
    intro k hk'
    rcases hk.1 k hk' with h1 | h1
    · exact h.far k h1
    · exact ⟨by omega, fun hh => by have := h.net.lt k hh; omega⟩
  exact ⟨(h.net.frm hf (fun _ _ h => h)).frm hf2 (fun b hb => (h.from' b hb).2), h.from', hb, hr.frm hf2 (fun k hk' => (hfar k hk').1), hk.2.frm hf2, hfar, h.b8⟩
end
theorem four_put {w : World} {g : Nat} {a0 a1 a2 a3 : Value} {e : TypeId} (h : w.heap[g]? = some (.cells #[a0, a1, a2, a3] e (0, 0))) (b0 b1 b2 b3 : Value) :
    ∃ w2, w2 = ((((w.setCell ⟨g, 0, none⟩ b0).setCell ⟨g, 1, none⟩ b1).setCell ⟨g, 2, none⟩ b2).setCell ⟨g, 3, none⟩ b3) ∧ w2.heap[g]? = some (.cells #[b0, b1, b2, b3] e (0, 0)) ∧ Frm (fun b => b = g) w w2 :=
  ⟨_, rfl, (put4 h b0 b1 b2 b3).1, (put4 h b0 b1 b2 b3).2⟩
theorem fresh_of {M : Nat → Prop} {w4 w : World} (h : Frm M w4 w) : ∀ b, b < w4.heap.size → b = w.heap.size → w4.heap.size ≤ b := fun b hb e => by have := h.size; omega
theorem fresh_refl (w4 : World) : ∀ b, b < w4.heap.size → b = w4.heap.size → w4.heap.size ≤ b := fun b hb e => by omega
theorem Frm.up {w w' : World} (h : Frm M0 w w') (M : Nat → Prop) : Frm M w w' := h.mono (fun _ _ h => h.elim)
end Go.Proofs.Ytbepcohcdgfkaaa
