/- Three nets that lie apart. No condition. -/
import Derived.Test.YtbepcohcdgfkaaaNq
import Derived.Test.YtbepcohcdgfkaaaMs
namespace Go.Proofs.Ytbepcohcdgfkaaa
set_option linter.unusedVariables false
set_option linter.unusedSimpArgs false
open Go.RowKit Go.Conc

/-- Three nets, whose blocks lie apart, of which P tells. -/
def T3 (P : Nat → Prop) (w : World) (n1 c1 n2 c2 n3 c3 : Nat) (A1 A2 A3 : Net) : Prop :=
  ∃ v1 v2 v3, NetR w n1 c1 v1 A1 ∧ NetR w n2 c2 v2 A2 ∧ NetR w n3 c3 v3 A3 ∧ (∀ k, NF n1 c1 v1 k → NF n2 c2 v2 k → False) ∧ (∀ k, NF n2 c2 v2 k → NF n3 c3 v3 k → False) ∧ (∀ k, NF n1 c1 v1 k → NF n3 c3 v3 k → False) ∧
    (∀ k, NF n1 c1 v1 k → P k) ∧ (∀ k, NF n2 c2 v2 k → P k) ∧ (∀ k, NF n3 c3 v3 k → P k)
section
variable {P P' : Nat → Prop} {w w' : World} {n1 c1 n2 c2 n3 c3 : Nat} {A1 A2 A3 A' : Net}
theorem T3.rot (h : T3 P w n1 c1 n2 c2 n3 c3 A1 A2 A3) : T3 P w n2 c2 n3 c3 n1 c1 A2 A3 A1 := by
  obtain ⟨v1, v2, v3, h1, h2, h3, a12, a23, a13, b1, b2, b3⟩ := h
  exact ⟨v2, v3, v1, h2, h3, h1, a23, fun k x y => a13 k y x, fun k x y => a12 k y x, b2, b3, b1⟩
theorem T3.frm (h : T3 P w n1 c1 n2 c2 n3 c3 A1 A2 A3) (hf : Frm M0 w w') : T3 P w' n1 c1 n2 c2 n3 c3 A1 A2 A3 := by
  obtain ⟨v1, v2, v3, h1, h2, h3, r⟩ := h
  exact ⟨v1, v2, v3, h1.frm hf (fun _ _ h => h), h2.frm hf (fun _ _ h => h), h3.frm hf (fun _ _ h => h), r⟩
theorem T3.more (h : T3 P w n1 c1 n2 c2 n3 c3 A1 A2 A3) (hp : ∀ b, b < w.heap.size → P b → P' b) : T3 P' w n1 c1 n2 c2 n3 c3 A1 A2 A3 := by
  obtain ⟨v1, v2, v3, h1, h2, h3, a12, a23, a13, b1, b2, b3⟩ := h
  exact ⟨v1, v2, v3, h1, h2, h3, a12, a23, a13, fun k x => hp k (h1.lt k x) (b1 k x), fun k x => hp k (h2.lt k x) (b2 k x), fun k x => hp k (h3.lt k x) (b3 k x)⟩
theorem T3.turn (h : T3 P w n1 c1 n2 c2 n3 c3 A1 A2 A3) (hB : ∀ g, w.heap.size ≤ g → P g) {f : FuncId} {args : Array Value} {R : Value}
    (hc : ∀ v, NetR w n1 c1 v A1 → Calls Try.prog f args w fun r w' => r = .returned R ∧ Turned w w' n1 c1 v A') :
    Calls Try.prog f args w fun r w' => r = .returned R ∧ T3 P w' n1 c1 n2 c2 n3 c3 A' A2 A3 ∧ Frm P w w' := by
  obtain ⟨v1, v2, v3, h1, h2, h3, a12, a23, a13, b1, b2, b3⟩ := h
  refine (hc v1 h1).mono ?_
  rintro r w' ⟨rfl, vb', g1, g2, g3⟩
  have l2 := h2.lt
  have l3 := h3.lt
  have hn : ∀ k, NF n1 c1 vb' k → NF n1 c1 v1 k ∨ w.heap.size ≤ k := by
    rintro k (rfl | rfl | hk)
    · exact .inl (.inl rfl)
    · exact .inl (.inr (.inl rfl))
    · rcases g3 with rfl | ⟨g, rfl, hg⟩
      · exact .inl (.inr (.inr hk))
      · cases hk; exact .inr hg
  refine ⟨rfl, ⟨vb', v2, v3, g1, h2.frm g2 (fun b x y => a12 b y x), h3.frm g2 (fun b x y => a13 b y x), ?_, a23, ?_, ?_, b2, b3⟩, g2.mono (fun b _ x => b1 b x)⟩
  · intro k x y
    rcases hn k x with x | x
    · exact a12 k x y
    · have := l2 k y; omega
  · intro k x y
    rcases hn k x with x | x
    · exact a13 k x y
    · have := l3 k y; omega
  · intro k x
    rcases hn k x with x | x
    · exact b1 k x
    · exact hB k x
end

theorem pl_same (k n : Nat) (hn : 0 < n) : (pl (k : Int) n).toNat = k % n ∧ (pl ((k : Int) + n) n).toNat = k % n ∧ (pl (-(k : Int) - 1) n).toNat = k % n := by
  have e1 : (if (k : Int) < 0 then -((k : Int) + 1) else (k : Int)) = (k : Int) := by rw [if_neg (by omega)]
  have e2 : (if (k : Int) + n < 0 then -((k : Int) + n + 1) else (k : Int) + n) = ((k + n : Nat) : Int) := by rw [if_neg (by omega)]; simp
  have e3 : (if -(k : Int) - 1 < 0 then -(-(k : Int) - 1 + 1) else -(k : Int) - 1) = (k : Int) := by rw [if_pos (by omega)]; omega
  unfold pl
  rw [e1, e2, e3]
  refine ⟨?_, ?_, ?_⟩
  · rw [← Int.ofNat_tmod, Int.toNat_natCast]
  · rw [← Int.ofNat_tmod, Int.toNat_natCast, Nat.add_mod_right]
  · rw [← Int.ofNat_tmod, Int.toNat_natCast]
theorem take_at (L : List Mg) (x : Int) (j : Nat) (m : Mg) (hj : (pl x L.length).toNat = j) (h : L[j]? = some m) : ∃ N', (sentN L).take x = (N', m.good, true) := by
  obtain ⟨hk, rfl⟩ := List.getElem?_eq_some_iff.1 h
  have e : (sentN L).l.length = L.length := by simp [sentN]
  unfold Net.take
  rw [if_neg (by rw [e]; omega), e, hj]
  refine ⟨{ sentN L with l := (sentN L).l.eraseIdx j }, ?_⟩
  have : (sentN L).l.getD j Mg.zero = (L[j]).good := by
    simp [sentN, hk]
  rw [this]
end Go.Proofs.Ytbepcohcdgfkaaa
