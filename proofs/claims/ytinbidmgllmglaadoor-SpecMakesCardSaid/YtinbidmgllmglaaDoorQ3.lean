/- What holds in every world that grew out of one, but for some blocks. No condition. strings.Split, strings.TrimPrefix, strconv.Atoi as the walks here take them, and what they want of the library's variables. A number and its digits: what Atoi reads, what the reference counts. Plain Lean, no condition. The reference's Digits. spec.number, and the reference's Number. A text's pieces between single blanks: what Split hands back, what the reference gathers byte by byte. Plain Lean, no condition. A region that draws its order: the step of one operation. No condition. The reference's Words. spec.Read, and the reference's Read. The reference's Read of a spec. The example of the spec's layer. The walk of the reference's Same over lists of whole numbers: two that read as one list are the same. Two specs held against each other. No condition. SpecMakes: the walk of the law. No condition. -/
import Derived.Test.YtinbidmgllmglaaDoorFr
import Derived.Test.YtinbidmgllmglaaDoorWi
import Derived.Test.YtinbidmgllmglaaDoorSi
import Derived.Test.YtinbidmgllmglaaDoorCg
import Derived.Test.YtinbidmgllmglaaDoorRh
import Derived.Test.YtinbidmgllmglaaDoorSk
import Derived.Test.YtinbidmgllmglaaDoorSs
import Derived.Test.YtinbidmgllmglaaDoorSo
import Derived.Test.YtinbidmgllmglaaDoorPa
import Derived.Test.YtinbidmgllmglaaDoorKr
import Derived.Test.YtinbidmgllmglaaDoorSf
import Derived.Test.YtinbidmgllmglaaDoorWt
import Derived.Test.YtinbidmgllmglaaDoorCs
import Derived.Test.YtinbidmgllmglaaDoorFt
import Derived.Deep.QuietTactic
import Derived.BigQuiet
import Derived.Test.YtinbidmgllmglaaDoorKb
namespace Go.Proofs.YtinbidmgllmglaaDoor
set_option linter.unusedVariables false
set_option linter.unusedSimpArgs false
set_option maxRecDepth 20000
open Go.RowKit

theorem sb_cell {w : World} {g : Nat} {cur : Array Value} {e : TypeId} {f : Nat × Nat} (hh : w.heap[g]? = some (.cells cur e f)) (o : Nat) : w.cell? ⟨g, o, none⟩ = cur[o]? := by
  simp [World.cell?, hh]
theorem sb_free {w : World} {g : Nat} {cur : Array Value} {e : TypeId} (hh : w.heap[g]? = some (.cells cur e (0, 0))) (o : Nat) : w.frozen? ⟨g, o, none⟩ = false := by
  simp [World.frozen?, hh]
theorem sb_lt {w : World} {g : Nat} {o : Obj} (hh : w.heap[g]? = some o) : g < w.heap.size := (Array.getElem?_eq_some_iff.1 hh).1
/-- P holds in every world that grew out of w, whatever became of the blocks X. -/
def Sb (X : Nat → Prop) (w : World) (P : World → Prop) : Prop := ∀ wx, Frm X w wx → P wx
section
variable {X : Nat → Prop} {w w' : World} {P Q : World → Prop}
theorem Sb.now (h : Sb X w P) : P w := h w (Frm.refl _ _)
theorem Sb.step (h : Sb X w P) (hf : Frm M0 w w') : Sb X w' P := fun wx hx => h wx ((hf.mono (fun _ _ h => h.elim)).trans hx (fun _ _ h => h))
theorem Sb.stepX (h : Sb X w P) (hf : Frm X w w') : Sb X w' P := fun wx hx => h wx (hf.trans hx (fun _ _ h => h))
theorem Sb.at0 (h : Sb X w P) (hf : Frm M0 w w') : P w' := (h.step hf).now
theorem Sb.alloc (h : Sb X w P) (o : Obj) : Sb X (w.alloc o) P := h.step ((Frm.refl M0 w).alloc o)
theorem Sb.put (h : Sb X w P) (b o : Nat) (u : Value) (hb : X b) : Sb X (w.setCell ⟨b, o, none⟩ u) P := h.stepX ((Frm.refl X w).put b o u (fun _ => hb))
theorem Sb.drew (h : Sb X w P) : Sb X w.drew P := h.stepX ((Frm.refl X w).drew)
theorem Sb.drewN (h : Sb X w P) (n : Nat) : Sb X (w.drewN n) P := h.stepX ((Frm.refl X w).drewN n)
theorem Sb.and (h : Sb X w P) (k : Sb X w Q) : Sb X w (fun x => P x ∧ Q x) := fun wx hx => ⟨h wx hx, k wx hx⟩
theorem Sb.map (h : Sb X w P) (k : ∀ x, P x → Q x) : Sb X w Q := fun wx hx => k wx (h wx hx)
theorem Sb.heap {b : Nat} {o : Obj} (h : w.heap[b]? = some o) (hb : ¬ X b) : Sb X w (fun x => x.heap[b]? = some o) := fun wx hx => hx.heap h hb
theorem Sb.rd {size n : Nat} {v : Value} {xs : List Value} (h : Rd w size v n xs) (hb : ∀ k, v.ownBlock = some k → ¬ X k) : Sb X w (fun x => Rd x size v n xs) := fun wx hx => h.frm hx hb
theorem Sb.frm {W : World} (h : Frm X W w) : Sb X w (fun x => Frm X W x) := fun wx hx => h.trans hx (fun _ _ h => h)
theorem Sb.frm0 {W : World} (h : Frm M0 W w) (hX : ∀ b, X b → W.heap.size ≤ b) : Sb X w (fun x => Frm M0 W x) := fun wx hx => h.trans hx (fun b hb hm => by have := hX b hm; omega)
end
/-- The values of a region's operations. -/
def valsL : List Value → Nat → Value
  | [], _ => undef
  | v :: _, 0 => v
  | _ :: l, n + 1 => valsL l n
theorem valsL_zero (v : Value) (l : List Value) : valsL (v :: l) 0 = v := rfl
theorem valsL_succ (v : Value) (l : List Value) (n : Nat) : valsL (v :: l) (n + 1) = valsL l n := rfl
end Go.Proofs.YtinbidmgllmglaaDoor
namespace Go.Proofs.YtinbidmgllmglaaDoor
set_option linter.unusedVariables false
set_option linter.unusedSimpArgs false
set_option maxRecDepth 20000
open Go.RowKit

theorem var_frm {w w' : World} {name : String} {x : Array Value} (h : w.var? Tryd.prog name = some x) (hf : Frm M0 w w') : w'.var? Tryd.prog name = some x := by
  rw [← h]
  unfold World.var? at h ⊢
  obtain ⟨g, hg⟩ : ∃ g, Tryd.prog.globalNamed name = g := ⟨_, rfl⟩
  rw [hg] at h ⊢
  cases g with
  | none => rfl
  | some g =>
    simp only [Option.bind_some] at h ⊢
    have hb : g < w.heap.size := by
      apply Classical.byContradiction; intro hn
      rw [Array.getElem?_eq_none (by omega)] at h
      cases h
    rw [hf.block g hb (fun h => h)]
/-- The library's variables are as they were laid. -/
structure Glob (w : World) : Prop where
  tab : Tab w
  mx : ∃ m, w.cell? ⟨1, 0, none⟩ = some (.int .i64 m)
  syn : ∃ tp p, w.var? Tryd.prog "strconv.ErrSyntax" = some #[.iface tp p]
  rng : ∃ tp p, w.var? Tryd.prog "strconv.ErrRange" = some #[.iface tp p]
theorem Glob.frm {w w' : World} (h : Glob w) (hf : Frm M0 w w') : Glob w' := by
  obtain ⟨h1, ⟨m, h2⟩, ⟨t3, p3, h3⟩, ⟨t4, p4, h4⟩⟩ := h
  exact ⟨h1.frm hf, ⟨m, hf.cell h2 (fun h => h)⟩, ⟨t3, p3, var_frm h3 hf⟩, ⟨t4, p4, var_frm h4 hf⟩⟩
theorem frm_bytes (w : World) (e : TypeId) (s : ByteArray) : Frm M0 w (Lib.bytesWorld w e s) := ⟨rfl, rfl, rfl, by rw [Lib.bytesWorld_size]; omega, fun k hk _ => Lib.bytesWorld_at_old w e s k hk⟩

/-- The pieces of a text between single blanks. -/
def splitS (s : ByteArray) : List ByteArray := Lib.splitB ⟨#[32]⟩ 0 (Lib.countB s ⟨#[32]⟩) s
theorem splitS_len (s : ByteArray) : (splitS s).length = Lib.countB s ⟨#[32]⟩ + 1 := Lib.splitB_all _ (by decide) _ _ _ rfl
theorem split_calls (s : ByteArray) (w : World) (hs : s.size ≤ 1000000) (hg : Glob w) : Calls Tryd.prog 48 #[.string s, .string ⟨#[32]⟩] w fun e w' =>
    ∃ b, e = .returned (.slice (some ⟨b, 0, none⟩) (splitS s).length (splitS s).length) ∧ Rd w' 1 (.slice (some ⟨b, 0, none⟩) (splitS s).length (splitS s).length) (splitS s).length (strs (splitS s)) ∧ Frm M0 w w' := by
  obtain ⟨m, hm⟩ := hg.mx
  refine (Tryd.strings_Split s ⟨#[32]⟩ m w (by omega) hm (by decide)).mono ?_
  rintro e w' ⟨rfl, rfl⟩
  have hle : Lib.countB s ⟨#[32]⟩ ≤ s.size := Lib.countB_le _ (by decide) _ _ (Nat.le_refl _)
  refine ⟨w.heap.size, by rw [splitS_len], ⟨by rw [els_len strs_len], .inr ⟨⟨w.heap.size, 0, none⟩, (splitS s).length, rfl, Nat.le_refl _, by rw [splitS_len]; unfold maxLen; omega, fun j u hu => ?_⟩⟩, (Frm.refl M0 w).alloc _⟩
  rw [add_none, World.cell?_alloc_at _ _ _ _ rfl, Nat.zero_add]
  show ((splitS s).map Value.string).toArray[j]? = some u
  rw [List.getElem?_toArray, ← hu]
  rw [show strs (splitS s) = (splitS s).map Value.string from (List.map_eq_flatMap ..).symm]
theorem trim_calls (s p : ByteArray) (w : World) : Calls Tryd.prog 85 #[.string s, .string p] w fun e w' => e = .returned (.string (str (Lib.trimPrefix s.data.toList p.data.toList))) ∧ Frm M0 w w' :=
  (Tryd.strings_TrimPrefix s p w).mono fun e w' h => ⟨h.1, by rw [h.2]; exact Frm.refl _ _⟩
theorem atoi_ok (s : ByteArray) (v : Int) (w : World) (hs : s.size ≤ 1000000) (h : Lib.atoiAll s.data.toList = .ok v) : Calls Tryd.prog 84 #[.string s] w fun e w' => e = .returned (.tuple #[.int .i64 v, .nilIface]) ∧ Frm M0 w w' := by
  refine (Tryd.strconv_Atoi_ok s (by omega) v h w).mono ?_
  rintro e w' ⟨rfl, hw⟩
  refine ⟨rfl, ?_⟩
  rcases hw with rfl | ⟨t, rfl⟩
  · exact Frm.refl _ _
  · exact frm_bytes _ _ _
theorem atoi_no (s : ByteArray) (w : World) (hs : s.size ≤ 1000000) (hg : Glob w) (h : ∀ v, Lib.atoiAll s.data.toList ≠ .ok v) : Calls Tryd.prog 84 #[.string s] w fun e w' => ∃ n T N, e = .returned (.tuple #[.int .i64 n, .iface T (.pointer (some ⟨N, 0, none⟩))]) ∧ Frm M0 w w' := by
  cases hc : Lib.atoiAll s.data.toList
  · exact absurd hc (h _)
  · obtain ⟨t, p, hv⟩ := hg.syn
    exact (Tryd.strconv_Atoi_syntax_var s (by omega) hc t p w hv).mono fun e w' ⟨N, he, _, _, hb⟩ => ⟨_, _, N, he, frm_of hb⟩
  · obtain ⟨t, p, hv⟩ := hg.rng
    exact (Tryd.strconv_Atoi_range_var s (by omega) hc t p w hv).mono fun e w' ⟨N, he, _, _, hb⟩ => ⟨_, _, N, he, frm_of hb⟩
end Go.Proofs.YtinbidmgllmglaaDoor
namespace Go.Proofs.YtinbidmgllmglaaDoor
set_option linter.unusedVariables false
set_option linter.unusedSimpArgs false
set_option maxRecDepth 20000

/-- What the reference counts of digits. -/
def valL (acc : Int) (l : List UInt8) : Int := l.foldl (fun a c => 10 * a + (c.toNat : Int) - 48) acc
def isNeg (l : List UInt8) : Bool := l.head? == some 45
def valS (l : List UInt8) : Int := if isNeg l = true then -(valL 0 ((l.drop 1).take 10)) else valL 0 (l.take 10)
/-- How many digits there are. -/
def digN (l : List UInt8) : Nat := if isNeg l = true then l.length - 1 else l.length
/-- The number of a text, if it is one's. -/
def numF (l : List UInt8) : Option Int := if digN l ≤ 9 ∧ Lib.itoa (valS l) = l then some (valS l) else none

theorem dig_toNat {d : Nat} (h : d < 10) : (UInt8.ofNat (48 + d)).toNat = 48 + d := by
  rw [UInt8.toNat_ofNat']; omega
theorem dec_bytes : ∀ (N : Nat), ∀ c ∈ Lib.decDigits N, 48 ≤ c.toNat ∧ c.toNat ≤ 57 := by
  intro N
  induction N using Nat.strongRecOn with
  | ind N ih =>
    intro c hc
    rw [Lib.decDigits] at hc
    split at hc
    · rename_i h
      simp only [List.mem_singleton] at hc
      subst hc
      rw [dig_toNat h]; omega
    · rcases List.mem_append.1 hc with h1 | h1
      · exact ih (N / 10) (by omega) c h1
      · simp only [List.mem_singleton] at h1
        subst h1
        rw [dig_toNat (by omega)]; omega
theorem dec_ne (N : Nat) : Lib.decDigits N ≠ [] := by
  rw [Lib.decDigits]; split <;> simp
theorem dec_head (N : Nat) : ∃ c l, Lib.decDigits N = c :: l ∧ 48 ≤ c.toNat := by
  cases h : Lib.decDigits N with
  | nil => exact absurd h (dec_ne N)
  | cons c l => exact ⟨c, l, rfl, (dec_bytes N c (by rw [h]; simp)).1⟩
theorem valL_dec : ∀ (N : Nat), valL 0 (Lib.decDigits N) = N := by
  intro N
  induction N using Nat.strongRecOn with
  | ind N ih =>
    rw [Lib.decDigits]
    split
    · rename_i h
      simp only [valL, List.foldl_cons, List.foldl_nil, dig_toNat h]; omega
    · have h := ih (N / 10) (by omega)
      unfold valL at h ⊢
      rw [List.foldl_append, h]
      simp only [List.foldl_cons, List.foldl_nil, dig_toNat (show N % 10 < 10 by omega)]; omega
theorem parse_app (r : List UInt8) : ∀ (l : List UInt8) (acc : Nat), Lib.parseUint10 acc (l ++ r) = match Lib.parseUint10 acc l with | .ok a => Lib.parseUint10 a r | e => e := by
  intro l
  induction l with
  | nil => intro acc; rfl
  | cons c l ih =>
    intro acc
    simp only [List.cons_append, Lib.parseUint10]
    split
    · split
      · rfl
      · split
        · rfl
        · exact ih _
    · rfl
theorem parse_dec : ∀ (N : Nat), N < 18446744073709551616 → Lib.parseUint10 0 (Lib.decDigits N) = .ok N := by
  intro N
  induction N using Nat.strongRecOn with
  | ind N ih =>
    intro hN
    rw [Lib.decDigits]
    split
    · rename_i h
      simp only [Lib.parseUint10, dig_toNat h]
      rw [if_pos (by omega), if_neg (by omega), if_neg (by omega)]
      congr 1; omega
    · rw [parse_app, ih (N / 10) (by omega) (by omega)]
      simp only [Lib.parseUint10, dig_toNat (show N % 10 < 10 by omega)]
      rw [if_pos (by omega), if_neg (by omega), if_neg (by omega)]
      congr 1; omega
theorem neg_itoa (u : Int) : isNeg (Lib.itoa u) = decide (u < 0) := by
  unfold Lib.itoa isNeg
  by_cases h : u < 0
  · rw [if_pos h]; simp [h]
  · rw [if_neg h]
    obtain ⟨c, l, e, hc⟩ := dec_head u.toNat
    have : c ≠ 45 := by intro e; subst e; exact absurd hc (by decide)
    rw [e]; simp [h, this]
theorem atoi_itoa (u : Int) (h0 : -9223372036854775808 ≤ u) (h1 : u ≤ 9223372036854775807) : Lib.atoiAll (Lib.itoa u) = .ok u := by
  unfold Lib.itoa
  by_cases h : u < 0
  · rw [if_pos h]
    unfold Lib.atoiAll
    simp only []
    rw [if_pos (by right; rfl)]
    have hp : Lib.parseMag (Lib.decDigits u.natAbs) = .ok u.natAbs := by
      unfold Lib.parseMag; rw [if_neg (dec_ne _), parse_dec _ (by omega)]
    rw [hp]
    simp only []
    rw [if_neg (by intro hh; exact hh.1 rfl), if_neg (by omega), if_pos (by rfl)]
    congr 1; omega
  · rw [if_neg h]
    obtain ⟨c, l, e, hc⟩ := dec_head u.toNat
    have hb := dec_bytes u.toNat c (by rw [e]; simp)
    have hp : Lib.parseMag (Lib.decDigits u.toNat) = .ok u.toNat := by
      unfold Lib.parseMag; rw [if_neg (dec_ne _), parse_dec _ (by omega)]
    rw [e] at hp ⊢
    unfold Lib.atoiAll
    simp only []
    rw [if_neg (by omega), hp]
    simp only []
    rw [if_neg (by omega), if_neg (by omega), if_neg (by omega)]
    congr 1; omega
theorem itoa_inj {u v : Int} (h0 : -9223372036854775808 ≤ u ∧ u ≤ 9223372036854775807) (h1 : -9223372036854775808 ≤ v ∧ v ≤ 9223372036854775807) (h : Lib.itoa u = Lib.itoa v) : u = v := by
  have a := atoi_itoa u h0.1 h0.2
  rw [h, atoi_itoa v h1.1 h1.2] at a
  injection a with a
  exact a.symm
theorem val_itoa (u : Int) (h : digN (Lib.itoa u) ≤ 9) : valS (Lib.itoa u) = u := by
  unfold valS
  unfold digN at h
  rw [neg_itoa] at h ⊢
  by_cases hu : u < 0
  · simp only [hu, decide_true, if_true] at h ⊢
    unfold Lib.itoa at h ⊢
    rw [if_pos hu] at h ⊢
    simp only [List.drop_succ_cons, List.drop_zero, List.length_cons] at h ⊢
    rw [List.take_of_length_le (by omega), valL_dec]; omega
  · have hf : decide (u < 0) = false := by simpa using hu
    simp only [hf, Bool.false_eq_true, if_false] at h ⊢
    unfold Lib.itoa at h ⊢
    rw [if_neg hu] at h ⊢
    rw [List.take_of_length_le (by omega), valL_dec]; omega
theorem valL_snoc (l : List UInt8) (c : UInt8) : valL 0 (l ++ [c]) = 10 * valL 0 l + (c.toNat : Int) - 48 := by
  unfold valL; rw [List.foldl_append]; rfl
theorem valL_bound (l : List UInt8) : ∀ k, k ≤ l.length → -(23 * ((10 : Int) ^ k - 1)) ≤ valL 0 (l.take k) ∧ valL 0 (l.take k) ≤ 23 * ((10 : Int) ^ k - 1)
  | 0, _ => by simp [valL]
  | k + 1, h => by
    have ih := valL_bound l k (by omega)
    have e : l[k]? = some l[k] := List.getElem?_eq_getElem (by omega)
    rw [take_snoc e, valL_snoc, Int.pow_succ]
    have hc := l[k].toNat_lt
    omega
theorem valL_small (l : List UInt8) (k : Nat) (h : k ≤ l.length) (hk : k ≤ 10) : -229999999977 ≤ valL 0 (l.take k) ∧ valL 0 (l.take k) ≤ 229999999977 := by
  have hb := valL_bound l k h
  have hp : (10 : Int) ^ k ≤ 10 ^ 10 := by
    have : (10 : Nat) ^ k ≤ 10 ^ 10 := Nat.pow_le_pow_right (by omega) hk
    exact_mod_cast this
  have e : (10 : Int) ^ 10 = 10000000000 := rfl
  omega
theorem digN_itoa (u : Int) : digN (Lib.itoa u) = Lib.nDigits u.natAbs := by
  unfold digN
  rw [neg_itoa]
  by_cases hu : u < 0
  · simp only [hu, decide_true, if_true]
    unfold Lib.itoa
    rw [if_pos hu, List.length_cons, Lib.decDigits_length]; omega
  · have hf : decide (u < 0) = false := by simpa using hu
    simp only [hf, Bool.false_eq_true, if_false]
    unfold Lib.itoa
    rw [if_neg hu, Lib.decDigits_length, show u.toNat = u.natAbs by omega]
theorem small_itoa {u : Int} (h : digN (Lib.itoa u) ≤ 9) : -1000000000 < u ∧ u < 1000000000 := by
  rw [digN_itoa] at h
  have h1 := Lib.lt_pow_nDigits u.natAbs
  have h2 : (10 : Nat) ^ Lib.nDigits u.natAbs ≤ 10 ^ 9 := Nat.pow_le_pow_right (by omega) h
  have e : (10 : Nat) ^ 9 = 1000000000 := rfl
  omega
theorem numF_some {l : List UInt8} {u : Int} : numF l = some u ↔ digN l ≤ 9 ∧ Lib.itoa u = l := by
  unfold numF
  constructor
  · intro h
    split at h
    · rename_i hh
      injection h with h
      subst h
      exact hh
    · cases h
  · rintro ⟨h1, rfl⟩
    have hv := val_itoa u h1
    rw [if_pos ⟨h1, by rw [hv]⟩, hv]
theorem numF_small {l : List UInt8} {u : Int} (h : numF l = some u) : -1000000000 < u ∧ u < 1000000000 := by
  obtain ⟨h1, rfl⟩ := numF_some.1 h
  exact small_itoa h1
theorem numF_atoi {l : List UInt8} {u : Int} (h : numF l = some u) : Lib.atoiAll l = .ok u := by
  have hs := numF_small h
  obtain ⟨h1, rfl⟩ := numF_some.1 h
  exact atoi_itoa u (by omega) (by omega)
theorem numF_none {l : List UInt8} (h : ∀ v, Lib.atoiAll l ≠ .ok v) : numF l = none := by
  cases hn : numF l with
  | none => rfl
  | some u => exact absurd (numF_atoi hn) (h u)
theorem numF_of_atoi {l : List UInt8} {v : Int} (h : Lib.atoiAll l = .ok v) : numF l = if digN l ≤ 9 ∧ Lib.itoa v = l then some v else none := by
  split
  · rename_i hh; exact numF_some.2 hh
  · rename_i hh
    cases hn : numF l with
    | none => rfl
    | some u =>
      have := numF_atoi hn
      rw [h] at this
      injection this with this
      subst this
      exact absurd (numF_some.1 hn) hh
theorem trim_len (l : List UInt8) : (Lib.trimPrefix l [45]).length = digN l := by
  unfold Lib.trimPrefix Lib.hasPrefix digN isNeg
  cases l with
  | nil => rfl
  | cons c l =>
    by_cases h : c = 45
    · subst h; simp [List.isPrefixOf]
    · have h2 : ¬ (45 = c) := fun e => h e.symm
      simp [List.isPrefixOf, h, h2]
end Go.Proofs.YtinbidmgllmglaaDoor
namespace Go.Proofs.YtinbidmgllmglaaDoor
set_option linter.unusedVariables false
set_option linter.unusedSimpArgs false
set_option maxRecDepth 20000
open Go.RowKit

theorem dig_piece_fin : ∀ d : Fin 10, ((⟨#[48, 49, 50, 51, 52, 53, 54, 55, 56, 57]⟩ : ByteArray).extract d.val (d.val + 1)).data.toList = [UInt8.ofNat (48 + d.val)] := by decide
theorem dig_app (d : Nat) (h : d < 10) (acc : ByteArray) : (((⟨#[48, 49, 50, 51, 52, 53, 54, 55, 56, 57]⟩ : ByteArray).extract d (d + 1)) ++ acc).data.toList = UInt8.ofNat (48 + d) :: acc.data.toList := by
  have := dig_piece_fin ⟨d, h⟩
  rw [ByteArray.data_append, Array.toList_append, this]; rfl
theorem dec_step (m : Nat) (h : ¬ m < 10) : Lib.decDigits m = Lib.decDigits (m / 10) ++ [UInt8.ofNat (48 + m % 10)] := by
  rw [Lib.decDigits, dif_neg h]
theorem str_eq_of {s : ByteArray} {l : List UInt8} (h : s.data.toList = l) : s = str l := by rw [← h, str_of]
set_option maxHeartbeats 2000000 in
theorem digits_nat (N : Nat) (w : World) (hN : N ≤ 9223372036854775807) : Calls Tryd.prog 46 #[.int .i64 N] w fun e w' => e = .returned (.string (str (Lib.decDigits N))) ∧ w' = w := by
  have h1 : ((N : Int) == -9223372036854775808) = false := beq_eq_false_iff_ne.2 (by omega)
  have h2 : ¬ (N : Int) < 0 := by omega
  go_enter Tryd.func46, Tryd.ntmps46
  go_wp2_with fail
  go_loopw [0, 3] (fun n0 s3 wr => ∃ (m : Nat) (acc : ByteArray), n0 = .int .i64 m ∧ s3 = .string acc ∧ m ≤ 9223372036854775807 ∧ Hid (Lib.decDigits N = Lib.decDigits m ++ acc.data.toList) ∧ wr = w) (fun n0 _ _ => (intOf n0).toNat)
  case atStart => exact ⟨N, ⟨#[]⟩, rfl, rfl, hN, hid (by simp), rfl⟩
  case round =>
    clear h1 h2
    obtain ⟨m, acc, rfl, rfl, hm, HA, rfl⟩ := hrel
    have hsz : acc.size ≤ 21 := by
      have h : (Lib.decDigits N).length = (Lib.decDigits m).length + acc.size := by rw [HA.out, List.length_append, Array.length_toList]; rfl
      have h2 : (Lib.decDigits N).length ≤ 21 := by
        have h2 := Lib.itoa_length_le (N : Int) (by omega) (by omega)
        rwa [Lib.itoa_nonneg] at h2
      omega
    have hlim : ¬ 9223372036854775807 < min (m % 10 + 1) 10 - m % 10 + acc.size := by omega
    by_cases h0 : m / 10 = 0
    · have hb : ((m : Int) / 10 == 0) = true := beq_iff_eq.2 (by omega)
      go_wp2_with fail
      go_ret
      refine ⟨congrArg (fun x => Ending.returned (Value.string x)) (str_eq_of ?_), rfl⟩
      rw [dig_app _ (by omega), HA.out, Lib.decDigits_one (by omega), Nat.mod_eq_of_lt (by omega)]; rfl
    · have hb : ((m : Int) / 10 == 0) = false := beq_eq_false_iff_ne.2 (by omega)
      go_wp2_with fail
      refine ⟨⟨m / 10, _, by simp, rfl, by omega, hid ?_, trivial⟩, by simp [intOf]; omega⟩
      rw [dig_app _ (by omega), HA.out, dec_step m (by omega), List.append_assoc]; rfl
set_option maxHeartbeats 2000000 in
theorem ddigits_calls (n : Int) (w : World) (h0 : -9223372036854775808 ≤ n) (h1 : n ≤ 9223372036854775807) : Calls Tryd.prog 46 #[.int .i64 n] w fun e w' => e = .returned (.string (str (Lib.itoa n))) ∧ w' = w := by
  by_cases hn : n < 0
  case neg =>
    obtain ⟨N, rfl⟩ : ∃ N : Nat, n = N := ⟨n.toNat, by omega⟩
    rw [Lib.itoa_nonneg]
    exact digits_nat N w (by omega)
  by_cases hm : n = -9223372036854775808
  case pos =>
    subst hm
    go_enter Tryd.func46, Tryd.ntmps46
    go_wp2_with fail
    go_ret
    have e : Lib.itoa (-9223372036854775808) = [45, 57, 50, 50, 51, 51, 55, 50, 48, 51, 54, 56, 53, 52, 55, 55, 53, 56, 48, 56] := by decide +kernel
    exact ⟨by rw [e]; rfl, rfl⟩
  case neg =>
    obtain ⟨N, rfl⟩ : ∃ N : Nat, n = -(N : Int) := ⟨n.natAbs, by omega⟩
    have hb : ((-(N : Int)) == -9223372036854775808) = false := beq_eq_false_iff_ne.2 hm
    go_enter Tryd.func46, Tryd.ntmps46
    go_wp2_with fail
    refine (digits_nat N _ (by omega)).mono ?_
    rintro _ w1 ⟨rfl, rfl⟩
    have hz : (str (Lib.decDigits N)).size ≤ 21 := by
      have h2 := Lib.itoa_length_le (N : Int) (by omega) (by omega)
      rw [Lib.itoa_nonneg] at h2
      show (Lib.decDigits N).toArray.size ≤ 21
      rw [List.size_toArray]; exact h2
    obtain ⟨s, HS⟩ : ∃ s, Hid (str (Lib.decDigits N) = s) := ⟨_, rfl⟩
    rw [HS.out] at hz ⊢
    have hlim : ¬ 9223372036854775807 < 1 + s.size := by omega
    go_wp2_with fail
    go_ret
    refine ⟨congrArg (fun x => Ending.returned (Value.string x)) (str_eq_of ?_), rfl⟩
    rw [Lib.itoa_neg N (by omega), ← HS.out, ByteArray.data_append, Array.toList_append]; rfl
end Go.Proofs.YtinbidmgllmglaaDoor
namespace Go.Proofs.YtinbidmgllmglaaDoor
set_option linter.unusedVariables false
set_option linter.unusedSimpArgs false
set_option maxRecDepth 20000
open Go.RowKit

/-- What is told of a text's number. -/
def NumR (s : ByteArray) (n : Int) (b : Bool) : Prop := (b = true → numF s.data.toList = some n) ∧ (b = false → numF s.data.toList = none)
def NumP (s : ByteArray) (w : World) (e : Ending) (w' : World) : Prop := ∃ (n : Int) (b : Bool), e = .returned (.tuple #[.int .i64 n, .bool b]) ∧ Hid (NumR s n b) ∧ Frm M0 w w'
theorem str_size (l : List UInt8) : (str l).size = l.length := List.size_toArray
theorem str_beq (l : List UInt8) (s : ByteArray) : ((str l).toList == s.toList) = decide (l = s.data.toList) := by
  rw [Lib.toList_data, Lib.toList_data, str_list]
  rw [Bool.eq_iff_iff]; simp

set_option maxRecDepth 20000 in
set_option maxHeartbeats 4000000 in
theorem snumber_calls (s : ByteArray) (w : World) (hs : s.size ≤ 1000000) (hg : Glob w) : Calls Tryd.prog 49 #[.string s] w (NumP s w) := by
  by_cases hok : ∃ v, Lib.atoiAll s.data.toList = .ok v
  case neg =>
    have HN : Hid (numF s.data.toList = none) := hid (numF_none fun v h => hok ⟨v, h⟩)
    have HC := hid (atoi_no s w hs hg fun v h => hok ⟨v, h⟩)
    clear hok hg
    go_enter Tryd.func49, Tryd.ntmps49
    go_wp2_with fail
    refine HC.out.mono ?_
    rintro _ w1 ⟨n, T, N, rfl, hf⟩
    have HF := hid hf
    clear hf
    go_wp2_with fail
    go_ret2
    exact ⟨n, false, rfl, hid ⟨fun h => (by cases h), fun _ => HN.out⟩, HF.out⟩
  obtain ⟨v, hv⟩ := hok
  have hb := Lib.atoiAll_bounds hv
  have HNF := hid (numF_of_atoi hv)
  have HC := hid (atoi_ok s v w hs hv)
  have HG := hid hg
  have HI : Hid (∀ wx, Frm M0 w wx → Calls Tryd.prog 44 #[.int .i64 v] wx fun e w' => e = .returned (.string (str (Lib.itoa v))) ∧ Frm M0 wx w') := hid fun wx hx => itoa_calls v wx (by omega) (by omega) (hg.frm hx).tab
  clear hv hg hb
  obtain ⟨x, HX⟩ : ∃ x, Hid (str (Lib.trimPrefix s.data.toList [45]) = x) := ⟨_, rfl⟩
  have hx : x.size = digN s.data.toList := by rw [← HX.out, str_size, trim_len]
  obtain ⟨y, HY⟩ : ∃ y, Hid (str (Lib.itoa v) = y) := ⟨_, rfl⟩
  rw [HY.out] at HI
  have hy : (y.toList == s.toList) = decide (Lib.itoa v = s.data.toList) := by rw [← HY.out, str_beq]
  by_cases h1 : Lib.itoa v = s.data.toList
  case neg =>
    have hy' : (y.toList == s.toList) = false := by rw [hy]; exact decide_eq_false h1
    have HN : Hid (numF s.data.toList = none) := hid (by rw [HNF.out, if_neg (fun h => h1 h.2)])
    clear hy hx h1
    go_enter Tryd.func49, Tryd.ntmps49
    go_wp2_with fail
    refine HC.out.mono ?_
    rintro _ w1 ⟨rfl, hf⟩
    have HF := hid hf
    clear hf
    go_wp2_with fail
    refine (HI.out _ HF.out).mono ?_
    rintro _ w2 ⟨rfl, hf⟩
    have HF2 := hid (HF.out.then0 hf)
    clear hf
    go_wp2_with fail
    go_ret2
    exact ⟨v, false, rfl, hid ⟨fun h => (by cases h), fun _ => HN.out⟩, HF2.out⟩
  have hy' : (y.toList == s.toList) = true := by rw [hy]; exact decide_eq_true h1
  have HXX : Hid (x.size = digN s.data.toList) := hid hx
  have HE := hid h1
  clear hy hx h1
  go_enter Tryd.func49, Tryd.ntmps49
  go_wp2_with fail
  refine HC.out.mono ?_
  rintro _ w1 ⟨rfl, hf⟩
  have HF := hid hf
  clear hf
  go_wp2_with fail
  refine (HI.out _ HF.out).mono ?_
  rintro _ w2 ⟨rfl, hf⟩
  have HF2 := hid (HF.out.then0 hf)
  clear hf
  go_wp2_with fail
  refine (trim_calls s _ _).mono ?_
  rintro _ w3 ⟨rfl, hf⟩
  have HF3 := hid (HF2.out.then0 hf)
  clear hf
  rw [show (⟨#[45]⟩ : ByteArray).data.toList = [45] from rfl, HX.out]
  go_wp2_with fail
  go_ret2
  refine ⟨v, decide ((x.size : Int) ≤ 9), rfl, hid ⟨fun h => ?_, fun h => ?_⟩, HF3.out⟩
  · have := of_decide_eq_true h
    have hx := HXX.out
    rw [HNF.out, if_pos ⟨by omega, HE.out⟩]
  · have := of_decide_eq_false h
    have hx := HXX.out
    rw [HNF.out, if_neg (fun h => by omega)]

theorem sb_index {s : ByteArray} {i : Nat} (h : i < s.size) : s.data.toList[i]? = some s[i] := by
  rw [List.getElem?_eq_getElem (by simpa using h)]; rfl
set_option maxRecDepth 20000 in
set_option maxHeartbeats 4000000 in
theorem rnumber_calls (s : ByteArray) (w : World) (hs : s.size ≤ 1000000) : Calls Tryd.prog 51 #[.string s] w (NumP s w) := by
  by_cases h0 : 0 < s.size
  case neg =>
    have he : s.size = 0 := by omega
    have HNG : Hid (isNeg s.data.toList = false) := hid (by
      have : s.data.toList = [] := List.eq_nil_of_length_eq_zero (by simpa using he)
      rw [this]; rfl)
    have h0' : ¬ (0 : Int) < s.size := by omega
    clear h0 he
    go_enter Tryd.func51, Tryd.ntmps51
    go_wp2_with fail
    go_loopw [4, 6] (fun s4 s6 wr => ∃ (j : Nat) (y : Int), 0 ≤ j ∧ j ≤ s.size ∧ j ≤ 10 ∧ s4 = .int .i64 y ∧ s6 = .int .i64 j ∧ Hid (y = valL 0 ((s.data.toList.drop 0).take (j - 0))) ∧ wr = w) (fun _ i _ => s.size - (intOf i).toNat)
    case atStart => exact ⟨0, 0, by omega, by omega, by omega, rfl, rfl, hid (by simp [valL]), rfl⟩
    case round =>
      obtain ⟨j, y, hj0, hj1, hj2, rfl, rfl, HV, rfl⟩ := hrel
      have hy := valL_small (s.data.toList.drop 0) (j - 0) (by rw [List.length_drop]; simp; omega) (by omega)
      rw [← HV.out] at hy
      by_cases hlt : j < s.size ∧ j < 10
      · obtain ⟨hl1, hl2⟩ := hlt
        have hl2' : (j : Int) < 10 := by omega
        have hc := s[j].toNat_lt
        have HN : Hid (10 * y + ((s[j].toNat : Nat) : Int) - 48 = valL 0 ((s.data.toList.drop 0).take (j + 1 - 0))) := hid (by
          have e : (s.data.toList.drop 0)[j - 0]? = some s[j] := by
            rw [List.getElem?_drop, show 0 + (j - 0) = j by omega]; exact sb_index hl1
          rw [show j + 1 - 0 = (j - 0) + 1 by omega, take_snoc e, valL_snoc, HV.out])
        go_wp2_with fail
        exact ⟨⟨j + 1, _, by omega, by omega, by omega, rfl, by go_num, HN, trivial⟩, by simp [intOf]; omega⟩
      · have HS : Hid (valS s.data.toList = y) := hid (by
          have e1 : (s.data.toList.drop 0).take (j - 0) = (s.data.toList.drop 0).take 10 := by
            by_cases h : j = 10
            · rw [h]
            · have hje : j = s.size := by omega
              rw [List.take_of_length_le (by rw [List.length_drop]; simp; omega), List.take_of_length_le (by rw [List.length_drop]; simp; omega)]
          unfold valS
          rw [HNG.out, HV.out, e1]; simp)
        have HDG : Hid (digN s.data.toList = s.size - 0) := hid (by unfold digN; rw [HNG.out]; simp)
        have hb : ((0 : Int) == 1) = false := rfl
        obtain ⟨n, hn⟩ : ∃ n, n = y := ⟨_, rfl⟩
        rw [← hn] at HS
        have hn1 : -229999999977 ≤ n ∧ n ≤ 229999999977 := by omega
        have HD := hid (fun wx : World => ddigits_calls n wx (by omega) (by omega))
        rw [hn] at HD
        have HNN := hid hn
        clear hn HV
        by_cases h9 : s.size ≤ 9
        · have hh9 : (s.size : Int) ≤ 9 := by omega
          by_cases he : j < s.size
          · have he2 : ¬ (j : Int) < 10 := by omega
            go_wp2_with fail
            refine (HD.out _).mono ?_
            rintro _ w1 ⟨rfl, hw⟩
            subst hw
            rw [← HNN.out]
            have hx := str_beq (Lib.itoa n) s
            obtain ⟨x, HX⟩ : ∃ x, Hid (str (Lib.itoa n) = x) := ⟨_, rfl⟩
            rw [HX.out] at hx ⊢
            go_wp2_with fail
            go_ret2
            exact ⟨n, decide (Lib.itoa n = s.data.toList), by first | rfl | (rw [HNN.out]), hid ⟨fun h => (by unfold numF; rw [HS.out, if_pos ⟨by have := HDG.out; omega, of_decide_eq_true h⟩]), fun h => (by unfold numF; rw [HS.out, if_neg (fun h2 => of_decide_eq_false h h2.2)])⟩, Frm.refl _ _⟩
          · go_wp2_with fail
            refine (HD.out _).mono ?_
            rintro _ w1 ⟨rfl, hw⟩
            subst hw
            rw [← HNN.out]
            have hx := str_beq (Lib.itoa n) s
            obtain ⟨x, HX⟩ : ∃ x, Hid (str (Lib.itoa n) = x) := ⟨_, rfl⟩
            rw [HX.out] at hx ⊢
            go_wp2_with fail
            go_ret2
            exact ⟨n, decide (Lib.itoa n = s.data.toList), by first | rfl | (rw [HNN.out]), hid ⟨fun h => (by unfold numF; rw [HS.out, if_pos ⟨by have := HDG.out; omega, of_decide_eq_true h⟩]), fun h => (by unfold numF; rw [HS.out, if_neg (fun h2 => of_decide_eq_false h h2.2)])⟩, Frm.refl _ _⟩
        · have hh9 : ¬ (s.size : Int) ≤ 9 := by omega
          have HZ : Hid (numF s.data.toList = none) := hid (by unfold numF; rw [if_neg (fun h => by have := HDG.out; omega)])
          by_cases he : j < s.size
          · have he2 : ¬ (j : Int) < 10 := by omega
            go_wp2_with fail
            go_ret2
            exact ⟨_, false, rfl, hid ⟨fun h => (by cases h), fun _ => HZ.out⟩, Frm.refl _ _⟩
          · go_wp2_with fail
            go_ret2
            exact ⟨_, false, rfl, hid ⟨fun h => (by cases h), fun _ => HZ.out⟩, Frm.refl _ _⟩
  have HH : Hid (s.data.toList.head? = some s[0]) := hid (by rw [List.head?_eq_getElem?]; exact sb_index h0)
  by_cases hn : s[0].toNat = 45
  · have hb : (((s[0].toNat : Nat) : Int) == 45) = true := by simp [hn]
    have HNG : Hid (isNeg s.data.toList = true) := hid (by
      unfold isNeg; rw [HH.out]
      have : s[0] = 45 := UInt8.toNat_inj.1 hn
      rw [this]; rfl)
    have HQ := hid hn
    clear hn
    go_enter Tryd.func51, Tryd.ntmps51
    go_wp2_with fail
    clear hb
    go_loopw [4, 6] (fun s4 s6 wr => ∃ (j : Nat) (y : Int), 1 ≤ j ∧ j ≤ s.size ∧ j ≤ 11 ∧ s4 = .int .i64 y ∧ s6 = .int .i64 j ∧ Hid (y = valL 0 ((s.data.toList.drop 1).take (j - 1))) ∧ wr = w) (fun _ i _ => s.size - (intOf i).toNat)
    case atStart => exact ⟨1, 0, by omega, by omega, by omega, rfl, rfl, hid (by simp [valL]), rfl⟩
    case round =>
      obtain ⟨j, y, hj0, hj1, hj2, rfl, rfl, HV, rfl⟩ := hrel
      have hy := valL_small (s.data.toList.drop 1) (j - 1) (by rw [List.length_drop]; simp; omega) (by omega)
      rw [← HV.out] at hy
      by_cases hlt : j < s.size ∧ j < 11
      · obtain ⟨hl1, hl2⟩ := hlt
        have hl2' : (j : Int) < 11 := by omega
        have hc := s[j].toNat_lt
        have HN : Hid (10 * y + ((s[j].toNat : Nat) : Int) - 48 = valL 0 ((s.data.toList.drop 1).take (j + 1 - 1))) := hid (by
          have e : (s.data.toList.drop 1)[j - 1]? = some s[j] := by
            rw [List.getElem?_drop, show 1 + (j - 1) = j by omega]; exact sb_index hl1
          rw [show j + 1 - 1 = (j - 1) + 1 by omega, take_snoc e, valL_snoc, HV.out])
        go_wp2_with fail
        exact ⟨⟨j + 1, _, by omega, by omega, by omega, rfl, by go_num, HN, trivial⟩, by simp [intOf]; omega⟩
      · have HS : Hid (valS s.data.toList = -y) := hid (by
          have e1 : (s.data.toList.drop 1).take (j - 1) = (s.data.toList.drop 1).take 10 := by
            by_cases h : j = 11
            · rw [h]
            · have hje : j = s.size := by omega
              rw [List.take_of_length_le (by rw [List.length_drop]; simp; omega), List.take_of_length_le (by rw [List.length_drop]; simp; omega)]
          unfold valS
          rw [HNG.out, HV.out, e1]; simp)
        have HDG : Hid (digN s.data.toList = s.size - 1) := hid (by unfold digN; rw [HNG.out]; simp)
        have hb : ((1 : Int) == 1) = true := rfl
        obtain ⟨n, hn⟩ : ∃ n, n = -y := ⟨_, rfl⟩
        rw [← hn] at HS
        have hn1 : -229999999977 ≤ n ∧ n ≤ 229999999977 := by omega
        have HD := hid (fun wx : World => ddigits_calls n wx (by omega) (by omega))
        rw [hn] at HD
        have HNN := hid hn
        clear hn HV
        by_cases h9 : s.size ≤ 10
        · have hh9 : (s.size : Int) ≤ 10 := by omega
          by_cases he : j < s.size
          · have he2 : ¬ (j : Int) < 11 := by omega
            go_wp2_with fail
            refine (HD.out _).mono ?_
            rintro _ w1 ⟨rfl, hw⟩
            subst hw
            rw [← HNN.out]
            have hx := str_beq (Lib.itoa n) s
            obtain ⟨x, HX⟩ : ∃ x, Hid (str (Lib.itoa n) = x) := ⟨_, rfl⟩
            rw [HX.out] at hx ⊢
            go_wp2_with fail
            go_ret2
            exact ⟨n, decide (Lib.itoa n = s.data.toList), by first | rfl | (rw [HNN.out]), hid ⟨fun h => (by unfold numF; rw [HS.out, if_pos ⟨by have := HDG.out; omega, of_decide_eq_true h⟩]), fun h => (by unfold numF; rw [HS.out, if_neg (fun h2 => of_decide_eq_false h h2.2)])⟩, Frm.refl _ _⟩
          · go_wp2_with fail
            refine (HD.out _).mono ?_
            rintro _ w1 ⟨rfl, hw⟩
            subst hw
            rw [← HNN.out]
            have hx := str_beq (Lib.itoa n) s
            obtain ⟨x, HX⟩ : ∃ x, Hid (str (Lib.itoa n) = x) := ⟨_, rfl⟩
            rw [HX.out] at hx ⊢
            go_wp2_with fail
            go_ret2
            exact ⟨n, decide (Lib.itoa n = s.data.toList), by first | rfl | (rw [HNN.out]), hid ⟨fun h => (by unfold numF; rw [HS.out, if_pos ⟨by have := HDG.out; omega, of_decide_eq_true h⟩]), fun h => (by unfold numF; rw [HS.out, if_neg (fun h2 => of_decide_eq_false h h2.2)])⟩, Frm.refl _ _⟩
        · have hh9 : ¬ (s.size : Int) ≤ 10 := by omega
          have HZ : Hid (numF s.data.toList = none) := hid (by unfold numF; rw [if_neg (fun h => by have := HDG.out; omega)])
          by_cases he : j < s.size
          · have he2 : ¬ (j : Int) < 11 := by omega
            go_wp2_with fail
            go_ret2
            exact ⟨_, false, rfl, hid ⟨fun h => (by cases h), fun _ => HZ.out⟩, Frm.refl _ _⟩
          · go_wp2_with fail
            go_ret2
            exact ⟨_, false, rfl, hid ⟨fun h => (by cases h), fun _ => HZ.out⟩, Frm.refl _ _⟩
  · have hb : (((s[0].toNat : Nat) : Int) == 45) = false := by simp; omega
    have HNG : Hid (isNeg s.data.toList = false) := hid (by
      unfold isNeg; rw [HH.out]
      have : s[0] ≠ 45 := fun e => hn (by rw [e]; rfl)
      simp [this])
    clear hn
    go_enter Tryd.func51, Tryd.ntmps51
    go_wp2_with fail
    clear hb
    go_loopw [4, 6] (fun s4 s6 wr => ∃ (j : Nat) (y : Int), 0 ≤ j ∧ j ≤ s.size ∧ j ≤ 10 ∧ s4 = .int .i64 y ∧ s6 = .int .i64 j ∧ Hid (y = valL 0 ((s.data.toList.drop 0).take (j - 0))) ∧ wr = w) (fun _ i _ => s.size - (intOf i).toNat)
    case atStart => exact ⟨0, 0, by omega, by omega, by omega, rfl, rfl, hid (by simp [valL]), rfl⟩
    case round =>
      obtain ⟨j, y, hj0, hj1, hj2, rfl, rfl, HV, rfl⟩ := hrel
      have hy := valL_small (s.data.toList.drop 0) (j - 0) (by rw [List.length_drop]; simp; omega) (by omega)
      rw [← HV.out] at hy
      by_cases hlt : j < s.size ∧ j < 10
      · obtain ⟨hl1, hl2⟩ := hlt
        have hl2' : (j : Int) < 10 := by omega
        have hc := s[j].toNat_lt
        have HN : Hid (10 * y + ((s[j].toNat : Nat) : Int) - 48 = valL 0 ((s.data.toList.drop 0).take (j + 1 - 0))) := hid (by
          have e : (s.data.toList.drop 0)[j - 0]? = some s[j] := by
            rw [List.getElem?_drop, show 0 + (j - 0) = j by omega]; exact sb_index hl1
          rw [show j + 1 - 0 = (j - 0) + 1 by omega, take_snoc e, valL_snoc, HV.out])
        go_wp2_with fail
        exact ⟨⟨j + 1, _, by omega, by omega, by omega, rfl, by go_num, HN, trivial⟩, by simp [intOf]; omega⟩
      · have HS : Hid (valS s.data.toList = y) := hid (by
          have e1 : (s.data.toList.drop 0).take (j - 0) = (s.data.toList.drop 0).take 10 := by
            by_cases h : j = 10
            · rw [h]
            · have hje : j = s.size := by omega
              rw [List.take_of_length_le (by rw [List.length_drop]; simp; omega), List.take_of_length_le (by rw [List.length_drop]; simp; omega)]
          unfold valS
          rw [HNG.out, HV.out, e1]; simp)
        have HDG : Hid (digN s.data.toList = s.size - 0) := hid (by unfold digN; rw [HNG.out]; simp)
        have hb : ((0 : Int) == 1) = false := rfl
        obtain ⟨n, hn⟩ : ∃ n, n = y := ⟨_, rfl⟩
        rw [← hn] at HS
        have hn1 : -229999999977 ≤ n ∧ n ≤ 229999999977 := by omega
        have HD := hid (fun wx : World => ddigits_calls n wx (by omega) (by omega))
        rw [hn] at HD
        have HNN := hid hn
        clear hn HV
        by_cases h9 : s.size ≤ 9
        · have hh9 : (s.size : Int) ≤ 9 := by omega
          by_cases he : j < s.size
          · have he2 : ¬ (j : Int) < 10 := by omega
            go_wp2_with fail
            refine (HD.out _).mono ?_
            rintro _ w1 ⟨rfl, hw⟩
            subst hw
            rw [← HNN.out]
            have hx := str_beq (Lib.itoa n) s
            obtain ⟨x, HX⟩ : ∃ x, Hid (str (Lib.itoa n) = x) := ⟨_, rfl⟩
            rw [HX.out] at hx ⊢
            go_wp2_with fail
            go_ret2
            exact ⟨n, decide (Lib.itoa n = s.data.toList), by first | rfl | (rw [HNN.out]), hid ⟨fun h => (by unfold numF; rw [HS.out, if_pos ⟨by have := HDG.out; omega, of_decide_eq_true h⟩]), fun h => (by unfold numF; rw [HS.out, if_neg (fun h2 => of_decide_eq_false h h2.2)])⟩, Frm.refl _ _⟩
          · go_wp2_with fail
            refine (HD.out _).mono ?_
            rintro _ w1 ⟨rfl, hw⟩
            subst hw
            rw [← HNN.out]
            have hx := str_beq (Lib.itoa n) s
            obtain ⟨x, HX⟩ : ∃ x, Hid (str (Lib.itoa n) = x) := ⟨_, rfl⟩
            rw [HX.out] at hx ⊢
            go_wp2_with fail
            go_ret2
            exact ⟨n, decide (Lib.itoa n = s.data.toList), by first | rfl | (rw [HNN.out]), hid ⟨fun h => (by unfold numF; rw [HS.out, if_pos ⟨by have := HDG.out; omega, of_decide_eq_true h⟩]), fun h => (by unfold numF; rw [HS.out, if_neg (fun h2 => of_decide_eq_false h h2.2)])⟩, Frm.refl _ _⟩
        · have hh9 : ¬ (s.size : Int) ≤ 9 := by omega
          have HZ : Hid (numF s.data.toList = none) := hid (by unfold numF; rw [if_neg (fun h => by have := HDG.out; omega)])
          by_cases he : j < s.size
          · have he2 : ¬ (j : Int) < 10 := by omega
            go_wp2_with fail
            go_ret2
            exact ⟨_, false, rfl, hid ⟨fun h => (by cases h), fun _ => HZ.out⟩, Frm.refl _ _⟩
          · go_wp2_with fail
            go_ret2
            exact ⟨_, false, rfl, hid ⟨fun h => (by cases h), fun _ => HZ.out⟩, Frm.refl _ _⟩
end Go.Proofs.YtinbidmgllmglaaDoor
namespace Go.Proofs.YtinbidmgllmglaaDoor
set_option linter.unusedVariables false
set_option linter.unusedSimpArgs false
set_option maxRecDepth 20000
open Go.RowKit

def splitL : List UInt8 → List (List UInt8)
  | [] => [[]]
  | c :: l => if c = 32 then [] :: splitL l else match splitL l with | x :: r => (c :: x) :: r | [] => [[c]]
theorem splitL_ne (l : List UInt8) : ∃ x r, splitL l = x :: r := by
  cases l with
  | nil => exact ⟨_, _, rfl⟩
  | cons c l =>
    unfold splitL
    split
    · exact ⟨_, _, rfl⟩
    · split <;> exact ⟨_, _, rfl⟩
theorem splitL_cons_ne {c : UInt8} {l x : List UInt8} {r : List (List UInt8)} (h : c ≠ 32) (e : splitL l = x :: r) : splitL (c :: l) = (c :: x) :: r := by
  rw [splitL, if_neg h, e]
theorem splitL_blank (l : List UInt8) : splitL (32 :: l) = [] :: splitL l := by rw [splitL, if_pos rfl]
/-- One byte more. -/
def snocW (W : List (List UInt8)) (c : UInt8) : List (List UInt8) := if c = 32 then W ++ [[]] else W.dropLast ++ [W.getLastD [] ++ [c]]
theorem snocW_cons (x : List UInt8) (W : List (List UInt8)) (c : UInt8) (h : W ≠ []) : snocW (x :: W) c = x :: snocW W c := by
  obtain ⟨y, r, rfl⟩ := List.exists_cons_of_ne_nil h
  unfold snocW
  split
  · rfl
  · rw [List.dropLast_cons_cons, List.cons_append]
    simp [List.getLastD]
theorem splitL_snoc : ∀ (l : List UInt8) (c : UInt8), splitL (l ++ [c]) = snocW (splitL l) c
  | [], c => by
    show splitL (c :: []) = snocW [[]] c
    by_cases h : c = 32
    · subst h; rw [splitL_blank]; rfl
    · rw [splitL_cons_ne h (show splitL [] = [] :: [] from rfl)]; unfold snocW; rw [if_neg h]; rfl
  | a :: l, c => by
    have ih := splitL_snoc l c
    obtain ⟨x, r, e⟩ := splitL_ne l
    rw [List.cons_append]
    by_cases h : a = 32
    · subst h
      rw [splitL_blank, splitL_blank, ih, snocW_cons _ _ _ (by rw [e]; simp)]
    · have e1 := splitL_cons_ne h e
      rw [e1]
      rw [e] at ih
      cases r with
      | nil =>
        by_cases hc : c = 32
        · unfold snocW at ih ⊢
          rw [if_pos hc] at ih ⊢
          rw [splitL_cons_ne h ih]; rfl
        · unfold snocW at ih ⊢
          rw [if_neg hc] at ih ⊢
          have ih' : splitL (l ++ [c]) = (x ++ [c]) :: [] := ih
          rw [splitL_cons_ne h ih']; rfl
      | cons y r =>
        rw [snocW_cons _ _ _ (by simp)] at ih ⊢
        rw [splitL_cons_ne h ih]
theorem index_cons (b : UInt8) (l : List UInt8) : Lib.index (b :: l) [32] = if b = 32 then 0 else if Lib.index l [32] = -1 then -1 else Lib.index l [32] + 1 := by
  rw [Lib.index]
  by_cases h : b = 32
  · subst h; simp [List.isPrefixOf]
  · have h2 : ¬ 32 = b := fun e => h e.symm
    simp [List.isPrefixOf, h, h2]
theorem splitL_miss : ∀ (l : List UInt8), Lib.index l [32] = -1 → splitL l = [l]
  | [], _ => rfl
  | b :: l, h => by
    rw [index_cons] at h
    by_cases hb : b = 32
    · rw [if_pos hb] at h; omega
    · rw [if_neg hb] at h
      by_cases hl : Lib.index l [32] = -1
      · exact splitL_cons_ne hb (splitL_miss l hl)
      · rw [if_neg hl] at h
        have := Lib.index_ge l [32]
        omega
theorem splitL_hit : ∀ (l : List UInt8) (i : Nat), Lib.index l [32] = i → splitL l = l.take i :: splitL (l.drop (i + 1))
  | [], i, h => by
    have : Lib.index [] [32] = -1 := rfl
    omega
  | b :: l, i, h => by
    rw [index_cons] at h
    by_cases hb : b = 32
    · rw [if_pos hb] at h
      obtain rfl : i = 0 := by omega
      subst hb
      rw [splitL_blank]; rfl
    · rw [if_neg hb] at h
      by_cases hl : Lib.index l [32] = -1
      · rw [if_pos hl] at h; omega
      · rw [if_neg hl] at h
        have hg := Lib.index_ge l [32]
        obtain ⟨j, rfl⟩ : ∃ j, i = j + 1 := ⟨i - 1, by omega⟩
        have ih := splitL_hit l j (by omega)
        rw [splitL_cons_ne hb ih]; rfl
theorem splitB_list : ∀ (k : Nat) (s : ByteArray), Lib.countB s ⟨#[32]⟩ = k → (Lib.splitB ⟨#[32]⟩ 0 k s).map (·.data.toList) = splitL s.data.toList
  | 0, s, hk => by
    rcases Lib.indexB_cases s ⟨#[32]⟩ with hix | ⟨i, hix, _⟩
    · rw [Lib.splitB_zero, splitL_miss _ hix]; rfl
    · have := Lib.countB_hit s ⟨#[32]⟩ i (by decide) hix; omega
  | k + 1, s, hk => by
    rcases Lib.indexB_cases s ⟨#[32]⟩ with hix | ⟨i, hix, hroom⟩
    · rw [Lib.countB_miss s _ hix] at hk; omega
    · have hc := Lib.countB_hit s ⟨#[32]⟩ i (by decide) hix
      rw [Lib.splitB_hit _ 0 k s i hix, List.map_cons, splitB_list k _ (by omega), splitL_hit _ i hix]
      congr 1
      · rw [← Lib.toList_data, Lib.extract_toList]; simp
      · congr 1
        rw [← Lib.toList_data, Lib.extract_toList]
        show List.take (s.size - (i + 1)) (List.drop (i + 1) s.data.toList) = _
        rw [List.take_of_length_le (by rw [List.length_drop]; simp)]
theorem splitS_list (s : ByteArray) : (splitS s).map (·.data.toList) = splitL s.data.toList := splitB_list _ s rfl
theorem splitL_len : ∀ (l : List UInt8), (splitL l).length ≤ l.length + 1
  | [] => by simp [splitL]
  | c :: l => by
    have ih := splitL_len l
    obtain ⟨x, r, e⟩ := splitL_ne l
    by_cases h : c = 32
    · subst h; rw [splitL_blank]; simp; omega
    · rw [splitL_cons_ne h e]; rw [e] at ih; simp at ih ⊢; omega
theorem splitL_mem : ∀ (l : List UInt8), ∀ x ∈ splitL l, x.length ≤ l.length
  | [], x, h => by simp [splitL] at h; subst h; simp
  | c :: l, x, h => by
    have ih := splitL_mem l
    obtain ⟨y, r, e⟩ := splitL_ne l
    by_cases hc : c = 32
    · subst hc; rw [splitL_blank] at h
      rcases List.mem_cons.1 h with rfl | h
      · simp
      · have := ih x h; simp; omega
    · rw [splitL_cons_ne hc e] at h
      rw [e] at ih
      rcases List.mem_cons.1 h with rfl | h
      · have := ih y (by simp); simp; omega
      · have := ih x (by simp [h]); simp; omega
end Go.Proofs.YtinbidmgllmglaaDoor
namespace Go.Proofs.YtinbidmgllmglaaDoor
set_option linter.unusedVariables false
set_option linter.unusedSimpArgs false
set_option maxRecDepth 20000
open Go.RowKit
section
variable {P : Program} {ops : Array Oper} {w0 : World} {al : Nat → Option Obj} {vals : Nat → Value}
theorem wpG_v {QT : Act → (Nat → Nat) → Prop} {m k : Nat} {a : Act} {E : Nat → Nat} {o : Oper} (ho : ops[k]? = some o) (hk : al k = none) (hy : FY P ops w0 o (vals k) a) (h : wpG P ops w0 al vals QT m (k + 1) (a.put o.dst (vals k)) E) : wpG P ops w0 al vals QT (m + 1) k a E :=
  wpG_val o (vals k) ho hk rfl hy h
end
end Go.Proofs.YtinbidmgllmglaaDoor
namespace Go.Proofs.YtinbidmgllmglaaDoor
set_option linter.unusedVariables false
set_option linter.unusedSimpArgs false
set_option maxRecDepth 20000
open Go.RowKit

/-- A slice of our own: one element set. -/
theorem owns_set1 {w : World} {base : Nat} {e : TypeId} {n : Nat} {g cap : Nat} {xs : List Value} (h : w.ownsRow base e 1 (.slice (some ⟨g, 0, none⟩) n cap) n xs) (i : Nat) (hi : i < n) (u : Value) :
    (w.setCell ⟨g, i, none⟩ u).ownsRow base e 1 (.slice (some ⟨g, 0, none⟩) n cap) n (xs.set i u) := by
  refine ⟨by rw [List.length_set]; exact h.1, ?_⟩
  rcases h.2 with ⟨h2, h3⟩ | ⟨g', cap', cur, hv, hg, hh, h1, h3, h4, h5⟩
  · cases h2
  · simp only [Value.slice.injEq, Option.some.injEq, Addr.mk.injEq, and_true, true_and] at hv
    obtain ⟨rfl, rfl⟩ := hv
    refine .inr ⟨g, cap, cur.setIfInBounds i u, rfl, hg, heap_set_at hh u, h1, h3, by simpa using h4, ?_⟩
    rw [Array.toList_setIfInBounds, List.take_set, h5]
/-- Where a slice of our own that is not empty lies. -/
theorem owns_at {w : World} {base : Nat} {e : TypeId} {size n : Nat} {v : Value} {xs : List Value} (h : w.ownsRow base e size v n xs) (hn : 0 < n) :
    ∃ g cap cur, v = .slice (some ⟨g, 0, none⟩) n cap ∧ base ≤ g ∧ Hid (w.heap[g]? = some (.cells cur e (0, 0))) ∧ n ≤ cap ∧ cap ≤ 9223372036854775807 := by
  rcases h.2 with ⟨h2, h3⟩ | ⟨g, cap, cur, hv, hg, hh, h1, h3, h4, h5⟩
  · omega
  · exact ⟨g, cap, cur, hv, hg, hid hh, h1, by unfold maxLen at h3; omega⟩
theorem owns_one (w : World) (e : TypeId) (u : Value) : (w.alloc (.cells #[u] e)).ownsRow w.heap.size e 1 (.slice (some ⟨w.heap.size, 0, none⟩) 1 1) 1 [u] :=
  ⟨rfl, .inr ⟨w.heap.size, 1, #[u], rfl, Nat.le_refl _, new1 w _, Nat.le_refl _, by unfold maxLen; omega, rfl, rfl⟩⟩

theorem strs_set (L : List ByteArray) (i : Nat) (s : ByteArray) : (strs L).set i (.string s) = strs (L.set i s) := by
  have e : ∀ L : List ByteArray, strs L = L.map Value.string := fun L => (List.map_eq_flatMap ..).symm
  rw [e, e, List.map_set]
theorem set_last (L : List ByteArray) (s : ByteArray) (h : 0 < L.length) : L.set (L.length - 1) s = L.dropLast ++ [s] := by
  rw [List.set_eq_take_append_cons_drop, if_pos (by omega), List.dropLast_eq_take, List.drop_of_length_le (by omega)]
/-- What Words hands back. -/
def WordsP (s : ByteArray) (w : World) (e : Ending) (w' : World) : Prop :=
  ∃ (v : Value) (L : List ByteArray), e = .returned v ∧ Hid (L.map (·.data.toList) = splitL s.data.toList) ∧ Rd w' 1 v L.length (strs L) ∧ Frm M0 w w'

theorem sbw_index {s : ByteArray} {i : Nat} (h : i < s.size) : s.data.toList[i]? = some s[i] := by
  rw [List.getElem?_eq_getElem (by simpa using h)]; rfl
set_option maxRecDepth 20000 in
set_option maxHeartbeats 4000000 in
theorem refwords_calls (s : ByteArray) (w : World) (hs : s.size ≤ 1000000) : Calls Tryd.prog 50 #[.string s] w (WordsP s w) := by
  have HOW := hid (owns_one w 9 (.string ⟨#[]⟩))
  go_enter Tryd.func50, Tryd.ntmps50
  go_wp2_with fail
  have hF0 := (Frm.refl M0 w).alloc (.cells #[.string ⟨#[]⟩] 9)
  obtain ⟨B, hB⟩ : ∃ x, x = w.heap.size := ⟨_, rfl⟩
  obtain ⟨w1, hw1⟩ : ∃ x, x = w.alloc (.cells #[.string ⟨#[]⟩] 9) := ⟨_, rfl⟩
  rw [← hB] at HOW ⊢
  rw [← hw1] at HOW hF0 ⊢
  have HF0 := hid hF0
  have HB := hid hB
  clear hB hw1 hF0
  go_loopw [3, 4] (fun s3 s4 wr => ∃ (k : Nat) (L : List ByteArray), k ≤ s.size ∧ s4 = .int .i64 k ∧ 0 < L.length ∧ L.length ≤ k + 1 ∧ Hid (L.map (·.data.toList) = splitL (s.data.toList.take k)) ∧ Hid (wr.ownsRow B 9 1 s3 L.length (strs L)) ∧ Hid (Frm M0 w wr)) (fun _ i _ => s.size - (intOf i).toNat)
  case atStart => exact ⟨0, [⟨#[]⟩], Nat.zero_le _, rfl, by simp, by simp, hid rfl, HOW, HF0⟩
  case round =>
    clear HOW HF0
    obtain ⟨k, L, hk, rfl, hL0, hL1, HL, HO, HF⟩ := hrel
    obtain ⟨g, cap, cur, rfl, hg, HH, hc1, hc2⟩ := owns_at HO.out hL0
    by_cases hlt : k < s.size
    · by_cases hb : s[k].toNat = 32
      · have hb' : (((s[k].toNat : Nat) : Int) == 32) = true := by simp [hb]
        have HS : Hid ((L ++ [⟨#[]⟩] : List ByteArray).map (·.data.toList) = splitL (s.data.toList.take (k + 1))) := hid (by
          rw [take_snoc (sbw_index hlt), splitL_snoc, ← HL.out, List.map_append]
          unfold snocW; rw [if_pos (UInt8.toNat_inj.1 hb)]; rfl)
        clear hb
        go_wp2_with (first | (at_builtin; refine wpList_push_el strs_len strs_one rfl (.tmp 16) (.tmp 17) 62 rfl B 9 (.string ⟨#[]⟩) 16 Tryd.underlying62 (by kernel_rfl) rfl (by decide) _ L ⟨#[]⟩ #[.string ⟨#[]⟩] rfl rfl HO.out rfl (by omega) (by omega) (by have := HF.out.size; have := HB.out; omega) ?_; intro v2 w2 ho2 hg2; have HO2 := hid ho2; have HG2 := hid hg2; clear ho2 hg2))
        exact ⟨⟨k + 1, L ++ [⟨#[]⟩], by omega, by go_num, by simp, by simp; omega, HS, HO2, hid (HF.out.grown HG2.out (fun j hj hlt' => by have h1 := (HO.out.lt j hj).1; have h2 := HB.out; omega))⟩, by simp [intOf]; omega⟩
      · have hb' : (((s[k].toNat : Nat) : Int) == 32) = false := by simp; omega
        have hlast : L[L.length - 1]? = some (L[L.length - 1]'(by omega)) := List.getElem?_eq_getElem (by omega)
        obtain ⟨x, hx⟩ : ∃ x, x = L[L.length - 1]'(by omega) := ⟨_, rfl⟩
        rw [← hx] at hlast
        have HX := hid hlast
        have hcell : wr.cell? ⟨g, L.length - 1, none⟩ = some (.string x) := by
          have h1 := HO.out.cells (g := g) rfl (L.length - 1) (.string x) (strs_get L _ x hlast)
          rw [add_none] at h1; simpa using h1
        have HC := hid hcell
        clear hlast hx hcell
        have hxs : x.size ≤ s.size := by
          have h1 : x.data.toList ∈ splitL (s.data.toList.take k) := by rw [← HL.out]; exact List.mem_map_of_mem (List.mem_of_getElem? HX.out)
          have h2 := splitL_mem _ _ h1
          rw [List.length_take] at h2
          simp at h2
          have e : x.size = x.data.size := rfl
          omega
        have hw1 : IntKind.i64.wrap ((L.length : Int) - 1) = (L.length : Int) - 1 := IntWalk.i64_in _ (by omega)
        have hw2 : ((L.length : Int) - 1).toNat = L.length - 1 := by omega
        have hw3 : IntKind.i64.wrap ((k : Int) + 1) = (k : Int) + 1 := IntWalk.i64_in _ (by omega)
        have hw4 : ((k : Int) + 1).toNat = k + 1 := by omega
        have hw5 : (0 : Int) ≤ (L.length : Int) - 1 := by omega
        have hw6 : (L.length : Int) - 1 < L.length := by omega
        have H1 := hid hw1
        have H2 := hid hw2
        have H3 := hid hw3
        have H4 := hid hw4
        clear hw1 hw2 hw3 hw4
        go_wp2_with fail
        apply wp_region_G 13 (fun _ => none) (valsL (_ :: _ :: _ :: _ :: _ :: _ :: _ :: _ :: _ :: _ :: _ :: _ :: _ :: [])) ?hm ?hB ?hal ?main
        case hm => kernel_rfl
        case hB => kernel_rfl
        case hal =>
          intro i o obj ho hi
          cases hi
        rotate_left 13
        intro ops QT HO HQ
        obtain ⟨ho0, HO⟩ := HO
        refine wpG_v ho0.out rfl ?_ ?_
        · simp only [valsL_zero, valsL_succ]; apply FY_in rfl; intro wx hx
          go_simp
          exact ⟨rfl, rfl⟩
        simp only [Act.put, List.setIfInBounds_toArray, List.set_cons_zero, List.set_cons_succ, valsL_zero, valsL_succ]
        obtain ⟨ho1, HO⟩ := HO
        refine wpG_v ho1.out rfl ?_ ?_
        · simp only [valsL_zero, valsL_succ]; apply FY_in rfl; intro wx hx
          go_simp
          exact ⟨rfl, rfl⟩
        simp only [Act.put, List.setIfInBounds_toArray, List.set_cons_zero, List.set_cons_succ, valsL_zero, valsL_succ]
        obtain ⟨ho2, HO⟩ := HO
        refine wpG_v ho2.out rfl ?_ ?_
        · simp only [valsL_zero, valsL_succ]; apply FY_in rfl; intro wx hx
          go_simp
          exact ⟨rfl, rfl⟩
        simp only [Act.put, List.setIfInBounds_toArray, List.set_cons_zero, List.set_cons_succ, valsL_zero, valsL_succ]
        obtain ⟨ho3, HO⟩ := HO
        refine wpG_v ho3.out rfl ?_ ?_
        · simp only [valsL_zero, valsL_succ]; apply FY_in rfl; intro wx hx
          have h := H1.out
          go_simp
          exact ⟨rfl, rfl⟩
        simp only [Act.put, List.setIfInBounds_toArray, List.set_cons_zero, List.set_cons_succ, valsL_zero, valsL_succ]
        obtain ⟨ho4, HO⟩ := HO
        refine wpG_v ho4.out rfl ?_ ?_
        · simp only [valsL_zero, valsL_succ]; apply FY_in rfl; intro wx hx
          have h := H2.out
          have h1 : (1 : Int) ≤ L.length := by omega
          go_simp
          exact ⟨rfl, rfl⟩
        simp only [Act.put, List.setIfInBounds_toArray, List.set_cons_zero, List.set_cons_succ, valsL_zero, valsL_succ]
        obtain ⟨ho5, HO⟩ := HO
        refine wpG_v ho5.out rfl ?_ ?_
        · simp only [valsL_zero, valsL_succ]; apply FY_in rfl; intro wx hx
          have h := hx.cell HC.out (fun h => h)
          go_simp
          exact ⟨rfl, rfl⟩
        simp only [Act.put, List.setIfInBounds_toArray, List.set_cons_zero, List.set_cons_succ, valsL_zero, valsL_succ]
        obtain ⟨ho6, HO⟩ := HO
        refine wpG_v ho6.out rfl ?_ ?_
        · simp only [valsL_zero, valsL_succ]; apply FY_in rfl; intro wx hx
          go_simp
          exact ⟨rfl, rfl⟩
        simp only [Act.put, List.setIfInBounds_toArray, List.set_cons_zero, List.set_cons_succ, valsL_zero, valsL_succ]
        obtain ⟨ho7, HO⟩ := HO
        refine wpG_v ho7.out rfl ?_ ?_
        · simp only [valsL_zero, valsL_succ]; apply FY_in rfl; intro wx hx
          go_simp
          exact ⟨rfl, rfl⟩
        simp only [Act.put, List.setIfInBounds_toArray, List.set_cons_zero, List.set_cons_succ, valsL_zero, valsL_succ]
        obtain ⟨ho8, HO⟩ := HO
        refine wpG_v ho8.out rfl ?_ ?_
        · simp only [valsL_zero, valsL_succ]; apply FY_in rfl; intro wx hx
          go_simp
          exact ⟨rfl, rfl⟩
        simp only [Act.put, List.setIfInBounds_toArray, List.set_cons_zero, List.set_cons_succ, valsL_zero, valsL_succ]
        obtain ⟨ho9, HO⟩ := HO
        refine wpG_v ho9.out rfl ?_ ?_
        · simp only [valsL_zero, valsL_succ]; apply FY_in rfl; intro wx hx
          have h := H3.out
          go_simp
          exact ⟨rfl, rfl⟩
        simp only [Act.put, List.setIfInBounds_toArray, List.set_cons_zero, List.set_cons_succ, valsL_zero, valsL_succ]
        obtain ⟨ho10, HO⟩ := HO
        refine wpG_v ho10.out rfl ?_ ?_
        · simp only [valsL_zero, valsL_succ]; apply FY_in rfl; intro wx hx
          have h := H4.out
          have h1 : (0 : Int) ≤ (k : Int) + 1 := by omega
          have h2 : (k : Int) + 1 ≤ s.size := by omega
          have h3 : (k : Int) ≤ (k : Int) + 1 := by omega
          go_simp
          exact ⟨rfl, rfl⟩
        simp only [Act.put, List.setIfInBounds_toArray, List.set_cons_zero, List.set_cons_succ, valsL_zero, valsL_succ]
        obtain ⟨ho11, HO⟩ := HO
        refine wpG_v ho11.out rfl ?_ ?_
        · simp only [valsL_zero, valsL_succ]; apply FY_in rfl; intro wx hx
          have hl : ¬ 9223372036854775807 < x.size + (min (k + 1) s.size - k) := by omega
          go_simp
          exact ⟨rfl, rfl⟩
        simp only [Act.put, List.setIfInBounds_toArray, List.set_cons_zero, List.set_cons_succ, valsL_zero, valsL_succ]
        obtain ⟨ho12, HO⟩ := HO
        refine wpG_v ho12.out rfl ?_ ?_
        · simp only [valsL_zero, valsL_succ]; apply FY_in rfl; intro wx hx
          have h := H2.out
          have h1 : (1 : Int) ≤ L.length := by omega
          go_simp
          exact ⟨rfl, rfl⟩
        simp only [Act.put, List.setIfInBounds_toArray, List.set_cons_zero, List.set_cons_succ, valsL_zero, valsL_succ]
        refine HQ.out _ _ ?_
        intro wr hf hE hN
        simp only [List.drop_succ_cons, List.drop_zero]
        clear HQ HO hE hN ho0 ho1 ho2 ho3 ho4 ho5 ho6 ho7 ho8 ho9 ho10 ho11 ho12
        have HF2 := hid (HF.out.then0 hf)
        have HO2 := hid (hf.owns HO.out (fun _ _ h => h))
        have hh := hf.heap HH.out (fun h => h)
        have hfz := sb_free hh (L.length - 1)
        have hcc := hf.cell HC.out (fun h => h)
        clear hf hh
        have h := H2.out
        have h1 : (1 : Int) ≤ L.length := by omega
        go_wp2_with fail
        refine ⟨⟨k + 1, L.set (L.length - 1) (x ++ s.extract k (k + 1)), by omega, by go_num, by rw [List.length_set]; omega, by rw [List.length_set]; omega, hid ?_, hid ?_, hid ?_⟩, by simp [intOf]; omega⟩
        · have hlx : (L.map (·.data.toList)).getLastD [] = x.data.toList := by
            rw [List.getLastD_eq_getLast?, List.getLast?_eq_getElem?, List.length_map, List.getElem?_map, HX.out]; rfl
          rw [take_snoc (sbw_index hlt), splitL_snoc, ← HL.out, set_last _ _ hL0, List.map_append]
          unfold snocW
          rw [if_neg (fun e => hb (by rw [e]; rfl)), hlx, List.map_dropLast]
          congr 1
          show [(x ++ s.extract k (k + 1)).data.toList] = _
          have e : (s.extract k (k + 1)).data.toList = [s[k]] := by
            rw [← Lib.toList_data, Lib.extract_toList, List.drop_eq_getElem_cons (by simpa using hlt), show k + 1 - k = 0 + 1 by omega, List.take_succ_cons]; rfl
          rw [ByteArray.data_append, Array.toList_append, e]
        · rw [List.length_set, ← strs_set]
          exact owns_set1 HO2.out _ (by omega) _
        · exact HF2.out.putN _ _ _ (by have := HB.out; omega)
    · obtain rfl : k = s.size := by omega
      have ht : s.data.toList.take s.size = s.data.toList := List.take_of_length_le (by simp)
      have hl := HL.out
      rw [ht] at hl
      have HLL := hid hl
      clear hl ht
      go_wp2_with fail
      go_ret
      exact ⟨_, L, rfl, HLL, Rd.ofOwns HO.out, HF.out⟩
end Go.Proofs.YtinbidmgllmglaaDoor
namespace Go.Proofs.YtinbidmgllmglaaDoor
set_option linter.unusedVariables false
set_option linter.unusedSimpArgs false
set_option maxRecDepth 20000
open Go.RowKit

/-- The numbers of words, if all are numbers. -/
def numsW : List (List UInt8) → Option (List Int)
  | [] => some []
  | x :: r => match numF x, numsW r with
    | some n, some l => some (n :: l)
    | _, _ => none
theorem numsW_snoc (x : List UInt8) : ∀ W, numsW (W ++ [x]) = match numsW W, numF x with | some l, some n => some (l ++ [n]) | _, _ => none
  | [] => by
    simp only [List.nil_append, numsW]
    cases numF x <;> rfl
  | y :: W => by
    have ih := numsW_snoc x W
    simp only [List.cons_append, numsW, ih]
    cases numF y <;> cases numsW W <;> cases numF x <;> rfl
theorem numsW_none_app : ∀ (W V : List (List UInt8)), numsW W = none → numsW (W ++ V) = none
  | [], V, h => by cases h
  | y :: W, V, h => by
    simp only [List.cons_append, numsW] at h ⊢
    cases hy : numF y with
    | none => rfl
    | some n =>
      cases hw : numsW W with
      | none => rw [numsW_none_app W V hw]
      | some l => rw [hy, hw] at h; cases h
theorem numsW_len : ∀ (W : List (List UInt8)) (l : List Int), numsW W = some l → l.length = W.length
  | [], l, h => by cases h; rfl
  | y :: W, l, h => by
    simp only [numsW] at h
    cases hy : numF y with
    | none => rw [hy] at h; cases h
    | some n =>
      cases hw : numsW W with
      | none => rw [hy, hw] at h; cases h
      | some l' =>
        rw [hy, hw] at h
        cases h
        rw [List.length_cons, List.length_cons, numsW_len W l' hw]
/-- The spec of a text, or why there is none. -/
def readL (W : List (List UInt8)) : Sp × Int :=
  match numsW W with
  | some l => if l.length = 12 then (if (Sp.ofL l).chkE = 0 then (Sp.ofL l, 0) else (Sp.zero, (Sp.ofL l).chkE)) else (Sp.zero, 2)
  | none => (Sp.zero, 2)
def readS (t : ByteArray) : Sp × Int := readL (splitL t.data.toList)
theorem chkE_cases (p : Sp) : p.chkE = 0 ∨ p.chkE = 11 := by
  unfold Sp.chkE
  cases p.conds.all id
  · exact .inr rfl
  · exact .inl rfl

set_option maxRecDepth 20000 in
set_option maxHeartbeats 4000000 in
theorem sread_calls (t : ByteArray) (w : World) (ht : t.size ≤ 900000) (hg : Glob w) : Calls Tryd.prog 21 #[.string t] w fun e w' => e = .returned (.tuple #[(readS t).1.val, .int .i64 (readS t).2]) ∧ Frm M0 w w' := by
  obtain ⟨rs, HRS⟩ : ∃ x, Hid (readS t = x) := ⟨_, rfl⟩
  rw [HRS.out]
  have HG := hid hg
  clear hg
  go_enter Tryd.func21, Tryd.ntmps21
  go_wp2_with fail
  refine (split_calls t _ (by omega) (HG.out.frm ((Frm.refl M0 w).alloc _))).mono ?_
  rintro _ w1 ⟨b, rfl, hr, hf⟩
  obtain ⟨R, hR⟩ : ∃ x, x = w.heap.size := ⟨_, rfl⟩
  have S1 : Hid (Sb M0 w1 fun x => x.heap[R]? = some (.cells #[.int .i64 0, .int .i64 0, .int .i64 0, .int .i64 0, .int .i64 0, .int .i64 0, .int .i64 0, .int .i64 0, .int .i64 0, .int .i64 0, .int .i64 0, .int .i64 0] 24 (0, 0)) ∧ Rd x 1 (.slice (some ⟨b, 0, none⟩) (splitS t).length (splitS t).length) (splitS t).length (strs (splitS t)) ∧ Frm M0 w x ∧ Glob x) :=
    hid fun wx hx => ⟨hR ▸ (hf.same hx).heap (new1 w _) (fun h => h), hr.frm0 hx, (((Frm.refl M0 w).alloc _).then0 hf).then0 hx, HG.out.frm ((((Frm.refl M0 w).alloc _).then0 hf).then0 hx)⟩
  rw [← hR]
  have HRR := hid hR
  obtain ⟨L, hL⟩ : ∃ x, x = splitS t := ⟨_, rfl⟩
  have HL : Hid (L.map (·.data.toList) = splitL t.data.toList) := hid (by rw [hL]; exact splitS_list t)
  have hl1 : L.length ≤ 1000000 := by
    have h1 := splitL_len t.data.toList
    rw [← HL.out, List.length_map] at h1
    simp at h1
    have e : t.size = t.data.size := rfl
    omega
  rw [← hL] at S1
  rw [← hL]
  clear hL hr hf hR HG
  go_wp2_with fail
  go_loopw [4, 14] (fun v4 i14 wr => ∃ (k : Nat) (ns : List Int), k ≤ L.length ∧ i14 = .int .i64 k ∧ ns.length = k ∧ Hid (wr.ownsRow w1.heap.size 3 1 v4 ns.length (ints .i64 ns)) ∧ Hid (numsW ((L.take k).map (·.data.toList)) = some ns) ∧ Hid (Frm M0 w1 wr)) (fun _ i _ => L.length - (intOf i).toNat)
  case atStart => exact ⟨0, [], Nat.zero_le _, rfl, rfl, hid (World.ownsRow_nil _ _ _ _), hid rfl, hid (Frm.refl _ _)⟩
  case round =>
    obtain ⟨k, ns, hk, rfl, hnk, HO, HN, HF⟩ := hrel
    have S2 := hid (S1.out.step HF.out)
    by_cases hlt : k < L.length
    · have hx : L[k]? = some L[k] := List.getElem?_eq_getElem hlt
      obtain ⟨x, hxx⟩ : ∃ x, x = L[k] := ⟨_, rfl⟩
      rw [← hxx] at hx
      have HX := hid hx
      have hxs : x.size ≤ 1000000 := by
        have h1 : x.data.toList ∈ splitL t.data.toList := by rw [← HL.out]; exact List.mem_map_of_mem (List.mem_of_getElem? hx)
        have h2 := splitL_mem _ _ h1
        simp at h2
        have e1 : x.size = x.data.size := rfl
        have e2 : t.size = t.data.size := rfl
        omega
      have hc : wr.cell? ⟨b, k, none⟩ = some (.string x) := by
        rcases S2.out.now.2.1.2 with ⟨h2, h0⟩ | ⟨a, cap, h2, h3, h4, h6⟩
        · cases h2
        · simp only [Value.slice.injEq, Option.some.injEq] at h2
          obtain ⟨rfl, _, _⟩ := h2
          have := h6 k (.string x) (strs_get L k x hx)
          rw [add_none] at this; simpa using this
      clear hx hxx
      go_wp2_with fail
      refine (snumber_calls x _ hxs S2.out.now.2.2.2).mono ?_
      rintro _ w2 ⟨n, is, rfl, HNR, hf⟩
      have HF2 := hid (HF.out.then0 hf)
      have HO2 := hid (hf.owns HO.out (fun _ _ h => h))
      have hR2 := hid (S2.out.step hf)
      clear hf hc HF HO S2
      cases is
      · have HRZ : Hid (rs = (Sp.zero, 2)) := hid (by
          rw [← HRS.out]
          have e : splitL t.data.toList = ((L.take (k + 1)).map (·.data.toList)) ++ ((L.drop (k + 1)).map (·.data.toList)) := by rw [← List.map_append, List.take_append_drop, HL.out]
          have e2 : numsW ((L.take (k + 1)).map (·.data.toList)) = none := by
            rw [take_snoc HX.out, List.map_append, List.map_cons, List.map_nil, numsW_snoc, HN.out, HNR.out.2 rfl]
          unfold readS readL
          rw [e, numsW_none_app _ _ e2])
        go_wp2_with (refine wpList_store_row rfl 24 (.tmp 2) (.tmp 25) (by with_reducible rfl) R #[.int .i64 0, .int .i64 0, .int .i64 0, .int .i64 0, .int .i64 0, .int .i64 0, .int .i64 0, .int .i64 0, .int .i64 0, .int .i64 0, .int .i64 0, .int .i64 0] (by kernel_rfl) (by kernel_rfl) _ _ hR2.out.now.1 (by kernel_rfl) (by rfl) (by simp [Value.oneCell']) ?_)
        refine bodyPost_ret (results_cell_slot (by rfl) _ _ R _ _ _ _ _ rfl rfl (setRow_heap _ _ _ _ _ _ hR2.out.now.1) Tryd.underlying24 rfl (by kernel_rfl)) rfl ⟨by rw [HRZ.out]; rfl, hR2.out.now.2.2.1.setRow _ _ (by have := HRR.out; omega)⟩
      · have HNN : Hid (numsW ((L.take (k + 1)).map (·.data.toList)) = some (ns ++ [n])) := hid (by
          rw [take_snoc HX.out, List.map_append, List.map_cons, List.map_nil, numsW_snoc, HN.out, HNR.out.1 rfl])
        go_wp2_with (first | (at_builtin; refine wpList_push_int rfl (.tmp 26) (.tmp 28) 43 rfl w1.heap.size 3 .i64 8 Tryd.underlying43 infoI _ ns n rfl HO2.out rfl (by unfold maxLen; omega) (by omega) HF2.out.size ?_; intro v3 w3 ho3 hg3; have HO3 := hid ho3; have HG3 := hid hg3; clear ho3 hg3))
        exact ⟨⟨k + 1, ns ++ [n], by omega, by go_num, by simp; omega, HO3, HNN, hid (HF2.out.grown HG3.out (fun j hj hlt' => absurd (HO2.out.lt j hj).1 (by omega)))⟩, by simp [intOf]; omega⟩
    · obtain rfl : k = L.length := by omega
      have hN := HN.out
      rw [List.take_length, HL.out] at hN
      have HRD : Hid (rs = if ns.length = 12 then (if (Sp.ofL ns).chkE = 0 then (Sp.ofL ns, 0) else (Sp.zero, (Sp.ofL ns).chkE)) else (Sp.zero, 2)) := hid (by rw [← HRS.out]; unfold readS readL; rw [hN])
      have HRO := hid (Rd.ofOwns HO.out)
      clear hN HN HO
      by_cases h12 : ns.length = 12
      case neg =>
        have HRZ : Hid (rs = (Sp.zero, 2)) := hid (by rw [HRD.out, if_neg h12])
        go_wp2_with fail
        refine (make_bad _ ns _ HRO.out h12 (by omega)).mono ?_
        rintro _ w2 ⟨rfl, hf⟩
        have HVZ : Hid (Sp.zero.val = .agg #[.int .i64 0, .int .i64 0, .int .i64 0, .int .i64 0, .int .i64 0, .int .i64 0, .int .i64 0, .int .i64 0, .int .i64 0, .int .i64 0, .int .i64 0, .int .i64 0]) := rfl
        rw [HVZ.out]
        have S3 := hid (S2.out.step hf)
        have HZ1 := hid (new1 w2 (.cells #[.int .i64 0, .int .i64 0, .int .i64 0, .int .i64 0, .int .i64 0, .int .i64 0, .int .i64 0, .int .i64 0, .int .i64 0, .int .i64 0, .int .i64 0, .int .i64 0] 24))
        clear hf S2
        go_upto_region 12 with (refine wpList_store_row rfl 24 (.tmp 9) (.tmp 34) (by with_reducible rfl) w2.heap.size #[.int .i64 0, .int .i64 0, .int .i64 0, .int .i64 0, .int .i64 0, .int .i64 0, .int .i64 0, .int .i64 0, .int .i64 0, .int .i64 0, .int .i64 0, .int .i64 0] (by kernel_rfl) (by kernel_rfl) _ _ HZ1.out (by kernel_rfl) (by rfl) (by simp [Value.oneCell']) ?_)
        have hfr := ((Frm.refl M0 w2).alloc (.cells #[.int .i64 0, .int .i64 0, .int .i64 0, .int .i64 0, .int .i64 0, .int .i64 0, .int .i64 0, .int .i64 0, .int .i64 0, .int .i64 0, .int .i64 0, .int .i64 0] 24)).setRow w2.heap.size #[.int .i64 0, .int .i64 0, .int .i64 0, .int .i64 0, .int .i64 0, .int .i64 0, .int .i64 0, .int .i64 0, .int .i64 0, .int .i64 0, .int .i64 0, .int .i64 0] (Nat.le_refl _)
        obtain ⟨w3, hw3⟩ : ∃ x, x = (w2.alloc (.cells #[.int .i64 0, .int .i64 0, .int .i64 0, .int .i64 0, .int .i64 0, .int .i64 0, .int .i64 0, .int .i64 0, .int .i64 0, .int .i64 0, .int .i64 0, .int .i64 0] 24)).setRow w2.heap.size #[.int .i64 0, .int .i64 0, .int .i64 0, .int .i64 0, .int .i64 0, .int .i64 0, .int .i64 0, .int .i64 0, .int .i64 0, .int .i64 0, .int .i64 0, .int .i64 0] := ⟨_, rfl⟩
        rw [← hw3] at hfr
        rw [← hw3]
        have S4 := hid (S3.out.step hfr)
        clear hw3 hfr S3 HZ1
        go_wp2_with (refine wpList_store_row rfl 24 (.tmp 2) (.tmp 38) (by with_reducible rfl) R #[.int .i64 0, .int .i64 0, .int .i64 0, .int .i64 0, .int .i64 0, .int .i64 0, .int .i64 0, .int .i64 0, .int .i64 0, .int .i64 0, .int .i64 0, .int .i64 0] (by kernel_rfl) (by kernel_rfl) _ _ S4.out.now.1 (by kernel_rfl) (by rfl) (by simp [Value.oneCell']) ?_)
        refine bodyPost_ret (results_cell_slot (by rfl) _ _ R _ _ _ _ _ rfl rfl (setRow_heap _ _ _ _ _ _ S4.out.now.1) Tryd.underlying24 rfl (by kernel_rfl)) rfl ⟨by rw [HRZ.out]; rfl, S4.out.now.2.2.1.setRow _ _ (by have := HRR.out; omega)⟩
      case pos =>
        go_wp2_with fail
        refine (make_ok _ ns _ HRO.out h12).mono ?_
        rintro _ w2 ⟨rfl, hf⟩
        have hrd := HRD.out
        rw [if_pos h12] at hrd
        obtain ⟨P, hP⟩ : ∃ P, P = Sp.ofL ns := ⟨_, rfl⟩
        rw [← hP] at hrd ⊢
        have HRD2 := hid hrd
        have HVP : Hid (P.val = .agg #[.int .i64 P.s0, .int .i64 P.s1, .int .i64 P.s2, .int .i64 P.s3, .int .i64 P.s4, .int .i64 P.s5, .int .i64 P.s6, .int .i64 P.s7, .int .i64 P.s8, .int .i64 P.s9, .int .i64 P.s10, .int .i64 P.s11]) := rfl
        rw [HVP.out]
        have S3 := hid (S2.out.step hf)
        have HZ1 := hid (new1 w2 (.cells #[.int .i64 0, .int .i64 0, .int .i64 0, .int .i64 0, .int .i64 0, .int .i64 0, .int .i64 0, .int .i64 0, .int .i64 0, .int .i64 0, .int .i64 0, .int .i64 0] 24))
        clear hf S2 hP hrd HRD
        go_upto_region 11 with (refine wpList_store_row rfl 24 (.tmp 9) (.tmp 34) (by with_reducible rfl) w2.heap.size #[.int .i64 P.s0, .int .i64 P.s1, .int .i64 P.s2, .int .i64 P.s3, .int .i64 P.s4, .int .i64 P.s5, .int .i64 P.s6, .int .i64 P.s7, .int .i64 P.s8, .int .i64 P.s9, .int .i64 P.s10, .int .i64 P.s11] (by kernel_rfl) (by kernel_rfl) _ _ HZ1.out (by kernel_rfl) (by rfl) (by simp [Value.oneCell']) ?_)
        have hfr := ((Frm.refl M0 w2).alloc (.cells #[.int .i64 0, .int .i64 0, .int .i64 0, .int .i64 0, .int .i64 0, .int .i64 0, .int .i64 0, .int .i64 0, .int .i64 0, .int .i64 0, .int .i64 0, .int .i64 0] 24)).setRow w2.heap.size #[.int .i64 P.s0, .int .i64 P.s1, .int .i64 P.s2, .int .i64 P.s3, .int .i64 P.s4, .int .i64 P.s5, .int .i64 P.s6, .int .i64 P.s7, .int .i64 P.s8, .int .i64 P.s9, .int .i64 P.s10, .int .i64 P.s11] (Nat.le_refl _)
        have hP3 := setRow_heap _ w2.heap.size _ #[.int .i64 P.s0, .int .i64 P.s1, .int .i64 P.s2, .int .i64 P.s3, .int .i64 P.s4, .int .i64 P.s5, .int .i64 P.s6, .int .i64 P.s7, .int .i64 P.s8, .int .i64 P.s9, .int .i64 P.s10, .int .i64 P.s11] _ _ HZ1.out
        obtain ⟨w3, hw3⟩ : ∃ x, x = (w2.alloc (.cells #[.int .i64 0, .int .i64 0, .int .i64 0, .int .i64 0, .int .i64 0, .int .i64 0, .int .i64 0, .int .i64 0, .int .i64 0, .int .i64 0, .int .i64 0, .int .i64 0] 24)).setRow w2.heap.size #[.int .i64 P.s0, .int .i64 P.s1, .int .i64 P.s2, .int .i64 P.s3, .int .i64 P.s4, .int .i64 P.s5, .int .i64 P.s6, .int .i64 P.s7, .int .i64 P.s8, .int .i64 P.s9, .int .i64 P.s10, .int .i64 P.s11] := ⟨_, rfl⟩
        rw [← hw3] at hfr hP3
        rw [← hw3]
        have S4 := hid ((S3.out.step hfr).and (Sb.heap hP3 (fun h => h)))
        clear hw3 hfr S3 HZ1 hP3
        go_wp2_with (refine wpList_load_row_w (by kernel_rfl) 24 (.tmp 9) (by with_reducible rfl) w2.heap.size (by kernel_rfl) _ _ _ _ S4.out.now.2 Tryd.underlying24 rfl (by kernel_rfl) ?_)
        rw [← HVP.out]
        refine (check_calls P _).mono ?_
        rintro _ w4 ⟨rfl, hf⟩
        rw [HVP.out]
        have S5 := hid (S4.out.step hf)
        clear hf S4
        rcases chkE_cases P with h | h
        · have HRZ : Hid (rs = (P, 0)) := hid (by rw [HRD2.out, if_pos h])
          rw [h]
          clear h
          go_wp2_with (first | (refine wpList_load_row_w (by kernel_rfl) 24 (.tmp 9) (by with_reducible rfl) w2.heap.size (by kernel_rfl) _ _ _ _ S5.out.now.2 Tryd.underlying24 rfl (by kernel_rfl) ?_) | (refine wpList_store_row rfl 24 (.tmp 2) (.tmp 48) (by with_reducible rfl) R #[.int .i64 P.s0, .int .i64 P.s1, .int .i64 P.s2, .int .i64 P.s3, .int .i64 P.s4, .int .i64 P.s5, .int .i64 P.s6, .int .i64 P.s7, .int .i64 P.s8, .int .i64 P.s9, .int .i64 P.s10, .int .i64 P.s11] (by kernel_rfl) (by kernel_rfl) _ _ S5.out.now.1.1 (by kernel_rfl) (by rfl) (by simp [Value.oneCell']) ?_))
          refine bodyPost_ret (results_cell_slot (by rfl) _ _ R _ _ _ _ _ rfl rfl (setRow_heap _ _ _ _ _ _ S5.out.now.1.1) Tryd.underlying24 rfl (by kernel_rfl)) rfl ⟨by rw [HRZ.out]; rfl, S5.out.now.1.2.2.1.setRow _ _ (by have := HRR.out; omega)⟩
        · have HRZ : Hid (rs = (Sp.zero, 11)) := hid (by rw [HRD2.out, if_neg (by omega), h])
          rw [h]
          clear h
          go_wp2_with (refine wpList_store_row rfl 24 (.tmp 2) (.tmp 46) (by with_reducible rfl) R #[.int .i64 0, .int .i64 0, .int .i64 0, .int .i64 0, .int .i64 0, .int .i64 0, .int .i64 0, .int .i64 0, .int .i64 0, .int .i64 0, .int .i64 0, .int .i64 0] (by kernel_rfl) (by kernel_rfl) _ _ S5.out.now.1.1 (by kernel_rfl) (by rfl) (by simp [Value.oneCell']) ?_)
          refine bodyPost_ret (results_cell_slot (by rfl) _ _ R _ _ _ _ _ rfl rfl (setRow_heap _ _ _ _ _ _ S5.out.now.1.1) Tryd.underlying24 rfl (by kernel_rfl)) rfl ⟨by rw [HRZ.out]; rfl, S5.out.now.1.2.2.1.setRow _ _ (by have := HRR.out; omega)⟩
end Go.Proofs.YtinbidmgllmglaaDoor
namespace Go.Proofs.YtinbidmgllmglaaDoor
set_option linter.unusedVariables false
set_option linter.unusedSimpArgs false
set_option maxRecDepth 20000
open Go.RowKit

theorem numsW_some_of : ∀ (W V : List (List UInt8)) (l : List Int), numsW (W ++ V) = some l → ∃ a, numsW W = some a
  | W, V, l, h => by
    cases hw : numsW W with
    | none => rw [numsW_none_app W V hw] at h; cases h
    | some a => exact ⟨a, rfl⟩
set_option maxRecDepth 20000 in
set_option maxHeartbeats 4000000 in
theorem rread_spec_calls (t : ByteArray) (w : World) (ht : t.size ≤ 900000) : Calls Tryd.prog 22 #[.string t] w fun e w' => e = .returned (.tuple #[(readS t).1.val, .int .i64 (readS t).2]) ∧ Frm M0 w w' := by
  obtain ⟨rs, HRS⟩ : ∃ x, Hid (readS t = x) := ⟨_, rfl⟩
  rw [HRS.out]
  go_enter Tryd.func22, Tryd.ntmps22
  go_wp2_with fail
  refine (refwords_calls t _ (by omega)).mono ?_
  rintro _ w1 ⟨v, L, rfl, HL, hr, hf⟩
  obtain ⟨R, hR⟩ : ∃ x, x = w.heap.size := ⟨_, rfl⟩
  have hl0 : 0 < L.length := by
    obtain ⟨x, r, e⟩ := splitL_ne t.data.toList
    have := congrArg List.length HL.out
    rw [List.length_map, e] at this; simp at this; omega
  obtain ⟨a, c, rfl, hsh⟩ := hr.shape
  obtain ⟨b, o, rfl⟩ := hsh hl0
  have S1 : Hid (Sb M0 w1 fun x => x.heap[R]? = some (.cells #[.int .i64 0, .int .i64 0, .int .i64 0, .int .i64 0, .int .i64 0, .int .i64 0, .int .i64 0, .int .i64 0, .int .i64 0, .int .i64 0, .int .i64 0, .int .i64 0] 24 (0, 0)) ∧ Rd x 1 (.slice (some ⟨b, o, none⟩) L.length c) L.length (strs L) ∧ Frm M0 w x) :=
    hid fun wx hx => ⟨hR ▸ (hf.same hx).heap (new1 w _) (fun h => h), hr.frm0 hx, (((Frm.refl M0 w).alloc _).then0 hf).then0 hx⟩
  rw [← hR]
  have HRR := hid hR
  have hl1 : L.length ≤ 1000000 := by
    have h1 := splitL_len t.data.toList
    rw [← HL.out, List.length_map] at h1
    simp at h1
    have e : t.size = t.data.size := rfl
    omega
  clear hr hf hR hsh
  by_cases h12 : L.length = 12
  case neg =>
    have h12' : ¬ ((L.length : Int) = 12) := by omega
    have HRZ : Hid (rs = (Sp.zero, 2)) := hid (by
      rw [← HRS.out]
      unfold readS readL
      cases hn : numsW (splitL t.data.toList) with
      | none => rfl
      | some l =>
        have := numsW_len _ _ hn
        rw [← HL.out, List.length_map] at this
        simp only []
        rw [if_neg (by omega)])
    clear h12
    go_wp2_with (refine wpList_store_row rfl 24 (.tmp 2) (.tmp 17) (by with_reducible rfl) R #[.int .i64 0, .int .i64 0, .int .i64 0, .int .i64 0, .int .i64 0, .int .i64 0, .int .i64 0, .int .i64 0, .int .i64 0, .int .i64 0, .int .i64 0, .int .i64 0] (by kernel_rfl) (by kernel_rfl) _ _ S1.out.now.1 (by kernel_rfl) (by rfl) (by simp [Value.oneCell']) ?_)
    refine bodyPost_ret (results_cell_slot (by rfl) _ _ R _ _ _ _ _ rfl rfl (setRow_heap _ _ _ _ _ _ S1.out.now.1) Tryd.underlying24 rfl (by kernel_rfl)) rfl ⟨by rw [HRZ.out]; rfl, S1.out.now.2.2.setRow _ _ (by have := HRR.out; omega)⟩
  have h12' : ((L.length : Int) = 12) := by omega
  have H12 := hid h12
  clear h12
  go_wp2_with fail
  clear h12'
  go_loopw [5, 6] (fun v5 i6 wr => ∃ (k : Nat) (ns : List Int), k ≤ 12 ∧ i6 = .int .i64 k ∧ ns.length = k ∧ Hid (wr.ownsRow w1.heap.size 3 1 v5 ns.length (ints .i64 ns)) ∧ Hid (numsW ((L.take k).map (·.data.toList)) = some ns) ∧ Hid (Frm M0 w1 wr)) (fun _ i _ => 12 - (intOf i).toNat)
  case atStart => exact ⟨0, [], Nat.zero_le _, rfl, rfl, hid (World.ownsRow_nil _ _ _ _), hid rfl, hid (Frm.refl _ _)⟩
  case round =>
    obtain ⟨k, ns, hk, rfl, hnk, HO, HN, HF⟩ := hrel
    have S2 := hid (S1.out.step HF.out)
    by_cases hlt : k < 12
    · have hltL : k < L.length := by have := H12.out; omega
      have hltL' : (k : Int) < L.length := by omega
      have hx : L[k]? = some L[k] := List.getElem?_eq_getElem hltL
      obtain ⟨x, hxx⟩ : ∃ x, x = L[k] := ⟨_, rfl⟩
      rw [← hxx] at hx
      have HX := hid hx
      have hxs : x.size ≤ 1000000 := by
        have h1 : x.data.toList ∈ splitL t.data.toList := by rw [← HL.out]; exact List.mem_map_of_mem (List.mem_of_getElem? hx)
        have h2 := splitL_mem _ _ h1
        simp at h2
        have e1 : x.size = x.data.size := rfl
        have e2 : t.size = t.data.size := rfl
        omega
      have hc : wr.cell? ⟨b, o + k, none⟩ = some (.string x) := by
        rcases S2.out.now.2.1.2 with ⟨h2, h0⟩ | ⟨a, cap, h2, h3, h4, h6⟩
        · cases h2
        · simp only [Value.slice.injEq, Option.some.injEq] at h2
          obtain ⟨rfl, _, _⟩ := h2
          have := h6 k (.string x) (strs_get L k x hx)
          rw [add_none] at this; exact this
      clear hx hxx
      go_wp2_with fail
      refine (rnumber_calls x _ hxs).mono ?_
      rintro _ w2 ⟨n, is, rfl, HNR, hf⟩
      have HF2 := hid (HF.out.then0 hf)
      have HO2 := hid (hf.owns HO.out (fun _ _ h => h))
      have hR2 := hid (S2.out.step hf)
      clear hf hc HF HO S2
      cases is
      · have HRZ : Hid (rs = (Sp.zero, 2)) := hid (by
          rw [← HRS.out]
          have e : splitL t.data.toList = ((L.take (k + 1)).map (·.data.toList)) ++ ((L.drop (k + 1)).map (·.data.toList)) := by rw [← List.map_append, List.take_append_drop, HL.out]
          have e2 : numsW ((L.take (k + 1)).map (·.data.toList)) = none := by
            rw [take_snoc HX.out, List.map_append, List.map_cons, List.map_nil, numsW_snoc, HN.out, HNR.out.2 rfl]
          unfold readS readL
          rw [e, numsW_none_app _ _ e2])
        go_wp2_with (refine wpList_store_row rfl 24 (.tmp 2) (.tmp 32) (by with_reducible rfl) R #[.int .i64 0, .int .i64 0, .int .i64 0, .int .i64 0, .int .i64 0, .int .i64 0, .int .i64 0, .int .i64 0, .int .i64 0, .int .i64 0, .int .i64 0, .int .i64 0] (by kernel_rfl) (by kernel_rfl) _ _ hR2.out.now.1 (by kernel_rfl) (by rfl) (by simp [Value.oneCell']) ?_)
        refine bodyPost_ret (results_cell_slot (by rfl) _ _ R _ _ _ _ _ rfl rfl (setRow_heap _ _ _ _ _ _ hR2.out.now.1) Tryd.underlying24 rfl (by kernel_rfl)) rfl ⟨by rw [HRZ.out]; rfl, hR2.out.now.2.2.setRow _ _ (by have := HRR.out; omega)⟩
      · have HNN : Hid (numsW ((L.take (k + 1)).map (·.data.toList)) = some (ns ++ [n])) := hid (by
          rw [take_snoc HX.out, List.map_append, List.map_cons, List.map_nil, numsW_snoc, HN.out, HNR.out.1 rfl])
        go_wp2_with (first | (at_builtin; refine wpList_push_int rfl (.tmp 33) (.tmp 35) 43 rfl w1.heap.size 3 .i64 8 Tryd.underlying43 infoI _ ns n rfl HO2.out rfl (by unfold maxLen; omega) (by omega) HF2.out.size ?_; intro v3 w3 ho3 hg3; have HO3 := hid ho3; have HG3 := hid hg3; clear ho3 hg3))
        exact ⟨⟨k + 1, ns ++ [n], by omega, by go_num, by simp; omega, HO3, HNN, hid (HF2.out.grown HG3.out (fun j hj hlt' => absurd (HO2.out.lt j hj).1 (by omega)))⟩, by simp [intOf]; omega⟩
    · obtain rfl : k = 12 := by omega
      have hN := HN.out
      rw [List.take_of_length_le (by have := H12.out; omega), HL.out] at hN
      have hrd : rs = if (Sp.ofL ns).chkE = 0 then (Sp.ofL ns, 0) else (Sp.zero, (Sp.ofL ns).chkE) := by rw [← HRS.out]; unfold readS readL; rw [hN]; simp only []; rw [if_pos hnk]
      have HRO := hid (Rd.ofOwns HO.out)
      have HNK := hid hnk
      clear hN HN HO
      go_wp2_with fail
      refine (rof_calls _ ns _ HRO.out HNK.out).mono ?_
      rintro _ w2 ⟨rfl, hf⟩
      obtain ⟨P, hP⟩ : ∃ P, P = Sp.ofL ns := ⟨_, rfl⟩
      rw [← hP] at hrd ⊢
      have HRD2 := hid hrd
      have HVP : Hid (P.val = .agg #[.int .i64 P.s0, .int .i64 P.s1, .int .i64 P.s2, .int .i64 P.s3, .int .i64 P.s4, .int .i64 P.s5, .int .i64 P.s6, .int .i64 P.s7, .int .i64 P.s8, .int .i64 P.s9, .int .i64 P.s10, .int .i64 P.s11]) := rfl
      rw [HVP.out]
      have S3 := hid (S2.out.step hf)
      have HZ1 := hid (new1 w2 (.cells #[.int .i64 0, .int .i64 0, .int .i64 0, .int .i64 0, .int .i64 0, .int .i64 0, .int .i64 0, .int .i64 0, .int .i64 0, .int .i64 0, .int .i64 0, .int .i64 0] 24))
      clear hf S2 hP hrd
      go_upto_region 13 with (refine wpList_store_row rfl 24 (.tmp 9) (.tmp 38) (by with_reducible rfl) w2.heap.size #[.int .i64 P.s0, .int .i64 P.s1, .int .i64 P.s2, .int .i64 P.s3, .int .i64 P.s4, .int .i64 P.s5, .int .i64 P.s6, .int .i64 P.s7, .int .i64 P.s8, .int .i64 P.s9, .int .i64 P.s10, .int .i64 P.s11] (by kernel_rfl) (by kernel_rfl) _ _ HZ1.out (by kernel_rfl) (by rfl) (by simp [Value.oneCell']) ?_)
      have hfr := ((Frm.refl M0 w2).alloc (.cells #[.int .i64 0, .int .i64 0, .int .i64 0, .int .i64 0, .int .i64 0, .int .i64 0, .int .i64 0, .int .i64 0, .int .i64 0, .int .i64 0, .int .i64 0, .int .i64 0] 24)).setRow w2.heap.size #[.int .i64 P.s0, .int .i64 P.s1, .int .i64 P.s2, .int .i64 P.s3, .int .i64 P.s4, .int .i64 P.s5, .int .i64 P.s6, .int .i64 P.s7, .int .i64 P.s8, .int .i64 P.s9, .int .i64 P.s10, .int .i64 P.s11] (Nat.le_refl _)
      have hP3 := setRow_heap _ w2.heap.size _ #[.int .i64 P.s0, .int .i64 P.s1, .int .i64 P.s2, .int .i64 P.s3, .int .i64 P.s4, .int .i64 P.s5, .int .i64 P.s6, .int .i64 P.s7, .int .i64 P.s8, .int .i64 P.s9, .int .i64 P.s10, .int .i64 P.s11] _ _ HZ1.out
      obtain ⟨w3, hw3⟩ : ∃ x, x = (w2.alloc (.cells #[.int .i64 0, .int .i64 0, .int .i64 0, .int .i64 0, .int .i64 0, .int .i64 0, .int .i64 0, .int .i64 0, .int .i64 0, .int .i64 0, .int .i64 0, .int .i64 0] 24)).setRow w2.heap.size #[.int .i64 P.s0, .int .i64 P.s1, .int .i64 P.s2, .int .i64 P.s3, .int .i64 P.s4, .int .i64 P.s5, .int .i64 P.s6, .int .i64 P.s7, .int .i64 P.s8, .int .i64 P.s9, .int .i64 P.s10, .int .i64 P.s11] := ⟨_, rfl⟩
      rw [← hw3] at hfr hP3
      rw [← hw3]
      have S4 := hid ((S3.out.step hfr).and (Sb.heap hP3 (fun h => h)))
      clear hw3 hfr S3 HZ1 hP3
      go_wp2_with (refine wpList_load_row_w (by kernel_rfl) 24 (.tmp 9) (by with_reducible rfl) w2.heap.size (by kernel_rfl) _ _ _ _ S4.out.now.2 Tryd.underlying24 rfl (by kernel_rfl) ?_)
      rw [← HVP.out]
      refine (rcheck_calls P _).mono ?_
      rintro _ w4 ⟨rfl, hf⟩
      rw [HVP.out, ← chkE_eq]
      have S5 := hid (S4.out.step hf)
      clear hf S4
      rcases chkE_cases P with h | h
      · have HRZ : Hid (rs = (P, 0)) := hid (by rw [HRD2.out, if_pos h])
        rw [h]
        clear h
        go_wp2_with (first | (refine wpList_load_row_w (by kernel_rfl) 24 (.tmp 9) (by with_reducible rfl) w2.heap.size (by kernel_rfl) _ _ _ _ S5.out.now.2 Tryd.underlying24 rfl (by kernel_rfl) ?_) | (refine wpList_store_row rfl 24 (.tmp 2) (.tmp 48) (by with_reducible rfl) R #[.int .i64 P.s0, .int .i64 P.s1, .int .i64 P.s2, .int .i64 P.s3, .int .i64 P.s4, .int .i64 P.s5, .int .i64 P.s6, .int .i64 P.s7, .int .i64 P.s8, .int .i64 P.s9, .int .i64 P.s10, .int .i64 P.s11] (by kernel_rfl) (by kernel_rfl) _ _ S5.out.now.1.1 (by kernel_rfl) (by rfl) (by simp [Value.oneCell']) ?_))
        refine bodyPost_ret (results_cell_slot (by rfl) _ _ R _ _ _ _ _ rfl rfl (setRow_heap _ _ _ _ _ _ S5.out.now.1.1) Tryd.underlying24 rfl (by kernel_rfl)) rfl ⟨by rw [HRZ.out]; rfl, S5.out.now.1.2.2.setRow _ _ (by have := HRR.out; omega)⟩
      · have HRZ : Hid (rs = (Sp.zero, 11)) := hid (by rw [HRD2.out, if_neg (by omega), h])
        rw [h]
        clear h
        go_wp2_with (refine wpList_store_row rfl 24 (.tmp 2) (.tmp 46) (by with_reducible rfl) R #[.int .i64 0, .int .i64 0, .int .i64 0, .int .i64 0, .int .i64 0, .int .i64 0, .int .i64 0, .int .i64 0, .int .i64 0, .int .i64 0, .int .i64 0, .int .i64 0] (by kernel_rfl) (by kernel_rfl) _ _ S5.out.now.1.1 (by kernel_rfl) (by rfl) (by simp [Value.oneCell']) ?_)
        refine bodyPost_ret (results_cell_slot (by rfl) _ _ R _ _ _ _ _ rfl rfl (setRow_heap _ _ _ _ _ _ S5.out.now.1.1) Tryd.underlying24 rfl (by kernel_rfl)) rfl ⟨by rw [HRZ.out]; rfl, S5.out.now.1.2.2.setRow _ _ (by have := HRR.out; omega)⟩
end Go.Proofs.YtinbidmgllmglaaDoor
namespace Go.Proofs.YtinbidmgllmglaaDoor
set_option linter.unusedVariables false
set_option linter.unusedSimpArgs false
set_option maxRecDepth 20000
open Go.RowKit

def exS : Sp := ⟨1, 4, 1, 0, 1, 0, 0, 0, 0, 5, 0, 50⟩
def exT : ByteArray := ⟨#[49, 32, 52, 32, 49, 32, 48, 32, 49, 32, 48, 32, 48, 32, 48, 32, 48, 32, 53, 32, 48, 32, 53, 48]⟩
theorem ex_split : splitL exT.data.toList = [[49], [52], [49], [48], [49], [48], [48], [48], [48], [53], [48], [53, 48]] := by decide +kernel
theorem ex_nums : numsW [[49], [52], [49], [48], [49], [48], [48], [48], [48], [53], [48], [53, 48]] = some [1, 4, 1, 0, 1, 0, 0, 0, 0, 5, 0, 50] := by
  have h0 : numF [49] = some 1 := numF_some.2 ⟨by decide, by decide +kernel⟩
  have h1 : numF [52] = some 4 := numF_some.2 ⟨by decide, by decide +kernel⟩
  have h2 : numF [49] = some 1 := numF_some.2 ⟨by decide, by decide +kernel⟩
  have h3 : numF [48] = some 0 := numF_some.2 ⟨by decide, by decide +kernel⟩
  have h4 : numF [49] = some 1 := numF_some.2 ⟨by decide, by decide +kernel⟩
  have h5 : numF [48] = some 0 := numF_some.2 ⟨by decide, by decide +kernel⟩
  have h6 : numF [48] = some 0 := numF_some.2 ⟨by decide, by decide +kernel⟩
  have h7 : numF [48] = some 0 := numF_some.2 ⟨by decide, by decide +kernel⟩
  have h8 : numF [48] = some 0 := numF_some.2 ⟨by decide, by decide +kernel⟩
  have h9 : numF [53] = some 5 := numF_some.2 ⟨by decide, by decide +kernel⟩
  have h10 : numF [48] = some 0 := numF_some.2 ⟨by decide, by decide +kernel⟩
  have h11 : numF [53, 48] = some 50 := numF_some.2 ⟨by decide, by decide +kernel⟩
  simp only [numsW, h0, h1, h2, h3, h4, h5, h6, h7, h8, h9, h10, h11]
theorem ex_read : readS exT = (exS, 0) := by
  unfold readS readL
  rw [ex_split, ex_nums]
  have hc : (Sp.ofL [1, 4, 1, 0, 1, 0, 0, 0, 0, 5, 0, 50]).chkE = 0 := by decide +kernel
  simp only []
  rw [if_pos (by decide), if_pos hc]; rfl
theorem ex_text : textS exS = exT := by decide +kernel
set_option maxRecDepth 20000 in
set_option maxHeartbeats 4000000 in
theorem slives_calls (w : World) (hg : Glob w) : Calls Tryd.prog 20 #[] w fun e w' => e = .returned (.bool true) ∧ Frm M0 w w' := by
  have HV : Hid (exS.val = .agg #[.int .i64 1, .int .i64 4, .int .i64 1, .int .i64 0, .int .i64 1, .int .i64 0, .int .i64 0, .int .i64 0, .int .i64 0, .int .i64 5, .int .i64 0, .int .i64 50]) := rfl
  have HR := hid (sread_calls exT w (by decide) hg)
  rw [ex_read] at HR
  have HT : Hid (∀ wx, Frm M0 w wx → Calls Tryd.prog 24 #[exS.val] wx fun e w' => e = .returned (.string ⟨#[49, 32, 52, 32, 49, 32, 48, 32, 49, 32, 48, 32, 48, 32, 48, 32, 48, 32, 53, 32, 48, 32, 53, 48]⟩) ∧ Frm M0 wx w') := hid fun wx hx => by
    have := stext_calls exS wx (hg.frm hx).tab (by unfold Sp.small; decide)
    rw [ex_text] at this
    exact this
  rw [HV.out] at HT
  clear hg
  go_enter Tryd.func20, Tryd.ntmps20
  go_wp2_with fail
  refine HR.out.mono ?_
  rintro _ w1 ⟨rfl, hf⟩
  rw [HV.out]
  have HZ1 := hid (new1 w1 (.cells #[.int .i64 0, .int .i64 0, .int .i64 0, .int .i64 0, .int .i64 0, .int .i64 0, .int .i64 0, .int .i64 0, .int .i64 0, .int .i64 0, .int .i64 0, .int .i64 0] 24))
  have HF := hid hf
  clear hf
  go_upto_region 2 with (refine wpList_store_row rfl 24 (.tmp 1) (.tmp 5) (by with_reducible rfl) w1.heap.size #[.int .i64 1, .int .i64 4, .int .i64 1, .int .i64 0, .int .i64 1, .int .i64 0, .int .i64 0, .int .i64 0, .int .i64 0, .int .i64 5, .int .i64 0, .int .i64 50] (by kernel_rfl) (by kernel_rfl) _ _ HZ1.out (by kernel_rfl) (by rfl) (by simp [Value.oneCell']) ?_)
  have hfr := ((Frm.refl M0 w1).alloc (.cells #[.int .i64 0, .int .i64 0, .int .i64 0, .int .i64 0, .int .i64 0, .int .i64 0, .int .i64 0, .int .i64 0, .int .i64 0, .int .i64 0, .int .i64 0, .int .i64 0] 24)).setRow w1.heap.size #[.int .i64 1, .int .i64 4, .int .i64 1, .int .i64 0, .int .i64 1, .int .i64 0, .int .i64 0, .int .i64 0, .int .i64 0, .int .i64 5, .int .i64 0, .int .i64 50] (Nat.le_refl _)
  have hP3 := setRow_heap _ w1.heap.size _ #[.int .i64 1, .int .i64 4, .int .i64 1, .int .i64 0, .int .i64 1, .int .i64 0, .int .i64 0, .int .i64 0, .int .i64 0, .int .i64 5, .int .i64 0, .int .i64 50] _ _ HZ1.out
  obtain ⟨g, hg⟩ : ∃ x, x = w1.heap.size := ⟨_, rfl⟩
  obtain ⟨w3, hw3⟩ : ∃ x, x = (w1.alloc (.cells #[.int .i64 0, .int .i64 0, .int .i64 0, .int .i64 0, .int .i64 0, .int .i64 0, .int .i64 0, .int .i64 0, .int .i64 0, .int .i64 0, .int .i64 0, .int .i64 0] 24)).setRow w1.heap.size #[.int .i64 1, .int .i64 4, .int .i64 1, .int .i64 0, .int .i64 1, .int .i64 0, .int .i64 0, .int .i64 0, .int .i64 0, .int .i64 5, .int .i64 0, .int .i64 50] := ⟨_, rfl⟩
  rw [← hw3] at hfr hP3
  rw [← hw3]
  rw [← hg] at hP3 ⊢
  have S4 : Hid (Sb M0 w3 fun x => x.heap[g]? = some (.cells #[.int .i64 1, .int .i64 4, .int .i64 1, .int .i64 0, .int .i64 1, .int .i64 0, .int .i64 0, .int .i64 0, .int .i64 0, .int .i64 5, .int .i64 0, .int .i64 50] 24 (0, 0)) ∧ Frm M0 w x) := hid fun wx hx => ⟨hx.heap hP3 (fun h => h), (HF.out.then0 hfr).same hx⟩
  clear hw3 hfr HZ1 hP3 hg HF
  have c1 := sb_cell S4.out.now.1 1
  have c2 := sb_cell S4.out.now.1 11
  go_wp2_with (refine wpList_load_row_w (by kernel_rfl) 24 (.tmp 1) (by with_reducible rfl) g (by kernel_rfl) _ _ _ _ S4.out.now.1 Tryd.underlying24 rfl (by kernel_rfl) ?_)
  clear c1 c2
  refine (HT.out _ S4.out.now.2).mono ?_
  rintro _ w4 ⟨rfl, hf⟩
  have S5 := hid (S4.out.step hf)
  clear hf S4
  go_wp2_with (refine wpList_load_row_w (by kernel_rfl) 24 (.tmp 1) (by with_reducible rfl) g (by kernel_rfl) _ _ _ _ S5.out.now.1 Tryd.underlying24 rfl (by kernel_rfl) ?_)
  rw [← HV.out]
  refine (fields_calls exS _).mono ?_
  rintro _ w5 ⟨v, rfl, hr, hf⟩
  rw [HV.out]
  have hr2 := Rd.ofOwns hr
  obtain ⟨a, c, rfl, _⟩ := hr2.shape
  have S6 := hid (S5.out.step hf)
  have HL : Hid (exS.nums.length = 12) := rfl
  rw [HL.out]
  clear hf S5 hr hr2
  go_wp2_with fail
  go_ret
  exact ⟨rfl, S6.out.now.2⟩
end Go.Proofs.YtinbidmgllmglaaDoor
namespace Go.Proofs.YtinbidmgllmglaaDoor
set_option linter.unusedVariables false
set_option linter.unusedSimpArgs false
set_option maxRecDepth 20000
open Go.RowKit Cp
set_option maxRecDepth 100000 in
set_option maxHeartbeats 1000000 in
theorem same_calls (va vb : Value) (l : List Int) (w : World) (hl : l.length ≤ 1000000) (hra : Rd w 1 va l.length (ints .i64 l)) (hrb : Rd w 1 vb l.length (ints .i64 l)) :
    Calls Tryd.prog 28 #[va, vb] w fun e w' => e = .returned (.bool true) ∧ Frm M0 w w' := by
  obtain ⟨a, ca, rfl, ha⟩ := hra.shape
  obtain ⟨b, cb, rfl, hb⟩ := hrb.shape
  have HA := hid hra
  have HB := hid hrb
  clear hra hrb
  go_enter Tryd.func28, Tryd.ntmps28
  go_wp2_with fail
  go_loopw [5] (fun i5 wr => ∃ k : Nat, k ≤ l.length ∧ i5 = .int .i64 k ∧ Hid (Frm M0 w wr)) (fun i _ => l.length - (intOf i).toNat)
  case atStart => exact ⟨0, Nat.zero_le _, rfl, hid (Frm.refl _ _)⟩
  case round =>
    obtain ⟨k, hk, rfl, HF⟩ := hrel
    by_cases hlt : k < l.length
    · obtain ⟨b1, o1, rfl⟩ := ha (by omega)
      obtain ⟨b2, o2, rfl⟩ := hb (by omega)
      obtain ⟨x, HX, hc⟩ := (HA.out.frm0 HF.out).cellAt k hlt
      obtain ⟨y, HY, hd⟩ := (HB.out.frm0 HF.out).cellAt k hlt
      obtain rfl : x = y := Option.some.inj (HX.out.symm.trans HY.out)
      go_wp2_with fail
      go_quiet (fail)
      go_wp2_with fail
      exact ⟨⟨k + 1, by omega, by go_num, hid (HF.out.drewN nq)⟩, by simp [intOf]; omega⟩
    · go_wp2_with fail
      go_ret
      exact ⟨rfl, HF.out⟩
end Go.Proofs.YtinbidmgllmglaaDoor
namespace Go.Proofs.YtinbidmgllmglaaDoor
set_option linter.unusedVariables false
set_option linter.unusedSimpArgs false
set_option maxRecDepth 20000
open Go.RowKit

def seqB (a b : Sp) : Bool := decide (a = b)
theorem eql_sp (w : World) (a0 a1 a2 a3 a4 a5 a6 a7 a8 a9 a10 a11 b0 b1 b2 b3 b4 b5 b6 b7 b8 b9 b10 b11 : Int) :
    (binOp .eql 24 (.agg #[.int .i64 a0, .int .i64 a1, .int .i64 a2, .int .i64 a3, .int .i64 a4, .int .i64 a5, .int .i64 a6, .int .i64 a7, .int .i64 a8, .int .i64 a9, .int .i64 a10, .int .i64 a11]) (.agg #[.int .i64 b0, .int .i64 b1, .int .i64 b2, .int .i64 b3, .int .i64 b4, .int .i64 b5, .int .i64 b6, .int .i64 b7, .int .i64 b8, .int .i64 b9, .int .i64 b10, .int .i64 b11])).run Tryd.prog w = .ok (.bool (seqB (Sp.mk a0 a1 a2 a3 a4 a5 a6 a7 a8 a9 a10 a11) (Sp.mk b0 b1 b2 b3 b4 b5 b6 b7 b8 b9 b10 b11))) w := by
  rw [run_eql_struct, show (10000 : Nat) = 9997 + 1 + 1 + 1 from rfl, eq_sp]
  rfl
end Go.Proofs.YtinbidmgllmglaaDoor
namespace Go.Proofs.YtinbidmgllmglaaDoor
set_option linter.unusedVariables false
set_option linter.unusedSimpArgs false
set_option maxRecDepth 20000
open Go.RowKit

theorem ofL_nums (l : List Int) (h : l.length = 12) : (Sp.ofL l).nums = l := by
  match l, h with
  | [x0, x1, x2, x3, x4, x5, x6, x7, x8, x9, x10, x11], _ => rfl
set_option maxRecDepth 20000 in
set_option maxHeartbeats 8000000 in
attribute [-go_sem] run_eql_struct in
attribute [local go_sem] eql_sp in
theorem specMakes_walk (W : World) (hg : Glob W) (v : Value) (l0 : List Int) (hr : Rd W 1 v l0.length (ints .i64 l0)) (hwf : ∀ x ∈ l0, (Lit.int .i64 x).wf = true) :
    Calls Tryd.prog 7 #[v] W fun y w' => y = .returned (.bool true) ∧ Below W.heap.size W w' := by
  have HG := hid hg
  clear hg hwf
  obtain ⟨a, c, rfl, hab⟩ := hr.shape
  obtain ⟨_, hc1, hc2⟩ := hr.cap
  have HRB : Hid (∀ wx, Frm M0 W wx → Rd wx 1 (.slice a l0.length c) l0.length (ints .i64 l0)) := hid fun wx hx => hr.frm0 hx
  clear hr
  by_cases h : l0.length ≤ 20
  · obtain ⟨l, hl⟩ : ∃ l, l = l0 := ⟨_, rfl⟩
    rw [← hl] at HRB h hc1
    rw [← hl]
    have HB := HRB
    clear hl HRB hab
    have hmin : min (l.length : Int) 20 = (l.length : Int) := by omega
    go_enter Tryd.func7, Tryd.ntmps7
    go_wp2_with fail
    refine (slives_calls W HG.out).mono ?_
    rintro _ w1 ⟨rfl, hf⟩
    have HF1 := hid hf
    clear hf
    go_wp2_with fail
    clear hmin
    by_cases h12 : l.length = 12
    case neg =>
      have h12' : ¬ ((l.length : Int) = 12) := by omega
      refine (make_bad _ l _ (HB.out _ HF1.out) h12 (by omega)).mono ?_
      rintro _ w2 ⟨rfl, hf⟩
      have HF2 := hid (HF1.out.then0 hf)
      clear hf HF1 h12
      have HVZ : Hid (Sp.zero.val = .agg #[.int .i64 0, .int .i64 0, .int .i64 0, .int .i64 0, .int .i64 0, .int .i64 0, .int .i64 0, .int .i64 0, .int .i64 0, .int .i64 0, .int .i64 0, .int .i64 0]) := rfl
      rw [HVZ.out]
      go_upto_region 5 with (refine wpList_store_row rfl 24 (.tmp 3) (.tmp 15) (by with_reducible rfl) w2.heap.size #[.int .i64 0, .int .i64 0, .int .i64 0, .int .i64 0, .int .i64 0, .int .i64 0, .int .i64 0, .int .i64 0, .int .i64 0, .int .i64 0, .int .i64 0, .int .i64 0] (by kernel_rfl) (by kernel_rfl) _ _ (new1 w2 _) (by kernel_rfl) (by rfl) (by simp [Value.oneCell']) ?_)
      have hfr := ((Frm.refl M0 w2).alloc (.cells #[.int .i64 0, .int .i64 0, .int .i64 0, .int .i64 0, .int .i64 0, .int .i64 0, .int .i64 0, .int .i64 0, .int .i64 0, .int .i64 0, .int .i64 0, .int .i64 0] 24)).setRow w2.heap.size #[.int .i64 0, .int .i64 0, .int .i64 0, .int .i64 0, .int .i64 0, .int .i64 0, .int .i64 0, .int .i64 0, .int .i64 0, .int .i64 0, .int .i64 0, .int .i64 0] (Nat.le_refl _)
      have hP3 := setRow_heap _ w2.heap.size _ #[.int .i64 0, .int .i64 0, .int .i64 0, .int .i64 0, .int .i64 0, .int .i64 0, .int .i64 0, .int .i64 0, .int .i64 0, .int .i64 0, .int .i64 0, .int .i64 0] _ _ (new1 w2 (.cells #[.int .i64 0, .int .i64 0, .int .i64 0, .int .i64 0, .int .i64 0, .int .i64 0, .int .i64 0, .int .i64 0, .int .i64 0, .int .i64 0, .int .i64 0, .int .i64 0] 24))
      obtain ⟨b, hblk⟩ : ∃ x, x = w2.heap.size := ⟨_, rfl⟩
      obtain ⟨w3, hwn⟩ : ∃ x, x = (w2.alloc (.cells #[.int .i64 0, .int .i64 0, .int .i64 0, .int .i64 0, .int .i64 0, .int .i64 0, .int .i64 0, .int .i64 0, .int .i64 0, .int .i64 0, .int .i64 0, .int .i64 0] 24)).setRow w2.heap.size #[.int .i64 0, .int .i64 0, .int .i64 0, .int .i64 0, .int .i64 0, .int .i64 0, .int .i64 0, .int .i64 0, .int .i64 0, .int .i64 0, .int .i64 0, .int .i64 0] := ⟨_, rfl⟩
      rw [← hwn] at hfr hP3
      rw [← hwn]
      rw [← hblk] at hP3 ⊢
      clear hwn hblk
      have S3 : Hid (Sb M0 w3 fun x => x.heap[b]? = some (.cells #[.int .i64 0, .int .i64 0, .int .i64 0, .int .i64 0, .int .i64 0, .int .i64 0, .int .i64 0, .int .i64 0, .int .i64 0, .int .i64 0, .int .i64 0, .int .i64 0] 24 (0, 0)) ∧ Frm M0 W x) := hid fun wx hx => ⟨hx.heap hP3 (fun h => h), (HF2.out.then0 hfr).same hx⟩
      clear hfr hP3 HF2
      have hsq : seqB ⟨0, 0, 0, 0, 0, 0, 0, 0, 0, 0, 0, 0⟩ ⟨0, 0, 0, 0, 0, 0, 0, 0, 0, 0, 0, 0⟩ = true := by simp [seqB]
      go_wp2_with (refine wpList_load_row_w (by kernel_rfl) 24 (.tmp 3) (by with_reducible rfl) b (by kernel_rfl) _ _ _ _ S3.out.now.1 Tryd.underlying24 rfl (by kernel_rfl) ?_)
      go_ret
      exact ⟨by first | rfl | simp, S3.out.now.2.below⟩
    case pos =>
      refine (make_ok _ l _ (HB.out _ HF1.out) h12).mono ?_
      rintro _ w2 ⟨rfl, hf⟩
      have HF2 := hid (HF1.out.then0 hf)
      have H12 := hid h12
      have h12' : ((l.length : Int) = 12) := by omega
      clear hf HF1 h12
      obtain ⟨P, HP⟩ : ∃ P, Hid (Sp.ofL l = P) := ⟨_, rfl⟩
      rw [HP.out]
      have HVP : Hid (P.val = .agg #[.int .i64 P.s0, .int .i64 P.s1, .int .i64 P.s2, .int .i64 P.s3, .int .i64 P.s4, .int .i64 P.s5, .int .i64 P.s6, .int .i64 P.s7, .int .i64 P.s8, .int .i64 P.s9, .int .i64 P.s10, .int .i64 P.s11]) := rfl
      rw [HVP.out]
      go_upto_region 5 with (refine wpList_store_row rfl 24 (.tmp 3) (.tmp 15) (by with_reducible rfl) w2.heap.size #[.int .i64 P.s0, .int .i64 P.s1, .int .i64 P.s2, .int .i64 P.s3, .int .i64 P.s4, .int .i64 P.s5, .int .i64 P.s6, .int .i64 P.s7, .int .i64 P.s8, .int .i64 P.s9, .int .i64 P.s10, .int .i64 P.s11] (by kernel_rfl) (by kernel_rfl) _ _ (new1 w2 _) (by kernel_rfl) (by rfl) (by simp [Value.oneCell']) ?_)
      have hfr := ((Frm.refl M0 w2).alloc (.cells #[.int .i64 0, .int .i64 0, .int .i64 0, .int .i64 0, .int .i64 0, .int .i64 0, .int .i64 0, .int .i64 0, .int .i64 0, .int .i64 0, .int .i64 0, .int .i64 0] 24)).setRow w2.heap.size #[.int .i64 P.s0, .int .i64 P.s1, .int .i64 P.s2, .int .i64 P.s3, .int .i64 P.s4, .int .i64 P.s5, .int .i64 P.s6, .int .i64 P.s7, .int .i64 P.s8, .int .i64 P.s9, .int .i64 P.s10, .int .i64 P.s11] (Nat.le_refl _)
      have hP3 := setRow_heap _ w2.heap.size _ #[.int .i64 P.s0, .int .i64 P.s1, .int .i64 P.s2, .int .i64 P.s3, .int .i64 P.s4, .int .i64 P.s5, .int .i64 P.s6, .int .i64 P.s7, .int .i64 P.s8, .int .i64 P.s9, .int .i64 P.s10, .int .i64 P.s11] _ _ (new1 w2 (.cells #[.int .i64 0, .int .i64 0, .int .i64 0, .int .i64 0, .int .i64 0, .int .i64 0, .int .i64 0, .int .i64 0, .int .i64 0, .int .i64 0, .int .i64 0, .int .i64 0] 24))
      obtain ⟨b, hblk⟩ : ∃ x, x = w2.heap.size := ⟨_, rfl⟩
      obtain ⟨w3, hwn⟩ : ∃ x, x = (w2.alloc (.cells #[.int .i64 0, .int .i64 0, .int .i64 0, .int .i64 0, .int .i64 0, .int .i64 0, .int .i64 0, .int .i64 0, .int .i64 0, .int .i64 0, .int .i64 0, .int .i64 0] 24)).setRow w2.heap.size #[.int .i64 P.s0, .int .i64 P.s1, .int .i64 P.s2, .int .i64 P.s3, .int .i64 P.s4, .int .i64 P.s5, .int .i64 P.s6, .int .i64 P.s7, .int .i64 P.s8, .int .i64 P.s9, .int .i64 P.s10, .int .i64 P.s11] := ⟨_, rfl⟩
      rw [← hwn] at hfr hP3
      rw [← hwn]
      rw [← hblk] at hP3 ⊢
      clear hwn hblk
      have S3 : Hid (Sb M0 w3 fun x => x.heap[b]? = some (.cells #[.int .i64 P.s0, .int .i64 P.s1, .int .i64 P.s2, .int .i64 P.s3, .int .i64 P.s4, .int .i64 P.s5, .int .i64 P.s6, .int .i64 P.s7, .int .i64 P.s8, .int .i64 P.s9, .int .i64 P.s10, .int .i64 P.s11] 24 (0, 0)) ∧ Frm M0 W x) := hid fun wx hx => ⟨hx.heap hP3 (fun h => h), (HF2.out.then0 hfr).same hx⟩
      clear hfr hP3 HF2
      go_wp2_with (refine wpList_load_row_w (by kernel_rfl) 24 (.tmp 3) (by with_reducible rfl) b (by kernel_rfl) _ _ _ _ S3.out.now.1 Tryd.underlying24 rfl (by kernel_rfl) ?_)
      rw [← HVP.out]
      refine (fields_calls P _).mono ?_
      rintro _ w4 ⟨v4, rfl, hr, hf⟩
      rw [HVP.out]
      have hr2 := Rd.ofOwns hr
      rw [← HP.out, ofL_nums l H12.out] at hr2
      have HR4 := hid hr2
      have S4 := hid (S3.out.step hf)
      clear hf S3 hr hr2
      go_wp2_with fail
      refine (same_calls _ _ l _ (by omega) HR4.out (HB.out _ S4.out.now.2)).mono ?_
      rintro _ w5 ⟨rfl, hf⟩
      have S5 := hid (S4.out.step hf)
      clear hf
      go_wp2_with fail
      go_ret
      exact ⟨by first | rfl | simp, S5.out.now.2.below⟩
  · obtain ⟨b, o, rfl⟩ := hab (by omega)
    have HB : Hid (∀ wx, Frm M0 W wx → Rd wx 1 (.slice (some ⟨b, o, none⟩) (l0.take 20).length c) (l0.take 20).length (ints .i64 (l0.take 20))) := hid (fun wx hx => by rw [List.length_take, Nat.min_eq_left (by omega)]; have := (HRB.out wx hx).take 20 (by omega); rwa [List.length_take, Nat.min_eq_left (by omega)] at this)
    have hlen : (l0.take 20).length = 20 := by rw [List.length_take]; omega
    obtain ⟨l, hl⟩ : ∃ l, l = l0.take 20 := ⟨_, rfl⟩
    rw [← hl] at HB hlen
    have hle : ((20 : Int)) ≤ (l0.length : Int) := by omega
    have hmin : min (l0.length : Int) 20 = 20 := by omega
    clear hl hab HRB
    go_enter Tryd.func7, Tryd.ntmps7
    go_wp2_with fail
    refine (slives_calls W HG.out).mono ?_
    rintro _ w1 ⟨rfl, hf⟩
    have HF1 := hid hf
    clear hf
    go_wp2_with fail
    rw [← hlen]
    by_cases h12 : l.length = 12
    case neg =>
      have h12' : ¬ ((l.length : Int) = 12) := by omega
      refine (make_bad _ l _ (HB.out _ HF1.out) h12 (by omega)).mono ?_
      rintro _ w2 ⟨rfl, hf⟩
      have HF2 := hid (HF1.out.then0 hf)
      clear hf HF1 h12
      have HVZ : Hid (Sp.zero.val = .agg #[.int .i64 0, .int .i64 0, .int .i64 0, .int .i64 0, .int .i64 0, .int .i64 0, .int .i64 0, .int .i64 0, .int .i64 0, .int .i64 0, .int .i64 0, .int .i64 0]) := rfl
      rw [HVZ.out]
      go_upto_region 5 with (refine wpList_store_row rfl 24 (.tmp 3) (.tmp 15) (by with_reducible rfl) w2.heap.size #[.int .i64 0, .int .i64 0, .int .i64 0, .int .i64 0, .int .i64 0, .int .i64 0, .int .i64 0, .int .i64 0, .int .i64 0, .int .i64 0, .int .i64 0, .int .i64 0] (by kernel_rfl) (by kernel_rfl) _ _ (new1 w2 _) (by kernel_rfl) (by rfl) (by simp [Value.oneCell']) ?_)
      have hfr := ((Frm.refl M0 w2).alloc (.cells #[.int .i64 0, .int .i64 0, .int .i64 0, .int .i64 0, .int .i64 0, .int .i64 0, .int .i64 0, .int .i64 0, .int .i64 0, .int .i64 0, .int .i64 0, .int .i64 0] 24)).setRow w2.heap.size #[.int .i64 0, .int .i64 0, .int .i64 0, .int .i64 0, .int .i64 0, .int .i64 0, .int .i64 0, .int .i64 0, .int .i64 0, .int .i64 0, .int .i64 0, .int .i64 0] (Nat.le_refl _)
      have hP3 := setRow_heap _ w2.heap.size _ #[.int .i64 0, .int .i64 0, .int .i64 0, .int .i64 0, .int .i64 0, .int .i64 0, .int .i64 0, .int .i64 0, .int .i64 0, .int .i64 0, .int .i64 0, .int .i64 0] _ _ (new1 w2 (.cells #[.int .i64 0, .int .i64 0, .int .i64 0, .int .i64 0, .int .i64 0, .int .i64 0, .int .i64 0, .int .i64 0, .int .i64 0, .int .i64 0, .int .i64 0, .int .i64 0] 24))
      obtain ⟨b, hblk⟩ : ∃ x, x = w2.heap.size := ⟨_, rfl⟩
      obtain ⟨w3, hwn⟩ : ∃ x, x = (w2.alloc (.cells #[.int .i64 0, .int .i64 0, .int .i64 0, .int .i64 0, .int .i64 0, .int .i64 0, .int .i64 0, .int .i64 0, .int .i64 0, .int .i64 0, .int .i64 0, .int .i64 0] 24)).setRow w2.heap.size #[.int .i64 0, .int .i64 0, .int .i64 0, .int .i64 0, .int .i64 0, .int .i64 0, .int .i64 0, .int .i64 0, .int .i64 0, .int .i64 0, .int .i64 0, .int .i64 0] := ⟨_, rfl⟩
      rw [← hwn] at hfr hP3
      rw [← hwn]
      rw [← hblk] at hP3 ⊢
      clear hwn hblk
      have S3 : Hid (Sb M0 w3 fun x => x.heap[b]? = some (.cells #[.int .i64 0, .int .i64 0, .int .i64 0, .int .i64 0, .int .i64 0, .int .i64 0, .int .i64 0, .int .i64 0, .int .i64 0, .int .i64 0, .int .i64 0, .int .i64 0] 24 (0, 0)) ∧ Frm M0 W x) := hid fun wx hx => ⟨hx.heap hP3 (fun h => h), (HF2.out.then0 hfr).same hx⟩
      clear hfr hP3 HF2
      have hsq : seqB ⟨0, 0, 0, 0, 0, 0, 0, 0, 0, 0, 0, 0⟩ ⟨0, 0, 0, 0, 0, 0, 0, 0, 0, 0, 0, 0⟩ = true := by simp [seqB]
      go_wp2_with (refine wpList_load_row_w (by kernel_rfl) 24 (.tmp 3) (by with_reducible rfl) b (by kernel_rfl) _ _ _ _ S3.out.now.1 Tryd.underlying24 rfl (by kernel_rfl) ?_)
      go_ret
      exact ⟨by first | rfl | simp, S3.out.now.2.below⟩
    case pos =>
      exact absurd h12 (by omega)
end Go.Proofs.YtinbidmgllmglaaDoor
