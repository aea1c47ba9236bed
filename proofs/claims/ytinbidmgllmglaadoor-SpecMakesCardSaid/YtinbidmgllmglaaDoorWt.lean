/- spec.Text. -/
import Derived.Test.YtinbidmgllmglaaDoorWi
import Derived.Test.YtinbidmgllmglaaDoorSf
namespace Go.Proofs.YtinbidmgllmglaaDoor
set_option linter.unusedVariables false
set_option linter.unusedSimpArgs false
set_option maxRecDepth 20000
open Go.RowKit

def Sp.small (p : Sp) : Prop := ∀ x ∈ p.nums, -9223372036854775808 ≤ x ∧ x ≤ 9223372036854775807
/-- Numbers as words. -/
def words (l : List Int) : List ByteArray := l.map fun n => str (Lib.itoa n)
/-- Words, a blank between. -/
def joinS (l : List ByteArray) : ByteArray := str (Lib.join (l.map (·.data.toList)) [32])
def textS (p : Sp) : ByteArray := joinS (words p.nums)
theorem nums_len (p : Sp) : p.nums.length = 12 := rfl

theorem joinTail_bound (n : Nat) : ∀ (r : List (List UInt8)), (∀ x ∈ r, x.length ≤ n) → (Lib.joinTail [32] r).length ≤ r.length * (n + 1) := by
  intro r
  induction r with
  | nil => intro _; simp [Lib.joinTail]
  | cons y r ih =>
    intro h
    have h1 := h y (by simp)
    have h2 := ih (fun x hx => h x (by simp [hx]))
    simp only [Lib.joinTail, List.map_cons, List.flatten_cons, List.length_append, List.length_cons, List.length_nil] at h2 ⊢
    rw [Nat.succ_mul]; omega
theorem join_bound (n : Nat) (r : List (List UInt8)) (h : ∀ x ∈ r, x.length ≤ n) : (Lib.join r [32]).length ≤ r.length * (n + 1) := by
  cases r with
  | nil => simp [Lib.join_nil]
  | cons y r =>
    have h1 := h y (by simp)
    have h2 := joinTail_bound n r (fun x hx => h x (by simp [hx]))
    rw [Lib.join_cons, List.length_append, List.length_cons, Nat.succ_mul]; omega
theorem words_bound (l : List Int) (h : ∀ x ∈ l, -9223372036854775808 ≤ x ∧ x ≤ 9223372036854775807) : ∀ x ∈ words l, x.size ≤ 21 := by
  intro x hx
  obtain ⟨n, hn, rfl⟩ := List.mem_map.1 hx
  have := Lib.itoa_length_le n (h n hn).1 (h n hn).2
  show (Lib.itoa n).toArray.size ≤ 21
  simpa using this
theorem words_snoc (l : List Int) (n : Int) : words l ++ [str (Lib.itoa n)] = words (l ++ [n]) := by simp [words]
theorem words_len (l : List Int) : (words l).length = l.length := by simp [words]
theorem joinS_size (n : Nat) (l : List ByteArray) (h : ∀ x ∈ l, x.size ≤ n) : (Lib.join (l.map (·.data.toList)) [32]).length ≤ l.length * (n + 1) := by
  have := join_bound n (l.map (·.data.toList)) (by
    intro x hx
    obtain ⟨s, hs, rfl⟩ := List.mem_map.1 hx
    have := h s hs
    show s.data.toList.length ≤ n
    rw [Array.length_toList]; exact this)
  rwa [List.length_map] at this

set_option maxHeartbeats 2000000 in
set_option maxRecDepth 20000 in
theorem stext_calls (p : Sp) (w : World) (ht : Tab w) (hp : p.small) : Calls Tryd.prog 24 #[p.val] w fun e w' => e = .returned (.string (textS p)) ∧ Frm M0 w w' := by
  have HT := hid ht; clear ht
  have HV : Hid (p.val = .agg #[.int .i64 p.s0, .int .i64 p.s1, .int .i64 p.s2, .int .i64 p.s3, .int .i64 p.s4, .int .i64 p.s5, .int .i64 p.s6, .int .i64 p.s7, .int .i64 p.s8, .int .i64 p.s9, .int .i64 p.s10, .int .i64 p.s11]) := rfl
  rw [HV.out]
  go_enter Tryd.func24, Tryd.ntmps24
  go_wp2_with (refine wpList_load_row rfl 24 (.tmp 1) (by with_reducible rfl) w.heap.size rfl _ _ _ _ (heap_alloc_last w _) Tryd.underlying24 rfl (by kernel_rfl) ?_)
  rw [← HV.out]
  refine (fields_calls p _).mono ?_
  rintro _ w1 ⟨v, rfl, hr, hf⟩
  have HF1 := hid (((Frm.refl M0 w).alloc _).then0 hf)
  have HR := hid (Rd.ofOwns hr)
  clear hr hf
  obtain ⟨a, c, rfl, hsh⟩ := HR.out.shape
  obtain ⟨b, o, rfl⟩ := hsh (by rw [nums_len]; omega)
  clear hsh
  obtain ⟨L, hL⟩ : ∃ L, L = p.nums := ⟨_, rfl⟩
  have HL : Hid (textS p = joinS (words L)) := by rw [hL]; rfl
  have HP : Hid (∀ x ∈ L, -9223372036854775808 ≤ x ∧ x ≤ 9223372036854775807) := by rw [hL]; exact hp
  have hn : L.length = 12 := by rw [hL]; rfl
  rw [← hL] at HR
  rw [← hL, hn]
  have HN := hid hn
  clear hL hp hn
  go_wp2_with fail
  go_loopw [3, 5, 9] (fun v3 _s5 i9 wr => ∃ k : Nat, k ≤ 12 ∧ i9 = .int .i64 k ∧ Hid (wr.ownsRow w1.heap.size 9 1 v3 (words (L.take k)).length (strs (words (L.take k)))) ∧ Hid (Frm M0 w1 wr)) (fun _ _ i _ => 12 - (intOf i).toNat)
  case atStart => exact ⟨0, Nat.zero_le _, rfl, hid (World.ownsRow_nil _ _ _ _), hid (Frm.refl _ _)⟩
  case round =>
    obtain ⟨k, hk, rfl, HO, HF⟩ := hrel
    have hlw : (words (L.take k)).length = k := by rw [words_len, List.length_take, HN.out]; omega
    have HLW := hid hlw; clear hlw
    by_cases hlt : k < 12
    · have hkL : k < L.length := by rw [HN.out]; exact hlt
      obtain ⟨x, HX, hc⟩ := (HR.out.frm0 HF.out).cellAt k hkL
      have hx := HP.out x (List.mem_of_getElem? HX.out)
      have HXB := hid hx
      clear hx hkL
      go_wp2_with fail
      refine (itoa_calls x _ HXB.out.1 HXB.out.2 (HT.out.frm (HF1.out.then0 HF.out))).mono ?_
      rintro _ w2 ⟨rfl, hf⟩
      have HO2 := hid (hf.owns HO.out (fun _ _ h => h))
      have HF2 := hid (HF.out.then0 hf)
      clear hf hc
      go_wp2_with (first | (at_builtin; refine wpList_push_el strs_len strs_one rfl (.tmp 13) (.tmp 16) 62 rfl w1.heap.size 9 (.string ⟨#[]⟩) 16 Tryd.underlying62 (by kernel_rfl) rfl (by decide) _ (words (L.take k)) (str (Lib.itoa x)) #[.string (str (Lib.itoa x))] rfl rfl HO2.out rfl (by rw [HLW.out]; omega) (by rw [HLW.out]; omega) HF2.out.size ?_; intro v3 w3 ho3 hg3; have HO3 := hid ho3; have HG3 := hid hg3; clear ho3 hg3))
      refine ⟨⟨k + 1, by omega, by go_num, hid ?_, hid ?_⟩, by simp [intOf]; omega⟩
      · rw [take_snoc HX.out, ← words_snoc]; exact HO3.out
      · exact HF2.out.grown HG3.out (fun j hj hlt' => absurd (HO2.out.lt j hj).1 (by omega))
    · obtain rfl : k = 12 := by omega
      have ht : L.take 12 = L := List.take_of_length_le (by rw [HN.out]; omega)
      have hR := Rd.ofOwns HO.out
      rw [ht] at hR HLW
      obtain ⟨a3, c3, h3, _⟩ := hR.shape
      have HLB := hid (joinS_size 21 (words L) (words_bound L HP.out))
      have HRR := hid hR
      clear hR ht
      subst h3
      go_wp2_with fail
      refine (join_calls _ (words L) ⟨#[32]⟩ _ HRR.out (by rw [HLW.out]; omega) (by rw [HLW.out]; omega) ?_).mono ?_
      · have := HLB.out
        rw [HLW.out] at this
        exact Nat.le_trans this (by omega)
      rintro _ w3 ⟨rfl, hf⟩
      go_wp2_with fail
      go_ret
      exact ⟨by rw [HL.out]; rfl, (HF1.out.then0 HF.out).then0 hf⟩
end Go.Proofs.YtinbidmgllmglaaDoor
