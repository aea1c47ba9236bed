/- CodecSizes, CodecNil: the walks of two laws over codec.Size. No condition. -/
import Derived.Test.YtmbigbhmfoinoaaCl
import Derived.Test.YtmbigbhmfoinoaaFt
namespace Go.Proofs.Ytmbigbhmfoinoaa
open Go.RowKit Cp
namespace Cp
theorem dig_mono : ∀ (k a b : Nat), a ≤ b → b ≤ k → (dig a).length ≤ (dig b).length := by
  intro k
  induction k with
  | zero => intro a b h1 h2; have : a = b := by omega
            subst this; exact Nat.le_refl _
  | succ k ih =>
    intro a b h1 h2
    by_cases ha : a < 128
    · rw [dig_lt ha]; exact dig_len_pos b
    · rw [dig_ge (n := a) (by omega), dig_ge (n := b) (by omega), List.length_cons, List.length_cons]
      have := ih (a / 128) (b / 128) (by omega) (by omega)
      omega
theorem dig_one {n : Nat} (h : n < 128) : (dig n).length = 1 := by rw [dig_lt h]; rfl
theorem dig_two {n : Nat} (h : 128 ≤ n) (h2 : n < 16384) : (dig n).length = 2 := by rw [dig_ge h, dig_lt (by omega)]; rfl
theorem dig_three {n : Nat} (h : 16384 ≤ n) : 3 ≤ (dig n).length := by
  rw [dig_ge (by omega), List.length_cons, dig_ge (by omega), List.length_cons]
  have := dig_len_pos (n / 128 / 128); omega
theorem dig_div {n : Nat} (h : 128 ≤ n) : (dig (n / 128)).length + 1 = (dig n).length := by rw [dig_ge h]; rfl
end Cp

theorem sizeF_nat {n : Nat} (h : n ≤ 4611686018427387903) : sizeF (n : Int) = ((dig n).length : Int) := by
  unfold sizeF; rw [if_pos (mayB_of (by omega) (by omega)), Int.toNat_natCast]
theorem sizeF_neg {n : Int} (h : n < 0) : sizeF n = 0 := by
  unfold sizeF
  rw [if_neg]
  intro h2; have := (mayB_true h2).1; omega
theorem sizeF_over {n : Int} (h : 4611686018427387903 < n) : sizeF n = 0 := by
  unfold sizeF
  rw [if_neg]
  intro h2; have := (mayB_true h2).2; omega

set_option maxRecDepth 100000 in
set_option maxHeartbeats 2000000 in
theorem sizes_lt_neg (lo hi : Int) (X Y : Int) (w : World) (hlh : lo < hi) (HX : Hid (sizeF lo = X)) (HY : Hid (sizeF hi = Y)) (h1 : -9223372036854775808 ≤ lo) (h2 : hi ≤ 9223372036854775807) (hn : lo < 0) (hX : (X == 0) = true) :
    Calls Try.prog 3 #[.int .i64 lo, .int .i64 hi] w fun e w' => e = .returned (.bool true) ∧ Below w.heap.size w w' := by
  go_enter Try.func3, Try.ntmps3
  go_wp2_with fail
  refine (lives_calls w).mono ?_
  rintro e w1 ⟨rfl, hf1⟩
  have HF1 := hid hf1.below
  clear hf1
  go_wp2_with fail
  refine (size_calls _ _).mono ?_
  rintro e w2 ⟨rfl, hb2⟩
  rw [HX.out]
  have HF2 := hid (HF1.out.trans (hb2.mono HF1.out.size))
  clear hb2
  go_wp2_with fail
  refine (size_calls _ _).mono ?_
  rintro e w3 ⟨rfl, hb3⟩
  rw [HY.out]
  have HF3 := hid (HF2.out.trans (hb3.mono HF2.out.size))
  clear hb3
  go_wp2_with fail
  go_ret
  exact ⟨by first | rfl | (simp; done) | (simp; omega), HF3.out⟩

set_option maxRecDepth 100000 in
set_option maxHeartbeats 2000000 in
theorem sizes_lt_over (lo hi : Int) (X Y : Int) (w : World) (hlh : lo < hi) (HX : Hid (sizeF lo = X)) (HY : Hid (sizeF hi = Y)) (h2 : hi ≤ 9223372036854775807) (hn : 0 ≤ lo) (hv : 4611686018427387903 < hi) :
    Calls Try.prog 3 #[.int .i64 lo, .int .i64 hi] w fun e w' => e = .returned (.bool true) ∧ Below w.heap.size w w' := by
  go_enter Try.func3, Try.ntmps3
  go_wp2_with fail
  refine (lives_calls w).mono ?_
  rintro e w1 ⟨rfl, hf1⟩
  have HF1 := hid hf1.below
  clear hf1
  go_wp2_with fail
  refine (size_calls _ _).mono ?_
  rintro e w2 ⟨rfl, hb2⟩
  rw [HX.out]
  have HF2 := hid (HF1.out.trans (hb2.mono HF1.out.size))
  clear hb2
  go_wp2_with fail
  refine (size_calls _ _).mono ?_
  rintro e w3 ⟨rfl, hb3⟩
  rw [HY.out]
  have HF3 := hid (HF2.out.trans (hb3.mono HF2.out.size))
  clear hb3
  go_wp2_with fail
  go_ret
  exact ⟨by first | rfl | (simp; done) | (simp; omega), HF3.out⟩

set_option maxRecDepth 100000 in
set_option maxHeartbeats 2000000 in
theorem sizes_lt_1 (lo hi : Int) (X Y : Int) (w : World) (hlh : lo < hi) (HX : Hid (sizeF lo = X)) (HY : Hid (sizeF hi = Y)) (h0 : 0 ≤ lo) (h2 : hi ≤ 4611686018427387903) (fX : 1 ≤ X) (fXY : X ≤ Y) (fY9 : Y ≤ 9) (c : hi < 128) (hY : (Y == 1) = true) (hY2 : Y ≤ 2) :
    Calls Try.prog 3 #[.int .i64 lo, .int .i64 hi] w fun e w' => e = .returned (.bool true) ∧ Below w.heap.size w w' := by
  go_enter Try.func3, Try.ntmps3
  go_wp2_with fail
  refine (lives_calls w).mono ?_
  rintro e w1 ⟨rfl, hf1⟩
  have HF1 := hid hf1.below
  clear hf1
  go_wp2_with fail
  refine (size_calls _ _).mono ?_
  rintro e w2 ⟨rfl, hb2⟩
  rw [HX.out]
  have HF2 := hid (HF1.out.trans (hb2.mono HF1.out.size))
  clear hb2
  go_wp2_with fail
  refine (size_calls _ _).mono ?_
  rintro e w3 ⟨rfl, hb3⟩
  rw [HY.out]
  have HF3 := hid (HF2.out.trans (hb3.mono HF2.out.size))
  clear hb3
  go_wp2_with fail
  go_ret
  exact ⟨by first | rfl | (simp; done) | (simp; omega), HF3.out⟩

set_option maxRecDepth 100000 in
set_option maxHeartbeats 2000000 in
theorem sizes_lt_2 (lo hi : Int) (X Y : Int) (w : World) (hlh : lo < hi) (HX : Hid (sizeF lo = X)) (HY : Hid (sizeF hi = Y)) (h0 : 0 ≤ lo) (h2 : hi ≤ 4611686018427387903) (fX : 1 ≤ X) (fXY : X ≤ Y) (fY9 : Y ≤ 9) (c : 128 ≤ hi) (c2 : hi < 16384) (hY : (Y == 1) = false) (hY2 : Y ≤ 2) :
    Calls Try.prog 3 #[.int .i64 lo, .int .i64 hi] w fun e w' => e = .returned (.bool true) ∧ Below w.heap.size w w' := by
  have d1 : decide (hi < 128) = false := decide_eq_false (by omega)
  have d2 : decide (hi < 16384) = true := decide_eq_true c2
  go_enter Try.func3, Try.ntmps3
  go_wp2_with fail
  refine (lives_calls w).mono ?_
  rintro e w1 ⟨rfl, hf1⟩
  have HF1 := hid hf1.below
  clear hf1
  go_wp2_with fail
  refine (size_calls _ _).mono ?_
  rintro e w2 ⟨rfl, hb2⟩
  rw [HX.out]
  have HF2 := hid (HF1.out.trans (hb2.mono HF1.out.size))
  clear hb2
  go_wp2_with fail
  refine (size_calls _ _).mono ?_
  rintro e w3 ⟨rfl, hb3⟩
  rw [HY.out]
  have HF3 := hid (HF2.out.trans (hb3.mono HF2.out.size))
  clear hb3
  go_wp2_with fail
  go_ret
  exact ⟨by first | rfl | (simp; done) | (simp; omega), HF3.out⟩

set_option maxRecDepth 100000 in
set_option maxHeartbeats 2000000 in
theorem sizes_lt_3 (lo hi : Int) (X Y : Int) (w : World) (hlh : lo < hi) (HX : Hid (sizeF lo = X)) (HY : Hid (sizeF hi = Y)) (h0 : 0 ≤ lo) (h2 : hi ≤ 4611686018427387903) (fX : 1 ≤ X) (fXY : X ≤ Y) (fY9 : Y ≤ 9) (c : 16384 ≤ hi) (c2 : hi < 36028797018963968) (hY : (Y == 1) = false) (hY2 : 3 ≤ Y) :
    Calls Try.prog 3 #[.int .i64 lo, .int .i64 hi] w fun e w' => e = .returned (.bool true) ∧ Below w.heap.size w w' := by
  have d1 : decide (hi < 128) = false := decide_eq_false (by omega)
  have d2 : decide (hi < 16384) = false := decide_eq_false (by omega)
  go_enter Try.func3, Try.ntmps3
  go_wp2_with fail
  refine (lives_calls w).mono ?_
  rintro e w1 ⟨rfl, hf1⟩
  have HF1 := hid hf1.below
  clear hf1
  go_wp2_with fail
  refine (size_calls _ _).mono ?_
  rintro e w2 ⟨rfl, hb2⟩
  rw [HX.out]
  have HF2 := hid (HF1.out.trans (hb2.mono HF1.out.size))
  clear hb2
  go_wp2_with fail
  refine (size_calls _ _).mono ?_
  rintro e w3 ⟨rfl, hb3⟩
  rw [HY.out]
  have HF3 := hid (HF2.out.trans (hb3.mono HF2.out.size))
  clear hb3
  go_wp2_with fail
  go_ret
  exact ⟨by first | rfl | (simp; done) | (simp; omega), HF3.out⟩

set_option maxRecDepth 100000 in
set_option maxHeartbeats 2000000 in
theorem sizes_lt_4 (lo hi : Int) (X Y : Int) (w : World) (hlh : lo < hi) (HX : Hid (sizeF lo = X)) (HY : Hid (sizeF hi = Y)) (h0 : 0 ≤ lo) (h2 : hi ≤ 4611686018427387903) (fX : 1 ≤ X) (fXY : X ≤ Y) (fY9 : Y ≤ 9) (c : 36028797018963968 ≤ hi) (hY : (Y == 1) = false) (hY2 : 3 ≤ Y) (HZ : Hid (sizeF (hi / 128) = Y - 1)) :
    Calls Try.prog 3 #[.int .i64 lo, .int .i64 hi] w fun e w' => e = .returned (.bool true) ∧ Below w.heap.size w w' := by
  have d1 : decide (hi < 128) = false := decide_eq_false (by omega)
  have d2 : decide (hi < 16384) = false := decide_eq_false (by omega)
  go_enter Try.func3, Try.ntmps3
  go_wp2_with fail
  refine (lives_calls w).mono ?_
  rintro e w1 ⟨rfl, hf1⟩
  have HF1 := hid hf1.below
  clear hf1
  go_wp2_with fail
  refine (size_calls _ _).mono ?_
  rintro e w2 ⟨rfl, hb2⟩
  rw [HX.out]
  have HF2 := hid (HF1.out.trans (hb2.mono HF1.out.size))
  clear hb2
  go_wp2_with fail
  refine (size_calls _ _).mono ?_
  rintro e w3 ⟨rfl, hb3⟩
  rw [HY.out]
  have HF3 := hid (HF2.out.trans (hb3.mono HF2.out.size))
  clear hb3
  go_wp2_with fail
  refine (size_calls _ _).mono ?_
  rintro e w4 ⟨rfl, hb4⟩
  rw [HZ.out]
  have HF4 := hid (HF3.out.trans (hb4.mono HF3.out.size))
  clear hb4
  go_wp2_with fail
  go_ret
  exact ⟨by first | rfl | (simp; done) | (simp; omega), HF4.out⟩

set_option maxRecDepth 100000 in
set_option maxHeartbeats 2000000 in
theorem sizes_gt_neg (lo hi : Int) (X Y : Int) (w : World) (hlh : lo < hi) (HX : Hid (sizeF lo = X)) (HY : Hid (sizeF hi = Y)) (h1 : -9223372036854775808 ≤ lo) (h2 : hi ≤ 9223372036854775807) (hn : lo < 0) (hX : (X == 0) = true) :
    Calls Try.prog 3 #[.int .i64 hi, .int .i64 lo] w fun e w' => e = .returned (.bool true) ∧ Below w.heap.size w w' := by
  go_enter Try.func3, Try.ntmps3
  go_wp2_with fail
  refine (lives_calls w).mono ?_
  rintro e w1 ⟨rfl, hf1⟩
  have HF1 := hid hf1.below
  clear hf1
  go_wp2_with fail
  refine (size_calls _ _).mono ?_
  rintro e w2 ⟨rfl, hb2⟩
  rw [HX.out]
  have HF2 := hid (HF1.out.trans (hb2.mono HF1.out.size))
  clear hb2
  go_wp2_with fail
  refine (size_calls _ _).mono ?_
  rintro e w3 ⟨rfl, hb3⟩
  rw [HY.out]
  have HF3 := hid (HF2.out.trans (hb3.mono HF2.out.size))
  clear hb3
  go_wp2_with fail
  go_ret
  exact ⟨by first | rfl | (simp; done) | (simp; omega), HF3.out⟩

set_option maxRecDepth 100000 in
set_option maxHeartbeats 2000000 in
theorem sizes_gt_over (lo hi : Int) (X Y : Int) (w : World) (hlh : lo < hi) (HX : Hid (sizeF lo = X)) (HY : Hid (sizeF hi = Y)) (h2 : hi ≤ 9223372036854775807) (hn : 0 ≤ lo) (hv : 4611686018427387903 < hi) :
    Calls Try.prog 3 #[.int .i64 hi, .int .i64 lo] w fun e w' => e = .returned (.bool true) ∧ Below w.heap.size w w' := by
  go_enter Try.func3, Try.ntmps3
  go_wp2_with fail
  refine (lives_calls w).mono ?_
  rintro e w1 ⟨rfl, hf1⟩
  have HF1 := hid hf1.below
  clear hf1
  go_wp2_with fail
  refine (size_calls _ _).mono ?_
  rintro e w2 ⟨rfl, hb2⟩
  rw [HX.out]
  have HF2 := hid (HF1.out.trans (hb2.mono HF1.out.size))
  clear hb2
  go_wp2_with fail
  refine (size_calls _ _).mono ?_
  rintro e w3 ⟨rfl, hb3⟩
  rw [HY.out]
  have HF3 := hid (HF2.out.trans (hb3.mono HF2.out.size))
  clear hb3
  go_wp2_with fail
  go_ret
  exact ⟨by first | rfl | (simp; done) | (simp; omega), HF3.out⟩

set_option maxRecDepth 100000 in
set_option maxHeartbeats 2000000 in
theorem sizes_gt_1 (lo hi : Int) (X Y : Int) (w : World) (hlh : lo < hi) (HX : Hid (sizeF lo = X)) (HY : Hid (sizeF hi = Y)) (h0 : 0 ≤ lo) (h2 : hi ≤ 4611686018427387903) (fX : 1 ≤ X) (fXY : X ≤ Y) (fY9 : Y ≤ 9) (c : hi < 128) (hY : (Y == 1) = true) (hY2 : Y ≤ 2) :
    Calls Try.prog 3 #[.int .i64 hi, .int .i64 lo] w fun e w' => e = .returned (.bool true) ∧ Below w.heap.size w w' := by
  go_enter Try.func3, Try.ntmps3
  go_wp2_with fail
  refine (lives_calls w).mono ?_
  rintro e w1 ⟨rfl, hf1⟩
  have HF1 := hid hf1.below
  clear hf1
  go_wp2_with fail
  refine (size_calls _ _).mono ?_
  rintro e w2 ⟨rfl, hb2⟩
  rw [HX.out]
  have HF2 := hid (HF1.out.trans (hb2.mono HF1.out.size))
  clear hb2
  go_wp2_with fail
  refine (size_calls _ _).mono ?_
  rintro e w3 ⟨rfl, hb3⟩
  rw [HY.out]
  have HF3 := hid (HF2.out.trans (hb3.mono HF2.out.size))
  clear hb3
  go_wp2_with fail
  go_ret
  exact ⟨by first | rfl | (simp; done) | (simp; omega), HF3.out⟩

set_option maxRecDepth 100000 in
set_option maxHeartbeats 2000000 in
theorem sizes_gt_2 (lo hi : Int) (X Y : Int) (w : World) (hlh : lo < hi) (HX : Hid (sizeF lo = X)) (HY : Hid (sizeF hi = Y)) (h0 : 0 ≤ lo) (h2 : hi ≤ 4611686018427387903) (fX : 1 ≤ X) (fXY : X ≤ Y) (fY9 : Y ≤ 9) (c : 128 ≤ hi) (c2 : hi < 16384) (hY : (Y == 1) = false) (hY2 : Y ≤ 2) :
    Calls Try.prog 3 #[.int .i64 hi, .int .i64 lo] w fun e w' => e = .returned (.bool true) ∧ Below w.heap.size w w' := by
  have d1 : decide (hi < 128) = false := decide_eq_false (by omega)
  have d2 : decide (hi < 16384) = true := decide_eq_true c2
  go_enter Try.func3, Try.ntmps3
  go_wp2_with fail
  refine (lives_calls w).mono ?_
  rintro e w1 ⟨rfl, hf1⟩
  have HF1 := hid hf1.below
  clear hf1
  go_wp2_with fail
  refine (size_calls _ _).mono ?_
  rintro e w2 ⟨rfl, hb2⟩
  rw [HX.out]
  have HF2 := hid (HF1.out.trans (hb2.mono HF1.out.size))
  clear hb2
  go_wp2_with fail
  refine (size_calls _ _).mono ?_
  rintro e w3 ⟨rfl, hb3⟩
  rw [HY.out]
  have HF3 := hid (HF2.out.trans (hb3.mono HF2.out.size))
  clear hb3
  go_wp2_with fail
  go_ret
  exact ⟨by first | rfl | (simp; done) | (simp; omega), HF3.out⟩

set_option maxRecDepth 100000 in
set_option maxHeartbeats 2000000 in
theorem sizes_gt_3 (lo hi : Int) (X Y : Int) (w : World) (hlh : lo < hi) (HX : Hid (sizeF lo = X)) (HY : Hid (sizeF hi = Y)) (h0 : 0 ≤ lo) (h2 : hi ≤ 4611686018427387903) (fX : 1 ≤ X) (fXY : X ≤ Y) (fY9 : Y ≤ 9) (c : 16384 ≤ hi) (c2 : hi < 36028797018963968) (hY : (Y == 1) = false) (hY2 : 3 ≤ Y) :
    Calls Try.prog 3 #[.int .i64 hi, .int .i64 lo] w fun e w' => e = .returned (.bool true) ∧ Below w.heap.size w w' := by
  have d1 : decide (hi < 128) = false := decide_eq_false (by omega)
  have d2 : decide (hi < 16384) = false := decide_eq_false (by omega)
  go_enter Try.func3, Try.ntmps3
  go_wp2_with fail
  refine (lives_calls w).mono ?_
  rintro e w1 ⟨rfl, hf1⟩
  have HF1 := hid hf1.below
  clear hf1
  go_wp2_with fail
  refine (size_calls _ _).mono ?_
  rintro e w2 ⟨rfl, hb2⟩
  rw [HX.out]
  have HF2 := hid (HF1.out.trans (hb2.mono HF1.out.size))
  clear hb2
  go_wp2_with fail
  refine (size_calls _ _).mono ?_
  rintro e w3 ⟨rfl, hb3⟩
  rw [HY.out]
  have HF3 := hid (HF2.out.trans (hb3.mono HF2.out.size))
  clear hb3
  go_wp2_with fail
  go_ret
  exact ⟨by first | rfl | (simp; done) | (simp; omega), HF3.out⟩

set_option maxRecDepth 100000 in
set_option maxHeartbeats 2000000 in
theorem sizes_gt_4 (lo hi : Int) (X Y : Int) (w : World) (hlh : lo < hi) (HX : Hid (sizeF lo = X)) (HY : Hid (sizeF hi = Y)) (h0 : 0 ≤ lo) (h2 : hi ≤ 4611686018427387903) (fX : 1 ≤ X) (fXY : X ≤ Y) (fY9 : Y ≤ 9) (c : 36028797018963968 ≤ hi) (hY : (Y == 1) = false) (hY2 : 3 ≤ Y) (HZ : Hid (sizeF (hi / 128) = Y - 1)) :
    Calls Try.prog 3 #[.int .i64 hi, .int .i64 lo] w fun e w' => e = .returned (.bool true) ∧ Below w.heap.size w w' := by
  have d1 : decide (hi < 128) = false := decide_eq_false (by omega)
  have d2 : decide (hi < 16384) = false := decide_eq_false (by omega)
  go_enter Try.func3, Try.ntmps3
  go_wp2_with fail
  refine (lives_calls w).mono ?_
  rintro e w1 ⟨rfl, hf1⟩
  have HF1 := hid hf1.below
  clear hf1
  go_wp2_with fail
  refine (size_calls _ _).mono ?_
  rintro e w2 ⟨rfl, hb2⟩
  rw [HX.out]
  have HF2 := hid (HF1.out.trans (hb2.mono HF1.out.size))
  clear hb2
  go_wp2_with fail
  refine (size_calls _ _).mono ?_
  rintro e w3 ⟨rfl, hb3⟩
  rw [HY.out]
  have HF3 := hid (HF2.out.trans (hb3.mono HF2.out.size))
  clear hb3
  go_wp2_with fail
  refine (size_calls _ _).mono ?_
  rintro e w4 ⟨rfl, hb4⟩
  rw [HZ.out]
  have HF4 := hid (HF3.out.trans (hb4.mono HF3.out.size))
  clear hb4
  go_wp2_with fail
  go_ret
  exact ⟨by first | rfl | (simp; done) | (simp; omega), HF4.out⟩

set_option maxRecDepth 100000 in
set_option maxHeartbeats 2000000 in
theorem sizes_eq_neg (hi : Int) (X Y : Int) (w : World) (HX : Hid (sizeF hi = X)) (HY : Hid (sizeF hi = Y)) (h1 : -9223372036854775808 ≤ hi) (h2 : hi ≤ 9223372036854775807) (hn : hi < 0) (hX : (X == 0) = true) :
    Calls Try.prog 3 #[.int .i64 hi, .int .i64 hi] w fun e w' => e = .returned (.bool true) ∧ Below w.heap.size w w' := by
  go_enter Try.func3, Try.ntmps3
  go_wp2_with fail
  refine (lives_calls w).mono ?_
  rintro e w1 ⟨rfl, hf1⟩
  have HF1 := hid hf1.below
  clear hf1
  go_wp2_with fail
  refine (size_calls _ _).mono ?_
  rintro e w2 ⟨rfl, hb2⟩
  rw [HX.out]
  have HF2 := hid (HF1.out.trans (hb2.mono HF1.out.size))
  clear hb2
  go_wp2_with fail
  refine (size_calls _ _).mono ?_
  rintro e w3 ⟨rfl, hb3⟩
  rw [HY.out]
  have HF3 := hid (HF2.out.trans (hb3.mono HF2.out.size))
  clear hb3
  go_wp2_with fail
  go_ret
  exact ⟨by first | rfl | (simp; done) | (simp; omega), HF3.out⟩

set_option maxRecDepth 100000 in
set_option maxHeartbeats 2000000 in
theorem sizes_eq_over (hi : Int) (X Y : Int) (w : World) (HX : Hid (sizeF hi = X)) (HY : Hid (sizeF hi = Y)) (h2 : hi ≤ 9223372036854775807) (hn : 0 ≤ hi) (hv : 4611686018427387903 < hi) :
    Calls Try.prog 3 #[.int .i64 hi, .int .i64 hi] w fun e w' => e = .returned (.bool true) ∧ Below w.heap.size w w' := by
  go_enter Try.func3, Try.ntmps3
  go_wp2_with fail
  refine (lives_calls w).mono ?_
  rintro e w1 ⟨rfl, hf1⟩
  have HF1 := hid hf1.below
  clear hf1
  go_wp2_with fail
  refine (size_calls _ _).mono ?_
  rintro e w2 ⟨rfl, hb2⟩
  rw [HX.out]
  have HF2 := hid (HF1.out.trans (hb2.mono HF1.out.size))
  clear hb2
  go_wp2_with fail
  refine (size_calls _ _).mono ?_
  rintro e w3 ⟨rfl, hb3⟩
  rw [HY.out]
  have HF3 := hid (HF2.out.trans (hb3.mono HF2.out.size))
  clear hb3
  go_wp2_with fail
  go_ret
  exact ⟨by first | rfl | (simp; done) | (simp; omega), HF3.out⟩

set_option maxRecDepth 100000 in
set_option maxHeartbeats 2000000 in
theorem sizes_eq_1 (hi : Int) (X Y : Int) (w : World) (HX : Hid (sizeF hi = X)) (HY : Hid (sizeF hi = Y)) (h0 : 0 ≤ hi) (h2 : hi ≤ 4611686018427387903) (fX : 1 ≤ X) (fXY : X ≤ Y) (fY9 : Y ≤ 9) (c : hi < 128) (hY : (Y == 1) = true) (hY2 : Y ≤ 2) :
    Calls Try.prog 3 #[.int .i64 hi, .int .i64 hi] w fun e w' => e = .returned (.bool true) ∧ Below w.heap.size w w' := by
  go_enter Try.func3, Try.ntmps3
  go_wp2_with fail
  refine (lives_calls w).mono ?_
  rintro e w1 ⟨rfl, hf1⟩
  have HF1 := hid hf1.below
  clear hf1
  go_wp2_with fail
  refine (size_calls _ _).mono ?_
  rintro e w2 ⟨rfl, hb2⟩
  rw [HX.out]
  have HF2 := hid (HF1.out.trans (hb2.mono HF1.out.size))
  clear hb2
  go_wp2_with fail
  refine (size_calls _ _).mono ?_
  rintro e w3 ⟨rfl, hb3⟩
  rw [HY.out]
  have HF3 := hid (HF2.out.trans (hb3.mono HF2.out.size))
  clear hb3
  go_wp2_with fail
  go_ret
  exact ⟨by first | rfl | (simp; done) | (simp; omega), HF3.out⟩

set_option maxRecDepth 100000 in
set_option maxHeartbeats 2000000 in
theorem sizes_eq_2 (hi : Int) (X Y : Int) (w : World) (HX : Hid (sizeF hi = X)) (HY : Hid (sizeF hi = Y)) (h0 : 0 ≤ hi) (h2 : hi ≤ 4611686018427387903) (fX : 1 ≤ X) (fXY : X ≤ Y) (fY9 : Y ≤ 9) (c : 128 ≤ hi) (c2 : hi < 16384) (hY : (Y == 1) = false) (hY2 : Y ≤ 2) :
    Calls Try.prog 3 #[.int .i64 hi, .int .i64 hi] w fun e w' => e = .returned (.bool true) ∧ Below w.heap.size w w' := by
  have d1 : decide (hi < 128) = false := decide_eq_false (by omega)
  have d2 : decide (hi < 16384) = true := decide_eq_true c2
  go_enter Try.func3, Try.ntmps3
  go_wp2_with fail
  refine (lives_calls w).mono ?_
  rintro e w1 ⟨rfl, hf1⟩
  have HF1 := hid hf1.below
  clear hf1
  go_wp2_with fail
  refine (size_calls _ _).mono ?_
  rintro e w2 ⟨rfl, hb2⟩
  rw [HX.out]
  have HF2 := hid (HF1.out.trans (hb2.mono HF1.out.size))
  clear hb2
  go_wp2_with fail
  refine (size_calls _ _).mono ?_
  rintro e w3 ⟨rfl, hb3⟩
  rw [HY.out]
  have HF3 := hid (HF2.out.trans (hb3.mono HF2.out.size))
  clear hb3
  go_wp2_with fail
  go_ret
  exact ⟨by first | rfl | (simp; done) | (simp; omega), HF3.out⟩

set_option maxRecDepth 100000 in
set_option maxHeartbeats 2000000 in
theorem sizes_eq_3 (hi : Int) (X Y : Int) (w : World) (HX : Hid (sizeF hi = X)) (HY : Hid (sizeF hi = Y)) (h0 : 0 ≤ hi) (h2 : hi ≤ 4611686018427387903) (fX : 1 ≤ X) (fXY : X ≤ Y) (fY9 : Y ≤ 9) (c : 16384 ≤ hi) (c2 : hi < 36028797018963968) (hY : (Y == 1) = false) (hY2 : 3 ≤ Y) :
    Calls Try.prog 3 #[.int .i64 hi, .int .i64 hi] w fun e w' => e = .returned (.bool true) ∧ Below w.heap.size w w' := by
  have d1 : decide (hi < 128) = false := decide_eq_false (by omega)
  have d2 : decide (hi < 16384) = false := decide_eq_false (by omega)
  go_enter Try.func3, Try.ntmps3
  go_wp2_with fail
  refine (lives_calls w).mono ?_
  rintro e w1 ⟨rfl, hf1⟩
  have HF1 := hid hf1.below
  clear hf1
  go_wp2_with fail
  refine (size_calls _ _).mono ?_
  rintro e w2 ⟨rfl, hb2⟩
  rw [HX.out]
  have HF2 := hid (HF1.out.trans (hb2.mono HF1.out.size))
  clear hb2
  go_wp2_with fail
  refine (size_calls _ _).mono ?_
  rintro e w3 ⟨rfl, hb3⟩
  rw [HY.out]
  have HF3 := hid (HF2.out.trans (hb3.mono HF2.out.size))
  clear hb3
  go_wp2_with fail
  go_ret
  exact ⟨by first | rfl | (simp; done) | (simp; omega), HF3.out⟩

set_option maxRecDepth 100000 in
set_option maxHeartbeats 2000000 in
theorem sizes_eq_4 (hi : Int) (X Y : Int) (w : World) (HX : Hid (sizeF hi = X)) (HY : Hid (sizeF hi = Y)) (h0 : 0 ≤ hi) (h2 : hi ≤ 4611686018427387903) (fX : 1 ≤ X) (fXY : X ≤ Y) (fY9 : Y ≤ 9) (c : 36028797018963968 ≤ hi) (hY : (Y == 1) = false) (hY2 : 3 ≤ Y) (HZ : Hid (sizeF (hi / 128) = Y - 1)) :
    Calls Try.prog 3 #[.int .i64 hi, .int .i64 hi] w fun e w' => e = .returned (.bool true) ∧ Below w.heap.size w w' := by
  have d1 : decide (hi < 128) = false := decide_eq_false (by omega)
  have d2 : decide (hi < 16384) = false := decide_eq_false (by omega)
  go_enter Try.func3, Try.ntmps3
  go_wp2_with fail
  refine (lives_calls w).mono ?_
  rintro e w1 ⟨rfl, hf1⟩
  have HF1 := hid hf1.below
  clear hf1
  go_wp2_with fail
  refine (size_calls _ _).mono ?_
  rintro e w2 ⟨rfl, hb2⟩
  rw [HX.out]
  have HF2 := hid (HF1.out.trans (hb2.mono HF1.out.size))
  clear hb2
  go_wp2_with fail
  refine (size_calls _ _).mono ?_
  rintro e w3 ⟨rfl, hb3⟩
  rw [HY.out]
  have HF3 := hid (HF2.out.trans (hb3.mono HF2.out.size))
  clear hb3
  go_wp2_with fail
  refine (size_calls _ _).mono ?_
  rintro e w4 ⟨rfl, hb4⟩
  rw [HZ.out]
  have HF4 := hid (HF3.out.trans (hb4.mono HF3.out.size))
  clear hb4
  go_wp2_with fail
  go_ret
  exact ⟨by first | rfl | (simp; done) | (simp; omega), HF4.out⟩


theorem codecSizes_walk (a : Int) (wa : (Lit.int .i64 a).wf = true) (b : Int) (wb : (Lit.int .i64 b).wf = true) (w : World) :
    Calls Try.prog 3 #[.int .i64 a, .int .i64 b] w fun e w' => e = .returned (.bool true) ∧ Below w.heap.size w w' := by
  have ha := wf_i64 wa
  have hb := wf_i64 wb
  clear wa wb
  have main : ∀ lo hi : Int, lo ≤ hi → 0 ≤ lo → hi ≤ 4611686018427387903 → 1 ≤ sizeF lo ∧ sizeF lo ≤ sizeF hi ∧ sizeF hi ≤ 9 := by
    intro lo hi h1 h2 h3
    obtain ⟨p, rfl⟩ := Int.eq_ofNat_of_zero_le h2
    obtain ⟨q, rfl⟩ := Int.eq_ofNat_of_zero_le (show 0 ≤ hi by omega)
    have m1 := dig_mono q p q (by omega) (Nat.le_refl _)
    have m2 := dig_len_pos p
    have m3 := dig_len9 (n := q) (by omega)
    rw [sizeF_nat (by omega), sizeF_nat (by omega)]
    omega
  have one : ∀ hi : Int, 0 ≤ hi → hi < 128 → sizeF hi = 1 := by
    intro hi h1 h2
    obtain ⟨q, rfl⟩ := Int.eq_ofNat_of_zero_le h1
    rw [sizeF_nat (by omega), dig_one (by omega)]; rfl
  have two : ∀ hi : Int, 128 ≤ hi → hi < 16384 → sizeF hi = 2 := by
    intro hi h1 h2
    obtain ⟨q, rfl⟩ := Int.eq_ofNat_of_zero_le (show 0 ≤ hi by omega)
    rw [sizeF_nat (by omega), dig_two (by omega) (by omega)]; rfl
  have three : ∀ hi : Int, 16384 ≤ hi → hi ≤ 4611686018427387903 → 3 ≤ sizeF hi := by
    intro hi h1 h2
    obtain ⟨q, rfl⟩ := Int.eq_ofNat_of_zero_le (show 0 ≤ hi by omega)
    have := dig_three (n := q) (by omega)
    rw [sizeF_nat (by omega)]; omega
  have div : ∀ hi : Int, 16384 ≤ hi → hi ≤ 4611686018427387903 → sizeF (hi / 128) = sizeF hi - 1 := by
    intro hi h1 h2
    obtain ⟨q, rfl⟩ := Int.eq_ofNat_of_zero_le (show 0 ≤ hi by omega)
    have := dig_div (n := q) (by omega)
    have e : ((q : Int) / 128) = ((q / 128 : Nat) : Int) := by omega
    rw [e, sizeF_nat (by omega), sizeF_nat (by omega)]; omega
  rcases Int.lt_trichotomy a b with hab | hab | hab
  · skip
    by_cases hn : a < 0
    · exact sizes_lt_neg a b _ _ w hab (hid rfl) (hid rfl) (by omega) (by omega) hn (beq_iff_eq.2 (sizeF_neg hn))
    · by_cases hv : 4611686018427387903 < b
      · exact sizes_lt_over a b _ _ w hab (hid rfl) (hid rfl) (by omega) (by omega) hv
      · obtain ⟨m1, m2, m3⟩ := main a b (by omega) (by omega) (by omega)
        by_cases c1 : b < 128
        · have k := one b (by omega) c1
          exact sizes_lt_1 a b _ _ w hab (hid rfl) (hid rfl) (by omega) (by omega) m1 m2 m3 c1 (beq_iff_eq.2 k) (by omega)
        · by_cases c2 : b < 16384
          · have k := two b (by omega) c2
            exact sizes_lt_2 a b _ _ w hab (hid rfl) (hid rfl) (by omega) (by omega) m1 m2 m3 (by omega) c2 (beq_eq_false_iff_ne.2 (by omega)) (by omega)
          · have k := three b (by omega) (by omega)
            by_cases c3 : b < 36028797018963968
            · exact sizes_lt_3 a b _ _ w hab (hid rfl) (hid rfl) (by omega) (by omega) m1 m2 m3 (by omega) c3 (beq_eq_false_iff_ne.2 (by omega)) k
            · exact sizes_lt_4 a b _ _ w hab (hid rfl) (hid rfl) (by omega) (by omega) m1 m2 m3 (by omega) (beq_eq_false_iff_ne.2 (by omega)) k (hid (div b (by omega) (by omega)))
  · subst hab
    by_cases hn : a < 0
    · exact sizes_eq_neg a _ _ w (hid rfl) (hid rfl) (by omega) (by omega) hn (beq_iff_eq.2 (sizeF_neg hn))
    · by_cases hv : 4611686018427387903 < a
      · exact sizes_eq_over a _ _ w (hid rfl) (hid rfl) (by omega) (by omega) hv
      · obtain ⟨m1, m2, m3⟩ := main a a (by omega) (by omega) (by omega)
        by_cases c1 : a < 128
        · have k := one a (by omega) c1
          exact sizes_eq_1 a _ _ w (hid rfl) (hid rfl) (by omega) (by omega) m1 m2 m3 c1 (beq_iff_eq.2 k) (by omega)
        · by_cases c2 : a < 16384
          · have k := two a (by omega) c2
            exact sizes_eq_2 a _ _ w (hid rfl) (hid rfl) (by omega) (by omega) m1 m2 m3 (by omega) c2 (beq_eq_false_iff_ne.2 (by omega)) (by omega)
          · have k := three a (by omega) (by omega)
            by_cases c3 : a < 36028797018963968
            · exact sizes_eq_3 a _ _ w (hid rfl) (hid rfl) (by omega) (by omega) m1 m2 m3 (by omega) c3 (beq_eq_false_iff_ne.2 (by omega)) k
            · exact sizes_eq_4 a _ _ w (hid rfl) (hid rfl) (by omega) (by omega) m1 m2 m3 (by omega) (beq_eq_false_iff_ne.2 (by omega)) k (hid (div a (by omega) (by omega)))
  · skip
    by_cases hn : b < 0
    · exact sizes_gt_neg b a _ _ w hab (hid rfl) (hid rfl) (by omega) (by omega) hn (beq_iff_eq.2 (sizeF_neg hn))
    · by_cases hv : 4611686018427387903 < a
      · exact sizes_gt_over b a _ _ w hab (hid rfl) (hid rfl) (by omega) (by omega) hv
      · obtain ⟨m1, m2, m3⟩ := main b a (by omega) (by omega) (by omega)
        by_cases c1 : a < 128
        · have k := one a (by omega) c1
          exact sizes_gt_1 b a _ _ w hab (hid rfl) (hid rfl) (by omega) (by omega) m1 m2 m3 c1 (beq_iff_eq.2 k) (by omega)
        · by_cases c2 : a < 16384
          · have k := two a (by omega) c2
            exact sizes_gt_2 b a _ _ w hab (hid rfl) (hid rfl) (by omega) (by omega) m1 m2 m3 (by omega) c2 (beq_eq_false_iff_ne.2 (by omega)) (by omega)
          · have k := three a (by omega) (by omega)
            by_cases c3 : a < 36028797018963968
            · exact sizes_gt_3 b a _ _ w hab (hid rfl) (hid rfl) (by omega) (by omega) m1 m2 m3 (by omega) c3 (beq_eq_false_iff_ne.2 (by omega)) k
            · exact sizes_gt_4 b a _ _ w hab (hid rfl) (hid rfl) (by omega) (by omega) m1 m2 m3 (by omega) (beq_eq_false_iff_ne.2 (by omega)) k (hid (div a (by omega) (by omega)))
end Go.Proofs.Ytmbigbhmfoinoaa
