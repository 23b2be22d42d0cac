/- The bound on steps grows with each of its numbers: plain. -/
import Derived.Test.YthjecgmgpnileaaC19
namespace Go.Proofs.Ythjecgmgpnileaa.Bd
set_option linter.unusedVariables false

theorem mul_up {a a' b b' : Int} (h0 : 0 ≤ a) (h1 : a ≤ a') (h2 : 0 ≤ b) (h3 : b ≤ b') : a * b ≤ a' * b' := Int.mul_le_mul h1 h3 h2 (Int.le_trans h0 h1)
theorem mul_ltR {a a' b b' : Int} (h0 : 0 < a) (h1 : a ≤ a') (h2 : 0 ≤ b) (h3 : b < b') : a * b < a' * b' :=
  Int.lt_of_lt_of_le (Int.mul_lt_mul_of_pos_left h3 h0) (Int.mul_le_mul_of_nonneg_right h1 (Int.le_trans h2 (Int.le_of_lt h3)))
theorem mul_ltL {a a' b b' : Int} (h0 : 0 ≤ a) (h1 : a < a') (h2 : 0 < b) (h3 : b ≤ b') : a * b < a' * b' := by
  rw [Int.mul_comm a b, Int.mul_comm a' b']
  exact mul_ltR h2 h3 h0 h1
theorem stepsN_up {s n w t k s' n' w' t' k' : Int} (hs : 1 ≤ s ∧ s ≤ s') (hn : 0 ≤ n ∧ n ≤ n') (hw : 0 ≤ w ∧ w ≤ w') (ht : 0 ≤ t ∧ t ≤ t') (hk : k ≤ k') (hlt : s < s' ∨ n < n' ∨ w < w' ∨ t < t' ∨ k < k') : stepsN s n w t k < stepsN s' n' w' t' k' := by
  unfold stepsN
  have hss : s * s ≤ s' * s' := mul_up (by omega) hs.2 (by omega) hs.2
  have hss0 : 0 ≤ s * s := Int.mul_nonneg (by omega) (by omega)
  have hX : s * (28 * s + 1) ≤ s' * (28 * s' + 1) := mul_up (by omega) hs.2 (by omega) (by omega)
  have hX0 : 0 < s * (28 * s + 1) := Int.mul_pos (by omega) (by omega)
  have hXs : s < s' → s * (28 * s + 1) < s' * (28 * s' + 1) := fun h => mul_ltL (by omega) h (by omega) (by omega)
  have hY : 72 * s * (64 * (n + s + 4)) ≤ 72 * s' * (64 * (n' + s' + 4)) := mul_up (by omega) (by omega) (by omega) (by omega)
  have hY0 : 0 < 72 * s * (64 * (n + s + 4)) := Int.mul_pos (by omega) (by omega)
  have hYs : n < n' → 72 * s * (64 * (n + s + 4)) < 72 * s' * (64 * (n' + s' + 4)) := fun h => mul_ltR (by omega) (by omega) (by omega) (by omega)
  generalize s * s = ss at hss hss0 ⊢
  generalize s' * s' = ss' at hss ⊢
  generalize s * (28 * s + 1) = X at hX hX0 hXs ⊢
  generalize s' * (28 * s' + 1) = X' at hX hXs ⊢
  generalize 72 * s * (64 * (n + s + 4)) = Y at hY hY0 hYs ⊢
  generalize 72 * s' * (64 * (n' + s' + 4)) = Y' at hY hYs ⊢
  obtain ⟨U, hU⟩ : ∃ q, w + t + ss + 1 = q := ⟨_, rfl⟩
  obtain ⟨U', hU'⟩ : ∃ q, w' + t' + ss' + 1 = q := ⟨_, rfl⟩
  rw [hU, hU']
  have hUU : U ≤ U' := by omega
  have hU0 : 0 < U := by omega
  have hZ : Y * U ≤ Y' * U' := mul_up (by omega) hY (by omega) hUU
  have hZ0 : 0 < Y * U := Int.mul_pos hY0 hU0
  have hT : X * (Y * U + 1) ≤ X' * (Y' * U' + 1) := mul_up (by omega) hX (by omega) (by omega)
  rcases hlt with h | h | h | h | h
  · have := mul_ltL (b := Y * U + 1) (b' := Y' * U' + 1) (by omega) (hXs h) (by omega) (by omega)
    omega
  · have h1 := mul_ltL (b := U) (b' := U') (by omega) (hYs h) hU0 hUU
    have := mul_ltR (b := Y * U + 1) (b' := Y' * U' + 1) hX0 hX (by omega) (by omega)
    omega
  · have h1 := mul_ltR (b := U) (b' := U') hY0 hY (by omega) (by omega)
    have := mul_ltR (b := Y * U + 1) (b' := Y' * U' + 1) hX0 hX (by omega) (by omega)
    omega
  · have h1 := mul_ltR (b := U) (b' := U') hY0 hY (by omega) (by omega)
    have := mul_ltR (b := Y * U + 1) (b' := Y' * U' + 1) hX0 hX (by omega) (by omega)
    omega
  · omega
theorem stepsN_pos {s n w t k : Int} (hs : 1 ≤ s) (hn : 0 ≤ n) (hw : 0 ≤ w) (ht : 0 ≤ t) (hk : 0 ≤ k) : 0 ≤ stepsN s n w t k := by
  unfold stepsN
  have h0 : 0 ≤ s * s := Int.mul_nonneg (by omega) (by omega)
  have h1 : 0 ≤ 72 * s * (64 * (n + s + 4)) * (w + t + s * s + 1) := Int.mul_nonneg (Int.mul_nonneg (by omega) (by omega)) (by omega)
  have h2 : 0 ≤ s * (28 * s + 1) * (72 * s * (64 * (n + s + 4)) * (w + t + s * s + 1) + 1) := Int.mul_nonneg (Int.mul_nonneg (by omega) (by omega)) (by omega)
  omega
theorem stepsL_bad {s n w t k : Int} (h : stepsBad s n w t k) : stepsL s n w t k = -1 := by unfold stepsL; rw [if_pos h]
theorem stepsL_ok {s n w t k : Int} (h : ¬ stepsBad s n w t k) : stepsL s n w t k = stepsN s n w t k := by unfold stepsL; rw [if_neg h]
theorem stepsL_lt {s n w t k : Int} (h : ¬ stepsL s n w t k < 0) : ¬ stepsBad s n w t k := fun hb => h (by rw [stepsL_bad hb]; omega)
/-- With one more of one of them it is more, or nothing. -/
theorem stepsL_more {s n w t k s' n' w' t' k' : Int} (h : ¬ stepsBad s n w t k) (hw : 0 ≤ w) (hs : s ≤ s') (hn : n ≤ n') (hw' : w ≤ w') (ht : t ≤ t') (hk : k ≤ k') (hlt : s < s' ∨ n < n' ∨ w < w' ∨ t < t' ∨ k < k') :
    stepsL s' n' w' t' k' < 0 ∨ stepsL s n w t k < stepsL s' n' w' t' k' := by
  by_cases h' : stepsBad s' n' w' t' k'
  · left; rw [stepsL_bad h']; omega
  · right
    rw [stepsL_ok h, stepsL_ok h']
    unfold stepsBad at h
    exact stepsN_up (by omega) (by omega) (by omega) (by omega) hk hlt
theorem stepsL_pick {s n w t k : Int} (h : ¬ stepsBad s n w t k) (hk : k ≤ 1048575) : stepsL s n w t (k + 1) = stepsL s n w t k + 1 := by
  have h' : ¬ stepsBad s n w t (k + 1) := fun hb => by unfold stepsBad at h hb; omega
  rw [stepsL_ok h, stepsL_ok h']
  unfold stepsN
  omega
theorem stepsN_ub {s n w t k : Int} (h : ¬ stepsBad s n w t k) (hw : 0 ≤ w) : stepsN s n w t k ≤ 6723808779699976 := by
  unfold stepsBad at h
  have hs : 1 ≤ s ∧ s ≤ 8 := by omega
  have hn : 0 ≤ n ∧ n ≤ 1000 := by omega
  have ht : 0 ≤ t ∧ t ≤ 64 := by omega
  have hk : k ≤ 1048576 := by omega
  have hw1 : w ≤ 100000 := by omega
  clear h
  unfold stepsN
  have h1 : s * s ≤ 8 * 8 := mul_up (by omega) hs.2 (by omega) hs.2
  have h10 : 0 ≤ s * s := Int.mul_nonneg (by omega) (by omega)
  have h2 : 72 * s * (64 * (n + s + 4)) ≤ 576 * 64768 := mul_up (by omega) (by omega) (by omega) (by omega)
  have h20 : 0 ≤ 72 * s * (64 * (n + s + 4)) := Int.mul_nonneg (by omega) (by omega)
  have h3 : s * (28 * s + 1) ≤ 8 * 225 := mul_up (by omega) (by omega) (by omega) (by omega)
  have h30 : 0 ≤ s * (28 * s + 1) := Int.mul_nonneg (by omega) (by omega)
  generalize s * s = ss at h1 h10 ⊢
  generalize 72 * s * (64 * (n + s + 4)) = Y at h2 h20 ⊢
  generalize s * (28 * s + 1) = X at h3 h30 ⊢
  have h4 : Y * (w + t + ss + 1) ≤ 37306368 * 100129 := mul_up h20 (by omega) (by omega) (by omega)
  have h40 : 0 ≤ Y * (w + t + ss + 1) := Int.mul_nonneg h20 (by omega)
  generalize Y * (w + t + ss + 1) = Z at h4 h40 ⊢
  have h5 : X * (Z + 1) ≤ 1800 * 3735449321473 := mul_up h30 (by omega) (by omega) (by omega)
  omega
theorem stepsL_ub {s n w t k : Int} (h : ¬ stepsBad s n w t k) (hw : 0 ≤ w) : stepsL s n w t k ≤ 6723808779699976 := by
  rw [stepsL_ok h]
  exact stepsN_ub h hw
end Go.Proofs.Ythjecgmgpnileaa.Bd
