/- The row of the best chains while it is filled, and its cells: plain. -/
import Derived.Test.YthjecgmgpnileaaE
import Derived.Test.YthjecgmgpnileaaKO
namespace Go.Proofs.Ythjecgmgpnileaa.Bd
open Go.RowKit Go.Proofs.YthjecgmgpnileaaW.PrintWords
set_option linter.unusedVariables false
set_option linter.unusedSimpArgs false

def arrA (o : List (Int × Int)) (ss : List Int) (n i : Nat) : List (Int × Int) := bests o ss i ++ List.replicate (n - i) (0, 0)
def arrK (o : List (Int × Int)) (ss : List Int) (n i : Nat) (c : Int × Int) : List (Int × Int) := bests o ss i ++ c :: List.replicate (n - i - 1) (0, 0)
theorem arrA_len (o : List (Int × Int)) (ss : List Int) {n i : Nat} (h : i ≤ n) : (arrA o ss n i).length = n := by
  unfold arrA
  rw [List.length_append, bests_len, List.length_replicate]
  omega
theorem arrK_len (o : List (Int × Int)) (ss : List Int) {n i : Nat} (h : i < n) (c : Int × Int) : (arrK o ss n i c).length = n := by
  unfold arrK
  rw [List.length_append, bests_len, List.length_cons, List.length_replicate]
  omega
theorem arrA_cons (o : List (Int × Int)) (ss : List Int) {n i : Nat} (h : i < n) : arrA o ss n i = arrK o ss n i (0, 0) := by
  unfold arrA arrK
  rw [show n - i = (n - i - 1) + 1 by omega, List.replicate_succ, show n - i - 1 + 1 - 1 = n - i - 1 by omega]
theorem arrK_set (o : List (Int × Int)) (ss : List Int) (n i : Nat) (c x : Int × Int) : (arrK o ss n i c).set i x = arrK o ss n i x := by
  unfold arrK
  have h := bests_len o ss i
  generalize bests o ss i = b at h ⊢
  subst h
  rw [List.set_append_right _ _ (Nat.le_refl _), Nat.sub_self, List.set_cons_zero]
theorem arrA_set (o : List (Int × Int)) (ss : List Int) {n i : Nat} (h : i < n) (x : Int × Int) : (arrA o ss n i).set i x = arrK o ss n i x := by rw [arrA_cons o ss h, arrK_set]
theorem arrK_last (o : List (Int × Int)) (ss : List Int) {n i : Nat} (h : i < n) : arrK o ss n i (bBest o ss (bests o ss i) i i) = arrA o ss n (i + 1) := by
  unfold arrK arrA
  show _ = (bests o ss i ++ [bBest o ss (bests o ss i) i i]) ++ _
  rw [List.append_assoc, List.singleton_append, show n - (i + 1) = n - i - 1 by omega]
theorem arrK_at (o : List (Int × Int)) (ss : List Int) (n i : Nat) (c : Int × Int) {k : Nat} (h : k < i) : bAt (arrK o ss n i c) (k : Int) = bAt (bests o ss i) (k : Int) := by
  unfold arrK
  exact bAt_left (by omega) (by rw [bests_len]; omega)
theorem arrK_i (o : List (Int × Int)) (ss : List Int) (n i : Nat) (c : Int × Int) : bAt (arrK o ss n i c) (i : Int) = c := by
  unfold arrK bAt
  rw [Int.toNat_natCast, List.getD_eq_getElem?_getD, List.getElem?_append_right (by rw [bests_len]; exact Nat.le_refl _), bests_len, Nat.sub_self]
  rfl
theorem arrA_full (o : List (Int × Int)) (ss : List Int) (n : Nat) : arrA o ss n n = bests o ss n := by
  unfold arrA
  rw [Nat.sub_self, List.replicate_zero, List.append_nil]
theorem arrA_at (o : List (Int × Int)) (ss : List Int) {n i j : Nat} (h : j < i) (hn : i ≤ n) : bAt (arrA o ss n i) (j : Int) = bAt (bests o ss n) (j : Int) := by
  unfold arrA
  rw [bAt_left (by omega) (by rw [bests_len]; omega), bests_at o ss hn (by omega) (by omega)]
theorem bBest_zero (o : List (Int × Int)) (ss : List Int) (bs : List (Int × Int)) (i : Nat) : bBest o ss bs i 0 = (1, -1) := rfl
/-- The cells of pairs. -/
def flatN (bs : List (Int × Int)) (j : Nat) : Int := if j % 2 = 0 then (bAt bs ((j / 2 : Nat) : Int)).1 else (bAt bs ((j / 2 : Nat) : Int)).2
def flat (bs : List (Int × Int)) : Array Value := ((List.range (2 * bs.length)).map fun j => Value.int .i64 (flatN bs j)).toArray
theorem flat_get (bs : List (Int × Int)) {j : Nat} (h : j < 2 * bs.length) : (flat bs)[j]? = some (.int .i64 (flatN bs j)) := by
  unfold flat
  rw [List.getElem?_toArray, List.getElem?_map, List.getElem?_range h]
  rfl
theorem flat_get0 (bs : List (Int × Int)) {i : Nat} (h : i < bs.length) : (flat bs)[i * 2]? = some (.int .i64 (bAt bs (i : Int)).1) := by
  rw [flat_get bs (by omega)]
  unfold flatN
  rw [if_pos (by omega), show i * 2 / 2 = i by omega]
theorem flat_get1 (bs : List (Int × Int)) {i : Nat} (h : i < bs.length) : (flat bs)[i * 2 + 1]? = some (.int .i64 (bAt bs (i : Int)).2) := by
  rw [flat_get bs (by omega)]
  unfold flatN
  rw [if_neg (by omega), show (i * 2 + 1) / 2 = i by omega]
theorem flat_size (bs : List (Int × Int)) : (flat bs).size = 2 * bs.length := by unfold flat; simp
theorem bAt_set (bs : List (Int × Int)) {i : Nat} (h : i < bs.length) (x : Int × Int) (k : Nat) : bAt (bs.set i x) (k : Int) = if k = i then x else bAt bs (k : Int) := by
  unfold bAt
  rw [Int.toNat_natCast, List.getD_eq_getElem?_getD, List.getD_eq_getElem?_getD]
  by_cases e : k = i
  · subst e
    rw [if_pos rfl, List.getElem?_set_self h]
    rfl
  · rw [if_neg e, List.getElem?_set_ne (fun h => e h.symm)]
theorem flat_set (bs : List (Int × Int)) {i : Nat} (h : i < bs.length) (x : Int × Int) : ((flat bs).setIfInBounds (i * 2) (.int .i64 x.1)).setIfInBounds (i * 2 + 1) (.int .i64 x.2) = flat (bs.set i x) := by
  apply Array.ext_getElem?
  intro j
  by_cases hj : j < 2 * bs.length
  · rw [flat_get (bs.set i x) (by rw [List.length_set]; exact hj), Array.getElem?_setIfInBounds, Array.getElem?_setIfInBounds, flat_get bs hj, flat_size, Array.size_setIfInBounds, flat_size]
    unfold flatN
    rw [bAt_set bs h]
    by_cases e0 : j = i * 2
    · subst e0
      rw [if_neg (by omega), if_pos rfl, if_pos (by omega), if_pos (by omega), if_pos (by omega)]
    · by_cases e1 : j = i * 2 + 1
      · subst e1
        rw [if_pos rfl, if_pos (by omega), if_neg (by omega), if_pos (by omega)]
      · have h3 : ¬ j / 2 = i := by omega
        rw [if_neg (fun e => e1 e.symm), if_neg (fun e => e0 e.symm)]
        simp only [if_neg h3]
  · rw [Array.getElem?_eq_none (by rw [Array.size_setIfInBounds, Array.size_setIfInBounds, flat_size]; omega), Array.getElem?_eq_none (by rw [flat_size, List.length_set]; omega)]
theorem flat_made (n : Nat) : madeCells #[.int .i64 0, .int .i64 0] (n * 2) = flat (List.replicate n (0, 0)) := by
  apply Array.ext_getElem?
  intro j
  by_cases hj : j < 2 * n
  · rw [flat_get _ (by rw [List.length_replicate]; exact hj)]
    have hf : flatN (List.replicate n ((0, 0) : Int × Int)) j = 0 := by
      unfold flatN bAt
      rw [Int.toNat_natCast, List.getD_eq_getElem?_getD, List.getElem?_replicate]
      split <;> (split <;> rfl)
    rw [hf]
    unfold madeCells
    rw [Array.getElem?_map, Array.getElem?_range]
    simp only [show j < n * 2 by omega, if_true, Option.map_some]
    have h2 : j % 2 = 0 ∨ j % 2 = 1 := by omega
    rcases h2 with h2 | h2 <;> simp [h2]
  · rw [Array.getElem?_eq_none (by rw [size_madeCells]; omega), Array.getElem?_eq_none (by rw [flat_size, List.length_replicate]; omega)]
theorem make_best (n : Nat) (hn : n ≤ 1000) : ∀ W : World, (Instr.makeSlice 60 (.int .i64 (n : Int)) (.int .i64 (n : Int))).run Try.prog W = .ok (.slice (some ⟨W.heap.size, 0, none⟩) n n) (W.alloc (.cells (flat (List.replicate n (0, 0))) 62)) := by
  intro W
  obtain ⟨i0, hi, hzz⟩ := Option.map_eq_some_iff.1 info62
  simp only [Prod.mk.injEq] at hzz
  obtain ⟨hz0, hz1, hz2⟩ := hzz
  have hr := run_make (P := Try.prog) W 60 62 i0 _ Try.underlying60 hi hz0 .i64 .i64 (n : Int) (n : Int) (by omega) (by omega) (by rw [hz2]; omega) (by omega)
  simp only [Int.toNat_natCast] at hr
  rw [hz1] at hr
  rw [hr, ← flat_made]
  rfl
/-- What is left of a chain's walk. -/
theorem walkB_neg (bs : List (Int × Int)) (m : Nat) {a : Int} (h : a < 0) : walkB bs m a = [] := by
  cases m with
  | zero => rfl
  | succ m => show (if a < 0 then [] else _) = _; rw [if_pos h]
theorem walkB_pos (bs : List (Int × Int)) (m : Nat) {a : Int} (h : 0 ≤ a) : walkB bs (m + 1) a = a :: walkB bs m (bAt bs a).2 := by
  show (if a < 0 then [] else _) = _
  rw [if_neg (by omega)]
theorem bests_back (o : List (Int × Int)) (ss : List Int) {n i : Nat} (h : i < n) : (bAt (bests o ss n) (i : Int)).2 < (i : Int) ∧ -1 ≤ (bAt (bests o ss n) (i : Int)).2 := by
  obtain ⟨g1, g2, g3⟩ := bests_inv o ss h
  rcases g2 with ⟨e, _⟩ | ⟨e1, e2, _, _⟩
  · rw [e]; simp only; omega
  · exact ⟨e2, by omega⟩
end Go.Proofs.Ythjecgmgpnileaa.Bd
