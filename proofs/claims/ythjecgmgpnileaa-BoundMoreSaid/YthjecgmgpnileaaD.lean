/- The printed functions come to the plain ones. -/
import Derived.Test.YthjecgmgpnileaaL
import Derived.Test.YthjecgmgpnileaaB
namespace Go.Proofs.Ythjecgmgpnileaa.Bd
open Go.RowKit Go.Proofs.YthjecgmgpnileaaW.PrintWords Go.Proofs.YthjecgmgpnileaaW.PrintLast Go.Proofs.YthjecgmgpnileaaW.PrintMore
set_option linter.unusedVariables false

theorem wrap_succ {i n : Nat} (h : i < n) (hn : n ≤ 1000000000) : wrap64 ((i : Int) + 1) = ((i + 1 : Nat) : Int) := by
  unfold wrap64
  omega
theorem drop_rd (l : List Int) (i : Nat) (h : i < l.length) : l.drop i = rd l (i : Int) :: l.drop (i + 1) := by
  rw [List.drop_eq_getElem_cons h]
  congr 1
  unfold rd
  rw [Int.toNat_natCast, List.getD_eq_getElem?_getD, List.getElem?_eq_getElem h]
  rfl
theorem behind_l0 (l : List Int) (a s : Int) (hn : l.length ≤ 1000000000) (d : Nat) : ∀ (k i : Nat) (acc : List Int), i + d = l.length → d < k → acc.length ≤ 2 * i → underwoodref12_behind.l0 k l a s acc (i : Int) = some (acc ++ insAfter (l.drop i) a s) := by
  induction d with
  | zero =>
    intro k i acc hi hk ha
    obtain ⟨k, rfl⟩ : ∃ m, k = m + 1 := ⟨k - 1, by omega⟩
    simp only [underwoodref12_behind.l0]
    rw [if_neg (by omega), List.drop_of_length_le (by omega)]
    simp [insAfter]
  | succ d ih =>
    intro k i acc hi hk ha
    obtain ⟨k, rfl⟩ : ∃ m, k = m + 1 := ⟨k - 1, by omega⟩
    simp only [underwoodref12_behind.l0]
    rw [if_pos (by omega), if_pos (by omega), if_pos (by omega)]
    simp only [Option.bind_some]
    rw [wrap_succ (n := l.length) (by omega) hn, drop_rd l i (by omega)]
    by_cases h : rd l (i : Int) = a
    · rw [if_pos h, if_pos (by simp only [List.length_append, List.length_singleton]; omega), ih k (i + 1) _ (by omega) (by omega) (by simp only [List.length_append, List.length_singleton]; omega)]
      unfold insAfter
      rw [List.flatMap_cons, if_pos h]
      simp
    · rw [if_neg h, ih k (i + 1) _ (by omega) (by omega) (by simp only [List.length_append, List.length_singleton]; omega)]
      unfold insAfter
      rw [List.flatMap_cons, if_neg h]
      simp
theorem behind_is (l : List Int) (a s : Int) (hn : l.length ≤ 1000000000) : underwoodref12_behind.f (l.length + 1) l a s = some (insAfter l a s) := by
  have h := behind_l0 l a s hn l.length (l.length + 1) 0 [] (by omega) (by omega) (by simp)
  simpa [underwoodref12_behind.f] using h
theorem place_l0 (l : List Int) (s : Int) (hn : l.length ≤ 1000000000) (d : Nat) : ∀ (k i : Nat), i + d = l.length → d < k → s ∉ l.take i → underwoodref12_place.l0 k l s (i : Int) = some (plc l s) := by
  induction d with
  | zero =>
    intro k i hi hk hs
    obtain ⟨k, rfl⟩ : ∃ m, k = m + 1 := ⟨k - 1, by omega⟩
    simp only [underwoodref12_place.l0]
    rw [List.take_of_length_le (by omega)] at hs
    rw [if_neg (by omega)]
    unfold plc
    rw [if_neg hs]
  | succ d ih =>
    intro k i hi hk hs
    obtain ⟨k, rfl⟩ : ∃ m, k = m + 1 := ⟨k - 1, by omega⟩
    simp only [underwoodref12_place.l0]
    rw [if_pos (by omega), if_pos (by omega), wrap_succ (n := l.length) (by omega) hn]
    have hd := drop_rd l i (by omega)
    have hl : l = l.take i ++ rd l (i : Int) :: l.drop (i + 1) := by rw [← hd, List.take_append_drop]
    by_cases h : rd l (i : Int) = s
    · rw [if_pos h]
      unfold plc
      rw [h] at hl
      have hm : s ∈ l := by rw [hl]; exact List.mem_append_right _ List.mem_cons_self
      rw [if_pos hm]
      have e : l.idxOf s = i := by
        rw [hl, List.idxOf_append, if_neg hs, List.idxOf_cons_self, List.length_take]
        omega
      rw [e]
    · rw [if_neg h, ih k (i + 1) (by omega) (by omega)]
      intro hm
      rw [List.take_succ_eq_append_getElem (by omega), List.mem_append, List.mem_singleton] at hm
      rcases hm with hm | hm
      · exact hs hm
      · apply h
        rw [hm]
        unfold rd
        rw [Int.toNat_natCast, List.getD_eq_getElem?_getD, List.getElem?_eq_getElem (by omega)]
        rfl
theorem place_is (l : List Int) (s : Int) (hn : l.length ≤ 1000000000) : underwoodref12_place.f (l.length + 1) l s = some (plc l s) := by
  unfold underwoodref12_place.f
  exact place_l0 l s hn l.length (l.length + 1) 0 (by omega) (by omega) (by simp)
/-- Has a strand begun? -/
def begun1 (a : Int) (x : S53) : Bool := (decide (x.f0 = 1) && (decide (x.f2 = a) || decide (x.f3 = a))) || (decide (x.f0 = 3) && decide (x.f4 = a))
def begunL (l : List S53) (a : Int) : Bool := decide (a = 0) || l.any (begun1 a)
theorem drop_rd53 (l : List S53) (i : Nat) (h : i < l.length) : l.drop i = rd_T53 l (i : Int) :: l.drop (i + 1) := by
  rw [List.drop_eq_getElem_cons h]
  congr 1
  unfold rd_T53
  rw [Int.toNat_natCast, List.getD_eq_getElem?_getD, List.getElem?_eq_getElem h]
  rfl
theorem begun_l0 (l : List S53) (a : Int) (hn : l.length ≤ 1000000000) (d : Nat) : ∀ (k i : Nat), i + d = l.length → d < k → underwoodref12_Begun.l0 k l a (i : Int) = some ((l.drop i).any (begun1 a)) := by
  induction d with
  | zero =>
    intro k i hi hk
    obtain ⟨k, rfl⟩ : ∃ m, k = m + 1 := ⟨k - 1, by omega⟩
    simp only [underwoodref12_Begun.l0]
    rw [if_neg (by omega), List.drop_of_length_le (by omega)]
    rfl
  | succ d ih =>
    intro k i hi hk
    obtain ⟨k, rfl⟩ : ∃ m, k = m + 1 := ⟨k - 1, by omega⟩
    simp only [underwoodref12_Begun.l0]
    rw [if_pos (by omega), if_pos (by omega), wrap_succ (n := l.length) (by omega) hn, ih k (i + 1) (by omega) (by omega), drop_rd53 l i (by omega), List.any_cons]
    generalize rd_T53 l (i : Int) = x
    unfold begun1
    by_cases h1 : x.f0 = 1
    · have h3 : ¬ x.f0 = 3 := by omega
      by_cases h2 : x.f2 = a
      · simp [h1, h2]
      · by_cases h4 : x.f3 = a <;> simp [h1, h2, h4]
    · by_cases h3 : x.f0 = 3
      · by_cases h4 : x.f4 = a <;> simp [h3, h4]
      · simp [h1, h3]
theorem begun_is (l : List S53) (a : Int) (hn : l.length ≤ 1000000000) : underwoodref12_Begun.f (l.length + 1) l a = some (begunL l a) := by
  unfold underwoodref12_Begun.f begunL
  by_cases h : a = 0
  · rw [if_pos h]; simp [h]
  · rw [if_neg h]
    have := begun_l0 l a hn l.length (l.length + 1) 0 (by omega) (by omega)
    rw [List.drop_zero] at this
    simpa [h] using this
theorem ints_l0 (l m : List Int) (he : l.length = m.length) (hn : l.length ≤ 1000000000) (d : Nat) : ∀ (k i : Nat), i + d = l.length → d < k → underwoodref11_Ints.l0 k l m (i : Int) = some (decide (l.drop i = m.drop i)) := by
  induction d with
  | zero =>
    intro k i hi hk
    obtain ⟨k, rfl⟩ : ∃ m, k = m + 1 := ⟨k - 1, by omega⟩
    simp only [underwoodref11_Ints.l0]
    rw [if_neg (by omega), List.drop_of_length_le (by omega), List.drop_of_length_le (by omega)]
    rfl
  | succ d ih =>
    intro k i hi hk
    obtain ⟨k, rfl⟩ : ∃ m, k = m + 1 := ⟨k - 1, by omega⟩
    simp only [underwoodref11_Ints.l0]
    rw [if_pos (by omega), if_pos (by omega), if_pos (by omega), wrap_succ (n := l.length) (by omega) hn, ih k (i + 1) (by omega) (by omega), drop_rd l i (by omega), drop_rd m i (by omega)]
    by_cases h : rd l (i : Int) = rd m (i : Int)
    · rw [if_pos h]; simp [h]
    · rw [if_neg h]; simp [h]
theorem ints_is (l m : List Int) (hn : l.length ≤ 1000000000) : underwoodref11_Ints.f (l.length + 1) l m = some (decide (l = m)) := by
  unfold underwoodref11_Ints.f
  by_cases he : l.length = m.length
  · rw [if_pos (by omega)]
    have := ints_l0 l m he hn l.length (l.length + 1) 0 (by omega) (by omega)
    simpa using this
  · rw [if_neg (by omega)]
    have : l ≠ m := fun e => he (by rw [e])
    simp [this]
theorem longer_one (a b m f : Int) : bound_longer.f 2 a b [⟨m, f⟩] = some (if m > a then (m, f) else (a, b)) := by
  unfold bound_longer.f
  have e : wrap64 ((0 : Int) + 1) = 1 := by unfold wrap64; decide
  simp only [bound_longer.l0, e, List.length_singleton]
  rw [if_pos (by decide), if_pos (by decide), if_pos (by decide)]
  show (if m > a then _ else _) = _
  split <;> rfl
end Go.Proofs.Ythjecgmgpnileaa.Bd
