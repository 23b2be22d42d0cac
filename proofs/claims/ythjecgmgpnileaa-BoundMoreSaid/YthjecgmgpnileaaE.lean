/- Chains of uses that stand one ahead of the other: plain. -/
import Derived.Test.YthjecgmgpnileaaA
namespace Go.Proofs.Ythjecgmgpnileaa.Bd
set_option linter.unusedVariables false

/-- Is a strand ahead of another one? -/
def aheadO (o : List (Int × Int)) (a b : Int) : Bool :=
  decide (0 ≤ a) && decide (0 ≤ b) && decide (a < (o.length : Int)) && decide (b < (o.length : Int)) && decide ((o.getD a.toNat (0, 0)).1 < (o.getD b.toNat (0, 0)).1) && decide ((o.getD a.toNat (0, 0)).2 < (o.getD b.toNat (0, 0)).2)
/-- .. or the same one. -/
def aheadE (o : List (Int × Int)) (a b : Int) : Bool := (a == b) || aheadO o a b
/-- Does the use at a place stand ahead of another one's? -/
def aheadU (o : List (Int × Int)) (ss : List Int) (i k : Int) : Bool := if at0 ss i = at0 ss k then decide (i < k) else aheadO o (at0 ss i) (at0 ss k)
theorem aheadE_U {o : List (Int × Int)} {ss : List Int} {i k : Int} (h : i < k) : aheadU o ss i k = aheadE o (at0 ss i) (at0 ss k) := by
  unfold aheadU aheadE
  by_cases e : at0 ss i = at0 ss k
  · rw [if_pos e, e]; simp [h]
  · rw [if_neg e]
    have : (at0 ss i == at0 ss k) = false := beq_eq_false_iff_ne.mpr e
    rw [this]; rfl
def bAt (bs : List (Int × Int)) (i : Int) : Int × Int := bs.getD i.toNat (0, 0)
/-- One use more is looked at. -/
def bStep (o : List (Int × Int)) (ss : List Int) (bs : List (Int × Int)) (i : Int) (c : Int × Int) (k : Int) : Int × Int :=
  if aheadE o (at0 ss k) (at0 ss i) = true ∧ c.1 < (bAt bs k).1 + 1 then ((bAt bs k).1 + 1, k) else c
def bBest (o : List (Int × Int)) (ss : List Int) (bs : List (Int × Int)) (i k : Nat) : Int × Int := (ints k).foldl (bStep o ss bs i) (1, -1)
theorem bBest_succ (o : List (Int × Int)) (ss : List Int) (bs : List (Int × Int)) (i k : Nat) : bBest o ss bs i (k + 1) = bStep o ss bs i (bBest o ss bs i k) (k : Int) := by
  unfold bBest
  rw [ints_succ, List.foldl_append]
  rfl
/-- The best chains that end at the first n uses. -/
def bests (o : List (Int × Int)) (ss : List Int) : Nat → List (Int × Int)
  | 0 => []
  | n + 1 => bests o ss n ++ [bBest o ss (bests o ss n) n n]
theorem bests_len (o : List (Int × Int)) (ss : List Int) (n : Nat) : (bests o ss n).length = n := by
  induction n with
  | zero => rfl
  | succ n ih => show (_ ++ [_]).length = _; rw [List.length_append, ih]; rfl
theorem bAt_left {a b : List (Int × Int)} {i : Int} (h0 : 0 ≤ i) (h1 : i < (a.length : Int)) : bAt (a ++ b) i = bAt a i := by
  unfold bAt
  rw [List.getD_eq_getElem?_getD, List.getD_eq_getElem?_getD, List.getElem?_append_left (by omega)]
theorem bests_at (o : List (Int × Int)) (ss : List Int) {n m : Nat} (h : n ≤ m) {i : Int} (h0 : 0 ≤ i) (h1 : i < (n : Int)) : bAt (bests o ss m) i = bAt (bests o ss n) i := by
  induction m with
  | zero => have : n = 0 := by omega
            subst this; rfl
  | succ m ih =>
    by_cases e : n = m + 1
    · subst e; rfl
    · show bAt (_ ++ [_]) i = _
      rw [bAt_left h0 (by rw [bests_len]; omega), ih (by omega)]
theorem bests_last (o : List (Int × Int)) (ss : List Int) (n : Nat) : bAt (bests o ss (n + 1)) (n : Int) = bBest o ss (bests o ss n) n n := by
  show bAt (_ ++ [_]) _ = _
  unfold bAt
  rw [Int.toNat_natCast, List.getD_eq_getElem?_getD, List.getElem?_append_right (by rw [bests_len]; exact Nat.le_refl _), bests_len]
  simp
/-- Of which places the best is looked at till now. -/
def bInv (o : List (Int × Int)) (ss : List Int) (bs : List (Int × Int)) (i : Nat) (k : Nat) (c : Int × Int) : Prop :=
  1 ≤ c.1 ∧ ((c = (1, -1) ∧ ∀ j : Int, 0 ≤ j → j < (k : Int) → aheadE o (at0 ss j) (at0 ss i) = true → (bAt bs j).1 < 1) ∨
    (0 ≤ c.2 ∧ c.2 < (k : Int) ∧ aheadE o (at0 ss c.2) (at0 ss i) = true ∧ c.1 = (bAt bs c.2).1 + 1)) ∧
  ∀ j : Int, 0 ≤ j → j < (k : Int) → aheadE o (at0 ss j) (at0 ss i) = true → (bAt bs j).1 + 1 ≤ c.1
theorem bBest_inv (o : List (Int × Int)) (ss : List Int) (bs : List (Int × Int)) (i k : Nat) : bInv o ss bs i k (bBest o ss bs i k) := by
  induction k with
  | zero => exact ⟨Int.le_refl 1, .inl ⟨rfl, fun j h0 h1 => by omega⟩, fun j h0 h1 => by omega⟩
  | succ k ih =>
    rw [bBest_succ]
    generalize bBest o ss bs i k = c at ih ⊢
    obtain ⟨g1, g2, g3⟩ := ih
    unfold bStep
    split
    · rename_i h
      refine ⟨by show 1 ≤ (bAt bs k).1 + 1; omega, .inr ⟨by show (0 : Int) ≤ k; omega, by show (k : Int) < ((k + 1 : Nat) : Int); omega, h.1, rfl⟩, fun j h0 h1 ha => ?_⟩
      show (bAt bs j).1 + 1 ≤ (bAt bs k).1 + 1
      by_cases e : j = k
      · subst e; omega
      · have := g3 j h0 (by omega) ha; omega
    · rename_i h
      have hk : aheadE o (at0 ss k) (at0 ss i) = true → (bAt bs k).1 + 1 ≤ c.1 := fun ha => by
        have : ¬ c.1 < (bAt bs k).1 + 1 := fun k' => h ⟨ha, k'⟩
        omega
      refine ⟨g1, ?_, fun j h0 h1 ha => ?_⟩
      · rcases g2 with ⟨e, g2⟩ | ⟨e1, e2, e3, e4⟩
        · refine .inl ⟨e, fun j h0 h1 ha => ?_⟩
          by_cases e' : j = k
          · subst e'; have := hk ha; rw [e] at this; simp only at this; omega
          · exact g2 j h0 (by omega) ha
        · exact .inr ⟨e1, by omega, e3, e4⟩
      · by_cases e : j = k
        · subst e; exact hk ha
        · exact g3 j h0 (by omega) ha
/-- What is known of each of the bests. -/
theorem bests_inv (o : List (Int × Int)) (ss : List Int) {n : Nat} {i : Nat} (h : i < n) : bInv o ss (bests o ss n) i i (bAt (bests o ss n) i) := by
  have e : bAt (bests o ss n) i = bBest o ss (bests o ss i) i i := by
    rw [bests_at o ss (n := i + 1) (by omega) (by omega) (by omega), bests_last]
  have h1 := bBest_inv o ss (bests o ss i) i i
  rw [← e] at h1
  have h2 : ∀ j : Int, 0 ≤ j → j < (i : Int) → bAt (bests o ss i) j = bAt (bests o ss n) j := fun j h0 h1 => (bests_at o ss (by omega) h0 h1).symm
  obtain ⟨g1, g2, g3⟩ := h1
  refine ⟨g1, ?_, fun j h0 hj ha => by rw [← h2 j h0 hj]; exact g3 j h0 hj ha⟩
  rcases g2 with ⟨e1, g2⟩ | ⟨e1, e2, e3, e4⟩
  · exact .inl ⟨e1, fun j h0 hj ha => by rw [← h2 j h0 hj]; exact g2 j h0 hj ha⟩
  · exact .inr ⟨e1, e2, e3, by rw [← h2 _ e1 e2]; exact e4⟩
theorem bests_pos (o : List (Int × Int)) (ss : List Int) {n : Nat} {i : Int} (h0 : 0 ≤ i) (h : i < (n : Int)) : 1 ≤ (bAt (bests o ss n) i).1 := by
  have := (bests_inv o ss (n := n) (i := i.toNat) (by omega)).1
  rwa [Int.toNat_of_nonneg h0] at this
/-- The first one of the best. -/
def bLast (bs : List (Int × Int)) : Nat → Int
  | 0 => 0
  | n + 1 => if (bAt bs (bLast bs n)).1 < (bAt bs n).1 then (n : Int) else bLast bs n
theorem bLast_spec (bs : List (Int × Int)) (n : Nat) : 0 ≤ bLast bs n ∧ (bLast bs n < (n : Int) ∨ bLast bs n = 0) ∧ ∀ j : Int, 0 ≤ j → j < (n : Int) → (bAt bs j).1 ≤ (bAt bs (bLast bs n)).1 := by
  induction n with
  | zero => exact ⟨Int.le_refl _, .inr rfl, fun j h0 h1 => by omega⟩
  | succ n ih =>
    obtain ⟨g1, g2, g3⟩ := ih
    unfold bLast
    split
    · rename_i h
      refine ⟨by omega, .inl (by omega), fun j h0 h1 => ?_⟩
      by_cases e : j = n
      · subst e; exact Int.le_refl _
      · have := g3 j h0 (by omega); omega
    · rename_i h
      refine ⟨g1, by omega, fun j h0 h1 => ?_⟩
      by_cases e : j = n
      · subst e; omega
      · exact g3 j h0 (by omega)
/-- A chain, from its end. -/
def walkB (bs : List (Int × Int)) : Nat → Int → List Int
  | 0, _ => []
  | k + 1, i => if i < 0 then [] else i :: walkB bs k (bAt bs i).2
def chainB (o : List (Int × Int)) (ss : List Int) : List Int := if ss.length = 0 then [] else (walkB (bests o ss ss.length) (ss.length + 1) (bLast (bests o ss ss.length) ss.length)).reverse
/-- One that stands ahead of the one that follows. -/
def Linked (o : List (Int × Int)) (ss : List Int) : List Int → Prop
  | [] => True
  | [_] => True
  | a :: b :: l => b < a ∧ aheadE o (at0 ss b) (at0 ss a) = true ∧ Linked o ss (b :: l)
theorem walkB_spec (o : List (Int × Int)) (ss : List Int) (n : Nat) (k : Nat) : ∀ i : Int, 0 ≤ i → i < (n : Int) → i < (k : Int) →
    ∃ t, walkB (bests o ss n) k i = i :: t ∧ ((i :: t).length : Int) = (bAt (bests o ss n) i).1 ∧ Linked o ss (i :: t) ∧ (∀ j ∈ i :: t, 0 ≤ j ∧ j ≤ i) ∧
      ∀ j : Int, 0 ≤ j → j < (i :: t).getLast (List.cons_ne_nil _ _) → ¬ aheadE o (at0 ss j) (at0 ss ((i :: t).getLast (List.cons_ne_nil _ _))) = true := by
  induction k with
  | zero => intro i h0 h1 h2; omega
  | succ k ih =>
    intro i h0 h1 h2
    have hi := bests_inv o ss (n := n) (i := i.toNat) (by omega)
    rw [Int.toNat_of_nonneg h0] at hi
    obtain ⟨g1, g2, g3⟩ := hi
    rcases g2 with ⟨e, g2⟩ | ⟨e1, e2, e3, e4⟩
    · refine ⟨[], ?_, ?_, trivial, fun j hj => ?_, fun j hj0 hj1 ha => ?_⟩
      · show (if i < 0 then [] else i :: walkB _ k _) = _
        rw [if_neg (by omega), e]
        show i :: walkB _ k (-1) = _
        cases k with
        | zero => rfl
        | succ k => show i :: (if (-1 : Int) < 0 then [] else _) = _; rw [if_pos (by omega)]
      · rw [e]; rfl
      · rw [List.mem_singleton.1 hj]; omega
      · have hj1' : j < i := hj1
        have := g2 j hj0 (by omega) ha
        have := bests_pos o ss (n := n) hj0 (by omega)
        omega
    · obtain ⟨t, ht, hl, hk, hm, hf⟩ := ih (bAt (bests o ss n) i).2 e1 (by omega) (by omega)
      refine ⟨(bAt (bests o ss n) i).2 :: t, ?_, ?_, ⟨by omega, e3, hk⟩, fun j hj => ?_, ?_⟩
      · show (if i < 0 then [] else i :: walkB _ k _) = _
        rw [if_neg (by omega), ht]
      · rw [List.length_cons, e4, ← hl]; omega
      · rcases List.mem_cons.1 hj with rfl | hj
        · omega
        · have := hm j hj; omega
      · rw [List.getLast_cons (List.cons_ne_nil _ _)]
        exact hf
theorem chain_nil (o : List (Int × Int)) {ss : List Int} (h : ss.length ≠ 0) : ∃ i t, walkB (bests o ss ss.length) (ss.length + 1) (bLast (bests o ss ss.length) ss.length) = i :: t ∧ i = bLast (bests o ss ss.length) ss.length ∧ ((i :: t).length : Int) = (bAt (bests o ss ss.length) i).1 ∧ Linked o ss (i :: t) ∧ (∀ j ∈ i :: t, 0 ≤ j ∧ j < (ss.length : Int)) ∧
      ∀ j : Int, 0 ≤ j → j < (i :: t).getLast (List.cons_ne_nil _ _) → ¬ aheadE o (at0 ss j) (at0 ss ((i :: t).getLast (List.cons_ne_nil _ _))) = true := by
  obtain ⟨g1, g2, g3⟩ := bLast_spec (bests o ss ss.length) ss.length
  obtain ⟨t, ht, hl, hk, hm, hf⟩ := walkB_spec o ss ss.length (ss.length + 1) _ g1 (by omega) (by omega)
  exact ⟨_, t, ht, rfl, hl, hk, fun j hj => ⟨(hm j hj).1, by have := (hm j hj).2; omega⟩, hf⟩
theorem linked_dec (o : List (Int × Int)) (ss : List Int) : ∀ l : List Int, Linked o ss l → l.Pairwise (· > ·)
  | [], _ => List.Pairwise.nil
  | [a], _ => List.pairwise_singleton _ _
  | a :: b :: l, h => by
    have ih := linked_dec o ss (b :: l) h.2.2
    refine List.pairwise_cons.2 ⟨fun c hc => ?_, ih⟩
    have hab := h.1
    rcases List.mem_cons.1 hc with rfl | hc
    · exact hab
    · have := (List.pairwise_cons.1 ih).1 c hc; omega
/-- A row whose neighbours fit, read the other way round. -/
theorem linked_rev (o : List (Int × Int)) (ss : List Int) (l : List Int) (h : Linked o ss l) : ∀ k, k + 1 < l.length → at0 l.reverse ((k + 1 : Nat) : Int) > at0 l.reverse (k : Int) ∧ aheadE o (at0 ss (at0 l.reverse (k : Int))) (at0 ss (at0 l.reverse ((k + 1 : Nat) : Int))) = true := by
  have key : ∀ l : List Int, Linked o ss l → ∀ k, k + 1 < l.length → l.getD (k + 1) 0 < l.getD k 0 ∧ aheadE o (at0 ss (l.getD (k + 1) 0)) (at0 ss (l.getD k 0)) = true := by
    intro l
    induction l with
    | nil => intro _ k hk; simp at hk
    | cons a l ih =>
      intro h k hk
      cases l with
      | nil => simp at hk
      | cons b l =>
        cases k with
        | zero => exact ⟨h.1, h.2.1⟩
        | succ k => exact ih h.2.2 k (by simp at hk ⊢; omega)
  intro k hk
  have h1 : ∀ m, m < l.length → at0 l.reverse (m : Int) = l.getD (l.length - 1 - m) 0 := fun m hm => by
    unfold at0
    rw [Int.toNat_natCast, List.getD_eq_getElem?_getD, List.getD_eq_getElem?_getD, List.getElem?_reverse hm]
  rw [h1 k (by omega), h1 (k + 1) hk]
  have := key l h (l.length - 1 - (k + 1)) (by omega)
  rw [show l.length - 1 - (k + 1) + 1 = l.length - 1 - k by omega] at this
  exact this
/-- How many a chain has: the most that there are. -/
theorem chain_most (o : List (Int × Int)) (ss : List Int) (h : ss.length ≠ 0) : (∃ i : Int, 0 ≤ i ∧ i < (ss.length : Int) ∧ ((chainB o ss).length : Int) = (bAt (bests o ss ss.length) i).1) ∧
    ∀ j : Int, 0 ≤ j → j < (ss.length : Int) → (bAt (bests o ss ss.length) j).1 ≤ ((chainB o ss).length : Int) := by
  obtain ⟨i, t, e, e2, hl, _⟩ := chain_nil o h
  obtain ⟨g1, g2, g3⟩ := bLast_spec (bests o ss ss.length) ss.length
  have hc : ((chainB o ss).length : Int) = (bAt (bests o ss ss.length) i).1 := by
    unfold chainB
    rw [if_neg h, e, List.length_reverse]
    exact hl
  rw [hc, e2]
  exact ⟨⟨_, g1, by omega, rfl⟩, g3⟩
theorem chain_zero (o : List (Int × Int)) {ss : List Int} (h : ss.length = 0) : chainB o ss = [] := by unfold chainB; rw [if_pos h]
theorem chain_some (o : List (Int × Int)) {ss : List Int} (h : ss.length ≠ 0) : 0 < (chainB o ss).length := by
  obtain ⟨⟨i, h0, h1, e⟩, _⟩ := chain_most o ss h
  have := bests_pos o ss (n := ss.length) h0 h1
  omega
theorem bests_le (o : List (Int × Int)) (ss : List Int) (n : Nat) : ∀ i : Nat, i < n → (bAt (bests o ss n) i).1 ≤ i + 1 := by
  intro i
  induction i using Nat.strongRecOn with
  | _ i ih =>
    intro h
    obtain ⟨g1, g2, g3⟩ := bests_inv o ss h
    rcases g2 with ⟨e, _⟩ | ⟨e1, e2, e3, e4⟩
    · rw [e]; simp only; omega
    · have := ih (bAt (bests o ss n) i).2.toNat (by omega) (by omega)
      rw [Int.toNat_of_nonneg e1] at this
      omega
theorem chain_le (o : List (Int × Int)) (ss : List Int) : (chainB o ss).length ≤ ss.length := by
  by_cases h : ss.length = 0
  · rw [chain_zero o h]; simp
  · obtain ⟨⟨i, h0, h1, e⟩, _⟩ := chain_most o ss h
    have := bests_le o ss ss.length i.toNat (by omega)
    rw [Int.toNat_of_nonneg h0] at this
    omega
theorem chain_facts (o : List (Int × Int)) (ss : List Int) (k : Nat) (hk : k < (chainB o ss).length) : (0 ≤ at0 (chainB o ss) (k : Int) ∧ at0 (chainB o ss) (k : Int) < (ss.length : Int)) ∧
    (∀ m, k = m + 1 → at0 (chainB o ss) (m : Int) < at0 (chainB o ss) (k : Int) ∧ aheadU o ss (at0 (chainB o ss) (m : Int)) (at0 (chainB o ss) (k : Int)) = true) ∧
    (k = 0 → ∀ i : Int, 0 ≤ i → i < at0 (chainB o ss) 0 → aheadU o ss i (at0 (chainB o ss) 0) = false) := by
  have h : ss.length ≠ 0 := fun e => by rw [chain_zero o e] at hk; simp at hk
  obtain ⟨i, t, e, e2, hl, hlk, hm, hf⟩ := chain_nil o h
  have hc : chainB o ss = (i :: t).reverse := by unfold chainB; rw [if_neg h, e]
  rw [hc] at hk ⊢
  rw [List.length_reverse] at hk
  refine ⟨hm _ (List.mem_reverse.1 (at0_mem (by omega) (by rw [List.length_reverse]; omega))), fun m e => ?_, fun e => ?_⟩
  · subst e
    have := linked_rev o ss (i :: t) hlk m (by omega)
    exact ⟨this.1, by rw [aheadE_U this.1]; exact this.2⟩
  · have h0 : at0 (i :: t).reverse 0 = (i :: t).getLast (List.cons_ne_nil _ _) := by
      unfold at0
      rw [Int.toNat_zero, List.getD_eq_getElem?_getD, List.getElem?_reverse (by simp), List.getLast_eq_getElem]
      simp only [List.length_cons, Nat.add_sub_cancel, Nat.sub_zero]
      rw [List.getElem?_eq_getElem (by simp)]
      rfl
    rw [h0]
    intro j hj0 hj1
    have := hf j hj0 hj1
    rw [aheadE_U hj1]
    simpa using this
/-- Other uses that stand one ahead of the other. -/
def othStep (o : List (Int × Int)) (ss : List Int) (l : List Int) (x : Int) : List Int := if l = [] ∨ (at0 l ((l.length : Int) - 1) < x ∧ aheadU o ss (at0 l ((l.length : Int) - 1)) x = true) then l ++ [x] else l
theorem oth_inv (o : List (Int × Int)) (ss : List Int) (l : List Int) (x : Int) (hx : 0 ≤ x ∧ x < (ss.length : Int)) (h : l = [] ∨ ((0 ≤ at0 l ((l.length : Int) - 1) ∧ at0 l ((l.length : Int) - 1) < (ss.length : Int)) ∧ (l.length : Int) ≤ (bAt (bests o ss ss.length) (at0 l ((l.length : Int) - 1))).1)) :
    (let m := othStep o ss l x; m = [] ∨ ((0 ≤ at0 m ((m.length : Int) - 1) ∧ at0 m ((m.length : Int) - 1) < (ss.length : Int)) ∧ (m.length : Int) ≤ (bAt (bests o ss ss.length) (at0 m ((m.length : Int) - 1))).1)) := by
  simp only
  unfold othStep
  split
  · rename_i hc
    right
    have e : ((l ++ [x]).length : Int) - 1 = (l.length : Int) := by rw [List.length_append, List.length_singleton]; omega
    rw [e, at0_last]
    refine ⟨hx, ?_⟩
    rw [List.length_append, List.length_singleton]
    have hb := bests_inv o ss (n := ss.length) (i := x.toNat) (by omega)
    rw [Int.toNat_of_nonneg hx.1] at hb
    by_cases hl : l = []
    · subst hl; exact hb.1
    · rcases hc with hc | ⟨hc1, hc2⟩
      · exact absurd hc hl
      · rcases h with h | ⟨h1, h2⟩
        · exact absurd h hl
        · have h3 := hb.2.2 _ h1.1 (by omega) (by rw [Int.toNat_of_nonneg hx.1, ← aheadE_U hc1]; exact hc2)
          omega
  · exact h
theorem oth_le (o : List (Int × Int)) (ss : List Int) (l : List Int) (h : l = [] ∨ ((0 ≤ at0 l ((l.length : Int) - 1) ∧ at0 l ((l.length : Int) - 1) < (ss.length : Int)) ∧ (l.length : Int) ≤ (bAt (bests o ss ss.length) (at0 l ((l.length : Int) - 1))).1)) : l.length ≤ (chainB o ss).length := by
  rcases h with h | ⟨h1, h2⟩
  · rw [h]; exact Nat.zero_le _
  · have := (chain_most o ss (by omega)).2 _ h1.1 h1.2
    omega
/-- How often a strand has been. -/
theorem count_le (o : List (Int × Int)) (ss : List Int) (s : Int) (k : Nat) : k ≤ ss.length → (ss.take k).count s = 0 ∨ ∃ i : Nat, i < k ∧ at0 ss (i : Int) = s ∧ ((ss.take k).count s : Int) ≤ (bAt (bests o ss ss.length) i).1 := by
  induction k with
  | zero => intro _; left; simp
  | succ k ih =>
    intro hk
    rw [List.take_succ_eq_append_getElem (by omega), List.count_append]
    have e : at0 ss (k : Int) = ss[k]'(by omega) := by
      unfold at0
      rw [Int.toNat_natCast, List.getD_eq_getElem?_getD, List.getElem?_eq_getElem (by omega)]
      rfl
    by_cases h : ss[k]'(by omega) = s
    · right
      refine ⟨k, by omega, by rw [e]; exact h, ?_⟩
      have e1 : List.count s [ss[k]'(by omega)] = 1 := by rw [h]; simp
      rw [e1]
      obtain ⟨g1, g2, g3⟩ := bests_inv o ss (n := ss.length) (i := k) (by omega)
      rcases ih (by omega) with h0 | ⟨i, hi, hs, hc⟩
      · rw [h0]; exact g1
      · have := g3 i (by omega) (by omega) (by unfold aheadE; rw [hs, e, h]; simp)
        omega
    · have e1 : List.count s [ss[k]'(by omega)] = 0 := by simp [h]
      rw [e1, Nat.add_zero]
      rcases ih (by omega) with h0 | ⟨i, hi, hs, hc⟩
      · exact .inl h0
      · exact .inr ⟨i, by omega, hs, hc⟩
theorem count_most (o : List (Int × Int)) (ss : List Int) (s : Int) : ss.count s ≤ (chainB o ss).length := by
  have h := count_le o ss s ss.length (Nat.le_refl _)
  rw [List.take_length] at h
  rcases h with h | ⟨i, hi, _, hc⟩
  · omega
  · have := (chain_most o ss (by omega)).2 i (by omega) (by omega)
    omega
theorem filter_lt (ss : List Int) (m : Nat) : (ss.filter fun x => decide (x < ((m + 1 : Nat) : Int))).length = (ss.filter fun x => decide (x < (m : Int))).length + ss.count (m : Int) := by
  induction ss with
  | nil => rfl
  | cons x ss ih =>
    rw [List.filter_cons, List.filter_cons, List.count_cons]
    by_cases h1 : x < (m : Int)
    · have h2 : x < ((m + 1 : Nat) : Int) := by omega
      have h3 : (x == (m : Int)) = false := beq_eq_false_iff_ne.mpr (by omega)
      rw [if_pos (decide_eq_true h1), if_pos (decide_eq_true h2), h3]
      simp only [List.length_cons, Bool.false_eq_true, if_false]
      omega
    · by_cases h2 : x = (m : Int)
      · have h3 : x < ((m + 1 : Nat) : Int) := by omega
        rw [if_pos (decide_eq_true h3), if_neg (by simpa using h1), h2]
        simp only [List.length_cons, beq_self_eq_true, if_true]
        omega
      · have h3 : ¬ x < ((m + 1 : Nat) : Int) := by omega
        have h4 : (x == (m : Int)) = false := beq_eq_false_iff_ne.mpr h2
        rw [if_neg (by simpa using h3), if_neg (by simpa using h1), h4]
        simp only [Bool.false_eq_true, if_false]
        omega
theorem chain_work (o : List (Int × Int)) (ss : List Int) (n : Nat) (h : ∀ x ∈ ss, 0 ≤ x ∧ x < (n : Int)) : ss.length ≤ n * (chainB o ss).length := by
  have key : ∀ m : Nat, (ss.filter fun x => decide (x < (m : Int))).length ≤ m * (chainB o ss).length := by
    intro m
    induction m with
    | zero =>
      rw [List.filter_eq_nil_iff.2 (fun x hx => by have := h x hx; simp; omega)]
      simp
    | succ m ih =>
      rw [filter_lt, Nat.succ_mul]
      have := count_most o ss (m : Int)
      omega
  have h1 := key n
  rw [List.filter_eq_self.2 (fun x hx => decide_eq_true (h x hx).2)] at h1
  exact h1
/-- A use more. -/
theorem at0_app {l : List Int} {x i : Int} (h0 : 0 ≤ i) (h1 : i < (l.length : Int)) : at0 (l ++ [x]) i = at0 l i := at0_left h0 h1
theorem bests_more (o : List (Int × Int)) (ss : List Int) (u : Int) (m : Nat) (h : m ≤ ss.length) : bests o (ss ++ [u]) m = bests o ss m := by
  induction m with
  | zero => rfl
  | succ m ih =>
    show bests o (ss ++ [u]) m ++ [bBest o (ss ++ [u]) (bests o (ss ++ [u]) m) m m] = bests o ss m ++ [bBest o ss (bests o ss m) m m]
    rw [ih (by omega)]
    have : ∀ k, k ≤ m → bBest o (ss ++ [u]) (bests o ss m) m k = bBest o ss (bests o ss m) m k := by
      intro k
      induction k with
      | zero => intro _; rfl
      | succ k ihk =>
        intro hk
        rw [bBest_succ, bBest_succ, ihk (by omega)]
        unfold bStep
        rw [at0_app (i := (k : Int)) (by omega) (by omega), at0_app (i := (m : Int)) (by omega) (by omega)]
    rw [this m (Nat.le_refl _)]
theorem chain_more (o : List (Int × Int)) (ss : List Int) (u : Int) : (chainB o ss).length ≤ (chainB o (ss ++ [u])).length ∧ (chainB o (ss ++ [u])).length ≤ (chainB o ss).length + 1 := by
  have hn : (ss ++ [u]).length = ss.length + 1 := by rw [List.length_append]; rfl
  obtain ⟨⟨i, i0, i1, ei⟩, hall⟩ := chain_most o (ss ++ [u]) (by omega)
  rw [hn] at i1 ei hall
  have hold : ∀ j : Int, 0 ≤ j → j < (ss.length : Int) → bAt (bests o (ss ++ [u]) (ss.length + 1)) j = bAt (bests o ss ss.length) j := fun j h0 h1 => by
    rw [bests_at o (ss ++ [u]) (n := ss.length) (by omega) h0 h1, bests_more o ss u _ (Nat.le_refl _)]
  constructor
  · by_cases h : ss.length = 0
    · rw [chain_zero o h]; exact Nat.zero_le _
    · obtain ⟨⟨j, j0, j1, ej⟩, _⟩ := chain_most o ss h
      have := hall j j0 (by omega)
      rw [hold j j0 j1] at this
      omega
  · by_cases hi : i < (ss.length : Int)
    · rw [hold i i0 hi] at ei
      have := (chain_most o ss (by omega)).2 i i0 hi
      omega
    · have hii : i = (ss.length : Int) := by omega
      have hb := bests_inv o (ss ++ [u]) (n := ss.length + 1) (i := ss.length) (by omega)
      rw [hii] at ei
      obtain ⟨g1, g2, g3⟩ := hb
      rcases g2 with ⟨e, _⟩ | ⟨e1, e2, e3, e4⟩
      · rw [e] at ei; simp only at ei; omega
      · rw [hold _ e1 e2] at e4
        have := (chain_most o ss (by omega)).2 _ e1 e2
        omega
end Go.Proofs.Ythjecgmgpnileaa.Bd
