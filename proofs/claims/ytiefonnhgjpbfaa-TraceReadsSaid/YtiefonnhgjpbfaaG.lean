/- The reference of layer 32, as far as it is printed, comes to the plain functions. -/
import Derived.Test.YtiefonnhgjpbfaaF
set_option linter.unusedVariables false
namespace Go.Proofs.Ytiefonnhgjpbfaa.Tr
open Go.RowKit Go.Proofs.YtiefonnhgjpbfaaW.PrintWords Go.Proofs.YtiefonnhgjpbfaaW.PrintMore

/-- An event's eight numbers. -/
def nev (x : S48) : List Int := [x.f0, x.f1, x.f2.f0, x.f2.f1, x.f2.f2, x.f2.f3, x.f3.f0, if x.f3.f1 = true then 1 else 0]
def npk (x : S55) : List Int := [x.f0, x.f1, x.f2]
def all8 (l : List S48) : List Int := l.flatMap nev
def pickOf (x : S48) : S55 := if x.f2.f0 = 0 then ⟨3, x.f0, 0⟩ else ⟨1, x.f0, 0⟩
def EvOk (x : S48) : Prop := ∀ n ∈ nev x, I64 n
theorem nev_inj {x y : S48} (h : nev x = nev y) : x = y := by
  obtain ⟨a, b, ⟨c, d, e, f⟩, ⟨g, p⟩⟩ := x
  obtain ⟨a', b', ⟨c', d', e', f'⟩, ⟨g', p'⟩⟩ := y
  simp only [nev, List.cons.injEq, and_true] at h
  obtain ⟨rfl, rfl, rfl, rfl, rfl, rfl, rfl, h⟩ := h
  cases p <;> cases p' <;> simp_all
theorem npk_inj {x y : S55} (h : npk x = npk y) : x = y := by
  obtain ⟨a, b, c⟩ := x
  obtain ⟨a', b', c'⟩ := y
  simp only [npk, List.cons.injEq, and_true] at h
  obtain ⟨rfl, rfl, rfl⟩ := h
  rfl
theorem map_inj {α β : Type} {f : α → β} (hf : ∀ x y, f x = f y → x = y) : ∀ {l m : List α}, l.map f = m.map f → l = m
  | [], [], _ => rfl
  | [], _ :: _, h => by simp at h
  | _ :: _, [], h => by simp at h
  | x :: l, y :: m, h => by
    simp only [List.map_cons, List.cons.injEq] at h
    rw [hf _ _ h.1, map_inj hf h.2]
theorem rd48_get (l : List S48) (i : Nat) (h : i < l.length) : rd_T48 l (i : Int) = l[i] := by
  unfold rd_T48; simp [List.getD_eq_getElem?_getD, List.getElem?_eq_getElem h]
theorem rd55_get (l : List S55) (i : Nat) (h : i < l.length) : rd_T55 l (i : Int) = l[i] := by
  unfold rd_T55; simp [List.getD_eq_getElem?_getD, List.getElem?_eq_getElem h]
theorem drop48 (l : List S48) (i : Nat) (h : i < l.length) : l.drop i = rd_T48 l (i : Int) :: l.drop (i + 1) := by
  rw [rd48_get l i h]; exact List.drop_eq_getElem_cons h
theorem drop55 (l : List S55) (i : Nat) (h : i < l.length) : l.drop i = rd_T55 l (i : Int) :: l.drop (i + 1) := by
  rw [rd55_get l i h]; exact List.drop_eq_getElem_cons h
theorem same48 (x y : S48) : (!((x.f0) == (y.f0)) || (!((x.f1) == (y.f1)) || ((!((x.f2.f0) == (y.f2.f0)) || (!((x.f2.f1) == (y.f2.f1)) || (!((x.f2.f2) == (y.f2.f2)) || (!((x.f2.f3) == (y.f2.f3)))))) || ((!((x.f3.f0) == (y.f3.f0)) || (!((x.f3.f1) == (y.f3.f1)))))))) = !decide (nev x = nev y) := by
  rw [Bool.eq_iff_iff]
  simp only [Bool.or_eq_true, Bool.not_eq_true', beq_eq_false_iff_ne, decide_eq_false_iff_not]
  constructor
  · intro h e
    have := nev_inj e
    subst this
    simp at h
  · intro h
    by_cases h0 : x.f0 = y.f0 <;> by_cases h1 : x.f1 = y.f1 <;> by_cases h2 : x.f2.f0 = y.f2.f0 <;> by_cases h3 : x.f2.f1 = y.f2.f1 <;> by_cases h4 : x.f2.f2 = y.f2.f2 <;> by_cases h5 : x.f2.f3 = y.f2.f3 <;> by_cases h6 : x.f3.f0 = y.f3.f0 <;> by_cases h7 : x.f3.f1 = y.f3.f1 <;> simp_all [nev]
theorem same55 (x y : S55) : (!((x.f0) == (y.f0)) || (!((x.f1) == (y.f1)) || (!((x.f2) == (y.f2))))) = !decide (npk x = npk y) := by
  rw [Bool.eq_iff_iff]
  simp only [Bool.or_eq_true, Bool.not_eq_true', beq_eq_false_iff_ne, decide_eq_false_iff_not]
  constructor
  · intro h e
    have := npk_inj e
    subst this
    simp at h
  · intro h
    by_cases h0 : x.f0 = y.f0 <;> by_cases h1 : x.f1 = y.f1 <;> by_cases h2 : x.f2 = y.f2 <;> simp_all [npk]
theorem Same_l0 (a b : List S48) (hab : a.length = b.length) (hn : a.length ≤ 4611686018427387904) (k : Nat) : ∀ (i : Nat), i ≤ a.length → a.length - i < k →
    underwoodref32_Same.l0 k a b (i : Int) = some (decide ((a.drop i).map nev = (b.drop i).map nev)) := by
  induction k with
  | zero => intro i _ h; omega
  | succ k ih =>
    intro i hi hk
    rw [underwoodref32_Same.l0]
    by_cases h : i < a.length
    · rw [if_pos (by omega), if_pos (by omega), if_pos (by omega), same48]
      rw [drop48 a i h, drop48 b i (by omega)]
      have := ih (i + 1) (by omega) (by omega)
      rw [Int.natCast_add, Int.natCast_one] at this
      rw [w64 (x := (i : Int) + 1) (by omega) (by omega), this]
      by_cases e : nev (rd_T48 a (i : Int)) = nev (rd_T48 b (i : Int))
      · simp [e]
      · simp [e]
    · rw [if_neg (by omega), List.drop_eq_nil_of_le (by omega), List.drop_eq_nil_of_le (by omega)]
      simp
theorem Same_is (a b : List S48) (hn : a.length ≤ 4611686018427387904) (k : Nat) (hk : a.length < k) : underwoodref32_Same.f k a b = some (decide (a.map nev = b.map nev)) := by
  unfold underwoodref32_Same.f
  by_cases h : a.length = b.length
  · rw [if_pos (by omega)]
    have := Same_l0 a b h hn k 0 (by omega) (by omega)
    simpa using this
  · rw [if_neg (by omega)]
    have : a.map nev ≠ b.map nev := fun e => h (by simpa using congrArg List.length e)
    simp [this]
theorem Picked_l0 (a b : List S55) (hab : a.length = b.length) (hn : a.length ≤ 4611686018427387904) (k : Nat) : ∀ (i : Nat), i ≤ a.length → a.length - i < k →
    underwoodref32_Picked.l0 k a b (i : Int) = some (decide ((a.drop i).map npk = (b.drop i).map npk)) := by
  induction k with
  | zero => intro i _ h; omega
  | succ k ih =>
    intro i hi hk
    rw [underwoodref32_Picked.l0]
    by_cases h : i < a.length
    · rw [if_pos (by omega), if_pos (by omega), if_pos (by omega), same55]
      rw [drop55 a i h, drop55 b i (by omega)]
      have := ih (i + 1) (by omega) (by omega)
      rw [Int.natCast_add, Int.natCast_one] at this
      rw [w64 (x := (i : Int) + 1) (by omega) (by omega), this]
      by_cases e : npk (rd_T55 a (i : Int)) = npk (rd_T55 b (i : Int))
      · simp [e]
      · simp [e]
    · rw [if_neg (by omega), List.drop_eq_nil_of_le (by omega), List.drop_eq_nil_of_le (by omega)]
      simp
theorem Picked_is (a b : List S55) (hn : a.length ≤ 4611686018427387904) (k : Nat) (hk : a.length < k) : underwoodref32_Picked.f k a b = some (decide (a.map npk = b.map npk)) := by
  unfold underwoodref32_Picked.f
  by_cases h : a.length = b.length
  · rw [if_pos (by omega)]
    have := Picked_l0 a b h hn k 0 (by omega) (by omega)
    simpa using this
  · rw [if_neg (by omega)]
    have : a.map npk ≠ b.map npk := fun e => h (by simpa using congrArg List.length e)
    simp [this]
theorem all8_len (l : List S48) : (all8 l).length = 8 * l.length := by
  induction l with
  | nil => rfl
  | cons x l ih => unfold all8 at *; simp only [List.flatMap_cons, List.length_append, List.length_cons, ih]; simp [nev]; omega
theorem all8_i64 {l : List S48} (h : ∀ x ∈ l, EvOk x) : ∀ n ∈ all8 l, I64 n := by
  intro n hn
  unfold all8 at hn
  rw [List.mem_flatMap] at hn
  obtain ⟨x, hx, hn⟩ := hn
  exact h x hx n hn
theorem Bytes_l0 (l : List S48) (hl : ∀ x ∈ l, EvOk x) (hn : l.length ≤ 1000000) (k : Nat) : ∀ (i : Nat), i ≤ l.length → 2000 + 1000 * l.length - i < k →
    underwoodref32_Bytes.l0 k l (all8 (l.take i)) (i : Int) = some (sel (nums (all8 l))) := by
  induction k with
  | zero => intro i _ h; omega
  | succ k ih =>
    intro i hi hk
    rw [underwoodref32_Bytes.l0]
    by_cases h : i < l.length
    · have hlen : (all8 (l.take i)).length = 8 * i := by rw [all8_len, List.length_take]; omega
      have hstep : all8 (l.take (i + 1)) = all8 (l.take i) ++ nev (rd_T48 l (i : Int)) := by
        unfold all8
        rw [rd48_get l i h, List.take_succ_eq_append_getElem h, List.flatMap_append, List.flatMap_cons, List.flatMap_nil, List.append_nil]
      have := ih (i + 1) (by omega) (by omega)
      rw [Int.natCast_add, Int.natCast_one] at this
      rw [if_pos (by omega), if_pos (by omega), Option.bind_some, if_pos (by simp only [List.length_cons, List.length_nil]; omega), Option.bind_some, w64 (x := (i : Int) + 1) (by omega) (by omega)]
      by_cases hb : (rd_T48 l (i : Int)).f3.f1 = true
      · rw [if_pos hb, if_pos (by simp only [List.length_append, List.length_cons, List.length_nil]; omega), ← this, hstep]
        congr 1
        simp [nev, hb]
      · rw [if_neg hb, if_pos (by simp only [List.length_append, List.length_cons, List.length_nil]; omega), ← this, hstep]
        congr 1
        simp [nev, hb]
    · have e : l.take i = l := List.take_of_length_le (by omega)
      have h8 := all8_len l
      have hN := nums_len (all8 l)
      rw [if_neg (by omega), e, ref_Nums_is _ (all8_i64 hl) (by omega) k (by omega), Option.bind_some, ref_Seal_is _ (nums_byt _) (by omega) k (by omega), Option.bind_some]
theorem Bytes_is (l : List S48) (hl : ∀ x ∈ l, EvOk x) (hn : l.length ≤ 1000000) (k : Nat) (hk : 2000 + 1000 * l.length < k) : underwoodref32_Bytes.f k l = some (sel (nums (all8 l))) := by
  unfold underwoodref32_Bytes.f
  have := Bytes_l0 l hl hn k 0 (by omega) (by omega)
  simpa [all8] using this
theorem Picks_l0 (l : List S48) (hn : l.length ≤ 1000000) (k : Nat) : ∀ (i : Nat), i ≤ l.length → l.length - i < k →
    underwoodref32_Picks.l0 k l ((l.take i).map pickOf) (i : Int) = some (l.map pickOf) := by
  induction k with
  | zero => intro i _ h; omega
  | succ k ih =>
    intro i hi hk
    rw [underwoodref32_Picks.l0]
    by_cases h : i < l.length
    · have hlen : ((l.take i).map pickOf).length = i := by simp; omega
      have hstep : (l.take (i + 1)).map pickOf = (l.take i).map pickOf ++ [pickOf (rd_T48 l (i : Int))] := by
        rw [rd48_get l i h, List.take_succ_eq_append_getElem h, List.map_append, List.map_cons, List.map_nil]
      have := ih (i + 1) (by omega) (by omega)
      rw [Int.natCast_add, Int.natCast_one] at this
      rw [if_pos (by omega), if_pos (by omega), w64 (x := (i : Int) + 1) (by omega) (by omega)]
      by_cases hb : (rd_T48 l (i : Int)).f2.f0 = 0
      · rw [if_pos hb, if_pos (by omega), ← this, hstep]
        simp [pickOf, hb]
      · rw [if_neg hb, if_pos (by omega), ← this, hstep]
        simp [pickOf, hb]
    · have e : l.take i = l := List.take_of_length_le (by omega)
      rw [if_neg (by omega), e]
theorem Picks_is (l : List S48) (hn : l.length ≤ 1000000) (k : Nat) (hk : l.length < k) : underwoodref32_Picks.f k l = some (l.map pickOf) := by
  unfold underwoodref32_Picks.f
  have := Picks_l0 l hn k 0 (by omega) (by omega)
  simpa using this
end Go.Proofs.Ytiefonnhgjpbfaa.Tr
