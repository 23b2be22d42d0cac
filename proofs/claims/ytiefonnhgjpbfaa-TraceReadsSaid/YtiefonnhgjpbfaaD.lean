/- The printed functions of wire and of the reference of layer 3 come to the plain ones. -/
import Derived.Test.YtiefonnhgjpbfaaB
import Derived.Test.YtiefonnhgjpbfaaL
import Derived.Test.YtiefonnhgjpbfaaO
namespace Go.Proofs.Ytiefonnhgjpbfaa.Tr
open Go.RowKit Go.Proofs.YtiefonnhgjpbfaaW.PrintWords Go.Proofs.YtiefonnhgjpbfaaW.PrintMore

theorem w64 {x : Int} (h0 : -9223372036854775808 ≤ x) (h1 : x ≤ 9223372036854775807) : wrap64 x = x := by unfold wrap64; omega
theorem rd_get (l : List Int) (i : Nat) (h : i < l.length) : rd l (i : Int) = l[i] := by
  unfold rd; simp [List.getD_eq_getElem?_getD, List.getElem?_eq_getElem h]
theorem rd_byt {l : List Int} (hl : Byt l) (i : Nat) (h : i < l.length) : 0 ≤ rd l (i : Int) ∧ rd l (i : Int) ≤ 255 := by
  rw [rd_get l i h]; exact hl _ (List.getElem_mem h)
theorem drop_rd (l : List Int) (i : Nat) (h : i < l.length) : l.drop i = rd l (i : Int) :: l.drop (i + 1) := by
  rw [rd_get l i h]; exact List.drop_eq_getElem_cons h

/-! ### sums -/
def sumsFrom (p : Int × Int) (b : List Int) : Int × Int := b.foldl (fun p c => ((p.1 + c) % 65521, (p.2 + (p.1 + c) % 65521) % 65521)) p
theorem tmod_sum {x y : Int} (h0 : 0 ≤ x) (h1 : x < 65521) (h2 : 0 ≤ y) (h3 : y < 65521) : Int.tmod (wrap64 (x + (wrap64 y))) 65521 = (x + y) % 65521 := by
  rw [w64 (x := y) (by omega) (by omega), w64 (by omega) (by omega), Int.tmod_eq_emod_of_nonneg (by omega)]
theorem tmod_sum' {x y : Int} (h0 : 0 ≤ x) (h1 : x < 65521) (h2 : 0 ≤ y) (h3 : y < 65521) : Int.tmod (wrap64 (x + y)) 65521 = (x + y) % 65521 := by
  rw [w64 (by omega) (by omega), Int.tmod_eq_emod_of_nonneg (by omega)]
theorem or16 (y x : Int) (h0 : 0 ≤ x) (h1 : x < 65521) (h2 : 0 ≤ y) (h3 : y < 65521) : bits .or .i64 (wrap64 (y * 65536)) x = 65536 * y + x := by
  rw [w64 (by omega) (by omega)]
  rw [bits_join .i64 63 (by decide) (fun n h h' => by rw [IntKind.wrap_i64]; omega) 16 _ _ (by omega) (by omega) (by omega) h0 (by omega) (by omega)]
  omega
theorem wire_Sum_l0 (l : List Int) (hl : Byt l) (hn : l.length ≤ 4611686018427387904) (k : Nat) : ∀ (i : Nat) (x y : Int), 0 ≤ x ∧ x < 65521 → 0 ≤ y ∧ y < 65521 → i ≤ l.length → l.length - i < k →
    wire_Sum.l0 k x y l (l.length : Int) (i : Int) = some (65536 * (sumsFrom (x, y) (l.drop i)).2 + (sumsFrom (x, y) (l.drop i)).1) := by
  induction k with
  | zero => intro i x y _ _ _ h; omega
  | succ k ih =>
    intro i x y hx hy hi hk
    rw [wire_Sum.l0]
    by_cases h : i < l.length
    · have hb := rd_byt hl i h
      rw [if_pos (by omega), if_pos (by omega), if_pos (by omega), tmod_sum hx.1 hx.2 hb.1 (by omega), tmod_sum' hy.1 hy.2 (by omega) (by omega), w64 (x := (i : Int) + 1) (by omega) (by omega)]
      have := ih (i + 1) ((x + rd l i) % 65521) ((y + (x + rd l i) % 65521) % 65521) (by omega) (by omega) (by omega) (by omega)
      rw [Int.natCast_add, Int.natCast_one] at this
      rw [this, drop_rd l i h]
      simp only [sumsFrom, List.foldl_cons]
    · rw [if_neg (by omega), or16 _ _ hx.1 hx.2 hy.1 hy.2]
      rw [List.drop_eq_nil_of_le (by omega)]
      simp [sumsFrom]
theorem wire_Sum_is (l : List Int) (hl : Byt l) (hn : l.length ≤ 4611686018427387904) : wire_Sum.f (l.length + 1) l = some (sum l) := by
  unfold wire_Sum.f
  have := wire_Sum_l0 l hl hn (l.length + 1) 0 1 0 (by omega) (by omega) (by omega) (by omega)
  simp only [Int.natCast_zero, List.drop_zero] at this
  rw [this]
  rfl
theorem ref_sums_l0 (l : List Int) (hl : Byt l) (hn : l.length ≤ 4611686018427387904) (k : Nat) : ∀ (i : Nat) (x y : Int), 0 ≤ x ∧ x < 65521 → 0 ≤ y ∧ y < 65521 → i ≤ l.length → l.length - i < k →
    underwoodref03_sums.l0 k l x y (i : Int) = some (sumsFrom (x, y) (l.drop i)) := by
  induction k with
  | zero => intro i x y _ _ _ h; omega
  | succ k ih =>
    intro i x y hx hy hi hk
    rw [underwoodref03_sums.l0]
    by_cases h : i < l.length
    · have hb := rd_byt hl i h
      rw [if_pos (by omega), if_pos (by omega), tmod_sum hx.1 hx.2 hb.1 (by omega), tmod_sum' hy.1 hy.2 (by omega) (by omega), w64 (x := (i : Int) + 1) (by omega) (by omega)]
      have := ih (i + 1) ((x + rd l i) % 65521) ((y + (x + rd l i) % 65521) % 65521) (by omega) (by omega) (by omega) (by omega)
      rw [Int.natCast_add, Int.natCast_one] at this
      rw [this, drop_rd l i h]
      simp only [sumsFrom, List.foldl_cons]
    · rw [if_neg (by omega)]
      rw [List.drop_eq_nil_of_le (by omega)]
      simp [sumsFrom]
theorem ref_Sum_is (l : List Int) (hl : Byt l) (hn : l.length ≤ 4611686018427387904) (k : Nat) (hk : l.length < k) : underwoodref03_Sum.f k l = some (sum l) := by
  unfold underwoodref03_Sum.f underwoodref03_sums.f
  have h := ref_sums_l0 l hl hn k 0 1 0 (by omega) (by omega) (by omega) (by omega)
  simp only [Int.natCast_zero, List.drop_zero] at h
  rw [h]
  have hb := sums_bd l
  have e : sumsFrom (1, 0) l = sums l := rfl
  rw [e]
  simp only [Option.bind_some]
  rw [w64 (x := 65536 * (sums l).2) (by omega) (by omega), w64 (by omega) (by omega)]
  rfl

/-! ### put -/
theorem ref_turned_is {n : Int} (h : I64 n) : underwoodref03_turned.f n = some (zig n : Int) := by
  unfold I64 at h
  unfold underwoodref03_turned.f zig
  simp only [IntKind.wrap_u64]
  unfold wrap64
  split
  · congr 1; omega
  · congr 1; omega
theorem ref_Put_l0 (k : Nat) : ∀ (u : Nat) (acc : List Int) (f : Nat), u < 128 ^ (f + 1) → u < 18446744073709551616 → f < k → acc.length + f < 1000 →
    underwoodref03_Put.l0 k (u : Int) acc = some (acc ++ grp (f + 1) u) := by
  induction k with
  | zero => intro u acc f _ _ h; omega
  | succ k ih =>
    intro u acc f hu hu' hk hacc
    rw [underwoodref03_Put.l0]
    by_cases h : 128 ≤ u
    · rw [if_pos (by omega), if_pos (by omega)]
      have hf : 0 < f := by
        rcases Nat.eq_zero_or_pos f with h0 | h0
        · subst h0; simp at hu; omega
        · exact h0
      obtain ⟨f, rfl⟩ : ∃ m, f = m + 1 := ⟨f - 1, by omega⟩
      have e1 : IntKind.u64.wrap (Int.tdiv (u : Int) 128) = ((u / 128 : Nat) : Int) := by
        rw [Int.tdiv_eq_ediv_of_nonneg (by omega), IntKind.wrap_u64]; omega
      have e2 : (IntKind.u64.wrap ((Int.tmod (u : Int) 128) + 128)) % 256 = ((u % 128 + 128 : Nat) : Int) := by
        rw [Int.tmod_eq_emod_of_nonneg (by omega), IntKind.wrap_u64]; omega
      rw [e1, e2, ih (u / 128) _ f (by rw [Nat.pow_succ] at hu; exact Nat.div_lt_of_lt_mul (by rw [Nat.mul_comm]; exact hu)) (by omega) (by omega) (by simp only [List.length_append, List.length_singleton]; omega)]
      rw [show grp (f + 1 + 1) u = ((u % 128 + 128 : Nat) : Int) :: grp (f + 1) (u / 128) from by rw [grp, if_neg (by omega)], List.append_assoc, List.singleton_append]
    · rw [if_neg (by omega), if_pos (by omega), grp, if_pos (by omega)]
      congr 3
      omega
theorem ref_Put_is {n : Int} (h : I64 n) (k : Nat) (hk : 9 < k) : underwoodref03_Put.f k n = some (put n) := by
  unfold underwoodref03_Put.f
  rw [ref_turned_is h]
  simp only [Option.bind_some]
  rw [ref_Put_l0 k (zig n) [] 9 (zig_lt10 h) (zig_lt h) hk (by simp)]
  simp [put]

/-! ### two rows, the same? -/
theorem ref_Same_l0 (a b : List Int) (hab : a.length = b.length) (hn : a.length ≤ 4611686018427387904) (k : Nat) : ∀ (i : Nat), i ≤ a.length → a.length - i < k →
    underwoodref03_Same.l0 k a b (i : Int) = some (decide (a.drop i = b.drop i)) := by
  induction k with
  | zero => intro i _ h; omega
  | succ k ih =>
    intro i hi hk
    rw [underwoodref03_Same.l0]
    by_cases h : i < a.length
    · rw [if_pos (by omega), if_pos (by omega), if_pos (by omega)]
      rw [drop_rd a i h, drop_rd b i (by omega)]
      have := ih (i + 1) (by omega) (by omega)
      rw [Int.natCast_add, Int.natCast_one] at this
      rw [w64 (x := (i : Int) + 1) (by omega) (by omega), this]
      by_cases e : rd a (i : Int) = rd b (i : Int)
      · simp [e]
      · simp [e]
    · rw [if_neg (by omega), List.drop_eq_nil_of_le (by omega), List.drop_eq_nil_of_le (by omega)]
      simp
theorem ref_Same_is (a b : List Int) (hn : a.length ≤ 4611686018427387904) (k : Nat) (hk : a.length < k) : underwoodref03_Same.f k a b = some (decide (a = b)) := by
  unfold underwoodref03_Same.f
  by_cases h : a.length = b.length
  · rw [if_pos (by omega)]
    have := ref_Same_l0 a b h hn k 0 (by omega) (by omega)
    simpa using this
  · rw [if_neg (by omega)]
    have : a ≠ b := fun e => h (by rw [e])
    simp [this]
theorem ref_Ints_l0 (a b : List Int) (hab : a.length = b.length) (hn : a.length ≤ 4611686018427387904) (k : Nat) : ∀ (i : Nat), i ≤ a.length → a.length - i < k →
    underwoodref03_Ints.l0 k a b (i : Int) = some (decide (a.drop i = b.drop i)) := by
  induction k with
  | zero => intro i _ h; omega
  | succ k ih =>
    intro i hi hk
    rw [underwoodref03_Ints.l0]
    by_cases h : i < a.length
    · rw [if_pos (by omega), if_pos (by omega), if_pos (by omega)]
      rw [drop_rd a i h, drop_rd b i (by omega)]
      have := ih (i + 1) (by omega) (by omega)
      rw [Int.natCast_add, Int.natCast_one] at this
      rw [w64 (x := (i : Int) + 1) (by omega) (by omega), this]
      by_cases e : rd a (i : Int) = rd b (i : Int)
      · simp [e]
      · simp [e]
    · rw [if_neg (by omega), List.drop_eq_nil_of_le (by omega), List.drop_eq_nil_of_le (by omega)]
      simp
theorem ref_Ints_is (a b : List Int) (hn : a.length ≤ 4611686018427387904) (k : Nat) (hk : a.length < k) : underwoodref03_Ints.f k a b = some (decide (a = b)) := by
  unfold underwoodref03_Ints.f
  by_cases h : a.length = b.length
  · rw [if_pos (by omega)]
    have := ref_Ints_l0 a b h hn k 0 (by omega) (by omega)
    simpa using this
  · rw [if_neg (by omega)]
    have : a ≠ b := fun e => h (by rw [e])
    simp [this]

/-! ### seals and rows of numbers -/
theorem ref_Seal_is (l : List Int) (hl : Byt l) (hn : l.length ≤ 1000000000) (k : Nat) (hk : l.length + 10 < k) : underwoodref03_Seal.f k l = some (sel l) := by
  unfold underwoodref03_Seal.f
  have h1 := put_len l.length
  have h2 := put_len (sum l)
  rw [ref_Put_is (len_i64 (by omega)) k (by omega)]
  simp only [Option.bind_some]
  rw [if_pos (by omega), ref_Sum_is l hl (by omega) k (by omega)]
  simp only [Option.bind_some]
  rw [ref_Put_is (sum_i64 l) k (by omega)]
  simp only [Option.bind_some]
  rw [if_pos (by simp only [List.length_append]; omega)]
  rfl
theorem ref_Nums_l0 (l : List Int) (hl : ∀ x ∈ l, I64 x) (hn : l.length ≤ 1000000000) (k : Nat) : ∀ (i : Nat) (acc : List Int), i ≤ l.length → l.length - i + 10 < k → acc.length + 10 * (l.length - i) ≤ 100000000000 →
    underwoodref03_Nums.l0 k l acc (i : Int) = some (acc ++ (l.drop i).flatMap put) := by
  induction k with
  | zero => intro i _ _ h; omega
  | succ k ih =>
    intro i acc hi hk hacc
    rw [underwoodref03_Nums.l0]
    by_cases h : i < l.length
    · have hx : I64 (rd l (i : Int)) := by rw [rd_get l i h]; exact hl _ (List.getElem_mem h)
      have hp := put_len (rd l (i : Int))
      rw [if_pos (by omega), if_pos (by omega), ref_Put_is hx k (by omega)]
      simp only [Option.bind_some]
      rw [if_pos (by omega), w64 (x := (i : Int) + 1) (by omega) (by omega)]
      have := ih (i + 1) (acc ++ put (rd l (i : Int))) (by omega) (by omega) (by simp only [List.length_append]; omega)
      rw [Int.natCast_add, Int.natCast_one] at this
      rw [this, drop_rd l i h]
      simp
    · rw [if_neg (by omega), List.drop_eq_nil_of_le (by omega)]
      simp
theorem ref_Nums_is (l : List Int) (hl : ∀ x ∈ l, I64 x) (hn : l.length ≤ 1000000000) (k : Nat) (hk : l.length + 10 < k) : underwoodref03_Nums.f k l = some (nums l) := by
  unfold underwoodref03_Nums.f
  have h1 := put_len l.length
  rw [ref_Put_is (len_i64 (by omega)) k (by omega)]
  simp only [Option.bind_some]
  have := ref_Nums_l0 l hl hn k 0 (put l.length) (by omega) (by omega) (by omega)
  simp only [Int.natCast_zero, List.drop_zero] at this
  rw [this]
  rfl
end Go.Proofs.Ytiefonnhgjpbfaa.Tr
