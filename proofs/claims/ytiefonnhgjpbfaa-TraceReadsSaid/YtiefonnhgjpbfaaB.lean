/- What the program's shifts and masks are as plain arithmetic. -/
import Derived.Test.YtiefonnhgjpbfaaA
import Derived.Test.YtiefonnhgjpbfaaK
import Derived.Laws.BitsAllLaws
namespace Go.Proofs.Ytiefonnhgjpbfaa.Tr
open Go.RowKit Go.Proofs.YtiefonnhgjpbfaaW.PrintWords Go.Proofs.YtiefonnhgjpbfaaW.PrintMore

theorem xor_ones (x : Nat) (hx : x < 18446744073709551616) : x ^^^ 18446744073709551615 = 18446744073709551615 - x := by
  have h1 : (BitVec.ofNat 64 x ^^^ BitVec.allOnes 64).toNat = x ^^^ 18446744073709551615 := by
    rw [BitVec.toNat_xor, BitVec.toNat_allOnes, BitVec.toNat_ofNat, Nat.mod_eq_of_lt hx]
  have h2 : BitVec.ofNat 64 x ^^^ BitVec.allOnes 64 = ~~~(BitVec.ofNat 64 x) := by rw [BitVec.xor_allOnes]
  rw [h2, BitVec.toNat_not, BitVec.toNat_ofNat, Nat.mod_eq_of_lt hx] at h1
  omega
theorem zig_bits {n : Int} (h : I64 n) : bits .xor .u64 (IntKind.u64.wrap (IntKind.u64.wrap n * 2)) (IntKind.u64.wrap (n / 9223372036854775808)) = zig n := by
  unfold I64 at h
  have b1 : 0 ≤ IntKind.u64.wrap (IntKind.u64.wrap n * 2) ∧ IntKind.u64.wrap (IntKind.u64.wrap n * 2) < 18446744073709551616 := by rw [IntKind.wrap_u64]; omega
  have e0 : IntKind.u64.wrap (IntKind.u64.wrap n * 2) = (n * 2) % 18446744073709551616 := by rw [IntKind.wrap_u64, IntKind.wrap_u64]; omega
  by_cases hn : 0 ≤ n
  · have e : IntKind.u64.wrap (n / 9223372036854775808) = 0 := by rw [IntKind.wrap_u64]; omega
    rw [e, u64_xor _ _ b1.1 b1.2 (by omega) (by omega), e0]
    simp only [Int.toNat_zero, Nat.xor_zero]
    unfold zig
    rw [if_pos hn]
    omega
  · have e : IntKind.u64.wrap (n / 9223372036854775808) = 18446744073709551615 := by rw [IntKind.wrap_u64]; omega
    rw [e, u64_xor _ _ b1.1 b1.2 (by omega) (by omega)]
    rw [show (18446744073709551615 : Int).toNat = 18446744073709551615 from rfl, xor_ones _ (by omega), e0]
    unfold zig
    rw [if_neg hn]
    omega
set_option maxRecDepth 20000 in
theorem or128_nat : ∀ a : Nat, a < 256 → a ||| 128 = a % 128 + 128 := by decide
theorem or128 (x : Int) : bits .or .u8 (x % 256) 128 = x % 128 + 128 := by
  rw [u8_or _ _ (by omega) (by omega) (by omega) (by omega), show (128 : Int).toNat = 128 from rfl, or128_nat _ (by omega)]
  omega
set_option maxRecDepth 20000 in
theorem andNot128_nat : ∀ a : Nat, a < 256 → a &&& (255 - 128) = a % 128 := by decide
theorem andNot128 (x : Int) (h0 : 0 ≤ x) (h1 : x < 256) : bits .andNot .u8 x 128 = x % 128 := by
  rw [u8_andNot _ _ h0 h1 (by omega) (by omega), show (128 : Int).toNat = 128 from rfl, andNot128_nat _ (by omega)]
  omega
theorem and1 (u : Int) (h0 : 0 ≤ u) (h1 : u < 18446744073709551616) : bits .and .u64 u 1 = u % 2 := by
  rw [u64_and _ _ h0 h1 (by omega) (by omega), show (1 : Int).toNat = 1 from rfl, Nat.and_one_is_mod]
  omega
theorem xor_i64_zero (a : Int) (h : I64 a) : bits .xor .i64 a 0 = a := by
  show IntKind.i64.wrap ((BitVec.ofInt 64 a ^^^ BitVec.ofInt 64 0).toNat : Int) = a
  rw [show BitVec.ofInt 64 0 = 0#64 from rfl, BitVec.xor_zero, IntKind.wrap_i64, BitVec.toNat_ofInt]
  unfold I64 at h
  omega
theorem xor_i64_ones (a : Int) (h : I64 a) : bits .xor .i64 a (-1) = -a - 1 := by
  show IntKind.i64.wrap ((BitVec.ofInt 64 a ^^^ BitVec.ofInt 64 (-1)).toNat : Int) = -a - 1
  rw [show BitVec.ofInt 64 (-1) = BitVec.allOnes 64 from by decide, BitVec.xor_allOnes, IntKind.wrap_i64, BitVec.toNat_not, BitVec.toNat_ofInt]
  unfold I64 at h
  omega
theorem unz_bits (u : Nat) (h : u < 18446744073709551616) : bits .xor .i64 (wrap64 ((u : Int) / 2)) (wrap64 (-(wrap64 (bits .and .u64 (u : Int) 1)))) = unz u := by
  rw [and1 _ (by omega) (by omega)]
  have e1 : wrap64 ((u : Int) / 2) = (u : Int) / 2 := by unfold wrap64; omega
  rw [e1]
  unfold unz
  split
  · rename_i h2
    have e2 : wrap64 (-(wrap64 ((u : Int) % 2))) = 0 := by unfold wrap64; omega
    rw [e2, xor_i64_zero _ (by unfold I64; omega)]
    omega
  · rename_i h2
    have e2 : wrap64 (-(wrap64 ((u : Int) % 2))) = -1 := by unfold wrap64; omega
    rw [e2, xor_i64_ones _ (by unfold I64; omega)]
    omega
theorem pow7 (k : Nat) : 2 ^ (7 * k) = 128 ^ k := by rw [Nat.pow_mul]
/-- A group is laid above those that are there. -/
theorem or_group (acc k y : Nat) (hk : k ≤ 9) (hacc : acc < 128 ^ k) (hy : y < 128) (hy9 : k = 9 → y ≤ 1) :
    bits .or .u64 (acc : Int) (shl .u64 (IntKind.u64.wrap (y : Int)) (wrap64 (7 * (k : Int)))) = ((acc + y * 128 ^ k : Nat) : Int) ∧ acc + y * 128 ^ k < 18446744073709551616 := by
  have e1 : wrap64 (7 * (k : Int)) = 7 * k := by unfold wrap64; omega
  have e2 : IntKind.u64.wrap (y : Int) = y := by rw [IntKind.wrap_u64]; omega
  have hp : 128 ^ k ≤ 128 ^ 9 := Nat.pow_le_pow_right (by omega) hk
  have h9 : (128 : Nat) ^ 9 = 9223372036854775808 := by decide
  have hlt : acc + y * 128 ^ k < 18446744073709551616 := by
    by_cases h : k = 9
    · subst h
      have := hy9 rfl
      rw [h9] at *
      have : y * 9223372036854775808 ≤ 1 * 9223372036854775808 := Nat.mul_le_mul_right _ this
      omega
    · have hk8 : k ≤ 8 := by omega
      have hp8 : 128 ^ k ≤ 128 ^ 8 := Nat.pow_le_pow_right (by omega) hk8
      have h8 : (128 : Nat) ^ 8 = 72057594037927936 := by decide
      have : y * 128 ^ k ≤ 127 * 128 ^ k := Nat.mul_le_mul_right _ (by omega)
      omega
  have e3 : shl .u64 (y : Int) (7 * (k : Int)) = ((y * 128 ^ k : Nat) : Int) := by
    unfold shl
    have : min (7 * (k : Int)).toNat IntKind.u64.bits = 7 * k := by
      simp only [IntKind.bits]; omega
    rw [this, IntKind.wrap_u64]
    have e4 : (y : Int) * 2 ^ (7 * k) = ((y * 128 ^ k : Nat) : Int) := by
      rw [← pow7]; push_cast; rfl
    rw [e4]
    have : y * 128 ^ k < 18446744073709551616 := by omega
    omega
  refine ⟨?_, hlt⟩
  rw [e1, e2, e3]
  rw [u64_or _ _ (by omega) (by omega) (by omega) (by omega)]
  simp only [Int.toNat_natCast]
  rw [Nat.or_comm, nat_join (7 * k) _ _ (by rw [pow7]; exact Nat.mul_mod_left _ _) (by rw [pow7]; exact hacc)]
  rw [Nat.add_comm]
end Go.Proofs.Ytiefonnhgjpbfaa.Tr
