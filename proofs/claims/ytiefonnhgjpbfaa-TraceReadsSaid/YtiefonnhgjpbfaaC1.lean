/- wire.Put, walked: a number's bytes. -/
import Derived.Test.YtiefonnhgjpbfaaB
namespace Go.Proofs.Ytiefonnhgjpbfaa.Tr
open Go.RowKit Go.Proofs.YtiefonnhgjpbfaaW.PrintWords Go.Proofs.YtiefonnhgjpbfaaW.PrintLast Go.Proofs.YtiefonnhgjpbfaaW.PrintMore
attribute [local go_sem] max2_int min2_int max_two min_two max_three min_three max_four min_four   -- for this text's walks alone
set_option linter.unusedVariables false
set_option linter.unusedSimpArgs false

theorem put_last {acc : List Int} {k : Nat} {x : Int} {n : Int} (h : acc ++ grp k x.toNat = put n ∧ x.toNat < 128 ^ k ∧ 0 < k ∧ acc.length + k ≤ 10) (h0 : 0 ≤ x) (h1 : x < 128) : acc ++ [x] = put n := by
  obtain ⟨h2, _, h3, _⟩ := h
  obtain ⟨k, rfl⟩ : ∃ m, k = m + 1 := ⟨k - 1, by omega⟩
  rw [grp, if_pos (by omega)] at h2
  rw [← h2, Int.toNat_of_nonneg h0]
theorem put_next {acc : List Int} {k : Nat} {x : Int} {n : Int} (h : acc ++ grp k x.toNat = put n ∧ x.toNat < 128 ^ k ∧ 0 < k ∧ acc.length + k ≤ 10) (h0 : 0 ≤ x) (h1 : ¬ x < 128) :
    (acc ++ [bits .or .u8 (x % 256) 128]) ++ grp (k - 1) (x / 128).toNat = put n ∧ (x / 128).toNat < 128 ^ (k - 1) ∧ 0 < k - 1 ∧ (acc ++ [bits .or .u8 (x % 256) 128]).length + (k - 1) ≤ 10 := by
  obtain ⟨h2, h4, h3, h5⟩ := h
  obtain ⟨k, rfl⟩ : ∃ m, k = m + 1 := ⟨k - 1, by omega⟩
  rw [grp, if_neg (by omega)] at h2
  have e1 : ((x.toNat % 128 + 128 : Nat) : Int) = x % 128 + 128 := by omega
  have e2 : x.toNat / 128 = (x / 128).toNat := by omega
  rw [e1, e2] at h2
  have h6 : 0 < k := by
    rcases Nat.eq_zero_or_pos k with h | h
    · subst h
      simp at h4
      omega
    · exact h
  simp only [Nat.add_sub_cancel]
  refine ⟨?_, ?_, h6, ?_⟩
  · rw [or128, List.append_assoc]
    exact h2
  · rw [← e2]
    rw [Nat.pow_succ] at h4
    exact Nat.div_lt_of_lt_mul (by rw [Nat.mul_comm]; exact h4)
  · simp only [List.length_append, List.length_singleton]
    omega

set_option maxHeartbeats 8000000 in
set_option maxRecDepth 100000 in
theorem wire_Put_calls (n : Int) (w : World) (hn : I64 n) :
    Calls Try.prog 19 #[.int .i64 n] w fun e w' => ∃ v0_ : Value, e = .returned v0_ ∧ Kd.R (Kd.int .u8) 5 w' w.heap.size (fun _ => True) v0_ (put n) ∧ Below w.heap.size w w' := by
  have HB := Aside0.mk (Below.refl w.heap.size w)
  have hb0 : -9223372036854775808 ≤ n := hn.1
  have hb1 : n ≤ 9223372036854775807 := hn.2
  have HZ := Aside0.mk (zig_bits hn)
  have HL := Aside0.mk (zig_lt10 hn)
  have HM := Aside0.mk (zig_lt hn)
  clear hn
  go_enter Try.func19, Try.ntmps19
  go_wp2
  go_step3
  go_wp2
  go_step3
  go_wp2
  go_loopg [3, 4] 10 (fun kq v3 v4 w' => ∃ (x : Int) (acc : List Int), v3 = .int .u64 x ∧ 0 ≤ x ∧ x ≤ 18446744073709551615 ∧ Aside0 (acc ++ grp kq x.toNat = put n ∧ x.toNat < 128 ^ kq ∧ 0 < kq ∧ acc.length + kq ≤ 10) ∧ Aside0 (Kd.R (Kd.int .u8) 5 w' w.heap.size (fun _ => True) v4 acc) ∧ Aside0 (Below w.heap.size w w'))
  case atStart =>
    have hm := HM.out
    exact ⟨(zig n : Int), [], by rw [HZ.out], by omega, by omega, ⟨by simp only [Int.toNat_natCast, List.nil_append, put], by simp only [Int.toNat_natCast]; exact HL.out, by omega, by simp⟩, ⟨Kd.R_nil _ _ _ _ _⟩, HB⟩
  case round =>
    obtain ⟨x, acc, rfl, hx0, hx1, HA, HO, HB⟩ := hrel
    by_cases c : x < 128
    · go_wp2_with (first | ((with_reducible refine gate_builtin (b := .append) (xs := #[.tmp 14, .tmp 17]) rfl ?_); at_builtin; refine Kd.R_append (Kd.int .u8) (w0 := w) w.heap.size rfl (.tmp 14) (.tmp 17) 24 5 (.int .u8 0) 1 rfl Try.underlying24 info5 rfl (by decide) (by omega) u4 acc (x) [.int .u8 x] (fun _ => True) (fun _ => False) rfl rfl ?aP (fun _ hk => hk.elim) ?aF ?aO ?aB ?aS ?aL ?_; (case aP => exact rfl); (case aB => exact (by repeat (first | (with_reducible first | exact HB.out | apply below_alloc | apply pw_below_drewN | apply below_drew1) | exact HB.out))); (case aF => exact (fun _ _ => trivial)); (case aO => exact (by (with_reducible repeat (first | apply Kd.R_alloc | apply Kd.R_drewN | apply Kd.R_drew)); exact HO.out)); (case aS => exact (below_size (by repeat (first | (with_reducible first | exact HB.out | apply below_alloc | apply pw_below_drewN | apply below_drew1) | exact HB.out)))); (case aL => have := HA.out.2.2.2; omega); intro v1 w1 ho hb hg hat; have n0_ := Aside0.mk (hb); have n1_ := Aside0.mk (ho); clear HB; clear HO; have HB := n0_; have HO := n1_; clear n0_ n1_; clear ho hb hg hat))
      rw [Exit.noGoto_ret]
      go_ret
      exact ⟨_, rfl, by rw [← put_last HA.out hx0 c]; exact HO.out, HB.out⟩
    · go_wp2_with (first | ((with_reducible refine gate_builtin (b := .append) (xs := #[.tmp 19, .tmp 23]) rfl ?_); at_builtin; refine Kd.R_append (Kd.int .u8) (w0 := w) w.heap.size rfl (.tmp 19) (.tmp 23) 24 5 (.int .u8 0) 1 rfl Try.underlying24 info5 rfl (by decide) (by omega) u4 acc (bits .or .u8 (x % 256) 128) [.int .u8 (bits .or .u8 (x % 256) 128)] (fun _ => True) (fun _ => False) rfl rfl ?aP (fun _ hk => hk.elim) ?aF ?aO ?aB ?aS ?aL ?_; (case aP => exact rfl); (case aB => exact (by repeat (first | (with_reducible first | exact HB.out | apply below_alloc | apply pw_below_drewN | apply below_drew1) | exact HB.out))); (case aF => exact (fun _ _ => trivial)); (case aO => exact (by (with_reducible repeat (first | apply Kd.R_alloc | apply Kd.R_drewN | apply Kd.R_drew)); exact HO.out)); (case aS => exact (below_size (by repeat (first | (with_reducible first | exact HB.out | apply below_alloc | apply pw_below_drewN | apply below_drew1) | exact HB.out)))); (case aL => have := HA.out.2.2.2; omega); intro v1 w1 ho hb hg hat; have n0_ := Aside0.mk (hb); have n1_ := Aside0.mk (ho); clear HB; clear HO; have HB := n0_; have HO := n1_; clear n0_ n1_; clear ho hb hg hat))
      go_roundg (gk - 1)
      case measure => have := HA.out.2.2.1; omega
      case rel => exact ⟨x / 128, _, rfl, by omega, by omega, ⟨put_next HA.out hx0 (by omega)⟩, HO, HB⟩
end Go.Proofs.Ytiefonnhgjpbfaa.Tr
