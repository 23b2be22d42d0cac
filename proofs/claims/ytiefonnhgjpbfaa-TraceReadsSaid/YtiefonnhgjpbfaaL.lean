/- Functions of wire, and what compares events and picks. The text was written by the kit's print for this seat, and is joined here by a program of ours. -/
import Derived.Test.YtiefonnhgjpbfaaK
namespace Go.Proofs.Ytiefonnhgjpbfaa.Tr
open Go.RowKit Go.Proofs.YtiefonnhgjpbfaaW.PrintWords Go.Proofs.YtiefonnhgjpbfaaW.PrintLast Go.Proofs.YtiefonnhgjpbfaaW.PrintMore
attribute [local go_sem] max2_int min2_int max_two min_two max_three min_three max_four min_four   -- for this text's walks alone
set_option linter.unusedVariables false
set_option linter.unusedSimpArgs false

attribute [local go_sem high] eqA48 eqA55
/-! ### wire_Sum: function 36 -/
def wire_Sum.l0 : Nat → Int → Int → List Int → Int → Int → Option (Int)
  | 0, _, _, _, _, _ => none
  | k + 1, x3, x4, x7, x8, x9 => if x9 < x8 then (if 0 ≤ x9 then (if x9 < (x7.length : Int) then (wire_Sum.l0 k (Int.tmod (wrap64 (x3 + (wrap64 (rd x7 x9)))) 65521) (Int.tmod (wrap64 (x4 + (Int.tmod (wrap64 (x3 + (wrap64 (rd x7 x9)))) 65521))) 65521) x7 x8 (wrap64 (x9 + 1))) else (none)) else (none)) else (some (Go.bits .or .i64 (wrap64 (x4 * 65536)) x3))
def wire_Sum.f (k : Nat) (l0 : List Int) : Option (Int) := wire_Sum.l0 k 1 0 l0 (l0.length : Int) 0
theorem wire_Sum.mono_l : ∀ k, (∀ y0 y1 y2 y3 y4, LeO (wire_Sum.l0 k y0 y1 y2 y3 y4) (wire_Sum.l0 (k + 1) y0 y1 y2 y3 y4))
  | 0 => fun _ _ _ _ _ r h => by simp [wire_Sum.l0] at h
  | k + 1 => by
    have ih0 := wire_Sum.mono_l k
    · intro y0 y1 y2 y3 y4
      unfold wire_Sum.l0
      repeat' first
      | (with_reducible exact ih0 _ _ _ _ _)
      | (with_reducible exact LeO.refl _)
      | (with_reducible exact LeO.none _)
      | (with_reducible refine LeO.ite ?_ ?_)
      | (with_reducible refine LeO.bind ?_ (fun _ => ?_))
      | exact ih0 _ _ _ _ _
      | exact LeO.none _
      | refine LeO.ite ?_ ?_
      | refine LeO.bind ?_ (fun _ => ?_)
theorem wire_Sum.mono : ∀ a0 k, LeO (wire_Sum.f k a0) (wire_Sum.f (k + 1) a0) := by
  intro a0 k
  have ih0 := wire_Sum.mono_l k
  unfold wire_Sum.f
  repeat' first
      | (with_reducible exact ih0 _ _ _ _ _)
      | (with_reducible exact LeO.refl _)
      | (with_reducible exact LeO.none _)
      | (with_reducible refine LeO.ite ?_ ?_)
      | (with_reducible refine LeO.bind ?_ (fun _ => ?_))
      | exact ih0 _ _ _ _ _
      | exact LeO.none _
      | refine LeO.ite ?_ ?_
      | refine LeO.bind ?_ (fun _ => ?_)
set_option maxHeartbeats 8000000 in
set_option maxRecDepth 100000 in
theorem wire_Sum.calls (k : Nat) (A0 : Option Addr) (c0 : Nat) (l0 : List Int) (r : Int) (w : World) (hr0 : Kd.C (Kd.int .u8) w A0 l0.length l0) (hc0 : l0.length ≤ c0) (h : wire_Sum.f k l0 = some r) :
    Calls Try.prog 36 #[.slice A0 l0.length c0] w fun e w' => e = .returned (.int .i64 r) ∧ Drawn0 w w' := by
  have HR0 := Aside0.mk hr0
  have HC0 := Aside0.mk hc0
  clear hr0 hc0
  have H : (wire_Sum.l0 k 1 0 l0 (l0.length : Int) 0) = some r := h
  clear h
  have H' := Aside0.mk H
  clear H
  go_enter Try.func36, Try.ntmps36
  go_wp2
  go_loopg [3, 4, 9] k (fun kq v3 v4 v9 w' => ∃ (x3_1 : Int) (x4_1 : Int) (x9_1 : Int), v3 = .int .i64 x3_1 ∧ v4 = .int .i64 x4_1 ∧ v9 = .int .i64 x9_1 ∧ Aside0 (wire_Sum.l0 kq x3_1 x4_1 l0 (l0.length : Int) x9_1 = some r) ∧ Aside0 (kq ≤ k) ∧ Drawn0 w w')
  case atStart => exact ⟨(1), (0), (0), (by first | rfl | (simp; done) | (simp [*]; done)), (by first | rfl | (simp; done) | (simp [*]; done)), (by first | rfl | (simp; done) | (simp [*]; done)), H', ⟨Nat.le_refl _⟩, by repeat (first | exact Drawn0.refl _ | apply Drawn0.step)⟩
  case round =>
    clear H'
    obtain ⟨x3_1, x4_1, x9_1, rfl, rfl, rfl, HA, HK1, ⟨m1, rfl⟩⟩ := hrel
    cases gk with
    | zero => exact absurd HA.out (by simp [wire_Sum.l0])
    | succ k1 =>
      have H := HA.out
      clear HA
      simp only [wire_Sum.l0] at H
      by_cases c2 : x9_1 < (l0.length : Int)
      · rw [if_pos c2] at H
        have c2b0 : decide (x9_1 < (l0.length : Int)) = true := decide_eq_true c2
        clear c2
        by_cases c3 : 0 ≤ x9_1
        · rw [if_pos c3] at H
          have c3b0 : decide (0 ≤ x9_1) = true := decide_eq_true c3
          clear c3
          by_cases c4 : x9_1 < (l0.length : Int)
          · rw [if_pos c4] at H
            have c4b0 : decide (x9_1 < (l0.length : Int)) = true := decide_eq_true c4
            clear c4
            have H' := Aside0.mk H
            clear H
            have p101 : 0 ≤ (x9_1 : Int) := of_decide_eq_true (by first | (with_reducible assumption) | assumption)
            have q101 : x9_1 < (l0.length : Int) := of_decide_eq_true (by first | (with_reducible assumption) | assumption)
            obtain ⟨ad101, e101, hx101_0⟩ := Kd.at_int HR0.out x9_1 p101 q101
            cases e101
            replace p101 := eq_true p101
            replace q101 := eq_true q101
            go_wp2
            go_roundg k1
            case measure => have := HK1.out; omega
            case rel => exact ⟨(Int.tmod (wrap64 (x3_1 + (wrap64 (rd l0 x9_1)))) 65521), (Int.tmod (wrap64 (x4_1 + (Int.tmod (wrap64 (x3_1 + (wrap64 (rd l0 x9_1)))) 65521))) 65521), (wrap64 (x9_1 + 1)), (by first | rfl | (simp; done) | (simp [*]; done)), (by first | rfl | (simp; done) | (simp [*]; done)), (by first | rfl | (simp; done) | (simp [*]; done)), H', ⟨by have := HK1.out; omega⟩, by repeat (first | exact Drawn0.refl _ | apply Drawn0.step)⟩
          · rw [if_neg c4] at H
            exact absurd H (by simp)
        · rw [if_neg c3] at H
          exact absurd H (by simp)
      · rw [if_neg c2] at H
        have c2b0 : decide (x9_1 < (l0.length : Int)) = false := decide_eq_false c2
        clear c2
        obtain rfl := Option.some.inj H
        go_wp2
        go_ret
        exact ⟨by first | rfl | (simp; done) | (simp [*]; done), by repeat (first | exact Drawn0.refl _ | apply Drawn0.step)⟩

/-! ### wire_Get: function 35 -/
mutual
def wire_Get.l0 : Nat → Int → List Int → Int → Int → Option (Int × Int × Int)
  | 0, _, _, _, _ => none
  | k + 1, x5, x8, x9, x10 => if x10 < x9 then (if 0 ≤ x10 then (if x10 < (x8.length : Int) then (if x10 = 9 then (if (rd x8 x10) > 1 then (wire_Get.j1 k x5 x10 (rd x8 x10) x8 x9 x10 true) else (wire_Get.j1 k x5 x10 (rd x8 x10) x8 x9 x10 (decide (x10 > 9)))) else (wire_Get.j1 k x5 x10 (rd x8 x10) x8 x9 x10 (decide (x10 > 9)))) else (none)) else (none)) else (some (0, 0, 3))
def wire_Get.j1 : Nat → Int → Int → Int → List Int → Int → Int → Bool → Option (Int × Int × Int)
  | 0, _, _, _, _, _, _, _ => none
  | k + 1, x5, x6, x7, x8, x9, x10, x24 => if x24 = true then (some (0, 0, 3)) else (if 0 ≤ (wrap64 (7 * x6)) then (if x7 < 128 then (if x7 = 0 then (if x6 > 0 then (some (0, 0, 3)) else (some (Go.bits .xor .i64 (wrap64 ((Go.bits .or .u64 x5 (shl .u64 (IntKind.u64.wrap (Go.bits .andNot .u8 x7 128)) (wrap64 (7 * x6)))) / 2)) (wrap64 (-(wrap64 (Go.bits .and .u64 (Go.bits .or .u64 x5 (shl .u64 (IntKind.u64.wrap (Go.bits .andNot .u8 x7 128)) (wrap64 (7 * x6)))) 1)))), wrap64 (x6 + 1), 0))) else (some (Go.bits .xor .i64 (wrap64 ((Go.bits .or .u64 x5 (shl .u64 (IntKind.u64.wrap (Go.bits .andNot .u8 x7 128)) (wrap64 (7 * x6)))) / 2)) (wrap64 (-(wrap64 (Go.bits .and .u64 (Go.bits .or .u64 x5 (shl .u64 (IntKind.u64.wrap (Go.bits .andNot .u8 x7 128)) (wrap64 (7 * x6)))) 1)))), wrap64 (x6 + 1), 0))) else (wire_Get.l0 k (Go.bits .or .u64 x5 (shl .u64 (IntKind.u64.wrap (Go.bits .andNot .u8 x7 128)) (wrap64 (7 * x6)))) x8 x9 (wrap64 (x10 + 1)))) else (none))
end
def wire_Get.f (k : Nat) (l0 : List Int) : Option (Int × Int × Int) := wire_Get.l0 k 0 l0 (l0.length : Int) 0
theorem wire_Get.mono_l : ∀ k, (∀ y0 y1 y2 y3, LeO (wire_Get.l0 k y0 y1 y2 y3) (wire_Get.l0 (k + 1) y0 y1 y2 y3)) ∧ (∀ y0 y1 y2 y3 y4 y5 y6, LeO (wire_Get.j1 k y0 y1 y2 y3 y4 y5 y6) (wire_Get.j1 (k + 1) y0 y1 y2 y3 y4 y5 y6))
  | 0 => ⟨fun _ _ _ _ r h => by simp [wire_Get.l0] at h, fun _ _ _ _ _ _ _ r h => by simp [wire_Get.j1] at h⟩
  | k + 1 => by
    obtain ⟨ih0, ih1⟩ := wire_Get.mono_l k
    refine ⟨?_, ?_⟩
    · intro y0 y1 y2 y3
      unfold wire_Get.l0
      repeat' first
      | (with_reducible exact ih0 _ _ _ _)
      | (with_reducible exact ih1 _ _ _ _ _ _ _)
      | (with_reducible exact LeO.refl _)
      | (with_reducible exact LeO.none _)
      | (with_reducible refine LeO.ite ?_ ?_)
      | (with_reducible refine LeO.bind ?_ (fun _ => ?_))
      | exact ih0 _ _ _ _
      | exact ih1 _ _ _ _ _ _ _
      | exact LeO.none _
      | refine LeO.ite ?_ ?_
      | refine LeO.bind ?_ (fun _ => ?_)
    · intro y0 y1 y2 y3 y4 y5 y6
      unfold wire_Get.j1
      repeat' first
      | (with_reducible exact ih0 _ _ _ _)
      | (with_reducible exact ih1 _ _ _ _ _ _ _)
      | (with_reducible exact LeO.refl _)
      | (with_reducible exact LeO.none _)
      | (with_reducible refine LeO.ite ?_ ?_)
      | (with_reducible refine LeO.bind ?_ (fun _ => ?_))
      | exact ih0 _ _ _ _
      | exact ih1 _ _ _ _ _ _ _
      | exact LeO.none _
      | refine LeO.ite ?_ ?_
      | refine LeO.bind ?_ (fun _ => ?_)
theorem wire_Get.mono : ∀ a0 k, LeO (wire_Get.f k a0) (wire_Get.f (k + 1) a0) := by
  intro a0 k
  obtain ⟨ih0, ih1⟩ := wire_Get.mono_l k
  unfold wire_Get.f
  repeat' first
      | (with_reducible exact ih0 _ _ _ _)
      | (with_reducible exact ih1 _ _ _ _ _ _ _)
      | (with_reducible exact LeO.refl _)
      | (with_reducible exact LeO.none _)
      | (with_reducible refine LeO.ite ?_ ?_)
      | (with_reducible refine LeO.bind ?_ (fun _ => ?_))
      | exact ih0 _ _ _ _
      | exact ih1 _ _ _ _ _ _ _
      | exact LeO.none _
      | refine LeO.ite ?_ ?_
      | refine LeO.bind ?_ (fun _ => ?_)
set_option maxHeartbeats 8000000 in
set_option maxRecDepth 100000 in
theorem wire_Get.calls (k : Nat) (A0 : Option Addr) (c0 : Nat) (l0 : List Int) (r1 : Int) (r2 : Int) (r3 : Int) (w : World) (hr0 : Kd.C (Kd.int .u8) w A0 l0.length l0) (hc0 : l0.length ≤ c0) (h : wire_Get.f k l0 = some (r1, r2, r3)) :
    Calls Try.prog 35 #[.slice A0 l0.length c0] w fun e w' => e = .returned (.tuple #[.int .i64 r1, .int .i64 r2, .int .i64 r3]) ∧ Drawn0 w w' := by
  have HR0 := Aside0.mk hr0
  have HC0 := Aside0.mk hc0
  clear hr0 hc0
  have H : (wire_Get.l0 k 0 l0 (l0.length : Int) 0) = some (r1, r2, r3) := h
  clear h
  have H' := Aside0.mk H
  clear H
  go_enter Try.func35, Try.ntmps35
  go_wp2
  go_loopg [5, 10] k (fun kq v5 v10 w' => ∃ (x5_1 : Int) (x10_1 : Int), v5 = .int .u64 x5_1 ∧ v10 = .int .i64 x10_1 ∧ Aside0 (wire_Get.l0 kq x5_1 l0 (l0.length : Int) x10_1 = some (r1, r2, r3)) ∧ Aside0 (kq ≤ k) ∧ Drawn0 w w')
  case atStart => exact ⟨(0), (0), (by first | rfl | (simp; done) | (simp [*]; done)), (by first | rfl | (simp; done) | (simp [*]; done)), H', ⟨Nat.le_refl _⟩, by repeat (first | exact Drawn0.refl _ | apply Drawn0.step)⟩
  case round =>
    clear H'
    obtain ⟨x5_1, x10_1, rfl, rfl, HA, HK1, ⟨m1, rfl⟩⟩ := hrel
    cases gk with
    | zero => exact absurd HA.out (by simp [wire_Get.l0])
    | succ k1 =>
      have H := HA.out
      clear HA
      simp only [wire_Get.l0] at H
      by_cases c2 : x10_1 < (l0.length : Int)
      · rw [if_pos c2] at H
        have c2b0 : decide (x10_1 < (l0.length : Int)) = true := decide_eq_true c2
        clear c2
        by_cases c3 : 0 ≤ x10_1
        · rw [if_pos c3] at H
          have c3b0 : decide (0 ≤ x10_1) = true := decide_eq_true c3
          clear c3
          by_cases c4 : x10_1 < (l0.length : Int)
          · rw [if_pos c4] at H
            have c4b0 : decide (x10_1 < (l0.length : Int)) = true := decide_eq_true c4
            clear c4
            have HC5 := Aside0.mk H
            clear H
            have p102 : 0 ≤ (x10_1 : Int) := of_decide_eq_true (by first | (with_reducible assumption) | assumption)
            have q102 : x10_1 < (l0.length : Int) := of_decide_eq_true (by first | (with_reducible assumption) | assumption)
            obtain ⟨ad102, e102, hx102_0⟩ := Kd.at_int HR0.out x10_1 p102 q102
            cases e102
            replace p102 := eq_true p102
            replace q102 := eq_true q102
            go_upto_region 5 with (fail)
            go_cut [24] (fun v24 wc => ∃ (kq : Nat) (x24_4 : Bool), v24 = .bool x24_4 ∧ Aside0 (wire_Get.j1 kq x5_1 x10_1 (rd l0 x10_1) l0 (l0.length : Int) x10_1 x24_4 = some (r1, r2, r3)) ∧ Aside0 (kq ≤ k1) ∧ Drawn0 w wc)
            case first =>
              have H := HC5.out
              clear HC5
              by_cases c6 : x10_1 = 9
              · rw [if_pos c6] at H
                have c6b0 : (x10_1 == 9) = true := beq_iff_eq.mpr c6
                have c6b1 : (x10_1 != 9) = false := bne_eq_false_iff_eq.mpr c6
                clear c6
                (first | rw [c6b0] | (simp only [i64_w, i32_w]; rw [c6b0]) | skip)
                by_cases c7 : (rd l0 x10_1) > 1
                · rw [if_pos c7] at H
                  have c7b0 : decide (1 < (rd l0 x10_1)) = true := decide_eq_true c7
                  clear c7
                  have H' := Aside0.mk H
                  clear H
                  go_wp2
                  go_meet
                  case rel => exact ⟨_, (true), (by first | rfl | (simp; done) | (simp [*]; done)), H', ⟨by have := HK1.out; first | omega | exact Nat.le_refl _⟩, by repeat (first | exact Drawn0.refl _ | apply Drawn0.step)⟩
                · rw [if_neg c7] at H
                  have c7b0 : decide (1 < (rd l0 x10_1)) = false := decide_eq_false c7
                  clear c7
                  have H' := Aside0.mk H
                  clear H
                  go_wp2
                  go_meet
                  case rel => exact ⟨_, (decide (x10_1 > 9)), (by first | rfl | (simp; done) | (simp [*]; done)), H', ⟨by have := HK1.out; first | omega | exact Nat.le_refl _⟩, by repeat (first | exact Drawn0.refl _ | apply Drawn0.step)⟩
              · rw [if_neg c6] at H
                have c6b0 : (x10_1 == 9) = false := beq_eq_false_iff_ne.mpr c6
                have c6b1 : (x10_1 != 9) = true := bne_iff_ne.mpr c6
                (first | rw [c6b0] | (simp only [i64_w, i32_w]; rw [c6b0]) | skip)
                have H' := Aside0.mk H
                clear H
                go_wp2
                go_meet
                case rel => exact ⟨_, (decide (x10_1 > 9)), (by first | rfl | (simp; done) | (simp [*]; done)), H', ⟨by have := HK1.out; first | omega | exact Nat.le_refl _⟩, by repeat (first | exact Drawn0.refl _ | apply Drawn0.step)⟩
            case rest =>
              clear HC5
              try clear p1
              try clear q1
              try clear hx1
              try clear c2
              try clear c2b0
              try clear p2
              try clear c3
              try clear c3b0
              try clear c4
              try clear c4b0
              try clear c6
              try clear c6b0
              try clear c6b1
              try clear c7
              try clear c7b0
              try clear hx102_0
              try clear p102
              try clear q102
              obtain ⟨kq, x24_4, rfl, HA, HJ4, ⟨mc4, rfl⟩⟩ := hcut
              cases kq with
              | zero => exact absurd HA.out (by simp [wire_Get.j1])
              | succ kj4 =>
                have H := HA.out
                clear HA
                simp only [wire_Get.j1] at H
                by_cases c8 : x24_4 = true
                · subst c8
                  have H1 : (some (0, 0, 3)) = some (r1, r2, r3) := by rw [if_pos rfl] at H; exact H
                  clear H
                  have H := H1
                  clear H1
                  simp only [Option.some.injEq, Prod.mk.injEq] at H
                  obtain ⟨rfl, rfl, rfl⟩ := H
                  go_wp2
                  go_ret3
                  exact ⟨by first | rfl | (simp; done) | (simp [*]; done), by repeat (first | exact Drawn0.refl _ | apply Drawn0.step)⟩
                · replace c8 := Bool.eq_false_iff.mpr c8
                  subst c8
                  have H1 : (if 0 ≤ (wrap64 (7 * x10_1)) then (if (rd l0 x10_1) < 128 then (if (rd l0 x10_1) = 0 then (if x10_1 > 0 then (some (0, 0, 3)) else (some (Go.bits .xor .i64 (wrap64 ((Go.bits .or .u64 x5_1 (shl .u64 (IntKind.u64.wrap (Go.bits .andNot .u8 (rd l0 x10_1) 128)) (wrap64 (7 * x10_1)))) / 2)) (wrap64 (-(wrap64 (Go.bits .and .u64 (Go.bits .or .u64 x5_1 (shl .u64 (IntKind.u64.wrap (Go.bits .andNot .u8 (rd l0 x10_1) 128)) (wrap64 (7 * x10_1)))) 1)))), wrap64 (x10_1 + 1), 0))) else (some (Go.bits .xor .i64 (wrap64 ((Go.bits .or .u64 x5_1 (shl .u64 (IntKind.u64.wrap (Go.bits .andNot .u8 (rd l0 x10_1) 128)) (wrap64 (7 * x10_1)))) / 2)) (wrap64 (-(wrap64 (Go.bits .and .u64 (Go.bits .or .u64 x5_1 (shl .u64 (IntKind.u64.wrap (Go.bits .andNot .u8 (rd l0 x10_1) 128)) (wrap64 (7 * x10_1)))) 1)))), wrap64 (x10_1 + 1), 0))) else (wire_Get.l0 kj4 (Go.bits .or .u64 x5_1 (shl .u64 (IntKind.u64.wrap (Go.bits .andNot .u8 (rd l0 x10_1) 128)) (wrap64 (7 * x10_1)))) l0 (l0.length : Int) (wrap64 (x10_1 + 1)))) else (none)) = some (r1, r2, r3) := by rw [if_neg (show ¬ (false = true) by decide)] at H; exact H
                  clear H
                  have H := H1
                  clear H1
                  obtain ⟨ji9, hji9⟩ : ∃ j_ : Int, (wrap64 (7 * x10_1)) = j_ := ⟨_, rfl⟩
                  replace H : (if 0 ≤ (ji9) then (if (rd l0 x10_1) < 128 then (if (rd l0 x10_1) = 0 then (if x10_1 > 0 then (some (0, 0, 3)) else (some (Go.bits .xor .i64 (wrap64 ((Go.bits .or .u64 x5_1 (shl .u64 (IntKind.u64.wrap (Go.bits .andNot .u8 (rd l0 x10_1) 128)) (ji9))) / 2)) (wrap64 (-(wrap64 (Go.bits .and .u64 (Go.bits .or .u64 x5_1 (shl .u64 (IntKind.u64.wrap (Go.bits .andNot .u8 (rd l0 x10_1) 128)) (ji9))) 1)))), wrap64 (x10_1 + 1), 0))) else (some (Go.bits .xor .i64 (wrap64 ((Go.bits .or .u64 x5_1 (shl .u64 (IntKind.u64.wrap (Go.bits .andNot .u8 (rd l0 x10_1) 128)) (ji9))) / 2)) (wrap64 (-(wrap64 (Go.bits .and .u64 (Go.bits .or .u64 x5_1 (shl .u64 (IntKind.u64.wrap (Go.bits .andNot .u8 (rd l0 x10_1) 128)) (ji9))) 1)))), wrap64 (x10_1 + 1), 0))) else (wire_Get.l0 kj4 (Go.bits .or .u64 x5_1 (shl .u64 (IntKind.u64.wrap (Go.bits .andNot .u8 (rd l0 x10_1) 128)) (ji9))) l0 (l0.length : Int) (wrap64 (x10_1 + 1)))) else (none)) = some (r1, r2, r3) := by first | (rw [hji9] at H; exact H) | (simp only [hji9] at H ⊢; exact H)
                  have hji9w : (IntKind.i64.wrap (7 * x10_1)) = ji9 := (i64_w _).trans hji9
                  by_cases c10 : 0 ≤ (ji9)
                  · rw [if_pos c10] at H
                    have c10b0 := eq_true c10
                    have c10b1 : decide (0 ≤ (ji9)) = true := decide_eq_true c10
                    clear c10
                    obtain ⟨ji11, hji11⟩ : ∃ j_ : Int, (shl .u64 (IntKind.u64.wrap (Go.bits .andNot .u8 (rd l0 x10_1) 128)) (ji9)) = j_ := ⟨_, rfl⟩
                    replace H : (if (rd l0 x10_1) < 128 then (if (rd l0 x10_1) = 0 then (if x10_1 > 0 then (some (0, 0, 3)) else (some (Go.bits .xor .i64 (wrap64 ((Go.bits .or .u64 x5_1 (ji11)) / 2)) (wrap64 (-(wrap64 (Go.bits .and .u64 (Go.bits .or .u64 x5_1 (ji11)) 1)))), wrap64 (x10_1 + 1), 0))) else (some (Go.bits .xor .i64 (wrap64 ((Go.bits .or .u64 x5_1 (ji11)) / 2)) (wrap64 (-(wrap64 (Go.bits .and .u64 (Go.bits .or .u64 x5_1 (ji11)) 1)))), wrap64 (x10_1 + 1), 0))) else (wire_Get.l0 kj4 (Go.bits .or .u64 x5_1 (ji11)) l0 (l0.length : Int) (wrap64 (x10_1 + 1)))) = some (r1, r2, r3) := by first | (rw [hji11] at H; exact H) | (simp only [hji11] at H ⊢; exact H)
                    have hji11_ : (IntKind.u64.wrap ((IntKind.u64.wrap (Go.bits .andNot .u8 (rd l0 x10_1) 128)) * 2 ^ min (ji9).toNat 64)) = ji11 := hji11
                    have hji11z : (ji9) ≤ 64 → (IntKind.u64.wrap ((IntKind.u64.wrap (Go.bits .andNot .u8 (rd l0 x10_1) 128)) * 2 ^ (ji9).toNat)) = ji11 := shl_small hji11
                    by_cases c12 : (rd l0 x10_1) < 128
                    · rw [if_pos c12] at H
                      have c12b0 : decide ((rd l0 x10_1) < 128) = true := decide_eq_true c12
                      clear c12
                      by_cases c13 : (rd l0 x10_1) = 0
                      · rw [if_pos c13] at H
                        have c13b0 : ((rd l0 x10_1) == 0) = true := beq_iff_eq.mpr c13
                        have c13b1 : ((rd l0 x10_1) != 0) = false := bne_eq_false_iff_eq.mpr c13
                        clear c13
                        by_cases c14 : x10_1 > 0
                        · rw [if_pos c14] at H
                          have c14b0 : decide (0 < x10_1) = true := decide_eq_true c14
                          clear c14
                          simp only [Option.some.injEq, Prod.mk.injEq] at H
                          obtain ⟨rfl, rfl, rfl⟩ := H
                          go_wp2
                          go_ret3
                          exact ⟨by first | rfl | (simp; done) | (simp only [← hji9, ← hji11] <;> (first | rfl | simp)) | (simp [*]; done), by repeat (first | exact Drawn0.refl _ | apply Drawn0.step)⟩
                        · rw [if_neg c14] at H
                          have c14b0 : decide (0 < x10_1) = false := decide_eq_false c14
                          clear c14
                          simp only [Option.some.injEq, Prod.mk.injEq] at H
                          obtain ⟨rfl, rfl, rfl⟩ := H
                          go_wp2
                          go_ret3
                          exact ⟨by first | rfl | (simp; done) | (simp only [← hji9, ← hji11] <;> (first | rfl | simp)) | (simp [*]; done), by repeat (first | exact Drawn0.refl _ | apply Drawn0.step)⟩
                      · rw [if_neg c13] at H
                        have c13b0 : ((rd l0 x10_1) == 0) = false := beq_eq_false_iff_ne.mpr c13
                        have c13b1 : ((rd l0 x10_1) != 0) = true := bne_iff_ne.mpr c13
                        simp only [Option.some.injEq, Prod.mk.injEq] at H
                        obtain ⟨rfl, rfl, rfl⟩ := H
                        go_wp2
                        go_ret3
                        exact ⟨by first | rfl | (simp; done) | (simp only [← hji9, ← hji11] <;> (first | rfl | simp)) | (simp [*]; done), by repeat (first | exact Drawn0.refl _ | apply Drawn0.step)⟩
                    · rw [if_neg c12] at H
                      have c12b0 : decide ((rd l0 x10_1) < 128) = false := decide_eq_false c12
                      clear c12
                      have H' := Aside0.mk H
                      clear H
                      go_wp2
                      go_roundg kj4
                      case measure => have := HK1.out; have := HJ4.out; omega
                      case rel => exact ⟨(Go.bits .or .u64 x5_1 (ji11)), (wrap64 (x10_1 + 1)), (by first | rfl | (simp; done) | (simp only [← hji11] <;> (first | rfl | simp)) | (simp [*]; done)), (by first | rfl | (simp; done) | (simp [*]; done)), H', ⟨by have := HK1.out; have := HJ4.out; omega⟩, by repeat (first | exact Drawn0.refl _ | apply Drawn0.step)⟩
                  · rw [if_neg c10] at H
                    exact absurd H (by simp)
          · rw [if_neg c4] at H
            exact absurd H (by simp)
        · rw [if_neg c3] at H
          exact absurd H (by simp)
      · rw [if_neg c2] at H
        have c2b0 : decide (x10_1 < (l0.length : Int)) = false := decide_eq_false c2
        clear c2
        simp only [Option.some.injEq, Prod.mk.injEq] at H
        obtain ⟨rfl, rfl, rfl⟩ := H
        go_wp2
        go_ret3
        exact ⟨by first | rfl | (simp; done) | (simp [*]; done), by repeat (first | exact Drawn0.refl _ | apply Drawn0.step)⟩

/-! ### underwoodref32_Picked: function 13 -/
def underwoodref32_Picked.l0 : Nat → List (S55) → List (S55) → Int → Option (Bool)
  | 0, _, _, _ => none
  | k + 1, x0, x1, x5 => if x5 < (x0.length : Int) then (if 0 ≤ x5 then (if x5 < (x1.length : Int) then (if (!(((rd_T55 x0 x5).f0) == ((rd_T55 x1 x5).f0)) || (!(((rd_T55 x0 x5).f1) == ((rd_T55 x1 x5).f1)) || (!(((rd_T55 x0 x5).f2) == ((rd_T55 x1 x5).f2))))) = true then (some false) else (underwoodref32_Picked.l0 k x0 x1 (wrap64 (x5 + 1)))) else (none)) else (none)) else (some true)
def underwoodref32_Picked.f (k : Nat) (l0 : List (S55)) (l1 : List (S55)) : Option (Bool) := if (l0.length : Int) = (l1.length : Int) then (underwoodref32_Picked.l0 k l0 l1 0) else (some false)
theorem underwoodref32_Picked.mono_l : ∀ k, (∀ y0 y1 y2, LeO (underwoodref32_Picked.l0 k y0 y1 y2) (underwoodref32_Picked.l0 (k + 1) y0 y1 y2))
  | 0 => fun _ _ _ r h => by simp [underwoodref32_Picked.l0] at h
  | k + 1 => by
    have ih0 := underwoodref32_Picked.mono_l k
    · intro y0 y1 y2
      unfold underwoodref32_Picked.l0
      repeat' first
      | (with_reducible exact ih0 _ _ _)
      | (with_reducible exact LeO.refl _)
      | (with_reducible exact LeO.none _)
      | (with_reducible refine LeO.ite ?_ ?_)
      | (with_reducible refine LeO.bind ?_ (fun _ => ?_))
      | exact ih0 _ _ _
      | exact LeO.none _
      | refine LeO.ite ?_ ?_
      | refine LeO.bind ?_ (fun _ => ?_)
theorem underwoodref32_Picked.mono : ∀ a0 a1 k, LeO (underwoodref32_Picked.f k a0 a1) (underwoodref32_Picked.f (k + 1) a0 a1) := by
  intro a0 a1 k
  have ih0 := underwoodref32_Picked.mono_l k
  unfold underwoodref32_Picked.f
  repeat' first
      | (with_reducible exact ih0 _ _ _)
      | (with_reducible exact LeO.refl _)
      | (with_reducible exact LeO.none _)
      | (with_reducible refine LeO.ite ?_ ?_)
      | (with_reducible refine LeO.bind ?_ (fun _ => ?_))
      | exact ih0 _ _ _
      | exact LeO.none _
      | refine LeO.ite ?_ ?_
      | refine LeO.bind ?_ (fun _ => ?_)
set_option maxHeartbeats 8000000 in
set_option maxRecDepth 100000 in
theorem underwoodref32_Picked.calls (k : Nat) (A0 : Option Addr) (c0 : Nat) (l0 : List (S55)) (A1 : Option Addr) (c1 : Nat) (l1 : List (S55)) (r : Bool) (w : World) (hr0 : Kd.C k55 w A0 l0.length l0) (hc0 : l0.length ≤ c0) (hr1 : Kd.C k55 w A1 l1.length l1) (hc1 : l1.length ≤ c1) (h : underwoodref32_Picked.f k l0 l1 = some r) :
    Calls Try.prog 13 #[.slice A0 l0.length c0, .slice A1 l1.length c1] w fun e w' => e = .returned (.bool r) ∧ Drawn0 w w' := by
  have hu55 := Try.underlying55
  have HR0 := Aside0.mk hr0
  have HC0 := Aside0.mk hc0
  clear hr0 hc0
  have HR1 := Aside0.mk hr1
  have HC1 := Aside0.mk hc1
  clear hr1 hc1
  have H : (if (l0.length : Int) = (l1.length : Int) then (underwoodref32_Picked.l0 k l0 l1 0) else (some false)) = some r := h
  clear h
  by_cases c3 : (l0.length : Int) = (l1.length : Int)
  · rw [if_pos c3] at H
    have c3b0 : ((l0.length : Int) == (l1.length : Int)) = true := beq_iff_eq.mpr c3
    have c3b1 : ((l0.length : Int) != (l1.length : Int)) = false := bne_eq_false_iff_eq.mpr c3
    have c3b2 : (l0.length == l1.length) = true := by first | simpa using c3 | (simp at c3 ⊢; omega)
    clear c3
    have H' := Aside0.mk H
    clear H
    go_enter Try.func13, Try.ntmps13
    go_wp2
    repeat (go_quiet (fail); try go_wp2)
    go_loopg [5] k (fun kq v5 w' => ∃ (x5_1 : Int), v5 = .int .i64 x5_1 ∧ Aside0 (underwoodref32_Picked.l0 kq l0 l1 x5_1 = some r) ∧ Aside0 (kq ≤ k) ∧ Drawn0 w w')
    case atStart => exact ⟨(0), (by first | rfl | (simp; done) | (simp [*]; done)), H', ⟨Nat.le_refl _⟩, by repeat (first | exact Drawn0.refl _ | apply Drawn0.step)⟩
    case round =>
      clear H'
      try clear c1
      try clear p2
      try clear c3
      try clear c3b0
      try clear c3b1
      try clear c3b2
      obtain ⟨x5_1, rfl, HA, HK1, ⟨m1, rfl⟩⟩ := hrel
      cases gk with
      | zero => exact absurd HA.out (by simp [underwoodref32_Picked.l0])
      | succ k1 =>
        have H := HA.out
        clear HA
        simp only [underwoodref32_Picked.l0] at H
        by_cases c4 : x5_1 < (l0.length : Int)
        · rw [if_pos c4] at H
          have c4b0 : decide (x5_1 < (l0.length : Int)) = true := decide_eq_true c4
          clear c4
          by_cases c5 : 0 ≤ x5_1
          · rw [if_pos c5] at H
            have c5b0 : decide (0 ≤ x5_1) = true := decide_eq_true c5
            clear c5
            by_cases c6 : x5_1 < (l1.length : Int)
            · rw [if_pos c6] at H
              have c6b0 : decide (x5_1 < (l1.length : Int)) = true := decide_eq_true c6
              clear c6
              by_cases c7 : (!(((rd_T55 l0 x5_1).f0) == ((rd_T55 l1 x5_1).f0)) || (!(((rd_T55 l0 x5_1).f1) == ((rd_T55 l1 x5_1).f1)) || (!(((rd_T55 l0 x5_1).f2) == ((rd_T55 l1 x5_1).f2))))) = true
              · rw [if_pos c7] at H
                have c7b0 : (!(((rd_T55 l0 x5_1).f0) == ((rd_T55 l1 x5_1).f0)) || (!(((rd_T55 l0 x5_1).f1) == ((rd_T55 l1 x5_1).f1)) || (!(((rd_T55 l0 x5_1).f2) == ((rd_T55 l1 x5_1).f2))))) = true := c7
                clear c7
                obtain rfl := Option.some.inj H
                have p114 : 0 ≤ (x5_1 : Int) := of_decide_eq_true (by first | (with_reducible assumption) | assumption)
                have q114 : x5_1 < (l0.length : Int) := of_decide_eq_true (by first | (with_reducible assumption) | assumption)
                obtain ⟨ad114, e114, hx114_0, hx114_1, hx114_2⟩ := at_T55 HR0.out x5_1 p114 q114
                cases e114
                replace p114 := eq_true p114
                replace q114 := eq_true q114
                have p115 : 0 ≤ (x5_1 : Int) := of_decide_eq_true (by first | (with_reducible assumption) | assumption)
                have q115 : x5_1 < (l1.length : Int) := of_decide_eq_true (by first | (with_reducible assumption) | assumption)
                obtain ⟨ad115, e115, hx115_0, hx115_1, hx115_2⟩ := at_T55 HR1.out x5_1 p115 q115
                cases e115
                replace p115 := eq_true p115
                replace q115 := eq_true q115
                go_wp2
                repeat (go_quiet (fail); try go_wp2)
                go_ret
                exact ⟨by first | rfl | (simp; done) | (simp [*]; done), by repeat (first | exact Drawn0.refl _ | apply Drawn0.step)⟩
              · rw [if_neg c7] at H
                have c7b0 : (!(((rd_T55 l0 x5_1).f0) == ((rd_T55 l1 x5_1).f0)) || (!(((rd_T55 l0 x5_1).f1) == ((rd_T55 l1 x5_1).f1)) || (!(((rd_T55 l0 x5_1).f2) == ((rd_T55 l1 x5_1).f2))))) = false := by simpa using c7
                clear c7
                have H' := Aside0.mk H
                clear H
                have p114 : 0 ≤ (x5_1 : Int) := of_decide_eq_true (by first | (with_reducible assumption) | assumption)
                have q114 : x5_1 < (l0.length : Int) := of_decide_eq_true (by first | (with_reducible assumption) | assumption)
                obtain ⟨ad114, e114, hx114_0, hx114_1, hx114_2⟩ := at_T55 HR0.out x5_1 p114 q114
                cases e114
                replace p114 := eq_true p114
                replace q114 := eq_true q114
                have p115 : 0 ≤ (x5_1 : Int) := of_decide_eq_true (by first | (with_reducible assumption) | assumption)
                have q115 : x5_1 < (l1.length : Int) := of_decide_eq_true (by first | (with_reducible assumption) | assumption)
                obtain ⟨ad115, e115, hx115_0, hx115_1, hx115_2⟩ := at_T55 HR1.out x5_1 p115 q115
                cases e115
                replace p115 := eq_true p115
                replace q115 := eq_true q115
                go_wp2
                repeat (go_quiet (fail); try go_wp2)
                go_roundg k1
                case measure => have := HK1.out; omega
                case rel => exact ⟨(wrap64 (x5_1 + 1)), (by first | rfl | (simp; done) | (simp [*]; done)), H', ⟨by have := HK1.out; omega⟩, by repeat (first | exact Drawn0.refl _ | apply Drawn0.step)⟩
            · rw [if_neg c6] at H
              exact absurd H (by simp)
          · rw [if_neg c5] at H
            exact absurd H (by simp)
        · rw [if_neg c4] at H
          have c4b0 : decide (x5_1 < (l0.length : Int)) = false := decide_eq_false c4
          clear c4
          obtain rfl := Option.some.inj H
          go_wp2
          repeat (go_quiet (fail); try go_wp2)
          go_ret
          exact ⟨by first | rfl | (simp; done) | (simp [*]; done), by repeat (first | exact Drawn0.refl _ | apply Drawn0.step)⟩
  · rw [if_neg c3] at H
    have c3b0 : ((l0.length : Int) == (l1.length : Int)) = false := beq_eq_false_iff_ne.mpr c3
    have c3b1 : ((l0.length : Int) != (l1.length : Int)) = true := bne_iff_ne.mpr c3
    have c3b2 : (l0.length == l1.length) = false := by first | simpa using c3 | (simp at c3 ⊢; omega)
    obtain rfl := Option.some.inj H
    go_enter Try.func13, Try.ntmps13
    go_wp2
    repeat (go_quiet (fail); try go_wp2)
    go_ret
    exact ⟨by first | rfl | (simp; done) | (simp [*]; done), by repeat (first | exact Drawn0.refl _ | apply Drawn0.step)⟩

/-! ### underwoodref32_Same: function 16 -/
def underwoodref32_Same.l0 : Nat → List (S48) → List (S48) → Int → Option (Bool)
  | 0, _, _, _ => none
  | k + 1, x0, x1, x5 => if x5 < (x0.length : Int) then (if 0 ≤ x5 then (if x5 < (x1.length : Int) then (if (!(((rd_T48 x0 x5).f0) == ((rd_T48 x1 x5).f0)) || (!(((rd_T48 x0 x5).f1) == ((rd_T48 x1 x5).f1)) || ((!(((rd_T48 x0 x5).f2.f0) == ((rd_T48 x1 x5).f2.f0)) || (!(((rd_T48 x0 x5).f2.f1) == ((rd_T48 x1 x5).f2.f1)) || (!(((rd_T48 x0 x5).f2.f2) == ((rd_T48 x1 x5).f2.f2)) || (!(((rd_T48 x0 x5).f2.f3) == ((rd_T48 x1 x5).f2.f3)))))) || ((!(((rd_T48 x0 x5).f3.f0) == ((rd_T48 x1 x5).f3.f0)) || (!(((rd_T48 x0 x5).f3.f1) == ((rd_T48 x1 x5).f3.f1)))))))) = true then (some false) else (underwoodref32_Same.l0 k x0 x1 (wrap64 (x5 + 1)))) else (none)) else (none)) else (some true)
def underwoodref32_Same.f (k : Nat) (l0 : List (S48)) (l1 : List (S48)) : Option (Bool) := if (l0.length : Int) = (l1.length : Int) then (underwoodref32_Same.l0 k l0 l1 0) else (some false)
theorem underwoodref32_Same.mono_l : ∀ k, (∀ y0 y1 y2, LeO (underwoodref32_Same.l0 k y0 y1 y2) (underwoodref32_Same.l0 (k + 1) y0 y1 y2))
  | 0 => fun _ _ _ r h => by simp [underwoodref32_Same.l0] at h
  | k + 1 => by
    have ih0 := underwoodref32_Same.mono_l k
    · intro y0 y1 y2
      unfold underwoodref32_Same.l0
      repeat' first
      | (with_reducible exact ih0 _ _ _)
      | (with_reducible exact LeO.refl _)
      | (with_reducible exact LeO.none _)
      | (with_reducible refine LeO.ite ?_ ?_)
      | (with_reducible refine LeO.bind ?_ (fun _ => ?_))
      | exact ih0 _ _ _
      | exact LeO.none _
      | refine LeO.ite ?_ ?_
      | refine LeO.bind ?_ (fun _ => ?_)
theorem underwoodref32_Same.mono : ∀ a0 a1 k, LeO (underwoodref32_Same.f k a0 a1) (underwoodref32_Same.f (k + 1) a0 a1) := by
  intro a0 a1 k
  have ih0 := underwoodref32_Same.mono_l k
  unfold underwoodref32_Same.f
  repeat' first
      | (with_reducible exact ih0 _ _ _)
      | (with_reducible exact LeO.refl _)
      | (with_reducible exact LeO.none _)
      | (with_reducible refine LeO.ite ?_ ?_)
      | (with_reducible refine LeO.bind ?_ (fun _ => ?_))
      | exact ih0 _ _ _
      | exact LeO.none _
      | refine LeO.ite ?_ ?_
      | refine LeO.bind ?_ (fun _ => ?_)
set_option maxHeartbeats 8000000 in
set_option maxRecDepth 100000 in
theorem underwoodref32_Same.calls (k : Nat) (A0 : Option Addr) (c0 : Nat) (l0 : List (S48)) (A1 : Option Addr) (c1 : Nat) (l1 : List (S48)) (r : Bool) (w : World) (hr0 : Kd.C k48 w A0 l0.length l0) (hc0 : l0.length ≤ c0) (hr1 : Kd.C k48 w A1 l1.length l1) (hc1 : l1.length ≤ c1) (h : underwoodref32_Same.f k l0 l1 = some r) :
    Calls Try.prog 16 #[.slice A0 l0.length c0, .slice A1 l1.length c1] w fun e w' => e = .returned (.bool r) ∧ Drawn0 w w' := by
  have hu48 := Try.underlying48
  have HR0 := Aside0.mk hr0
  have HC0 := Aside0.mk hc0
  clear hr0 hc0
  have HR1 := Aside0.mk hr1
  have HC1 := Aside0.mk hc1
  clear hr1 hc1
  have H : (if (l0.length : Int) = (l1.length : Int) then (underwoodref32_Same.l0 k l0 l1 0) else (some false)) = some r := h
  clear h
  by_cases c3 : (l0.length : Int) = (l1.length : Int)
  · rw [if_pos c3] at H
    have c3b0 : ((l0.length : Int) == (l1.length : Int)) = true := beq_iff_eq.mpr c3
    have c3b1 : ((l0.length : Int) != (l1.length : Int)) = false := bne_eq_false_iff_eq.mpr c3
    have c3b2 : (l0.length == l1.length) = true := by first | simpa using c3 | (simp at c3 ⊢; omega)
    clear c3
    have H' := Aside0.mk H
    clear H
    go_enter Try.func16, Try.ntmps16
    go_wp2
    repeat (go_quiet (fail); try go_wp2)
    go_loopg [5] k (fun kq v5 w' => ∃ (x5_1 : Int), v5 = .int .i64 x5_1 ∧ Aside0 (underwoodref32_Same.l0 kq l0 l1 x5_1 = some r) ∧ Aside0 (kq ≤ k) ∧ Drawn0 w w')
    case atStart => exact ⟨(0), (by first | rfl | (simp; done) | (simp [*]; done)), H', ⟨Nat.le_refl _⟩, by repeat (first | exact Drawn0.refl _ | apply Drawn0.step)⟩
    case round =>
      clear H'
      try clear c1
      try clear p2
      try clear c3
      try clear c3b0
      try clear c3b1
      try clear c3b2
      obtain ⟨x5_1, rfl, HA, HK1, ⟨m1, rfl⟩⟩ := hrel
      cases gk with
      | zero => exact absurd HA.out (by simp [underwoodref32_Same.l0])
      | succ k1 =>
        have H := HA.out
        clear HA
        simp only [underwoodref32_Same.l0] at H
        by_cases c4 : x5_1 < (l0.length : Int)
        · rw [if_pos c4] at H
          have c4b0 : decide (x5_1 < (l0.length : Int)) = true := decide_eq_true c4
          clear c4
          by_cases c5 : 0 ≤ x5_1
          · rw [if_pos c5] at H
            have c5b0 : decide (0 ≤ x5_1) = true := decide_eq_true c5
            clear c5
            by_cases c6 : x5_1 < (l1.length : Int)
            · rw [if_pos c6] at H
              have c6b0 : decide (x5_1 < (l1.length : Int)) = true := decide_eq_true c6
              clear c6
              by_cases c7 : (!(((rd_T48 l0 x5_1).f0) == ((rd_T48 l1 x5_1).f0)) || (!(((rd_T48 l0 x5_1).f1) == ((rd_T48 l1 x5_1).f1)) || ((!(((rd_T48 l0 x5_1).f2.f0) == ((rd_T48 l1 x5_1).f2.f0)) || (!(((rd_T48 l0 x5_1).f2.f1) == ((rd_T48 l1 x5_1).f2.f1)) || (!(((rd_T48 l0 x5_1).f2.f2) == ((rd_T48 l1 x5_1).f2.f2)) || (!(((rd_T48 l0 x5_1).f2.f3) == ((rd_T48 l1 x5_1).f2.f3)))))) || ((!(((rd_T48 l0 x5_1).f3.f0) == ((rd_T48 l1 x5_1).f3.f0)) || (!(((rd_T48 l0 x5_1).f3.f1) == ((rd_T48 l1 x5_1).f3.f1)))))))) = true
              · rw [if_pos c7] at H
                have c7b0 : (!(((rd_T48 l0 x5_1).f0) == ((rd_T48 l1 x5_1).f0)) || (!(((rd_T48 l0 x5_1).f1) == ((rd_T48 l1 x5_1).f1)) || ((!(((rd_T48 l0 x5_1).f2.f0) == ((rd_T48 l1 x5_1).f2.f0)) || (!(((rd_T48 l0 x5_1).f2.f1) == ((rd_T48 l1 x5_1).f2.f1)) || (!(((rd_T48 l0 x5_1).f2.f2) == ((rd_T48 l1 x5_1).f2.f2)) || (!(((rd_T48 l0 x5_1).f2.f3) == ((rd_T48 l1 x5_1).f2.f3)))))) || ((!(((rd_T48 l0 x5_1).f3.f0) == ((rd_T48 l1 x5_1).f3.f0)) || (!(((rd_T48 l0 x5_1).f3.f1) == ((rd_T48 l1 x5_1).f3.f1)))))))) = true := c7
                clear c7
                obtain rfl := Option.some.inj H
                have p116 : 0 ≤ (x5_1 : Int) := of_decide_eq_true (by first | (with_reducible assumption) | assumption)
                have q116 : x5_1 < (l0.length : Int) := of_decide_eq_true (by first | (with_reducible assumption) | assumption)
                obtain ⟨ad116, e116, hx116_0, hx116_1, hx116_2, hx116_3, hx116_4, hx116_5, hx116_6, hx116_7⟩ := at_T48 HR0.out x5_1 p116 q116
                cases e116
                replace p116 := eq_true p116
                replace q116 := eq_true q116
                have p117 : 0 ≤ (x5_1 : Int) := of_decide_eq_true (by first | (with_reducible assumption) | assumption)
                have q117 : x5_1 < (l1.length : Int) := of_decide_eq_true (by first | (with_reducible assumption) | assumption)
                obtain ⟨ad117, e117, hx117_0, hx117_1, hx117_2, hx117_3, hx117_4, hx117_5, hx117_6, hx117_7⟩ := at_T48 HR1.out x5_1 p117 q117
                cases e117
                replace p117 := eq_true p117
                replace q117 := eq_true q117
                go_wp2
                repeat (go_quiet (fail); try go_wp2)
                go_ret
                exact ⟨by first | rfl | (simp; done) | (simp [*]; done), by repeat (first | exact Drawn0.refl _ | apply Drawn0.step)⟩
              · rw [if_neg c7] at H
                have c7b0 : (!(((rd_T48 l0 x5_1).f0) == ((rd_T48 l1 x5_1).f0)) || (!(((rd_T48 l0 x5_1).f1) == ((rd_T48 l1 x5_1).f1)) || ((!(((rd_T48 l0 x5_1).f2.f0) == ((rd_T48 l1 x5_1).f2.f0)) || (!(((rd_T48 l0 x5_1).f2.f1) == ((rd_T48 l1 x5_1).f2.f1)) || (!(((rd_T48 l0 x5_1).f2.f2) == ((rd_T48 l1 x5_1).f2.f2)) || (!(((rd_T48 l0 x5_1).f2.f3) == ((rd_T48 l1 x5_1).f2.f3)))))) || ((!(((rd_T48 l0 x5_1).f3.f0) == ((rd_T48 l1 x5_1).f3.f0)) || (!(((rd_T48 l0 x5_1).f3.f1) == ((rd_T48 l1 x5_1).f3.f1)))))))) = false := by simpa using c7
                clear c7
                have H' := Aside0.mk H
                clear H
                have p116 : 0 ≤ (x5_1 : Int) := of_decide_eq_true (by first | (with_reducible assumption) | assumption)
                have q116 : x5_1 < (l0.length : Int) := of_decide_eq_true (by first | (with_reducible assumption) | assumption)
                obtain ⟨ad116, e116, hx116_0, hx116_1, hx116_2, hx116_3, hx116_4, hx116_5, hx116_6, hx116_7⟩ := at_T48 HR0.out x5_1 p116 q116
                cases e116
                replace p116 := eq_true p116
                replace q116 := eq_true q116
                have p117 : 0 ≤ (x5_1 : Int) := of_decide_eq_true (by first | (with_reducible assumption) | assumption)
                have q117 : x5_1 < (l1.length : Int) := of_decide_eq_true (by first | (with_reducible assumption) | assumption)
                obtain ⟨ad117, e117, hx117_0, hx117_1, hx117_2, hx117_3, hx117_4, hx117_5, hx117_6, hx117_7⟩ := at_T48 HR1.out x5_1 p117 q117
                cases e117
                replace p117 := eq_true p117
                replace q117 := eq_true q117
                go_wp2
                repeat (go_quiet (fail); try go_wp2)
                go_roundg k1
                case measure => have := HK1.out; omega
                case rel => exact ⟨(wrap64 (x5_1 + 1)), (by first | rfl | (simp; done) | (simp [*]; done)), H', ⟨by have := HK1.out; omega⟩, by repeat (first | exact Drawn0.refl _ | apply Drawn0.step)⟩
            · rw [if_neg c6] at H
              exact absurd H (by simp)
          · rw [if_neg c5] at H
            exact absurd H (by simp)
        · rw [if_neg c4] at H
          have c4b0 : decide (x5_1 < (l0.length : Int)) = false := decide_eq_false c4
          clear c4
          obtain rfl := Option.some.inj H
          go_wp2
          repeat (go_quiet (fail); try go_wp2)
          go_ret
          exact ⟨by first | rfl | (simp; done) | (simp [*]; done), by repeat (first | exact Drawn0.refl _ | apply Drawn0.step)⟩
  · rw [if_neg c3] at H
    have c3b0 : ((l0.length : Int) == (l1.length : Int)) = false := beq_eq_false_iff_ne.mpr c3
    have c3b1 : ((l0.length : Int) != (l1.length : Int)) = true := bne_iff_ne.mpr c3
    have c3b2 : (l0.length == l1.length) = false := by first | simpa using c3 | (simp at c3 ⊢; omega)
    obtain rfl := Option.some.inj H
    go_enter Try.func16, Try.ntmps16
    go_wp2
    repeat (go_quiet (fail); try go_wp2)
    go_ret
    exact ⟨by first | rfl | (simp; done) | (simp [*]; done), by repeat (first | exact Drawn0.refl _ | apply Drawn0.step)⟩

/-! ### underwoodlaw32_one: function 20 -/
def underwoodlaw32_one.f  : Option (Int × Int × Int × Int × Int × Int × Int × Bool) := some (1, 0, 1, 2, 0, 0, 7, true)
set_option maxHeartbeats 8000000 in
set_option maxRecDepth 100000 in
theorem underwoodlaw32_one.calls  (r1 : Int) (r2 : Int) (r3 : Int) (r4 : Int) (r5 : Int) (r6 : Int) (r7 : Int) (r8 : Bool) (w : World) (h : underwoodlaw32_one.f  = some (r1, r2, r3, r4, r5, r6, r7, r8)) :
    Calls Try.prog 20 #[] w fun e w' => e = .returned (.agg #[.int .i64 r1, .int .i64 r2, .int .i64 r3, .int .i64 r4, .int .i64 r5, .int .i64 r6, .int .i64 r7, .bool r8]) ∧ Below w.heap.size w w' := by
  have hu48 := Try.underlying48
  have hu44 := Try.underlying44
  have hu46 := Try.underlying46
  have HB := Aside0.mk (Below.refl w.heap.size w)
  have H : (some (1, 0, 1, 2, 0, 0, 7, true)) = some (r1, r2, r3, r4, r5, r6, r7, r8) := h
  clear h
  simp only [Option.some.injEq, Prod.mk.injEq] at H
  obtain ⟨rfl, rfl, rfl, rfl, rfl, rfl, rfl, rfl⟩ := H
  go_enter Try.func20, Try.ntmps20
  go_wp2_with (first | ((with_reducible refine gate_dst (N := 0) rfl ?_); refine box_event ?hg (N := 0) ?hd (cs := #[.int .i64 0, .int .i64 0, .int .i64 0, .int .i64 0, .int .i64 0, .int .i64 0, .int .i64 0, .bool false]) (t := 48) ?hr ?_; (case hd => rfl); (case hg => rfl); (case hr => first | (go_simp; done) | (go_simp; rfl)); intro gb118 hg w1 hbox hb; have n0_ := Aside0.mk (below_step (by repeat (first | (with_reducible first | exact HB.out | apply below_alloc | apply pw_below_drewN | apply below_drew1) | exact HB.out)) hb); have n1_ := Aside0.mk (hbox); have n2_ := Aside0.mk ((by rw [hg]; exact (below_size (by repeat (first | (with_reducible first | exact HB.out | apply below_alloc | apply pw_below_drewN | apply below_drew1) | exact HB.out))) : w.heap.size ≤ gb118)); have n3_ := Aside0.mk ((by rw [hg]; exact (below_size (by repeat (first | (with_reducible first | exact HB.out | apply below_alloc | apply pw_below_drewN | apply below_drew1) | exact HB.out))) : w.heap.size ≤ gb118)); clear HB; have HB := n0_; have BK118 := n1_; have GW118 := n2_; have GE118 := n3_; clear n0_ n1_ n2_ n3_; clear hb hbox hg; have hcz2_0 : w1.cell? ⟨gb118, 0, none⟩ = some (.int .i64 0) := (blk_cell BK118.out 0).trans rfl; have hcz2_1 : w1.cell? ⟨gb118, 1, none⟩ = some (.int .i64 0) := (blk_cell BK118.out 1).trans rfl; have hcz2_2 : w1.cell? ⟨gb118, 2, none⟩ = some (.int .i64 0) := (blk_cell BK118.out 2).trans rfl; have hcz2_3 : w1.cell? ⟨gb118, 3, none⟩ = some (.int .i64 0) := (blk_cell BK118.out 3).trans rfl; have hcz2_4 : w1.cell? ⟨gb118, 4, none⟩ = some (.int .i64 0) := (blk_cell BK118.out 4).trans rfl; have hcz2_5 : w1.cell? ⟨gb118, 5, none⟩ = some (.int .i64 0) := (blk_cell BK118.out 5).trans rfl; have hcz2_6 : w1.cell? ⟨gb118, 6, none⟩ = some (.int .i64 0) := (blk_cell BK118.out 6).trans rfl; have hcz2_7 : w1.cell? ⟨gb118, 7, none⟩ = some (.bool false) := (blk_cell BK118.out 7).trans rfl; have hfz2_0 := blk_frozen BK118.out 0; have hfz2_1 := blk_frozen BK118.out 1; have hfz2_2 := blk_frozen BK118.out 2; have hfz2_3 := blk_frozen BK118.out 3; have hfz2_4 := blk_frozen BK118.out 4; have hfz2_5 := blk_frozen BK118.out 5; have hfz2_6 := blk_frozen BK118.out 6; have hfz2_7 := blk_frozen BK118.out 7))
  refine bodyPost_ret (results_cell_row rfl _ _ gb118 48 #[.int .i64 1, .int .i64 0, .int .i64 1, .int .i64 2, .int .i64 0, .int .i64 0, .int .i64 7, .bool true] (0, 0) _ rfl (by (with_reducible repeat (first | refine blk_drewN ?_ _ | refine blk_drew ?_ | refine blk_alloc ?_ _)); refine blk_put (cs := #[.int .i64 1, .int .i64 0, .int .i64 1, .int .i64 2, .int .i64 0, .int .i64 0, .int .i64 7, .bool false]) ?_ 7 _ rfl; (with_reducible repeat (first | refine blk_drewN ?_ _ | refine blk_drew ?_ | refine blk_alloc ?_ _)); refine blk_put (cs := #[.int .i64 1, .int .i64 0, .int .i64 1, .int .i64 2, .int .i64 0, .int .i64 0, .int .i64 0, .bool false]) ?_ 6 _ rfl; (with_reducible repeat (first | refine blk_drewN ?_ _ | refine blk_drew ?_ | refine blk_alloc ?_ _)); refine blk_put (cs := #[.int .i64 1, .int .i64 0, .int .i64 1, .int .i64 2, .int .i64 0, .int .i64 0, .int .i64 0, .bool false]) ?_ 5 _ rfl; (with_reducible repeat (first | refine blk_drewN ?_ _ | refine blk_drew ?_ | refine blk_alloc ?_ _)); refine blk_put (cs := #[.int .i64 1, .int .i64 0, .int .i64 1, .int .i64 2, .int .i64 0, .int .i64 0, .int .i64 0, .bool false]) ?_ 4 _ rfl; (with_reducible repeat (first | refine blk_drewN ?_ _ | refine blk_drew ?_ | refine blk_alloc ?_ _)); refine blk_put (cs := #[.int .i64 1, .int .i64 0, .int .i64 1, .int .i64 0, .int .i64 0, .int .i64 0, .int .i64 0, .bool false]) ?_ 3 _ rfl; (with_reducible repeat (first | refine blk_drewN ?_ _ | refine blk_drew ?_ | refine blk_alloc ?_ _)); refine blk_put (cs := #[.int .i64 1, .int .i64 0, .int .i64 0, .int .i64 0, .int .i64 0, .int .i64 0, .int .i64 0, .bool false]) ?_ 2 _ rfl; (with_reducible repeat (first | refine blk_drewN ?_ _ | refine blk_drew ?_ | refine blk_alloc ?_ _)); refine blk_put (cs := #[.int .i64 1, .int .i64 0, .int .i64 0, .int .i64 0, .int .i64 0, .int .i64 0, .int .i64 0, .bool false]) ?_ 1 _ rfl; (with_reducible repeat (first | refine blk_drewN ?_ _ | refine blk_drew ?_ | refine blk_alloc ?_ _)); refine blk_put (cs := #[.int .i64 0, .int .i64 0, .int .i64 0, .int .i64 0, .int .i64 0, .int .i64 0, .int .i64 0, .bool false]) ?_ 0 _ rfl; (with_reducible repeat (first | refine blk_drewN ?_ _ | refine blk_drew ?_ | refine blk_alloc ?_ _)); exact BK118.out) Try.underlying48 rfl (by kernel_rfl)) rfl ?_
  exact ⟨by first | rfl | (simp [errW_none, errW_some] <;> rfl) | (simp [*, errW_none, errW_some] <;> rfl), by repeat (first | (with_reducible first | exact HB.out | apply below_alloc | apply pw_below_drewN | apply below_drew1 | refine below_set ?_ GE118.out) | exact HB.out)⟩

end Go.Proofs.Ytiefonnhgjpbfaa.Tr
