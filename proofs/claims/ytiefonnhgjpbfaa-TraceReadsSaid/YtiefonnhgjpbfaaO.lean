/- Functions of the references of layers 3 and 32. The text was written by the kit's print for this seat, and is joined here by a program of ours. -/
import Derived.Test.YtiefonnhgjpbfaaM
namespace Go.Proofs.Ytiefonnhgjpbfaa.Tr
open Go.RowKit Go.Proofs.YtiefonnhgjpbfaaW.PrintWords Go.Proofs.YtiefonnhgjpbfaaW.PrintLast Go.Proofs.YtiefonnhgjpbfaaW.PrintMore
attribute [local go_sem] max2_int min2_int max_two min_two max_three min_three max_four min_four   -- for this text's walks alone
set_option linter.unusedVariables false
set_option linter.unusedSimpArgs false

/-! ### underwoodref03_Get: function 40 -/
mutual
def underwoodref03_Get.j1 : Nat → List Int → Int → Int → Option (Int × Int × Int)
  | 0, _, _, _ => none
  | k + 1, x0, x5, x6 => if x6 = (x0.length : Int) then (underwoodref03_Get.j2 k x0 x5 x6 true) else (underwoodref03_Get.j2 k x0 x5 x6 (x6 == 10))
def underwoodref03_Get.j2 : Nat → List Int → Int → Int → Bool → Option (Int × Int × Int)
  | 0, _, _, _, _ => none
  | k + 1, x0, x5, x6, x33 => if x33 = true then (some (0, 0, 3)) else (underwoodref03_Get.l1 k x0 x5 x6 x6)
def underwoodref03_Get.l1 : Nat → List Int → Int → Int → Int → Option (Int × Int × Int)
  | 0, _, _, _, _ => none
  | k + 1, x0, x5, x6, x7 => if x7 ≥ 0 then (if 0 ≤ x7 then (if x7 < (x0.length : Int) then (underwoodref03_Get.l1 k x0 (IntKind.u64.wrap ((IntKind.u64.wrap (128 * x5)) + (IntKind.u64.wrap (Int.tmod (rd x0 x7) 128)))) x6 (wrap64 (x7 - 1))) else (none)) else (none)) else (if (Int.tmod x5 2) = 1 then (underwoodref03_Get.j4 k x0 x6 (wrap64 ((wrap64 (-(wrap64 (IntKind.u64.wrap (Int.tdiv x5 2))))) - 1))) else (underwoodref03_Get.j4 k x0 x6 (wrap64 (IntKind.u64.wrap (Int.tdiv x5 2)))))
def underwoodref03_Get.j4 : Nat → List Int → Int → Int → Option (Int × Int × Int)
  | 0, _, _, _ => none
  | k + 1, x0, x6, x8 => (underwoodref03_Put.f k x8).bind fun t146 => (if 0 ≤ (wrap64 (x6 + 1)) then (if (wrap64 (x6 + 1)) ≤ (x0.length : Int) then ((underwoodref03_Same.f k t146 (x0.take ((wrap64 (x6 + 1)) : Int).toNat)).bind fun t150 => (if t150 = true then (some (x8, wrap64 (x6 + 1), 0)) else (some (0, 0, 3)))) else (none)) else (none))
def underwoodref03_Get.l0 : Nat → List Int → Int → Int → Option (Int × Int × Int)
  | 0, _, _, _ => none
  | k + 1, x0, x5, x6 => if x6 < (x0.length : Int) then (if x6 < 10 then (if 0 ≤ x6 then (if (rd x0 x6) ≥ 128 then (underwoodref03_Get.l0 k x0 x5 (wrap64 (x6 + 1))) else (underwoodref03_Get.j1 k x0 x5 x6)) else (none)) else (underwoodref03_Get.j1 k x0 x5 x6)) else (underwoodref03_Get.j1 k x0 x5 x6)
end
def underwoodref03_Get.f (k : Nat) (l0 : List Int) : Option (Int × Int × Int) := underwoodref03_Get.l0 k l0 0 0
theorem underwoodref03_Get.mono_l : ∀ k, (∀ y0 y1 y2, LeO (underwoodref03_Get.j1 k y0 y1 y2) (underwoodref03_Get.j1 (k + 1) y0 y1 y2)) ∧ (∀ y0 y1 y2 y3, LeO (underwoodref03_Get.j2 k y0 y1 y2 y3) (underwoodref03_Get.j2 (k + 1) y0 y1 y2 y3)) ∧ (∀ y0 y1 y2 y3, LeO (underwoodref03_Get.l1 k y0 y1 y2 y3) (underwoodref03_Get.l1 (k + 1) y0 y1 y2 y3)) ∧ (∀ y0 y1 y2, LeO (underwoodref03_Get.j4 k y0 y1 y2) (underwoodref03_Get.j4 (k + 1) y0 y1 y2)) ∧ (∀ y0 y1 y2, LeO (underwoodref03_Get.l0 k y0 y1 y2) (underwoodref03_Get.l0 (k + 1) y0 y1 y2))
  | 0 => ⟨fun _ _ _ r h => by simp [underwoodref03_Get.j1] at h, fun _ _ _ _ r h => by simp [underwoodref03_Get.j2] at h, fun _ _ _ _ r h => by simp [underwoodref03_Get.l1] at h, fun _ _ _ r h => by simp [underwoodref03_Get.j4] at h, fun _ _ _ r h => by simp [underwoodref03_Get.l0] at h⟩
  | k + 1 => by
    obtain ⟨ih0, ih1, ih2, ih3, ih4⟩ := underwoodref03_Get.mono_l k
    refine ⟨?_, ?_, ?_, ?_, ?_⟩
    · intro y0 y1 y2
      unfold underwoodref03_Get.j1
      repeat' first
      | (with_reducible exact ih0 _ _ _)
      | (with_reducible exact ih1 _ _ _ _)
      | (with_reducible exact ih2 _ _ _ _)
      | (with_reducible exact ih3 _ _ _)
      | (with_reducible exact ih4 _ _ _)
      | (with_reducible exact underwoodref03_Put.mono _ _)
      | (with_reducible exact underwoodref03_Same.mono _ _ _)
      | (with_reducible exact LeO.refl _)
      | (with_reducible exact LeO.none _)
      | (with_reducible refine LeO.ite ?_ ?_)
      | (with_reducible refine LeO.bind ?_ (fun _ => ?_))
      | exact ih0 _ _ _
      | exact ih1 _ _ _ _
      | exact ih2 _ _ _ _
      | exact ih3 _ _ _
      | exact ih4 _ _ _
      | exact underwoodref03_Put.mono _ _
      | exact underwoodref03_Same.mono _ _ _
      | exact LeO.none _
      | refine LeO.ite ?_ ?_
      | refine LeO.bind ?_ (fun _ => ?_)
    · intro y0 y1 y2 y3
      unfold underwoodref03_Get.j2
      repeat' first
      | (with_reducible exact ih0 _ _ _)
      | (with_reducible exact ih1 _ _ _ _)
      | (with_reducible exact ih2 _ _ _ _)
      | (with_reducible exact ih3 _ _ _)
      | (with_reducible exact ih4 _ _ _)
      | (with_reducible exact underwoodref03_Put.mono _ _)
      | (with_reducible exact underwoodref03_Same.mono _ _ _)
      | (with_reducible exact LeO.refl _)
      | (with_reducible exact LeO.none _)
      | (with_reducible refine LeO.ite ?_ ?_)
      | (with_reducible refine LeO.bind ?_ (fun _ => ?_))
      | exact ih0 _ _ _
      | exact ih1 _ _ _ _
      | exact ih2 _ _ _ _
      | exact ih3 _ _ _
      | exact ih4 _ _ _
      | exact underwoodref03_Put.mono _ _
      | exact underwoodref03_Same.mono _ _ _
      | exact LeO.none _
      | refine LeO.ite ?_ ?_
      | refine LeO.bind ?_ (fun _ => ?_)
    · intro y0 y1 y2 y3
      unfold underwoodref03_Get.l1
      repeat' first
      | (with_reducible exact ih0 _ _ _)
      | (with_reducible exact ih1 _ _ _ _)
      | (with_reducible exact ih2 _ _ _ _)
      | (with_reducible exact ih3 _ _ _)
      | (with_reducible exact ih4 _ _ _)
      | (with_reducible exact underwoodref03_Put.mono _ _)
      | (with_reducible exact underwoodref03_Same.mono _ _ _)
      | (with_reducible exact LeO.refl _)
      | (with_reducible exact LeO.none _)
      | (with_reducible refine LeO.ite ?_ ?_)
      | (with_reducible refine LeO.bind ?_ (fun _ => ?_))
      | exact ih0 _ _ _
      | exact ih1 _ _ _ _
      | exact ih2 _ _ _ _
      | exact ih3 _ _ _
      | exact ih4 _ _ _
      | exact underwoodref03_Put.mono _ _
      | exact underwoodref03_Same.mono _ _ _
      | exact LeO.none _
      | refine LeO.ite ?_ ?_
      | refine LeO.bind ?_ (fun _ => ?_)
    · intro y0 y1 y2
      unfold underwoodref03_Get.j4
      repeat' first
      | (with_reducible exact ih0 _ _ _)
      | (with_reducible exact ih1 _ _ _ _)
      | (with_reducible exact ih2 _ _ _ _)
      | (with_reducible exact ih3 _ _ _)
      | (with_reducible exact ih4 _ _ _)
      | (with_reducible exact underwoodref03_Put.mono _ _)
      | (with_reducible exact underwoodref03_Same.mono _ _ _)
      | (with_reducible exact LeO.refl _)
      | (with_reducible exact LeO.none _)
      | (with_reducible refine LeO.ite ?_ ?_)
      | (with_reducible refine LeO.bind ?_ (fun _ => ?_))
      | exact ih0 _ _ _
      | exact ih1 _ _ _ _
      | exact ih2 _ _ _ _
      | exact ih3 _ _ _
      | exact ih4 _ _ _
      | exact underwoodref03_Put.mono _ _
      | exact underwoodref03_Same.mono _ _ _
      | exact LeO.none _
      | refine LeO.ite ?_ ?_
      | refine LeO.bind ?_ (fun _ => ?_)
    · intro y0 y1 y2
      unfold underwoodref03_Get.l0
      repeat' first
      | (with_reducible exact ih0 _ _ _)
      | (with_reducible exact ih1 _ _ _ _)
      | (with_reducible exact ih2 _ _ _ _)
      | (with_reducible exact ih3 _ _ _)
      | (with_reducible exact ih4 _ _ _)
      | (with_reducible exact underwoodref03_Put.mono _ _)
      | (with_reducible exact underwoodref03_Same.mono _ _ _)
      | (with_reducible exact LeO.refl _)
      | (with_reducible exact LeO.none _)
      | (with_reducible refine LeO.ite ?_ ?_)
      | (with_reducible refine LeO.bind ?_ (fun _ => ?_))
      | exact ih0 _ _ _
      | exact ih1 _ _ _ _
      | exact ih2 _ _ _ _
      | exact ih3 _ _ _
      | exact ih4 _ _ _
      | exact underwoodref03_Put.mono _ _
      | exact underwoodref03_Same.mono _ _ _
      | exact LeO.none _
      | refine LeO.ite ?_ ?_
      | refine LeO.bind ?_ (fun _ => ?_)
theorem underwoodref03_Get.mono : ∀ a0 k, LeO (underwoodref03_Get.f k a0) (underwoodref03_Get.f (k + 1) a0) := by
  intro a0 k
  obtain ⟨ih0, ih1, ih2, ih3, ih4⟩ := underwoodref03_Get.mono_l k
  unfold underwoodref03_Get.f
  repeat' first
      | (with_reducible exact ih0 _ _ _)
      | (with_reducible exact ih1 _ _ _ _)
      | (with_reducible exact ih2 _ _ _ _)
      | (with_reducible exact ih3 _ _ _)
      | (with_reducible exact ih4 _ _ _)
      | (with_reducible exact underwoodref03_Put.mono _ _)
      | (with_reducible exact underwoodref03_Same.mono _ _ _)
      | (with_reducible exact LeO.refl _)
      | (with_reducible exact LeO.none _)
      | (with_reducible refine LeO.ite ?_ ?_)
      | (with_reducible refine LeO.bind ?_ (fun _ => ?_))
      | exact ih0 _ _ _
      | exact ih1 _ _ _ _
      | exact ih2 _ _ _ _
      | exact ih3 _ _ _
      | exact ih4 _ _ _
      | exact underwoodref03_Put.mono _ _
      | exact underwoodref03_Same.mono _ _ _
      | exact LeO.none _
      | refine LeO.ite ?_ ?_
      | refine LeO.bind ?_ (fun _ => ?_)
def underwoodref03_Get.T14 : Bool × List (List Nat × List Nat) := (true, [([], []), ([0], [0]), ([], []), ([], []), ([3], [3]), ([2, 4], [2, 4]), ([1, 5, 1], [1, 5]), ([6], [6])])
def underwoodref03_Get.B14 : List Nat := [0, 1, 0, 0, 8, 28, 63, 127]
theorem underwoodref03_Get.tab14 : rtab .any (opsOf Try.f40 14) = underwoodref03_Get.T14 := by kernel_rfl
theorem underwoodref03_Get.bits14 : waitsOk underwoodref03_Get.T14.2 underwoodref03_Get.B14 = true := by kernel_rfl
set_option maxHeartbeats 8000000 in
set_option maxRecDepth 100000 in
theorem underwoodref03_Get.calls (k : Nat) (A0 : Option Addr) (c0 : Nat) (l0 : List Int) (r1 : Int) (r2 : Int) (r3 : Int) (w : World) (hr0 : Kd.C (Kd.int .u8) w A0 l0.length l0) (hc0 : l0.length ≤ c0) (h : underwoodref03_Get.f k l0 = some (r1, r2, r3)) :
    Calls Try.prog 40 #[.slice A0 l0.length c0] w fun e w' => e = .returned (.tuple #[.int .i64 r1, .int .i64 r2, .int .i64 r3]) ∧ Below w.heap.size w w' := by
  have HR0 := Aside0.mk hr0
  have HC0 := Aside0.mk hc0
  clear hr0 hc0
  have HB := Aside0.mk (Below.refl w.heap.size w)
  have H : (underwoodref03_Get.l0 k l0 0 0) = some (r1, r2, r3) := h
  clear h
  have HC2 := Aside0.mk H
  clear H
  go_enter Try.func40, Try.ntmps40
  go_upto_block 0 with (fail)
  go_cut [6] (fun v6 wc => ∃ (kq : Nat) (x6_1 : Int), v6 = .int .i64 x6_1 ∧ Aside0 (underwoodref03_Get.j1 kq l0 0 x6_1 = some (r1, r2, r3)) ∧ Aside0 (kq ≤ k) ∧ Aside0 (Below w.heap.size w wc))
  case first =>
    have H := HC2.out
    clear HC2
    have H' := Aside0.mk H
    clear H
    go_wp2
    go_loopg [6] k (fun kq v6 w' => ∃ (x6_1 : Int), v6 = .int .i64 x6_1 ∧ Aside0 (underwoodref03_Get.l0 kq l0 0 x6_1 = some (r1, r2, r3)) ∧ Aside0 (kq ≤ k) ∧ Aside0 (Below w.heap.size w w'))
    case atStart => exact ⟨(0), (by first | rfl | (simp; done) | (simp [*]; done)), H', ⟨Nat.le_refl _⟩, ⟨by repeat (first | (with_reducible first | exact HB.out | apply below_alloc | apply pw_below_drewN | apply below_drew1) | exact HB.out)⟩⟩
    case round =>
      clear H'
      try clear p2
      obtain ⟨x6_1, rfl, HA, HK1, HB⟩ := hrel
      cases gk with
      | zero => exact absurd HA.out (by simp [underwoodref03_Get.l0])
      | succ k1 =>
        have H := HA.out
        clear HA
        simp only [underwoodref03_Get.l0] at H
        by_cases c3 : x6_1 < (l0.length : Int)
        · rw [if_pos c3] at H
          have c3b0 : decide (x6_1 < (l0.length : Int)) = true := decide_eq_true c3
          clear c3
          (first | rw [c3b0] | (simp only [i64_w, i32_w]; rw [c3b0]) | skip)
          by_cases c4 : x6_1 < 10
          · rw [if_pos c4] at H
            have c4b0 : decide (x6_1 < 10) = true := decide_eq_true c4
            clear c4
            by_cases c5 : 0 ≤ x6_1
            · rw [if_pos c5] at H
              have c5b0 : decide (0 ≤ x6_1) = true := decide_eq_true c5
              clear c5
              by_cases c6 : (rd l0 x6_1) ≥ 128
              · rw [if_pos c6] at H
                have c6b0 : decide (128 ≤ (rd l0 x6_1)) = true := decide_eq_true c6
                clear c6
                have H' := Aside0.mk H
                clear H
                have p144 : 0 ≤ (x6_1 : Int) := of_decide_eq_true (by first | (with_reducible assumption) | assumption)
                have q144 : x6_1 < (l0.length : Int) := of_decide_eq_true (by first | (with_reducible assumption) | assumption)
                obtain ⟨ad144, e144, hx144_0⟩ := Kd.at_int HR0.out x6_1 p144 q144
                cases e144
                replace hx144_0 := (HB.out.cell (World.block_lt_of_cell? w _ hx144_0)).trans hx144_0
                replace p144 := eq_true p144
                replace q144 := eq_true q144
                go_wp2
                go_roundg k1
                case measure => have := HK1.out; omega
                case rel => exact ⟨(wrap64 (x6_1 + 1)), (by first | rfl | (simp; done) | (simp [*]; done)), H', ⟨by have := HK1.out; omega⟩, ⟨by repeat (first | (with_reducible first | exact HB.out | apply below_alloc | apply pw_below_drewN | apply below_drew1) | exact HB.out)⟩⟩
              · rw [if_neg c6] at H
                have c6b0 : decide (128 ≤ (rd l0 x6_1)) = false := decide_eq_false c6
                clear c6
                have H' := Aside0.mk H
                clear H
                have p144 : 0 ≤ (x6_1 : Int) := of_decide_eq_true (by first | (with_reducible assumption) | assumption)
                have q144 : x6_1 < (l0.length : Int) := of_decide_eq_true (by first | (with_reducible assumption) | assumption)
                obtain ⟨ad144, e144, hx144_0⟩ := Kd.at_int HR0.out x6_1 p144 q144
                cases e144
                replace hx144_0 := (HB.out.cell (World.block_lt_of_cell? w _ hx144_0)).trans hx144_0
                replace p144 := eq_true p144
                replace q144 := eq_true q144
                go_wp2
                go_meet
                case rel => exact ⟨_, (x6_1), (by first | rfl | (simp; done) | (simp [*]; done)), H', ⟨by have := HK1.out; first | omega | exact Nat.le_refl _⟩, ⟨by repeat (first | (with_reducible first | exact HB.out | apply below_alloc | apply pw_below_drewN | apply below_drew1) | exact HB.out)⟩⟩
            · rw [if_neg c5] at H
              exact absurd H (by simp)
          · rw [if_neg c4] at H
            have c4b0 : decide (x6_1 < 10) = false := decide_eq_false c4
            clear c4
            have H' := Aside0.mk H
            clear H
            go_wp2
            go_meet
            case rel => exact ⟨_, (x6_1), (by first | rfl | (simp; done) | (simp [*]; done)), H', ⟨by have := HK1.out; first | omega | exact Nat.le_refl _⟩, ⟨by repeat (first | (with_reducible first | exact HB.out | apply below_alloc | apply pw_below_drewN | apply below_drew1) | exact HB.out)⟩⟩
        · rw [if_neg c3] at H
          have c3b0 : decide (x6_1 < (l0.length : Int)) = false := decide_eq_false c3
          clear c3
          (first | rw [c3b0] | (simp only [i64_w, i32_w]; rw [c3b0]) | skip)
          have H' := Aside0.mk H
          clear H
          go_wp2
          go_meet
          case rel => exact ⟨_, (x6_1), (by first | rfl | (simp; done) | (simp [*]; done)), H', ⟨by have := HK1.out; first | omega | exact Nat.le_refl _⟩, ⟨by repeat (first | (with_reducible first | exact HB.out | apply below_alloc | apply pw_below_drewN | apply below_drew1) | exact HB.out)⟩⟩
  case rest =>
    clear HC2
    try clear p1
    try clear q1
    try clear hx1
    try clear p2
    try clear c3
    try clear c3b0
    try clear c4
    try clear c4b0
    try clear c5
    try clear c5b0
    try clear c6
    try clear c6b0
    try clear p6
    try clear hx144_0
    try clear p144
    try clear p2
    try clear q144
    obtain ⟨kq, x6_1, rfl, HA, HJ1, HB⟩ := hcut
    cases kq with
    | zero => exact absurd HA.out (by simp [underwoodref03_Get.j1])
    | succ kj1 =>
      have H := HA.out
      clear HA
      simp only [underwoodref03_Get.j1] at H
      have HC7 := Aside0.mk H
      clear H
      go_upto_region 5 with (fail)
      go_cut [33] (fun v33 wc => ∃ (kq : Nat) (x33_6 : Bool), v33 = .bool x33_6 ∧ Aside0 (underwoodref03_Get.j2 kq l0 0 x6_1 x33_6 = some (r1, r2, r3)) ∧ Aside0 (kq ≤ kj1) ∧ Aside0 (Below w.heap.size w wc))
      case first =>
        have H := HC7.out
        clear HC7
        by_cases c8 : x6_1 = (l0.length : Int)
        · rw [if_pos c8] at H
          have c8b0 : (x6_1 == (l0.length : Int)) = true := beq_iff_eq.mpr c8
          have c8b1 : (x6_1 != (l0.length : Int)) = false := bne_eq_false_iff_eq.mpr c8
          clear c8
          (first | rw [c8b0] | (simp only [i64_w, i32_w]; rw [c8b0]) | skip)
          have H' := Aside0.mk H
          clear H
          go_wp2
          go_meet
          case rel => exact ⟨_, (true), (by first | rfl | (simp; done) | (simp [*]; done)), H', ⟨by have := HJ1.out; first | omega | exact Nat.le_refl _⟩, ⟨by repeat (first | (with_reducible first | exact HB.out | apply below_alloc | apply pw_below_drewN | apply below_drew1) | exact HB.out)⟩⟩
        · rw [if_neg c8] at H
          have c8b0 : (x6_1 == (l0.length : Int)) = false := beq_eq_false_iff_ne.mpr c8
          have c8b1 : (x6_1 != (l0.length : Int)) = true := bne_iff_ne.mpr c8
          (first | rw [c8b0] | (simp only [i64_w, i32_w]; rw [c8b0]) | skip)
          have H' := Aside0.mk H
          clear H
          go_wp2
          go_meet
          case rel => exact ⟨_, ((x6_1 == 10)), (by first | rfl | (simp; done) | (simp [*]; done)), H', ⟨by have := HJ1.out; first | omega | exact Nat.le_refl _⟩, ⟨by repeat (first | (with_reducible first | exact HB.out | apply below_alloc | apply pw_below_drewN | apply below_drew1) | exact HB.out)⟩⟩
      case rest =>
        clear HC7
        try clear p1
        try clear q1
        try clear hx1
        try clear p2
        try clear c3
        try clear c3b0
        try clear c4
        try clear c4b0
        try clear c5
        try clear c5b0
        try clear c6
        try clear c6b0
        try clear p6
        try clear c8
        try clear c8b0
        try clear c8b1
        try clear hx144_0
        try clear p1
        try clear p144
        try clear p2
        try clear p6
        try clear q1
        try clear q144
        obtain ⟨kq, x33_6, rfl, HA, HJ6, HB⟩ := hcut
        cases kq with
        | zero => exact absurd HA.out (by simp [underwoodref03_Get.j2])
        | succ kj6 =>
          have H := HA.out
          clear HA
          simp only [underwoodref03_Get.j2] at H
          by_cases c9 : x33_6 = true
          · subst c9
            have H1 : (some (0, 0, 3)) = some (r1, r2, r3) := by rw [if_pos rfl] at H; exact H
            clear H
            have H := H1
            clear H1
            simp only [Option.some.injEq, Prod.mk.injEq] at H
            obtain ⟨rfl, rfl, rfl⟩ := H
            go_wp2
            go_ret3
            exact ⟨by first | rfl | (simp [errW_none, errW_some] <;> rfl) | (simp [*, errW_none, errW_some] <;> rfl), by repeat (first | (with_reducible first | exact HB.out | apply below_alloc | apply pw_below_drewN | apply below_drew1) | exact HB.out)⟩
          · replace c9 := Bool.eq_false_iff.mpr c9
            subst c9
            have H1 : (underwoodref03_Get.l1 kj6 l0 0 x6_1 x6_1) = some (r1, r2, r3) := by rw [if_neg (show ¬ (false = true) by decide)] at H; exact H
            clear H
            have H := H1
            clear H1
            have H' := Aside0.mk H
            clear H
            go_wp2
            go_loopg [5, 7] kj6 (fun kq v5 v7 w' => ∃ (x5_3 : Int) (x7_3 : Int), v5 = .int .u64 x5_3 ∧ v7 = .int .i64 x7_3 ∧ Aside0 (underwoodref03_Get.l1 kq l0 x5_3 x6_1 x7_3 = some (r1, r2, r3)) ∧ Aside0 (kq ≤ kj6) ∧ Aside0 (Below w.heap.size w w'))
            case atStart => exact ⟨(0), (x6_1), (by first | rfl | (simp; done) | (simp [*]; done)), (by first | rfl | (simp; done) | (simp [*]; done)), H', ⟨Nat.le_refl _⟩, ⟨by repeat (first | (with_reducible first | exact HB.out | apply below_alloc | apply pw_below_drewN | apply below_drew1) | exact HB.out)⟩⟩
            case round =>
              clear H'
              try clear p1
              try clear q1
              try clear hx1
              try clear p2
              try clear c3
              try clear c3b0
              try clear c4
              try clear c4b0
              try clear c5
              try clear c5b0
              try clear c6
              try clear c6b0
              try clear p6
              try clear c8
              try clear c8b0
              try clear c8b1
              try clear c9
              try clear hx144_0
              try clear p1
              try clear p144
              try clear p2
              try clear p6
              try clear q1
              try clear q144
              obtain ⟨x5_3, x7_3, rfl, rfl, HA, HK3, HB⟩ := hrel
              cases gk with
              | zero => exact absurd HA.out (by simp [underwoodref03_Get.l1])
              | succ k3 =>
                have H := HA.out
                clear HA
                simp only [underwoodref03_Get.l1] at H
                by_cases c10 : x7_3 ≥ 0
                · rw [if_pos c10] at H
                  have c10b0 : decide (0 ≤ x7_3) = true := decide_eq_true c10
                  clear c10
                  by_cases c11 : 0 ≤ x7_3
                  · rw [if_pos c11] at H
                    have c11b0 : decide (0 ≤ x7_3) = true := decide_eq_true c11
                    clear c11
                    by_cases c12 : x7_3 < (l0.length : Int)
                    · rw [if_pos c12] at H
                      have c12b0 : decide (x7_3 < (l0.length : Int)) = true := decide_eq_true c12
                      clear c12
                      have H' := Aside0.mk H
                      clear H
                      have p145 : 0 ≤ (x7_3 : Int) := of_decide_eq_true (by first | (with_reducible assumption) | assumption)
                      have q145 : x7_3 < (l0.length : Int) := of_decide_eq_true (by first | (with_reducible assumption) | assumption)
                      obtain ⟨ad145, e145, hx145_0⟩ := Kd.at_int HR0.out x7_3 p145 q145
                      cases e145
                      replace hx145_0 := (HB.out.cell (World.block_lt_of_cell? w _ hx145_0)).trans hx145_0
                      replace p145 := eq_true p145
                      replace q145 := eq_true q145
                      go_wp2
                      go_roundg k3
                      case measure => have := HJ1.out; have := HJ6.out; have := HK3.out; omega
                      case rel => exact ⟨(IntKind.u64.wrap ((IntKind.u64.wrap (128 * x5_3)) + (IntKind.u64.wrap (Int.tmod (rd l0 x7_3) 128)))), (wrap64 (x7_3 - 1)), (by first | rfl | (simp; done) | (simp [*]; done)), (by first | rfl | (simp; done) | (simp [*]; done)), H', ⟨by have := HJ1.out; have := HJ6.out; have := HK3.out; omega⟩, ⟨by repeat (first | (with_reducible first | exact HB.out | apply below_alloc | apply pw_below_drewN | apply below_drew1) | exact HB.out)⟩⟩
                    · rw [if_neg c12] at H
                      exact absurd H (by simp)
                  · rw [if_neg c11] at H
                    exact absurd H (by simp)
                · rw [if_neg c10] at H
                  have c10b0 : decide (0 ≤ x7_3) = false := decide_eq_false c10
                  clear c10
                  have HC13 := Aside0.mk H
                  clear H
                  go_upto_if 53 with (fail)
                  go_cut [8] (fun v8 wc => ∃ (kq : Nat) (x8_12 : Int), v8 = .int .i64 x8_12 ∧ Aside0 (underwoodref03_Get.j4 kq l0 x6_1 x8_12 = some (r1, r2, r3)) ∧ Aside0 (kq ≤ k3) ∧ Aside0 (Below w.heap.size w wc))
                  case first =>
                    have H := HC13.out
                    clear HC13
                    by_cases c14 : (Int.tmod x5_3 2) = 1
                    · rw [if_pos c14] at H
                      have c14b0 : ((Int.tmod x5_3 2) == 1) = true := beq_iff_eq.mpr c14
                      have c14b1 : ((Int.tmod x5_3 2) != 1) = false := bne_eq_false_iff_eq.mpr c14
                      clear c14
                      (first | rw [c14b0] | (simp only [i64_w, i32_w]; rw [c14b0]) | skip)
                      have H' := Aside0.mk H
                      clear H
                      go_wp2
                      go_meet
                      case rel => exact ⟨_, (wrap64 ((wrap64 (-(wrap64 (IntKind.u64.wrap (Int.tdiv x5_3 2))))) - 1)), (by first | rfl | (simp; done) | (simp [*]; done)), H', ⟨by have := HJ1.out; have := HJ6.out; have := HK3.out; first | omega | exact Nat.le_refl _⟩, ⟨by repeat (first | (with_reducible first | exact HB.out | apply below_alloc | apply pw_below_drewN | apply below_drew1) | exact HB.out)⟩⟩
                    · rw [if_neg c14] at H
                      have c14b0 : ((Int.tmod x5_3 2) == 1) = false := beq_eq_false_iff_ne.mpr c14
                      have c14b1 : ((Int.tmod x5_3 2) != 1) = true := bne_iff_ne.mpr c14
                      (first | rw [c14b0] | (simp only [i64_w, i32_w]; rw [c14b0]) | skip)
                      have H' := Aside0.mk H
                      clear H
                      go_wp2
                      go_meet
                      case rel => exact ⟨_, (wrap64 (IntKind.u64.wrap (Int.tdiv x5_3 2))), (by first | rfl | (simp; done) | (simp [*]; done)), H', ⟨by have := HJ1.out; have := HJ6.out; have := HK3.out; first | omega | exact Nat.le_refl _⟩, ⟨by repeat (first | (with_reducible first | exact HB.out | apply below_alloc | apply pw_below_drewN | apply below_drew1) | exact HB.out)⟩⟩
                  case rest =>
                    clear HC13
                    try clear c1
                    try clear p1
                    try clear q1
                    try clear hx1
                    try clear p2
                    try clear c3
                    try clear c3b0
                    try clear c4
                    try clear c4b0
                    try clear c5
                    try clear c5b0
                    try clear c6
                    try clear c6b0
                    try clear p6
                    try clear c8
                    try clear c8b0
                    try clear c8b1
                    try clear c9
                    try clear c10
                    try clear c10b0
                    try clear c11
                    try clear c11b0
                    try clear c12
                    try clear c12b0
                    try clear c14
                    try clear c14b0
                    try clear c14b1
                    try clear p14
                    try clear q14
                    try clear hx14
                    try clear hx144_0
                    try clear hx145_0
                    try clear p1
                    try clear p144
                    try clear p145
                    try clear p2
                    try clear p6
                    try clear q1
                    try clear q144
                    try clear q145
                    obtain ⟨kq, x8_12, rfl, HA, HJ12, HB⟩ := hcut
                    cases kq with
                    | zero => exact absurd HA.out (by simp [underwoodref03_Get.j4])
                    | succ kj12 =>
                      have H := HA.out
                      clear HA
                      simp only [underwoodref03_Get.j4] at H
                      replace H := Option.bind_eq_some_iff.mp H
                      obtain ⟨t146, A150, H⟩ := H
                      replace H : (if 0 ≤ (wrap64 (x6_1 + 1)) then (if (wrap64 (x6_1 + 1)) ≤ (l0.length : Int) then ((underwoodref03_Same.f kj12 t146 (l0.take ((wrap64 (x6_1 + 1)) : Int).toNat)).bind fun t150 => (if t150 = true then (some (x8_12, wrap64 (x6_1 + 1), 0)) else (some (0, 0, 3)))) else (none)) else (none)) = some (r1, r2, r3) := H
                      have A15 := Aside0.mk A150
                      clear A150
                      obtain ⟨ji16, hji16⟩ : ∃ j_ : Int, (wrap64 (x6_1 + 1)) = j_ := ⟨_, rfl⟩
                      replace H : (if 0 ≤ (ji16) then (if (ji16) ≤ (l0.length : Int) then ((underwoodref03_Same.f kj12 t146 (l0.take ((ji16) : Int).toNat)).bind fun t150 => (if t150 = true then (some (x8_12, ji16, 0)) else (some (0, 0, 3)))) else (none)) else (none)) = some (r1, r2, r3) := by first | (rw [hji16] at H; exact H) | (simp only [hji16] at H ⊢; exact H)
                      (try rw [hji16] at A15)
                      have hji16w : (IntKind.i64.wrap (x6_1 + 1)) = ji16 := (i64_w _).trans hji16
                      by_cases c17 : 0 ≤ (ji16)
                      · rw [if_pos c17] at H
                        have c17b0 := eq_true c17
                        have c17b1 : decide (0 ≤ (ji16)) = true := decide_eq_true c17
                        clear c17
                        by_cases c18 : (ji16) ≤ (l0.length : Int)
                        · rw [if_pos c18] at H
                          have c18b0 := eq_true c18
                          have c18b1 : decide ((ji16) ≤ (l0.length : Int)) = true := decide_eq_true c18
                          clear c18
                          replace H := Option.bind_eq_some_iff.mp H
                          obtain ⟨t150, A190, H⟩ := H
                          replace H : (if t150 = true then (some (x8_12, ji16, 0)) else (some (0, 0, 3))) = some (r1, r2, r3) := H
                          have A19 := Aside0.mk A190
                          clear A190
                          by_cases c20 : t150 = true
                          · subst c20
                            have H1 : (some (x8_12, ji16, 0)) = some (r1, r2, r3) := by rw [if_pos rfl] at H; exact H
                            clear H
                            have H := H1
                            clear H1
                            simp only [Option.some.injEq, Prod.mk.injEq] at H
                            obtain ⟨rfl, rfl, rfl⟩ := H
                            try go_wp2
                            have n0_ := Aside0.mk (below_drew1 HB.out)
                            clear HB
                            have HB := n0_
                            clear n0_
                            obtain ⟨i022, hi022, _, hsz22, _⟩ := info_parts info5
                            obtain ⟨hcut22, hA22, hC22⟩ := print_take_of (P := Try.prog) (Value.int .u8) 0 24 5 .i64 Try.underlying24 hi022 hsz22 A0 c0 l0 (ji16) (of_decide_eq_true (by first | (with_reducible assumption) | assumption)) (of_decide_eq_true (by first | (with_reducible assumption) | assumption)) HC0.out
                            have HR149 := Aside0.mk (Kd.C_of_reads (h1 := fun _ => rfl) (hA22 _ (Kd.reads_of_C HR0.out)))
                            have HC149 := Aside0.mk hC22
                            clear hA22 hC22 hi022 hsz22
                            refine start_ (n := 8) (S := fun w' => True) (ds := []) #[false, false, false, false, false, false, false, false] (by kernel_rfl) rfl rfl trivial (fun hHeld => ?_); refine with_tabW underwoodref03_Get.tab14 underwoodref03_Get.bits14 (fun HT_ HW_ => ?_)
                            generalize wc.drew = w21 at HB HR149 hHeld ⊢
                            refine pure_ (i := 0) (N := some 57) (v := ?_) (a' := ?_) #[true, false, false, false, false, false, false, false] rfl rfl (any_of HT_.out (by kernel_rfl)) (fun _ _ _ h => h) (Or.inl ⟨by rfl, ?_⟩) ?_ ?_
                            rotate_left
                            · intro w'
                              go_simp
                              with_reducible rfl
                            rotate_left
                            · simp only [Act.put, List.setIfInBounds_toArray, List.set_cons_zero, List.set_cons_succ, i64_w, i32_w]
                              rfl
                            refine pure_ (i := 2) (N := some 59) (v := ?_) (a' := ?_) #[true, false, true, false, false, false, false, false] rfl rfl (any_of HT_.out (by kernel_rfl)) (fun _ _ _ h => h) (Or.inl ⟨by rfl, ?_⟩) ?_ ?_
                            rotate_left
                            · intro w'
                              go_simp
                              with_reducible rfl
                            rotate_left
                            · simp only [Act.put, List.setIfInBounds_toArray, List.set_cons_zero, List.set_cons_succ, i64_w, i32_w]
                              rfl
                            refine pure_ (i := 3) (N := some 60) (v := ?_) (a' := ?_) #[true, false, true, true, false, false, false, false] rfl rfl (any_of HT_.out (by kernel_rfl)) (fun _ _ _ h => h) (Or.inl ⟨by rfl, ?_⟩) ?_ ?_
                            rotate_left
                            · intro w'
                              go_simp
                              with_reducible rfl
                            rotate_left
                            · simp only [Act.put, List.setIfInBounds_toArray, List.set_cons_zero, List.set_cons_succ, i64_w, i32_w]
                              rfl
                            refine pure_ (i := 4) (N := some 61) (v := ?_) (a' := ?_) #[true, false, true, true, true, false, false, false] rfl rfl (any_of HT_.out (by kernel_rfl)) (fun _ _ _ h => h) (Or.inl ⟨by rfl, ?_⟩) ?_ ?_
                            rotate_left
                            · intro w'
                              go_simp
                              with_reducible rfl
                            rotate_left
                            · simp only [Act.put, List.setIfInBounds_toArray, List.set_cons_zero, List.set_cons_succ, i64_w, i32_w]
                              rfl
                            refine pure_ (i := 5) (N := some 62) (v := ?_) (a' := ?_) #[true, false, true, true, true, true, false, false] rfl rfl (any_of HT_.out (by kernel_rfl)) (fun _ _ _ h => h) (Or.inl ⟨by rfl, ?_⟩) ?_ ?_
                            rotate_left
                            · intro w'
                              go_simp
                              with_reducible rfl
                            rotate_left
                            · simp only [Act.put, List.setIfInBounds_toArray, List.set_cons_zero, List.set_cons_succ, i64_w, i32_w]
                              rfl
                            refine one_ (i := 1) (N := some 58) #[true, true, true, true, true, true, false, false] rfl rfl (one_of HT_.out (by kernel_rfl)) (by decide) (fun K hK => ?_)
                            refine goes_ Try.func38 (by kernel_rfl) rfl #[.int .i64 x8_12] (by rfl) rfl rfl (by (try simp only [List.map_toArray, List.map_cons, List.map_nil]); first | done | rfl | (simp only [List.length_drop, List.length_take]; rfl)) ?_
                            with_reducible refine (underwoodref03_Put.calls kj12 x8_12 t146 _ A15.out).mono ?_
                            rintro e w23 ⟨v147, rfl, ho0, hb⟩
                            refine ⟨_, rfl, ?_⟩
                            have n0_ := Aside0.mk (Kd.R_lower ho0 (below_size (by repeat (first | (with_reducible first | exact HB.out | apply below_alloc | apply pw_below_drewN | apply below_drew1) | exact HB.out))))
                            have n1_ := Aside0.mk (below_step (by repeat (first | (with_reducible first | exact HB.out | apply below_alloc | apply pw_below_drewN | apply below_drew1) | exact HB.out)) hb)
                            clear HB
                            have HO148 := n0_
                            have HB := n1_
                            clear n0_ n1_
                            (try clear hb)
                            (try clear hb2)
                            (try clear hk)
                            (try clear hi)
                            (try clear ho0)
                            obtain ⟨Ao24, co24, eo24⟩ := Kd.R_slice HO148.out
                            (first | subst eo24 | (injection eo24 with f1_ f2_ f3_; have f4_ := f1_.symm; have f5_ := f3_.symm; clear f1_ f2_ f3_; subst f4_; subst f5_))
                            refine hK.out _ _ trivial (fun hHeld => ?_)
                            clear hK K
                            refine norm_ (a' := ?_) ?_ ?_
                            rotate_left
                            · show Act.put _ (some 58) _ = _
                              simp only [Act.put, List.setIfInBounds_toArray, List.set_cons_zero, List.set_cons_succ, i64_w, i32_w]
                              rfl
                            refine one_ (i := 6) (N := some 63) #[true, true, true, true, true, true, true, false] rfl rfl (one_of HT_.out (by kernel_rfl)) (by decide) (fun K hK => ?_)
                            refine goes_ Try.func11 (by kernel_rfl) rfl #[.slice Ao24 t146.length co24, .slice A0 (l0.take ((ji16) : Int).toNat).length c0] (by rfl) rfl rfl (by (try simp only [List.map_toArray, List.map_cons, List.map_nil]); first | done | (rw [show (l0.take ((ji16) : Int).toNat).length = (ji16).toNat from (by rw [List.length_take]; have h_ : ((ji16) : Int) ≤ (l0.length : Int) := of_decide_eq_true (by first | (with_reducible assumption) | assumption); omega)] <;> rfl) | (simp only [hji16]; rfl) | rfl | (simp only [List.length_drop, List.length_take]; rfl)) ?_
                            with_reducible refine (underwoodref03_Same.calls kj12 _ _ t146 _ _ (l0.take ((ji16) : Int).toNat) true _ ?side1 ?side2 ?side3 ?side4 A19.out).mono ?_
                            (case side1 => repeat (first | exact (Kd.R_reads' HO148.out).2.2 | (with_reducible refine Kd.C_alloc ?_ _) | (with_reducible refine Kd.C_drewN ?_ _) | (with_reducible refine Kd.C_drew ?_)))
                            (case side2 => exact (Kd.R_reads' HO148.out).2.1)
                            (case side3 => repeat (first | exact (Kd.C_below HR149.out HB.out) | (with_reducible refine Kd.C_alloc ?_ _) | (with_reducible refine Kd.C_drewN ?_ _) | (with_reducible refine Kd.C_drew ?_)))
                            (case side4 => exact HC149.out)
                            rintro e w' ⟨rfl, ⟨nd, rfl⟩⟩
                            refine ⟨_, rfl, ?_⟩
                            refine hK.out _ _ trivial (fun hHeld => ?_)
                            clear hK K
                            refine norm_ (a' := ?_) ?_ ?_
                            rotate_left
                            · show Act.put _ (some 63) _ = _
                              simp only [Act.put, List.setIfInBounds_toArray, List.set_cons_zero, List.set_cons_succ, i64_w, i32_w]
                              rfl
                            refine pure_ (i := 7) (N := some 64) (v := ?_) (a' := ?_) #[true, true, true, true, true, true, true, true] rfl rfl (any_of HT_.out (by kernel_rfl)) (fun _ _ _ h => h) (Or.inl ⟨by rfl, ?_⟩) ?_ ?_
                            rotate_left
                            · intro w'
                              go_simp
                              with_reducible rfl
                            rotate_left
                            · simp only [Act.put, List.setIfInBounds_toArray, List.set_cons_zero, List.set_cons_succ, i64_w, i32_w]
                              rfl
                            refine done_ (done_of HT_.out (by kernel_rfl)) ?_
                            try go_wp2
                            go_ret3
                            exact ⟨by first | rfl | (simp [errW_none, errW_some] <;> rfl) | (simp only [← hji16]; first | rfl | (simp [errW_none, errW_some] <;> rfl)) | (simp [*, errW_none, errW_some] <;> rfl), by repeat (first | (with_reducible first | exact HB.out | apply below_alloc | apply pw_below_drewN | apply below_drew1) | exact HB.out)⟩
                          · replace c20 := Bool.eq_false_iff.mpr c20
                            subst c20
                            have H1 : (some (0, 0, 3)) = some (r1, r2, r3) := by rw [if_neg (show ¬ (false = true) by decide)] at H; exact H
                            clear H
                            have H := H1
                            clear H1
                            simp only [Option.some.injEq, Prod.mk.injEq] at H
                            obtain ⟨rfl, rfl, rfl⟩ := H
                            try go_wp2
                            have n0_ := Aside0.mk (below_drew1 HB.out)
                            clear HB
                            have HB := n0_
                            clear n0_
                            obtain ⟨i026, hi026, _, hsz26, _⟩ := info_parts info5
                            obtain ⟨hcut26, hA26, hC26⟩ := print_take_of (P := Try.prog) (Value.int .u8) 0 24 5 .i64 Try.underlying24 hi026 hsz26 A0 c0 l0 (ji16) (of_decide_eq_true (by first | (with_reducible assumption) | assumption)) (of_decide_eq_true (by first | (with_reducible assumption) | assumption)) HC0.out
                            have HR149 := Aside0.mk (Kd.C_of_reads (h1 := fun _ => rfl) (hA26 _ (Kd.reads_of_C HR0.out)))
                            have HC149 := Aside0.mk hC26
                            clear hA26 hC26 hi026 hsz26
                            refine start_ (n := 8) (S := fun w' => True) (ds := []) #[false, false, false, false, false, false, false, false] (by kernel_rfl) rfl rfl trivial (fun hHeld => ?_); refine with_tabW underwoodref03_Get.tab14 underwoodref03_Get.bits14 (fun HT_ HW_ => ?_)
                            generalize wc.drew = w25 at HB HR149 hHeld ⊢
                            refine pure_ (i := 0) (N := some 57) (v := ?_) (a' := ?_) #[true, false, false, false, false, false, false, false] rfl rfl (any_of HT_.out (by kernel_rfl)) (fun _ _ _ h => h) (Or.inl ⟨by rfl, ?_⟩) ?_ ?_
                            rotate_left
                            · intro w'
                              go_simp
                              with_reducible rfl
                            rotate_left
                            · simp only [Act.put, List.setIfInBounds_toArray, List.set_cons_zero, List.set_cons_succ, i64_w, i32_w]
                              rfl
                            refine pure_ (i := 2) (N := some 59) (v := ?_) (a' := ?_) #[true, false, true, false, false, false, false, false] rfl rfl (any_of HT_.out (by kernel_rfl)) (fun _ _ _ h => h) (Or.inl ⟨by rfl, ?_⟩) ?_ ?_
                            rotate_left
                            · intro w'
                              go_simp
                              with_reducible rfl
                            rotate_left
                            · simp only [Act.put, List.setIfInBounds_toArray, List.set_cons_zero, List.set_cons_succ, i64_w, i32_w]
                              rfl
                            refine pure_ (i := 3) (N := some 60) (v := ?_) (a' := ?_) #[true, false, true, true, false, false, false, false] rfl rfl (any_of HT_.out (by kernel_rfl)) (fun _ _ _ h => h) (Or.inl ⟨by rfl, ?_⟩) ?_ ?_
                            rotate_left
                            · intro w'
                              go_simp
                              with_reducible rfl
                            rotate_left
                            · simp only [Act.put, List.setIfInBounds_toArray, List.set_cons_zero, List.set_cons_succ, i64_w, i32_w]
                              rfl
                            refine pure_ (i := 4) (N := some 61) (v := ?_) (a' := ?_) #[true, false, true, true, true, false, false, false] rfl rfl (any_of HT_.out (by kernel_rfl)) (fun _ _ _ h => h) (Or.inl ⟨by rfl, ?_⟩) ?_ ?_
                            rotate_left
                            · intro w'
                              go_simp
                              with_reducible rfl
                            rotate_left
                            · simp only [Act.put, List.setIfInBounds_toArray, List.set_cons_zero, List.set_cons_succ, i64_w, i32_w]
                              rfl
                            refine pure_ (i := 5) (N := some 62) (v := ?_) (a' := ?_) #[true, false, true, true, true, true, false, false] rfl rfl (any_of HT_.out (by kernel_rfl)) (fun _ _ _ h => h) (Or.inl ⟨by rfl, ?_⟩) ?_ ?_
                            rotate_left
                            · intro w'
                              go_simp
                              with_reducible rfl
                            rotate_left
                            · simp only [Act.put, List.setIfInBounds_toArray, List.set_cons_zero, List.set_cons_succ, i64_w, i32_w]
                              rfl
                            refine one_ (i := 1) (N := some 58) #[true, true, true, true, true, true, false, false] rfl rfl (one_of HT_.out (by kernel_rfl)) (by decide) (fun K hK => ?_)
                            refine goes_ Try.func38 (by kernel_rfl) rfl #[.int .i64 x8_12] (by rfl) rfl rfl (by (try simp only [List.map_toArray, List.map_cons, List.map_nil]); first | done | rfl | (simp only [List.length_drop, List.length_take]; rfl)) ?_
                            with_reducible refine (underwoodref03_Put.calls kj12 x8_12 t146 _ A15.out).mono ?_
                            rintro e w27 ⟨v147, rfl, ho0, hb⟩
                            refine ⟨_, rfl, ?_⟩
                            have n0_ := Aside0.mk (Kd.R_lower ho0 (below_size (by repeat (first | (with_reducible first | exact HB.out | apply below_alloc | apply pw_below_drewN | apply below_drew1) | exact HB.out))))
                            have n1_ := Aside0.mk (below_step (by repeat (first | (with_reducible first | exact HB.out | apply below_alloc | apply pw_below_drewN | apply below_drew1) | exact HB.out)) hb)
                            clear HB
                            have HO148 := n0_
                            have HB := n1_
                            clear n0_ n1_
                            (try clear hb)
                            (try clear hb2)
                            (try clear hk)
                            (try clear hi)
                            (try clear ho0)
                            obtain ⟨Ao28, co28, eo28⟩ := Kd.R_slice HO148.out
                            (first | subst eo28 | (injection eo28 with f1_ f2_ f3_; have f4_ := f1_.symm; have f5_ := f3_.symm; clear f1_ f2_ f3_; subst f4_; subst f5_))
                            refine hK.out _ _ trivial (fun hHeld => ?_)
                            clear hK K
                            refine norm_ (a' := ?_) ?_ ?_
                            rotate_left
                            · show Act.put _ (some 58) _ = _
                              simp only [Act.put, List.setIfInBounds_toArray, List.set_cons_zero, List.set_cons_succ, i64_w, i32_w]
                              rfl
                            refine one_ (i := 6) (N := some 63) #[true, true, true, true, true, true, true, false] rfl rfl (one_of HT_.out (by kernel_rfl)) (by decide) (fun K hK => ?_)
                            refine goes_ Try.func11 (by kernel_rfl) rfl #[.slice Ao28 t146.length co28, .slice A0 (l0.take ((ji16) : Int).toNat).length c0] (by rfl) rfl rfl (by (try simp only [List.map_toArray, List.map_cons, List.map_nil]); first | done | (rw [show (l0.take ((ji16) : Int).toNat).length = (ji16).toNat from (by rw [List.length_take]; have h_ : ((ji16) : Int) ≤ (l0.length : Int) := of_decide_eq_true (by first | (with_reducible assumption) | assumption); omega)] <;> rfl) | (simp only [hji16]; rfl) | rfl | (simp only [List.length_drop, List.length_take]; rfl)) ?_
                            with_reducible refine (underwoodref03_Same.calls kj12 _ _ t146 _ _ (l0.take ((ji16) : Int).toNat) false _ ?side1 ?side2 ?side3 ?side4 A19.out).mono ?_
                            (case side1 => repeat (first | exact (Kd.R_reads' HO148.out).2.2 | (with_reducible refine Kd.C_alloc ?_ _) | (with_reducible refine Kd.C_drewN ?_ _) | (with_reducible refine Kd.C_drew ?_)))
                            (case side2 => exact (Kd.R_reads' HO148.out).2.1)
                            (case side3 => repeat (first | exact (Kd.C_below HR149.out HB.out) | (with_reducible refine Kd.C_alloc ?_ _) | (with_reducible refine Kd.C_drewN ?_ _) | (with_reducible refine Kd.C_drew ?_)))
                            (case side4 => exact HC149.out)
                            rintro e w' ⟨rfl, ⟨nd, rfl⟩⟩
                            refine ⟨_, rfl, ?_⟩
                            refine hK.out _ _ trivial (fun hHeld => ?_)
                            clear hK K
                            refine norm_ (a' := ?_) ?_ ?_
                            rotate_left
                            · show Act.put _ (some 63) _ = _
                              simp only [Act.put, List.setIfInBounds_toArray, List.set_cons_zero, List.set_cons_succ, i64_w, i32_w]
                              rfl
                            refine pure_ (i := 7) (N := some 64) (v := ?_) (a' := ?_) #[true, true, true, true, true, true, true, true] rfl rfl (any_of HT_.out (by kernel_rfl)) (fun _ _ _ h => h) (Or.inl ⟨by rfl, ?_⟩) ?_ ?_
                            rotate_left
                            · intro w'
                              go_simp
                              with_reducible rfl
                            rotate_left
                            · simp only [Act.put, List.setIfInBounds_toArray, List.set_cons_zero, List.set_cons_succ, i64_w, i32_w]
                              rfl
                            refine done_ (done_of HT_.out (by kernel_rfl)) ?_
                            try go_wp2
                            go_ret3
                            exact ⟨by first | rfl | (simp [errW_none, errW_some] <;> rfl) | (simp only [← hji16]; first | rfl | (simp [errW_none, errW_some] <;> rfl)) | (simp [*, errW_none, errW_some] <;> rfl), by repeat (first | (with_reducible first | exact HB.out | apply below_alloc | apply pw_below_drewN | apply below_drew1) | exact HB.out)⟩
                        · rw [if_neg c18] at H
                          exact absurd H (by simp)
                      · rw [if_neg c17] at H
                        exact absurd H (by simp)

/-! ### underwoodref03_GetNums: function 33 -/
mutual
def underwoodref03_GetNums.j0 : Nat → List Int → Int → Int → Bool → Option (List Int × Int × Int)
  | 0, _, _, _, _ => none
  | k + 1, x0, x5, x6, x24 => if x24 = true then (some (([] : List Int), 0, 3)) else (underwoodref03_GetNums.l0 k x0 x5 x6 ([] : List Int) 0)
def underwoodref03_GetNums.l0 : Nat → List Int → Int → Int → List Int → Int → Option (List Int × Int × Int)
  | 0, _, _, _, _, _ => none
  | k + 1, x0, x5, x6, x8, x9 => if x9 < x5 then (if 0 ≤ x6 then (if x6 ≤ (x0.length : Int) then ((underwoodref03_Get.f k (x0.drop (x6 : Int).toNat)).bind fun bt174 => (if bt174.2.2 = 0 then (if x8.length < 17592186044416 then (underwoodref03_GetNums.l0 k x0 x5 (wrap64 (x6 + bt174.2.1)) (x8 ++ [bt174.1]) (wrap64 (x9 + 1))) else (none)) else (some (([] : List Int), 0, 3)))) else (none)) else (none)) else (some (x8, x6, 0))
end
def underwoodref03_GetNums.f (k : Nat) (l0 : List Int) : Option (List Int × Int × Int) := (underwoodref03_Get.f k l0).bind fun bt170 => (if bt170.2.2 = 0 then (underwoodref03_GetNums.j0 k l0 bt170.1 bt170.2.1 (decide (bt170.1 < 0))) else (underwoodref03_GetNums.j0 k l0 bt170.1 bt170.2.1 true))
theorem underwoodref03_GetNums.mono_l : ∀ k, (∀ y0 y1 y2 y3, LeO (underwoodref03_GetNums.j0 k y0 y1 y2 y3) (underwoodref03_GetNums.j0 (k + 1) y0 y1 y2 y3)) ∧ (∀ y0 y1 y2 y3 y4, LeO (underwoodref03_GetNums.l0 k y0 y1 y2 y3 y4) (underwoodref03_GetNums.l0 (k + 1) y0 y1 y2 y3 y4))
  | 0 => ⟨fun _ _ _ _ r h => by simp [underwoodref03_GetNums.j0] at h, fun _ _ _ _ _ r h => by simp [underwoodref03_GetNums.l0] at h⟩
  | k + 1 => by
    obtain ⟨ih0, ih1⟩ := underwoodref03_GetNums.mono_l k
    refine ⟨?_, ?_⟩
    · intro y0 y1 y2 y3
      unfold underwoodref03_GetNums.j0
      repeat' first
      | (with_reducible exact ih0 _ _ _ _)
      | (with_reducible exact ih1 _ _ _ _ _)
      | (with_reducible exact underwoodref03_Get.mono _ _)
      | (with_reducible exact LeO.refl _)
      | (with_reducible exact LeO.none _)
      | (with_reducible refine LeO.ite ?_ ?_)
      | (with_reducible refine LeO.bind ?_ (fun _ => ?_))
      | exact ih0 _ _ _ _
      | exact ih1 _ _ _ _ _
      | exact underwoodref03_Get.mono _ _
      | exact LeO.none _
      | refine LeO.ite ?_ ?_
      | refine LeO.bind ?_ (fun _ => ?_)
    · intro y0 y1 y2 y3 y4
      unfold underwoodref03_GetNums.l0
      repeat' first
      | (with_reducible exact ih0 _ _ _ _)
      | (with_reducible exact ih1 _ _ _ _ _)
      | (with_reducible exact underwoodref03_Get.mono _ _)
      | (with_reducible exact LeO.refl _)
      | (with_reducible exact LeO.none _)
      | (with_reducible refine LeO.ite ?_ ?_)
      | (with_reducible refine LeO.bind ?_ (fun _ => ?_))
      | exact ih0 _ _ _ _
      | exact ih1 _ _ _ _ _
      | exact underwoodref03_Get.mono _ _
      | exact LeO.none _
      | refine LeO.ite ?_ ?_
      | refine LeO.bind ?_ (fun _ => ?_)
theorem underwoodref03_GetNums.mono : ∀ a0 k, LeO (underwoodref03_GetNums.f k a0) (underwoodref03_GetNums.f (k + 1) a0) := by
  intro a0 k
  obtain ⟨ih0, ih1⟩ := underwoodref03_GetNums.mono_l k
  unfold underwoodref03_GetNums.f
  repeat' first
      | (with_reducible exact ih0 _ _ _ _)
      | (with_reducible exact ih1 _ _ _ _ _)
      | (with_reducible exact underwoodref03_Get.mono _ _)
      | (with_reducible exact LeO.refl _)
      | (with_reducible exact LeO.none _)
      | (with_reducible refine LeO.ite ?_ ?_)
      | (with_reducible refine LeO.bind ?_ (fun _ => ?_))
      | exact ih0 _ _ _ _
      | exact ih1 _ _ _ _ _
      | exact underwoodref03_Get.mono _ _
      | exact LeO.none _
      | refine LeO.ite ?_ ?_
      | refine LeO.bind ?_ (fun _ => ?_)
set_option maxHeartbeats 8000000 in
set_option maxRecDepth 100000 in
theorem underwoodref03_GetNums.calls (k : Nat) (A0 : Option Addr) (c0 : Nat) (l0 : List Int) (r1 : List Int) (r2 : Int) (r3 : Int) (w : World) (hr0 : Kd.C (Kd.int .u8) w A0 l0.length l0) (hc0 : l0.length ≤ c0) (h : underwoodref03_GetNums.f k l0 = some (r1, r2, r3)) :
    Calls Try.prog 33 #[.slice A0 l0.length c0] w fun e w' => ∃ v0_ : Value, e = .returned (.tuple #[v0_, .int .i64 r2, .int .i64 r3]) ∧ Kd.R (Kd.int .i64) 3 w' w.heap.size (fun _ => True) v0_ r1 ∧ Below w.heap.size w w' := by
  have HR0 := Aside0.mk hr0
  have HC0 := Aside0.mk hc0
  clear hr0 hc0
  have HB := Aside0.mk (Below.refl w.heap.size w)
  have H : ((underwoodref03_Get.f k l0).bind fun bt170 => (if bt170.2.2 = 0 then (underwoodref03_GetNums.j0 k l0 bt170.1 bt170.2.1 (decide (bt170.1 < 0))) else (underwoodref03_GetNums.j0 k l0 bt170.1 bt170.2.1 true))) = some (r1, r2, r3) := h
  clear h
  replace H := Option.bind_eq_some_iff.mp H
  obtain ⟨⟨t170, t171, t172⟩, A20, H⟩ := H
  replace H : (if t172 = 0 then (underwoodref03_GetNums.j0 k l0 t170 t171 (decide (t170 < 0))) else (underwoodref03_GetNums.j0 k l0 t170 t171 true)) = some (r1, r2, r3) := H
  have A2 := Aside0.mk A20
  clear A20
  have HC3 := Aside0.mk H
  clear H
  go_enter Try.func33, Try.ntmps33
  go_upto_region 2 with (first | ((with_reducible refine gate_callee (f := 40) rfl ?_); refine goesL_ (some 15) rfl rfl Try.func40 (by kernel_rfl) rfl #[.slice A0 l0.length c0] rfl (by (try simp only [List.map_toArray, List.map_cons, List.map_nil]); first | done | rfl | (simp only [List.length_drop, List.length_take]; rfl)) ?_; (with_reducible refine (underwoodref03_Get.calls k _ _ l0 t170 t171 t172 _ ?side1 ?side2 A2.out).mono ?_); (case side1 => repeat (first | exact HR0.out | (with_reducible refine Kd.C_alloc ?_ _) | (with_reducible refine Kd.C_drewN ?_ _) | (with_reducible refine Kd.C_drew ?_))); (case side2 => exact HC0.out); rintro e w4 ⟨rfl, hb⟩; refine ⟨_, rfl, ?_⟩; have n0_ := Aside0.mk (below_step (by repeat (first | (with_reducible first | exact HB.out | apply below_alloc | apply pw_below_drewN | apply below_drew1) | exact HB.out)) hb); clear HB; have HB := n0_; clear n0_; (try clear hb); (try clear hb2); (try clear hk); (try clear hi)))
  (try simp only [Act.put, List.setIfInBounds_toArray, List.set_cons_zero, List.set_cons_succ])
  go_cut [24] (fun v24 wc => ∃ (kq : Nat) (x24_2 : Bool), v24 = .bool x24_2 ∧ Aside0 (underwoodref03_GetNums.j0 kq l0 t170 t171 x24_2 = some (r1, r2, r3)) ∧ Aside0 (kq ≤ k) ∧ Aside0 (Below w.heap.size w wc))
  case first =>
    have H := HC3.out
    clear HC3
    by_cases c5 : t172 = 0
    · rw [if_pos c5] at H
      have c5b0 : (t172 == 0) = true := beq_iff_eq.mpr c5
      have c5b1 : (t172 != 0) = false := bne_eq_false_iff_eq.mpr c5
      clear c5
      (first | rw [c5b0] | (simp only [i64_w, i32_w]; rw [c5b0]) | skip)
      have H' := Aside0.mk H
      clear H
      go_wp2
      go_meet
      case rel => exact ⟨_, (decide (t170 < 0)), (by first | rfl | (simp; done) | (simp [*]; done)), H', ⟨by first | omega | exact Nat.le_refl _⟩, ⟨by repeat (first | (with_reducible first | exact HB.out | apply below_alloc | apply pw_below_drewN | apply below_drew1) | exact HB.out)⟩⟩
    · rw [if_neg c5] at H
      have c5b0 : (t172 == 0) = false := beq_eq_false_iff_ne.mpr c5
      have c5b1 : (t172 != 0) = true := bne_iff_ne.mpr c5
      (first | rw [c5b0] | (simp only [i64_w, i32_w]; rw [c5b0]) | skip)
      have H' := Aside0.mk H
      clear H
      go_wp2
      go_meet
      case rel => exact ⟨_, (true), (by first | rfl | (simp; done) | (simp [*]; done)), H', ⟨by first | omega | exact Nat.le_refl _⟩, ⟨by repeat (first | (with_reducible first | exact HB.out | apply below_alloc | apply pw_below_drewN | apply below_drew1) | exact HB.out)⟩⟩
  case rest =>
    clear HC3
    try clear p2
    try clear c3
    try clear c4
    try clear c5
    try clear c5b0
    try clear c5b1
    obtain ⟨kq, x24_2, rfl, HA, HJ2, HB⟩ := hcut
    cases kq with
    | zero => exact absurd HA.out (by simp [underwoodref03_GetNums.j0])
    | succ kj2 =>
      have H := HA.out
      clear HA
      simp only [underwoodref03_GetNums.j0] at H
      by_cases c6 : x24_2 = true
      · subst c6
        have H1 : (some (([] : List Int), 0, 3)) = some (r1, r2, r3) := by rw [if_pos rfl] at H; exact H
        clear H
        have H := H1
        clear H1
        simp only [Option.some.injEq, Prod.mk.injEq] at H
        obtain ⟨rfl, rfl, rfl⟩ := H
        go_wp2
        go_ret3
        exact ⟨_, by first | rfl | (simp [errW_none, errW_some] <;> rfl) | (simp [*, errW_none, errW_some] <;> rfl), by first | exact Kd.R_nil _ _ _ _ _ | exact Kd.N_nil _ _ _ _ _ | exact Kd.V_nil _ _ _ _ _ | exact Kd.Q_nil _ _ _ _ _ | exact Kd.S_nil _ _ _ _ _, by repeat (first | (with_reducible first | exact HB.out | apply below_alloc | apply pw_below_drewN | apply below_drew1) | exact HB.out)⟩
      · replace c6 := Bool.eq_false_iff.mpr c6
        subst c6
        have H1 : (underwoodref03_GetNums.l0 kj2 l0 t170 t171 ([] : List Int) 0) = some (r1, r2, r3) := by rw [if_neg (show ¬ (false = true) by decide)] at H; exact H
        clear H
        have H := H1
        clear H1
        have H' := Aside0.mk H
        clear H
        go_wp2
        go_loopg [6, 8, 9] kj2 (fun kq v6 v8 v9 w' => ∃ (x6_2 : Int) (x8_2 : List Int) (x9_2 : Int), v6 = .int .i64 x6_2 ∧ v9 = .int .i64 x9_2 ∧ Aside0 (underwoodref03_GetNums.l0 kq l0 t170 x6_2 x8_2 x9_2 = some (r1, r2, r3)) ∧ Aside0 (kq ≤ kj2) ∧ Aside0 (Kd.R (Kd.int .i64) 3 w' w.heap.size (fun _ => True) v8 x8_2) ∧ Aside0 (Below w.heap.size w w'))
        case atStart => exact ⟨(t171), (([] : List Int)), (0), (by first | rfl | (simp; done) | (simp [*]; done)), (by first | rfl | (simp; done) | (simp [*]; done)), H', ⟨Nat.le_refl _⟩, ⟨by first | exact Kd.R_nil _ _ _ _ _ | exact Kd.N_nil _ _ _ _ _ | exact Kd.V_nil _ _ _ _ _ | exact Kd.Q_nil _ _ _ _ _ | exact Kd.S_nil _ _ _ _ _⟩, ⟨by repeat (first | (with_reducible first | exact HB.out | apply below_alloc | apply pw_below_drewN | apply below_drew1) | exact HB.out)⟩⟩
        case round =>
          clear H'
          try clear p2
          try clear c3
          try clear c4
          try clear c5
          try clear c5b0
          try clear c5b1
          try clear c6
          try clear p2
          obtain ⟨x6_2, x8_2, x9_2, rfl, rfl, HA, HK2, HO_8, HB⟩ := hrel
          cases gk with
          | zero => exact absurd HA.out (by simp [underwoodref03_GetNums.l0])
          | succ k2 =>
            have H := HA.out
            clear HA
            simp only [underwoodref03_GetNums.l0] at H
            by_cases c7 : x9_2 < t170
            · rw [if_pos c7] at H
              have c7b0 : decide (x9_2 < t170) = true := decide_eq_true c7
              clear c7
              by_cases c8 : 0 ≤ x6_2
              · rw [if_pos c8] at H
                have c8b0 := eq_true c8
                have c8b1 : decide (0 ≤ x6_2) = true := decide_eq_true c8
                clear c8
                by_cases c9 : x6_2 ≤ (l0.length : Int)
                · rw [if_pos c9] at H
                  have c9b0 := eq_true c9
                  have c9b1 : decide (x6_2 ≤ (l0.length : Int)) = true := decide_eq_true c9
                  clear c9
                  replace H := Option.bind_eq_some_iff.mp H
                  obtain ⟨⟨t174, t175, t176⟩, A100, H⟩ := H
                  replace H : (if t176 = 0 then (if x8_2.length < 17592186044416 then (underwoodref03_GetNums.l0 k2 l0 t170 (wrap64 (x6_2 + t175)) (x8_2 ++ [t174]) (wrap64 (x9_2 + 1))) else (none)) else (some (([] : List Int), 0, 3))) = some (r1, r2, r3) := H
                  have A10 := Aside0.mk A100
                  clear A100
                  by_cases c11 : t176 = 0
                  · rw [if_pos c11] at H
                    have c11b0 : (t176 == 0) = true := beq_iff_eq.mpr c11
                    have c11b1 : (t176 != 0) = false := bne_eq_false_iff_eq.mpr c11
                    clear c11
                    by_cases c12 : x8_2.length < 17592186044416
                    · rw [if_pos c12] at H
                      have LMc12 := Aside0.mk c12
                      clear c12
                      obtain ⟨y177, hy177⟩ : ∃ y_ : List Int, y_ = (x8_2 ++ [t174]) := ⟨_, rfl⟩
                      replace H : (underwoodref03_GetNums.l0 k2 l0 t170 (wrap64 (x6_2 + t175)) y177 (wrap64 (x9_2 + 1))) = some (r1, r2, r3) := by first | (rw [hy177]; with_reducible exact H) | (have H2_ := (Option.bind_some _ _).symm.trans H; rw [hy177]; with_reducible exact H2_) | (have H2_ := (Option.bind_some _ _).symm.trans H; with_reducible exact H2_) | with_reducible exact H | (rw [hy177]; exact H) | exact H
                      have Ny177 := Aside0.mk hy177
                      clear hy177
                      have H' := Aside0.mk H
                      clear H
                      obtain ⟨i013, hi013, _, hsz13, _⟩ := info_parts info5
                      obtain ⟨A13, hcut13, hA13, hC13⟩ := print_drop_of (P := Try.prog) (Value.int .u8) 0 24 5 .i64 Try.underlying24 hi013 hsz13 A0 c0 l0 x6_2 (of_decide_eq_true (by first | (with_reducible assumption) | assumption)) (of_decide_eq_true (by first | (with_reducible assumption) | assumption)) HC0.out
                      have HR173 := Aside0.mk (Kd.C_of_reads (h1 := fun _ => rfl) (hA13 _ (Kd.reads_of_C HR0.out)))
                      have HC173 := Aside0.mk hC13
                      clear hA13 hC13 hi013 hsz13
                      go_wp2_with (first | ((with_reducible refine gate_callee (f := 40) rfl ?_); refine goesL_ (some 34) rfl rfl Try.func40 (by kernel_rfl) rfl #[.slice A13 (l0.drop (x6_2 : Int).toNat).length (c0 - x6_2.toNat)] rfl (by (try simp only [List.map_toArray, List.map_cons, List.map_nil]); first | done | (rw [show (l0.drop (x6_2 : Int).toNat).length = (l0.length - x6_2.toNat) from List.length_drop] <;> rfl) | rfl | (simp only [List.length_drop, List.length_take]; rfl)) ?_; (with_reducible refine (underwoodref03_Get.calls k2 _ _ (l0.drop (x6_2 : Int).toNat) t174 t175 t176 _ ?side1 ?side2 A10.out).mono ?_); (case side1 => repeat (first | exact (Kd.C_below HR173.out HB.out) | (with_reducible refine Kd.C_alloc ?_ _) | (with_reducible refine Kd.C_drewN ?_ _) | (with_reducible refine Kd.C_drew ?_))); (case side2 => exact HC173.out); rintro e w14 ⟨rfl, hb⟩; refine ⟨_, rfl, ?_⟩; have n0_ := Aside0.mk (Kd.R_below (by (with_reducible repeat (first | apply Kd.R_alloc | apply Kd.R_drewN | apply Kd.R_drew)); exact HO_8.out) hb); have n1_ := Aside0.mk (below_step (by repeat (first | (with_reducible first | exact HB.out | apply below_alloc | apply pw_below_drewN | apply below_drew1) | exact HB.out)) hb); clear HO_8; clear HB; have HO_8 := n0_; have HB := n1_; clear n0_ n1_; (try clear hb); (try clear hb2); (try clear hk); (try clear hi)) | ((with_reducible refine gate_builtin (b := .append) (xs := #[.tmp 40, .tmp 42]) rfl ?_); at_builtin; refine Kd.R_append (Kd.int .i64) (w0 := w) w.heap.size rfl (.tmp 40) (.tmp 42) 50 3 (.int .i64 0) 8 rfl Try.underlying50 info3 rfl (by decide) (by omega) u8 x8_2 t174 [.int .i64 t174] (fun _ => True) (fun _ => False) rfl rfl ?aP (fun _ hk => hk.elim) ?aF ?aO ?aB ?aS ?aL ?_; (case aP => exact rfl); (case aB => exact (by repeat (first | (with_reducible first | exact HB.out | apply below_alloc | apply pw_below_drewN | apply below_drew1) | exact HB.out))); (case aF => exact (fun _ _ => trivial)); (case aO => exact (by (with_reducible repeat (first | apply Kd.R_alloc | apply Kd.R_drewN | apply Kd.R_drew)); exact HO_8.out)); (case aS => exact (below_size (by repeat (first | (with_reducible first | exact HB.out | apply below_alloc | apply pw_below_drewN | apply below_drew1) | exact HB.out)))); (case aL => have := LMc12.out; omega); intro v178 w15 ho hb hg hat; rw [← Ny177.out] at ho; have n0_ := Aside0.mk (hb); have n1_ := Aside0.mk (ho); clear HB; clear HO_8; have HB := n0_; have HO179 := n1_; clear n0_ n1_; clear ho hb hg hat))
                      go_roundg k2
                      case measure => have := HJ2.out; have := HK2.out; omega
                      case rel => exact ⟨(wrap64 (x6_2 + t175)), (y177), (wrap64 (x9_2 + 1)), (by first | rfl | (simp; done) | (simp [*]; done)), (by first | rfl | (simp; done) | (simp [*]; done)), H', ⟨by have := HJ2.out; have := HK2.out; omega⟩, ⟨by (with_reducible repeat (first | apply Kd.R_alloc | apply Kd.R_drewN | apply Kd.R_drew)); exact HO179.out⟩, ⟨by repeat (first | (with_reducible first | exact HB.out | apply below_alloc | apply pw_below_drewN | apply below_drew1) | exact HB.out)⟩⟩
                    · rw [if_neg c12] at H
                      exact absurd H (by simp)
                  · rw [if_neg c11] at H
                    have c11b0 : (t176 == 0) = false := beq_eq_false_iff_ne.mpr c11
                    have c11b1 : (t176 != 0) = true := bne_iff_ne.mpr c11
                    simp only [Option.some.injEq, Prod.mk.injEq] at H
                    obtain ⟨rfl, rfl, rfl⟩ := H
                    obtain ⟨i016, hi016, _, hsz16, _⟩ := info_parts info5
                    obtain ⟨A16, hcut16, hA16, hC16⟩ := print_drop_of (P := Try.prog) (Value.int .u8) 0 24 5 .i64 Try.underlying24 hi016 hsz16 A0 c0 l0 x6_2 (of_decide_eq_true (by first | (with_reducible assumption) | assumption)) (of_decide_eq_true (by first | (with_reducible assumption) | assumption)) HC0.out
                    have HR173 := Aside0.mk (Kd.C_of_reads (h1 := fun _ => rfl) (hA16 _ (Kd.reads_of_C HR0.out)))
                    have HC173 := Aside0.mk hC16
                    clear hA16 hC16 hi016 hsz16
                    go_wp2_with (first | ((with_reducible refine gate_callee (f := 40) rfl ?_); refine goesL_ (some 34) rfl rfl Try.func40 (by kernel_rfl) rfl #[.slice A16 (l0.drop (x6_2 : Int).toNat).length (c0 - x6_2.toNat)] rfl (by (try simp only [List.map_toArray, List.map_cons, List.map_nil]); first | done | (rw [show (l0.drop (x6_2 : Int).toNat).length = (l0.length - x6_2.toNat) from List.length_drop] <;> rfl) | rfl | (simp only [List.length_drop, List.length_take]; rfl)) ?_; (with_reducible refine (underwoodref03_Get.calls k2 _ _ (l0.drop (x6_2 : Int).toNat) t174 t175 t176 _ ?side1 ?side2 A10.out).mono ?_); (case side1 => repeat (first | exact (Kd.C_below HR173.out HB.out) | (with_reducible refine Kd.C_alloc ?_ _) | (with_reducible refine Kd.C_drewN ?_ _) | (with_reducible refine Kd.C_drew ?_))); (case side2 => exact HC173.out); rintro e w17 ⟨rfl, hb⟩; refine ⟨_, rfl, ?_⟩; have n0_ := Aside0.mk (Kd.R_below (by (with_reducible repeat (first | apply Kd.R_alloc | apply Kd.R_drewN | apply Kd.R_drew)); exact HO_8.out) hb); have n1_ := Aside0.mk (below_step (by repeat (first | (with_reducible first | exact HB.out | apply below_alloc | apply pw_below_drewN | apply below_drew1) | exact HB.out)) hb); clear HO_8; clear HB; have HO_8 := n0_; have HB := n1_; clear n0_ n1_; (try clear hb); (try clear hb2); (try clear hk); (try clear hi)))
                    go_ret3
                    exact ⟨_, by first | rfl | (simp [errW_none, errW_some] <;> rfl) | (simp [*, errW_none, errW_some] <;> rfl), by first | exact Kd.R_nil _ _ _ _ _ | exact Kd.N_nil _ _ _ _ _ | exact Kd.V_nil _ _ _ _ _ | exact Kd.Q_nil _ _ _ _ _ | exact Kd.S_nil _ _ _ _ _, by repeat (first | (with_reducible first | exact HB.out | apply below_alloc | apply pw_below_drewN | apply below_drew1) | exact HB.out)⟩
                · rw [if_neg c9] at H
                  exact absurd H (by simp)
              · rw [if_neg c8] at H
                exact absurd H (by simp)
            · rw [if_neg c7] at H
              have c7b0 : decide (x9_2 < t170) = false := decide_eq_false c7
              clear c7
              simp only [Option.some.injEq, Prod.mk.injEq] at H
              obtain ⟨rfl, rfl, rfl⟩ := H
              go_wp2
              go_ret3
              exact ⟨_, by first | rfl | (simp [errW_none, errW_some] <;> rfl) | (simp [*, errW_none, errW_some] <;> rfl), by (with_reducible repeat (first | apply Kd.R_alloc | apply Kd.R_drewN | apply Kd.R_drew)); exact HO_8.out, by repeat (first | (with_reducible first | exact HB.out | apply below_alloc | apply pw_below_drewN | apply below_drew1) | exact HB.out)⟩

/-! ### underwoodref32_Bytes: function 12 -/
def underwoodref32_Bytes.l0 : Nat → List (S48) → List Int → Int → Option (List Int)
  | 0, _, _, _ => none
  | k + 1, x0, x3, x4 => if x4 < (x0.length : Int) then (if 0 ≤ x4 then ((some (([(rd_T48 x0 x4).f0, (rd_T48 x0 x4).f1, (rd_T48 x0 x4).f2.f0, (rd_T48 x0 x4).f2.f1, (rd_T48 x0 x4).f2.f2, (rd_T48 x0 x4).f2.f3, (rd_T48 x0 x4).f3.f0] : List Int) : List Int)).bind fun y169 => (if x3.length + y169.length < 17592186044416 then ((some (x3 ++ y169 : List Int)).bind fun y172 => (if (rd_T48 x0 x4).f3.f1 = true then (if y172.length < 17592186044416 then (underwoodref32_Bytes.l0 k x0 (y172 ++ [1]) (wrap64 (x4 + 1))) else (none)) else (if y172.length < 17592186044416 then (underwoodref32_Bytes.l0 k x0 (y172 ++ [0]) (wrap64 (x4 + 1))) else (none)))) else (none))) else (none)) else ((underwoodref03_Nums.f k x3).bind fun t181 => ((underwoodref03_Seal.f k t181).bind fun t184 => (some t184)))
def underwoodref32_Bytes.f (k : Nat) (l0 : List (S48)) : Option (List Int) := underwoodref32_Bytes.l0 k l0 ([] : List Int) 0
theorem underwoodref32_Bytes.mono_l : ∀ k, (∀ y0 y1 y2, LeO (underwoodref32_Bytes.l0 k y0 y1 y2) (underwoodref32_Bytes.l0 (k + 1) y0 y1 y2))
  | 0 => fun _ _ _ r h => by simp [underwoodref32_Bytes.l0] at h
  | k + 1 => by
    have ih0 := underwoodref32_Bytes.mono_l k
    · intro y0 y1 y2
      unfold underwoodref32_Bytes.l0
      repeat' first
      | (with_reducible exact ih0 _ _ _)
      | (with_reducible exact underwoodref03_Nums.mono _ _)
      | (with_reducible exact underwoodref03_Seal.mono _ _)
      | (with_reducible exact LeO.refl _)
      | (with_reducible exact LeO.none _)
      | (with_reducible refine LeO.ite ?_ ?_)
      | (with_reducible refine LeO.bind ?_ (fun _ => ?_))
      | exact ih0 _ _ _
      | exact underwoodref03_Nums.mono _ _
      | exact underwoodref03_Seal.mono _ _
      | exact LeO.none _
      | refine LeO.ite ?_ ?_
      | refine LeO.bind ?_ (fun _ => ?_)
theorem underwoodref32_Bytes.mono : ∀ a0 k, LeO (underwoodref32_Bytes.f k a0) (underwoodref32_Bytes.f (k + 1) a0) := by
  intro a0 k
  have ih0 := underwoodref32_Bytes.mono_l k
  unfold underwoodref32_Bytes.f
  repeat' first
      | (with_reducible exact ih0 _ _ _)
      | (with_reducible exact underwoodref03_Nums.mono _ _)
      | (with_reducible exact underwoodref03_Seal.mono _ _)
      | (with_reducible exact LeO.refl _)
      | (with_reducible exact LeO.none _)
      | (with_reducible refine LeO.ite ?_ ?_)
      | (with_reducible refine LeO.bind ?_ (fun _ => ?_))
      | exact ih0 _ _ _
      | exact underwoodref03_Nums.mono _ _
      | exact underwoodref03_Seal.mono _ _
      | exact LeO.none _
      | refine LeO.ite ?_ ?_
      | refine LeO.bind ?_ (fun _ => ?_)
set_option maxHeartbeats 8000000 in
set_option maxRecDepth 100000 in
theorem underwoodref32_Bytes.calls (k : Nat) (A0 : Option Addr) (c0 : Nat) (l0 : List (S48)) (r : List Int) (w : World) (hr0 : Kd.C k48 w A0 l0.length l0) (hc0 : l0.length ≤ c0) (h : underwoodref32_Bytes.f k l0 = some r) :
    Calls Try.prog 12 #[.slice A0 l0.length c0] w fun e w' => ∃ v0_ : Value, e = .returned (v0_) ∧ Kd.R (Kd.int .u8) 5 w' w.heap.size (fun _ => True) v0_ r ∧ Below w.heap.size w w' := by
  have hu48 := Try.underlying48
  have HR0 := Aside0.mk hr0
  have HC0 := Aside0.mk hc0
  clear hr0 hc0
  have HB := Aside0.mk (Below.refl w.heap.size w)
  have H : (underwoodref32_Bytes.l0 k l0 ([] : List Int) 0) = some r := h
  clear h
  have H' := Aside0.mk H
  clear H
  go_enter Try.func12, Try.ntmps12
  go_wp2
  go_loopg [3, 4] k (fun kq v3 v4 w' => ∃ (x3_1 : List Int) (x4_1 : Int), v4 = .int .i64 x4_1 ∧ Aside0 (underwoodref32_Bytes.l0 kq l0 x3_1 x4_1 = some r) ∧ Aside0 (kq ≤ k) ∧ Aside0 (Kd.R (Kd.int .i64) 3 w' w.heap.size (fun _ => True) v3 x3_1) ∧ Aside0 (Below w.heap.size w w'))
  case atStart => exact ⟨(([] : List Int)), (0), (by first | rfl | (simp; done) | (simp [*]; done)), H', ⟨Nat.le_refl _⟩, ⟨by first | exact Kd.R_nil _ _ _ _ _ | exact Kd.N_nil _ _ _ _ _ | exact Kd.V_nil _ _ _ _ _ | exact Kd.Q_nil _ _ _ _ _ | exact Kd.S_nil _ _ _ _ _⟩, ⟨by repeat (first | (with_reducible first | exact HB.out | apply below_alloc | apply pw_below_drewN | apply below_drew1) | exact HB.out)⟩⟩
  case round =>
    clear H'
    try clear c1
    obtain ⟨x3_1, x4_1, rfl, HA, HK1, HO_3, HB⟩ := hrel
    cases gk with
    | zero => exact absurd HA.out (by simp [underwoodref32_Bytes.l0])
    | succ k1 =>
      have H := HA.out
      clear HA
      simp only [underwoodref32_Bytes.l0] at H
      by_cases c2 : x4_1 < (l0.length : Int)
      · rw [if_pos c2] at H
        have c2b0 : decide (x4_1 < (l0.length : Int)) = true := decide_eq_true c2
        clear c2
        by_cases c3 : 0 ≤ x4_1
        · rw [if_pos c3] at H
          have c3b0 : decide (0 ≤ x4_1) = true := decide_eq_true c3
          clear c3
          obtain ⟨y169, hy169⟩ : ∃ y_ : List Int, y_ = (([(rd_T48 l0 x4_1).f0, (rd_T48 l0 x4_1).f1, (rd_T48 l0 x4_1).f2.f0, (rd_T48 l0 x4_1).f2.f1, (rd_T48 l0 x4_1).f2.f2, (rd_T48 l0 x4_1).f2.f3, (rd_T48 l0 x4_1).f3.f0] : List Int)) := ⟨_, rfl⟩
          replace H : (if x3_1.length + y169.length < 17592186044416 then ((some (x3_1 ++ y169 : List Int)).bind fun y172 => (if (rd_T48 l0 x4_1).f3.f1 = true then (if y172.length < 17592186044416 then (underwoodref32_Bytes.l0 k1 l0 (y172 ++ [1]) (wrap64 (x4_1 + 1))) else (none)) else (if y172.length < 17592186044416 then (underwoodref32_Bytes.l0 k1 l0 (y172 ++ [0]) (wrap64 (x4_1 + 1))) else (none)))) else (none)) = some r := by first | (rw [hy169]; with_reducible exact H) | (have H2_ := (Option.bind_some _ _).symm.trans H; rw [hy169]; with_reducible exact H2_) | (have H2_ := (Option.bind_some _ _).symm.trans H; with_reducible exact H2_) | with_reducible exact H | (rw [hy169]; exact H) | exact H
          have Ny169 := Aside0.mk hy169
          clear hy169
          by_cases c4 : x3_1.length + y169.length < 17592186044416
          · rw [if_pos c4] at H
            have LMc4 := Aside0.mk c4
            clear c4
            obtain ⟨y172, hy172⟩ : ∃ y_ : List Int, y_ = (x3_1 ++ y169) := ⟨_, rfl⟩
            replace H : (if (rd_T48 l0 x4_1).f3.f1 = true then (if y172.length < 17592186044416 then (underwoodref32_Bytes.l0 k1 l0 (y172 ++ [1]) (wrap64 (x4_1 + 1))) else (none)) else (if y172.length < 17592186044416 then (underwoodref32_Bytes.l0 k1 l0 (y172 ++ [0]) (wrap64 (x4_1 + 1))) else (none))) = some r := by first | (rw [hy172]; with_reducible exact H) | (have H2_ := (Option.bind_some _ _).symm.trans H; rw [hy172]; with_reducible exact H2_) | (have H2_ := (Option.bind_some _ _).symm.trans H; with_reducible exact H2_) | with_reducible exact H | (rw [hy172]; exact H) | exact H
            have Ny172 := Aside0.mk hy172
            clear hy172
            obtain ⟨bq5, hbq5⟩ : ∃ b_ : Bool, b_ = ((rd_T48 l0 x4_1).f3.f1) := ⟨_, rfl⟩
            replace H : (if bq5 = true then (if y172.length < 17592186044416 then (underwoodref32_Bytes.l0 k1 l0 (y172 ++ [1]) (wrap64 (x4_1 + 1))) else (none)) else (if y172.length < 17592186044416 then (underwoodref32_Bytes.l0 k1 l0 (y172 ++ [0]) (wrap64 (x4_1 + 1))) else (none))) = some r := by rw [← hbq5] at H; exact H
            have Nbq5 := Aside0.mk hbq5
            clear hbq5
            by_cases c6 : bq5 = true
            · subst c6
              have H1 : (if y172.length < 17592186044416 then (underwoodref32_Bytes.l0 k1 l0 (y172 ++ [1]) (wrap64 (x4_1 + 1))) else (none)) = some r := by rw [if_pos rfl] at H; exact H
              clear H
              have H := H1
              clear H1
              by_cases c7 : y172.length < 17592186044416
              · rw [if_pos c7] at H
                have LMc7 := Aside0.mk c7
                clear c7
                obtain ⟨y175, hy175⟩ : ∃ y_ : List Int, y_ = (y172 ++ [1]) := ⟨_, rfl⟩
                replace H : (underwoodref32_Bytes.l0 k1 l0 y175 (wrap64 (x4_1 + 1))) = some r := by first | (rw [hy175]; with_reducible exact H) | (have H2_ := (Option.bind_some _ _).symm.trans H; rw [hy175]; with_reducible exact H2_) | (have H2_ := (Option.bind_some _ _).symm.trans H; with_reducible exact H2_) | with_reducible exact H | (rw [hy175]; exact H) | exact H
                have Ny175 := Aside0.mk hy175
                clear hy175
                have H' := Aside0.mk H
                clear H
                have p167 : 0 ≤ (x4_1 : Int) := of_decide_eq_true (by first | (with_reducible assumption) | assumption)
                have q167 : x4_1 < (l0.length : Int) := of_decide_eq_true (by first | (with_reducible assumption) | assumption)
                obtain ⟨ad167, e167, hx167_0, hx167_1, hx167_2, hx167_3, hx167_4, hx167_5, hx167_6, hx167_7⟩ := at_T48 HR0.out x4_1 p167 q167
                (try rw [← Nbq5.out] at hx167_7)
                cases e167
                replace hx167_0 := (HB.out.cell (World.block_lt_of_cell? w _ hx167_0)).trans hx167_0
                replace hx167_1 := (HB.out.cell (World.block_lt_of_cell? w _ hx167_1)).trans hx167_1
                replace hx167_2 := (HB.out.cell (World.block_lt_of_cell? w _ hx167_2)).trans hx167_2
                replace hx167_3 := (HB.out.cell (World.block_lt_of_cell? w _ hx167_3)).trans hx167_3
                replace hx167_4 := (HB.out.cell (World.block_lt_of_cell? w _ hx167_4)).trans hx167_4
                replace hx167_5 := (HB.out.cell (World.block_lt_of_cell? w _ hx167_5)).trans hx167_5
                replace hx167_6 := (HB.out.cell (World.block_lt_of_cell? w _ hx167_6)).trans hx167_6
                replace hx167_7 := (HB.out.cell (World.block_lt_of_cell? w _ hx167_7)).trans hx167_7
                replace p167 := eq_true p167
                replace q167 := eq_true q167
                go_wp2_with (first | ((with_reducible refine gate_dst (N := 5) rfl ?_); refine box_event ?hg (N := 5) ?hd (cs := #[.int .i64 0, .int .i64 0, .int .i64 0, .int .i64 0, .int .i64 0, .int .i64 0, .int .i64 0, .bool false]) (t := 48) ?hr ?_; (case hd => rfl); (case hg => rfl); (case hr => first | (go_simp; done) | (go_simp; rfl)); intro gb168 hg w8 hbox hb; have n0_ := Aside0.mk (Kd.R_below (by (with_reducible repeat (first | apply Kd.R_alloc | apply Kd.R_drewN | apply Kd.R_drew)); exact HO_3.out) hb); have n1_ := Aside0.mk (below_step (by repeat (first | (with_reducible first | exact HB.out | apply below_alloc | apply pw_below_drewN | apply below_drew1) | exact HB.out)) hb); have n2_ := Aside0.mk (hbox); have n3_ := Aside0.mk ((by rw [hg]; exact (below_size (by repeat (first | (with_reducible first | exact HB.out | apply below_alloc | apply pw_below_drewN | apply below_drew1) | exact HB.out))) : w.heap.size ≤ gb168)); have n4_ := Aside0.mk ((by rw [hg]; exact (below_size (by repeat (first | (with_reducible first | exact HB.out | apply below_alloc | apply pw_below_drewN | apply below_drew1) | exact HB.out))) : w.heap.size ≤ gb168)); clear HO_3; clear HB; have HO_3 := n0_; have HB := n1_; have BK168 := n2_; have GW168 := n3_; have GE168 := n4_; clear n0_ n1_ n2_ n3_ n4_; clear hb hbox hg; have hcz9_0 : w8.cell? ⟨gb168, 0, none⟩ = some (.int .i64 0) := (blk_cell BK168.out 0).trans rfl; have hcz9_1 : w8.cell? ⟨gb168, 1, none⟩ = some (.int .i64 0) := (blk_cell BK168.out 1).trans rfl; have hcz9_2 : w8.cell? ⟨gb168, 2, none⟩ = some (.int .i64 0) := (blk_cell BK168.out 2).trans rfl; have hcz9_3 : w8.cell? ⟨gb168, 3, none⟩ = some (.int .i64 0) := (blk_cell BK168.out 3).trans rfl; have hcz9_4 : w8.cell? ⟨gb168, 4, none⟩ = some (.int .i64 0) := (blk_cell BK168.out 4).trans rfl; have hcz9_5 : w8.cell? ⟨gb168, 5, none⟩ = some (.int .i64 0) := (blk_cell BK168.out 5).trans rfl; have hcz9_6 : w8.cell? ⟨gb168, 6, none⟩ = some (.int .i64 0) := (blk_cell BK168.out 6).trans rfl; have hcz9_7 : w8.cell? ⟨gb168, 7, none⟩ = some (.bool false) := (blk_cell BK168.out 7).trans rfl; have hfz9_0 := blk_frozen BK168.out 0; have hfz9_1 := blk_frozen BK168.out 1; have hfz9_2 := blk_frozen BK168.out 2; have hfz9_3 := blk_frozen BK168.out 3; have hfz9_4 := blk_frozen BK168.out 4; have hfz9_5 := blk_frozen BK168.out 5; have hfz9_6 := blk_frozen BK168.out 6; have hfz9_7 := blk_frozen BK168.out 7) | ((with_reducible refine gate_dst (N := 36) rfl ?_); refine Kd.R_lit (Kd.int .i64) _ 3 ?hg (N := 36) ?hd (xs := ([(rd_T48 l0 x4_1).f0, (rd_T48 l0 x4_1).f1, (rd_T48 l0 x4_1).f2.f0, (rd_T48 l0 x4_1).f2.f1, (rd_T48 l0 x4_1).f2.f2, (rd_T48 l0 x4_1).f2.f3, (rd_T48 l0 x4_1).f3.f0] : List Int)) (inner := [.int .i64 ((rd_T48 l0 x4_1).f0), .int .i64 ((rd_T48 l0 x4_1).f1), .int .i64 ((rd_T48 l0 x4_1).f2.f0), .int .i64 ((rd_T48 l0 x4_1).f2.f1), .int .i64 ((rd_T48 l0 x4_1).f2.f2), .int .i64 ((rd_T48 l0 x4_1).f2.f3), .int .i64 ((rd_T48 l0 x4_1).f3.f0)]) (ok := fun _ => True) (okp := fun _ => True) ?hr ?hp (fun _ hk => hk) trivial (Below.refl _ _) (Nat.le_refl _) (by simp) ?_; (case hd => rfl); (case hg => rfl); (case hr => first | (go_simp; done) | (go_simp; rfl)); (case hp => exact (Reps.one (show Kd.M (Kd.int .i64) _ _ _ ((rd_T48 l0 x4_1).f0) [.int .i64 ((rd_T48 l0 x4_1).f0)] from rfl) (Reps.one (show Kd.M (Kd.int .i64) _ _ _ ((rd_T48 l0 x4_1).f1) [.int .i64 ((rd_T48 l0 x4_1).f1)] from rfl) (Reps.one (show Kd.M (Kd.int .i64) _ _ _ ((rd_T48 l0 x4_1).f2.f0) [.int .i64 ((rd_T48 l0 x4_1).f2.f0)] from rfl) (Reps.one (show Kd.M (Kd.int .i64) _ _ _ ((rd_T48 l0 x4_1).f2.f1) [.int .i64 ((rd_T48 l0 x4_1).f2.f1)] from rfl) (Reps.one (show Kd.M (Kd.int .i64) _ _ _ ((rd_T48 l0 x4_1).f2.f2) [.int .i64 ((rd_T48 l0 x4_1).f2.f2)] from rfl) (Reps.one (show Kd.M (Kd.int .i64) _ _ _ ((rd_T48 l0 x4_1).f2.f3) [.int .i64 ((rd_T48 l0 x4_1).f2.f3)] from rfl) (Reps.one (show Kd.M (Kd.int .i64) _ _ _ ((rd_T48 l0 x4_1).f3.f0) [.int .i64 ((rd_T48 l0 x4_1).f3.f0)] from rfl) (Reps.none _ _))))))))); intro v170 w10 ho11 hb hg_ hnew_; clear hg_ hnew_; (first | rw [← Ny169.out] at ho11 | (simp only [Int.reduceToNat] at ho11; rw [← Ny169.out] at ho11)); have n0_ := Aside0.mk (Kd.R_elder' (by (with_reducible repeat (first | apply Kd.R_alloc | apply Kd.R_drewN | apply Kd.R_drew)); exact (Kd.R_mono (Kd.R_far (p := ⟨gb168, 7, none⟩) (Kd.R_far (p := ⟨gb168, 6, none⟩) (Kd.R_far (p := ⟨gb168, 5, none⟩) (Kd.R_far (p := ⟨gb168, 4, none⟩) (Kd.R_far (p := ⟨gb168, 3, none⟩) (Kd.R_far (p := ⟨gb168, 2, none⟩) (Kd.R_far (p := ⟨gb168, 1, none⟩) (Kd.R_far (p := ⟨gb168, 0, none⟩) (Kd.R_types HO_3.out BK168.out (by decide)) (fun _ hk => hk.2) (.int .i64 ((rd_T48 l0 x4_1).f0))) (fun _ hk => hk.2) (.int .i64 ((rd_T48 l0 x4_1).f1))) (fun _ hk => hk.2) (.int .i64 ((rd_T48 l0 x4_1).f2.f0))) (fun _ hk => hk.2) (.int .i64 ((rd_T48 l0 x4_1).f2.f1))) (fun _ hk => hk.2) (.int .i64 ((rd_T48 l0 x4_1).f2.f2))) (fun _ hk => hk.2) (.int .i64 ((rd_T48 l0 x4_1).f2.f3))) (fun _ hk => hk.2) (.int .i64 ((rd_T48 l0 x4_1).f3.f0))) (fun _ hk => hk.2) (.bool true)) (fun _ h_ => h_.1))) (Kd.R_base ho11) hb); have n1_ := Aside0.mk (Kd.R_lower (Kd.R_new' ho11 (Kd.R_lt (by (with_reducible repeat (first | apply Kd.R_alloc | apply Kd.R_drewN | apply Kd.R_drew)); exact (Kd.R_mono (Kd.R_far (p := ⟨gb168, 7, none⟩) (Kd.R_far (p := ⟨gb168, 6, none⟩) (Kd.R_far (p := ⟨gb168, 5, none⟩) (Kd.R_far (p := ⟨gb168, 4, none⟩) (Kd.R_far (p := ⟨gb168, 3, none⟩) (Kd.R_far (p := ⟨gb168, 2, none⟩) (Kd.R_far (p := ⟨gb168, 1, none⟩) (Kd.R_far (p := ⟨gb168, 0, none⟩) (Kd.R_types HO_3.out BK168.out (by decide)) (fun _ hk => hk.2) (.int .i64 ((rd_T48 l0 x4_1).f0))) (fun _ hk => hk.2) (.int .i64 ((rd_T48 l0 x4_1).f1))) (fun _ hk => hk.2) (.int .i64 ((rd_T48 l0 x4_1).f2.f0))) (fun _ hk => hk.2) (.int .i64 ((rd_T48 l0 x4_1).f2.f1))) (fun _ hk => hk.2) (.int .i64 ((rd_T48 l0 x4_1).f2.f2))) (fun _ hk => hk.2) (.int .i64 ((rd_T48 l0 x4_1).f2.f3))) (fun _ hk => hk.2) (.int .i64 ((rd_T48 l0 x4_1).f3.f0))) (fun _ hk => hk.2) (.bool true)) (fun _ h_ => h_.1))))) (below_size (by repeat (first | (with_reducible first | exact HB.out | apply below_alloc | apply pw_below_drewN | apply below_drew1 | refine below_set ?_ GE168.out) | exact HB.out)))); have n2_ := Aside0.mk (blk_below (g := gb168) (o := .cells #[.int .i64 ((rd_T48 l0 x4_1).f0), .int .i64 ((rd_T48 l0 x4_1).f1), .int .i64 ((rd_T48 l0 x4_1).f2.f0), .int .i64 ((rd_T48 l0 x4_1).f2.f1), .int .i64 ((rd_T48 l0 x4_1).f2.f2), .int .i64 ((rd_T48 l0 x4_1).f2.f3), .int .i64 ((rd_T48 l0 x4_1).f3.f0), .bool true] 48 (0, 0)) (by (with_reducible repeat (first | refine blk_drewN ?_ _ | refine blk_drew ?_ | refine blk_alloc ?_ _)); refine blk_put (cs := #[.int .i64 ((rd_T48 l0 x4_1).f0), .int .i64 ((rd_T48 l0 x4_1).f1), .int .i64 ((rd_T48 l0 x4_1).f2.f0), .int .i64 ((rd_T48 l0 x4_1).f2.f1), .int .i64 ((rd_T48 l0 x4_1).f2.f2), .int .i64 ((rd_T48 l0 x4_1).f2.f3), .int .i64 ((rd_T48 l0 x4_1).f3.f0), .bool false]) ?_ 7 _ rfl; (with_reducible repeat (first | refine blk_drewN ?_ _ | refine blk_drew ?_ | refine blk_alloc ?_ _)); refine blk_put (cs := #[.int .i64 ((rd_T48 l0 x4_1).f0), .int .i64 ((rd_T48 l0 x4_1).f1), .int .i64 ((rd_T48 l0 x4_1).f2.f0), .int .i64 ((rd_T48 l0 x4_1).f2.f1), .int .i64 ((rd_T48 l0 x4_1).f2.f2), .int .i64 ((rd_T48 l0 x4_1).f2.f3), .int .i64 0, .bool false]) ?_ 6 _ rfl; (with_reducible repeat (first | refine blk_drewN ?_ _ | refine blk_drew ?_ | refine blk_alloc ?_ _)); refine blk_put (cs := #[.int .i64 ((rd_T48 l0 x4_1).f0), .int .i64 ((rd_T48 l0 x4_1).f1), .int .i64 ((rd_T48 l0 x4_1).f2.f0), .int .i64 ((rd_T48 l0 x4_1).f2.f1), .int .i64 ((rd_T48 l0 x4_1).f2.f2), .int .i64 0, .int .i64 0, .bool false]) ?_ 5 _ rfl; (with_reducible repeat (first | refine blk_drewN ?_ _ | refine blk_drew ?_ | refine blk_alloc ?_ _)); refine blk_put (cs := #[.int .i64 ((rd_T48 l0 x4_1).f0), .int .i64 ((rd_T48 l0 x4_1).f1), .int .i64 ((rd_T48 l0 x4_1).f2.f0), .int .i64 ((rd_T48 l0 x4_1).f2.f1), .int .i64 0, .int .i64 0, .int .i64 0, .bool false]) ?_ 4 _ rfl; (with_reducible repeat (first | refine blk_drewN ?_ _ | refine blk_drew ?_ | refine blk_alloc ?_ _)); refine blk_put (cs := #[.int .i64 ((rd_T48 l0 x4_1).f0), .int .i64 ((rd_T48 l0 x4_1).f1), .int .i64 ((rd_T48 l0 x4_1).f2.f0), .int .i64 0, .int .i64 0, .int .i64 0, .int .i64 0, .bool false]) ?_ 3 _ rfl; (with_reducible repeat (first | refine blk_drewN ?_ _ | refine blk_drew ?_ | refine blk_alloc ?_ _)); refine blk_put (cs := #[.int .i64 ((rd_T48 l0 x4_1).f0), .int .i64 ((rd_T48 l0 x4_1).f1), .int .i64 0, .int .i64 0, .int .i64 0, .int .i64 0, .int .i64 0, .bool false]) ?_ 2 _ rfl; (with_reducible repeat (first | refine blk_drewN ?_ _ | refine blk_drew ?_ | refine blk_alloc ?_ _)); refine blk_put (cs := #[.int .i64 ((rd_T48 l0 x4_1).f0), .int .i64 0, .int .i64 0, .int .i64 0, .int .i64 0, .int .i64 0, .int .i64 0, .bool false]) ?_ 1 _ rfl; (with_reducible repeat (first | refine blk_drewN ?_ _ | refine blk_drew ?_ | refine blk_alloc ?_ _)); refine blk_put (cs := #[.int .i64 0, .int .i64 0, .int .i64 0, .int .i64 0, .int .i64 0, .int .i64 0, .int .i64 0, .bool false]) ?_ 0 _ rfl; (with_reducible repeat (first | refine blk_drewN ?_ _ | refine blk_drew ?_ | refine blk_alloc ?_ _)); exact BK168.out) hb); have n3_ := Aside0.mk (below_step (by repeat (first | (with_reducible first | exact HB.out | apply below_alloc | apply pw_below_drewN | apply below_drew1 | refine below_set ?_ GE168.out) | exact HB.out)) hb); clear HO_3; clear BK168; clear HB; have HO_3 := n0_; have HO171 := n1_; have BK168 := n2_; have HB := n3_; clear n0_ n1_ n2_ n3_; clear hb ho11; obtain ⟨Ao13, co13, eo13⟩ := Kd.R_slice HO171.out; subst eo13) | ((with_reducible refine gate_builtin (b := .append) (xs := #[.tmp 16, .tmp 36]) rfl ?_); at_builtin; refine Kd.R_append_rows (Kd.int .i64) (w0 := w) w.heap.size rfl (.tmp 16) (.tmp 36) 50 3 (.int .i64 0) 8 rfl Try.underlying50 info3 rfl (by decide) (by omega) u3 x3_1 y169 _ _ _ (fun k_ => some k_ ≠ (.slice Ao13 y169.length co13 : Value).ownBlock) (fun _ => False) rfl rfl ?aO ?aR (fun _ _ h => h) (fun _ h => h.elim) ?aF ?aB ?aS ?aL ?_; (case aR => repeat (first | exact (Kd.R_reads' HO171.out).2.2 | (with_reducible refine Kd.C_alloc ?_ _) | (with_reducible refine Kd.C_drewN ?_ _) | (with_reducible refine Kd.C_drew ?_))); (case aB => exact (by repeat (first | (with_reducible first | exact HB.out | apply below_alloc | apply pw_below_drewN | apply below_drew1 | refine below_set ?_ GE168.out) | exact HB.out))); (case aF => exact (fun k_ hk => Kd.fresh' (Kd.R_lt (by (with_reducible repeat (first | apply Kd.R_alloc | apply Kd.R_drewN | apply Kd.R_drew)); exact HO171.out)) k_ hk)); (case aO => exact (by (with_reducible repeat (first | apply Kd.R_alloc | apply Kd.R_drewN | apply Kd.R_drew)); exact Kd.R_mono HO_3.out (fun _ hk => hk.2))); (case aS => exact (below_size (by repeat (first | (with_reducible first | exact HB.out | apply below_alloc | apply pw_below_drewN | apply below_drew1 | refine below_set ?_ GE168.out) | exact HB.out)))); (case aL => have := LMc4.out; omega); intro v173 w12 ho hb hg hat; rw [← Ny172.out] at ho; have n0_ := Aside0.mk (blk_grown (g := gb168) (o := .cells #[.int .i64 ((rd_T48 l0 x4_1).f0), .int .i64 ((rd_T48 l0 x4_1).f1), .int .i64 ((rd_T48 l0 x4_1).f2.f0), .int .i64 ((rd_T48 l0 x4_1).f2.f1), .int .i64 ((rd_T48 l0 x4_1).f2.f2), .int .i64 ((rd_T48 l0 x4_1).f2.f3), .int .i64 ((rd_T48 l0 x4_1).f3.f0), .bool true] 48 (0, 0)) (by (with_reducible repeat (first | refine blk_drewN ?_ _ | refine blk_drew ?_ | refine blk_alloc ?_ _)); exact BK168.out) hg (Kd.R_ne HO_3.out BK168.out (by decide))); have n1_ := Aside0.mk (Kd.R_after (ok := (fun _ => True)) (by (with_reducible repeat (first | apply Kd.R_alloc | apply Kd.R_drewN | apply Kd.R_drew)); exact HO171.out) hg hat); have n2_ := Aside0.mk (hb); have n3_ := Aside0.mk (ho); clear BK168; clear HO171; clear HB; clear HO_3; have BK168 := n0_; have HO171 := n1_; have HB := n2_; have HO174 := n3_; clear n0_ n1_ n2_ n3_; clear ho hb hg hat; have hcz14_0 : w12.cell? ⟨gb168, 0, none⟩ = some (.int .i64 ((rd_T48 l0 x4_1).f0)) := (blk_cell BK168.out 0).trans rfl; have hcz14_1 : w12.cell? ⟨gb168, 1, none⟩ = some (.int .i64 ((rd_T48 l0 x4_1).f1)) := (blk_cell BK168.out 1).trans rfl; have hcz14_2 : w12.cell? ⟨gb168, 2, none⟩ = some (.int .i64 ((rd_T48 l0 x4_1).f2.f0)) := (blk_cell BK168.out 2).trans rfl; have hcz14_3 : w12.cell? ⟨gb168, 3, none⟩ = some (.int .i64 ((rd_T48 l0 x4_1).f2.f1)) := (blk_cell BK168.out 3).trans rfl; have hcz14_4 : w12.cell? ⟨gb168, 4, none⟩ = some (.int .i64 ((rd_T48 l0 x4_1).f2.f2)) := (blk_cell BK168.out 4).trans rfl; have hcz14_5 : w12.cell? ⟨gb168, 5, none⟩ = some (.int .i64 ((rd_T48 l0 x4_1).f2.f3)) := (blk_cell BK168.out 5).trans rfl; have hcz14_6 : w12.cell? ⟨gb168, 6, none⟩ = some (.int .i64 ((rd_T48 l0 x4_1).f3.f0)) := (blk_cell BK168.out 6).trans rfl; have hcz14_7 : w12.cell? ⟨gb168, 7, none⟩ = some (.bool true) := (blk_cell BK168.out 7).trans rfl; have hfz14_0 := blk_frozen BK168.out 0; have hfz14_1 := blk_frozen BK168.out 1; have hfz14_2 := blk_frozen BK168.out 2; have hfz14_3 := blk_frozen BK168.out 3; have hfz14_4 := blk_frozen BK168.out 4; have hfz14_5 := blk_frozen BK168.out 5; have hfz14_6 := blk_frozen BK168.out 6; have hfz14_7 := blk_frozen BK168.out 7) | ((with_reducible refine gate_builtin (b := .append) (xs := #[.tmp 41, .tmp 42]) rfl ?_); at_builtin; refine Kd.R_append (Kd.int .i64) (w0 := w) w.heap.size rfl (.tmp 41) (.tmp 42) 50 3 (.int .i64 0) 8 rfl Try.underlying50 info3 rfl (by decide) (by omega) v173 y172 1 [.int .i64 1] (fun k_ => some k_ ≠ (.slice Ao13 y169.length co13 : Value).ownBlock) (fun _ => False) rfl rfl ?aP (fun _ hk => hk.elim) ?aF ?aO ?aB ?aS ?aL ?_; (case aP => exact rfl); (case aB => exact (by repeat (first | (with_reducible first | exact HB.out | apply below_alloc | apply pw_below_drewN | apply below_drew1 | refine below_set ?_ GE168.out) | exact HB.out))); (case aF => exact (fun k_ hk => Kd.fresh' (Kd.R_lt (by (with_reducible repeat (first | apply Kd.R_alloc | apply Kd.R_drewN | apply Kd.R_drew)); exact HO171.out)) k_ hk)); (case aO => exact (by (with_reducible repeat (first | apply Kd.R_alloc | apply Kd.R_drewN | apply Kd.R_drew)); exact HO174.out)); (case aS => exact (below_size (by repeat (first | (with_reducible first | exact HB.out | apply below_alloc | apply pw_below_drewN | apply below_drew1 | refine below_set ?_ GE168.out) | exact HB.out)))); (case aL => have := LMc7.out; omega); intro v176 w15 ho hb hg hat; rw [← Ny175.out] at ho; have n0_ := Aside0.mk (blk_grown (g := gb168) (o := .cells #[.int .i64 ((rd_T48 l0 x4_1).f0), .int .i64 ((rd_T48 l0 x4_1).f1), .int .i64 ((rd_T48 l0 x4_1).f2.f0), .int .i64 ((rd_T48 l0 x4_1).f2.f1), .int .i64 ((rd_T48 l0 x4_1).f2.f2), .int .i64 ((rd_T48 l0 x4_1).f2.f3), .int .i64 ((rd_T48 l0 x4_1).f3.f0), .bool true] 48 (0, 0)) (by (with_reducible repeat (first | refine blk_drewN ?_ _ | refine blk_drew ?_ | refine blk_alloc ?_ _)); exact BK168.out) hg (Kd.R_ne HO174.out BK168.out (by decide))); have n1_ := Aside0.mk (Kd.R_after (ok := (fun _ => True)) (by (with_reducible repeat (first | apply Kd.R_alloc | apply Kd.R_drewN | apply Kd.R_drew)); exact HO171.out) hg hat); have n2_ := Aside0.mk (hb); have n3_ := Aside0.mk (ho); clear BK168; clear HO171; clear HB; clear HO174; have BK168 := n0_; have HO171 := n1_; have HB := n2_; have HO177 := n3_; clear n0_ n1_ n2_ n3_; clear ho hb hg hat))
                go_roundg k1
                case measure => have := HK1.out; omega
                case rel => exact ⟨(y175), (wrap64 (x4_1 + 1)), (by first | rfl | (simp; done) | (simp [*]; done)), H', ⟨by have := HK1.out; omega⟩, ⟨by (with_reducible repeat (first | apply Kd.R_alloc | apply Kd.R_drewN | apply Kd.R_drew)); exact Kd.R_mono HO177.out (fun _ hk => trivial)⟩, ⟨by repeat (first | (with_reducible first | exact HB.out | apply below_alloc | apply pw_below_drewN | apply below_drew1 | refine below_set ?_ GE168.out) | exact HB.out)⟩⟩
              · rw [if_neg c7] at H
                exact absurd H (by simp)
            · replace c6 := Bool.eq_false_iff.mpr c6
              subst c6
              have H1 : (if y172.length < 17592186044416 then (underwoodref32_Bytes.l0 k1 l0 (y172 ++ [0]) (wrap64 (x4_1 + 1))) else (none)) = some r := by rw [if_neg (show ¬ (false = true) by decide)] at H; exact H
              clear H
              have H := H1
              clear H1
              by_cases c16 : y172.length < 17592186044416
              · rw [if_pos c16] at H
                have LMc16 := Aside0.mk c16
                clear c16
                obtain ⟨y178, hy178⟩ : ∃ y_ : List Int, y_ = (y172 ++ [0]) := ⟨_, rfl⟩
                replace H : (underwoodref32_Bytes.l0 k1 l0 y178 (wrap64 (x4_1 + 1))) = some r := by first | (rw [hy178]; with_reducible exact H) | (have H2_ := (Option.bind_some _ _).symm.trans H; rw [hy178]; with_reducible exact H2_) | (have H2_ := (Option.bind_some _ _).symm.trans H; with_reducible exact H2_) | with_reducible exact H | (rw [hy178]; exact H) | exact H
                have Ny178 := Aside0.mk hy178
                clear hy178
                have H' := Aside0.mk H
                clear H
                have p167 : 0 ≤ (x4_1 : Int) := of_decide_eq_true (by first | (with_reducible assumption) | assumption)
                have q167 : x4_1 < (l0.length : Int) := of_decide_eq_true (by first | (with_reducible assumption) | assumption)
                obtain ⟨ad167, e167, hx167_0, hx167_1, hx167_2, hx167_3, hx167_4, hx167_5, hx167_6, hx167_7⟩ := at_T48 HR0.out x4_1 p167 q167
                (try rw [← Nbq5.out] at hx167_7)
                cases e167
                replace hx167_0 := (HB.out.cell (World.block_lt_of_cell? w _ hx167_0)).trans hx167_0
                replace hx167_1 := (HB.out.cell (World.block_lt_of_cell? w _ hx167_1)).trans hx167_1
                replace hx167_2 := (HB.out.cell (World.block_lt_of_cell? w _ hx167_2)).trans hx167_2
                replace hx167_3 := (HB.out.cell (World.block_lt_of_cell? w _ hx167_3)).trans hx167_3
                replace hx167_4 := (HB.out.cell (World.block_lt_of_cell? w _ hx167_4)).trans hx167_4
                replace hx167_5 := (HB.out.cell (World.block_lt_of_cell? w _ hx167_5)).trans hx167_5
                replace hx167_6 := (HB.out.cell (World.block_lt_of_cell? w _ hx167_6)).trans hx167_6
                replace hx167_7 := (HB.out.cell (World.block_lt_of_cell? w _ hx167_7)).trans hx167_7
                replace p167 := eq_true p167
                replace q167 := eq_true q167
                go_wp2_with (first | ((with_reducible refine gate_dst (N := 5) rfl ?_); refine box_event ?hg (N := 5) ?hd (cs := #[.int .i64 0, .int .i64 0, .int .i64 0, .int .i64 0, .int .i64 0, .int .i64 0, .int .i64 0, .bool false]) (t := 48) ?hr ?_; (case hd => rfl); (case hg => rfl); (case hr => first | (go_simp; done) | (go_simp; rfl)); intro gb168 hg w17 hbox hb; have n0_ := Aside0.mk (Kd.R_below (by (with_reducible repeat (first | apply Kd.R_alloc | apply Kd.R_drewN | apply Kd.R_drew)); exact HO_3.out) hb); have n1_ := Aside0.mk (below_step (by repeat (first | (with_reducible first | exact HB.out | apply below_alloc | apply pw_below_drewN | apply below_drew1) | exact HB.out)) hb); have n2_ := Aside0.mk (hbox); have n3_ := Aside0.mk ((by rw [hg]; exact (below_size (by repeat (first | (with_reducible first | exact HB.out | apply below_alloc | apply pw_below_drewN | apply below_drew1) | exact HB.out))) : w.heap.size ≤ gb168)); have n4_ := Aside0.mk ((by rw [hg]; exact (below_size (by repeat (first | (with_reducible first | exact HB.out | apply below_alloc | apply pw_below_drewN | apply below_drew1) | exact HB.out))) : w.heap.size ≤ gb168)); clear HO_3; clear HB; have HO_3 := n0_; have HB := n1_; have BK168 := n2_; have GW168 := n3_; have GE168 := n4_; clear n0_ n1_ n2_ n3_ n4_; clear hb hbox hg; have hcz18_0 : w17.cell? ⟨gb168, 0, none⟩ = some (.int .i64 0) := (blk_cell BK168.out 0).trans rfl; have hcz18_1 : w17.cell? ⟨gb168, 1, none⟩ = some (.int .i64 0) := (blk_cell BK168.out 1).trans rfl; have hcz18_2 : w17.cell? ⟨gb168, 2, none⟩ = some (.int .i64 0) := (blk_cell BK168.out 2).trans rfl; have hcz18_3 : w17.cell? ⟨gb168, 3, none⟩ = some (.int .i64 0) := (blk_cell BK168.out 3).trans rfl; have hcz18_4 : w17.cell? ⟨gb168, 4, none⟩ = some (.int .i64 0) := (blk_cell BK168.out 4).trans rfl; have hcz18_5 : w17.cell? ⟨gb168, 5, none⟩ = some (.int .i64 0) := (blk_cell BK168.out 5).trans rfl; have hcz18_6 : w17.cell? ⟨gb168, 6, none⟩ = some (.int .i64 0) := (blk_cell BK168.out 6).trans rfl; have hcz18_7 : w17.cell? ⟨gb168, 7, none⟩ = some (.bool false) := (blk_cell BK168.out 7).trans rfl; have hfz18_0 := blk_frozen BK168.out 0; have hfz18_1 := blk_frozen BK168.out 1; have hfz18_2 := blk_frozen BK168.out 2; have hfz18_3 := blk_frozen BK168.out 3; have hfz18_4 := blk_frozen BK168.out 4; have hfz18_5 := blk_frozen BK168.out 5; have hfz18_6 := blk_frozen BK168.out 6; have hfz18_7 := blk_frozen BK168.out 7) | ((with_reducible refine gate_dst (N := 36) rfl ?_); refine Kd.R_lit (Kd.int .i64) _ 3 ?hg (N := 36) ?hd (xs := ([(rd_T48 l0 x4_1).f0, (rd_T48 l0 x4_1).f1, (rd_T48 l0 x4_1).f2.f0, (rd_T48 l0 x4_1).f2.f1, (rd_T48 l0 x4_1).f2.f2, (rd_T48 l0 x4_1).f2.f3, (rd_T48 l0 x4_1).f3.f0] : List Int)) (inner := [.int .i64 ((rd_T48 l0 x4_1).f0), .int .i64 ((rd_T48 l0 x4_1).f1), .int .i64 ((rd_T48 l0 x4_1).f2.f0), .int .i64 ((rd_T48 l0 x4_1).f2.f1), .int .i64 ((rd_T48 l0 x4_1).f2.f2), .int .i64 ((rd_T48 l0 x4_1).f2.f3), .int .i64 ((rd_T48 l0 x4_1).f3.f0)]) (ok := fun _ => True) (okp := fun _ => True) ?hr ?hp (fun _ hk => hk) trivial (Below.refl _ _) (Nat.le_refl _) (by simp) ?_; (case hd => rfl); (case hg => rfl); (case hr => first | (go_simp; done) | (go_simp; rfl)); (case hp => exact (Reps.one (show Kd.M (Kd.int .i64) _ _ _ ((rd_T48 l0 x4_1).f0) [.int .i64 ((rd_T48 l0 x4_1).f0)] from rfl) (Reps.one (show Kd.M (Kd.int .i64) _ _ _ ((rd_T48 l0 x4_1).f1) [.int .i64 ((rd_T48 l0 x4_1).f1)] from rfl) (Reps.one (show Kd.M (Kd.int .i64) _ _ _ ((rd_T48 l0 x4_1).f2.f0) [.int .i64 ((rd_T48 l0 x4_1).f2.f0)] from rfl) (Reps.one (show Kd.M (Kd.int .i64) _ _ _ ((rd_T48 l0 x4_1).f2.f1) [.int .i64 ((rd_T48 l0 x4_1).f2.f1)] from rfl) (Reps.one (show Kd.M (Kd.int .i64) _ _ _ ((rd_T48 l0 x4_1).f2.f2) [.int .i64 ((rd_T48 l0 x4_1).f2.f2)] from rfl) (Reps.one (show Kd.M (Kd.int .i64) _ _ _ ((rd_T48 l0 x4_1).f2.f3) [.int .i64 ((rd_T48 l0 x4_1).f2.f3)] from rfl) (Reps.one (show Kd.M (Kd.int .i64) _ _ _ ((rd_T48 l0 x4_1).f3.f0) [.int .i64 ((rd_T48 l0 x4_1).f3.f0)] from rfl) (Reps.none _ _))))))))); intro v170 w19 ho20 hb hg_ hnew_; clear hg_ hnew_; (first | rw [← Ny169.out] at ho20 | (simp only [Int.reduceToNat] at ho20; rw [← Ny169.out] at ho20)); have n0_ := Aside0.mk (Kd.R_elder' (by (with_reducible repeat (first | apply Kd.R_alloc | apply Kd.R_drewN | apply Kd.R_drew)); exact (Kd.R_mono (Kd.R_far (p := ⟨gb168, 7, none⟩) (Kd.R_far (p := ⟨gb168, 6, none⟩) (Kd.R_far (p := ⟨gb168, 5, none⟩) (Kd.R_far (p := ⟨gb168, 4, none⟩) (Kd.R_far (p := ⟨gb168, 3, none⟩) (Kd.R_far (p := ⟨gb168, 2, none⟩) (Kd.R_far (p := ⟨gb168, 1, none⟩) (Kd.R_far (p := ⟨gb168, 0, none⟩) (Kd.R_types HO_3.out BK168.out (by decide)) (fun _ hk => hk.2) (.int .i64 ((rd_T48 l0 x4_1).f0))) (fun _ hk => hk.2) (.int .i64 ((rd_T48 l0 x4_1).f1))) (fun _ hk => hk.2) (.int .i64 ((rd_T48 l0 x4_1).f2.f0))) (fun _ hk => hk.2) (.int .i64 ((rd_T48 l0 x4_1).f2.f1))) (fun _ hk => hk.2) (.int .i64 ((rd_T48 l0 x4_1).f2.f2))) (fun _ hk => hk.2) (.int .i64 ((rd_T48 l0 x4_1).f2.f3))) (fun _ hk => hk.2) (.int .i64 ((rd_T48 l0 x4_1).f3.f0))) (fun _ hk => hk.2) (.bool false)) (fun _ h_ => h_.1))) (Kd.R_base ho20) hb); have n1_ := Aside0.mk (Kd.R_lower (Kd.R_new' ho20 (Kd.R_lt (by (with_reducible repeat (first | apply Kd.R_alloc | apply Kd.R_drewN | apply Kd.R_drew)); exact (Kd.R_mono (Kd.R_far (p := ⟨gb168, 7, none⟩) (Kd.R_far (p := ⟨gb168, 6, none⟩) (Kd.R_far (p := ⟨gb168, 5, none⟩) (Kd.R_far (p := ⟨gb168, 4, none⟩) (Kd.R_far (p := ⟨gb168, 3, none⟩) (Kd.R_far (p := ⟨gb168, 2, none⟩) (Kd.R_far (p := ⟨gb168, 1, none⟩) (Kd.R_far (p := ⟨gb168, 0, none⟩) (Kd.R_types HO_3.out BK168.out (by decide)) (fun _ hk => hk.2) (.int .i64 ((rd_T48 l0 x4_1).f0))) (fun _ hk => hk.2) (.int .i64 ((rd_T48 l0 x4_1).f1))) (fun _ hk => hk.2) (.int .i64 ((rd_T48 l0 x4_1).f2.f0))) (fun _ hk => hk.2) (.int .i64 ((rd_T48 l0 x4_1).f2.f1))) (fun _ hk => hk.2) (.int .i64 ((rd_T48 l0 x4_1).f2.f2))) (fun _ hk => hk.2) (.int .i64 ((rd_T48 l0 x4_1).f2.f3))) (fun _ hk => hk.2) (.int .i64 ((rd_T48 l0 x4_1).f3.f0))) (fun _ hk => hk.2) (.bool false)) (fun _ h_ => h_.1))))) (below_size (by repeat (first | (with_reducible first | exact HB.out | apply below_alloc | apply pw_below_drewN | apply below_drew1 | refine below_set ?_ GE168.out) | exact HB.out)))); have n2_ := Aside0.mk (blk_below (g := gb168) (o := .cells #[.int .i64 ((rd_T48 l0 x4_1).f0), .int .i64 ((rd_T48 l0 x4_1).f1), .int .i64 ((rd_T48 l0 x4_1).f2.f0), .int .i64 ((rd_T48 l0 x4_1).f2.f1), .int .i64 ((rd_T48 l0 x4_1).f2.f2), .int .i64 ((rd_T48 l0 x4_1).f2.f3), .int .i64 ((rd_T48 l0 x4_1).f3.f0), .bool false] 48 (0, 0)) (by (with_reducible repeat (first | refine blk_drewN ?_ _ | refine blk_drew ?_ | refine blk_alloc ?_ _)); refine blk_put (cs := #[.int .i64 ((rd_T48 l0 x4_1).f0), .int .i64 ((rd_T48 l0 x4_1).f1), .int .i64 ((rd_T48 l0 x4_1).f2.f0), .int .i64 ((rd_T48 l0 x4_1).f2.f1), .int .i64 ((rd_T48 l0 x4_1).f2.f2), .int .i64 ((rd_T48 l0 x4_1).f2.f3), .int .i64 ((rd_T48 l0 x4_1).f3.f0), .bool false]) ?_ 7 _ rfl; (with_reducible repeat (first | refine blk_drewN ?_ _ | refine blk_drew ?_ | refine blk_alloc ?_ _)); refine blk_put (cs := #[.int .i64 ((rd_T48 l0 x4_1).f0), .int .i64 ((rd_T48 l0 x4_1).f1), .int .i64 ((rd_T48 l0 x4_1).f2.f0), .int .i64 ((rd_T48 l0 x4_1).f2.f1), .int .i64 ((rd_T48 l0 x4_1).f2.f2), .int .i64 ((rd_T48 l0 x4_1).f2.f3), .int .i64 0, .bool false]) ?_ 6 _ rfl; (with_reducible repeat (first | refine blk_drewN ?_ _ | refine blk_drew ?_ | refine blk_alloc ?_ _)); refine blk_put (cs := #[.int .i64 ((rd_T48 l0 x4_1).f0), .int .i64 ((rd_T48 l0 x4_1).f1), .int .i64 ((rd_T48 l0 x4_1).f2.f0), .int .i64 ((rd_T48 l0 x4_1).f2.f1), .int .i64 ((rd_T48 l0 x4_1).f2.f2), .int .i64 0, .int .i64 0, .bool false]) ?_ 5 _ rfl; (with_reducible repeat (first | refine blk_drewN ?_ _ | refine blk_drew ?_ | refine blk_alloc ?_ _)); refine blk_put (cs := #[.int .i64 ((rd_T48 l0 x4_1).f0), .int .i64 ((rd_T48 l0 x4_1).f1), .int .i64 ((rd_T48 l0 x4_1).f2.f0), .int .i64 ((rd_T48 l0 x4_1).f2.f1), .int .i64 0, .int .i64 0, .int .i64 0, .bool false]) ?_ 4 _ rfl; (with_reducible repeat (first | refine blk_drewN ?_ _ | refine blk_drew ?_ | refine blk_alloc ?_ _)); refine blk_put (cs := #[.int .i64 ((rd_T48 l0 x4_1).f0), .int .i64 ((rd_T48 l0 x4_1).f1), .int .i64 ((rd_T48 l0 x4_1).f2.f0), .int .i64 0, .int .i64 0, .int .i64 0, .int .i64 0, .bool false]) ?_ 3 _ rfl; (with_reducible repeat (first | refine blk_drewN ?_ _ | refine blk_drew ?_ | refine blk_alloc ?_ _)); refine blk_put (cs := #[.int .i64 ((rd_T48 l0 x4_1).f0), .int .i64 ((rd_T48 l0 x4_1).f1), .int .i64 0, .int .i64 0, .int .i64 0, .int .i64 0, .int .i64 0, .bool false]) ?_ 2 _ rfl; (with_reducible repeat (first | refine blk_drewN ?_ _ | refine blk_drew ?_ | refine blk_alloc ?_ _)); refine blk_put (cs := #[.int .i64 ((rd_T48 l0 x4_1).f0), .int .i64 0, .int .i64 0, .int .i64 0, .int .i64 0, .int .i64 0, .int .i64 0, .bool false]) ?_ 1 _ rfl; (with_reducible repeat (first | refine blk_drewN ?_ _ | refine blk_drew ?_ | refine blk_alloc ?_ _)); refine blk_put (cs := #[.int .i64 0, .int .i64 0, .int .i64 0, .int .i64 0, .int .i64 0, .int .i64 0, .int .i64 0, .bool false]) ?_ 0 _ rfl; (with_reducible repeat (first | refine blk_drewN ?_ _ | refine blk_drew ?_ | refine blk_alloc ?_ _)); exact BK168.out) hb); have n3_ := Aside0.mk (below_step (by repeat (first | (with_reducible first | exact HB.out | apply below_alloc | apply pw_below_drewN | apply below_drew1 | refine below_set ?_ GE168.out) | exact HB.out)) hb); clear HO_3; clear BK168; clear HB; have HO_3 := n0_; have HO171 := n1_; have BK168 := n2_; have HB := n3_; clear n0_ n1_ n2_ n3_; clear hb ho20; obtain ⟨Ao22, co22, eo22⟩ := Kd.R_slice HO171.out; subst eo22) | ((with_reducible refine gate_builtin (b := .append) (xs := #[.tmp 16, .tmp 36]) rfl ?_); at_builtin; refine Kd.R_append_rows (Kd.int .i64) (w0 := w) w.heap.size rfl (.tmp 16) (.tmp 36) 50 3 (.int .i64 0) 8 rfl Try.underlying50 info3 rfl (by decide) (by omega) u3 x3_1 y169 _ _ _ (fun k_ => some k_ ≠ (.slice Ao22 y169.length co22 : Value).ownBlock) (fun _ => False) rfl rfl ?aO ?aR (fun _ _ h => h) (fun _ h => h.elim) ?aF ?aB ?aS ?aL ?_; (case aR => repeat (first | exact (Kd.R_reads' HO171.out).2.2 | (with_reducible refine Kd.C_alloc ?_ _) | (with_reducible refine Kd.C_drewN ?_ _) | (with_reducible refine Kd.C_drew ?_))); (case aB => exact (by repeat (first | (with_reducible first | exact HB.out | apply below_alloc | apply pw_below_drewN | apply below_drew1 | refine below_set ?_ GE168.out) | exact HB.out))); (case aF => exact (fun k_ hk => Kd.fresh' (Kd.R_lt (by (with_reducible repeat (first | apply Kd.R_alloc | apply Kd.R_drewN | apply Kd.R_drew)); exact HO171.out)) k_ hk)); (case aO => exact (by (with_reducible repeat (first | apply Kd.R_alloc | apply Kd.R_drewN | apply Kd.R_drew)); exact Kd.R_mono HO_3.out (fun _ hk => hk.2))); (case aS => exact (below_size (by repeat (first | (with_reducible first | exact HB.out | apply below_alloc | apply pw_below_drewN | apply below_drew1 | refine below_set ?_ GE168.out) | exact HB.out)))); (case aL => have := LMc4.out; omega); intro v173 w21 ho hb hg hat; rw [← Ny172.out] at ho; have n0_ := Aside0.mk (blk_grown (g := gb168) (o := .cells #[.int .i64 ((rd_T48 l0 x4_1).f0), .int .i64 ((rd_T48 l0 x4_1).f1), .int .i64 ((rd_T48 l0 x4_1).f2.f0), .int .i64 ((rd_T48 l0 x4_1).f2.f1), .int .i64 ((rd_T48 l0 x4_1).f2.f2), .int .i64 ((rd_T48 l0 x4_1).f2.f3), .int .i64 ((rd_T48 l0 x4_1).f3.f0), .bool false] 48 (0, 0)) (by (with_reducible repeat (first | refine blk_drewN ?_ _ | refine blk_drew ?_ | refine blk_alloc ?_ _)); exact BK168.out) hg (Kd.R_ne HO_3.out BK168.out (by decide))); have n1_ := Aside0.mk (Kd.R_after (ok := (fun _ => True)) (by (with_reducible repeat (first | apply Kd.R_alloc | apply Kd.R_drewN | apply Kd.R_drew)); exact HO171.out) hg hat); have n2_ := Aside0.mk (hb); have n3_ := Aside0.mk (ho); clear BK168; clear HO171; clear HB; clear HO_3; have BK168 := n0_; have HO171 := n1_; have HB := n2_; have HO174 := n3_; clear n0_ n1_ n2_ n3_; clear ho hb hg hat; have hcz23_0 : w21.cell? ⟨gb168, 0, none⟩ = some (.int .i64 ((rd_T48 l0 x4_1).f0)) := (blk_cell BK168.out 0).trans rfl; have hcz23_1 : w21.cell? ⟨gb168, 1, none⟩ = some (.int .i64 ((rd_T48 l0 x4_1).f1)) := (blk_cell BK168.out 1).trans rfl; have hcz23_2 : w21.cell? ⟨gb168, 2, none⟩ = some (.int .i64 ((rd_T48 l0 x4_1).f2.f0)) := (blk_cell BK168.out 2).trans rfl; have hcz23_3 : w21.cell? ⟨gb168, 3, none⟩ = some (.int .i64 ((rd_T48 l0 x4_1).f2.f1)) := (blk_cell BK168.out 3).trans rfl; have hcz23_4 : w21.cell? ⟨gb168, 4, none⟩ = some (.int .i64 ((rd_T48 l0 x4_1).f2.f2)) := (blk_cell BK168.out 4).trans rfl; have hcz23_5 : w21.cell? ⟨gb168, 5, none⟩ = some (.int .i64 ((rd_T48 l0 x4_1).f2.f3)) := (blk_cell BK168.out 5).trans rfl; have hcz23_6 : w21.cell? ⟨gb168, 6, none⟩ = some (.int .i64 ((rd_T48 l0 x4_1).f3.f0)) := (blk_cell BK168.out 6).trans rfl; have hcz23_7 : w21.cell? ⟨gb168, 7, none⟩ = some (.bool false) := (blk_cell BK168.out 7).trans rfl; have hfz23_0 := blk_frozen BK168.out 0; have hfz23_1 := blk_frozen BK168.out 1; have hfz23_2 := blk_frozen BK168.out 2; have hfz23_3 := blk_frozen BK168.out 3; have hfz23_4 := blk_frozen BK168.out 4; have hfz23_5 := blk_frozen BK168.out 5; have hfz23_6 := blk_frozen BK168.out 6; have hfz23_7 := blk_frozen BK168.out 7) | ((with_reducible refine gate_builtin (b := .append) (xs := #[.tmp 44, .tmp 45]) rfl ?_); at_builtin; refine Kd.R_append (Kd.int .i64) (w0 := w) w.heap.size rfl (.tmp 44) (.tmp 45) 50 3 (.int .i64 0) 8 rfl Try.underlying50 info3 rfl (by decide) (by omega) v173 y172 0 [.int .i64 0] (fun k_ => some k_ ≠ (.slice Ao22 y169.length co22 : Value).ownBlock) (fun _ => False) rfl rfl ?aP (fun _ hk => hk.elim) ?aF ?aO ?aB ?aS ?aL ?_; (case aP => exact rfl); (case aB => exact (by repeat (first | (with_reducible first | exact HB.out | apply below_alloc | apply pw_below_drewN | apply below_drew1 | refine below_set ?_ GE168.out) | exact HB.out))); (case aF => exact (fun k_ hk => Kd.fresh' (Kd.R_lt (by (with_reducible repeat (first | apply Kd.R_alloc | apply Kd.R_drewN | apply Kd.R_drew)); exact HO171.out)) k_ hk)); (case aO => exact (by (with_reducible repeat (first | apply Kd.R_alloc | apply Kd.R_drewN | apply Kd.R_drew)); exact HO174.out)); (case aS => exact (below_size (by repeat (first | (with_reducible first | exact HB.out | apply below_alloc | apply pw_below_drewN | apply below_drew1 | refine below_set ?_ GE168.out) | exact HB.out)))); (case aL => have := LMc16.out; omega); intro v179 w24 ho hb hg hat; rw [← Ny178.out] at ho; have n0_ := Aside0.mk (blk_grown (g := gb168) (o := .cells #[.int .i64 ((rd_T48 l0 x4_1).f0), .int .i64 ((rd_T48 l0 x4_1).f1), .int .i64 ((rd_T48 l0 x4_1).f2.f0), .int .i64 ((rd_T48 l0 x4_1).f2.f1), .int .i64 ((rd_T48 l0 x4_1).f2.f2), .int .i64 ((rd_T48 l0 x4_1).f2.f3), .int .i64 ((rd_T48 l0 x4_1).f3.f0), .bool false] 48 (0, 0)) (by (with_reducible repeat (first | refine blk_drewN ?_ _ | refine blk_drew ?_ | refine blk_alloc ?_ _)); exact BK168.out) hg (Kd.R_ne HO174.out BK168.out (by decide))); have n1_ := Aside0.mk (Kd.R_after (ok := (fun _ => True)) (by (with_reducible repeat (first | apply Kd.R_alloc | apply Kd.R_drewN | apply Kd.R_drew)); exact HO171.out) hg hat); have n2_ := Aside0.mk (hb); have n3_ := Aside0.mk (ho); clear BK168; clear HO171; clear HB; clear HO174; have BK168 := n0_; have HO171 := n1_; have HB := n2_; have HO180 := n3_; clear n0_ n1_ n2_ n3_; clear ho hb hg hat))
                go_roundg k1
                case measure => have := HK1.out; omega
                case rel => exact ⟨(y178), (wrap64 (x4_1 + 1)), (by first | rfl | (simp; done) | (simp [*]; done)), H', ⟨by have := HK1.out; omega⟩, ⟨by (with_reducible repeat (first | apply Kd.R_alloc | apply Kd.R_drewN | apply Kd.R_drew)); exact Kd.R_mono HO180.out (fun _ hk => trivial)⟩, ⟨by repeat (first | (with_reducible first | exact HB.out | apply below_alloc | apply pw_below_drewN | apply below_drew1 | refine below_set ?_ GE168.out) | exact HB.out)⟩⟩
              · rw [if_neg c16] at H
                exact absurd H (by simp)
          · rw [if_neg c4] at H
            exact absurd H (by simp)
        · rw [if_neg c3] at H
          exact absurd H (by simp)
      · rw [if_neg c2] at H
        have c2b0 : decide (x4_1 < (l0.length : Int)) = false := decide_eq_false c2
        clear c2
        replace H := Option.bind_eq_some_iff.mp H
        obtain ⟨t181, A250, H⟩ := H
        replace H : ((underwoodref03_Seal.f k1 t181).bind fun t184 => (some t184)) = some r := H
        have A25 := Aside0.mk A250
        clear A250
        replace H := Option.bind_eq_some_iff.mp H
        obtain ⟨t184, A260, H⟩ := H
        replace H : (some t184) = some r := H
        have A26 := Aside0.mk A260
        clear A260
        obtain rfl := Option.some.inj H
        obtain ⟨Ao27, co27, eo27⟩ := Kd.R_slice HO_3.out
        subst eo27
        go_wp2_with (first | ((with_reducible refine gate_callee (f := 29) rfl ?_); refine goesL_ (some 48) rfl rfl Try.func29 (by kernel_rfl) rfl #[.slice Ao27 x3_1.length co27] rfl (by (try simp only [List.map_toArray, List.map_cons, List.map_nil]); first | done | rfl | (simp only [List.length_drop, List.length_take]; rfl)) ?_; (with_reducible refine (underwoodref03_Nums.calls k1 _ _ x3_1 t181 _ ?side1 ?side2 A25.out).mono ?_); (case side1 => repeat (first | exact (Kd.R_reads' HO_3.out).2.2 | (with_reducible refine Kd.C_alloc ?_ _) | (with_reducible refine Kd.C_drewN ?_ _) | (with_reducible refine Kd.C_drew ?_))); (case side2 => exact (Kd.R_reads' HO_3.out).2.1); rintro e w28 ⟨v182, rfl, ho0, hb⟩; refine ⟨_, rfl, ?_⟩; have n0_ := Aside0.mk (Kd.R_below (by (with_reducible repeat (first | apply Kd.R_alloc | apply Kd.R_drewN | apply Kd.R_drew)); exact HO_3.out) hb); have n1_ := Aside0.mk (Kd.R_lower ho0 (below_size (by repeat (first | (with_reducible first | exact HB.out | apply below_alloc | apply pw_below_drewN | apply below_drew1) | exact HB.out)))); have n2_ := Aside0.mk (below_step (by repeat (first | (with_reducible first | exact HB.out | apply below_alloc | apply pw_below_drewN | apply below_drew1) | exact HB.out)) hb); clear HO_3; clear HB; have HO_3 := n0_; have HO183 := n1_; have HB := n2_; clear n0_ n1_ n2_; (try clear hb); (try clear hb2); (try clear hk); (try clear hi); (try clear ho0); obtain ⟨Ao29, co29, eo29⟩ := Kd.R_slice HO183.out; subst eo29) | ((with_reducible refine gate_callee (f := 28) rfl ?_); refine goesL_ (some 49) rfl rfl Try.func28 (by kernel_rfl) rfl #[.slice Ao29 t181.length co29] rfl (by (try simp only [List.map_toArray, List.map_cons, List.map_nil]); first | done | rfl | (simp only [List.length_drop, List.length_take]; rfl)) ?_; (with_reducible refine (underwoodref03_Seal.calls k1 _ _ t181 t184 _ ?side1 ?side2 A26.out).mono ?_); (case side1 => repeat (first | exact (Kd.R_reads' HO183.out).2.2 | (with_reducible refine Kd.C_alloc ?_ _) | (with_reducible refine Kd.C_drewN ?_ _) | (with_reducible refine Kd.C_drew ?_))); (case side2 => exact (Kd.R_reads' HO183.out).2.1); rintro e w30 ⟨v185, rfl, ho0, hb⟩; refine ⟨_, rfl, ?_⟩; have n0_ := Aside0.mk (Kd.R_below (by (with_reducible repeat (first | apply Kd.R_alloc | apply Kd.R_drewN | apply Kd.R_drew)); exact HO_3.out) hb); have n1_ := Aside0.mk (Kd.R_elder' (by (with_reducible repeat (first | apply Kd.R_alloc | apply Kd.R_drewN | apply Kd.R_drew)); exact HO183.out) (Kd.R_base ho0) hb); have n2_ := Aside0.mk (Kd.R_lower (Kd.R_new' ho0 (Kd.R_lt (by (with_reducible repeat (first | apply Kd.R_alloc | apply Kd.R_drewN | apply Kd.R_drew)); exact HO183.out))) (below_size (by repeat (first | (with_reducible first | exact HB.out | apply below_alloc | apply pw_below_drewN | apply below_drew1) | exact HB.out)))); have n3_ := Aside0.mk (below_step (by repeat (first | (with_reducible first | exact HB.out | apply below_alloc | apply pw_below_drewN | apply below_drew1) | exact HB.out)) hb); clear HO_3; clear HO183; clear HB; have HO_3 := n0_; have HO183 := n1_; have HO186 := n2_; have HB := n3_; clear n0_ n1_ n2_ n3_; (try clear hb); (try clear hb2); (try clear hk); (try clear hi); (try clear ho0)))
        go_ret
        exact ⟨_, by first | rfl | (simp [errW_none, errW_some] <;> rfl) | (simp [*, errW_none, errW_some] <;> rfl), by (with_reducible repeat (first | apply Kd.R_alloc | apply Kd.R_drewN | apply Kd.R_drew)); exact Kd.R_mono HO186.out (fun _ hk => trivial), by repeat (first | (with_reducible first | exact HB.out | apply below_alloc | apply pw_below_drewN | apply below_drew1) | exact HB.out)⟩

/-! ### underwoodref32_Picks: function 15 -/
def underwoodref32_Picks.l0 : Nat → List (S48) → List (S55) → Int → Option ((List (S55)))
  | 0, _, _, _ => none
  | k + 1, x0, x3, x4 => if x4 < (x0.length : Int) then (if 0 ≤ x4 then (if ((rd_T48 x0 x4).f2.f0) = 0 then (if x3.length < 5864062014805 then (underwoodref32_Picks.l0 k x0 (x3 ++ [(⟨3, (rd_T48 x0 x4).f0, 0⟩ : S55)]) (wrap64 (x4 + 1))) else (none)) else (if x3.length < 5864062014805 then (underwoodref32_Picks.l0 k x0 (x3 ++ [(⟨1, (rd_T48 x0 x4).f0, 0⟩ : S55)]) (wrap64 (x4 + 1))) else (none))) else (none)) else (some x3)
def underwoodref32_Picks.f (k : Nat) (l0 : List (S48)) : Option ((List (S55))) := underwoodref32_Picks.l0 k l0 ([] : List (S55)) 0
theorem underwoodref32_Picks.mono_l : ∀ k, (∀ y0 y1 y2, LeO (underwoodref32_Picks.l0 k y0 y1 y2) (underwoodref32_Picks.l0 (k + 1) y0 y1 y2))
  | 0 => fun _ _ _ r h => by simp [underwoodref32_Picks.l0] at h
  | k + 1 => by
    have ih0 := underwoodref32_Picks.mono_l k
    · intro y0 y1 y2
      unfold underwoodref32_Picks.l0
      repeat' first
      | (with_reducible exact ih0 _ _ _)
      | (with_reducible exact LeO.refl _)
      | (with_reducible exact LeO.none _)
      | (with_reducible refine LeO.ite ?_ ?_)
      | (with_reducible refine LeO.bind ?_ (fun _ => ?_))
      | exact ih0 _ _ _
      | exact LeO.none _
      | refine LeO.ite ?_ ?_
      | refine LeO.bind ?_ (fun _ => ?_)
theorem underwoodref32_Picks.mono : ∀ a0 k, LeO (underwoodref32_Picks.f k a0) (underwoodref32_Picks.f (k + 1) a0) := by
  intro a0 k
  have ih0 := underwoodref32_Picks.mono_l k
  unfold underwoodref32_Picks.f
  repeat' first
      | (with_reducible exact ih0 _ _ _)
      | (with_reducible exact LeO.refl _)
      | (with_reducible exact LeO.none _)
      | (with_reducible refine LeO.ite ?_ ?_)
      | (with_reducible refine LeO.bind ?_ (fun _ => ?_))
      | exact ih0 _ _ _
      | exact LeO.none _
      | refine LeO.ite ?_ ?_
      | refine LeO.bind ?_ (fun _ => ?_)
set_option maxHeartbeats 8000000 in
set_option maxRecDepth 100000 in
theorem underwoodref32_Picks.calls (k : Nat) (A0 : Option Addr) (c0 : Nat) (l0 : List (S48)) (r : List (S55)) (w : World) (hr0 : Kd.C k48 w A0 l0.length l0) (hc0 : l0.length ≤ c0) (h : underwoodref32_Picks.f k l0 = some r) :
    Calls Try.prog 15 #[.slice A0 l0.length c0] w fun e w' => ∃ v0_ : Value, e = .returned (v0_) ∧ Kd.R k55 55 w' w.heap.size (fun _ => True) v0_ r ∧ Below w.heap.size w w' := by
  have hu55 := Try.underlying55
  have HR0 := Aside0.mk hr0
  have HC0 := Aside0.mk hc0
  clear hr0 hc0
  have HB := Aside0.mk (Below.refl w.heap.size w)
  have H : (underwoodref32_Picks.l0 k l0 ([] : List (S55)) 0) = some r := h
  clear h
  have H' := Aside0.mk H
  clear H
  go_enter Try.func15, Try.ntmps15
  go_wp2
  go_loopg [3, 4] k (fun kq v3 v4 w' => ∃ (x3_1 : List (S55)) (x4_1 : Int), v4 = .int .i64 x4_1 ∧ Aside0 (underwoodref32_Picks.l0 kq l0 x3_1 x4_1 = some r) ∧ Aside0 (kq ≤ k) ∧ Aside0 (Kd.R k55 55 w' w.heap.size (fun _ => True) v3 x3_1) ∧ Aside0 (Below w.heap.size w w'))
  case atStart => exact ⟨(([] : List (S55))), (0), (by first | rfl | (simp; done) | (simp [*]; done)), H', ⟨Nat.le_refl _⟩, ⟨by first | exact Kd.R_nil _ _ _ _ _ | exact Kd.N_nil _ _ _ _ _ | exact Kd.V_nil _ _ _ _ _ | exact Kd.Q_nil _ _ _ _ _ | exact Kd.S_nil _ _ _ _ _⟩, ⟨by repeat (first | (with_reducible first | exact HB.out | apply below_alloc | apply pw_below_drewN | apply below_drew1) | exact HB.out)⟩⟩
  case round =>
    clear H'
    try clear c1
    obtain ⟨x3_1, x4_1, rfl, HA, HK1, HO_3, HB⟩ := hrel
    cases gk with
    | zero => exact absurd HA.out (by simp [underwoodref32_Picks.l0])
    | succ k1 =>
      have H := HA.out
      clear HA
      simp only [underwoodref32_Picks.l0] at H
      by_cases c2 : x4_1 < (l0.length : Int)
      · rw [if_pos c2] at H
        have c2b0 : decide (x4_1 < (l0.length : Int)) = true := decide_eq_true c2
        clear c2
        by_cases c3 : 0 ≤ x4_1
        · rw [if_pos c3] at H
          have c3b0 : decide (0 ≤ x4_1) = true := decide_eq_true c3
          clear c3
          by_cases c4 : ((rd_T48 l0 x4_1).f2.f0) = 0
          · rw [if_pos c4] at H
            have c4b0 : (((rd_T48 l0 x4_1).f2.f0) == 0) = true := beq_iff_eq.mpr c4
            have c4b1 : (((rd_T48 l0 x4_1).f2.f0) != 0) = false := bne_eq_false_iff_eq.mpr c4
            clear c4
            by_cases c5 : x3_1.length < 5864062014805
            · rw [if_pos c5] at H
              have LMc5 := Aside0.mk c5
              clear c5
              obtain ⟨y190, hy190⟩ : ∃ y_ : List (S55), y_ = (x3_1 ++ [(⟨3, (rd_T48 l0 x4_1).f0, 0⟩ : S55)]) := ⟨_, rfl⟩
              replace H : (underwoodref32_Picks.l0 k1 l0 y190 (wrap64 (x4_1 + 1))) = some r := by first | (rw [hy190]; with_reducible exact H) | (have H2_ := (Option.bind_some _ _).symm.trans H; rw [hy190]; with_reducible exact H2_) | (have H2_ := (Option.bind_some _ _).symm.trans H; with_reducible exact H2_) | with_reducible exact H | (rw [hy190]; exact H) | exact H
              have Ny190 := Aside0.mk hy190
              clear hy190
              have H' := Aside0.mk H
              clear H
              have p187 : 0 ≤ (x4_1 : Int) := of_decide_eq_true (by first | (with_reducible assumption) | assumption)
              have q187 : x4_1 < (l0.length : Int) := of_decide_eq_true (by first | (with_reducible assumption) | assumption)
              obtain ⟨ad187, e187, hx187_0, hx187_1, hx187_2, hx187_3, hx187_4, hx187_5, hx187_6, hx187_7⟩ := at_T48 HR0.out x4_1 p187 q187
              cases e187
              replace hx187_0 := (HB.out.cell (World.block_lt_of_cell? w _ hx187_0)).trans hx187_0
              replace hx187_1 := (HB.out.cell (World.block_lt_of_cell? w _ hx187_1)).trans hx187_1
              replace hx187_2 := (HB.out.cell (World.block_lt_of_cell? w _ hx187_2)).trans hx187_2
              replace hx187_3 := (HB.out.cell (World.block_lt_of_cell? w _ hx187_3)).trans hx187_3
              replace hx187_4 := (HB.out.cell (World.block_lt_of_cell? w _ hx187_4)).trans hx187_4
              replace hx187_5 := (HB.out.cell (World.block_lt_of_cell? w _ hx187_5)).trans hx187_5
              replace hx187_6 := (HB.out.cell (World.block_lt_of_cell? w _ hx187_6)).trans hx187_6
              replace hx187_7 := (HB.out.cell (World.block_lt_of_cell? w _ hx187_7)).trans hx187_7
              replace p187 := eq_true p187
              replace q187 := eq_true q187
              go_wp2_with (first | ((with_reducible refine gate_dst (N := 5) rfl ?_); refine box_event ?hg (N := 5) ?hd (cs := #[.int .i64 0, .int .i64 0, .int .i64 0]) (t := 55) ?hr ?_; (case hd => rfl); (case hg => rfl); (case hr => first | (go_simp; done) | (go_simp; rfl)); intro gb188 hg w6 hbox hb; have n0_ := Aside0.mk (Kd.R_below (Kd.R_elderB (by (with_reducible repeat (first | apply Kd.R_alloc | apply Kd.R_drewN | apply Kd.R_drew)); exact HO_3.out) gb188 (Nat.le_of_eq hg.symm)) hb); have n1_ := Aside0.mk (below_step (by repeat (first | (with_reducible first | exact HB.out | apply below_alloc | apply pw_below_drewN | apply below_drew1) | exact HB.out)) hb); have n2_ := Aside0.mk (hbox); have n3_ := Aside0.mk ((by rw [hg]; exact (below_size (by repeat (first | (with_reducible first | exact HB.out | apply below_alloc | apply pw_below_drewN | apply below_drew1) | exact HB.out))) : w.heap.size ≤ gb188)); have n4_ := Aside0.mk ((by rw [hg]; exact (below_size (by repeat (first | (with_reducible first | exact HB.out | apply below_alloc | apply pw_below_drewN | apply below_drew1) | exact HB.out))) : w.heap.size ≤ gb188)); clear HO_3; clear HB; have HO_3 := n0_; have HB := n1_; have BK188 := n2_; have GW188 := n3_; have GE188 := n4_; clear n0_ n1_ n2_ n3_ n4_; clear hb hbox hg; have hcz7_0 : w6.cell? ⟨gb188, 0, none⟩ = some (.int .i64 0) := (blk_cell BK188.out 0).trans rfl; have hcz7_1 : w6.cell? ⟨gb188, 1, none⟩ = some (.int .i64 0) := (blk_cell BK188.out 1).trans rfl; have hcz7_2 : w6.cell? ⟨gb188, 2, none⟩ = some (.int .i64 0) := (blk_cell BK188.out 2).trans rfl; have hfz7_0 := blk_frozen BK188.out 0; have hfz7_1 := blk_frozen BK188.out 1; have hfz7_2 := blk_frozen BK188.out 2; have p189 : 0 ≤ (x4_1 : Int) := of_decide_eq_true (by first | (with_reducible assumption) | assumption); have q189 : x4_1 < (l0.length : Int) := of_decide_eq_true (by first | (with_reducible assumption) | assumption); obtain ⟨ad189, e189, hx189_0, hx189_1, hx189_2, hx189_3, hx189_4, hx189_5, hx189_6, hx189_7⟩ := at_T48 HR0.out x4_1 p189 q189; obtain rfl : ad187 = ad189 := (by injection e189); have hn189_0 : ad187.block ≠ gb188 := Nat.ne_of_lt (Nat.lt_of_lt_of_le (by have := World.block_lt_of_cell? _ _ hx189_0; first | rwa [add_block] at this | exact this) GW188.out); have hn189_1 : ad187.block ≠ gb188 := Nat.ne_of_lt (Nat.lt_of_lt_of_le (by have := World.block_lt_of_cell? _ _ hx189_0; first | rwa [add_block] at this | exact this) GW188.out); have hn189_2 : ad187.block ≠ gb188 := Nat.ne_of_lt (Nat.lt_of_lt_of_le (by have := World.block_lt_of_cell? _ _ hx189_0; first | rwa [add_block] at this | exact this) GW188.out); replace hx189_0 := (HB.out.cell (World.block_lt_of_cell? w _ hx189_0)).trans hx189_0; replace hx189_1 := (HB.out.cell (World.block_lt_of_cell? w _ hx189_1)).trans hx189_1; replace hx189_2 := (HB.out.cell (World.block_lt_of_cell? w _ hx189_2)).trans hx189_2; replace hx189_3 := (HB.out.cell (World.block_lt_of_cell? w _ hx189_3)).trans hx189_3; replace hx189_4 := (HB.out.cell (World.block_lt_of_cell? w _ hx189_4)).trans hx189_4; replace hx189_5 := (HB.out.cell (World.block_lt_of_cell? w _ hx189_5)).trans hx189_5; replace hx189_6 := (HB.out.cell (World.block_lt_of_cell? w _ hx189_6)).trans hx189_6; replace hx189_7 := (HB.out.cell (World.block_lt_of_cell? w _ hx189_7)).trans hx189_7; replace hx189_0 := (cell_far (p := ⟨gb188, 0, none⟩) (by first | (rw [add_block]; exact hn189_0) | (show (Addr.add _ _).block ≠ _; rw [add_block]; exact hn189_0) | exact hn189_0) (.int .i64 1)).trans hx189_0; replace hx189_1 := (cell_far (p := ⟨gb188, 0, none⟩) (by first | (rw [add_block]; exact hn189_0) | (show (Addr.add _ _).block ≠ _; rw [add_block]; exact hn189_0) | exact hn189_0) (.int .i64 1)).trans hx189_1; replace hx189_2 := (cell_far (p := ⟨gb188, 0, none⟩) (by first | (rw [add_block]; exact hn189_0) | (show (Addr.add _ _).block ≠ _; rw [add_block]; exact hn189_0) | exact hn189_0) (.int .i64 1)).trans hx189_2; replace hx189_3 := (cell_far (p := ⟨gb188, 0, none⟩) (by first | (rw [add_block]; exact hn189_0) | (show (Addr.add _ _).block ≠ _; rw [add_block]; exact hn189_0) | exact hn189_0) (.int .i64 1)).trans hx189_3; replace hx189_4 := (cell_far (p := ⟨gb188, 0, none⟩) (by first | (rw [add_block]; exact hn189_0) | (show (Addr.add _ _).block ≠ _; rw [add_block]; exact hn189_0) | exact hn189_0) (.int .i64 1)).trans hx189_4; replace hx189_5 := (cell_far (p := ⟨gb188, 0, none⟩) (by first | (rw [add_block]; exact hn189_0) | (show (Addr.add _ _).block ≠ _; rw [add_block]; exact hn189_0) | exact hn189_0) (.int .i64 1)).trans hx189_5; replace hx189_6 := (cell_far (p := ⟨gb188, 0, none⟩) (by first | (rw [add_block]; exact hn189_0) | (show (Addr.add _ _).block ≠ _; rw [add_block]; exact hn189_0) | exact hn189_0) (.int .i64 1)).trans hx189_6; replace hx189_7 := (cell_far (p := ⟨gb188, 0, none⟩) (by first | (rw [add_block]; exact hn189_0) | (show (Addr.add _ _).block ≠ _; rw [add_block]; exact hn189_0) | exact hn189_0) (.int .i64 1)).trans hx189_7; replace hx189_0 := (cell_far (p := ⟨gb188, 1, none⟩) (by first | (rw [add_block]; exact hn189_1) | (show (Addr.add _ _).block ≠ _; rw [add_block]; exact hn189_1) | exact hn189_1) (.int .i64 ((rd_T48 l0 x4_1).f0))).trans hx189_0; replace hx189_1 := (cell_far (p := ⟨gb188, 1, none⟩) (by first | (rw [add_block]; exact hn189_1) | (show (Addr.add _ _).block ≠ _; rw [add_block]; exact hn189_1) | exact hn189_1) (.int .i64 ((rd_T48 l0 x4_1).f0))).trans hx189_1; replace hx189_2 := (cell_far (p := ⟨gb188, 1, none⟩) (by first | (rw [add_block]; exact hn189_1) | (show (Addr.add _ _).block ≠ _; rw [add_block]; exact hn189_1) | exact hn189_1) (.int .i64 ((rd_T48 l0 x4_1).f0))).trans hx189_2; replace hx189_3 := (cell_far (p := ⟨gb188, 1, none⟩) (by first | (rw [add_block]; exact hn189_1) | (show (Addr.add _ _).block ≠ _; rw [add_block]; exact hn189_1) | exact hn189_1) (.int .i64 ((rd_T48 l0 x4_1).f0))).trans hx189_3; replace hx189_4 := (cell_far (p := ⟨gb188, 1, none⟩) (by first | (rw [add_block]; exact hn189_1) | (show (Addr.add _ _).block ≠ _; rw [add_block]; exact hn189_1) | exact hn189_1) (.int .i64 ((rd_T48 l0 x4_1).f0))).trans hx189_4; replace hx189_5 := (cell_far (p := ⟨gb188, 1, none⟩) (by first | (rw [add_block]; exact hn189_1) | (show (Addr.add _ _).block ≠ _; rw [add_block]; exact hn189_1) | exact hn189_1) (.int .i64 ((rd_T48 l0 x4_1).f0))).trans hx189_5; replace hx189_6 := (cell_far (p := ⟨gb188, 1, none⟩) (by first | (rw [add_block]; exact hn189_1) | (show (Addr.add _ _).block ≠ _; rw [add_block]; exact hn189_1) | exact hn189_1) (.int .i64 ((rd_T48 l0 x4_1).f0))).trans hx189_6; replace hx189_7 := (cell_far (p := ⟨gb188, 1, none⟩) (by first | (rw [add_block]; exact hn189_1) | (show (Addr.add _ _).block ≠ _; rw [add_block]; exact hn189_1) | exact hn189_1) (.int .i64 ((rd_T48 l0 x4_1).f0))).trans hx189_7; replace hx189_0 := (cell_far (p := ⟨gb188, 2, none⟩) (by first | (rw [add_block]; exact hn189_2) | (show (Addr.add _ _).block ≠ _; rw [add_block]; exact hn189_2) | exact hn189_2) (.int .i64 0)).trans hx189_0; replace hx189_1 := (cell_far (p := ⟨gb188, 2, none⟩) (by first | (rw [add_block]; exact hn189_2) | (show (Addr.add _ _).block ≠ _; rw [add_block]; exact hn189_2) | exact hn189_2) (.int .i64 0)).trans hx189_1; replace hx189_2 := (cell_far (p := ⟨gb188, 2, none⟩) (by first | (rw [add_block]; exact hn189_2) | (show (Addr.add _ _).block ≠ _; rw [add_block]; exact hn189_2) | exact hn189_2) (.int .i64 0)).trans hx189_2; replace hx189_3 := (cell_far (p := ⟨gb188, 2, none⟩) (by first | (rw [add_block]; exact hn189_2) | (show (Addr.add _ _).block ≠ _; rw [add_block]; exact hn189_2) | exact hn189_2) (.int .i64 0)).trans hx189_3; replace hx189_4 := (cell_far (p := ⟨gb188, 2, none⟩) (by first | (rw [add_block]; exact hn189_2) | (show (Addr.add _ _).block ≠ _; rw [add_block]; exact hn189_2) | exact hn189_2) (.int .i64 0)).trans hx189_4; replace hx189_5 := (cell_far (p := ⟨gb188, 2, none⟩) (by first | (rw [add_block]; exact hn189_2) | (show (Addr.add _ _).block ≠ _; rw [add_block]; exact hn189_2) | exact hn189_2) (.int .i64 0)).trans hx189_5; replace hx189_6 := (cell_far (p := ⟨gb188, 2, none⟩) (by first | (rw [add_block]; exact hn189_2) | (show (Addr.add _ _).block ≠ _; rw [add_block]; exact hn189_2) | exact hn189_2) (.int .i64 0)).trans hx189_6; replace hx189_7 := (cell_far (p := ⟨gb188, 2, none⟩) (by first | (rw [add_block]; exact hn189_2) | (show (Addr.add _ _).block ≠ _; rw [add_block]; exact hn189_2) | exact hn189_2) (.int .i64 0)).trans hx189_7; clear hn189_0; clear hn189_1; clear hn189_2; replace p189 := eq_true p189; replace q189 := eq_true q189) | ((with_reducible refine gate_builtin (b := .append) (xs := #[.tmp 26, .tmp 28]) rfl ?_); at_builtin; refine Kd.R_append k55 (w0 := w) w.heap.size rfl (.tmp 26) (.tmp 28) 31 55 (.agg #[(.int .i64 0), (.int .i64 0), (.int .i64 0)]) 24 rfl Try.underlying31 info55 rfl (by decide) (by omega) u3 x3_1 (⟨3, (rd_T48 l0 x4_1).f0, 0⟩ : S55) [.int .i64 3, .int .i64 ((rd_T48 l0 x4_1).f0), .int .i64 0] (fun k_ => k_ ≠ gb188) (fun _ => False) rfl (by first | (go_simp; done) | (go_simp; rfl)) ?aP (fun _ hk => hk.elim) ?aF ?aO ?aB ?aS ?aL ?_; (case aP => exact k55_mkM _ _ _ (⟨3, (rd_T48 l0 x4_1).f0, 0⟩ : S55)); (case aB => exact (by repeat (first | (with_reducible first | exact HB.out | apply below_alloc | apply pw_below_drewN | apply below_drew1 | refine below_set ?_ GE188.out) | exact HB.out))); (case aF => exact (fun k_ hk => Kd.freshB (g := gb188) (o := .cells #[.int .i64 3, .int .i64 ((rd_T48 l0 x4_1).f0), .int .i64 0] 55 (0, 0)) (by (with_reducible repeat (first | refine blk_drewN ?_ _ | refine blk_drew ?_ | refine blk_alloc ?_ _)); refine blk_put (cs := #[.int .i64 1, .int .i64 ((rd_T48 l0 x4_1).f0), .int .i64 0]) ?_ 0 _ rfl; (with_reducible repeat (first | refine blk_drewN ?_ _ | refine blk_drew ?_ | refine blk_alloc ?_ _)); refine blk_put (cs := #[.int .i64 1, .int .i64 ((rd_T48 l0 x4_1).f0), .int .i64 0]) ?_ 2 _ rfl; (with_reducible repeat (first | refine blk_drewN ?_ _ | refine blk_drew ?_ | refine blk_alloc ?_ _)); refine blk_put (cs := #[.int .i64 1, .int .i64 0, .int .i64 0]) ?_ 1 _ rfl; (with_reducible repeat (first | refine blk_drewN ?_ _ | refine blk_drew ?_ | refine blk_alloc ?_ _)); refine blk_put (cs := #[.int .i64 0, .int .i64 0, .int .i64 0]) ?_ 0 _ rfl; (with_reducible repeat (first | refine blk_drewN ?_ _ | refine blk_drew ?_ | refine blk_alloc ?_ _)); exact BK188.out) k_ hk)); (case aO => exact (by (with_reducible repeat (first | apply Kd.R_alloc | apply Kd.R_drewN | apply Kd.R_drew)); exact Kd.R_mono (Kd.R_far (p := ⟨gb188, 0, none⟩) (Kd.R_far (p := ⟨gb188, 2, none⟩) (Kd.R_far (p := ⟨gb188, 1, none⟩) (Kd.R_far (p := ⟨gb188, 0, none⟩) (Kd.R_mono HO_3.out (fun k_ hk => (⟨hk, hk.2⟩ : _ ∧ k_ ≠ gb188))) (fun _ hk => hk.2) (.int .i64 1)) (fun _ hk => hk.2) (.int .i64 ((rd_T48 l0 x4_1).f0))) (fun _ hk => hk.2) (.int .i64 0)) (fun _ hk => hk.2) (.int .i64 3)) (fun _ hk => hk.1.2))); (case aS => exact (below_size (by repeat (first | (with_reducible first | exact HB.out | apply below_alloc | apply pw_below_drewN | apply below_drew1 | refine below_set ?_ GE188.out) | exact HB.out)))); (case aL => have := LMc5.out; omega); intro v191 w8 ho hb hg hat; rw [← Ny190.out] at ho; have n0_ := Aside0.mk (blk_grown (g := gb188) (o := .cells #[.int .i64 3, .int .i64 ((rd_T48 l0 x4_1).f0), .int .i64 0] 55 (0, 0)) (by (with_reducible repeat (first | refine blk_drewN ?_ _ | refine blk_drew ?_ | refine blk_alloc ?_ _)); refine blk_put (cs := #[.int .i64 1, .int .i64 ((rd_T48 l0 x4_1).f0), .int .i64 0]) ?_ 0 _ rfl; (with_reducible repeat (first | refine blk_drewN ?_ _ | refine blk_drew ?_ | refine blk_alloc ?_ _)); refine blk_put (cs := #[.int .i64 1, .int .i64 ((rd_T48 l0 x4_1).f0), .int .i64 0]) ?_ 2 _ rfl; (with_reducible repeat (first | refine blk_drewN ?_ _ | refine blk_drew ?_ | refine blk_alloc ?_ _)); refine blk_put (cs := #[.int .i64 1, .int .i64 0, .int .i64 0]) ?_ 1 _ rfl; (with_reducible repeat (first | refine blk_drewN ?_ _ | refine blk_drew ?_ | refine blk_alloc ?_ _)); refine blk_put (cs := #[.int .i64 0, .int .i64 0, .int .i64 0]) ?_ 0 _ rfl; (with_reducible repeat (first | refine blk_drewN ?_ _ | refine blk_drew ?_ | refine blk_alloc ?_ _)); exact BK188.out) hg (Kd.R_away HO_3.out (fun _ hk => hk.2))); have n1_ := Aside0.mk (hb); have n2_ := Aside0.mk (ho); clear BK188; clear HB; clear HO_3; have BK188 := n0_; have HB := n1_; have HO192 := n2_; clear n0_ n1_ n2_; clear ho hb hg hat))
              go_roundg k1
              case measure => have := HK1.out; omega
              case rel => exact ⟨(y190), (wrap64 (x4_1 + 1)), (by first | rfl | (simp; done) | (simp [*]; done)), H', ⟨by have := HK1.out; omega⟩, ⟨by (with_reducible repeat (first | apply Kd.R_alloc | apply Kd.R_drewN | apply Kd.R_drew)); exact Kd.R_mono HO192.out (fun _ hk => trivial)⟩, ⟨by repeat (first | (with_reducible first | exact HB.out | apply below_alloc | apply pw_below_drewN | apply below_drew1 | refine below_set ?_ GE188.out) | exact HB.out)⟩⟩
            · rw [if_neg c5] at H
              exact absurd H (by simp)
          · rw [if_neg c4] at H
            have c4b0 : (((rd_T48 l0 x4_1).f2.f0) == 0) = false := beq_eq_false_iff_ne.mpr c4
            have c4b1 : (((rd_T48 l0 x4_1).f2.f0) != 0) = true := bne_iff_ne.mpr c4
            by_cases c9 : x3_1.length < 5864062014805
            · rw [if_pos c9] at H
              have LMc9 := Aside0.mk c9
              clear c9
              obtain ⟨y193, hy193⟩ : ∃ y_ : List (S55), y_ = (x3_1 ++ [(⟨1, (rd_T48 l0 x4_1).f0, 0⟩ : S55)]) := ⟨_, rfl⟩
              replace H : (underwoodref32_Picks.l0 k1 l0 y193 (wrap64 (x4_1 + 1))) = some r := by first | (rw [hy193]; with_reducible exact H) | (have H2_ := (Option.bind_some _ _).symm.trans H; rw [hy193]; with_reducible exact H2_) | (have H2_ := (Option.bind_some _ _).symm.trans H; with_reducible exact H2_) | with_reducible exact H | (rw [hy193]; exact H) | exact H
              have Ny193 := Aside0.mk hy193
              clear hy193
              have H' := Aside0.mk H
              clear H
              have p187 : 0 ≤ (x4_1 : Int) := of_decide_eq_true (by first | (with_reducible assumption) | assumption)
              have q187 : x4_1 < (l0.length : Int) := of_decide_eq_true (by first | (with_reducible assumption) | assumption)
              obtain ⟨ad187, e187, hx187_0, hx187_1, hx187_2, hx187_3, hx187_4, hx187_5, hx187_6, hx187_7⟩ := at_T48 HR0.out x4_1 p187 q187
              cases e187
              replace hx187_0 := (HB.out.cell (World.block_lt_of_cell? w _ hx187_0)).trans hx187_0
              replace hx187_1 := (HB.out.cell (World.block_lt_of_cell? w _ hx187_1)).trans hx187_1
              replace hx187_2 := (HB.out.cell (World.block_lt_of_cell? w _ hx187_2)).trans hx187_2
              replace hx187_3 := (HB.out.cell (World.block_lt_of_cell? w _ hx187_3)).trans hx187_3
              replace hx187_4 := (HB.out.cell (World.block_lt_of_cell? w _ hx187_4)).trans hx187_4
              replace hx187_5 := (HB.out.cell (World.block_lt_of_cell? w _ hx187_5)).trans hx187_5
              replace hx187_6 := (HB.out.cell (World.block_lt_of_cell? w _ hx187_6)).trans hx187_6
              replace hx187_7 := (HB.out.cell (World.block_lt_of_cell? w _ hx187_7)).trans hx187_7
              replace p187 := eq_true p187
              replace q187 := eq_true q187
              go_wp2_with (first | ((with_reducible refine gate_dst (N := 5) rfl ?_); refine box_event ?hg (N := 5) ?hd (cs := #[.int .i64 0, .int .i64 0, .int .i64 0]) (t := 55) ?hr ?_; (case hd => rfl); (case hg => rfl); (case hr => first | (go_simp; done) | (go_simp; rfl)); intro gb188 hg w10 hbox hb; have n0_ := Aside0.mk (Kd.R_below (Kd.R_elderB (by (with_reducible repeat (first | apply Kd.R_alloc | apply Kd.R_drewN | apply Kd.R_drew)); exact HO_3.out) gb188 (Nat.le_of_eq hg.symm)) hb); have n1_ := Aside0.mk (below_step (by repeat (first | (with_reducible first | exact HB.out | apply below_alloc | apply pw_below_drewN | apply below_drew1) | exact HB.out)) hb); have n2_ := Aside0.mk (hbox); have n3_ := Aside0.mk ((by rw [hg]; exact (below_size (by repeat (first | (with_reducible first | exact HB.out | apply below_alloc | apply pw_below_drewN | apply below_drew1) | exact HB.out))) : w.heap.size ≤ gb188)); have n4_ := Aside0.mk ((by rw [hg]; exact (below_size (by repeat (first | (with_reducible first | exact HB.out | apply below_alloc | apply pw_below_drewN | apply below_drew1) | exact HB.out))) : w.heap.size ≤ gb188)); clear HO_3; clear HB; have HO_3 := n0_; have HB := n1_; have BK188 := n2_; have GW188 := n3_; have GE188 := n4_; clear n0_ n1_ n2_ n3_ n4_; clear hb hbox hg; have hcz11_0 : w10.cell? ⟨gb188, 0, none⟩ = some (.int .i64 0) := (blk_cell BK188.out 0).trans rfl; have hcz11_1 : w10.cell? ⟨gb188, 1, none⟩ = some (.int .i64 0) := (blk_cell BK188.out 1).trans rfl; have hcz11_2 : w10.cell? ⟨gb188, 2, none⟩ = some (.int .i64 0) := (blk_cell BK188.out 2).trans rfl; have hfz11_0 := blk_frozen BK188.out 0; have hfz11_1 := blk_frozen BK188.out 1; have hfz11_2 := blk_frozen BK188.out 2; have p189 : 0 ≤ (x4_1 : Int) := of_decide_eq_true (by first | (with_reducible assumption) | assumption); have q189 : x4_1 < (l0.length : Int) := of_decide_eq_true (by first | (with_reducible assumption) | assumption); obtain ⟨ad189, e189, hx189_0, hx189_1, hx189_2, hx189_3, hx189_4, hx189_5, hx189_6, hx189_7⟩ := at_T48 HR0.out x4_1 p189 q189; obtain rfl : ad187 = ad189 := (by injection e189); have hn189_0 : ad187.block ≠ gb188 := Nat.ne_of_lt (Nat.lt_of_lt_of_le (by have := World.block_lt_of_cell? _ _ hx189_0; first | rwa [add_block] at this | exact this) GW188.out); have hn189_1 : ad187.block ≠ gb188 := Nat.ne_of_lt (Nat.lt_of_lt_of_le (by have := World.block_lt_of_cell? _ _ hx189_0; first | rwa [add_block] at this | exact this) GW188.out); have hn189_2 : ad187.block ≠ gb188 := Nat.ne_of_lt (Nat.lt_of_lt_of_le (by have := World.block_lt_of_cell? _ _ hx189_0; first | rwa [add_block] at this | exact this) GW188.out); replace hx189_0 := (HB.out.cell (World.block_lt_of_cell? w _ hx189_0)).trans hx189_0; replace hx189_1 := (HB.out.cell (World.block_lt_of_cell? w _ hx189_1)).trans hx189_1; replace hx189_2 := (HB.out.cell (World.block_lt_of_cell? w _ hx189_2)).trans hx189_2; replace hx189_3 := (HB.out.cell (World.block_lt_of_cell? w _ hx189_3)).trans hx189_3; replace hx189_4 := (HB.out.cell (World.block_lt_of_cell? w _ hx189_4)).trans hx189_4; replace hx189_5 := (HB.out.cell (World.block_lt_of_cell? w _ hx189_5)).trans hx189_5; replace hx189_6 := (HB.out.cell (World.block_lt_of_cell? w _ hx189_6)).trans hx189_6; replace hx189_7 := (HB.out.cell (World.block_lt_of_cell? w _ hx189_7)).trans hx189_7; replace hx189_0 := (cell_far (p := ⟨gb188, 0, none⟩) (by first | (rw [add_block]; exact hn189_0) | (show (Addr.add _ _).block ≠ _; rw [add_block]; exact hn189_0) | exact hn189_0) (.int .i64 1)).trans hx189_0; replace hx189_1 := (cell_far (p := ⟨gb188, 0, none⟩) (by first | (rw [add_block]; exact hn189_0) | (show (Addr.add _ _).block ≠ _; rw [add_block]; exact hn189_0) | exact hn189_0) (.int .i64 1)).trans hx189_1; replace hx189_2 := (cell_far (p := ⟨gb188, 0, none⟩) (by first | (rw [add_block]; exact hn189_0) | (show (Addr.add _ _).block ≠ _; rw [add_block]; exact hn189_0) | exact hn189_0) (.int .i64 1)).trans hx189_2; replace hx189_3 := (cell_far (p := ⟨gb188, 0, none⟩) (by first | (rw [add_block]; exact hn189_0) | (show (Addr.add _ _).block ≠ _; rw [add_block]; exact hn189_0) | exact hn189_0) (.int .i64 1)).trans hx189_3; replace hx189_4 := (cell_far (p := ⟨gb188, 0, none⟩) (by first | (rw [add_block]; exact hn189_0) | (show (Addr.add _ _).block ≠ _; rw [add_block]; exact hn189_0) | exact hn189_0) (.int .i64 1)).trans hx189_4; replace hx189_5 := (cell_far (p := ⟨gb188, 0, none⟩) (by first | (rw [add_block]; exact hn189_0) | (show (Addr.add _ _).block ≠ _; rw [add_block]; exact hn189_0) | exact hn189_0) (.int .i64 1)).trans hx189_5; replace hx189_6 := (cell_far (p := ⟨gb188, 0, none⟩) (by first | (rw [add_block]; exact hn189_0) | (show (Addr.add _ _).block ≠ _; rw [add_block]; exact hn189_0) | exact hn189_0) (.int .i64 1)).trans hx189_6; replace hx189_7 := (cell_far (p := ⟨gb188, 0, none⟩) (by first | (rw [add_block]; exact hn189_0) | (show (Addr.add _ _).block ≠ _; rw [add_block]; exact hn189_0) | exact hn189_0) (.int .i64 1)).trans hx189_7; replace hx189_0 := (cell_far (p := ⟨gb188, 1, none⟩) (by first | (rw [add_block]; exact hn189_1) | (show (Addr.add _ _).block ≠ _; rw [add_block]; exact hn189_1) | exact hn189_1) (.int .i64 ((rd_T48 l0 x4_1).f0))).trans hx189_0; replace hx189_1 := (cell_far (p := ⟨gb188, 1, none⟩) (by first | (rw [add_block]; exact hn189_1) | (show (Addr.add _ _).block ≠ _; rw [add_block]; exact hn189_1) | exact hn189_1) (.int .i64 ((rd_T48 l0 x4_1).f0))).trans hx189_1; replace hx189_2 := (cell_far (p := ⟨gb188, 1, none⟩) (by first | (rw [add_block]; exact hn189_1) | (show (Addr.add _ _).block ≠ _; rw [add_block]; exact hn189_1) | exact hn189_1) (.int .i64 ((rd_T48 l0 x4_1).f0))).trans hx189_2; replace hx189_3 := (cell_far (p := ⟨gb188, 1, none⟩) (by first | (rw [add_block]; exact hn189_1) | (show (Addr.add _ _).block ≠ _; rw [add_block]; exact hn189_1) | exact hn189_1) (.int .i64 ((rd_T48 l0 x4_1).f0))).trans hx189_3; replace hx189_4 := (cell_far (p := ⟨gb188, 1, none⟩) (by first | (rw [add_block]; exact hn189_1) | (show (Addr.add _ _).block ≠ _; rw [add_block]; exact hn189_1) | exact hn189_1) (.int .i64 ((rd_T48 l0 x4_1).f0))).trans hx189_4; replace hx189_5 := (cell_far (p := ⟨gb188, 1, none⟩) (by first | (rw [add_block]; exact hn189_1) | (show (Addr.add _ _).block ≠ _; rw [add_block]; exact hn189_1) | exact hn189_1) (.int .i64 ((rd_T48 l0 x4_1).f0))).trans hx189_5; replace hx189_6 := (cell_far (p := ⟨gb188, 1, none⟩) (by first | (rw [add_block]; exact hn189_1) | (show (Addr.add _ _).block ≠ _; rw [add_block]; exact hn189_1) | exact hn189_1) (.int .i64 ((rd_T48 l0 x4_1).f0))).trans hx189_6; replace hx189_7 := (cell_far (p := ⟨gb188, 1, none⟩) (by first | (rw [add_block]; exact hn189_1) | (show (Addr.add _ _).block ≠ _; rw [add_block]; exact hn189_1) | exact hn189_1) (.int .i64 ((rd_T48 l0 x4_1).f0))).trans hx189_7; replace hx189_0 := (cell_far (p := ⟨gb188, 2, none⟩) (by first | (rw [add_block]; exact hn189_2) | (show (Addr.add _ _).block ≠ _; rw [add_block]; exact hn189_2) | exact hn189_2) (.int .i64 0)).trans hx189_0; replace hx189_1 := (cell_far (p := ⟨gb188, 2, none⟩) (by first | (rw [add_block]; exact hn189_2) | (show (Addr.add _ _).block ≠ _; rw [add_block]; exact hn189_2) | exact hn189_2) (.int .i64 0)).trans hx189_1; replace hx189_2 := (cell_far (p := ⟨gb188, 2, none⟩) (by first | (rw [add_block]; exact hn189_2) | (show (Addr.add _ _).block ≠ _; rw [add_block]; exact hn189_2) | exact hn189_2) (.int .i64 0)).trans hx189_2; replace hx189_3 := (cell_far (p := ⟨gb188, 2, none⟩) (by first | (rw [add_block]; exact hn189_2) | (show (Addr.add _ _).block ≠ _; rw [add_block]; exact hn189_2) | exact hn189_2) (.int .i64 0)).trans hx189_3; replace hx189_4 := (cell_far (p := ⟨gb188, 2, none⟩) (by first | (rw [add_block]; exact hn189_2) | (show (Addr.add _ _).block ≠ _; rw [add_block]; exact hn189_2) | exact hn189_2) (.int .i64 0)).trans hx189_4; replace hx189_5 := (cell_far (p := ⟨gb188, 2, none⟩) (by first | (rw [add_block]; exact hn189_2) | (show (Addr.add _ _).block ≠ _; rw [add_block]; exact hn189_2) | exact hn189_2) (.int .i64 0)).trans hx189_5; replace hx189_6 := (cell_far (p := ⟨gb188, 2, none⟩) (by first | (rw [add_block]; exact hn189_2) | (show (Addr.add _ _).block ≠ _; rw [add_block]; exact hn189_2) | exact hn189_2) (.int .i64 0)).trans hx189_6; replace hx189_7 := (cell_far (p := ⟨gb188, 2, none⟩) (by first | (rw [add_block]; exact hn189_2) | (show (Addr.add _ _).block ≠ _; rw [add_block]; exact hn189_2) | exact hn189_2) (.int .i64 0)).trans hx189_7; clear hn189_0; clear hn189_1; clear hn189_2; replace p189 := eq_true p189; replace q189 := eq_true q189) | ((with_reducible refine gate_builtin (b := .append) (xs := #[.tmp 26, .tmp 28]) rfl ?_); at_builtin; refine Kd.R_append k55 (w0 := w) w.heap.size rfl (.tmp 26) (.tmp 28) 31 55 (.agg #[(.int .i64 0), (.int .i64 0), (.int .i64 0)]) 24 rfl Try.underlying31 info55 rfl (by decide) (by omega) u3 x3_1 (⟨1, (rd_T48 l0 x4_1).f0, 0⟩ : S55) [.int .i64 1, .int .i64 ((rd_T48 l0 x4_1).f0), .int .i64 0] (fun k_ => k_ ≠ gb188) (fun _ => False) rfl (by first | (go_simp; done) | (go_simp; rfl)) ?aP (fun _ hk => hk.elim) ?aF ?aO ?aB ?aS ?aL ?_; (case aP => exact k55_mkM _ _ _ (⟨1, (rd_T48 l0 x4_1).f0, 0⟩ : S55)); (case aB => exact (by repeat (first | (with_reducible first | exact HB.out | apply below_alloc | apply pw_below_drewN | apply below_drew1 | refine below_set ?_ GE188.out) | exact HB.out))); (case aF => exact (fun k_ hk => Kd.freshB (g := gb188) (o := .cells #[.int .i64 1, .int .i64 ((rd_T48 l0 x4_1).f0), .int .i64 0] 55 (0, 0)) (by (with_reducible repeat (first | refine blk_drewN ?_ _ | refine blk_drew ?_ | refine blk_alloc ?_ _)); refine blk_put (cs := #[.int .i64 1, .int .i64 ((rd_T48 l0 x4_1).f0), .int .i64 0]) ?_ 2 _ rfl; (with_reducible repeat (first | refine blk_drewN ?_ _ | refine blk_drew ?_ | refine blk_alloc ?_ _)); refine blk_put (cs := #[.int .i64 1, .int .i64 0, .int .i64 0]) ?_ 1 _ rfl; (with_reducible repeat (first | refine blk_drewN ?_ _ | refine blk_drew ?_ | refine blk_alloc ?_ _)); refine blk_put (cs := #[.int .i64 0, .int .i64 0, .int .i64 0]) ?_ 0 _ rfl; (with_reducible repeat (first | refine blk_drewN ?_ _ | refine blk_drew ?_ | refine blk_alloc ?_ _)); exact BK188.out) k_ hk)); (case aO => exact (by (with_reducible repeat (first | apply Kd.R_alloc | apply Kd.R_drewN | apply Kd.R_drew)); exact Kd.R_mono (Kd.R_far (p := ⟨gb188, 2, none⟩) (Kd.R_far (p := ⟨gb188, 1, none⟩) (Kd.R_far (p := ⟨gb188, 0, none⟩) (Kd.R_mono HO_3.out (fun k_ hk => (⟨hk, hk.2⟩ : _ ∧ k_ ≠ gb188))) (fun _ hk => hk.2) (.int .i64 1)) (fun _ hk => hk.2) (.int .i64 ((rd_T48 l0 x4_1).f0))) (fun _ hk => hk.2) (.int .i64 0)) (fun _ hk => hk.1.2))); (case aS => exact (below_size (by repeat (first | (with_reducible first | exact HB.out | apply below_alloc | apply pw_below_drewN | apply below_drew1 | refine below_set ?_ GE188.out) | exact HB.out)))); (case aL => have := LMc9.out; omega); intro v194 w12 ho hb hg hat; rw [← Ny193.out] at ho; have n0_ := Aside0.mk (blk_grown (g := gb188) (o := .cells #[.int .i64 1, .int .i64 ((rd_T48 l0 x4_1).f0), .int .i64 0] 55 (0, 0)) (by (with_reducible repeat (first | refine blk_drewN ?_ _ | refine blk_drew ?_ | refine blk_alloc ?_ _)); refine blk_put (cs := #[.int .i64 1, .int .i64 ((rd_T48 l0 x4_1).f0), .int .i64 0]) ?_ 2 _ rfl; (with_reducible repeat (first | refine blk_drewN ?_ _ | refine blk_drew ?_ | refine blk_alloc ?_ _)); refine blk_put (cs := #[.int .i64 1, .int .i64 0, .int .i64 0]) ?_ 1 _ rfl; (with_reducible repeat (first | refine blk_drewN ?_ _ | refine blk_drew ?_ | refine blk_alloc ?_ _)); refine blk_put (cs := #[.int .i64 0, .int .i64 0, .int .i64 0]) ?_ 0 _ rfl; (with_reducible repeat (first | refine blk_drewN ?_ _ | refine blk_drew ?_ | refine blk_alloc ?_ _)); exact BK188.out) hg (Kd.R_away HO_3.out (fun _ hk => hk.2))); have n1_ := Aside0.mk (hb); have n2_ := Aside0.mk (ho); clear BK188; clear HB; clear HO_3; have BK188 := n0_; have HB := n1_; have HO195 := n2_; clear n0_ n1_ n2_; clear ho hb hg hat))
              go_roundg k1
              case measure => have := HK1.out; omega
              case rel => exact ⟨(y193), (wrap64 (x4_1 + 1)), (by first | rfl | (simp; done) | (simp [*]; done)), H', ⟨by have := HK1.out; omega⟩, ⟨by (with_reducible repeat (first | apply Kd.R_alloc | apply Kd.R_drewN | apply Kd.R_drew)); exact Kd.R_mono HO195.out (fun _ hk => trivial)⟩, ⟨by repeat (first | (with_reducible first | exact HB.out | apply below_alloc | apply pw_below_drewN | apply below_drew1 | refine below_set ?_ GE188.out) | exact HB.out)⟩⟩
            · rw [if_neg c9] at H
              exact absurd H (by simp)
        · rw [if_neg c3] at H
          exact absurd H (by simp)
      · rw [if_neg c2] at H
        have c2b0 : decide (x4_1 < (l0.length : Int)) = false := decide_eq_false c2
        clear c2
        obtain rfl := Option.some.inj H
        go_wp2
        go_ret
        exact ⟨_, by first | rfl | (simp [errW_none, errW_some] <;> rfl) | (simp [*, errW_none, errW_some] <;> rfl), by (with_reducible repeat (first | apply Kd.R_alloc | apply Kd.R_drewN | apply Kd.R_drew)); exact HO_3.out, by repeat (first | (with_reducible first | exact HB.out | apply below_alloc | apply pw_below_drewN | apply below_drew1) | exact HB.out)⟩

end Go.Proofs.Ytiefonnhgjpbfaa.Tr
