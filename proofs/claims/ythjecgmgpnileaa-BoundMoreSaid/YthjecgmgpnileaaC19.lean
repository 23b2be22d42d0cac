/- How many steps a run may have: walked. -/
import Derived.Test.YthjecgmgpnileaaC18
namespace Go.Proofs.Ythjecgmgpnileaa.Bd
open Go.RowKit Go.Lib Go.Proofs.YthjecgmgpnileaaW.PrintWords Go.Proofs.YthjecgmgpnileaaW.PrintLast Go.Proofs.YthjecgmgpnileaaW.PrintMore
attribute [local go_sem] max2_int min2_int max_two min_two max_three min_three max_four min_four   -- for this text's walks alone
set_option linter.unusedVariables false
set_option linter.unusedSimpArgs false

def stepsBad (s n w t k : Int) : Prop := s < 1 ∨ 8 < s ∨ n < 0 ∨ 1000 < n ∨ k < 0 ∨ 1048576 < k ∨ 100000 < w ∨ t < 0 ∨ 64 < t
instance (s n w t k : Int) : Decidable (stepsBad s n w t k) := by unfold stepsBad; infer_instance
def stepsN (s n w t k : Int) : Int := k + s * (28 * s + 1) * (72 * s * (64 * (n + s + 4)) * (w + t + s * s + 1) + 1)
/-- By when a run is over. -/
def stepsL (s n w t k : Int) : Int := if stepsBad s n w t k then -1 else stepsN s n w t k
theorem mul_bd {a b A B : Int} (h0 : 0 ≤ a) (h1 : a ≤ A) (k0 : 0 ≤ b) (k1 : b ≤ B) : 0 ≤ a * b ∧ a * b ≤ A * B := ⟨Int.mul_nonneg h0 k0, Int.mul_le_mul h1 k1 k0 (Int.le_trans h0 h1)⟩
set_option maxHeartbeats 16000000 in
set_option maxRecDepth 100000 in
theorem steps_calls (a0 a1 : Int) (s2 s3 s4 s5 : SlV) (A6 : Option Addr) (c6 : Nat) (us : List SU) (A7 : Option Addr) (c7 : Nat) (sp : List S53) (a8 a9 : Int) (s10 : SlV) (b0 b1 b2 b3 b4 b5 b6 b7 b8 k : Int) (w : World) (q : Int) (hq : stepsL b0 b1 (us.length : Int) a9 k = q) :
    Calls Try.prog 11 #[.agg #[.int .i64 b0, .int .i64 b1, .int .i64 b2, .int .i64 b3, .int .i64 b4, .int .i64 b5, .int .i64 b6, .int .i64 b7, .int .i64 b8], .agg #[.int .i64 a0, .int .i64 a1, .slice s2.1 s2.2.1 s2.2.2, .slice s3.1 s3.2.1 s3.2.2, .slice s4.1 s4.2.1 s4.2.2, .slice s5.1 s5.2.1 s5.2.2, .slice A6 us.length c6, .slice A7 sp.length c7, .int .i64 a8, .int .i64 a9, .slice s10.1 s10.2.1 s10.2.2], .int .i64 k] w fun e w' => e = .returned (.int .i64 q) ∧ Below w.heap.size w w' := by
  have HB := Aside0.mk (Below.refl w.heap.size w)
  have HQ := Aside0.mk hq
  clear hq
  go_enter Try.func11, Try.ntmps11
  go_wp2_with (first | (((with_reducible refine gate_dst (N := 3) rfl ?_); refine box_event ?hg (N := 3) ?hd (cs := #[.int .i64 b0, .int .i64 b1, .int .i64 b2, .int .i64 b3, .int .i64 b4, .int .i64 b5, .int .i64 b6, .int .i64 b7, .int .i64 b8]) (t := 42) ?hr ?_; (case hd => rfl); (case hg => rfl); (case hr => first | (go_simp; done) | (go_simp; rfl)); intro G3 hg w2 hbox hb; have n0_ := Aside0.mk (below_step (by repeat (first | (with_reducible first | exact HB.out | apply below_alloc | apply pw_below_drewN | apply below_drew1) | exact HB.out)) hb); have n1_ := Aside0.mk hbox; have n2_ := Aside0.mk ((by rw [hg]; exact (below_size (by repeat (first | (with_reducible first | exact HB.out | apply below_alloc | apply pw_below_drewN | apply below_drew1) | exact HB.out)))) : w.heap.size ≤ G3); clear HB; have HB := n0_; have BK3 := n1_; have GE3 := n2_; clear n0_ n1_ n2_; clear hb hbox hg)) | (((with_reducible refine gate_dst (N := 4) rfl ?_); refine box_event ?hg (N := 4) ?hd (cs := #[.int .i64 a0, .int .i64 a1, .slice s2.1 s2.2.1 s2.2.2, .slice s3.1 s3.2.1 s3.2.2, .slice s4.1 s4.2.1 s4.2.2, .slice s5.1 s5.2.1 s5.2.2, .slice A6 us.length c6, .slice A7 sp.length c7, .int .i64 a8, .int .i64 a9, .slice s10.1 s10.2.1 s10.2.2]) (t := 29) ?hr ?_; (case hd => rfl); (case hg => rfl); (case hr => first | (go_simp; done) | (go_simp; rfl)); intro G4 hg w3 hbox hb; have b0_ := Aside0.mk (blk_below (by (with_reducible repeat (first | refine blk_drewN ?_ _ | refine blk_drew ?_ | refine blk_alloc ?_ _)); exact BK3.out) hb); have n0_ := Aside0.mk (below_step (by repeat (first | (with_reducible first | exact HB.out | apply below_alloc | apply pw_below_drewN | apply below_drew1) | exact HB.out)) hb); have n1_ := Aside0.mk hbox; have n2_ := Aside0.mk ((by rw [hg]; exact (below_size (by repeat (first | (with_reducible first | exact HB.out | apply below_alloc | apply pw_below_drewN | apply below_drew1) | exact HB.out)))) : w.heap.size ≤ G4); clear BK3; have BK3 := b0_; clear b0_; clear HB; have HB := n0_; have BK4 := n1_; have GE4 := n2_; clear n0_ n1_ n2_; clear hb hbox hg)))
  have c0 : w3.cell? ⟨G3, 0, none⟩ = some (.int .i64 b0) := (blk_cell BK3.out 0).trans rfl
  have c1 : w3.cell? ⟨G3, 1, none⟩ = some (.int .i64 b1) := (blk_cell BK3.out 1).trans rfl
  have e0 : w3.cell? ⟨G4, 0, none⟩ = some (.int .i64 a0) := (blk_cell BK4.out 0).trans rfl
  have e1 : w3.cell? ⟨G4, 1, none⟩ = some (.int .i64 a1) := (blk_cell BK4.out 1).trans rfl
  have e2 : w3.cell? ⟨G4, 2, none⟩ = some (.slice s2.1 s2.2.1 s2.2.2) := (blk_cell BK4.out 2).trans rfl
  have e3 : w3.cell? ⟨G4, 3, none⟩ = some (.slice s3.1 s3.2.1 s3.2.2) := (blk_cell BK4.out 3).trans rfl
  have e4 : w3.cell? ⟨G4, 4, none⟩ = some (.slice s4.1 s4.2.1 s4.2.2) := (blk_cell BK4.out 4).trans rfl
  have e5 : w3.cell? ⟨G4, 5, none⟩ = some (.slice s5.1 s5.2.1 s5.2.2) := (blk_cell BK4.out 5).trans rfl
  have e6 : w3.cell? ⟨G4, 6, none⟩ = some (.slice A6 us.length c6) := (blk_cell BK4.out 6).trans rfl
  have e7 : w3.cell? ⟨G4, 7, none⟩ = some (.slice A7 sp.length c7) := (blk_cell BK4.out 7).trans rfl
  have e8 : w3.cell? ⟨G4, 8, none⟩ = some (.int .i64 a8) := (blk_cell BK4.out 8).trans rfl
  have e9 : w3.cell? ⟨G4, 9, none⟩ = some (.int .i64 a9) := (blk_cell BK4.out 9).trans rfl
  have e10 : w3.cell? ⟨G4, 10, none⟩ = some (.slice s10.1 s10.2.1 s10.2.2) := (blk_cell BK4.out 10).trans rfl
  refine start_ (n := 9) (S := fun w' => w'.cell? ⟨G3, 0, none⟩ = some (.int .i64 b0) ∧ w'.cell? ⟨G3, 1, none⟩ = some (.int .i64 b1) ∧ w'.cell? ⟨G4, 0, none⟩ = some (.int .i64 a0) ∧ w'.cell? ⟨G4, 1, none⟩ = some (.int .i64 a1) ∧ w'.cell? ⟨G4, 2, none⟩ = some (.slice s2.1 s2.2.1 s2.2.2) ∧ w'.cell? ⟨G4, 3, none⟩ = some (.slice s3.1 s3.2.1 s3.2.2) ∧ w'.cell? ⟨G4, 4, none⟩ = some (.slice s4.1 s4.2.1 s4.2.2) ∧ w'.cell? ⟨G4, 5, none⟩ = some (.slice s5.1 s5.2.1 s5.2.2) ∧ w'.cell? ⟨G4, 6, none⟩ = some (.slice A6 us.length c6) ∧ w'.cell? ⟨G4, 7, none⟩ = some (.slice A7 sp.length c7) ∧ w'.cell? ⟨G4, 8, none⟩ = some (.int .i64 a8) ∧ w'.cell? ⟨G4, 9, none⟩ = some (.int .i64 a9) ∧ w'.cell? ⟨G4, 10, none⟩ = some (.slice s10.1 s10.2.1 s10.2.2)) (ds := []) #[false, false, false, false, false, false, false, false, false] (by kernel_rfl) rfl rfl ⟨c0, c1, e0, e1, e2, e3, e4, e5, e6, e7, e8, e9, e10⟩ (fun hHeld => ?_)
  refine pure_ (i := 0) (N := some 12) (v := ?_) (a' := ?_) #[true, false, false, false, false, false, false, false, false] rfl rfl (by kernel_rfl) (fun _ _ _ h => h) (Or.inl ⟨by rfl, ?_⟩) ?_ ?_
  rotate_left
  · intro w'
    go_simp
    with_reducible rfl
  rotate_left
  · simp only [Act.put, List.setIfInBounds_toArray, List.set_cons_zero, List.set_cons_succ, i64_w, i32_w]
    rfl
  refine pure_ (i := 2) (N := some 14) (v := ?_) (a' := ?_) #[true, false, true, false, false, false, false, false, false] rfl rfl (by kernel_rfl) (fun _ _ _ h => h) (Or.inl ⟨by rfl, ?_⟩) ?_ ?_
  rotate_left
  · intro w'
    go_simp
    with_reducible rfl
  rotate_left
  · simp only [Act.put, List.setIfInBounds_toArray, List.set_cons_zero, List.set_cons_succ, i64_w, i32_w]
    rfl
  refine take_ (i := 1) (N := some 13) (v := ?_) (a' := ?_) #[true, true, true, false, false, false, false, false, false] rfl rfl (by kernel_rfl) (fun _ _ _ h => h) (Or.inl ⟨by rfl, ?_⟩) hHeld ?_ ?_
  rotate_left
  · rintro w' ⟨s0, s1, s2, s3, s4, s5, s6, s7, s8, s9, s10, s11, s12⟩
    go_simp
    with_reducible rfl
  rotate_left
  · simp only [Act.put, List.setIfInBounds_toArray, List.set_cons_zero, List.set_cons_succ, i64_w, i32_w]
    rfl
  refine take_ (i := 3) (N := some 15) (v := ?_) (a' := ?_) #[true, true, true, true, false, false, false, false, false] rfl rfl (by kernel_rfl) (fun _ _ _ h => h) (Or.inl ⟨by rfl, ?_⟩) hHeld ?_ ?_
  rotate_left
  · rintro w' ⟨s0, s1, s2, s3, s4, s5, s6, s7, s8, s9, s10, s11, s12⟩
    go_simp
    with_reducible rfl
  rotate_left
  · simp only [Act.put, List.setIfInBounds_toArray, List.set_cons_zero, List.set_cons_succ, i64_w, i32_w]
    rfl
  refine take_ (i := 4) (N := some 16) (v := ?_) (a' := ?_) #[true, true, true, true, true, false, false, false, false] rfl rfl (by kernel_rfl) (fun _ _ _ h => h) (Or.inl ⟨by rfl, ?_⟩) hHeld ?_ ?_
  rotate_left
  · rintro w' ⟨s0, s1, s2, s3, s4, s5, s6, s7, s8, s9, s10, s11, s12⟩
    go_simp
    with_reducible rfl
  rotate_left
  · simp only [Act.put, List.setIfInBounds_toArray, List.set_cons_zero, List.set_cons_succ, i64_w, i32_w]
    rfl
  refine one_ (i := 5) (N := some 17) #[true, true, true, true, true, true, false, false, false] rfl rfl (by kernel_rfl) (by decide) (fun K hK => ?_)
  refine goes_ Try.func10 (by kernel_rfl) rfl #[.agg #[.int .i64 a0, .int .i64 a1, .slice s2.1 s2.2.1 s2.2.2, .slice s3.1 s3.2.1 s3.2.2, .slice s4.1 s4.2.1 s4.2.2, .slice s5.1 s5.2.1 s5.2.2, .slice A6 us.length c6, .slice A7 sp.length c7, .int .i64 a8, .int .i64 a9, .slice s10.1 s10.2.1 s10.2.2]] (by rfl) rfl rfl (by simp only [List.map_toArray, List.map_cons, List.map_nil]; rfl) ?_
  with_reducible refine (work_calls a0 a1 s2 s3 s4 s5 A6 c6 us A7 c7 sp a8 a9 s10 w3.drew).mono ?_
  rintro e w5 ⟨rfl, hb5⟩
  refine ⟨_, rfl, ?_⟩
  refine hK.out _ _ ⟨(cell_step hb5 (a := ⟨G3, 0, none⟩) c0), (cell_step hb5 (a := ⟨G3, 1, none⟩) c1), (cell_step hb5 (a := ⟨G4, 0, none⟩) e0), (cell_step hb5 (a := ⟨G4, 1, none⟩) e1), (cell_step hb5 (a := ⟨G4, 2, none⟩) e2), (cell_step hb5 (a := ⟨G4, 3, none⟩) e3), (cell_step hb5 (a := ⟨G4, 4, none⟩) e4), (cell_step hb5 (a := ⟨G4, 5, none⟩) e5), (cell_step hb5 (a := ⟨G4, 6, none⟩) e6), (cell_step hb5 (a := ⟨G4, 7, none⟩) e7), (cell_step hb5 (a := ⟨G4, 8, none⟩) e8), (cell_step hb5 (a := ⟨G4, 9, none⟩) e9), (cell_step hb5 (a := ⟨G4, 10, none⟩) e10)⟩ (fun hHeld => ?_)
  clear hK K
  refine norm_ (a' := ?_) ?_ ?_
  rotate_left
  · show Act.put _ (some 17) _ = _
    simp only [Act.put, List.setIfInBounds_toArray, List.set_cons_zero, List.set_cons_succ, i64_w, i32_w]
    rfl
  refine pure_ (i := 6) (N := some 7) (v := ?_) (a' := ?_) #[true, true, true, true, true, true, true, false, false] rfl rfl (by kernel_rfl) (fun _ _ _ h => h) (Or.inl ⟨by rfl, ?_⟩) ?_ ?_
  rotate_left
  · intro w'
    go_simp
    with_reducible rfl
  rotate_left
  · simp only [Act.put, List.setIfInBounds_toArray, List.set_cons_zero, List.set_cons_succ, i64_w, i32_w]
    rfl
  refine pure_ (i := 7) (N := some 8) (v := ?_) (a' := ?_) #[true, true, true, true, true, true, true, true, false] rfl rfl (by kernel_rfl) (fun _ _ _ h => h) (Or.inl ⟨by rfl, ?_⟩) ?_ ?_
  rotate_left
  · intro w'
    go_simp
    with_reducible rfl
  rotate_left
  · simp only [Act.put, List.setIfInBounds_toArray, List.set_cons_zero, List.set_cons_succ, i64_w, i32_w]
    rfl
  refine pure_ (i := 8) (N := some 9) (v := ?_) (a' := ?_) #[true, true, true, true, true, true, true, true, true] rfl rfl (by kernel_rfl) (fun _ _ _ h => h) (Or.inl ⟨by rfl, ?_⟩) ?_ ?_
  rotate_left
  · intro w'
    go_simp
    with_reducible rfl
  rotate_left
  · simp only [Act.put, List.setIfInBounds_toArray, List.set_cons_zero, List.set_cons_succ, i64_w, i32_w]
    rfl
  refine done_ (by kernel_rfl) ?_
  have hb35 : Below w3.heap.size w3 w5 := below_undrew hb5
  have HB5 := Aside0.mk (HB.out.trans (hb35.mono (below_size HB.out)))
  have e9' : w5.cell? ⟨G4, 9, none⟩ = some (.int .i64 a9) := cell_step hb35 e9
  clear hHeld hb5 hb35 c0 c1 e0 e1 e2 e3 e4 e5 e6 e7 e8 e9 e10 BK3 BK4 HB
  obtain ⟨m, hm⟩ : ∃ m : Int, (us.length : Int) = m := ⟨_, rfl⟩
  have hm0 : 0 ≤ m := by omega
  have HQM : Aside0 (stepsL b0 b1 m a9 k = q) := ⟨by rw [← hm]; exact HQ.out⟩
  clear HQ
  rw [hm]
  by_cases h0 : b0 < 1
  · have d0 : decide (b0 < 1) = true := decide_eq_true h0
    have hqn : q = -1 := by rw [← HQM.out]; unfold stepsL; rw [if_pos (.inl h0)]
    subst hqn
    go_wp2
    go_ret
    exact ⟨rfl, HB5.out⟩
  have d0 : decide (b0 < 1) = false := decide_eq_false h0
  by_cases h1 : 8 < b0
  · have d1 : decide (8 < b0) = true := decide_eq_true h1
    have hqn : q = -1 := by rw [← HQM.out]; unfold stepsL; rw [if_pos (.inr (.inl h1))]
    subst hqn
    go_wp2
    go_ret
    exact ⟨rfl, HB5.out⟩
  have d1 : decide (8 < b0) = false := decide_eq_false h1
  by_cases h2 : b1 < 0
  · have d2 : decide (b1 < 0) = true := decide_eq_true h2
    have hqn : q = -1 := by rw [← HQM.out]; unfold stepsL; rw [if_pos (.inr (.inr (.inl h2)))]
    subst hqn
    go_wp2
    go_ret
    exact ⟨rfl, HB5.out⟩
  have d2 : decide (b1 < 0) = false := decide_eq_false h2
  by_cases h3 : 1000 < b1
  · have d3 : decide (1000 < b1) = true := decide_eq_true h3
    have hqn : q = -1 := by rw [← HQM.out]; unfold stepsL; rw [if_pos (.inr (.inr (.inr (.inl h3))))]
    subst hqn
    go_wp2
    go_ret
    exact ⟨rfl, HB5.out⟩
  have d3 : decide (1000 < b1) = false := decide_eq_false h3
  by_cases h4 : k < 0
  · have d4 : decide (k < 0) = true := decide_eq_true h4
    have hqn : q = -1 := by rw [← HQM.out]; unfold stepsL; rw [if_pos (.inr (.inr (.inr (.inr (.inl h4)))))]
    subst hqn
    go_wp2
    go_ret
    exact ⟨rfl, HB5.out⟩
  have d4 : decide (k < 0) = false := decide_eq_false h4
  by_cases h5 : 1048576 < k
  · have d5 : decide (1048576 < k) = true := decide_eq_true h5
    have hqn : q = -1 := by rw [← HQM.out]; unfold stepsL; rw [if_pos (.inr (.inr (.inr (.inr (.inr (.inl h5))))))]
    subst hqn
    go_wp2
    go_ret
    exact ⟨rfl, HB5.out⟩
  have d5 : decide (1048576 < k) = false := decide_eq_false h5
  by_cases h6 : 100000 < m
  · have d6 : decide (100000 < m) = true := decide_eq_true h6
    have hqn : q = -1 := by rw [← HQM.out]; unfold stepsL; rw [if_pos (.inr (.inr (.inr (.inr (.inr (.inr (.inl h6)))))))]
    subst hqn
    go_wp2
    go_ret
    exact ⟨rfl, HB5.out⟩
  have d6 : decide (100000 < m) = false := decide_eq_false h6
  by_cases h7 : a9 < 0
  · have d7 : decide (a9 < 0) = true := decide_eq_true h7
    have hqn : q = -1 := by rw [← HQM.out]; unfold stepsL; rw [if_pos (.inr (.inr (.inr (.inr (.inr (.inr (.inr (.inl h7))))))))]
    subst hqn
    go_wp2
    go_ret
    exact ⟨rfl, HB5.out⟩
  have d7 : decide (a9 < 0) = false := decide_eq_false h7
  by_cases h8 : 64 < a9
  · have d8 : decide (64 < a9) = true := decide_eq_true h8
    have hqn : q = -1 := by rw [← HQM.out]; unfold stepsL; rw [if_pos (.inr (.inr (.inr (.inr (.inr (.inr (.inr (.inr (h8)))))))))]
    subst hqn
    go_wp2
    go_ret
    exact ⟨rfl, HB5.out⟩
  have d8 : decide (64 < a9) = false := decide_eq_false h8
  have hqn : q = stepsN b0 b1 m a9 k := by
    rw [← HQM.out]
    unfold stepsL
    rw [if_neg (fun h => by unfold stepsBad at h; omega)]
  subst hqn
  have HN : Aside0 (stepsN b0 b1 m a9 k = k + b0 * (28 * b0 + 1) * (72 * b0 * (64 * (b1 + b0 + 4)) * (m + a9 + b0 * b0 + 1) + 1)) := ⟨rfl⟩
  obtain ⟨rr, hrr⟩ : ∃ q, 64 * (b1 + b0 + 4) = q := ⟨_, rfl⟩
  have hrb : 0 ≤ rr ∧ rr ≤ 64768 := by omega
  obtain ⟨ss, hss⟩ : ∃ q, b0 * b0 = q := ⟨_, rfl⟩
  have hsb : 0 ≤ ss ∧ ss ≤ 64 := by rw [← hss]; exact mul_bd (A := 8) (B := 8) (by omega) (by omega) (by omega) (by omega)
  obtain ⟨uu, huu⟩ : ∃ q, m + a9 + ss + 1 = q := ⟨_, rfl⟩
  have hub : 0 ≤ uu ∧ uu ≤ 100129 := by omega
  obtain ⟨p1, hp1⟩ : ∃ q, 72 * b0 * rr = q := ⟨_, rfl⟩
  have hpb1 : 0 ≤ p1 ∧ p1 ≤ 37306368 := by rw [← hp1]; exact mul_bd (A := 576) (B := 64768) (by omega) (by omega) hrb.1 hrb.2
  obtain ⟨p2, hp2⟩ : ∃ q, p1 * uu = q := ⟨_, rfl⟩
  have hpb2 : 0 ≤ p2 ∧ p2 ≤ 3735449321472 := by rw [← hp2]; exact mul_bd (A := 37306368) (B := 100129) hpb1.1 hpb1.2 hub.1 hub.2
  obtain ⟨ff, hff⟩ : ∃ q, b0 * (28 * b0 + 1) = q := ⟨_, rfl⟩
  have hfb : 0 ≤ ff ∧ ff ≤ 1800 := by rw [← hff]; exact mul_bd (A := 8) (B := 225) (by omega) (by omega) (by omega) (by omega)
  obtain ⟨p3, hp3⟩ : ∃ q, ff * (p2 + 1) = q := ⟨_, rfl⟩
  have hpb3 : 0 ≤ p3 ∧ p3 ≤ 1800 * 3735449321473 := by rw [← hp3]; exact mul_bd (A := 1800) (B := 3735449321473) hfb.1 hfb.2 (by omega) (by omega)
  go_wp2
  go_ret
  have hfin : stepsN b0 b1 m a9 k = k + p3 := by rw [HN.out, hrr, hss, huu, hff, hp1, hp2, hp3]
  refine ⟨?_, HB5.out⟩
  rw [hfin]
  rfl
end Go.Proofs.Ythjecgmgpnileaa.Bd
