/- Which strands, and which uses, stand ahead of which, walked. -/
import Derived.Test.YthjecgmgpnileaaC1
import Derived.Test.YthjecgmgpnileaaD
import Derived.Test.YthjecgmgpnileaaE
import Derived.Test.YthjecgmgpnileaaKO
namespace Go.Proofs.Ythjecgmgpnileaa.Bd
open Go.RowKit Go.Proofs.YthjecgmgpnileaaW.PrintWords Go.Proofs.YthjecgmgpnileaaW.PrintLast Go.Proofs.YthjecgmgpnileaaW.PrintMore
attribute [local go_sem] max2_int min2_int max_two min_two max_three min_three max_four min_four   -- for this text's walks alone
set_option linter.unusedVariables false
set_option linter.unusedSimpArgs false

theorem aheadO_in {o : List (Int × Int)} {a b : Int} (h : 0 ≤ a ∧ 0 ≤ b ∧ a < (o.length : Int) ∧ b < (o.length : Int)) : aheadO o a b = (decide ((rdP o a).1 < (rdP o b).1) && decide ((rdP o a).2 < (rdP o b).2)) := by
  unfold aheadO rdP
  rw [decide_eq_true h.1, decide_eq_true h.2.1, decide_eq_true h.2.2.1, decide_eq_true h.2.2.2]
  rfl
theorem aheadO_out {o : List (Int × Int)} {a b : Int} (h : ¬ (0 ≤ a ∧ 0 ≤ b ∧ a < (o.length : Int) ∧ b < (o.length : Int))) : aheadO o a b = false := by
  unfold aheadO
  by_cases h1 : 0 ≤ a
  · by_cases h2 : 0 ≤ b
    · by_cases h3 : a < (o.length : Int)
      · have h4 : ¬ b < (o.length : Int) := fun h4 => h ⟨h1, h2, h3, h4⟩
        simp [h4]
      · simp [h3]
    · simp [h2]
  · simp [h1]
theorem cell_new {w : World} {p : Addr} {v : Value} (h : w.cell? p = some v) (o : Obj) : (w.alloc o).cell? p = some v := ((below_alloc (Below.refl w.heap.size w) o).cell (World.block_lt_of_cell? w _ h)).trans h
theorem max2_eq (a b : Int) : max a b = if a ≤ b then b else a := by rw [Int.max_def]
set_option maxHeartbeats 4000000 in
theorem both_yes (A : Option Addr) (c n : Nat) (a b : Int) (w : World) (h : 0 ≤ a ∧ 0 ≤ b ∧ a < (n : Int) ∧ b < (n : Int)) :
    Calls Try.prog 29 #[.slice A n c, .int .i64 a, .int .i64 b] w fun e w' => e = .returned (.bool true) ∧ w' = w := by
  obtain ⟨h1, h2, h3, h4⟩ := h
  go_enter Try.func29, Try.ntmps29
  go_wp2
  all_goals (go_ret; exact ⟨rfl, rfl⟩)
set_option maxHeartbeats 4000000 in
theorem both_no (A : Option Addr) (c n : Nat) (a b : Int) (w : World) (h : ¬ (0 ≤ a ∧ 0 ≤ b ∧ a < (n : Int) ∧ b < (n : Int))) :
    Calls Try.prog 29 #[.slice A n c, .int .i64 a, .int .i64 b] w fun e w' => e = .returned (.bool false) ∧ w' = w := by
  by_cases h1 : 0 ≤ a
  · by_cases h2 : 0 ≤ b
    · by_cases h3 : a < (n : Int)
      · have h4 : ¬ b < (n : Int) := fun h4 => h ⟨h1, h2, h3, h4⟩
        have h5 : a ≤ b := by omega
        have h6 : ¬ b ≤ a := by omega
        have d1 : decide (b < (n : Int)) = false := decide_eq_false h4
        clear h
        go_enter Try.func29, Try.ntmps29
        go_wp2
        all_goals (go_ret; exact ⟨rfl, rfl⟩)
      · clear h
        by_cases h5 : a ≤ b
        · have h6 : ¬ b < (n : Int) := by omega
          have d1 : decide (b < (n : Int)) = false := decide_eq_false h6
          have d2 : decide (a < (n : Int)) = false := decide_eq_false h3
          go_enter Try.func29, Try.ntmps29
          go_wp2
          all_goals (go_ret; exact ⟨rfl, rfl⟩)
        · have d2 : decide (a < (n : Int)) = false := decide_eq_false h3
          go_enter Try.func29, Try.ntmps29
          go_wp2
          all_goals (go_ret; exact ⟨rfl, rfl⟩)
    · clear h
      have h5 : ¬ a ≤ b := by omega
      have h6 : b ≤ a := by omega
      go_enter Try.func29, Try.ntmps29
      go_wp2
      all_goals (go_ret; exact ⟨rfl, rfl⟩)
  · clear h
    by_cases h5 : a ≤ b
    · go_enter Try.func29, Try.ntmps29
      go_wp2
      all_goals (go_ret; exact ⟨rfl, rfl⟩)
    · have h6 : ¬ 0 ≤ b := by omega
      go_enter Try.func29, Try.ntmps29
      go_wp2
      all_goals (go_ret; exact ⟨rfl, rfl⟩)
set_option maxHeartbeats 4000000 in
set_option maxRecDepth 100000 in
theorem spAhead_calls (A : Option Addr) (c : Nat) (o : List (Int × Int)) (a b : Int) (w : World) (hr : Kd.C kP w A o.length o) {r : Bool} (hR : aheadO o a b = r) :
    Calls Try.prog 19 #[.slice A o.length c, .int .i64 a, .int .i64 b] w fun e w' => e = .returned (.bool r) ∧ Drawn0 w w' := by
  by_cases h : 0 ≤ a ∧ 0 ≤ b ∧ a < (o.length : Int) ∧ b < (o.length : Int)
  · rw [aheadO_in h] at hR
    obtain ⟨ad, ea, x1, x2⟩ := at_P hr a h.1 h.2.2.1
    obtain ⟨ad', ea', y1, y2⟩ := at_P hr b h.2.1 h.2.2.2
    rw [ea] at ea'
    cases ea'
    cases ea
    obtain ⟨i, rfl⟩ := Int.eq_ofNat_of_zero_le h.1
    obtain ⟨j, rfl⟩ := Int.eq_ofNat_of_zero_le h.2.1
    rw [Int.toNat_natCast] at x1 x2 y1 y2
    have h2 := h.2.2.1
    have h3 := h.2.2.2
    have H := Aside0.mk h
    generalize rdP o (i : Int) = p at x1 x2 hR
    generalize rdP o (j : Int) = q at y1 y2 hR
    clear hr h
    by_cases c1 : p.1 < q.1
    · by_cases c2 : p.2 < q.2
      · rw [decide_eq_true c1, decide_eq_true c2] at hR
        have d1 : decide (p.1 < q.1) = true := decide_eq_true c1
        have d2 : decide (p.2 < q.2) = true := decide_eq_true c2
        have HR' := Aside0.mk hR
        clear hR
        go_enter Try.func19, Try.ntmps19
        go_wp2
        go_quiet ((go_at_call 29; exact Calls.quiet_of_same (both_yes _ _ _ _ _ _ H.out)))
        go_wp2
        go_ret
        exact ⟨by first | exact ret_bool HR'.out | rfl, ⟨_, rfl⟩⟩
      · rw [decide_eq_true c1, decide_eq_false c2] at hR
        have d1 : decide (p.1 < q.1) = true := decide_eq_true c1
        have d2 : decide (p.2 < q.2) = false := decide_eq_false c2
        have HR' := Aside0.mk hR
        clear hR
        go_enter Try.func19, Try.ntmps19
        go_wp2
        go_quiet ((go_at_call 29; exact Calls.quiet_of_same (both_yes _ _ _ _ _ _ H.out)))
        go_wp2
        go_ret
        exact ⟨by first | exact ret_bool HR'.out | rfl, ⟨_, rfl⟩⟩
    · rw [decide_eq_false c1] at hR
      have d1 : decide (p.1 < q.1) = false := decide_eq_false c1
      have HR' := Aside0.mk hR
      clear hR
      go_enter Try.func19, Try.ntmps19
      go_wp2
      go_quiet ((go_at_call 29; exact Calls.quiet_of_same (both_yes _ _ _ _ _ _ H.out)))
      go_wp2
      go_ret
      exact ⟨by first | exact ret_bool HR'.out | rfl, ⟨_, rfl⟩⟩
  · rw [aheadO_out h] at hR
    have H := Aside0.mk h
    have HR' := Aside0.mk hR
    clear hR hr h
    go_enter Try.func19, Try.ntmps19
    go_wp2
    go_quiet ((go_at_call 29; exact Calls.quiet_of_same (both_no _ _ _ _ _ _ H.out)))
    go_wp2
    go_ret
    exact ⟨by first | exact ret_bool HR'.out | rfl, ⟨_, rfl⟩⟩
set_option maxHeartbeats 4000000 in
set_option maxRecDepth 100000 in
theorem refAhead_calls (A : Option Addr) (c : Nat) (o : List (Int × Int)) (a b : Int) (w : World) (hr : Kd.C kP w A o.length o) {r : Bool} (hR : aheadO o a b = r) :
    Calls Try.prog 22 #[.slice A o.length c, .int .i64 a, .int .i64 b] w fun e w' => e = .returned (.bool r) ∧ Drawn0 w w' := by
  by_cases h1 : 0 ≤ a
  · by_cases h2 : 0 ≤ b
    · by_cases h3 : a < (o.length : Int)
      · by_cases h4 : b < (o.length : Int)
        · rw [aheadO_in ⟨h1, h2, h3, h4⟩] at hR
          obtain ⟨ad, ea, x1, x2⟩ := at_P hr a h1 h3
          obtain ⟨ad', ea', y1, y2⟩ := at_P hr b h2 h4
          rw [ea] at ea'
          cases ea'
          cases ea
          obtain ⟨i, rfl⟩ := Int.eq_ofNat_of_zero_le h1
          obtain ⟨j, rfl⟩ := Int.eq_ofNat_of_zero_le h2
          rw [Int.toNat_natCast] at x1 x2 y1 y2
          generalize rdP o (i : Int) = p at x1 x2 hR
          generalize rdP o (j : Int) = q at y1 y2 hR
          clear hr
          by_cases c1 : p.1 < q.1
          · by_cases c2 : p.2 < q.2
            · rw [decide_eq_true c1, decide_eq_true c2] at hR
              have d1 : decide (p.1 < q.1) = true := decide_eq_true c1
              have d2 : decide (p.2 < q.2) = true := decide_eq_true c2
              have HR' := Aside0.mk hR
              clear hR
              go_enter Try.func22, Try.ntmps22
              go_wp2
              go_quiet (fail)
              go_wp2
              go_ret
              exact ⟨by first | exact ret_bool HR'.out | rfl, ⟨_, rfl⟩⟩
            · rw [decide_eq_true c1, decide_eq_false c2] at hR
              have d1 : decide (p.1 < q.1) = true := decide_eq_true c1
              have d2 : decide (p.2 < q.2) = false := decide_eq_false c2
              have HR' := Aside0.mk hR
              clear hR
              go_enter Try.func22, Try.ntmps22
              go_wp2
              go_quiet (fail)
              go_wp2
              go_ret
              exact ⟨by first | exact ret_bool HR'.out | rfl, ⟨_, rfl⟩⟩
          · rw [decide_eq_false c1] at hR
            have d1 : decide (p.1 < q.1) = false := decide_eq_false c1
            have HR' := Aside0.mk hR
            clear hR
            go_enter Try.func22, Try.ntmps22
            go_wp2
            go_quiet (fail)
            go_wp2
            go_ret
            exact ⟨by first | exact ret_bool HR'.out | rfl, ⟨_, rfl⟩⟩
        · rw [aheadO_out (fun h => h4 h.2.2.2)] at hR
          have HR' := Aside0.mk hR
          clear hR hr
          go_enter Try.func22, Try.ntmps22
          go_wp2
          go_ret
          exact ⟨by first | exact ret_bool HR'.out | rfl, ⟨0, rfl⟩⟩
      · rw [aheadO_out (fun h => h3 h.2.2.1)] at hR
        have HR' := Aside0.mk hR
        clear hR hr
        go_enter Try.func22, Try.ntmps22
        go_wp2
        go_ret
        exact ⟨by first | exact ret_bool HR'.out | rfl, ⟨0, rfl⟩⟩
    · rw [aheadO_out (fun h => h2 h.2.1)] at hR
      have HR' := Aside0.mk hR
      clear hR hr
      go_enter Try.func22, Try.ntmps22
      go_wp2
      go_ret
      exact ⟨by first | exact ret_bool HR'.out | rfl, ⟨0, rfl⟩⟩
  · rw [aheadO_out (fun h => h1 h.1)] at hR
    have HR' := Aside0.mk hR
    clear hR hr
    go_enter Try.func22, Try.ntmps22
    go_wp2
    go_ret
    exact ⟨by first | exact ret_bool HR'.out | rfl, ⟨0, rfl⟩⟩
set_option maxHeartbeats 4000000 in
set_option maxRecDepth 100000 in
theorem refAheadU_calls (a0 a1 : Int) (s2 s3 s4 s5 : SlV) (A6 : Option Addr) (c6 : Nat) (us : List SU) (A7 : Option Addr) (c7 : Nat) (sp : List S53) (a8 a9 : Int) (s10 : SlV) (A : Option Addr) (c : Nat) (o : List (Int × Int)) (a b : Int) (w : World) (hu : Kd.C kU w A6 us.length us) (hr : Kd.C kP w A o.length o) (ha : 0 ≤ a ∧ a < (us.length : Int)) (hb : 0 ≤ b ∧ b < (us.length : Int)) {r : Bool} (hR : aheadU o (strands us) a b = r) :
    Calls Try.prog 9 #[.agg #[.int .i64 a0, .int .i64 a1, .slice s2.1 s2.2.1 s2.2.2, .slice s3.1 s3.2.1 s3.2.2, .slice s4.1 s4.2.1 s4.2.2, .slice s5.1 s5.2.1 s5.2.2, .slice A6 us.length c6, .slice A7 sp.length c7, .int .i64 a8, .int .i64 a9, .slice s10.1 s10.2.1 s10.2.2], .slice A o.length c, .int .i64 a, .int .i64 b] w fun e w' => e = .returned (.bool r) ∧ Below w.heap.size w w' := by
  obtain ⟨ad, ea, x⟩ := at_U hu a ha.1 ha.2
  obtain ⟨ad', ea', y⟩ := at_U hu b hb.1 hb.2
  rw [ea] at ea'
  cases ea'
  cases ea
  obtain ⟨i, rfl⟩ := Int.eq_ofNat_of_zero_le ha.1
  obtain ⟨j, rfl⟩ := Int.eq_ofNat_of_zero_le hb.1
  rw [Int.toNat_natCast] at x y
  have h2 := ha.2
  have h3 := hb.2
  have HB := Aside0.mk (Below.refl w.heap.size w)
  unfold aheadU at hR
  generalize at0 (strands us) (i : Int) = p at x hR
  generalize at0 (strands us) (j : Int) = q at y hR
  have HRo := Aside0.mk hr
  have x' := fun o => cell_new x o
  have y' := fun o => cell_new y o
  clear hu hr ha hb x y
  by_cases hpq : p = q
  · subst hpq
    rw [if_pos rfl] at hR
    have HR' := Aside0.mk hR
    clear hR
    go_enter Try.func9, Try.ntmps9
    go_wp2
    go_ret
    exact ⟨by first | exact ret_bool HR'.out | exact ret_bool ((decide_eq_decide.2 Int.ofNat_lt.symm).trans HR'.out) | rfl, (by repeat (first | (with_reducible first | exact HB.out | apply below_alloc | apply pw_below_drewN | apply below_drew1) | exact HB.out))⟩
  · have e1 : (p == q) = false := beq_eq_false_iff_ne.mpr hpq
    rw [if_neg hpq] at hR
    have HR' := Aside0.mk hR
    clear hR hpq
    go_enter Try.func9, Try.ntmps9
    go_wp2_with (first | (go_at_call 22; refine (refAhead_calls _ _ o p q _ ?s1 HR'.out).mono ?_; (case s1 => exact (by (with_reducible repeat (first | exact HRo.out | refine Kd.C_alloc ?_ _ | refine Kd.C_drewN ?_ _ | refine Kd.C_drew ?_)); done)); rintro e w' ⟨rfl, ⟨nd, rfl⟩⟩))
    go_ret
    exact ⟨rfl, (by repeat (first | (with_reducible first | exact HB.out | apply below_alloc | apply pw_below_drewN | apply below_drew1) | exact HB.out))⟩
end Go.Proofs.Ythjecgmgpnileaa.Bd
