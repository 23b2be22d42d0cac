/- Right, anew: walked. -/
import Derived.Test.YthjecgmgpnileaaC3
namespace Go.Proofs.Ythjecgmgpnileaa.Bd
open Go.RowKit Go.Lib Go.Proofs.YthjecgmgpnileaaW.PrintWords Go.Proofs.YthjecgmgpnileaaW.PrintLast Go.Proofs.YthjecgmgpnileaaW.PrintMore
attribute [local go_sem] max2_int min2_int max_two min_two max_three min_three max_four min_four   -- for this text's walks alone
set_option linter.unusedVariables false
set_option linter.unusedSimpArgs false

theorem C_addr {k : IntKind} {w : World} {A : Option Addr} {n : Nat} {l : List Int} (h : Kd.C (Kd.int k) w A n l) (hn : 0 < n) : ∃ b off, A = some ⟨b, off, none⟩ ∧ b < w.heap.size ∧ ∀ j, j < n → w.cell? ⟨b, off + j, none⟩ = some (.int k (l.getD j 0)) := by
  have h1 := Kd.reads_of_C (enc := Value.int k) (d := (0 : Int)) (h1 := fun _ => rfl) h
  obtain ⟨ad, e, hc⟩ := h1.2.2 hn
  have h0 := hc 0 hn
  have e0 : ad.add 0 = ad := by unfold Addr.add; simp
  rw [e0] at h0
  obtain ⟨b, off, sp⟩ := ad
  cases sp with
  | some s =>
    exfalso
    unfold World.cell? at h0
    simp only [Option.isSome_some, if_true] at h0
    split at h0 <;> cases h0
  | none =>
    refine ⟨b, off, e, World.block_lt_of_cell? w _ h0, fun j hj => ?_⟩
    have := hc j hj
    unfold Addr.add at this
    by_cases hj0 : j = 0
    · subst hj0; simpa using this
    · rw [if_neg hj0] at this
      exact this
theorem slicesSort_calls {base : Nat} {w0 wr : World} (g cap : Nat) (zs : List Int) (n : Nat) (hn : zs.length = n) (hR : Kd.R (Kd.int .i64) 3 wr base (fun _ => True) (.slice (some ⟨g, 0, none⟩) n cap) zs) (hB : Below base w0 wr) (hl : zs.length ≤ 1000) :
    Calls Try.prog 44 #[.slice (some ⟨g, 0, none⟩) n cap] wr fun e w' => e = .returned (.tuple #[]) ∧ Kd.R (Kd.int .i64) 3 w' base (fun _ => True) (.slice (some ⟨g, 0, none⟩) n cap) (zs.mergeSort fun x y => decide (x ≤ y)) ∧ Below base w0 w' := by
  subst hn
  obtain ⟨h1, h2, h3, h4⟩ := holds_R hR
  refine (Try.slices_Sort_int g 0 cap zs wr h1 h2 (by omega)).mono fun e w' ⟨he, q, os, hw⟩ => ⟨he, ?_⟩
  have hlen : (zs.mergeSort fun x y => decide (x ≤ y)).length = zs.length := List.length_mergeSort zs
  have hput := R_put (q := q) hR hlen
  rw [hlen] at hput
  rw [hw]
  exact ⟨R_grow hput os, below_grow (below_put hB h3) (by rw [size_putRow]; omega) os⟩
theorem slicesCompact_calls {base : Nat} {w0 wr : World} (g cap : Nat) (zs ys : List Int) (n : Nat) (hn : zs.length = n) (hz : Lib.compact zs = zs) (hR : Kd.R (Kd.int .i64) 3 wr base (fun _ => True) (.slice (some ⟨g, 0, none⟩) n cap) zs) (hB : Below base w0 wr) (hl : zs.length ≤ 1000) :
    Calls Try.prog 45 #[.slice (some ⟨g, 0, none⟩) n cap] wr fun e w' => e = .returned (.slice (some ⟨g, 0, none⟩) n cap) ∧ Below base w0 w' := by
  subst hn
  obtain ⟨h1, h2, h3, h4⟩ := holds_R hR
  refine (Try.slices_Compact_int g 0 cap zs wr h1 (by omega) h4).mono fun e w' ⟨he, q, hw⟩ => ?_
  rw [hz] at he hw
  rw [hw]
  exact ⟨he, below_put hB h3⟩
theorem contains_calls (A : Option Addr) (c : Nat) (l : List Int) (w : World) (hC : Kd.C (Kd.int .i64) w A l.length l) (hg : Good l) :
    Calls Try.prog 41 #[.slice A l.length c, .func (.func 42) #[] #[]] w fun e w' => e = .returned (.bool false) ∧ Drawn0 w w' := by
  obtain ⟨b, off, rfl, hb, hc⟩ := C_addr hC hg.1
  have hl1 := hg.2.1
  have hp : PredAt Try.prog 42 #[] (Value.int .i64) (fun x => decide (x < 0) || decide (1099511627776 < x)) w := fun W x _ => by
    show Calls Try.prog 42 _ W _
    exact (right1_calls x W).mono fun e w' ⟨he, hw⟩ => ⟨he, 0, hw⟩
  refine (Try.slices_ContainsFunc (Value.int .i64) (fun x => decide (x < 0) || decide (1099511627776 < x)) 42 #[] (enters_of Try.func42 (by kernel_rfl) rfl) b off l.length c l w hp (Nat.le_refl _) (by omega) (fun j hj => ?_)).mono fun e w' ⟨he, q, hq⟩ => ⟨?_, ⟨q, hq⟩⟩
  · rw [hc j hj, List.getD_eq_getElem?_getD, List.getElem?_eq_getElem hj, getElem!_pos l j hj]
    rfl
  · rw [he, List.take_length]
    have : (l.any fun x => decide (x < 0) || decide (1099511627776 < x)) = false := by
      rw [List.any_eq_false]
      intro x hx
      have := hg.2.2.1 x hx
      simp
      omega
    rw [this]
theorem clone_calls (A : Option Addr) (c : Nat) (l : List Int) (w : World) (hC : Kd.C (Kd.int .i64) w A l.length l) (hg : Good l) :
    Calls Try.prog 43 #[.slice A l.length c] w fun e w' => ∃ g cap, e = .returned (.slice (some ⟨g, 0, none⟩) l.length cap) ∧ Kd.R (Kd.int .i64) 3 w' w.heap.size (fun _ => True) (.slice (some ⟨g, 0, none⟩) l.length cap) l ∧ Below w.heap.size w w' := by
  obtain ⟨b, off, rfl, hb, hc⟩ := C_addr hC hg.1
  have hl1 := hg.2.1
  refine (Try.slices_Clone_int b off l.length c l w (Nat.le_refl _) (by omega) hc).mono fun e w' ⟨v, he, ho, hn, hB⟩ => ?_
  rw [List.take_length] at ho
  have hR := R_of_ints ho rfl
  obtain ⟨g, cap, ev, _⟩ := Kd.R_form hR hg.1
  subst ev
  exact ⟨g, cap, he, hR, hB⟩
theorem cloneRow_calls (A : Option Addr) (c : Nat) (l : List Int) (w : World) (hC : Kd.C (Kd.int .i64) w A l.length l) (hg : Good l) :
    Calls Try.prog 39 #[.slice A l.length c] w fun e w' => ∃ g cap, e = .returned (.slice (some ⟨g, 0, none⟩) l.length cap) ∧ Kd.R (Kd.int .i64) 3 w' w.heap.size (fun _ => True) (.slice (some ⟨g, 0, none⟩) l.length cap) l ∧ Below w.heap.size w w' := by
  obtain ⟨b, off, rfl, hb, hc⟩ := C_addr hC hg.1
  have hl1 := hg.2.1
  obtain ⟨i0, hi, hz0, hz1, hz2⟩ := info_parts info3
  have hm : l.length ≤ maxLen := by unfold maxLen; omega
  refine (Try.slices_Clone_row i0 (.int .i64 0) 1 8 hi hz0 hz1 hz2 rfl (by omega) (fun w => by kernel_rfl) b off l.length c (l.map (Value.int .i64)) w (by simp) hm (by omega) (fun j u hu => ?_) (fun u hu => by obtain ⟨x, _, rfl⟩ := List.mem_map.1 hu; rfl)).mono fun e w' ⟨v, he, ho, hn, hB⟩ => ?_
  · rw [List.getElem?_map] at hu
    obtain ⟨x, hx, rfl⟩ := Option.map_eq_some_iff.1 hu
    have hj := (List.getElem?_eq_some_iff.1 hx).1
    rw [hc j hj, List.getD_eq_getElem?_getD, hx]
    rfl
  · have hR := R_of_ints ho rfl
    obtain ⟨g, cap, ev, _⟩ := Kd.R_form hR hg.1
    subst ev
    exact ⟨g, cap, he, hR, hB⟩
set_option maxHeartbeats 4000000 in
set_option maxRecDepth 100000 in
theorem right_calls (A : Option Addr) (c : Nat) (l : List Int) (w : World) (hr : Kd.C (Kd.int .i64) w A l.length l) (hg : Good l) :
    Calls Try.prog 34 #[.agg #[.slice A l.length c]] w fun e w' => e = .returned (.bool true) ∧ Below w.heap.size w w' := by
  have HR := Aside0.mk hr
  have HG := Aside0.mk hg
  have HB := Aside0.mk (Below.refl w.heap.size w)
  have HB0 := Aside0.mk (Below.refl w.heap.size w)
  have h1 : (1 : Int) ≤ (l.length : Int) := by have := hg.1; omega
  have h2 : (l.length : Int) ≤ 1000 := by have := hg.2.1; omega
  have HL : Aside0 (l.length ≤ 1000) := ⟨hg.2.1⟩
  have HSL : Aside0 ((l.mergeSort fun x y => decide (x ≤ y)).length = l.length) := ⟨List.length_mergeSort l⟩
  have HSC : Aside0 (Lib.compact (l.mergeSort fun x y => decide (x ≤ y)) = l.mergeSort fun x y => decide (x ≤ y)) := ⟨compact_sorted hg.2.2.2⟩
  clear hr hg
  go_enter Try.func34, Try.ntmps34
  go_wp2_with (first | (go_at_call 41; refine (contains_calls _ _ l _ ?s1 HG.out).mono ?_; (case s1 => exact (by (with_reducible repeat (first | exact HR.out | refine Kd.C_alloc ?_ _ | refine Kd.C_drewN ?_ _ | refine Kd.C_drew ?_)); done)); rintro e w' ⟨rfl, ⟨nd, rfl⟩⟩) | (go_at_call 43; refine (clone_calls _ _ l _ ?s1 HG.out).mono ?_; (case s1 => exact (by (with_reducible repeat (first | exact HR.out | refine Kd.C_alloc ?_ _ | refine Kd.C_drewN ?_ _ | refine Kd.C_drew ?_)); done)); rintro e w21 ⟨g, cap, rfl, ho0, hb⟩; have m1_ := Aside0.mk (below_step (by repeat (first | (with_reducible first | exact HB.out | apply below_alloc | apply pw_below_drewN | apply below_drew1) | exact HB.out)) hb); clear HB; have HB := m1_; clear m1_; clear hb; have HO := Aside0.mk (Kd.R_lower ho0 (below_size (by repeat (first | (with_reducible first | exact HB0.out | apply below_alloc | apply pw_below_drewN | apply below_drew1) | exact HB0.out)))); clear ho0) | (go_at_call 44; refine (slicesSort_calls (w0 := w) _ _ l _ rfl HO.out HB.out HL.out).mono ?_; rintro e w23 ⟨rfl, ho, hb⟩; have n0_ := Aside0.mk ho; have n1_ := Aside0.mk hb; clear HO HB; have HO := n0_; have HB := n1_; clear n0_ n1_ ho hb) | (go_at_call 45; refine (slicesCompact_calls (w0 := w) _ _ _ [] _ HSL.out HSC.out HO.out HB.out (by rw [HSL.out]; exact HL.out)).mono ?_; rintro e w25 ⟨rfl, hb⟩; have n1_ := Aside0.mk hb; clear HO HB; have HB := n1_; clear n1_ hb))
  go_ret
  exact ⟨rfl, (by repeat (first | (with_reducible first | exact HB.out | apply below_alloc | apply pw_below_drewN | apply below_drew1) | exact HB.out))⟩
end Go.Proofs.Ythjecgmgpnileaa.Bd
