/- The law BoundChain: walked. -/
import Derived.Test.YthjecgmgpnileaaC21
import Derived.StillTailTactics
namespace Go.Proofs.Ythjecgmgpnileaa.Bd
open Go.RowKit Go.Lib Go.Proofs.YthjecgmgpnileaaW.PrintWords Go.Proofs.YthjecgmgpnileaaW.PrintLast Go.Proofs.YthjecgmgpnileaaW.PrintMore
attribute [local go_sem] max2_int min2_int max_two min_two max_three min_three max_four min_four   -- for this text's walks alone
set_option linter.unusedVariables false
set_option linter.unusedSimpArgs false

theorem named_no {ss : List Int} {sp : List S53} {q : Int × Bool} (h : namedL ss sp = q) (hf : q.2 = false) : q = (0, false) := by
  unfold namedL at h
  split at h
  · exact h.symm
  · split at h
    · rw [← h] at hf; cases hf
    · exact h.symm
theorem named_yes {ss : List Int} {sp : List S53} {q : Int × Bool} (h : namedL ss sp = q) (hf : q.2 = true) : ∃ o, ofL sp = some o ∧ q = ((o.length : Int), true) ∧ ∀ s ∈ ss, 0 ≤ s ∧ s < (o.length : Int) := by
  unfold namedL at h
  split at h
  · rw [← h] at hf; cases hf
  · rename_i o ho
    split at h
    · rename_i hall
      refine ⟨o, ho, h.symm, fun s hs => ?_⟩
      have := List.all_eq_true.1 hall s hs
      unfold okS at this
      simp only [Bool.and_eq_true, decide_eq_true_eq] at this
      exact this.1
    · rw [← h] at hf; cases hf
theorem chain_at {o : List (Int × Int)} {ss r : List Int} (hr : chainB o ss = r) {i : Nat} (h : i < r.length) : 0 ≤ at0 r (i : Int) ∧ at0 r (i : Int) < (ss.length : Int) := by
  subst hr
  exact (chain_facts o ss i h).1
theorem chain_next {o : List (Int × Int)} {ss r : List Int} (hr : chainB o ss = r) {m : Nat} (h : m + 1 < r.length) : (0 ≤ at0 r (m : Int) ∧ at0 r (m : Int) < (ss.length : Int)) ∧ at0 r (m : Int) < at0 r ((m + 1 : Nat) : Int) ∧ aheadU o ss (at0 r (m : Int)) (at0 r ((m + 1 : Nat) : Int)) = true := by
  subst hr
  have h1 := (chain_facts o ss (m + 1) h).2.1 m rfl
  exact ⟨(chain_facts o ss m (by omega)).1, h1.1, h1.2⟩
theorem chain_head {o : List (Int × Int)} {ss r : List Int} (hr : chainB o ss = r) (h : 0 < r.length) : ∀ i : Int, 0 ≤ i → i < at0 r 0 → aheadU o ss i (at0 r 0) = false := by
  subst hr
  exact (chain_facts o ss 0 h).2.2 rfl
def othOK (o : List (Int × Int)) (ss L : List Int) : Prop := L = [] ∨ ((0 ≤ at0 L ((L.length : Int) - 1) ∧ at0 L ((L.length : Int) - 1) < (ss.length : Int)) ∧ (L.length : Int) ≤ (bAt (bests o ss ss.length) (at0 L ((L.length : Int) - 1))).1)
theorem oth_step {o : List (Int × Int)} {ss L : List Int} (h : othOK o ss L) {x : Int} (hx : 0 ≤ x ∧ x < (ss.length : Int)) : othOK o ss (othStep o ss L x) := oth_inv o ss L x hx h
theorem oth_first {o : List (Int × Int)} {ss L : List Int} (h : L.length = 0) (x : Int) : othStep o ss L x = L ++ [x] := by
  have e : L = [] := List.eq_nil_of_length_eq_zero h
  subst e
  unfold othStep
  rw [if_pos (.inl rfl)]
theorem oth_skip {o : List (Int × Int)} {ss L : List Int} {j : Nat} (h : L.length = j + 1) {x y : Int} (hy : at0 L (j : Int) = y) (hn : ¬ (y < x ∧ aheadU o ss y x = true)) : othStep o ss L x = L := by
  unfold othStep
  have e : (L.length : Int) - 1 = (j : Int) := by omega
  rw [e, hy, if_neg]
  rintro (h1 | h1)
  · rw [h1] at h; cases h
  · exact hn h1
theorem oth_more {o : List (Int × Int)} {ss L : List Int} {j : Nat} (h : L.length = j + 1) {x y : Int} (hy : at0 L (j : Int) = y) (h1 : y < x) (h2 : aheadU o ss y x = true) : othStep o ss L x = L ++ [x] := by
  unfold othStep
  have e : (L.length : Int) - 1 = (j : Int) := by omega
  rw [e, hy, if_pos (.inr ⟨h1, h2⟩)]
theorem oth_last {o : List (Int × Int)} {ss L : List Int} {j : Nat} (h : L.length = j + 1) (hk : othOK o ss L) : 0 ≤ at0 L (j : Int) ∧ at0 L (j : Int) < (ss.length : Int) := by
  rcases hk with e | ⟨h1, _⟩
  · rw [e] at h; cases h
  · have e : (L.length : Int) - 1 = (j : Int) := by omega
    rw [e] at h1
    exact h1
theorem oth_fin {o : List (Int × Int)} {ss L r : List Int} (hr : chainB o ss = r) (hk : othOK o ss L) : L.length ≤ r.length := by
  subst hr
  exact oth_le o ss L hk
theorem of_len {sp : List S53} {o : List (Int × Int)} (h : ofL sp = some o) : o.length ≤ 1 + 3 * sp.length := by
  unfold ofL at h
  cases hs : runF st0 sp with
  | none => rw [hs] at h; cases h
  | some s =>
    rw [hs] at h
    cases h
    rw [List.length_map, ints_len]
    exact (inv0.run hs).2.1
theorem work_le {o : List (Int × Int)} {ss r : List Int} (hr : chainB o ss = r) (h : ∀ s ∈ ss, 0 ≤ s ∧ s < (o.length : Int)) : ss.length ≤ o.length * r.length := by
  subst hr
  exact chain_work o ss o.length h
theorem mem_rd {l : List Int} {i : Nat} (h : i < l.length) : rd l (i : Int) ∈ l := by
  unfold rd
  rw [Int.toNat_natCast, List.getD_eq_getElem?_getD, List.getElem?_eq_getElem h]
  exact List.getElem_mem h
set_option maxHeartbeats 32000000 in
set_option maxRecDepth 100000 in
theorem boundChain_calls (a0 a1 : Int) (s2 s3 s4 s5 : SlV) (A6 : Option Addr) (c6 : Nat) (us : List SU) (A7 : Option Addr) (c7 : Nat) (sp : List S53) (a8 a9 : Int) (s10 : SlV) (A1 : Option Addr) (c1 : Nat) (bs : List Int) (w : World) (hu : Kd.C kU w A6 us.length us) (hs : Kd.C k53 w A7 sp.length sp) (hcs : sp.length ≤ c7) (hb : Kd.C (Kd.int .u8) w A1 bs.length bs) (hbb : ∀ x ∈ bs, 0 ≤ x ∧ x ≤ 255) :
    Calls Try.prog 3 #[.agg #[.int .i64 a0, .int .i64 a1, .slice s2.1 s2.2.1 s2.2.2, .slice s3.1 s3.2.1 s3.2.2, .slice s4.1 s4.2.1 s4.2.2, .slice s5.1 s5.2.1 s5.2.2, .slice A6 us.length c6, .slice A7 sp.length c7, .int .i64 a8, .int .i64 a9, .slice s10.1 s10.2.1 s10.2.2], .slice A1 bs.length c1] w fun e w' => e = .returned (.bool true) ∧ Below w.heap.size w w' := by
  have HUS := Aside0.mk hu
  have HSP := Aside0.mk hs
  have HBS := Aside0.mk hb
  have HBB := Aside0.mk hbb
  have HCS := Aside0.mk hcs
  have HB := Aside0.mk (Below.refl w.heap.size w)
  clear hu hs hb hbb hcs
  by_cases hg1 : 60 < (us.length : Int)
  · have d_hg1 : decide (60 < (us.length : Int)) = true := decide_eq_true hg1
    go_enter Try.func3, Try.ntmps3
    go_wp2_with (first | ((with_reducible refine gate_dst (N := 2) rfl ?_); refine box_event ?hg (N := 2) ?hd (cs := #[.int .i64 a0, .int .i64 a1, .slice s2.1 s2.2.1 s2.2.2, .slice s3.1 s3.2.1 s3.2.2, .slice s4.1 s4.2.1 s4.2.2, .slice s5.1 s5.2.1 s5.2.2, .slice A6 us.length c6, .slice A7 sp.length c7, .int .i64 a8, .int .i64 a9, .slice s10.1 s10.2.1 s10.2.2]) (t := 29) ?hr ?_; (case hd => rfl); (case hg => rfl); (case hr => first | (go_simp; done) | (go_simp; rfl)); intro G2 hg w1 hbox hb; (first | (with_reducible have e0_ := Aside0.mk (Kd.C_below HUS.out hb)) | (with_reducible have e0_ := Aside0.mk (Kd.C_below (Kd.C_drewN HUS.out _) hb)) | (with_reducible have e0_ := Aside0.mk (Kd.C_below (Kd.C_alloc HUS.out _) hb)) | (with_reducible have e0_ := Aside0.mk (Kd.C_below (Kd.C_drewN (Kd.C_alloc HUS.out _) _) hb)) | (with_reducible have e0_ := Aside0.mk (Kd.C_below (Kd.C_alloc (Kd.C_drewN HUS.out _) _) hb)) | (with_reducible have e0_ := Aside0.mk (Kd.C_below (Kd.C_drewN (Kd.C_drewN HUS.out _) _) hb))); (first | (with_reducible have e1_ := Aside0.mk (Kd.C_below HSP.out hb)) | (with_reducible have e1_ := Aside0.mk (Kd.C_below (Kd.C_drewN HSP.out _) hb)) | (with_reducible have e1_ := Aside0.mk (Kd.C_below (Kd.C_alloc HSP.out _) hb)) | (with_reducible have e1_ := Aside0.mk (Kd.C_below (Kd.C_drewN (Kd.C_alloc HSP.out _) _) hb)) | (with_reducible have e1_ := Aside0.mk (Kd.C_below (Kd.C_alloc (Kd.C_drewN HSP.out _) _) hb)) | (with_reducible have e1_ := Aside0.mk (Kd.C_below (Kd.C_drewN (Kd.C_drewN HSP.out _) _) hb))); (first | (with_reducible have e2_ := Aside0.mk (Kd.C_below HBS.out hb)) | (with_reducible have e2_ := Aside0.mk (Kd.C_below (Kd.C_drewN HBS.out _) hb)) | (with_reducible have e2_ := Aside0.mk (Kd.C_below (Kd.C_alloc HBS.out _) hb)) | (with_reducible have e2_ := Aside0.mk (Kd.C_below (Kd.C_drewN (Kd.C_alloc HBS.out _) _) hb)) | (with_reducible have e2_ := Aside0.mk (Kd.C_below (Kd.C_alloc (Kd.C_drewN HBS.out _) _) hb)) | (with_reducible have e2_ := Aside0.mk (Kd.C_below (Kd.C_drewN (Kd.C_drewN HBS.out _) _) hb))); have n0_ := Aside0.mk (below_step (by repeat (first | (with_reducible first | exact HB.out | apply below_alloc | apply pw_below_drewN | apply below_drew1) | exact HB.out)) hb); have n1_ := Aside0.mk hbox; have n2_ := Aside0.mk ((by rw [hg]; exact (below_size (by repeat (first | (with_reducible first | exact HB.out | apply below_alloc | apply pw_below_drewN | apply below_drew1) | exact HB.out)))) : w.heap.size ≤ G2); clear HUS; have HUS := e0_; clear e0_; clear HSP; have HSP := e1_; clear e1_; clear HBS; have HBS := e2_; clear e2_; clear HB; have HB := n0_; have BK2 := n1_; have GE2 := n2_; clear n0_ n1_ n2_; clear hb hbox hg) | ((with_reducible refine gate_callee (f := 5) rfl ?_); refine goesL_ (some 17) rfl rfl Try.func5 (by kernel_rfl) rfl #[] rfl (by (try simp only [List.map_toArray, List.map_cons, List.map_nil]); first | done | rfl | (simp only [List.length_drop, List.length_take]; rfl)) ?_; (with_reducible refine (shown_calls _).mono ?_); rintro e w2 ⟨rfl, hb⟩; refine ⟨_, rfl, ?_⟩; (first | (with_reducible have e0_ := Aside0.mk (Kd.C_below HUS.out hb)) | (with_reducible have e0_ := Aside0.mk (Kd.C_below (Kd.C_drewN HUS.out _) hb)) | (with_reducible have e0_ := Aside0.mk (Kd.C_below (Kd.C_alloc HUS.out _) hb)) | (with_reducible have e0_ := Aside0.mk (Kd.C_below (Kd.C_drewN (Kd.C_alloc HUS.out _) _) hb)) | (with_reducible have e0_ := Aside0.mk (Kd.C_below (Kd.C_alloc (Kd.C_drewN HUS.out _) _) hb)) | (with_reducible have e0_ := Aside0.mk (Kd.C_below (Kd.C_drewN (Kd.C_drewN HUS.out _) _) hb))); (first | (with_reducible have e1_ := Aside0.mk (Kd.C_below HSP.out hb)) | (with_reducible have e1_ := Aside0.mk (Kd.C_below (Kd.C_drewN HSP.out _) hb)) | (with_reducible have e1_ := Aside0.mk (Kd.C_below (Kd.C_alloc HSP.out _) hb)) | (with_reducible have e1_ := Aside0.mk (Kd.C_below (Kd.C_drewN (Kd.C_alloc HSP.out _) _) hb)) | (with_reducible have e1_ := Aside0.mk (Kd.C_below (Kd.C_alloc (Kd.C_drewN HSP.out _) _) hb)) | (with_reducible have e1_ := Aside0.mk (Kd.C_below (Kd.C_drewN (Kd.C_drewN HSP.out _) _) hb))); (first | (with_reducible have e2_ := Aside0.mk (Kd.C_below HBS.out hb)) | (with_reducible have e2_ := Aside0.mk (Kd.C_below (Kd.C_drewN HBS.out _) hb)) | (with_reducible have e2_ := Aside0.mk (Kd.C_below (Kd.C_alloc HBS.out _) hb)) | (with_reducible have e2_ := Aside0.mk (Kd.C_below (Kd.C_drewN (Kd.C_alloc HBS.out _) _) hb)) | (with_reducible have e2_ := Aside0.mk (Kd.C_below (Kd.C_alloc (Kd.C_drewN HBS.out _) _) hb)) | (with_reducible have e2_ := Aside0.mk (Kd.C_below (Kd.C_drewN (Kd.C_drewN HBS.out _) _) hb))); have b0_ := Aside0.mk (blk_below (by (with_reducible repeat (first | refine blk_drewN ?_ _ | refine blk_drew ?_ | refine blk_alloc ?_ _)); exact BK2.out) hb); have m1_ := Aside0.mk (below_step (by repeat (first | (with_reducible first | exact HB.out | apply below_alloc | apply pw_below_drewN | apply below_drew1) | exact HB.out)) hb); clear HB; have HB := m1_; clear m1_; clear HUS; have HUS := e0_; clear e0_; clear HSP; have HSP := e1_; clear e1_; clear HBS; have HBS := e2_; clear e2_; clear BK2; have BK2 := b0_; clear b0_; clear hb; have k6 : w2.cell? ⟨G2, 6, none⟩ = some (.slice A6 us.length c6) := (blk_cell BK2.out 6).trans rfl; have k7 : w2.cell? ⟨G2, 7, none⟩ = some (.slice A7 sp.length c7) := (blk_cell BK2.out 7).trans rfl; obtain ⟨q0, q1, q2, q3, q4, q5, q6, q7, q8, q9, q10⟩ := box_cells BK2.out))
    go_ret
    exact ⟨rfl, HB.out⟩
  have d_hg1 : decide (60 < (us.length : Int)) = false := decide_eq_false hg1
  by_cases hg2 : 60 < (sp.length : Int)
  · have d_hg2 : decide (60 < (sp.length : Int)) = true := decide_eq_true hg2
    go_enter Try.func3, Try.ntmps3
    go_wp2_with (first | ((with_reducible refine gate_dst (N := 2) rfl ?_); refine box_event ?hg (N := 2) ?hd (cs := #[.int .i64 a0, .int .i64 a1, .slice s2.1 s2.2.1 s2.2.2, .slice s3.1 s3.2.1 s3.2.2, .slice s4.1 s4.2.1 s4.2.2, .slice s5.1 s5.2.1 s5.2.2, .slice A6 us.length c6, .slice A7 sp.length c7, .int .i64 a8, .int .i64 a9, .slice s10.1 s10.2.1 s10.2.2]) (t := 29) ?hr ?_; (case hd => rfl); (case hg => rfl); (case hr => first | (go_simp; done) | (go_simp; rfl)); intro G2 hg w1 hbox hb; (first | (with_reducible have e0_ := Aside0.mk (Kd.C_below HUS.out hb)) | (with_reducible have e0_ := Aside0.mk (Kd.C_below (Kd.C_drewN HUS.out _) hb)) | (with_reducible have e0_ := Aside0.mk (Kd.C_below (Kd.C_alloc HUS.out _) hb)) | (with_reducible have e0_ := Aside0.mk (Kd.C_below (Kd.C_drewN (Kd.C_alloc HUS.out _) _) hb)) | (with_reducible have e0_ := Aside0.mk (Kd.C_below (Kd.C_alloc (Kd.C_drewN HUS.out _) _) hb)) | (with_reducible have e0_ := Aside0.mk (Kd.C_below (Kd.C_drewN (Kd.C_drewN HUS.out _) _) hb))); (first | (with_reducible have e1_ := Aside0.mk (Kd.C_below HSP.out hb)) | (with_reducible have e1_ := Aside0.mk (Kd.C_below (Kd.C_drewN HSP.out _) hb)) | (with_reducible have e1_ := Aside0.mk (Kd.C_below (Kd.C_alloc HSP.out _) hb)) | (with_reducible have e1_ := Aside0.mk (Kd.C_below (Kd.C_drewN (Kd.C_alloc HSP.out _) _) hb)) | (with_reducible have e1_ := Aside0.mk (Kd.C_below (Kd.C_alloc (Kd.C_drewN HSP.out _) _) hb)) | (with_reducible have e1_ := Aside0.mk (Kd.C_below (Kd.C_drewN (Kd.C_drewN HSP.out _) _) hb))); (first | (with_reducible have e2_ := Aside0.mk (Kd.C_below HBS.out hb)) | (with_reducible have e2_ := Aside0.mk (Kd.C_below (Kd.C_drewN HBS.out _) hb)) | (with_reducible have e2_ := Aside0.mk (Kd.C_below (Kd.C_alloc HBS.out _) hb)) | (with_reducible have e2_ := Aside0.mk (Kd.C_below (Kd.C_drewN (Kd.C_alloc HBS.out _) _) hb)) | (with_reducible have e2_ := Aside0.mk (Kd.C_below (Kd.C_alloc (Kd.C_drewN HBS.out _) _) hb)) | (with_reducible have e2_ := Aside0.mk (Kd.C_below (Kd.C_drewN (Kd.C_drewN HBS.out _) _) hb))); have n0_ := Aside0.mk (below_step (by repeat (first | (with_reducible first | exact HB.out | apply below_alloc | apply pw_below_drewN | apply below_drew1) | exact HB.out)) hb); have n1_ := Aside0.mk hbox; have n2_ := Aside0.mk ((by rw [hg]; exact (below_size (by repeat (first | (with_reducible first | exact HB.out | apply below_alloc | apply pw_below_drewN | apply below_drew1) | exact HB.out)))) : w.heap.size ≤ G2); clear HUS; have HUS := e0_; clear e0_; clear HSP; have HSP := e1_; clear e1_; clear HBS; have HBS := e2_; clear e2_; clear HB; have HB := n0_; have BK2 := n1_; have GE2 := n2_; clear n0_ n1_ n2_; clear hb hbox hg) | ((with_reducible refine gate_callee (f := 5) rfl ?_); refine goesL_ (some 17) rfl rfl Try.func5 (by kernel_rfl) rfl #[] rfl (by (try simp only [List.map_toArray, List.map_cons, List.map_nil]); first | done | rfl | (simp only [List.length_drop, List.length_take]; rfl)) ?_; (with_reducible refine (shown_calls _).mono ?_); rintro e w2 ⟨rfl, hb⟩; refine ⟨_, rfl, ?_⟩; (first | (with_reducible have e0_ := Aside0.mk (Kd.C_below HUS.out hb)) | (with_reducible have e0_ := Aside0.mk (Kd.C_below (Kd.C_drewN HUS.out _) hb)) | (with_reducible have e0_ := Aside0.mk (Kd.C_below (Kd.C_alloc HUS.out _) hb)) | (with_reducible have e0_ := Aside0.mk (Kd.C_below (Kd.C_drewN (Kd.C_alloc HUS.out _) _) hb)) | (with_reducible have e0_ := Aside0.mk (Kd.C_below (Kd.C_alloc (Kd.C_drewN HUS.out _) _) hb)) | (with_reducible have e0_ := Aside0.mk (Kd.C_below (Kd.C_drewN (Kd.C_drewN HUS.out _) _) hb))); (first | (with_reducible have e1_ := Aside0.mk (Kd.C_below HSP.out hb)) | (with_reducible have e1_ := Aside0.mk (Kd.C_below (Kd.C_drewN HSP.out _) hb)) | (with_reducible have e1_ := Aside0.mk (Kd.C_below (Kd.C_alloc HSP.out _) hb)) | (with_reducible have e1_ := Aside0.mk (Kd.C_below (Kd.C_drewN (Kd.C_alloc HSP.out _) _) hb)) | (with_reducible have e1_ := Aside0.mk (Kd.C_below (Kd.C_alloc (Kd.C_drewN HSP.out _) _) hb)) | (with_reducible have e1_ := Aside0.mk (Kd.C_below (Kd.C_drewN (Kd.C_drewN HSP.out _) _) hb))); (first | (with_reducible have e2_ := Aside0.mk (Kd.C_below HBS.out hb)) | (with_reducible have e2_ := Aside0.mk (Kd.C_below (Kd.C_drewN HBS.out _) hb)) | (with_reducible have e2_ := Aside0.mk (Kd.C_below (Kd.C_alloc HBS.out _) hb)) | (with_reducible have e2_ := Aside0.mk (Kd.C_below (Kd.C_drewN (Kd.C_alloc HBS.out _) _) hb)) | (with_reducible have e2_ := Aside0.mk (Kd.C_below (Kd.C_alloc (Kd.C_drewN HBS.out _) _) hb)) | (with_reducible have e2_ := Aside0.mk (Kd.C_below (Kd.C_drewN (Kd.C_drewN HBS.out _) _) hb))); have b0_ := Aside0.mk (blk_below (by (with_reducible repeat (first | refine blk_drewN ?_ _ | refine blk_drew ?_ | refine blk_alloc ?_ _)); exact BK2.out) hb); have m1_ := Aside0.mk (below_step (by repeat (first | (with_reducible first | exact HB.out | apply below_alloc | apply pw_below_drewN | apply below_drew1) | exact HB.out)) hb); clear HB; have HB := m1_; clear m1_; clear HUS; have HUS := e0_; clear e0_; clear HSP; have HSP := e1_; clear e1_; clear HBS; have HBS := e2_; clear e2_; clear BK2; have BK2 := b0_; clear b0_; clear hb; have k6 : w2.cell? ⟨G2, 6, none⟩ = some (.slice A6 us.length c6) := (blk_cell BK2.out 6).trans rfl; have k7 : w2.cell? ⟨G2, 7, none⟩ = some (.slice A7 sp.length c7) := (blk_cell BK2.out 7).trans rfl; obtain ⟨q0, q1, q2, q3, q4, q5, q6, q7, q8, q9, q10⟩ := box_cells BK2.out))
    go_ret
    exact ⟨rfl, HB.out⟩
  have d_hg2 : decide (60 < (sp.length : Int)) = false := decide_eq_false hg2
  by_cases hg3 : 60 < (bs.length : Int)
  · have d_hg3 : decide (60 < (bs.length : Int)) = true := decide_eq_true hg3
    go_enter Try.func3, Try.ntmps3
    go_wp2_with (first | ((with_reducible refine gate_dst (N := 2) rfl ?_); refine box_event ?hg (N := 2) ?hd (cs := #[.int .i64 a0, .int .i64 a1, .slice s2.1 s2.2.1 s2.2.2, .slice s3.1 s3.2.1 s3.2.2, .slice s4.1 s4.2.1 s4.2.2, .slice s5.1 s5.2.1 s5.2.2, .slice A6 us.length c6, .slice A7 sp.length c7, .int .i64 a8, .int .i64 a9, .slice s10.1 s10.2.1 s10.2.2]) (t := 29) ?hr ?_; (case hd => rfl); (case hg => rfl); (case hr => first | (go_simp; done) | (go_simp; rfl)); intro G2 hg w1 hbox hb; (first | (with_reducible have e0_ := Aside0.mk (Kd.C_below HUS.out hb)) | (with_reducible have e0_ := Aside0.mk (Kd.C_below (Kd.C_drewN HUS.out _) hb)) | (with_reducible have e0_ := Aside0.mk (Kd.C_below (Kd.C_alloc HUS.out _) hb)) | (with_reducible have e0_ := Aside0.mk (Kd.C_below (Kd.C_drewN (Kd.C_alloc HUS.out _) _) hb)) | (with_reducible have e0_ := Aside0.mk (Kd.C_below (Kd.C_alloc (Kd.C_drewN HUS.out _) _) hb)) | (with_reducible have e0_ := Aside0.mk (Kd.C_below (Kd.C_drewN (Kd.C_drewN HUS.out _) _) hb))); (first | (with_reducible have e1_ := Aside0.mk (Kd.C_below HSP.out hb)) | (with_reducible have e1_ := Aside0.mk (Kd.C_below (Kd.C_drewN HSP.out _) hb)) | (with_reducible have e1_ := Aside0.mk (Kd.C_below (Kd.C_alloc HSP.out _) hb)) | (with_reducible have e1_ := Aside0.mk (Kd.C_below (Kd.C_drewN (Kd.C_alloc HSP.out _) _) hb)) | (with_reducible have e1_ := Aside0.mk (Kd.C_below (Kd.C_alloc (Kd.C_drewN HSP.out _) _) hb)) | (with_reducible have e1_ := Aside0.mk (Kd.C_below (Kd.C_drewN (Kd.C_drewN HSP.out _) _) hb))); (first | (with_reducible have e2_ := Aside0.mk (Kd.C_below HBS.out hb)) | (with_reducible have e2_ := Aside0.mk (Kd.C_below (Kd.C_drewN HBS.out _) hb)) | (with_reducible have e2_ := Aside0.mk (Kd.C_below (Kd.C_alloc HBS.out _) hb)) | (with_reducible have e2_ := Aside0.mk (Kd.C_below (Kd.C_drewN (Kd.C_alloc HBS.out _) _) hb)) | (with_reducible have e2_ := Aside0.mk (Kd.C_below (Kd.C_alloc (Kd.C_drewN HBS.out _) _) hb)) | (with_reducible have e2_ := Aside0.mk (Kd.C_below (Kd.C_drewN (Kd.C_drewN HBS.out _) _) hb))); have n0_ := Aside0.mk (below_step (by repeat (first | (with_reducible first | exact HB.out | apply below_alloc | apply pw_below_drewN | apply below_drew1) | exact HB.out)) hb); have n1_ := Aside0.mk hbox; have n2_ := Aside0.mk ((by rw [hg]; exact (below_size (by repeat (first | (with_reducible first | exact HB.out | apply below_alloc | apply pw_below_drewN | apply below_drew1) | exact HB.out)))) : w.heap.size ≤ G2); clear HUS; have HUS := e0_; clear e0_; clear HSP; have HSP := e1_; clear e1_; clear HBS; have HBS := e2_; clear e2_; clear HB; have HB := n0_; have BK2 := n1_; have GE2 := n2_; clear n0_ n1_ n2_; clear hb hbox hg) | ((with_reducible refine gate_callee (f := 5) rfl ?_); refine goesL_ (some 17) rfl rfl Try.func5 (by kernel_rfl) rfl #[] rfl (by (try simp only [List.map_toArray, List.map_cons, List.map_nil]); first | done | rfl | (simp only [List.length_drop, List.length_take]; rfl)) ?_; (with_reducible refine (shown_calls _).mono ?_); rintro e w2 ⟨rfl, hb⟩; refine ⟨_, rfl, ?_⟩; (first | (with_reducible have e0_ := Aside0.mk (Kd.C_below HUS.out hb)) | (with_reducible have e0_ := Aside0.mk (Kd.C_below (Kd.C_drewN HUS.out _) hb)) | (with_reducible have e0_ := Aside0.mk (Kd.C_below (Kd.C_alloc HUS.out _) hb)) | (with_reducible have e0_ := Aside0.mk (Kd.C_below (Kd.C_drewN (Kd.C_alloc HUS.out _) _) hb)) | (with_reducible have e0_ := Aside0.mk (Kd.C_below (Kd.C_alloc (Kd.C_drewN HUS.out _) _) hb)) | (with_reducible have e0_ := Aside0.mk (Kd.C_below (Kd.C_drewN (Kd.C_drewN HUS.out _) _) hb))); (first | (with_reducible have e1_ := Aside0.mk (Kd.C_below HSP.out hb)) | (with_reducible have e1_ := Aside0.mk (Kd.C_below (Kd.C_drewN HSP.out _) hb)) | (with_reducible have e1_ := Aside0.mk (Kd.C_below (Kd.C_alloc HSP.out _) hb)) | (with_reducible have e1_ := Aside0.mk (Kd.C_below (Kd.C_drewN (Kd.C_alloc HSP.out _) _) hb)) | (with_reducible have e1_ := Aside0.mk (Kd.C_below (Kd.C_alloc (Kd.C_drewN HSP.out _) _) hb)) | (with_reducible have e1_ := Aside0.mk (Kd.C_below (Kd.C_drewN (Kd.C_drewN HSP.out _) _) hb))); (first | (with_reducible have e2_ := Aside0.mk (Kd.C_below HBS.out hb)) | (with_reducible have e2_ := Aside0.mk (Kd.C_below (Kd.C_drewN HBS.out _) hb)) | (with_reducible have e2_ := Aside0.mk (Kd.C_below (Kd.C_alloc HBS.out _) hb)) | (with_reducible have e2_ := Aside0.mk (Kd.C_below (Kd.C_drewN (Kd.C_alloc HBS.out _) _) hb)) | (with_reducible have e2_ := Aside0.mk (Kd.C_below (Kd.C_alloc (Kd.C_drewN HBS.out _) _) hb)) | (with_reducible have e2_ := Aside0.mk (Kd.C_below (Kd.C_drewN (Kd.C_drewN HBS.out _) _) hb))); have b0_ := Aside0.mk (blk_below (by (with_reducible repeat (first | refine blk_drewN ?_ _ | refine blk_drew ?_ | refine blk_alloc ?_ _)); exact BK2.out) hb); have m1_ := Aside0.mk (below_step (by repeat (first | (with_reducible first | exact HB.out | apply below_alloc | apply pw_below_drewN | apply below_drew1) | exact HB.out)) hb); clear HB; have HB := m1_; clear m1_; clear HUS; have HUS := e0_; clear e0_; clear HSP; have HSP := e1_; clear e1_; clear HBS; have HBS := e2_; clear e2_; clear BK2; have BK2 := b0_; clear b0_; clear hb; have k6 : w2.cell? ⟨G2, 6, none⟩ = some (.slice A6 us.length c6) := (blk_cell BK2.out 6).trans rfl; have k7 : w2.cell? ⟨G2, 7, none⟩ = some (.slice A7 sp.length c7) := (blk_cell BK2.out 7).trans rfl; obtain ⟨q0, q1, q2, q3, q4, q5, q6, q7, q8, q9, q10⟩ := box_cells BK2.out))
    go_ret
    exact ⟨rfl, HB.out⟩
  have d_hg3 : decide (60 < (bs.length : Int)) = false := decide_eq_false hg3
  obtain ⟨ss, hss⟩ : ∃ q, strands us = q := ⟨_, rfl⟩
  have hsl : ss.length = us.length := by rw [← hss]; unfold strands; rw [List.length_map]
  obtain ⟨q, hq⟩ : ∃ q, namedL ss sp = q := ⟨_, rfl⟩
  have HSS := Aside0.mk hss
  have HSL := Aside0.mk hsl
  have HQ := Aside0.mk hq
  have HLN : Aside0 (us.length ≤ 60 ∧ sp.length ≤ 60 ∧ bs.length ≤ 60) := ⟨by omega⟩
  have hu60 : (us.length : Int) ≤ 60 := by omega
  have hs60 : (sp.length : Int) ≤ 60 := by omega
  have hb60 : (bs.length : Int) ≤ 60 := by omega
  cases hq2 : q.2 with
  | false =>
    have hqn := named_no hq hq2
    have HQN := Aside0.mk hqn
    clear hss hsl hq hqn hq2
    go_enter Try.func3, Try.ntmps3
    go_wp2_with (first | ((with_reducible refine gate_dst (N := 2) rfl ?_); refine box_event ?hg (N := 2) ?hd (cs := #[.int .i64 a0, .int .i64 a1, .slice s2.1 s2.2.1 s2.2.2, .slice s3.1 s3.2.1 s3.2.2, .slice s4.1 s4.2.1 s4.2.2, .slice s5.1 s5.2.1 s5.2.2, .slice A6 us.length c6, .slice A7 sp.length c7, .int .i64 a8, .int .i64 a9, .slice s10.1 s10.2.1 s10.2.2]) (t := 29) ?hr ?_; (case hd => rfl); (case hg => rfl); (case hr => first | (go_simp; done) | (go_simp; rfl)); intro G2 hg w1 hbox hb; (first | (with_reducible have e0_ := Aside0.mk (Kd.C_below HUS.out hb)) | (with_reducible have e0_ := Aside0.mk (Kd.C_below (Kd.C_drewN HUS.out _) hb)) | (with_reducible have e0_ := Aside0.mk (Kd.C_below (Kd.C_alloc HUS.out _) hb)) | (with_reducible have e0_ := Aside0.mk (Kd.C_below (Kd.C_drewN (Kd.C_alloc HUS.out _) _) hb)) | (with_reducible have e0_ := Aside0.mk (Kd.C_below (Kd.C_alloc (Kd.C_drewN HUS.out _) _) hb)) | (with_reducible have e0_ := Aside0.mk (Kd.C_below (Kd.C_drewN (Kd.C_drewN HUS.out _) _) hb))); (first | (with_reducible have e1_ := Aside0.mk (Kd.C_below HSP.out hb)) | (with_reducible have e1_ := Aside0.mk (Kd.C_below (Kd.C_drewN HSP.out _) hb)) | (with_reducible have e1_ := Aside0.mk (Kd.C_below (Kd.C_alloc HSP.out _) hb)) | (with_reducible have e1_ := Aside0.mk (Kd.C_below (Kd.C_drewN (Kd.C_alloc HSP.out _) _) hb)) | (with_reducible have e1_ := Aside0.mk (Kd.C_below (Kd.C_alloc (Kd.C_drewN HSP.out _) _) hb)) | (with_reducible have e1_ := Aside0.mk (Kd.C_below (Kd.C_drewN (Kd.C_drewN HSP.out _) _) hb))); (first | (with_reducible have e2_ := Aside0.mk (Kd.C_below HBS.out hb)) | (with_reducible have e2_ := Aside0.mk (Kd.C_below (Kd.C_drewN HBS.out _) hb)) | (with_reducible have e2_ := Aside0.mk (Kd.C_below (Kd.C_alloc HBS.out _) hb)) | (with_reducible have e2_ := Aside0.mk (Kd.C_below (Kd.C_drewN (Kd.C_alloc HBS.out _) _) hb)) | (with_reducible have e2_ := Aside0.mk (Kd.C_below (Kd.C_alloc (Kd.C_drewN HBS.out _) _) hb)) | (with_reducible have e2_ := Aside0.mk (Kd.C_below (Kd.C_drewN (Kd.C_drewN HBS.out _) _) hb))); have n0_ := Aside0.mk (below_step (by repeat (first | (with_reducible first | exact HB.out | apply below_alloc | apply pw_below_drewN | apply below_drew1) | exact HB.out)) hb); have n1_ := Aside0.mk hbox; have n2_ := Aside0.mk ((by rw [hg]; exact (below_size (by repeat (first | (with_reducible first | exact HB.out | apply below_alloc | apply pw_below_drewN | apply below_drew1) | exact HB.out)))) : w.heap.size ≤ G2); clear HUS; have HUS := e0_; clear e0_; clear HSP; have HSP := e1_; clear e1_; clear HBS; have HBS := e2_; clear e2_; clear HB; have HB := n0_; have BK2 := n1_; have GE2 := n2_; clear n0_ n1_ n2_; clear hb hbox hg) | ((with_reducible refine gate_callee (f := 5) rfl ?_); refine goesL_ (some 17) rfl rfl Try.func5 (by kernel_rfl) rfl #[] rfl (by (try simp only [List.map_toArray, List.map_cons, List.map_nil]); first | done | rfl | (simp only [List.length_drop, List.length_take]; rfl)) ?_; (with_reducible refine (shown_calls _).mono ?_); rintro e w2 ⟨rfl, hb⟩; refine ⟨_, rfl, ?_⟩; (first | (with_reducible have e0_ := Aside0.mk (Kd.C_below HUS.out hb)) | (with_reducible have e0_ := Aside0.mk (Kd.C_below (Kd.C_drewN HUS.out _) hb)) | (with_reducible have e0_ := Aside0.mk (Kd.C_below (Kd.C_alloc HUS.out _) hb)) | (with_reducible have e0_ := Aside0.mk (Kd.C_below (Kd.C_drewN (Kd.C_alloc HUS.out _) _) hb)) | (with_reducible have e0_ := Aside0.mk (Kd.C_below (Kd.C_alloc (Kd.C_drewN HUS.out _) _) hb)) | (with_reducible have e0_ := Aside0.mk (Kd.C_below (Kd.C_drewN (Kd.C_drewN HUS.out _) _) hb))); (first | (with_reducible have e1_ := Aside0.mk (Kd.C_below HSP.out hb)) | (with_reducible have e1_ := Aside0.mk (Kd.C_below (Kd.C_drewN HSP.out _) hb)) | (with_reducible have e1_ := Aside0.mk (Kd.C_below (Kd.C_alloc HSP.out _) hb)) | (with_reducible have e1_ := Aside0.mk (Kd.C_below (Kd.C_drewN (Kd.C_alloc HSP.out _) _) hb)) | (with_reducible have e1_ := Aside0.mk (Kd.C_below (Kd.C_alloc (Kd.C_drewN HSP.out _) _) hb)) | (with_reducible have e1_ := Aside0.mk (Kd.C_below (Kd.C_drewN (Kd.C_drewN HSP.out _) _) hb))); (first | (with_reducible have e2_ := Aside0.mk (Kd.C_below HBS.out hb)) | (with_reducible have e2_ := Aside0.mk (Kd.C_below (Kd.C_drewN HBS.out _) hb)) | (with_reducible have e2_ := Aside0.mk (Kd.C_below (Kd.C_alloc HBS.out _) hb)) | (with_reducible have e2_ := Aside0.mk (Kd.C_below (Kd.C_drewN (Kd.C_alloc HBS.out _) _) hb)) | (with_reducible have e2_ := Aside0.mk (Kd.C_below (Kd.C_alloc (Kd.C_drewN HBS.out _) _) hb)) | (with_reducible have e2_ := Aside0.mk (Kd.C_below (Kd.C_drewN (Kd.C_drewN HBS.out _) _) hb))); have b0_ := Aside0.mk (blk_below (by (with_reducible repeat (first | refine blk_drewN ?_ _ | refine blk_drew ?_ | refine blk_alloc ?_ _)); exact BK2.out) hb); have m1_ := Aside0.mk (below_step (by repeat (first | (with_reducible first | exact HB.out | apply below_alloc | apply pw_below_drewN | apply below_drew1) | exact HB.out)) hb); clear HB; have HB := m1_; clear m1_; clear HUS; have HUS := e0_; clear e0_; clear HSP; have HSP := e1_; clear e1_; clear HBS; have HBS := e2_; clear e2_; clear BK2; have BK2 := b0_; clear b0_; clear hb; have k6 : w2.cell? ⟨G2, 6, none⟩ = some (.slice A6 us.length c6) := (blk_cell BK2.out 6).trans rfl; have k7 : w2.cell? ⟨G2, 7, none⟩ = some (.slice A7 sp.length c7) := (blk_cell BK2.out 7).trans rfl; obtain ⟨q0, q1, q2, q3, q4, q5, q6, q7, q8, q9, q10⟩ := box_cells BK2.out) | ((with_reducible refine gate_callee (f := 6) rfl ?_); refine goesL_ (some 36) rfl rfl Try.func6 (by kernel_rfl) rfl #[.agg #[.int .i64 a0, .int .i64 a1, .slice s2.1 s2.2.1 s2.2.2, .slice s3.1 s3.2.1 s3.2.2, .slice s4.1 s4.2.1 s4.2.2, .slice s5.1 s5.2.1 s5.2.2, .slice A6 us.length c6, .slice A7 sp.length c7, .int .i64 a8, .int .i64 a9, .slice s10.1 s10.2.1 s10.2.2]] rfl (by (try simp only [List.map_toArray, List.map_cons, List.map_nil]); first | done | rfl | (simp only [List.length_drop, List.length_take]; rfl)) ?_; (with_reducible refine (named_calls a0 a1 s2 s3 s4 s5 A6 c6 us A7 c7 sp a8 a9 s10 _ HUS.out HSP.out HCS.out HLN.out.2.1 (by have := HLN.out.1; omega) q (by rw [HSS.out]; exact HQ.out)).mono ?_); rintro e w3 ⟨rfl, hb⟩; refine ⟨_, rfl, ?_⟩; have m1_ := Aside0.mk (below_step (by repeat (first | (with_reducible first | exact HB.out | apply below_alloc | apply pw_below_drewN | apply below_drew1) | exact HB.out)) hb); clear HB; have HB := m1_; clear m1_; clear hb; rw [HQN.out]))
    go_ret
    exact ⟨rfl, HB.out⟩
  | true =>
    obtain ⟨o, ho, hqo, hin⟩ := named_yes hq hq2
    have HOF := Aside0.mk ho
    have HQO := Aside0.mk hqo
    have HIN := Aside0.mk hin
    obtain ⟨r, hr⟩ : ∃ r, chainB o ss = r := ⟨_, rfl⟩
    have hcl : chainL (strands us) sp = r := by rw [hss]; unfold chainL; rw [ho]; exact hr
    have HCL := Aside0.mk hcl
    have HRR := Aside0.mk hr
    have hrl : r.length ≤ us.length := by rw [← hr, ← hsl]; exact chain_le o ss
    have HRL := Aside0.mk hrl
    clear hss hsl hq hq2 ho hqo hin hr hcl hrl
    go_enter Try.func3, Try.ntmps3
    go_wp2_with (first | ((with_reducible refine gate_dst (N := 2) rfl ?_); refine box_event ?hg (N := 2) ?hd (cs := #[.int .i64 a0, .int .i64 a1, .slice s2.1 s2.2.1 s2.2.2, .slice s3.1 s3.2.1 s3.2.2, .slice s4.1 s4.2.1 s4.2.2, .slice s5.1 s5.2.1 s5.2.2, .slice A6 us.length c6, .slice A7 sp.length c7, .int .i64 a8, .int .i64 a9, .slice s10.1 s10.2.1 s10.2.2]) (t := 29) ?hr ?_; (case hd => rfl); (case hg => rfl); (case hr => first | (go_simp; done) | (go_simp; rfl)); intro G2 hg w1 hbox hb; (first | (with_reducible have e0_ := Aside0.mk (Kd.C_below HUS.out hb)) | (with_reducible have e0_ := Aside0.mk (Kd.C_below (Kd.C_drewN HUS.out _) hb)) | (with_reducible have e0_ := Aside0.mk (Kd.C_below (Kd.C_alloc HUS.out _) hb)) | (with_reducible have e0_ := Aside0.mk (Kd.C_below (Kd.C_drewN (Kd.C_alloc HUS.out _) _) hb)) | (with_reducible have e0_ := Aside0.mk (Kd.C_below (Kd.C_alloc (Kd.C_drewN HUS.out _) _) hb)) | (with_reducible have e0_ := Aside0.mk (Kd.C_below (Kd.C_drewN (Kd.C_drewN HUS.out _) _) hb))); (first | (with_reducible have e1_ := Aside0.mk (Kd.C_below HSP.out hb)) | (with_reducible have e1_ := Aside0.mk (Kd.C_below (Kd.C_drewN HSP.out _) hb)) | (with_reducible have e1_ := Aside0.mk (Kd.C_below (Kd.C_alloc HSP.out _) hb)) | (with_reducible have e1_ := Aside0.mk (Kd.C_below (Kd.C_drewN (Kd.C_alloc HSP.out _) _) hb)) | (with_reducible have e1_ := Aside0.mk (Kd.C_below (Kd.C_alloc (Kd.C_drewN HSP.out _) _) hb)) | (with_reducible have e1_ := Aside0.mk (Kd.C_below (Kd.C_drewN (Kd.C_drewN HSP.out _) _) hb))); (first | (with_reducible have e2_ := Aside0.mk (Kd.C_below HBS.out hb)) | (with_reducible have e2_ := Aside0.mk (Kd.C_below (Kd.C_drewN HBS.out _) hb)) | (with_reducible have e2_ := Aside0.mk (Kd.C_below (Kd.C_alloc HBS.out _) hb)) | (with_reducible have e2_ := Aside0.mk (Kd.C_below (Kd.C_drewN (Kd.C_alloc HBS.out _) _) hb)) | (with_reducible have e2_ := Aside0.mk (Kd.C_below (Kd.C_alloc (Kd.C_drewN HBS.out _) _) hb)) | (with_reducible have e2_ := Aside0.mk (Kd.C_below (Kd.C_drewN (Kd.C_drewN HBS.out _) _) hb))); have n0_ := Aside0.mk (below_step (by repeat (first | (with_reducible first | exact HB.out | apply below_alloc | apply pw_below_drewN | apply below_drew1) | exact HB.out)) hb); have n1_ := Aside0.mk hbox; have n2_ := Aside0.mk ((by rw [hg]; exact (below_size (by repeat (first | (with_reducible first | exact HB.out | apply below_alloc | apply pw_below_drewN | apply below_drew1) | exact HB.out)))) : w.heap.size ≤ G2); clear HUS; have HUS := e0_; clear e0_; clear HSP; have HSP := e1_; clear e1_; clear HBS; have HBS := e2_; clear e2_; clear HB; have HB := n0_; have BK2 := n1_; have GE2 := n2_; clear n0_ n1_ n2_; clear hb hbox hg) | ((with_reducible refine gate_callee (f := 5) rfl ?_); refine goesL_ (some 17) rfl rfl Try.func5 (by kernel_rfl) rfl #[] rfl (by (try simp only [List.map_toArray, List.map_cons, List.map_nil]); first | done | rfl | (simp only [List.length_drop, List.length_take]; rfl)) ?_; (with_reducible refine (shown_calls _).mono ?_); rintro e w2 ⟨rfl, hb⟩; refine ⟨_, rfl, ?_⟩; (first | (with_reducible have e0_ := Aside0.mk (Kd.C_below HUS.out hb)) | (with_reducible have e0_ := Aside0.mk (Kd.C_below (Kd.C_drewN HUS.out _) hb)) | (with_reducible have e0_ := Aside0.mk (Kd.C_below (Kd.C_alloc HUS.out _) hb)) | (with_reducible have e0_ := Aside0.mk (Kd.C_below (Kd.C_drewN (Kd.C_alloc HUS.out _) _) hb)) | (with_reducible have e0_ := Aside0.mk (Kd.C_below (Kd.C_alloc (Kd.C_drewN HUS.out _) _) hb)) | (with_reducible have e0_ := Aside0.mk (Kd.C_below (Kd.C_drewN (Kd.C_drewN HUS.out _) _) hb))); (first | (with_reducible have e1_ := Aside0.mk (Kd.C_below HSP.out hb)) | (with_reducible have e1_ := Aside0.mk (Kd.C_below (Kd.C_drewN HSP.out _) hb)) | (with_reducible have e1_ := Aside0.mk (Kd.C_below (Kd.C_alloc HSP.out _) hb)) | (with_reducible have e1_ := Aside0.mk (Kd.C_below (Kd.C_drewN (Kd.C_alloc HSP.out _) _) hb)) | (with_reducible have e1_ := Aside0.mk (Kd.C_below (Kd.C_alloc (Kd.C_drewN HSP.out _) _) hb)) | (with_reducible have e1_ := Aside0.mk (Kd.C_below (Kd.C_drewN (Kd.C_drewN HSP.out _) _) hb))); (first | (with_reducible have e2_ := Aside0.mk (Kd.C_below HBS.out hb)) | (with_reducible have e2_ := Aside0.mk (Kd.C_below (Kd.C_drewN HBS.out _) hb)) | (with_reducible have e2_ := Aside0.mk (Kd.C_below (Kd.C_alloc HBS.out _) hb)) | (with_reducible have e2_ := Aside0.mk (Kd.C_below (Kd.C_drewN (Kd.C_alloc HBS.out _) _) hb)) | (with_reducible have e2_ := Aside0.mk (Kd.C_below (Kd.C_alloc (Kd.C_drewN HBS.out _) _) hb)) | (with_reducible have e2_ := Aside0.mk (Kd.C_below (Kd.C_drewN (Kd.C_drewN HBS.out _) _) hb))); have b0_ := Aside0.mk (blk_below (by (with_reducible repeat (first | refine blk_drewN ?_ _ | refine blk_drew ?_ | refine blk_alloc ?_ _)); exact BK2.out) hb); have m1_ := Aside0.mk (below_step (by repeat (first | (with_reducible first | exact HB.out | apply below_alloc | apply pw_below_drewN | apply below_drew1) | exact HB.out)) hb); clear HB; have HB := m1_; clear m1_; clear HUS; have HUS := e0_; clear e0_; clear HSP; have HSP := e1_; clear e1_; clear HBS; have HBS := e2_; clear e2_; clear BK2; have BK2 := b0_; clear b0_; clear hb; have k6 : w2.cell? ⟨G2, 6, none⟩ = some (.slice A6 us.length c6) := (blk_cell BK2.out 6).trans rfl; have k7 : w2.cell? ⟨G2, 7, none⟩ = some (.slice A7 sp.length c7) := (blk_cell BK2.out 7).trans rfl; obtain ⟨q0, q1, q2, q3, q4, q5, q6, q7, q8, q9, q10⟩ := box_cells BK2.out) | ((with_reducible refine gate_callee (f := 6) rfl ?_); refine goesL_ (some 36) rfl rfl Try.func6 (by kernel_rfl) rfl #[.agg #[.int .i64 a0, .int .i64 a1, .slice s2.1 s2.2.1 s2.2.2, .slice s3.1 s3.2.1 s3.2.2, .slice s4.1 s4.2.1 s4.2.2, .slice s5.1 s5.2.1 s5.2.2, .slice A6 us.length c6, .slice A7 sp.length c7, .int .i64 a8, .int .i64 a9, .slice s10.1 s10.2.1 s10.2.2]] rfl (by (try simp only [List.map_toArray, List.map_cons, List.map_nil]); first | done | rfl | (simp only [List.length_drop, List.length_take]; rfl)) ?_; (with_reducible refine (named_calls a0 a1 s2 s3 s4 s5 A6 c6 us A7 c7 sp a8 a9 s10 _ HUS.out HSP.out HCS.out HLN.out.2.1 (by have := HLN.out.1; omega) q (by rw [HSS.out]; exact HQ.out)).mono ?_); rintro e w3 ⟨rfl, hb⟩; refine ⟨_, rfl, ?_⟩; (first | (with_reducible have e0_ := Aside0.mk (Kd.C_below HUS.out hb)) | (with_reducible have e0_ := Aside0.mk (Kd.C_below (Kd.C_drewN HUS.out _) hb)) | (with_reducible have e0_ := Aside0.mk (Kd.C_below (Kd.C_alloc HUS.out _) hb)) | (with_reducible have e0_ := Aside0.mk (Kd.C_below (Kd.C_drewN (Kd.C_alloc HUS.out _) _) hb)) | (with_reducible have e0_ := Aside0.mk (Kd.C_below (Kd.C_alloc (Kd.C_drewN HUS.out _) _) hb)) | (with_reducible have e0_ := Aside0.mk (Kd.C_below (Kd.C_drewN (Kd.C_drewN HUS.out _) _) hb))); (first | (with_reducible have e1_ := Aside0.mk (Kd.C_below HSP.out hb)) | (with_reducible have e1_ := Aside0.mk (Kd.C_below (Kd.C_drewN HSP.out _) hb)) | (with_reducible have e1_ := Aside0.mk (Kd.C_below (Kd.C_alloc HSP.out _) hb)) | (with_reducible have e1_ := Aside0.mk (Kd.C_below (Kd.C_drewN (Kd.C_alloc HSP.out _) _) hb)) | (with_reducible have e1_ := Aside0.mk (Kd.C_below (Kd.C_alloc (Kd.C_drewN HSP.out _) _) hb)) | (with_reducible have e1_ := Aside0.mk (Kd.C_below (Kd.C_drewN (Kd.C_drewN HSP.out _) _) hb))); (first | (with_reducible have e2_ := Aside0.mk (Kd.C_below HBS.out hb)) | (with_reducible have e2_ := Aside0.mk (Kd.C_below (Kd.C_drewN HBS.out _) hb)) | (with_reducible have e2_ := Aside0.mk (Kd.C_below (Kd.C_alloc HBS.out _) hb)) | (with_reducible have e2_ := Aside0.mk (Kd.C_below (Kd.C_drewN (Kd.C_alloc HBS.out _) _) hb)) | (with_reducible have e2_ := Aside0.mk (Kd.C_below (Kd.C_alloc (Kd.C_drewN HBS.out _) _) hb)) | (with_reducible have e2_ := Aside0.mk (Kd.C_below (Kd.C_drewN (Kd.C_drewN HBS.out _) _) hb))); have b0_ := Aside0.mk (blk_below (by (with_reducible repeat (first | refine blk_drewN ?_ _ | refine blk_drew ?_ | refine blk_alloc ?_ _)); exact BK2.out) hb); have m1_ := Aside0.mk (below_step (by repeat (first | (with_reducible first | exact HB.out | apply below_alloc | apply pw_below_drewN | apply below_drew1) | exact HB.out)) hb); clear HB; have HB := m1_; clear m1_; clear HUS; have HUS := e0_; clear e0_; clear HSP; have HSP := e1_; clear e1_; clear HBS; have HBS := e2_; clear e2_; clear BK2; have BK2 := b0_; clear b0_; clear hb; rw [HQO.out]; have k7b : w3.cell? ⟨G2, 7, none⟩ = some (.slice A7 sp.length c7) := (blk_cell BK2.out 7).trans rfl) | ((with_reducible refine gate_callee (f := 7) rfl ?_); refine goesL_ (some 45) rfl rfl Try.func7 (by kernel_rfl) rfl #[.slice A7 sp.length c7] rfl (by (try simp only [List.map_toArray, List.map_cons, List.map_nil]); first | done | rfl | (simp only [List.length_drop, List.length_take]; rfl)) ?_; (with_reducible refine (refof_some HSP.out HLN.out.2.1 HOF.out).mono ?_); rintro e w4 ⟨va, rfl, hra, hb⟩; refine ⟨_, rfl, ?_⟩; (first | (with_reducible have e0_ := Aside0.mk (Kd.C_below HUS.out hb)) | (with_reducible have e0_ := Aside0.mk (Kd.C_below (Kd.C_drewN HUS.out _) hb)) | (with_reducible have e0_ := Aside0.mk (Kd.C_below (Kd.C_alloc HUS.out _) hb)) | (with_reducible have e0_ := Aside0.mk (Kd.C_below (Kd.C_drewN (Kd.C_alloc HUS.out _) _) hb)) | (with_reducible have e0_ := Aside0.mk (Kd.C_below (Kd.C_alloc (Kd.C_drewN HUS.out _) _) hb)) | (with_reducible have e0_ := Aside0.mk (Kd.C_below (Kd.C_drewN (Kd.C_drewN HUS.out _) _) hb))); (first | (with_reducible have e1_ := Aside0.mk (Kd.C_below HSP.out hb)) | (with_reducible have e1_ := Aside0.mk (Kd.C_below (Kd.C_drewN HSP.out _) hb)) | (with_reducible have e1_ := Aside0.mk (Kd.C_below (Kd.C_alloc HSP.out _) hb)) | (with_reducible have e1_ := Aside0.mk (Kd.C_below (Kd.C_drewN (Kd.C_alloc HSP.out _) _) hb)) | (with_reducible have e1_ := Aside0.mk (Kd.C_below (Kd.C_alloc (Kd.C_drewN HSP.out _) _) hb)) | (with_reducible have e1_ := Aside0.mk (Kd.C_below (Kd.C_drewN (Kd.C_drewN HSP.out _) _) hb))); (first | (with_reducible have e2_ := Aside0.mk (Kd.C_below HBS.out hb)) | (with_reducible have e2_ := Aside0.mk (Kd.C_below (Kd.C_drewN HBS.out _) hb)) | (with_reducible have e2_ := Aside0.mk (Kd.C_below (Kd.C_alloc HBS.out _) hb)) | (with_reducible have e2_ := Aside0.mk (Kd.C_below (Kd.C_drewN (Kd.C_alloc HBS.out _) _) hb)) | (with_reducible have e2_ := Aside0.mk (Kd.C_below (Kd.C_alloc (Kd.C_drewN HBS.out _) _) hb)) | (with_reducible have e2_ := Aside0.mk (Kd.C_below (Kd.C_drewN (Kd.C_drewN HBS.out _) _) hb))); have b0_ := Aside0.mk (blk_below (by (with_reducible repeat (first | refine blk_drewN ?_ _ | refine blk_drew ?_ | refine blk_alloc ?_ _)); exact BK2.out) hb); have m1_ := Aside0.mk (below_step (by repeat (first | (with_reducible first | exact HB.out | apply below_alloc | apply pw_below_drewN | apply below_drew1) | exact HB.out)) hb); clear HB; have HB := m1_; clear m1_; clear HUS; have HUS := e0_; clear e0_; clear HSP; have HSP := e1_; clear e1_; clear HBS; have HBS := e2_; clear e2_; clear BK2; have BK2 := b0_; clear b0_; clear hb; obtain ⟨Ao, co, eva, hla, hca⟩ := Kd.R_reads hra; subst eva; have HOc := Aside0.mk hca; clear hca hla hra; obtain ⟨q0, q1, q2, q3, q4, q5, q6, q7, q8, q9, q10⟩ := box_cells BK2.out) | ((with_reducible refine gate_callee (f := 8) rfl ?_); refine goesL_ (some 49) rfl rfl Try.func8 (by kernel_rfl) rfl #[.agg #[.int .i64 a0, .int .i64 a1, .slice s2.1 s2.2.1 s2.2.2, .slice s3.1 s3.2.1 s3.2.2, .slice s4.1 s4.2.1 s4.2.2, .slice s5.1 s5.2.1 s5.2.2, .slice A6 us.length c6, .slice A7 sp.length c7, .int .i64 a8, .int .i64 a9, .slice s10.1 s10.2.1 s10.2.2]] rfl (by (try simp only [List.map_toArray, List.map_cons, List.map_nil]); first | done | rfl | (simp only [List.length_drop, List.length_take]; rfl)) ?_; (with_reducible refine (chain_calls a0 a1 s2 s3 s4 s5 A6 c6 us A7 c7 sp a8 a9 s10 _ HUS.out HSP.out HLN.out.2.1 (by have := HLN.out.1; omega) r HCL.out).mono ?_); rintro e w5 ⟨va, rfl, hra, hb⟩; refine ⟨_, rfl, ?_⟩; (first | (with_reducible have e0_ := Aside0.mk (Kd.C_below HUS.out hb)) | (with_reducible have e0_ := Aside0.mk (Kd.C_below (Kd.C_drewN HUS.out _) hb)) | (with_reducible have e0_ := Aside0.mk (Kd.C_below (Kd.C_alloc HUS.out _) hb)) | (with_reducible have e0_ := Aside0.mk (Kd.C_below (Kd.C_drewN (Kd.C_alloc HUS.out _) _) hb)) | (with_reducible have e0_ := Aside0.mk (Kd.C_below (Kd.C_alloc (Kd.C_drewN HUS.out _) _) hb)) | (with_reducible have e0_ := Aside0.mk (Kd.C_below (Kd.C_drewN (Kd.C_drewN HUS.out _) _) hb))); (first | (with_reducible have e1_ := Aside0.mk (Kd.C_below HSP.out hb)) | (with_reducible have e1_ := Aside0.mk (Kd.C_below (Kd.C_drewN HSP.out _) hb)) | (with_reducible have e1_ := Aside0.mk (Kd.C_below (Kd.C_alloc HSP.out _) hb)) | (with_reducible have e1_ := Aside0.mk (Kd.C_below (Kd.C_drewN (Kd.C_alloc HSP.out _) _) hb)) | (with_reducible have e1_ := Aside0.mk (Kd.C_below (Kd.C_alloc (Kd.C_drewN HSP.out _) _) hb)) | (with_reducible have e1_ := Aside0.mk (Kd.C_below (Kd.C_drewN (Kd.C_drewN HSP.out _) _) hb))); (first | (with_reducible have e2_ := Aside0.mk (Kd.C_below HBS.out hb)) | (with_reducible have e2_ := Aside0.mk (Kd.C_below (Kd.C_drewN HBS.out _) hb)) | (with_reducible have e2_ := Aside0.mk (Kd.C_below (Kd.C_alloc HBS.out _) hb)) | (with_reducible have e2_ := Aside0.mk (Kd.C_below (Kd.C_drewN (Kd.C_alloc HBS.out _) _) hb)) | (with_reducible have e2_ := Aside0.mk (Kd.C_below (Kd.C_alloc (Kd.C_drewN HBS.out _) _) hb)) | (with_reducible have e2_ := Aside0.mk (Kd.C_below (Kd.C_drewN (Kd.C_drewN HBS.out _) _) hb))); (first | (with_reducible have e3_ := Aside0.mk (Kd.C_below HOc.out hb)) | (with_reducible have e3_ := Aside0.mk (Kd.C_below (Kd.C_drewN HOc.out _) hb)) | (with_reducible have e3_ := Aside0.mk (Kd.C_below (Kd.C_alloc HOc.out _) hb)) | (with_reducible have e3_ := Aside0.mk (Kd.C_below (Kd.C_drewN (Kd.C_alloc HOc.out _) _) hb)) | (with_reducible have e3_ := Aside0.mk (Kd.C_below (Kd.C_alloc (Kd.C_drewN HOc.out _) _) hb)) | (with_reducible have e3_ := Aside0.mk (Kd.C_below (Kd.C_drewN (Kd.C_drewN HOc.out _) _) hb))); have b0_ := Aside0.mk (blk_below (by (with_reducible repeat (first | refine blk_drewN ?_ _ | refine blk_drew ?_ | refine blk_alloc ?_ _)); exact BK2.out) hb); have m1_ := Aside0.mk (below_step (by repeat (first | (with_reducible first | exact HB.out | apply below_alloc | apply pw_below_drewN | apply below_drew1) | exact HB.out)) hb); clear HB; have HB := m1_; clear m1_; clear HUS; have HUS := e0_; clear e0_; clear HSP; have HSP := e1_; clear e1_; clear HBS; have HBS := e2_; clear e2_; clear HOc; have HOc := e3_; clear e3_; clear BK2; have BK2 := b0_; clear b0_; clear hb; obtain ⟨Al, cl, eva, hla, hca⟩ := Kd.R_reads hra; subst eva; have HLc := Aside0.mk hca; clear hca hla hra))
    go_loopg [11] (r.length + 1) (fun kq v11 w' => ∃ (i : Nat), v11 = .int .i64 (i : Int) ∧ (i : Int) ≤ (r.length : Int) ∧ Aside0 (kq + i = r.length + 1) ∧ Aside0 (Below w5.heap.size w5 w'))
    case atStart => exact ⟨0, rfl, by omega, ⟨rfl⟩, ⟨Below.refl _ _⟩⟩
    case round =>
      obtain ⟨i, rfl, hi, HK, HB5⟩ := hrel
      by_cases h : (i : Int) < (r.length : Int)
      · have hil : i < r.length := by omega
        have cf1 := chain_at HRR.out hil
        obtain ⟨ad, ea, yl⟩ := Kd.at_int (Kd.C_below HLc.out HB5.out) (i : Int) (by omega) h
        cases ea
        rw [Int.toNat_natCast] at yl
        obtain ⟨x, hx⟩ : ∃ q, at0 r (i : Int) = q := ⟨_, rfl⟩
        have hrx : rd r (i : Int) = x := hx
        rw [hrx] at yl
        rw [hx] at cf1
        have hx0 : decide (x < 0) = false := decide_eq_false (by omega)
        have hx1 : decide ((us.length : Int) ≤ x) = false := decide_eq_false (by have := HSL.out; omega)
        obtain ⟨q0, q1, q2, q3, q4, q5, q6, q7, q8, q9, q10⟩ := box_cells (blk_below BK2.out HB5.out)
        have hi60 : (i : Int) ≤ 60 := by have := HRL.out; omega
        rcases Nat.eq_zero_or_pos i with h0 | hpos
        · have hg0 : decide ((0 : Int) < (i : Int)) = false := decide_eq_false (by omega)
          have hg1 : decide (0 < i) = false := decide_eq_false (by omega)
          clear h0 cf1 hx hrx
          go_wp2
          go_quiet (fail)
          go_wp2
          go_roundg (gk - 1)
          case measure => have := HK.out; omega
          case rel => exact ⟨i + 1, by go_num, by omega, ⟨by have := HK.out; omega⟩, ⟨pw_below_drewN HB5.out _⟩⟩
        · obtain ⟨m, hm⟩ : ∃ m, i = m + 1 := ⟨i - 1, by omega⟩
          obtain ⟨cg1, hlt, hah⟩ := chain_next HRR.out (m := m) (by rw [← hm]; exact hil)
          rw [← hm, hx] at hlt hah
          have hmr : (m : Int) < (r.length : Int) := by omega
          obtain ⟨ad', ea', ym⟩ := Kd.at_int (Kd.C_below HLc.out HB5.out) (m : Int) (by omega) hmr
          cases ea'
          rw [Int.toNat_natCast] at ym
          obtain ⟨y, hy⟩ : ∃ q, at0 r (m : Int) = q := ⟨_, rfl⟩
          have hry : rd r (m : Int) = y := hy
          rw [hry] at ym
          rw [hy] at hlt hah cg1
          have hg0 : decide ((0 : Int) < (i : Int)) = true := decide_eq_true (by omega)
          have hg1 : decide (0 < i) = true := decide_eq_true (by omega)
          have hyx : decide (x ≤ y) = false := decide_eq_false (by omega)
          have HAH : Aside0 (∀ W, Below w5.heap.size w5 W → Calls Try.prog 9 #[.agg #[.int .i64 a0, .int .i64 a1, .slice s2.1 s2.2.1 s2.2.2, .slice s3.1 s3.2.1 s3.2.2, .slice s4.1 s4.2.1 s4.2.2, .slice s5.1 s5.2.1 s5.2.2, .slice A6 us.length c6, .slice A7 sp.length c7, .int .i64 a8, .int .i64 a9, .slice s10.1 s10.2.1 s10.2.2], .slice Ao o.length co, .int .i64 y, .int .i64 x] W fun e w' => e = .returned (.bool true) ∧ Below W.heap.size W w') := ⟨fun W hW => refAheadU_calls a0 a1 s2 s3 s4 s5 A6 c6 us A7 c7 sp a8 a9 s10 Ao co o y x W (Kd.C_below HUS.out hW) (Kd.C_below HOc.out hW) (by have := HSL.out; omega) (by have := HSL.out; omega) (by rw [HSS.out]; exact hah)⟩
          have HBd := Aside0.mk (below_drew HB5.out)
          clear cf1 hx hrx hy hry hlt hah cg1 hpos
          have hw1 : wrap64 (m : Int) = (m : Int) := by unfold wrap64; omega
          have hw2 : (i : Int) - 1 = (m : Int) := by omega
          have hw3 : IntKind.i64.wrap (m : Int) = (m : Int) := by rw [IntKind.wrap_i64]; omega
          clear hm
          go_wp2
          go_still_tail 41, (by kernel_rfl)
          change wpList _ _ _ _ _ wr.drew
          generalize wr.drew = w6 at HBd ⊢
          go_wp2_with (first | (go_at_call 9; refine (HAH.out _ HBd.out).mono ?_; rintro e w7 ⟨rfl, hb⟩; have m1_ := Aside0.mk (below_step (by repeat (first | (with_reducible first | exact HBd.out | apply below_alloc | apply pw_below_drewN | apply below_drew1) | exact HBd.out)) hb); clear HBd; have HBd := m1_; clear m1_; clear hb))
          go_wp2
          go_roundg (gk - 1)
          case measure => have := HK.out; omega
          case rel => exact ⟨i + 1, by go_num, by omega, ⟨by have := HK.out; omega⟩, ⟨HBd.out⟩⟩
      · have hil : i = r.length := by omega
        clear h hi
        subst hil
        have HB6 := HB5
        clear HB5
        go_wp2
        generalize hwr : wr = w6 at HB6 ⊢
        clear hwr
        go_loopg [12] (us.length + 1) (fun kq v12 w' => ∃ (i : Nat), v12 = .int .i64 (i : Int) ∧ (i : Int) ≤ (us.length : Int) ∧ Aside0 (kq + i = us.length + 1) ∧ Aside0 (Below w5.heap.size w5 w'))
        case atStart => exact ⟨0, rfl, by omega, ⟨rfl⟩, HB6⟩
        case round =>
          obtain ⟨i, rfl, hi, HK, HB5⟩ := hrel
          obtain ⟨q0, q1, q2, q3, q4, q5, q6, q7, q8, q9, q10⟩ := box_cells (blk_below BK2.out HB5.out)
          by_cases h : (i : Int) < (us.length : Int)
          · have hrp : 0 < r.length := by
              rw [← HRR.out]
              exact chain_some o (by rw [HSL.out]; omega)
            have hrd : decide (0 < (r.length : Int)) = true := decide_eq_true (by omega)
            have hrd2 : decide (0 < r.length) = true := decide_eq_true hrp
            have hxr := chain_at HRR.out hrp
            have hhd := chain_head HRR.out hrp (i : Int) (by omega)
            obtain ⟨ad, ea, yl⟩ := Kd.at_int (Kd.C_below HLc.out HB5.out) 0 (by omega) (by omega)
            cases ea
            have hrx : rd r 0 = at0 r 0 := rfl
            rw [hrx] at yl
            have ha0 : ad.add 0 = ad := by cases ad; rfl
            have yl0 : wr.cell? ad = some (.int .i64 (at0 r 0)) := by rw [← ha0]; exact yl
            have h00 : at0 r ((0 : Nat) : Int) = at0 r 0 := rfl
            rw [h00] at hxr
            obtain ⟨x, hx⟩ : ∃ q, at0 r 0 = q := ⟨_, rfl⟩
            rw [hx] at hxr hhd yl0
            have HHD := Aside0.mk hhd
            have HXR := Aside0.mk hxr
            have hrp0 : (0 : Int) < (r.length : Int) := by omega
            clear yl hrx h00 hx hhd hxr ha0
            by_cases hix : (i : Int) < x
            · have hd1 : decide ((i : Int) < x) = true := decide_eq_true hix
              have HAH : Aside0 (∀ W, Below w5.heap.size w5 W → Calls Try.prog 9 #[.agg #[.int .i64 a0, .int .i64 a1, .slice s2.1 s2.2.1 s2.2.2, .slice s3.1 s3.2.1 s3.2.2, .slice s4.1 s4.2.1 s4.2.2, .slice s5.1 s5.2.1 s5.2.2, .slice A6 us.length c6, .slice A7 sp.length c7, .int .i64 a8, .int .i64 a9, .slice s10.1 s10.2.1 s10.2.2], .slice Ao o.length co, .int .i64 (i : Int), .int .i64 x] W fun e w' => e = .returned (.bool false) ∧ Below W.heap.size W w') := ⟨fun W hW => refAheadU_calls a0 a1 s2 s3 s4 s5 A6 c6 us A7 c7 sp a8 a9 s10 Ao co o (i : Int) x W (Kd.C_below HUS.out hW) (Kd.C_below HOc.out hW) (by omega) (by have := HSL.out; have := HXR.out; omega) (by rw [HSS.out]; exact HHD.out hix)⟩
              have HBd := Aside0.mk (below_drew HB5.out)
              clear hix
              go_wp2
              go_still_tail 12, (by kernel_rfl)
              change wpList _ _ _ _ _ wr.drew
              generalize wr.drew = w7 at HBd ⊢
              go_wp2_with (first | (go_at_call 9; refine (HAH.out _ HBd.out).mono ?_; rintro e w8 ⟨rfl, hb⟩; have m1_ := Aside0.mk (below_step (by repeat (first | (with_reducible first | exact HBd.out | apply below_alloc | apply pw_below_drewN | apply below_drew1) | exact HBd.out)) hb); clear HBd; have HBd := m1_; clear m1_; clear hb))
              go_roundg (gk - 1)
              case measure => have := HK.out; omega
              case rel => exact ⟨i + 1, by go_num, by omega, ⟨by have := HK.out; omega⟩, ⟨HBd.out⟩⟩
            · have hd1 : decide ((i : Int) < x) = false := decide_eq_false hix
              clear hix
              go_wp2
              go_quiet (fail)
              go_wp2
              go_roundg (gk - 1)
              case measure => have := HK.out; omega
              case rel => exact ⟨i + 1, by go_num, by omega, ⟨by have := HK.out; omega⟩, ⟨pw_below_drewN HB5.out _⟩⟩
          · have hie : i = us.length := by omega
            clear h hi
            have HB6 := HB5
            clear HB5
            have HO0 : Aside0 (othOK o ss []) := ⟨.inl rfl⟩
            have hum := hu60
            go_wp2
            generalize hwr : wr = w7 at HB6 ⊢
            clear hwr hie
            go_loopg [14, 13] (bs.length + 1) (fun kq v14 v13 w' => ∃ (i : Nat) (L : List Int) (k : Nat) (A13 : Option Addr) (c13 : Nat), v14 = .int .i64 (i : Int) ∧ v13 = .slice A13 k c13 ∧ (i : Int) ≤ (bs.length : Int) ∧ Aside0 (kq + i = bs.length + 1) ∧ Aside0 (L.length = k) ∧ Aside0 (othOK o ss L) ∧ Aside0 (k ≤ i ∧ i ≤ 60) ∧ Aside0 (Kd.R (Kd.int .i64) 3 w' w5.heap.size (fun _ => True) (.slice A13 k c13) L) ∧ Aside0 (Below w5.heap.size w5 w'))
            case atStart => exact ⟨0, [], 0, none, 0, rfl, rfl, by omega, ⟨rfl⟩, ⟨rfl⟩, HO0, ⟨by omega⟩, ⟨Kd.R_nil _ _ _ _ _⟩, HB6⟩
            case round =>
              obtain ⟨i, L, k, A13, c13, rfl, rfl, hi, HK, HKL, HOK, HIK, HO, HB5⟩ := hrel
              obtain ⟨q0, q1, q2, q3, q4, q5, q6, q7, q8, q9, q10⟩ := box_cells (blk_below BK2.out HB5.out)
              by_cases hun : 0 < us.length
              · have hu1 : decide (0 < (us.length : Int)) = true := decide_eq_true (by omega)
                have hu2 : decide (0 < us.length) = true := decide_eq_true hun
                by_cases h : (i : Int) < (bs.length : Int)
                · have hil : i < bs.length := by omega
                  obtain ⟨ad, ea, yb⟩ := Kd.at_int (Kd.C_below HBS.out HB5.out) (i : Int) (by omega) h
                  cases ea
                  rw [Int.toNat_natCast] at yb
                  have hvb := HBB.out _ (mem_rd hil)
                  obtain ⟨v, hv⟩ : ∃ q, rd bs (i : Int) = q := ⟨_, rfl⟩
                  rw [hv] at yb hvb
                  obtain ⟨x, hx⟩ : ∃ q, v % (us.length : Int) = q := ⟨_, rfl⟩
                  have hxb : 0 ≤ x ∧ x < (us.length : Int) := by rw [← hx]; exact ⟨Int.emod_nonneg _ (by omega), Int.emod_lt_of_pos _ (by omega)⟩
                  have hxt : Int.tmod v (us.length : Int) = x := by rw [Int.tmod_eq_emod_of_nonneg hvb.1]; exact hx
                  have HXS : Aside0 (0 ≤ x ∧ x < (ss.length : Int)) := ⟨by have := HSL.out; omega⟩
                  have hnz : ((us.length : Int) == 0) = false := beq_eq_false_iff_ne.mpr (by omega)
                  have hnz2 : ¬ (us.length : Int) = 0 := by omega
                  clear hv
                  have hwv : wrap64 v = v := by unfold wrap64; omega
                  have hwv2 : IntKind.i64.wrap v = v := by rw [IntKind.wrap_i64]; omega
                  clear hil
                  go_wp2
                  go_quiet (fail)
                  generalize hw6 : wr.drewN nq = w6
                  have HO6 : Aside0 (Kd.R (Kd.int .i64) 3 w6 w5.heap.size (fun _ => True) (.slice A13 k c13) L) := ⟨by subst hw6; exact Kd.R_drewN HO.out nq⟩
                  have HB6 : Aside0 (Below w5.heap.size w5 w6) := ⟨by subst hw6; exact pw_below_drewN HB5.out nq⟩
                  clear hw6 HO HB5 yb hnz hnz2 hxt hx hwv hwv2 hvb q0 q1 q2 q3 q4 q5 q6 q7 q8 q9 q10
                  have HB5 := HB6
                  have HO := HO6
                  clear HB6 HO6
                  obtain ⟨q0, q1, q2, q3, q4, q5, q6, q7, q8, q9, q10⟩ := box_cells (blk_below BK2.out HB5.out)
                  have hik := HIK.out
                  rcases Nat.eq_zero_or_pos k with h0 | hpos
                  · have hk0 : ((k : Int) == 0) = true := by rw [h0]; rfl
                    have hk1 : decide ((k : Int) = 0) = true := decide_eq_true (by omega)
                    have hkk : (k == 0) = true := by rw [h0]; rfl
                    have hos := oth_step HOK.out HXS.out
                    rw [oth_first (by rw [HKL.out]; exact h0)] at hos
                    have HNX := Aside0.mk hos
                    clear hos h0
                    go_wp2
                    go_quiet (fail)
                    go_wp2_with (first | ((with_reducible refine gate_builtin (b := .append) (xs := #[.tmp 173, .tmp 175]) rfl ?_); at_builtin; refine Kd.R_append (Kd.int .i64) (w0 := w5) w5.heap.size rfl (.tmp 173) (.tmp 175) 23 3 (.int .i64 0) 8 rfl Try.underlying23 info3 rfl (by decide) (by omega) (.slice A13 k c13) (L) (x) [.int .i64 x] (fun _ => True) (fun _ => False) rfl rfl ?aP (fun _ hk => hk.elim) ?aF ?aO ?aB ?aS ?aL ?_; (case aP => exact rfl); (case aB => exact (by repeat (first | (with_reducible first | exact HB5.out | apply below_alloc | apply pw_below_drewN | apply below_drew1) | exact HB5.out))); (case aF => exact (fun _ _ => trivial)); (case aO => exact (by (with_reducible repeat (first | apply Kd.R_alloc | apply Kd.R_drewN | apply Kd.R_drew)); exact HO.out)); (case aS => exact (below_size (by repeat (first | (with_reducible first | exact HB5.out | apply below_alloc | apply pw_below_drewN | apply below_drew1) | exact HB5.out)))); (case aL => (have := HKL.out; have := HIK.out; omega)); intro v9 w9 ho hb hg hat; have n0_ := Aside0.mk (hb); have n1_ := Aside0.mk (ho); clear HB5; clear HO; have HB5 := n0_; have HO := n1_; clear n0_ n1_; clear ho hb hg hat))
                    go_roundg (gk - 1)
                    case measure => have := HK.out; omega
                    case rel =>
                      obtain ⟨A', c', ev, _⟩ := Kd.R_reads HO.out
                      rw [List.length_append, List.length_singleton, HKL.out] at ev
                      subst ev
                      exact ⟨i + 1, L ++ [x], k + 1, A', c', by go_num, rfl, by omega, ⟨by have := HK.out; omega⟩, ⟨by rw [List.length_append, List.length_singleton, HKL.out]⟩, HNX, ⟨by have := HIK.out; omega⟩, HO, HB5⟩
                  · obtain ⟨j, hj⟩ : ∃ j, k = j + 1 := ⟨k - 1, by omega⟩
                    have hlj : L.length = j + 1 := by rw [HKL.out]; exact hj
                    have hyl := oth_last hlj HOK.out
                    obtain ⟨adL, eaL, yy⟩ := Kd.at_int (Kd.R_reads' HO.out).2.2 (j : Int) (by omega) (by omega)
                    cases eaL
                    rw [Int.toNat_natCast] at yy
                    obtain ⟨y, hy⟩ : ∃ q, at0 L (j : Int) = q := ⟨_, rfl⟩
                    have hry : rd L (j : Int) = y := hy
                    rw [hry] at yy
                    rw [hy] at hyl
                    have HYL : Aside0 (0 ≤ y ∧ y < (us.length : Int)) := ⟨by have := HSL.out; omega⟩
                    have HY := Aside0.mk (And.intro hlj hy)
                    clear hry hy hyl hlj
                    have hk0 : ((k : Int) == 0) = false := beq_eq_false_iff_ne.mpr (by omega)
                    have hk1 : decide ((k : Int) = 0) = false := decide_eq_false (by omega)
                    have hkk : (k == 0) = false := beq_eq_false_iff_ne.mpr (by omega)
                    have hjk : (j : Int) < (k : Int) := by omega
                    have hjk2 : j < k := by omega
                    have hw2 : (k : Int) - 1 = (j : Int) := by omega
                    have hj60 : (j : Int) ≤ 60 := by omega
                    have hw1 : wrap64 (j : Int) = (j : Int) := by unfold wrap64; omega
                    have hw3 : IntKind.i64.wrap (j : Int) = (j : Int) := by rw [IntKind.wrap_i64]; omega
                    clear hj hpos hjk2
                    by_cases hyx : y < x
                    · have hd1 : decide (y < x) = true := decide_eq_true hyx
                      obtain ⟨b, hb⟩ : ∃ b, aheadU o ss y x = b := ⟨_, rfl⟩
                      have HAH : Aside0 (∀ W, Below w5.heap.size w5 W → Calls Try.prog 9 #[.agg #[.int .i64 a0, .int .i64 a1, .slice s2.1 s2.2.1 s2.2.2, .slice s3.1 s3.2.1 s3.2.2, .slice s4.1 s4.2.1 s4.2.2, .slice s5.1 s5.2.1 s5.2.2, .slice A6 us.length c6, .slice A7 sp.length c7, .int .i64 a8, .int .i64 a9, .slice s10.1 s10.2.1 s10.2.2], .slice Ao o.length co, .int .i64 y, .int .i64 x] W fun e w' => e = .returned (.bool b) ∧ Below W.heap.size W w') := ⟨fun W hW => refAheadU_calls a0 a1 s2 s3 s4 s5 A6 c6 us A7 c7 sp a8 a9 s10 Ao co o y x W (Kd.C_below HUS.out hW) (Kd.C_below HOc.out hW) HYL.out (by have := HSL.out; have := HXS.out; omega) (by rw [HSS.out]; exact hb)⟩
                      have HBd := Aside0.mk (below_drew HB5.out)
                      have HOd : Aside0 (Kd.R (Kd.int .i64) 3 w6.drew w5.heap.size (fun _ => True) (.slice (some adL) k c13) L) := ⟨Kd.R_drew HO.out⟩
                      cases b with
                      | true =>
                        have hos := oth_step HOK.out HXS.out
                        rw [oth_more HY.out.1 HY.out.2 hyx hb] at hos
                        have HNX := Aside0.mk hos
                        clear hos hyx hb
                        go_wp2
                        go_still_tail 19, (by kernel_rfl)
                        change wpList _ _ _ _ _ w6.drew
                        generalize w6.drew = w7 at HBd HOd ⊢
                        go_wp2_with (first | (go_at_call 9; refine (HAH.out _ HBd.out).mono ?_; rintro e w8 ⟨rfl, hb⟩; have f0_ := Aside0.mk (Kd.R_below (by (with_reducible repeat (first | apply Kd.R_alloc | apply Kd.R_drewN | apply Kd.R_drew)); exact HOd.out) hb); have m1_ := Aside0.mk (below_step (by repeat (first | (with_reducible first | exact HBd.out | apply below_alloc | apply pw_below_drewN | apply below_drew1) | exact HBd.out)) hb); clear HBd; have HBd := m1_; clear m1_; clear HOd; have HOd := f0_; clear f0_; clear hb) | ((with_reducible refine gate_builtin (b := .append) (xs := #[.tmp 173, .tmp 175]) rfl ?_); at_builtin; refine Kd.R_append (Kd.int .i64) (w0 := w5) w5.heap.size rfl (.tmp 173) (.tmp 175) 23 3 (.int .i64 0) 8 rfl Try.underlying23 info3 rfl (by decide) (by omega) (.slice (some adL) k c13) (L) (x) [.int .i64 x] (fun _ => True) (fun _ => False) rfl rfl ?aP (fun _ hk => hk.elim) ?aF ?aO ?aB ?aS ?aL ?_; (case aP => exact rfl); (case aB => exact (by repeat (first | (with_reducible first | exact HBd.out | apply below_alloc | apply pw_below_drewN | apply below_drew1) | exact HBd.out))); (case aF => exact (fun _ _ => trivial)); (case aO => exact (by (with_reducible repeat (first | apply Kd.R_alloc | apply Kd.R_drewN | apply Kd.R_drew)); exact HOd.out)); (case aS => exact (below_size (by repeat (first | (with_reducible first | exact HBd.out | apply below_alloc | apply pw_below_drewN | apply below_drew1) | exact HBd.out)))); (case aL => (have := HKL.out; have := HIK.out; omega)); intro v9 w9 ho hb hg hat; have n0_ := Aside0.mk (hb); have n1_ := Aside0.mk (ho); clear HBd; clear HOd; have HBd := n0_; have HOd := n1_; clear n0_ n1_; clear ho hb hg hat))
                        go_roundg (gk - 1)
                        case measure => have := HK.out; omega
                        case rel =>
                          obtain ⟨A', c', ev, _⟩ := Kd.R_reads HOd.out
                          rw [List.length_append, List.length_singleton, HKL.out] at ev
                          subst ev
                          exact ⟨i + 1, L ++ [x], k + 1, A', c', by go_num, rfl, by omega, ⟨by have := HK.out; omega⟩, ⟨by rw [List.length_append, List.length_singleton, HKL.out]⟩, HNX, ⟨by have := HIK.out; omega⟩, HOd, ⟨HBd.out⟩⟩
                      | false =>
                        have hos := oth_step HOK.out HXS.out
                        rw [oth_skip HY.out.1 HY.out.2 (fun h => by rw [hb] at h; cases h.2)] at hos
                        have HNX := Aside0.mk hos
                        clear hos hyx hb
                        go_wp2
                        go_still_tail 19, (by kernel_rfl)
                        change wpList _ _ _ _ _ w6.drew
                        generalize w6.drew = w7 at HBd HOd ⊢
                        go_wp2_with (first | (go_at_call 9; refine (HAH.out _ HBd.out).mono ?_; rintro e w8 ⟨rfl, hb⟩; have f0_ := Aside0.mk (Kd.R_below (by (with_reducible repeat (first | apply Kd.R_alloc | apply Kd.R_drewN | apply Kd.R_drew)); exact HOd.out) hb); have m1_ := Aside0.mk (below_step (by repeat (first | (with_reducible first | exact HBd.out | apply below_alloc | apply pw_below_drewN | apply below_drew1) | exact HBd.out)) hb); clear HBd; have HBd := m1_; clear m1_; clear HOd; have HOd := f0_; clear f0_; clear hb))
                        go_roundg (gk - 1)
                        case measure => have := HK.out; omega
                        case rel => exact ⟨i + 1, L, k, some adL, c13, by go_num, rfl, by omega, ⟨by have := HK.out; omega⟩, HKL, HNX, ⟨by have := HIK.out; omega⟩, ⟨HOd.out⟩, ⟨HBd.out⟩⟩
                    · have hd1 : decide (y < x) = false := decide_eq_false hyx
                      have hos := oth_step HOK.out HXS.out
                      rw [oth_skip HY.out.1 HY.out.2 (fun h => hyx h.1)] at hos
                      have HNX := Aside0.mk hos
                      clear hos hyx
                      go_wp2
                      go_quiet (fail)
                      go_wp2
                      go_roundg (gk - 1)
                      case measure => have := HK.out; omega
                      case rel => exact ⟨i + 1, L, k, some adL, c13, by go_num, rfl, by omega, ⟨by have := HK.out; omega⟩, HKL, HNX, ⟨by have := HIK.out; omega⟩, ⟨Kd.R_drewN HO.out _⟩, ⟨pw_below_drewN HB5.out _⟩⟩
                · have hdb : decide ((i : Int) < (bs.length : Int)) = false := decide_eq_false h
                  have hf1 := oth_fin HRR.out HOK.out
                  rw [HKL.out] at hf1
                  have hf2 := work_le HRR.out HIN.out
                  rw [HSL.out] at hf2
                  have hf3 := of_len HOF.out
                  have hf4 := HRL.out
                  have hf5 := HLN.out
                  have hrp : 0 < r.length := by
                    rw [← HRR.out]
                    exact chain_some o (by rw [HSL.out]; omega)
                  have hr1 : decide (0 < (r.length : Int)) = true := decide_eq_true (by omega)
                  have hr2 : decide (0 < r.length) = true := decide_eq_true hrp
                  have hpp : o.length * r.length ≤ 181 * 60 := Nat.mul_le_mul (by omega) (by omega)
                  have hmul : (o.length : Int) * (r.length : Int) = ((o.length * r.length : Nat) : Int) := (Int.natCast_mul _ _).symm
                  obtain ⟨pp, hpq⟩ : ∃ q, o.length * r.length = q := ⟨_, rfl⟩
                  rw [hpq] at hmul hpp hf2
                  have e1 : decide ((k : Int) ≤ (r.length : Int)) = true := decide_eq_true (by omega)
                  have e2 : decide (k ≤ r.length) = true := decide_eq_true hf1
                  have e3 : decide ((r.length : Int) ≤ (us.length : Int)) = true := decide_eq_true (by omega)
                  have e4 : decide (r.length ≤ us.length) = true := decide_eq_true hf4
                  have e5 : decide ((us.length : Int) ≤ (pp : Int)) = true := decide_eq_true (by omega)
                  have e6 : decide (us.length ≤ pp) = true := decide_eq_true hf2
                  clear hf1 hf2 hf3 hf4 hf5 hpq hrp
                  have hwp : wrap64 (pp : Int) = (pp : Int) := by unfold wrap64; omega
                  have hwq : IntKind.i64.wrap (pp : Int) = (pp : Int) := by rw [IntKind.wrap_i64]; omega
                  have BK3 := Aside0.mk (blk_below BK2.out HB5.out)
                  have HB7 := Aside0.mk (HB.out.trans (HB5.out.mono (below_size HB.out)))
                  go_wp2_with (first | (go_at_call 10; refine (work_calls a0 a1 s2 s3 s4 s5 A6 c6 us A7 c7 sp a8 a9 s10 _).mono ?_; rintro e w20 ⟨rfl, hb⟩; have b0_ := Aside0.mk (blk_below (by (with_reducible repeat (first | refine blk_drewN ?_ _ | refine blk_drew ?_ | refine blk_alloc ?_ _)); exact BK3.out) hb); have m1_ := Aside0.mk (below_step (by repeat (first | (with_reducible first | exact HB7.out | apply below_alloc | apply pw_below_drewN | apply below_drew1) | exact HB7.out)) hb); clear HB7; have HB7 := m1_; clear m1_; clear BK3; have BK3 := b0_; clear b0_; clear hb; obtain ⟨q0, q1, q2, q3, q4, q5, q6, q7, q8, q9, q10⟩ := box_cells BK3.out))
                  go_ret
                  exact ⟨rfl, HB7.out⟩
              · have hu1 : decide (0 < (us.length : Int)) = false := decide_eq_false (by omega)
                have hu2 : decide (0 < us.length) = false := decide_eq_false hun
                by_cases h : (i : Int) < (bs.length : Int)
                · have hdb : decide ((i : Int) < (bs.length : Int)) = true := decide_eq_true h
                  have hf1 := oth_fin HRR.out HOK.out
                  rw [HKL.out] at hf1
                  have hf2 := work_le HRR.out HIN.out
                  rw [HSL.out] at hf2
                  have hf3 := of_len HOF.out
                  have hf4 := HRL.out
                  have hf5 := HLN.out
                  have hrp : r.length = 0 := by have := HRL.out; omega
                  have hr1 : decide (0 < (r.length : Int)) = false := decide_eq_false (by omega)
                  have hr2 : decide (0 < r.length) = false := decide_eq_false (by omega)
                  have hpp : o.length * r.length ≤ 181 * 60 := Nat.mul_le_mul (by omega) (by omega)
                  have hmul : (o.length : Int) * (r.length : Int) = ((o.length * r.length : Nat) : Int) := (Int.natCast_mul _ _).symm
                  obtain ⟨pp, hpq⟩ : ∃ q, o.length * r.length = q := ⟨_, rfl⟩
                  rw [hpq] at hmul hpp hf2
                  have e1 : decide ((k : Int) ≤ (r.length : Int)) = true := decide_eq_true (by omega)
                  have e2 : decide (k ≤ r.length) = true := decide_eq_true hf1
                  have e3 : decide ((r.length : Int) ≤ (us.length : Int)) = true := decide_eq_true (by omega)
                  have e4 : decide (r.length ≤ us.length) = true := decide_eq_true hf4
                  have e5 : decide ((us.length : Int) ≤ (pp : Int)) = true := decide_eq_true (by omega)
                  have e6 : decide (us.length ≤ pp) = true := decide_eq_true hf2
                  clear hf1 hf2 hf3 hf4 hf5 hpq hrp
                  have hwp : wrap64 (pp : Int) = (pp : Int) := by unfold wrap64; omega
                  have hwq : IntKind.i64.wrap (pp : Int) = (pp : Int) := by rw [IntKind.wrap_i64]; omega
                  have BK3 := Aside0.mk (blk_below BK2.out HB5.out)
                  have HB7 := Aside0.mk (HB.out.trans (HB5.out.mono (below_size HB.out)))
                  go_wp2_with (first | (go_at_call 10; refine (work_calls a0 a1 s2 s3 s4 s5 A6 c6 us A7 c7 sp a8 a9 s10 _).mono ?_; rintro e w20 ⟨rfl, hb⟩; have b0_ := Aside0.mk (blk_below (by (with_reducible repeat (first | refine blk_drewN ?_ _ | refine blk_drew ?_ | refine blk_alloc ?_ _)); exact BK3.out) hb); have m1_ := Aside0.mk (below_step (by repeat (first | (with_reducible first | exact HB7.out | apply below_alloc | apply pw_below_drewN | apply below_drew1) | exact HB7.out)) hb); clear HB7; have HB7 := m1_; clear m1_; clear BK3; have BK3 := b0_; clear b0_; clear hb; obtain ⟨q0, q1, q2, q3, q4, q5, q6, q7, q8, q9, q10⟩ := box_cells BK3.out))
                  go_ret
                  exact ⟨rfl, HB7.out⟩
                · have hdb : decide ((i : Int) < (bs.length : Int)) = false := decide_eq_false h
                  have hf1 := oth_fin HRR.out HOK.out
                  rw [HKL.out] at hf1
                  have hf2 := work_le HRR.out HIN.out
                  rw [HSL.out] at hf2
                  have hf3 := of_len HOF.out
                  have hf4 := HRL.out
                  have hf5 := HLN.out
                  have hrp : r.length = 0 := by have := HRL.out; omega
                  have hr1 : decide (0 < (r.length : Int)) = false := decide_eq_false (by omega)
                  have hr2 : decide (0 < r.length) = false := decide_eq_false (by omega)
                  have hpp : o.length * r.length ≤ 181 * 60 := Nat.mul_le_mul (by omega) (by omega)
                  have hmul : (o.length : Int) * (r.length : Int) = ((o.length * r.length : Nat) : Int) := (Int.natCast_mul _ _).symm
                  obtain ⟨pp, hpq⟩ : ∃ q, o.length * r.length = q := ⟨_, rfl⟩
                  rw [hpq] at hmul hpp hf2
                  have e1 : decide ((k : Int) ≤ (r.length : Int)) = true := decide_eq_true (by omega)
                  have e2 : decide (k ≤ r.length) = true := decide_eq_true hf1
                  have e3 : decide ((r.length : Int) ≤ (us.length : Int)) = true := decide_eq_true (by omega)
                  have e4 : decide (r.length ≤ us.length) = true := decide_eq_true hf4
                  have e5 : decide ((us.length : Int) ≤ (pp : Int)) = true := decide_eq_true (by omega)
                  have e6 : decide (us.length ≤ pp) = true := decide_eq_true hf2
                  clear hf1 hf2 hf3 hf4 hf5 hpq hrp
                  have hwp : wrap64 (pp : Int) = (pp : Int) := by unfold wrap64; omega
                  have hwq : IntKind.i64.wrap (pp : Int) = (pp : Int) := by rw [IntKind.wrap_i64]; omega
                  have BK3 := Aside0.mk (blk_below BK2.out HB5.out)
                  have HB7 := Aside0.mk (HB.out.trans (HB5.out.mono (below_size HB.out)))
                  go_wp2_with (first | (go_at_call 10; refine (work_calls a0 a1 s2 s3 s4 s5 A6 c6 us A7 c7 sp a8 a9 s10 _).mono ?_; rintro e w20 ⟨rfl, hb⟩; have b0_ := Aside0.mk (blk_below (by (with_reducible repeat (first | refine blk_drewN ?_ _ | refine blk_drew ?_ | refine blk_alloc ?_ _)); exact BK3.out) hb); have m1_ := Aside0.mk (below_step (by repeat (first | (with_reducible first | exact HB7.out | apply below_alloc | apply pw_below_drewN | apply below_drew1) | exact HB7.out)) hb); clear HB7; have HB7 := m1_; clear m1_; clear BK3; have BK3 := b0_; clear b0_; clear hb; obtain ⟨q0, q1, q2, q3, q4, q5, q6, q7, q8, q9, q10⟩ := box_cells BK3.out))
                  go_ret
                  exact ⟨rfl, HB7.out⟩
end Go.Proofs.Ythjecgmgpnileaa.Bd
