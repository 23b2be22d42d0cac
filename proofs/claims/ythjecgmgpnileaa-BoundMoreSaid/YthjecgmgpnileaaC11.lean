/- An SEnd: walked. -/
import Derived.Test.YthjecgmgpnileaaC10
namespace Go.Proofs.Ythjecgmgpnileaa.Bd
open Go.RowKit Go.Lib Go.Proofs.YthjecgmgpnileaaW.PrintWords Go.Proofs.YthjecgmgpnileaaW.PrintLast Go.Proofs.YthjecgmgpnileaaW.PrintMore
attribute [local go_sem] max2_int min2_int max_two min_two max_three min_three max_four min_four   -- for this text's walks alone
set_option linter.unusedVariables false
set_option linter.unusedSimpArgs false

theorem ts_take {W : World} {base T g cap : Nat} {us : List (Int × Int)} {v cur : Int × Int} {n : Nat} (h : TsAt W base T g cap (us ++ [v]) cur n) :
    TsAt (W.setCell ⟨T, 0, none⟩ (.slice (some ⟨g, 0, none⟩) (us.length + 1) cap)) base T g cap us v n := by
  obtain ⟨hT, hR, hb⟩ := h
  have hlen : (us ++ [v]).length = us.length + 1 := by simp
  have h2 := Kd.R_take (m := us.length + 1) hR (by simp)
  have e : (us ++ [v] ++ [cur]).take (us.length + 1) = us ++ [v] := by rw [← hlen, List.take_left]
  rw [e] at h2
  exact ⟨blk_put hT 0 _ rfl, Kd.R_set h2 hT (by decide) 0 _, hb⟩
set_option maxHeartbeats 4000000 in
set_option maxRecDepth 100000 in
theorem end_calls (base T g cap : Nat) (us : List (Int × Int)) (v cur : Int × Int) (n : Nat) (x : S53) (w : World) (h : TsAt w base T g cap (us ++ [v]) cur n) (hm : us.length < 1000) (hk : x.f0 = 2) (r : Bool) (hr : decide (cur.2 = 0 ∧ (x.f1 = cur.1 ∧ x.f2 = 0 ∧ x.f3 = 0 ∧ x.f4 = v.2)) = r) :
    Calls Try.prog 26 #[.pointer (some ⟨T, 0, none⟩), enc53 x] w fun e w' => e = .returned (.bool r) ∧ Below base w w' ∧ (r = true → TsAt w' base T g cap us v n ∧ TsK w w') := by
  obtain ⟨x0, x1, x2, x3, x4⟩ := x
  obtain ⟨c0, c1⟩ := cur
  obtain ⟨v0, v1⟩ := v
  simp only at hk hr
  subst hk
  have hm1 : (us.length : Int) < 1000 := by omega
  have H := Aside0.mk h
  have HR := Aside0.mk hr
  have HM : Aside0 ((us ++ [(v0, v1)]).length ≤ 1000) := ⟨by simp; omega⟩
  have HL : Aside0 ((us ++ [(v0, v1)]).length = us.length + 1) := ⟨by simp⟩
  have HB := Aside0.mk (Below.refl w.heap.size w)
  unfold enc53
  clear h hr
  have harm : ∀ w3 : World, TsAt w3 base T g cap (us ++ [(v0, v1)]) (c0, c1) n → (w3.alloc (.cells #[.int .i64 c0, .int .i64 c1] 68)).cell? ⟨T, 0, none⟩ = some (.slice (some ⟨g, 0, none⟩) (us.length + 1 + 1) cap) ∧ (w3.alloc (.cells #[.int .i64 c0, .int .i64 c1] 68)).cell? ⟨w3.heap.size, 0, none⟩ = some (.int .i64 c0) ∧ (w3.alloc (.cells #[.int .i64 c0, .int .i64 c1] 68)).cell? ⟨w3.heap.size, 1, none⟩ = some (.int .i64 c1) ∧ w3.cell? ⟨g, (us.length + 1) * 2, none⟩ = some (.int .i64 c0) ∧ w3.cell? ⟨g, (us.length + 1) * 2 + 1, none⟩ = some (.int .i64 c1) := fun w3 h3 => by
    obtain ⟨t0, _, _, _, e1, e2, _⟩ := ts_cells h3
    rw [HL.out] at t0 e1 e2
    have hn := (MapKept.heap_alloc w3 (.cells #[.int .i64 c0, .int .i64 c1] 68)).1
    exact ⟨cell_step (below_alloc (Below.refl _ _) _) t0, (blk_cell hn 0).trans rfl, (blk_cell hn 1).trans rfl, e1, e2⟩
  have HA := Aside0.mk harm
  clear harm
  by_cases h0 : c1 = 0
  · subst h0
    go_enter Try.func26, Try.ntmps26
    go_wp2_with (first | ((with_reducible refine gate_dst (N := 3) rfl ?_); refine box_event ?hg (N := 3) ?hd (cs := #[.int .i64 2, .int .i64 x1, .int .i64 x2, .int .i64 x3, .int .i64 x4]) (t := 53) ?hr ?_; (case hd => rfl); (case hg => rfl); (case hr => first | (go_simp; done) | (go_simp; rfl)); intro G2 hg w2 hbox hb; have n0_ := Aside0.mk (below_step (by repeat (first | (with_reducible first | exact HB.out | apply below_alloc | apply pw_below_drewN | apply below_drew1) | exact HB.out)) hb); have n1_ := Aside0.mk hbox; have n2_ := Aside0.mk ((by rw [hg]; exact (below_size (by repeat (first | (with_reducible first | exact HB.out | apply below_alloc | apply pw_below_drewN | apply below_drew1) | exact HB.out)))) : w.heap.size ≤ G2); clear HB; have HB := n0_; have BK2 := n1_; have GE2 := n2_; clear n0_ n1_ n2_; clear hb hbox hg) | (go_at_call 32; refine (last_calls base T g cap (us ++ [(v0, v1)]) (c0, 0) n _ (ts_below H.out HB.out) HM.out).mono ?_; rintro e w' ⟨rfl, ⟨q, rfl⟩⟩; have HT3 := Aside0.mk (ts_drew (ts_below H.out HB.out) q); have HB3 : Aside0 (Below w.heap.size w (w2.drewN q)) := ⟨pw_below_drewN HB.out q⟩; have BK3 := Aside0.mk (blk_drewN BK2.out q); generalize hw3 : w2.drewN q = w3; rw [hw3] at HT3 HB3 BK3; obtain ⟨a0, a1, a2, e1, e2⟩ := HA.out w3 HT3.out; rw [HL.out]; clear HB BK2 hw3))
    have HT4 := Aside0.mk (ts_below HT3.out (below_alloc (Below.refl _ _) (.cells #[.int .i64 c0, .int .i64 0] 68)))
    have HB4 := Aside0.mk (below_alloc HB3.out (.cells #[.int .i64 c0, .int .i64 0] 68))
    have BK4 : Aside0 ((w3.alloc (.cells #[.int .i64 c0, .int .i64 0] 68)).heap[G2]? = some (.cells #[.int .i64 2, .int .i64 x1, .int .i64 x2, .int .i64 x3, .int .i64 x4] 53 (0, 0))) := ⟨blk_alloc BK3.out _⟩
    have BK5 : Aside0 ((w3.alloc (.cells #[.int .i64 c0, .int .i64 0] 68)).heap[w3.heap.size]? = some (.cells #[.int .i64 c0, .int .i64 0] 68 (0, 0))) := ⟨(MapKept.heap_alloc w3 _).1⟩
    obtain ⟨G5, hG5⟩ : ∃ q, w3.heap.size = q := ⟨_, rfl⟩
    obtain ⟨w4, hw4⟩ : ∃ q, w3.alloc (.cells #[.int .i64 c0, .int .i64 0] 68) = q := ⟨_, rfl⟩
    have HG5 : Aside0 (w.heap.size ≤ G5) := ⟨by rw [← hG5]; exact below_size HB3.out⟩
    rw [hG5, hw4] at BK5
    rw [hw4] at HT4 HB4 BK4 a0
    rw [hG5, hw4]
    have hfT := (ts_cells HT4.out).2.2.1
    have HNE := Aside0.mk (ts_cells HT4.out).2.2.2.2.2.2.2.2
    have hcap : Aside0 (us.length + 1 + 1 ≤ cap) := ⟨by have := (Kd.R_reads' HT4.out.2.1).2.1; rw [HL.out] at this; omega⟩
    obtain ⟨m, hmu⟩ : ∃ q, us.length + 1 = q := ⟨_, rfl⟩
    have HMU := Aside0.mk hmu
    have hcp : (m : Int) ≤ (cap : Int) := by have := hcap.out; omega
    have hm9 : (0 : Int) ≤ (m : Int) := by omega
    have hm10 : (m : Int) ≤ 1000 := by omega
    have hwm : wrap64 (m : Int) = (m : Int) := by unfold wrap64; omega
    rw [hmu] at a0
    rw [hmu]
    clear hmu
    clear a1 a2 e1 e2 hG5 hw4 HT3 HB3 BK3
    refine start_ (n := 15) (S := fun w' => w'.cell? ⟨T, 0, none⟩ = some (.slice (some ⟨g, 0, none⟩) (m + 1) cap)) (ds := [14]) #[false, false, false, false, false, false, false, false, false, false, false, false, false, false, false] (by kernel_rfl) rfl rfl (a0) (fun hHeld => ?_)
    refine pure_ (i := 0) (N := some 21) (v := ?_) (a' := ?_) #[true, false, false, false, false, false, false, false, false, false, false, false, false, false, false] rfl rfl (by kernel_rfl) (fun _ _ _ h => h) (Or.inl ⟨by rfl, ?_⟩) ?_ ?_
    rotate_left
    · intro w'
      go_simp
      with_reducible rfl
    rotate_left
    · simp only [Act.put, List.setIfInBounds_toArray, List.set_cons_zero, List.set_cons_succ, i64_w, i32_w]
      rfl
    refine pure_ (i := 1) (N := some 22) (v := ?_) (a' := ?_) #[true, true, false, false, false, false, false, false, false, false, false, false, false, false, false] rfl rfl (by kernel_rfl) (fun _ _ _ h => h) (Or.inl ⟨by rfl, ?_⟩) ?_ ?_
    rotate_left
    · intro w'
      go_simp
      with_reducible rfl
    rotate_left
    · simp only [Act.put, List.setIfInBounds_toArray, List.set_cons_zero, List.set_cons_succ, i64_w, i32_w]
      rfl
    refine pure_ (i := 2) (N := some 23) (v := ?_) (a' := ?_) #[true, true, true, false, false, false, false, false, false, false, false, false, false, false, false] rfl rfl (by kernel_rfl) (fun _ _ _ h => h) (Or.inl ⟨by rfl, ?_⟩) ?_ ?_
    rotate_left
    · intro w'
      go_simp
      with_reducible rfl
    rotate_left
    · simp only [Act.put, List.setIfInBounds_toArray, List.set_cons_zero, List.set_cons_succ, i64_w, i32_w]
      rfl
    refine pure_ (i := 3) (N := some 24) (v := ?_) (a' := ?_) #[true, true, true, true, false, false, false, false, false, false, false, false, false, false, false] rfl rfl (by kernel_rfl) (fun _ _ _ h => h) (Or.inl ⟨by rfl, ?_⟩) ?_ ?_
    rotate_left
    · intro w'
      go_simp
      with_reducible rfl
    rotate_left
    · simp only [Act.put, List.setIfInBounds_toArray, List.set_cons_zero, List.set_cons_succ, i64_w, i32_w]
      rfl
    refine pure_ (i := 5) (N := some 26) (v := ?_) (a' := ?_) #[true, true, true, true, false, true, false, false, false, false, false, false, false, false, false] rfl rfl (by kernel_rfl) (fun _ _ _ h => h) (Or.inl ⟨by rfl, ?_⟩) ?_ ?_
    rotate_left
    · intro w'
      go_simp
      with_reducible rfl
    rotate_left
    · simp only [Act.put, List.setIfInBounds_toArray, List.set_cons_zero, List.set_cons_succ, i64_w, i32_w]
      rfl
    refine pure_ (i := 6) (N := some 27) (v := ?_) (a' := ?_) #[true, true, true, true, false, true, true, false, false, false, false, false, false, false, false] rfl rfl (by kernel_rfl) (fun _ _ _ h => h) (Or.inl ⟨by rfl, ?_⟩) ?_ ?_
    rotate_left
    · intro w'
      go_simp
      with_reducible rfl
    rotate_left
    · simp only [Act.put, List.setIfInBounds_toArray, List.set_cons_zero, List.set_cons_succ, i64_w, i32_w]
      rfl
    refine pure_ (i := 7) (N := some 28) (v := ?_) (a' := ?_) #[true, true, true, true, false, true, true, true, false, false, false, false, false, false, false] rfl rfl (by kernel_rfl) (fun _ _ _ h => h) (Or.inl ⟨by rfl, ?_⟩) ?_ ?_
    rotate_left
    · intro w'
      go_simp
      with_reducible rfl
    rotate_left
    · simp only [Act.put, List.setIfInBounds_toArray, List.set_cons_zero, List.set_cons_succ, i64_w, i32_w]
      rfl
    refine take_ (i := 4) (N := some 25) (v := ?_) (a' := ?_) #[true, true, true, true, true, true, true, true, false, false, false, false, false, false, false] rfl rfl (by kernel_rfl) (fun _ _ _ h => h) (Or.inl ⟨by rfl, ?_⟩) hHeld ?_ ?_
    rotate_left
    · intro w' s0
      go_simp
      with_reducible rfl
    rotate_left
    · simp only [Act.put, List.setIfInBounds_toArray, List.set_cons_zero, List.set_cons_succ, i64_w, i32_w]
      rfl
    refine take_ (i := 8) (N := some 29) (v := ?_) (a' := ?_) #[true, true, true, true, true, true, true, true, true, false, false, false, false, false, false] rfl rfl (by kernel_rfl) (fun _ _ _ h => h) (Or.inl ⟨by rfl, ?_⟩) hHeld ?_ ?_
    rotate_left
    · intro w' s0
      go_simp
      with_reducible rfl
    rotate_left
    · simp only [Act.put, List.setIfInBounds_toArray, List.set_cons_zero, List.set_cons_succ, i64_w, i32_w]
      rfl
    refine pure_ (i := 9) (N := some 30) (v := ?_) (a' := ?_) #[true, true, true, true, true, true, true, true, true, true, false, false, false, false, false] rfl rfl (by kernel_rfl) (fun _ _ _ h => h) (Or.inl ⟨by rfl, ?_⟩) ?_ ?_
    rotate_left
    · intro w'
      go_simp
      with_reducible rfl
    rotate_left
    · simp only [Act.put, List.setIfInBounds_toArray, List.set_cons_zero, List.set_cons_succ, i64_w, i32_w]
      rfl
    refine pure_ (i := 10) (N := some 31) (v := ?_) (a' := ?_) #[true, true, true, true, true, true, true, true, true, true, true, false, false, false, false] rfl rfl (by kernel_rfl) (fun _ _ _ h => h) (Or.inl ⟨by rfl, ?_⟩) ?_ ?_
    rotate_left
    · intro w'
      go_simp
      with_reducible rfl
    rotate_left
    · simp only [Act.put, List.setIfInBounds_toArray, List.set_cons_zero, List.set_cons_succ, i64_w, i32_w]
      rfl
    refine pure_ (i := 11) (N := some 32) (v := ?_) (a' := ?_) #[true, true, true, true, true, true, true, true, true, true, true, true, false, false, false] rfl rfl (by kernel_rfl) (fun _ _ _ h => h) (Or.inl ⟨by rfl, ?_⟩) ?_ ?_
    rotate_left
    · intro w'
      go_simp
      with_reducible rfl
    rotate_left
    · simp only [Act.put, List.setIfInBounds_toArray, List.set_cons_zero, List.set_cons_succ, i64_w, i32_w]
      rfl
    refine pure_ (i := 12) (N := some 33) (v := ?_) (a' := ?_) #[true, true, true, true, true, true, true, true, true, true, true, true, true, false, false] rfl rfl (by kernel_rfl) (fun _ _ _ h => h) (Or.inl ⟨by rfl, ?_⟩) ?_ ?_
    rotate_left
    · intro w'
      go_simp
      with_reducible rfl
    rotate_left
    · simp only [Act.put, List.setIfInBounds_toArray, List.set_cons_zero, List.set_cons_succ, i64_w, i32_w]
      rfl
    refine pure_ (i := 13) (N := some 34) (v := ?_) (a' := ?_) #[true, true, true, true, true, true, true, true, true, true, true, true, true, true, false] rfl rfl (by kernel_rfl) (fun _ _ _ h => h) (Or.inl ⟨by rfl, ?_⟩) ?_ ?_
    rotate_left
    · intro w'
      go_simp
      with_reducible rfl
    rotate_left
    · simp only [Act.put, List.setIfInBounds_toArray, List.set_cons_zero, List.set_cons_succ, i64_w, i32_w]
      rfl
    refine last_ (i := 14) (N := none) #[true, true, true, true, true, true, true, true, true, true, true, true, true, true, true] rfl rfl (by kernel_rfl) (by decide) (fun K hK => ?_)
    refine skip_ (w1 := ?_) (by rfl) rfl ?_ ?_
    rotate_left
    · go_simp
      rfl
    refine hK.out _ _ ?_
    clear hK K
    refine done_ (by kernel_rfl) ?_
    have HT5 : Aside0 (TsAt (w4.setCell ⟨T, 0, none⟩ (.slice (some ⟨g, 0, none⟩) m cap)).drew base T g cap us (v0, v1) n) := ⟨by have h := ts_take HT4.out; rw [HMU.out] at h; exact ts_below h (below_drew (Below.refl _ _))⟩
    have HB5 : Aside0 (Below base w (w4.setCell ⟨T, 0, none⟩ (.slice (some ⟨g, 0, none⟩) m cap)).drew) := ⟨((HB4.out.mono (ts_base H.out).2.2).setCell (p := ⟨T, 0, none⟩) (ts_base H.out).1 _).drew⟩
    have HK5 : Aside0 (TsK w (w4.setCell ⟨T, 0, none⟩ (.slice (some ⟨g, 0, none⟩) m cap)).drew) := ⟨tsK_of H.out (((Kept.of_below HB4.out _).setCell (p := ⟨T, 0, none⟩) (.inl (.inl rfl)) _).drew)⟩
    have hT0 := Nat.lt_of_lt_of_le (Array.getElem?_eq_some_iff.1 H.out.1).1 (Nat.le_refl _)
    have BK6 : Aside0 ((w4.setCell ⟨T, 0, none⟩ (.slice (some ⟨g, 0, none⟩) m cap)).drew.heap[G2]? = some (.cells #[.int .i64 2, .int .i64 x1, .int .i64 x2, .int .i64 x3, .int .i64 x4] 53 (0, 0))) := ⟨(Below.heap_setCell w4 ⟨T, 0, none⟩ _ G2 (by have := GE2.out; show G2 ≠ T; omega)).trans BK4.out⟩
    have BK7 : Aside0 ((w4.setCell ⟨T, 0, none⟩ (.slice (some ⟨g, 0, none⟩) m cap)).drew.heap[G5]? = some (.cells #[.int .i64 c0, .int .i64 0] 68 (0, 0))) := ⟨(Below.heap_setCell w4 ⟨T, 0, none⟩ _ G5 (by have := HG5.out; show G5 ≠ T; omega)).trans BK5.out⟩
    obtain ⟨w5, hw5⟩ : ∃ q, (w4.setCell ⟨T, 0, none⟩ (.slice (some ⟨g, 0, none⟩) m cap)).drew = q := ⟨_, rfl⟩
    rw [hw5] at HT5 HB5 HK5 BK6 BK7
    rw [hw5]
    have k0 : w5.cell? ⟨G2, 0, none⟩ = some (.int .i64 2) := (blk_cell BK6.out 0).trans rfl
    have k1 : w5.cell? ⟨G2, 1, none⟩ = some (.int .i64 x1) := (blk_cell BK6.out 1).trans rfl
    have k2 : w5.cell? ⟨G2, 2, none⟩ = some (.int .i64 x2) := (blk_cell BK6.out 2).trans rfl
    have k3 : w5.cell? ⟨G2, 3, none⟩ = some (.int .i64 x3) := (blk_cell BK6.out 3).trans rfl
    have k4 : w5.cell? ⟨G2, 4, none⟩ = some (.int .i64 x4) := (blk_cell BK6.out 4).trans rfl
    have k5 : w5.cell? ⟨G5, 0, none⟩ = some (.int .i64 c0) := (blk_cell BK7.out 0).trans rfl
    obtain ⟨_, _, _, _, _, k6, _⟩ := ts_cells HT5.out
    have hq : ∀ W, (binOp .eql 53 (.agg #[.int .i64 2, .int .i64 x1, .int .i64 x2, .int .i64 x3, .int .i64 x4]) (.agg #[.int .i64 2, .int .i64 c0, .int .i64 0, .int .i64 0, .int .i64 v1])).run Try.prog W = .ok (.bool r) W := fun W => eql53 W _ _ _ _ _ _ _ _ _ _ r (by
      rw [← HR.out]
      rw [Bool.eq_iff_iff]
      simp)
    clear hw5 hwm hcp hfT a0 hT0 BK4 BK5 HT4 HB4 hm9 hm10
    go_wp2
    go_quiet ((go_at_call 32; exact Calls.quiet_of (last_calls base T g cap us (v0, v1) n _ (ts_drew HT5.out _) (by omega))))
    go_wp2
    go_ret
    exact ⟨rfl, pw_below_drewN HB5.out _, fun _ => ⟨ts_drew HT5.out _, kept_drewN HK5.out _⟩⟩
  · have hb0 : (c1 == 0) = false := by simpa using h0
    have hd0 : decide (c1 = 0) = false := by simpa using h0
    have hbn : (c1 != 0) = true := by simpa using h0
    have hr : r = false := by rw [← HR.out]; exact decide_eq_false fun h => h0 h.1
    subst hr
    go_enter Try.func26, Try.ntmps26
    go_wp2_with (first | ((with_reducible refine gate_dst (N := 3) rfl ?_); refine box_event ?hg (N := 3) ?hd (cs := #[.int .i64 2, .int .i64 x1, .int .i64 x2, .int .i64 x3, .int .i64 x4]) (t := 53) ?hr ?_; (case hd => rfl); (case hg => rfl); (case hr => first | (go_simp; done) | (go_simp; rfl)); intro G2 hg w2 hbox hb; have n0_ := Aside0.mk (below_step (by repeat (first | (with_reducible first | exact HB.out | apply below_alloc | apply pw_below_drewN | apply below_drew1) | exact HB.out)) hb); have n1_ := Aside0.mk hbox; have n2_ := Aside0.mk ((by rw [hg]; exact (below_size (by repeat (first | (with_reducible first | exact HB.out | apply below_alloc | apply pw_below_drewN | apply below_drew1) | exact HB.out)))) : w.heap.size ≤ G2); clear HB; have HB := n0_; have BK2 := n1_; have GE2 := n2_; clear n0_ n1_ n2_; clear hb hbox hg) | (go_at_call 32; refine (last_calls base T g cap (us ++ [(v0, v1)]) (c0, c1) n _ (ts_below H.out HB.out) HM.out).mono ?_; rintro e w' ⟨rfl, ⟨q, rfl⟩⟩; have HT3 := Aside0.mk (ts_drew (ts_below H.out HB.out) q); have HB3 : Aside0 (Below w.heap.size w (w2.drewN q)) := ⟨pw_below_drewN HB.out q⟩; have BK3 := Aside0.mk (blk_drewN BK2.out q); generalize hw3 : w2.drewN q = w3; rw [hw3] at HT3 HB3 BK3; obtain ⟨a0, a1, a2, e1, e2⟩ := HA.out w3 HT3.out; rw [HL.out]; clear HB BK2 hw3))
    go_ret
    exact ⟨rfl, (below_alloc HB3.out _).mono (ts_base H.out).2.2, fun h => by cases h⟩
set_option maxHeartbeats 4000000 in
set_option maxRecDepth 100000 in
theorem end_none (base T g cap : Nat) (cur : Int × Int) (n : Nat) (x : S53) (w : World) (h : TsAt w base T g cap [] cur n) :
    Calls Try.prog 26 #[.pointer (some ⟨T, 0, none⟩), enc53 x] w fun e w' => e = .returned (.bool false) ∧ Below base w w' := by
  obtain ⟨x0, x1, x2, x3, x4⟩ := x
  obtain ⟨c0, c1⟩ := cur
  have H := Aside0.mk h
  have HB := Aside0.mk (Below.refl w.heap.size w)
  unfold enc53
  clear h
  have harm : ∀ w3 : World, TsAt w3 base T g cap [] (c0, c1) n → (w3.alloc (.cells #[.int .i64 c0, .int .i64 c1] 68)).cell? ⟨T, 0, none⟩ = some (.slice (some ⟨g, 0, none⟩) 1 cap) ∧ (w3.alloc (.cells #[.int .i64 c0, .int .i64 c1] 68)).cell? ⟨w3.heap.size, 0, none⟩ = some (.int .i64 c0) ∧ (w3.alloc (.cells #[.int .i64 c0, .int .i64 c1] 68)).cell? ⟨w3.heap.size, 1, none⟩ = some (.int .i64 c1) ∧ w3.cell? ⟨g, 0, none⟩ = some (.int .i64 c0) ∧ w3.cell? ⟨g, 1, none⟩ = some (.int .i64 c1) := fun w3 h3 => by
    obtain ⟨t0, _, _, _, e1, e2, _⟩ := ts_cells h3
    have hn := (MapKept.heap_alloc w3 (.cells #[.int .i64 c0, .int .i64 c1] 68)).1
    exact ⟨cell_step (below_alloc (Below.refl _ _) _) t0, (blk_cell hn 0).trans rfl, (blk_cell hn 1).trans rfl, e1, e2⟩
  have HA := Aside0.mk harm
  clear harm
  go_enter Try.func26, Try.ntmps26
  go_wp2_with (first | ((with_reducible refine gate_dst (N := 3) rfl ?_); refine box_event ?hg (N := 3) ?hd (cs := #[.int .i64 x0, .int .i64 x1, .int .i64 x2, .int .i64 x3, .int .i64 x4]) (t := 53) ?hr ?_; (case hd => rfl); (case hg => rfl); (case hr => first | (go_simp; done) | (go_simp; rfl)); intro G2 hg w2 hbox hb; have n0_ := Aside0.mk (below_step (by repeat (first | (with_reducible first | exact HB.out | apply below_alloc | apply pw_below_drewN | apply below_drew1) | exact HB.out)) hb); have n1_ := Aside0.mk hbox; have n2_ := Aside0.mk ((by rw [hg]; exact (below_size (by repeat (first | (with_reducible first | exact HB.out | apply below_alloc | apply pw_below_drewN | apply below_drew1) | exact HB.out)))) : w.heap.size ≤ G2); clear HB; have HB := n0_; have BK2 := n1_; have GE2 := n2_; clear n0_ n1_ n2_; clear hb hbox hg) | (go_at_call 32; refine (last_calls base T g cap [] (c0, c1) n _ (ts_below H.out HB.out) (by simp)).mono ?_; rintro e w' ⟨rfl, ⟨q, rfl⟩⟩; have HT3 := Aside0.mk (ts_drew (ts_below H.out HB.out) q); have HB3 : Aside0 (Below w.heap.size w (w2.drewN q)) := ⟨pw_below_drewN HB.out q⟩; generalize hw3 : w2.drewN q = w3; rw [hw3] at HT3 HB3; obtain ⟨a0, a1, a2, e1, e2⟩ := HA.out w3 HT3.out; simp only [List.length_nil, Nat.zero_mul]; clear HB BK2 hw3))
  go_ret
  exact ⟨rfl, (below_alloc HB3.out _).mono (ts_base H.out).2.2⟩
end Go.Proofs.Ythjecgmgpnileaa.Bd
