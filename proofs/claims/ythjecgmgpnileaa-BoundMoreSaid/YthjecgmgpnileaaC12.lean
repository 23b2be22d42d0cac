/- An SFork: walked. -/
import Derived.Test.YthjecgmgpnileaaC11
namespace Go.Proofs.Ythjecgmgpnileaa.Bd
open Go.RowKit Go.Lib Go.Proofs.YthjecgmgpnileaaW.PrintWords Go.Proofs.YthjecgmgpnileaaW.PrintLast Go.Proofs.YthjecgmgpnileaaW.PrintMore
attribute [local go_sem] max2_int min2_int max_two min_two max_three min_three max_four min_four   -- for this text's walks alone
set_option linter.unusedVariables false
set_option linter.unusedSimpArgs false

theorem ts_setn {W : World} {base T g cap : Nat} {us : List (Int × Int)} {cur : Int × Int} {n : Nat} (h : TsAt W base T g cap us cur n) (m : Nat) :
    TsAt (W.setCell ⟨T, 1, none⟩ (.int .i64 (m : Int))) base T g cap us cur m := by
  obtain ⟨hT, hR, hb⟩ := h
  exact ⟨blk_put hT 1 _ rfl, Kd.R_set hR hT (by decide) 1 _, hb⟩
theorem ts_row {base T g cap g' cap' : Nat} {us : List (Int × Int)} {cur c' : Int × Int} {n : Nat} {W' : World} (h : W'.heap[T]? = some (.cells #[.slice (some ⟨g, 0, none⟩) (us.length + 1) cap, .int .i64 (n : Int)] 71 (0, 0)))
    (hR : Kd.R kP 68 W' base (fun _ => True) (.slice (some ⟨g', 0, none⟩) (us.length + 1 + 1) cap') (us ++ [cur] ++ [c'])) (hb : base ≤ T) :
    TsAt (W'.setCell ⟨T, 0, none⟩ (.slice (some ⟨g', 0, none⟩) (us.length + 1 + 1) cap')) base T g' cap' (us ++ [cur]) c' n := by
  have hl : (us ++ [cur]).length = us.length + 1 := by simp
  unfold TsAt
  rw [hl]
  exact ⟨blk_put h 0 _ rfl, Kd.R_set hR h (by decide) 0 _, hb⟩
theorem drew_out (w : World) (o : Obj) : (w.alloc o).drew = w.drew.alloc o := rfl
set_option maxHeartbeats 8000000 in
set_option maxRecDepth 100000 in
theorem fork_calls (base T g cap : Nat) (us : List (Int × Int)) (cur : Int × Int) (n : Nat) (x : S53) (w : World) (h : TsAt w base T g cap us cur n) (hm : us.length < 900) (hn : n < 1000) (hk : x.f0 = 1) (r : Bool)
    (hr : decide (x.f1 = cur.1 ∧ x.f2 = (n : Int) ∧ x.f3 = (n : Int) + 1 ∧ x.f4 = (if cur.2 = 0 then (n : Int) + 2 else cur.2)) = r) :
    Calls Try.prog 25 #[.pointer (some ⟨T, 0, none⟩), enc53 x] w fun e w' => e = .returned (.bool r) ∧ Below base w w' ∧ (r = true → (∃ g' cap', TsAt w' base T g' cap' (us ++ [(x.f3, if cur.2 = 0 then (n : Int) + 2 else cur.2)]) (x.f2, 0) (n + (if cur.2 = 0 then 3 else 2))) ∧ TsK w w') := by
  obtain ⟨x0, x1, x2, x3, x4⟩ := x
  obtain ⟨c0, c1⟩ := cur
  simp only at hk hr
  subst hk
  have hm1 : (us.length : Int) < 900 := by omega
  have hn1 : (n : Int) < 1000 := by omega
  have H := Aside0.mk h
  have HM : Aside0 (us.length ≤ 1000) := ⟨by omega⟩
  have HB := Aside0.mk (Below.refl w.heap.size w)
  unfold enc53
  by_cases h0 : c1 = 0
  · subst h0
    rw [if_pos rfl] at hr
    simp only [if_true]
    obtain ⟨d, hd⟩ : ∃ q, (n : Int) + 2 = q := ⟨_, rfl⟩
    rw [hd] at hr
    have HR := Aside0.mk hr
    have hGT := H.out
    clear h hr
    go_enter Try.func25, Try.ntmps25
    go_wp2_with (first | ((with_reducible refine gate_dst (N := 3) rfl ?_); refine box_event ?hg (N := 3) ?hd (cs := #[.int .i64 1, .int .i64 x1, .int .i64 x2, .int .i64 x3, .int .i64 x4]) (t := 53) ?hr ?_; (case hd => rfl); (case hg => rfl); (case hr => first | (go_simp; done) | (go_simp; rfl)); intro G2 hg w2 hbox hb; have n0_ := Aside0.mk (below_step (by repeat (first | (with_reducible first | exact HB.out | apply below_alloc | apply pw_below_drewN | apply below_drew1) | exact HB.out)) hb); have n1_ := Aside0.mk hbox; have n2_ := Aside0.mk ((by rw [hg]; exact (below_size (by repeat (first | (with_reducible first | exact HB.out | apply below_alloc | apply pw_below_drewN | apply below_drew1) | exact HB.out)))) : w.heap.size ≤ G2); clear HB; have HB := n0_; have BK2 := n1_; have GE2 := n2_; clear n0_ n1_ n2_; clear hb hbox hg) | (go_at_call 32; refine (last_calls base T g cap us (c0, 0) n _ (ts_below H.out HB.out) HM.out).mono ?_; rintro e w' ⟨rfl, ⟨q, rfl⟩⟩; have HT3 := Aside0.mk (ts_drew (ts_below H.out HB.out) q); have HB3 : Aside0 (Below w.heap.size w (w2.drewN q)) := ⟨pw_below_drewN HB.out q⟩; have BK3 := Aside0.mk (blk_drewN BK2.out q); generalize hw3 : w2.drewN q = w3; rw [hw3] at HT3 HB3 BK3; obtain ⟨t0, t1, f0, f1, e1, e2, e3, e4, HNE⟩ := ts_cells HT3.out; clear HB BK2 hw3))
    have hlt := (Array.getElem?_eq_some_iff.1 H.out.1).1
    have hlg := Kd.R_lt H.out.2.1 g rfl
    have HG : Aside0 (G2 ≠ T ∧ G2 ≠ g) := ⟨by have := GE2.out; omega⟩
    have HT4 := Aside0.mk (ts_set1 HT3.out d)
    have HB4 := Aside0.mk ((HB3.out.mono (ts_base H.out).2.2).setCell (p := ⟨g, us.length * 2 + 1, none⟩) (ts_base H.out).2.1 (.int .i64 d))
    have HK4 : Aside0 (Kept w (w3.setCell ⟨g, us.length * 2 + 1, none⟩ (.int .i64 d)) fun k => k = T ∨ k = g) := ⟨(Kept.of_below HB3.out _).setCell (p := ⟨g, us.length * 2 + 1, none⟩) (.inl (.inr rfl)) (.int .i64 d)⟩
    have BK4 : Aside0 ((w3.setCell ⟨g, us.length * 2 + 1, none⟩ (.int .i64 d)).heap[G2]? = some (.cells #[.int .i64 1, .int .i64 x1, .int .i64 x2, .int .i64 x3, .int .i64 x4] 53 (0, 0))) := ⟨(Below.heap_setCell w3 ⟨g, us.length * 2 + 1, none⟩ _ G2 HG.out.2).trans BK3.out⟩
    try rw [hd]
    obtain ⟨w4, hw4⟩ : ∃ q, w3.setCell ⟨g, us.length * 2 + 1, none⟩ (.int .i64 d) = q := ⟨_, rfl⟩
    rw [hw4] at HT4 HB4 HK4 BK4
    rw [hw4]
    clear hlt hlg hGT t0 t1 f0 f1 e1 e2 e3 e4 HNE hw4 HT3 HB3 BK3
    have HNE := Aside0.mk (ts_cells HT4.out).2.2.2.2.2.2.2.2
    obtain ⟨t0, t1, f0, f1, e1, e2, e3, e4, _⟩ := ts_cells HT4.out
    have k0 : w4.cell? ⟨G2, 0, none⟩ = some (.int .i64 1) := (blk_cell BK4.out 0).trans rfl
    have k1 : w4.cell? ⟨G2, 1, none⟩ = some (.int .i64 x1) := (blk_cell BK4.out 1).trans rfl
    have k2 : w4.cell? ⟨G2, 2, none⟩ = some (.int .i64 x2) := (blk_cell BK4.out 2).trans rfl
    have k3 : w4.cell? ⟨G2, 3, none⟩ = some (.int .i64 x3) := (blk_cell BK4.out 3).trans rfl
    have k4 : w4.cell? ⟨G2, 4, none⟩ = some (.int .i64 x4) := (blk_cell BK4.out 4).trans rfl
    have hq : ∀ W, (binOp .neq 53 (.agg #[.int .i64 1, .int .i64 x1, .int .i64 x2, .int .i64 x3, .int .i64 x4]) (.agg #[.int .i64 1, .int .i64 c0, .int .i64 (n : Int), .int .i64 ((n : Int) + 1), .int .i64 d])).run Try.prog W = .ok (.bool (!r)) W := fun W => neq53 W _ _ _ _ _ _ _ _ _ _ r (by
      rw [← HR.out]
      rw [Bool.eq_iff_iff]
      simp)
    cases r with
    | false =>
      go_quiet (fail)
      go_wp2
      go_ret
      first | exact ⟨rfl, pw_below_drewN HB4.out _, fun h => by cases h⟩ | exact ⟨rfl, pw_below_drewN HB4.out _⟩
    | true =>
      go_quiet (fail)
      have HT5 := Aside0.mk (ts_drew HT4.out nq)
      have HB5 := Aside0.mk (pw_below_drewN HB4.out nq)
      have BK5 := Aside0.mk (blk_drewN BK4.out nq)
      have HK5 := Aside0.mk (kept_drewN HK4.out nq)
      clear hq k0 k1 k2 k3 k4 t0 t1 f0 f1 e1 e2 e3 e4 HT4 HB4 BK4 HK4
      obtain ⟨w5, hw5⟩ : ∃ q, w4.drewN nq = q := ⟨_, rfl⟩
      rw [hw5] at HT5 HB5 BK5 HK5
      rw [hw5]
      obtain ⟨t0, t1, f0, f1, e1, e2, e3, e4, _⟩ := ts_cells HT5.out
      have k2 : w5.cell? ⟨G2, 2, none⟩ = some (.int .i64 x2) := (blk_cell BK5.out 2).trans rfl
      have k3 : w5.cell? ⟨G2, 3, none⟩ = some (.int .i64 x3) := (blk_cell BK5.out 3).trans rfl
      have hGT : G2 ≠ T := HG.out.1
      have hGg : G2 ≠ g := HG.out.2
      have k3' : (w5.setCell ⟨T, 1, none⟩ (.int .i64 ((n : Int) + 3))).cell? ⟨G2, 3, none⟩ = some (.int .i64 x3) := (cell_at_blk (Below.heap_setCell w5 ⟨T, 1, none⟩ _ G2 hGT)).trans k3
      have e1' : (w5.setCell ⟨T, 1, none⟩ (.int .i64 ((n : Int) + 3))).cell? ⟨g, us.length * 2, none⟩ = some (.int .i64 c0) := (cell_at_blk (Below.heap_setCell w5 ⟨T, 1, none⟩ _ g (Ne.symm HNE.out))).trans e1
      have e3' : (w5.setCell ⟨T, 1, none⟩ (.int .i64 ((n : Int) + 3))).frozen? ⟨g, us.length * 2, none⟩ = false := by have := (ts_cells (ts_setn HT5.out (n + 3))).2.2.2.2.2.2.1; exact this
      have hc5 : ((n + 3 : Nat) : Int) = (n : Int) + 3 := rfl
      have hT6 := ts_set0 (ts_setn HT5.out (n + 3)) x3
      rw [hc5] at hT6
      have HT6 := Aside0.mk hT6
      have hb6 := ts_base H.out
      have HB6 := Aside0.mk ((HB5.out.setCell (p := ⟨T, 1, none⟩) hb6.1 (.int .i64 ((n : Int) + 3))).setCell (p := ⟨g, us.length * 2, none⟩) hb6.2.1 (.int .i64 x3))
      have HK6 := Aside0.mk ((HK5.out.setCell (p := ⟨T, 1, none⟩) (.inl (.inl rfl)) (.int .i64 ((n : Int) + 3))).setCell (p := ⟨g, us.length * 2, none⟩) (.inl (.inr rfl)) (.int .i64 x3))
      have k26 : ((w5.setCell ⟨T, 1, none⟩ (.int .i64 ((n : Int) + 3))).setCell ⟨g, us.length * 2, none⟩ (.int .i64 x3)).cell? ⟨G2, 2, none⟩ = some (.int .i64 x2) := (cell_at_blk (Below.heap_setCell _ ⟨g, us.length * 2, none⟩ _ G2 hGg)).trans ((cell_at_blk (Below.heap_setCell w5 ⟨T, 1, none⟩ _ G2 hGT)).trans k2)
      clear hc5 hT6 hb6
      go_wp2
      obtain ⟨w6, hw6⟩ : ∃ q, (w5.setCell ⟨T, 1, none⟩ (.int .i64 ((n : Int) + 3))).setCell ⟨g, us.length * 2, none⟩ (.int .i64 x3) = q := ⟨_, rfl⟩
      rw [hw6] at HT6 HB6 HK6 k26
      rw [hw6]
      have a0 := (ts_cells HT6.out).1
      have hB6 : Aside0 (base ≤ w6.drew.heap.size) := ⟨(ts_base HT6.out).2.2⟩
      clear hw6 t0 t1 f0 f1 e1 e2 e3 e4 k2 k3 k3' e1' e3' hw5 hGT hGg HT5 HB5 BK5 HK5
      refine start_ (n := 13) (S := fun w' => w'.cell? ⟨T, 0, none⟩ = some (.slice (some ⟨g, 0, none⟩) (us.length + 1) cap) ∧ w'.cell? ⟨G2, 2, none⟩ = some (.int .i64 x2)) (ds := [9, 12]) #[false, false, false, false, false, false, false, false, false, false, false, false, false] (by kernel_rfl) rfl rfl ⟨a0, k26⟩ (fun hHeld => ?_)
      refine pure_ (i := 0) (N := some 57) (v := ?_) (a' := ?_) #[true, false, false, false, false, false, false, false, false, false, false, false, false] rfl rfl (by kernel_rfl) (fun _ _ _ h => h) (Or.inl ⟨by rfl, ?_⟩) ?_ ?_
      rotate_left
      · intro w'
        go_simp
        with_reducible rfl
      rotate_left
      · simp only [Act.put, List.setIfInBounds_toArray, List.set_cons_zero, List.set_cons_succ, i64_w, i32_w]
        rfl
      refine pure_ (i := 1) (N := some 58) (v := ?_) (a' := ?_) #[true, true, false, false, false, false, false, false, false, false, false, false, false] rfl rfl (by kernel_rfl) (fun _ _ _ h => h) (Or.inl ⟨by rfl, ?_⟩) ?_ ?_
      rotate_left
      · intro w'
        go_simp
        with_reducible rfl
      rotate_left
      · simp only [Act.put, List.setIfInBounds_toArray, List.set_cons_zero, List.set_cons_succ, i64_w, i32_w]
        rfl
      refine pure_ (i := 2) (N := some 59) (v := ?_) (a' := ?_) #[true, true, true, false, false, false, false, false, false, false, false, false, false] rfl rfl (by kernel_rfl) (fun _ _ _ h => h) (Or.inl ⟨by rfl, ?_⟩) ?_ ?_
      rotate_left
      · intro w'
        go_simp
        with_reducible rfl
      rotate_left
      · simp only [Act.put, List.setIfInBounds_toArray, List.set_cons_zero, List.set_cons_succ, i64_w, i32_w]
        rfl
      refine pure_ (i := 3) (N := some 60) (v := ?_) (a' := ?_) #[true, true, true, true, false, false, false, false, false, false, false, false, false] rfl rfl (by kernel_rfl) (fun _ _ _ h => h) (Or.inl ⟨by rfl, ?_⟩) ?_ ?_
      rotate_left
      · intro w'
        go_simp
        with_reducible rfl
      rotate_left
      · simp only [Act.put, List.setIfInBounds_toArray, List.set_cons_zero, List.set_cons_succ, i64_w, i32_w]
        rfl
      refine pure_ (i := 5) (N := some 62) (v := ?_) (a' := ?_) #[true, true, true, true, false, true, false, false, false, false, false, false, false] rfl rfl (by kernel_rfl) (fun _ _ _ h => h) (Or.inl ⟨by rfl, ?_⟩) ?_ ?_
      rotate_left
      · intro w'
        go_simp
        with_reducible rfl
      rotate_left
      · simp only [Act.put, List.setIfInBounds_toArray, List.set_cons_zero, List.set_cons_succ, i64_w, i32_w]
        rfl
      refine take_ (i := 4) (N := some 61) (v := ?_) (a' := ?_) #[true, true, true, true, true, true, false, false, false, false, false, false, false] rfl rfl (by kernel_rfl) (fun _ _ _ h => h) (Or.inl ⟨by rfl, ?_⟩) hHeld ?_ ?_
      rotate_left
      · rintro w' ⟨s0, s1⟩
        go_simp
        with_reducible rfl
      rotate_left
      · simp only [Act.put, List.setIfInBounds_toArray, List.set_cons_zero, List.set_cons_succ, i64_w, i32_w]
        rfl
      refine take_ (i := 6) (N := some 63) (v := ?_) (a' := ?_) #[true, true, true, true, true, true, true, false, false, false, false, false, false] rfl rfl (by kernel_rfl) (fun _ _ _ h => h) (Or.inl ⟨by rfl, ?_⟩) hHeld ?_ ?_
      rotate_left
      · rintro w' ⟨s0, s1⟩
        go_simp
        with_reducible rfl
      rotate_left
      · simp only [Act.put, List.setIfInBounds_toArray, List.set_cons_zero, List.set_cons_succ, i64_w, i32_w]
        rfl
      refine pure_ (i := 7) (N := some 64) (v := ?_) (a' := ?_) #[true, true, true, true, true, true, true, true, false, false, false, false, false] rfl rfl (by kernel_rfl) (fun _ _ _ h => h) (Or.inl ⟨by rfl, ?_⟩) ?_ ?_
      rotate_left
      · intro w'
        go_simp
        with_reducible rfl
      rotate_left
      · simp only [Act.put, List.setIfInBounds_toArray, List.set_cons_zero, List.set_cons_succ, i64_w, i32_w]
        rfl
      refine one_ (i := 8) (N := some 65) #[true, true, true, true, true, true, true, true, true, false, false, false, false] rfl rfl (by kernel_rfl) (by decide) (fun K hK => ?_)
      refine value_ (w1 := ?_) (v := ?_) (by rfl) rfl ?_ ?_
      rotate_left 2
      · go_simp
        constructor
        · rfl
        · rfl
      refine hK.out _ _ ⟨(cell_step (W := w6.drew) (below_alloc (Below.refl _ _) _) a0), (cell_step (W := w6.drew) (below_alloc (Below.refl _ _) _) k26)⟩ (fun hHeld => ?_)
      clear hK K
      refine norm_ (a' := ?_) ?_ ?_
      rotate_left
      · show Act.put _ (some 65) _ = _
        simp only [Act.put, List.setIfInBounds_toArray, List.set_cons_zero, List.set_cons_succ, i64_w, i32_w]
        rfl
      refine last_ (i := 9) (N := some 66) #[true, true, true, true, true, true, true, true, true, true, false, false, false] rfl rfl (by kernel_rfl) (by decide) (fun K hK => ?_)
      ((try rw [drew_out]); refine Kd.R_append_step kP (w0 := w) base ?hw (.tmp 61) (.tmp 65) 69 68 (.agg #[.int .i64 0, .int .i64 0]) 16 ?ho Try.underlying69 info68 rfl (by decide) (by omega) (.slice (some ⟨g, 0, none⟩) (us.length + 1) cap) (us ++ [(x3, d)]) ((x2, 0) : Int × Int) [.int .i64 x2, .int .i64 0] (fun _ => True) (fun _ => False) ?hs ?hx ?aP (fun _ hk => hk.elim) ?aF ?aO ?aB ?aS ?aL ?_; (case hw => rfl); (case ho => rfl); (case hs => rfl); (case hx => rfl); (case aP => exact kP_mkM _ _ _ ((x2, 0) : Int × Int)); (case aB => exact below_drew HB6.out); (case aF => exact (fun _ _ => trivial)); (case aO => exact (ts_below HT6.out (below_drew (Below.refl _ _))).2.1); (case aS => exact hB6.out); (case aL => (simp; omega)); intro v7 w7 ho hb hg hat; obtain ⟨g7, cap7, ev7, _⟩ := Kd.R_form ho (by simp); have hl7 : (us ++ [(x3, d)] ++ [((x2, 0) : Int × Int)]).length = us.length + 1 + 1 := (by simp); rw [hl7] at ev7; subst ev7; have hT7 := (hg.block T (Array.getElem?_eq_some_iff.1 HT6.out.1).1 (by simp [Value.ownBlock]; exact HNE.out)).trans HT6.out.1; have c7 : w7.cell? ⟨T, 0, none⟩ = some (.slice (some ⟨g, 0, none⟩) (us.length + 1) cap) := (blk_cell hT7 0).trans rfl; have f7 := blk_frozen hT7 0; have HT7 := Aside0.mk hT7; have HR7 := Aside0.mk ho; have HB7 := Aside0.mk hb; have HK7 := Aside0.mk (Kept.of_grown hg (Kept.drew HK6.out) (by simp [Value.ownBlock])); clear hT7 ho hb hg hat hl7)
      refine hK.out _ _ ?_
      clear hK K
      refine norm_ (a' := ?_) ?_ ?_
      rotate_left
      · show Act.put _ (some 66) _ = _
        simp only [Act.put, List.setIfInBounds_toArray, List.set_cons_zero, List.set_cons_succ, i64_w, i32_w]
        rfl
      refine pure_ (i := 10) (N := some 67) (v := ?_) (a' := ?_) #[true, true, true, true, true, true, true, true, true, true, true, false, false] rfl rfl (by kernel_rfl) (fun _ _ _ h => h) (Or.inl ⟨by rfl, ?_⟩) ?_ ?_
      rotate_left
      · intro w'
        go_simp
        with_reducible rfl
      rotate_left
      · simp only [Act.put, List.setIfInBounds_toArray, List.set_cons_zero, List.set_cons_succ, i64_w, i32_w]
        rfl
      refine pure_ (i := 11) (N := some 68) (v := ?_) (a' := ?_) #[true, true, true, true, true, true, true, true, true, true, true, true, false] rfl rfl (by kernel_rfl) (fun _ _ _ h => h) (Or.inl ⟨by rfl, ?_⟩) ?_ ?_
      rotate_left
      · intro w'
        go_simp
        with_reducible rfl
      rotate_left
      · simp only [Act.put, List.setIfInBounds_toArray, List.set_cons_zero, List.set_cons_succ, i64_w, i32_w]
        rfl
      refine last_ (i := 12) (N := none) #[true, true, true, true, true, true, true, true, true, true, true, true, true] rfl rfl (by kernel_rfl) (by decide) (fun K hK => ?_)
      refine skip_ (w1 := ?_) (by rfl) rfl ?_ ?_
      rotate_left
      · go_simp
        rfl
      refine hK.out _ _ ?_
      clear hK K
      refine done_ (by kernel_rfl) ?_
      subst hd
      have HTF := ts_row (n := n + 3) HT7.out HR7.out (ts_base H.out).1
      go_wp2
      go_ret
      exact ⟨rfl, HB7.out.setCell (p := ⟨T, 0, none⟩) (ts_base H.out).1 _, ⟨_, _, HTF⟩, tsK_of H.out (HK7.out.setCell (p := ⟨T, 0, none⟩) (.inl (.inl rfl)) _)⟩
  · rw [if_neg h0] at hr
    simp only [if_neg h0]
    have hb0 : (c1 == 0) = false := by simpa using h0
    have hd0 : decide (c1 = 0) = false := by simpa using h0
    have hbn : (c1 != 0) = true := by simpa using h0
    have HR := Aside0.mk hr
    clear h hr
    go_enter Try.func25, Try.ntmps25
    go_wp2_with (first | ((with_reducible refine gate_dst (N := 3) rfl ?_); refine box_event ?hg (N := 3) ?hd (cs := #[.int .i64 1, .int .i64 x1, .int .i64 x2, .int .i64 x3, .int .i64 x4]) (t := 53) ?hr ?_; (case hd => rfl); (case hg => rfl); (case hr => first | (go_simp; done) | (go_simp; rfl)); intro G2 hg w2 hbox hb; have n0_ := Aside0.mk (below_step (by repeat (first | (with_reducible first | exact HB.out | apply below_alloc | apply pw_below_drewN | apply below_drew1) | exact HB.out)) hb); have n1_ := Aside0.mk hbox; have n2_ := Aside0.mk ((by rw [hg]; exact (below_size (by repeat (first | (with_reducible first | exact HB.out | apply below_alloc | apply pw_below_drewN | apply below_drew1) | exact HB.out)))) : w.heap.size ≤ G2); clear HB; have HB := n0_; have BK2 := n1_; have GE2 := n2_; clear n0_ n1_ n2_; clear hb hbox hg) | (go_at_call 32; refine (last_calls base T g cap us (c0, c1) n _ (ts_below H.out HB.out) HM.out).mono ?_; rintro e w' ⟨rfl, ⟨q, rfl⟩⟩; have HT3 := Aside0.mk (ts_drew (ts_below H.out HB.out) q); have HB3 : Aside0 (Below w.heap.size w (w2.drewN q)) := ⟨pw_below_drewN HB.out q⟩; have BK3 := Aside0.mk (blk_drewN BK2.out q); generalize hw3 : w2.drewN q = w3; rw [hw3] at HT3 HB3 BK3; obtain ⟨t0, t1, f0, f1, e1, e2, e3, e4, HNE⟩ := ts_cells HT3.out; clear HB BK2 hw3))
    have hlt := (Array.getElem?_eq_some_iff.1 H.out.1).1
    have hlg := Kd.R_lt H.out.2.1 g rfl
    have HG : Aside0 (G2 ≠ T ∧ G2 ≠ g) := ⟨by have := GE2.out; omega⟩
    obtain ⟨d, hd⟩ : ∃ q, c1 = q := ⟨_, rfl⟩
    obtain ⟨w4, hw4⟩ : ∃ q, w3 = q := ⟨_, rfl⟩
    rw [hd] at HT3 HR
    rw [hd]
    have HT4 := HT3
    have HB4 : Aside0 (Below base w w3) := ⟨HB3.out.mono (ts_base H.out).2.2⟩
    have HK4 : Aside0 (Kept w w3 fun k => k = T ∨ k = g) := ⟨Kept.of_below HB3.out _⟩
    have BK4 := BK3
    rw [hw4] at HT4 HB4 HK4 BK4
    rw [hw4]
    clear hlt hlg t0 t1 f0 f1 e1 e2 e3 e4 HNE hw4 HT3 HB3 BK3
    have HNE := Aside0.mk (ts_cells HT4.out).2.2.2.2.2.2.2.2
    obtain ⟨t0, t1, f0, f1, e1, e2, e3, e4, _⟩ := ts_cells HT4.out
    have k0 : w4.cell? ⟨G2, 0, none⟩ = some (.int .i64 1) := (blk_cell BK4.out 0).trans rfl
    have k1 : w4.cell? ⟨G2, 1, none⟩ = some (.int .i64 x1) := (blk_cell BK4.out 1).trans rfl
    have k2 : w4.cell? ⟨G2, 2, none⟩ = some (.int .i64 x2) := (blk_cell BK4.out 2).trans rfl
    have k3 : w4.cell? ⟨G2, 3, none⟩ = some (.int .i64 x3) := (blk_cell BK4.out 3).trans rfl
    have k4 : w4.cell? ⟨G2, 4, none⟩ = some (.int .i64 x4) := (blk_cell BK4.out 4).trans rfl
    have hq : ∀ W, (binOp .neq 53 (.agg #[.int .i64 1, .int .i64 x1, .int .i64 x2, .int .i64 x3, .int .i64 x4]) (.agg #[.int .i64 1, .int .i64 c0, .int .i64 (n : Int), .int .i64 ((n : Int) + 1), .int .i64 d])).run Try.prog W = .ok (.bool (!r)) W := fun W => neq53 W _ _ _ _ _ _ _ _ _ _ r (by
      rw [← HR.out]
      rw [Bool.eq_iff_iff]
      simp)
    cases r with
    | false =>
      go_quiet (fail)
      go_wp2
      go_ret
      first | exact ⟨rfl, pw_below_drewN HB4.out _, fun h => by cases h⟩ | exact ⟨rfl, pw_below_drewN HB4.out _⟩
    | true =>
      go_quiet (fail)
      have HT5 := Aside0.mk (ts_drew HT4.out nq)
      have HB5 := Aside0.mk (pw_below_drewN HB4.out nq)
      have BK5 := Aside0.mk (blk_drewN BK4.out nq)
      have HK5 := Aside0.mk (kept_drewN HK4.out nq)
      clear hq k0 k1 k2 k3 k4 t0 t1 f0 f1 e1 e2 e3 e4 HT4 HB4 BK4 HK4
      obtain ⟨w5, hw5⟩ : ∃ q, w4.drewN nq = q := ⟨_, rfl⟩
      rw [hw5] at HT5 HB5 BK5 HK5
      rw [hw5]
      obtain ⟨t0, t1, f0, f1, e1, e2, e3, e4, _⟩ := ts_cells HT5.out
      have k2 : w5.cell? ⟨G2, 2, none⟩ = some (.int .i64 x2) := (blk_cell BK5.out 2).trans rfl
      have k3 : w5.cell? ⟨G2, 3, none⟩ = some (.int .i64 x3) := (blk_cell BK5.out 3).trans rfl
      have hGT : G2 ≠ T := HG.out.1
      have hGg : G2 ≠ g := HG.out.2
      have k3' : (w5.setCell ⟨T, 1, none⟩ (.int .i64 ((n : Int) + 2))).cell? ⟨G2, 3, none⟩ = some (.int .i64 x3) := (cell_at_blk (Below.heap_setCell w5 ⟨T, 1, none⟩ _ G2 hGT)).trans k3
      have e1' : (w5.setCell ⟨T, 1, none⟩ (.int .i64 ((n : Int) + 2))).cell? ⟨g, us.length * 2, none⟩ = some (.int .i64 c0) := (cell_at_blk (Below.heap_setCell w5 ⟨T, 1, none⟩ _ g (Ne.symm HNE.out))).trans e1
      have e3' : (w5.setCell ⟨T, 1, none⟩ (.int .i64 ((n : Int) + 2))).frozen? ⟨g, us.length * 2, none⟩ = false := by have := (ts_cells (ts_setn HT5.out (n + 2))).2.2.2.2.2.2.1; exact this
      have hc5 : ((n + 2 : Nat) : Int) = (n : Int) + 2 := rfl
      have hT6 := ts_set0 (ts_setn HT5.out (n + 2)) x3
      rw [hc5] at hT6
      have HT6 := Aside0.mk hT6
      have hb6 := ts_base H.out
      have HB6 := Aside0.mk ((HB5.out.setCell (p := ⟨T, 1, none⟩) hb6.1 (.int .i64 ((n : Int) + 2))).setCell (p := ⟨g, us.length * 2, none⟩) hb6.2.1 (.int .i64 x3))
      have HK6 := Aside0.mk ((HK5.out.setCell (p := ⟨T, 1, none⟩) (.inl (.inl rfl)) (.int .i64 ((n : Int) + 2))).setCell (p := ⟨g, us.length * 2, none⟩) (.inl (.inr rfl)) (.int .i64 x3))
      have k26 : ((w5.setCell ⟨T, 1, none⟩ (.int .i64 ((n : Int) + 2))).setCell ⟨g, us.length * 2, none⟩ (.int .i64 x3)).cell? ⟨G2, 2, none⟩ = some (.int .i64 x2) := (cell_at_blk (Below.heap_setCell _ ⟨g, us.length * 2, none⟩ _ G2 hGg)).trans ((cell_at_blk (Below.heap_setCell w5 ⟨T, 1, none⟩ _ G2 hGT)).trans k2)
      clear hc5 hT6 hb6
      go_wp2
      obtain ⟨w6, hw6⟩ : ∃ q, (w5.setCell ⟨T, 1, none⟩ (.int .i64 ((n : Int) + 2))).setCell ⟨g, us.length * 2, none⟩ (.int .i64 x3) = q := ⟨_, rfl⟩
      rw [hw6] at HT6 HB6 HK6 k26
      rw [hw6]
      have a0 := (ts_cells HT6.out).1
      have hB6 : Aside0 (base ≤ w6.drew.heap.size) := ⟨(ts_base HT6.out).2.2⟩
      clear hw6 t0 t1 f0 f1 e1 e2 e3 e4 k2 k3 k3' e1' e3' hw5 hGT hGg HT5 HB5 BK5 HK5
      refine start_ (n := 13) (S := fun w' => w'.cell? ⟨T, 0, none⟩ = some (.slice (some ⟨g, 0, none⟩) (us.length + 1) cap) ∧ w'.cell? ⟨G2, 2, none⟩ = some (.int .i64 x2)) (ds := [9, 12]) #[false, false, false, false, false, false, false, false, false, false, false, false, false] (by kernel_rfl) rfl rfl ⟨a0, k26⟩ (fun hHeld => ?_)
      refine pure_ (i := 0) (N := some 57) (v := ?_) (a' := ?_) #[true, false, false, false, false, false, false, false, false, false, false, false, false] rfl rfl (by kernel_rfl) (fun _ _ _ h => h) (Or.inl ⟨by rfl, ?_⟩) ?_ ?_
      rotate_left
      · intro w'
        go_simp
        with_reducible rfl
      rotate_left
      · simp only [Act.put, List.setIfInBounds_toArray, List.set_cons_zero, List.set_cons_succ, i64_w, i32_w]
        rfl
      refine pure_ (i := 1) (N := some 58) (v := ?_) (a' := ?_) #[true, true, false, false, false, false, false, false, false, false, false, false, false] rfl rfl (by kernel_rfl) (fun _ _ _ h => h) (Or.inl ⟨by rfl, ?_⟩) ?_ ?_
      rotate_left
      · intro w'
        go_simp
        with_reducible rfl
      rotate_left
      · simp only [Act.put, List.setIfInBounds_toArray, List.set_cons_zero, List.set_cons_succ, i64_w, i32_w]
        rfl
      refine pure_ (i := 2) (N := some 59) (v := ?_) (a' := ?_) #[true, true, true, false, false, false, false, false, false, false, false, false, false] rfl rfl (by kernel_rfl) (fun _ _ _ h => h) (Or.inl ⟨by rfl, ?_⟩) ?_ ?_
      rotate_left
      · intro w'
        go_simp
        with_reducible rfl
      rotate_left
      · simp only [Act.put, List.setIfInBounds_toArray, List.set_cons_zero, List.set_cons_succ, i64_w, i32_w]
        rfl
      refine pure_ (i := 3) (N := some 60) (v := ?_) (a' := ?_) #[true, true, true, true, false, false, false, false, false, false, false, false, false] rfl rfl (by kernel_rfl) (fun _ _ _ h => h) (Or.inl ⟨by rfl, ?_⟩) ?_ ?_
      rotate_left
      · intro w'
        go_simp
        with_reducible rfl
      rotate_left
      · simp only [Act.put, List.setIfInBounds_toArray, List.set_cons_zero, List.set_cons_succ, i64_w, i32_w]
        rfl
      refine pure_ (i := 5) (N := some 62) (v := ?_) (a' := ?_) #[true, true, true, true, false, true, false, false, false, false, false, false, false] rfl rfl (by kernel_rfl) (fun _ _ _ h => h) (Or.inl ⟨by rfl, ?_⟩) ?_ ?_
      rotate_left
      · intro w'
        go_simp
        with_reducible rfl
      rotate_left
      · simp only [Act.put, List.setIfInBounds_toArray, List.set_cons_zero, List.set_cons_succ, i64_w, i32_w]
        rfl
      refine take_ (i := 4) (N := some 61) (v := ?_) (a' := ?_) #[true, true, true, true, true, true, false, false, false, false, false, false, false] rfl rfl (by kernel_rfl) (fun _ _ _ h => h) (Or.inl ⟨by rfl, ?_⟩) hHeld ?_ ?_
      rotate_left
      · rintro w' ⟨s0, s1⟩
        go_simp
        with_reducible rfl
      rotate_left
      · simp only [Act.put, List.setIfInBounds_toArray, List.set_cons_zero, List.set_cons_succ, i64_w, i32_w]
        rfl
      refine take_ (i := 6) (N := some 63) (v := ?_) (a' := ?_) #[true, true, true, true, true, true, true, false, false, false, false, false, false] rfl rfl (by kernel_rfl) (fun _ _ _ h => h) (Or.inl ⟨by rfl, ?_⟩) hHeld ?_ ?_
      rotate_left
      · rintro w' ⟨s0, s1⟩
        go_simp
        with_reducible rfl
      rotate_left
      · simp only [Act.put, List.setIfInBounds_toArray, List.set_cons_zero, List.set_cons_succ, i64_w, i32_w]
        rfl
      refine pure_ (i := 7) (N := some 64) (v := ?_) (a' := ?_) #[true, true, true, true, true, true, true, true, false, false, false, false, false] rfl rfl (by kernel_rfl) (fun _ _ _ h => h) (Or.inl ⟨by rfl, ?_⟩) ?_ ?_
      rotate_left
      · intro w'
        go_simp
        with_reducible rfl
      rotate_left
      · simp only [Act.put, List.setIfInBounds_toArray, List.set_cons_zero, List.set_cons_succ, i64_w, i32_w]
        rfl
      refine one_ (i := 8) (N := some 65) #[true, true, true, true, true, true, true, true, true, false, false, false, false] rfl rfl (by kernel_rfl) (by decide) (fun K hK => ?_)
      refine value_ (w1 := ?_) (v := ?_) (by rfl) rfl ?_ ?_
      rotate_left 2
      · go_simp
        constructor
        · rfl
        · rfl
      refine hK.out _ _ ⟨(cell_step (W := w6.drew) (below_alloc (Below.refl _ _) _) a0), (cell_step (W := w6.drew) (below_alloc (Below.refl _ _) _) k26)⟩ (fun hHeld => ?_)
      clear hK K
      refine norm_ (a' := ?_) ?_ ?_
      rotate_left
      · show Act.put _ (some 65) _ = _
        simp only [Act.put, List.setIfInBounds_toArray, List.set_cons_zero, List.set_cons_succ, i64_w, i32_w]
        rfl
      refine last_ (i := 9) (N := some 66) #[true, true, true, true, true, true, true, true, true, true, false, false, false] rfl rfl (by kernel_rfl) (by decide) (fun K hK => ?_)
      ((try rw [drew_out]); refine Kd.R_append_step kP (w0 := w) base ?hw (.tmp 61) (.tmp 65) 69 68 (.agg #[.int .i64 0, .int .i64 0]) 16 ?ho Try.underlying69 info68 rfl (by decide) (by omega) (.slice (some ⟨g, 0, none⟩) (us.length + 1) cap) (us ++ [(x3, d)]) ((x2, 0) : Int × Int) [.int .i64 x2, .int .i64 0] (fun _ => True) (fun _ => False) ?hs ?hx ?aP (fun _ hk => hk.elim) ?aF ?aO ?aB ?aS ?aL ?_; (case hw => rfl); (case ho => rfl); (case hs => rfl); (case hx => rfl); (case aP => exact kP_mkM _ _ _ ((x2, 0) : Int × Int)); (case aB => exact below_drew HB6.out); (case aF => exact (fun _ _ => trivial)); (case aO => exact (ts_below HT6.out (below_drew (Below.refl _ _))).2.1); (case aS => exact hB6.out); (case aL => (simp; omega)); intro v7 w7 ho hb hg hat; obtain ⟨g7, cap7, ev7, _⟩ := Kd.R_form ho (by simp); have hl7 : (us ++ [(x3, d)] ++ [((x2, 0) : Int × Int)]).length = us.length + 1 + 1 := (by simp); rw [hl7] at ev7; subst ev7; have hT7 := (hg.block T (Array.getElem?_eq_some_iff.1 HT6.out.1).1 (by simp [Value.ownBlock]; exact HNE.out)).trans HT6.out.1; have c7 : w7.cell? ⟨T, 0, none⟩ = some (.slice (some ⟨g, 0, none⟩) (us.length + 1) cap) := (blk_cell hT7 0).trans rfl; have f7 := blk_frozen hT7 0; have HT7 := Aside0.mk hT7; have HR7 := Aside0.mk ho; have HB7 := Aside0.mk hb; have HK7 := Aside0.mk (Kept.of_grown hg (Kept.drew HK6.out) (by simp [Value.ownBlock])); clear hT7 ho hb hg hat hl7)
      refine hK.out _ _ ?_
      clear hK K
      refine norm_ (a' := ?_) ?_ ?_
      rotate_left
      · show Act.put _ (some 66) _ = _
        simp only [Act.put, List.setIfInBounds_toArray, List.set_cons_zero, List.set_cons_succ, i64_w, i32_w]
        rfl
      refine pure_ (i := 10) (N := some 67) (v := ?_) (a' := ?_) #[true, true, true, true, true, true, true, true, true, true, true, false, false] rfl rfl (by kernel_rfl) (fun _ _ _ h => h) (Or.inl ⟨by rfl, ?_⟩) ?_ ?_
      rotate_left
      · intro w'
        go_simp
        with_reducible rfl
      rotate_left
      · simp only [Act.put, List.setIfInBounds_toArray, List.set_cons_zero, List.set_cons_succ, i64_w, i32_w]
        rfl
      refine pure_ (i := 11) (N := some 68) (v := ?_) (a' := ?_) #[true, true, true, true, true, true, true, true, true, true, true, true, false] rfl rfl (by kernel_rfl) (fun _ _ _ h => h) (Or.inl ⟨by rfl, ?_⟩) ?_ ?_
      rotate_left
      · intro w'
        go_simp
        with_reducible rfl
      rotate_left
      · simp only [Act.put, List.setIfInBounds_toArray, List.set_cons_zero, List.set_cons_succ, i64_w, i32_w]
        rfl
      refine last_ (i := 12) (N := none) #[true, true, true, true, true, true, true, true, true, true, true, true, true] rfl rfl (by kernel_rfl) (by decide) (fun K hK => ?_)
      refine skip_ (w1 := ?_) (by rfl) rfl ?_ ?_
      rotate_left
      · go_simp
        rfl
      refine hK.out _ _ ?_
      clear hK K
      refine done_ (by kernel_rfl) ?_
      subst hd
      have HTF := ts_row (n := n + 2) HT7.out HR7.out (ts_base H.out).1
      go_wp2
      go_ret
      exact ⟨rfl, HB7.out.setCell (p := ⟨T, 0, none⟩) (ts_base H.out).1 _, ⟨_, _, HTF⟩, tsK_of H.out (HK7.out.setCell (p := ⟨T, 0, none⟩) (.inl (.inl rfl)) _)⟩
end Go.Proofs.Ythjecgmgpnileaa.Bd
