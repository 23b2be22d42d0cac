/- The tasks that there are: the last one, a join: walked. -/
import Derived.Test.YthjecgmgpnileaaC8
import Derived.Test.YthjecgmgpnileaaWEqStruct
namespace Go.Proofs.Ythjecgmgpnileaa.Bd
open Go.RowKit Go.Lib Go.Proofs.YthjecgmgpnileaaW.PrintWords Go.Proofs.YthjecgmgpnileaaW.PrintLast Go.Proofs.YthjecgmgpnileaaW.PrintMore
attribute [local go_sem] max2_int min2_int max_two min_two max_three min_three max_four min_four   -- for this text's walks alone
set_option linter.unusedVariables false
set_option linter.unusedSimpArgs false

def enc53 (x : S53) : Value := .agg #[.int .i64 x.f0, .int .i64 x.f1, .int .i64 x.f2, .int .i64 x.f3, .int .i64 x.f4]
theorem eqA53 (d : Nat) (w : World) (x0 y0 : Int) (x1 y1 : Int) (x2 y2 : Int) (x3 y3 : Int) (x4 y4 : Int) :
    (Op.equalIn (d + 2) 53 (.agg #[.int .i64 x0, .int .i64 x1, .int .i64 x2, .int .i64 x3, .int .i64 x4]) (.agg #[.int .i64 y0, .int .i64 y1, .int .i64 y2, .int .i64 y3, .int .i64 y4])).run Try.prog w = .ok (x0 == y0 && (x1 == y1 && (x2 == y2 && (x3 == y3 && (x4 == y4))))) w := by
  refine eqA_of Try.underlying53 (by kernel_rfl) ?_
  refine eqf_cons (by rfl) (by go_simp; rfl) (by go_simp; rfl) (by go_simp) ?_
  refine eqf_cons (by rfl) (by go_simp; rfl) (by go_simp; rfl) (by go_simp) ?_
  refine eqf_cons (by rfl) (by go_simp; rfl) (by go_simp; rfl) (by go_simp) ?_
  refine eqf_cons (by rfl) (by go_simp; rfl) (by go_simp; rfl) (by go_simp) ?_
  exact eqf_last (by rfl) (by go_simp; rfl) (by go_simp; rfl) (by go_simp)
theorem guard53 : Try.prog.eqGuardType Try.prog.depth 53 = false := by kernel_rfl
theorem neq53 (w : World) (x0 x1 x2 x3 x4 y0 y1 y2 y3 y4 : Int) (s : Bool) (hs : (x0 == y0 && (x1 == y1 && (x2 == y2 && (x3 == y3 && (x4 == y4))))) = s) :
    (binOp .neq 53 (.agg #[.int .i64 x0, .int .i64 x1, .int .i64 x2, .int .i64 x3, .int .i64 x4]) (.agg #[.int .i64 y0, .int .i64 y1, .int .i64 y2, .int .i64 y3, .int .i64 y4])).run Try.prog w = .ok (.bool (!s)) w := by
  rw [run_neq_struct, eqA53 9998]
  simp [hs, Result.andThen]
theorem eql53 (w : World) (x0 x1 x2 x3 x4 y0 y1 y2 y3 y4 : Int) (s : Bool) (hs : (x0 == y0 && (x1 == y1 && (x2 == y2 && (x3 == y3 && (x4 == y4))))) = s) :
    (binOp .eql 53 (.agg #[.int .i64 x0, .int .i64 x1, .int .i64 x2, .int .i64 x3, .int .i64 x4]) (.agg #[.int .i64 y0, .int .i64 y1, .int .i64 y2, .int .i64 y3, .int .i64 y4])).run Try.prog w = .ok (.bool s) w := by
  rw [run_eql_struct, eqA53 9998]
  simp [hs, Result.andThen]

/-- The tasks, in memory. -/
def TsAt (W : World) (base T g cap : Nat) (us : List (Int × Int)) (cur : Int × Int) (n : Nat) : Prop :=
  W.heap[T]? = some (.cells #[.slice (some ⟨g, 0, none⟩) (us.length + 1) cap, .int .i64 (n : Int)] 71 (0, 0)) ∧ Kd.R kP 68 W base (fun _ => True) (.slice (some ⟨g, 0, none⟩) (us.length + 1) cap) (us ++ [cur]) ∧ base ≤ T
theorem ts_cells {W : World} {base T g cap : Nat} {us : List (Int × Int)} {cur : Int × Int} {n : Nat} (h : TsAt W base T g cap us cur n) :
    W.cell? ⟨T, 0, none⟩ = some (.slice (some ⟨g, 0, none⟩) (us.length + 1) cap) ∧ W.cell? ⟨T, 1, none⟩ = some (.int .i64 (n : Int)) ∧ W.frozen? ⟨T, 0, none⟩ = false ∧ W.frozen? ⟨T, 1, none⟩ = false ∧
    W.cell? ⟨g, us.length * 2, none⟩ = some (.int .i64 cur.1) ∧ W.cell? ⟨g, us.length * 2 + 1, none⟩ = some (.int .i64 cur.2) ∧ W.frozen? ⟨g, us.length * 2, none⟩ = false ∧ W.frozen? ⟨g, us.length * 2 + 1, none⟩ = false ∧ T ≠ g := by
  obtain ⟨hT, hR, _⟩ := h
  obtain ⟨c, hcl, hM, hcc, hcf⟩ := Kd.R_elem hR (0, 0) (us.length : Int) (by omega) (by omega)
  have hx : (us ++ [cur]).getD ((us.length : Int).toNat) (0, 0) = cur := by simp
  rw [hx] at hM
  obtain ⟨_, _, rfl, rfl, rfl⟩ := hM
  rw [Int.toNat_natCast] at hcc hcf
  have hs : Kd.sz kP = 2 := rfl
  rw [hs] at hcc hcf
  refine ⟨(blk_cell hT 0).trans rfl, (blk_cell hT 1).trans rfl, blk_frozen hT 0, blk_frozen hT 1, hcc 0 _ rfl, hcc 1 _ rfl, hcf 0, hcf 1, fun e => ?_⟩
  subst e
  obtain ⟨cs, h2⟩ := Kd.R_typed hR T rfl
  rw [hT] at h2
  cases h2
set_option maxHeartbeats 4000000 in
set_option maxRecDepth 100000 in
theorem last_calls (base T g cap : Nat) (us : List (Int × Int)) (cur : Int × Int) (n : Nat) (w : World) (h : TsAt w base T g cap us cur n) (hm : us.length ≤ 1000) :
    Calls Try.prog 32 #[.pointer (some ⟨T, 0, none⟩)] w fun e w' => e = .returned (.pointer (some ⟨g, us.length * 2, none⟩)) ∧ ∃ q, w' = w.drewN q := by
  obtain ⟨h1, _⟩ := ts_cells h
  have hi : (us.length : Int) ≤ 1000 := by omega
  have hb : (us.length : Int) < ((us.length + 1 : Nat) : Int) := by omega
  clear h
  go_enter Try.func32, Try.ntmps32
  go_wp2
  go_quiet (fail)
  go_wp2
  go_ret
  exact ⟨rfl, _, rfl⟩
/-- The last task's cells are written. -/
theorem ts_set {W : World} {base T g cap : Nat} {us : List (Int × Int)} {cur : Int × Int} {n : Nat} (h : TsAt W base T g cap us cur n) (a b : Int) :
    TsAt ((W.setCell ⟨g, us.length * 2, none⟩ (.int .i64 a)).setCell ⟨g, us.length * 2 + 1, none⟩ (.int .i64 b)) base T g cap us (a, b) n := by
  have hne := (ts_cells h).2.2.2.2.2.2.2.2
  obtain ⟨hT, hR, hb⟩ := h
  obtain ⟨c, hcl, hM, hcc, hcf⟩ := Kd.R_elem hR (0, 0) (us.length : Int) (by omega) (by omega)
  have hs := (Kd.R_seg hR (us.length : Int) (by omega) (by omega) (c := c) (seg := [.int .i64 a, .int .i64 b]) (j := 0) hcl hcc (Nat.le_refl 2) (x' := (a, b)) (okp := fun _ => False) (by
    have : c.drop 2 = [] := List.drop_of_length_le (by rw [hcl]; decide)
    show kP.M W base _ (a, b) (c.take 0 ++ [.int .i64 a, .int .i64 b] ++ c.drop 2)
    rw [this]
    exact kP_mkM _ _ _ (a, b)) (fun _ hk => hk.elim)).1
  have hst : (us ++ [cur]).set ((us.length : Int).toNat) (a, b) = us ++ [(a, b)] := by simp
  rw [hst] at hs
  have hw : W.setCells g ((us.length : Int).toNat * kP.sz + 0) [.int .i64 a, .int .i64 b] = (W.setCell ⟨g, us.length * 2, none⟩ (.int .i64 a)).setCell ⟨g, us.length * 2 + 1, none⟩ (.int .i64 b) := rfl
  rw [hw] at hs
  refine ⟨?_, hs, hb⟩
  exact (Below.heap_setCell _ ⟨g, _, none⟩ _ T hne).trans ((Below.heap_setCell _ ⟨g, _, none⟩ _ T hne).trans hT)
theorem ts_set1 {W : World} {base T g cap : Nat} {us : List (Int × Int)} {cur : Int × Int} {n : Nat} (h : TsAt W base T g cap us cur n) (b : Int) :
    TsAt (W.setCell ⟨g, us.length * 2 + 1, none⟩ (.int .i64 b)) base T g cap us (cur.1, b) n := by
  have hne := (ts_cells h).2.2.2.2.2.2.2.2
  obtain ⟨hT, hR, hb⟩ := h
  obtain ⟨c, hcl, hM, hcc, hcf⟩ := Kd.R_elem hR (0, 0) (us.length : Int) (by omega) (by omega)
  have hx : (us ++ [cur]).getD ((us.length : Int).toNat) (0, 0) = cur := by simp
  rw [hx] at hM
  obtain ⟨_, _, rfl, rfl, rfl⟩ := hM
  have hs := (Kd.R_seg hR (us.length : Int) (by omega) (by omega) (seg := [.int .i64 b]) (j := 1) hcl hcc (Nat.le_refl 2) (x' := (cur.1, b)) (okp := fun _ => False) (kP_mkM _ _ _ (cur.1, b)) (fun _ hk => hk.elim)).1
  have hst : (us ++ [cur]).set ((us.length : Int).toNat) (cur.1, b) = us ++ [(cur.1, b)] := by simp
  rw [hst] at hs
  have hw : W.setCells g ((us.length : Int).toNat * kP.sz + 1) [.int .i64 b] = W.setCell ⟨g, us.length * 2 + 1, none⟩ (.int .i64 b) := rfl
  rw [hw] at hs
  exact ⟨(Below.heap_setCell _ ⟨g, _, none⟩ _ T hne).trans hT, hs, hb⟩
theorem ts_set0 {W : World} {base T g cap : Nat} {us : List (Int × Int)} {cur : Int × Int} {n : Nat} (h : TsAt W base T g cap us cur n) (a : Int) :
    TsAt (W.setCell ⟨g, us.length * 2, none⟩ (.int .i64 a)) base T g cap us (a, cur.2) n := by
  have hne := (ts_cells h).2.2.2.2.2.2.2.2
  obtain ⟨hT, hR, hb⟩ := h
  obtain ⟨c, hcl, hM, hcc, hcf⟩ := Kd.R_elem hR (0, 0) (us.length : Int) (by omega) (by omega)
  have hx : (us ++ [cur]).getD ((us.length : Int).toNat) (0, 0) = cur := by simp
  rw [hx] at hM
  obtain ⟨_, _, rfl, rfl, rfl⟩ := hM
  have hs := (Kd.R_seg hR (us.length : Int) (by omega) (by omega) (seg := [.int .i64 a]) (j := 0) hcl hcc (Nat.le_succ 1) (x' := (a, cur.2)) (okp := fun _ => False) (kP_mkM _ _ _ (a, cur.2)) (fun _ hk => hk.elim)).1
  have hst : (us ++ [cur]).set ((us.length : Int).toNat) (a, cur.2) = us ++ [(a, cur.2)] := by simp
  rw [hst] at hs
  have hw : W.setCells g ((us.length : Int).toNat * kP.sz + 0) [.int .i64 a] = W.setCell ⟨g, us.length * 2, none⟩ (.int .i64 a) := rfl
  rw [hw] at hs
  exact ⟨(Below.heap_setCell _ ⟨g, _, none⟩ _ T hne).trans hT, hs, hb⟩
/-- What these write: blocks of tasks alone. -/
def TsK (w w' : World) : Prop := Kept w w' fun k => ∃ cs, w.heap[k]? = some (.cells cs 71 (0, 0)) ∨ w.heap[k]? = some (.cells cs 68 (0, 0))
theorem tsK_of {w w' : World} {base T g cap : Nat} {us : List (Int × Int)} {cur : Int × Int} {n : Nat} (h : TsAt w base T g cap us cur n) (hk : Kept w w' fun k => k = T ∨ k = g) : TsK w w' :=
  Kept.mono hk fun k hk => by
    rcases hk with rfl | rfl
    · exact ⟨_, .inl h.1⟩
    · obtain ⟨cs, h2⟩ := Kd.R_typed h.2.1 k rfl
      exact ⟨cs, .inr h2⟩
theorem ts_below {w w' : World} {base T g cap : Nat} {us : List (Int × Int)} {cur : Int × Int} {n : Nat} (h : TsAt w base T g cap us cur n) (hb : Below w.heap.size w w') : TsAt w' base T g cap us cur n :=
  ⟨(hb.block T (Array.getElem?_eq_some_iff.1 h.1).1).trans h.1, Kd.R_below h.2.1 hb, h.2.2⟩
theorem ts_drew {w : World} {base T g cap : Nat} {us : List (Int × Int)} {cur : Int × Int} {n : Nat} (h : TsAt w base T g cap us cur n) (m : Nat) : TsAt (w.drewN m) base T g cap us cur n :=
  ts_below h (pw_below_drewN (Below.refl _ _) m)
theorem kept_drewN {w W : World} {S : Nat → Prop} (h : Kept w W S) (m : Nat) : Kept w (W.drewN m) S := h.below (pw_below_drewN (Below.refl _ _) m)
theorem ts_base {w : World} {base T g cap : Nat} {us : List (Int × Int)} {cur : Int × Int} {n : Nat} (h : TsAt w base T g cap us cur n) : base ≤ T ∧ base ≤ g ∧ base ≤ w.heap.size :=
  ⟨h.2.2, Kd.R_base h.2.1 g rfl, Nat.le_trans h.2.2 (Nat.le_of_lt (Array.getElem?_eq_some_iff.1 h.1).1)⟩
theorem join_end {w W : World} {base T g cap : Nat} {us : List (Int × Int)} {cur : Int × Int} {n : Nat} (h : TsAt w base T g cap us cur n) (hB : Below w.heap.size w W) (a b : Int) :
    TsAt ((W.setCell ⟨g, us.length * 2, none⟩ (.int .i64 a)).setCell ⟨g, us.length * 2 + 1, none⟩ (.int .i64 b)) base T g cap us (a, b) n ∧ Below base w ((W.setCell ⟨g, us.length * 2, none⟩ (.int .i64 a)).setCell ⟨g, us.length * 2 + 1, none⟩ (.int .i64 b)) ∧ TsK w ((W.setCell ⟨g, us.length * 2, none⟩ (.int .i64 a)).setCell ⟨g, us.length * 2 + 1, none⟩ (.int .i64 b)) := by
  obtain ⟨b1, b2, b3⟩ := ts_base h
  refine ⟨ts_set (ts_below h hB) a b, (((hB.mono b3).setCell (p := ⟨g, us.length * 2, none⟩) b2 _).setCell (p := ⟨g, us.length * 2 + 1, none⟩) b2 _), tsK_of h ?_⟩
  exact ((Kept.of_below hB _).setCell (p := ⟨g, us.length * 2, none⟩) (.inl (.inr rfl)) _).setCell (p := ⟨g, us.length * 2 + 1, none⟩) (.inl (.inr rfl)) _
set_option maxHeartbeats 4000000 in
set_option maxRecDepth 100000 in
/-- An SJoin. -/
theorem join_calls (base T g cap : Nat) (us : List (Int × Int)) (cur : Int × Int) (n : Nat) (x : S53) (w : World) (h : TsAt w base T g cap us cur n) (hm : us.length ≤ 1000) (hk : x.f0 = 3) (r : Bool) (hr : decide (cur.2 ≠ 0 ∧ (x.f1 = cur.1 ∧ x.f2 = 0 ∧ x.f3 = 0 ∧ x.f4 = cur.2)) = r) :
    Calls Try.prog 27 #[.pointer (some ⟨T, 0, none⟩), enc53 x] w fun e w' => e = .returned (.bool r) ∧ Below base w w' ∧ (r = true → TsAt w' base T g cap us (x.f4, 0) n ∧ TsK w w') := by
  obtain ⟨x0, x1, x2, x3, x4⟩ := x
  obtain ⟨c0, c1⟩ := cur
  simp only at hk hr
  subst hk
  have H := Aside0.mk h
  have HR := Aside0.mk hr
  have HM := Aside0.mk hm
  have HB := Aside0.mk (Below.refl w.heap.size w)
  unfold enc53
  clear h hr
  go_enter Try.func27, Try.ntmps27
  go_wp2_with (first | ((with_reducible refine gate_dst (N := 3) rfl ?_); refine box_event ?hg (N := 3) ?hd (cs := #[.int .i64 3, .int .i64 x1, .int .i64 x2, .int .i64 x3, .int .i64 x4]) (t := 53) ?hr ?_; (case hd => rfl); (case hg => rfl); (case hr => first | (go_simp; done) | (go_simp; rfl)); intro G2 hg w2 hbox hb; have n0_ := Aside0.mk (below_step (by repeat (first | (with_reducible first | exact HB.out | apply below_alloc | apply pw_below_drewN | apply below_drew1) | exact HB.out)) hb); have n1_ := Aside0.mk hbox; have n2_ := Aside0.mk ((by rw [hg]; exact (below_size (by repeat (first | (with_reducible first | exact HB.out | apply below_alloc | apply pw_below_drewN | apply below_drew1) | exact HB.out)))) : w.heap.size ≤ G2); clear HB; have HB := n0_; have BK2 := n1_; have GE2 := n2_; clear n0_ n1_ n2_; clear hb hbox hg) | (go_at_call 32; refine (last_calls base T g cap us (c0, c1) n _ (ts_below H.out HB.out) HM.out).mono ?_; rintro e w' ⟨rfl, ⟨q, rfl⟩⟩))
  generalize hw3 : w2.drewN q = w3
  have HB3 : Aside0 (Below w.heap.size w w3) := ⟨by subst hw3; exact pw_below_drewN HB.out q⟩
  have BK3 : Aside0 (w3.heap[G2]? = some (.cells #[.int .i64 3, .int .i64 x1, .int .i64 x2, .int .i64 x3, .int .i64 x4] 53 (0, 0))) := ⟨by subst hw3; exact blk_drewN BK2.out q⟩
  clear hw3 HB BK2
  obtain ⟨_, _, _, _, e1, e2, e3, e4, _⟩ := ts_cells (ts_below H.out HB3.out)
  have k0 : w3.cell? ⟨G2, 0, none⟩ = some (.int .i64 3) := (blk_cell BK3.out 0).trans rfl
  have k1 : w3.cell? ⟨G2, 1, none⟩ = some (.int .i64 x1) := (blk_cell BK3.out 1).trans rfl
  have k2 : w3.cell? ⟨G2, 2, none⟩ = some (.int .i64 x2) := (blk_cell BK3.out 2).trans rfl
  have k3 : w3.cell? ⟨G2, 3, none⟩ = some (.int .i64 x3) := (blk_cell BK3.out 3).trans rfl
  have k4 : w3.cell? ⟨G2, 4, none⟩ = some (.int .i64 x4) := (blk_cell BK3.out 4).trans rfl
  by_cases h0 : c1 = 0
  · subst h0
    go_quiet (fail)
    go_wp2
    go_ret
    have hr : r = false := by rw [← HR.out]; simp
    subst hr
    exact ⟨rfl, (pw_below_drewN HB3.out _).mono (ts_base H.out).2.2, fun h => by cases h⟩
  · have hb0 : (c1 == 0) = false := by simpa using h0
    have hd0 : decide (c1 = 0) = false := by simpa using h0
    by_cases hc : x1 = c0 ∧ x2 = 0 ∧ x3 = 0 ∧ x4 = c1
    · have hq : ∀ W, (binOp .neq 53 (.agg #[.int .i64 3, .int .i64 x1, .int .i64 x2, .int .i64 x3, .int .i64 x4]) (.agg #[.int .i64 3, .int .i64 c0, .int .i64 0, .int .i64 0, .int .i64 c1])).run Try.prog W = .ok (.bool false) W := fun W => neq53 W _ _ _ _ _ _ _ _ _ _ true (by simp [hc])
      have HC := Aside0.mk (And.intro h0 hc)
      clear hc h0
      go_quiet (fail)
      go_wp2
      go_ret
      have hr : r = true := by rw [← HR.out]; exact decide_eq_true HC.out
      subst hr
      have hj := join_end H.out (pw_below_drewN HB3.out nq) x4 0
      exact ⟨rfl, hj.2.1, fun _ => ⟨hj.1, hj.2.2⟩⟩
    · have hq : ∀ W, (binOp .neq 53 (.agg #[.int .i64 3, .int .i64 x1, .int .i64 x2, .int .i64 x3, .int .i64 x4]) (.agg #[.int .i64 3, .int .i64 c0, .int .i64 0, .int .i64 0, .int .i64 c1])).run Try.prog W = .ok (.bool true) W := fun W => neq53 W _ _ _ _ _ _ _ _ _ _ false (by
        rw [Bool.eq_false_iff]
        intro e
        simp at e
        exact hc e)
      have HC := Aside0.mk hc
      clear hc h0
      go_quiet (fail)
      go_wp2
      go_ret
      have hr : r = false := by rw [← HR.out]; exact decide_eq_false fun h => HC.out h.2
      subst hr
      exact ⟨rfl, (pw_below_drewN HB3.out _).mono (ts_base H.out).2.2, fun h => by cases h⟩
end Go.Proofs.Ythjecgmgpnileaa.Bd
