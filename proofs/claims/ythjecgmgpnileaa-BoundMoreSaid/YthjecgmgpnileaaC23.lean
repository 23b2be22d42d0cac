/- The law BoundMore: walked. -/
import Derived.Test.YthjecgmgpnileaaC21
import Derived.Test.YthjecgmgpnileaaPs
namespace Go.Proofs.Ythjecgmgpnileaa.Bd
open Go.RowKit Go.Lib Go.Proofs.YthjecgmgpnileaaW.PrintWords Go.Proofs.YthjecgmgpnileaaW.PrintLast Go.Proofs.YthjecgmgpnileaaW.PrintMore
attribute [local go_sem] max2_int min2_int max_two min_two max_three min_three max_four min_four   -- for this text's walks alone
set_option linter.unusedVariables false
set_option linter.unusedSimpArgs false

theorem named_none {ss : List Int} {sp : List S53} {q : Int × Bool} (h : namedL ss sp = q) (hf : q.2 = false) : q = (0, false) := by
  unfold namedL at h
  split at h
  · exact h.symm
  · split at h
    · rw [← h] at hf; cases hf
    · exact h.symm
theorem named_some {ss : List Int} {sp : List S53} {q : Int × Bool} (h : namedL ss sp = q) (hf : q.2 = true) : ∃ o, ofL sp = some o ∧ q = ((o.length : Int), true) ∧ ∀ s ∈ ss, 0 ≤ s ∧ s < (o.length : Int) := by
  unfold namedL at h
  split at h
  · rw [← h] at hf; cases hf
  · rename_i o ho
    split at h
    · rename_i hall
      refine ⟨o, ho, h.symm, fun s hs => ?_⟩
      have := List.all_eq_true.1 hall s hs
      unfold okS at this
      simp only [Bool.and_eq_true, decide_eq_true_eq] at this
      exact this.1
    · rw [← h] at hf; cases hf
theorem lit0_U (W : World) (base : Nat) (h : base ≤ W.heap.size) : Kd.R kU 46 (W.alloc (.cells #[] 46)) base (fun _ => True) (.slice (some ⟨W.heap.size, 0, none⟩) 0 0) [] :=
  ⟨fun _ _ => trivial, OwnRow.lit W base (ps := ([] : List SU)) (inner := []) ⟨rfl, fun j p hj => by simp at hj⟩ h (by simp)⟩
theorem one_U {W : World} {g : Nat} {u : SU} (h : W.heap[g]? = some (.cells (cellsU u).toArray 46 (0, 0))) : ReadsRow (fun x cs => cs = cellsU x) 10 W (some ⟨g, 0, none⟩) 1 [u] := by
  refine ⟨rfl, by omega, fun _ => ⟨_, rfl, fun j p hj => ?_⟩⟩
  obtain ⟨hjl, hp⟩ := List.getElem?_eq_some_iff.1 hj
  have h0 : j = 0 := by simpa using hjl
  subst h0
  have hp' : u = p := hp
  subst hp'
  refine ⟨cellsU u, rfl, rfl, fun i v hv => ?_⟩
  have := blk_cell h i
  rw [List.getElem?_toArray, hv] at this
  rw [Nat.zero_mul, Nat.zero_add]
  have e : (⟨g, 0, none⟩ : Addr).add i = ⟨g, i, none⟩ := by first | exact add_mk0 _ _ | (rw [add_mk0]) | simp [Addr.add]
  rw [e]
  exact this
theorem row_U {W : World} {A : Option Addr} {n : Nat} {xs : List SU} (h : Kd.C kU W A n xs) : ReadsRow (fun x cs => cs = cellsU x) 10 W A n xs := ⟨h.1, h.2.1, fun h0 => by
  obtain ⟨ad, e, hc⟩ := h.2.2 h0
  exact ⟨ad, e, fun j p hj => by obtain ⟨c, h1, h2, h3⟩ := hc j p hj; exact ⟨c, h1, kU_open h2, h3⟩⟩⟩
theorem conf_cells {W : World} {G : Nat} {t : TypeId} {v0 v1 v2 v3 v4 v5 v6 v7 v8 : Value} (h : W.heap[G]? = some (.cells #[v0, v1, v2, v3, v4, v5, v6, v7, v8] t (0, 0))) :
    W.cell? ⟨G, 0, none⟩ = some v0 ∧ W.cell? ⟨G, 1, none⟩ = some v1 ∧ W.cell? ⟨G, 2, none⟩ = some v2 ∧ W.cell? ⟨G, 3, none⟩ = some v3 ∧ W.cell? ⟨G, 4, none⟩ = some v4 ∧ W.cell? ⟨G, 5, none⟩ = some v5 ∧ W.cell? ⟨G, 6, none⟩ = some v6 ∧ W.cell? ⟨G, 7, none⟩ = some v7 ∧ W.cell? ⟨G, 8, none⟩ = some v8 :=
  ⟨(blk_cell h 0).trans rfl, (blk_cell h 1).trans rfl, (blk_cell h 2).trans rfl, (blk_cell h 3).trans rfl, (blk_cell h 4).trans rfl, (blk_cell h 5).trans rfl, (blk_cell h 6).trans rfl, (blk_cell h 7).trans rfl, (blk_cell h 8).trans rfl⟩
theorem use_cells {W : World} {G : Nat} {t : TypeId} {v0 v1 v2 v3 v4 v5 v6 v7 v8 v9 : Value} (h : W.heap[G]? = some (.cells #[v0, v1, v2, v3, v4, v5, v6, v7, v8, v9] t (0, 0))) :
    W.cell? ⟨G, 0, none⟩ = some v0 ∧ W.cell? ⟨G, 1, none⟩ = some v1 ∧ W.cell? ⟨G, 2, none⟩ = some v2 ∧ W.cell? ⟨G, 3, none⟩ = some v3 ∧ W.cell? ⟨G, 4, none⟩ = some v4 ∧ W.cell? ⟨G, 5, none⟩ = some v5 ∧ W.cell? ⟨G, 6, none⟩ = some v6 ∧ W.cell? ⟨G, 7, none⟩ = some v7 ∧ W.cell? ⟨G, 8, none⟩ = some v8 ∧ W.cell? ⟨G, 9, none⟩ = some v9 :=
  ⟨(blk_cell h 0).trans rfl, (blk_cell h 1).trans rfl, (blk_cell h 2).trans rfl, (blk_cell h 3).trans rfl, (blk_cell h 4).trans rfl, (blk_cell h 5).trans rfl, (blk_cell h 6).trans rfl, (blk_cell h 7).trans rfl, (blk_cell h 8).trans rfl, (blk_cell h 9).trans rfl⟩
set_option maxHeartbeats 32000000 in
set_option maxRecDepth 100000 in
theorem boundMore_calls (b0 b1 b2 b3 b4 b5 b6 b7 b8 : Int) (a0 a1 : Int) (s2 s3 s4 s5 : SlV) (A6 : Option Addr) (c6 : Nat) (us : List SU) (A7 : Option Addr) (c7 : Nat) (sp : List S53) (a8 a9 : Int) (s10 : SlV) (u : SU) (pk : Int) (w : World) (hu : Kd.C kU w A6 us.length us) (hs : Kd.C k53 w A7 sp.length sp) (hl6 : us.length ≤ c6) (hcs : sp.length ≤ c7) (hb0 : -9223372036854775808 ≤ b0 ∧ b0 ≤ 9223372036854775807) (hb1 : -9223372036854775808 ≤ b1 ∧ b1 ≤ 9223372036854775807) (hb9 : -9223372036854775808 ≤ a9 ∧ a9 ≤ 9223372036854775807) (hpk : 0 ≤ pk ∧ pk ≤ 65535) :
    Calls Try.prog 4 #[.agg #[.int .i64 b0, .int .i64 b1, .int .i64 b2, .int .i64 b3, .int .i64 b4, .int .i64 b5, .int .i64 b6, .int .i64 b7, .int .i64 b8, .int .i64 a0, .int .i64 a1, .slice s2.1 s2.2.1 s2.2.2, .slice s3.1 s3.2.1 s3.2.2, .slice s4.1 s4.2.1 s4.2.2, .slice s5.1 s5.2.1 s5.2.2, .slice A6 us.length c6, .slice A7 sp.length c7, .int .i64 a8, .int .i64 a9, .slice s10.1 s10.2.1 s10.2.2, .int .i64 u.f0, .slice u.f1.1 u.f1.2.1 u.f1.2.2, .int .i64 u.f2, .int .i64 u.f3, .int .i64 u.f4, .int .i64 u.f5, .int .i64 u.f6, .int .i64 u.f7, .int .i64 u.f8, .bool u.f9, .int .u16 pk]] w fun e w' => e = .returned (.bool true) ∧ Below w.heap.size w w' := by
  have hz1 : (w.alloc (.cells #[.int .i64 b0, .int .i64 b1, .int .i64 b2, .int .i64 b3, .int .i64 b4, .int .i64 b5, .int .i64 b6, .int .i64 b7, .int .i64 b8, .int .i64 a0, .int .i64 a1, .slice s2.1 s2.2.1 s2.2.2, .slice s3.1 s3.2.1 s3.2.2, .slice s4.1 s4.2.1 s4.2.2, .slice s5.1 s5.2.1 s5.2.2, .slice A6 us.length c6, .slice A7 sp.length c7, .int .i64 a8, .int .i64 a9, .slice s10.1 s10.2.1 s10.2.2, .int .i64 u.f0, .slice u.f1.1 u.f1.2.1 u.f1.2.2, .int .i64 u.f2, .int .i64 u.f3, .int .i64 u.f4, .int .i64 u.f5, .int .i64 u.f6, .int .i64 u.f7, .int .i64 u.f8, .bool u.f9, .int .u16 pk] 49)).heap.size = w.heap.size + 1 := by simp
  have hz2 : ((w.alloc (.cells #[.int .i64 b0, .int .i64 b1, .int .i64 b2, .int .i64 b3, .int .i64 b4, .int .i64 b5, .int .i64 b6, .int .i64 b7, .int .i64 b8, .int .i64 a0, .int .i64 a1, .slice s2.1 s2.2.1 s2.2.2, .slice s3.1 s3.2.1 s3.2.2, .slice s4.1 s4.2.1 s4.2.2, .slice s5.1 s5.2.1 s5.2.2, .slice A6 us.length c6, .slice A7 sp.length c7, .int .i64 a8, .int .i64 a9, .slice s10.1 s10.2.1 s10.2.2, .int .i64 u.f0, .slice u.f1.1 u.f1.2.1 u.f1.2.2, .int .i64 u.f2, .int .i64 u.f3, .int .i64 u.f4, .int .i64 u.f5, .int .i64 u.f6, .int .i64 u.f7, .int .i64 u.f8, .bool u.f9, .int .u16 pk] 49)).alloc (.cells #[.int .i64 b0, .int .i64 b1, .int .i64 b2, .int .i64 b3, .int .i64 b4, .int .i64 b5, .int .i64 b6, .int .i64 b7, .int .i64 b8] 42)).heap.size = w.heap.size + 1 + 1 := by simp
  have hz3 : (((w.alloc (.cells #[.int .i64 b0, .int .i64 b1, .int .i64 b2, .int .i64 b3, .int .i64 b4, .int .i64 b5, .int .i64 b6, .int .i64 b7, .int .i64 b8, .int .i64 a0, .int .i64 a1, .slice s2.1 s2.2.1 s2.2.2, .slice s3.1 s3.2.1 s3.2.2, .slice s4.1 s4.2.1 s4.2.2, .slice s5.1 s5.2.1 s5.2.2, .slice A6 us.length c6, .slice A7 sp.length c7, .int .i64 a8, .int .i64 a9, .slice s10.1 s10.2.1 s10.2.2, .int .i64 u.f0, .slice u.f1.1 u.f1.2.1 u.f1.2.2, .int .i64 u.f2, .int .i64 u.f3, .int .i64 u.f4, .int .i64 u.f5, .int .i64 u.f6, .int .i64 u.f7, .int .i64 u.f8, .bool u.f9, .int .u16 pk] 49)).alloc (.cells #[.int .i64 b0, .int .i64 b1, .int .i64 b2, .int .i64 b3, .int .i64 b4, .int .i64 b5, .int .i64 b6, .int .i64 b7, .int .i64 b8] 42)).alloc (.cells #[.int .i64 a0, .int .i64 a1, .slice s2.1 s2.2.1 s2.2.2, .slice s3.1 s3.2.1 s3.2.2, .slice s4.1 s4.2.1 s4.2.2, .slice s5.1 s5.2.1 s5.2.2, .slice A6 us.length c6, .slice A7 sp.length c7, .int .i64 a8, .int .i64 a9, .slice s10.1 s10.2.1 s10.2.2] 29)).heap.size = w.heap.size + 1 + 1 + 1 := by simp
  have hk3 : ((((w.alloc (.cells #[.int .i64 b0, .int .i64 b1, .int .i64 b2, .int .i64 b3, .int .i64 b4, .int .i64 b5, .int .i64 b6, .int .i64 b7, .int .i64 b8, .int .i64 a0, .int .i64 a1, .slice s2.1 s2.2.1 s2.2.2, .slice s3.1 s3.2.1 s3.2.2, .slice s4.1 s4.2.1 s4.2.2, .slice s5.1 s5.2.1 s5.2.2, .slice A6 us.length c6, .slice A7 sp.length c7, .int .i64 a8, .int .i64 a9, .slice s10.1 s10.2.1 s10.2.2, .int .i64 u.f0, .slice u.f1.1 u.f1.2.1 u.f1.2.2, .int .i64 u.f2, .int .i64 u.f3, .int .i64 u.f4, .int .i64 u.f5, .int .i64 u.f6, .int .i64 u.f7, .int .i64 u.f8, .bool u.f9, .int .u16 pk] 49)).alloc (.cells #[.int .i64 b0, .int .i64 b1, .int .i64 b2, .int .i64 b3, .int .i64 b4, .int .i64 b5, .int .i64 b6, .int .i64 b7, .int .i64 b8] 42)).alloc (.cells #[.int .i64 a0, .int .i64 a1, .slice s2.1 s2.2.1 s2.2.2, .slice s3.1 s3.2.1 s3.2.2, .slice s4.1 s4.2.1 s4.2.2, .slice s5.1 s5.2.1 s5.2.2, .slice A6 us.length c6, .slice A7 sp.length c7, .int .i64 a8, .int .i64 a9, .slice s10.1 s10.2.1 s10.2.2] 29)).alloc (.cells #[.int .i64 u.f0, .slice u.f1.1 u.f1.2.1 u.f1.2.2, .int .i64 u.f2, .int .i64 u.f3, .int .i64 u.f4, .int .i64 u.f5, .int .i64 u.f6, .int .i64 u.f7, .int .i64 u.f8, .bool u.f9] 46)).heap[w.heap.size + 1]? = some (.cells #[.int .i64 b0, .int .i64 b1, .int .i64 b2, .int .i64 b3, .int .i64 b4, .int .i64 b5, .int .i64 b6, .int .i64 b7, .int .i64 b8] 42 (0, 0)) := by
    have h := (MapKept.heap_alloc (w.alloc (.cells #[.int .i64 b0, .int .i64 b1, .int .i64 b2, .int .i64 b3, .int .i64 b4, .int .i64 b5, .int .i64 b6, .int .i64 b7, .int .i64 b8, .int .i64 a0, .int .i64 a1, .slice s2.1 s2.2.1 s2.2.2, .slice s3.1 s3.2.1 s3.2.2, .slice s4.1 s4.2.1 s4.2.2, .slice s5.1 s5.2.1 s5.2.2, .slice A6 us.length c6, .slice A7 sp.length c7, .int .i64 a8, .int .i64 a9, .slice s10.1 s10.2.1 s10.2.2, .int .i64 u.f0, .slice u.f1.1 u.f1.2.1 u.f1.2.2, .int .i64 u.f2, .int .i64 u.f3, .int .i64 u.f4, .int .i64 u.f5, .int .i64 u.f6, .int .i64 u.f7, .int .i64 u.f8, .bool u.f9, .int .u16 pk] 49)) (.cells #[.int .i64 b0, .int .i64 b1, .int .i64 b2, .int .i64 b3, .int .i64 b4, .int .i64 b5, .int .i64 b6, .int .i64 b7, .int .i64 b8] 42)).1
    rw [hz1] at h
    exact blk_alloc (blk_alloc h _) _
  have hk4 : ((((w.alloc (.cells #[.int .i64 b0, .int .i64 b1, .int .i64 b2, .int .i64 b3, .int .i64 b4, .int .i64 b5, .int .i64 b6, .int .i64 b7, .int .i64 b8, .int .i64 a0, .int .i64 a1, .slice s2.1 s2.2.1 s2.2.2, .slice s3.1 s3.2.1 s3.2.2, .slice s4.1 s4.2.1 s4.2.2, .slice s5.1 s5.2.1 s5.2.2, .slice A6 us.length c6, .slice A7 sp.length c7, .int .i64 a8, .int .i64 a9, .slice s10.1 s10.2.1 s10.2.2, .int .i64 u.f0, .slice u.f1.1 u.f1.2.1 u.f1.2.2, .int .i64 u.f2, .int .i64 u.f3, .int .i64 u.f4, .int .i64 u.f5, .int .i64 u.f6, .int .i64 u.f7, .int .i64 u.f8, .bool u.f9, .int .u16 pk] 49)).alloc (.cells #[.int .i64 b0, .int .i64 b1, .int .i64 b2, .int .i64 b3, .int .i64 b4, .int .i64 b5, .int .i64 b6, .int .i64 b7, .int .i64 b8] 42)).alloc (.cells #[.int .i64 a0, .int .i64 a1, .slice s2.1 s2.2.1 s2.2.2, .slice s3.1 s3.2.1 s3.2.2, .slice s4.1 s4.2.1 s4.2.2, .slice s5.1 s5.2.1 s5.2.2, .slice A6 us.length c6, .slice A7 sp.length c7, .int .i64 a8, .int .i64 a9, .slice s10.1 s10.2.1 s10.2.2] 29)).alloc (.cells #[.int .i64 u.f0, .slice u.f1.1 u.f1.2.1 u.f1.2.2, .int .i64 u.f2, .int .i64 u.f3, .int .i64 u.f4, .int .i64 u.f5, .int .i64 u.f6, .int .i64 u.f7, .int .i64 u.f8, .bool u.f9] 46)).heap[w.heap.size + 1 + 1]? = some (.cells #[.int .i64 a0, .int .i64 a1, .slice s2.1 s2.2.1 s2.2.2, .slice s3.1 s3.2.1 s3.2.2, .slice s4.1 s4.2.1 s4.2.2, .slice s5.1 s5.2.1 s5.2.2, .slice A6 us.length c6, .slice A7 sp.length c7, .int .i64 a8, .int .i64 a9, .slice s10.1 s10.2.1 s10.2.2] 29 (0, 0)) := by
    have h := (MapKept.heap_alloc ((w.alloc (.cells #[.int .i64 b0, .int .i64 b1, .int .i64 b2, .int .i64 b3, .int .i64 b4, .int .i64 b5, .int .i64 b6, .int .i64 b7, .int .i64 b8, .int .i64 a0, .int .i64 a1, .slice s2.1 s2.2.1 s2.2.2, .slice s3.1 s3.2.1 s3.2.2, .slice s4.1 s4.2.1 s4.2.2, .slice s5.1 s5.2.1 s5.2.2, .slice A6 us.length c6, .slice A7 sp.length c7, .int .i64 a8, .int .i64 a9, .slice s10.1 s10.2.1 s10.2.2, .int .i64 u.f0, .slice u.f1.1 u.f1.2.1 u.f1.2.2, .int .i64 u.f2, .int .i64 u.f3, .int .i64 u.f4, .int .i64 u.f5, .int .i64 u.f6, .int .i64 u.f7, .int .i64 u.f8, .bool u.f9, .int .u16 pk] 49)).alloc (.cells #[.int .i64 b0, .int .i64 b1, .int .i64 b2, .int .i64 b3, .int .i64 b4, .int .i64 b5, .int .i64 b6, .int .i64 b7, .int .i64 b8] 42)) (.cells #[.int .i64 a0, .int .i64 a1, .slice s2.1 s2.2.1 s2.2.2, .slice s3.1 s3.2.1 s3.2.2, .slice s4.1 s4.2.1 s4.2.2, .slice s5.1 s5.2.1 s5.2.2, .slice A6 us.length c6, .slice A7 sp.length c7, .int .i64 a8, .int .i64 a9, .slice s10.1 s10.2.1 s10.2.2] 29)).1
    rw [hz2] at h
    exact blk_alloc h _
  have hk5 : ((((w.alloc (.cells #[.int .i64 b0, .int .i64 b1, .int .i64 b2, .int .i64 b3, .int .i64 b4, .int .i64 b5, .int .i64 b6, .int .i64 b7, .int .i64 b8, .int .i64 a0, .int .i64 a1, .slice s2.1 s2.2.1 s2.2.2, .slice s3.1 s3.2.1 s3.2.2, .slice s4.1 s4.2.1 s4.2.2, .slice s5.1 s5.2.1 s5.2.2, .slice A6 us.length c6, .slice A7 sp.length c7, .int .i64 a8, .int .i64 a9, .slice s10.1 s10.2.1 s10.2.2, .int .i64 u.f0, .slice u.f1.1 u.f1.2.1 u.f1.2.2, .int .i64 u.f2, .int .i64 u.f3, .int .i64 u.f4, .int .i64 u.f5, .int .i64 u.f6, .int .i64 u.f7, .int .i64 u.f8, .bool u.f9, .int .u16 pk] 49)).alloc (.cells #[.int .i64 b0, .int .i64 b1, .int .i64 b2, .int .i64 b3, .int .i64 b4, .int .i64 b5, .int .i64 b6, .int .i64 b7, .int .i64 b8] 42)).alloc (.cells #[.int .i64 a0, .int .i64 a1, .slice s2.1 s2.2.1 s2.2.2, .slice s3.1 s3.2.1 s3.2.2, .slice s4.1 s4.2.1 s4.2.2, .slice s5.1 s5.2.1 s5.2.2, .slice A6 us.length c6, .slice A7 sp.length c7, .int .i64 a8, .int .i64 a9, .slice s10.1 s10.2.1 s10.2.2] 29)).alloc (.cells #[.int .i64 u.f0, .slice u.f1.1 u.f1.2.1 u.f1.2.2, .int .i64 u.f2, .int .i64 u.f3, .int .i64 u.f4, .int .i64 u.f5, .int .i64 u.f6, .int .i64 u.f7, .int .i64 u.f8, .bool u.f9] 46)).heap[w.heap.size + 1 + 1 + 1]? = some (.cells #[.int .i64 u.f0, .slice u.f1.1 u.f1.2.1 u.f1.2.2, .int .i64 u.f2, .int .i64 u.f3, .int .i64 u.f4, .int .i64 u.f5, .int .i64 u.f6, .int .i64 u.f7, .int .i64 u.f8, .bool u.f9] 46 (0, 0)) := by
    have h := (MapKept.heap_alloc (((w.alloc (.cells #[.int .i64 b0, .int .i64 b1, .int .i64 b2, .int .i64 b3, .int .i64 b4, .int .i64 b5, .int .i64 b6, .int .i64 b7, .int .i64 b8, .int .i64 a0, .int .i64 a1, .slice s2.1 s2.2.1 s2.2.2, .slice s3.1 s3.2.1 s3.2.2, .slice s4.1 s4.2.1 s4.2.2, .slice s5.1 s5.2.1 s5.2.2, .slice A6 us.length c6, .slice A7 sp.length c7, .int .i64 a8, .int .i64 a9, .slice s10.1 s10.2.1 s10.2.2, .int .i64 u.f0, .slice u.f1.1 u.f1.2.1 u.f1.2.2, .int .i64 u.f2, .int .i64 u.f3, .int .i64 u.f4, .int .i64 u.f5, .int .i64 u.f6, .int .i64 u.f7, .int .i64 u.f8, .bool u.f9, .int .u16 pk] 49)).alloc (.cells #[.int .i64 b0, .int .i64 b1, .int .i64 b2, .int .i64 b3, .int .i64 b4, .int .i64 b5, .int .i64 b6, .int .i64 b7, .int .i64 b8] 42)).alloc (.cells #[.int .i64 a0, .int .i64 a1, .slice s2.1 s2.2.1 s2.2.2, .slice s3.1 s3.2.1 s3.2.2, .slice s4.1 s4.2.1 s4.2.2, .slice s5.1 s5.2.1 s5.2.2, .slice A6 us.length c6, .slice A7 sp.length c7, .int .i64 a8, .int .i64 a9, .slice s10.1 s10.2.1 s10.2.2] 29)) (.cells #[.int .i64 u.f0, .slice u.f1.1 u.f1.2.1 u.f1.2.2, .int .i64 u.f2, .int .i64 u.f3, .int .i64 u.f4, .int .i64 u.f5, .int .i64 u.f6, .int .i64 u.f7, .int .i64 u.f8, .bool u.f9] 46)).1
    rw [hz3] at h
    exact h
  have HUS := Aside0.mk hu
  have HSP := Aside0.mk hs
  have HCS := Aside0.mk (And.intro hl6 hcs)
  have BK3 := Aside0.mk hk3
  have BK4 := Aside0.mk hk4
  have BK5 := Aside0.mk hk5
  have HRG := Aside0.mk (And.intro hb0 (And.intro hb1 (And.intro hb9 hpk)))
  have HB := Aside0.mk (Below.refl w.heap.size w)
  clear hu hs hl6 hcs hk3 hk4 hk5 hz1 hz2 hz3 hb0 hb1 hb9
  by_cases hg1 : 40 < (us.length : Int)
  · have d_hg1 : decide (40 < (us.length : Int)) = true := decide_eq_true hg1
    go_enter Try.func4, Try.ntmps4
    go_wp2_with (first | ((with_reducible refine gate_callee (f := 5) rfl ?_); refine goesL_ (some 25) rfl rfl Try.func5 (by kernel_rfl) rfl #[] rfl (by (try simp only [List.map_toArray, List.map_cons, List.map_nil]); first | done | rfl | (simp only [List.length_drop, List.length_take]; rfl)) ?_; (with_reducible refine (shown_calls _).mono ?_); rintro e w2 ⟨rfl, hb⟩; refine ⟨_, rfl, ?_⟩; have b0_ := Aside0.mk (blk_below (by (with_reducible repeat (first | refine blk_drewN ?_ _ | refine blk_drew ?_ | refine blk_alloc ?_ _)); exact BK3.out) hb); have b1_ := Aside0.mk (blk_below (by (with_reducible repeat (first | refine blk_drewN ?_ _ | refine blk_drew ?_ | refine blk_alloc ?_ _)); exact BK4.out) hb); have b2_ := Aside0.mk (blk_below (by (with_reducible repeat (first | refine blk_drewN ?_ _ | refine blk_drew ?_ | refine blk_alloc ?_ _)); exact BK5.out) hb); have m1_ := Aside0.mk (below_step (by repeat (first | (with_reducible first | exact HB.out | apply below_alloc | apply pw_below_drewN | apply below_drew1) | exact HB.out)) hb); clear HB; have HB := m1_; clear m1_; clear BK3; have BK3 := b0_; clear b0_; clear BK4; have BK4 := b1_; clear b1_; clear BK5; have BK5 := b2_; clear b2_; clear hb; obtain ⟨z0, z1, z2, z3, z4, z5, z6, z7, z8, z9, z10⟩ := box_cells BK4.out))
    go_ret
    exact ⟨rfl, HB.out⟩
  have d_hg1 : decide (40 < (us.length : Int)) = false := decide_eq_false hg1
  by_cases hg2 : 40 < (sp.length : Int)
  · have d_hg2 : decide (40 < (sp.length : Int)) = true := decide_eq_true hg2
    go_enter Try.func4, Try.ntmps4
    go_wp2_with (first | ((with_reducible refine gate_callee (f := 5) rfl ?_); refine goesL_ (some 25) rfl rfl Try.func5 (by kernel_rfl) rfl #[] rfl (by (try simp only [List.map_toArray, List.map_cons, List.map_nil]); first | done | rfl | (simp only [List.length_drop, List.length_take]; rfl)) ?_; (with_reducible refine (shown_calls _).mono ?_); rintro e w2 ⟨rfl, hb⟩; refine ⟨_, rfl, ?_⟩; have b0_ := Aside0.mk (blk_below (by (with_reducible repeat (first | refine blk_drewN ?_ _ | refine blk_drew ?_ | refine blk_alloc ?_ _)); exact BK3.out) hb); have b1_ := Aside0.mk (blk_below (by (with_reducible repeat (first | refine blk_drewN ?_ _ | refine blk_drew ?_ | refine blk_alloc ?_ _)); exact BK4.out) hb); have b2_ := Aside0.mk (blk_below (by (with_reducible repeat (first | refine blk_drewN ?_ _ | refine blk_drew ?_ | refine blk_alloc ?_ _)); exact BK5.out) hb); have m1_ := Aside0.mk (below_step (by repeat (first | (with_reducible first | exact HB.out | apply below_alloc | apply pw_below_drewN | apply below_drew1) | exact HB.out)) hb); clear HB; have HB := m1_; clear m1_; clear BK3; have BK3 := b0_; clear b0_; clear BK4; have BK4 := b1_; clear b1_; clear BK5; have BK5 := b2_; clear b2_; clear hb; obtain ⟨z0, z1, z2, z3, z4, z5, z6, z7, z8, z9, z10⟩ := box_cells BK4.out))
    go_ret
    exact ⟨rfl, HB.out⟩
  have d_hg2 : decide (40 < (sp.length : Int)) = false := decide_eq_false hg2
  have hu40 : (us.length : Int) ≤ 40 := by omega
  have hs40 : (sp.length : Int) ≤ 40 := by omega
  go_enter Try.func4, Try.ntmps4
  go_wp2_with (first | ((with_reducible refine gate_callee (f := 5) rfl ?_); refine goesL_ (some 25) rfl rfl Try.func5 (by kernel_rfl) rfl #[] rfl (by (try simp only [List.map_toArray, List.map_cons, List.map_nil]); first | done | rfl | (simp only [List.length_drop, List.length_take]; rfl)) ?_; (with_reducible refine (shown_calls _).mono ?_); rintro e w2 ⟨rfl, hb⟩; refine ⟨_, rfl, ?_⟩; have b0_ := Aside0.mk (blk_below (by (with_reducible repeat (first | refine blk_drewN ?_ _ | refine blk_drew ?_ | refine blk_alloc ?_ _)); exact BK3.out) hb); have b1_ := Aside0.mk (blk_below (by (with_reducible repeat (first | refine blk_drewN ?_ _ | refine blk_drew ?_ | refine blk_alloc ?_ _)); exact BK4.out) hb); have b2_ := Aside0.mk (blk_below (by (with_reducible repeat (first | refine blk_drewN ?_ _ | refine blk_drew ?_ | refine blk_alloc ?_ _)); exact BK5.out) hb); have m1_ := Aside0.mk (below_step (by repeat (first | (with_reducible first | exact HB.out | apply below_alloc | apply pw_below_drewN | apply below_drew1) | exact HB.out)) hb); clear HB; have HB := m1_; clear m1_; clear BK3; have BK3 := b0_; clear b0_; clear BK4; have BK4 := b1_; clear b1_; clear BK5; have BK5 := b2_; clear b2_; clear hb; obtain ⟨z0, z1, z2, z3, z4, z5, z6, z7, z8, z9, z10⟩ := box_cells BK4.out))
  have BK8 := Aside0.mk (MapKept.heap_alloc w2 (.cells #[.int .i64 a0, .int .i64 a1, .slice s2.1 s2.2.1 s2.2.2, .slice s3.1 s3.2.1 s3.2.2, .slice s4.1 s4.2.1 s4.2.2, .slice s5.1 s5.2.1 s5.2.2, .slice A6 us.length c6, .slice A7 sp.length c7, .int .i64 a8, .int .i64 a9, .slice s10.1 s10.2.1 s10.2.2] 29)).1
  have n3 := Aside0.mk (blk_alloc BK3.out (.cells #[.int .i64 a0, .int .i64 a1, .slice s2.1 s2.2.1 s2.2.2, .slice s3.1 s3.2.1 s3.2.2, .slice s4.1 s4.2.1 s4.2.2, .slice s5.1 s5.2.1 s5.2.2, .slice A6 us.length c6, .slice A7 sp.length c7, .int .i64 a8, .int .i64 a9, .slice s10.1 s10.2.1 s10.2.2] 29))
  have n4 := Aside0.mk (blk_alloc BK4.out (.cells #[.int .i64 a0, .int .i64 a1, .slice s2.1 s2.2.1 s2.2.2, .slice s3.1 s3.2.1 s3.2.2, .slice s4.1 s4.2.1 s4.2.2, .slice s5.1 s5.2.1 s5.2.2, .slice A6 us.length c6, .slice A7 sp.length c7, .int .i64 a8, .int .i64 a9, .slice s10.1 s10.2.1 s10.2.2] 29))
  have n5 := Aside0.mk (blk_alloc BK5.out (.cells #[.int .i64 a0, .int .i64 a1, .slice s2.1 s2.2.1 s2.2.2, .slice s3.1 s3.2.1 s3.2.2, .slice s4.1 s4.2.1 s4.2.2, .slice s5.1 s5.2.1 s5.2.2, .slice A6 us.length c6, .slice A7 sp.length c7, .int .i64 a8, .int .i64 a9, .slice s10.1 s10.2.1 s10.2.2] 29))
  have hlt3 := blk_lt BK3.out
  have hlt4 := blk_lt BK4.out
  have hlt5 := blk_lt BK5.out
  have HB8 := Aside0.mk (below_alloc HB.out (.cells #[.int .i64 a0, .int .i64 a1, .slice s2.1 s2.2.1 s2.2.2, .slice s3.1 s3.2.1 s3.2.2, .slice s4.1 s4.2.1 s4.2.2, .slice s5.1 s5.2.1 s5.2.2, .slice A6 us.length c6, .slice A7 sp.length c7, .int .i64 a8, .int .i64 a9, .slice s10.1 s10.2.1 s10.2.2] 29))
  have hG8b := below_size HB.out
  clear BK3 BK4 BK5 HB z0 z1 z2 z3 z4 z5 z6 z7 z8 z9 z10
  have BK3 := n3
  have BK4 := n4
  have BK5 := n5
  clear n3 n4 n5
  generalize hw8 : w2.alloc (.cells #[.int .i64 a0, .int .i64 a1, .slice s2.1 s2.2.1 s2.2.2, .slice s3.1 s3.2.1 s3.2.2, .slice s4.1 s4.2.1 s4.2.2, .slice s5.1 s5.2.1 s5.2.2, .slice A6 us.length c6, .slice A7 sp.length c7, .int .i64 a8, .int .i64 a9, .slice s10.1 s10.2.1 s10.2.2] 29) = w8 at BK3 BK4 BK5 BK8 HB8 ⊢
  generalize hG8 : w2.heap.size = G8 at BK8 hlt3 hlt4 hlt5 hG8b ⊢
  generalize hG5 : w.heap.size + 1 + 1 + 1 = G5 at BK5 hlt5 ⊢
  generalize hG4 : w.heap.size + 1 + 1 = G4 at BK4 hlt4 hG5 ⊢
  generalize hG3 : w.heap.size + 1 = G3 at BK3 hlt3 hG4 ⊢
  have HGS : Aside0 (w.heap.size ≤ G3 ∧ w.heap.size ≤ G4 ∧ w.heap.size ≤ G5 ∧ w.heap.size ≤ G8 ∧ G3 < G4 ∧ G4 < G8 ∧ G3 < G8) := ⟨by omega⟩
  clear hw8 hG8 hG5 hG4 hG3 hlt3 hlt4 hlt5 hG8b
  have z6 : w8.cell? ⟨G4, 6, none⟩ = some (.slice A6 us.length c6) := (blk_cell BK4.out 6).trans rfl
  obtain ⟨y0, y1, y2, y3, y4, y5, y6, y7, y8, y9⟩ := use_cells BK5.out
  refine start_ (n := 9) (S := fun w' => w'.cell? ⟨G4, 6, none⟩ = some (.slice A6 us.length c6) ∧ w'.cell? ⟨G5, 0, none⟩ = some (.int .i64 u.f0) ∧ w'.cell? ⟨G5, 1, none⟩ = some (.slice u.f1.1 u.f1.2.1 u.f1.2.2) ∧ w'.cell? ⟨G5, 2, none⟩ = some (.int .i64 u.f2) ∧ w'.cell? ⟨G5, 3, none⟩ = some (.int .i64 u.f3) ∧ w'.cell? ⟨G5, 4, none⟩ = some (.int .i64 u.f4) ∧ w'.cell? ⟨G5, 5, none⟩ = some (.int .i64 u.f5) ∧ w'.cell? ⟨G5, 6, none⟩ = some (.int .i64 u.f6) ∧ w'.cell? ⟨G5, 7, none⟩ = some (.int .i64 u.f7) ∧ w'.cell? ⟨G5, 8, none⟩ = some (.int .i64 u.f8) ∧ w'.cell? ⟨G5, 9, none⟩ = some (.bool u.f9)) (ds := [6, 8]) #[false, false, false, false, false, false, false, false, false] (by kernel_rfl) rfl rfl ⟨z6, y0, y1, y2, y3, y4, y5, y6, y7, y8, y9⟩ (fun hHeld => ?_)
  refine pure_ (i := 1) (N := some 39) (v := ?_) (a' := ?_) #[false, true, false, false, false, false, false, false, false] rfl rfl (by kernel_rfl) (fun _ _ _ h => h) (Or.inl ⟨by rfl, ?_⟩) ?_ ?_
  rotate_left
  · intro w'
    go_simp
    with_reducible rfl
  rotate_left
  · simp only [Act.put, List.setIfInBounds_toArray, List.set_cons_zero, List.set_cons_succ, i64_w, i32_w]
    rfl
  refine take_ (i := 2) (N := some 40) (v := ?_) (a' := ?_) #[false, true, true, false, false, false, false, false, false] rfl rfl (by kernel_rfl) (fun _ _ _ h => h) (Or.inl ⟨by rfl, ?_⟩) hHeld ?_ ?_
  rotate_left
  · rintro w' ⟨s0, s1, s2, s3, s4, s5, s6, s7, s8, s9, s10⟩
    go_simp
    with_reducible rfl
  rotate_left
  · simp only [Act.put, List.setIfInBounds_toArray, List.set_cons_zero, List.set_cons_succ, i64_w, i32_w]
    rfl
  refine take_ (i := 4) (N := some 42) (v := ?_) (a' := ?_) #[false, true, true, false, true, false, false, false, false] rfl rfl (by kernel_rfl) (fun _ _ _ h => h) (Or.inl ⟨by rfl, ?_⟩) hHeld ?_ ?_
  rotate_left
  · rintro w' ⟨s0, s1, s2, s3, s4, s5, s6, s7, s8, s9, s10⟩
    go_simp
    with_reducible rfl
  rotate_left
  · simp only [Act.put, List.setIfInBounds_toArray, List.set_cons_zero, List.set_cons_succ, i64_w, i32_w]
    rfl
  refine join_ (σ := Nat × Value × Nat) 3 #[true, true, true, true, true, true, false, false, false] (fun s => [(38, .slice (some ⟨s.1, 0, none⟩) 0 0), (41, s.2.1), (43, .slice (some ⟨s.2.2, 0, none⟩) 1 1)]) (fun s w' => (w'.cell? ⟨G4, 6, none⟩ = some (.slice A6 us.length c6) ∧ w'.cell? ⟨G5, 0, none⟩ = some (.int .i64 u.f0) ∧ w'.cell? ⟨G5, 1, none⟩ = some (.slice u.f1.1 u.f1.2.1 u.f1.2.2) ∧ w'.cell? ⟨G5, 2, none⟩ = some (.int .i64 u.f2) ∧ w'.cell? ⟨G5, 3, none⟩ = some (.int .i64 u.f3) ∧ w'.cell? ⟨G5, 4, none⟩ = some (.int .i64 u.f4) ∧ w'.cell? ⟨G5, 5, none⟩ = some (.int .i64 u.f5) ∧ w'.cell? ⟨G5, 6, none⟩ = some (.int .i64 u.f6) ∧ w'.cell? ⟨G5, 7, none⟩ = some (.int .i64 u.f7) ∧ w'.cell? ⟨G5, 8, none⟩ = some (.int .i64 u.f8) ∧ w'.cell? ⟨G5, 9, none⟩ = some (.bool u.f9)) ∧ Kd.R kU 46 w' w8.heap.size (fun _ => True) s.2.1 us ∧ w'.heap[s.2.2]? = some (.cells (cellsU u).toArray 46 (0, 0)) ∧ Below w8.heap.size w8 w') ?_ ?_
  rotate_left
  · intro hCont
    refine two_ (i := 0) (j := 5) (Ni := some 38) (Nj := some 43) #[true, true, true, false, true, false, false, false, false] #[false, true, true, false, true, true, false, false, false] rfl rfl rfl rfl (by kernel_rfl) (by decide) (by decide) (fun K hK => ?_) (fun K hK => ?_)
    · skip
      refine value_ (w1 := (w8.drew).alloc (.cells #[] 46)) (v := .slice (some ⟨(w8.drew).heap.size, 0, none⟩) 0 0) (by rfl) rfl (by first | (go_simp; done) | (go_simp; rfl)) ?_
      refine hK.out _ _ ⟨(cell_step (below_alloc (below_drew (Below.refl w8.heap.size w8)) (.cells #[] 46)) z6), (cell_step (below_alloc (below_drew (Below.refl w8.heap.size w8)) (.cells #[] 46)) y0), (cell_step (below_alloc (below_drew (Below.refl w8.heap.size w8)) (.cells #[] 46)) y1), (cell_step (below_alloc (below_drew (Below.refl w8.heap.size w8)) (.cells #[] 46)) y2), (cell_step (below_alloc (below_drew (Below.refl w8.heap.size w8)) (.cells #[] 46)) y3), (cell_step (below_alloc (below_drew (Below.refl w8.heap.size w8)) (.cells #[] 46)) y4), (cell_step (below_alloc (below_drew (Below.refl w8.heap.size w8)) (.cells #[] 46)) y5), (cell_step (below_alloc (below_drew (Below.refl w8.heap.size w8)) (.cells #[] 46)) y6), (cell_step (below_alloc (below_drew (Below.refl w8.heap.size w8)) (.cells #[] 46)) y7), (cell_step (below_alloc (below_drew (Below.refl w8.heap.size w8)) (.cells #[] 46)) y8), (cell_step (below_alloc (below_drew (Below.refl w8.heap.size w8)) (.cells #[] 46)) y9)⟩ (fun hHeld => ?_)
      clear hK K
      refine norm_ (a' := ?_) ?_ ?_
      rotate_left
      · show Act.put _ (some 38) _ = _
        simp only [Act.put, List.setIfInBounds_toArray, List.set_cons_zero, List.set_cons_succ, i64_w, i32_w]
        rfl
      refine two_ (i := 3) (j := 5) (Ni := some 41) (Nj := some 43) #[true, true, true, true, true, false, false, false, false] #[true, true, true, false, true, true, false, false, false] rfl rfl rfl rfl (by kernel_rfl) (by decide) (by decide) (fun K hK => ?_) (fun K hK => ?_)
      · skip
        ((try rw [drew_out]); (try rw [drew_out]); refine Kd.R_append_rows_step kU (Rr := fun x cs => cs = cellsU x) (w0 := w8) (W := (w8.drew.alloc (.cells #[] 46))) w8.heap.size ?hw (.tmp 38) (.tmp 40) 25 46 (.agg #[.int .i64 0, .slice none 0 0, .int .i64 0, .int .i64 0, .int .i64 0, .int .i64 0, .int .i64 0, .int .i64 0, .int .i64 0, .bool false]) 96 ?ho Try.underlying25 info46 rfl (by decide) (by decide) (.slice (some ⟨w8.heap.size, 0, none⟩) 0 0) ([] : List SU) (us) (A6) (us.length) (c6) (fun _ => True) (fun _ => False) ?hs ?hx (lit0_U w8.drew w8.heap.size (Nat.le_refl _)) (row_U (Kd.C_below HUS.out (below_step HB8.out (below_alloc (below_drew (Below.refl w8.heap.size w8)) (.cells #[] 46))))) ?hk (fun _ hk => hk.elim) (fun _ _ => trivial) ((below_alloc (below_drew (Below.refl w8.heap.size w8)) (.cells #[] 46))) ?hS ?hL ?_; (case hw => rfl); (case ho => rfl); (case hs => rfl); (case hx => rfl); (case hk => exact (fun x cs h => by rw [h]; exact kU_mkM _ _ _ x)); (case hS => exact ((below_alloc (below_drew (Below.refl w8.heap.size w8)) (.cells #[] 46))).size); (case hL => first | (simp only [List.length_nil]; omega) | omega); intro v9 w9 ho9 hb hg hat; clear hat)
        rw [List.nil_append] at ho9
        refine hK.out _ _ ⟨(cell_step hb z6), (cell_step hb y0), (cell_step hb y1), (cell_step hb y2), (cell_step hb y3), (cell_step hb y4), (cell_step hb y5), (cell_step hb y6), (cell_step hb y7), (cell_step hb y8), (cell_step hb y9)⟩ (fun hHeld => ?_)
        clear hK K
        refine norm_ (a' := ?_) ?_ ?_
        rotate_left
        · show Act.put _ (some 41) _ = _
          simp only [Act.put, List.setIfInBounds_toArray, List.set_cons_zero, List.set_cons_succ, i64_w, i32_w]
          rfl
        refine one_ (i := 5) (N := some 43) #[true, true, true, true, true, true, false, false, false] rfl rfl (by kernel_rfl) (by decide) (fun K hK => ?_)
        refine value_ (w1 := (w9).alloc (.cells #[.int .i64 u.f0, .slice u.f1.1 u.f1.2.1 u.f1.2.2, .int .i64 u.f2, .int .i64 u.f3, .int .i64 u.f4, .int .i64 u.f5, .int .i64 u.f6, .int .i64 u.f7, .int .i64 u.f8, .bool u.f9] 46)) (v := .slice (some ⟨(w9).heap.size, 0, none⟩) 1 1) (by rfl) rfl (by first | (go_simp; done) | (go_simp; rfl)) ?_
        refine hK.out _ _ ⟨(cell_step (below_alloc hb (.cells #[.int .i64 u.f0, .slice u.f1.1 u.f1.2.1 u.f1.2.2, .int .i64 u.f2, .int .i64 u.f3, .int .i64 u.f4, .int .i64 u.f5, .int .i64 u.f6, .int .i64 u.f7, .int .i64 u.f8, .bool u.f9] 46)) z6), (cell_step (below_alloc hb (.cells #[.int .i64 u.f0, .slice u.f1.1 u.f1.2.1 u.f1.2.2, .int .i64 u.f2, .int .i64 u.f3, .int .i64 u.f4, .int .i64 u.f5, .int .i64 u.f6, .int .i64 u.f7, .int .i64 u.f8, .bool u.f9] 46)) y0), (cell_step (below_alloc hb (.cells #[.int .i64 u.f0, .slice u.f1.1 u.f1.2.1 u.f1.2.2, .int .i64 u.f2, .int .i64 u.f3, .int .i64 u.f4, .int .i64 u.f5, .int .i64 u.f6, .int .i64 u.f7, .int .i64 u.f8, .bool u.f9] 46)) y1), (cell_step (below_alloc hb (.cells #[.int .i64 u.f0, .slice u.f1.1 u.f1.2.1 u.f1.2.2, .int .i64 u.f2, .int .i64 u.f3, .int .i64 u.f4, .int .i64 u.f5, .int .i64 u.f6, .int .i64 u.f7, .int .i64 u.f8, .bool u.f9] 46)) y2), (cell_step (below_alloc hb (.cells #[.int .i64 u.f0, .slice u.f1.1 u.f1.2.1 u.f1.2.2, .int .i64 u.f2, .int .i64 u.f3, .int .i64 u.f4, .int .i64 u.f5, .int .i64 u.f6, .int .i64 u.f7, .int .i64 u.f8, .bool u.f9] 46)) y3), (cell_step (below_alloc hb (.cells #[.int .i64 u.f0, .slice u.f1.1 u.f1.2.1 u.f1.2.2, .int .i64 u.f2, .int .i64 u.f3, .int .i64 u.f4, .int .i64 u.f5, .int .i64 u.f6, .int .i64 u.f7, .int .i64 u.f8, .bool u.f9] 46)) y4), (cell_step (below_alloc hb (.cells #[.int .i64 u.f0, .slice u.f1.1 u.f1.2.1 u.f1.2.2, .int .i64 u.f2, .int .i64 u.f3, .int .i64 u.f4, .int .i64 u.f5, .int .i64 u.f6, .int .i64 u.f7, .int .i64 u.f8, .bool u.f9] 46)) y5), (cell_step (below_alloc hb (.cells #[.int .i64 u.f0, .slice u.f1.1 u.f1.2.1 u.f1.2.2, .int .i64 u.f2, .int .i64 u.f3, .int .i64 u.f4, .int .i64 u.f5, .int .i64 u.f6, .int .i64 u.f7, .int .i64 u.f8, .bool u.f9] 46)) y6), (cell_step (below_alloc hb (.cells #[.int .i64 u.f0, .slice u.f1.1 u.f1.2.1 u.f1.2.2, .int .i64 u.f2, .int .i64 u.f3, .int .i64 u.f4, .int .i64 u.f5, .int .i64 u.f6, .int .i64 u.f7, .int .i64 u.f8, .bool u.f9] 46)) y7), (cell_step (below_alloc hb (.cells #[.int .i64 u.f0, .slice u.f1.1 u.f1.2.1 u.f1.2.2, .int .i64 u.f2, .int .i64 u.f3, .int .i64 u.f4, .int .i64 u.f5, .int .i64 u.f6, .int .i64 u.f7, .int .i64 u.f8, .bool u.f9] 46)) y8), (cell_step (below_alloc hb (.cells #[.int .i64 u.f0, .slice u.f1.1 u.f1.2.1 u.f1.2.2, .int .i64 u.f2, .int .i64 u.f3, .int .i64 u.f4, .int .i64 u.f5, .int .i64 u.f6, .int .i64 u.f7, .int .i64 u.f8, .bool u.f9] 46)) y9)⟩ (fun hHeld => ?_)
        clear hK K
        refine norm_ (a' := ?_) ?_ ?_
        rotate_left
        · show Act.put _ (some 43) _ = _
          simp only [Act.put, List.setIfInBounds_toArray, List.set_cons_zero, List.set_cons_succ, i64_w, i32_w]
          rfl
        exact norm_ (by simp only [putAll, Act.put, List.setIfInBounds_toArray, List.set_cons_zero, List.set_cons_succ]) (hCont (w8.drew.heap.size, v9, w9.heap.size) _ ⟨hHeld, Kd.R_alloc ho9 _, (MapKept.heap_alloc w9 _).1, (below_alloc hb (.cells #[.int .i64 u.f0, .slice u.f1.1 u.f1.2.1 u.f1.2.2, .int .i64 u.f2, .int .i64 u.f3, .int .i64 u.f4, .int .i64 u.f5, .int .i64 u.f6, .int .i64 u.f7, .int .i64 u.f8, .bool u.f9] 46))⟩)
      · skip
        refine value_ (w1 := ((w8.drew.alloc (.cells #[] 46))).alloc (.cells #[.int .i64 u.f0, .slice u.f1.1 u.f1.2.1 u.f1.2.2, .int .i64 u.f2, .int .i64 u.f3, .int .i64 u.f4, .int .i64 u.f5, .int .i64 u.f6, .int .i64 u.f7, .int .i64 u.f8, .bool u.f9] 46)) (v := .slice (some ⟨((w8.drew.alloc (.cells #[] 46))).heap.size, 0, none⟩) 1 1) (by rfl) rfl (by first | (go_simp; done) | (go_simp; rfl)) ?_
        refine hK.out _ _ ⟨(cell_step (below_alloc (below_alloc (below_drew (Below.refl w8.heap.size w8)) (.cells #[] 46)) (.cells #[.int .i64 u.f0, .slice u.f1.1 u.f1.2.1 u.f1.2.2, .int .i64 u.f2, .int .i64 u.f3, .int .i64 u.f4, .int .i64 u.f5, .int .i64 u.f6, .int .i64 u.f7, .int .i64 u.f8, .bool u.f9] 46)) z6), (cell_step (below_alloc (below_alloc (below_drew (Below.refl w8.heap.size w8)) (.cells #[] 46)) (.cells #[.int .i64 u.f0, .slice u.f1.1 u.f1.2.1 u.f1.2.2, .int .i64 u.f2, .int .i64 u.f3, .int .i64 u.f4, .int .i64 u.f5, .int .i64 u.f6, .int .i64 u.f7, .int .i64 u.f8, .bool u.f9] 46)) y0), (cell_step (below_alloc (below_alloc (below_drew (Below.refl w8.heap.size w8)) (.cells #[] 46)) (.cells #[.int .i64 u.f0, .slice u.f1.1 u.f1.2.1 u.f1.2.2, .int .i64 u.f2, .int .i64 u.f3, .int .i64 u.f4, .int .i64 u.f5, .int .i64 u.f6, .int .i64 u.f7, .int .i64 u.f8, .bool u.f9] 46)) y1), (cell_step (below_alloc (below_alloc (below_drew (Below.refl w8.heap.size w8)) (.cells #[] 46)) (.cells #[.int .i64 u.f0, .slice u.f1.1 u.f1.2.1 u.f1.2.2, .int .i64 u.f2, .int .i64 u.f3, .int .i64 u.f4, .int .i64 u.f5, .int .i64 u.f6, .int .i64 u.f7, .int .i64 u.f8, .bool u.f9] 46)) y2), (cell_step (below_alloc (below_alloc (below_drew (Below.refl w8.heap.size w8)) (.cells #[] 46)) (.cells #[.int .i64 u.f0, .slice u.f1.1 u.f1.2.1 u.f1.2.2, .int .i64 u.f2, .int .i64 u.f3, .int .i64 u.f4, .int .i64 u.f5, .int .i64 u.f6, .int .i64 u.f7, .int .i64 u.f8, .bool u.f9] 46)) y3), (cell_step (below_alloc (below_alloc (below_drew (Below.refl w8.heap.size w8)) (.cells #[] 46)) (.cells #[.int .i64 u.f0, .slice u.f1.1 u.f1.2.1 u.f1.2.2, .int .i64 u.f2, .int .i64 u.f3, .int .i64 u.f4, .int .i64 u.f5, .int .i64 u.f6, .int .i64 u.f7, .int .i64 u.f8, .bool u.f9] 46)) y4), (cell_step (below_alloc (below_alloc (below_drew (Below.refl w8.heap.size w8)) (.cells #[] 46)) (.cells #[.int .i64 u.f0, .slice u.f1.1 u.f1.2.1 u.f1.2.2, .int .i64 u.f2, .int .i64 u.f3, .int .i64 u.f4, .int .i64 u.f5, .int .i64 u.f6, .int .i64 u.f7, .int .i64 u.f8, .bool u.f9] 46)) y5), (cell_step (below_alloc (below_alloc (below_drew (Below.refl w8.heap.size w8)) (.cells #[] 46)) (.cells #[.int .i64 u.f0, .slice u.f1.1 u.f1.2.1 u.f1.2.2, .int .i64 u.f2, .int .i64 u.f3, .int .i64 u.f4, .int .i64 u.f5, .int .i64 u.f6, .int .i64 u.f7, .int .i64 u.f8, .bool u.f9] 46)) y6), (cell_step (below_alloc (below_alloc (below_drew (Below.refl w8.heap.size w8)) (.cells #[] 46)) (.cells #[.int .i64 u.f0, .slice u.f1.1 u.f1.2.1 u.f1.2.2, .int .i64 u.f2, .int .i64 u.f3, .int .i64 u.f4, .int .i64 u.f5, .int .i64 u.f6, .int .i64 u.f7, .int .i64 u.f8, .bool u.f9] 46)) y7), (cell_step (below_alloc (below_alloc (below_drew (Below.refl w8.heap.size w8)) (.cells #[] 46)) (.cells #[.int .i64 u.f0, .slice u.f1.1 u.f1.2.1 u.f1.2.2, .int .i64 u.f2, .int .i64 u.f3, .int .i64 u.f4, .int .i64 u.f5, .int .i64 u.f6, .int .i64 u.f7, .int .i64 u.f8, .bool u.f9] 46)) y8), (cell_step (below_alloc (below_alloc (below_drew (Below.refl w8.heap.size w8)) (.cells #[] 46)) (.cells #[.int .i64 u.f0, .slice u.f1.1 u.f1.2.1 u.f1.2.2, .int .i64 u.f2, .int .i64 u.f3, .int .i64 u.f4, .int .i64 u.f5, .int .i64 u.f6, .int .i64 u.f7, .int .i64 u.f8, .bool u.f9] 46)) y9)⟩ (fun hHeld => ?_)
        clear hK K
        refine norm_ (a' := ?_) ?_ ?_
        rotate_left
        · show Act.put _ (some 43) _ = _
          simp only [Act.put, List.setIfInBounds_toArray, List.set_cons_zero, List.set_cons_succ, i64_w, i32_w]
          rfl
        refine one_ (i := 3) (N := some 41) #[true, true, true, true, true, true, false, false, false] rfl rfl (by kernel_rfl) (by decide) (fun K hK => ?_)
        ((try rw [drew_out]); (try rw [drew_out]); refine Kd.R_append_rows_step kU (Rr := fun x cs => cs = cellsU x) (w0 := w8) (W := ((w8.drew.alloc (.cells #[] 46)).alloc (.cells #[.int .i64 u.f0, .slice u.f1.1 u.f1.2.1 u.f1.2.2, .int .i64 u.f2, .int .i64 u.f3, .int .i64 u.f4, .int .i64 u.f5, .int .i64 u.f6, .int .i64 u.f7, .int .i64 u.f8, .bool u.f9] 46))) w8.heap.size ?hw (.tmp 38) (.tmp 40) 25 46 (.agg #[.int .i64 0, .slice none 0 0, .int .i64 0, .int .i64 0, .int .i64 0, .int .i64 0, .int .i64 0, .int .i64 0, .int .i64 0, .bool false]) 96 ?ho Try.underlying25 info46 rfl (by decide) (by decide) (.slice (some ⟨w8.heap.size, 0, none⟩) 0 0) ([] : List SU) (us) (A6) (us.length) (c6) (fun _ => True) (fun _ => False) ?hs ?hx (Kd.R_alloc (lit0_U w8.drew w8.heap.size (Nat.le_refl _)) _) (row_U (Kd.C_below HUS.out (below_step HB8.out (below_alloc (below_alloc (below_drew (Below.refl w8.heap.size w8)) (.cells #[] 46)) (.cells #[.int .i64 u.f0, .slice u.f1.1 u.f1.2.1 u.f1.2.2, .int .i64 u.f2, .int .i64 u.f3, .int .i64 u.f4, .int .i64 u.f5, .int .i64 u.f6, .int .i64 u.f7, .int .i64 u.f8, .bool u.f9] 46))))) ?hk (fun _ hk => hk.elim) (fun _ _ => trivial) ((below_alloc (below_alloc (below_drew (Below.refl w8.heap.size w8)) (.cells #[] 46)) (.cells #[.int .i64 u.f0, .slice u.f1.1 u.f1.2.1 u.f1.2.2, .int .i64 u.f2, .int .i64 u.f3, .int .i64 u.f4, .int .i64 u.f5, .int .i64 u.f6, .int .i64 u.f7, .int .i64 u.f8, .bool u.f9] 46))) ?hS ?hL ?_; (case hw => rfl); (case ho => rfl); (case hs => rfl); (case hx => rfl); (case hk => exact (fun x cs h => by rw [h]; exact kU_mkM _ _ _ x)); (case hS => exact ((below_alloc (below_alloc (below_drew (Below.refl w8.heap.size w8)) (.cells #[] 46)) (.cells #[.int .i64 u.f0, .slice u.f1.1 u.f1.2.1 u.f1.2.2, .int .i64 u.f2, .int .i64 u.f3, .int .i64 u.f4, .int .i64 u.f5, .int .i64 u.f6, .int .i64 u.f7, .int .i64 u.f8, .bool u.f9] 46))).size); (case hL => first | (simp only [List.length_nil]; omega) | omega); intro v9 w9 ho9 hb hg hat; clear hat)
        rw [List.nil_append] at ho9
        refine hK.out _ _ ⟨(cell_step hb z6), (cell_step hb y0), (cell_step hb y1), (cell_step hb y2), (cell_step hb y3), (cell_step hb y4), (cell_step hb y5), (cell_step hb y6), (cell_step hb y7), (cell_step hb y8), (cell_step hb y9)⟩ (fun hHeld => ?_)
        clear hK K
        refine norm_ (a' := ?_) ?_ ?_
        rotate_left
        · show Act.put _ (some 41) _ = _
          simp only [Act.put, List.setIfInBounds_toArray, List.set_cons_zero, List.set_cons_succ, i64_w, i32_w]
          rfl
        exact norm_ (by simp only [putAll, Act.put, List.setIfInBounds_toArray, List.set_cons_zero, List.set_cons_succ]) (hCont (w8.drew.heap.size, v9, ((w8.drew.alloc (.cells #[] 46))).heap.size) _ ⟨hHeld, ho9, (hg.block (((w8.drew.alloc (.cells #[] 46))).heap.size) (by first | (simp; done) | (simp; omega)) (by first | (simp [Value.ownBlock]; done) | (simp [Value.ownBlock]; omega))).trans ((MapKept.heap_alloc ((w8.drew.alloc (.cells #[] 46))) (.cells #[.int .i64 u.f0, .slice u.f1.1 u.f1.2.1 u.f1.2.2, .int .i64 u.f2, .int .i64 u.f3, .int .i64 u.f4, .int .i64 u.f5, .int .i64 u.f6, .int .i64 u.f7, .int .i64 u.f8, .bool u.f9] 46)).1), hb⟩)
    · skip
      refine value_ (w1 := (w8.drew).alloc (.cells #[.int .i64 u.f0, .slice u.f1.1 u.f1.2.1 u.f1.2.2, .int .i64 u.f2, .int .i64 u.f3, .int .i64 u.f4, .int .i64 u.f5, .int .i64 u.f6, .int .i64 u.f7, .int .i64 u.f8, .bool u.f9] 46)) (v := .slice (some ⟨(w8.drew).heap.size, 0, none⟩) 1 1) (by rfl) rfl (by first | (go_simp; done) | (go_simp; rfl)) ?_
      refine hK.out _ _ ⟨(cell_step (below_alloc (below_drew (Below.refl w8.heap.size w8)) (.cells #[.int .i64 u.f0, .slice u.f1.1 u.f1.2.1 u.f1.2.2, .int .i64 u.f2, .int .i64 u.f3, .int .i64 u.f4, .int .i64 u.f5, .int .i64 u.f6, .int .i64 u.f7, .int .i64 u.f8, .bool u.f9] 46)) z6), (cell_step (below_alloc (below_drew (Below.refl w8.heap.size w8)) (.cells #[.int .i64 u.f0, .slice u.f1.1 u.f1.2.1 u.f1.2.2, .int .i64 u.f2, .int .i64 u.f3, .int .i64 u.f4, .int .i64 u.f5, .int .i64 u.f6, .int .i64 u.f7, .int .i64 u.f8, .bool u.f9] 46)) y0), (cell_step (below_alloc (below_drew (Below.refl w8.heap.size w8)) (.cells #[.int .i64 u.f0, .slice u.f1.1 u.f1.2.1 u.f1.2.2, .int .i64 u.f2, .int .i64 u.f3, .int .i64 u.f4, .int .i64 u.f5, .int .i64 u.f6, .int .i64 u.f7, .int .i64 u.f8, .bool u.f9] 46)) y1), (cell_step (below_alloc (below_drew (Below.refl w8.heap.size w8)) (.cells #[.int .i64 u.f0, .slice u.f1.1 u.f1.2.1 u.f1.2.2, .int .i64 u.f2, .int .i64 u.f3, .int .i64 u.f4, .int .i64 u.f5, .int .i64 u.f6, .int .i64 u.f7, .int .i64 u.f8, .bool u.f9] 46)) y2), (cell_step (below_alloc (below_drew (Below.refl w8.heap.size w8)) (.cells #[.int .i64 u.f0, .slice u.f1.1 u.f1.2.1 u.f1.2.2, .int .i64 u.f2, .int .i64 u.f3, .int .i64 u.f4, .int .i64 u.f5, .int .i64 u.f6, .int .i64 u.f7, .int .i64 u.f8, .bool u.f9] 46)) y3), (cell_step (below_alloc (below_drew (Below.refl w8.heap.size w8)) (.cells #[.int .i64 u.f0, .slice u.f1.1 u.f1.2.1 u.f1.2.2, .int .i64 u.f2, .int .i64 u.f3, .int .i64 u.f4, .int .i64 u.f5, .int .i64 u.f6, .int .i64 u.f7, .int .i64 u.f8, .bool u.f9] 46)) y4), (cell_step (below_alloc (below_drew (Below.refl w8.heap.size w8)) (.cells #[.int .i64 u.f0, .slice u.f1.1 u.f1.2.1 u.f1.2.2, .int .i64 u.f2, .int .i64 u.f3, .int .i64 u.f4, .int .i64 u.f5, .int .i64 u.f6, .int .i64 u.f7, .int .i64 u.f8, .bool u.f9] 46)) y5), (cell_step (below_alloc (below_drew (Below.refl w8.heap.size w8)) (.cells #[.int .i64 u.f0, .slice u.f1.1 u.f1.2.1 u.f1.2.2, .int .i64 u.f2, .int .i64 u.f3, .int .i64 u.f4, .int .i64 u.f5, .int .i64 u.f6, .int .i64 u.f7, .int .i64 u.f8, .bool u.f9] 46)) y6), (cell_step (below_alloc (below_drew (Below.refl w8.heap.size w8)) (.cells #[.int .i64 u.f0, .slice u.f1.1 u.f1.2.1 u.f1.2.2, .int .i64 u.f2, .int .i64 u.f3, .int .i64 u.f4, .int .i64 u.f5, .int .i64 u.f6, .int .i64 u.f7, .int .i64 u.f8, .bool u.f9] 46)) y7), (cell_step (below_alloc (below_drew (Below.refl w8.heap.size w8)) (.cells #[.int .i64 u.f0, .slice u.f1.1 u.f1.2.1 u.f1.2.2, .int .i64 u.f2, .int .i64 u.f3, .int .i64 u.f4, .int .i64 u.f5, .int .i64 u.f6, .int .i64 u.f7, .int .i64 u.f8, .bool u.f9] 46)) y8), (cell_step (below_alloc (below_drew (Below.refl w8.heap.size w8)) (.cells #[.int .i64 u.f0, .slice u.f1.1 u.f1.2.1 u.f1.2.2, .int .i64 u.f2, .int .i64 u.f3, .int .i64 u.f4, .int .i64 u.f5, .int .i64 u.f6, .int .i64 u.f7, .int .i64 u.f8, .bool u.f9] 46)) y9)⟩ (fun hHeld => ?_)
      clear hK K
      refine norm_ (a' := ?_) ?_ ?_
      rotate_left
      · show Act.put _ (some 43) _ = _
        simp only [Act.put, List.setIfInBounds_toArray, List.set_cons_zero, List.set_cons_succ, i64_w, i32_w]
        rfl
      refine one_ (i := 0) (N := some 38) #[true, true, true, false, true, true, false, false, false] rfl rfl (by kernel_rfl) (by decide) (fun K hK => ?_)
      refine value_ (w1 := ((w8.drew.alloc (.cells #[.int .i64 u.f0, .slice u.f1.1 u.f1.2.1 u.f1.2.2, .int .i64 u.f2, .int .i64 u.f3, .int .i64 u.f4, .int .i64 u.f5, .int .i64 u.f6, .int .i64 u.f7, .int .i64 u.f8, .bool u.f9] 46))).alloc (.cells #[] 46)) (v := .slice (some ⟨((w8.drew.alloc (.cells #[.int .i64 u.f0, .slice u.f1.1 u.f1.2.1 u.f1.2.2, .int .i64 u.f2, .int .i64 u.f3, .int .i64 u.f4, .int .i64 u.f5, .int .i64 u.f6, .int .i64 u.f7, .int .i64 u.f8, .bool u.f9] 46))).heap.size, 0, none⟩) 0 0) (by rfl) rfl (by first | (go_simp; done) | (go_simp; rfl)) ?_
      refine hK.out _ _ ⟨(cell_step (below_alloc (below_alloc (below_drew (Below.refl w8.heap.size w8)) (.cells #[.int .i64 u.f0, .slice u.f1.1 u.f1.2.1 u.f1.2.2, .int .i64 u.f2, .int .i64 u.f3, .int .i64 u.f4, .int .i64 u.f5, .int .i64 u.f6, .int .i64 u.f7, .int .i64 u.f8, .bool u.f9] 46)) (.cells #[] 46)) z6), (cell_step (below_alloc (below_alloc (below_drew (Below.refl w8.heap.size w8)) (.cells #[.int .i64 u.f0, .slice u.f1.1 u.f1.2.1 u.f1.2.2, .int .i64 u.f2, .int .i64 u.f3, .int .i64 u.f4, .int .i64 u.f5, .int .i64 u.f6, .int .i64 u.f7, .int .i64 u.f8, .bool u.f9] 46)) (.cells #[] 46)) y0), (cell_step (below_alloc (below_alloc (below_drew (Below.refl w8.heap.size w8)) (.cells #[.int .i64 u.f0, .slice u.f1.1 u.f1.2.1 u.f1.2.2, .int .i64 u.f2, .int .i64 u.f3, .int .i64 u.f4, .int .i64 u.f5, .int .i64 u.f6, .int .i64 u.f7, .int .i64 u.f8, .bool u.f9] 46)) (.cells #[] 46)) y1), (cell_step (below_alloc (below_alloc (below_drew (Below.refl w8.heap.size w8)) (.cells #[.int .i64 u.f0, .slice u.f1.1 u.f1.2.1 u.f1.2.2, .int .i64 u.f2, .int .i64 u.f3, .int .i64 u.f4, .int .i64 u.f5, .int .i64 u.f6, .int .i64 u.f7, .int .i64 u.f8, .bool u.f9] 46)) (.cells #[] 46)) y2), (cell_step (below_alloc (below_alloc (below_drew (Below.refl w8.heap.size w8)) (.cells #[.int .i64 u.f0, .slice u.f1.1 u.f1.2.1 u.f1.2.2, .int .i64 u.f2, .int .i64 u.f3, .int .i64 u.f4, .int .i64 u.f5, .int .i64 u.f6, .int .i64 u.f7, .int .i64 u.f8, .bool u.f9] 46)) (.cells #[] 46)) y3), (cell_step (below_alloc (below_alloc (below_drew (Below.refl w8.heap.size w8)) (.cells #[.int .i64 u.f0, .slice u.f1.1 u.f1.2.1 u.f1.2.2, .int .i64 u.f2, .int .i64 u.f3, .int .i64 u.f4, .int .i64 u.f5, .int .i64 u.f6, .int .i64 u.f7, .int .i64 u.f8, .bool u.f9] 46)) (.cells #[] 46)) y4), (cell_step (below_alloc (below_alloc (below_drew (Below.refl w8.heap.size w8)) (.cells #[.int .i64 u.f0, .slice u.f1.1 u.f1.2.1 u.f1.2.2, .int .i64 u.f2, .int .i64 u.f3, .int .i64 u.f4, .int .i64 u.f5, .int .i64 u.f6, .int .i64 u.f7, .int .i64 u.f8, .bool u.f9] 46)) (.cells #[] 46)) y5), (cell_step (below_alloc (below_alloc (below_drew (Below.refl w8.heap.size w8)) (.cells #[.int .i64 u.f0, .slice u.f1.1 u.f1.2.1 u.f1.2.2, .int .i64 u.f2, .int .i64 u.f3, .int .i64 u.f4, .int .i64 u.f5, .int .i64 u.f6, .int .i64 u.f7, .int .i64 u.f8, .bool u.f9] 46)) (.cells #[] 46)) y6), (cell_step (below_alloc (below_alloc (below_drew (Below.refl w8.heap.size w8)) (.cells #[.int .i64 u.f0, .slice u.f1.1 u.f1.2.1 u.f1.2.2, .int .i64 u.f2, .int .i64 u.f3, .int .i64 u.f4, .int .i64 u.f5, .int .i64 u.f6, .int .i64 u.f7, .int .i64 u.f8, .bool u.f9] 46)) (.cells #[] 46)) y7), (cell_step (below_alloc (below_alloc (below_drew (Below.refl w8.heap.size w8)) (.cells #[.int .i64 u.f0, .slice u.f1.1 u.f1.2.1 u.f1.2.2, .int .i64 u.f2, .int .i64 u.f3, .int .i64 u.f4, .int .i64 u.f5, .int .i64 u.f6, .int .i64 u.f7, .int .i64 u.f8, .bool u.f9] 46)) (.cells #[] 46)) y8), (cell_step (below_alloc (below_alloc (below_drew (Below.refl w8.heap.size w8)) (.cells #[.int .i64 u.f0, .slice u.f1.1 u.f1.2.1 u.f1.2.2, .int .i64 u.f2, .int .i64 u.f3, .int .i64 u.f4, .int .i64 u.f5, .int .i64 u.f6, .int .i64 u.f7, .int .i64 u.f8, .bool u.f9] 46)) (.cells #[] 46)) y9)⟩ (fun hHeld => ?_)
      clear hK K
      refine norm_ (a' := ?_) ?_ ?_
      rotate_left
      · show Act.put _ (some 38) _ = _
        simp only [Act.put, List.setIfInBounds_toArray, List.set_cons_zero, List.set_cons_succ, i64_w, i32_w]
        rfl
      refine one_ (i := 3) (N := some 41) #[true, true, true, true, true, true, false, false, false] rfl rfl (by kernel_rfl) (by decide) (fun K hK => ?_)
      ((try rw [drew_out]); (try rw [drew_out]); refine Kd.R_append_rows_step kU (Rr := fun x cs => cs = cellsU x) (w0 := w8) (W := ((w8.drew.alloc (.cells #[.int .i64 u.f0, .slice u.f1.1 u.f1.2.1 u.f1.2.2, .int .i64 u.f2, .int .i64 u.f3, .int .i64 u.f4, .int .i64 u.f5, .int .i64 u.f6, .int .i64 u.f7, .int .i64 u.f8, .bool u.f9] 46)).alloc (.cells #[] 46))) w8.heap.size ?hw (.tmp 38) (.tmp 40) 25 46 (.agg #[.int .i64 0, .slice none 0 0, .int .i64 0, .int .i64 0, .int .i64 0, .int .i64 0, .int .i64 0, .int .i64 0, .int .i64 0, .bool false]) 96 ?ho Try.underlying25 info46 rfl (by decide) (by decide) (.slice (some ⟨((w8.drew.alloc (.cells #[.int .i64 u.f0, .slice u.f1.1 u.f1.2.1 u.f1.2.2, .int .i64 u.f2, .int .i64 u.f3, .int .i64 u.f4, .int .i64 u.f5, .int .i64 u.f6, .int .i64 u.f7, .int .i64 u.f8, .bool u.f9] 46))).heap.size, 0, none⟩) 0 0) ([] : List SU) (us) (A6) (us.length) (c6) (fun _ => True) (fun _ => False) ?hs ?hx (lit0_U (w8.drew.alloc (.cells #[.int .i64 u.f0, .slice u.f1.1 u.f1.2.1 u.f1.2.2, .int .i64 u.f2, .int .i64 u.f3, .int .i64 u.f4, .int .i64 u.f5, .int .i64 u.f6, .int .i64 u.f7, .int .i64 u.f8, .bool u.f9] 46)) w8.heap.size (below_alloc (below_drew (Below.refl w8.heap.size w8)) (.cells #[.int .i64 u.f0, .slice u.f1.1 u.f1.2.1 u.f1.2.2, .int .i64 u.f2, .int .i64 u.f3, .int .i64 u.f4, .int .i64 u.f5, .int .i64 u.f6, .int .i64 u.f7, .int .i64 u.f8, .bool u.f9] 46)).size) (row_U (Kd.C_below HUS.out (below_step HB8.out (below_alloc (below_alloc (below_drew (Below.refl w8.heap.size w8)) (.cells #[.int .i64 u.f0, .slice u.f1.1 u.f1.2.1 u.f1.2.2, .int .i64 u.f2, .int .i64 u.f3, .int .i64 u.f4, .int .i64 u.f5, .int .i64 u.f6, .int .i64 u.f7, .int .i64 u.f8, .bool u.f9] 46)) (.cells #[] 46))))) ?hk (fun _ hk => hk.elim) (fun _ _ => trivial) ((below_alloc (below_alloc (below_drew (Below.refl w8.heap.size w8)) (.cells #[.int .i64 u.f0, .slice u.f1.1 u.f1.2.1 u.f1.2.2, .int .i64 u.f2, .int .i64 u.f3, .int .i64 u.f4, .int .i64 u.f5, .int .i64 u.f6, .int .i64 u.f7, .int .i64 u.f8, .bool u.f9] 46)) (.cells #[] 46))) ?hS ?hL ?_; (case hw => rfl); (case ho => rfl); (case hs => rfl); (case hx => rfl); (case hk => exact (fun x cs h => by rw [h]; exact kU_mkM _ _ _ x)); (case hS => exact ((below_alloc (below_alloc (below_drew (Below.refl w8.heap.size w8)) (.cells #[.int .i64 u.f0, .slice u.f1.1 u.f1.2.1 u.f1.2.2, .int .i64 u.f2, .int .i64 u.f3, .int .i64 u.f4, .int .i64 u.f5, .int .i64 u.f6, .int .i64 u.f7, .int .i64 u.f8, .bool u.f9] 46)) (.cells #[] 46))).size); (case hL => first | (simp only [List.length_nil]; omega) | omega); intro v9 w9 ho9 hb hg hat; clear hat)
      rw [List.nil_append] at ho9
      refine hK.out _ _ ⟨(cell_step hb z6), (cell_step hb y0), (cell_step hb y1), (cell_step hb y2), (cell_step hb y3), (cell_step hb y4), (cell_step hb y5), (cell_step hb y6), (cell_step hb y7), (cell_step hb y8), (cell_step hb y9)⟩ (fun hHeld => ?_)
      clear hK K
      refine norm_ (a' := ?_) ?_ ?_
      rotate_left
      · show Act.put _ (some 41) _ = _
        simp only [Act.put, List.setIfInBounds_toArray, List.set_cons_zero, List.set_cons_succ, i64_w, i32_w]
        rfl
      exact norm_ (by simp only [putAll, Act.put, List.setIfInBounds_toArray, List.set_cons_zero, List.set_cons_succ]) (hCont (((w8.drew.alloc (.cells #[.int .i64 u.f0, .slice u.f1.1 u.f1.2.1 u.f1.2.2, .int .i64 u.f2, .int .i64 u.f3, .int .i64 u.f4, .int .i64 u.f5, .int .i64 u.f6, .int .i64 u.f7, .int .i64 u.f8, .bool u.f9] 46))).heap.size, v9, w8.drew.heap.size) _ ⟨hHeld, ho9, (hg.block (w8.drew.heap.size) (by first | (simp; done) | (simp; omega)) (by first | (simp [Value.ownBlock]; done) | (simp [Value.ownBlock]; omega))).trans (blk_alloc (MapKept.heap_alloc w8.drew (.cells #[.int .i64 u.f0, .slice u.f1.1 u.f1.2.1 u.f1.2.2, .int .i64 u.f2, .int .i64 u.f3, .int .i64 u.f4, .int .i64 u.f5, .int .i64 u.f6, .int .i64 u.f7, .int .i64 u.f8, .bool u.f9] 46)).1 _), hb⟩)
  rintro ⟨g0, v9, g5⟩ w9 ⟨hHeld, hR9, hG5, hB9⟩
  refine norm_ (a' := ?_) ?_ ?_
  rotate_left
  · simp only [putAll, Act.put, List.setIfInBounds_toArray, List.set_cons_zero, List.set_cons_succ]
    rfl
  refine last_ (i := 6) (N := some 44) #[true, true, true, true, true, true, true, false, false] rfl rfl (by kernel_rfl) (by decide) (fun K hK => ?_)
  ((try rw [drew_out]); (try rw [drew_out]); refine Kd.R_append_rows_step kU (Rr := fun x cs => cs = cellsU x) (w0 := w8) (W := w9) w8.heap.size ?hw (.tmp 41) (.tmp 43) 25 46 (.agg #[.int .i64 0, .slice none 0 0, .int .i64 0, .int .i64 0, .int .i64 0, .int .i64 0, .int .i64 0, .int .i64 0, .int .i64 0, .bool false]) 96 ?ho Try.underlying25 info46 rfl (by decide) (by decide) (v9) (us) ([u]) (some ⟨g5, 0, none⟩) (1) (1) (fun _ => True) (fun _ => False) ?hs ?hx (hR9) (one_U hG5) ?hk (fun _ hk => hk.elim) (fun _ _ => trivial) (hB9) ?hS ?hL ?_; (case hw => rfl); (case ho => rfl); (case hs => rfl); (case hx => rfl); (case hk => exact (fun x cs h => by rw [h]; exact kU_mkM _ _ _ x)); (case hS => exact (hB9).size); (case hL => first | (simp only [List.length_nil]; omega) | omega); intro v10 w10 ho10 hb10 hg10 hat; clear hat)
  refine hK.out _ _ ?_
  clear hK K
  refine norm_ (a' := ?_) ?_ ?_
  rotate_left
  · show Act.put _ (some 44) _ = _
    simp only [Act.put, List.setIfInBounds_toArray, List.set_cons_zero, List.set_cons_succ, i64_w, i32_w]
    rfl
  refine pure_ (i := 7) (N := some 45) (v := ?_) (a' := ?_) #[true, true, true, true, true, true, true, true, false] rfl rfl (by kernel_rfl) (fun _ _ _ h => h) (Or.inl ⟨by rfl, ?_⟩) ?_ ?_
  rotate_left
  · intro w'
    go_simp
    with_reducible rfl
  rotate_left
  · simp only [Act.put, List.setIfInBounds_toArray, List.set_cons_zero, List.set_cons_succ, i64_w, i32_w]
    rfl
  refine last_ (i := 8) (N := none) #[true, true, true, true, true, true, true, true, true] rfl rfl (by kernel_rfl) (by decide) (fun K hK => ?_)
  obtain ⟨A10, c10, ev10, hl10, hc10⟩ := Kd.R_reads ho10
  subst ev10
  obtain ⟨mu, hmu⟩ : ∃ q, us ++ [u] = q := ⟨_, rfl⟩
  have HML : Aside0 (mu.length = us.length + 1 ∧ strands mu = strands us ++ [u.f0]) := ⟨by rw [← hmu]; simp, by rw [← hmu]; unfold strands; rw [List.map_append]; rfl⟩
  rw [hmu] at ho10 hl10 hc10 ⊢
  clear hmu
  have k86 : w10.cell? ⟨G8, 6, none⟩ = some (.slice A6 us.length c6) := (blk_cell (blk_below BK8.out hb10) 6).trans rfl
  have f86 := blk_frozen (blk_below BK8.out hb10) 6
  refine skip_ (w1 := ?_) (by rfl) rfl ?_ ?_
  rotate_left
  · go_simp
    rfl
  refine hK.out _ _ ?_
  clear hK K
  refine done_ (by kernel_rfl) ?_
  have hb11 := (below_step HB8.out hb10).setCell (p := ⟨G8, 6, none⟩) HGS.out.2.2.2.1 (.slice A10 mu.length c10)
  have ho11 := Kd.R_set ho10 (blk_below BK8.out hb10) (by decide) 6 (.slice A10 mu.length c10)
  have n8 := blk_put (blk_below BK8.out hb10) 6 (.slice A10 mu.length c10) (cs' := #[.int .i64 a0, .int .i64 a1, .slice s2.1 s2.2.1 s2.2.2, .slice s3.1 s3.2.1 s3.2.2, .slice s4.1 s4.2.1 s4.2.2, .slice s5.1 s5.2.1 s5.2.2, .slice A10 mu.length c10, .slice A7 sp.length c7, .int .i64 a8, .int .i64 a9, .slice s10.1 s10.2.1 s10.2.2]) rfl
  have n3 := blk_far (p := ⟨G8, 6, none⟩) (blk_below BK3.out hb10) (by have := HGS.out; simp only; omega) (.slice A10 mu.length c10)
  have n4 := blk_far (p := ⟨G8, 6, none⟩) (blk_below BK4.out hb10) (by have := HGS.out; simp only; omega) (.slice A10 mu.length c10)
  clear hg10 hc10 hl10 ho10 hR9 hG5 k86 f86 hHeld BK3 BK4 BK5 BK8 HB8 z6 y0 y1 y2 y3 y4 y5 y6 y7 y8 y9
  generalize hw11 : w10.setCell ⟨G8, 6, none⟩ (.slice A10 mu.length c10) = w11 at hb11 ho11 n8 n3 n4 ⊢
  clear hw11 hb10 hB9
  have hrd := Kd.R_reads' ho11
  have HMU := Aside0.mk hrd.2.2
  have HMC := Aside0.mk hrd.2.1
  have HB := Aside0.mk hb11
  have BK3 := Aside0.mk n3
  have BK4 := Aside0.mk n4
  have BK8 := Aside0.mk n8
  have hm41 : (mu.length : Int) ≤ 41 := by have := HML.out.1; omega
  clear hb11 ho11 n3 n4 n8 hrd
  obtain ⟨q, hq⟩ : ∃ q, namedL (strands mu) sp = q := ⟨_, rfl⟩
  have HQ := Aside0.mk hq
  obtain ⟨m0, m1, m2, m3, m4, m5, m6, m7, m8, m9, m10⟩ := box_cells BK8.out
  cases hq2 : q.2 with
  | false =>
    have hqn := named_none hq hq2
    have HQN := Aside0.mk hqn
    clear hq hqn hq2
    go_wp2_with (first | ((with_reducible refine gate_callee (f := 6) rfl ?_); refine goesL_ (some 48) rfl rfl Try.func6 (by kernel_rfl) rfl #[.agg #[.int .i64 a0, .int .i64 a1, .slice s2.1 s2.2.1 s2.2.2, .slice s3.1 s3.2.1 s3.2.2, .slice s4.1 s4.2.1 s4.2.2, .slice s5.1 s5.2.1 s5.2.2, .slice A10 mu.length c10, .slice A7 sp.length c7, .int .i64 a8, .int .i64 a9, .slice s10.1 s10.2.1 s10.2.2]] rfl (by (try simp only [List.map_toArray, List.map_cons, List.map_nil]); first | done | rfl | (simp only [List.length_drop, List.length_take]; rfl)) ?_; (with_reducible refine (named_calls a0 a1 s2 s3 s4 s5 A10 c10 mu A7 c7 sp a8 a9 s10 _ HMU.out (Kd.C_below HSP.out HB.out) HCS.out.2 (by omega) (by omega) q HQ.out).mono ?_); rintro e w12 ⟨rfl, hb⟩; refine ⟨_, rfl, ?_⟩; have m1_ := Aside0.mk (below_step (by repeat (first | (with_reducible first | exact HB.out | apply below_alloc | apply pw_below_drewN | apply below_drew1) | exact HB.out)) hb); clear HB; have HB := m1_; clear m1_; clear hb; rw [HQN.out]))
    go_ret
    exact ⟨rfl, HB.out⟩
  | true =>
    obtain ⟨o, ho, hqo, hin⟩ := named_some hq hq2
    have HQO := Aside0.mk hqo
    obtain ⟨r1, hr1⟩ : ∃ q, (chainL (strands us) sp).length = q := ⟨_, rfl⟩
    obtain ⟨r2, hr2⟩ : ∃ q, (chainL (strands mu) sp).length = q := ⟨_, rfl⟩
    have hrr : r1 ≤ r2 ∧ r2 ≤ r1 + 1 := by
      rw [← hr1, ← hr2, HML.out.2]
      unfold chainL
      rw [ho]
      exact chain_more o (strands us) u.f0
    have hr40 : r1 ≤ us.length := by
      rw [← hr1]
      have := chain_len (strands us) sp
      unfold strands at this
      rwa [List.length_map] at this
    obtain ⟨n, hn⟩ : ∃ q, stepsL b0 b1 (us.length : Int) a9 pk = q := ⟨_, rfl⟩
    have HR1 := Aside0.mk hr1
    have HR2 := Aside0.mk hr2
    have HNN := Aside0.mk hn
    have HRB := Aside0.mk (And.intro hrr hr40)
    clear hq hq2 ho hqo hin hr1 hr2 hn hrr hr40
    have hwp : wrap64 pk = pk := by unfold wrap64; omega
    have hwq : IntKind.i64.wrap pk = pk := by rw [IntKind.wrap_i64]; omega
    go_wp2_with (first | ((with_reducible refine gate_callee (f := 6) rfl ?_); refine goesL_ (some 48) rfl rfl Try.func6 (by kernel_rfl) rfl #[.agg #[.int .i64 a0, .int .i64 a1, .slice s2.1 s2.2.1 s2.2.2, .slice s3.1 s3.2.1 s3.2.2, .slice s4.1 s4.2.1 s4.2.2, .slice s5.1 s5.2.1 s5.2.2, .slice A10 mu.length c10, .slice A7 sp.length c7, .int .i64 a8, .int .i64 a9, .slice s10.1 s10.2.1 s10.2.2]] rfl (by (try simp only [List.map_toArray, List.map_cons, List.map_nil]); first | done | rfl | (simp only [List.length_drop, List.length_take]; rfl)) ?_; (with_reducible refine (named_calls a0 a1 s2 s3 s4 s5 A10 c10 mu A7 c7 sp a8 a9 s10 _ HMU.out (Kd.C_below HSP.out HB.out) HCS.out.2 (by omega) (by omega) q HQ.out).mono ?_); rintro e w12 ⟨rfl, hb⟩; refine ⟨_, rfl, ?_⟩; (first | (with_reducible have e0_ := Aside0.mk (Kd.C_below HMU.out hb)) | (with_reducible have e0_ := Aside0.mk (Kd.C_below (Kd.C_drewN HMU.out _) hb)) | (with_reducible have e0_ := Aside0.mk (Kd.C_below (Kd.C_alloc HMU.out _) hb)) | (with_reducible have e0_ := Aside0.mk (Kd.C_below (Kd.C_drewN (Kd.C_alloc HMU.out _) _) hb)) | (with_reducible have e0_ := Aside0.mk (Kd.C_below (Kd.C_alloc (Kd.C_drewN HMU.out _) _) hb)) | (with_reducible have e0_ := Aside0.mk (Kd.C_below (Kd.C_drewN (Kd.C_drewN HMU.out _) _) hb))); have b0_ := Aside0.mk (blk_below (by (with_reducible repeat (first | refine blk_drewN ?_ _ | refine blk_drew ?_ | refine blk_alloc ?_ _)); exact BK3.out) hb); have b1_ := Aside0.mk (blk_below (by (with_reducible repeat (first | refine blk_drewN ?_ _ | refine blk_drew ?_ | refine blk_alloc ?_ _)); exact BK4.out) hb); have b2_ := Aside0.mk (blk_below (by (with_reducible repeat (first | refine blk_drewN ?_ _ | refine blk_drew ?_ | refine blk_alloc ?_ _)); exact BK8.out) hb); have m1_ := Aside0.mk (below_step (by repeat (first | (with_reducible first | exact HB.out | apply below_alloc | apply pw_below_drewN | apply below_drew1) | exact HB.out)) hb); clear HB; have HB := m1_; clear m1_; clear HMU; have HMU := e0_; clear e0_; clear BK3; have BK3 := b0_; clear b0_; clear BK4; have BK4 := b1_; clear b1_; clear BK8; have BK8 := b2_; clear b2_; clear hb; rw [HQO.out]; obtain ⟨k0, k1, k2, k3, k4, k5, k6, k7, k8⟩ := conf_cells BK3.out; obtain ⟨z0, z1, z2, z3, z4, z5, z6, z7, z8, z9, z10⟩ := box_cells BK4.out) | ((with_reducible refine gate_callee (f := 11) rfl ?_); refine goesL_ (some 58) rfl rfl Try.func11 (by kernel_rfl) rfl #[.agg #[.int .i64 b0, .int .i64 b1, .int .i64 b2, .int .i64 b3, .int .i64 b4, .int .i64 b5, .int .i64 b6, .int .i64 b7, .int .i64 b8], .agg #[.int .i64 a0, .int .i64 a1, .slice s2.1 s2.2.1 s2.2.2, .slice s3.1 s3.2.1 s3.2.2, .slice s4.1 s4.2.1 s4.2.2, .slice s5.1 s5.2.1 s5.2.2, .slice A6 us.length c6, .slice A7 sp.length c7, .int .i64 a8, .int .i64 a9, .slice s10.1 s10.2.1 s10.2.2], .int .i64 pk] rfl (by (try simp only [List.map_toArray, List.map_cons, List.map_nil]); first | done | rfl | (simp only [List.length_drop, List.length_take]; rfl)) ?_; (with_reducible refine (steps_calls a0 a1 s2 s3 s4 s5 A6 c6 us A7 c7 sp a8 a9 s10 b0 b1 b2 b3 b4 b5 b6 b7 b8 pk _ n HNN.out).mono ?_); rintro e w13 ⟨rfl, hb⟩; refine ⟨_, rfl, ?_⟩; (first | (with_reducible have e0_ := Aside0.mk (Kd.C_below HMU.out hb)) | (with_reducible have e0_ := Aside0.mk (Kd.C_below (Kd.C_drewN HMU.out _) hb)) | (with_reducible have e0_ := Aside0.mk (Kd.C_below (Kd.C_alloc HMU.out _) hb)) | (with_reducible have e0_ := Aside0.mk (Kd.C_below (Kd.C_drewN (Kd.C_alloc HMU.out _) _) hb)) | (with_reducible have e0_ := Aside0.mk (Kd.C_below (Kd.C_alloc (Kd.C_drewN HMU.out _) _) hb)) | (with_reducible have e0_ := Aside0.mk (Kd.C_below (Kd.C_drewN (Kd.C_drewN HMU.out _) _) hb))); have b0_ := Aside0.mk (blk_below (by (with_reducible repeat (first | refine blk_drewN ?_ _ | refine blk_drew ?_ | refine blk_alloc ?_ _)); exact BK3.out) hb); have b1_ := Aside0.mk (blk_below (by (with_reducible repeat (first | refine blk_drewN ?_ _ | refine blk_drew ?_ | refine blk_alloc ?_ _)); exact BK4.out) hb); have b2_ := Aside0.mk (blk_below (by (with_reducible repeat (first | refine blk_drewN ?_ _ | refine blk_drew ?_ | refine blk_alloc ?_ _)); exact BK8.out) hb); have m1_ := Aside0.mk (below_step (by repeat (first | (with_reducible first | exact HB.out | apply below_alloc | apply pw_below_drewN | apply below_drew1) | exact HB.out)) hb); clear HB; have HB := m1_; clear m1_; clear HMU; have HMU := e0_; clear e0_; clear BK3; have BK3 := b0_; clear b0_; clear BK4; have BK4 := b1_; clear b1_; clear BK8; have BK8 := b2_; clear b2_; clear hb; obtain ⟨z0, z1, z2, z3, z4, z5, z6, z7, z8, z9, z10⟩ := box_cells BK4.out; obtain ⟨m0, m1, m2, m3, m4, m5, m6, m7, m8, m9, m10⟩ := box_cells BK8.out))
    have HLM : Aside0 (sp.length ≤ 60 ∧ mu.length ≤ 1000 ∧ us.length ≤ 1000) := ⟨by omega⟩
    have hwu : wrap64 ((us.length : Int) + 1) = (mu.length : Int) := by have := HML.out.1; unfold wrap64; omega
    have hwu2 : IntKind.i64.wrap ((us.length : Int) + 1) = (mu.length : Int) := by have := HML.out.1; rw [IntKind.wrap_i64]; omega
    have hr40 : r1 ≤ 40 := by have := HRB.out.2; omega
    have hwr : wrap64 ((r1 : Int) + 1) = (r1 : Int) + 1 := by unfold wrap64; omega
    have hwr2 : IntKind.i64.wrap ((r1 : Int) + 1) = (r1 : Int) + 1 := by rw [IntKind.wrap_i64]; omega
    have d1 : decide ((r2 : Int) < (r1 : Int)) = false := decide_eq_false (by have := HRB.out.1; omega)
    have d2 : decide (r2 < r1) = false := decide_eq_false (by have := HRB.out.1; omega)
    have d3 : decide ((r1 : Int) + 1 < (r2 : Int)) = false := decide_eq_false (by have := HRB.out.1; omega)
    have d4 : decide (r1 + 1 < r2) = false := decide_eq_false (by have := HRB.out.1; omega)
    refine start_ (n := 21) (S := fun w' => w'.cell? ⟨G8, 0, none⟩ = some (.int .i64 a0) ∧ w'.cell? ⟨G8, 1, none⟩ = some (.int .i64 a1) ∧ w'.cell? ⟨G8, 2, none⟩ = some (.slice s2.1 s2.2.1 s2.2.2) ∧ w'.cell? ⟨G8, 3, none⟩ = some (.slice s3.1 s3.2.1 s3.2.2) ∧ w'.cell? ⟨G8, 4, none⟩ = some (.slice s4.1 s4.2.1 s4.2.2) ∧ w'.cell? ⟨G8, 5, none⟩ = some (.slice s5.1 s5.2.1 s5.2.2) ∧ w'.cell? ⟨G8, 6, none⟩ = some (.slice A10 mu.length c10) ∧ w'.cell? ⟨G8, 7, none⟩ = some (.slice A7 sp.length c7) ∧ w'.cell? ⟨G8, 8, none⟩ = some (.int .i64 a8) ∧ w'.cell? ⟨G8, 9, none⟩ = some (.int .i64 a9) ∧ w'.cell? ⟨G8, 10, none⟩ = some (.slice s10.1 s10.2.1 s10.2.2) ∧ w'.cell? ⟨G4, 0, none⟩ = some (.int .i64 a0) ∧ w'.cell? ⟨G4, 1, none⟩ = some (.int .i64 a1) ∧ w'.cell? ⟨G4, 2, none⟩ = some (.slice s2.1 s2.2.1 s2.2.2) ∧ w'.cell? ⟨G4, 3, none⟩ = some (.slice s3.1 s3.2.1 s3.2.2) ∧ w'.cell? ⟨G4, 4, none⟩ = some (.slice s4.1 s4.2.1 s4.2.2) ∧ w'.cell? ⟨G4, 5, none⟩ = some (.slice s5.1 s5.2.1 s5.2.2) ∧ w'.cell? ⟨G4, 6, none⟩ = some (.slice A6 us.length c6) ∧ w'.cell? ⟨G4, 7, none⟩ = some (.slice A7 sp.length c7) ∧ w'.cell? ⟨G4, 8, none⟩ = some (.int .i64 a8) ∧ w'.cell? ⟨G4, 9, none⟩ = some (.int .i64 a9) ∧ w'.cell? ⟨G4, 10, none⟩ = some (.slice s10.1 s10.2.1 s10.2.2)) (ds := [17]) #[false, false, false, false, false, false, false, false, false, false, false, false, false, false, false, false, false, false, false, false, false] (by kernel_rfl) rfl rfl ⟨m0, m1, m2, m3, m4, m5, m6, m7, m8, m9, m10, z0, z1, z2, z3, z4, z5, z6, z7, z8, z9, z10⟩ (fun hHeld => ?_)
    refine take_ (i := 0) (N := some 59) (v := ?_) (a' := ?_) #[true, false, false, false, false, false, false, false, false, false, false, false, false, false, false, false, false, false, false, false, false] rfl rfl (by kernel_rfl) (fun _ _ _ h => h) (Or.inl ⟨by rfl, ?_⟩) hHeld ?_ ?_
    rotate_left
    · rintro w' ⟨s0, s1, s2, s3, s4, s5, s6, s7, s8, s9, s10, s11, s12, s13, s14, s15, s16, s17, s18, s19, s20, s21⟩
      go_simp
      with_reducible rfl
    rotate_left
    · simp only [Act.put, List.setIfInBounds_toArray, List.set_cons_zero, List.set_cons_succ, i64_w, i32_w]
      rfl
    refine take_ (i := 2) (N := some 61) (v := ?_) (a' := ?_) #[true, false, true, false, false, false, false, false, false, false, false, false, false, false, false, false, false, false, false, false, false] rfl rfl (by kernel_rfl) (fun _ _ _ h => h) (Or.inl ⟨by rfl, ?_⟩) hHeld ?_ ?_
    rotate_left
    · rintro w' ⟨s0, s1, s2, s3, s4, s5, s6, s7, s8, s9, s10, s11, s12, s13, s14, s15, s16, s17, s18, s19, s20, s21⟩
      go_simp
      with_reducible rfl
    rotate_left
    · simp only [Act.put, List.setIfInBounds_toArray, List.set_cons_zero, List.set_cons_succ, i64_w, i32_w]
      rfl
    refine one_ (i := 1) (N := some 60) #[true, true, true, false, false, false, false, false, false, false, false, false, false, false, false, false, false, false, false, false, false] rfl rfl (by kernel_rfl) (by decide) (fun K hK => ?_)
    refine goes_ Try.func10 (by kernel_rfl) rfl #[.agg #[.int .i64 a0, .int .i64 a1, .slice s2.1 s2.2.1 s2.2.2, .slice s3.1 s3.2.1 s3.2.2, .slice s4.1 s4.2.1 s4.2.2, .slice s5.1 s5.2.1 s5.2.2, .slice A10 mu.length c10, .slice A7 sp.length c7, .int .i64 a8, .int .i64 a9, .slice s10.1 s10.2.1 s10.2.2]] (by rfl) rfl rfl (by simp only [List.map_toArray, List.map_cons, List.map_nil]; rfl) ?_
    with_reducible refine (work_calls a0 a1 s2 s3 s4 s5 A10 c10 mu A7 c7 sp a8 a9 s10 w13.drew).mono ?_
    rintro e w14 ⟨rfl, hb14⟩
    refine ⟨_, rfl, ?_⟩
    have hq14 : Below w13.heap.size w13 w14 := below_undrew hb14
    refine hK.out _ _ ⟨(cell_step hb14 (a := ⟨G8, 0, none⟩) m0), (cell_step hb14 (a := ⟨G8, 1, none⟩) m1), (cell_step hb14 (a := ⟨G8, 2, none⟩) m2), (cell_step hb14 (a := ⟨G8, 3, none⟩) m3), (cell_step hb14 (a := ⟨G8, 4, none⟩) m4), (cell_step hb14 (a := ⟨G8, 5, none⟩) m5), (cell_step hb14 (a := ⟨G8, 6, none⟩) m6), (cell_step hb14 (a := ⟨G8, 7, none⟩) m7), (cell_step hb14 (a := ⟨G8, 8, none⟩) m8), (cell_step hb14 (a := ⟨G8, 9, none⟩) m9), (cell_step hb14 (a := ⟨G8, 10, none⟩) m10), (cell_step hb14 (a := ⟨G4, 0, none⟩) z0), (cell_step hb14 (a := ⟨G4, 1, none⟩) z1), (cell_step hb14 (a := ⟨G4, 2, none⟩) z2), (cell_step hb14 (a := ⟨G4, 3, none⟩) z3), (cell_step hb14 (a := ⟨G4, 4, none⟩) z4), (cell_step hb14 (a := ⟨G4, 5, none⟩) z5), (cell_step hb14 (a := ⟨G4, 6, none⟩) z6), (cell_step hb14 (a := ⟨G4, 7, none⟩) z7), (cell_step hb14 (a := ⟨G4, 8, none⟩) z8), (cell_step hb14 (a := ⟨G4, 9, none⟩) z9), (cell_step hb14 (a := ⟨G4, 10, none⟩) z10)⟩ (fun hHeld => ?_)
    clear hK K
    refine norm_ (a' := ?_) ?_ ?_
    rotate_left
    · show Act.put _ (some 60) _ = _
      simp only [Act.put, List.setIfInBounds_toArray, List.set_cons_zero, List.set_cons_succ, i64_w, i32_w]
      rfl
    refine one_ (i := 3) (N := some 62) #[true, true, true, true, false, false, false, false, false, false, false, false, false, false, false, false, false, false, false, false, false] rfl rfl (by kernel_rfl) (by decide) (fun K hK => ?_)
    refine goes_ Try.func10 (by kernel_rfl) rfl #[.agg #[.int .i64 a0, .int .i64 a1, .slice s2.1 s2.2.1 s2.2.2, .slice s3.1 s3.2.1 s3.2.2, .slice s4.1 s4.2.1 s4.2.2, .slice s5.1 s5.2.1 s5.2.2, .slice A6 us.length c6, .slice A7 sp.length c7, .int .i64 a8, .int .i64 a9, .slice s10.1 s10.2.1 s10.2.2]] (by rfl) rfl rfl (by simp only [List.map_toArray, List.map_cons, List.map_nil]; rfl) ?_
    with_reducible refine (work_calls a0 a1 s2 s3 s4 s5 A6 c6 us A7 c7 sp a8 a9 s10 w14).mono ?_
    rintro e w15 ⟨rfl, hb15⟩
    refine ⟨_, rfl, ?_⟩
    have hq15 : Below w13.heap.size w13 w15 := below_step hq14 hb15
    refine hK.out _ _ ⟨(cell_step hb15 (a := ⟨G8, 0, none⟩) hHeld.1), (cell_step hb15 (a := ⟨G8, 1, none⟩) hHeld.2.1), (cell_step hb15 (a := ⟨G8, 2, none⟩) hHeld.2.2.1), (cell_step hb15 (a := ⟨G8, 3, none⟩) hHeld.2.2.2.1), (cell_step hb15 (a := ⟨G8, 4, none⟩) hHeld.2.2.2.2.1), (cell_step hb15 (a := ⟨G8, 5, none⟩) hHeld.2.2.2.2.2.1), (cell_step hb15 (a := ⟨G8, 6, none⟩) hHeld.2.2.2.2.2.2.1), (cell_step hb15 (a := ⟨G8, 7, none⟩) hHeld.2.2.2.2.2.2.2.1), (cell_step hb15 (a := ⟨G8, 8, none⟩) hHeld.2.2.2.2.2.2.2.2.1), (cell_step hb15 (a := ⟨G8, 9, none⟩) hHeld.2.2.2.2.2.2.2.2.2.1), (cell_step hb15 (a := ⟨G8, 10, none⟩) hHeld.2.2.2.2.2.2.2.2.2.2.1), (cell_step hb15 (a := ⟨G4, 0, none⟩) hHeld.2.2.2.2.2.2.2.2.2.2.2.1), (cell_step hb15 (a := ⟨G4, 1, none⟩) hHeld.2.2.2.2.2.2.2.2.2.2.2.2.1), (cell_step hb15 (a := ⟨G4, 2, none⟩) hHeld.2.2.2.2.2.2.2.2.2.2.2.2.2.1), (cell_step hb15 (a := ⟨G4, 3, none⟩) hHeld.2.2.2.2.2.2.2.2.2.2.2.2.2.2.1), (cell_step hb15 (a := ⟨G4, 4, none⟩) hHeld.2.2.2.2.2.2.2.2.2.2.2.2.2.2.2.1), (cell_step hb15 (a := ⟨G4, 5, none⟩) hHeld.2.2.2.2.2.2.2.2.2.2.2.2.2.2.2.2.1), (cell_step hb15 (a := ⟨G4, 6, none⟩) hHeld.2.2.2.2.2.2.2.2.2.2.2.2.2.2.2.2.2.1), (cell_step hb15 (a := ⟨G4, 7, none⟩) hHeld.2.2.2.2.2.2.2.2.2.2.2.2.2.2.2.2.2.2.1), (cell_step hb15 (a := ⟨G4, 8, none⟩) hHeld.2.2.2.2.2.2.2.2.2.2.2.2.2.2.2.2.2.2.2.1), (cell_step hb15 (a := ⟨G4, 9, none⟩) hHeld.2.2.2.2.2.2.2.2.2.2.2.2.2.2.2.2.2.2.2.2.1), (cell_step hb15 (a := ⟨G4, 10, none⟩) hHeld.2.2.2.2.2.2.2.2.2.2.2.2.2.2.2.2.2.2.2.2.2)⟩ (fun hHeld => ?_)
    clear hK K
    refine norm_ (a' := ?_) ?_ ?_
    rotate_left
    · show Act.put _ (some 62) _ = _
      simp only [Act.put, List.setIfInBounds_toArray, List.set_cons_zero, List.set_cons_succ, i64_w, i32_w]
      rfl
    refine pure_ (i := 4) (N := some 63) (v := ?_) (a' := ?_) #[true, true, true, true, true, false, false, false, false, false, false, false, false, false, false, false, false, false, false, false, false] rfl rfl (by kernel_rfl) (fun _ _ _ h => h) (Or.inl ⟨by rfl, ?_⟩) ?_ ?_
    rotate_left
    · intro w'
      go_simp
      with_reducible rfl
    rotate_left
    · simp only [Act.put, List.setIfInBounds_toArray, List.set_cons_zero, List.set_cons_succ, i64_w, i32_w]
      rfl
    refine pure_ (i := 5) (N := some 64) (v := ?_) (a' := ?_) #[true, true, true, true, true, true, false, false, false, false, false, false, false, false, false, false, false, false, false, false, false] rfl rfl (by kernel_rfl) (fun _ _ _ h => h) (Or.inl ⟨by rfl, ?_⟩) ?_ ?_
    rotate_left
    · intro w'
      go_simp
      with_reducible rfl
    rotate_left
    · simp only [Act.put, List.setIfInBounds_toArray, List.set_cons_zero, List.set_cons_succ, i64_w, i32_w]
      rfl
    refine pure_ (i := 6) (N := some 65) (v := ?_) (a' := ?_) #[true, true, true, true, true, true, true, false, false, false, false, false, false, false, false, false, false, false, false, false, false] rfl rfl (by kernel_rfl) (fun _ _ _ h => h) (Or.inl ⟨by rfl, ?_⟩) ?_ ?_
    rotate_left
    · intro w'
      go_simp
      with_reducible rfl
    rotate_left
    · simp only [Act.put, List.setIfInBounds_toArray, List.set_cons_zero, List.set_cons_succ, i64_w, i32_w]
      rfl
    refine take_ (i := 7) (N := some 66) (v := ?_) (a' := ?_) #[true, true, true, true, true, true, true, true, false, false, false, false, false, false, false, false, false, false, false, false, false] rfl rfl (by kernel_rfl) (fun _ _ _ h => h) (Or.inl ⟨by rfl, ?_⟩) hHeld ?_ ?_
    rotate_left
    · rintro w' ⟨s0, s1, s2, s3, s4, s5, s6, s7, s8, s9, s10, s11, s12, s13, s14, s15, s16, s17, s18, s19, s20, s21⟩
      go_simp
      with_reducible rfl
    rotate_left
    · simp only [Act.put, List.setIfInBounds_toArray, List.set_cons_zero, List.set_cons_succ, i64_w, i32_w]
      rfl
    refine take_ (i := 9) (N := some 68) (v := ?_) (a' := ?_) #[true, true, true, true, true, true, true, true, false, true, false, false, false, false, false, false, false, false, false, false, false] rfl rfl (by kernel_rfl) (fun _ _ _ h => h) (Or.inl ⟨by rfl, ?_⟩) hHeld ?_ ?_
    rotate_left
    · rintro w' ⟨s0, s1, s2, s3, s4, s5, s6, s7, s8, s9, s10, s11, s12, s13, s14, s15, s16, s17, s18, s19, s20, s21⟩
      go_simp
      with_reducible rfl
    rotate_left
    · simp only [Act.put, List.setIfInBounds_toArray, List.set_cons_zero, List.set_cons_succ, i64_w, i32_w]
      rfl
    refine one_ (i := 8) (N := some 67) #[true, true, true, true, true, true, true, true, true, true, false, false, false, false, false, false, false, false, false, false, false] rfl rfl (by kernel_rfl) (by decide) (fun K hK => ?_)
    refine goes_ Try.func12 (by kernel_rfl) rfl #[.agg #[.int .i64 a0, .int .i64 a1, .slice s2.1 s2.2.1 s2.2.2, .slice s3.1 s3.2.1 s3.2.2, .slice s4.1 s4.2.1 s4.2.2, .slice s5.1 s5.2.1 s5.2.2, .slice A10 mu.length c10, .slice A7 sp.length c7, .int .i64 a8, .int .i64 a9, .slice s10.1 s10.2.1 s10.2.2]] (by rfl) rfl rfl (by simp only [List.map_toArray, List.map_cons, List.map_nil]; rfl) ?_
    with_reducible refine (span_calls a0 a1 s2 s3 s4 s5 A10 c10 mu A7 c7 sp a8 a9 s10 w15 (Kd.C_below HMU.out hq15) (Kd.C_below HSP.out (below_step HB.out hq15)) HLM.out.1 HLM.out.2.1 r2 HR2.out).mono ?_
    rintro e w16 ⟨rfl, hb16⟩
    refine ⟨_, rfl, ?_⟩
    have hq16 : Below w13.heap.size w13 w16 := below_step hq15 hb16
    refine hK.out _ _ ⟨(cell_step hb16 (a := ⟨G8, 0, none⟩) hHeld.1), (cell_step hb16 (a := ⟨G8, 1, none⟩) hHeld.2.1), (cell_step hb16 (a := ⟨G8, 2, none⟩) hHeld.2.2.1), (cell_step hb16 (a := ⟨G8, 3, none⟩) hHeld.2.2.2.1), (cell_step hb16 (a := ⟨G8, 4, none⟩) hHeld.2.2.2.2.1), (cell_step hb16 (a := ⟨G8, 5, none⟩) hHeld.2.2.2.2.2.1), (cell_step hb16 (a := ⟨G8, 6, none⟩) hHeld.2.2.2.2.2.2.1), (cell_step hb16 (a := ⟨G8, 7, none⟩) hHeld.2.2.2.2.2.2.2.1), (cell_step hb16 (a := ⟨G8, 8, none⟩) hHeld.2.2.2.2.2.2.2.2.1), (cell_step hb16 (a := ⟨G8, 9, none⟩) hHeld.2.2.2.2.2.2.2.2.2.1), (cell_step hb16 (a := ⟨G8, 10, none⟩) hHeld.2.2.2.2.2.2.2.2.2.2.1), (cell_step hb16 (a := ⟨G4, 0, none⟩) hHeld.2.2.2.2.2.2.2.2.2.2.2.1), (cell_step hb16 (a := ⟨G4, 1, none⟩) hHeld.2.2.2.2.2.2.2.2.2.2.2.2.1), (cell_step hb16 (a := ⟨G4, 2, none⟩) hHeld.2.2.2.2.2.2.2.2.2.2.2.2.2.1), (cell_step hb16 (a := ⟨G4, 3, none⟩) hHeld.2.2.2.2.2.2.2.2.2.2.2.2.2.2.1), (cell_step hb16 (a := ⟨G4, 4, none⟩) hHeld.2.2.2.2.2.2.2.2.2.2.2.2.2.2.2.1), (cell_step hb16 (a := ⟨G4, 5, none⟩) hHeld.2.2.2.2.2.2.2.2.2.2.2.2.2.2.2.2.1), (cell_step hb16 (a := ⟨G4, 6, none⟩) hHeld.2.2.2.2.2.2.2.2.2.2.2.2.2.2.2.2.2.1), (cell_step hb16 (a := ⟨G4, 7, none⟩) hHeld.2.2.2.2.2.2.2.2.2.2.2.2.2.2.2.2.2.2.1), (cell_step hb16 (a := ⟨G4, 8, none⟩) hHeld.2.2.2.2.2.2.2.2.2.2.2.2.2.2.2.2.2.2.2.1), (cell_step hb16 (a := ⟨G4, 9, none⟩) hHeld.2.2.2.2.2.2.2.2.2.2.2.2.2.2.2.2.2.2.2.2.1), (cell_step hb16 (a := ⟨G4, 10, none⟩) hHeld.2.2.2.2.2.2.2.2.2.2.2.2.2.2.2.2.2.2.2.2.2)⟩ (fun hHeld => ?_)
    clear hK K
    refine norm_ (a' := ?_) ?_ ?_
    rotate_left
    · show Act.put _ (some 67) _ = _
      simp only [Act.put, List.setIfInBounds_toArray, List.set_cons_zero, List.set_cons_succ, i64_w, i32_w]
      rfl
    refine one_ (i := 10) (N := some 69) #[true, true, true, true, true, true, true, true, true, true, true, false, false, false, false, false, false, false, false, false, false] rfl rfl (by kernel_rfl) (by decide) (fun K hK => ?_)
    refine goes_ Try.func12 (by kernel_rfl) rfl #[.agg #[.int .i64 a0, .int .i64 a1, .slice s2.1 s2.2.1 s2.2.2, .slice s3.1 s3.2.1 s3.2.2, .slice s4.1 s4.2.1 s4.2.2, .slice s5.1 s5.2.1 s5.2.2, .slice A6 us.length c6, .slice A7 sp.length c7, .int .i64 a8, .int .i64 a9, .slice s10.1 s10.2.1 s10.2.2]] (by rfl) rfl rfl (by simp only [List.map_toArray, List.map_cons, List.map_nil]; rfl) ?_
    with_reducible refine (span_calls a0 a1 s2 s3 s4 s5 A6 c6 us A7 c7 sp a8 a9 s10 w16 (Kd.C_below HUS.out (below_step HB.out hq16)) (Kd.C_below HSP.out (below_step HB.out hq16)) HLM.out.1 HLM.out.2.2 r1 HR1.out).mono ?_
    rintro e w17 ⟨rfl, hb17⟩
    refine ⟨_, rfl, ?_⟩
    have hq17 : Below w13.heap.size w13 w17 := below_step hq16 hb17
    refine hK.out _ _ ⟨(cell_step hb17 (a := ⟨G8, 0, none⟩) hHeld.1), (cell_step hb17 (a := ⟨G8, 1, none⟩) hHeld.2.1), (cell_step hb17 (a := ⟨G8, 2, none⟩) hHeld.2.2.1), (cell_step hb17 (a := ⟨G8, 3, none⟩) hHeld.2.2.2.1), (cell_step hb17 (a := ⟨G8, 4, none⟩) hHeld.2.2.2.2.1), (cell_step hb17 (a := ⟨G8, 5, none⟩) hHeld.2.2.2.2.2.1), (cell_step hb17 (a := ⟨G8, 6, none⟩) hHeld.2.2.2.2.2.2.1), (cell_step hb17 (a := ⟨G8, 7, none⟩) hHeld.2.2.2.2.2.2.2.1), (cell_step hb17 (a := ⟨G8, 8, none⟩) hHeld.2.2.2.2.2.2.2.2.1), (cell_step hb17 (a := ⟨G8, 9, none⟩) hHeld.2.2.2.2.2.2.2.2.2.1), (cell_step hb17 (a := ⟨G8, 10, none⟩) hHeld.2.2.2.2.2.2.2.2.2.2.1), (cell_step hb17 (a := ⟨G4, 0, none⟩) hHeld.2.2.2.2.2.2.2.2.2.2.2.1), (cell_step hb17 (a := ⟨G4, 1, none⟩) hHeld.2.2.2.2.2.2.2.2.2.2.2.2.1), (cell_step hb17 (a := ⟨G4, 2, none⟩) hHeld.2.2.2.2.2.2.2.2.2.2.2.2.2.1), (cell_step hb17 (a := ⟨G4, 3, none⟩) hHeld.2.2.2.2.2.2.2.2.2.2.2.2.2.2.1), (cell_step hb17 (a := ⟨G4, 4, none⟩) hHeld.2.2.2.2.2.2.2.2.2.2.2.2.2.2.2.1), (cell_step hb17 (a := ⟨G4, 5, none⟩) hHeld.2.2.2.2.2.2.2.2.2.2.2.2.2.2.2.2.1), (cell_step hb17 (a := ⟨G4, 6, none⟩) hHeld.2.2.2.2.2.2.2.2.2.2.2.2.2.2.2.2.2.1), (cell_step hb17 (a := ⟨G4, 7, none⟩) hHeld.2.2.2.2.2.2.2.2.2.2.2.2.2.2.2.2.2.2.1), (cell_step hb17 (a := ⟨G4, 8, none⟩) hHeld.2.2.2.2.2.2.2.2.2.2.2.2.2.2.2.2.2.2.2.1), (cell_step hb17 (a := ⟨G4, 9, none⟩) hHeld.2.2.2.2.2.2.2.2.2.2.2.2.2.2.2.2.2.2.2.2.1), (cell_step hb17 (a := ⟨G4, 10, none⟩) hHeld.2.2.2.2.2.2.2.2.2.2.2.2.2.2.2.2.2.2.2.2.2)⟩ (fun hHeld => ?_)
    clear hK K
    refine norm_ (a' := ?_) ?_ ?_
    rotate_left
    · show Act.put _ (some 69) _ = _
      simp only [Act.put, List.setIfInBounds_toArray, List.set_cons_zero, List.set_cons_succ, i64_w, i32_w]
      rfl
    refine pure_ (i := 11) (N := some 70) (v := ?_) (a' := ?_) #[true, true, true, true, true, true, true, true, true, true, true, true, false, false, false, false, false, false, false, false, false] rfl rfl (by kernel_rfl) (fun _ _ _ h => h) (Or.inl ⟨by rfl, ?_⟩) ?_ ?_
    rotate_left
    · intro w'
      go_simp
      with_reducible rfl
    rotate_left
    · simp only [Act.put, List.setIfInBounds_toArray, List.set_cons_zero, List.set_cons_succ, i64_w, i32_w]
      rfl
    refine pure_ (i := 12) (N := some 71) (v := ?_) (a' := ?_) #[true, true, true, true, true, true, true, true, true, true, true, true, true, false, false, false, false, false, false, false, false] rfl rfl (by kernel_rfl) (fun _ _ _ h => h) (Or.inl ⟨by rfl, ?_⟩) ?_ ?_
    rotate_left
    · intro w'
      go_simp
      with_reducible rfl
    rotate_left
    · simp only [Act.put, List.setIfInBounds_toArray, List.set_cons_zero, List.set_cons_succ, i64_w, i32_w]
      rfl
    refine pure_ (i := 13) (N := some 72) (v := ?_) (a' := ?_) #[true, true, true, true, true, true, true, true, true, true, true, true, true, true, false, false, false, false, false, false, false] rfl rfl (by kernel_rfl) (fun _ _ _ h => h) (Or.inl ⟨by rfl, ?_⟩) ?_ ?_
    rotate_left
    · intro w'
      go_simp
      with_reducible rfl
    rotate_left
    · simp only [Act.put, List.setIfInBounds_toArray, List.set_cons_zero, List.set_cons_succ, i64_w, i32_w]
      rfl
    refine take_ (i := 14) (N := some 73) (v := ?_) (a' := ?_) #[true, true, true, true, true, true, true, true, true, true, true, true, true, true, true, false, false, false, false, false, false] rfl rfl (by kernel_rfl) (fun _ _ _ h => h) (Or.inl ⟨by rfl, ?_⟩) hHeld ?_ ?_
    rotate_left
    · rintro w' ⟨s0, s1, s2, s3, s4, s5, s6, s7, s8, s9, s10, s11, s12, s13, s14, s15, s16, s17, s18, s19, s20, s21⟩
      go_simp
      with_reducible rfl
    rotate_left
    · simp only [Act.put, List.setIfInBounds_toArray, List.set_cons_zero, List.set_cons_succ, i64_w, i32_w]
      rfl
    refine take_ (i := 16) (N := some 75) (v := ?_) (a' := ?_) #[true, true, true, true, true, true, true, true, true, true, true, true, true, true, true, false, true, false, false, false, false] rfl rfl (by kernel_rfl) (fun _ _ _ h => h) (Or.inl ⟨by rfl, ?_⟩) hHeld ?_ ?_
    rotate_left
    · rintro w' ⟨s0, s1, s2, s3, s4, s5, s6, s7, s8, s9, s10, s11, s12, s13, s14, s15, s16, s17, s18, s19, s20, s21⟩
      go_simp
      with_reducible rfl
    rotate_left
    · simp only [Act.put, List.setIfInBounds_toArray, List.set_cons_zero, List.set_cons_succ, i64_w, i32_w]
      rfl
    refine one_ (i := 15) (N := some 74) #[true, true, true, true, true, true, true, true, true, true, true, true, true, true, true, true, true, false, false, false, false] rfl rfl (by kernel_rfl) (by decide) (fun K hK => ?_)
    refine goes_ Try.func12 (by kernel_rfl) rfl #[.agg #[.int .i64 a0, .int .i64 a1, .slice s2.1 s2.2.1 s2.2.2, .slice s3.1 s3.2.1 s3.2.2, .slice s4.1 s4.2.1 s4.2.2, .slice s5.1 s5.2.1 s5.2.2, .slice A10 mu.length c10, .slice A7 sp.length c7, .int .i64 a8, .int .i64 a9, .slice s10.1 s10.2.1 s10.2.2]] (by rfl) rfl rfl (by simp only [List.map_toArray, List.map_cons, List.map_nil]; rfl) ?_
    with_reducible refine (span_calls a0 a1 s2 s3 s4 s5 A10 c10 mu A7 c7 sp a8 a9 s10 w17 (Kd.C_below HMU.out hq17) (Kd.C_below HSP.out (below_step HB.out hq17)) HLM.out.1 HLM.out.2.1 r2 HR2.out).mono ?_
    rintro e w18 ⟨rfl, hb18⟩
    refine ⟨_, rfl, ?_⟩
    have hq18 : Below w13.heap.size w13 w18 := below_step hq17 hb18
    refine hK.out _ _ ⟨(cell_step hb18 (a := ⟨G8, 0, none⟩) hHeld.1), (cell_step hb18 (a := ⟨G8, 1, none⟩) hHeld.2.1), (cell_step hb18 (a := ⟨G8, 2, none⟩) hHeld.2.2.1), (cell_step hb18 (a := ⟨G8, 3, none⟩) hHeld.2.2.2.1), (cell_step hb18 (a := ⟨G8, 4, none⟩) hHeld.2.2.2.2.1), (cell_step hb18 (a := ⟨G8, 5, none⟩) hHeld.2.2.2.2.2.1), (cell_step hb18 (a := ⟨G8, 6, none⟩) hHeld.2.2.2.2.2.2.1), (cell_step hb18 (a := ⟨G8, 7, none⟩) hHeld.2.2.2.2.2.2.2.1), (cell_step hb18 (a := ⟨G8, 8, none⟩) hHeld.2.2.2.2.2.2.2.2.1), (cell_step hb18 (a := ⟨G8, 9, none⟩) hHeld.2.2.2.2.2.2.2.2.2.1), (cell_step hb18 (a := ⟨G8, 10, none⟩) hHeld.2.2.2.2.2.2.2.2.2.2.1), (cell_step hb18 (a := ⟨G4, 0, none⟩) hHeld.2.2.2.2.2.2.2.2.2.2.2.1), (cell_step hb18 (a := ⟨G4, 1, none⟩) hHeld.2.2.2.2.2.2.2.2.2.2.2.2.1), (cell_step hb18 (a := ⟨G4, 2, none⟩) hHeld.2.2.2.2.2.2.2.2.2.2.2.2.2.1), (cell_step hb18 (a := ⟨G4, 3, none⟩) hHeld.2.2.2.2.2.2.2.2.2.2.2.2.2.2.1), (cell_step hb18 (a := ⟨G4, 4, none⟩) hHeld.2.2.2.2.2.2.2.2.2.2.2.2.2.2.2.1), (cell_step hb18 (a := ⟨G4, 5, none⟩) hHeld.2.2.2.2.2.2.2.2.2.2.2.2.2.2.2.2.1), (cell_step hb18 (a := ⟨G4, 6, none⟩) hHeld.2.2.2.2.2.2.2.2.2.2.2.2.2.2.2.2.2.1), (cell_step hb18 (a := ⟨G4, 7, none⟩) hHeld.2.2.2.2.2.2.2.2.2.2.2.2.2.2.2.2.2.2.1), (cell_step hb18 (a := ⟨G4, 8, none⟩) hHeld.2.2.2.2.2.2.2.2.2.2.2.2.2.2.2.2.2.2.2.1), (cell_step hb18 (a := ⟨G4, 9, none⟩) hHeld.2.2.2.2.2.2.2.2.2.2.2.2.2.2.2.2.2.2.2.2.1), (cell_step hb18 (a := ⟨G4, 10, none⟩) hHeld.2.2.2.2.2.2.2.2.2.2.2.2.2.2.2.2.2.2.2.2.2)⟩ (fun hHeld => ?_)
    clear hK K
    refine norm_ (a' := ?_) ?_ ?_
    rotate_left
    · show Act.put _ (some 74) _ = _
      simp only [Act.put, List.setIfInBounds_toArray, List.set_cons_zero, List.set_cons_succ, i64_w, i32_w]
      rfl
    refine last_ (i := 17) (N := some 76) #[true, true, true, true, true, true, true, true, true, true, true, true, true, true, true, true, true, true, false, false, false] rfl rfl (by kernel_rfl) (by decide) (fun K hK => ?_)
    refine goes_ Try.func12 (by kernel_rfl) rfl #[.agg #[.int .i64 a0, .int .i64 a1, .slice s2.1 s2.2.1 s2.2.2, .slice s3.1 s3.2.1 s3.2.2, .slice s4.1 s4.2.1 s4.2.2, .slice s5.1 s5.2.1 s5.2.2, .slice A6 us.length c6, .slice A7 sp.length c7, .int .i64 a8, .int .i64 a9, .slice s10.1 s10.2.1 s10.2.2]] (by rfl) rfl rfl (by simp only [List.map_toArray, List.map_cons, List.map_nil]; rfl) ?_
    with_reducible refine (span_calls a0 a1 s2 s3 s4 s5 A6 c6 us A7 c7 sp a8 a9 s10 w18 (Kd.C_below HUS.out (below_step HB.out hq18)) (Kd.C_below HSP.out (below_step HB.out hq18)) HLM.out.1 HLM.out.2.2 r1 HR1.out).mono ?_
    rintro e w19 ⟨rfl, hb19⟩
    refine ⟨_, rfl, ?_⟩
    have hq19 : Below w13.heap.size w13 w19 := below_step hq18 hb19
    refine hK.out _ _ ?_
    clear hK K
    refine norm_ (a' := ?_) ?_ ?_
    rotate_left
    · show Act.put _ (some 76) _ = _
      simp only [Act.put, List.setIfInBounds_toArray, List.set_cons_zero, List.set_cons_succ, i64_w, i32_w]
      rfl
    refine pure_ (i := 18) (N := some 77) (v := ?_) (a' := ?_) #[true, true, true, true, true, true, true, true, true, true, true, true, true, true, true, true, true, true, true, false, false] rfl rfl (by kernel_rfl) (fun _ _ _ h => h) (Or.inl ⟨by rfl, ?_⟩) ?_ ?_
    rotate_left
    · intro w'
      go_simp
      with_reducible rfl
    rotate_left
    · simp only [Act.put, List.setIfInBounds_toArray, List.set_cons_zero, List.set_cons_succ, i64_w, i32_w]
      rfl
    refine pure_ (i := 19) (N := some 78) (v := ?_) (a' := ?_) #[true, true, true, true, true, true, true, true, true, true, true, true, true, true, true, true, true, true, true, true, false] rfl rfl (by kernel_rfl) (fun _ _ _ h => h) (Or.inl ⟨by rfl, ?_⟩) ?_ ?_
    rotate_left
    · intro w'
      go_simp
      with_reducible rfl
    rotate_left
    · simp only [Act.put, List.setIfInBounds_toArray, List.set_cons_zero, List.set_cons_succ, i64_w, i32_w]
      rfl
    refine pure_ (i := 20) (N := some 79) (v := ?_) (a' := ?_) #[true, true, true, true, true, true, true, true, true, true, true, true, true, true, true, true, true, true, true, true, true] rfl rfl (by kernel_rfl) (fun _ _ _ h => h) (Or.inl ⟨by rfl, ?_⟩) ?_ ?_
    rotate_left
    · intro w'
      go_simp
      with_reducible rfl
    rotate_left
    · simp only [Act.put, List.setIfInBounds_toArray, List.set_cons_zero, List.set_cons_succ, i64_w, i32_w]
      rfl
    refine done_ (by kernel_rfl) ?_
    have HB19 := Aside0.mk (below_step HB.out hq19)
    have n3 := Aside0.mk (blk_below BK3.out hq19)
    have n4 := Aside0.mk (blk_below BK4.out hq19)
    have n8 := Aside0.mk (blk_below BK8.out hq19)
    clear hq14 hq15 hq16 hq17 hq18 hq19 hb14 hb15 hb16 hb17 hb18 hb19 BK3 BK4 BK8 HB HMU hwu hwu2 hr40 hwr hwr2 d1 d2 d3 d4 m0 m1 m2 m3 m4 m5 m6 m7 m8 m9 m10 z0 z1 z2 z3 z4 z5 z6 z7 z8 z9 z10
    have BK3 := n3
    have BK4 := n4
    have BK8 := n8
    have HB := HB19
    clear n3 n4 n8 HB19
    by_cases hn0 : n < 0
    · have hd0 : decide (n < 0) = true := decide_eq_true hn0
      go_wp2
      go_ret
      exact ⟨rfl, HB.out⟩
    · have hd0 : decide (n < 0) = false := decide_eq_false hn0
      have hnb := stepsL_lt (by rw [HNN.out]; exact hn0)
      have hrg : (1 ≤ b0 ∧ b0 ≤ 8) ∧ (0 ≤ b1 ∧ b1 ≤ 1000) ∧ (0 ≤ a9 ∧ a9 ≤ 64) := by have h := hnb; unfold stepsBad at h; omega
      have HNB := Aside0.mk hnb
      have hub := stepsL_ub hnb (by omega)
      rw [HNN.out] at hub
      obtain ⟨⟨hb01, hb02⟩, ⟨hb11, hb12⟩, ⟨ha91, ha92⟩⟩ := hrg
      obtain ⟨k0, k1, k2, k3, k4, k5, k6, k7, k8⟩ := conf_cells BK3.out
      obtain ⟨z0, z1, z2, z3, z4, z5, z6, z7, z8, z9, z10⟩ := box_cells BK4.out
      have za := fun o => cell_new z9 o
      have ka0 := fun o => cell_new k0 o
      have ka1 := fun o => cell_new k1 o
      have ka2 := fun o => cell_new k2 o
      have ka3 := fun o => cell_new k3 o
      have ka4 := fun o => cell_new k4 o
      have ka5 := fun o => cell_new k5 o
      have ka6 := fun o => cell_new k6 o
      have ka7 := fun o => cell_new k7 o
      have ka8 := fun o => cell_new k8 o
      have kb0 := fun o o' => cell_new (cell_new k0 o) o'
      have kb1 := fun o o' => cell_new (cell_new k1 o) o'
      have kb2 := fun o o' => cell_new (cell_new k2 o) o'
      have kb3 := fun o o' => cell_new (cell_new k3 o) o'
      have kb4 := fun o o' => cell_new (cell_new k4 o) o'
      have kb5 := fun o o' => cell_new (cell_new k5 o) o'
      have kb6 := fun o o' => cell_new (cell_new k6 o) o'
      have kb7 := fun o o' => cell_new (cell_new k7 o) o'
      have kb8 := fun o o' => cell_new (cell_new k8 o) o'
      have kc := fun o o' o'' => cell_new (cell_new (cell_new k1 o) o') o''
      have wz1 : (w19.alloc (.cells #[.int .i64 a0, .int .i64 a1, .slice s2.1 s2.2.1 s2.2.2, .slice s3.1 s3.2.1 s3.2.2, .slice s4.1 s4.2.1 s4.2.2, .slice s5.1 s5.2.1 s5.2.2, .slice A6 us.length c6, .slice A7 sp.length c7, .int .i64 a8, .int .i64 (a9 + 1), .slice s10.1 s10.2.1 s10.2.2] 29)).heap.size = w19.heap.size + 1 := by simp
      have wz2 : ((w19.alloc (.cells #[.int .i64 a0, .int .i64 a1, .slice s2.1 s2.2.1 s2.2.2, .slice s3.1 s3.2.1 s3.2.2, .slice s4.1 s4.2.1 s4.2.2, .slice s5.1 s5.2.1 s5.2.2, .slice A6 us.length c6, .slice A7 sp.length c7, .int .i64 a8, .int .i64 (a9 + 1), .slice s10.1 s10.2.1 s10.2.2] 29)).alloc (.cells #[.int .i64 (b0 + 1), .int .i64 b1, .int .i64 b2, .int .i64 b3, .int .i64 b4, .int .i64 b5, .int .i64 b6, .int .i64 b7, .int .i64 b8] 42)).heap.size = w19.heap.size + 1 + 1 := by simp
      have n12 : (((w19.alloc (.cells #[.int .i64 a0, .int .i64 a1, .slice s2.1 s2.2.1 s2.2.2, .slice s3.1 s3.2.1 s3.2.2, .slice s4.1 s4.2.1 s4.2.2, .slice s5.1 s5.2.1 s5.2.2, .slice A6 us.length c6, .slice A7 sp.length c7, .int .i64 a8, .int .i64 (a9 + 1), .slice s10.1 s10.2.1 s10.2.2] 29)).alloc (.cells #[.int .i64 (b0 + 1), .int .i64 b1, .int .i64 b2, .int .i64 b3, .int .i64 b4, .int .i64 b5, .int .i64 b6, .int .i64 b7, .int .i64 b8] 42)).alloc (.cells #[.int .i64 b0, .int .i64 (b1 + 1), .int .i64 b2, .int .i64 b3, .int .i64 b4, .int .i64 b5, .int .i64 b6, .int .i64 b7, .int .i64 b8] 42)).heap[w19.heap.size]? = some (.cells #[.int .i64 a0, .int .i64 a1, .slice s2.1 s2.2.1 s2.2.2, .slice s3.1 s3.2.1 s3.2.2, .slice s4.1 s4.2.1 s4.2.2, .slice s5.1 s5.2.1 s5.2.2, .slice A6 us.length c6, .slice A7 sp.length c7, .int .i64 a8, .int .i64 (a9 + 1), .slice s10.1 s10.2.1 s10.2.2] 29 (0, 0)) := blk_alloc (blk_alloc (MapKept.heap_alloc w19 (.cells #[.int .i64 a0, .int .i64 a1, .slice s2.1 s2.2.1 s2.2.2, .slice s3.1 s3.2.1 s3.2.2, .slice s4.1 s4.2.1 s4.2.2, .slice s5.1 s5.2.1 s5.2.2, .slice A6 us.length c6, .slice A7 sp.length c7, .int .i64 a8, .int .i64 (a9 + 1), .slice s10.1 s10.2.1 s10.2.2] 29)).1 _) _
      have n13 : (((w19.alloc (.cells #[.int .i64 a0, .int .i64 a1, .slice s2.1 s2.2.1 s2.2.2, .slice s3.1 s3.2.1 s3.2.2, .slice s4.1 s4.2.1 s4.2.2, .slice s5.1 s5.2.1 s5.2.2, .slice A6 us.length c6, .slice A7 sp.length c7, .int .i64 a8, .int .i64 (a9 + 1), .slice s10.1 s10.2.1 s10.2.2] 29)).alloc (.cells #[.int .i64 (b0 + 1), .int .i64 b1, .int .i64 b2, .int .i64 b3, .int .i64 b4, .int .i64 b5, .int .i64 b6, .int .i64 b7, .int .i64 b8] 42)).alloc (.cells #[.int .i64 b0, .int .i64 (b1 + 1), .int .i64 b2, .int .i64 b3, .int .i64 b4, .int .i64 b5, .int .i64 b6, .int .i64 b7, .int .i64 b8] 42)).heap[w19.heap.size + 1]? = some (.cells #[.int .i64 (b0 + 1), .int .i64 b1, .int .i64 b2, .int .i64 b3, .int .i64 b4, .int .i64 b5, .int .i64 b6, .int .i64 b7, .int .i64 b8] 42 (0, 0)) := by
        have h := (MapKept.heap_alloc (w19.alloc (.cells #[.int .i64 a0, .int .i64 a1, .slice s2.1 s2.2.1 s2.2.2, .slice s3.1 s3.2.1 s3.2.2, .slice s4.1 s4.2.1 s4.2.2, .slice s5.1 s5.2.1 s5.2.2, .slice A6 us.length c6, .slice A7 sp.length c7, .int .i64 a8, .int .i64 (a9 + 1), .slice s10.1 s10.2.1 s10.2.2] 29)) (.cells #[.int .i64 (b0 + 1), .int .i64 b1, .int .i64 b2, .int .i64 b3, .int .i64 b4, .int .i64 b5, .int .i64 b6, .int .i64 b7, .int .i64 b8] 42)).1
        rw [wz1] at h
        exact blk_alloc h _
      have n14 : (((w19.alloc (.cells #[.int .i64 a0, .int .i64 a1, .slice s2.1 s2.2.1 s2.2.2, .slice s3.1 s3.2.1 s3.2.2, .slice s4.1 s4.2.1 s4.2.2, .slice s5.1 s5.2.1 s5.2.2, .slice A6 us.length c6, .slice A7 sp.length c7, .int .i64 a8, .int .i64 (a9 + 1), .slice s10.1 s10.2.1 s10.2.2] 29)).alloc (.cells #[.int .i64 (b0 + 1), .int .i64 b1, .int .i64 b2, .int .i64 b3, .int .i64 b4, .int .i64 b5, .int .i64 b6, .int .i64 b7, .int .i64 b8] 42)).alloc (.cells #[.int .i64 b0, .int .i64 (b1 + 1), .int .i64 b2, .int .i64 b3, .int .i64 b4, .int .i64 b5, .int .i64 b6, .int .i64 b7, .int .i64 b8] 42)).heap[w19.heap.size + 1 + 1]? = some (.cells #[.int .i64 b0, .int .i64 (b1 + 1), .int .i64 b2, .int .i64 b3, .int .i64 b4, .int .i64 b5, .int .i64 b6, .int .i64 b7, .int .i64 b8] 42 (0, 0)) := by
        have h := (MapKept.heap_alloc ((w19.alloc (.cells #[.int .i64 a0, .int .i64 a1, .slice s2.1 s2.2.1 s2.2.2, .slice s3.1 s3.2.1 s3.2.2, .slice s4.1 s4.2.1 s4.2.2, .slice s5.1 s5.2.1 s5.2.2, .slice A6 us.length c6, .slice A7 sp.length c7, .int .i64 a8, .int .i64 (a9 + 1), .slice s10.1 s10.2.1 s10.2.2] 29)).alloc (.cells #[.int .i64 (b0 + 1), .int .i64 b1, .int .i64 b2, .int .i64 b3, .int .i64 b4, .int .i64 b5, .int .i64 b6, .int .i64 b7, .int .i64 b8] 42)) (.cells #[.int .i64 b0, .int .i64 (b1 + 1), .int .i64 b2, .int .i64 b3, .int .i64 b4, .int .i64 b5, .int .i64 b6, .int .i64 b7, .int .i64 b8] 42)).1
        rw [wz2] at h
        exact h
      have N12 := Aside0.mk n12
      have N13 := Aside0.mk n13
      have N14 := Aside0.mk n14
      have N3 := Aside0.mk (blk_alloc (blk_alloc (blk_alloc BK3.out (.cells #[.int .i64 a0, .int .i64 a1, .slice s2.1 s2.2.1 s2.2.2, .slice s3.1 s3.2.1 s3.2.2, .slice s4.1 s4.2.1 s4.2.2, .slice s5.1 s5.2.1 s5.2.2, .slice A6 us.length c6, .slice A7 sp.length c7, .int .i64 a8, .int .i64 (a9 + 1), .slice s10.1 s10.2.1 s10.2.2] 29)) (.cells #[.int .i64 (b0 + 1), .int .i64 b1, .int .i64 b2, .int .i64 b3, .int .i64 b4, .int .i64 b5, .int .i64 b6, .int .i64 b7, .int .i64 b8] 42)) (.cells #[.int .i64 b0, .int .i64 (b1 + 1), .int .i64 b2, .int .i64 b3, .int .i64 b4, .int .i64 b5, .int .i64 b6, .int .i64 b7, .int .i64 b8] 42))
      have N4 := Aside0.mk (blk_alloc (blk_alloc (blk_alloc BK4.out (.cells #[.int .i64 a0, .int .i64 a1, .slice s2.1 s2.2.1 s2.2.2, .slice s3.1 s3.2.1 s3.2.2, .slice s4.1 s4.2.1 s4.2.2, .slice s5.1 s5.2.1 s5.2.2, .slice A6 us.length c6, .slice A7 sp.length c7, .int .i64 a8, .int .i64 (a9 + 1), .slice s10.1 s10.2.1 s10.2.2] 29)) (.cells #[.int .i64 (b0 + 1), .int .i64 b1, .int .i64 b2, .int .i64 b3, .int .i64 b4, .int .i64 b5, .int .i64 b6, .int .i64 b7, .int .i64 b8] 42)) (.cells #[.int .i64 b0, .int .i64 (b1 + 1), .int .i64 b2, .int .i64 b3, .int .i64 b4, .int .i64 b5, .int .i64 b6, .int .i64 b7, .int .i64 b8] 42))
      have N8 := Aside0.mk (blk_alloc (blk_alloc (blk_alloc BK8.out (.cells #[.int .i64 a0, .int .i64 a1, .slice s2.1 s2.2.1 s2.2.2, .slice s3.1 s3.2.1 s3.2.2, .slice s4.1 s4.2.1 s4.2.2, .slice s5.1 s5.2.1 s5.2.2, .slice A6 us.length c6, .slice A7 sp.length c7, .int .i64 a8, .int .i64 (a9 + 1), .slice s10.1 s10.2.1 s10.2.2] 29)) (.cells #[.int .i64 (b0 + 1), .int .i64 b1, .int .i64 b2, .int .i64 b3, .int .i64 b4, .int .i64 b5, .int .i64 b6, .int .i64 b7, .int .i64 b8] 42)) (.cells #[.int .i64 b0, .int .i64 (b1 + 1), .int .i64 b2, .int .i64 b3, .int .i64 b4, .int .i64 b5, .int .i64 b6, .int .i64 b7, .int .i64 b8] 42))
      have HB20 := Aside0.mk (below_alloc (below_alloc (below_alloc HB.out (.cells #[.int .i64 a0, .int .i64 a1, .slice s2.1 s2.2.1 s2.2.2, .slice s3.1 s3.2.1 s3.2.2, .slice s4.1 s4.2.1 s4.2.2, .slice s5.1 s5.2.1 s5.2.2, .slice A6 us.length c6, .slice A7 sp.length c7, .int .i64 a8, .int .i64 (a9 + 1), .slice s10.1 s10.2.1 s10.2.2] 29)) (.cells #[.int .i64 (b0 + 1), .int .i64 b1, .int .i64 b2, .int .i64 b3, .int .i64 b4, .int .i64 b5, .int .i64 b6, .int .i64 b7, .int .i64 b8] 42)) (.cells #[.int .i64 b0, .int .i64 (b1 + 1), .int .i64 b2, .int .i64 b3, .int .i64 b4, .int .i64 b5, .int .i64 b6, .int .i64 b7, .int .i64 b8] 42))
      clear n12 n13 n14 wz1 wz2 hnb
      go_wp2
      generalize hw20 : ((w19.alloc (.cells #[.int .i64 a0, .int .i64 a1, .slice s2.1 s2.2.1 s2.2.2, .slice s3.1 s3.2.1 s3.2.2, .slice s4.1 s4.2.1 s4.2.2, .slice s5.1 s5.2.1 s5.2.2, .slice A6 us.length c6, .slice A7 sp.length c7, .int .i64 a8, .int .i64 (a9 + 1), .slice s10.1 s10.2.1 s10.2.2] 29)).alloc (.cells #[.int .i64 (b0 + 1), .int .i64 b1, .int .i64 b2, .int .i64 b3, .int .i64 b4, .int .i64 b5, .int .i64 b6, .int .i64 b7, .int .i64 b8] 42)).alloc (.cells #[.int .i64 b0, .int .i64 (b1 + 1), .int .i64 b2, .int .i64 b3, .int .i64 b4, .int .i64 b5, .int .i64 b6, .int .i64 b7, .int .i64 b8] 42) = w20 at N12 N13 N14 N3 N4 N8 HB20 ⊢
      generalize hG14 : w19.heap.size + 1 + 1 = G14 at N14 ⊢
      generalize hG13 : w19.heap.size + 1 = G13 at N13 ⊢
      generalize hG12 : w19.heap.size = G12 at N12 ⊢
      clear hw20 hG14 hG13 hG12 BK3 BK4 BK8 HB za kc ka0 ka1 ka2 ka3 ka4 ka5 ka6 ka7 ka8 kb0 kb1 kb2 kb3 kb4 kb5 kb6 kb7 kb8 k0 k1 k2 k3 k4 k5 k6 k7 k8 z0 z1 z2 z3 z4 z5 z6 z7 z8 z9 z10
      obtain ⟨k0, k1, k2, k3, k4, k5, k6, k7, k8⟩ := conf_cells N3.out
      obtain ⟨z0, z1, z2, z3, z4, z5, z6, z7, z8, z9, z10⟩ := box_cells N4.out
      obtain ⟨m0, m1, m2, m3, m4, m5, m6, m7, m8, m9, m10⟩ := box_cells N8.out
      obtain ⟨pp0, pp1, pp2, pp3, pp4, pp5, pp6, pp7, pp8, pp9, pp10⟩ := box_cells N12.out
      obtain ⟨cc0, cc1, cc2, cc3, cc4, cc5, cc6, cc7, cc8⟩ := conf_cells N13.out
      obtain ⟨dd0, dd1, dd2, dd3, dd4, dd5, dd6, dd7, dd8⟩ := conf_cells N14.out
      obtain ⟨n0, e0⟩ : ∃ q, stepsL b0 b1 (mu.length : Int) a9 pk = q := ⟨_, rfl⟩
      obtain ⟨n1, e1⟩ : ∃ q, stepsL b0 b1 (us.length : Int) (a9 + 1) pk = q := ⟨_, rfl⟩
      obtain ⟨n2, e2⟩ : ∃ q, stepsL (b0 + 1) b1 (us.length : Int) a9 pk = q := ⟨_, rfl⟩
      obtain ⟨n3, e3⟩ : ∃ q, stepsL b0 (b1 + 1) (us.length : Int) a9 pk = q := ⟨_, rfl⟩
      obtain ⟨n4, e4⟩ : ∃ q, stepsL b0 b1 (us.length : Int) a9 (pk + 1) = q := ⟨_, rfl⟩
      have hml := HML.out.1
      have g0 : n0 < 0 ∨ n < n0 := by rw [← e0, ← HNN.out]; exact stepsL_more HNB.out (by omega) (by omega) (by omega) (by omega) (by omega) (by omega) (.inr (.inr (.inl (by omega))))
      have g1 : n1 < 0 ∨ n < n1 := by rw [← e1, ← HNN.out]; exact stepsL_more HNB.out (by omega) (by omega) (by omega) (by omega) (by omega) (by omega) (.inr (.inr (.inr (.inl (by omega)))))
      have g2 : n2 < 0 ∨ n < n2 := by rw [← e2, ← HNN.out]; exact stepsL_more HNB.out (by omega) (by omega) (by omega) (by omega) (by omega) (by omega) (.inl (by omega))
      have g3 : n3 < 0 ∨ n < n3 := by rw [← e3, ← HNN.out]; exact stepsL_more HNB.out (by omega) (by omega) (by omega) (by omega) (by omega) (by omega) (.inr (.inl (by omega)))
      have g4 : n4 = n + 1 := by rw [← e4, ← HNN.out]; exact stepsL_pick HNB.out (by omega)
      have HN0 := Aside0.mk e0
      have HN1 := Aside0.mk e1
      have HN2 := Aside0.mk e2
      have HN3 := Aside0.mk e3
      have HN4 := Aside0.mk e4
      have HG := Aside0.mk (And.intro g0 (And.intro g1 (And.intro g2 (And.intro g3 g4))))
      clear e0 e1 e2 e3 e4 hml g0 g1 g2 g3 g4
      have hwk : wrap64 (pk + 1) = pk + 1 := by unfold wrap64; omega
      have hwk2 : IntKind.i64.wrap (pk + 1) = pk + 1 := by rw [IntKind.wrap_i64]; omega
      refine start_ (n := 28) (S := fun w' => w'.cell? ⟨G3, 0, none⟩ = some (.int .i64 b0) ∧ w'.cell? ⟨G3, 1, none⟩ = some (.int .i64 b1) ∧ w'.cell? ⟨G3, 2, none⟩ = some (.int .i64 b2) ∧ w'.cell? ⟨G3, 3, none⟩ = some (.int .i64 b3) ∧ w'.cell? ⟨G3, 4, none⟩ = some (.int .i64 b4) ∧ w'.cell? ⟨G3, 5, none⟩ = some (.int .i64 b5) ∧ w'.cell? ⟨G3, 6, none⟩ = some (.int .i64 b6) ∧ w'.cell? ⟨G3, 7, none⟩ = some (.int .i64 b7) ∧ w'.cell? ⟨G3, 8, none⟩ = some (.int .i64 b8) ∧ w'.cell? ⟨G4, 0, none⟩ = some (.int .i64 a0) ∧ w'.cell? ⟨G4, 1, none⟩ = some (.int .i64 a1) ∧ w'.cell? ⟨G4, 2, none⟩ = some (.slice s2.1 s2.2.1 s2.2.2) ∧ w'.cell? ⟨G4, 3, none⟩ = some (.slice s3.1 s3.2.1 s3.2.2) ∧ w'.cell? ⟨G4, 4, none⟩ = some (.slice s4.1 s4.2.1 s4.2.2) ∧ w'.cell? ⟨G4, 5, none⟩ = some (.slice s5.1 s5.2.1 s5.2.2) ∧ w'.cell? ⟨G4, 6, none⟩ = some (.slice A6 us.length c6) ∧ w'.cell? ⟨G4, 7, none⟩ = some (.slice A7 sp.length c7) ∧ w'.cell? ⟨G4, 8, none⟩ = some (.int .i64 a8) ∧ w'.cell? ⟨G4, 9, none⟩ = some (.int .i64 a9) ∧ w'.cell? ⟨G4, 10, none⟩ = some (.slice s10.1 s10.2.1 s10.2.2) ∧ w'.cell? ⟨G8, 0, none⟩ = some (.int .i64 a0) ∧ w'.cell? ⟨G8, 1, none⟩ = some (.int .i64 a1) ∧ w'.cell? ⟨G8, 2, none⟩ = some (.slice s2.1 s2.2.1 s2.2.2) ∧ w'.cell? ⟨G8, 3, none⟩ = some (.slice s3.1 s3.2.1 s3.2.2) ∧ w'.cell? ⟨G8, 4, none⟩ = some (.slice s4.1 s4.2.1 s4.2.2) ∧ w'.cell? ⟨G8, 5, none⟩ = some (.slice s5.1 s5.2.1 s5.2.2) ∧ w'.cell? ⟨G8, 6, none⟩ = some (.slice A10 mu.length c10) ∧ w'.cell? ⟨G8, 7, none⟩ = some (.slice A7 sp.length c7) ∧ w'.cell? ⟨G8, 8, none⟩ = some (.int .i64 a8) ∧ w'.cell? ⟨G8, 9, none⟩ = some (.int .i64 a9) ∧ w'.cell? ⟨G8, 10, none⟩ = some (.slice s10.1 s10.2.1 s10.2.2) ∧ w'.cell? ⟨G12, 0, none⟩ = some (.int .i64 a0) ∧ w'.cell? ⟨G12, 1, none⟩ = some (.int .i64 a1) ∧ w'.cell? ⟨G12, 2, none⟩ = some (.slice s2.1 s2.2.1 s2.2.2) ∧ w'.cell? ⟨G12, 3, none⟩ = some (.slice s3.1 s3.2.1 s3.2.2) ∧ w'.cell? ⟨G12, 4, none⟩ = some (.slice s4.1 s4.2.1 s4.2.2) ∧ w'.cell? ⟨G12, 5, none⟩ = some (.slice s5.1 s5.2.1 s5.2.2) ∧ w'.cell? ⟨G12, 6, none⟩ = some (.slice A6 us.length c6) ∧ w'.cell? ⟨G12, 7, none⟩ = some (.slice A7 sp.length c7) ∧ w'.cell? ⟨G12, 8, none⟩ = some (.int .i64 a8) ∧ w'.cell? ⟨G12, 9, none⟩ = some (.int .i64 (a9 + 1)) ∧ w'.cell? ⟨G12, 10, none⟩ = some (.slice s10.1 s10.2.1 s10.2.2) ∧ w'.cell? ⟨G13, 0, none⟩ = some (.int .i64 (b0 + 1)) ∧ w'.cell? ⟨G13, 1, none⟩ = some (.int .i64 b1) ∧ w'.cell? ⟨G13, 2, none⟩ = some (.int .i64 b2) ∧ w'.cell? ⟨G13, 3, none⟩ = some (.int .i64 b3) ∧ w'.cell? ⟨G13, 4, none⟩ = some (.int .i64 b4) ∧ w'.cell? ⟨G13, 5, none⟩ = some (.int .i64 b5) ∧ w'.cell? ⟨G13, 6, none⟩ = some (.int .i64 b6) ∧ w'.cell? ⟨G13, 7, none⟩ = some (.int .i64 b7) ∧ w'.cell? ⟨G13, 8, none⟩ = some (.int .i64 b8) ∧ w'.cell? ⟨G14, 0, none⟩ = some (.int .i64 b0) ∧ w'.cell? ⟨G14, 1, none⟩ = some (.int .i64 (b1 + 1)) ∧ w'.cell? ⟨G14, 2, none⟩ = some (.int .i64 b2) ∧ w'.cell? ⟨G14, 3, none⟩ = some (.int .i64 b3) ∧ w'.cell? ⟨G14, 4, none⟩ = some (.int .i64 b4) ∧ w'.cell? ⟨G14, 5, none⟩ = some (.int .i64 b5) ∧ w'.cell? ⟨G14, 6, none⟩ = some (.int .i64 b6) ∧ w'.cell? ⟨G14, 7, none⟩ = some (.int .i64 b7) ∧ w'.cell? ⟨G14, 8, none⟩ = some (.int .i64 b8)) (ds := [25, 26]) #[false, false, false, false, false, false, false, false, false, false, false, false, false, false, false, false, false, false, false, false, false, false, false, false, false, false, false, false] (by kernel_rfl) rfl rfl ⟨k0, k1, k2, k3, k4, k5, k6, k7, k8, z0, z1, z2, z3, z4, z5, z6, z7, z8, z9, z10, m0, m1, m2, m3, m4, m5, m6, m7, m8, m9, m10, pp0, pp1, pp2, pp3, pp4, pp5, pp6, pp7, pp8, pp9, pp10, cc0, cc1, cc2, cc3, cc4, cc5, cc6, cc7, cc8, dd0, dd1, dd2, dd3, dd4, dd5, dd6, dd7, dd8⟩ (fun hHeld => ?_)
      refine pure_ (i := 2) (N := some 100) (v := ?_) (a' := ?_) #[false, false, true, false, false, false, false, false, false, false, false, false, false, false, false, false, false, false, false, false, false, false, false, false, false, false, false, false] rfl rfl (by kernel_rfl) (fun _ _ _ h => h) (Or.inl ⟨by rfl, ?_⟩) ?_ ?_
      rotate_left
      · intro w'
        go_simp
        with_reducible rfl
      rotate_left
      · simp only [Act.put, List.setIfInBounds_toArray, List.set_cons_zero, List.set_cons_succ, i64_w, i32_w]
        rfl
      refine pure_ (i := 3) (N := some 101) (v := ?_) (a' := ?_) #[false, false, true, true, false, false, false, false, false, false, false, false, false, false, false, false, false, false, false, false, false, false, false, false, false, false, false, false] rfl rfl (by kernel_rfl) (fun _ _ _ h => h) (Or.inl ⟨by rfl, ?_⟩) ?_ ?_
      rotate_left
      · intro w'
        go_simp
        with_reducible rfl
      rotate_left
      · simp only [Act.put, List.setIfInBounds_toArray, List.set_cons_zero, List.set_cons_succ, i64_w, i32_w]
        rfl
      refine pure_ (i := 7) (N := some 105) (v := ?_) (a' := ?_) #[false, false, true, true, false, false, false, true, false, false, false, false, false, false, false, false, false, false, false, false, false, false, false, false, false, false, false, false] rfl rfl (by kernel_rfl) (fun _ _ _ h => h) (Or.inl ⟨by rfl, ?_⟩) ?_ ?_
      rotate_left
      · intro w'
        go_simp
        with_reducible rfl
      rotate_left
      · simp only [Act.put, List.setIfInBounds_toArray, List.set_cons_zero, List.set_cons_succ, i64_w, i32_w]
        rfl
      refine pure_ (i := 8) (N := some 106) (v := ?_) (a' := ?_) #[false, false, true, true, false, false, false, true, true, false, false, false, false, false, false, false, false, false, false, false, false, false, false, false, false, false, false, false] rfl rfl (by kernel_rfl) (fun _ _ _ h => h) (Or.inl ⟨by rfl, ?_⟩) ?_ ?_
      rotate_left
      · intro w'
        go_simp
        with_reducible rfl
      rotate_left
      · simp only [Act.put, List.setIfInBounds_toArray, List.set_cons_zero, List.set_cons_succ, i64_w, i32_w]
        rfl
      refine pure_ (i := 12) (N := some 110) (v := ?_) (a' := ?_) #[false, false, true, true, false, false, false, true, true, false, false, false, true, false, false, false, false, false, false, false, false, false, false, false, false, false, false, false] rfl rfl (by kernel_rfl) (fun _ _ _ h => h) (Or.inl ⟨by rfl, ?_⟩) ?_ ?_
      rotate_left
      · intro w'
        go_simp
        with_reducible rfl
      rotate_left
      · simp only [Act.put, List.setIfInBounds_toArray, List.set_cons_zero, List.set_cons_succ, i64_w, i32_w]
        rfl
      refine pure_ (i := 13) (N := some 111) (v := ?_) (a' := ?_) #[false, false, true, true, false, false, false, true, true, false, false, false, true, true, false, false, false, false, false, false, false, false, false, false, false, false, false, false] rfl rfl (by kernel_rfl) (fun _ _ _ h => h) (Or.inl ⟨by rfl, ?_⟩) ?_ ?_
      rotate_left
      · intro w'
        go_simp
        with_reducible rfl
      rotate_left
      · simp only [Act.put, List.setIfInBounds_toArray, List.set_cons_zero, List.set_cons_succ, i64_w, i32_w]
        rfl
      refine pure_ (i := 17) (N := some 115) (v := ?_) (a' := ?_) #[false, false, true, true, false, false, false, true, true, false, false, false, true, true, false, false, false, true, false, false, false, false, false, false, false, false, false, false] rfl rfl (by kernel_rfl) (fun _ _ _ h => h) (Or.inl ⟨by rfl, ?_⟩) ?_ ?_
      rotate_left
      · intro w'
        go_simp
        with_reducible rfl
      rotate_left
      · simp only [Act.put, List.setIfInBounds_toArray, List.set_cons_zero, List.set_cons_succ, i64_w, i32_w]
        rfl
      refine pure_ (i := 18) (N := some 116) (v := ?_) (a' := ?_) #[false, false, true, true, false, false, false, true, true, false, false, false, true, true, false, false, false, true, true, false, false, false, false, false, false, false, false, false] rfl rfl (by kernel_rfl) (fun _ _ _ h => h) (Or.inl ⟨by rfl, ?_⟩) ?_ ?_
      rotate_left
      · intro w'
        go_simp
        with_reducible rfl
      rotate_left
      · simp only [Act.put, List.setIfInBounds_toArray, List.set_cons_zero, List.set_cons_succ, i64_w, i32_w]
        rfl
      refine pure_ (i := 22) (N := some 120) (v := ?_) (a' := ?_) #[false, false, true, true, false, false, false, true, true, false, false, false, true, true, false, false, false, true, true, false, false, false, true, false, false, false, false, false] rfl rfl (by kernel_rfl) (fun _ _ _ h => h) (Or.inl ⟨by rfl, ?_⟩) ?_ ?_
      rotate_left
      · intro w'
        go_simp
        with_reducible rfl
      rotate_left
      · simp only [Act.put, List.setIfInBounds_toArray, List.set_cons_zero, List.set_cons_succ, i64_w, i32_w]
        rfl
      refine pure_ (i := 23) (N := some 121) (v := ?_) (a' := ?_) #[false, false, true, true, false, false, false, true, true, false, false, false, true, true, false, false, false, true, true, false, false, false, true, true, false, false, false, false] rfl rfl (by kernel_rfl) (fun _ _ _ h => h) (Or.inl ⟨by rfl, ?_⟩) ?_ ?_
      rotate_left
      · intro w'
        go_simp
        with_reducible rfl
      rotate_left
      · simp only [Act.put, List.setIfInBounds_toArray, List.set_cons_zero, List.set_cons_succ, i64_w, i32_w]
        rfl
      refine pure_ (i := 24) (N := some 122) (v := ?_) (a' := ?_) #[false, false, true, true, false, false, false, true, true, false, false, false, true, true, false, false, false, true, true, false, false, false, true, true, true, false, false, false] rfl rfl (by kernel_rfl) (fun _ _ _ h => h) (Or.inl ⟨by rfl, ?_⟩) ?_ ?_
      rotate_left
      · intro w'
        go_simp
        with_reducible rfl
      rotate_left
      · simp only [Act.put, List.setIfInBounds_toArray, List.set_cons_zero, List.set_cons_succ, i64_w, i32_w]
        rfl
      refine take_ (i := 0) (N := some 98) (v := ?_) (a' := ?_) #[true, false, true, true, false, false, false, true, true, false, false, false, true, true, false, false, false, true, true, false, false, false, true, true, true, false, false, false] rfl rfl (by kernel_rfl) (fun _ _ _ h => h) (Or.inl ⟨by rfl, ?_⟩) hHeld ?_ ?_
      rotate_left
      · rintro w' ⟨s0, s1, s2, s3, s4, s5, s6, s7, s8, s9, s10, s11, s12, s13, s14, s15, s16, s17, s18, s19, s20, s21, s22, s23, s24, s25, s26, s27, s28, s29, s30, s31, s32, s33, s34, s35, s36, s37, s38, s39, s40, s41, s42, s43, s44, s45, s46, s47, s48, s49, s50, s51, s52, s53, s54, s55, s56, s57, s58, s59⟩
        go_simp
        with_reducible rfl
      rotate_left
      · simp only [Act.put, List.setIfInBounds_toArray, List.set_cons_zero, List.set_cons_succ, i64_w, i32_w]
        rfl
      refine take_ (i := 1) (N := some 99) (v := ?_) (a' := ?_) #[true, true, true, true, false, false, false, true, true, false, false, false, true, true, false, false, false, true, true, false, false, false, true, true, true, false, false, false] rfl rfl (by kernel_rfl) (fun _ _ _ h => h) (Or.inl ⟨by rfl, ?_⟩) hHeld ?_ ?_
      rotate_left
      · rintro w' ⟨s0, s1, s2, s3, s4, s5, s6, s7, s8, s9, s10, s11, s12, s13, s14, s15, s16, s17, s18, s19, s20, s21, s22, s23, s24, s25, s26, s27, s28, s29, s30, s31, s32, s33, s34, s35, s36, s37, s38, s39, s40, s41, s42, s43, s44, s45, s46, s47, s48, s49, s50, s51, s52, s53, s54, s55, s56, s57, s58, s59⟩
        go_simp
        with_reducible rfl
      rotate_left
      · simp only [Act.put, List.setIfInBounds_toArray, List.set_cons_zero, List.set_cons_succ, i64_w, i32_w]
        rfl
      refine take_ (i := 5) (N := some 103) (v := ?_) (a' := ?_) #[true, true, true, true, false, true, false, true, true, false, false, false, true, true, false, false, false, true, true, false, false, false, true, true, true, false, false, false] rfl rfl (by kernel_rfl) (fun _ _ _ h => h) (Or.inl ⟨by rfl, ?_⟩) hHeld ?_ ?_
      rotate_left
      · rintro w' ⟨s0, s1, s2, s3, s4, s5, s6, s7, s8, s9, s10, s11, s12, s13, s14, s15, s16, s17, s18, s19, s20, s21, s22, s23, s24, s25, s26, s27, s28, s29, s30, s31, s32, s33, s34, s35, s36, s37, s38, s39, s40, s41, s42, s43, s44, s45, s46, s47, s48, s49, s50, s51, s52, s53, s54, s55, s56, s57, s58, s59⟩
        go_simp
        with_reducible rfl
      rotate_left
      · simp only [Act.put, List.setIfInBounds_toArray, List.set_cons_zero, List.set_cons_succ, i64_w, i32_w]
        rfl
      refine take_ (i := 6) (N := some 104) (v := ?_) (a' := ?_) #[true, true, true, true, false, true, true, true, true, false, false, false, true, true, false, false, false, true, true, false, false, false, true, true, true, false, false, false] rfl rfl (by kernel_rfl) (fun _ _ _ h => h) (Or.inl ⟨by rfl, ?_⟩) hHeld ?_ ?_
      rotate_left
      · rintro w' ⟨s0, s1, s2, s3, s4, s5, s6, s7, s8, s9, s10, s11, s12, s13, s14, s15, s16, s17, s18, s19, s20, s21, s22, s23, s24, s25, s26, s27, s28, s29, s30, s31, s32, s33, s34, s35, s36, s37, s38, s39, s40, s41, s42, s43, s44, s45, s46, s47, s48, s49, s50, s51, s52, s53, s54, s55, s56, s57, s58, s59⟩
        go_simp
        with_reducible rfl
      rotate_left
      · simp only [Act.put, List.setIfInBounds_toArray, List.set_cons_zero, List.set_cons_succ, i64_w, i32_w]
        rfl
      refine take_ (i := 10) (N := some 108) (v := ?_) (a' := ?_) #[true, true, true, true, false, true, true, true, true, false, true, false, true, true, false, false, false, true, true, false, false, false, true, true, true, false, false, false] rfl rfl (by kernel_rfl) (fun _ _ _ h => h) (Or.inl ⟨by rfl, ?_⟩) hHeld ?_ ?_
      rotate_left
      · rintro w' ⟨s0, s1, s2, s3, s4, s5, s6, s7, s8, s9, s10, s11, s12, s13, s14, s15, s16, s17, s18, s19, s20, s21, s22, s23, s24, s25, s26, s27, s28, s29, s30, s31, s32, s33, s34, s35, s36, s37, s38, s39, s40, s41, s42, s43, s44, s45, s46, s47, s48, s49, s50, s51, s52, s53, s54, s55, s56, s57, s58, s59⟩
        go_simp
        with_reducible rfl
      rotate_left
      · simp only [Act.put, List.setIfInBounds_toArray, List.set_cons_zero, List.set_cons_succ, i64_w, i32_w]
        rfl
      refine take_ (i := 11) (N := some 109) (v := ?_) (a' := ?_) #[true, true, true, true, false, true, true, true, true, false, true, true, true, true, false, false, false, true, true, false, false, false, true, true, true, false, false, false] rfl rfl (by kernel_rfl) (fun _ _ _ h => h) (Or.inl ⟨by rfl, ?_⟩) hHeld ?_ ?_
      rotate_left
      · rintro w' ⟨s0, s1, s2, s3, s4, s5, s6, s7, s8, s9, s10, s11, s12, s13, s14, s15, s16, s17, s18, s19, s20, s21, s22, s23, s24, s25, s26, s27, s28, s29, s30, s31, s32, s33, s34, s35, s36, s37, s38, s39, s40, s41, s42, s43, s44, s45, s46, s47, s48, s49, s50, s51, s52, s53, s54, s55, s56, s57, s58, s59⟩
        go_simp
        with_reducible rfl
      rotate_left
      · simp only [Act.put, List.setIfInBounds_toArray, List.set_cons_zero, List.set_cons_succ, i64_w, i32_w]
        rfl
      refine take_ (i := 15) (N := some 113) (v := ?_) (a' := ?_) #[true, true, true, true, false, true, true, true, true, false, true, true, true, true, false, true, false, true, true, false, false, false, true, true, true, false, false, false] rfl rfl (by kernel_rfl) (fun _ _ _ h => h) (Or.inl ⟨by rfl, ?_⟩) hHeld ?_ ?_
      rotate_left
      · rintro w' ⟨s0, s1, s2, s3, s4, s5, s6, s7, s8, s9, s10, s11, s12, s13, s14, s15, s16, s17, s18, s19, s20, s21, s22, s23, s24, s25, s26, s27, s28, s29, s30, s31, s32, s33, s34, s35, s36, s37, s38, s39, s40, s41, s42, s43, s44, s45, s46, s47, s48, s49, s50, s51, s52, s53, s54, s55, s56, s57, s58, s59⟩
        go_simp
        with_reducible rfl
      rotate_left
      · simp only [Act.put, List.setIfInBounds_toArray, List.set_cons_zero, List.set_cons_succ, i64_w, i32_w]
        rfl
      refine take_ (i := 16) (N := some 114) (v := ?_) (a' := ?_) #[true, true, true, true, false, true, true, true, true, false, true, true, true, true, false, true, true, true, true, false, false, false, true, true, true, false, false, false] rfl rfl (by kernel_rfl) (fun _ _ _ h => h) (Or.inl ⟨by rfl, ?_⟩) hHeld ?_ ?_
      rotate_left
      · rintro w' ⟨s0, s1, s2, s3, s4, s5, s6, s7, s8, s9, s10, s11, s12, s13, s14, s15, s16, s17, s18, s19, s20, s21, s22, s23, s24, s25, s26, s27, s28, s29, s30, s31, s32, s33, s34, s35, s36, s37, s38, s39, s40, s41, s42, s43, s44, s45, s46, s47, s48, s49, s50, s51, s52, s53, s54, s55, s56, s57, s58, s59⟩
        go_simp
        with_reducible rfl
      rotate_left
      · simp only [Act.put, List.setIfInBounds_toArray, List.set_cons_zero, List.set_cons_succ, i64_w, i32_w]
        rfl
      refine take_ (i := 20) (N := some 118) (v := ?_) (a' := ?_) #[true, true, true, true, false, true, true, true, true, false, true, true, true, true, false, true, true, true, true, false, true, false, true, true, true, false, false, false] rfl rfl (by kernel_rfl) (fun _ _ _ h => h) (Or.inl ⟨by rfl, ?_⟩) hHeld ?_ ?_
      rotate_left
      · rintro w' ⟨s0, s1, s2, s3, s4, s5, s6, s7, s8, s9, s10, s11, s12, s13, s14, s15, s16, s17, s18, s19, s20, s21, s22, s23, s24, s25, s26, s27, s28, s29, s30, s31, s32, s33, s34, s35, s36, s37, s38, s39, s40, s41, s42, s43, s44, s45, s46, s47, s48, s49, s50, s51, s52, s53, s54, s55, s56, s57, s58, s59⟩
        go_simp
        with_reducible rfl
      rotate_left
      · simp only [Act.put, List.setIfInBounds_toArray, List.set_cons_zero, List.set_cons_succ, i64_w, i32_w]
        rfl
      refine take_ (i := 21) (N := some 119) (v := ?_) (a' := ?_) #[true, true, true, true, false, true, true, true, true, false, true, true, true, true, false, true, true, true, true, false, true, true, true, true, true, false, false, false] rfl rfl (by kernel_rfl) (fun _ _ _ h => h) (Or.inl ⟨by rfl, ?_⟩) hHeld ?_ ?_
      rotate_left
      · rintro w' ⟨s0, s1, s2, s3, s4, s5, s6, s7, s8, s9, s10, s11, s12, s13, s14, s15, s16, s17, s18, s19, s20, s21, s22, s23, s24, s25, s26, s27, s28, s29, s30, s31, s32, s33, s34, s35, s36, s37, s38, s39, s40, s41, s42, s43, s44, s45, s46, s47, s48, s49, s50, s51, s52, s53, s54, s55, s56, s57, s58, s59⟩
        go_simp
        with_reducible rfl
      rotate_left
      · simp only [Act.put, List.setIfInBounds_toArray, List.set_cons_zero, List.set_cons_succ, i64_w, i32_w]
        rfl
      refine one_ (i := 4) (N := some 102) #[true, true, true, true, true, true, true, true, true, false, true, true, true, true, false, true, true, true, true, false, true, true, true, true, true, false, false, false] rfl rfl (by kernel_rfl) (by decide) (fun K hK => ?_)
      refine goes_ Try.func11 (by kernel_rfl) rfl #[.agg #[.int .i64 b0, .int .i64 b1, .int .i64 b2, .int .i64 b3, .int .i64 b4, .int .i64 b5, .int .i64 b6, .int .i64 b7, .int .i64 b8], .agg #[.int .i64 a0, .int .i64 a1, .slice s2.1 s2.2.1 s2.2.2, .slice s3.1 s3.2.1 s3.2.2, .slice s4.1 s4.2.1 s4.2.2, .slice s5.1 s5.2.1 s5.2.2, .slice A10 mu.length c10, .slice A7 sp.length c7, .int .i64 a8, .int .i64 a9, .slice s10.1 s10.2.1 s10.2.2], .int .i64 pk] (by rfl) rfl rfl (by simp only [List.map_toArray, List.map_cons, List.map_nil]; rfl) ?_
      with_reducible refine (steps_calls a0 a1 s2 s3 s4 s5 A10 c10 mu A7 c7 sp a8 a9 s10 b0 b1 b2 b3 b4 b5 b6 b7 b8 pk w20.drew n0 HN0.out).mono ?_
      rintro e w21 ⟨rfl, hb21⟩
      refine ⟨_, rfl, ?_⟩
      have hq21 : Below w20.heap.size w20 w21 := below_undrew hb21
      refine hK.out _ _ ⟨(cell_step hb21 (a := ⟨G3, 0, none⟩) k0), (cell_step hb21 (a := ⟨G3, 1, none⟩) k1), (cell_step hb21 (a := ⟨G3, 2, none⟩) k2), (cell_step hb21 (a := ⟨G3, 3, none⟩) k3), (cell_step hb21 (a := ⟨G3, 4, none⟩) k4), (cell_step hb21 (a := ⟨G3, 5, none⟩) k5), (cell_step hb21 (a := ⟨G3, 6, none⟩) k6), (cell_step hb21 (a := ⟨G3, 7, none⟩) k7), (cell_step hb21 (a := ⟨G3, 8, none⟩) k8), (cell_step hb21 (a := ⟨G4, 0, none⟩) z0), (cell_step hb21 (a := ⟨G4, 1, none⟩) z1), (cell_step hb21 (a := ⟨G4, 2, none⟩) z2), (cell_step hb21 (a := ⟨G4, 3, none⟩) z3), (cell_step hb21 (a := ⟨G4, 4, none⟩) z4), (cell_step hb21 (a := ⟨G4, 5, none⟩) z5), (cell_step hb21 (a := ⟨G4, 6, none⟩) z6), (cell_step hb21 (a := ⟨G4, 7, none⟩) z7), (cell_step hb21 (a := ⟨G4, 8, none⟩) z8), (cell_step hb21 (a := ⟨G4, 9, none⟩) z9), (cell_step hb21 (a := ⟨G4, 10, none⟩) z10), (cell_step hb21 (a := ⟨G8, 0, none⟩) m0), (cell_step hb21 (a := ⟨G8, 1, none⟩) m1), (cell_step hb21 (a := ⟨G8, 2, none⟩) m2), (cell_step hb21 (a := ⟨G8, 3, none⟩) m3), (cell_step hb21 (a := ⟨G8, 4, none⟩) m4), (cell_step hb21 (a := ⟨G8, 5, none⟩) m5), (cell_step hb21 (a := ⟨G8, 6, none⟩) m6), (cell_step hb21 (a := ⟨G8, 7, none⟩) m7), (cell_step hb21 (a := ⟨G8, 8, none⟩) m8), (cell_step hb21 (a := ⟨G8, 9, none⟩) m9), (cell_step hb21 (a := ⟨G8, 10, none⟩) m10), (cell_step hb21 (a := ⟨G12, 0, none⟩) pp0), (cell_step hb21 (a := ⟨G12, 1, none⟩) pp1), (cell_step hb21 (a := ⟨G12, 2, none⟩) pp2), (cell_step hb21 (a := ⟨G12, 3, none⟩) pp3), (cell_step hb21 (a := ⟨G12, 4, none⟩) pp4), (cell_step hb21 (a := ⟨G12, 5, none⟩) pp5), (cell_step hb21 (a := ⟨G12, 6, none⟩) pp6), (cell_step hb21 (a := ⟨G12, 7, none⟩) pp7), (cell_step hb21 (a := ⟨G12, 8, none⟩) pp8), (cell_step hb21 (a := ⟨G12, 9, none⟩) pp9), (cell_step hb21 (a := ⟨G12, 10, none⟩) pp10), (cell_step hb21 (a := ⟨G13, 0, none⟩) cc0), (cell_step hb21 (a := ⟨G13, 1, none⟩) cc1), (cell_step hb21 (a := ⟨G13, 2, none⟩) cc2), (cell_step hb21 (a := ⟨G13, 3, none⟩) cc3), (cell_step hb21 (a := ⟨G13, 4, none⟩) cc4), (cell_step hb21 (a := ⟨G13, 5, none⟩) cc5), (cell_step hb21 (a := ⟨G13, 6, none⟩) cc6), (cell_step hb21 (a := ⟨G13, 7, none⟩) cc7), (cell_step hb21 (a := ⟨G13, 8, none⟩) cc8), (cell_step hb21 (a := ⟨G14, 0, none⟩) dd0), (cell_step hb21 (a := ⟨G14, 1, none⟩) dd1), (cell_step hb21 (a := ⟨G14, 2, none⟩) dd2), (cell_step hb21 (a := ⟨G14, 3, none⟩) dd3), (cell_step hb21 (a := ⟨G14, 4, none⟩) dd4), (cell_step hb21 (a := ⟨G14, 5, none⟩) dd5), (cell_step hb21 (a := ⟨G14, 6, none⟩) dd6), (cell_step hb21 (a := ⟨G14, 7, none⟩) dd7), (cell_step hb21 (a := ⟨G14, 8, none⟩) dd8)⟩ (fun hHeld => ?_)
      clear hK K
      refine norm_ (a' := ?_) ?_ ?_
      rotate_left
      · show Act.put _ (some 102) _ = _
        simp only [Act.put, List.setIfInBounds_toArray, List.set_cons_zero, List.set_cons_succ, i64_w, i32_w]
        rfl
      refine one_ (i := 9) (N := some 107) #[true, true, true, true, true, true, true, true, true, true, true, true, true, true, false, true, true, true, true, false, true, true, true, true, true, false, false, false] rfl rfl (by kernel_rfl) (by decide) (fun K hK => ?_)
      refine goes_ Try.func11 (by kernel_rfl) rfl #[.agg #[.int .i64 b0, .int .i64 b1, .int .i64 b2, .int .i64 b3, .int .i64 b4, .int .i64 b5, .int .i64 b6, .int .i64 b7, .int .i64 b8], .agg #[.int .i64 a0, .int .i64 a1, .slice s2.1 s2.2.1 s2.2.2, .slice s3.1 s3.2.1 s3.2.2, .slice s4.1 s4.2.1 s4.2.2, .slice s5.1 s5.2.1 s5.2.2, .slice A6 us.length c6, .slice A7 sp.length c7, .int .i64 a8, .int .i64 (a9 + 1), .slice s10.1 s10.2.1 s10.2.2], .int .i64 pk] (by rfl) rfl rfl (by simp only [List.map_toArray, List.map_cons, List.map_nil]; rfl) ?_
      with_reducible refine (steps_calls a0 a1 s2 s3 s4 s5 A6 c6 us A7 c7 sp a8 (a9 + 1) s10 b0 b1 b2 b3 b4 b5 b6 b7 b8 pk w21 n1 HN1.out).mono ?_
      rintro e w22 ⟨rfl, hb22⟩
      refine ⟨_, rfl, ?_⟩
      have hq22 : Below w20.heap.size w20 w22 := below_step hq21 hb22
      refine hK.out _ _ ⟨(cell_step hb22 (a := ⟨G3, 0, none⟩) hHeld.1), (cell_step hb22 (a := ⟨G3, 1, none⟩) hHeld.2.1), (cell_step hb22 (a := ⟨G3, 2, none⟩) hHeld.2.2.1), (cell_step hb22 (a := ⟨G3, 3, none⟩) hHeld.2.2.2.1), (cell_step hb22 (a := ⟨G3, 4, none⟩) hHeld.2.2.2.2.1), (cell_step hb22 (a := ⟨G3, 5, none⟩) hHeld.2.2.2.2.2.1), (cell_step hb22 (a := ⟨G3, 6, none⟩) hHeld.2.2.2.2.2.2.1), (cell_step hb22 (a := ⟨G3, 7, none⟩) hHeld.2.2.2.2.2.2.2.1), (cell_step hb22 (a := ⟨G3, 8, none⟩) hHeld.2.2.2.2.2.2.2.2.1), (cell_step hb22 (a := ⟨G4, 0, none⟩) hHeld.2.2.2.2.2.2.2.2.2.1), (cell_step hb22 (a := ⟨G4, 1, none⟩) hHeld.2.2.2.2.2.2.2.2.2.2.1), (cell_step hb22 (a := ⟨G4, 2, none⟩) hHeld.2.2.2.2.2.2.2.2.2.2.2.1), (cell_step hb22 (a := ⟨G4, 3, none⟩) hHeld.2.2.2.2.2.2.2.2.2.2.2.2.1), (cell_step hb22 (a := ⟨G4, 4, none⟩) hHeld.2.2.2.2.2.2.2.2.2.2.2.2.2.1), (cell_step hb22 (a := ⟨G4, 5, none⟩) hHeld.2.2.2.2.2.2.2.2.2.2.2.2.2.2.1), (cell_step hb22 (a := ⟨G4, 6, none⟩) hHeld.2.2.2.2.2.2.2.2.2.2.2.2.2.2.2.1), (cell_step hb22 (a := ⟨G4, 7, none⟩) hHeld.2.2.2.2.2.2.2.2.2.2.2.2.2.2.2.2.1), (cell_step hb22 (a := ⟨G4, 8, none⟩) hHeld.2.2.2.2.2.2.2.2.2.2.2.2.2.2.2.2.2.1), (cell_step hb22 (a := ⟨G4, 9, none⟩) hHeld.2.2.2.2.2.2.2.2.2.2.2.2.2.2.2.2.2.2.1), (cell_step hb22 (a := ⟨G4, 10, none⟩) hHeld.2.2.2.2.2.2.2.2.2.2.2.2.2.2.2.2.2.2.2.1), (cell_step hb22 (a := ⟨G8, 0, none⟩) hHeld.2.2.2.2.2.2.2.2.2.2.2.2.2.2.2.2.2.2.2.2.1), (cell_step hb22 (a := ⟨G8, 1, none⟩) hHeld.2.2.2.2.2.2.2.2.2.2.2.2.2.2.2.2.2.2.2.2.2.1), (cell_step hb22 (a := ⟨G8, 2, none⟩) hHeld.2.2.2.2.2.2.2.2.2.2.2.2.2.2.2.2.2.2.2.2.2.2.1), (cell_step hb22 (a := ⟨G8, 3, none⟩) hHeld.2.2.2.2.2.2.2.2.2.2.2.2.2.2.2.2.2.2.2.2.2.2.2.1), (cell_step hb22 (a := ⟨G8, 4, none⟩) hHeld.2.2.2.2.2.2.2.2.2.2.2.2.2.2.2.2.2.2.2.2.2.2.2.2.1), (cell_step hb22 (a := ⟨G8, 5, none⟩) hHeld.2.2.2.2.2.2.2.2.2.2.2.2.2.2.2.2.2.2.2.2.2.2.2.2.2.1), (cell_step hb22 (a := ⟨G8, 6, none⟩) hHeld.2.2.2.2.2.2.2.2.2.2.2.2.2.2.2.2.2.2.2.2.2.2.2.2.2.2.1), (cell_step hb22 (a := ⟨G8, 7, none⟩) hHeld.2.2.2.2.2.2.2.2.2.2.2.2.2.2.2.2.2.2.2.2.2.2.2.2.2.2.2.1), (cell_step hb22 (a := ⟨G8, 8, none⟩) hHeld.2.2.2.2.2.2.2.2.2.2.2.2.2.2.2.2.2.2.2.2.2.2.2.2.2.2.2.2.1), (cell_step hb22 (a := ⟨G8, 9, none⟩) hHeld.2.2.2.2.2.2.2.2.2.2.2.2.2.2.2.2.2.2.2.2.2.2.2.2.2.2.2.2.2.1), (cell_step hb22 (a := ⟨G8, 10, none⟩) hHeld.2.2.2.2.2.2.2.2.2.2.2.2.2.2.2.2.2.2.2.2.2.2.2.2.2.2.2.2.2.2.1), (cell_step hb22 (a := ⟨G12, 0, none⟩) hHeld.2.2.2.2.2.2.2.2.2.2.2.2.2.2.2.2.2.2.2.2.2.2.2.2.2.2.2.2.2.2.2.1), (cell_step hb22 (a := ⟨G12, 1, none⟩) hHeld.2.2.2.2.2.2.2.2.2.2.2.2.2.2.2.2.2.2.2.2.2.2.2.2.2.2.2.2.2.2.2.2.1), (cell_step hb22 (a := ⟨G12, 2, none⟩) hHeld.2.2.2.2.2.2.2.2.2.2.2.2.2.2.2.2.2.2.2.2.2.2.2.2.2.2.2.2.2.2.2.2.2.1), (cell_step hb22 (a := ⟨G12, 3, none⟩) hHeld.2.2.2.2.2.2.2.2.2.2.2.2.2.2.2.2.2.2.2.2.2.2.2.2.2.2.2.2.2.2.2.2.2.2.1), (cell_step hb22 (a := ⟨G12, 4, none⟩) hHeld.2.2.2.2.2.2.2.2.2.2.2.2.2.2.2.2.2.2.2.2.2.2.2.2.2.2.2.2.2.2.2.2.2.2.2.1), (cell_step hb22 (a := ⟨G12, 5, none⟩) hHeld.2.2.2.2.2.2.2.2.2.2.2.2.2.2.2.2.2.2.2.2.2.2.2.2.2.2.2.2.2.2.2.2.2.2.2.2.1), (cell_step hb22 (a := ⟨G12, 6, none⟩) hHeld.2.2.2.2.2.2.2.2.2.2.2.2.2.2.2.2.2.2.2.2.2.2.2.2.2.2.2.2.2.2.2.2.2.2.2.2.2.1), (cell_step hb22 (a := ⟨G12, 7, none⟩) hHeld.2.2.2.2.2.2.2.2.2.2.2.2.2.2.2.2.2.2.2.2.2.2.2.2.2.2.2.2.2.2.2.2.2.2.2.2.2.2.1), (cell_step hb22 (a := ⟨G12, 8, none⟩) hHeld.2.2.2.2.2.2.2.2.2.2.2.2.2.2.2.2.2.2.2.2.2.2.2.2.2.2.2.2.2.2.2.2.2.2.2.2.2.2.2.1), (cell_step hb22 (a := ⟨G12, 9, none⟩) hHeld.2.2.2.2.2.2.2.2.2.2.2.2.2.2.2.2.2.2.2.2.2.2.2.2.2.2.2.2.2.2.2.2.2.2.2.2.2.2.2.2.1), (cell_step hb22 (a := ⟨G12, 10, none⟩) hHeld.2.2.2.2.2.2.2.2.2.2.2.2.2.2.2.2.2.2.2.2.2.2.2.2.2.2.2.2.2.2.2.2.2.2.2.2.2.2.2.2.2.1), (cell_step hb22 (a := ⟨G13, 0, none⟩) hHeld.2.2.2.2.2.2.2.2.2.2.2.2.2.2.2.2.2.2.2.2.2.2.2.2.2.2.2.2.2.2.2.2.2.2.2.2.2.2.2.2.2.2.1), (cell_step hb22 (a := ⟨G13, 1, none⟩) hHeld.2.2.2.2.2.2.2.2.2.2.2.2.2.2.2.2.2.2.2.2.2.2.2.2.2.2.2.2.2.2.2.2.2.2.2.2.2.2.2.2.2.2.2.1), (cell_step hb22 (a := ⟨G13, 2, none⟩) hHeld.2.2.2.2.2.2.2.2.2.2.2.2.2.2.2.2.2.2.2.2.2.2.2.2.2.2.2.2.2.2.2.2.2.2.2.2.2.2.2.2.2.2.2.2.1), (cell_step hb22 (a := ⟨G13, 3, none⟩) hHeld.2.2.2.2.2.2.2.2.2.2.2.2.2.2.2.2.2.2.2.2.2.2.2.2.2.2.2.2.2.2.2.2.2.2.2.2.2.2.2.2.2.2.2.2.2.1), (cell_step hb22 (a := ⟨G13, 4, none⟩) hHeld.2.2.2.2.2.2.2.2.2.2.2.2.2.2.2.2.2.2.2.2.2.2.2.2.2.2.2.2.2.2.2.2.2.2.2.2.2.2.2.2.2.2.2.2.2.2.1), (cell_step hb22 (a := ⟨G13, 5, none⟩) hHeld.2.2.2.2.2.2.2.2.2.2.2.2.2.2.2.2.2.2.2.2.2.2.2.2.2.2.2.2.2.2.2.2.2.2.2.2.2.2.2.2.2.2.2.2.2.2.2.1), (cell_step hb22 (a := ⟨G13, 6, none⟩) hHeld.2.2.2.2.2.2.2.2.2.2.2.2.2.2.2.2.2.2.2.2.2.2.2.2.2.2.2.2.2.2.2.2.2.2.2.2.2.2.2.2.2.2.2.2.2.2.2.2.1), (cell_step hb22 (a := ⟨G13, 7, none⟩) hHeld.2.2.2.2.2.2.2.2.2.2.2.2.2.2.2.2.2.2.2.2.2.2.2.2.2.2.2.2.2.2.2.2.2.2.2.2.2.2.2.2.2.2.2.2.2.2.2.2.2.1), (cell_step hb22 (a := ⟨G13, 8, none⟩) hHeld.2.2.2.2.2.2.2.2.2.2.2.2.2.2.2.2.2.2.2.2.2.2.2.2.2.2.2.2.2.2.2.2.2.2.2.2.2.2.2.2.2.2.2.2.2.2.2.2.2.2.1), (cell_step hb22 (a := ⟨G14, 0, none⟩) hHeld.2.2.2.2.2.2.2.2.2.2.2.2.2.2.2.2.2.2.2.2.2.2.2.2.2.2.2.2.2.2.2.2.2.2.2.2.2.2.2.2.2.2.2.2.2.2.2.2.2.2.2.1), (cell_step hb22 (a := ⟨G14, 1, none⟩) hHeld.2.2.2.2.2.2.2.2.2.2.2.2.2.2.2.2.2.2.2.2.2.2.2.2.2.2.2.2.2.2.2.2.2.2.2.2.2.2.2.2.2.2.2.2.2.2.2.2.2.2.2.2.1), (cell_step hb22 (a := ⟨G14, 2, none⟩) hHeld.2.2.2.2.2.2.2.2.2.2.2.2.2.2.2.2.2.2.2.2.2.2.2.2.2.2.2.2.2.2.2.2.2.2.2.2.2.2.2.2.2.2.2.2.2.2.2.2.2.2.2.2.2.1), (cell_step hb22 (a := ⟨G14, 3, none⟩) hHeld.2.2.2.2.2.2.2.2.2.2.2.2.2.2.2.2.2.2.2.2.2.2.2.2.2.2.2.2.2.2.2.2.2.2.2.2.2.2.2.2.2.2.2.2.2.2.2.2.2.2.2.2.2.2.1), (cell_step hb22 (a := ⟨G14, 4, none⟩) hHeld.2.2.2.2.2.2.2.2.2.2.2.2.2.2.2.2.2.2.2.2.2.2.2.2.2.2.2.2.2.2.2.2.2.2.2.2.2.2.2.2.2.2.2.2.2.2.2.2.2.2.2.2.2.2.2.1), (cell_step hb22 (a := ⟨G14, 5, none⟩) hHeld.2.2.2.2.2.2.2.2.2.2.2.2.2.2.2.2.2.2.2.2.2.2.2.2.2.2.2.2.2.2.2.2.2.2.2.2.2.2.2.2.2.2.2.2.2.2.2.2.2.2.2.2.2.2.2.2.1), (cell_step hb22 (a := ⟨G14, 6, none⟩) hHeld.2.2.2.2.2.2.2.2.2.2.2.2.2.2.2.2.2.2.2.2.2.2.2.2.2.2.2.2.2.2.2.2.2.2.2.2.2.2.2.2.2.2.2.2.2.2.2.2.2.2.2.2.2.2.2.2.2.1), (cell_step hb22 (a := ⟨G14, 7, none⟩) hHeld.2.2.2.2.2.2.2.2.2.2.2.2.2.2.2.2.2.2.2.2.2.2.2.2.2.2.2.2.2.2.2.2.2.2.2.2.2.2.2.2.2.2.2.2.2.2.2.2.2.2.2.2.2.2.2.2.2.2.1), (cell_step hb22 (a := ⟨G14, 8, none⟩) hHeld.2.2.2.2.2.2.2.2.2.2.2.2.2.2.2.2.2.2.2.2.2.2.2.2.2.2.2.2.2.2.2.2.2.2.2.2.2.2.2.2.2.2.2.2.2.2.2.2.2.2.2.2.2.2.2.2.2.2.2)⟩ (fun hHeld => ?_)
      clear hK K
      refine norm_ (a' := ?_) ?_ ?_
      rotate_left
      · show Act.put _ (some 107) _ = _
        simp only [Act.put, List.setIfInBounds_toArray, List.set_cons_zero, List.set_cons_succ, i64_w, i32_w]
        rfl
      refine one_ (i := 14) (N := some 112) #[true, true, true, true, true, true, true, true, true, true, true, true, true, true, true, true, true, true, true, false, true, true, true, true, true, false, false, false] rfl rfl (by kernel_rfl) (by decide) (fun K hK => ?_)
      refine goes_ Try.func11 (by kernel_rfl) rfl #[.agg #[.int .i64 (b0 + 1), .int .i64 b1, .int .i64 b2, .int .i64 b3, .int .i64 b4, .int .i64 b5, .int .i64 b6, .int .i64 b7, .int .i64 b8], .agg #[.int .i64 a0, .int .i64 a1, .slice s2.1 s2.2.1 s2.2.2, .slice s3.1 s3.2.1 s3.2.2, .slice s4.1 s4.2.1 s4.2.2, .slice s5.1 s5.2.1 s5.2.2, .slice A6 us.length c6, .slice A7 sp.length c7, .int .i64 a8, .int .i64 a9, .slice s10.1 s10.2.1 s10.2.2], .int .i64 pk] (by rfl) rfl rfl (by simp only [List.map_toArray, List.map_cons, List.map_nil]; rfl) ?_
      with_reducible refine (steps_calls a0 a1 s2 s3 s4 s5 A6 c6 us A7 c7 sp a8 a9 s10 (b0 + 1) b1 b2 b3 b4 b5 b6 b7 b8 pk w22 n2 HN2.out).mono ?_
      rintro e w23 ⟨rfl, hb23⟩
      refine ⟨_, rfl, ?_⟩
      have hq23 : Below w20.heap.size w20 w23 := below_step hq22 hb23
      refine hK.out _ _ ⟨(cell_step hb23 (a := ⟨G3, 0, none⟩) hHeld.1), (cell_step hb23 (a := ⟨G3, 1, none⟩) hHeld.2.1), (cell_step hb23 (a := ⟨G3, 2, none⟩) hHeld.2.2.1), (cell_step hb23 (a := ⟨G3, 3, none⟩) hHeld.2.2.2.1), (cell_step hb23 (a := ⟨G3, 4, none⟩) hHeld.2.2.2.2.1), (cell_step hb23 (a := ⟨G3, 5, none⟩) hHeld.2.2.2.2.2.1), (cell_step hb23 (a := ⟨G3, 6, none⟩) hHeld.2.2.2.2.2.2.1), (cell_step hb23 (a := ⟨G3, 7, none⟩) hHeld.2.2.2.2.2.2.2.1), (cell_step hb23 (a := ⟨G3, 8, none⟩) hHeld.2.2.2.2.2.2.2.2.1), (cell_step hb23 (a := ⟨G4, 0, none⟩) hHeld.2.2.2.2.2.2.2.2.2.1), (cell_step hb23 (a := ⟨G4, 1, none⟩) hHeld.2.2.2.2.2.2.2.2.2.2.1), (cell_step hb23 (a := ⟨G4, 2, none⟩) hHeld.2.2.2.2.2.2.2.2.2.2.2.1), (cell_step hb23 (a := ⟨G4, 3, none⟩) hHeld.2.2.2.2.2.2.2.2.2.2.2.2.1), (cell_step hb23 (a := ⟨G4, 4, none⟩) hHeld.2.2.2.2.2.2.2.2.2.2.2.2.2.1), (cell_step hb23 (a := ⟨G4, 5, none⟩) hHeld.2.2.2.2.2.2.2.2.2.2.2.2.2.2.1), (cell_step hb23 (a := ⟨G4, 6, none⟩) hHeld.2.2.2.2.2.2.2.2.2.2.2.2.2.2.2.1), (cell_step hb23 (a := ⟨G4, 7, none⟩) hHeld.2.2.2.2.2.2.2.2.2.2.2.2.2.2.2.2.1), (cell_step hb23 (a := ⟨G4, 8, none⟩) hHeld.2.2.2.2.2.2.2.2.2.2.2.2.2.2.2.2.2.1), (cell_step hb23 (a := ⟨G4, 9, none⟩) hHeld.2.2.2.2.2.2.2.2.2.2.2.2.2.2.2.2.2.2.1), (cell_step hb23 (a := ⟨G4, 10, none⟩) hHeld.2.2.2.2.2.2.2.2.2.2.2.2.2.2.2.2.2.2.2.1), (cell_step hb23 (a := ⟨G8, 0, none⟩) hHeld.2.2.2.2.2.2.2.2.2.2.2.2.2.2.2.2.2.2.2.2.1), (cell_step hb23 (a := ⟨G8, 1, none⟩) hHeld.2.2.2.2.2.2.2.2.2.2.2.2.2.2.2.2.2.2.2.2.2.1), (cell_step hb23 (a := ⟨G8, 2, none⟩) hHeld.2.2.2.2.2.2.2.2.2.2.2.2.2.2.2.2.2.2.2.2.2.2.1), (cell_step hb23 (a := ⟨G8, 3, none⟩) hHeld.2.2.2.2.2.2.2.2.2.2.2.2.2.2.2.2.2.2.2.2.2.2.2.1), (cell_step hb23 (a := ⟨G8, 4, none⟩) hHeld.2.2.2.2.2.2.2.2.2.2.2.2.2.2.2.2.2.2.2.2.2.2.2.2.1), (cell_step hb23 (a := ⟨G8, 5, none⟩) hHeld.2.2.2.2.2.2.2.2.2.2.2.2.2.2.2.2.2.2.2.2.2.2.2.2.2.1), (cell_step hb23 (a := ⟨G8, 6, none⟩) hHeld.2.2.2.2.2.2.2.2.2.2.2.2.2.2.2.2.2.2.2.2.2.2.2.2.2.2.1), (cell_step hb23 (a := ⟨G8, 7, none⟩) hHeld.2.2.2.2.2.2.2.2.2.2.2.2.2.2.2.2.2.2.2.2.2.2.2.2.2.2.2.1), (cell_step hb23 (a := ⟨G8, 8, none⟩) hHeld.2.2.2.2.2.2.2.2.2.2.2.2.2.2.2.2.2.2.2.2.2.2.2.2.2.2.2.2.1), (cell_step hb23 (a := ⟨G8, 9, none⟩) hHeld.2.2.2.2.2.2.2.2.2.2.2.2.2.2.2.2.2.2.2.2.2.2.2.2.2.2.2.2.2.1), (cell_step hb23 (a := ⟨G8, 10, none⟩) hHeld.2.2.2.2.2.2.2.2.2.2.2.2.2.2.2.2.2.2.2.2.2.2.2.2.2.2.2.2.2.2.1), (cell_step hb23 (a := ⟨G12, 0, none⟩) hHeld.2.2.2.2.2.2.2.2.2.2.2.2.2.2.2.2.2.2.2.2.2.2.2.2.2.2.2.2.2.2.2.1), (cell_step hb23 (a := ⟨G12, 1, none⟩) hHeld.2.2.2.2.2.2.2.2.2.2.2.2.2.2.2.2.2.2.2.2.2.2.2.2.2.2.2.2.2.2.2.2.1), (cell_step hb23 (a := ⟨G12, 2, none⟩) hHeld.2.2.2.2.2.2.2.2.2.2.2.2.2.2.2.2.2.2.2.2.2.2.2.2.2.2.2.2.2.2.2.2.2.1), (cell_step hb23 (a := ⟨G12, 3, none⟩) hHeld.2.2.2.2.2.2.2.2.2.2.2.2.2.2.2.2.2.2.2.2.2.2.2.2.2.2.2.2.2.2.2.2.2.2.1), (cell_step hb23 (a := ⟨G12, 4, none⟩) hHeld.2.2.2.2.2.2.2.2.2.2.2.2.2.2.2.2.2.2.2.2.2.2.2.2.2.2.2.2.2.2.2.2.2.2.2.1), (cell_step hb23 (a := ⟨G12, 5, none⟩) hHeld.2.2.2.2.2.2.2.2.2.2.2.2.2.2.2.2.2.2.2.2.2.2.2.2.2.2.2.2.2.2.2.2.2.2.2.2.1), (cell_step hb23 (a := ⟨G12, 6, none⟩) hHeld.2.2.2.2.2.2.2.2.2.2.2.2.2.2.2.2.2.2.2.2.2.2.2.2.2.2.2.2.2.2.2.2.2.2.2.2.2.1), (cell_step hb23 (a := ⟨G12, 7, none⟩) hHeld.2.2.2.2.2.2.2.2.2.2.2.2.2.2.2.2.2.2.2.2.2.2.2.2.2.2.2.2.2.2.2.2.2.2.2.2.2.2.1), (cell_step hb23 (a := ⟨G12, 8, none⟩) hHeld.2.2.2.2.2.2.2.2.2.2.2.2.2.2.2.2.2.2.2.2.2.2.2.2.2.2.2.2.2.2.2.2.2.2.2.2.2.2.2.1), (cell_step hb23 (a := ⟨G12, 9, none⟩) hHeld.2.2.2.2.2.2.2.2.2.2.2.2.2.2.2.2.2.2.2.2.2.2.2.2.2.2.2.2.2.2.2.2.2.2.2.2.2.2.2.2.1), (cell_step hb23 (a := ⟨G12, 10, none⟩) hHeld.2.2.2.2.2.2.2.2.2.2.2.2.2.2.2.2.2.2.2.2.2.2.2.2.2.2.2.2.2.2.2.2.2.2.2.2.2.2.2.2.2.1), (cell_step hb23 (a := ⟨G13, 0, none⟩) hHeld.2.2.2.2.2.2.2.2.2.2.2.2.2.2.2.2.2.2.2.2.2.2.2.2.2.2.2.2.2.2.2.2.2.2.2.2.2.2.2.2.2.2.1), (cell_step hb23 (a := ⟨G13, 1, none⟩) hHeld.2.2.2.2.2.2.2.2.2.2.2.2.2.2.2.2.2.2.2.2.2.2.2.2.2.2.2.2.2.2.2.2.2.2.2.2.2.2.2.2.2.2.2.1), (cell_step hb23 (a := ⟨G13, 2, none⟩) hHeld.2.2.2.2.2.2.2.2.2.2.2.2.2.2.2.2.2.2.2.2.2.2.2.2.2.2.2.2.2.2.2.2.2.2.2.2.2.2.2.2.2.2.2.2.1), (cell_step hb23 (a := ⟨G13, 3, none⟩) hHeld.2.2.2.2.2.2.2.2.2.2.2.2.2.2.2.2.2.2.2.2.2.2.2.2.2.2.2.2.2.2.2.2.2.2.2.2.2.2.2.2.2.2.2.2.2.1), (cell_step hb23 (a := ⟨G13, 4, none⟩) hHeld.2.2.2.2.2.2.2.2.2.2.2.2.2.2.2.2.2.2.2.2.2.2.2.2.2.2.2.2.2.2.2.2.2.2.2.2.2.2.2.2.2.2.2.2.2.2.1), (cell_step hb23 (a := ⟨G13, 5, none⟩) hHeld.2.2.2.2.2.2.2.2.2.2.2.2.2.2.2.2.2.2.2.2.2.2.2.2.2.2.2.2.2.2.2.2.2.2.2.2.2.2.2.2.2.2.2.2.2.2.2.1), (cell_step hb23 (a := ⟨G13, 6, none⟩) hHeld.2.2.2.2.2.2.2.2.2.2.2.2.2.2.2.2.2.2.2.2.2.2.2.2.2.2.2.2.2.2.2.2.2.2.2.2.2.2.2.2.2.2.2.2.2.2.2.2.1), (cell_step hb23 (a := ⟨G13, 7, none⟩) hHeld.2.2.2.2.2.2.2.2.2.2.2.2.2.2.2.2.2.2.2.2.2.2.2.2.2.2.2.2.2.2.2.2.2.2.2.2.2.2.2.2.2.2.2.2.2.2.2.2.2.1), (cell_step hb23 (a := ⟨G13, 8, none⟩) hHeld.2.2.2.2.2.2.2.2.2.2.2.2.2.2.2.2.2.2.2.2.2.2.2.2.2.2.2.2.2.2.2.2.2.2.2.2.2.2.2.2.2.2.2.2.2.2.2.2.2.2.1), (cell_step hb23 (a := ⟨G14, 0, none⟩) hHeld.2.2.2.2.2.2.2.2.2.2.2.2.2.2.2.2.2.2.2.2.2.2.2.2.2.2.2.2.2.2.2.2.2.2.2.2.2.2.2.2.2.2.2.2.2.2.2.2.2.2.2.1), (cell_step hb23 (a := ⟨G14, 1, none⟩) hHeld.2.2.2.2.2.2.2.2.2.2.2.2.2.2.2.2.2.2.2.2.2.2.2.2.2.2.2.2.2.2.2.2.2.2.2.2.2.2.2.2.2.2.2.2.2.2.2.2.2.2.2.2.1), (cell_step hb23 (a := ⟨G14, 2, none⟩) hHeld.2.2.2.2.2.2.2.2.2.2.2.2.2.2.2.2.2.2.2.2.2.2.2.2.2.2.2.2.2.2.2.2.2.2.2.2.2.2.2.2.2.2.2.2.2.2.2.2.2.2.2.2.2.1), (cell_step hb23 (a := ⟨G14, 3, none⟩) hHeld.2.2.2.2.2.2.2.2.2.2.2.2.2.2.2.2.2.2.2.2.2.2.2.2.2.2.2.2.2.2.2.2.2.2.2.2.2.2.2.2.2.2.2.2.2.2.2.2.2.2.2.2.2.2.1), (cell_step hb23 (a := ⟨G14, 4, none⟩) hHeld.2.2.2.2.2.2.2.2.2.2.2.2.2.2.2.2.2.2.2.2.2.2.2.2.2.2.2.2.2.2.2.2.2.2.2.2.2.2.2.2.2.2.2.2.2.2.2.2.2.2.2.2.2.2.2.1), (cell_step hb23 (a := ⟨G14, 5, none⟩) hHeld.2.2.2.2.2.2.2.2.2.2.2.2.2.2.2.2.2.2.2.2.2.2.2.2.2.2.2.2.2.2.2.2.2.2.2.2.2.2.2.2.2.2.2.2.2.2.2.2.2.2.2.2.2.2.2.2.1), (cell_step hb23 (a := ⟨G14, 6, none⟩) hHeld.2.2.2.2.2.2.2.2.2.2.2.2.2.2.2.2.2.2.2.2.2.2.2.2.2.2.2.2.2.2.2.2.2.2.2.2.2.2.2.2.2.2.2.2.2.2.2.2.2.2.2.2.2.2.2.2.2.1), (cell_step hb23 (a := ⟨G14, 7, none⟩) hHeld.2.2.2.2.2.2.2.2.2.2.2.2.2.2.2.2.2.2.2.2.2.2.2.2.2.2.2.2.2.2.2.2.2.2.2.2.2.2.2.2.2.2.2.2.2.2.2.2.2.2.2.2.2.2.2.2.2.2.1), (cell_step hb23 (a := ⟨G14, 8, none⟩) hHeld.2.2.2.2.2.2.2.2.2.2.2.2.2.2.2.2.2.2.2.2.2.2.2.2.2.2.2.2.2.2.2.2.2.2.2.2.2.2.2.2.2.2.2.2.2.2.2.2.2.2.2.2.2.2.2.2.2.2.2)⟩ (fun hHeld => ?_)
      clear hK K
      refine norm_ (a' := ?_) ?_ ?_
      rotate_left
      · show Act.put _ (some 112) _ = _
        simp only [Act.put, List.setIfInBounds_toArray, List.set_cons_zero, List.set_cons_succ, i64_w, i32_w]
        rfl
      refine one_ (i := 19) (N := some 117) #[true, true, true, true, true, true, true, true, true, true, true, true, true, true, true, true, true, true, true, true, true, true, true, true, true, false, false, false] rfl rfl (by kernel_rfl) (by decide) (fun K hK => ?_)
      refine goes_ Try.func11 (by kernel_rfl) rfl #[.agg #[.int .i64 b0, .int .i64 (b1 + 1), .int .i64 b2, .int .i64 b3, .int .i64 b4, .int .i64 b5, .int .i64 b6, .int .i64 b7, .int .i64 b8], .agg #[.int .i64 a0, .int .i64 a1, .slice s2.1 s2.2.1 s2.2.2, .slice s3.1 s3.2.1 s3.2.2, .slice s4.1 s4.2.1 s4.2.2, .slice s5.1 s5.2.1 s5.2.2, .slice A6 us.length c6, .slice A7 sp.length c7, .int .i64 a8, .int .i64 a9, .slice s10.1 s10.2.1 s10.2.2], .int .i64 pk] (by rfl) rfl rfl (by simp only [List.map_toArray, List.map_cons, List.map_nil]; rfl) ?_
      with_reducible refine (steps_calls a0 a1 s2 s3 s4 s5 A6 c6 us A7 c7 sp a8 a9 s10 b0 (b1 + 1) b2 b3 b4 b5 b6 b7 b8 pk w23 n3 HN3.out).mono ?_
      rintro e w24 ⟨rfl, hb24⟩
      refine ⟨_, rfl, ?_⟩
      have hq24 : Below w20.heap.size w20 w24 := below_step hq23 hb24
      refine hK.out _ _ ⟨(cell_step hb24 (a := ⟨G3, 0, none⟩) hHeld.1), (cell_step hb24 (a := ⟨G3, 1, none⟩) hHeld.2.1), (cell_step hb24 (a := ⟨G3, 2, none⟩) hHeld.2.2.1), (cell_step hb24 (a := ⟨G3, 3, none⟩) hHeld.2.2.2.1), (cell_step hb24 (a := ⟨G3, 4, none⟩) hHeld.2.2.2.2.1), (cell_step hb24 (a := ⟨G3, 5, none⟩) hHeld.2.2.2.2.2.1), (cell_step hb24 (a := ⟨G3, 6, none⟩) hHeld.2.2.2.2.2.2.1), (cell_step hb24 (a := ⟨G3, 7, none⟩) hHeld.2.2.2.2.2.2.2.1), (cell_step hb24 (a := ⟨G3, 8, none⟩) hHeld.2.2.2.2.2.2.2.2.1), (cell_step hb24 (a := ⟨G4, 0, none⟩) hHeld.2.2.2.2.2.2.2.2.2.1), (cell_step hb24 (a := ⟨G4, 1, none⟩) hHeld.2.2.2.2.2.2.2.2.2.2.1), (cell_step hb24 (a := ⟨G4, 2, none⟩) hHeld.2.2.2.2.2.2.2.2.2.2.2.1), (cell_step hb24 (a := ⟨G4, 3, none⟩) hHeld.2.2.2.2.2.2.2.2.2.2.2.2.1), (cell_step hb24 (a := ⟨G4, 4, none⟩) hHeld.2.2.2.2.2.2.2.2.2.2.2.2.2.1), (cell_step hb24 (a := ⟨G4, 5, none⟩) hHeld.2.2.2.2.2.2.2.2.2.2.2.2.2.2.1), (cell_step hb24 (a := ⟨G4, 6, none⟩) hHeld.2.2.2.2.2.2.2.2.2.2.2.2.2.2.2.1), (cell_step hb24 (a := ⟨G4, 7, none⟩) hHeld.2.2.2.2.2.2.2.2.2.2.2.2.2.2.2.2.1), (cell_step hb24 (a := ⟨G4, 8, none⟩) hHeld.2.2.2.2.2.2.2.2.2.2.2.2.2.2.2.2.2.1), (cell_step hb24 (a := ⟨G4, 9, none⟩) hHeld.2.2.2.2.2.2.2.2.2.2.2.2.2.2.2.2.2.2.1), (cell_step hb24 (a := ⟨G4, 10, none⟩) hHeld.2.2.2.2.2.2.2.2.2.2.2.2.2.2.2.2.2.2.2.1), (cell_step hb24 (a := ⟨G8, 0, none⟩) hHeld.2.2.2.2.2.2.2.2.2.2.2.2.2.2.2.2.2.2.2.2.1), (cell_step hb24 (a := ⟨G8, 1, none⟩) hHeld.2.2.2.2.2.2.2.2.2.2.2.2.2.2.2.2.2.2.2.2.2.1), (cell_step hb24 (a := ⟨G8, 2, none⟩) hHeld.2.2.2.2.2.2.2.2.2.2.2.2.2.2.2.2.2.2.2.2.2.2.1), (cell_step hb24 (a := ⟨G8, 3, none⟩) hHeld.2.2.2.2.2.2.2.2.2.2.2.2.2.2.2.2.2.2.2.2.2.2.2.1), (cell_step hb24 (a := ⟨G8, 4, none⟩) hHeld.2.2.2.2.2.2.2.2.2.2.2.2.2.2.2.2.2.2.2.2.2.2.2.2.1), (cell_step hb24 (a := ⟨G8, 5, none⟩) hHeld.2.2.2.2.2.2.2.2.2.2.2.2.2.2.2.2.2.2.2.2.2.2.2.2.2.1), (cell_step hb24 (a := ⟨G8, 6, none⟩) hHeld.2.2.2.2.2.2.2.2.2.2.2.2.2.2.2.2.2.2.2.2.2.2.2.2.2.2.1), (cell_step hb24 (a := ⟨G8, 7, none⟩) hHeld.2.2.2.2.2.2.2.2.2.2.2.2.2.2.2.2.2.2.2.2.2.2.2.2.2.2.2.1), (cell_step hb24 (a := ⟨G8, 8, none⟩) hHeld.2.2.2.2.2.2.2.2.2.2.2.2.2.2.2.2.2.2.2.2.2.2.2.2.2.2.2.2.1), (cell_step hb24 (a := ⟨G8, 9, none⟩) hHeld.2.2.2.2.2.2.2.2.2.2.2.2.2.2.2.2.2.2.2.2.2.2.2.2.2.2.2.2.2.1), (cell_step hb24 (a := ⟨G8, 10, none⟩) hHeld.2.2.2.2.2.2.2.2.2.2.2.2.2.2.2.2.2.2.2.2.2.2.2.2.2.2.2.2.2.2.1), (cell_step hb24 (a := ⟨G12, 0, none⟩) hHeld.2.2.2.2.2.2.2.2.2.2.2.2.2.2.2.2.2.2.2.2.2.2.2.2.2.2.2.2.2.2.2.1), (cell_step hb24 (a := ⟨G12, 1, none⟩) hHeld.2.2.2.2.2.2.2.2.2.2.2.2.2.2.2.2.2.2.2.2.2.2.2.2.2.2.2.2.2.2.2.2.1), (cell_step hb24 (a := ⟨G12, 2, none⟩) hHeld.2.2.2.2.2.2.2.2.2.2.2.2.2.2.2.2.2.2.2.2.2.2.2.2.2.2.2.2.2.2.2.2.2.1), (cell_step hb24 (a := ⟨G12, 3, none⟩) hHeld.2.2.2.2.2.2.2.2.2.2.2.2.2.2.2.2.2.2.2.2.2.2.2.2.2.2.2.2.2.2.2.2.2.2.1), (cell_step hb24 (a := ⟨G12, 4, none⟩) hHeld.2.2.2.2.2.2.2.2.2.2.2.2.2.2.2.2.2.2.2.2.2.2.2.2.2.2.2.2.2.2.2.2.2.2.2.1), (cell_step hb24 (a := ⟨G12, 5, none⟩) hHeld.2.2.2.2.2.2.2.2.2.2.2.2.2.2.2.2.2.2.2.2.2.2.2.2.2.2.2.2.2.2.2.2.2.2.2.2.1), (cell_step hb24 (a := ⟨G12, 6, none⟩) hHeld.2.2.2.2.2.2.2.2.2.2.2.2.2.2.2.2.2.2.2.2.2.2.2.2.2.2.2.2.2.2.2.2.2.2.2.2.2.1), (cell_step hb24 (a := ⟨G12, 7, none⟩) hHeld.2.2.2.2.2.2.2.2.2.2.2.2.2.2.2.2.2.2.2.2.2.2.2.2.2.2.2.2.2.2.2.2.2.2.2.2.2.2.1), (cell_step hb24 (a := ⟨G12, 8, none⟩) hHeld.2.2.2.2.2.2.2.2.2.2.2.2.2.2.2.2.2.2.2.2.2.2.2.2.2.2.2.2.2.2.2.2.2.2.2.2.2.2.2.1), (cell_step hb24 (a := ⟨G12, 9, none⟩) hHeld.2.2.2.2.2.2.2.2.2.2.2.2.2.2.2.2.2.2.2.2.2.2.2.2.2.2.2.2.2.2.2.2.2.2.2.2.2.2.2.2.1), (cell_step hb24 (a := ⟨G12, 10, none⟩) hHeld.2.2.2.2.2.2.2.2.2.2.2.2.2.2.2.2.2.2.2.2.2.2.2.2.2.2.2.2.2.2.2.2.2.2.2.2.2.2.2.2.2.1), (cell_step hb24 (a := ⟨G13, 0, none⟩) hHeld.2.2.2.2.2.2.2.2.2.2.2.2.2.2.2.2.2.2.2.2.2.2.2.2.2.2.2.2.2.2.2.2.2.2.2.2.2.2.2.2.2.2.1), (cell_step hb24 (a := ⟨G13, 1, none⟩) hHeld.2.2.2.2.2.2.2.2.2.2.2.2.2.2.2.2.2.2.2.2.2.2.2.2.2.2.2.2.2.2.2.2.2.2.2.2.2.2.2.2.2.2.2.1), (cell_step hb24 (a := ⟨G13, 2, none⟩) hHeld.2.2.2.2.2.2.2.2.2.2.2.2.2.2.2.2.2.2.2.2.2.2.2.2.2.2.2.2.2.2.2.2.2.2.2.2.2.2.2.2.2.2.2.2.1), (cell_step hb24 (a := ⟨G13, 3, none⟩) hHeld.2.2.2.2.2.2.2.2.2.2.2.2.2.2.2.2.2.2.2.2.2.2.2.2.2.2.2.2.2.2.2.2.2.2.2.2.2.2.2.2.2.2.2.2.2.1), (cell_step hb24 (a := ⟨G13, 4, none⟩) hHeld.2.2.2.2.2.2.2.2.2.2.2.2.2.2.2.2.2.2.2.2.2.2.2.2.2.2.2.2.2.2.2.2.2.2.2.2.2.2.2.2.2.2.2.2.2.2.1), (cell_step hb24 (a := ⟨G13, 5, none⟩) hHeld.2.2.2.2.2.2.2.2.2.2.2.2.2.2.2.2.2.2.2.2.2.2.2.2.2.2.2.2.2.2.2.2.2.2.2.2.2.2.2.2.2.2.2.2.2.2.2.1), (cell_step hb24 (a := ⟨G13, 6, none⟩) hHeld.2.2.2.2.2.2.2.2.2.2.2.2.2.2.2.2.2.2.2.2.2.2.2.2.2.2.2.2.2.2.2.2.2.2.2.2.2.2.2.2.2.2.2.2.2.2.2.2.1), (cell_step hb24 (a := ⟨G13, 7, none⟩) hHeld.2.2.2.2.2.2.2.2.2.2.2.2.2.2.2.2.2.2.2.2.2.2.2.2.2.2.2.2.2.2.2.2.2.2.2.2.2.2.2.2.2.2.2.2.2.2.2.2.2.1), (cell_step hb24 (a := ⟨G13, 8, none⟩) hHeld.2.2.2.2.2.2.2.2.2.2.2.2.2.2.2.2.2.2.2.2.2.2.2.2.2.2.2.2.2.2.2.2.2.2.2.2.2.2.2.2.2.2.2.2.2.2.2.2.2.2.1), (cell_step hb24 (a := ⟨G14, 0, none⟩) hHeld.2.2.2.2.2.2.2.2.2.2.2.2.2.2.2.2.2.2.2.2.2.2.2.2.2.2.2.2.2.2.2.2.2.2.2.2.2.2.2.2.2.2.2.2.2.2.2.2.2.2.2.1), (cell_step hb24 (a := ⟨G14, 1, none⟩) hHeld.2.2.2.2.2.2.2.2.2.2.2.2.2.2.2.2.2.2.2.2.2.2.2.2.2.2.2.2.2.2.2.2.2.2.2.2.2.2.2.2.2.2.2.2.2.2.2.2.2.2.2.2.1), (cell_step hb24 (a := ⟨G14, 2, none⟩) hHeld.2.2.2.2.2.2.2.2.2.2.2.2.2.2.2.2.2.2.2.2.2.2.2.2.2.2.2.2.2.2.2.2.2.2.2.2.2.2.2.2.2.2.2.2.2.2.2.2.2.2.2.2.2.1), (cell_step hb24 (a := ⟨G14, 3, none⟩) hHeld.2.2.2.2.2.2.2.2.2.2.2.2.2.2.2.2.2.2.2.2.2.2.2.2.2.2.2.2.2.2.2.2.2.2.2.2.2.2.2.2.2.2.2.2.2.2.2.2.2.2.2.2.2.2.1), (cell_step hb24 (a := ⟨G14, 4, none⟩) hHeld.2.2.2.2.2.2.2.2.2.2.2.2.2.2.2.2.2.2.2.2.2.2.2.2.2.2.2.2.2.2.2.2.2.2.2.2.2.2.2.2.2.2.2.2.2.2.2.2.2.2.2.2.2.2.2.1), (cell_step hb24 (a := ⟨G14, 5, none⟩) hHeld.2.2.2.2.2.2.2.2.2.2.2.2.2.2.2.2.2.2.2.2.2.2.2.2.2.2.2.2.2.2.2.2.2.2.2.2.2.2.2.2.2.2.2.2.2.2.2.2.2.2.2.2.2.2.2.2.1), (cell_step hb24 (a := ⟨G14, 6, none⟩) hHeld.2.2.2.2.2.2.2.2.2.2.2.2.2.2.2.2.2.2.2.2.2.2.2.2.2.2.2.2.2.2.2.2.2.2.2.2.2.2.2.2.2.2.2.2.2.2.2.2.2.2.2.2.2.2.2.2.2.1), (cell_step hb24 (a := ⟨G14, 7, none⟩) hHeld.2.2.2.2.2.2.2.2.2.2.2.2.2.2.2.2.2.2.2.2.2.2.2.2.2.2.2.2.2.2.2.2.2.2.2.2.2.2.2.2.2.2.2.2.2.2.2.2.2.2.2.2.2.2.2.2.2.2.1), (cell_step hb24 (a := ⟨G14, 8, none⟩) hHeld.2.2.2.2.2.2.2.2.2.2.2.2.2.2.2.2.2.2.2.2.2.2.2.2.2.2.2.2.2.2.2.2.2.2.2.2.2.2.2.2.2.2.2.2.2.2.2.2.2.2.2.2.2.2.2.2.2.2.2)⟩ (fun hHeld => ?_)
      clear hK K
      refine norm_ (a' := ?_) ?_ ?_
      rotate_left
      · show Act.put _ (some 117) _ = _
        simp only [Act.put, List.setIfInBounds_toArray, List.set_cons_zero, List.set_cons_succ, i64_w, i32_w]
        rfl
      refine last_ (i := 25) (N := some 123) #[true, true, true, true, true, true, true, true, true, true, true, true, true, true, true, true, true, true, true, true, true, true, true, true, true, true, false, false] rfl rfl (by kernel_rfl) (by decide) (fun K hK => ?_)
      refine goes_ Try.func11 (by kernel_rfl) rfl #[.agg #[.int .i64 b0, .int .i64 b1, .int .i64 b2, .int .i64 b3, .int .i64 b4, .int .i64 b5, .int .i64 b6, .int .i64 b7, .int .i64 b8], .agg #[.int .i64 a0, .int .i64 a1, .slice s2.1 s2.2.1 s2.2.2, .slice s3.1 s3.2.1 s3.2.2, .slice s4.1 s4.2.1 s4.2.2, .slice s5.1 s5.2.1 s5.2.2, .slice A6 us.length c6, .slice A7 sp.length c7, .int .i64 a8, .int .i64 a9, .slice s10.1 s10.2.1 s10.2.2], .int .i64 (pk + 1)] (by rfl) rfl rfl (by simp only [List.map_toArray, List.map_cons, List.map_nil]; rfl) ?_
      with_reducible refine (steps_calls a0 a1 s2 s3 s4 s5 A6 c6 us A7 c7 sp a8 a9 s10 b0 b1 b2 b3 b4 b5 b6 b7 b8 (pk + 1) w24 n4 HN4.out).mono ?_
      rintro e w25 ⟨rfl, hb25⟩
      refine ⟨_, rfl, ?_⟩
      have hq25 : Below w20.heap.size w20 w25 := below_step hq24 hb25
      refine hK.out _ _ ?_
      clear hK K
      refine norm_ (a' := ?_) ?_ ?_
      rotate_left
      · show Act.put _ (some 123) _ = _
        simp only [Act.put, List.setIfInBounds_toArray, List.set_cons_zero, List.set_cons_succ, i64_w, i32_w]
        rfl
      refine last_ (i := 26) (N := some 124) #[true, true, true, true, true, true, true, true, true, true, true, true, true, true, true, true, true, true, true, true, true, true, true, true, true, true, true, false] rfl rfl (by kernel_rfl) (by decide) (fun K hK => ?_)
      refine value_ (w1 := ?_) (v := ?_) (by rfl) rfl ?_ ?_
      rotate_left 2
      · go_simp
        constructor
        · rfl
        · rfl
      refine hK.out _ _ ?_
      clear hK K
      refine norm_ (a' := ?_) ?_ ?_
      rotate_left
      · show Act.put _ (some 124) _ = _
        simp only [Act.put, List.setIfInBounds_toArray, List.set_cons_zero, List.set_cons_succ, i64_w, i32_w]
        rfl
      refine pure_ (i := 27) (N := some 15) (v := ?_) (a' := ?_) #[true, true, true, true, true, true, true, true, true, true, true, true, true, true, true, true, true, true, true, true, true, true, true, true, true, true, true, true] rfl rfl (by kernel_rfl) (fun _ _ _ h => h) (Or.inl ⟨by rfl, ?_⟩) ?_ ?_
      rotate_left
      · intro w'
        go_simp
        with_reducible rfl
      rotate_left
      · simp only [Act.put, List.setIfInBounds_toArray, List.set_cons_zero, List.set_cons_succ, i64_w, i32_w]
        rfl
      refine done_ (by kernel_rfl) ?_
      have BL := Aside0.mk (MapKept.heap_alloc w25 (.cells #[.int .i64 n0, .int .i64 n1, .int .i64 n2, .int .i64 n3, .int .i64 n4] 3)).1
      have HB25 := Aside0.mk (below_alloc (below_step HB20.out hq25) (.cells #[.int .i64 n0, .int .i64 n1, .int .i64 n2, .int .i64 n3, .int .i64 n4] 3))
      clear hq21 hq22 hq23 hq24 hq25 hb21 hb22 hb23 hb24 hb25 k0 k1 k2 k3 k4 k5 k6 k7 k8 z0 z1 z2 z3 z4 z5 z6 z7 z8 z9 z10 m0 m1 m2 m3 m4 m5 m6 m7 m8 m9 m10 pp0 pp1 pp2 pp3 pp4 pp5 pp6 pp7 pp8 pp9 pp10 cc0 cc1 cc2 cc3 cc4 cc5 cc6 cc7 cc8 dd0 dd1 dd2 dd3 dd4 dd5 dd6 dd7 dd8
      generalize hw26 : w25.alloc (.cells #[.int .i64 n0, .int .i64 n1, .int .i64 n2, .int .i64 n3, .int .i64 n4] 3) = w26 at BL HB25 ⊢
      generalize hGA : w25.heap.size = GA at BL ⊢
      clear hw26 hGA
      go_wp2
      go_loopg [16] 6 (fun kq v16 w' => ∃ (i : Nat), v16 = .int .i64 (i : Int) ∧ (i : Int) ≤ 5 ∧ Aside0 (kq + i = 6) ∧ Aside0 (Below w26.heap.size w26 w'))
      case atStart => exact ⟨0, rfl, by omega, ⟨rfl⟩, ⟨Below.refl _ _⟩⟩
      case round =>
        obtain ⟨i, rfl, hi, HK, HB26⟩ := hrel
        have BLr := blk_below BL.out HB26.out
        by_cases h : (i : Int) < 5
        · obtain ⟨x, hx, hxx⟩ : ∃ x, wr.cell? ⟨GA, i, none⟩ = some (.int .i64 x) ∧ (x < 0 ∨ n < x) := by
            have hG := HG.out
            rcases (show i = 0 ∨ i = 1 ∨ i = 2 ∨ i = 3 ∨ i = 4 by omega) with rfl | rfl | rfl | rfl | rfl
            · exact ⟨n0, (blk_cell BLr 0).trans rfl, hG.1⟩
            · exact ⟨n1, (blk_cell BLr 1).trans rfl, hG.2.1⟩
            · exact ⟨n2, (blk_cell BLr 2).trans rfl, hG.2.2.1⟩
            · exact ⟨n3, (blk_cell BLr 3).trans rfl, hG.2.2.2.1⟩
            · exact ⟨n4, (blk_cell BLr 4).trans rfl, by omega⟩
          by_cases hx0 : 0 ≤ x
          · have dx : decide (0 ≤ x) = true := decide_eq_true hx0
            have dy : decide (x ≤ n) = false := decide_eq_false (by omega)
            clear hxx hx0
            go_wp2
            go_roundg (gk - 1)
            case measure => have := HK.out; omega
            case rel => exact ⟨i + 1, by go_num, by omega, ⟨by have := HK.out; omega⟩, HB26⟩
          · have dx : decide (0 ≤ x) = false := decide_eq_false hx0
            clear hxx hx0
            go_wp2
            go_roundg (gk - 1)
            case measure => have := HK.out; omega
            case rel => exact ⟨i + 1, by go_num, by omega, ⟨by have := HK.out; omega⟩, HB26⟩
        · have h4 : wr.cell? ⟨GA, 4, none⟩ = some (.int .i64 (n + 1)) := by rw [← HG.out.2.2.2.2]; exact (blk_cell BLr 4).trans rfl
          have hn1 : 0 ≤ n := by omega
          have hwn : wrap64 (n + 1) = n + 1 := by unfold wrap64; omega
          have hwn2 : IntKind.i64.wrap (n + 1) = n + 1 := by rw [IntKind.wrap_i64]; omega
          go_wp2
          go_ret
          exact ⟨rfl, HB25.out.trans (HB26.out.mono (below_size HB25.out))⟩
end Go.Proofs.Ythjecgmgpnileaa.Bd
