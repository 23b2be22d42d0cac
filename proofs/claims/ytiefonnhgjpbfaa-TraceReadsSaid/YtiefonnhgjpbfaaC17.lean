/- The document's reading of events, walked. -/
import Derived.Test.YtiefonnhgjpbfaaC16
import Derived.Deep.RegionLaw
namespace Go.Proofs.Ytiefonnhgjpbfaa.Tr
open Go.RowKit Go.Proofs.YtiefonnhgjpbfaaW.PrintWords Go.Proofs.YtiefonnhgjpbfaaW.PrintLast Go.Proofs.YtiefonnhgjpbfaaW.PrintMore
attribute [local go_sem] max2_int min2_int max_two min_two max_three min_three max_four min_four   -- for this text's walks alone
set_option linter.unusedVariables false
set_option linter.unusedSimpArgs false

theorem drew_out (w : World) (o : Obj) : (w.alloc o).drew = w.drew.alloc o := rfl
theorem size_ad (w : World) (o : Obj) : ((w.alloc o).drew.drew).heap.size = w.heap.size + 1 := by
  show (w.heap.push o).size = _
  exact Array.size_push ..
theorem blk_cell (w : World) (cs : Array Value) (k : Nat) (v : Value) (h : cs[k]? = some v) : ((w.alloc (.cells cs 44)).drew.drew).cell? ⟨w.heap.size, k, none⟩ = some v := by
  show (w.alloc (.cells cs 44)).cell? _ = _
  unfold World.cell?
  rw [heap_alloc_new]
  exact h
theorem rd_at {x y : List Int} {j k jk : Nat} (h : x.drop j = y) (e : (j : Int) + (k : Int) = (jk : Int)) : rd x (jk : Int) = y.getD k 0 := by
  subst h
  have : jk = j + k := by omega
  subst this
  unfold rd
  rw [Int.toNat_natCast, List.getD_eq_getElem?_getD, List.getD_eq_getElem?_getD, List.getElem?_drop]
theorem cell_at {w w' : World} {ad : Addr} {x y : List Int} {j k jk : Nat} {v : Int} (hC : Kd.C (Kd.int .i64) w (some ad) x.length x) (hB : Below w.heap.size w w') (hy : x.drop j = y) (e : (j : Int) + (k : Int) = (jk : Int)) (hlt : (jk : Int) < (x.length : Int)) (hv : y.getD k 0 = v) :
    w'.cell? (ad.add jk) = some (.int .i64 v) := by
  obtain ⟨ad', ea, hx⟩ := Kd.at_int hC (jk : Int) (by omega) hlt
  injection ea with ea
  subst ea
  rw [Int.toNat_natCast, rd_at hy e, hv] at hx
  exact (hB.cell (World.block_lt_of_cell? w _ hx)).trans hx
theorem refGetNums_some (A : Option Addr) (c : Nat) (l : List Int) (w : World) (hr : Kd.C (Kd.int .u8) w A l.length l) (hc : l.length ≤ c) (hb : Byt l) (hn : l.length ≤ 1000000) {x : List Int} {v : Nat} (h : getNums l = some (x, v)) :
    Calls Try.prog 33 #[.slice A l.length c] w fun e w' => ∃ (A1 : Option Addr) (c1 : Nat), e = .returned (.tuple #[.slice A1 x.length c1, .int .i64 (v : Int), .int .i64 0]) ∧ Kd.C (Kd.int .i64) w' A1 x.length x ∧ x.length ≤ c1 ∧ Below w.heap.size w w' := by
  refine (underwoodref03_GetNums.calls (l.length + 121) A c l x (v : Int) 0 w hr hc (by rw [ref_GetNums_is l hb (by omega) _ (by omega)]; unfold gn; rw [h])).mono fun e w' hret => ?_
  obtain ⟨v0, he, hR, hB⟩ := hret
  obtain ⟨A1, c1, rfl, h1, h2⟩ := Kd.R_reads hR
  exact ⟨A1, c1, he, h2, h1, hB⟩
theorem refGetNums_none (A : Option Addr) (c : Nat) (l : List Int) (w : World) (hr : Kd.C (Kd.int .u8) w A l.length l) (hc : l.length ≤ c) (hb : Byt l) (hn : l.length ≤ 1000000) (h : getNums l = none) :
    Calls Try.prog 33 #[.slice A l.length c] w fun e w' => ∃ v0_ : Value, e = .returned (.tuple #[v0_, .int .i64 0, .int .i64 3]) ∧ Below w.heap.size w w' := by
  refine (underwoodref03_GetNums.calls (l.length + 121) A c l [] 0 3 w hr hc (by rw [ref_GetNums_is l hb (by omega) _ (by omega)]; unfold gn; rw [h])).mono fun e w' hret => ?_
  obtain ⟨v0, he, hR, hB⟩ := hret
  exact ⟨v0, he, hB⟩
theorem refOpen_none (A : Option Addr) (c : Nat) (l : List Int) (w : World) (hr : Kd.C (Kd.int .u8) w A l.length l) (hc : l.length ≤ c) (hb : Byt l) (hn : l.length ≤ 1000000) (h : opn l = none) :
    Calls Try.prog 32 #[.slice A l.length c] w fun e w' => e = .returned (.tuple #[.slice none 0 0, .int .i64 0, .int .i64 3]) ∧ Below w.heap.size w w' := by
  refine (refOpen_calls A c l w hr hc hb hn).mono fun e w' hret => ?_
  obtain ⟨hb, h1 | ⟨s, k, A', c', h1, -⟩⟩ := hret
  · exact ⟨h1.2, hb⟩
  · rw [h] at h1; cases h1
theorem refOpen_some (A : Option Addr) (c : Nat) (l : List Int) (w : World) (hr : Kd.C (Kd.int .u8) w A l.length l) (hc : l.length ≤ c) (hb : Byt l) (hn : l.length ≤ 1000000) {s : List Int} {k : Nat} (h : opn l = some (s, k)) :
    Calls Try.prog 32 #[.slice A l.length c] w fun e w' => ∃ (A1 : Option Addr) (c1 : Nat), e = .returned (.tuple #[.slice A1 s.length c1, .int .i64 (k : Int), .int .i64 0]) ∧ Kd.C (Kd.int .u8) w' A1 s.length s ∧ s.length ≤ c1 ∧ Below w.heap.size w w' := by
  refine (refOpen_calls A c l w hr hc hb hn).mono fun e w' hret => ?_
  obtain ⟨hb, h1 | ⟨s', k', A', c', h1, h2, h3, h4⟩⟩ := hret
  · rw [h] at h1; cases h1.1
  · rw [h] at h1
    simp only [Option.some.injEq, Prod.mk.injEq] at h1
    obtain ⟨rfl, rfl⟩ := h1
    exact ⟨A', c', h2, h3, h4, hb⟩
set_option maxHeartbeats 16000000 in
set_option maxRecDepth 100000 in
theorem refParse_calls (A : Option Addr) (c : Nat) (l : List Int) (w : World) (hr : Kd.C (Kd.int .u8) w A l.length l) (hc : l.length ≤ c) (hb : Byt l) (hn : l.length ≤ 1000000) :
    Calls Try.prog 17 #[.slice A l.length c] w fun e w' => ParseRet w (parse l) e w' := by
  have HR := Aside0.mk hr
  have HC := Aside0.mk hc
  have HY := Aside0.mk hb
  have HN6 := Aside0.mk hn
  have HB := Aside0.mk (Below.refl w.heap.size w)
  cases ho : opn l with
  | none =>
    have HO1 := Aside0.mk ho
    have HF := Aside0.mk (parse_no ho)
    clear ho hr hc hb hn
    go_enter Try.func17, Try.ntmps17
    go_wp2_with (first | ((with_reducible refine gate_callee (f := 32) rfl ?_); refine goesL_ (some 15) rfl rfl Try.func32 (by kernel_rfl) rfl #[.slice A l.length c] rfl (by (try simp only [List.map_toArray, List.map_cons, List.map_nil]); first | done | rfl | (simp only [List.length_drop, List.length_take]; rfl)) ?_; (with_reducible refine (refOpen_none _ _ _ _ HR.out HC.out HY.out HN6.out HO1.out).mono ?_); rintro e w1 ⟨rfl, hb⟩; refine ⟨_, rfl, ?_⟩; have m1_ := Aside0.mk (below_step (by repeat (first | (with_reducible first | exact HB.out | apply below_alloc | apply pw_below_drewN | apply below_drew1) | exact HB.out)) hb); clear HB; have HB := m1_; clear m1_; clear hb))
    go_ret2
    exact parseRet_none HF.out rfl (by repeat (first | (with_reducible first | exact HB.out | apply below_alloc | apply pw_below_drewN | apply below_drew1) | exact HB.out))
  | some p =>
    obtain ⟨s, u⟩ := p
    have HO1 := Aside0.mk ho
    have hs := opn_byt hb ho
    have hl1 : (l.length : Int) ≤ 1000000 := by omega
    have hu1 : (u : Int) ≤ (l.length : Int) := by omega
    by_cases hu : u = l.length
    · subst hu
      have HYs := Aside0.mk hs.1
      have HNs : Aside0 (s.length ≤ 1000000) := ⟨by omega⟩
      have hs1 : (s.length : Int) ≤ 1000000 := by omega
      cases hg : getNums s with
      | none =>
        have HG := Aside0.mk hg
        have HF := Aside0.mk (parse_nonum ho hg)
        clear ho hr hc hb hn hs hg hu1
        go_enter Try.func17, Try.ntmps17
        go_wp2_with (first | ((with_reducible refine gate_callee (f := 32) rfl ?_); refine goesL_ (some 15) rfl rfl Try.func32 (by kernel_rfl) rfl #[.slice A l.length c] rfl (by (try simp only [List.map_toArray, List.map_cons, List.map_nil]); first | done | rfl | (simp only [List.length_drop, List.length_take]; rfl)) ?_; (with_reducible refine (refOpen_some _ _ _ _ HR.out HC.out HY.out HN6.out HO1.out).mono ?_); rintro e w1 ⟨A1, c1, rfl, hC1, hc1, hb⟩; refine ⟨_, rfl, ?_⟩; have m1_ := Aside0.mk (below_step (by repeat (first | (with_reducible first | exact HB.out | apply below_alloc | apply pw_below_drewN | apply below_drew1) | exact HB.out)) hb); clear HB; have HB := m1_; clear m1_; clear hb; have HC1 := Aside0.mk hC1; have Hc1 := Aside0.mk hc1; clear hC1 hc1) | ((with_reducible refine gate_callee (f := 33) rfl ?_); refine goesL_ (some 29) rfl rfl Try.func33 (by kernel_rfl) rfl #[.slice A1 s.length c1] rfl (by (try simp only [List.map_toArray, List.map_cons, List.map_nil]); first | done | rfl | (simp only [List.length_drop, List.length_take]; rfl)) ?_; (with_reducible refine (refGetNums_none _ _ s _ HC1.out Hc1.out HYs.out HNs.out HG.out).mono ?_); rintro e w2 ⟨v2, rfl, hb⟩; refine ⟨_, rfl, ?_⟩; have m1_ := Aside0.mk (below_step (by repeat (first | (with_reducible first | exact HB.out | apply below_alloc | apply pw_below_drewN | apply below_drew1) | exact HB.out)) hb); clear HB; have HB := m1_; clear m1_; clear hb))
        go_ret2
        exact parseRet_none HF.out rfl (by repeat (first | (with_reducible first | exact HB.out | apply below_alloc | apply pw_below_drewN | apply below_drew1) | exact HB.out))
      | some p =>
        obtain ⟨x, v⟩ := p
        have HG := Aside0.mk hg
        have hx := getNums_long hg
        have hx1 : (x.length : Int) ≤ 1000000 := by omega
        have hv1 : (v : Int) ≤ (s.length : Int) := by omega
        by_cases hv : v = s.length
        · subst hv
          by_cases hm : x.length % 8 = 0
          · have hm1 : ((x.length : Int) % 8 == 0) = true := beq_iff_eq.mpr (by omega)
            have hm2 : ((x.length : Int) % 8 != 0) = false := bne_eq_false_iff_eq.mpr (by omega)
            have HF := Aside0.mk (parse_at ho hg ⟨rfl, hm⟩)
            have HM := Aside0.mk hm
            have HX : Aside0 (x.length ≤ 1000000) := ⟨by omega⟩
            clear ho hr hc hb hn hs hg hu1 hx hv1 hm
            go_enter Try.func17, Try.ntmps17
            go_wp2_with (first | ((with_reducible refine gate_callee (f := 32) rfl ?_); refine goesL_ (some 15) rfl rfl Try.func32 (by kernel_rfl) rfl #[.slice A l.length c] rfl (by (try simp only [List.map_toArray, List.map_cons, List.map_nil]); first | done | rfl | (simp only [List.length_drop, List.length_take]; rfl)) ?_; (with_reducible refine (refOpen_some _ _ _ _ HR.out HC.out HY.out HN6.out HO1.out).mono ?_); rintro e w1 ⟨A1, c1, rfl, hC1, hc1, hb⟩; refine ⟨_, rfl, ?_⟩; have m1_ := Aside0.mk (below_step (by repeat (first | (with_reducible first | exact HB.out | apply below_alloc | apply pw_below_drewN | apply below_drew1) | exact HB.out)) hb); clear HB; have HB := m1_; clear m1_; clear hb; have HC1 := Aside0.mk hC1; have Hc1 := Aside0.mk hc1; clear hC1 hc1) | ((with_reducible refine gate_callee (f := 33) rfl ?_); refine goesL_ (some 29) rfl rfl Try.func33 (by kernel_rfl) rfl #[.slice A1 s.length c1] rfl (by (try simp only [List.map_toArray, List.map_cons, List.map_nil]); first | done | rfl | (simp only [List.length_drop, List.length_take]; rfl)) ?_; (with_reducible refine (refGetNums_some _ _ s _ HC1.out Hc1.out HYs.out HNs.out HG.out).mono ?_); rintro e w2 ⟨A2, c2, rfl, hC2, hc2, hb⟩; refine ⟨_, rfl, ?_⟩; have m1_ := Aside0.mk (below_step (by repeat (first | (with_reducible first | exact HB.out | apply below_alloc | apply pw_below_drewN | apply below_drew1) | exact HB.out)) hb); clear HB; have HB := m1_; clear m1_; clear hb; have HC2 := Aside0.mk hC2; have Hc2 := Aside0.mk hc2; clear hC2 hc2))
            go_loopg [10, 11] (x.length / 8 + 1) (fun kq v10 v11 w' => ∃ (j : Nat) (acc : List S48), v11 = .int .i64 (j : Int) ∧ (j : Int) ≤ (x.length : Int) ∧ Aside0 (8 * acc.length = j) ∧ Aside0 (kq + acc.length = x.length / 8 + 1) ∧
              Aside0 (parse l = (evs ((x.drop j).length / 8) (x.drop j)).map fun z => acc ++ z) ∧ Aside0 (Kd.R k48 48 w' w2.heap.size (fun _ => True) v10 acc) ∧ Aside0 (Below w2.heap.size w2 w'))
            case atStart =>
              exact ⟨0, [], rfl, by omega, ⟨rfl⟩, ⟨rfl⟩, ⟨by rw [HF.out]; simp⟩, ⟨Kd.R_nil _ _ _ _ _⟩, ⟨Below.refl _ _⟩⟩
            case round =>
              obtain ⟨j, acc, rfl, hj, HJ, HK, HP, HO, HB3⟩ := hrel
              obtain ⟨j7, hj7⟩ : ∃ j7 : Nat, (j : Int) + 7 = (j7 : Int) := ⟨j + 7, by omega⟩
              by_cases h0 : (j7 : Int) < (x.length : Int)
              · have hyl : 8 ≤ (x.drop j).length := by rw [List.length_drop]; omega
                obtain ⟨a, b, c', d, e, f, g, q, r, hy⟩ := ex8 hyl
                obtain ⟨j1, hj1⟩ : ∃ j1 : Nat, (j : Int) + 1 = (j1 : Int) := ⟨j + 1, by omega⟩
                obtain ⟨j2, hj2⟩ : ∃ j2 : Nat, (j : Int) + 2 = (j2 : Int) := ⟨j + 2, by omega⟩
                obtain ⟨j3, hj3⟩ : ∃ j3 : Nat, (j : Int) + 3 = (j3 : Int) := ⟨j + 3, by omega⟩
                obtain ⟨j4, hj4⟩ : ∃ j4 : Nat, (j : Int) + 4 = (j4 : Int) := ⟨j + 4, by omega⟩
                obtain ⟨j5, hj5⟩ : ∃ j5 : Nat, (j : Int) + 5 = (j5 : Int) := ⟨j + 5, by omega⟩
                obtain ⟨j6, hj6⟩ : ∃ j6 : Nat, (j : Int) + 6 = (j6 : Int) := ⟨j + 6, by omega⟩
                have b0 : (j : Int) < (x.length : Int) := by omega
                have b1 : (j1 : Int) < (x.length : Int) := by omega
                have b2 : (j2 : Int) < (x.length : Int) := by omega
                have b3 : (j3 : Int) < (x.length : Int) := by omega
                have b4 : (j4 : Int) < (x.length : Int) := by omega
                have b5 : (j5 : Int) < (x.length : Int) := by omega
                have b6 : (j6 : Int) < (x.length : Int) := by omega
                obtain ⟨ad, ea, -⟩ := Kd.at_int HC2.out (j : Int) (by omega) b0
                subst ea
                have x0 := fun (W : World) (hW : Below w2.heap.size w2 W) => cell_at (k := 0) HC2.out hW hy (by omega) b0 rfl
                have x1 := fun (W : World) (hW : Below w2.heap.size w2 W) => cell_at (k := 1) HC2.out hW hy hj1 b1 rfl
                have x2 := fun (W : World) (hW : Below w2.heap.size w2 W) => cell_at (k := 2) HC2.out hW hy hj2 b2 rfl
                have x3 := fun (W : World) (hW : Below w2.heap.size w2 W) => cell_at (k := 3) HC2.out hW hy hj3 b3 rfl
                have x4 := fun (W : World) (hW : Below w2.heap.size w2 W) => cell_at (k := 4) HC2.out hW hy hj4 b4 rfl
                have x5 := fun (W : World) (hW : Below w2.heap.size w2 W) => cell_at (k := 5) HC2.out hW hy hj5 b5 rfl
                have x6 := fun (W : World) (hW : Below w2.heap.size w2 W) => cell_at (k := 6) HC2.out hW hy hj6 b6 rfl
                have x7 := fun (W : World) (hW : Below w2.heap.size w2 W) => cell_at (k := 7) HC2.out hW hy hj7 h0 rfl
                have y2 := x2 _ HB3.out
                have y3 := x3 _ HB3.out
                have y4 := x4 _ HB3.out
                have y5 := x5 _ HB3.out
                have y7 := x7 _ HB3.out
                have z2 := x2 (wr.alloc (.cells #[.int .i64 0, .int .i64 0, .int .i64 0, .int .i64 0] 44)).drew (below_drew (below_alloc HB3.out _))
                have z3 := x3 (wr.alloc (.cells #[.int .i64 0, .int .i64 0, .int .i64 0, .int .i64 0] 44)).drew (below_drew (below_alloc HB3.out _))
                have z4 := x4 (wr.alloc (.cells #[.int .i64 0, .int .i64 0, .int .i64 0, .int .i64 0] 44)).drew (below_drew (below_alloc HB3.out _))
                have z5 := x5 (wr.alloc (.cells #[.int .i64 0, .int .i64 0, .int .i64 0, .int .i64 0] 44)).drew (below_drew (below_alloc HB3.out _))
                have X0 := Aside0.mk x0
                have X1 := Aside0.mk x1
                have X6 := Aside0.mk x6
                have X7 := Aside0.mk x7
                have HY := Aside0.mk hy
                clear x0 x1 x2 x3 x4 x5 x6 x7 hyl hy
                by_cases hq0 : q = 0
                · subst hq0
                  go_upto_region 13 with (fail)
                  go_region
                  have t0 := X0.out (wr.alloc (.cells #[.int .i64 c', .int .i64 d, .int .i64 e, .int .i64 f] 44)).drew (below_drew (below_alloc HB3.out _))
                  have s0 := X0.out (wr.alloc (.cells #[.int .i64 c', .int .i64 d, .int .i64 e, .int .i64 f] 44)).drew.drew (below_drew (below_drew (below_alloc HB3.out _)))
                  have t1 := X1.out (wr.alloc (.cells #[.int .i64 c', .int .i64 d, .int .i64 e, .int .i64 f] 44)).drew (below_drew (below_alloc HB3.out _))
                  have s1 := X1.out (wr.alloc (.cells #[.int .i64 c', .int .i64 d, .int .i64 e, .int .i64 f] 44)).drew.drew (below_drew (below_drew (below_alloc HB3.out _)))
                  have t6 := X6.out (wr.alloc (.cells #[.int .i64 c', .int .i64 d, .int .i64 e, .int .i64 f] 44)).drew (below_drew (below_alloc HB3.out _))
                  have s6 := X6.out (wr.alloc (.cells #[.int .i64 c', .int .i64 d, .int .i64 e, .int .i64 f] 44)).drew.drew (below_drew (below_drew (below_alloc HB3.out _)))
                  have t7 := X7.out (wr.alloc (.cells #[.int .i64 c', .int .i64 d, .int .i64 e, .int .i64 f] 44)).drew (below_drew (below_alloc HB3.out _))
                  have s7 := X7.out (wr.alloc (.cells #[.int .i64 c', .int .i64 d, .int .i64 e, .int .i64 f] 44)).drew.drew (below_drew (below_drew (below_alloc HB3.out _)))
                  go_upto_region 14 with (fail)
                  have q1 : IntKind.i64.wrap (j1 : Int) = (j1 : Int) := IntWalk.i64_in _ (by omega)
                  have q6 : IntKind.i64.wrap (j6 : Int) = (j6 : Int) := IntWalk.i64_in _ (by omega)
                  have q7 : IntKind.i64.wrap (j7 : Int) = (j7 : Int) := IntWalk.i64_in _ (by omega)
                  have hb0 : ((wr.alloc (.cells #[.int .i64 c', .int .i64 d, .int .i64 e, .int .i64 f] 44)).drew.drew).cell? ⟨wr.heap.size, 0, none⟩ = some (.int .i64 c') := blk_cell wr _ 0 _ rfl
                  have hb1 : ((wr.alloc (.cells #[.int .i64 c', .int .i64 d, .int .i64 e, .int .i64 f] 44)).drew.drew).cell? ⟨wr.heap.size, 1, none⟩ = some (.int .i64 d) := blk_cell wr _ 1 _ rfl
                  have hb2 : ((wr.alloc (.cells #[.int .i64 c', .int .i64 d, .int .i64 e, .int .i64 f] 44)).drew.drew).cell? ⟨wr.heap.size, 2, none⟩ = some (.int .i64 e) := blk_cell wr _ 2 _ rfl
                  have hb3 : ((wr.alloc (.cells #[.int .i64 c', .int .i64 d, .int .i64 e, .int .i64 f] 44)).drew.drew).cell? ⟨wr.heap.size, 3, none⟩ = some (.int .i64 f) := blk_cell wr _ 3 _ rfl
                  refine start_ (n := 27) (S := fun w' => w'.cell? (ad.add j) = some (.int .i64 a) ∧ w'.cell? (ad.add j1) = some (.int .i64 b) ∧ w'.cell? (ad.add j6) = some (.int .i64 g) ∧ w'.cell? (ad.add j7) = some (.int .i64 0) ∧ w'.cell? ⟨wr.heap.size, 0, none⟩ = some (.int .i64 c') ∧ w'.cell? ⟨wr.heap.size, 1, none⟩ = some (.int .i64 d) ∧ w'.cell? ⟨wr.heap.size, 2, none⟩ = some (.int .i64 e) ∧ w'.cell? ⟨wr.heap.size, 3, none⟩ = some (.int .i64 f)) (ds := [24, 25]) #[false, false, false, false, false, false, false, false, false, false, false, false, false, false, false, false, false, false, false, false, false, false, false, false, false, false, false] (by kernel_rfl) rfl rfl ⟨s0, s1, s6, s7, hb0, hb1, hb2, hb3⟩ (fun hHeld => ?_)
                  refine pure_ (i := 0) (N := some 89) (v := ?_) (a' := ?_) #[true, false, false, false, false, false, false, false, false, false, false, false, false, false, false, false, false, false, false, false, false, false, false, false, false, false, false] rfl rfl (by kernel_rfl) (fun _ _ _ h => h) (Or.inl ⟨by rfl, ?_⟩) ?_ ?_
                  rotate_left
                  · intro w'
                    go_simp
                    with_reducible rfl
                  rotate_left
                  · simp only [Act.put, List.setIfInBounds_toArray, List.set_cons_zero, List.set_cons_succ, i64_w, i32_w]
                    rfl
                  refine pure_ (i := 1) (N := some 90) (v := ?_) (a' := ?_) #[true, true, false, false, false, false, false, false, false, false, false, false, false, false, false, false, false, false, false, false, false, false, false, false, false, false, false] rfl rfl (by kernel_rfl) (fun _ _ _ h => h) (Or.inl ⟨by rfl, ?_⟩) ?_ ?_
                  rotate_left
                  · intro w'
                    go_simp
                    with_reducible rfl
                  rotate_left
                  · simp only [Act.put, List.setIfInBounds_toArray, List.set_cons_zero, List.set_cons_succ, i64_w, i32_w]
                    rfl
                  refine pure_ (i := 2) (N := some 91) (v := ?_) (a' := ?_) #[true, true, true, false, false, false, false, false, false, false, false, false, false, false, false, false, false, false, false, false, false, false, false, false, false, false, false] rfl rfl (by kernel_rfl) (fun _ _ _ h => h) (Or.inl ⟨by rfl, ?_⟩) ?_ ?_
                  rotate_left
                  · intro w'
                    go_simp
                    with_reducible rfl
                  rotate_left
                  · simp only [Act.put, List.setIfInBounds_toArray, List.set_cons_zero, List.set_cons_succ, i64_w, i32_w]
                    rfl
                  refine pure_ (i := 3) (N := some 92) (v := ?_) (a' := ?_) #[true, true, true, true, false, false, false, false, false, false, false, false, false, false, false, false, false, false, false, false, false, false, false, false, false, false, false] rfl rfl (by kernel_rfl) (fun _ _ _ h => h) (Or.inl ⟨by rfl, ?_⟩) ?_ ?_
                  rotate_left
                  · intro w'
                    go_simp
                    with_reducible rfl
                  rotate_left
                  · simp only [Act.put, List.setIfInBounds_toArray, List.set_cons_zero, List.set_cons_succ, i64_w, i32_w]
                    rfl
                  refine pure_ (i := 5) (N := some 94) (v := ?_) (a' := ?_) #[true, true, true, true, false, true, false, false, false, false, false, false, false, false, false, false, false, false, false, false, false, false, false, false, false, false, false] rfl rfl (by kernel_rfl) (fun _ _ _ h => h) (Or.inl ⟨by rfl, ?_⟩) ?_ ?_
                  rotate_left
                  · intro w'
                    go_simp
                    with_reducible rfl
                  rotate_left
                  · simp only [Act.put, List.setIfInBounds_toArray, List.set_cons_zero, List.set_cons_succ, i64_w, i32_w]
                    rfl
                  refine pure_ (i := 6) (N := some 95) (v := ?_) (a' := ?_) #[true, true, true, true, false, true, true, false, false, false, false, false, false, false, false, false, false, false, false, false, false, false, false, false, false, false, false] rfl rfl (by kernel_rfl) (fun _ _ _ h => h) (Or.inl ⟨by rfl, ?_⟩) ?_ ?_
                  rotate_left
                  · intro w'
                    go_simp
                    with_reducible rfl
                  rotate_left
                  · simp only [Act.put, List.setIfInBounds_toArray, List.set_cons_zero, List.set_cons_succ, i64_w, i32_w]
                    rfl
                  refine pure_ (i := 7) (N := some 96) (v := ?_) (a' := ?_) #[true, true, true, true, false, true, true, true, false, false, false, false, false, false, false, false, false, false, false, false, false, false, false, false, false, false, false] rfl rfl (by kernel_rfl) (fun _ _ _ h => h) (Or.inl ⟨by rfl, ?_⟩) ?_ ?_
                  rotate_left
                  · intro w'
                    go_simp
                    with_reducible rfl
                  rotate_left
                  · simp only [Act.put, List.setIfInBounds_toArray, List.set_cons_zero, List.set_cons_succ, i64_w, i32_w]
                    rfl
                  refine pure_ (i := 8) (N := some 97) (v := ?_) (a' := ?_) #[true, true, true, true, false, true, true, true, true, false, false, false, false, false, false, false, false, false, false, false, false, false, false, false, false, false, false] rfl rfl (by kernel_rfl) (fun _ _ _ h => h) (Or.inl ⟨by rfl, ?_⟩) ?_ ?_
                  rotate_left
                  · intro w'
                    go_simp
                    with_reducible rfl
                  rotate_left
                  · simp only [Act.put, List.setIfInBounds_toArray, List.set_cons_zero, List.set_cons_succ, i64_w, i32_w]
                    rfl
                  refine pure_ (i := 11) (N := some 100) (v := ?_) (a' := ?_) #[true, true, true, true, false, true, true, true, true, false, false, true, false, false, false, false, false, false, false, false, false, false, false, false, false, false, false] rfl rfl (by kernel_rfl) (fun _ _ _ h => h) (Or.inl ⟨by rfl, ?_⟩) ?_ ?_
                  rotate_left
                  · intro w'
                    go_simp
                    with_reducible rfl
                  rotate_left
                  · simp only [Act.put, List.setIfInBounds_toArray, List.set_cons_zero, List.set_cons_succ, i64_w, i32_w]
                    rfl
                  refine pure_ (i := 12) (N := some 101) (v := ?_) (a' := ?_) #[true, true, true, true, false, true, true, true, true, false, false, true, true, false, false, false, false, false, false, false, false, false, false, false, false, false, false] rfl rfl (by kernel_rfl) (fun _ _ _ h => h) (Or.inl ⟨by rfl, ?_⟩) ?_ ?_
                  rotate_left
                  · intro w'
                    go_simp
                    with_reducible rfl
                  rotate_left
                  · simp only [Act.put, List.setIfInBounds_toArray, List.set_cons_zero, List.set_cons_succ, i64_w, i32_w]
                    rfl
                  refine pure_ (i := 13) (N := some 102) (v := ?_) (a' := ?_) #[true, true, true, true, false, true, true, true, true, false, false, true, true, true, false, false, false, false, false, false, false, false, false, false, false, false, false] rfl rfl (by kernel_rfl) (fun _ _ _ h => h) (Or.inl ⟨by rfl, ?_⟩) ?_ ?_
                  rotate_left
                  · intro w'
                    go_simp
                    with_reducible rfl
                  rotate_left
                  · simp only [Act.put, List.setIfInBounds_toArray, List.set_cons_zero, List.set_cons_succ, i64_w, i32_w]
                    rfl
                  refine pure_ (i := 14) (N := some 103) (v := ?_) (a' := ?_) #[true, true, true, true, false, true, true, true, true, false, false, true, true, true, true, false, false, false, false, false, false, false, false, false, false, false, false] rfl rfl (by kernel_rfl) (fun _ _ _ h => h) (Or.inl ⟨by rfl, ?_⟩) ?_ ?_
                  rotate_left
                  · intro w'
                    go_simp
                    with_reducible rfl
                  rotate_left
                  · simp only [Act.put, List.setIfInBounds_toArray, List.set_cons_zero, List.set_cons_succ, i64_w, i32_w]
                    rfl
                  refine pure_ (i := 16) (N := some 105) (v := ?_) (a' := ?_) #[true, true, true, true, false, true, true, true, true, false, false, true, true, true, true, false, true, false, false, false, false, false, false, false, false, false, false] rfl rfl (by kernel_rfl) (fun _ _ _ h => h) (Or.inl ⟨by rfl, ?_⟩) ?_ ?_
                  rotate_left
                  · intro w'
                    go_simp
                    with_reducible rfl
                  rotate_left
                  · simp only [Act.put, List.setIfInBounds_toArray, List.set_cons_zero, List.set_cons_succ, i64_w, i32_w]
                    rfl
                  refine pure_ (i := 17) (N := some 106) (v := ?_) (a' := ?_) #[true, true, true, true, false, true, true, true, true, false, false, true, true, true, true, false, true, true, false, false, false, false, false, false, false, false, false] rfl rfl (by kernel_rfl) (fun _ _ _ h => h) (Or.inl ⟨by rfl, ?_⟩) ?_ ?_
                  rotate_left
                  · intro w'
                    go_simp
                    with_reducible rfl
                  rotate_left
                  · simp only [Act.put, List.setIfInBounds_toArray, List.set_cons_zero, List.set_cons_succ, i64_w, i32_w]
                    rfl
                  refine pure_ (i := 18) (N := some 107) (v := ?_) (a' := ?_) #[true, true, true, true, false, true, true, true, true, false, false, true, true, true, true, false, true, true, true, false, false, false, false, false, false, false, false] rfl rfl (by kernel_rfl) (fun _ _ _ h => h) (Or.inl ⟨by rfl, ?_⟩) ?_ ?_
                  rotate_left
                  · intro w'
                    go_simp
                    with_reducible rfl
                  rotate_left
                  · simp only [Act.put, List.setIfInBounds_toArray, List.set_cons_zero, List.set_cons_succ, i64_w, i32_w]
                    rfl
                  refine pure_ (i := 19) (N := some 108) (v := ?_) (a' := ?_) #[true, true, true, true, false, true, true, true, true, false, false, true, true, true, true, false, true, true, true, true, false, false, false, false, false, false, false] rfl rfl (by kernel_rfl) (fun _ _ _ h => h) (Or.inl ⟨by rfl, ?_⟩) ?_ ?_
                  rotate_left
                  · intro w'
                    go_simp
                    with_reducible rfl
                  rotate_left
                  · simp only [Act.put, List.setIfInBounds_toArray, List.set_cons_zero, List.set_cons_succ, i64_w, i32_w]
                    rfl
                  refine take_ (i := 4) (N := some 93) (v := ?_) (a' := ?_) #[true, true, true, true, true, true, true, true, true, false, false, true, true, true, true, false, true, true, true, true, false, false, false, false, false, false, false] rfl rfl (by kernel_rfl) (fun _ _ _ h => h) (Or.inl ⟨by rfl, ?_⟩) hHeld ?_ ?_
                  rotate_left
                  · rintro w' ⟨s0, s1, s2, s3, s4, s5, s6, s7⟩
                    go_simp
                    with_reducible rfl
                  rotate_left
                  · simp only [Act.put, List.setIfInBounds_toArray, List.set_cons_zero, List.set_cons_succ, i64_w, i32_w]
                    rfl
                  refine take_ (i := 9) (N := some 98) (v := ?_) (a' := ?_) #[true, true, true, true, true, true, true, true, true, true, false, true, true, true, true, false, true, true, true, true, false, false, false, false, false, false, false] rfl rfl (by kernel_rfl) (fun _ _ _ h => h) (Or.inl ⟨by rfl, ?_⟩) hHeld ?_ ?_
                  rotate_left
                  · rintro w' ⟨s0, s1, s2, s3, s4, s5, s6, s7⟩
                    go_simp
                    with_reducible rfl
                  rotate_left
                  · simp only [Act.put, List.setIfInBounds_toArray, List.set_cons_zero, List.set_cons_succ, i64_w, i32_w]
                    rfl
                  refine take_ (i := 10) (N := some 99) (v := ?_) (a' := ?_) #[true, true, true, true, true, true, true, true, true, true, true, true, true, true, true, false, true, true, true, true, false, false, false, false, false, false, false] rfl rfl (by kernel_rfl) (fun _ _ _ h => h) (Or.inl ⟨by rfl, ?_⟩) hHeld ?_ ?_
                  rotate_left
                  · rintro w' ⟨s0, s1, s2, s3, s4, s5, s6, s7⟩
                    go_simp
                    with_reducible rfl
                  rotate_left
                  · simp only [Act.put, List.setIfInBounds_toArray, List.set_cons_zero, List.set_cons_succ, i64_w, i32_w]
                    rfl
                  refine take_ (i := 15) (N := some 104) (v := ?_) (a' := ?_) #[true, true, true, true, true, true, true, true, true, true, true, true, true, true, true, true, true, true, true, true, false, false, false, false, false, false, false] rfl rfl (by kernel_rfl) (fun _ _ _ h => h) (Or.inl ⟨by rfl, ?_⟩) hHeld ?_ ?_
                  rotate_left
                  · rintro w' ⟨s0, s1, s2, s3, s4, s5, s6, s7⟩
                    go_simp
                    with_reducible rfl
                  rotate_left
                  · simp only [Act.put, List.setIfInBounds_toArray, List.set_cons_zero, List.set_cons_succ, i64_w, i32_w]
                    rfl
                  refine take_ (i := 20) (N := some 109) (v := ?_) (a' := ?_) #[true, true, true, true, true, true, true, true, true, true, true, true, true, true, true, true, true, true, true, true, true, false, false, false, false, false, false] rfl rfl (by kernel_rfl) (fun _ _ _ h => h) (Or.inl ⟨by rfl, ?_⟩) hHeld ?_ ?_
                  rotate_left
                  · rintro w' ⟨s0, s1, s2, s3, s4, s5, s6, s7⟩
                    go_simp
                    with_reducible rfl
                  rotate_left
                  · simp only [Act.put, List.setIfInBounds_toArray, List.set_cons_zero, List.set_cons_succ, i64_w, i32_w]
                    rfl
                  refine pure_ (i := 21) (N := some 110) (v := ?_) (a' := ?_) #[true, true, true, true, true, true, true, true, true, true, true, true, true, true, true, true, true, true, true, true, true, true, false, false, false, false, false] rfl rfl (by kernel_rfl) (fun _ _ _ h => h) (Or.inl ⟨by rfl, ?_⟩) ?_ ?_
                  rotate_left
                  · intro w'
                    go_simp
                    with_reducible rfl
                  rotate_left
                  · simp only [Act.put, List.setIfInBounds_toArray, List.set_cons_zero, List.set_cons_succ, i64_w, i32_w]
                    rfl
                  refine pure_ (i := 22) (N := some 111) (v := ?_) (a' := ?_) #[true, true, true, true, true, true, true, true, true, true, true, true, true, true, true, true, true, true, true, true, true, true, true, false, false, false, false] rfl rfl (by kernel_rfl) (fun _ _ _ h => h) (Or.inl ⟨by rfl, ?_⟩) ?_ ?_
                  rotate_left
                  · intro w'
                    go_simp
                    with_reducible rfl
                  rotate_left
                  · simp only [Act.put, List.setIfInBounds_toArray, List.set_cons_zero, List.set_cons_succ, i64_w, i32_w]
                    rfl
                  refine pure_ (i := 23) (N := some 112) (v := ?_) (a' := ?_) #[true, true, true, true, true, true, true, true, true, true, true, true, true, true, true, true, true, true, true, true, true, true, true, true, false, false, false] rfl rfl (by kernel_rfl) (fun _ _ _ h => h) (Or.inl ⟨by rfl, ?_⟩) ?_ ?_
                  rotate_left
                  · intro w'
                    go_simp
                    with_reducible rfl
                  rotate_left
                  · simp only [Act.put, List.setIfInBounds_toArray, List.set_cons_zero, List.set_cons_succ, i64_w, i32_w]
                    rfl
                  refine last_ (i := 24) (N := some 113) #[true, true, true, true, true, true, true, true, true, true, true, true, true, true, true, true, true, true, true, true, true, true, true, true, true, false, false] rfl rfl (by kernel_rfl) (by decide) (fun K hK => ?_)
                  refine value_ (w1 := ?_) (v := ?_) (by rfl) rfl ?_ ?_
                  rotate_left 2
                  · go_simp
                    constructor
                    · rfl
                    · rfl
                  refine hK.out _ _ ?_
                  clear hK K
                  refine norm_ (a' := ?_) ?_ ?_
                  rotate_left
                  · show Act.put _ (some 113) _ = _
                    simp only [Act.put, List.setIfInBounds_toArray, List.set_cons_zero, List.set_cons_succ, i64_w, i32_w]
                    rfl
                  refine last_ (i := 25) (N := some 114) #[true, true, true, true, true, true, true, true, true, true, true, true, true, true, true, true, true, true, true, true, true, true, true, true, true, true, false] rfl rfl (by kernel_rfl) (by decide) (fun K hK => ?_)
                  ((try (rw [drew_out]; rw [drew_out])); refine Kd.R_append_step (k48) (w0 := w2) w2.heap.size ?hw (.tmp 89) (.tmp 113) 22 48 (.agg #[(.int .i64 0), (.int .i64 0), (.int .i64 0), (.int .i64 0), (.int .i64 0), (.int .i64 0), (.int .i64 0), (.bool false)]) 64 ?ho Try.underlying22 info48 rfl (by decide) (by omega) u10 (acc) ((⟨a, b, ⟨c', d, e, f⟩, ⟨g, false⟩⟩ : S48)) [.int .i64 a, .int .i64 b, .int .i64 c', .int .i64 d, .int .i64 e, .int .i64 f, .int .i64 g, .bool false] (fun _ => True) (fun _ => False) ?hs ?hx ?aP (fun _ hk => hk.elim) ?aF ?aO ?aB ?aS ?aL ?_; (case hw => rfl); (case ho => rfl); (case hs => rfl); (case hx => (try rw [size_ad]); rfl); (case aP => exact k48_mkM _ _ _ (⟨a, b, ⟨c', d, e, f⟩, ⟨g, false⟩⟩ : S48)); (case aB => exact (by repeat (first | (with_reducible first | exact HB3.out | apply below_alloc | apply pw_below_drewN | apply below_drew1 | apply below_drew) | exact HB3.out))); (case aF => exact (fun _ _ => trivial)); (case aO => exact (by (with_reducible repeat (first | apply Kd.R_alloc | apply Kd.R_drewN | apply Kd.R_drew)); exact HO.out)); (case aS => exact (below_size (by repeat (first | (with_reducible first | exact HB3.out | apply below_alloc | apply pw_below_drewN | apply below_drew1 | apply below_drew) | exact HB3.out)))); (case aL => have := HJ.out; omega); intro v5 w5 ho hb hg hat; have n0_ := Aside0.mk (hb); have n1_ := Aside0.mk (ho); clear HB3; clear HO; have HB3 := n0_; have HO := n1_; clear n0_ n1_; clear ho hb hg hat)
                  refine hK.out _ _ ?_
                  clear hK K
                  refine norm_ (a' := ?_) ?_ ?_
                  rotate_left
                  · show Act.put _ (some 114) _ = _
                    simp only [Act.put, List.setIfInBounds_toArray, List.set_cons_zero, List.set_cons_succ, i64_w, i32_w]
                    rfl
                  refine pure_ (i := 26) (N := some 10) (v := ?_) (a' := ?_) #[true, true, true, true, true, true, true, true, true, true, true, true, true, true, true, true, true, true, true, true, true, true, true, true, true, true, true] rfl rfl (by kernel_rfl) (fun _ _ _ h => h) (Or.inl ⟨by rfl, ?_⟩) ?_ ?_
                  rotate_left
                  · intro w'
                    go_simp
                    with_reducible rfl
                  rotate_left
                  · simp only [Act.put, List.setIfInBounds_toArray, List.set_cons_zero, List.set_cons_succ, i64_w, i32_w]
                    rfl
                  refine done_ (by kernel_rfl) ?_
                  go_wp2
                  go_roundg (gk - 1)
                  case measure => have := HK.out; have := HJ.out; omega
                  case rel =>
                    have hy := HY.out
                    have hP := HP.out
                    have hl8 := congrArg List.length hy
                    simp only [List.length_cons, List.length_drop] at hl8
                    have hr : x.drop (j + 8) = r := by rw [← List.drop_drop, hy]; rfl
                    have hk8 : (x.drop j).length / 8 = r.length / 8 + 1 := by rw [hy]; simp only [List.length_cons]; omega
                    rw [hk8, hy] at hP
                    have hst := evs_step (x := []) (acc := acc) hP (.inl rfl)
                    have hK := HK.out
                    have hJ := HJ.out
                    exact ⟨j + 8, acc ++ [(⟨a, b, ⟨c', d, e, f⟩, ⟨g, false⟩⟩ : S48)], rfl, by omega, ⟨by simp; omega⟩, ⟨by simp; omega⟩, ⟨by rw [hr]; exact hst⟩, HO, HB3⟩
                · by_cases hq1 : q = 1
                  · subst hq1
                    go_upto_region 13 with (fail)
                    go_region
                    have t0 := X0.out (wr.alloc (.cells #[.int .i64 c', .int .i64 d, .int .i64 e, .int .i64 f] 44)).drew (below_drew (below_alloc HB3.out _))
                    have s0 := X0.out (wr.alloc (.cells #[.int .i64 c', .int .i64 d, .int .i64 e, .int .i64 f] 44)).drew.drew (below_drew (below_drew (below_alloc HB3.out _)))
                    have t1 := X1.out (wr.alloc (.cells #[.int .i64 c', .int .i64 d, .int .i64 e, .int .i64 f] 44)).drew (below_drew (below_alloc HB3.out _))
                    have s1 := X1.out (wr.alloc (.cells #[.int .i64 c', .int .i64 d, .int .i64 e, .int .i64 f] 44)).drew.drew (below_drew (below_drew (below_alloc HB3.out _)))
                    have t6 := X6.out (wr.alloc (.cells #[.int .i64 c', .int .i64 d, .int .i64 e, .int .i64 f] 44)).drew (below_drew (below_alloc HB3.out _))
                    have s6 := X6.out (wr.alloc (.cells #[.int .i64 c', .int .i64 d, .int .i64 e, .int .i64 f] 44)).drew.drew (below_drew (below_drew (below_alloc HB3.out _)))
                    have t7 := X7.out (wr.alloc (.cells #[.int .i64 c', .int .i64 d, .int .i64 e, .int .i64 f] 44)).drew (below_drew (below_alloc HB3.out _))
                    have s7 := X7.out (wr.alloc (.cells #[.int .i64 c', .int .i64 d, .int .i64 e, .int .i64 f] 44)).drew.drew (below_drew (below_drew (below_alloc HB3.out _)))
                    go_upto_region 14 with (fail)
                    have q1 : IntKind.i64.wrap (j1 : Int) = (j1 : Int) := IntWalk.i64_in _ (by omega)
                    have q6 : IntKind.i64.wrap (j6 : Int) = (j6 : Int) := IntWalk.i64_in _ (by omega)
                    have q7 : IntKind.i64.wrap (j7 : Int) = (j7 : Int) := IntWalk.i64_in _ (by omega)
                    have hb0 : ((wr.alloc (.cells #[.int .i64 c', .int .i64 d, .int .i64 e, .int .i64 f] 44)).drew.drew).cell? ⟨wr.heap.size, 0, none⟩ = some (.int .i64 c') := blk_cell wr _ 0 _ rfl
                    have hb1 : ((wr.alloc (.cells #[.int .i64 c', .int .i64 d, .int .i64 e, .int .i64 f] 44)).drew.drew).cell? ⟨wr.heap.size, 1, none⟩ = some (.int .i64 d) := blk_cell wr _ 1 _ rfl
                    have hb2 : ((wr.alloc (.cells #[.int .i64 c', .int .i64 d, .int .i64 e, .int .i64 f] 44)).drew.drew).cell? ⟨wr.heap.size, 2, none⟩ = some (.int .i64 e) := blk_cell wr _ 2 _ rfl
                    have hb3 : ((wr.alloc (.cells #[.int .i64 c', .int .i64 d, .int .i64 e, .int .i64 f] 44)).drew.drew).cell? ⟨wr.heap.size, 3, none⟩ = some (.int .i64 f) := blk_cell wr _ 3 _ rfl
                    refine start_ (n := 27) (S := fun w' => w'.cell? (ad.add j) = some (.int .i64 a) ∧ w'.cell? (ad.add j1) = some (.int .i64 b) ∧ w'.cell? (ad.add j6) = some (.int .i64 g) ∧ w'.cell? (ad.add j7) = some (.int .i64 1) ∧ w'.cell? ⟨wr.heap.size, 0, none⟩ = some (.int .i64 c') ∧ w'.cell? ⟨wr.heap.size, 1, none⟩ = some (.int .i64 d) ∧ w'.cell? ⟨wr.heap.size, 2, none⟩ = some (.int .i64 e) ∧ w'.cell? ⟨wr.heap.size, 3, none⟩ = some (.int .i64 f)) (ds := [24, 25]) #[false, false, false, false, false, false, false, false, false, false, false, false, false, false, false, false, false, false, false, false, false, false, false, false, false, false, false] (by kernel_rfl) rfl rfl ⟨s0, s1, s6, s7, hb0, hb1, hb2, hb3⟩ (fun hHeld => ?_)
                    refine pure_ (i := 0) (N := some 89) (v := ?_) (a' := ?_) #[true, false, false, false, false, false, false, false, false, false, false, false, false, false, false, false, false, false, false, false, false, false, false, false, false, false, false] rfl rfl (by kernel_rfl) (fun _ _ _ h => h) (Or.inl ⟨by rfl, ?_⟩) ?_ ?_
                    rotate_left
                    · intro w'
                      go_simp
                      with_reducible rfl
                    rotate_left
                    · simp only [Act.put, List.setIfInBounds_toArray, List.set_cons_zero, List.set_cons_succ, i64_w, i32_w]
                      rfl
                    refine pure_ (i := 1) (N := some 90) (v := ?_) (a' := ?_) #[true, true, false, false, false, false, false, false, false, false, false, false, false, false, false, false, false, false, false, false, false, false, false, false, false, false, false] rfl rfl (by kernel_rfl) (fun _ _ _ h => h) (Or.inl ⟨by rfl, ?_⟩) ?_ ?_
                    rotate_left
                    · intro w'
                      go_simp
                      with_reducible rfl
                    rotate_left
                    · simp only [Act.put, List.setIfInBounds_toArray, List.set_cons_zero, List.set_cons_succ, i64_w, i32_w]
                      rfl
                    refine pure_ (i := 2) (N := some 91) (v := ?_) (a' := ?_) #[true, true, true, false, false, false, false, false, false, false, false, false, false, false, false, false, false, false, false, false, false, false, false, false, false, false, false] rfl rfl (by kernel_rfl) (fun _ _ _ h => h) (Or.inl ⟨by rfl, ?_⟩) ?_ ?_
                    rotate_left
                    · intro w'
                      go_simp
                      with_reducible rfl
                    rotate_left
                    · simp only [Act.put, List.setIfInBounds_toArray, List.set_cons_zero, List.set_cons_succ, i64_w, i32_w]
                      rfl
                    refine pure_ (i := 3) (N := some 92) (v := ?_) (a' := ?_) #[true, true, true, true, false, false, false, false, false, false, false, false, false, false, false, false, false, false, false, false, false, false, false, false, false, false, false] rfl rfl (by kernel_rfl) (fun _ _ _ h => h) (Or.inl ⟨by rfl, ?_⟩) ?_ ?_
                    rotate_left
                    · intro w'
                      go_simp
                      with_reducible rfl
                    rotate_left
                    · simp only [Act.put, List.setIfInBounds_toArray, List.set_cons_zero, List.set_cons_succ, i64_w, i32_w]
                      rfl
                    refine pure_ (i := 5) (N := some 94) (v := ?_) (a' := ?_) #[true, true, true, true, false, true, false, false, false, false, false, false, false, false, false, false, false, false, false, false, false, false, false, false, false, false, false] rfl rfl (by kernel_rfl) (fun _ _ _ h => h) (Or.inl ⟨by rfl, ?_⟩) ?_ ?_
                    rotate_left
                    · intro w'
                      go_simp
                      with_reducible rfl
                    rotate_left
                    · simp only [Act.put, List.setIfInBounds_toArray, List.set_cons_zero, List.set_cons_succ, i64_w, i32_w]
                      rfl
                    refine pure_ (i := 6) (N := some 95) (v := ?_) (a' := ?_) #[true, true, true, true, false, true, true, false, false, false, false, false, false, false, false, false, false, false, false, false, false, false, false, false, false, false, false] rfl rfl (by kernel_rfl) (fun _ _ _ h => h) (Or.inl ⟨by rfl, ?_⟩) ?_ ?_
                    rotate_left
                    · intro w'
                      go_simp
                      with_reducible rfl
                    rotate_left
                    · simp only [Act.put, List.setIfInBounds_toArray, List.set_cons_zero, List.set_cons_succ, i64_w, i32_w]
                      rfl
                    refine pure_ (i := 7) (N := some 96) (v := ?_) (a' := ?_) #[true, true, true, true, false, true, true, true, false, false, false, false, false, false, false, false, false, false, false, false, false, false, false, false, false, false, false] rfl rfl (by kernel_rfl) (fun _ _ _ h => h) (Or.inl ⟨by rfl, ?_⟩) ?_ ?_
                    rotate_left
                    · intro w'
                      go_simp
                      with_reducible rfl
                    rotate_left
                    · simp only [Act.put, List.setIfInBounds_toArray, List.set_cons_zero, List.set_cons_succ, i64_w, i32_w]
                      rfl
                    refine pure_ (i := 8) (N := some 97) (v := ?_) (a' := ?_) #[true, true, true, true, false, true, true, true, true, false, false, false, false, false, false, false, false, false, false, false, false, false, false, false, false, false, false] rfl rfl (by kernel_rfl) (fun _ _ _ h => h) (Or.inl ⟨by rfl, ?_⟩) ?_ ?_
                    rotate_left
                    · intro w'
                      go_simp
                      with_reducible rfl
                    rotate_left
                    · simp only [Act.put, List.setIfInBounds_toArray, List.set_cons_zero, List.set_cons_succ, i64_w, i32_w]
                      rfl
                    refine pure_ (i := 11) (N := some 100) (v := ?_) (a' := ?_) #[true, true, true, true, false, true, true, true, true, false, false, true, false, false, false, false, false, false, false, false, false, false, false, false, false, false, false] rfl rfl (by kernel_rfl) (fun _ _ _ h => h) (Or.inl ⟨by rfl, ?_⟩) ?_ ?_
                    rotate_left
                    · intro w'
                      go_simp
                      with_reducible rfl
                    rotate_left
                    · simp only [Act.put, List.setIfInBounds_toArray, List.set_cons_zero, List.set_cons_succ, i64_w, i32_w]
                      rfl
                    refine pure_ (i := 12) (N := some 101) (v := ?_) (a' := ?_) #[true, true, true, true, false, true, true, true, true, false, false, true, true, false, false, false, false, false, false, false, false, false, false, false, false, false, false] rfl rfl (by kernel_rfl) (fun _ _ _ h => h) (Or.inl ⟨by rfl, ?_⟩) ?_ ?_
                    rotate_left
                    · intro w'
                      go_simp
                      with_reducible rfl
                    rotate_left
                    · simp only [Act.put, List.setIfInBounds_toArray, List.set_cons_zero, List.set_cons_succ, i64_w, i32_w]
                      rfl
                    refine pure_ (i := 13) (N := some 102) (v := ?_) (a' := ?_) #[true, true, true, true, false, true, true, true, true, false, false, true, true, true, false, false, false, false, false, false, false, false, false, false, false, false, false] rfl rfl (by kernel_rfl) (fun _ _ _ h => h) (Or.inl ⟨by rfl, ?_⟩) ?_ ?_
                    rotate_left
                    · intro w'
                      go_simp
                      with_reducible rfl
                    rotate_left
                    · simp only [Act.put, List.setIfInBounds_toArray, List.set_cons_zero, List.set_cons_succ, i64_w, i32_w]
                      rfl
                    refine pure_ (i := 14) (N := some 103) (v := ?_) (a' := ?_) #[true, true, true, true, false, true, true, true, true, false, false, true, true, true, true, false, false, false, false, false, false, false, false, false, false, false, false] rfl rfl (by kernel_rfl) (fun _ _ _ h => h) (Or.inl ⟨by rfl, ?_⟩) ?_ ?_
                    rotate_left
                    · intro w'
                      go_simp
                      with_reducible rfl
                    rotate_left
                    · simp only [Act.put, List.setIfInBounds_toArray, List.set_cons_zero, List.set_cons_succ, i64_w, i32_w]
                      rfl
                    refine pure_ (i := 16) (N := some 105) (v := ?_) (a' := ?_) #[true, true, true, true, false, true, true, true, true, false, false, true, true, true, true, false, true, false, false, false, false, false, false, false, false, false, false] rfl rfl (by kernel_rfl) (fun _ _ _ h => h) (Or.inl ⟨by rfl, ?_⟩) ?_ ?_
                    rotate_left
                    · intro w'
                      go_simp
                      with_reducible rfl
                    rotate_left
                    · simp only [Act.put, List.setIfInBounds_toArray, List.set_cons_zero, List.set_cons_succ, i64_w, i32_w]
                      rfl
                    refine pure_ (i := 17) (N := some 106) (v := ?_) (a' := ?_) #[true, true, true, true, false, true, true, true, true, false, false, true, true, true, true, false, true, true, false, false, false, false, false, false, false, false, false] rfl rfl (by kernel_rfl) (fun _ _ _ h => h) (Or.inl ⟨by rfl, ?_⟩) ?_ ?_
                    rotate_left
                    · intro w'
                      go_simp
                      with_reducible rfl
                    rotate_left
                    · simp only [Act.put, List.setIfInBounds_toArray, List.set_cons_zero, List.set_cons_succ, i64_w, i32_w]
                      rfl
                    refine pure_ (i := 18) (N := some 107) (v := ?_) (a' := ?_) #[true, true, true, true, false, true, true, true, true, false, false, true, true, true, true, false, true, true, true, false, false, false, false, false, false, false, false] rfl rfl (by kernel_rfl) (fun _ _ _ h => h) (Or.inl ⟨by rfl, ?_⟩) ?_ ?_
                    rotate_left
                    · intro w'
                      go_simp
                      with_reducible rfl
                    rotate_left
                    · simp only [Act.put, List.setIfInBounds_toArray, List.set_cons_zero, List.set_cons_succ, i64_w, i32_w]
                      rfl
                    refine pure_ (i := 19) (N := some 108) (v := ?_) (a' := ?_) #[true, true, true, true, false, true, true, true, true, false, false, true, true, true, true, false, true, true, true, true, false, false, false, false, false, false, false] rfl rfl (by kernel_rfl) (fun _ _ _ h => h) (Or.inl ⟨by rfl, ?_⟩) ?_ ?_
                    rotate_left
                    · intro w'
                      go_simp
                      with_reducible rfl
                    rotate_left
                    · simp only [Act.put, List.setIfInBounds_toArray, List.set_cons_zero, List.set_cons_succ, i64_w, i32_w]
                      rfl
                    refine take_ (i := 4) (N := some 93) (v := ?_) (a' := ?_) #[true, true, true, true, true, true, true, true, true, false, false, true, true, true, true, false, true, true, true, true, false, false, false, false, false, false, false] rfl rfl (by kernel_rfl) (fun _ _ _ h => h) (Or.inl ⟨by rfl, ?_⟩) hHeld ?_ ?_
                    rotate_left
                    · rintro w' ⟨s0, s1, s2, s3, s4, s5, s6, s7⟩
                      go_simp
                      with_reducible rfl
                    rotate_left
                    · simp only [Act.put, List.setIfInBounds_toArray, List.set_cons_zero, List.set_cons_succ, i64_w, i32_w]
                      rfl
                    refine take_ (i := 9) (N := some 98) (v := ?_) (a' := ?_) #[true, true, true, true, true, true, true, true, true, true, false, true, true, true, true, false, true, true, true, true, false, false, false, false, false, false, false] rfl rfl (by kernel_rfl) (fun _ _ _ h => h) (Or.inl ⟨by rfl, ?_⟩) hHeld ?_ ?_
                    rotate_left
                    · rintro w' ⟨s0, s1, s2, s3, s4, s5, s6, s7⟩
                      go_simp
                      with_reducible rfl
                    rotate_left
                    · simp only [Act.put, List.setIfInBounds_toArray, List.set_cons_zero, List.set_cons_succ, i64_w, i32_w]
                      rfl
                    refine take_ (i := 10) (N := some 99) (v := ?_) (a' := ?_) #[true, true, true, true, true, true, true, true, true, true, true, true, true, true, true, false, true, true, true, true, false, false, false, false, false, false, false] rfl rfl (by kernel_rfl) (fun _ _ _ h => h) (Or.inl ⟨by rfl, ?_⟩) hHeld ?_ ?_
                    rotate_left
                    · rintro w' ⟨s0, s1, s2, s3, s4, s5, s6, s7⟩
                      go_simp
                      with_reducible rfl
                    rotate_left
                    · simp only [Act.put, List.setIfInBounds_toArray, List.set_cons_zero, List.set_cons_succ, i64_w, i32_w]
                      rfl
                    refine take_ (i := 15) (N := some 104) (v := ?_) (a' := ?_) #[true, true, true, true, true, true, true, true, true, true, true, true, true, true, true, true, true, true, true, true, false, false, false, false, false, false, false] rfl rfl (by kernel_rfl) (fun _ _ _ h => h) (Or.inl ⟨by rfl, ?_⟩) hHeld ?_ ?_
                    rotate_left
                    · rintro w' ⟨s0, s1, s2, s3, s4, s5, s6, s7⟩
                      go_simp
                      with_reducible rfl
                    rotate_left
                    · simp only [Act.put, List.setIfInBounds_toArray, List.set_cons_zero, List.set_cons_succ, i64_w, i32_w]
                      rfl
                    refine take_ (i := 20) (N := some 109) (v := ?_) (a' := ?_) #[true, true, true, true, true, true, true, true, true, true, true, true, true, true, true, true, true, true, true, true, true, false, false, false, false, false, false] rfl rfl (by kernel_rfl) (fun _ _ _ h => h) (Or.inl ⟨by rfl, ?_⟩) hHeld ?_ ?_
                    rotate_left
                    · rintro w' ⟨s0, s1, s2, s3, s4, s5, s6, s7⟩
                      go_simp
                      with_reducible rfl
                    rotate_left
                    · simp only [Act.put, List.setIfInBounds_toArray, List.set_cons_zero, List.set_cons_succ, i64_w, i32_w]
                      rfl
                    refine pure_ (i := 21) (N := some 110) (v := ?_) (a' := ?_) #[true, true, true, true, true, true, true, true, true, true, true, true, true, true, true, true, true, true, true, true, true, true, false, false, false, false, false] rfl rfl (by kernel_rfl) (fun _ _ _ h => h) (Or.inl ⟨by rfl, ?_⟩) ?_ ?_
                    rotate_left
                    · intro w'
                      go_simp
                      with_reducible rfl
                    rotate_left
                    · simp only [Act.put, List.setIfInBounds_toArray, List.set_cons_zero, List.set_cons_succ, i64_w, i32_w]
                      rfl
                    refine pure_ (i := 22) (N := some 111) (v := ?_) (a' := ?_) #[true, true, true, true, true, true, true, true, true, true, true, true, true, true, true, true, true, true, true, true, true, true, true, false, false, false, false] rfl rfl (by kernel_rfl) (fun _ _ _ h => h) (Or.inl ⟨by rfl, ?_⟩) ?_ ?_
                    rotate_left
                    · intro w'
                      go_simp
                      with_reducible rfl
                    rotate_left
                    · simp only [Act.put, List.setIfInBounds_toArray, List.set_cons_zero, List.set_cons_succ, i64_w, i32_w]
                      rfl
                    refine pure_ (i := 23) (N := some 112) (v := ?_) (a' := ?_) #[true, true, true, true, true, true, true, true, true, true, true, true, true, true, true, true, true, true, true, true, true, true, true, true, false, false, false] rfl rfl (by kernel_rfl) (fun _ _ _ h => h) (Or.inl ⟨by rfl, ?_⟩) ?_ ?_
                    rotate_left
                    · intro w'
                      go_simp
                      with_reducible rfl
                    rotate_left
                    · simp only [Act.put, List.setIfInBounds_toArray, List.set_cons_zero, List.set_cons_succ, i64_w, i32_w]
                      rfl
                    refine last_ (i := 24) (N := some 113) #[true, true, true, true, true, true, true, true, true, true, true, true, true, true, true, true, true, true, true, true, true, true, true, true, true, false, false] rfl rfl (by kernel_rfl) (by decide) (fun K hK => ?_)
                    refine value_ (w1 := ?_) (v := ?_) (by rfl) rfl ?_ ?_
                    rotate_left 2
                    · go_simp
                      constructor
                      · rfl
                      · rfl
                    refine hK.out _ _ ?_
                    clear hK K
                    refine norm_ (a' := ?_) ?_ ?_
                    rotate_left
                    · show Act.put _ (some 113) _ = _
                      simp only [Act.put, List.setIfInBounds_toArray, List.set_cons_zero, List.set_cons_succ, i64_w, i32_w]
                      rfl
                    refine last_ (i := 25) (N := some 114) #[true, true, true, true, true, true, true, true, true, true, true, true, true, true, true, true, true, true, true, true, true, true, true, true, true, true, false] rfl rfl (by kernel_rfl) (by decide) (fun K hK => ?_)
                    ((try (rw [drew_out]; rw [drew_out])); refine Kd.R_append_step (k48) (w0 := w2) w2.heap.size ?hw (.tmp 89) (.tmp 113) 22 48 (.agg #[(.int .i64 0), (.int .i64 0), (.int .i64 0), (.int .i64 0), (.int .i64 0), (.int .i64 0), (.int .i64 0), (.bool false)]) 64 ?ho Try.underlying22 info48 rfl (by decide) (by omega) u10 (acc) ((⟨a, b, ⟨c', d, e, f⟩, ⟨g, true⟩⟩ : S48)) [.int .i64 a, .int .i64 b, .int .i64 c', .int .i64 d, .int .i64 e, .int .i64 f, .int .i64 g, .bool true] (fun _ => True) (fun _ => False) ?hs ?hx ?aP (fun _ hk => hk.elim) ?aF ?aO ?aB ?aS ?aL ?_; (case hw => rfl); (case ho => rfl); (case hs => rfl); (case hx => (try rw [size_ad]); rfl); (case aP => exact k48_mkM _ _ _ (⟨a, b, ⟨c', d, e, f⟩, ⟨g, true⟩⟩ : S48)); (case aB => exact (by repeat (first | (with_reducible first | exact HB3.out | apply below_alloc | apply pw_below_drewN | apply below_drew1 | apply below_drew) | exact HB3.out))); (case aF => exact (fun _ _ => trivial)); (case aO => exact (by (with_reducible repeat (first | apply Kd.R_alloc | apply Kd.R_drewN | apply Kd.R_drew)); exact HO.out)); (case aS => exact (below_size (by repeat (first | (with_reducible first | exact HB3.out | apply below_alloc | apply pw_below_drewN | apply below_drew1 | apply below_drew) | exact HB3.out)))); (case aL => have := HJ.out; omega); intro v5 w5 ho hb hg hat; have n0_ := Aside0.mk (hb); have n1_ := Aside0.mk (ho); clear HB3; clear HO; have HB3 := n0_; have HO := n1_; clear n0_ n1_; clear ho hb hg hat)
                    refine hK.out _ _ ?_
                    clear hK K
                    refine norm_ (a' := ?_) ?_ ?_
                    rotate_left
                    · show Act.put _ (some 114) _ = _
                      simp only [Act.put, List.setIfInBounds_toArray, List.set_cons_zero, List.set_cons_succ, i64_w, i32_w]
                      rfl
                    refine pure_ (i := 26) (N := some 10) (v := ?_) (a' := ?_) #[true, true, true, true, true, true, true, true, true, true, true, true, true, true, true, true, true, true, true, true, true, true, true, true, true, true, true] rfl rfl (by kernel_rfl) (fun _ _ _ h => h) (Or.inl ⟨by rfl, ?_⟩) ?_ ?_
                    rotate_left
                    · intro w'
                      go_simp
                      with_reducible rfl
                    rotate_left
                    · simp only [Act.put, List.setIfInBounds_toArray, List.set_cons_zero, List.set_cons_succ, i64_w, i32_w]
                      rfl
                    refine done_ (by kernel_rfl) ?_
                    go_wp2
                    go_roundg (gk - 1)
                    case measure => have := HK.out; have := HJ.out; omega
                    case rel =>
                      have hy := HY.out
                      have hP := HP.out
                      have hl8 := congrArg List.length hy
                      simp only [List.length_cons, List.length_drop] at hl8
                      have hr : x.drop (j + 8) = r := by rw [← List.drop_drop, hy]; rfl
                      have hk8 : (x.drop j).length / 8 = r.length / 8 + 1 := by rw [hy]; simp only [List.length_cons]; omega
                      rw [hk8, hy] at hP
                      have hst := evs_step (x := []) (acc := acc) hP (.inr rfl)
                      have hK := HK.out
                      have hJ := HJ.out
                      exact ⟨j + 8, acc ++ [(⟨a, b, ⟨c', d, e, f⟩, ⟨g, true⟩⟩ : S48)], rfl, by omega, ⟨by simp; omega⟩, ⟨by simp; omega⟩, ⟨by rw [hr]; exact hst⟩, HO, HB3⟩
                  · have n0 : (q == 0) = false := beq_eq_false_iff_ne.mpr hq0
                    have n1 : (q == 1) = false := beq_eq_false_iff_ne.mpr hq1
                    have n2 : (q != 0) = true := bne_iff_ne.mpr hq0
                    have n3 : (q != 1) = true := bne_iff_ne.mpr hq1
                    have hy := HY.out
                    have hP := HP.out
                    have hk8 : (x.drop j).length / 8 = r.length / 8 + 1 := by rw [hy]; simp only [List.length_cons]; omega
                    rw [hk8, hy] at hP
                    have HST := Aside0.mk (evs_stop (r := r) hP (fun h => h.elim hq0 hq1))
                    have HBe := Aside0.mk (HB.out.trans (HB3.out.mono (below_size HB.out)))
                    clear hy hP hk8 hq0 hq1
                    go_wp2
                    go_ret2
                    exact parseRet_none HST.out rfl HBe.out
              · have hJ := HJ.out
                have hP := HP.out
                have hjx : j = x.length := by have := HM.out; omega
                have HBe := Aside0.mk (HB.out.trans (HB3.out.mono (below_size HB.out)))
                obtain ⟨A9, c9, rfl, hc9, hC9⟩ := Kd.R_reads HO.out
                have HC9 := Aside0.mk hC9
                have Hc9 := Aside0.mk hc9
                have HPE : Aside0 (parse l = some acc) := ⟨by rw [hP, hjx]; simp [evs]⟩
                clear hP hC9 hc9 hJ hjx
                go_wp2
                go_ret2
                exact ⟨HBe.out, .inr ⟨acc, A9, c9, HPE.out, rfl, HC9.out, Hc9.out⟩⟩
          · have hm1 : ((x.length : Int) % 8 == 0) = false := beq_eq_false_iff_ne.mpr (by omega)
            have hm2 : ((x.length : Int) % 8 != 0) = true := bne_iff_ne.mpr (by omega)
            have HF := Aside0.mk (parse_odd ho hg (fun h => hm h.2))
            clear ho hr hc hb hn hs hg hu1 hx hv1 hm
            go_enter Try.func17, Try.ntmps17
            go_wp2_with (first | ((with_reducible refine gate_callee (f := 32) rfl ?_); refine goesL_ (some 15) rfl rfl Try.func32 (by kernel_rfl) rfl #[.slice A l.length c] rfl (by (try simp only [List.map_toArray, List.map_cons, List.map_nil]); first | done | rfl | (simp only [List.length_drop, List.length_take]; rfl)) ?_; (with_reducible refine (refOpen_some _ _ _ _ HR.out HC.out HY.out HN6.out HO1.out).mono ?_); rintro e w1 ⟨A1, c1, rfl, hC1, hc1, hb⟩; refine ⟨_, rfl, ?_⟩; have m1_ := Aside0.mk (below_step (by repeat (first | (with_reducible first | exact HB.out | apply below_alloc | apply pw_below_drewN | apply below_drew1) | exact HB.out)) hb); clear HB; have HB := m1_; clear m1_; clear hb; have HC1 := Aside0.mk hC1; have Hc1 := Aside0.mk hc1; clear hC1 hc1) | ((with_reducible refine gate_callee (f := 33) rfl ?_); refine goesL_ (some 29) rfl rfl Try.func33 (by kernel_rfl) rfl #[.slice A1 s.length c1] rfl (by (try simp only [List.map_toArray, List.map_cons, List.map_nil]); first | done | rfl | (simp only [List.length_drop, List.length_take]; rfl)) ?_; (with_reducible refine (refGetNums_some _ _ s _ HC1.out Hc1.out HYs.out HNs.out HG.out).mono ?_); rintro e w2 ⟨A2, c2, rfl, hC2, hc2, hb⟩; refine ⟨_, rfl, ?_⟩; have m1_ := Aside0.mk (below_step (by repeat (first | (with_reducible first | exact HB.out | apply below_alloc | apply pw_below_drewN | apply below_drew1) | exact HB.out)) hb); clear HB; have HB := m1_; clear m1_; clear hb; have HC2 := Aside0.mk hC2; have Hc2 := Aside0.mk hc2; clear hC2 hc2))
            go_ret2
            exact parseRet_none HF.out rfl (by repeat (first | (with_reducible first | exact HB.out | apply below_alloc | apply pw_below_drewN | apply below_drew1) | exact HB.out))
        · have hv2 : ((v : Int) == (s.length : Int)) = false := beq_eq_false_iff_ne.mpr (by omega)
          have hv3 : ((v : Int) != (s.length : Int)) = true := bne_iff_ne.mpr (by omega)
          have hv4 : (v == s.length) = false := beq_eq_false_iff_ne.mpr hv
          have HF := Aside0.mk (parse_odd ho hg (fun h => hv h.1))
          clear ho hr hc hb hn hs hg hu1 hx hv
          go_enter Try.func17, Try.ntmps17
          go_wp2_with (first | ((with_reducible refine gate_callee (f := 32) rfl ?_); refine goesL_ (some 15) rfl rfl Try.func32 (by kernel_rfl) rfl #[.slice A l.length c] rfl (by (try simp only [List.map_toArray, List.map_cons, List.map_nil]); first | done | rfl | (simp only [List.length_drop, List.length_take]; rfl)) ?_; (with_reducible refine (refOpen_some _ _ _ _ HR.out HC.out HY.out HN6.out HO1.out).mono ?_); rintro e w1 ⟨A1, c1, rfl, hC1, hc1, hb⟩; refine ⟨_, rfl, ?_⟩; have m1_ := Aside0.mk (below_step (by repeat (first | (with_reducible first | exact HB.out | apply below_alloc | apply pw_below_drewN | apply below_drew1) | exact HB.out)) hb); clear HB; have HB := m1_; clear m1_; clear hb; have HC1 := Aside0.mk hC1; have Hc1 := Aside0.mk hc1; clear hC1 hc1) | ((with_reducible refine gate_callee (f := 33) rfl ?_); refine goesL_ (some 29) rfl rfl Try.func33 (by kernel_rfl) rfl #[.slice A1 s.length c1] rfl (by (try simp only [List.map_toArray, List.map_cons, List.map_nil]); first | done | rfl | (simp only [List.length_drop, List.length_take]; rfl)) ?_; (with_reducible refine (refGetNums_some _ _ s _ HC1.out Hc1.out HYs.out HNs.out HG.out).mono ?_); rintro e w2 ⟨A2, c2, rfl, hC2, hc2, hb⟩; refine ⟨_, rfl, ?_⟩; have m1_ := Aside0.mk (below_step (by repeat (first | (with_reducible first | exact HB.out | apply below_alloc | apply pw_below_drewN | apply below_drew1) | exact HB.out)) hb); clear HB; have HB := m1_; clear m1_; clear hb; have HC2 := Aside0.mk hC2; have Hc2 := Aside0.mk hc2; clear hC2 hc2))
          go_ret2
          exact parseRet_none HF.out rfl (by repeat (first | (with_reducible first | exact HB.out | apply below_alloc | apply pw_below_drewN | apply below_drew1) | exact HB.out))
    · have hu2 : ((u : Int) == (l.length : Int)) = false := beq_eq_false_iff_ne.mpr (by omega)
      have hu3 : ((u : Int) != (l.length : Int)) = true := bne_iff_ne.mpr (by omega)
      have hu4 : (u == l.length) = false := beq_eq_false_iff_ne.mpr hu
      have HF := Aside0.mk (parse_left ho hu)
      clear ho hr hc hb hn hs hu
      go_enter Try.func17, Try.ntmps17
      go_wp2_with (first | ((with_reducible refine gate_callee (f := 32) rfl ?_); refine goesL_ (some 15) rfl rfl Try.func32 (by kernel_rfl) rfl #[.slice A l.length c] rfl (by (try simp only [List.map_toArray, List.map_cons, List.map_nil]); first | done | rfl | (simp only [List.length_drop, List.length_take]; rfl)) ?_; (with_reducible refine (refOpen_some _ _ _ _ HR.out HC.out HY.out HN6.out HO1.out).mono ?_); rintro e w1 ⟨A1, c1, rfl, hC1, hc1, hb⟩; refine ⟨_, rfl, ?_⟩; have m1_ := Aside0.mk (below_step (by repeat (first | (with_reducible first | exact HB.out | apply below_alloc | apply pw_below_drewN | apply below_drew1) | exact HB.out)) hb); clear HB; have HB := m1_; clear m1_; clear hb; have HC1 := Aside0.mk hC1; have Hc1 := Aside0.mk hc1; clear hC1 hc1))
      go_ret2
      exact parseRet_none HF.out rfl (by repeat (first | (with_reducible first | exact HB.out | apply below_alloc | apply pw_below_drewN | apply below_drew1) | exact HB.out))
end Go.Proofs.Ytiefonnhgjpbfaa.Tr
