/- May splits be: the document's walk. -/
import Derived.Test.YthjecgmgpnileaaC2
import Derived.Test.YthjecgmgpnileaaPm
namespace Go.Proofs.Ythjecgmgpnileaa.Bd
open Go.RowKit Go.Lib Go.Proofs.YthjecgmgpnileaaW.PrintWords Go.Proofs.YthjecgmgpnileaaW.PrintLast Go.Proofs.YthjecgmgpnileaaW.PrintMore
attribute [local go_sem] max2_int min2_int max_two min_two max_three min_three max_four min_four   -- for this text's walks alone
set_option linter.unusedVariables false
set_option linter.unusedSimpArgs false

/-- The two rows that it keeps. -/
structure MayAt (W : World) (base gS cS gJ cJ : Nat) (s : St) : Prop where
  S : Kd.R (Kd.int .i64) 3 W base (fun _ => True) (.slice (some ⟨gS, 0, none⟩) (s.us.length + 1) cS) (sS s)
  J : Kd.R (Kd.int .i64) 3 W base (fun _ => True) (.slice (some ⟨gJ, 0, none⟩) (s.us.length + 1) cJ) (sJ s)
  ne : gS ≠ gJ
theorem MayAt.below {W W' : World} {base gS cS gJ cJ : Nat} {s : St} (h : MayAt W base gS cS gJ cJ s) (hb : Below W.heap.size W W') : MayAt W' base gS cS gJ cJ s := ⟨Kd.R_below h.S hb, Kd.R_below h.J hb, h.ne⟩
theorem MayAt.cells {W : World} {base gS cS gJ cJ : Nat} {s : St} (h : MayAt W base gS cS gJ cJ s) : W.cell? ⟨gS, s.us.length, none⟩ = some (.int .i64 s.cur.1) ∧ W.cell? ⟨gJ, s.us.length, none⟩ = some (.int .i64 s.cur.2) ∧ W.frozen? ⟨gS, s.us.length, none⟩ = false ∧ W.frozen? ⟨gJ, s.us.length, none⟩ = false := by
  obtain ⟨a1, a2⟩ := Kd.R_celln 0 h.S (s.us.length : Int) (by omega) (by omega)
  obtain ⟨b1, b2⟩ := Kd.R_celln 0 h.J (s.us.length : Int) (by omega) (by omega)
  rw [Int.toNat_natCast] at a1 a2 b1 b2
  have e1 : rdOf 0 (sS s) (s.us.length : Int) = s.cur.1 := sS_last s
  have e2 : rdOf 0 (sJ s) (s.us.length : Int) = s.cur.2 := sJ_last s
  rw [e1] at a1
  rw [e2] at b1
  exact ⟨a1, b1, a2, b2⟩
theorem MayAt.take {W : World} {base gS cS gJ cJ n : Nat} {us' : List (Int × Int)} {v : Int × Int} {cur : Int × Int} {e h : List Int} (hm : MayAt W base gS cS gJ cJ ⟨us' ++ [v], cur, n, e, h⟩) (n' : Nat) (e' h' : List Int) : MayAt W base gS cS gJ cJ ⟨us', v, n', e', h'⟩ := by
  have e1 : (sS ⟨us' ++ [v], cur, n, e, h⟩).take (us'.length + 1) = sS ⟨us', v, n', e', h'⟩ := by
    simp [sS, List.take_append]
    rw [List.take_of_length_le (by simp)]
  have e2 : (sJ ⟨us' ++ [v], cur, n, e, h⟩).take (us'.length + 1) = sJ ⟨us', v, n', e', h'⟩ := by
    simp [sJ, List.take_append]
    rw [List.take_of_length_le (by simp)]
  have h1 := Kd.R_take (m := us'.length + 1) hm.S (by rw [sS_len]; simp)
  have h2 := Kd.R_take (m := us'.length + 1) hm.J (by rw [sJ_len]; simp)
  rw [e1] at h1
  rw [e2] at h2
  exact ⟨h1, h2, hm.ne⟩
theorem MayAt.caps {W : World} {base gS cS gJ cJ : Nat} {s : St} (h : MayAt W base gS cS gJ cJ s) : s.us.length + 1 ≤ cS ∧ s.us.length + 1 ≤ cJ := by
  have h1 := (Kd.R_reads' h.S).2.1
  have h2 := (Kd.R_reads' h.J).2.1
  exact ⟨h1, h2⟩
theorem MayAt.push {W : World} {base gS cS gJ cJ n : Nat} {us : List (Int × Int)} {a d b : Int} {e h e' h' : List Int} {n' : Nat}
    (hS : Kd.R (Kd.int .i64) 3 W base (fun _ => True) (.slice (some ⟨gS, 0, none⟩) (us.length + 1 + 1) cS) (sS ⟨us, (a, d), n, e, h⟩ ++ [b]))
    (hJ : Kd.R (Kd.int .i64) 3 W base (fun _ => True) (.slice (some ⟨gJ, 0, none⟩) (us.length + 1 + 1) cJ) (sJ ⟨us, (a, d), n, e, h⟩ ++ [0])) (hne : gS ≠ gJ) : MayAt W base gS cS gJ cJ ⟨us ++ [(a, d)], (b, 0), n', e', h'⟩ := by
  have e1 : sS ⟨us, (a, d), n, e, h⟩ ++ [b] = sS ⟨us ++ [(a, d)], (b, 0), n', e', h'⟩ := by simp [sS]
  have e2 : sJ ⟨us, (a, d), n, e, h⟩ ++ [0] = sJ ⟨us ++ [(a, d)], (b, 0), n', e', h'⟩ := by simp [sJ]
  rw [e1] at hS
  rw [e2] at hJ
  have hl : (us ++ [(a, d)]).length = us.length + 1 := by simp
  refine ⟨?_, ?_, hne⟩
  · show Kd.R _ 3 W base _ (.slice _ ((us ++ [(a, d)]).length + 1) cS) _
    rw [hl]; exact hS
  · show Kd.R _ 3 W base _ (.slice _ ((us ++ [(a, d)]).length + 1) cJ) _
    rw [hl]; exact hJ
theorem MayAt.far {W : World} {base gS cS gJ cJ k : Nat} {s : St} {cs : Array Value} (h : MayAt W base gS cS gJ cJ s) (hb : W.heap[k]? = some (.cells cs 53 (0, 0))) : k ≠ gS ∧ k ≠ gJ := by
  obtain ⟨c1, h1⟩ := Kd.R_typed h.S gS rfl
  obtain ⟨c2, h2⟩ := Kd.R_typed h.J gJ rfl
  refine ⟨fun e => ?_, fun e => ?_⟩
  · subst e; rw [hb] at h1; cases h1
  · subst e; rw [hb] at h2; cases h2
theorem R_apart {W w1 : World} {base g n cap : Nat} {row : Option Nat} {xs : List Int} (h : Kd.R (Kd.int .i64) 3 W base (fun _ => True) (.slice (some ⟨g, 0, none⟩) n cap) xs) (hg : W.grownBy w1 row) (hne : row ≠ some g) : Kd.R (Kd.int .i64) 3 w1 base (fun _ => True) (.slice (some ⟨g, 0, none⟩) n cap) xs :=
  Kd.R_mono (Kd.R_step (Kd.R_tight rfl h) fun k ho hl => hg.block k hl (fun e => hne (by rw [← e, ho]; rfl))) fun _ _ => trivial
theorem push_apart {W w1 : World} {base gS gJ nS cS nJ cJ : Nat} {v1 : Value} {xs ys : List Int} (hne : gS ≠ gJ) (hJ : Kd.R (Kd.int .i64) 3 W base (fun _ => True) (.slice (some ⟨gJ, 0, none⟩) nJ cJ) ys)
    (ho : Kd.R (Kd.int .i64) 3 w1 base (fun _ => True) v1 xs) (hx : 0 < xs.length) (hg : W.grownBy w1 (Value.slice (some ⟨gS, 0, none⟩) nS cS).ownBlock)
    (hat : v1.ownBlock = (Value.slice (some ⟨gS, 0, none⟩) nS cS).ownBlock ∨ ∃ b, v1.ownBlock = some b ∧ W.heap.size ≤ b) :
    ∃ gT cT, v1 = .slice (some ⟨gT, 0, none⟩) xs.length cT ∧ gT ≠ gJ ∧ Kd.R (Kd.int .i64) 3 w1 base (fun _ => True) (.slice (some ⟨gJ, 0, none⟩) nJ cJ) ys := by
  have hlt := Kd.R_lt hJ gJ rfl
  obtain ⟨gT, cT, ev, _⟩ := Kd.R_form ho hx
  subst ev
  have e1 : (Value.slice (some ⟨gS, 0, none⟩) nS cS).ownBlock = some gS := rfl
  have e2 : (Value.slice (some ⟨gT, 0, none⟩) xs.length cT).ownBlock = some gT := rfl
  rw [e1] at hat hg
  rw [e2] at hat
  refine ⟨gT, cT, rfl, ?_, R_apart hJ hg (by simpa using hne)⟩
  rcases hat with e | ⟨b, e, hb⟩
  · rw [Option.some.inj e]; exact hne
  · have := Option.some.inj e
    omega
theorem MayAt.setS {W : World} {base gS cS gJ cJ n : Nat} {us : List (Int × Int)} {c0 c1 : Int} {e h : List Int} (hm : MayAt W base gS cS gJ cJ ⟨us, (c0, c1), n, e, h⟩) (a : Int) (n' : Nat) (e' h' : List Int) : MayAt (W.setCell ⟨gS, us.length, none⟩ (.int .i64 a)) base gS cS gJ cJ ⟨us, (a, c1), n', e', h'⟩ := by
  have h1 := Kd.R_putn hm.S (us.length : Int) a
  rw [Int.toNat_natCast] at h1
  have h2 : (sS ⟨us, (c0, c1), n, e, h⟩).set us.length a = sS ⟨us, (a, c1), n', e', h'⟩ := by simp [sS]
  rw [h2] at h1
  refine ⟨h1, ?_, hm.ne⟩
  refine Kd.R_mono (Kd.R_step (Kd.R_tight rfl hm.J) fun k ho hl => Below.heap_setCell W ⟨gS, us.length, none⟩ _ k (fun e => ?_)) fun _ _ => trivial
  have : k = gJ := by simpa [Value.ownBlock] using ho
  exact hm.ne (e.symm.trans this)
theorem MayAt.setJ {W : World} {base gS cS gJ cJ n : Nat} {us : List (Int × Int)} {c0 c1 : Int} {e h : List Int} (hm : MayAt W base gS cS gJ cJ ⟨us, (c0, c1), n, e, h⟩) (b : Int) (n' : Nat) (e' h' : List Int) : MayAt (W.setCell ⟨gJ, us.length, none⟩ (.int .i64 b)) base gS cS gJ cJ ⟨us, (c0, b), n', e', h'⟩ := by
  have h1 := Kd.R_putn hm.J (us.length : Int) b
  rw [Int.toNat_natCast] at h1
  have h2 : (sJ ⟨us, (c0, c1), n, e, h⟩).set us.length b = sJ ⟨us, (c0, b), n', e', h'⟩ := by simp [sJ]
  rw [h2] at h1
  refine ⟨?_, h1, hm.ne⟩
  refine Kd.R_mono (Kd.R_step (Kd.R_tight rfl hm.S) fun k ho hl => Below.heap_setCell W ⟨gJ, us.length, none⟩ _ k (fun e => ?_)) fun _ _ => trivial
  have : k = gS := by simpa [Value.ownBlock] using ho
  exact hm.ne (this.symm.trans e)
theorem MayAt.base_ {W : World} {base gS cS gJ cJ : Nat} {s : St} (h : MayAt W base gS cS gJ cJ s) : base ≤ gS ∧ base ≤ gJ := ⟨Kd.R_base h.S gS rfl, Kd.R_base h.J gJ rfl⟩
set_option maxHeartbeats 16000000 in
set_option maxRecDepth 100000 in
theorem may_calls (A : Option Addr) (c : Nat) (l : List S53) (w : World) (hr : Kd.C k53 w A l.length l) (hl : l.length ≤ 60) (q : Int) (hq : mayL l = q) :
    Calls Try.prog 15 #[.slice A l.length c] w fun e w' => e = .returned (.int .i64 q) ∧ Below w.heap.size w w' := by
  have HR := Aside0.mk hr
  have HQ := Aside0.mk hq
  have HL := Aside0.mk hl
  have hl60 : (l.length : Int) ≤ 60 := by omega
  have h0 : MayAt ((w.alloc (.cells #[.int .i64 0] 3)).alloc (.cells #[.int .i64 0] 3)) w.heap.size w.heap.size 1 (w.heap.size + 1) 1 st0 := by
    have hz : (w.alloc (.cells #[.int .i64 0] 3)).heap.size = w.heap.size + 1 := by simp
    have h1 := own_lit w w.heap.size 3 .i64 [0] (Nat.le_refl _) (by decide)
    have h2 := own_lit (w.alloc (.cells #[.int .i64 0] 3)) w.heap.size 3 .i64 [0] (by omega) (by decide)
    rw [hz] at h2
    exact ⟨Kd.R_alloc (Kd.R_of_own (enc := Value.int .i64) (h1 := fun _ => rfl) h1 (fun _ _ => trivial)) _, Kd.R_of_own (enc := Value.int .i64) (h1 := fun _ => rfl) h2 (fun _ _ => trivial), by omega⟩
  have HM0 := Aside0.mk h0
  have HB0 := Aside0.mk (below_alloc (below_alloc (Below.refl w.heap.size w) (.cells #[.int .i64 0] 3)) (.cells #[.int .i64 0] 3))
  clear hr hq h0
  go_enter Try.func15, Try.ntmps15
  go_wp2
  go_loopg [6, 3, 4, 5] (l.length + 1) (fun kq v6 v3 v4 v5 w' => ∃ (i : Nat) (s : St) (gS cS gJ cJ : Nat), v6 = .int .i64 (i : Int) ∧ v3 = .slice (some ⟨gS, 0, none⟩) (s.us.length + 1) cS ∧ v4 = .slice (some ⟨gJ, 0, none⟩) (s.us.length + 1) cJ ∧ v5 = .int .i64 (s.n : Int) ∧ (i : Int) ≤ (l.length : Int) ∧ Aside0 (kq + i = l.length + 1) ∧ Aside0 (runF st0 (l.take i) = some s) ∧ Aside0 (MayAt w' w.heap.size gS cS gJ cJ s) ∧ Aside0 (Below w.heap.size w w'))
  case atStart => exact ⟨0, st0, _, _, _, _, rfl, rfl, rfl, rfl, by omega, ⟨rfl⟩, ⟨rfl⟩, HM0, HB0⟩
  case round =>
    obtain ⟨i, s, gS, cS, gJ, cJ, rfl, rfl, rfl, rfl, hi, HK, HS, HM, HB⟩ := hrel
    have hinv := (inv0.run HS.out)
    have htl : (l.take i).length ≤ 60 := by have := HL.out; rw [List.length_take]; omega
    have HI := Aside0.mk hinv.1
    have HN : Aside0 (s.n ≤ 181 ∧ s.us.length ≤ 60) := ⟨by have h1 := hinv.2.1; have h2 := hinv.2.2; have e1 : st0.n = 1 := rfl; have e2 : st0.us.length = 0 := rfl; omega⟩
    have hn1 : (s.n : Int) ≤ 181 := by have := HN.out.1; omega
    have hu1 : (s.us.length : Int) ≤ 60 := by have := HN.out.2; omega
    clear hinv htl
    by_cases h : (i : Int) < (l.length : Int)
    · have hil : i < l.length := by omega
      obtain ⟨ad, ea, y0, y1, y2, y3, y4⟩ := at_T53 (Kd.C_below HR.out HB.out) (i : Int) (by omega) h
      cases ea
      have hge : rd_T53 l (i : Int) = l[i] := by unfold rd_T53; rw [Int.toNat_natCast, List.getD_eq_getElem?_getD, List.getElem?_eq_getElem hil]; rfl
      obtain ⟨x, hx⟩ : ∃ x, l[i] = x := ⟨_, rfl⟩
      rw [hge, hx] at y0 y1 y2 y3 y4
      obtain ⟨x0, x1, x2, x3, x4⟩ := x
      simp only at y0 y1 y2 y3 y4
      rw [Int.toNat_natCast] at y0 y1 y2 y3 y4
      have HX := Aside0.mk (And.intro hil hx)
      have HM4 := Aside0.mk (HM.out.below (below_alloc (Below.refl _ _) (.cells #[.int .i64 x0, .int .i64 x1, .int .i64 x2, .int .i64 x3, .int .i64 x4] 53)))
      have HB4 := Aside0.mk (below_alloc HB.out (.cells #[.int .i64 x0, .int .i64 x1, .int .i64 x2, .int .i64 x3, .int .i64 x4] 53))
      have BK := Aside0.mk (MapKept.heap_alloc wr (.cells #[.int .i64 x0, .int .i64 x1, .int .i64 x2, .int .i64 x3, .int .i64 x4] 53)).1
      clear hge hx
      go_wp2
      generalize hw4 : wr.alloc (.cells #[.int .i64 x0, .int .i64 x1, .int .i64 x2, .int .i64 x3, .int .i64 x4] 53) = w4 at HM4 HB4 BK ⊢
      generalize hG7 : wr.heap.size = G7 at BK ⊢
      clear hw4 hG7 y0 y1 y2 y3 y4
      have k1 : w4.cell? ⟨G7, 1, none⟩ = some (.int .i64 x1) := (blk_cell BK.out 1).trans rfl
      obtain ⟨m1, m2, f1, f2⟩ := HM4.out.cells
      obtain ⟨us, ⟨c0, c1⟩, n, e_, h_⟩ := s
      simp only at m1 m2 f1 f2 hn1 hu1
      by_cases hA : x1 = c0
      · subst hA
        have hbe : (x1 != x1) = false := by simp
        go_quiet (fail)
        generalize hw5 : w4.drewN nq = w5
        have HM5 : Aside0 (MayAt w5 w.heap.size gS cS gJ cJ ⟨us, (x1, c1), n, e_, h_⟩) := ⟨by subst hw5; exact HM4.out.below (pw_below_drewN (Below.refl _ _) nq)⟩
        have HB5 : Aside0 (Below w.heap.size w w5) := ⟨by subst hw5; exact pw_below_drewN HB4.out nq⟩
        have BK5 : Aside0 (w5.heap[G7]? = some (.cells #[.int .i64 x0, .int .i64 x1, .int .i64 x2, .int .i64 x3, .int .i64 x4] 53 (0, 0))) := ⟨by subst hw5; exact blk_drewN BK.out nq⟩
        clear hw5 HM4 HB4 BK k1 m1 m2 f1 f2 hbe
        obtain ⟨m1, m2, f1, f2⟩ := HM5.out.cells
        simp only at m1 m2 f1 f2
        have k0 : w5.cell? ⟨G7, 0, none⟩ = some (.int .i64 x0) := (blk_cell BK5.out 0).trans rfl
        have k2 : w5.cell? ⟨G7, 2, none⟩ = some (.int .i64 x2) := (blk_cell BK5.out 2).trans rfl
        have k3 : w5.cell? ⟨G7, 3, none⟩ = some (.int .i64 x3) := (blk_cell BK5.out 3).trans rfl
        have k4 : w5.cell? ⟨G7, 4, none⟩ = some (.int .i64 x4) := (blk_cell BK5.out 4).trans rfl
        by_cases hk1 : x0 = 1
        · subst hk1
          dsimp only
          by_cases h0 : c1 = 0
          · have hz0 : (c1 == 0) = true := by simpa using h0
            subst h0
            by_cases e2 : ¬ x2 = (n : Int)
            · have hze2 : (x2 != (n : Int)) = true := by simpa using e2
              have hqn : q = -1 := HQ.out.symm.trans (may_none HX.out.1 HS.out (by rw [HX.out.2, step_fork2 rfl rfl rfl]; exact if_neg (fun k => e2 k.1)))
              subst hqn
              go_wp2
              go_ret
              exact ⟨rfl, HB5.out⟩
            have e2 := Decidable.of_not_not e2
            have hze2 : (x2 != (n : Int)) = false := by simpa using e2
            by_cases e3 : ¬ x3 = (n : Int) + 1
            · have hze3 : (x3 != (n : Int) + 1) = true := by simpa using e3
              have hqn : q = -1 := HQ.out.symm.trans (may_none HX.out.1 HS.out (by rw [HX.out.2, step_fork2 rfl rfl rfl]; exact if_neg (fun k => e3 k.2.1)))
              subst hqn
              go_wp2
              go_ret
              exact ⟨rfl, HB5.out⟩
            have e3 := Decidable.of_not_not e3
            have hze3 : (x3 != (n : Int) + 1) = false := by simpa using e3
            by_cases e4 : ¬ x4 = (n : Int) + 2
            · have hze4 : (x4 != (n : Int) + 2) = true := by simpa using e4
              have hqn : q = -1 := HQ.out.symm.trans (may_none HX.out.1 HS.out (by rw [HX.out.2, step_fork2 rfl rfl rfl]; exact if_neg (fun k => e4 k.2.2)))
              subst hqn
              go_wp2
              go_ret
              exact ⟨rfl, HB5.out⟩
            have e4 := Decidable.of_not_not e4
            have hze4 : (x4 != (n : Int) + 2) = false := by simpa using e4
            have HNX := Aside0.mk (may_next HX.out.1 HS.out (by rw [HX.out.2, step_fork2 rfl rfl rfl]; exact if_pos ⟨e2, e3, e4⟩))
            clear e2 e3 e4
            obtain ⟨d, hd⟩ : ∃ d, (n : Int) + 2 = d := ⟨_, rfl⟩
            have hfar := HM5.out.far BK5.out
            have hs6 := HM5.out.setJ d n e_ h_
            have hb6 : (w5.setCell ⟨gJ, us.length, none⟩ (.int .i64 d)).heap[G7]? = some (.cells #[.int .i64 1, .int .i64 x1, .int .i64 x2, .int .i64 x3, .int .i64 x4] 53 (0, 0)) := (Below.heap_setCell w5 ⟨gJ, us.length, none⟩ _ G7 hfar.2).trans BK5.out
            have k3' : (w5.setCell ⟨gJ, us.length, none⟩ (.int .i64 d)).cell? ⟨G7, 3, none⟩ = some (.int .i64 x3) := (blk_cell hb6 3).trans rfl
            obtain ⟨m1', _, f1', _⟩ := hs6.cells
            simp only at m1' f1'
            have hs7 := hs6.setS x3 n e_ h_
            have hb7 : ((w5.setCell ⟨gJ, us.length, none⟩ (.int .i64 d)).setCell ⟨gS, us.length, none⟩ (.int .i64 x3)).heap[G7]? = some (.cells #[.int .i64 1, .int .i64 x1, .int .i64 x2, .int .i64 x3, .int .i64 x4] 53 (0, 0)) := (Below.heap_setCell _ ⟨gS, us.length, none⟩ _ G7 hfar.1).trans hb6
            have k2' : ((w5.setCell ⟨gJ, us.length, none⟩ (.int .i64 d)).setCell ⟨gS, us.length, none⟩ (.int .i64 x3)).cell? ⟨G7, 2, none⟩ = some (.int .i64 x2) := (blk_cell hb7 2).trans rfl
            have HSr := Aside0.mk hs7.S
            have HJr := Aside0.mk hs7.J
            have HNE := Aside0.mk hs7.ne
            have HB7 := Aside0.mk ((HB5.out.setCell (p := ⟨gJ, us.length, none⟩) HM5.out.base_.2 (.int .i64 d)).setCell (p := ⟨gS, us.length, none⟩) HM5.out.base_.1 (.int .i64 x3))
            clear hfar hs6 hb6 hs7 hb7
            have HZ7 : Aside0 (w5.heap.size = ((w5.setCell ⟨gJ, us.length, none⟩ (.int .i64 d)).setCell ⟨gS, us.length, none⟩ (.int .i64 x3)).heap.size) := ⟨by simp⟩
            go_wp2_with (first | ((with_reducible refine gate_builtin (b := .append) (xs := #[.tmp 92, .tmp 95]) rfl ?_); rw [HZ7.out]; clear HZ7; generalize hw7 : (w5.setCell ⟨gJ, us.length, none⟩ (.int .i64 d)).setCell ⟨gS, us.length, none⟩ (.int .i64 x3) = w7 at HSr HJr HB7 ⊢; clear hw7; at_builtin; refine Kd.R_append (Kd.int .i64) (w0 := w) w.heap.size rfl (.tmp 92) (.tmp 95) 23 3 (.int .i64 0) 8 rfl Try.underlying23 info3 rfl (by decide) (by omega) (.slice (some ⟨gS, 0, none⟩) (us.length + 1) cS) ((sS ⟨us, (x3, d), n, e_, h_⟩)) (x2) [.int .i64 x2] (fun _ => True) (fun _ => False) rfl rfl ?aP (fun _ hk => hk.elim) ?aF ?aO ?aB ?aS ?aL ?_; (case aP => exact rfl); (case aB => exact (by repeat (first | (with_reducible first | exact HB7.out | apply below_alloc | apply pw_below_drewN | apply below_drew1) | exact HB7.out))); (case aF => exact (fun _ _ => trivial)); (case aO => exact (by (with_reducible repeat (first | apply Kd.R_alloc | apply Kd.R_drewN | apply Kd.R_drew)); exact HSr.out)); (case aS => exact (below_size (by repeat (first | (with_reducible first | exact HB7.out | apply below_alloc | apply pw_below_drewN | apply below_drew1) | exact HB7.out)))); (case aL => (rw [sS_len]; simp only; omega)); intro v96 w96 ho hb hg hat; obtain ⟨gT, cT, ev_, hnt_, hj_⟩ := push_apart HNE.out HJr.out ho (by simp) hg hat; simp only [List.length_append, sS_len, List.length_singleton] at ev_; subst ev_; have HNT := Aside0.mk hnt_; have HJ2 := Aside0.mk hj_; clear hnt_ hj_; have n0_ := Aside0.mk (hb); have n1_ := Aside0.mk (ho); clear HB7; clear HSr; have HB7 := n0_; have HSr := n1_; clear n0_ n1_; clear ho hb hg hat) | ((with_reducible refine gate_builtin (b := .append) (xs := #[.tmp 97, .tmp 98]) rfl ?_); at_builtin; refine Kd.R_append (Kd.int .i64) (w0 := w) w.heap.size rfl (.tmp 97) (.tmp 98) 23 3 (.int .i64 0) 8 rfl Try.underlying23 info3 rfl (by decide) (by omega) (.slice (some ⟨gJ, 0, none⟩) (us.length + 1) cJ) ((sJ ⟨us, (x3, d), n, e_, h_⟩)) ((0 : Int)) [.int .i64 0] (fun _ => True) (fun _ => False) rfl rfl ?aP (fun _ hk => hk.elim) ?aF ?aO ?aB ?aS ?aL ?_; (case aP => exact rfl); (case aB => exact (by repeat (first | (with_reducible first | exact HB7.out | apply below_alloc | apply pw_below_drewN | apply below_drew1) | exact HB7.out))); (case aF => exact (fun _ _ => trivial)); (case aO => exact (by (with_reducible repeat (first | apply Kd.R_alloc | apply Kd.R_drewN | apply Kd.R_drew)); exact HJ2.out)); (case aS => exact (below_size (by repeat (first | (with_reducible first | exact HB7.out | apply below_alloc | apply pw_below_drewN | apply below_drew1) | exact HB7.out)))); (case aL => (rw [sJ_len]; simp only; omega)); intro v99 w99 ho hb hg hat; obtain ⟨gU, cU, ev_, hnu_, hs_⟩ := push_apart (Ne.symm HNT.out) (by (with_reducible repeat (first | apply Kd.R_alloc | apply Kd.R_drewN | apply Kd.R_drew)); exact HSr.out) ho (by simp) hg hat; simp only [List.length_append, sJ_len, List.length_singleton] at ev_; subst ev_; have HNU := Aside0.mk (Ne.symm hnu_); have HS2 := Aside0.mk hs_; clear hnu_ hs_; have n0_ := Aside0.mk (hb); have n1_ := Aside0.mk (ho); clear HB7; clear HJ2; have HB7 := n0_; have HJ2 := n1_; clear n0_ n1_; clear ho hb hg hat))
            subst hd
            go_roundg (gk - 1)
            case measure => have := HK.out; omega
            case rel => exact ⟨i + 1, _, gT, cT, gU, cU, by go_num, by simp [fork2], by simp [fork2], by simp [fork2], by omega, ⟨by have := HK.out; omega⟩, HNX, ⟨MayAt.push HS2.out HJ2.out HNU.out⟩, HB7⟩
          · have hz0 : (c1 == 0) = false := by simpa using h0
            have hz1 : decide (c1 = 0) = false := by simpa using h0
            by_cases e2 : ¬ x2 = (n : Int)
            · have hze2 : (x2 != (n : Int)) = true := by simpa using e2
              have hqn : q = -1 := HQ.out.symm.trans (may_none HX.out.1 HS.out (by rw [HX.out.2, step_fork1 rfl rfl h0]; exact if_neg (fun k => e2 k.1)))
              subst hqn
              go_wp2
              go_quiet (fail)
              go_wp2
              go_ret
              exact ⟨rfl, pw_below_drewN HB5.out _⟩
            have e2 := Decidable.of_not_not e2
            have hze2 : (x2 != (n : Int)) = false := by simpa using e2
            by_cases e3 : ¬ x3 = (n : Int) + 1
            · have hze3 : (x3 != (n : Int) + 1) = true := by simpa using e3
              have hqn : q = -1 := HQ.out.symm.trans (may_none HX.out.1 HS.out (by rw [HX.out.2, step_fork1 rfl rfl h0]; exact if_neg (fun k => e3 k.2.1)))
              subst hqn
              go_wp2
              go_quiet (fail)
              go_wp2
              go_ret
              exact ⟨rfl, pw_below_drewN HB5.out _⟩
            have e3 := Decidable.of_not_not e3
            have hze3 : (x3 != (n : Int) + 1) = false := by simpa using e3
            by_cases e4 : ¬ x4 = c1
            · have hze4 : (x4 != c1) = true := by simpa using e4
              have hqn : q = -1 := HQ.out.symm.trans (may_none HX.out.1 HS.out (by rw [HX.out.2, step_fork1 rfl rfl h0]; exact if_neg (fun k => e4 k.2.2)))
              subst hqn
              go_wp2
              go_quiet (fail)
              go_wp2
              go_ret
              exact ⟨rfl, pw_below_drewN HB5.out _⟩
            have e4 := Decidable.of_not_not e4
            have hze4 : (x4 != c1) = false := by simpa using e4
            have HNX := Aside0.mk (may_next HX.out.1 HS.out (by rw [HX.out.2, step_fork1 rfl rfl h0]; exact if_pos ⟨e2, e3, e4⟩))
            clear e2 e3 e4
            go_wp2
            go_quiet (fail)
            generalize hw6 : w5.drewN nq = w6
            have HM6 : Aside0 (MayAt w6 w.heap.size gS cS gJ cJ ⟨us, (x1, c1), n, e_, h_⟩) := ⟨by subst hw6; exact HM5.out.below (pw_below_drewN (Below.refl _ _) nq)⟩
            have HB6 : Aside0 (Below w.heap.size w w6) := ⟨by subst hw6; exact pw_below_drewN HB5.out nq⟩
            have BK6 : Aside0 (w6.heap[G7]? = some (.cells #[.int .i64 1, .int .i64 x1, .int .i64 x2, .int .i64 x3, .int .i64 x4] 53 (0, 0))) := ⟨by subst hw6; exact blk_drewN BK5.out nq⟩
            clear hw6 k0 k2 k3 k4 m1 m2 f1 f2 HM5 HB5 BK5
            have k3 : w6.cell? ⟨G7, 3, none⟩ = some (.int .i64 x3) := (blk_cell BK6.out 3).trans rfl
            obtain ⟨m1, m2, f1, f2⟩ := HM6.out.cells
            simp only at m1 m2 f1 f2
            have hfar := HM6.out.far BK6.out
            have hs7 := HM6.out.setS x3 n e_ h_
            have hb7 : (w6.setCell ⟨gS, us.length, none⟩ (.int .i64 x3)).heap[G7]? = some (.cells #[.int .i64 1, .int .i64 x1, .int .i64 x2, .int .i64 x3, .int .i64 x4] 53 (0, 0)) := (Below.heap_setCell _ ⟨gS, us.length, none⟩ _ G7 hfar.1).trans BK6.out
            have k2' : (w6.setCell ⟨gS, us.length, none⟩ (.int .i64 x3)).cell? ⟨G7, 2, none⟩ = some (.int .i64 x2) := (blk_cell hb7 2).trans rfl
            have HSr := Aside0.mk hs7.S
            have HJr := Aside0.mk hs7.J
            have HNE := Aside0.mk hs7.ne
            have HB7 := Aside0.mk (HB6.out.setCell (p := ⟨gS, us.length, none⟩) HM6.out.base_.1 (.int .i64 x3))
            have HZ7 : Aside0 (w6.heap.size = (w6.setCell ⟨gS, us.length, none⟩ (.int .i64 x3)).heap.size) := ⟨by simp⟩
            clear hfar hs7 hb7
            go_wp2_with (first | ((with_reducible refine gate_builtin (b := .append) (xs := #[.tmp 92, .tmp 95]) rfl ?_); rw [HZ7.out]; clear HZ7; generalize hw7 : w6.setCell ⟨gS, us.length, none⟩ (.int .i64 x3) = w7 at HSr HJr HB7 ⊢; clear hw7; at_builtin; refine Kd.R_append (Kd.int .i64) (w0 := w) w.heap.size rfl (.tmp 92) (.tmp 95) 23 3 (.int .i64 0) 8 rfl Try.underlying23 info3 rfl (by decide) (by omega) (.slice (some ⟨gS, 0, none⟩) (us.length + 1) cS) ((sS ⟨us, (x3, c1), n, e_, h_⟩)) (x2) [.int .i64 x2] (fun _ => True) (fun _ => False) rfl rfl ?aP (fun _ hk => hk.elim) ?aF ?aO ?aB ?aS ?aL ?_; (case aP => exact rfl); (case aB => exact (by repeat (first | (with_reducible first | exact HB7.out | apply below_alloc | apply pw_below_drewN | apply below_drew1) | exact HB7.out))); (case aF => exact (fun _ _ => trivial)); (case aO => exact (by (with_reducible repeat (first | apply Kd.R_alloc | apply Kd.R_drewN | apply Kd.R_drew)); exact HSr.out)); (case aS => exact (below_size (by repeat (first | (with_reducible first | exact HB7.out | apply below_alloc | apply pw_below_drewN | apply below_drew1) | exact HB7.out)))); (case aL => (rw [sS_len]; simp only; omega)); intro v96 w96 ho hb hg hat; obtain ⟨gT, cT, ev_, hnt_, hj_⟩ := push_apart HNE.out HJr.out ho (by simp) hg hat; simp only [List.length_append, sS_len, List.length_singleton] at ev_; subst ev_; have HNT := Aside0.mk hnt_; have HJ2 := Aside0.mk hj_; clear hnt_ hj_; have n0_ := Aside0.mk (hb); have n1_ := Aside0.mk (ho); clear HB7; clear HSr; have HB7 := n0_; have HSr := n1_; clear n0_ n1_; clear ho hb hg hat) | ((with_reducible refine gate_builtin (b := .append) (xs := #[.tmp 97, .tmp 98]) rfl ?_); at_builtin; refine Kd.R_append (Kd.int .i64) (w0 := w) w.heap.size rfl (.tmp 97) (.tmp 98) 23 3 (.int .i64 0) 8 rfl Try.underlying23 info3 rfl (by decide) (by omega) (.slice (some ⟨gJ, 0, none⟩) (us.length + 1) cJ) ((sJ ⟨us, (x3, c1), n, e_, h_⟩)) ((0 : Int)) [.int .i64 0] (fun _ => True) (fun _ => False) rfl rfl ?aP (fun _ hk => hk.elim) ?aF ?aO ?aB ?aS ?aL ?_; (case aP => exact rfl); (case aB => exact (by repeat (first | (with_reducible first | exact HB7.out | apply below_alloc | apply pw_below_drewN | apply below_drew1) | exact HB7.out))); (case aF => exact (fun _ _ => trivial)); (case aO => exact (by (with_reducible repeat (first | apply Kd.R_alloc | apply Kd.R_drewN | apply Kd.R_drew)); exact HJ2.out)); (case aS => exact (below_size (by repeat (first | (with_reducible first | exact HB7.out | apply below_alloc | apply pw_below_drewN | apply below_drew1) | exact HB7.out)))); (case aL => (rw [sJ_len]; simp only; omega)); intro v99 w99 ho hb hg hat; obtain ⟨gU, cU, ev_, hnu_, hs_⟩ := push_apart (Ne.symm HNT.out) (by (with_reducible repeat (first | apply Kd.R_alloc | apply Kd.R_drewN | apply Kd.R_drew)); exact HSr.out) ho (by simp) hg hat; simp only [List.length_append, sJ_len, List.length_singleton] at ev_; subst ev_; have HNU := Aside0.mk (Ne.symm hnu_); have HS2 := Aside0.mk hs_; clear hnu_ hs_; have n0_ := Aside0.mk (hb); have n1_ := Aside0.mk (ho); clear HB7; clear HJ2; have HB7 := n0_; have HJ2 := n1_; clear n0_ n1_; clear ho hb hg hat))
            go_roundg (gk - 1)
            case measure => have := HK.out; omega
            case rel => exact ⟨i + 1, _, gT, cT, gU, cU, by go_num, by simp [fork1], by simp [fork1], by simp [fork1], by omega, ⟨by have := HK.out; omega⟩, HNX, ⟨MayAt.push HS2.out HJ2.out HNU.out⟩, HB7⟩
        by_cases hk2 : x0 = 2
        · subst hk2
          clear hk1
          rcases List.eq_nil_or_concat us with hu | ⟨us', v, hu⟩
          · have hqn : q = -1 := HQ.out.symm.trans (may_none HX.out.1 HS.out (by rw [HX.out.2]; exact step_end0 rfl hu))
            subst hqn
            subst hu
            dsimp only [List.length_nil]
            go_wp2
            go_ret
            exact ⟨rfl, HB5.out⟩
          rw [List.concat_eq_append] at hu
          have HU := Aside0.mk hu
          obtain ⟨k, hk⟩ : ∃ k, us'.length = k := ⟨_, rfl⟩
          have hul : us.length = k + 1 := by rw [hu]; simp [hk]
          have HUL := Aside0.mk (And.intro hul hk)
          have hc := HM5.out.caps
          have hcJ0 := Kd.R_celln 0 HM5.out.J (k : Int) (by omega) (by simp only; omega)
          have hvj : rdOf 0 (sJ ⟨us, (x1, c1), n, e_, h_⟩) (k : Int) = v.2 := by
            unfold rdOf sJ
            simp only [hu, List.map_append, List.map_cons, List.map_nil]
            rw [Int.toNat_natCast, ← hk]
            simp
          rw [hvj, Int.toNat_natCast] at hcJ0
          have mj := hcJ0.1
          simp only at hc
          rw [hul] at m1 m2 f1 f2 hc
          have hc1 : (k : Int) + 1 ≤ (cS : Int) := by omega
          have hc2 : (k : Int) + 1 ≤ (cJ : Int) := by omega
          have hk60 : (k : Int) ≤ 60 := by omega
          dsimp only
          rw [hul]
          clear hu hk hul hvj hcJ0 hc hu1
          by_cases h0 : ¬ c1 = 0
          · have hz : (c1 != 0) = true := by simpa using h0
            have hqn : q = -1 := HQ.out.symm.trans (may_none HX.out.1 HS.out (by rw [HX.out.2, step_end rfl rfl HU.out]; exact if_neg (fun k => h0 k.1)))
            subst hqn
            go_wp2
            go_ret
            exact ⟨rfl, HB5.out⟩
          have h0 := Decidable.of_not_not h0
          have hz : (c1 != 0) = false := by simpa using h0
          by_cases h2 : ¬ x2 = 0
          · have hz2 : (x2 != 0) = true := by simpa using h2
            have hqn : q = -1 := HQ.out.symm.trans (may_none HX.out.1 HS.out (by rw [HX.out.2, step_end rfl rfl HU.out]; exact if_neg (fun k => h2 k.2.1)))
            subst hqn
            go_wp2
            go_ret
            exact ⟨rfl, HB5.out⟩
          have h2 := Decidable.of_not_not h2
          have hz2 : (x2 != 0) = false := by simpa using h2
          by_cases h3 : ¬ x3 = 0
          · have hz3 : (x3 != 0) = true := by simpa using h3
            have hqn : q = -1 := HQ.out.symm.trans (may_none HX.out.1 HS.out (by rw [HX.out.2, step_end rfl rfl HU.out]; exact if_neg (fun k => h3 k.2.2.1)))
            subst hqn
            go_wp2
            go_ret
            exact ⟨rfl, HB5.out⟩
          have h3 := Decidable.of_not_not h3
          have hz3 : (x3 != 0) = false := by simpa using h3
          by_cases h4 : ¬ x4 = v.2
          · have hz4 : (x4 != v.2) = true := by simpa using h4
            have hqn : q = -1 := HQ.out.symm.trans (may_none HX.out.1 HS.out (by rw [HX.out.2, step_end rfl rfl HU.out]; exact if_neg (fun k => h4 k.2.2.2)))
            subst hqn
            go_wp2
            go_quiet (fail)
            go_wp2
            go_ret
            exact ⟨rfl, pw_below_drewN HB5.out _⟩
          have h4 := Decidable.of_not_not h4
          have hz4 : (x4 != v.2) = false := by simpa using h4
          have HNX := Aside0.mk (may_next HX.out.1 HS.out (by rw [HX.out.2, step_end rfl rfl HU.out]; exact if_pos ⟨h0, h2, h3, h4⟩))
          clear h0 h2 h3 h4
          go_wp2
          go_quiet (fail)
          go_wp2
          have hm6 := HM5.out.below (pw_below_drewN (Below.refl w5.heap.size w5) nq)
          have hu := HU.out
          subst hu
          have HM6 := Aside0.mk (hm6.take n e_ h_)
          clear hm6
          go_roundg (gk - 1)
          case measure => have := HK.out; omega
          case rel => exact ⟨i + 1, ⟨us', v, n, e_, h_⟩, gS, cS, gJ, cJ, by go_num, by first | rfl | (simp [HUL.out.2]), by first | rfl | (simp [HUL.out.2]), rfl, by omega, ⟨by have := HK.out; omega⟩, HNX, HM6, ⟨pw_below_drewN HB5.out nq⟩⟩
        by_cases hk3 : x0 = 3
        · subst hk3
          clear hk1 hk2
          dsimp only
          go_wp2
          by_cases h0 : c1 = 0
          · have hz : (c1 == 0) = true := by simpa using h0
            have hz' : decide (c1 = 0) = true := by simpa using h0
            have hqn : q = -1 := HQ.out.symm.trans (may_none HX.out.1 HS.out (by rw [HX.out.2, step_join rfl rfl]; exact if_neg (fun k => k.1 h0)))
            subst hqn
            go_quiet (fail)
            go_wp2
            go_ret
            exact ⟨rfl, pw_below_drewN HB5.out _⟩
          have hz : (c1 == 0) = false := by simpa using h0
          have hz' : decide (c1 = 0) = false := by simpa using h0
          by_cases h4' : ¬ x4 = c1
          · have hz4 : (x4 != c1) = true := by simpa using h4'
            have h4 := h4'
            have hqn : q = -1 := HQ.out.symm.trans (may_none HX.out.1 HS.out (by rw [HX.out.2, step_join rfl rfl]; exact if_neg (fun k => h4 k.2.1)))
            subst hqn
            go_quiet (fail)
            go_wp2
            go_ret
            exact ⟨rfl, pw_below_drewN HB5.out _⟩
          have h4 := Decidable.of_not_not h4'
          have hz4 : (x4 != c1) = false := by simpa using h4
          by_cases h2' : ¬ x2 = 0
          · have hz2 : (x2 != 0) = true := by simpa using h2'
            have h2 := h2'
            have hqn : q = -1 := HQ.out.symm.trans (may_none HX.out.1 HS.out (by rw [HX.out.2, step_join rfl rfl]; exact if_neg (fun k => h2 k.2.2.1)))
            subst hqn
            go_quiet (fail)
            go_wp2
            go_ret
            exact ⟨rfl, pw_below_drewN HB5.out _⟩
          have h2 := Decidable.of_not_not h2'
          have hz2 : (x2 != 0) = false := by simpa using h2
          by_cases h3' : ¬ x3 = 0
          · have hz3 : (x3 != 0) = true := by simpa using h3'
            have h3 := h3'
            have hqn : q = -1 := HQ.out.symm.trans (may_none HX.out.1 HS.out (by rw [HX.out.2, step_join rfl rfl]; exact if_neg (fun k => h3 k.2.2.2)))
            subst hqn
            go_quiet (fail)
            go_wp2
            go_ret
            exact ⟨rfl, pw_below_drewN HB5.out _⟩
          have h3 := Decidable.of_not_not h3'
          have hz3 : (x3 != 0) = false := by simpa using h3
          have HNX := Aside0.mk (may_next HX.out.1 HS.out (by rw [HX.out.2, step_join rfl rfl]; exact if_pos ⟨h0, h4, h2, h3⟩))
          clear h0 h4 h2 h3 h4' h2' h3'
          go_quiet (fail)
          generalize hw6 : w5.drewN nq = w6
          have HM6 : Aside0 (MayAt w6 w.heap.size gS cS gJ cJ ⟨us, (x1, c1), n, e_, h_⟩) := ⟨by subst hw6; exact HM5.out.below (pw_below_drewN (Below.refl _ _) nq)⟩
          have HB6 : Aside0 (Below w.heap.size w w6) := ⟨by subst hw6; exact pw_below_drewN HB5.out nq⟩
          have BK6 : Aside0 (w6.heap[G7]? = some (.cells #[.int .i64 3, .int .i64 x1, .int .i64 x2, .int .i64 x3, .int .i64 x4] 53 (0, 0))) := ⟨by subst hw6; exact blk_drewN BK5.out nq⟩
          clear hw6 k0 k2 k3 k4 m1 m2 f1 f2 HM5 HB5 BK5
          have k4 : w6.cell? ⟨G7, 4, none⟩ = some (.int .i64 x4) := (blk_cell BK6.out 4).trans rfl
          obtain ⟨m1, m2, f1, f2⟩ := HM6.out.cells
          simp only at m1 m2 f1 f2
          have hs7 := HM6.out.setS x4 n e_ h_
          obtain ⟨_, m2', _, f2'⟩ := hs7.cells
          simp only at m2' f2'
          have HM8 := Aside0.mk (hs7.setJ 0 n e_ h_)
          have HB8 := Aside0.mk ((HB6.out.setCell (p := ⟨gS, us.length, none⟩) HM6.out.base_.1 (.int .i64 x4)).setCell (p := ⟨gJ, us.length, none⟩) HM6.out.base_.2 (.int .i64 0))
          clear hs7
          go_wp2
          go_roundg (gk - 1)
          case measure => have := HK.out; omega
          case rel => exact ⟨i + 1, ⟨us, (x4, 0), n, e_, h_⟩, gS, cS, gJ, cJ, by go_num, rfl, rfl, rfl, by omega, ⟨by have := HK.out; omega⟩, HNX, HM8, HB8⟩
        have hb1 : (x0 == 1) = false := by simpa using hk1
        have hb2 : (x0 == 2) = false := by simpa using hk2
        have hb3 : (x0 == 3) = false := by simpa using hk3
        have hqn : q = -1 := HQ.out.symm.trans (may_none HX.out.1 HS.out (by rw [HX.out.2]; unfold stepS; rw [if_neg hk1, if_neg hk2, if_neg hk3]))
        subst hqn
        clear hk1 hk2 hk3
        go_wp2
        go_ret
        exact ⟨rfl, HB5.out⟩
      · have hbn : (x1 != c0) = true := by simpa using hA
        have hqn : q = -1 := HQ.out.symm.trans (may_none HX.out.1 HS.out (by rw [HX.out.2]; exact step_A hA))
        subst hqn
        clear hA
        go_quiet (fail)
        go_wp2
        go_ret
        exact ⟨rfl, pw_below_drewN HB4.out _⟩
    · have hil : i = l.length := by omega
      subst hil
      have hqs : q = (s.n : Int) := by
        rw [← HQ.out]
        have := HS.out
        rw [List.take_length] at this
        unfold mayL
        rw [this]
      subst hqs
      go_wp2
      go_ret
      exact ⟨rfl, HB.out⟩
end Go.Proofs.Ythjecgmgpnileaa.Bd
