/- sp.Of: walked. -/
import Derived.Test.YthjecgmgpnileaaC14
import Derived.Test.YthjecgmgpnileaaPf
import Derived.Laws.EntriesVeiled
namespace Go.Proofs.Ythjecgmgpnileaa.Bd
open Go.RowKit Go.Lib Go.Proofs.YthjecgmgpnileaaW.PrintWords Go.Proofs.YthjecgmgpnileaaW.PrintLast Go.Proofs.YthjecgmgpnileaaW.PrintMore
attribute [local go_sem] max2_int min2_int max_two min_two max_three min_three max_four min_four   -- for this text's walks alone
set_option linter.unusedVariables false
set_option linter.unusedSimpArgs false

theorem of_none {l : List S53} {i : Nat} {s : St} (h : i < l.length) (hs : runF st0 (l.take i) = some s) (hx : stepS s l[i] = none) : ofL l = none := by
  unfold ofL
  rw [runF_none (i := i + 1) (by rw [runF_take st0 l i h, hs]; exact hx)]
  rfl
theorem of_next {l : List S53} {i : Nat} {s t : St} (h : i < l.length) (hs : runF st0 (l.take i) = some s) (hx : stepS s l[i] = some t) : runF st0 (l.take (i + 1)) = some t := by
  rw [runF_take st0 l i h, hs]
  exact hx
theorem step_bad {s : St} {x : S53} (h : x.f0 < 1 ∨ 3 < x.f0) : stepS s x = none := by
  unfold stepS
  rw [if_neg (by omega), if_neg (by omega), if_neg (by omega)]
theorem step_keeps {s t : St} {x : S53} (h : stepS s x = some t) (hk : x.f0 ≠ 1) : t.e = s.e ∧ t.h = s.h := by
  unfold stepS at h
  rw [if_neg hk] at h
  split at h
  · unfold endS at h
    split at h
    · cases h
    · split at h
      · cases h; exact ⟨rfl, rfl⟩
      · cases h
  · split at h
    · unfold joinS at h
      split at h
      · cases h
      · split at h
        · cases h; exact ⟨rfl, rfl⟩
        · cases h
    · cases h
theorem ofAt_same {W : World} {base T PE mE PH mH G7 G8 : Nat} {s t : St} (h : OfAt W base T PE mE PH mH G7 G8 { t with e := s.e, h := s.h }) (he : t.e = s.e ∧ t.h = s.h) : OfAt W base T PE mE PH mH G7 G8 t := by
  obtain ⟨us, cur, n, e, h'⟩ := t
  obtain ⟨rfl, rfl⟩ := he
  exact h
theorem idx0 (a b : Addr) (n m c d : Nat) (W : World) : (Instr.index 78 (.agg #[.slice (some a) n c, .slice (some b) m d]) (.int .i64 0)).run Try.prog W = .ok (.slice (some a) n c) W := by kernel_rfl
theorem idx1 (a b : Addr) (n m c d : Nat) (W : World) : (Instr.index 78 (.agg #[.slice (some a) n c, .slice (some b) m d]) (.int .i64 1)).run Try.prog W = .ok (.slice (some b) m d) W := by kernel_rfl
theorem OfAt.putE {W W' : World} {base T PE mE PH mH G7 G8 : Nat} {t : St} {e' : List Int} (h : OfAt W base T PE mE PH mH G7 G8 t) (hl : LsAt W' base PE mE e') (hk : OnlyAt PE mE W W') : OfAt W' base T PE mE PH mH G7 G8 { t with e := e' } :=
  ⟨by obtain ⟨g, cap, ht⟩ := h.ts; exact ⟨g, cap, ts_only ht h.e hk⟩, hl, ls_only h.h h.e (Ne.symm h.ne) (Ne.symm h.me) hk, blk_only h.p7 h.e (by decide) hk, blk_only h.p8 h.e (by decide) hk, h.ne, h.me⟩
theorem OfAt.putH {W W' : World} {base T PE mE PH mH G7 G8 : Nat} {t : St} {h' : List Int} (h : OfAt W base T PE mE PH mH G7 G8 t) (hl : LsAt W' base PH mH h') (hk : OnlyAt PH mH W W') : OfAt W' base T PE mE PH mH G7 G8 { t with h := h' } :=
  ⟨by obtain ⟨g, cap, ht⟩ := h.ts; exact ⟨g, cap, ts_only ht h.h hk⟩, ls_only h.e h.h h.ne h.me hk, hl, blk_only h.p7 h.h (by decide) hk, blk_only h.p8 h.h (by decide) hk, h.ne, h.me⟩
theorem R_only {W W' : World} {base base' P mb : Nat} {L xs : List Int} {v : Value} (h : Kd.R (Kd.int .i64) 3 W base' (fun _ => True) v xs) (hl : LsAt W base P mb L) (hk : OnlyAt P mb W W') : Kd.R (Kd.int .i64) 3 W' base' (fun _ => True) v xs := by
  obtain ⟨h1, h2, _⟩ := ls_types hl
  refine R_blk h fun k hlt hc => hk.2 k hlt ?_
  obtain ⟨cs, hc⟩ := hc
  rintro (rfl | rfl)
  · exact absurd (h1 _ _ hc) (by decide)
  · exact h2 _ _ hc
theorem below_of_grown {W W' : World} (hg : W.grownBy W' none) : Below W.heap.size W W' := ⟨hg.os, hg.tape, hg.output, hg.size, fun k hk => hg.block k hk (by simp)⟩
theorem fn_does (k : Nat) (h1 : 1 ≤ k) (h3 : k ≤ 3) : ∃ fn, Try.prog.funcs[24 + k]? = some fn ∧ (fn.name == "runtime.NumGoroutine") = false ∧ fn.body.isSome = true := by
  rcases (show k = 1 ∨ k = 2 ∨ k = 3 by omega) with rfl | rfl | rfl
  · exact ⟨_, Try.func25, by kernel_rfl, rfl⟩
  · exact ⟨_, Try.func26, by kernel_rfl, rfl⟩
  · exact ⟨_, Try.func27, by kernel_rfl, rfl⟩
theorem cell_does {W : World} {G8 T : Nat} (h : W.heap[G8]? = some (.cells #[.nilFunc, .func (.func 25) #[.pointer (some ⟨T, 0, none⟩)] #[], .func (.func 26) #[.pointer (some ⟨T, 0, none⟩)] #[], .func (.func 27) #[.pointer (some ⟨T, 0, none⟩)] #[]] 77 (0, 0))) (k : Nat) (h1 : 1 ≤ k) (h3 : k ≤ 3) :
    W.cell? ⟨G8, k, none⟩ = some (.func (.func (24 + k)) #[.pointer (some ⟨T, 0, none⟩)] #[]) := by
  rcases (show k = 1 ∨ k = 2 ∨ k = 3 by omega) with rfl | rfl | rfl
  · exact (blk_cell h 1).trans rfl
  · exact (blk_cell h 2).trans rfl
  · exact (blk_cell h 3).trans rfl
set_option maxHeartbeats 16000000 in
set_option maxRecDepth 100000 in
theorem of_calls (A : Option Addr) (c : Nat) (l : List S53) (w : World) (hr : Kd.C k53 w A l.length l) (hl : l.length ≤ 60) (q : Option (List (Int × Int))) (hq : ofL l = q) :
    Calls Try.prog 18 #[.slice A l.length c] w fun e w' => Below w.heap.size w w' ∧ (q = none → e = .returned (.tuple #[.slice none 0 0, .int .i64 1])) ∧ (∀ o, q = some o → ∃ v0_ : Value, e = .returned (.tuple #[v0_, .int .i64 0]) ∧ Kd.R kP 59 w' w.heap.size (fun _ => True) v0_ o) := by
  have HR := Aside0.mk hr
  have HQ := Aside0.mk hq
  have HL := Aside0.mk hl
  have hl60 : (l.length : Int) ≤ 60 := by omega
  have HB := Aside0.mk (Below.refl w.heap.size w)
  have HT0 := Aside0.mk (ts_start w)
  have hz0 : ((w.alloc (.cells #[.int .i64 0, .int .i64 0] 68)).alloc (.cells #[.slice (some ⟨w.heap.size, 0, none⟩) 1 1, .int .i64 1] 71)).heap.size = w.heap.size + 1 + 1 := by simp
  have HZ0 := Aside0.mk hz0
  clear hr hq hz0
  go_enter Try.func18, Try.ntmps18
  go_wp2_with (first | ((with_reducible refine gate_callee (f := 23) rfl ?_); refine goesL_ (some 22) rfl rfl Try.func23 (by kernel_rfl) rfl #[] rfl (by (try simp only [List.map_toArray, List.map_cons, List.map_nil]); first | done | rfl | (simp only [List.length_drop, List.length_take]; rfl)) ?_; (with_reducible refine (begun_calls _).mono ?_); rintro e w1 ⟨PE, mE, rfl, hlsE, hb⟩; have HE1 := Aside0.mk hlsE; have HT1 := Aside0.mk (ts_below HT0.out hb); have HZ1 := Aside0.mk hb.size; clear hlsE; refine ⟨_, rfl, ?_⟩; have m1_ := Aside0.mk (below_step (by repeat (first | (with_reducible first | exact HB.out | apply below_alloc | apply pw_below_drewN | apply below_drew1) | exact HB.out)) hb); clear HB; have HB := m1_; clear m1_; clear hb) | ((with_reducible refine gate_callee (f := 23) rfl ?_); refine goesL_ (some 23) rfl rfl Try.func23 (by kernel_rfl) rfl #[] rfl (by (try simp only [List.map_toArray, List.map_cons, List.map_nil]); first | done | rfl | (simp only [List.length_drop, List.length_take]; rfl)) ?_; (with_reducible refine (begun_calls _).mono ?_); rintro e w2 ⟨PH, mH, rfl, hlsH, hb⟩; have HH1 := Aside0.mk hlsH; have HT2 := Aside0.mk (ts_below HT1.out hb); have HE2 := Aside0.mk (ls_below HE1.out hb); clear hlsH; refine ⟨_, rfl, ?_⟩; have m1_ := Aside0.mk (below_step (by repeat (first | (with_reducible first | exact HB.out | apply below_alloc | apply pw_below_drewN | apply below_drew1) | exact HB.out)) hb); clear HB; have HB := m1_; clear m1_; clear hb))
  have hfin : OfAt ((w2.alloc (.cells #[.func (.func 24) #[.pointer (some ⟨PE, 0, none⟩)] #[], .func (.func 24) #[.pointer (some ⟨PH, 0, none⟩)] #[]] 75)).alloc (.cells #[.nilFunc, .func (.func 25) #[.pointer (some ⟨w.heap.size + 1, 0, none⟩)] #[], .func (.func 26) #[.pointer (some ⟨w.heap.size + 1, 0, none⟩)] #[], .func (.func 27) #[.pointer (some ⟨w.heap.size + 1, 0, none⟩)] #[]] 77)) w.heap.size (w.heap.size + 1) PE mE PH mH w2.heap.size (w2.heap.size + 1) st0 := by
    have h1 := HZ0.out
    have h2 := HZ1.out
    have h3 := HB.out.size
    obtain ⟨_, _, p1, p2, p3, p4⟩ := ls_types HE1.out
    obtain ⟨_, _, r1, r2, r3, r4⟩ := ls_types HH1.out
    have hbb := below_alloc (below_alloc (Below.refl w2.heap.size w2) (.cells #[.func (.func 24) #[.pointer (some ⟨PE, 0, none⟩)] #[], .func (.func 24) #[.pointer (some ⟨PH, 0, none⟩)] #[]] 75)) (.cells #[.nilFunc, .func (.func 25) #[.pointer (some ⟨w.heap.size + 1, 0, none⟩)] #[], .func (.func 26) #[.pointer (some ⟨w.heap.size + 1, 0, none⟩)] #[], .func (.func 27) #[.pointer (some ⟨w.heap.size + 1, 0, none⟩)] #[]] 77)
    have hz : (w2.alloc (.cells #[.func (.func 24) #[.pointer (some ⟨PE, 0, none⟩)] #[], .func (.func 24) #[.pointer (some ⟨PH, 0, none⟩)] #[]] 75)).heap.size = w2.heap.size + 1 := by simp
    refine ⟨⟨_, _, ts_below HT2.out hbb⟩, ls_below (ls_lower HE2.out (by omega)) hbb, ls_below (ls_lower HH1.out (by omega)) hbb, ?_, ?_, by omega, by omega⟩
    · rw [Below.heap_alloc _ _ _ (by omega)]
      exact (MapKept.heap_alloc w2 _).1
    · have := (MapKept.heap_alloc (w2.alloc (.cells #[.func (.func 24) #[.pointer (some ⟨PE, 0, none⟩)] #[], .func (.func 24) #[.pointer (some ⟨PH, 0, none⟩)] #[]] 75)) (.cells #[.nilFunc, .func (.func 25) #[.pointer (some ⟨w.heap.size + 1, 0, none⟩)] #[], .func (.func 26) #[.pointer (some ⟨w.heap.size + 1, 0, none⟩)] #[], .func (.func 27) #[.pointer (some ⟨w.heap.size + 1, 0, none⟩)] #[]] 77)).1
      rw [hz] at this
      exact this
  have HF := Aside0.mk hfin
  have HBF := Aside0.mk (below_alloc (below_alloc HB.out (.cells #[.func (.func 24) #[.pointer (some ⟨PE, 0, none⟩)] #[], .func (.func 24) #[.pointer (some ⟨PH, 0, none⟩)] #[]] 75)) (.cells #[.nilFunc, .func (.func 25) #[.pointer (some ⟨w.heap.size + 1, 0, none⟩)] #[], .func (.func 26) #[.pointer (some ⟨w.heap.size + 1, 0, none⟩)] #[], .func (.func 27) #[.pointer (some ⟨w.heap.size + 1, 0, none⟩)] #[]] 77))
  clear hfin HE1 HT1 HZ1 HH1 HT2 HE2 HB HT0 HZ0
  generalize hw3 : (w2.alloc (.cells #[.func (.func 24) #[.pointer (some ⟨PE, 0, none⟩)] #[], .func (.func 24) #[.pointer (some ⟨PH, 0, none⟩)] #[]] 75)).alloc (.cells #[.nilFunc, .func (.func 25) #[.pointer (some ⟨w.heap.size + 1, 0, none⟩)] #[], .func (.func 26) #[.pointer (some ⟨w.heap.size + 1, 0, none⟩)] #[], .func (.func 27) #[.pointer (some ⟨w.heap.size + 1, 0, none⟩)] #[]] 77) = w3 at HF HBF ⊢
  clear hw3
  generalize hG8 : w2.heap.size + 1 = G8 at HF ⊢
  generalize hG7 : w2.heap.size = G7 at HF ⊢
  generalize hT : w.heap.size + 1 = T at HF ⊢
  clear hG8 hG7 hT
  go_loopg [38] (l.length + 1) (fun kq v38 w' => ∃ (i : Nat) (s : St), v38 = .int .i64 (i : Int) ∧ (i : Int) ≤ (l.length : Int) ∧ Aside0 (kq + i = l.length + 1) ∧ Aside0 (runF st0 (l.take i) = some s) ∧ Aside0 (OfAt w' w.heap.size T PE mE PH mH G7 G8 s) ∧ Aside0 (Below w.heap.size w w'))
  case atStart => exact ⟨0, st0, rfl, by omega, ⟨rfl⟩, ⟨rfl⟩, HF, HBF⟩
  case round =>
    obtain ⟨i, s, rfl, hi, HK, HS, HF, HB⟩ := hrel
    have hinv := (inv0.run HS.out)
    have htl : (l.take i).length ≤ 60 := by have := HL.out; rw [List.length_take]; omega
    have HI := Aside0.mk hinv.1
    have HN : Aside0 (s.n ≤ 181 ∧ s.us.length ≤ 60) := ⟨by have h1 := hinv.2.1; have h2 := hinv.2.2; have e1 : st0.n = 1 := rfl; have e2 : st0.us.length = 0 := rfl; omega⟩
    clear hinv htl
    by_cases h : (i : Int) < (l.length : Int)
    · have hil : i < l.length := by omega
      obtain ⟨ad, ea, y0, y1, y2, y3, y4⟩ := at_T53 (Kd.C_below HR.out HB.out) (i : Int) (by omega) h
      cases ea
      have hge : rd_T53 l (i : Int) = l[i] := by unfold rd_T53; rw [Int.toNat_natCast, List.getD_eq_getElem?_getD, List.getElem?_eq_getElem hil]; rfl
      obtain ⟨x, hx⟩ : ∃ x, l[i] = x := ⟨_, rfl⟩
      rw [hge, hx] at y0 y1 y2 y3 y4
      obtain ⟨x0, x1, x2, x3, x4⟩ := x
      simp only at y0 y1 y2 y3 y4
      rw [Int.toNat_natCast] at y0 y1 y2 y3 y4
      have HX := Aside0.mk (And.intro hil hx)
      obtain ⟨g, cap, hts⟩ := HF.out.ts
      have t1 : (wr.alloc (.cells #[.int .i64 x0, .int .i64 x1, .int .i64 x2, .int .i64 x3, .int .i64 x4] 53)).cell? ⟨T, 1, none⟩ = some (.int .i64 (s.n : Int)) := cell_step (below_alloc (Below.refl _ _) _) (ts_cells hts).2.1
      have HF4 := Aside0.mk (HF.out.below (below_alloc (Below.refl _ _) (.cells #[.int .i64 x0, .int .i64 x1, .int .i64 x2, .int .i64 x3, .int .i64 x4] 53)))
      have HB4 := Aside0.mk (below_alloc HB.out (.cells #[.int .i64 x0, .int .i64 x1, .int .i64 x2, .int .i64 x3, .int .i64 x4] 53))
      have BK := Aside0.mk (MapKept.heap_alloc wr (.cells #[.int .i64 x0, .int .i64 x1, .int .i64 x2, .int .i64 x3, .int .i64 x4] 53)).1
      clear hts hge hx
      go_wp2
      generalize hw4 : wr.alloc (.cells #[.int .i64 x0, .int .i64 x1, .int .i64 x2, .int .i64 x3, .int .i64 x4] 53) = w4 at HF4 HB4 BK ⊢
      generalize hG10 : wr.heap.size = G10 at BK ⊢
      clear hw4 hG10 y0 y1 y2 y3 y4 t1
      have k0 : w4.cell? ⟨G10, 0, none⟩ = some (.int .i64 x0) := (blk_cell BK.out 0).trans rfl
      have k1 : w4.cell? ⟨G10, 1, none⟩ = some (.int .i64 x1) := (blk_cell BK.out 1).trans rfl
      have k2 : w4.cell? ⟨G10, 2, none⟩ = some (.int .i64 x2) := (blk_cell BK.out 2).trans rfl
      have k3 : w4.cell? ⟨G10, 3, none⟩ = some (.int .i64 x3) := (blk_cell BK.out 3).trans rfl
      have k4 : w4.cell? ⟨G10, 4, none⟩ = some (.int .i64 x4) := (blk_cell BK.out 4).trans rfl
      by_cases hb1 : x0 < 1
      · have hd : decide (x0 < 1) = true := decide_eq_true hb1
        have hqn : q = none := HQ.out.symm.trans (of_none HX.out.1 HS.out (by rw [HX.out.2]; exact step_bad (.inl hb1)))
        subst hqn
        go_quiet (fail)
        go_wp2
        go_ret2
        exact ⟨pw_below_drewN HB4.out _, rfl⟩
      by_cases hb3 : 3 < x0
      · have hd : decide (x0 < 1) = false := decide_eq_false hb1
        have hd3 : decide (3 < x0) = true := decide_eq_true hb3
        have hqn : q = none := HQ.out.symm.trans (of_none HX.out.1 HS.out (by rw [HX.out.2]; exact step_bad (.inr hb3)))
        subst hqn
        go_quiet (fail)
        go_wp2
        go_ret2
        exact ⟨pw_below_drewN HB4.out _, rfl⟩
      obtain ⟨k, hk⟩ : ∃ k : Nat, x0 = (k : Int) := ⟨x0.toNat, by omega⟩
      subst hk
      have hk1 : 1 ≤ k := by omega
      have hk3 : k ≤ 3 := by omega
      obtain ⟨fn, hf1, hf2, hf3⟩ := fn_does k hk1 hk3
      have HFN := Aside0.mk (And.intro hf1 (And.intro hf2 hf3))
      have c8 := cell_does HF4.out.p8 k hk1 hk3
      obtain ⟨o, ho⟩ : ∃ o, stepS s ⟨(k : Int), x1, x2, x3, x4⟩ = o := ⟨_, rfl⟩
      have hcall : Calls Try.prog (24 + k) #[.pointer (some ⟨T, 0, none⟩), .agg #[.int .i64 (k : Int), .int .i64 x1, .int .i64 x2, .int .i64 x3, .int .i64 x4]] w4.drew fun e w' => e = .returned (.bool o.isSome) ∧ Below w.heap.size w4.drew w' ∧ (∀ t, o = some t → OfAt w' w.heap.size T PE mE PH mH G7 G8 { t with e := s.e, h := s.h } ∧ TsK w4.drew w') :=
        does_calls (HF4.out.below (below_drew (Below.refl _ _))) (by have := HN.out; omega) (by have := HN.out; omega) ⟨(k : Int), x1, x2, x3, x4⟩ (24 + k) (by
          rcases (show k = 1 ∨ k = 2 ∨ k = 3 by omega) with rfl | rfl | rfl
          · exact .inl ⟨rfl, rfl⟩
          · exact .inr (.inl ⟨rfl, rfl⟩)
          · exact .inr (.inr ⟨rfl, rfl⟩)) o ho
      have HC := Aside0.mk hcall
      have HST := Aside0.mk ho
      have hd : decide ((k : Int) < 1) = false := decide_eq_false hb1
      have hd3 : decide (3 < (k : Int)) = false := decide_eq_false hb3
      have hki1 : (0 : Int) ≤ (k : Int) := by omega
      have hki4 : (k : Int) < 4 := by omega
      clear hcall ho hf1 hf2 hf3
      refine start_ (n := 17) (S := fun w' => w'.cell? ⟨G10, 0, none⟩ = some (.int .i64 (k : Int)) ∧ w'.cell? ⟨G10, 1, none⟩ = some (.int .i64 x1) ∧ w'.cell? ⟨G10, 2, none⟩ = some (.int .i64 x2) ∧ w'.cell? ⟨G10, 3, none⟩ = some (.int .i64 x3) ∧ w'.cell? ⟨G10, 4, none⟩ = some (.int .i64 x4) ∧ w'.cell? ⟨G8, k, none⟩ = some (.func (.func (24 + k)) #[.pointer (some ⟨T, 0, none⟩)] #[])) (ds := [14]) #[false, false, false, false, false, false, false, false, false, false, false, false, false, false, false, false, false] (by kernel_rfl) rfl rfl ⟨k0, k1, k2, k3, k4, c8⟩ (fun hHeld => ?_)
      refine pure_ (i := 0) (N := some 46) (v := ?_) (a' := ?_) #[true, false, false, false, false, false, false, false, false, false, false, false, false, false, false, false, false] rfl rfl (by kernel_rfl) (fun _ _ _ h => h) (Or.inl ⟨by rfl, ?_⟩) ?_ ?_
      rotate_left
      · intro w'
        go_simp
        with_reducible rfl
      rotate_left
      · simp only [Act.put, List.setIfInBounds_toArray, List.set_cons_zero, List.set_cons_succ, i64_w, i32_w]
        rfl
      refine take_ (i := 1) (N := some 47) (v := ?_) (a' := ?_) #[true, true, false, false, false, false, false, false, false, false, false, false, false, false, false, false, false] rfl rfl (by kernel_rfl) (fun _ _ _ h => h) (Or.inl ⟨by rfl, ?_⟩) hHeld ?_ ?_
      rotate_left
      · rintro w' ⟨s0, s1, s2, s3, s4, s5⟩
        go_simp
        with_reducible rfl
      rotate_left
      · simp only [Act.put, List.setIfInBounds_toArray, List.set_cons_zero, List.set_cons_succ, i64_w, i32_w]
        rfl
      refine pure_ (i := 2) (N := some 48) (v := ?_) (a' := ?_) #[true, true, true, false, false, false, false, false, false, false, false, false, false, false, false, false, false] rfl rfl (by kernel_rfl) (fun _ _ _ h => h) (Or.inl ⟨by rfl, ?_⟩) ?_ ?_
      rotate_left
      · intro w'
        go_simp
        with_reducible rfl
      rotate_left
      · simp only [Act.put, List.setIfInBounds_toArray, List.set_cons_zero, List.set_cons_succ, i64_w, i32_w]
        rfl
      refine pure_ (i := 3) (N := some 49) (v := ?_) (a' := ?_) #[true, true, true, true, false, false, false, false, false, false, false, false, false, false, false, false, false] rfl rfl (by kernel_rfl) (fun _ _ _ h => h) (Or.inl ⟨by rfl, ?_⟩) ?_ ?_
      rotate_left
      · intro w'
        go_simp
        with_reducible rfl
      rotate_left
      · simp only [Act.put, List.setIfInBounds_toArray, List.set_cons_zero, List.set_cons_succ, i64_w, i32_w]
        rfl
      refine pure_ (i := 4) (N := some 50) (v := ?_) (a' := ?_) #[true, true, true, true, true, false, false, false, false, false, false, false, false, false, false, false, false] rfl rfl (by kernel_rfl) (fun _ _ _ h => h) (Or.inl ⟨by rfl, ?_⟩) ?_ ?_
      rotate_left
      · intro w'
        go_simp
        with_reducible rfl
      rotate_left
      · simp only [Act.put, List.setIfInBounds_toArray, List.set_cons_zero, List.set_cons_succ, i64_w, i32_w]
        rfl
      refine take_ (i := 5) (N := some 51) (v := ?_) (a' := ?_) #[true, true, true, true, true, true, false, false, false, false, false, false, false, false, false, false, false] rfl rfl (by kernel_rfl) (fun _ _ _ h => h) (Or.inl ⟨by rfl, ?_⟩) hHeld ?_ ?_
      rotate_left
      · rintro w' ⟨s0, s1, s2, s3, s4, s5⟩
        go_simp
        with_reducible rfl
      rotate_left
      · simp only [Act.put, List.setIfInBounds_toArray, List.set_cons_zero, List.set_cons_succ, i64_w, i32_w]
        rfl
      refine pure_ (i := 6) (N := some 52) (v := ?_) (a' := ?_) #[true, true, true, true, true, true, true, false, false, false, false, false, false, false, false, false, false] rfl rfl (by kernel_rfl) (fun _ _ _ h => h) (Or.inl ⟨by rfl, ?_⟩) ?_ ?_
      rotate_left
      · intro w'
        go_simp
        with_reducible rfl
      rotate_left
      · simp only [Act.put, List.setIfInBounds_toArray, List.set_cons_zero, List.set_cons_succ, i64_w, i32_w]
        rfl
      refine pure_ (i := 7) (N := some 53) (v := ?_) (a' := ?_) #[true, true, true, true, true, true, true, true, false, false, false, false, false, false, false, false, false] rfl rfl (by kernel_rfl) (fun _ _ _ h => h) (Or.inl ⟨by rfl, ?_⟩) ?_ ?_
      rotate_left
      · intro w'
        go_simp
        with_reducible rfl
      rotate_left
      · simp only [Act.put, List.setIfInBounds_toArray, List.set_cons_zero, List.set_cons_succ, i64_w, i32_w]
        rfl
      refine pure_ (i := 8) (N := some 54) (v := ?_) (a' := ?_) #[true, true, true, true, true, true, true, true, true, false, false, false, false, false, false, false, false] rfl rfl (by kernel_rfl) (fun _ _ _ h => h) (Or.inl ⟨by rfl, ?_⟩) ?_ ?_
      rotate_left
      · intro w'
        go_simp
        with_reducible rfl
      rotate_left
      · simp only [Act.put, List.setIfInBounds_toArray, List.set_cons_zero, List.set_cons_succ, i64_w, i32_w]
        rfl
      refine pure_ (i := 9) (N := some 55) (v := ?_) (a' := ?_) #[true, true, true, true, true, true, true, true, true, true, false, false, false, false, false, false, false] rfl rfl (by kernel_rfl) (fun _ _ _ h => h) (Or.inl ⟨by rfl, ?_⟩) ?_ ?_
      rotate_left
      · intro w'
        go_simp
        with_reducible rfl
      rotate_left
      · simp only [Act.put, List.setIfInBounds_toArray, List.set_cons_zero, List.set_cons_succ, i64_w, i32_w]
        rfl
      refine take_ (i := 10) (N := some 56) (v := ?_) (a' := ?_) #[true, true, true, true, true, true, true, true, true, true, true, false, false, false, false, false, false] rfl rfl (by kernel_rfl) (fun _ _ _ h => h) (Or.inl ⟨by rfl, ?_⟩) hHeld ?_ ?_
      rotate_left
      · rintro w' ⟨s0, s1, s2, s3, s4, s5⟩
        go_simp
        with_reducible rfl
      rotate_left
      · simp only [Act.put, List.setIfInBounds_toArray, List.set_cons_zero, List.set_cons_succ, i64_w, i32_w]
        rfl
      refine pure_ (i := 11) (N := some 57) (v := ?_) (a' := ?_) #[true, true, true, true, true, true, true, true, true, true, true, true, false, false, false, false, false] rfl rfl (by kernel_rfl) (fun _ _ _ h => h) (Or.inl ⟨by rfl, ?_⟩) ?_ ?_
      rotate_left
      · intro w'
        go_simp
        with_reducible rfl
      rotate_left
      · simp only [Act.put, List.setIfInBounds_toArray, List.set_cons_zero, List.set_cons_succ, i64_w, i32_w]
        rfl
      refine take_ (i := 12) (N := some 58) (v := ?_) (a' := ?_) #[true, true, true, true, true, true, true, true, true, true, true, true, true, false, false, false, false] rfl rfl (by kernel_rfl) (fun _ _ _ h => h) (Or.inl ⟨by rfl, ?_⟩) hHeld ?_ ?_
      rotate_left
      · rintro w' ⟨s0, s1, s2, s3, s4, s5⟩
        go_simp
        with_reducible rfl
      rotate_left
      · simp only [Act.put, List.setIfInBounds_toArray, List.set_cons_zero, List.set_cons_succ, i64_w, i32_w]
        rfl
      refine take_ (i := 13) (N := some 59) (v := ?_) (a' := ?_) #[true, true, true, true, true, true, true, true, true, true, true, true, true, true, false, false, false] rfl rfl (by kernel_rfl) (fun _ _ _ h => h) (Or.inl ⟨by rfl, ?_⟩) hHeld ?_ ?_
      rotate_left
      · rintro w' ⟨s0, s1, s2, s3, s4, s5⟩
        go_simp
        with_reducible rfl
      rotate_left
      · simp only [Act.put, List.setIfInBounds_toArray, List.set_cons_zero, List.set_cons_succ, i64_w, i32_w]
        rfl
      refine last_ (i := 14) (N := some 60) #[true, true, true, true, true, true, true, true, true, true, true, true, true, true, true, false, false] rfl rfl (by kernel_rfl) (by decide) (fun K hK => ?_)
      refine goesV_ HFN.out.1 HFN.out.2.1 HFN.out.2.2 #[.pointer (some ⟨T, 0, none⟩), .agg #[.int .i64 (k : Int), .int .i64 x1, .int .i64 x2, .int .i64 x3, .int .i64 x4]] (by rfl) rfl rfl (by rfl) (by simp only [List.map_toArray, List.map_cons, List.map_nil]; rfl) ?_
      refine HC.out.mono ?_
      rintro e w5 ⟨rfl, hb5, hy5⟩
      refine ⟨_, rfl, ?_⟩
      refine hK.out _ _ ?_
      clear hK K
      refine norm_ (a' := ?_) ?_ ?_
      rotate_left
      · show Act.put _ (some 60) _ = _
        simp only [Act.put, List.setIfInBounds_toArray, List.set_cons_zero, List.set_cons_succ, i64_w, i32_w]
        rfl
      refine pure_ (i := 15) (N := some 61) (v := ?_) (a' := ?_) #[true, true, true, true, true, true, true, true, true, true, true, true, true, true, true, true, false] rfl rfl (by kernel_rfl) (fun _ _ _ h => h) (Or.inl ⟨by rfl, ?_⟩) ?_ ?_
      rotate_left
      · intro w'
        go_simp
        with_reducible rfl
      rotate_left
      · simp only [Act.put, List.setIfInBounds_toArray, List.set_cons_zero, List.set_cons_succ, i64_w, i32_w]
        rfl
      refine pure_ (i := 16) (N := some 62) (v := ?_) (a' := ?_) #[true, true, true, true, true, true, true, true, true, true, true, true, true, true, true, true, true] rfl rfl (by kernel_rfl) (fun _ _ _ h => h) (Or.inl ⟨by rfl, ?_⟩) ?_ ?_
      rotate_left
      · intro w'
        go_simp
        with_reducible rfl
      rotate_left
      · simp only [Act.put, List.setIfInBounds_toArray, List.set_cons_zero, List.set_cons_succ, i64_w, i32_w]
        rfl
      refine done_ (by kernel_rfl) ?_
      have HB5 := Aside0.mk (HB4.out.trans (below_undrew hb5))
      have HY5 := Aside0.mk hy5
      clear hb5 hy5 hHeld hd hd3 hki1 hki4 c8 k0 k1 k2 k3 k4
      cases o with
      | none =>
        have hqn : q = none := HQ.out.symm.trans (of_none HX.out.1 HS.out (by rw [HX.out.2]; exact HST.out))
        subst hqn
        go_wp2
        go_ret2
        exact ⟨HB5.out, rfl⟩
      | some t =>
        have HO5 := Aside0.mk (HY5.out t rfl).1
        have BK5 : Aside0 (w5.heap[G10]? = some (.cells #[.int .i64 (k : Int), .int .i64 x1, .int .i64 x2, .int .i64 x3, .int .i64 x4] 53 (0, 0))) := ⟨blk_ts (W := w4.drew) BK.out (by decide) (by decide) (HY5.out t rfl).2⟩
        have HNX := Aside0.mk (of_next HX.out.1 HS.out (by rw [HX.out.2]; exact HST.out))
        have k0 : w5.cell? ⟨G10, 0, none⟩ = some (.int .i64 (k : Int)) := (blk_cell BK5.out 0).trans rfl
        by_cases h1 : k = 1
        · subst h1
          have k1 : w5.cell? ⟨G10, 1, none⟩ = some (.int .i64 x1) := (blk_cell BK5.out 1).trans rfl
          have k2 : w5.cell? ⟨G10, 2, none⟩ = some (.int .i64 x2) := (blk_cell BK5.out 2).trans rfl
          have k3 : w5.cell? ⟨G10, 3, none⟩ = some (.int .i64 x3) := (blk_cell BK5.out 3).trans rfl
          have k4 : w5.cell? ⟨G10, 4, none⟩ = some (.int .i64 x4) := (blk_cell BK5.out 4).trans rfl
          obtain ⟨m, hm, htn, hte, hth, hpe, hph⟩ := fork_facts HI.out HN.out.1 HST.out rfl
          have HPE := Aside0.mk hpe
          have HPH := Aside0.mk hph
          have HTE := Aside0.mk (And.intro htn (And.intro hte hth))
          have HM := Aside0.mk hm
          clear hm htn hte hth hpe hph HX HST HY5 HF4 BK HB4 HC HFN
          have hbA := below_alloc (Below.refl w5.heap.size w5) (.cells #[.int .i64 x2, .int .i64 x3, .int .i64 x4] 3)
          have k2' := cell_step hbA k2
          have k3' := cell_step hbA k3
          have k4' := cell_step hbA k4
          have hzA : (w5.alloc (.cells #[.int .i64 x2, .int .i64 x3, .int .i64 x4] 3)).heap.size = w5.heap.size + 1 := by simp
          have hbB := below_alloc hbA (.cells #[.int .i64 x3, .int .i64 x2, .int .i64 x4] 3)
          have hw5 : w.heap.size ≤ w5.heap.size := below_size HB5.out
          have hR1 : Kd.R (Kd.int .i64) 3 (w5.alloc (.cells #[.int .i64 x2, .int .i64 x3, .int .i64 x4] 3)) w.heap.size (fun _ => True) (.slice (some ⟨w5.heap.size, 0, none⟩) 3 3) [x2, x3, x4] := Kd.R_of_own (enc := Value.int .i64) (h1 := fun _ => rfl) (own_lit w5 w.heap.size 3 .i64 [x2, x3, x4] hw5 (by simp)) (fun _ _ => trivial)
          have hR2 : Kd.R (Kd.int .i64) 3 ((w5.alloc (.cells #[.int .i64 x2, .int .i64 x3, .int .i64 x4] 3)).alloc (.cells #[.int .i64 x3, .int .i64 x2, .int .i64 x4] 3)) w.heap.size (fun _ => True) (.slice (some ⟨w5.heap.size + 1, 0, none⟩) 3 3) [x3, x2, x4] := by
            have := own_lit (w5.alloc (.cells #[.int .i64 x2, .int .i64 x3, .int .i64 x4] 3)) w.heap.size 3 .i64 [x3, x2, x4] (by omega) (by simp)
            rw [hzA] at this
            exact Kd.R_of_own (enc := Value.int .i64) (h1 := fun _ => rfl) this (fun _ _ => trivial)
          have HA1 := Aside0.mk (Kd.R_alloc hR1 (.cells #[.int .i64 x3, .int .i64 x2, .int .i64 x4] 3))
          have HA2 := Aside0.mk hR2
          have HO7 := Aside0.mk (HO5.out.below hbB)
          have BK7 := Aside0.mk (blk_below BK5.out hbB)
          have HB7 := Aside0.mk (HB5.out.trans (hbB.mono hw5))
          clear hbA hbB hw5 hR1 hR2 hzA
          go_wp2
          generalize hw7 : (w5.alloc (.cells #[.int .i64 x2, .int .i64 x3, .int .i64 x4] 3)).alloc (.cells #[.int .i64 x3, .int .i64 x2, .int .i64 x4] 3) = w7 at HA1 HA2 HO7 BK7 HB7 ⊢
          generalize hg1 : w5.heap.size + 1 = g2 at HA2 ⊢
          generalize hg2 : w5.heap.size = g1 at HA1 ⊢
          clear hw7 hg1 hg2 k0 k1 k2 k3 k4 k2' k3' k4' HB5 BK5 HO5
          have HKO := HK
          obtain ⟨gk0, hgk0⟩ : ∃ q, gk = q := ⟨_, rfl⟩
          rw [hgk0] at HKO
          go_loopg [81] 3 (fun kq v81 w' => ∃ (j : Nat), v81 = .int .i64 (j : Int) ∧ (j : Int) ≤ 2 ∧ Aside0 (kq + j = 3) ∧ Aside0 (OfAt w' w.heap.size T PE mE PH mH G7 G8 { t with e := if 1 ≤ j then t.e else s.e, h := if 2 ≤ j then t.h else s.h }) ∧ Aside0 (w'.heap[G10]? = some (.cells #[.int .i64 1, .int .i64 x1, .int .i64 x2, .int .i64 x3, .int .i64 x4] 53 (0, 0))) ∧ Aside0 (Kd.R (Kd.int .i64) 3 w' w.heap.size (fun _ => True) (.slice (some ⟨g1, 0, none⟩) 3 3) [x2, x3, x4]) ∧ Aside0 (Kd.R (Kd.int .i64) 3 w' w.heap.size (fun _ => True) (.slice (some ⟨g2, 0, none⟩) 3 3) [x3, x2, x4]) ∧ Aside0 (Below w.heap.size w w'))
          case atStart => exact ⟨0, rfl, by omega, ⟨rfl⟩, HO7, BK7, HA1, HA2, HB7⟩
          case round =>
            obtain ⟨j, rfl, hj2, HK, HO, BK, HA1, HA2, HB⟩ := hrel
            have hj : j = 0 ∨ j = 1 ∨ j = 2 := by omega
            rcases hj with hj | hj | hj
            · subst hj
              have HO := HO.out
              simp only [Nat.not_le.2 (Nat.zero_lt_one), if_false, Nat.not_le.2 (Nat.zero_lt_two)] at HO
              have HO := Aside0.mk HO
              obtain ⟨gt, ct, hts⟩ := HO.out.ts
              have kn : wr.cell? ⟨T, 1, none⟩ = some (.int .i64 ((m : Int) + (s.n : Int))) := by rw [(ts_cells hts).2.1, HTE.out.1]; congr 2; omega
              have k1 : wr.cell? ⟨G10, 1, none⟩ = some (.int .i64 x1) := (blk_cell BK.out 1).trans rfl
              have c7 : wr.cell? ⟨G7, 0, none⟩ = some (.func (.func 24) #[.pointer (some ⟨PE, 0, none⟩)] #[]) := (blk_cell HO.out.p7 0).trans rfl
              have hlm : ([x2, x3, x4].take m).length = m := by rcases HM.out with e | e <;> subst e <;> rfl
              have hcall := put_calls w.heap.size PE mE w.heap.size (some ⟨g1, 0, none⟩) 3 x1 ([x2, x3, x4].take m) s.e wr.drew (ls_below HO.out.e (below_drew (Below.refl _ _))) (by rw [hlm]; exact Kd.R_take (Kd.R_drew HA1.out) (by rcases HM.out with e | e <;> subst e <;> simp)) HPE.out.x HPE.out.nd HPE.out.new HPE.out.len
              rw [hlm] at hcall
              have HC := Aside0.mk hcall
              have hi0 := idx0
              have hi1 := idx1
              have hm0 : (0 : Int) ≤ (m : Int) := by omega
              have hm3 : (m : Int) ≤ 3 := by rcases HM.out with e | e <;> omega
              have hwm : wrap64 (m : Int) = (m : Int) := by unfold wrap64; omega
              clear hcall hlm hts
              go_wp2
              refine start_ (n := 14) (S := fun w' => w'.cell? ⟨G7, 0, none⟩ = some (.func (.func 24) #[.pointer (some ⟨PE, 0, none⟩)] #[]) ∧ w'.cell? ⟨G10, 1, none⟩ = some (.int .i64 x1) ∧ w'.cell? ⟨T, 1, none⟩ = some (.int .i64 ((m : Int) + (s.n : Int)))) (ds := [13]) #[false, false, false, false, false, false, false, false, false, false, false, false, false, false] (by kernel_rfl) rfl rfl ⟨c7, k1, kn⟩ (fun hHeld => ?_)
              refine pure_ (i := 0) (N := some 85) (v := ?_) (a' := ?_) #[true, false, false, false, false, false, false, false, false, false, false, false, false, false] rfl rfl (by kernel_rfl) (fun _ _ _ h => h) (Or.inl ⟨by rfl, ?_⟩) ?_ ?_
              rotate_left
              · intro w'
                go_simp
                with_reducible rfl
              rotate_left
              · simp only [Act.put, List.setIfInBounds_toArray, List.set_cons_zero, List.set_cons_succ, i64_w, i32_w]
                rfl
              refine pure_ (i := 1) (N := some 86) (v := ?_) (a' := ?_) #[true, true, false, false, false, false, false, false, false, false, false, false, false, false] rfl rfl (by kernel_rfl) (fun _ _ _ h => h) (Or.inl ⟨by rfl, ?_⟩) ?_ ?_
              rotate_left
              · intro w'
                go_simp
                with_reducible rfl
              rotate_left
              · simp only [Act.put, List.setIfInBounds_toArray, List.set_cons_zero, List.set_cons_succ, i64_w, i32_w]
                rfl
              refine pure_ (i := 3) (N := some 88) (v := ?_) (a' := ?_) #[true, true, false, true, false, false, false, false, false, false, false, false, false, false] rfl rfl (by kernel_rfl) (fun _ _ _ h => h) (Or.inl ⟨by rfl, ?_⟩) ?_ ?_
              rotate_left
              · intro w'
                go_simp
                with_reducible rfl
              rotate_left
              · simp only [Act.put, List.setIfInBounds_toArray, List.set_cons_zero, List.set_cons_succ, i64_w, i32_w]
                rfl
              refine pure_ (i := 5) (N := some 90) (v := ?_) (a' := ?_) #[true, true, false, true, false, true, false, false, false, false, false, false, false, false] rfl rfl (by kernel_rfl) (fun _ _ _ h => h) (Or.inl ⟨by rfl, ?_⟩) ?_ ?_
              rotate_left
              · intro w'
                go_simp
                with_reducible rfl
              rotate_left
              · simp only [Act.put, List.setIfInBounds_toArray, List.set_cons_zero, List.set_cons_succ, i64_w, i32_w]
                rfl
              refine pure_ (i := 6) (N := some 91) (v := ?_) (a' := ?_) #[true, true, false, true, false, true, true, false, false, false, false, false, false, false] rfl rfl (by kernel_rfl) (fun _ _ _ h => h) (Or.inl ⟨by rfl, ?_⟩) ?_ ?_
              rotate_left
              · intro w'
                go_simp
                with_reducible rfl
              rotate_left
              · simp only [Act.put, List.setIfInBounds_toArray, List.set_cons_zero, List.set_cons_succ, i64_w, i32_w]
                rfl
              refine pure_ (i := 7) (N := some 92) (v := ?_) (a' := ?_) #[true, true, false, true, false, true, true, true, false, false, false, false, false, false] rfl rfl (by kernel_rfl) (fun _ _ _ h => h) (Or.inl ⟨by rfl, ?_⟩) ?_ ?_
              rotate_left
              · intro w'
                go_simp
                with_reducible rfl
              rotate_left
              · simp only [Act.put, List.setIfInBounds_toArray, List.set_cons_zero, List.set_cons_succ, i64_w, i32_w]
                rfl
              refine pure_ (i := 8) (N := some 93) (v := ?_) (a' := ?_) #[true, true, false, true, false, true, true, true, true, false, false, false, false, false] rfl rfl (by kernel_rfl) (fun _ _ _ h => h) (Or.inl ⟨by rfl, ?_⟩) ?_ ?_
              rotate_left
              · intro w'
                go_simp
                with_reducible rfl
              rotate_left
              · simp only [Act.put, List.setIfInBounds_toArray, List.set_cons_zero, List.set_cons_succ, i64_w, i32_w]
                rfl
              refine pure_ (i := 10) (N := some 95) (v := ?_) (a' := ?_) #[true, true, false, true, false, true, true, true, true, false, true, false, false, false] rfl rfl (by kernel_rfl) (fun _ _ _ h => h) (Or.inl ⟨by rfl, ?_⟩) ?_ ?_
              rotate_left
              · intro w'
                go_simp
                with_reducible rfl
              rotate_left
              · simp only [Act.put, List.setIfInBounds_toArray, List.set_cons_zero, List.set_cons_succ, i64_w, i32_w]
                rfl
              refine take_ (i := 2) (N := some 87) (v := ?_) (a' := ?_) #[true, true, true, true, false, true, true, true, true, false, true, false, false, false] rfl rfl (by kernel_rfl) (fun _ _ _ h => h) (Or.inl ⟨by rfl, ?_⟩) hHeld ?_ ?_
              rotate_left
              · rintro w' ⟨s0, s1, s2⟩
                go_simp
                with_reducible rfl
              rotate_left
              · simp only [Act.put, List.setIfInBounds_toArray, List.set_cons_zero, List.set_cons_succ, i64_w, i32_w]
                rfl
              refine take_ (i := 4) (N := some 89) (v := ?_) (a' := ?_) #[true, true, true, true, true, true, true, true, true, false, true, false, false, false] rfl rfl (by kernel_rfl) (fun _ _ _ h => h) (Or.inl ⟨by rfl, ?_⟩) hHeld ?_ ?_
              rotate_left
              · rintro w' ⟨s0, s1, s2⟩
                go_simp
                with_reducible rfl
              rotate_left
              · simp only [Act.put, List.setIfInBounds_toArray, List.set_cons_zero, List.set_cons_succ, i64_w, i32_w]
                rfl
              refine take_ (i := 9) (N := some 94) (v := ?_) (a' := ?_) #[true, true, true, true, true, true, true, true, true, true, true, false, false, false] rfl rfl (by kernel_rfl) (fun _ _ _ h => h) (Or.inl ⟨by rfl, ?_⟩) hHeld ?_ ?_
              rotate_left
              · rintro w' ⟨s0, s1, s2⟩
                go_simp
                with_reducible rfl
              rotate_left
              · simp only [Act.put, List.setIfInBounds_toArray, List.set_cons_zero, List.set_cons_succ, i64_w, i32_w]
                rfl
              refine pure_ (i := 11) (N := some 96) (v := ?_) (a' := ?_) #[true, true, true, true, true, true, true, true, true, true, true, true, false, false] rfl rfl (by kernel_rfl) (fun _ _ _ h => h) (Or.inl ⟨by rfl, ?_⟩) ?_ ?_
              rotate_left
              · intro w'
                go_simp
                with_reducible rfl
              rotate_left
              · simp only [Act.put, List.setIfInBounds_toArray, List.set_cons_zero, List.set_cons_succ, i64_w, i32_w]
                rfl
              refine pure_ (i := 12) (N := some 97) (v := ?_) (a' := ?_) #[true, true, true, true, true, true, true, true, true, true, true, true, true, false] rfl rfl (by kernel_rfl) (fun _ _ _ h => h) (Or.inl ⟨by rfl, ?_⟩) ?_ ?_
              rotate_left
              · intro w'
                go_simp
                with_reducible rfl
              rotate_left
              · simp only [Act.put, List.setIfInBounds_toArray, List.set_cons_zero, List.set_cons_succ, i64_w, i32_w]
                rfl
              refine last_ (i := 13) (N := some 98) #[true, true, true, true, true, true, true, true, true, true, true, true, true, true] rfl rfl (by kernel_rfl) (by decide) (fun K hK => ?_)
              refine goesV_ Try.func24 (by kernel_rfl) rfl #[.pointer (some ⟨PE, 0, none⟩), .int .i64 x1, .slice (some ⟨g1, 0, none⟩) m 3] (by rfl) rfl rfl (by rfl) (by simp only [List.map_toArray, List.map_cons, List.map_nil]; rfl) ?_
              refine HC.out.mono ?_
              rintro e w9 ⟨rfl, hls9, hb9, hk9⟩
              refine ⟨_, rfl, ?_⟩
              refine hK.out _ _ ?_
              clear hK K
              refine norm_ (a' := ?_) ?_ ?_
              rotate_left
              · show Act.put _ (some 98) _ = _
                simp only [Act.put, List.setIfInBounds_toArray, List.set_cons_zero, List.set_cons_succ, i64_w, i32_w]
                rfl
              refine done_ (by kernel_rfl) ?_
              have hod := HO.out.below (below_drew (Below.refl wr.heap.size wr))
              have HO9 := Aside0.mk (OfAt.putE hod hls9 hk9)
              have BK9 : Aside0 (w9.heap[G10]? = some (.cells #[.int .i64 1, .int .i64 x1, .int .i64 x2, .int .i64 x3, .int .i64 x4] 53 (0, 0))) := ⟨blk_only (W := wr.drew) BK.out hod.e (by decide) hk9⟩
              have HA1' := Aside0.mk (R_only (Kd.R_drew HA1.out) hod.e hk9)
              have HA2' := Aside0.mk (R_only (Kd.R_drew HA2.out) hod.e hk9)
              have HB9 := Aside0.mk (HB.out.trans (below_undrew hb9))
              clear hls9 hb9 hk9 hod hHeld hwm hm0 hm3 kn k1 c7
              go_wp2
              go_roundg (gk - 1)
              case measure => have := HK.out; omega
              case rel => exact ⟨1, by go_num, by omega, ⟨by have := HK.out; omega⟩, ⟨by have h9 := HO9.out; rw [← HTE.out.2.1] at h9; simpa using h9⟩, BK9, HA1', HA2', HB9⟩
            · subst hj
              have HO := HO.out
              simp only [Nat.le_refl, if_true, Nat.not_le.2 (Nat.lt_succ_self 1), if_false] at HO
              have HO := Aside0.mk HO
              obtain ⟨gt, ct, hts⟩ := HO.out.ts
              have kn : wr.cell? ⟨T, 1, none⟩ = some (.int .i64 ((m : Int) + (s.n : Int))) := by rw [(ts_cells hts).2.1, HTE.out.1]; congr 2; omega
              have k1 : wr.cell? ⟨G10, 1, none⟩ = some (.int .i64 x1) := (blk_cell BK.out 1).trans rfl
              have c7 : wr.cell? ⟨G7, 1, none⟩ = some (.func (.func 24) #[.pointer (some ⟨PH, 0, none⟩)] #[]) := (blk_cell HO.out.p7 1).trans rfl
              have hlm : ([x3, x2, x4].take m).length = m := by rcases HM.out with e | e <;> subst e <;> rfl
              have hcall := put_calls w.heap.size PH mH w.heap.size (some ⟨g2, 0, none⟩) 3 x1 ([x3, x2, x4].take m) s.h wr.drew (ls_below HO.out.h (below_drew (Below.refl _ _))) (by rw [hlm]; exact Kd.R_take (Kd.R_drew HA2.out) (by rcases HM.out with e | e <;> subst e <;> simp)) HPH.out.x HPH.out.nd HPH.out.new HPH.out.len
              rw [hlm] at hcall
              have HC := Aside0.mk hcall
              have hi0 := idx0
              have hi1 := idx1
              have hm0 : (0 : Int) ≤ (m : Int) := by omega
              have hm3 : (m : Int) ≤ 3 := by rcases HM.out with e | e <;> omega
              have hwm : wrap64 (m : Int) = (m : Int) := by unfold wrap64; omega
              clear hcall hlm hts
              go_wp2
              refine start_ (n := 14) (S := fun w' => w'.cell? ⟨G7, 1, none⟩ = some (.func (.func 24) #[.pointer (some ⟨PH, 0, none⟩)] #[]) ∧ w'.cell? ⟨G10, 1, none⟩ = some (.int .i64 x1) ∧ w'.cell? ⟨T, 1, none⟩ = some (.int .i64 ((m : Int) + (s.n : Int)))) (ds := [13]) #[false, false, false, false, false, false, false, false, false, false, false, false, false, false] (by kernel_rfl) rfl rfl ⟨c7, k1, kn⟩ (fun hHeld => ?_)
              refine pure_ (i := 0) (N := some 85) (v := ?_) (a' := ?_) #[true, false, false, false, false, false, false, false, false, false, false, false, false, false] rfl rfl (by kernel_rfl) (fun _ _ _ h => h) (Or.inl ⟨by rfl, ?_⟩) ?_ ?_
              rotate_left
              · intro w'
                go_simp
                with_reducible rfl
              rotate_left
              · simp only [Act.put, List.setIfInBounds_toArray, List.set_cons_zero, List.set_cons_succ, i64_w, i32_w]
                rfl
              refine pure_ (i := 1) (N := some 86) (v := ?_) (a' := ?_) #[true, true, false, false, false, false, false, false, false, false, false, false, false, false] rfl rfl (by kernel_rfl) (fun _ _ _ h => h) (Or.inl ⟨by rfl, ?_⟩) ?_ ?_
              rotate_left
              · intro w'
                go_simp
                with_reducible rfl
              rotate_left
              · simp only [Act.put, List.setIfInBounds_toArray, List.set_cons_zero, List.set_cons_succ, i64_w, i32_w]
                rfl
              refine pure_ (i := 3) (N := some 88) (v := ?_) (a' := ?_) #[true, true, false, true, false, false, false, false, false, false, false, false, false, false] rfl rfl (by kernel_rfl) (fun _ _ _ h => h) (Or.inl ⟨by rfl, ?_⟩) ?_ ?_
              rotate_left
              · intro w'
                go_simp
                with_reducible rfl
              rotate_left
              · simp only [Act.put, List.setIfInBounds_toArray, List.set_cons_zero, List.set_cons_succ, i64_w, i32_w]
                rfl
              refine pure_ (i := 5) (N := some 90) (v := ?_) (a' := ?_) #[true, true, false, true, false, true, false, false, false, false, false, false, false, false] rfl rfl (by kernel_rfl) (fun _ _ _ h => h) (Or.inl ⟨by rfl, ?_⟩) ?_ ?_
              rotate_left
              · intro w'
                go_simp
                with_reducible rfl
              rotate_left
              · simp only [Act.put, List.setIfInBounds_toArray, List.set_cons_zero, List.set_cons_succ, i64_w, i32_w]
                rfl
              refine pure_ (i := 6) (N := some 91) (v := ?_) (a' := ?_) #[true, true, false, true, false, true, true, false, false, false, false, false, false, false] rfl rfl (by kernel_rfl) (fun _ _ _ h => h) (Or.inl ⟨by rfl, ?_⟩) ?_ ?_
              rotate_left
              · intro w'
                go_simp
                with_reducible rfl
              rotate_left
              · simp only [Act.put, List.setIfInBounds_toArray, List.set_cons_zero, List.set_cons_succ, i64_w, i32_w]
                rfl
              refine pure_ (i := 7) (N := some 92) (v := ?_) (a' := ?_) #[true, true, false, true, false, true, true, true, false, false, false, false, false, false] rfl rfl (by kernel_rfl) (fun _ _ _ h => h) (Or.inl ⟨by rfl, ?_⟩) ?_ ?_
              rotate_left
              · intro w'
                go_simp
                with_reducible rfl
              rotate_left
              · simp only [Act.put, List.setIfInBounds_toArray, List.set_cons_zero, List.set_cons_succ, i64_w, i32_w]
                rfl
              refine pure_ (i := 8) (N := some 93) (v := ?_) (a' := ?_) #[true, true, false, true, false, true, true, true, true, false, false, false, false, false] rfl rfl (by kernel_rfl) (fun _ _ _ h => h) (Or.inl ⟨by rfl, ?_⟩) ?_ ?_
              rotate_left
              · intro w'
                go_simp
                with_reducible rfl
              rotate_left
              · simp only [Act.put, List.setIfInBounds_toArray, List.set_cons_zero, List.set_cons_succ, i64_w, i32_w]
                rfl
              refine pure_ (i := 10) (N := some 95) (v := ?_) (a' := ?_) #[true, true, false, true, false, true, true, true, true, false, true, false, false, false] rfl rfl (by kernel_rfl) (fun _ _ _ h => h) (Or.inl ⟨by rfl, ?_⟩) ?_ ?_
              rotate_left
              · intro w'
                go_simp
                with_reducible rfl
              rotate_left
              · simp only [Act.put, List.setIfInBounds_toArray, List.set_cons_zero, List.set_cons_succ, i64_w, i32_w]
                rfl
              refine take_ (i := 2) (N := some 87) (v := ?_) (a' := ?_) #[true, true, true, true, false, true, true, true, true, false, true, false, false, false] rfl rfl (by kernel_rfl) (fun _ _ _ h => h) (Or.inl ⟨by rfl, ?_⟩) hHeld ?_ ?_
              rotate_left
              · rintro w' ⟨s0, s1, s2⟩
                go_simp
                with_reducible rfl
              rotate_left
              · simp only [Act.put, List.setIfInBounds_toArray, List.set_cons_zero, List.set_cons_succ, i64_w, i32_w]
                rfl
              refine take_ (i := 4) (N := some 89) (v := ?_) (a' := ?_) #[true, true, true, true, true, true, true, true, true, false, true, false, false, false] rfl rfl (by kernel_rfl) (fun _ _ _ h => h) (Or.inl ⟨by rfl, ?_⟩) hHeld ?_ ?_
              rotate_left
              · rintro w' ⟨s0, s1, s2⟩
                go_simp
                with_reducible rfl
              rotate_left
              · simp only [Act.put, List.setIfInBounds_toArray, List.set_cons_zero, List.set_cons_succ, i64_w, i32_w]
                rfl
              refine take_ (i := 9) (N := some 94) (v := ?_) (a' := ?_) #[true, true, true, true, true, true, true, true, true, true, true, false, false, false] rfl rfl (by kernel_rfl) (fun _ _ _ h => h) (Or.inl ⟨by rfl, ?_⟩) hHeld ?_ ?_
              rotate_left
              · rintro w' ⟨s0, s1, s2⟩
                go_simp
                with_reducible rfl
              rotate_left
              · simp only [Act.put, List.setIfInBounds_toArray, List.set_cons_zero, List.set_cons_succ, i64_w, i32_w]
                rfl
              refine pure_ (i := 11) (N := some 96) (v := ?_) (a' := ?_) #[true, true, true, true, true, true, true, true, true, true, true, true, false, false] rfl rfl (by kernel_rfl) (fun _ _ _ h => h) (Or.inl ⟨by rfl, ?_⟩) ?_ ?_
              rotate_left
              · intro w'
                go_simp
                with_reducible rfl
              rotate_left
              · simp only [Act.put, List.setIfInBounds_toArray, List.set_cons_zero, List.set_cons_succ, i64_w, i32_w]
                rfl
              refine pure_ (i := 12) (N := some 97) (v := ?_) (a' := ?_) #[true, true, true, true, true, true, true, true, true, true, true, true, true, false] rfl rfl (by kernel_rfl) (fun _ _ _ h => h) (Or.inl ⟨by rfl, ?_⟩) ?_ ?_
              rotate_left
              · intro w'
                go_simp
                with_reducible rfl
              rotate_left
              · simp only [Act.put, List.setIfInBounds_toArray, List.set_cons_zero, List.set_cons_succ, i64_w, i32_w]
                rfl
              refine last_ (i := 13) (N := some 98) #[true, true, true, true, true, true, true, true, true, true, true, true, true, true] rfl rfl (by kernel_rfl) (by decide) (fun K hK => ?_)
              refine goesV_ Try.func24 (by kernel_rfl) rfl #[.pointer (some ⟨PH, 0, none⟩), .int .i64 x1, .slice (some ⟨g2, 0, none⟩) m 3] (by rfl) rfl rfl (by rfl) (by simp only [List.map_toArray, List.map_cons, List.map_nil]; rfl) ?_
              refine HC.out.mono ?_
              rintro e w9 ⟨rfl, hls9, hb9, hk9⟩
              refine ⟨_, rfl, ?_⟩
              refine hK.out _ _ ?_
              clear hK K
              refine norm_ (a' := ?_) ?_ ?_
              rotate_left
              · show Act.put _ (some 98) _ = _
                simp only [Act.put, List.setIfInBounds_toArray, List.set_cons_zero, List.set_cons_succ, i64_w, i32_w]
                rfl
              refine done_ (by kernel_rfl) ?_
              have hod := HO.out.below (below_drew (Below.refl wr.heap.size wr))
              have HO9 := Aside0.mk (OfAt.putH hod hls9 hk9)
              have BK9 : Aside0 (w9.heap[G10]? = some (.cells #[.int .i64 1, .int .i64 x1, .int .i64 x2, .int .i64 x3, .int .i64 x4] 53 (0, 0))) := ⟨blk_only (W := wr.drew) BK.out hod.h (by decide) hk9⟩
              have HA1' := Aside0.mk (R_only (Kd.R_drew HA1.out) hod.h hk9)
              have HA2' := Aside0.mk (R_only (Kd.R_drew HA2.out) hod.h hk9)
              have HB9 := Aside0.mk (HB.out.trans (below_undrew hb9))
              clear hls9 hb9 hk9 hod hHeld hwm hm0 hm3 kn k1 c7
              go_wp2
              go_roundg (gk - 1)
              case measure => have := HK.out; omega
              case rel => exact ⟨2, by go_num, by omega, ⟨by have := HK.out; omega⟩, ⟨by have h9 := HO9.out; rw [← HTE.out.2.2] at h9; simpa using h9⟩, BK9, HA1', HA2', HB9⟩
            · subst hj
              have HO := HO.out
              rw [if_pos (by decide), if_pos (by decide)] at HO
              have HO := Aside0.mk HO
              go_wp2
              go_roundg (gk0 - 1)
              case measure => have := HKO.out; omega
              case rel => exact ⟨i + 1, t, by go_num, by omega, ⟨by have := HKO.out; omega⟩, HNX, HO, HB⟩
        · have hb : ((k : Int) != 1) = true := by simp; omega
          have HSM := Aside0.mk (ofAt_same HO5.out (step_keeps HST.out (fun e => h1 (by have e' : (k : Int) = 1 := e; omega))))
          clear h1
          go_wp2
          go_roundg (gk - 1)
          case measure => have := HK.out; omega
          case rel => exact ⟨i + 1, t, by go_num, by omega, ⟨by have := HK.out; omega⟩, HNX, HSM, HB5⟩
    · have hil : i = l.length := by omega
      subst hil
      rw [List.take_length] at HS
      have hqs : q = some ((ints s.n).map fun y => (plc s.e y, plc s.h y)) := by
        rw [← HQ.out]
        unfold ofL
        rw [HS.out]
        rfl
      have HQS := Aside0.mk hqs
      have hne : s.e.length = s.n := by rw [HI.out.e.length_eq, ints_len]
      have hnh : s.h.length = s.n := by rw [HI.out.h.length_eq, ints_len]
      have hn1 : (s.n : Int) ≤ 181 := by have := HN.out.1; omega
      have hpos := HI.out.pos
      have hce : ∀ W, LsAt W w.heap.size PE mE s.e → Calls Try.prog 28 #[.pointer (some ⟨PE, 0, none⟩), .int .i64 (s.n : Int)] W fun e w' => ∃ v0_ : Value, e = .returned v0_ ∧ Kd.R (Kd.int .i64) 3 w' W.heap.size (fun _ => True) v0_ ((ints s.n).map (plc s.e)) ∧ Below W.heap.size W w' := fun W hW => by
        have := lplaces_calls w.heap.size PE mE s.e W hW (by rw [hne]; exact HI.out.e) (by omega) (by omega)
        rw [hne] at this
        exact this
      have hch : ∀ W, LsAt W w.heap.size PH mH s.h → Calls Try.prog 28 #[.pointer (some ⟨PH, 0, none⟩), .int .i64 (s.n : Int)] W fun e w' => ∃ v0_ : Value, e = .returned v0_ ∧ Kd.R (Kd.int .i64) 3 w' W.heap.size (fun _ => True) v0_ ((ints s.n).map (plc s.h)) ∧ Below W.heap.size W w' := fun W hW => by
        have := lplaces_calls w.heap.size PH mH s.h W hW (by rw [hnh]; exact HI.out.h) (by omega) (by omega)
        rw [hnh] at this
        exact this
      have HCE := Aside0.mk hce
      have HCH := Aside0.mk hch
      have HLE := Aside0.mk (ls_below HF.out.e (below_drew (Below.refl _ _)))
      have HLH := Aside0.mk (ls_below HF.out.h (below_drew (Below.refl _ _)))
      obtain ⟨gt, ct, hts⟩ := HF.out.ts
      have kn := (ts_cells hts).2.1
      clear hqs hne hnh hce hch hts hpos
      go_wp2
      refine start_ (n := 14) (S := fun w' => w'.cell? ⟨T, 1, none⟩ = some (.int .i64 (s.n : Int))) (ds := [11]) #[false, false, false, false, false, false, false, false, false, false, false, false, false, false] (by kernel_rfl) rfl rfl (kn) (fun hHeld => ?_)
      refine pure_ (i := 0) (N := some 101) (v := ?_) (a' := ?_) #[true, false, false, false, false, false, false, false, false, false, false, false, false, false] rfl rfl (by kernel_rfl) (fun _ _ _ h => h) (Or.inl ⟨by rfl, ?_⟩) ?_ ?_
      rotate_left
      · intro w'
        go_simp
        with_reducible rfl
      rotate_left
      · simp only [Act.put, List.setIfInBounds_toArray, List.set_cons_zero, List.set_cons_succ, i64_w, i32_w]
        rfl
      refine pure_ (i := 1) (N := some 102) (v := ?_) (a' := ?_) #[true, true, false, false, false, false, false, false, false, false, false, false, false, false] rfl rfl (by kernel_rfl) (fun _ _ _ h => h) (Or.inl ⟨by rfl, ?_⟩) ?_ ?_
      rotate_left
      · intro w'
        go_simp
        with_reducible rfl
      rotate_left
      · simp only [Act.put, List.setIfInBounds_toArray, List.set_cons_zero, List.set_cons_succ, i64_w, i32_w]
        rfl
      refine pure_ (i := 2) (N := some 103) (v := ?_) (a' := ?_) #[true, true, true, false, false, false, false, false, false, false, false, false, false, false] rfl rfl (by kernel_rfl) (fun _ _ _ h => h) (Or.inl ⟨by rfl, ?_⟩) ?_ ?_
      rotate_left
      · intro w'
        go_simp
        with_reducible rfl
      rotate_left
      · simp only [Act.put, List.setIfInBounds_toArray, List.set_cons_zero, List.set_cons_succ, i64_w, i32_w]
        rfl
      refine pure_ (i := 3) (N := some 104) (v := ?_) (a' := ?_) #[true, true, true, true, false, false, false, false, false, false, false, false, false, false] rfl rfl (by kernel_rfl) (fun _ _ _ h => h) (Or.inl ⟨by rfl, ?_⟩) ?_ ?_
      rotate_left
      · intro w'
        go_simp
        with_reducible rfl
      rotate_left
      · simp only [Act.put, List.setIfInBounds_toArray, List.set_cons_zero, List.set_cons_succ, i64_w, i32_w]
        rfl
      refine pure_ (i := 6) (N := some 107) (v := ?_) (a' := ?_) #[true, true, true, true, false, false, true, false, false, false, false, false, false, false] rfl rfl (by kernel_rfl) (fun _ _ _ h => h) (Or.inl ⟨by rfl, ?_⟩) ?_ ?_
      rotate_left
      · intro w'
        go_simp
        with_reducible rfl
      rotate_left
      · simp only [Act.put, List.setIfInBounds_toArray, List.set_cons_zero, List.set_cons_succ, i64_w, i32_w]
        rfl
      refine pure_ (i := 7) (N := some 108) (v := ?_) (a' := ?_) #[true, true, true, true, false, false, true, true, false, false, false, false, false, false] rfl rfl (by kernel_rfl) (fun _ _ _ h => h) (Or.inl ⟨by rfl, ?_⟩) ?_ ?_
      rotate_left
      · intro w'
        go_simp
        with_reducible rfl
      rotate_left
      · simp only [Act.put, List.setIfInBounds_toArray, List.set_cons_zero, List.set_cons_succ, i64_w, i32_w]
        rfl
      refine pure_ (i := 8) (N := some 109) (v := ?_) (a' := ?_) #[true, true, true, true, false, false, true, true, true, false, false, false, false, false] rfl rfl (by kernel_rfl) (fun _ _ _ h => h) (Or.inl ⟨by rfl, ?_⟩) ?_ ?_
      rotate_left
      · intro w'
        go_simp
        with_reducible rfl
      rotate_left
      · simp only [Act.put, List.setIfInBounds_toArray, List.set_cons_zero, List.set_cons_succ, i64_w, i32_w]
        rfl
      refine pure_ (i := 9) (N := some 110) (v := ?_) (a' := ?_) #[true, true, true, true, false, false, true, true, true, true, false, false, false, false] rfl rfl (by kernel_rfl) (fun _ _ _ h => h) (Or.inl ⟨by rfl, ?_⟩) ?_ ?_
      rotate_left
      · intro w'
        go_simp
        with_reducible rfl
      rotate_left
      · simp only [Act.put, List.setIfInBounds_toArray, List.set_cons_zero, List.set_cons_succ, i64_w, i32_w]
        rfl
      refine take_ (i := 4) (N := some 105) (v := ?_) (a' := ?_) #[true, true, true, true, true, false, true, true, true, true, false, false, false, false] rfl rfl (by kernel_rfl) (fun _ _ _ h => h) (Or.inl ⟨by rfl, ?_⟩) hHeld ?_ ?_
      rotate_left
      · intro w' s0
        go_simp
        with_reducible rfl
      rotate_left
      · simp only [Act.put, List.setIfInBounds_toArray, List.set_cons_zero, List.set_cons_succ, i64_w, i32_w]
        rfl
      refine take_ (i := 10) (N := some 111) (v := ?_) (a' := ?_) #[true, true, true, true, true, false, true, true, true, true, true, false, false, false] rfl rfl (by kernel_rfl) (fun _ _ _ h => h) (Or.inl ⟨by rfl, ?_⟩) hHeld ?_ ?_
      rotate_left
      · intro w' s0
        go_simp
        with_reducible rfl
      rotate_left
      · simp only [Act.put, List.setIfInBounds_toArray, List.set_cons_zero, List.set_cons_succ, i64_w, i32_w]
        rfl
      refine one_ (i := 5) (N := some 106) #[true, true, true, true, true, true, true, true, true, true, true, false, false, false] rfl rfl (by kernel_rfl) (by decide) (fun K hK => ?_)
      refine goes_ Try.func28 (by kernel_rfl) rfl #[.pointer (some ⟨PE, 0, none⟩), .int .i64 (s.n : Int)] (by rfl) rfl rfl (by simp only [List.map_toArray, List.map_cons, List.map_nil]; rfl) ?_
      with_reducible refine (HCE.out wr.drew HLE.out).mono ?_
      rintro e w5 ⟨va, rfl, hra, hb5⟩
      refine ⟨_, rfl, ?_⟩
      refine hK.out _ _ ((cell_step hb5 (a := ⟨T, 1, none⟩) kn)) (fun hHeld => ?_)
      clear hK K
      refine norm_ (a' := ?_) ?_ ?_
      rotate_left
      · show Act.put _ (some 106) _ = _
        simp only [Act.put, List.setIfInBounds_toArray, List.set_cons_zero, List.set_cons_succ, i64_w, i32_w]
        rfl
      refine last_ (i := 11) (N := some 112) #[true, true, true, true, true, true, true, true, true, true, true, true, false, false] rfl rfl (by kernel_rfl) (by decide) (fun K hK => ?_)
      refine goes_ Try.func28 (by kernel_rfl) rfl #[.pointer (some ⟨PH, 0, none⟩), .int .i64 (s.n : Int)] (by rfl) rfl rfl (by simp only [List.map_toArray, List.map_cons, List.map_nil]; rfl) ?_
      with_reducible refine (HCH.out w5 (ls_below HLH.out hb5)).mono ?_
      rintro e w6 ⟨vb, rfl, hrb, hb6⟩
      refine ⟨_, rfl, ?_⟩
      refine hK.out _ _ ?_
      clear hK K
      refine norm_ (a' := ?_) ?_ ?_
      rotate_left
      · show Act.put _ (some 112) _ = _
        simp only [Act.put, List.setIfInBounds_toArray, List.set_cons_zero, List.set_cons_succ, i64_w, i32_w]
        rfl
      refine pure_ (i := 12) (N := some 14) (v := ?_) (a' := ?_) #[true, true, true, true, true, true, true, true, true, true, true, true, true, false] rfl rfl (by kernel_rfl) (fun _ _ _ h => h) (Or.inl ⟨by rfl, ?_⟩) ?_ ?_
      rotate_left
      · intro w'
        go_simp
        with_reducible rfl
      rotate_left
      · simp only [Act.put, List.setIfInBounds_toArray, List.set_cons_zero, List.set_cons_succ, i64_w, i32_w]
        rfl
      refine pure_ (i := 13) (N := some 15) (v := ?_) (a' := ?_) #[true, true, true, true, true, true, true, true, true, true, true, true, true, true] rfl rfl (by kernel_rfl) (fun _ _ _ h => h) (Or.inl ⟨by rfl, ?_⟩) ?_ ?_
      rotate_left
      · intro w'
        go_simp
        with_reducible rfl
      rotate_left
      · simp only [Act.put, List.setIfInBounds_toArray, List.set_cons_zero, List.set_cons_succ, i64_w, i32_w]
        rfl
      refine done_ (by kernel_rfl) ?_
      have hin : ∀ f : Int → Int, ((ints s.n).map f).length = s.n := fun f => by rw [List.length_map, ints_len]
      obtain ⟨Aa, ca, eva, _, hCa⟩ := Kd.R_reads (Kd.R_below (Kd.R_lower hra (Nat.le_refl _)) (hb6.mono (Nat.le_refl _)))
      obtain ⟨Ab, cb, evb, _, hCb⟩ := Kd.R_reads hrb
      rw [hin] at eva evb
      subst eva
      subst evb
      have HA := Aside0.mk hCa
      have HBb := Aside0.mk hCb
      have hz9 : w.heap.size ≤ wr.heap.size := below_size HB.out
      have HB6 := Aside0.mk ((HB.out.trans (below_undrew (hb5.mono hz9))).trans (hb6.mono (Nat.le_trans hz9 hb5.size)))
      clear hz9
      have kn6 : w6.cell? ⟨T, 1, none⟩ = some (.int .i64 (s.n : Int)) := cell_step hb6 (cell_step (a := ⟨T, 1, none⟩) hb5 kn)
      have HIN := Aside0.mk hin
      clear hCa hCb hra hrb hb5 hb6 hin kn
      go_wp2
      go_loopg [117, 16] (s.n + 1) (fun kq v117 v16 w' => ∃ (i : Nat), v117 = .int .i64 (i : Int) ∧ (i : Int) ≤ (s.n : Int) ∧ Aside0 (kq + i = s.n + 1) ∧ Aside0 (Kd.R kP 59 w' w6.heap.size (fun _ => True) v16 ((ints i).map fun y => (plc s.e y, plc s.h y))) ∧ Aside0 (Below w6.heap.size w6 w'))
      case atStart => exact ⟨0, rfl, by omega, ⟨rfl⟩, ⟨Kd.R_nil _ _ _ _ _⟩, ⟨Below.refl _ _⟩⟩
      case round =>
        obtain ⟨i, rfl, hi, HK, HO, HB⟩ := hrel
        by_cases h : (i : Int) < (s.n : Int)
        · have his : i < s.n := by omega
          have hge : ∀ f : Int → Int, rd ((ints s.n).map f) (i : Int) = f (i : Int) := fun f => by
            rw [rd_get _ i (by rw [HIN.out]; exact his), List.getElem_map]
            congr 1
            unfold ints
            simp
          obtain ⟨ada, ea, hxa⟩ := Kd.at_int (Kd.C_below HA.out HB.out) (i : Int) (by omega) (by rw [HIN.out]; exact h)
          obtain ⟨adb, eb, hxb⟩ := Kd.at_int (Kd.C_below HBb.out HB.out) (i : Int) (by omega) (by rw [HIN.out]; exact h)
          cases ea
          cases eb
          rw [hge, Int.toNat_natCast] at hxa hxb
          have HIL : Aside0 (((ints i).map fun y => (plc s.e y, plc s.h y)).length = i) := ⟨by rw [List.length_map, ints_len]⟩
          have hi8 : i ≤ 181 := by omega
          obtain ⟨pa, hpa⟩ : ∃ q, plc s.e (i : Int) = q := ⟨_, rfl⟩
          obtain ⟨pb, hpb⟩ : ∃ q, plc s.h (i : Int) = q := ⟨_, rfl⟩
          rw [hpa] at hxa
          rw [hpb] at hxb
          have HPP := Aside0.mk (And.intro hpa hpb)
          clear hge hpa hpb
          go_wp2
          refine start_ (n := 13) (S := fun w' => w'.cell? (ada.add i) = some (.int .i64 pa) ∧ w'.cell? (adb.add i) = some (.int .i64 pb)) (ds := [10, 11]) #[false, false, false, false, false, false, false, false, false, false, false, false, false] (by kernel_rfl) rfl rfl ⟨hxa, hxb⟩ (fun hHeld => ?_)
          refine pure_ (i := 0) (N := some 120) (v := ?_) (a' := ?_) #[true, false, false, false, false, false, false, false, false, false, false, false, false] rfl rfl (by kernel_rfl) (fun _ _ _ h => h) (Or.inl ⟨by rfl, ?_⟩) ?_ ?_
          rotate_left
          · intro w'
            go_simp
            with_reducible rfl
          rotate_left
          · simp only [Act.put, List.setIfInBounds_toArray, List.set_cons_zero, List.set_cons_succ, i64_w, i32_w]
            rfl
          refine pure_ (i := 1) (N := some 121) (v := ?_) (a' := ?_) #[true, true, false, false, false, false, false, false, false, false, false, false, false] rfl rfl (by kernel_rfl) (fun _ _ _ h => h) (Or.inl ⟨by rfl, ?_⟩) ?_ ?_
          rotate_left
          · intro w'
            go_simp
            with_reducible rfl
          rotate_left
          · simp only [Act.put, List.setIfInBounds_toArray, List.set_cons_zero, List.set_cons_succ, i64_w, i32_w]
            rfl
          refine pure_ (i := 2) (N := some 122) (v := ?_) (a' := ?_) #[true, true, true, false, false, false, false, false, false, false, false, false, false] rfl rfl (by kernel_rfl) (fun _ _ _ h => h) (Or.inl ⟨by rfl, ?_⟩) ?_ ?_
          rotate_left
          · intro w'
            go_simp
            with_reducible rfl
          rotate_left
          · simp only [Act.put, List.setIfInBounds_toArray, List.set_cons_zero, List.set_cons_succ, i64_w, i32_w]
            rfl
          refine pure_ (i := 3) (N := some 123) (v := ?_) (a' := ?_) #[true, true, true, true, false, false, false, false, false, false, false, false, false] rfl rfl (by kernel_rfl) (fun _ _ _ h => h) (Or.inl ⟨by rfl, ?_⟩) ?_ ?_
          rotate_left
          · intro w'
            go_simp
            with_reducible rfl
          rotate_left
          · simp only [Act.put, List.setIfInBounds_toArray, List.set_cons_zero, List.set_cons_succ, i64_w, i32_w]
            rfl
          refine pure_ (i := 5) (N := some 125) (v := ?_) (a' := ?_) #[true, true, true, true, false, true, false, false, false, false, false, false, false] rfl rfl (by kernel_rfl) (fun _ _ _ h => h) (Or.inl ⟨by rfl, ?_⟩) ?_ ?_
          rotate_left
          · intro w'
            go_simp
            with_reducible rfl
          rotate_left
          · simp only [Act.put, List.setIfInBounds_toArray, List.set_cons_zero, List.set_cons_succ, i64_w, i32_w]
            rfl
          refine pure_ (i := 6) (N := some 126) (v := ?_) (a' := ?_) #[true, true, true, true, false, true, true, false, false, false, false, false, false] rfl rfl (by kernel_rfl) (fun _ _ _ h => h) (Or.inl ⟨by rfl, ?_⟩) ?_ ?_
          rotate_left
          · intro w'
            go_simp
            with_reducible rfl
          rotate_left
          · simp only [Act.put, List.setIfInBounds_toArray, List.set_cons_zero, List.set_cons_succ, i64_w, i32_w]
            rfl
          refine pure_ (i := 7) (N := some 127) (v := ?_) (a' := ?_) #[true, true, true, true, false, true, true, true, false, false, false, false, false] rfl rfl (by kernel_rfl) (fun _ _ _ h => h) (Or.inl ⟨by rfl, ?_⟩) ?_ ?_
          rotate_left
          · intro w'
            go_simp
            with_reducible rfl
          rotate_left
          · simp only [Act.put, List.setIfInBounds_toArray, List.set_cons_zero, List.set_cons_succ, i64_w, i32_w]
            rfl
          refine take_ (i := 4) (N := some 124) (v := ?_) (a' := ?_) #[true, true, true, true, true, true, true, true, false, false, false, false, false] rfl rfl (by kernel_rfl) (fun _ _ _ h => h) (Or.inl ⟨by rfl, ?_⟩) hHeld ?_ ?_
          rotate_left
          · rintro w' ⟨s0, s1⟩
            go_simp
            with_reducible rfl
          rotate_left
          · simp only [Act.put, List.setIfInBounds_toArray, List.set_cons_zero, List.set_cons_succ, i64_w, i32_w]
            rfl
          refine take_ (i := 8) (N := some 128) (v := ?_) (a' := ?_) #[true, true, true, true, true, true, true, true, true, false, false, false, false] rfl rfl (by kernel_rfl) (fun _ _ _ h => h) (Or.inl ⟨by rfl, ?_⟩) hHeld ?_ ?_
          rotate_left
          · rintro w' ⟨s0, s1⟩
            go_simp
            with_reducible rfl
          rotate_left
          · simp only [Act.put, List.setIfInBounds_toArray, List.set_cons_zero, List.set_cons_succ, i64_w, i32_w]
            rfl
          refine pure_ (i := 9) (N := some 129) (v := ?_) (a' := ?_) #[true, true, true, true, true, true, true, true, true, true, false, false, false] rfl rfl (by kernel_rfl) (fun _ _ _ h => h) (Or.inl ⟨by rfl, ?_⟩) ?_ ?_
          rotate_left
          · intro w'
            go_simp
            with_reducible rfl
          rotate_left
          · simp only [Act.put, List.setIfInBounds_toArray, List.set_cons_zero, List.set_cons_succ, i64_w, i32_w]
            rfl
          refine last_ (i := 10) (N := some 130) #[true, true, true, true, true, true, true, true, true, true, true, false, false] rfl rfl (by kernel_rfl) (by decide) (fun K hK => ?_)
          refine value_ (w1 := ?_) (v := ?_) (by rfl) rfl ?_ ?_
          rotate_left 2
          · go_simp
            constructor
            · rfl
            · rfl
          refine hK.out _ _ ?_
          clear hK K
          refine norm_ (a' := ?_) ?_ ?_
          rotate_left
          · show Act.put _ (some 130) _ = _
            simp only [Act.put, List.setIfInBounds_toArray, List.set_cons_zero, List.set_cons_succ, i64_w, i32_w]
            rfl
          refine last_ (i := 11) (N := some 131) #[true, true, true, true, true, true, true, true, true, true, true, true, false] rfl rfl (by kernel_rfl) (by decide) (fun K hK => ?_)
          ((try rw [drew_out]); (try rw [drew_out]); refine Kd.R_append_step (kP) (w0 := w6) w6.heap.size ?hw (.tmp 120) (.tmp 130) 34 59 (.agg #[.int .i64 0, .int .i64 0]) 16 ?ho Try.underlying34 info59 rfl (by decide) (by omega) u16 (((ints i).map fun y => (plc s.e y, plc s.h y))) (((pa, pb) : Int × Int)) [.int .i64 pa, .int .i64 pb] (fun _ => True) (fun _ => False) ?hs ?hx ?aP (fun _ hk => hk.elim) ?aF ?aO ?aB ?aS ?aL ?_; (case hw => rfl); (case ho => rfl); (case hs => rfl); (case hx => (try rw [size_ad]); rfl); (case aP => exact kP_mkM _ _ _ ((pa, pb) : Int × Int)); (case aB => exact (by repeat (first | (with_reducible first | exact HB.out | apply below_alloc | apply pw_below_drewN | apply below_drew1 | apply below_drew) | exact HB.out))); (case aF => exact (fun _ _ => trivial)); (case aO => exact (by (with_reducible repeat (first | apply Kd.R_alloc | apply Kd.R_drewN | apply Kd.R_drew)); exact HO.out)); (case aS => exact (below_size (by repeat (first | (with_reducible first | exact HB.out | apply below_alloc | apply pw_below_drewN | apply below_drew1 | apply below_drew) | exact HB.out)))); (case aL => (rw [HIL.out]; omega)); intro v7 w7 ho hb hg hat; have n0_ := Aside0.mk (hb); have n1_ := Aside0.mk (ho); clear HB; clear HO; have HB := n0_; have HO := n1_; clear n0_ n1_; clear ho hb hg hat)
          refine hK.out _ _ ?_
          clear hK K
          refine norm_ (a' := ?_) ?_ ?_
          rotate_left
          · show Act.put _ (some 131) _ = _
            simp only [Act.put, List.setIfInBounds_toArray, List.set_cons_zero, List.set_cons_succ, i64_w, i32_w]
            rfl
          refine pure_ (i := 12) (N := some 16) (v := ?_) (a' := ?_) #[true, true, true, true, true, true, true, true, true, true, true, true, true] rfl rfl (by kernel_rfl) (fun _ _ _ h => h) (Or.inl ⟨by rfl, ?_⟩) ?_ ?_
          rotate_left
          · intro w'
            go_simp
            with_reducible rfl
          rotate_left
          · simp only [Act.put, List.setIfInBounds_toArray, List.set_cons_zero, List.set_cons_succ, i64_w, i32_w]
            rfl
          refine done_ (by kernel_rfl) ?_
          go_wp2
          go_roundg (gk - 1)
          case measure => have := HK.out; omega
          case rel => exact ⟨i + 1, by go_num, by omega, ⟨by have := HK.out; omega⟩, ⟨by rw [ints_succ, List.map_append, List.map_singleton, HPP.out.1, HPP.out.2]; exact HO.out⟩, HB⟩
        · have hie : i = s.n := by omega
          subst hie
          go_wp2
          go_ret2
          refine ⟨HB6.out.trans (HB.out.mono (below_size HB6.out)), fun h => ?_, fun o ho => ?_⟩
          · rw [HQS.out] at h; cases h
          · rw [HQS.out] at ho
            cases ho
            exact ⟨_, rfl, Kd.R_lower HO.out (below_size HB6.out)⟩
end Go.Proofs.Ythjecgmgpnileaa.Bd
