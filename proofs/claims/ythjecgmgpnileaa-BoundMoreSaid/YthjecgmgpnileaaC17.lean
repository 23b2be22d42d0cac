/- ref12.Of: walked. -/
import Derived.Test.YthjecgmgpnileaaC15
import Derived.Test.YthjecgmgpnileaaC16
namespace Go.Proofs.Ythjecgmgpnileaa.Bd
open Go.RowKit Go.Lib Go.Proofs.YthjecgmgpnileaaW.PrintWords Go.Proofs.YthjecgmgpnileaaW.PrintLast Go.Proofs.YthjecgmgpnileaaW.PrintMore
attribute [local go_sem] max2_int min2_int max_two min_two max_three min_three max_four min_four   -- for this text's walks alone
set_option linter.unusedVariables false
set_option linter.unusedSimpArgs false

theorem ins_len (l : List Int) (x s : Int) : (insAfter l x s).length ≤ 2 * l.length := by
  unfold insAfter
  induction l with
  | nil => simp
  | cons y l ih =>
    rw [List.flatMap_cons, List.length_append, List.length_cons]
    have h : (if y = x then [y, s] else [y]).length ≤ 2 := by split <;> simp
    omega
theorem run_step {l : List S53} {i : Nat} {s t : St} (hi : i < l.length) (h : runF st0 (l.take i) = some t) (hs : runF st0 l = some s) : ∃ u, stepS t l[i] = some u ∧ runF st0 (l.take (i + 1)) = some u := by
  cases hx : stepS t l[i] with
  | none =>
    have h1 : runF st0 (l.take (i + 1)) = none := by rw [runF_take st0 l i hi, h]; exact hx
    rw [runF_none h1] at hs
    cases hs
  | some u => exact ⟨u, rfl, may_next hi h hx⟩
theorem behindI (A : Option Addr) (c : Nat) (l : List Int) (a s : Int) (W : World) (hr : Kd.C (Kd.int .i64) W A l.length l ∧ l.length ≤ c) (hn : l.length ≤ 1000000000) :
    Calls Try.prog 16 #[.slice A l.length c, .int .i64 a, .int .i64 s] W fun e w' => ∃ v0_ : Value, e = .returned v0_ ∧ Kd.R (Kd.int .i64) 3 w' W.heap.size (fun _ => True) v0_ (insAfter l a s) ∧ Below W.heap.size W w' :=
  underwoodref12_behind.calls (l.length + 1) A c l a s _ W hr.1 hr.2 (behind_is l a s hn)
theorem placeI (A : Option Addr) (c : Nat) (l : List Int) (a : Int) (W : World) (hr : Kd.C (Kd.int .i64) W A l.length l ∧ l.length ≤ c) (hn : l.length ≤ 1000000000) :
    Calls Try.prog 17 #[.slice A l.length c, .int .i64 a] W fun e w' => e = .returned (.int .i64 (plc l a)) ∧ Drawn0 W w' :=
  underwoodref12_place.calls (l.length + 1) A c l a _ W hr.1 hr.2 (place_is l a hn)
theorem row_below {A : Option Addr} {c : Nat} {l : List Int} {W W' : World} (h : Kd.C (Kd.int .i64) W A l.length l ∧ l.length ≤ c) (hb : Below W.heap.size W W') : Kd.C (Kd.int .i64) W' A l.length l ∧ l.length ≤ c := ⟨Kd.C_below h.1 hb, h.2⟩
set_option maxHeartbeats 16000000 in
set_option maxRecDepth 100000 in
theorem refof_calls (A : Option Addr) (c : Nat) (l : List S53) (w : World) (hr : Kd.C k53 w A l.length l) (hl : l.length ≤ 60) (q : Option (List (Int × Int))) (hq : ofL l = q) :
    Calls Try.prog 7 #[.slice A l.length c] w fun e w' => Below w.heap.size w w' ∧ (q = none → e = .returned (.tuple #[.slice none 0 0, .int .i64 1])) ∧ (∀ o, q = some o → ∃ v0_ : Value, e = .returned (.tuple #[v0_, .int .i64 0]) ∧ Kd.R kP 59 w' w.heap.size (fun _ => True) v0_ o) := by
  have HR := Aside0.mk hr
  have HL := Aside0.mk hl
  have hl60 : (l.length : Int) ≤ 60 := by omega
  have HB := Aside0.mk (Below.refl w.heap.size w)
  cases hs : runF st0 l with
  | none =>
    have hqn : q = none := by rw [← hq]; unfold ofL; rw [hs]; rfl
    have HMQ : Aside0 (mayL l = -1) := ⟨by unfold mayL; rw [hs]⟩
    subst hqn
    clear hr hq hs
    go_enter Try.func7, Try.ntmps7
    go_wp2_with (first | ((with_reducible refine gate_callee (f := 15) rfl ?_); refine goesL_ (some 12) rfl rfl Try.func15 (by kernel_rfl) rfl #[.slice A l.length c] rfl (by (try simp only [List.map_toArray, List.map_cons, List.map_nil]); first | done | rfl | (simp only [List.length_drop, List.length_take]; rfl)) ?_; (with_reducible refine (may_calls A c l _ HR.out HL.out _ HMQ.out).mono ?_); rintro e w1 ⟨rfl, hb⟩; refine ⟨_, rfl, ?_⟩; have m1_ := Aside0.mk (below_step (by repeat (first | (with_reducible first | exact HB.out | apply below_alloc | apply pw_below_drewN | apply below_drew1) | exact HB.out)) hb); clear HB; have HB := m1_; clear m1_; clear hb))
    go_ret2
    exact ⟨HB.out, fun _ => rfl, fun o ho => by cases ho⟩
  | some s =>
    have hqs : q = some ((ints s.n).map fun i => (plc s.e i, plc s.h i)) := by rw [← hq]; unfold ofL; rw [hs]; rfl
    have HMQ : Aside0 (mayL l = (s.n : Int)) := ⟨by unfold mayL; rw [hs]⟩
    have HQS := Aside0.mk hqs
    have HRUN := Aside0.mk hs
    have hd : decide ((s.n : Int) < 0) = false := decide_eq_false (by omega)
    clear hr hq hs hqs
    go_enter Try.func7, Try.ntmps7
    go_wp2_with (first | ((with_reducible refine gate_callee (f := 15) rfl ?_); refine goesL_ (some 12) rfl rfl Try.func15 (by kernel_rfl) rfl #[.slice A l.length c] rfl (by (try simp only [List.map_toArray, List.map_cons, List.map_nil]); first | done | rfl | (simp only [List.length_drop, List.length_take]; rfl)) ?_; (with_reducible refine (may_calls A c l _ HR.out HL.out _ HMQ.out).mono ?_); rintro e w1 ⟨rfl, hb⟩; refine ⟨_, rfl, ?_⟩; have m1_ := Aside0.mk (below_step (by repeat (first | (with_reducible first | exact HB.out | apply below_alloc | apply pw_below_drewN | apply below_drew1) | exact HB.out)) hb); clear HB; have HB := m1_; clear m1_; clear hb))
    have hz1 : (w1.alloc (.cells #[.int .i64 0] 3)).heap.size = w1.heap.size + 1 := by simp
    have hb1 := below_alloc (below_alloc HB.out (.cells #[.int .i64 0] 3)) (.cells #[.int .i64 0] 3)
    have he0 : Kd.C (Kd.int .i64) ((w1.alloc (.cells #[.int .i64 0] 3)).alloc (.cells #[.int .i64 0] 3)) (some ⟨w1.heap.size, 0, none⟩) st0.e.length st0.e ∧ st0.e.length ≤ 1 := by
      have h1 := own_lit w1 w1.heap.size 3 .i64 [0] (Nat.le_refl _) (by decide)
      have h2 := Kd.R_reads' (Kd.R_of_own (enc := Value.int .i64) (h1 := fun _ => rfl) h1 (fun _ _ => trivial))
      exact ⟨Kd.C_below h2.2.2 (below_alloc (Below.refl _ _) _), Nat.le_refl _⟩
    have hh0 : Kd.C (Kd.int .i64) ((w1.alloc (.cells #[.int .i64 0] 3)).alloc (.cells #[.int .i64 0] 3)) (some ⟨w1.heap.size + 1, 0, none⟩) st0.h.length st0.h ∧ st0.h.length ≤ 1 := by
      have h1 := own_lit (w1.alloc (.cells #[.int .i64 0] 3)) w1.heap.size 3 .i64 [0] (by omega) (by decide)
      rw [hz1] at h1
      have h2 := Kd.R_reads' (Kd.R_of_own (enc := Value.int .i64) (h1 := fun _ => rfl) h1 (fun _ _ => trivial))
      exact ⟨h2.2.2, Nat.le_refl _⟩
    have HE0 := Aside0.mk he0
    have HH0 := Aside0.mk hh0
    have HB0 := Aside0.mk hb1
    clear hz1 hb1 he0 hh0 HB
    go_loopg [7, 5, 6] (l.length + 1) (fun kq v7 v5 v6 w' => ∃ (i : Nat) (t : St) (A5 : Option Addr) (c5 : Nat) (A6 : Option Addr) (c6 : Nat), v7 = .int .i64 (i : Int) ∧ v5 = .slice A5 t.e.length c5 ∧ v6 = .slice A6 t.h.length c6 ∧ (i : Int) ≤ (l.length : Int) ∧ Aside0 (kq + i = l.length + 1) ∧ Aside0 (runF st0 (l.take i) = some t) ∧ Aside0 (Kd.C (Kd.int .i64) w' A5 t.e.length t.e ∧ t.e.length ≤ c5) ∧ Aside0 (Kd.C (Kd.int .i64) w' A6 t.h.length t.h ∧ t.h.length ≤ c6) ∧ Aside0 (Below w.heap.size w w'))
    case atStart => exact ⟨0, st0, _, _, _, _, rfl, rfl, rfl, by omega, ⟨rfl⟩, ⟨rfl⟩, HE0, HH0, HB0⟩
    case round =>
      obtain ⟨i, t, A5, c5, A6, c6, rfl, rfl, rfl, hi, HK, HS, HE, HH, HB⟩ := hrel
      have hinv := (inv0.run HS.out)
      have htl : (l.take i).length ≤ 60 := by have := HL.out; rw [List.length_take]; omega
      have HI := Aside0.mk hinv.1
      have HN : Aside0 (t.n ≤ 181) := ⟨by have h1 := hinv.2.1; have e1 : st0.n = 1 := rfl; omega⟩
      have HLE : Aside0 (t.e.length = t.n ∧ t.h.length = t.n) := ⟨by rw [hinv.1.e.length_eq, hinv.1.h.length_eq, ints_len]; exact ⟨rfl, rfl⟩⟩
      clear hinv htl
      by_cases h : (i : Int) < (l.length : Int)
      · have hil : i < l.length := by omega
        obtain ⟨u, hu1, hu2⟩ := run_step hil HS.out HRUN.out
        obtain ⟨ad, ea, y0, y1, y2, y3, y4⟩ := at_T53 (Kd.C_below HR.out HB.out) (i : Int) (by omega) h
        cases ea
        have hge : rd_T53 l (i : Int) = l[i] := by unfold rd_T53; rw [Int.toNat_natCast, List.getD_eq_getElem?_getD, List.getElem?_eq_getElem hil]; rfl
        obtain ⟨x, hx⟩ : ∃ x, l[i] = x := ⟨_, rfl⟩
        rw [hge, hx] at y0 y1 y2 y3 y4
        rw [hx] at hu1
        obtain ⟨x0, x1, x2, x3, x4⟩ := x
        simp only at y0 y1 y2 y3 y4
        rw [Int.toNat_natCast] at y0 y1 y2 y3 y4
        have HU := Aside0.mk hu1
        have HNX := Aside0.mk hu2
        have HE4 := Aside0.mk (row_below HE.out (below_alloc (Below.refl _ _) (.cells #[.int .i64 x0, .int .i64 x1, .int .i64 x2, .int .i64 x3, .int .i64 x4] 53)))
        have HH4 := Aside0.mk (row_below HH.out (below_alloc (Below.refl _ _) (.cells #[.int .i64 x0, .int .i64 x1, .int .i64 x2, .int .i64 x3, .int .i64 x4] 53)))
        have HB4 := Aside0.mk (below_alloc HB.out (.cells #[.int .i64 x0, .int .i64 x1, .int .i64 x2, .int .i64 x3, .int .i64 x4] 53))
        have BK := Aside0.mk (MapKept.heap_alloc wr (.cells #[.int .i64 x0, .int .i64 x1, .int .i64 x2, .int .i64 x3, .int .i64 x4] 53)).1
        clear hge hx hu1 hu2
        by_cases hk : x0 = 1
        · subst hk
          go_wp2
          generalize hw4 : wr.alloc (.cells #[.int .i64 1, .int .i64 x1, .int .i64 x2, .int .i64 x3, .int .i64 x4] 53) = w4 at HE4 HH4 HB4 BK ⊢
          generalize hG8 : wr.heap.size = G8 at BK ⊢
          clear hw4 hG8 y0 y1 y2 y3 y4 HE HH HB
          have hfE := ref_step HI.out HU.out
          unfold refE at hfE
          rw [if_pos rfl] at hfE
          simp only at hfE
          have k1 : w4.cell? ⟨G8, 1, none⟩ = some (.int .i64 x1) := (blk_cell BK.out 1).trans rfl
          have k2 : w4.cell? ⟨G8, 2, none⟩ = some (.int .i64 x2) := (blk_cell BK.out 2).trans rfl
          have k3 : w4.cell? ⟨G8, 3, none⟩ = some (.int .i64 x3) := (blk_cell BK.out 3).trans rfl
          obtain ⟨E1, hE1⟩ : ∃ q, insAfter t.e x1 x2 = q := ⟨_, rfl⟩
          obtain ⟨E2, hE2⟩ : ∃ q, insAfter E1 x2 x3 = q := ⟨_, rfl⟩
          obtain ⟨H1, hH1⟩ : ∃ q, insAfter t.h x1 x3 = q := ⟨_, rfl⟩
          obtain ⟨H2, hH2⟩ : ∃ q, insAfter H1 x3 x2 = q := ⟨_, rfl⟩
          rw [hE1, hE2, hH1, hH2] at hfE
          have HLS : Aside0 (t.e.length ≤ 1000000000 ∧ E1.length ≤ 1000000000 ∧ E2.length ≤ 1000000000 ∧ t.h.length ≤ 1000000000 ∧ H1.length ≤ 1000000000 ∧ H2.length ≤ 1000000000) := ⟨by
            have h0 := HLE.out; have h1 := HN.out
            have g1 := ins_len t.e x1 x2; have g2 := ins_len E1 x2 x3; have g3 := ins_len t.h x1 x3; have g4 := ins_len H1 x3 x2
            rw [hE1] at g1; rw [hE2] at g2; rw [hH1] at g3; rw [hH2] at g4
            omega⟩
          have HC1 : Aside0 (∀ W, Kd.C (Kd.int .i64) W A5 t.e.length t.e ∧ t.e.length ≤ c5 → Calls Try.prog 16 #[.slice A5 t.e.length c5, .int .i64 x1, .int .i64 x2] W fun e w' => ∃ v0_ : Value, e = .returned v0_ ∧ Kd.R (Kd.int .i64) 3 w' W.heap.size (fun _ => True) v0_ E1 ∧ Below W.heap.size W w') := ⟨fun W h => by rw [← hE1]; exact behindI _ _ _ _ _ _ h HLS.out.1⟩
          have HC2 : Aside0 (∀ W A c, Kd.C (Kd.int .i64) W A E1.length E1 ∧ E1.length ≤ c → Calls Try.prog 16 #[.slice A E1.length c, .int .i64 x2, .int .i64 x3] W fun e w' => ∃ v0_ : Value, e = .returned v0_ ∧ Kd.R (Kd.int .i64) 3 w' W.heap.size (fun _ => True) v0_ E2 ∧ Below W.heap.size W w') := ⟨fun W A c h => by rw [← hE2]; exact behindI _ _ _ _ _ _ h HLS.out.2.1⟩
          have HC3 : Aside0 (∀ W, Kd.C (Kd.int .i64) W A6 t.h.length t.h ∧ t.h.length ≤ c6 → Calls Try.prog 16 #[.slice A6 t.h.length c6, .int .i64 x1, .int .i64 x3] W fun e w' => ∃ v0_ : Value, e = .returned v0_ ∧ Kd.R (Kd.int .i64) 3 w' W.heap.size (fun _ => True) v0_ H1 ∧ Below W.heap.size W w') := ⟨fun W h => by rw [← hH1]; exact behindI _ _ _ _ _ _ h HLS.out.2.2.2.1⟩
          have HC4 : Aside0 (∀ W A c, Kd.C (Kd.int .i64) W A H1.length H1 ∧ H1.length ≤ c → Calls Try.prog 16 #[.slice A H1.length c, .int .i64 x3, .int .i64 x2] W fun e w' => ∃ v0_ : Value, e = .returned v0_ ∧ Kd.R (Kd.int .i64) 3 w' W.heap.size (fun _ => True) v0_ H2 ∧ Below W.heap.size W w') := ⟨fun W A c h => by rw [← hH2]; exact behindI _ _ _ _ _ _ h HLS.out.2.2.2.2.1⟩
          have HFE := Aside0.mk hfE
          have HE5 := Aside0.mk (row_below HE4.out (below_drew (Below.refl _ _)))
          clear hE1 hE2 hH1 hH2 hfE
          refine start_ (n := 12) (S := fun w' => w'.cell? ⟨G8, 1, none⟩ = some (.int .i64 x1) ∧ w'.cell? ⟨G8, 2, none⟩ = some (.int .i64 x2) ∧ w'.cell? ⟨G8, 3, none⟩ = some (.int .i64 x3)) (ds := [10]) #[false, false, false, false, false, false, false, false, false, false, false, false] (by kernel_rfl) rfl rfl ⟨k1, k2, k3⟩ (fun hHeld => ?_)
          refine pure_ (i := 0) (N := some 30) (v := ?_) (a' := ?_) #[true, false, false, false, false, false, false, false, false, false, false, false] rfl rfl (by kernel_rfl) (fun _ _ _ h => h) (Or.inl ⟨by rfl, ?_⟩) ?_ ?_
          rotate_left
          · intro w'
            go_simp
            with_reducible rfl
          rotate_left
          · simp only [Act.put, List.setIfInBounds_toArray, List.set_cons_zero, List.set_cons_succ, i64_w, i32_w]
            rfl
          refine pure_ (i := 1) (N := some 31) (v := ?_) (a' := ?_) #[true, true, false, false, false, false, false, false, false, false, false, false] rfl rfl (by kernel_rfl) (fun _ _ _ h => h) (Or.inl ⟨by rfl, ?_⟩) ?_ ?_
          rotate_left
          · intro w'
            go_simp
            with_reducible rfl
          rotate_left
          · simp only [Act.put, List.setIfInBounds_toArray, List.set_cons_zero, List.set_cons_succ, i64_w, i32_w]
            rfl
          refine pure_ (i := 3) (N := some 33) (v := ?_) (a' := ?_) #[true, true, false, true, false, false, false, false, false, false, false, false] rfl rfl (by kernel_rfl) (fun _ _ _ h => h) (Or.inl ⟨by rfl, ?_⟩) ?_ ?_
          rotate_left
          · intro w'
            go_simp
            with_reducible rfl
          rotate_left
          · simp only [Act.put, List.setIfInBounds_toArray, List.set_cons_zero, List.set_cons_succ, i64_w, i32_w]
            rfl
          refine pure_ (i := 6) (N := some 36) (v := ?_) (a' := ?_) #[true, true, false, true, false, false, true, false, false, false, false, false] rfl rfl (by kernel_rfl) (fun _ _ _ h => h) (Or.inl ⟨by rfl, ?_⟩) ?_ ?_
          rotate_left
          · intro w'
            go_simp
            with_reducible rfl
          rotate_left
          · simp only [Act.put, List.setIfInBounds_toArray, List.set_cons_zero, List.set_cons_succ, i64_w, i32_w]
            rfl
          refine pure_ (i := 8) (N := some 38) (v := ?_) (a' := ?_) #[true, true, false, true, false, false, true, false, true, false, false, false] rfl rfl (by kernel_rfl) (fun _ _ _ h => h) (Or.inl ⟨by rfl, ?_⟩) ?_ ?_
          rotate_left
          · intro w'
            go_simp
            with_reducible rfl
          rotate_left
          · simp only [Act.put, List.setIfInBounds_toArray, List.set_cons_zero, List.set_cons_succ, i64_w, i32_w]
            rfl
          refine take_ (i := 2) (N := some 32) (v := ?_) (a' := ?_) #[true, true, true, true, false, false, true, false, true, false, false, false] rfl rfl (by kernel_rfl) (fun _ _ _ h => h) (Or.inl ⟨by rfl, ?_⟩) hHeld ?_ ?_
          rotate_left
          · rintro w' ⟨s0, s1, s2⟩
            go_simp
            with_reducible rfl
          rotate_left
          · simp only [Act.put, List.setIfInBounds_toArray, List.set_cons_zero, List.set_cons_succ, i64_w, i32_w]
            rfl
          refine take_ (i := 4) (N := some 34) (v := ?_) (a' := ?_) #[true, true, true, true, true, false, true, false, true, false, false, false] rfl rfl (by kernel_rfl) (fun _ _ _ h => h) (Or.inl ⟨by rfl, ?_⟩) hHeld ?_ ?_
          rotate_left
          · rintro w' ⟨s0, s1, s2⟩
            go_simp
            with_reducible rfl
          rotate_left
          · simp only [Act.put, List.setIfInBounds_toArray, List.set_cons_zero, List.set_cons_succ, i64_w, i32_w]
            rfl
          refine take_ (i := 7) (N := some 37) (v := ?_) (a' := ?_) #[true, true, true, true, true, false, true, true, true, false, false, false] rfl rfl (by kernel_rfl) (fun _ _ _ h => h) (Or.inl ⟨by rfl, ?_⟩) hHeld ?_ ?_
          rotate_left
          · rintro w' ⟨s0, s1, s2⟩
            go_simp
            with_reducible rfl
          rotate_left
          · simp only [Act.put, List.setIfInBounds_toArray, List.set_cons_zero, List.set_cons_succ, i64_w, i32_w]
            rfl
          refine take_ (i := 9) (N := some 39) (v := ?_) (a' := ?_) #[true, true, true, true, true, false, true, true, true, true, false, false] rfl rfl (by kernel_rfl) (fun _ _ _ h => h) (Or.inl ⟨by rfl, ?_⟩) hHeld ?_ ?_
          rotate_left
          · rintro w' ⟨s0, s1, s2⟩
            go_simp
            with_reducible rfl
          rotate_left
          · simp only [Act.put, List.setIfInBounds_toArray, List.set_cons_zero, List.set_cons_succ, i64_w, i32_w]
            rfl
          refine one_ (i := 5) (N := some 35) #[true, true, true, true, true, true, true, true, true, true, false, false] rfl rfl (by kernel_rfl) (by decide) (fun K hK => ?_)
          refine goes_ Try.func16 (by kernel_rfl) rfl #[.slice A5 t.e.length c5, .int .i64 x1, .int .i64 x2] (by rfl) rfl rfl (by simp only [List.map_toArray, List.map_cons, List.map_nil]; rfl) ?_
          with_reducible refine (HC1.out w4.drew HE5.out).mono ?_
          rintro e w5 ⟨va, rfl, hra, hb5⟩
          refine ⟨_, rfl, ?_⟩
          obtain ⟨Aa, ca, eva, hla, hca⟩ := Kd.R_reads hra
          subst eva
          refine hK.out _ _ ⟨(cell_step hb5 (a := ⟨G8, 1, none⟩) k1), (cell_step hb5 (a := ⟨G8, 2, none⟩) k2), (cell_step hb5 (a := ⟨G8, 3, none⟩) k3)⟩ (fun hHeld => ?_)
          clear hK K
          refine norm_ (a' := ?_) ?_ ?_
          rotate_left
          · show Act.put _ (some 35) _ = _
            simp only [Act.put, List.setIfInBounds_toArray, List.set_cons_zero, List.set_cons_succ, i64_w, i32_w]
            rfl
          refine last_ (i := 10) (N := some 40) #[true, true, true, true, true, true, true, true, true, true, true, false] rfl rfl (by kernel_rfl) (by decide) (fun K hK => ?_)
          refine goes_ Try.func16 (by kernel_rfl) rfl #[.slice Aa E1.length ca, .int .i64 x2, .int .i64 x3] (by rfl) rfl rfl (by simp only [List.map_toArray, List.map_cons, List.map_nil]; rfl) ?_
          with_reducible refine (HC2.out w5 Aa ca ⟨hca, hla⟩).mono ?_
          rintro e w6 ⟨vb, rfl, hrb, hb6⟩
          refine ⟨_, rfl, ?_⟩
          refine hK.out _ _ ?_
          clear hK K
          refine norm_ (a' := ?_) ?_ ?_
          rotate_left
          · show Act.put _ (some 40) _ = _
            simp only [Act.put, List.setIfInBounds_toArray, List.set_cons_zero, List.set_cons_succ, i64_w, i32_w]
            rfl
          refine pure_ (i := 11) (N := some 5) (v := ?_) (a' := ?_) #[true, true, true, true, true, true, true, true, true, true, true, true] rfl rfl (by kernel_rfl) (fun _ _ _ h => h) (Or.inl ⟨by rfl, ?_⟩) ?_ ?_
          rotate_left
          · intro w'
            go_simp
            with_reducible rfl
          rotate_left
          · simp only [Act.put, List.setIfInBounds_toArray, List.set_cons_zero, List.set_cons_succ, i64_w, i32_w]
            rfl
          refine done_ (by kernel_rfl) ?_
          obtain ⟨Ab, cb, evb, hlb, hcb⟩ := Kd.R_reads hrb
          subst evb
          have hz9 : w.heap.size ≤ w4.heap.size := below_size HB4.out
          have hb46 : Below w4.heap.size w4 w6 := (below_undrew hb5).trans (hb6.mono hb5.size)
          have HB6 := Aside0.mk (HB4.out.trans (hb46.mono hz9))
          have HE6 := Aside0.mk (And.intro hcb hlb)
          have HH6 := Aside0.mk (row_below HH4.out hb46)
          have k1' := cell_step (a := ⟨G8, 1, none⟩) hb46 k1
          have k2' := cell_step (a := ⟨G8, 2, none⟩) hb46 k2
          have k3' := cell_step (a := ⟨G8, 3, none⟩) hb46 k3
          have BK6 := Aside0.mk (blk_below BK.out hb46)
          have HH7 := Aside0.mk (row_below HH6.out (below_drew (Below.refl _ _)))
          clear hz9 hb46 hcb hlb hrb hb5 hb6 hra hla hca k1 k2 k3 BK HB4 HE4 HE5 HH4
          go_wp2
          refine start_ (n := 12) (S := fun w' => w'.cell? ⟨G8, 1, none⟩ = some (.int .i64 x1) ∧ w'.cell? ⟨G8, 2, none⟩ = some (.int .i64 x2) ∧ w'.cell? ⟨G8, 3, none⟩ = some (.int .i64 x3)) (ds := [10]) #[false, false, false, false, false, false, false, false, false, false, false, false] (by kernel_rfl) rfl rfl ⟨k1', k2', k3'⟩ (fun hHeld => ?_)
          refine pure_ (i := 0) (N := some 41) (v := ?_) (a' := ?_) #[true, false, false, false, false, false, false, false, false, false, false, false] rfl rfl (by kernel_rfl) (fun _ _ _ h => h) (Or.inl ⟨by rfl, ?_⟩) ?_ ?_
          rotate_left
          · intro w'
            go_simp
            with_reducible rfl
          rotate_left
          · simp only [Act.put, List.setIfInBounds_toArray, List.set_cons_zero, List.set_cons_succ, i64_w, i32_w]
            rfl
          refine pure_ (i := 1) (N := some 42) (v := ?_) (a' := ?_) #[true, true, false, false, false, false, false, false, false, false, false, false] rfl rfl (by kernel_rfl) (fun _ _ _ h => h) (Or.inl ⟨by rfl, ?_⟩) ?_ ?_
          rotate_left
          · intro w'
            go_simp
            with_reducible rfl
          rotate_left
          · simp only [Act.put, List.setIfInBounds_toArray, List.set_cons_zero, List.set_cons_succ, i64_w, i32_w]
            rfl
          refine pure_ (i := 3) (N := some 44) (v := ?_) (a' := ?_) #[true, true, false, true, false, false, false, false, false, false, false, false] rfl rfl (by kernel_rfl) (fun _ _ _ h => h) (Or.inl ⟨by rfl, ?_⟩) ?_ ?_
          rotate_left
          · intro w'
            go_simp
            with_reducible rfl
          rotate_left
          · simp only [Act.put, List.setIfInBounds_toArray, List.set_cons_zero, List.set_cons_succ, i64_w, i32_w]
            rfl
          refine pure_ (i := 6) (N := some 47) (v := ?_) (a' := ?_) #[true, true, false, true, false, false, true, false, false, false, false, false] rfl rfl (by kernel_rfl) (fun _ _ _ h => h) (Or.inl ⟨by rfl, ?_⟩) ?_ ?_
          rotate_left
          · intro w'
            go_simp
            with_reducible rfl
          rotate_left
          · simp only [Act.put, List.setIfInBounds_toArray, List.set_cons_zero, List.set_cons_succ, i64_w, i32_w]
            rfl
          refine pure_ (i := 8) (N := some 49) (v := ?_) (a' := ?_) #[true, true, false, true, false, false, true, false, true, false, false, false] rfl rfl (by kernel_rfl) (fun _ _ _ h => h) (Or.inl ⟨by rfl, ?_⟩) ?_ ?_
          rotate_left
          · intro w'
            go_simp
            with_reducible rfl
          rotate_left
          · simp only [Act.put, List.setIfInBounds_toArray, List.set_cons_zero, List.set_cons_succ, i64_w, i32_w]
            rfl
          refine take_ (i := 2) (N := some 43) (v := ?_) (a' := ?_) #[true, true, true, true, false, false, true, false, true, false, false, false] rfl rfl (by kernel_rfl) (fun _ _ _ h => h) (Or.inl ⟨by rfl, ?_⟩) hHeld ?_ ?_
          rotate_left
          · rintro w' ⟨s0, s1, s2⟩
            go_simp
            with_reducible rfl
          rotate_left
          · simp only [Act.put, List.setIfInBounds_toArray, List.set_cons_zero, List.set_cons_succ, i64_w, i32_w]
            rfl
          refine take_ (i := 4) (N := some 45) (v := ?_) (a' := ?_) #[true, true, true, true, true, false, true, false, true, false, false, false] rfl rfl (by kernel_rfl) (fun _ _ _ h => h) (Or.inl ⟨by rfl, ?_⟩) hHeld ?_ ?_
          rotate_left
          · rintro w' ⟨s0, s1, s2⟩
            go_simp
            with_reducible rfl
          rotate_left
          · simp only [Act.put, List.setIfInBounds_toArray, List.set_cons_zero, List.set_cons_succ, i64_w, i32_w]
            rfl
          refine take_ (i := 7) (N := some 48) (v := ?_) (a' := ?_) #[true, true, true, true, true, false, true, true, true, false, false, false] rfl rfl (by kernel_rfl) (fun _ _ _ h => h) (Or.inl ⟨by rfl, ?_⟩) hHeld ?_ ?_
          rotate_left
          · rintro w' ⟨s0, s1, s2⟩
            go_simp
            with_reducible rfl
          rotate_left
          · simp only [Act.put, List.setIfInBounds_toArray, List.set_cons_zero, List.set_cons_succ, i64_w, i32_w]
            rfl
          refine take_ (i := 9) (N := some 50) (v := ?_) (a' := ?_) #[true, true, true, true, true, false, true, true, true, true, false, false] rfl rfl (by kernel_rfl) (fun _ _ _ h => h) (Or.inl ⟨by rfl, ?_⟩) hHeld ?_ ?_
          rotate_left
          · rintro w' ⟨s0, s1, s2⟩
            go_simp
            with_reducible rfl
          rotate_left
          · simp only [Act.put, List.setIfInBounds_toArray, List.set_cons_zero, List.set_cons_succ, i64_w, i32_w]
            rfl
          refine one_ (i := 5) (N := some 46) #[true, true, true, true, true, true, true, true, true, true, false, false] rfl rfl (by kernel_rfl) (by decide) (fun K hK => ?_)
          refine goes_ Try.func16 (by kernel_rfl) rfl #[.slice A6 t.h.length c6, .int .i64 x1, .int .i64 x3] (by rfl) rfl rfl (by simp only [List.map_toArray, List.map_cons, List.map_nil]; rfl) ?_
          with_reducible refine (HC3.out w6.drew HH7.out).mono ?_
          rintro e w7 ⟨va, rfl, hra, hb7⟩
          refine ⟨_, rfl, ?_⟩
          obtain ⟨Ac, cc, eva, hla, hca⟩ := Kd.R_reads hra
          subst eva
          refine hK.out _ _ ⟨(cell_step hb7 (a := ⟨G8, 1, none⟩) k1'), (cell_step hb7 (a := ⟨G8, 2, none⟩) k2'), (cell_step hb7 (a := ⟨G8, 3, none⟩) k3')⟩ (fun hHeld => ?_)
          clear hK K
          refine norm_ (a' := ?_) ?_ ?_
          rotate_left
          · show Act.put _ (some 46) _ = _
            simp only [Act.put, List.setIfInBounds_toArray, List.set_cons_zero, List.set_cons_succ, i64_w, i32_w]
            rfl
          refine last_ (i := 10) (N := some 51) #[true, true, true, true, true, true, true, true, true, true, true, false] rfl rfl (by kernel_rfl) (by decide) (fun K hK => ?_)
          refine goes_ Try.func16 (by kernel_rfl) rfl #[.slice Ac H1.length cc, .int .i64 x3, .int .i64 x2] (by rfl) rfl rfl (by simp only [List.map_toArray, List.map_cons, List.map_nil]; rfl) ?_
          with_reducible refine (HC4.out w7 Ac cc ⟨hca, hla⟩).mono ?_
          rintro e w8 ⟨vb, rfl, hrb, hb8⟩
          refine ⟨_, rfl, ?_⟩
          refine hK.out _ _ ?_
          clear hK K
          refine norm_ (a' := ?_) ?_ ?_
          rotate_left
          · show Act.put _ (some 51) _ = _
            simp only [Act.put, List.setIfInBounds_toArray, List.set_cons_zero, List.set_cons_succ, i64_w, i32_w]
            rfl
          refine pure_ (i := 11) (N := some 6) (v := ?_) (a' := ?_) #[true, true, true, true, true, true, true, true, true, true, true, true] rfl rfl (by kernel_rfl) (fun _ _ _ h => h) (Or.inl ⟨by rfl, ?_⟩) ?_ ?_
          rotate_left
          · intro w'
            go_simp
            with_reducible rfl
          rotate_left
          · simp only [Act.put, List.setIfInBounds_toArray, List.set_cons_zero, List.set_cons_succ, i64_w, i32_w]
            rfl
          refine done_ (by kernel_rfl) ?_
          obtain ⟨Ad, cd, evb, hlb, hcb⟩ := Kd.R_reads hrb
          subst evb
          have hz9 : w.heap.size ≤ w6.heap.size := below_size HB6.out
          have hb68 : Below w6.heap.size w6 w8 := (below_undrew hb7).trans (hb8.mono hb7.size)
          have HB8 := Aside0.mk (HB6.out.trans (hb68.mono hz9))
          have HH8 := Aside0.mk (And.intro hcb hlb)
          have HE8 := Aside0.mk (row_below HE6.out hb68)
          have BK8 := Aside0.mk (blk_below BK6.out hb68)
          clear hz9 hb68 hcb hlb hrb hb7 hb8 hra hla hca k1' k2' k3' BK6 HB6 HE6 HH6 HH7 HC1 HC2 HC3 HC4
          have k2 : w8.cell? ⟨G8, 2, none⟩ = some (.int .i64 x2) := (blk_cell BK8.out 2).trans rfl
          have k3 : w8.cell? ⟨G8, 3, none⟩ = some (.int .i64 x3) := (blk_cell BK8.out 3).trans rfl
          have k4 : w8.cell? ⟨G8, 4, none⟩ = some (.int .i64 x4) := (blk_cell BK8.out 4).trans rfl
          by_cases hp : plc E2 x4 < 0
          · have hdp : decide (plc E2 x4 < 0) = true := decide_eq_true hp
            have hfe := HFE.out
            rw [if_pos hp] at hfe
            obtain ⟨us', cur', n', e', h'⟩ := u
            simp only at hfe
            obtain ⟨r1, r2⟩ := Prod.mk.inj hfe
            subst r1 r2
            have HHc := Aside0.mk HH8.out.1
            have HHl := Aside0.mk HH8.out.2
            clear hfe hp HFE HH8
            go_wp2_with (first | ((with_reducible refine gate_callee (f := 17) rfl ?_); refine goesL_ (some 55) rfl rfl Try.func17 (by kernel_rfl) rfl #[.slice Ab E2.length cb, .int .i64 x4] rfl (by (try simp only [List.map_toArray, List.map_cons, List.map_nil]); first | done | rfl | (simp only [List.length_drop, List.length_take]; rfl)) ?_; (with_reducible refine (placeI _ _ _ _ _ HE8.out HLS.out.2.2.1).mono ?_); rintro e w' ⟨rfl, ⟨nd, rfl⟩⟩; refine ⟨_, rfl, ?_⟩) | ((with_reducible refine gate_callee (f := 16) rfl ?_); refine goesL_ (some 62) rfl rfl Try.func16 (by kernel_rfl) rfl #[.slice Ab E2.length cb, .int .i64 x3, .int .i64 x4] rfl (by (try simp only [List.map_toArray, List.map_cons, List.map_nil]); first | done | rfl | (simp only [List.length_drop, List.length_take]; rfl)) ?_; (with_reducible refine (behindI _ _ _ _ _ _ (row_below HE8.out (pw_below_drewN (Below.refl _ _) _)) HLS.out.2.2.1).mono ?_); rintro e w9 ⟨va, rfl, hra, hb⟩; refine ⟨_, rfl, ?_⟩; (first | (with_reducible have e0_ := Aside0.mk (Kd.C_below HHc.out hb)) | (with_reducible have e0_ := Aside0.mk (Kd.C_below (Kd.C_drewN HHc.out _) hb)) | (with_reducible have e0_ := Aside0.mk (Kd.C_below (Kd.C_alloc HHc.out _) hb)) | (with_reducible have e0_ := Aside0.mk (Kd.C_below (Kd.C_drewN (Kd.C_alloc HHc.out _) _) hb)) | (with_reducible have e0_ := Aside0.mk (Kd.C_below (Kd.C_alloc (Kd.C_drewN HHc.out _) _) hb)) | (with_reducible have e0_ := Aside0.mk (Kd.C_below (Kd.C_drewN (Kd.C_drewN HHc.out _) _) hb))); have b0_ := Aside0.mk (blk_below (by (with_reducible repeat (first | refine blk_drewN ?_ _ | refine blk_drew ?_ | refine blk_alloc ?_ _)); exact BK8.out) hb); have m1_ := Aside0.mk (below_step (by repeat (first | (with_reducible first | exact HB8.out | apply below_alloc | apply pw_below_drewN | apply below_drew1) | exact HB8.out)) hb); clear HB8; have HB8 := m1_; clear m1_; clear HHc; have HHc := e0_; clear e0_; clear BK8; have BK8 := b0_; clear b0_; clear hb; obtain ⟨Ae, ce, eva, hla, hca⟩ := Kd.R_reads hra; subst eva; have HEc := Aside0.mk hca; have HEl := Aside0.mk hla; have k2b : w9.cell? ⟨G8, 2, none⟩ = some (.int .i64 x2) := (blk_cell BK8.out 2).trans rfl; have k4b : w9.cell? ⟨G8, 4, none⟩ = some (.int .i64 x4) := (blk_cell BK8.out 4).trans rfl; clear hca hla hra) | ((with_reducible refine gate_callee (f := 16) rfl ?_); refine goesL_ (some 68) rfl rfl Try.func16 (by kernel_rfl) rfl #[.slice Ad H2.length cd, .int .i64 x2, .int .i64 x4] rfl (by (try simp only [List.map_toArray, List.map_cons, List.map_nil]); first | done | rfl | (simp only [List.length_drop, List.length_take]; rfl)) ?_; (with_reducible refine (behindI _ _ _ _ _ _ ⟨HHc.out, HHl.out⟩ HLS.out.2.2.2.2.2).mono ?_); rintro e w10 ⟨va, rfl, hra, hb⟩; refine ⟨_, rfl, ?_⟩; (first | (with_reducible have e0_ := Aside0.mk (Kd.C_below HEc.out hb)) | (with_reducible have e0_ := Aside0.mk (Kd.C_below (Kd.C_drewN HEc.out _) hb)) | (with_reducible have e0_ := Aside0.mk (Kd.C_below (Kd.C_alloc HEc.out _) hb)) | (with_reducible have e0_ := Aside0.mk (Kd.C_below (Kd.C_drewN (Kd.C_alloc HEc.out _) _) hb)) | (with_reducible have e0_ := Aside0.mk (Kd.C_below (Kd.C_alloc (Kd.C_drewN HEc.out _) _) hb)) | (with_reducible have e0_ := Aside0.mk (Kd.C_below (Kd.C_drewN (Kd.C_drewN HEc.out _) _) hb))); have m1_ := Aside0.mk (below_step (by repeat (first | (with_reducible first | exact HB8.out | apply below_alloc | apply pw_below_drewN | apply below_drew1) | exact HB8.out)) hb); clear HB8; have HB8 := m1_; clear m1_; clear HEc; have HEc := e0_; clear e0_; clear hb; obtain ⟨Af, cf, eva, hla, hca⟩ := Kd.R_reads hra; subst eva; have HGc := Aside0.mk hca; have HGl := Aside0.mk hla; clear hca hla hra))
            go_roundg (gk - 1)
            case measure => have := HK.out; omega
            case rel => exact ⟨i + 1, _, Ae, ce, Af, cf, by go_num, rfl, rfl, by omega, ⟨by have := HK.out; omega⟩, HNX, ⟨HEc.out, HEl.out⟩, ⟨HGc.out, HGl.out⟩, HB8⟩
          · have hdp : decide (plc E2 x4 < 0) = false := decide_eq_false hp
            have hfe := HFE.out
            rw [if_neg hp] at hfe
            obtain ⟨us', cur', n', e', h'⟩ := u
            simp only at hfe
            obtain ⟨r1, r2⟩ := Prod.mk.inj hfe
            subst r1 r2
            clear hfe hp HFE
            go_wp2_with (first | ((with_reducible refine gate_callee (f := 17) rfl ?_); refine goesL_ (some 55) rfl rfl Try.func17 (by kernel_rfl) rfl #[.slice Ab E2.length cb, .int .i64 x4] rfl (by (try simp only [List.map_toArray, List.map_cons, List.map_nil]); first | done | rfl | (simp only [List.length_drop, List.length_take]; rfl)) ?_; (with_reducible refine (placeI _ _ _ _ _ HE8.out HLS.out.2.2.1).mono ?_); rintro e w' ⟨rfl, ⟨nd, rfl⟩⟩; refine ⟨_, rfl, ?_⟩))
            go_roundg (gk - 1)
            case measure => have := HK.out; omega
            case rel => exact ⟨i + 1, _, Ab, cb, Ad, cd, by go_num, rfl, rfl, by omega, ⟨by have := HK.out; omega⟩, HNX, ⟨row_below HE8.out (pw_below_drewN (Below.refl _ _) _)⟩, ⟨row_below HH8.out (pw_below_drewN (Below.refl _ _) _)⟩, ⟨pw_below_drewN HB8.out _⟩⟩
        · have hkb : (x0 != 1) = true := by simpa using hk
          have hke := step_keeps HU.out hk
          have HE5 : Aside0 (Kd.C (Kd.int .i64) (wr.alloc (.cells #[.int .i64 x0, .int .i64 x1, .int .i64 x2, .int .i64 x3, .int .i64 x4] 53)) A5 u.e.length u.e ∧ u.e.length ≤ c5) := ⟨by rw [hke.1]; exact HE4.out⟩
          have HH5 : Aside0 (Kd.C (Kd.int .i64) (wr.alloc (.cells #[.int .i64 x0, .int .i64 x1, .int .i64 x2, .int .i64 x3, .int .i64 x4] 53)) A6 u.h.length u.h ∧ u.h.length ≤ c6) := ⟨by rw [hke.2]; exact HH4.out⟩
          have he1 : t.e.length = u.e.length := by rw [hke.1]
          have he2 : t.h.length = u.h.length := by rw [hke.2]
          rw [he1, he2]
          clear hke he1 he2
          clear hk
          go_wp2
          go_roundg (gk - 1)
          case measure => have := HK.out; omega
          case rel => exact ⟨i + 1, u, A5, c5, A6, c6, by go_num, rfl, rfl, by omega, ⟨by have := HK.out; omega⟩, HNX, HE5, HH5, HB4⟩
      · have hil : i = l.length := by omega
        subst hil
        have hts : s = t := by have := HS.out; rw [List.take_length] at this; exact Option.some.inj (HRUN.out.symm.trans this)
        subst hts
        have hn8 : (s.n : Int) ≤ 181 := by have := HN.out; omega
        have HLS : Aside0 (s.e.length ≤ 1000000000 ∧ s.h.length ≤ 1000000000) := ⟨by have := HLE.out; have := HN.out; omega⟩
        go_wp2
        generalize hwr : wr = w2 at HE HH HB ⊢
        clear hwr
        have HB6 := HB
        clear HB
        go_loopg [10, 9] (s.n + 1) (fun kq v10 v9 w' => ∃ (i : Nat), v10 = .int .i64 (i : Int) ∧ (i : Int) ≤ (s.n : Int) ∧ Aside0 (kq + i = s.n + 1) ∧ Aside0 (Kd.R kP 59 w' w2.heap.size (fun _ => True) v9 ((ints i).map fun y => (plc s.e y, plc s.h y))) ∧ Aside0 (Below w2.heap.size w2 w'))
        case atStart => exact ⟨0, rfl, by omega, ⟨rfl⟩, ⟨Kd.R_nil _ _ _ _ _⟩, ⟨Below.refl _ _⟩⟩
        case round =>
          obtain ⟨i, rfl, hi, HK, HO, HB⟩ := hrel
          by_cases h : (i : Int) < (s.n : Int)
          · have HIL : Aside0 (((ints i).map fun y => (plc s.e y, plc s.h y)).length = i) := ⟨by rw [List.length_map, ints_len]⟩
            have hi8 : i ≤ 181 := by omega
            go_wp2_with (first | ((with_reducible refine gate_callee (f := 17) rfl ?_); refine goesL_ (some 77) rfl rfl Try.func17 (by kernel_rfl) rfl #[.slice A5 s.e.length c5, .int .i64 (i : Int)] rfl (by (try simp only [List.map_toArray, List.map_cons, List.map_nil]); first | done | rfl | (simp only [List.length_drop, List.length_take]; rfl)) ?_; (with_reducible refine (placeI _ _ _ _ _ (row_below HE.out HB.out) HLS.out.1).mono ?_); rintro e w' ⟨rfl, ⟨nd, rfl⟩⟩; refine ⟨_, rfl, ?_⟩) | ((with_reducible refine gate_callee (f := 17) rfl ?_); refine goesL_ (some 80) rfl rfl Try.func17 (by kernel_rfl) rfl #[.slice A6 s.h.length c6, .int .i64 (i : Int)] rfl (by (try simp only [List.map_toArray, List.map_cons, List.map_nil]); first | done | rfl | (simp only [List.length_drop, List.length_take]; rfl)) ?_; (with_reducible refine (placeI _ _ _ _ _ (row_below HH.out (pw_below_drewN HB.out _)) HLS.out.2).mono ?_); rintro e w' ⟨rfl, ⟨nd, rfl⟩⟩; refine ⟨_, rfl, ?_⟩) | ((with_reducible refine gate_builtin (b := .append) (xs := #[.tmp 74, .tmp 82]) rfl ?_); at_builtin; refine Kd.R_append (kP) (w0 := w2) w2.heap.size rfl (.tmp 74) (.tmp 82) 34 59 (.agg #[.int .i64 0, .int .i64 0]) 16 rfl Try.underlying34 info59 rfl (by decide) (by omega) u9 (((ints i).map fun y => (plc s.e y, plc s.h y))) (((plc s.e (i : Int), plc s.h (i : Int)) : Int × Int)) [.int .i64 (plc s.e (i : Int)), .int .i64 (plc s.h (i : Int))] (fun _ => True) (fun _ => False) rfl rfl ?aP (fun _ hk => hk.elim) ?aF ?aO ?aB ?aS ?aL ?_; (case aP => exact kP_mkM _ _ _ ((plc s.e (i : Int), plc s.h (i : Int)) : Int × Int)); (case aB => exact (by repeat (first | (with_reducible first | exact HB.out | apply below_alloc | apply pw_below_drewN | apply below_drew1) | exact HB.out))); (case aF => exact (fun _ _ => trivial)); (case aO => exact (by (with_reducible repeat (first | apply Kd.R_alloc | apply Kd.R_drewN | apply Kd.R_drew)); exact HO.out)); (case aS => exact (below_size (by repeat (first | (with_reducible first | exact HB.out | apply below_alloc | apply pw_below_drewN | apply below_drew1) | exact HB.out)))); (case aL => (rw [HIL.out]; omega)); intro v7 w7 ho hb hg hat; have n0_ := Aside0.mk (hb); have n1_ := Aside0.mk (ho); clear HB; clear HO; have HB := n0_; have HO := n1_; clear n0_ n1_; clear ho hb hg hat))
            go_roundg (gk - 1)
            case measure => have := HK.out; omega
            case rel => exact ⟨i + 1, by go_num, by omega, ⟨by have := HK.out; omega⟩, ⟨by rw [ints_succ, List.map_append, List.map_singleton]; exact HO.out⟩, HB⟩
          · have hie : i = s.n := by omega
            subst hie
            go_wp2
            go_ret2
            refine ⟨HB6.out.trans (HB.out.mono (below_size HB6.out)), fun h => ?_, fun o ho => ?_⟩
            · rw [HQS.out] at h; cases h
            · rw [HQS.out] at ho
              cases ho
              exact ⟨_, rfl, Kd.R_lower HO.out (below_size HB6.out)⟩
end Go.Proofs.Ythjecgmgpnileaa.Bd
