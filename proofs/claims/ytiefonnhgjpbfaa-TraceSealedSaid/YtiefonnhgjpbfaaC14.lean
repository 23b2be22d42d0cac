/- The law TraceSealed, walked. -/
import Derived.Test.YtiefonnhgjpbfaaC13
namespace Go.Proofs.Ytiefonnhgjpbfaa.Tr
open Go.RowKit Go.Proofs.YtiefonnhgjpbfaaW.PrintWords Go.Proofs.YtiefonnhgjpbfaaW.PrintLast Go.Proofs.YtiefonnhgjpbfaaW.PrintMore
attribute [local go_sem] max2_int min2_int max_two min_two max_three min_three max_four min_four   -- for this text's walks alone
set_option linter.unusedVariables false
set_option linter.unusedSimpArgs false

theorem openN_some (A : Option Addr) (c : Nat) (l : List Int) (w : World) (hr : Kd.C (Kd.int .u8) w A l.length l) (hc : l.length ≤ c) (hb : Byt l) (hn : l.length ≤ 1000000) {r : List Int} {k : Nat} (h : opn l = some (r, k)) :
    Calls Try.prog 18 #[.slice A l.length c] w fun e w' => ∃ (A1 : Option Addr) (c1 : Nat), e = .returned (.tuple #[.slice A1 r.length c1, .int .i64 (k : Int), .int .i64 0]) ∧ Kd.C (Kd.int .u8) w' A1 r.length r ∧ r.length ≤ c1 ∧ Below w.heap.size w w' :=
  wire_Open_some A c l w hr hc hb (by omega) h
theorem putP (n : Int) (P : List Int) (hP : P = put n) (w : World) (h : I64 n) : Calls Try.prog 19 #[.int .i64 n] w fun e w' => ∃ v0_ : Value, e = .returned v0_ ∧ Kd.R (Kd.int .u8) 5 w' w.heap.size (fun _ => True) v0_ P ∧ Below w.heap.size w w' := by
  subst hP; exact wire_Put_calls n w h
set_option maxHeartbeats 16000000 in
set_option maxRecDepth 100000 in
theorem law_TraceSealed (A : Option Addr) (c : Nat) (l : List S48) (a1 a2 : Int) (w : World) (hr : Kd.C k48 w A l.length l) (hc : l.length ≤ c) (hb : ∀ x ∈ l, EvOk x) (hw1 : (Lit.int .u16 a1).wf = true) (hw2 : (Lit.int .u8 a2).wf = true) :
    Calls Try.prog 6 #[.slice A l.length c, .int .u16 a1, .int .u8 a2] w fun e w' => e = .returned (.bool true) ∧ Below w.heap.size w w' := by
  have HR := Aside0.mk hr
  have HC := Aside0.mk hc
  have HE := Aside0.mk hb
  have HB := Aside0.mk (Below.refl w.heap.size w)
  have hm : (l.length : Int) ≤ 9223372036854775807 := by have := Kd.C_max hr; omega
  have hu1 := u16_bd hw1
  have hu2 := u8_bd hw2
  by_cases hl : 60 < l.length
  · have hl2 : (60 : Int) < (l.length : Int) := by omega
    clear hr hc hb hl
    go_enter Try.func6, Try.ntmps6
    go_wp2_with (first | ((with_reducible refine gate_callee (f := 8) rfl ?_); refine goesL_ (some 17) rfl rfl Try.func8 (by kernel_rfl) rfl #[] rfl (by (try simp only [List.map_toArray, List.map_cons, List.map_nil]); first | done | rfl | (simp only [List.length_drop, List.length_take]; rfl)) ?_; (with_reducible refine (awake_calls _).mono ?_); rintro e w7 ⟨rfl, hb⟩; refine ⟨_, rfl, ?_⟩; have m1_ := Aside0.mk (below_step (by repeat (first | (with_reducible first | exact HB.out | apply below_alloc | apply pw_below_drewN | apply below_drew1) | exact HB.out)) hb); clear HB; have HB := m1_; clear m1_; clear hb))
    go_ret
    exact ⟨rfl, (by repeat (first | (with_reducible first | exact HB.out | apply below_alloc | apply pw_below_drewN | apply below_drew1) | exact HB.out))⟩
  have hl2 : ¬ (60 : Int) < (l.length : Int) := by omega
  by_cases h0 : a2 = 0
  · have hz0 : (a2 == 0) = true := by simp [h0]
    clear hr hc hb hl h0
    go_enter Try.func6, Try.ntmps6
    go_wp2_with (first | ((with_reducible refine gate_callee (f := 8) rfl ?_); refine goesL_ (some 17) rfl rfl Try.func8 (by kernel_rfl) rfl #[] rfl (by (try simp only [List.map_toArray, List.map_cons, List.map_nil]); first | done | rfl | (simp only [List.length_drop, List.length_take]; rfl)) ?_; (with_reducible refine (awake_calls _).mono ?_); rintro e w7 ⟨rfl, hb⟩; refine ⟨_, rfl, ?_⟩; have m1_ := Aside0.mk (below_step (by repeat (first | (with_reducible first | exact HB.out | apply below_alloc | apply pw_below_drewN | apply below_drew1) | exact HB.out)) hb); clear HB; have HB := m1_; clear m1_; clear hb))
    go_ret
    exact ⟨rfl, (by repeat (first | (with_reducible first | exact HB.out | apply below_alloc | apply pw_below_drewN | apply below_drew1) | exact HB.out))⟩
  · have hz0 : (a2 == 0) = false := by simp [h0]
    have HL : Aside0 (l.length ≤ 60) := ⟨by omega⟩
    have HL6 : Aside0 (l.length ≤ 1000000) := ⟨by omega⟩
    obtain ⟨Z, hZ⟩ : ∃ Z, Z = bytesE l := ⟨_, rfl⟩
    obtain ⟨N, hN⟩ : ∃ N, N = nums (all8 l) := ⟨_, rfl⟩
    obtain ⟨P, hP⟩ : ∃ P, P = put (N.length : Int) := ⟨_, rfl⟩
    have hZN : Z = P ++ N ++ put (sum N) := by rw [hZ, hP, hN]; rfl
    have hZn : Z.length ≤ 10000 := by rw [hZ]; have := bytesE_len l; omega
    have hN0 : 0 < N.length := by rw [hN]; have := put_pos (all8 l).length; simp only [nums, List.length_append]; omega
    have hNn : P.length + N.length ≤ Z.length := by rw [hZN]; simp only [List.length_append]; omega
    have hZ0 : 0 < Z.length := by omega
    obtain ⟨J, hJ⟩ : ∃ J : Nat, a1 % (N.length : Int) = (J : Int) := ⟨(a1 % (N.length : Int)).toNat, by have := Int.emod_nonneg a1 (b := (N.length : Int)) (by omega); omega⟩
    have hJl : J < N.length := by have := Int.emod_lt_of_pos a1 (b := (N.length : Int)) (by omega); omega
    obtain ⟨K, hK⟩ : ∃ K : Nat, (P.length : Int) + (J : Int) = (K : Int) := ⟨P.length + J, by omega⟩
    have hKl : K < Z.length := by omega
    have HZ := Aside0.mk hZ
    have HPe := Aside0.mk hP
    have HO1 : Aside0 (opn Z = some (N, Z.length)) := ⟨by rw [hZ, hN]; exact opn_bytesE l (by omega)⟩
    have HNi : Aside0 (I64 (N.length : Int)) := ⟨len_i64 (by omega)⟩
    obtain ⟨Y, hY⟩ : ∃ Y, Z.set K ((rdOf 0 Z (K : Int) + a2) % 256) = Y := ⟨_, rfl⟩
    have HYe := Aside0.mk hY
    have hg0 : rdOf 0 Z (K : Int) = Z.getD K 0 := by unfold rdOf; rw [Int.toNat_natCast]
    have HYb : Aside0 (Byt Y) := ⟨by rw [← hY, hZ]; exact byt_set (bytesE_byt l) (by omega)⟩
    have HZb : Aside0 (Byt Z) := ⟨by rw [hZ]; exact bytesE_byt l⟩
    have HZ6 : Aside0 (Z.length ≤ 1000000) := ⟨by omega⟩
    have HPn : Aside0 (parse Y = none) := ⟨by
      rw [← hY, hg0, hZ]
      exact parse_sealed (j := J) (by rw [← hZ]; omega) (by rw [← hN]; exact hJl) hu2 h0 (by rw [← hN, ← hP]; omega)⟩
    have hN0' : ((N.length : Int) == 0) = false := by rw [beq_eq_false_iff_ne]; omega
    have hgt : ¬ (Z.length : Int) < (P.length : Int) + (N.length : Int) := by omega
    clear hr hc hb hl hZ hY hg0 hN hP hZN h0
    go_enter Try.func6, Try.ntmps6
    go_wp2_with (first | ((with_reducible refine gate_callee (f := 8) rfl ?_); refine goesL_ (some 17) rfl rfl Try.func8 (by kernel_rfl) rfl #[] rfl (by (try simp only [List.map_toArray, List.map_cons, List.map_nil]); first | done | rfl | (simp only [List.length_drop, List.length_take]; rfl)) ?_; (with_reducible refine (awake_calls _).mono ?_); rintro e w7 ⟨rfl, hb⟩; refine ⟨_, rfl, ?_⟩; (first | (with_reducible have e0_ := Aside0.mk (Kd.C_below HR.out hb)) | (with_reducible have e0_ := Aside0.mk (Kd.C_below (Kd.C_drewN HR.out _) hb)) | (with_reducible have e0_ := Aside0.mk (Kd.C_below (Kd.C_alloc HR.out _) hb)) | (with_reducible have e0_ := Aside0.mk (Kd.C_below (Kd.C_drewN (Kd.C_alloc HR.out _) _) hb)) | (with_reducible have e0_ := Aside0.mk (Kd.C_below (Kd.C_alloc (Kd.C_drewN HR.out _) _) hb)) | (with_reducible have e0_ := Aside0.mk (Kd.C_below (Kd.C_drewN (Kd.C_drewN HR.out _) _) hb))); have m1_ := Aside0.mk (below_step (by repeat (first | (with_reducible first | exact HB.out | apply below_alloc | apply pw_below_drewN | apply below_drew1) | exact HB.out)) hb); clear HB; have HB := m1_; clear m1_; clear HR; have HR := e0_; clear e0_; clear hb) | ((with_reducible refine gate_callee (f := 9) rfl ?_); refine goesL_ (some 27) rfl rfl Try.func9 (by kernel_rfl) rfl #[.slice A l.length c] rfl (by (try simp only [List.map_toArray, List.map_cons, List.map_nil]); first | done | rfl | (simp only [List.length_drop, List.length_take]; rfl)) ?_; (with_reducible refine (bytesZ _ _ _ Z HZ.out _ HR.out HC.out HL6.out HE.out).mono ?_); rintro e w27 ⟨v27, rfl, ho0, hb⟩; refine ⟨_, rfl, ?_⟩; have m1_ := Aside0.mk (below_step (by repeat (first | (with_reducible first | exact HB.out | apply below_alloc | apply pw_below_drewN | apply below_drew1) | exact HB.out)) hb); clear HB; have HB := m1_; clear m1_; clear hb; obtain ⟨A27, c27, ev_, hl_, hc_⟩ := Kd.R_reads ho0; have HV := Aside0.mk hc_; have HVl := Aside0.mk hl_; clear ho0 hl_ hc_; subst ev_) | ((with_reducible refine gate_callee (f := 18) rfl ?_); refine goesL_ (some 30) rfl rfl Try.func18 (by kernel_rfl) rfl #[.slice A27 Z.length c27] rfl (by (try simp only [List.map_toArray, List.map_cons, List.map_nil]); first | done | rfl | (simp only [List.length_drop, List.length_take]; rfl)) ?_; (with_reducible refine (openN_some _ _ _ _ HV.out HVl.out HZb.out HZ6.out HO1.out).mono ?_); rintro e w30 ⟨A30, c30, rfl, -, -, hb⟩; refine ⟨_, rfl, ?_⟩; (first | (with_reducible have e0_ := Aside0.mk (Kd.C_below HV.out hb)) | (with_reducible have e0_ := Aside0.mk (Kd.C_below (Kd.C_drewN HV.out _) hb)) | (with_reducible have e0_ := Aside0.mk (Kd.C_below (Kd.C_alloc HV.out _) hb)) | (with_reducible have e0_ := Aside0.mk (Kd.C_below (Kd.C_drewN (Kd.C_alloc HV.out _) _) hb)) | (with_reducible have e0_ := Aside0.mk (Kd.C_below (Kd.C_alloc (Kd.C_drewN HV.out _) _) hb)) | (with_reducible have e0_ := Aside0.mk (Kd.C_below (Kd.C_drewN (Kd.C_drewN HV.out _) _) hb))); have m1_ := Aside0.mk (below_step (by repeat (first | (with_reducible first | exact HB.out | apply below_alloc | apply pw_below_drewN | apply below_drew1) | exact HB.out)) hb); clear HB; have HB := m1_; clear m1_; clear HV; have HV := e0_; clear e0_; clear hb) | ((with_reducible refine gate_callee (f := 19) rfl ?_); refine goesL_ (some 36) rfl rfl Try.func19 (by kernel_rfl) rfl #[.int .i64 (N.length : Int)] rfl (by (try simp only [List.map_toArray, List.map_cons, List.map_nil]); first | done | rfl | (simp only [List.length_drop, List.length_take]; rfl)) ?_; (with_reducible refine (putP _ P HPe.out _ HNi.out).mono ?_); rintro e w36 ⟨v36, rfl, ho0, hb⟩; refine ⟨_, rfl, ?_⟩; (first | (with_reducible have e0_ := Aside0.mk (Kd.C_below HV.out hb)) | (with_reducible have e0_ := Aside0.mk (Kd.C_below (Kd.C_drewN HV.out _) hb)) | (with_reducible have e0_ := Aside0.mk (Kd.C_below (Kd.C_alloc HV.out _) hb)) | (with_reducible have e0_ := Aside0.mk (Kd.C_below (Kd.C_drewN (Kd.C_alloc HV.out _) _) hb)) | (with_reducible have e0_ := Aside0.mk (Kd.C_below (Kd.C_alloc (Kd.C_drewN HV.out _) _) hb)) | (with_reducible have e0_ := Aside0.mk (Kd.C_below (Kd.C_drewN (Kd.C_drewN HV.out _) _) hb))); have m1_ := Aside0.mk (below_step (by repeat (first | (with_reducible first | exact HB.out | apply below_alloc | apply pw_below_drewN | apply below_drew1) | exact HB.out)) hb); clear HB; have HB := m1_; clear m1_; clear HV; have HV := e0_; clear e0_; clear hb; obtain ⟨A36, c36, ev_, hl_, hc_⟩ := Kd.R_reads ho0; have HQ := Aside0.mk hc_; have HQl := Aside0.mk hl_; clear ho0 hl_ hc_; subst ev_) | ((with_reducible refine gate_builtin (b := .append) (xs := #[.tmp 54, .tmp 55]) rfl ?_); at_builtin; (try clear HB0); have HB0 := Aside0.mk (by repeat (first | (with_reducible first | exact HB.out | apply below_alloc | apply pw_below_drewN | apply below_drew1) | exact HB.out)); have HS := Aside0.mk (show w.heap.size ≤ w36.heap.size from below_size HB0.out); have HX0_ := Aside0.mk (Below.refl w36.heap.size w36); refine Kd.R_append_rows (Kd.int .u8) (w0 := w36) w36.heap.size rfl (.tmp 54) (.tmp 55) 24 5 (.int .u8 0) 1 rfl Try.underlying24 info5 rfl (by decide) (by omega) _ ([] : List Int) (Z) _ _ _ (fun _ => True) (fun _ => False) rfl rfl ?aO ?aR (fun _ _ h => h) (fun _ h => h.elim) ?aF ?aB ?aS ?aL ?_; (case aR => exact (Kd.C_below HV.out (by repeat (first | (with_reducible first | exact HX0_.out | apply below_alloc | apply pw_below_drewN | apply below_drew1) | exact HX0_.out)))); (case aB => exact (by repeat (first | (with_reducible first | exact HX0_.out | apply below_alloc | apply pw_below_drewN | apply below_drew1) | exact HX0_.out))); (case aF => exact (fun _ _ => trivial)); (case aO => exact (R_lit0 _ _ _ _ (below_size (by repeat (first | (with_reducible first | exact HX0_.out | apply below_alloc | apply pw_below_drewN | apply below_drew1) | exact HX0_.out))))); (case aS => exact (below_size (by repeat (first | (with_reducible first | exact HX0_.out | apply below_alloc | apply pw_below_drewN | apply below_drew1) | exact HX0_.out)))); (case aL => (simp only [List.length_nil]; omega)); intro v56 w56 ho hb hg hat; rw [List.nil_append] at ho; clear hg hat HX0_; have n0_ := Aside0.mk (below_step (by repeat (first | (with_reducible first | exact HB.out | apply below_alloc | apply pw_below_drewN | apply below_drew1) | exact HB.out)) hb); clear HB; have HB := n0_; clear n0_; have HX := Aside0.mk hb; have HO := Aside0.mk ho; clear hb ho; obtain ⟨g, cap, rfl, hg1, hg2, -⟩ := Kd.R_form HO.out hZ0; obtain ⟨hx, hz⟩ := Kd.R_celln 0 HO.out (K : Int) (by omega) (by omega); rw [Int.toNat_natCast] at hx hz; have HYl := Aside0.mk (Kd.R_reads' HO.out).2.1) | ((with_reducible refine gate_store (t := 5) (p := 72) rfl ?_); refine store_event (t := 5) (p := 72) (v := ?vo_) (w1 := (w56.setCell ⟨g, K, none⟩ (.int .u8 ((rdOf 0 Z (K : Int) + a2) % 256)))) ?hg ?ho ?hn ?hr ?_; (case ho => rfl); (case hg => rfl); (case hn => rfl); (case hr => first | (go_simp; done) | (go_simp; rfl)); intro w72 hw; have n0_ : Aside0 (Below w.heap.size w w72) := ⟨(by rw [hw]; exact (HB.out.setCell (Nat.le_trans HS.out hg1) _))⟩; have n1_ : Aside0 (Kd.C (Kd.int .u8) w72 (some ⟨g, 0, none⟩) Z.length Y) := ⟨(by rw [hw]; exact (HYe.out ▸ set_C HO.out))⟩; clear hw; (try clear HB); have HB := n0_; clear n0_; (try clear HY); have HY := n1_; clear n1_) | ((with_reducible refine gate_callee (f := 10) rfl ?_); refine goesL_ (some 75) rfl rfl Try.func10 (by kernel_rfl) rfl #[.slice (some ⟨g, 0, none⟩) Z.length cap] rfl (by (try simp only [List.map_toArray, List.map_cons, List.map_nil]); first | done | rfl | (simp only [List.length_drop, List.length_take]; rfl)) ?_; (with_reducible refine (parseN_none _ _ _ _ _ HY.out HYl.out HYb.out HZ6.out HPn.out).mono ?_); rintro e w75 ⟨rfl, hb⟩; refine ⟨_, rfl, ?_⟩; have m1_ := Aside0.mk (below_step (by repeat (first | (with_reducible first | exact HB.out | apply below_alloc | apply pw_below_drewN | apply below_drew1) | exact HB.out)) hb); clear HB; have HB := m1_; clear m1_; clear hb))
    go_ret
    exact ⟨rfl, (by repeat (first | (with_reducible first | exact HB.out | apply below_alloc | apply pw_below_drewN | apply below_drew1) | exact HB.out))⟩
end Go.Proofs.Ytiefonnhgjpbfaa.Tr
