/- Work, and whether uses stand in strands that have begun: walked. -/
import Derived.Test.YthjecgmgpnileaaC17
namespace Go.Proofs.Ythjecgmgpnileaa.Bd
open Go.RowKit Go.Lib Go.Proofs.YthjecgmgpnileaaW.PrintWords Go.Proofs.YthjecgmgpnileaaW.PrintLast Go.Proofs.YthjecgmgpnileaaW.PrintMore
attribute [local go_sem] max2_int min2_int max_two min_two max_three min_three max_four min_four   -- for this text's walks alone
set_option linter.unusedVariables false
set_option linter.unusedSimpArgs false

theorem refof_none {A : Option Addr} {c : Nat} {l : List S53} {w : World} (hr : Kd.C k53 w A l.length l) (hl : l.length ≤ 60) (hq : ofL l = none) :
    Calls Try.prog 7 #[.slice A l.length c] w fun e w' => e = .returned (.tuple #[.slice none 0 0, .int .i64 1]) ∧ Below w.heap.size w w' :=
  (refof_calls A c l w hr hl none hq).mono fun e w' h => ⟨h.2.1 rfl, h.1⟩
theorem refof_some {A : Option Addr} {c : Nat} {l : List S53} {w : World} (hr : Kd.C k53 w A l.length l) (hl : l.length ≤ 60) {o : List (Int × Int)} (hq : ofL l = some o) :
    Calls Try.prog 7 #[.slice A l.length c] w fun e w' => ∃ v0_ : Value, e = .returned (.tuple #[v0_, .int .i64 0]) ∧ Kd.R kP 59 w' w.heap.size (fun _ => True) v0_ o ∧ Below w.heap.size w w' :=
  (refof_calls A c l w hr hl _ hq).mono fun e w' h => by
    obtain ⟨v, h1, h2⟩ := h.2.2 o rfl
    exact ⟨v, h1, h2, h.1⟩
theorem spof_none {A : Option Addr} {c : Nat} {l : List S53} {w : World} (hr : Kd.C k53 w A l.length l) (hl : l.length ≤ 60) (hq : ofL l = none) :
    Calls Try.prog 18 #[.slice A l.length c] w fun e w' => e = .returned (.tuple #[.slice none 0 0, .int .i64 1]) ∧ Below w.heap.size w w' :=
  (of_calls A c l w hr hl none hq).mono fun e w' h => ⟨h.2.1 rfl, h.1⟩
theorem spof_some {A : Option Addr} {c : Nat} {l : List S53} {w : World} (hr : Kd.C k53 w A l.length l) (hl : l.length ≤ 60) {o : List (Int × Int)} (hq : ofL l = some o) :
    Calls Try.prog 18 #[.slice A l.length c] w fun e w' => ∃ v0_ : Value, e = .returned (.tuple #[v0_, .int .i64 0]) ∧ Kd.R kP 59 w' w.heap.size (fun _ => True) v0_ o ∧ Below w.heap.size w w' :=
  (of_calls A c l w hr hl _ hq).mono fun e w' h => by
    obtain ⟨v, h1, h2⟩ := h.2.2 o rfl
    exact ⟨v, h1, h2, h.1⟩
def okS (n : Nat) (sp : List S53) (s : Int) : Bool := decide (0 ≤ s) && decide (s < (n : Int)) && begunL sp s
/-- Do all uses stand in strands that have begun, and how many strands are there? -/
def namedL (ss : List Int) (sp : List S53) : Int × Bool := match ofL sp with
  | none => (0, false)
  | some o => if ss.all (okS o.length sp) = true then ((o.length : Int), true) else (0, false)
theorem all_next {ss : List Int} {i : Nat} (h : i < ss.length) {f : Int → Bool} (hf : f (at0 ss (i : Int)) = true) (ht : (ss.take i).all f = true) : (ss.take (i + 1)).all f = true := by
  have e : at0 ss (i : Int) = ss[i] := by
    unfold at0
    rw [Int.toNat_natCast, List.getD_eq_getElem?_getD, List.getElem?_eq_getElem h]
    rfl
  rw [e] at hf
  rw [List.take_succ_eq_append_getElem h, List.all_append, ht]
  simp [hf]
theorem all_bad {ss : List Int} {i : Nat} (h : i < ss.length) {f : Int → Bool} (hf : f (at0 ss (i : Int)) = false) : ¬ ss.all f = true := fun k => by
  rw [List.all_eq_true] at k
  rw [k _ (at0_mem (by omega) (by omega))] at hf
  cases hf
set_option maxHeartbeats 4000000 in
theorem work_calls (a0 a1 : Int) (s2 s3 s4 s5 : SlV) (A6 : Option Addr) (c6 : Nat) (us : List SU) (A7 : Option Addr) (c7 : Nat) (sp : List S53) (a8 a9 : Int) (s10 : SlV) (w : World) : Calls Try.prog 10 #[.agg #[.int .i64 a0, .int .i64 a1, .slice s2.1 s2.2.1 s2.2.2, .slice s3.1 s3.2.1 s3.2.2, .slice s4.1 s4.2.1 s4.2.2, .slice s5.1 s5.2.1 s5.2.2, .slice A6 us.length c6, .slice A7 sp.length c7, .int .i64 a8, .int .i64 a9, .slice s10.1 s10.2.1 s10.2.2]] w fun e w' => e = .returned (.int .i64 (us.length : Int)) ∧ Below w.heap.size w w' := by
  go_enter Try.func10, Try.ntmps10
  go_wp2
  go_ret
  exact ⟨rfl, by repeat (first | exact Below.refl _ _ | apply below_alloc)⟩
set_option maxHeartbeats 16000000 in
set_option maxRecDepth 100000 in
theorem named_calls (a0 a1 : Int) (s2 s3 s4 s5 : SlV) (A6 : Option Addr) (c6 : Nat) (us : List SU) (A7 : Option Addr) (c7 : Nat) (sp : List S53) (a8 a9 : Int) (s10 : SlV) (w : World) (hu : Kd.C kU w A6 us.length us) (hs : Kd.C k53 w A7 sp.length sp) (hcs : sp.length ≤ c7) (hl : sp.length ≤ 60) (hul : us.length ≤ 1000) (q : Int × Bool) (hq : namedL (strands us) sp = q) :
    Calls Try.prog 6 #[.agg #[.int .i64 a0, .int .i64 a1, .slice s2.1 s2.2.1 s2.2.2, .slice s3.1 s3.2.1 s3.2.2, .slice s4.1 s4.2.1 s4.2.2, .slice s5.1 s5.2.1 s5.2.2, .slice A6 us.length c6, .slice A7 sp.length c7, .int .i64 a8, .int .i64 a9, .slice s10.1 s10.2.1 s10.2.2]] w fun e w' => e = .returned (.tuple #[.int .i64 q.1, .bool q.2]) ∧ Below w.heap.size w w' := by
  have HUS := Aside0.mk hu
  have HSP := Aside0.mk hs
  have HL := Aside0.mk (And.intro hl hcs)
  have HB := Aside0.mk (Below.refl w.heap.size w)
  have hu1 : (us.length : Int) ≤ 1000 := by omega
  cases ho : ofL sp with
  | none =>
    have hqn : q = (0, false) := by rw [← hq]; unfold namedL; rw [ho]
    have HOF := Aside0.mk ho
    subst hqn
    clear hu hs hcs hl hul hq ho
    go_enter Try.func6, Try.ntmps6
    go_wp2_with (first | (((with_reducible refine gate_dst (N := 1) rfl ?_); refine box_event ?hg (N := 1) ?hd (cs := #[.int .i64 a0, .int .i64 a1, .slice s2.1 s2.2.1 s2.2.2, .slice s3.1 s3.2.1 s3.2.2, .slice s4.1 s4.2.1 s4.2.2, .slice s5.1 s5.2.1 s5.2.2, .slice A6 us.length c6, .slice A7 sp.length c7, .int .i64 a8, .int .i64 a9, .slice s10.1 s10.2.1 s10.2.2]) (t := 29) ?hr ?_; (case hd => rfl); (case hg => rfl); (case hr => first | (go_simp; done) | (go_simp; rfl)); intro G2 hg w2 hbox hb; (first | (with_reducible have e0_ := Aside0.mk (Kd.C_below HSP.out hb)) | (with_reducible have e0_ := Aside0.mk (Kd.C_below (Kd.C_drewN HSP.out _) hb)) | (with_reducible have e0_ := Aside0.mk (Kd.C_below (Kd.C_alloc HSP.out _) hb)) | (with_reducible have e0_ := Aside0.mk (Kd.C_below (Kd.C_drewN (Kd.C_alloc HSP.out _) _) hb)) | (with_reducible have e0_ := Aside0.mk (Kd.C_below (Kd.C_alloc (Kd.C_drewN HSP.out _) _) hb)) | (with_reducible have e0_ := Aside0.mk (Kd.C_below (Kd.C_drewN (Kd.C_drewN HSP.out _) _) hb))); have n0_ := Aside0.mk (below_step (by repeat (first | (with_reducible first | exact HB.out | apply below_alloc | apply pw_below_drewN | apply below_drew1) | exact HB.out)) hb); have n1_ := Aside0.mk hbox; have n2_ := Aside0.mk ((by rw [hg]; exact (below_size (by repeat (first | (with_reducible first | exact HB.out | apply below_alloc | apply pw_below_drewN | apply below_drew1) | exact HB.out)))) : w.heap.size ≤ G2); clear HSP; have HSP := e0_; clear e0_; clear HB; have HB := n0_; have BK2 := n1_; have GE2 := n2_; clear n0_ n1_ n2_; clear hb hbox hg); have k7 : w2.cell? ⟨G2, 7, none⟩ = some (.slice A7 sp.length c7) := (blk_cell BK2.out 7).trans rfl) | ((with_reducible refine gate_callee (f := 7) rfl ?_); refine goesL_ (some 12) rfl rfl Try.func7 (by kernel_rfl) rfl #[.slice A7 sp.length c7] rfl (by (try simp only [List.map_toArray, List.map_cons, List.map_nil]); first | done | rfl | (simp only [List.length_drop, List.length_take]; rfl)) ?_; (with_reducible refine (refof_none HSP.out HL.out.1 HOF.out).mono ?_); rintro e w1 ⟨rfl, hb⟩; refine ⟨_, rfl, ?_⟩; have m1_ := Aside0.mk (below_step (by repeat (first | (with_reducible first | exact HB.out | apply below_alloc | apply pw_below_drewN | apply below_drew1) | exact HB.out)) hb); clear HB; have HB := m1_; clear m1_; clear hb))
    go_ret2
    exact ⟨rfl, HB.out⟩
  | some o =>
    have HOF := Aside0.mk ho
    have HQ : Aside0 ((if (strands us).all (okS o.length sp) = true then ((o.length : Int), true) else (0, false)) = q) := ⟨by rw [← hq]; unfold namedL; rw [ho]⟩
    have hsl : (strands us).length = us.length := by unfold strands; rw [List.length_map]
    have HSL := Aside0.mk hsl
    clear hu hs hcs hl hul hq ho hsl
    go_enter Try.func6, Try.ntmps6
    go_wp2_with (first | (((with_reducible refine gate_dst (N := 1) rfl ?_); refine box_event ?hg (N := 1) ?hd (cs := #[.int .i64 a0, .int .i64 a1, .slice s2.1 s2.2.1 s2.2.2, .slice s3.1 s3.2.1 s3.2.2, .slice s4.1 s4.2.1 s4.2.2, .slice s5.1 s5.2.1 s5.2.2, .slice A6 us.length c6, .slice A7 sp.length c7, .int .i64 a8, .int .i64 a9, .slice s10.1 s10.2.1 s10.2.2]) (t := 29) ?hr ?_; (case hd => rfl); (case hg => rfl); (case hr => first | (go_simp; done) | (go_simp; rfl)); intro G2 hg w2 hbox hb; (first | (with_reducible have e0_ := Aside0.mk (Kd.C_below HSP.out hb)) | (with_reducible have e0_ := Aside0.mk (Kd.C_below (Kd.C_drewN HSP.out _) hb)) | (with_reducible have e0_ := Aside0.mk (Kd.C_below (Kd.C_alloc HSP.out _) hb)) | (with_reducible have e0_ := Aside0.mk (Kd.C_below (Kd.C_drewN (Kd.C_alloc HSP.out _) _) hb)) | (with_reducible have e0_ := Aside0.mk (Kd.C_below (Kd.C_alloc (Kd.C_drewN HSP.out _) _) hb)) | (with_reducible have e0_ := Aside0.mk (Kd.C_below (Kd.C_drewN (Kd.C_drewN HSP.out _) _) hb))); (first | (with_reducible have e1_ := Aside0.mk (Kd.C_below HUS.out hb)) | (with_reducible have e1_ := Aside0.mk (Kd.C_below (Kd.C_drewN HUS.out _) hb)) | (with_reducible have e1_ := Aside0.mk (Kd.C_below (Kd.C_alloc HUS.out _) hb)) | (with_reducible have e1_ := Aside0.mk (Kd.C_below (Kd.C_drewN (Kd.C_alloc HUS.out _) _) hb)) | (with_reducible have e1_ := Aside0.mk (Kd.C_below (Kd.C_alloc (Kd.C_drewN HUS.out _) _) hb)) | (with_reducible have e1_ := Aside0.mk (Kd.C_below (Kd.C_drewN (Kd.C_drewN HUS.out _) _) hb))); have n0_ := Aside0.mk (below_step (by repeat (first | (with_reducible first | exact HB.out | apply below_alloc | apply pw_below_drewN | apply below_drew1) | exact HB.out)) hb); have n1_ := Aside0.mk hbox; have n2_ := Aside0.mk ((by rw [hg]; exact (below_size (by repeat (first | (with_reducible first | exact HB.out | apply below_alloc | apply pw_below_drewN | apply below_drew1) | exact HB.out)))) : w.heap.size ≤ G2); clear HSP; have HSP := e0_; clear e0_; clear HUS; have HUS := e1_; clear e1_; clear HB; have HB := n0_; have BK2 := n1_; have GE2 := n2_; clear n0_ n1_ n2_; clear hb hbox hg); have k7 : w2.cell? ⟨G2, 7, none⟩ = some (.slice A7 sp.length c7) := (blk_cell BK2.out 7).trans rfl) | ((with_reducible refine gate_callee (f := 7) rfl ?_); refine goesL_ (some 12) rfl rfl Try.func7 (by kernel_rfl) rfl #[.slice A7 sp.length c7] rfl (by (try simp only [List.map_toArray, List.map_cons, List.map_nil]); first | done | rfl | (simp only [List.length_drop, List.length_take]; rfl)) ?_; (with_reducible refine (refof_some HSP.out HL.out.1 HOF.out).mono ?_); rintro e w3 ⟨va, rfl, hra, hb⟩; refine ⟨_, rfl, ?_⟩; (first | (with_reducible have e0_ := Aside0.mk (Kd.C_below HSP.out hb)) | (with_reducible have e0_ := Aside0.mk (Kd.C_below (Kd.C_drewN HSP.out _) hb)) | (with_reducible have e0_ := Aside0.mk (Kd.C_below (Kd.C_alloc HSP.out _) hb)) | (with_reducible have e0_ := Aside0.mk (Kd.C_below (Kd.C_drewN (Kd.C_alloc HSP.out _) _) hb)) | (with_reducible have e0_ := Aside0.mk (Kd.C_below (Kd.C_alloc (Kd.C_drewN HSP.out _) _) hb)) | (with_reducible have e0_ := Aside0.mk (Kd.C_below (Kd.C_drewN (Kd.C_drewN HSP.out _) _) hb))); (first | (with_reducible have e1_ := Aside0.mk (Kd.C_below HUS.out hb)) | (with_reducible have e1_ := Aside0.mk (Kd.C_below (Kd.C_drewN HUS.out _) hb)) | (with_reducible have e1_ := Aside0.mk (Kd.C_below (Kd.C_alloc HUS.out _) hb)) | (with_reducible have e1_ := Aside0.mk (Kd.C_below (Kd.C_drewN (Kd.C_alloc HUS.out _) _) hb)) | (with_reducible have e1_ := Aside0.mk (Kd.C_below (Kd.C_alloc (Kd.C_drewN HUS.out _) _) hb)) | (with_reducible have e1_ := Aside0.mk (Kd.C_below (Kd.C_drewN (Kd.C_drewN HUS.out _) _) hb))); have b0_ := Aside0.mk (blk_below (by (with_reducible repeat (first | refine blk_drewN ?_ _ | refine blk_drew ?_ | refine blk_alloc ?_ _)); exact BK2.out) hb); have m1_ := Aside0.mk (below_step (by repeat (first | (with_reducible first | exact HB.out | apply below_alloc | apply pw_below_drewN | apply below_drew1) | exact HB.out)) hb); clear HB; have HB := m1_; clear m1_; clear HSP; have HSP := e0_; clear e0_; clear HUS; have HUS := e1_; clear e1_; clear BK2; have BK2 := b0_; clear b0_; clear hb; obtain ⟨Ao, co, eva, hla, hca⟩ := Kd.R_reads hra; subst eva; clear hca hla hra))
    clear k7
    go_loopg [6] (us.length + 1) (fun kq v6 w' => ∃ (i : Nat), v6 = .int .i64 (i : Int) ∧ (i : Int) ≤ (us.length : Int) ∧ Aside0 (kq + i = us.length + 1) ∧ Aside0 (((strands us).take i).all (okS o.length sp) = true) ∧ Aside0 (Below w3.heap.size w3 w'))
    case atStart => exact ⟨0, rfl, by omega, ⟨rfl⟩, ⟨rfl⟩, ⟨Below.refl _ _⟩⟩
    case round =>
      obtain ⟨i, rfl, hi, HK, HA, HB3⟩ := hrel
      have BK := Aside0.mk (blk_below BK2.out HB3.out)
      have k6 : wr.cell? ⟨G2, 6, none⟩ = some (.slice A6 us.length c6) := (blk_cell BK.out 6).trans rfl
      by_cases h : (i : Int) < (us.length : Int)
      · have hil : i < us.length := by omega
        have k7 : wr.cell? ⟨G2, 7, none⟩ = some (.slice A7 sp.length c7) := (blk_cell BK.out 7).trans rfl
        obtain ⟨ad, ea, y0⟩ := at_U (Kd.C_below HUS.out HB3.out) (i : Int) (by omega) h
        cases ea
        rw [Int.toNat_natCast] at y0
        obtain ⟨s, hs⟩ : ∃ s, at0 (strands us) (i : Int) = s := ⟨_, rfl⟩
        rw [hs] at y0
        have HX := Aside0.mk hs
        clear hs
        by_cases h0 : s < 0
        · have hd0 : decide (s < 0) = true := decide_eq_true h0
          have hqn : q = (0, false) := by rw [← HQ.out, if_neg (all_bad (i := i) (by have := HSL.out; omega) (by rw [HX.out]; unfold okS; simp; omega))]
          subst hqn
          clear h0
          go_wp2
          go_ret2
          exact ⟨rfl, HB.out.trans (HB3.out.mono (below_size HB.out))⟩
        have hd0 : decide (s < 0) = false := decide_eq_false h0
        by_cases h1 : (o.length : Int) ≤ s
        · have hd1 : decide ((o.length : Int) ≤ s) = true := decide_eq_true h1
          have hqn : q = (0, false) := by rw [← HQ.out, if_neg (all_bad (i := i) (by have := HSL.out; omega) (by rw [HX.out]; unfold okS; simp; omega))]
          subst hqn
          clear h0 h1
          go_wp2
          go_ret2
          exact ⟨rfl, HB.out.trans (HB3.out.mono (below_size HB.out))⟩
        have hd1 : decide ((o.length : Int) ≤ s) = false := decide_eq_false h1
        obtain ⟨b, hb⟩ : ∃ b, begunL sp s = b := ⟨_, rfl⟩
        have hbc : underwoodref12_Begun.f (sp.length + 1) sp s = some b := by rw [← hb]; exact begun_is sp s (by have := HL.out.1; omega)
        have HBC := Aside0.mk hbc
        cases b with
        | false =>
          have hqn : q = (0, false) := by rw [← HQ.out, if_neg (all_bad (i := i) (by have := HSL.out; omega) (by rw [HX.out]; unfold okS; rw [hb]; simp))]
          subst hqn
          clear h0 h1 hbc hb
          go_wp2_with (first | ((with_reducible refine gate_callee (f := 14) rfl ?_); refine goesL_ (some 41) rfl rfl Try.func14 (by kernel_rfl) rfl #[.slice A7 sp.length c7, .int .i64 s] rfl (by (try simp only [List.map_toArray, List.map_cons, List.map_nil]); first | done | rfl | (simp only [List.length_drop, List.length_take]; rfl)) ?_; (with_reducible refine (underwoodref12_Begun.calls _ _ _ _ _ _ _ (Kd.C_below HSP.out HB3.out) HL.out.2 HBC.out).mono ?_); rintro e w' ⟨rfl, ⟨nd, rfl⟩⟩; refine ⟨_, rfl, ?_⟩))
          go_ret2
          exact ⟨rfl, pw_below_drewN (HB.out.trans (HB3.out.mono (below_size HB.out))) _⟩
        | true =>
          have hnx := all_next (i := i) (f := okS o.length sp) (by have := HSL.out; omega) (by rw [HX.out]; unfold okS; rw [hb]; simp; omega) HA.out
          have HNX := Aside0.mk hnx
          clear h0 h1 hbc hb hnx
          go_wp2_with (first | ((with_reducible refine gate_callee (f := 14) rfl ?_); refine goesL_ (some 41) rfl rfl Try.func14 (by kernel_rfl) rfl #[.slice A7 sp.length c7, .int .i64 s] rfl (by (try simp only [List.map_toArray, List.map_cons, List.map_nil]); first | done | rfl | (simp only [List.length_drop, List.length_take]; rfl)) ?_; (with_reducible refine (underwoodref12_Begun.calls _ _ _ _ _ _ _ (Kd.C_below HSP.out HB3.out) HL.out.2 HBC.out).mono ?_); rintro e w' ⟨rfl, ⟨nd, rfl⟩⟩; refine ⟨_, rfl, ?_⟩))
          go_roundg (gk - 1)
          case measure => have := HK.out; omega
          case rel => exact ⟨i + 1, by go_num, by omega, ⟨by have := HK.out; omega⟩, HNX, ⟨pw_below_drewN HB3.out _⟩⟩
      · have hil : i = us.length := by omega
        have hall : (strands us).all (okS o.length sp) = true := by have := HA.out; rw [hil, ← HSL.out, List.take_length] at this; exact this
        have hqn : q = ((o.length : Int), true) := by rw [← HQ.out, if_pos hall]
        subst hqn
        clear hall hil
        go_wp2
        go_ret2
        exact ⟨rfl, HB.out.trans (HB3.out.mono (below_size HB.out))⟩
end Go.Proofs.Ythjecgmgpnileaa.Bd
