/- bound.Chain: walked. -/
import Derived.Test.YthjecgmgpnileaaC19
import Derived.Test.YthjecgmgpnileaaPc
namespace Go.Proofs.Ythjecgmgpnileaa.Bd
open Go.RowKit Go.Lib Go.Proofs.YthjecgmgpnileaaW.PrintWords Go.Proofs.YthjecgmgpnileaaW.PrintLast Go.Proofs.YthjecgmgpnileaaW.PrintMore
attribute [local go_sem] max2_int min2_int max_two min_two max_three min_three max_four min_four   -- for this text's walks alone
set_option linter.unusedVariables false
set_option linter.unusedSimpArgs false

def chainL (ss : List Int) (sp : List S53) : List Int := match ofL sp with
  | none => []
  | some o => chainB o ss
theorem reverse_calls {base g cap : Nat} {zs : List Int} {w : World} (h : Kd.R (Kd.int .i64) 3 w base (fun _ => True) (.slice (some ⟨g, 0, none⟩) zs.length cap) zs) (hl : zs.length ≤ 1000000) :
    Calls Try.prog 21 #[.slice (some ⟨g, 0, none⟩) zs.length cap] w fun e w' => e = .returned (.tuple #[]) ∧ Kd.R (Kd.int .i64) 3 w' base (fun _ => True) (.slice (some ⟨g, 0, none⟩) zs.length cap) zs.reverse ∧ Below base w w' := by
  obtain ⟨h1, h2, h3, h4⟩ := holds_R h
  refine (Try.slices_Reverse_int g 0 cap zs w h1 (by omega)).mono fun e w' ⟨he, q, hw⟩ => ?_
  have hp := R_put (q := q) h (ys := zs.reverse) (by simp)
  rw [List.length_reverse] at hp
  subst hw
  exact ⟨he, hp, below_put (Below.refl _ _) h3⟩
theorem one62 (W : World) (m f : Int) : Kd.C k62 (W.alloc (.cells #[.int .i64 m, .int .i64 f] 62)) (some ⟨W.heap.size, 0, none⟩) 1 [⟨m, f⟩] := by
  have hr : Reps (k62.K (W.alloc (.cells #[.int .i64 m, .int .i64 f] 62))) 2 [(⟨m, f⟩ : S62)] [.int .i64 m, .int .i64 f] := by
    refine ⟨rfl, fun j p hj => ?_⟩
    obtain ⟨hjl, hp⟩ := List.getElem?_eq_some_iff.1 hj
    have h0 : j = 0 := by simpa using hjl
    subst h0
    have hp' : (⟨m, f⟩ : S62) = p := hp
    subst hp'
    exact k62_mk _ ⟨m, f⟩
  obtain ⟨A, c, e, _, h⟩ := OwnRow.reads (OwnRow.lit (e := 62) W W.heap.size hr (Nat.le_refl _) (by simp))
  cases e
  exact h
theorem best_store {W : World} {g i : Nat} {bs : List (Int × Int)} (hb : W.heap[g]? = some (.cells (flat bs) 62 (0, 0))) (hi : i < bs.length) (x : Int × Int) :
    W.cell? ⟨g, i * 2, none⟩ = some (.int .i64 (bAt bs (i : Int)).1) ∧ W.cell? ⟨g, i * 2 + 1, none⟩ = some (.int .i64 (bAt bs (i : Int)).2) ∧ W.frozen? ⟨g, i * 2, none⟩ = false ∧ W.frozen? ⟨g, i * 2 + 1, none⟩ = false ∧
    (W.setCell ⟨g, i * 2, none⟩ (.int .i64 x.1)).cell? ⟨g, i * 2 + 1, none⟩ = some (.int .i64 (bAt bs (i : Int)).2) ∧ (W.setCell ⟨g, i * 2, none⟩ (.int .i64 x.1)).frozen? ⟨g, i * 2 + 1, none⟩ = false ∧
    ((W.setCell ⟨g, i * 2, none⟩ (.int .i64 x.1)).setCell ⟨g, i * 2 + 1, none⟩ (.int .i64 x.2)).heap[g]? = some (.cells (flat (bs.set i x)) 62 (0, 0)) := by
  refine ⟨(blk_cell hb (i * 2)).trans (flat_get0 _ hi), (blk_cell hb (i * 2 + 1)).trans (flat_get1 _ hi), blk_frozen hb _, blk_frozen hb _, ?_, blk_frozen (blk_set hb (i * 2) (.int .i64 x.1)) _, ?_⟩
  · have h1 := blk_cell (blk_set hb (i * 2) (.int .i64 x.1)) (i * 2 + 1)
    rw [h1, Array.getElem?_setIfInBounds, if_neg (by omega)]
    exact flat_get1 _ hi
  · have h1 := blk_set (blk_set hb (i * 2) (.int .i64 x.1)) (i * 2 + 1) (.int .i64 x.2)
    rw [flat_set bs hi x] at h1
    exact h1
theorem longer_calls (a b m f : Int) (A : Option Addr) (c : Nat) (w : World) (hr : Kd.C k62 w A 1 [⟨m, f⟩]) (hc : 1 ≤ c) (x : Int × Int) (hx : (if a < m then (m, f) else (a, b)) = x) :
    Calls Try.prog 20 #[.agg #[.int .i64 a, .int .i64 b], .slice A 1 c] w fun e w' => e = .returned (.agg #[.int .i64 x.1, .int .i64 x.2]) ∧ Below w.heap.size w w' :=
  bound_longer.calls 2 a b A c [⟨m, f⟩] x.1 x.2 w hr hc (by rw [longer_one, ← hx])
set_option maxHeartbeats 16000000 in
set_option maxRecDepth 100000 in
theorem chain_calls (a0 a1 : Int) (s2 s3 s4 s5 : SlV) (A6 : Option Addr) (c6 : Nat) (us : List SU) (A7 : Option Addr) (c7 : Nat) (sp : List S53) (a8 a9 : Int) (s10 : SlV) (w : World) (hu : Kd.C kU w A6 us.length us) (hs : Kd.C k53 w A7 sp.length sp) (hl : sp.length ≤ 60) (hul : us.length ≤ 1000) (r : List Int) (hr : chainL (strands us) sp = r) :
    Calls Try.prog 8 #[.agg #[.int .i64 a0, .int .i64 a1, .slice s2.1 s2.2.1 s2.2.2, .slice s3.1 s3.2.1 s3.2.2, .slice s4.1 s4.2.1 s4.2.2, .slice s5.1 s5.2.1 s5.2.2, .slice A6 us.length c6, .slice A7 sp.length c7, .int .i64 a8, .int .i64 a9, .slice s10.1 s10.2.1 s10.2.2]] w fun e w' => ∃ v0_ : Value, e = .returned v0_ ∧ Kd.R (Kd.int .i64) 3 w' w.heap.size (fun _ => True) v0_ r ∧ Below w.heap.size w w' := by
  have HUS := Aside0.mk hu
  have HSP := Aside0.mk hs
  have HL := Aside0.mk hl
  have HB := Aside0.mk (Below.refl w.heap.size w)
  have hu1 : (us.length : Int) ≤ 1000 := by omega
  cases ho : ofL sp with
  | none =>
    have hqn : r = [] := by rw [← hr]; unfold chainL; rw [ho]
    have HOF := Aside0.mk ho
    subst hqn
    clear hu hs hl hul hr ho
    go_enter Try.func8, Try.ntmps8
    go_wp2_with (first | (((with_reducible refine gate_dst (N := 1) rfl ?_); refine box_event ?hg (N := 1) ?hd (cs := #[.int .i64 a0, .int .i64 a1, .slice s2.1 s2.2.1 s2.2.2, .slice s3.1 s3.2.1 s3.2.2, .slice s4.1 s4.2.1 s4.2.2, .slice s5.1 s5.2.1 s5.2.2, .slice A6 us.length c6, .slice A7 sp.length c7, .int .i64 a8, .int .i64 a9, .slice s10.1 s10.2.1 s10.2.2]) (t := 29) ?hr ?_; (case hd => rfl); (case hg => rfl); (case hr => first | (go_simp; done) | (go_simp; rfl)); intro G2 hg w2 hbox hb; (first | (with_reducible have e0_ := Aside0.mk (Kd.C_below HSP.out hb)) | (with_reducible have e0_ := Aside0.mk (Kd.C_below (Kd.C_drewN HSP.out _) hb)) | (with_reducible have e0_ := Aside0.mk (Kd.C_below (Kd.C_alloc HSP.out _) hb)) | (with_reducible have e0_ := Aside0.mk (Kd.C_below (Kd.C_drewN (Kd.C_alloc HSP.out _) _) hb)) | (with_reducible have e0_ := Aside0.mk (Kd.C_below (Kd.C_alloc (Kd.C_drewN HSP.out _) _) hb)) | (with_reducible have e0_ := Aside0.mk (Kd.C_below (Kd.C_drewN (Kd.C_drewN HSP.out _) _) hb))); have n0_ := Aside0.mk (below_step (by repeat (first | (with_reducible first | exact HB.out | apply below_alloc | apply pw_below_drewN | apply below_drew1) | exact HB.out)) hb); have n1_ := Aside0.mk hbox; have n2_ := Aside0.mk ((by rw [hg]; exact (below_size (by repeat (first | (with_reducible first | exact HB.out | apply below_alloc | apply pw_below_drewN | apply below_drew1) | exact HB.out)))) : w.heap.size ≤ G2); clear HSP; have HSP := e0_; clear e0_; clear HB; have HB := n0_; have BK2 := n1_; have GE2 := n2_; clear n0_ n1_ n2_; clear hb hbox hg); have k7 : w2.cell? ⟨G2, 7, none⟩ = some (.slice A7 sp.length c7) := (blk_cell BK2.out 7).trans rfl) | ((with_reducible refine gate_callee (f := 18) rfl ?_); refine goesL_ (some 16) rfl rfl Try.func18 (by kernel_rfl) rfl #[.slice A7 sp.length c7] rfl (by (try simp only [List.map_toArray, List.map_cons, List.map_nil]); first | done | rfl | (simp only [List.length_drop, List.length_take]; rfl)) ?_; (with_reducible refine (spof_none HSP.out HL.out HOF.out).mono ?_); rintro e w1 ⟨rfl, hb⟩; refine ⟨_, rfl, ?_⟩; have m1_ := Aside0.mk (below_step (by repeat (first | (with_reducible first | exact HB.out | apply below_alloc | apply pw_below_drewN | apply below_drew1) | exact HB.out)) hb); clear HB; have HB := m1_; clear m1_; clear hb))
    go_ret
    exact ⟨_, rfl, Kd.R_nil _ _ _ _ _, HB.out⟩
  | some o =>
    have HOF := Aside0.mk ho
    have hq : chainB o (strands us) = r := by rw [← hr]; unfold chainL; rw [ho]
    have HQ := Aside0.mk hq
    have hsl : (strands us).length = us.length := by unfold strands; rw [List.length_map]
    have HSL := Aside0.mk hsl
    by_cases h0 : us.length = 0
    · have hqn : r = [] := by rw [← hq]; exact chain_zero o (by omega)
      subst hqn
      have hln : ((us.length : Int) == 0) = true := by rw [h0]; rfl
      have hln2 : decide ((us.length : Int) = 0) = true := by rw [h0]; rfl
      clear hu hs hl hul hr ho hq hsl h0
      go_enter Try.func8, Try.ntmps8
      go_wp2_with (first | (((with_reducible refine gate_dst (N := 1) rfl ?_); refine box_event ?hg (N := 1) ?hd (cs := #[.int .i64 a0, .int .i64 a1, .slice s2.1 s2.2.1 s2.2.2, .slice s3.1 s3.2.1 s3.2.2, .slice s4.1 s4.2.1 s4.2.2, .slice s5.1 s5.2.1 s5.2.2, .slice A6 us.length c6, .slice A7 sp.length c7, .int .i64 a8, .int .i64 a9, .slice s10.1 s10.2.1 s10.2.2]) (t := 29) ?hr ?_; (case hd => rfl); (case hg => rfl); (case hr => first | (go_simp; done) | (go_simp; rfl)); intro G2 hg w2 hbox hb; (first | (with_reducible have e0_ := Aside0.mk (Kd.C_below HSP.out hb)) | (with_reducible have e0_ := Aside0.mk (Kd.C_below (Kd.C_drewN HSP.out _) hb)) | (with_reducible have e0_ := Aside0.mk (Kd.C_below (Kd.C_alloc HSP.out _) hb)) | (with_reducible have e0_ := Aside0.mk (Kd.C_below (Kd.C_drewN (Kd.C_alloc HSP.out _) _) hb)) | (with_reducible have e0_ := Aside0.mk (Kd.C_below (Kd.C_alloc (Kd.C_drewN HSP.out _) _) hb)) | (with_reducible have e0_ := Aside0.mk (Kd.C_below (Kd.C_drewN (Kd.C_drewN HSP.out _) _) hb))); (first | (with_reducible have e1_ := Aside0.mk (Kd.C_below HUS.out hb)) | (with_reducible have e1_ := Aside0.mk (Kd.C_below (Kd.C_drewN HUS.out _) hb)) | (with_reducible have e1_ := Aside0.mk (Kd.C_below (Kd.C_alloc HUS.out _) hb)) | (with_reducible have e1_ := Aside0.mk (Kd.C_below (Kd.C_drewN (Kd.C_alloc HUS.out _) _) hb)) | (with_reducible have e1_ := Aside0.mk (Kd.C_below (Kd.C_alloc (Kd.C_drewN HUS.out _) _) hb)) | (with_reducible have e1_ := Aside0.mk (Kd.C_below (Kd.C_drewN (Kd.C_drewN HUS.out _) _) hb))); have n0_ := Aside0.mk (below_step (by repeat (first | (with_reducible first | exact HB.out | apply below_alloc | apply pw_below_drewN | apply below_drew1) | exact HB.out)) hb); have n1_ := Aside0.mk hbox; have n2_ := Aside0.mk ((by rw [hg]; exact (below_size (by repeat (first | (with_reducible first | exact HB.out | apply below_alloc | apply pw_below_drewN | apply below_drew1) | exact HB.out)))) : w.heap.size ≤ G2); clear HSP; have HSP := e0_; clear e0_; clear HUS; have HUS := e1_; clear e1_; clear HB; have HB := n0_; have BK2 := n1_; have GE2 := n2_; clear n0_ n1_ n2_; clear hb hbox hg); have k7 : w2.cell? ⟨G2, 7, none⟩ = some (.slice A7 sp.length c7) := (blk_cell BK2.out 7).trans rfl) | (((with_reducible refine gate_callee (f := 18) rfl ?_); refine goesL_ (some 16) rfl rfl Try.func18 (by kernel_rfl) rfl #[.slice A7 sp.length c7] rfl (by (try simp only [List.map_toArray, List.map_cons, List.map_nil]); first | done | rfl | (simp only [List.length_drop, List.length_take]; rfl)) ?_; (with_reducible refine (spof_some HSP.out HL.out HOF.out).mono ?_); rintro e w3 ⟨va, rfl, hra, hb⟩; refine ⟨_, rfl, ?_⟩; (first | (with_reducible have e0_ := Aside0.mk (Kd.C_below HSP.out hb)) | (with_reducible have e0_ := Aside0.mk (Kd.C_below (Kd.C_drewN HSP.out _) hb)) | (with_reducible have e0_ := Aside0.mk (Kd.C_below (Kd.C_alloc HSP.out _) hb)) | (with_reducible have e0_ := Aside0.mk (Kd.C_below (Kd.C_drewN (Kd.C_alloc HSP.out _) _) hb)) | (with_reducible have e0_ := Aside0.mk (Kd.C_below (Kd.C_alloc (Kd.C_drewN HSP.out _) _) hb)) | (with_reducible have e0_ := Aside0.mk (Kd.C_below (Kd.C_drewN (Kd.C_drewN HSP.out _) _) hb))); (first | (with_reducible have e1_ := Aside0.mk (Kd.C_below HUS.out hb)) | (with_reducible have e1_ := Aside0.mk (Kd.C_below (Kd.C_drewN HUS.out _) hb)) | (with_reducible have e1_ := Aside0.mk (Kd.C_below (Kd.C_alloc HUS.out _) hb)) | (with_reducible have e1_ := Aside0.mk (Kd.C_below (Kd.C_drewN (Kd.C_alloc HUS.out _) _) hb)) | (with_reducible have e1_ := Aside0.mk (Kd.C_below (Kd.C_alloc (Kd.C_drewN HUS.out _) _) hb)) | (with_reducible have e1_ := Aside0.mk (Kd.C_below (Kd.C_drewN (Kd.C_drewN HUS.out _) _) hb))); have b0_ := Aside0.mk (blk_below (by (with_reducible repeat (first | refine blk_drewN ?_ _ | refine blk_drew ?_ | refine blk_alloc ?_ _)); exact BK2.out) hb); have m1_ := Aside0.mk (below_step (by repeat (first | (with_reducible first | exact HB.out | apply below_alloc | apply pw_below_drewN | apply below_drew1) | exact HB.out)) hb); clear HB; have HB := m1_; clear m1_; clear HSP; have HSP := e0_; clear e0_; clear HUS; have HUS := e1_; clear e1_; clear BK2; have BK2 := b0_; clear b0_; clear hb; obtain ⟨Ao, co, eva, hla, hca⟩ := Kd.R_reads hra; subst eva; have HOc := Aside0.mk hca; clear hca hla hra); have k6 : w3.cell? ⟨G2, 6, none⟩ = some (.slice A6 us.length c6) := (blk_cell BK2.out 6).trans rfl))
      go_ret
      exact ⟨_, rfl, Kd.R_nil _ _ _ _ _, HB.out⟩
    · obtain ⟨n, hn⟩ : ∃ n, us.length = n := ⟨_, rfl⟩
      have hln : ((n : Int) == 0) = false := by simp; omega
      have HN := Aside0.mk hn
      rw [hn] at HUS hu1 hsl
      have hmk := make_best n (by omega)
      clear hu hs hl hul hr ho hq hsl h0
      go_enter Try.func8, Try.ntmps8
      rw [HN.out]
      go_wp2_with (first | (((with_reducible refine gate_dst (N := 1) rfl ?_); refine box_event ?hg (N := 1) ?hd (cs := #[.int .i64 a0, .int .i64 a1, .slice s2.1 s2.2.1 s2.2.2, .slice s3.1 s3.2.1 s3.2.2, .slice s4.1 s4.2.1 s4.2.2, .slice s5.1 s5.2.1 s5.2.2, .slice A6 n c6, .slice A7 sp.length c7, .int .i64 a8, .int .i64 a9, .slice s10.1 s10.2.1 s10.2.2]) (t := 29) ?hr ?_; (case hd => rfl); (case hg => rfl); (case hr => first | (go_simp; done) | (go_simp; rfl)); intro G2 hg w2 hbox hb; (first | (with_reducible have e0_ := Aside0.mk (Kd.C_below HSP.out hb)) | (with_reducible have e0_ := Aside0.mk (Kd.C_below (Kd.C_drewN HSP.out _) hb)) | (with_reducible have e0_ := Aside0.mk (Kd.C_below (Kd.C_alloc HSP.out _) hb)) | (with_reducible have e0_ := Aside0.mk (Kd.C_below (Kd.C_drewN (Kd.C_alloc HSP.out _) _) hb)) | (with_reducible have e0_ := Aside0.mk (Kd.C_below (Kd.C_alloc (Kd.C_drewN HSP.out _) _) hb)) | (with_reducible have e0_ := Aside0.mk (Kd.C_below (Kd.C_drewN (Kd.C_drewN HSP.out _) _) hb))); (first | (with_reducible have e1_ := Aside0.mk (Kd.C_below HUS.out hb)) | (with_reducible have e1_ := Aside0.mk (Kd.C_below (Kd.C_drewN HUS.out _) hb)) | (with_reducible have e1_ := Aside0.mk (Kd.C_below (Kd.C_alloc HUS.out _) hb)) | (with_reducible have e1_ := Aside0.mk (Kd.C_below (Kd.C_drewN (Kd.C_alloc HUS.out _) _) hb)) | (with_reducible have e1_ := Aside0.mk (Kd.C_below (Kd.C_alloc (Kd.C_drewN HUS.out _) _) hb)) | (with_reducible have e1_ := Aside0.mk (Kd.C_below (Kd.C_drewN (Kd.C_drewN HUS.out _) _) hb))); have n0_ := Aside0.mk (below_step (by repeat (first | (with_reducible first | exact HB.out | apply below_alloc | apply pw_below_drewN | apply below_drew1) | exact HB.out)) hb); have n1_ := Aside0.mk hbox; have n2_ := Aside0.mk ((by rw [hg]; exact (below_size (by repeat (first | (with_reducible first | exact HB.out | apply below_alloc | apply pw_below_drewN | apply below_drew1) | exact HB.out)))) : w.heap.size ≤ G2); clear HSP; have HSP := e0_; clear e0_; clear HUS; have HUS := e1_; clear e1_; clear HB; have HB := n0_; have BK2 := n1_; have GE2 := n2_; clear n0_ n1_ n2_; clear hb hbox hg); have k7 : w2.cell? ⟨G2, 7, none⟩ = some (.slice A7 sp.length c7) := (blk_cell BK2.out 7).trans rfl) | (((with_reducible refine gate_callee (f := 18) rfl ?_); refine goesL_ (some 16) rfl rfl Try.func18 (by kernel_rfl) rfl #[.slice A7 sp.length c7] rfl (by (try simp only [List.map_toArray, List.map_cons, List.map_nil]); first | done | rfl | (simp only [List.length_drop, List.length_take]; rfl)) ?_; (with_reducible refine (spof_some HSP.out HL.out HOF.out).mono ?_); rintro e w3 ⟨va, rfl, hra, hb⟩; refine ⟨_, rfl, ?_⟩; (first | (with_reducible have e0_ := Aside0.mk (Kd.C_below HSP.out hb)) | (with_reducible have e0_ := Aside0.mk (Kd.C_below (Kd.C_drewN HSP.out _) hb)) | (with_reducible have e0_ := Aside0.mk (Kd.C_below (Kd.C_alloc HSP.out _) hb)) | (with_reducible have e0_ := Aside0.mk (Kd.C_below (Kd.C_drewN (Kd.C_alloc HSP.out _) _) hb)) | (with_reducible have e0_ := Aside0.mk (Kd.C_below (Kd.C_alloc (Kd.C_drewN HSP.out _) _) hb)) | (with_reducible have e0_ := Aside0.mk (Kd.C_below (Kd.C_drewN (Kd.C_drewN HSP.out _) _) hb))); (first | (with_reducible have e1_ := Aside0.mk (Kd.C_below HUS.out hb)) | (with_reducible have e1_ := Aside0.mk (Kd.C_below (Kd.C_drewN HUS.out _) hb)) | (with_reducible have e1_ := Aside0.mk (Kd.C_below (Kd.C_alloc HUS.out _) hb)) | (with_reducible have e1_ := Aside0.mk (Kd.C_below (Kd.C_drewN (Kd.C_alloc HUS.out _) _) hb)) | (with_reducible have e1_ := Aside0.mk (Kd.C_below (Kd.C_alloc (Kd.C_drewN HUS.out _) _) hb)) | (with_reducible have e1_ := Aside0.mk (Kd.C_below (Kd.C_drewN (Kd.C_drewN HUS.out _) _) hb))); have b0_ := Aside0.mk (blk_below (by (with_reducible repeat (first | refine blk_drewN ?_ _ | refine blk_drew ?_ | refine blk_alloc ?_ _)); exact BK2.out) hb); have m1_ := Aside0.mk (below_step (by repeat (first | (with_reducible first | exact HB.out | apply below_alloc | apply pw_below_drewN | apply below_drew1) | exact HB.out)) hb); clear HB; have HB := m1_; clear m1_; clear HSP; have HSP := e0_; clear e0_; clear HUS; have HUS := e1_; clear e1_; clear BK2; have BK2 := b0_; clear b0_; clear hb; obtain ⟨Ao, co, eva, hla, hca⟩ := Kd.R_reads hra; subst eva; have HOc := Aside0.mk hca; clear hca hla hra); have k6 : w3.cell? ⟨G2, 6, none⟩ = some (.slice A6 n c6) := (blk_cell BK2.out 6).trans rfl; have k6a := fun ob => cell_new k6 ob))
      have hl0 : (List.replicate n ((0, 0) : Int × Int)) = arrA o (strands us) n 0 := by unfold arrA; simp [bests]
      have BB := Aside0.mk (MapKept.heap_alloc w3 (.cells (flat (List.replicate n (0, 0))) 62)).1
      have HB3 := Aside0.mk (below_alloc (Below.refl w3.heap.size w3) (.cells (flat (List.replicate n (0, 0))) 62))
      rw [hl0] at BB HB3 ⊢
      clear hl0 k6 k6a k7 hmk
      generalize hw4 : w3.alloc (.cells (flat (arrA o (strands us) n 0)) 62) = w4 at BB HB3 ⊢
      generalize hG5 : w3.heap.size = G5 at BB ⊢
      have HG5 := Aside0.mk (hG5 ▸ Nat.le_refl _ : w3.heap.size ≤ G5)
      clear hw4 hG5
      obtain ⟨ss, hss⟩ : ∃ q, strands us = q := ⟨_, rfl⟩
      have HSS := Aside0.mk hss
      rw [hss] at BB HQ HSL
      clear hss
      go_loopg [34, 6] (n + 1) (fun kq v34 v6 w' => ∃ (i la : Nat), v34 = .int .i64 (i : Int) ∧ v6 = .int .i64 (la : Int) ∧ (i : Int) ≤ (n : Int) ∧ Aside0 (kq + i = n + 1) ∧ Aside0 (bLast (bests o ss n) i = (la : Int)) ∧ Aside0 (w'.heap[G5]? = some (.cells (flat (arrA o ss n i)) 62 (0, 0))) ∧ Aside0 (Below w3.heap.size w3 w'))
      case atStart => exact ⟨0, 0, rfl, rfl, by omega, ⟨rfl⟩, ⟨rfl⟩, BB, HB3⟩
      case round =>
        obtain ⟨i, la, rfl, rfl, hi, HK, HLA, BB, HB3⟩ := hrel
        obtain ⟨gkO, hgkO⟩ : ∃ q, q = gk := ⟨_, rfl⟩
        subst hgkO
        by_cases h : (i : Int) < (n : Int)
        · have hil : i < n := by omega
          have c0 : wr.cell? ⟨G5, i * 2, none⟩ = some (.int .i64 (bAt (arrA o ss n i) (i : Int)).1) := (blk_cell BB.out (i * 2)).trans (flat_get0 _ (by rw [arrA_len o ss (by omega)]; exact hil))
          have c1 : wr.cell? ⟨G5, i * 2 + 1, none⟩ = some (.int .i64 (bAt (arrA o ss n i) (i : Int)).2) := (blk_cell BB.out (i * 2 + 1)).trans (flat_get1 _ (by rw [arrA_len o ss (by omega)]; exact hil))
          have f0 := blk_frozen BB.out (i * 2)
          have f1 := blk_frozen BB.out (i * 2 + 1)
          have hset : ((wr.setCell ⟨G5, i * 2, none⟩ (.int .i64 1)).setCell ⟨G5, i * 2 + 1, none⟩ (.int .i64 (-1))).heap[G5]? = some (.cells (flat (arrK o ss n i (bBest o ss (bests o ss i) i 0))) 62 (0, 0)) := by
            have h1 := blk_set (blk_set BB.out (i * 2) (.int .i64 1)) (i * 2 + 1) (.int .i64 (-1))
            have h2 := flat_set (arrA o ss n i) (i := i) (by rw [arrA_len o ss (by omega)]; exact hil) (1, -1)
            simp only at h2
            rw [h2, arrA_set o ss hil] at h1
            exact h1
          have c2 : (wr.setCell ⟨G5, i * 2, none⟩ (.int .i64 1)).cell? ⟨G5, i * 2 + 1, none⟩ = some (.int .i64 (bAt (arrA o ss n i) (i : Int)).2) := by
            have h1 := blk_cell (blk_set BB.out (i * 2) (.int .i64 1)) (i * 2 + 1)
            rw [h1, Array.getElem?_setIfInBounds, if_neg (by omega)]
            exact flat_get1 _ (by rw [arrA_len o ss (by omega)]; exact hil)
          have f2 := blk_frozen (blk_set BB.out (i * 2) (.int .i64 1)) (i * 2 + 1)
          have HSET := Aside0.mk hset
          have HB4 := Aside0.mk ((HB3.out.setCell (p := ⟨G5, i * 2, none⟩) HG5.out (.int .i64 1)).setCell (p := ⟨G5, i * 2 + 1, none⟩) HG5.out (.int .i64 (-1)))
          clear hset
          go_wp2
          generalize hw5 : (wr.setCell ⟨G5, i * 2, none⟩ (.int .i64 1)).setCell ⟨G5, i * 2 + 1, none⟩ (.int .i64 (-1)) = w5 at HSET HB4 ⊢
          clear hw5 c0 c1 c2 f0 f1 f2 BB HB3
          go_loopg [42] (i + 1) (fun kq v42 w' => ∃ (k : Nat), v42 = .int .i64 (k : Int) ∧ (k : Int) ≤ (i : Int) ∧ Aside0 (kq + k = i + 1) ∧ Aside0 (w'.heap[G5]? = some (.cells (flat (arrK o ss n i (bBest o ss (bests o ss i) i k))) 62 (0, 0))) ∧ Aside0 (Below w3.heap.size w3 w'))
          case atStart => exact ⟨0, rfl, by omega, ⟨rfl⟩, HSET, HB4⟩
          case round =>
            obtain ⟨k, rfl, hk, HK2, BB, HB3⟩ := hrel
            by_cases h2 : (k : Int) < (i : Int)
            · have hki : k < i := by omega
              have k6 : wr.cell? ⟨G2, 6, none⟩ = some (.slice A6 n c6) := (HB3.out.cell (World.block_lt_of_cell? w3 _ ((blk_cell BK2.out 6).trans rfl))).trans ((blk_cell BK2.out 6).trans rfl)
              have hus := Kd.C_below HUS.out HB3.out
              obtain ⟨ad, ea, ya⟩ := at_U hus (k : Int) (by omega) (by omega)
              obtain ⟨ad', ea', yb⟩ := at_U hus (i : Int) (by omega) (by omega)
              rw [ea] at ea'
              cases ea'
              cases ea
              rw [Int.toNat_natCast, HSS.out] at ya yb
              obtain ⟨a, ha⟩ : ∃ a, at0 ss (k : Int) = a := ⟨_, rfl⟩
              obtain ⟨b, hb⟩ : ∃ b, at0 ss (i : Int) = b := ⟨_, rfl⟩
              rw [ha] at ya
              rw [hb] at yb
              have HAB := Aside0.mk (And.intro ha hb)
              have hkn : (k : Int) < (n : Int) := by omega
              clear ha hb hus
              go_wp2
              go_quiet (fail)
              generalize hw6 : wr.drewN nq = w6
              have BB6 : Aside0 (w6.heap[G5]? = some (.cells (flat (arrK o ss n i (bBest o ss (bests o ss i) i k))) 62 (0, 0))) := ⟨by subst hw6; exact blk_drewN BB.out nq⟩
              have HB6 : Aside0 (Below w3.heap.size w3 w6) := ⟨by subst hw6; exact pw_below_drewN HB3.out nq⟩
              clear hw6 k6 ya yb BB HB3
              obtain ⟨cc, hcc⟩ : ∃ c, bBest o ss (bests o ss i) i k = c := ⟨_, rfl⟩
              obtain ⟨m0, hm0⟩ : ∃ m, (bAt (bests o ss i) (k : Int)).1 = m := ⟨_, rfl⟩
              rw [hcc] at BB6
              have hmb : 1 ≤ m0 ∧ m0 ≤ (k : Int) + 1 := by
                rw [← hm0]
                exact ⟨bests_pos o ss (by omega) (by omega), bests_le o ss i k hki⟩
              have c0 : w6.cell? ⟨G5, i * 2, none⟩ = some (.int .i64 cc.1) := by
                have h1 := (blk_cell BB6.out (i * 2)).trans (flat_get0 _ (by rw [arrK_len o ss hil]; exact hil))
                rw [arrK_i] at h1
                exact h1
              have c1 : w6.cell? ⟨G5, i * 2 + 1, none⟩ = some (.int .i64 cc.2) := by
                have h1 := (blk_cell BB6.out (i * 2 + 1)).trans (flat_get1 _ (by rw [arrK_len o ss hil]; exact hil))
                rw [arrK_i] at h1
                exact h1
              have c2 : w6.cell? ⟨G5, k * 2, none⟩ = some (.int .i64 m0) := by
                have h1 := (blk_cell BB6.out (k * 2)).trans (flat_get0 _ (by rw [arrK_len o ss hil]; omega))
                rw [arrK_at o ss n i cc hki, hm0] at h1
                exact h1
              obtain ⟨xx, hxx⟩ : ∃ x, (if cc.1 < m0 + 1 then (m0 + 1, (k : Int)) else (cc.1, cc.2)) = x := ⟨_, rfl⟩
              have HXX := Aside0.mk hxx
              have HC := Aside0.mk (And.intro hcc hm0)
              have hwm : wrap64 (m0 + 1) = m0 + 1 := by unfold wrap64; omega
              clear hxx hcc hm0
              by_cases hab : a = b
              · subst hab
                have hae : (a == a) = true := by simp
                have HNX : Aside0 (bBest o ss (bests o ss i) i (k + 1) = xx) := ⟨by
                  rw [bBest_succ, HC.out.1, ← HXX.out]
                  unfold bStep aheadE
                  rw [HAB.out.1, HAB.out.2, HC.out.2]
                  simp⟩
                go_wp2
                refine start_ (n := 18) (S := fun w' => w'.cell? ⟨G5, i * 2, none⟩ = some (.int .i64 cc.1) ∧ w'.cell? ⟨G5, i * 2 + 1, none⟩ = some (.int .i64 cc.2) ∧ w'.cell? ⟨G5, k * 2, none⟩ = some (.int .i64 m0)) (ds := [15, 17]) #[false, false, false, false, false, false, false, false, false, false, false, false, false, false, false, false, false, false] (by kernel_rfl) rfl rfl ⟨c0, c1, c2⟩ (fun hHeld => ?_)
                refine pure_ (i := 0) (N := some 66) (v := ?_) (a' := ?_) #[true, false, false, false, false, false, false, false, false, false, false, false, false, false, false, false, false, false] rfl rfl (by kernel_rfl) (fun _ _ _ h => h) (Or.inl ⟨by rfl, ?_⟩) ?_ ?_
                rotate_left
                · intro w'
                  go_simp
                  with_reducible rfl
                rotate_left
                · simp only [Act.put, List.setIfInBounds_toArray, List.set_cons_zero, List.set_cons_succ, i64_w, i32_w]
                  rfl
                refine pure_ (i := 1) (N := some 67) (v := ?_) (a' := ?_) #[true, true, false, false, false, false, false, false, false, false, false, false, false, false, false, false, false, false] rfl rfl (by kernel_rfl) (fun _ _ _ h => h) (Or.inl ⟨by rfl, ?_⟩) ?_ ?_
                rotate_left
                · intro w'
                  go_simp
                  with_reducible rfl
                rotate_left
                · simp only [Act.put, List.setIfInBounds_toArray, List.set_cons_zero, List.set_cons_succ, i64_w, i32_w]
                  rfl
                refine pure_ (i := 2) (N := some 68) (v := ?_) (a' := ?_) #[true, true, true, false, false, false, false, false, false, false, false, false, false, false, false, false, false, false] rfl rfl (by kernel_rfl) (fun _ _ _ h => h) (Or.inl ⟨by rfl, ?_⟩) ?_ ?_
                rotate_left
                · intro w'
                  go_simp
                  with_reducible rfl
                rotate_left
                · simp only [Act.put, List.setIfInBounds_toArray, List.set_cons_zero, List.set_cons_succ, i64_w, i32_w]
                  rfl
                refine pure_ (i := 3) (N := some 69) (v := ?_) (a' := ?_) #[true, true, true, true, false, false, false, false, false, false, false, false, false, false, false, false, false, false] rfl rfl (by kernel_rfl) (fun _ _ _ h => h) (Or.inl ⟨by rfl, ?_⟩) ?_ ?_
                rotate_left
                · intro w'
                  go_simp
                  with_reducible rfl
                rotate_left
                · simp only [Act.put, List.setIfInBounds_toArray, List.set_cons_zero, List.set_cons_succ, i64_w, i32_w]
                  rfl
                refine pure_ (i := 4) (N := some 70) (v := ?_) (a' := ?_) #[true, true, true, true, true, false, false, false, false, false, false, false, false, false, false, false, false, false] rfl rfl (by kernel_rfl) (fun _ _ _ h => h) (Or.inl ⟨by rfl, ?_⟩) ?_ ?_
                rotate_left
                · intro w'
                  go_simp
                  with_reducible rfl
                rotate_left
                · simp only [Act.put, List.setIfInBounds_toArray, List.set_cons_zero, List.set_cons_succ, i64_w, i32_w]
                  rfl
                refine pure_ (i := 6) (N := some 72) (v := ?_) (a' := ?_) #[true, true, true, true, true, false, true, false, false, false, false, false, false, false, false, false, false, false] rfl rfl (by kernel_rfl) (fun _ _ _ h => h) (Or.inl ⟨by rfl, ?_⟩) ?_ ?_
                rotate_left
                · intro w'
                  go_simp
                  with_reducible rfl
                rotate_left
                · simp only [Act.put, List.setIfInBounds_toArray, List.set_cons_zero, List.set_cons_succ, i64_w, i32_w]
                  rfl
                refine pure_ (i := 7) (N := some 73) (v := ?_) (a' := ?_) #[true, true, true, true, true, false, true, true, false, false, false, false, false, false, false, false, false, false] rfl rfl (by kernel_rfl) (fun _ _ _ h => h) (Or.inl ⟨by rfl, ?_⟩) ?_ ?_
                rotate_left
                · intro w'
                  go_simp
                  with_reducible rfl
                rotate_left
                · simp only [Act.put, List.setIfInBounds_toArray, List.set_cons_zero, List.set_cons_succ, i64_w, i32_w]
                  rfl
                refine pure_ (i := 8) (N := some 74) (v := ?_) (a' := ?_) #[true, true, true, true, true, false, true, true, true, false, false, false, false, false, false, false, false, false] rfl rfl (by kernel_rfl) (fun _ _ _ h => h) (Or.inl ⟨by rfl, ?_⟩) ?_ ?_
                rotate_left
                · intro w'
                  go_simp
                  with_reducible rfl
                rotate_left
                · simp only [Act.put, List.setIfInBounds_toArray, List.set_cons_zero, List.set_cons_succ, i64_w, i32_w]
                  rfl
                refine pure_ (i := 9) (N := some 75) (v := ?_) (a' := ?_) #[true, true, true, true, true, false, true, true, true, true, false, false, false, false, false, false, false, false] rfl rfl (by kernel_rfl) (fun _ _ _ h => h) (Or.inl ⟨by rfl, ?_⟩) ?_ ?_
                rotate_left
                · intro w'
                  go_simp
                  with_reducible rfl
                rotate_left
                · simp only [Act.put, List.setIfInBounds_toArray, List.set_cons_zero, List.set_cons_succ, i64_w, i32_w]
                  rfl
                refine pure_ (i := 12) (N := some 78) (v := ?_) (a' := ?_) #[true, true, true, true, true, false, true, true, true, true, false, false, true, false, false, false, false, false] rfl rfl (by kernel_rfl) (fun _ _ _ h => h) (Or.inl ⟨by rfl, ?_⟩) ?_ ?_
                rotate_left
                · intro w'
                  go_simp
                  with_reducible rfl
                rotate_left
                · simp only [Act.put, List.setIfInBounds_toArray, List.set_cons_zero, List.set_cons_succ, i64_w, i32_w]
                  rfl
                refine take_ (i := 5) (N := some 71) (v := ?_) (a' := ?_) #[true, true, true, true, true, true, true, true, true, true, false, false, true, false, false, false, false, false] rfl rfl (by kernel_rfl) (fun _ _ _ h => h) (Or.inl ⟨by rfl, ?_⟩) hHeld ?_ ?_
                rotate_left
                · rintro w' ⟨s0, s1, s2⟩
                  go_simp
                  with_reducible rfl
                rotate_left
                · simp only [Act.put, List.setIfInBounds_toArray, List.set_cons_zero, List.set_cons_succ, i64_w, i32_w]
                  rfl
                refine take_ (i := 10) (N := some 76) (v := ?_) (a' := ?_) #[true, true, true, true, true, true, true, true, true, true, true, false, true, false, false, false, false, false] rfl rfl (by kernel_rfl) (fun _ _ _ h => h) (Or.inl ⟨by rfl, ?_⟩) hHeld ?_ ?_
                rotate_left
                · rintro w' ⟨s0, s1, s2⟩
                  go_simp
                  with_reducible rfl
                rotate_left
                · simp only [Act.put, List.setIfInBounds_toArray, List.set_cons_zero, List.set_cons_succ, i64_w, i32_w]
                  rfl
                refine pure_ (i := 11) (N := some 77) (v := ?_) (a' := ?_) #[true, true, true, true, true, true, true, true, true, true, true, true, true, false, false, false, false, false] rfl rfl (by kernel_rfl) (fun _ _ _ h => h) (Or.inl ⟨by rfl, ?_⟩) ?_ ?_
                rotate_left
                · intro w'
                  go_simp
                  with_reducible rfl
                rotate_left
                · simp only [Act.put, List.setIfInBounds_toArray, List.set_cons_zero, List.set_cons_succ, i64_w, i32_w]
                  rfl
                refine pure_ (i := 13) (N := some 79) (v := ?_) (a' := ?_) #[true, true, true, true, true, true, true, true, true, true, true, true, true, true, false, false, false, false] rfl rfl (by kernel_rfl) (fun _ _ _ h => h) (Or.inl ⟨by rfl, ?_⟩) ?_ ?_
                rotate_left
                · intro w'
                  go_simp
                  with_reducible rfl
                rotate_left
                · simp only [Act.put, List.setIfInBounds_toArray, List.set_cons_zero, List.set_cons_succ, i64_w, i32_w]
                  rfl
                refine one_ (i := 14) (N := some 80) #[true, true, true, true, true, true, true, true, true, true, true, true, true, true, true, false, false, false] rfl rfl (by kernel_rfl) (by decide) (fun K hK => ?_)
                refine value_ (w1 := ?_) (v := ?_) (by rfl) rfl ?_ ?_
                rotate_left 2
                · go_simp
                  constructor
                  · rfl
                  · rfl
                refine hK.out _ _ ⟨(cell_step (W := w6.drew) (below_alloc (Below.refl _ _) _) c0), (cell_step (W := w6.drew) (below_alloc (Below.refl _ _) _) c1), (cell_step (W := w6.drew) (below_alloc (Below.refl _ _) _) c2)⟩ (fun hHeld => ?_)
                clear hK K
                refine norm_ (a' := ?_) ?_ ?_
                rotate_left
                · show Act.put _ (some 80) _ = _
                  simp only [Act.put, List.setIfInBounds_toArray, List.set_cons_zero, List.set_cons_succ, i64_w, i32_w]
                  rfl
                refine last_ (i := 15) (N := some 81) #[true, true, true, true, true, true, true, true, true, true, true, true, true, true, true, true, false, false] rfl rfl (by kernel_rfl) (by decide) (fun K hK => ?_)
                refine goes_ Try.func20 (by kernel_rfl) rfl #[.agg #[.int .i64 cc.1, .int .i64 cc.2], .slice (some ⟨w6.heap.size, 0, none⟩) 1 1] (by rfl) rfl rfl (by simp only [List.map_toArray, List.map_cons, List.map_nil]; rfl) ?_
                with_reducible refine (longer_calls cc.1 cc.2 (m0 + 1) (k : Int) _ 1 _ (Kd.C_drew (one62 w6 (m0 + 1) (k : Int))) (Nat.le_refl _) xx HXX.out).mono ?_
                rintro e w7 ⟨rfl, hb7⟩
                refine ⟨_, rfl, ?_⟩
                refine hK.out _ _ ?_
                clear hK K
                refine norm_ (a' := ?_) ?_ ?_
                rotate_left
                · show Act.put _ (some 81) _ = _
                  simp only [Act.put, List.setIfInBounds_toArray, List.set_cons_zero, List.set_cons_succ, i64_w, i32_w]
                  rfl
                refine pure_ (i := 16) (N := some 82) (v := ?_) (a' := ?_) #[true, true, true, true, true, true, true, true, true, true, true, true, true, true, true, true, true, false] rfl rfl (by kernel_rfl) (fun _ _ _ h => h) (Or.inl ⟨by rfl, ?_⟩) ?_ ?_
                rotate_left
                · intro w'
                  go_simp
                  with_reducible rfl
                rotate_left
                · simp only [Act.put, List.setIfInBounds_toArray, List.set_cons_zero, List.set_cons_succ, i64_w, i32_w]
                  rfl
                refine last_ (i := 17) (N := none) #[true, true, true, true, true, true, true, true, true, true, true, true, true, true, true, true, true, true] rfl rfl (by kernel_rfl) (by decide) (fun K hK => ?_)
                have hb67 := below_step (below_drew (below_alloc (Below.refl w6.heap.size w6) (.cells #[.int .i64 (m0 + 1), .int .i64 (k : Int)] 62))) hb7
                obtain ⟨d0, d1, f0, f1, d2, f2, hset⟩ := best_store (blk_below BB6.out hb67) (i := i) (by rw [arrK_len o ss hil]; exact hil) xx
                rw [arrK_set] at hset
                refine skip_ (w1 := ?_) (by rfl) rfl ?_ ?_
                rotate_left
                · go_simp
                  rfl
                refine hK.out _ _ ?_
                clear hK K
                refine done_ (by kernel_rfl) ?_
                have HSET := Aside0.mk hset
                have HB8 := Aside0.mk (((below_step HB6.out hb67).setCell (p := ⟨G5, i * 2, none⟩) HG5.out (.int .i64 xx.1)).setCell (p := ⟨G5, i * 2 + 1, none⟩) HG5.out (.int .i64 xx.2))
                go_wp2
                go_roundg (gk - 1)
                case measure => have := HK2.out; omega
                case rel => exact ⟨k + 1, by go_num, by omega, ⟨by have := HK2.out; omega⟩, ⟨by rw [HNX.out]; exact HSET.out⟩, HB8⟩
              · have hae : (a == b) = false := beq_eq_false_iff_ne.mpr hab
                obtain ⟨bb, hbb⟩ : ∃ q, aheadO o a b = q := ⟨_, rfl⟩
                have HAO := Aside0.mk hbb
                cases bb with
                | false =>
                  have HNX : Aside0 (bBest o ss (bests o ss i) i (k + 1) = cc) := ⟨by
                    rw [bBest_succ, HC.out.1]
                    unfold bStep aheadE
                    rw [HAB.out.1, HAB.out.2, hae, HAO.out]
                    simp⟩
                  clear hbb hab
                  go_wp2_with (first | (go_at_call 19; refine (spAhead_calls _ _ o a b _ ?s1 HAO.out).mono ?_; (case s1 => exact (Kd.C_below (Kd.C_below HOc.out HB6.out) (by first | exact Below.refl _ _ | exact pw_below_drewN (Below.refl _ _) _))); rintro e w' ⟨rfl, ⟨nd, rfl⟩⟩))
                  go_roundg (gk - 1)
                  case measure => have := HK2.out; omega
                  case rel => exact ⟨k + 1, by go_num, by omega, ⟨by have := HK2.out; omega⟩, ⟨by rw [HNX.out]; first | exact BB6.out | exact blk_drewN BB6.out _⟩, ⟨by first | exact HB6.out | exact pw_below_drewN HB6.out _⟩⟩
                | true =>
                  have HNX : Aside0 (bBest o ss (bests o ss i) i (k + 1) = xx) := ⟨by
                    rw [bBest_succ, HC.out.1, ← HXX.out]
                    unfold bStep aheadE
                    rw [HAB.out.1, HAB.out.2, HC.out.2, hae, HAO.out]
                    simp⟩
                  clear hbb hab
                  go_wp2_with (first | (go_at_call 19; refine (spAhead_calls _ _ o a b _ ?s1 HAO.out).mono ?_; (case s1 => exact (Kd.C_below (Kd.C_below HOc.out HB6.out) (by first | exact Below.refl _ _ | exact pw_below_drewN (Below.refl _ _) _))); rintro e w' ⟨rfl, ⟨nd, rfl⟩⟩))
                  generalize hw9 : w6.drewN nd = w9
                  have BB9 : Aside0 (w9.heap[G5]? = some (.cells (flat (arrK o ss n i cc)) 62 (0, 0))) := ⟨by subst hw9; exact blk_drewN BB6.out nd⟩
                  have HB9 : Aside0 (Below w3.heap.size w3 w9) := ⟨by subst hw9; exact pw_below_drewN HB6.out nd⟩
                  have g0 : w9.cell? ⟨G5, i * 2, none⟩ = some (.int .i64 cc.1) := by subst hw9; exact c0
                  have g1 : w9.cell? ⟨G5, i * 2 + 1, none⟩ = some (.int .i64 cc.2) := by subst hw9; exact c1
                  have g2 : w9.cell? ⟨G5, k * 2, none⟩ = some (.int .i64 m0) := by subst hw9; exact c2
                  clear hw9 c0 c1 c2 BB6 HB6
                  refine start_ (n := 18) (S := fun w' => w'.cell? ⟨G5, i * 2, none⟩ = some (.int .i64 cc.1) ∧ w'.cell? ⟨G5, i * 2 + 1, none⟩ = some (.int .i64 cc.2) ∧ w'.cell? ⟨G5, k * 2, none⟩ = some (.int .i64 m0)) (ds := [15, 17]) #[false, false, false, false, false, false, false, false, false, false, false, false, false, false, false, false, false, false] (by kernel_rfl) rfl rfl ⟨g0, g1, g2⟩ (fun hHeld => ?_)
                  refine pure_ (i := 0) (N := some 66) (v := ?_) (a' := ?_) #[true, false, false, false, false, false, false, false, false, false, false, false, false, false, false, false, false, false] rfl rfl (by kernel_rfl) (fun _ _ _ h => h) (Or.inl ⟨by rfl, ?_⟩) ?_ ?_
                  rotate_left
                  · intro w'
                    go_simp
                    with_reducible rfl
                  rotate_left
                  · simp only [Act.put, List.setIfInBounds_toArray, List.set_cons_zero, List.set_cons_succ, i64_w, i32_w]
                    rfl
                  refine pure_ (i := 1) (N := some 67) (v := ?_) (a' := ?_) #[true, true, false, false, false, false, false, false, false, false, false, false, false, false, false, false, false, false] rfl rfl (by kernel_rfl) (fun _ _ _ h => h) (Or.inl ⟨by rfl, ?_⟩) ?_ ?_
                  rotate_left
                  · intro w'
                    go_simp
                    with_reducible rfl
                  rotate_left
                  · simp only [Act.put, List.setIfInBounds_toArray, List.set_cons_zero, List.set_cons_succ, i64_w, i32_w]
                    rfl
                  refine pure_ (i := 2) (N := some 68) (v := ?_) (a' := ?_) #[true, true, true, false, false, false, false, false, false, false, false, false, false, false, false, false, false, false] rfl rfl (by kernel_rfl) (fun _ _ _ h => h) (Or.inl ⟨by rfl, ?_⟩) ?_ ?_
                  rotate_left
                  · intro w'
                    go_simp
                    with_reducible rfl
                  rotate_left
                  · simp only [Act.put, List.setIfInBounds_toArray, List.set_cons_zero, List.set_cons_succ, i64_w, i32_w]
                    rfl
                  refine pure_ (i := 3) (N := some 69) (v := ?_) (a' := ?_) #[true, true, true, true, false, false, false, false, false, false, false, false, false, false, false, false, false, false] rfl rfl (by kernel_rfl) (fun _ _ _ h => h) (Or.inl ⟨by rfl, ?_⟩) ?_ ?_
                  rotate_left
                  · intro w'
                    go_simp
                    with_reducible rfl
                  rotate_left
                  · simp only [Act.put, List.setIfInBounds_toArray, List.set_cons_zero, List.set_cons_succ, i64_w, i32_w]
                    rfl
                  refine pure_ (i := 4) (N := some 70) (v := ?_) (a' := ?_) #[true, true, true, true, true, false, false, false, false, false, false, false, false, false, false, false, false, false] rfl rfl (by kernel_rfl) (fun _ _ _ h => h) (Or.inl ⟨by rfl, ?_⟩) ?_ ?_
                  rotate_left
                  · intro w'
                    go_simp
                    with_reducible rfl
                  rotate_left
                  · simp only [Act.put, List.setIfInBounds_toArray, List.set_cons_zero, List.set_cons_succ, i64_w, i32_w]
                    rfl
                  refine pure_ (i := 6) (N := some 72) (v := ?_) (a' := ?_) #[true, true, true, true, true, false, true, false, false, false, false, false, false, false, false, false, false, false] rfl rfl (by kernel_rfl) (fun _ _ _ h => h) (Or.inl ⟨by rfl, ?_⟩) ?_ ?_
                  rotate_left
                  · intro w'
                    go_simp
                    with_reducible rfl
                  rotate_left
                  · simp only [Act.put, List.setIfInBounds_toArray, List.set_cons_zero, List.set_cons_succ, i64_w, i32_w]
                    rfl
                  refine pure_ (i := 7) (N := some 73) (v := ?_) (a' := ?_) #[true, true, true, true, true, false, true, true, false, false, false, false, false, false, false, false, false, false] rfl rfl (by kernel_rfl) (fun _ _ _ h => h) (Or.inl ⟨by rfl, ?_⟩) ?_ ?_
                  rotate_left
                  · intro w'
                    go_simp
                    with_reducible rfl
                  rotate_left
                  · simp only [Act.put, List.setIfInBounds_toArray, List.set_cons_zero, List.set_cons_succ, i64_w, i32_w]
                    rfl
                  refine pure_ (i := 8) (N := some 74) (v := ?_) (a' := ?_) #[true, true, true, true, true, false, true, true, true, false, false, false, false, false, false, false, false, false] rfl rfl (by kernel_rfl) (fun _ _ _ h => h) (Or.inl ⟨by rfl, ?_⟩) ?_ ?_
                  rotate_left
                  · intro w'
                    go_simp
                    with_reducible rfl
                  rotate_left
                  · simp only [Act.put, List.setIfInBounds_toArray, List.set_cons_zero, List.set_cons_succ, i64_w, i32_w]
                    rfl
                  refine pure_ (i := 9) (N := some 75) (v := ?_) (a' := ?_) #[true, true, true, true, true, false, true, true, true, true, false, false, false, false, false, false, false, false] rfl rfl (by kernel_rfl) (fun _ _ _ h => h) (Or.inl ⟨by rfl, ?_⟩) ?_ ?_
                  rotate_left
                  · intro w'
                    go_simp
                    with_reducible rfl
                  rotate_left
                  · simp only [Act.put, List.setIfInBounds_toArray, List.set_cons_zero, List.set_cons_succ, i64_w, i32_w]
                    rfl
                  refine pure_ (i := 12) (N := some 78) (v := ?_) (a' := ?_) #[true, true, true, true, true, false, true, true, true, true, false, false, true, false, false, false, false, false] rfl rfl (by kernel_rfl) (fun _ _ _ h => h) (Or.inl ⟨by rfl, ?_⟩) ?_ ?_
                  rotate_left
                  · intro w'
                    go_simp
                    with_reducible rfl
                  rotate_left
                  · simp only [Act.put, List.setIfInBounds_toArray, List.set_cons_zero, List.set_cons_succ, i64_w, i32_w]
                    rfl
                  refine take_ (i := 5) (N := some 71) (v := ?_) (a' := ?_) #[true, true, true, true, true, true, true, true, true, true, false, false, true, false, false, false, false, false] rfl rfl (by kernel_rfl) (fun _ _ _ h => h) (Or.inl ⟨by rfl, ?_⟩) hHeld ?_ ?_
                  rotate_left
                  · rintro w' ⟨s0, s1, s2⟩
                    go_simp
                    with_reducible rfl
                  rotate_left
                  · simp only [Act.put, List.setIfInBounds_toArray, List.set_cons_zero, List.set_cons_succ, i64_w, i32_w]
                    rfl
                  refine take_ (i := 10) (N := some 76) (v := ?_) (a' := ?_) #[true, true, true, true, true, true, true, true, true, true, true, false, true, false, false, false, false, false] rfl rfl (by kernel_rfl) (fun _ _ _ h => h) (Or.inl ⟨by rfl, ?_⟩) hHeld ?_ ?_
                  rotate_left
                  · rintro w' ⟨s0, s1, s2⟩
                    go_simp
                    with_reducible rfl
                  rotate_left
                  · simp only [Act.put, List.setIfInBounds_toArray, List.set_cons_zero, List.set_cons_succ, i64_w, i32_w]
                    rfl
                  refine pure_ (i := 11) (N := some 77) (v := ?_) (a' := ?_) #[true, true, true, true, true, true, true, true, true, true, true, true, true, false, false, false, false, false] rfl rfl (by kernel_rfl) (fun _ _ _ h => h) (Or.inl ⟨by rfl, ?_⟩) ?_ ?_
                  rotate_left
                  · intro w'
                    go_simp
                    with_reducible rfl
                  rotate_left
                  · simp only [Act.put, List.setIfInBounds_toArray, List.set_cons_zero, List.set_cons_succ, i64_w, i32_w]
                    rfl
                  refine pure_ (i := 13) (N := some 79) (v := ?_) (a' := ?_) #[true, true, true, true, true, true, true, true, true, true, true, true, true, true, false, false, false, false] rfl rfl (by kernel_rfl) (fun _ _ _ h => h) (Or.inl ⟨by rfl, ?_⟩) ?_ ?_
                  rotate_left
                  · intro w'
                    go_simp
                    with_reducible rfl
                  rotate_left
                  · simp only [Act.put, List.setIfInBounds_toArray, List.set_cons_zero, List.set_cons_succ, i64_w, i32_w]
                    rfl
                  refine one_ (i := 14) (N := some 80) #[true, true, true, true, true, true, true, true, true, true, true, true, true, true, true, false, false, false] rfl rfl (by kernel_rfl) (by decide) (fun K hK => ?_)
                  refine value_ (w1 := ?_) (v := ?_) (by rfl) rfl ?_ ?_
                  rotate_left 2
                  · go_simp
                    constructor
                    · rfl
                    · rfl
                  refine hK.out _ _ ⟨(cell_step (W := w9.drew) (below_alloc (Below.refl _ _) _) g0), (cell_step (W := w9.drew) (below_alloc (Below.refl _ _) _) g1), (cell_step (W := w9.drew) (below_alloc (Below.refl _ _) _) g2)⟩ (fun hHeld => ?_)
                  clear hK K
                  refine norm_ (a' := ?_) ?_ ?_
                  rotate_left
                  · show Act.put _ (some 80) _ = _
                    simp only [Act.put, List.setIfInBounds_toArray, List.set_cons_zero, List.set_cons_succ, i64_w, i32_w]
                    rfl
                  refine last_ (i := 15) (N := some 81) #[true, true, true, true, true, true, true, true, true, true, true, true, true, true, true, true, false, false] rfl rfl (by kernel_rfl) (by decide) (fun K hK => ?_)
                  refine goes_ Try.func20 (by kernel_rfl) rfl #[.agg #[.int .i64 cc.1, .int .i64 cc.2], .slice (some ⟨w9.heap.size, 0, none⟩) 1 1] (by rfl) rfl rfl (by simp only [List.map_toArray, List.map_cons, List.map_nil]; rfl) ?_
                  with_reducible refine (longer_calls cc.1 cc.2 (m0 + 1) (k : Int) _ 1 _ (Kd.C_drew (one62 w9 (m0 + 1) (k : Int))) (Nat.le_refl _) xx HXX.out).mono ?_
                  rintro e w7 ⟨rfl, hb7⟩
                  refine ⟨_, rfl, ?_⟩
                  refine hK.out _ _ ?_
                  clear hK K
                  refine norm_ (a' := ?_) ?_ ?_
                  rotate_left
                  · show Act.put _ (some 81) _ = _
                    simp only [Act.put, List.setIfInBounds_toArray, List.set_cons_zero, List.set_cons_succ, i64_w, i32_w]
                    rfl
                  refine pure_ (i := 16) (N := some 82) (v := ?_) (a' := ?_) #[true, true, true, true, true, true, true, true, true, true, true, true, true, true, true, true, true, false] rfl rfl (by kernel_rfl) (fun _ _ _ h => h) (Or.inl ⟨by rfl, ?_⟩) ?_ ?_
                  rotate_left
                  · intro w'
                    go_simp
                    with_reducible rfl
                  rotate_left
                  · simp only [Act.put, List.setIfInBounds_toArray, List.set_cons_zero, List.set_cons_succ, i64_w, i32_w]
                    rfl
                  refine last_ (i := 17) (N := none) #[true, true, true, true, true, true, true, true, true, true, true, true, true, true, true, true, true, true] rfl rfl (by kernel_rfl) (by decide) (fun K hK => ?_)
                  have hb97 := below_step (below_drew (below_alloc (Below.refl w9.heap.size w9) (.cells #[.int .i64 (m0 + 1), .int .i64 (k : Int)] 62))) hb7
                  obtain ⟨d0, d1, f0, f1, d2, f2, hset⟩ := best_store (blk_below BB9.out hb97) (i := i) (by rw [arrK_len o ss hil]; exact hil) xx
                  rw [arrK_set] at hset
                  refine skip_ (w1 := ?_) (by rfl) rfl ?_ ?_
                  rotate_left
                  · go_simp
                    rfl
                  refine hK.out _ _ ?_
                  clear hK K
                  refine done_ (by kernel_rfl) ?_
                  have HSET := Aside0.mk hset
                  have HB8 := Aside0.mk (((below_step HB9.out hb97).setCell (p := ⟨G5, i * 2, none⟩) HG5.out (.int .i64 xx.1)).setCell (p := ⟨G5, i * 2 + 1, none⟩) HG5.out (.int .i64 xx.2))
                  go_wp2
                  go_roundg (gk - 1)
                  case measure => have := HK2.out; omega
                  case rel => exact ⟨k + 1, by go_num, by omega, ⟨by have := HK2.out; omega⟩, ⟨by rw [HNX.out]; exact HSET.out⟩, HB8⟩
            · have hki : k = i := by omega
              subst hki
              have BA : Aside0 (wr.heap[G5]? = some (.cells (flat (arrA o ss n (k + 1))) 62 (0, 0))) := ⟨by rw [← arrK_last o ss hil]; exact BB.out⟩
              have hsp := bLast_spec (bests o ss n) k
              rw [HLA.out] at hsp
              have hlk : la < k + 1 := by have := hsp.2.1; omega
              have hln9 : (la : Int) < (n : Int) := by omega
              have c0 : wr.cell? ⟨G5, k * 2, none⟩ = some (.int .i64 (bAt (bests o ss n) (k : Int)).1) := by
                rw [← arrA_at o ss (Nat.lt_succ_self k) hil]
                exact (blk_cell BA.out (k * 2)).trans (flat_get0 _ (by rw [arrA_len o ss hil]; exact hil))
              have c1 : wr.cell? ⟨G5, la * 2, none⟩ = some (.int .i64 (bAt (bests o ss n) (la : Int)).1) := by
                rw [← arrA_at o ss hlk hil]
                exact (blk_cell BA.out (la * 2)).trans (flat_get0 _ (by rw [arrA_len o ss hil]; omega))
              have hstep : bLast (bests o ss n) (k + 1) = if (bAt (bests o ss n) (la : Int)).1 < (bAt (bests o ss n) (k : Int)).1 then (k : Int) else (la : Int) := by
                show (if (bAt _ (bLast _ k)).1 < _ then _ else bLast _ k) = _
                rw [HLA.out]
              obtain ⟨p1, hp1⟩ : ∃ q, (bAt (bests o ss n) (k : Int)).1 = q := ⟨_, rfl⟩
              obtain ⟨p2, hp2⟩ : ∃ q, (bAt (bests o ss n) (la : Int)).1 = q := ⟨_, rfl⟩
              rw [hp1] at c0 hstep
              rw [hp2] at c1 hstep
              have HST := Aside0.mk hstep
              clear hsp hstep hp1 hp2 BB
              by_cases hpp : p2 < p1
              · have hdp : decide (p2 < p1) = true := decide_eq_true hpp
                have HLB : Aside0 (bLast (bests o ss n) (k + 1) = (k : Int)) := ⟨by rw [HST.out, if_pos hpp]⟩
                clear hpp
                go_wp2
                go_quiet (fail)
                go_wp2
                go_roundg (gkO - 1)
                case measure => have := HK.out; omega
                case rel => exact ⟨k + 1, k, by go_num, rfl, by omega, ⟨by have := HK.out; omega⟩, HLB, ⟨blk_drewN BA.out _⟩, ⟨pw_below_drewN HB3.out _⟩⟩
              · have hdp : decide (p2 < p1) = false := decide_eq_false hpp
                have HLB : Aside0 (bLast (bests o ss n) (k + 1) = (la : Int)) := ⟨by rw [HST.out, if_neg hpp]⟩
                clear hpp
                go_wp2
                go_quiet (fail)
                go_wp2
                go_roundg (gkO - 1)
                case measure => have := HK.out; omega
                case rel => exact ⟨k + 1, la, by go_num, rfl, by omega, ⟨by have := HK.out; omega⟩, HLB, ⟨blk_drewN BA.out _⟩, ⟨pw_below_drewN HB3.out _⟩⟩
        · have hie : i = n := by omega
          subst hie
          rw [arrA_full] at BB
          have hsp := bLast_spec (bests o ss i) i
          rw [HLA.out] at hsp
          have hla2 : (la : Int) < (i : Int) := by have := hsp.2.1; have := hln; simp at this; omega
          have hst : walkB (bests o ss i) (i + 1) (la : Int) = [] ++ walkB (bests o ss i) (i + 1) (la : Int) := rfl
          have HW0 := Aside0.mk hst
          have hch : chainB o ss = (walkB (bests o ss i) (i + 1) (la : Int)).reverse := by
            unfold chainB
            have hne : ¬ ss.length = 0 := by rw [HSL.out, HN.out]; have := hln; simp at this; omega
            rw [if_neg hne, HSL.out, HN.out, HLA.out]
          rw [HQ.out] at hch
          have HCH := Aside0.mk hch
          have HBW := Aside0.mk (HB.out.trans (HB3.out.mono (below_size HB.out)))
          clear hsp hst hch
          go_wp2
          generalize hwr : wr = w8 at BB HBW HB3 ⊢
          clear hwr
          go_loopg [12, 11] (i + 2) (fun kq v12 v11 w' => ∃ (a : Int) (m : Nat) (P : List Int), v12 = .int .i64 a ∧ -1 ≤ a ∧ a < (i : Int) ∧ Aside0 (kq = m + 1 ∧ a < (m : Int) ∧ P.length + m ≤ i + 1) ∧ Aside0 (walkB (bests o ss i) (i + 1) (la : Int) = P ++ walkB (bests o ss i) m a) ∧ Aside0 (Kd.R (Kd.int .i64) 3 w' w8.heap.size (fun _ => True) v11 P) ∧ Aside0 (Below w8.heap.size w8 w'))
          case atStart => exact ⟨_, i + 1, [], rfl, by omega, hla2, ⟨rfl, by omega, by simp⟩, HW0, ⟨Kd.R_nil _ _ _ _ _⟩, ⟨Below.refl _ _⟩⟩
          case round =>
            obtain ⟨a, m, P, rfl, ha1, hai, HK, HW, HO, HB9⟩ := hrel
            by_cases ha : 0 ≤ a
            · obtain ⟨j, rfl⟩ := Int.eq_ofNat_of_zero_le ha
              have hji : j < i := by omega
              obtain ⟨m', rfl⟩ : ∃ q, m = q + 1 := ⟨m - 1, by have := HK.out.2.1; omega⟩
              have hback := bests_back o ss hji
              have hwk := walkB_pos (bests o ss i) m' ha
              obtain ⟨nx, hnx⟩ : ∃ q, (bAt (bests o ss i) (j : Int)).2 = q := ⟨_, rfl⟩
              rw [hnx] at hback hwk
              have cj8 : w8.cell? ⟨G5, j * 2 + 1, none⟩ = some (.int .i64 nx) := by
                rw [← hnx]
                exact (blk_cell BB.out (j * 2 + 1)).trans (flat_get1 _ (by rw [bests_len]; exact hji))
              have HWN : Aside0 (walkB (bests o ss i) (i + 1) (la : Int) = (P ++ [(j : Int)]) ++ walkB (bests o ss i) m' nx) := ⟨by rw [HW.out, hwk, List.append_assoc]; rfl⟩
              have HBK := Aside0.mk hback
              clear hnx hwk hback HW
              go_wp2_with (first | ((with_reducible refine gate_builtin (b := .append) (xs := #[.tmp 105, .tmp 107]) rfl ?_); at_builtin; refine Kd.R_append (Kd.int .i64) (w0 := w8) w8.heap.size rfl (.tmp 105) (.tmp 107) 23 3 (.int .i64 0) 8 rfl Try.underlying23 info3 rfl (by decide) (by omega) u11 (P) ((j : Int)) [.int .i64 (j : Int)] (fun _ => True) (fun _ => False) rfl rfl ?aP (fun _ hk => hk.elim) ?aF ?aO ?aB ?aS ?aL ?_; (case aP => exact rfl); (case aB => exact (by repeat (first | (with_reducible first | exact HB9.out | apply below_alloc | apply pw_below_drewN | apply below_drew1) | exact HB9.out))); (case aF => exact (fun _ _ => trivial)); (case aO => exact (by (with_reducible repeat (first | apply Kd.R_alloc | apply Kd.R_drewN | apply Kd.R_drew)); exact HO.out)); (case aS => exact (below_size (by repeat (first | (with_reducible first | exact HB9.out | apply below_alloc | apply pw_below_drewN | apply below_drew1) | exact HB9.out)))); (case aL => (have := HK.out.2.2; omega)); intro v9 w9 ho hb hg hat; have cj9 : w9.cell? ⟨G5, j * 2 + 1, none⟩ = some (.int .i64 nx) := cell_step hb cj8; have n0_ := Aside0.mk (hb); have n1_ := Aside0.mk (ho); clear HB9; clear HO; have HB9 := n0_; have HO := n1_; clear n0_ n1_; clear ho hb hg hat))
              go_roundg (gk - 1)
              case measure => have := HK.out.1; omega
              case rel => exact ⟨nx, m', P ++ [(j : Int)], rfl, HBK.out.2, by have := HBK.out.1; omega, ⟨by have := HK.out.1; omega, by have := HBK.out.1; have := HK.out.2.1; omega, by rw [List.length_append, List.length_singleton]; have := HK.out.2.2; omega⟩, HWN, HO, HB9⟩
            · have hwe : walkB (bests o ss i) (i + 1) (la : Int) = P := by rw [HW.out, walkB_neg _ m (by omega), List.append_nil]
              have hpl : 0 < P.length := by
                rw [← hwe, walkB_pos _ i (by omega)]
                simp
              obtain ⟨g, cap, ev, hg1, _⟩ := Kd.R_form HO.out hpl
              subst ev
              have hrv : P.reverse = r := by rw [HCH.out, hwe]
              have HPL : Aside0 (P.length ≤ 1000000) := ⟨by have := HK.out.2.2; omega⟩
              have HRV := Aside0.mk hrv
              clear hwe hpl hrv
              go_wp2_with (first | ((with_reducible refine gate_callee (f := 21) rfl ?_); refine goesL_ (some 110) rfl rfl Try.func21 (by kernel_rfl) rfl #[.slice (some ⟨g, 0, none⟩) P.length cap] rfl (by (try simp only [List.map_toArray, List.map_cons, List.map_nil]); first | done | rfl | (simp only [List.length_drop, List.length_take]; rfl)) ?_; (with_reducible refine (reverse_calls HO.out HPL.out).mono ?_); rintro e w9 ⟨rfl, hR9, hb9⟩; refine ⟨_, rfl, ?_⟩; have HR9 := Aside0.mk hR9; have HB10 := Aside0.mk hb9; clear hR9 hb9))
              go_ret
              exact ⟨_, rfl, Kd.R_lower (by rw [← HRV.out]; exact HR9.out) (below_size HBW.out), HBW.out.trans ((HB9.out.trans HB10.out).mono (below_size HBW.out))⟩
end Go.Proofs.Ythjecgmgpnileaa.Bd
