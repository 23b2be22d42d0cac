/- The places of strands: walked. -/
import Derived.Test.YthjecgmgpnileaaC8
import Derived.Test.YthjecgmgpnileaaMq
namespace Go.Proofs.Ythjecgmgpnileaa.Bd
open Go.RowKit Go.Lib Go.Proofs.YthjecgmgpnileaaW.PrintWords Go.Proofs.YthjecgmgpnileaaW.PrintLast Go.Proofs.YthjecgmgpnileaaW.PrintMore
attribute [local go_sem] max2_int min2_int max_two min_two max_three min_three max_four min_four   -- for this text's walks alone
set_option linter.unusedVariables false
set_option linter.unusedSimpArgs false

/-- The places told so far. -/
def outK (L : List Int) (i : Nat) : List Int := (ints L.length).map fun s => if L.idxOf s < i then (L.idxOf s : Int) else 0
theorem outK_len (L : List Int) (i : Nat) : (outK L i).length = L.length := by simp [outK, ints_len]
theorem outK_zero (L : List Int) : outK L 0 = List.replicate L.length 0 := by
  unfold outK
  apply List.ext_getElem
  · simp [ints_len]
  · intro i h1 h2; simp
theorem outK_all {L : List Int} (hp : L.Perm (ints L.length)) : outK L L.length = (ints L.length).map (plc L) := by
  unfold outK
  refine List.map_congr_left fun s hs => ?_
  have hm : s ∈ L := hp.mem_iff.2 hs
  unfold plc
  rw [if_pos hm, if_pos (List.idxOf_lt_length_of_mem hm)]
theorem outK_succ {L : List Int} (hp : L.Perm (ints L.length)) (i : Nat) (hi : i < L.length) : (outK L i).set (L[i].toNat) (i : Int) = outK L (i + 1) := by
  have hn : L.Nodup := hp.nodup_iff.2 (ints_nodup _)
  have hm : 0 ≤ L[i] ∧ L[i] < (L.length : Int) := by rw [← mem_ints, ← hp.mem_iff]; exact List.getElem_mem hi
  unfold outK
  apply List.ext_getElem
  · simp [ints_len]
  · intro j h1 h2
    have hj : j < L.length := by simpa [ints_len] using h2
    have hjj : (ints L.length)[j]'(by rw [ints_len]; exact hj) = (j : Int) := by unfold ints; simp
    rw [List.getElem_set, List.getElem_map, List.getElem_map, hjj]
    by_cases h : L[i].toNat = j
    · have h3 : L[i] = (j : Int) := by omega
      have h4 : L.idxOf (j : Int) = i := by rw [← h3]; exact List.Nodup.idxOf_getElem hn i hi
      rw [if_pos h, h4, if_pos (by omega)]
    · have h4 : ¬ L.idxOf (j : Int) = i := fun e => by
        have hjm : (j : Int) ∈ L := hp.mem_iff.2 (mem_ints.2 (by omega))
        have h5 : L[L.idxOf (j : Int)]'(List.idxOf_lt_length_of_mem hjm) = (j : Int) := List.getElem_idxOf _
        have h6 : L[i] = (j : Int) := by
          rw [← h5]
          congr 1
          exact e.symm
        omega
      rw [if_neg h]
      by_cases h5 : L.idxOf (j : Int) < i
      · rw [if_pos h5, if_pos (by omega)]
      · rw [if_neg h5, if_neg (by omega)]
theorem own_below {w w' : World} {b n : Nat} {D : DataW Unit} (h : w.ownsMap Try.prog 3 PE b n D) (hb : Below w.heap.size w w') : w'.ownsMap Try.prog 3 PE b n D := by
  have hl := h.lt
  obtain ⟨es, c, h1, h2⟩ := h
  exact ⟨es, c, (hb.block b hl).trans h1, h2⟩
theorem own_ne {w : World} {b n g cap m base : Nat} {D : DataW Unit} {xs : List Int} (h : w.ownsMap Try.prog 3 PE b n D) (hr : Kd.R (Kd.int .i64) 3 w base (fun _ => True) (.slice (some ⟨g, 0, none⟩) m cap) xs) : b ≠ g := by
  obtain ⟨es, c, h1, _⟩ := h
  obtain ⟨cs, hc⟩ := Kd.R_typed hr g rfl
  intro e
  subst e
  rw [hc] at h1
  cases h1
set_option maxHeartbeats 8000000 in
set_option maxRecDepth 100000 in
theorem lplaces_calls (base P mb : Nat) (L : List Int) (w : World) (hls : LsAt w base P mb L) (hp : L.Perm (ints L.length)) (hlen : L.length ≤ 1000) (hpos : 0 < L.length) :
    Calls Try.prog 28 #[.pointer (some ⟨P, 0, none⟩), .int .i64 (L.length : Int)] w fun e w' => ∃ v0_ : Value, e = .returned v0_ ∧ Kd.R (Kd.int .i64) 3 w' w.heap.size (fun _ => True) v0_ ((ints L.length).map (plc L)) ∧ Below w.heap.size w w' := by
  obtain ⟨v, l, o, hP, hR, hM, hg, hrow, hperm, hsml, hbP, hbm⟩ := hls
  obtain ⟨A0, c0, ev, hle, hC⟩ := Kd.R_reads hR
  subst ev
  have hc0 : w.cell? ⟨P, 0, none⟩ = some (.slice A0 l.length c0) := (blk_cell hP 0).trans rfl
  have hc1 : w.cell? ⟨P, 1, none⟩ = some (.map (some mb)) := (blk_cell hP 1).trans rfl
  have hmm := @run_makeMap Try.prog
  have hc2 : (w.alloc (.map #[] 0)).cell? ⟨P, 1, none⟩ = some (.map (some mb)) := cell_step (below_alloc (Below.refl _ _) _) hc1
  have hwx : ∀ y ∈ o, wf64 y := fun y hy => have h2 := hsml y (hperm.mem_iff.1 hy); wf_small h2.1 h2.2
  have hol := hperm.length_eq
  have hond : o.Nodup := hperm.nodup_iff.2 (ls_nodup (f := fOf o) hrow)
  have hPlt := (Array.getElem?_eq_some_iff.1 hP).1
  have hmlt := (Array.getElem?_eq_some_iff.1 hM).1
  have hown := own_of hM hwx hond (by omega)
  have HO0 := Aside0.mk hown
  have HW := Aside0.mk (And.intro hwx (And.intro hond (show o.length ≤ 1000000 by omega)))
  have HG := Aside0.mk hg
  have HRO : Aside0 (IsRow l (L.map (fOf o))) := ⟨hrow⟩
  have HLT := Aside0.mk (And.intro hPlt hmlt)
  have HC := Aside0.mk hC
  have HP := Aside0.mk (And.intro hp (And.intro hlen (And.intro hpos (And.intro hol (And.intro hperm hM)))))
  clear hc1 hR hg hrow hperm hsml hbP hbm hle hC hwx hol hond hPlt hmlt hown hp hlen hpos hP hM
  go_enter Try.func28, Try.ntmps28
  go_wp2_with (first | (at_range; refine wpList_range_own _ rfl _ 83 rfl 3 3 K3 Try.underlying83 PE mb o.length (DOf o) rfl (HO0.out.alloc _) ?_; intro w0 hrg0 hg0 hs0))
  go_frame
  have hsz0 : w0.heap.size = w.heap.size + 1 + 1 := by simpa using hs0
  have hB0 : Below w.heap.size w w0 := (below_alloc (Below.refl _ _) (.map #[] 0)).grown hg0 (by simp) (by intro k hk; cases hk)
  have hown0 : w0.ownsMap Try.prog 3 PE w.heap.size 0 (.map []) := (World.ownsMap_made w Try.prog 3 PE).kept hg0 (by simp)
  have hc0' : w0.cell? ⟨P, 0, none⟩ = some (.slice A0 l.length c0) := (hB0.cell (World.block_lt_of_cell? w _ hc0)).trans hc0
  have hsr : (w.alloc (.map #[] 0)).heap.size = w.heap.size + 1 := by simp
  rw [hsr] at hrg0
  rw [hsr]
  rw [D_size] at hrg0
  have HB0 := Aside0.mk hB0
  have HO1 := Aside0.mk hown0
  have HR0 := Aside0.mk hrg0
  clear hB0 hown0 hrg0 hg0 hs0 hsz0 hc2 hsr hc0'
  have HCP := Aside0.mk hc0
  clear hc0
  go_loopg [6] (o.length + 1) (fun kq v6 w' => ∃ (left : Lit → Bool) (cnt n2 : Nat) (E : DataW Unit), Aside0 (kq = cnt + 1) ∧ Aside0 (w'.ranges Try.prog 3 PE mb (w.heap.size + 1) o.length (DOf o) left cnt) ∧ Aside0 (w'.ownsMap Try.prog 3 PE w.heap.size n2 E) ∧ Aside0 (n2 + cnt ≤ o.length) ∧ Aside0 (Fills o left E) ∧ Aside0 (Below w.heap.size w w'))
  case atStart => exact ⟨_, _, 0, _, ⟨rfl⟩, HR0, HO1, ⟨by omega⟩, ⟨fills0 HW.out.1 HW.out.2.1 HW.out.2.2⟩, HB0⟩
  case round =>
    obtain ⟨left, cnt, n2, E, HK, HRG, HOW, HN, HF, HB⟩ := hrel
    go_wp2_with (first | (at_next; refine wpList_next_ranges_ii _ rfl _ rfl 3 3 .i64 .i64 K3 Try.underlying3 Try.underlying3 mb (w.heap.size + 1) o.length _ _ _ rfl HRG.out ?_ ?_))
    · intro hc0 hl0
      have HTOLD := Aside0.mk (fun s hs => HF.out.told s hs (hl0 _))
      have hm : (L.length : Int) ≤ 1000 := by have := HP.out.2.1; omega
      have hm1 : 0 ≤ (L.length : Int) := by omega
      obtain ⟨rr, hrr⟩ : ∃ q, L.map (fOf o) = q := ⟨_, rfl⟩
      rw [hrr] at HRO
      have hrl : rr.length = L.length := by rw [← hrr, List.length_map]
      have HRR := Aside0.mk hrr
      have HRL := Aside0.mk hrl
      clear hrr hrl
      clear hc0 hl0 HF HRG HN HK HO0 HO1 HR0
      go_wp2_with (first | (((with_reducible refine gate_dst (N := 26) rfl ?_); refine Kd.R_make (Kd.int .i64) (w0 := w) w.heap.size 3 rfl (N := 26) rfl 23 (.tmp 25) (.tmp 25) rfl (L.length) rfl rfl Try.underlying23 (.int .i64 0) 8 info3 rfl (by decide) (by omega) (0 : Int) (ok := fun _ => True) (okp := fun _ => False) rfl (fun _ hk => hk.elim) trivial ?a0 ?aL ?aB ?aS ?_; (case a0 => omega); (case aL => omega); (case aB => exact (by repeat (first | (with_reducible first | exact HB.out | apply below_alloc | apply pw_below_drewN | apply below_drew1) | exact HB.out))); (case aS => exact (below_size (by repeat (first | (with_reducible first | exact HB.out | apply below_alloc | apply pw_below_drewN | apply below_drew1) | exact HB.out)))); intro v26 w26 ho hb hg hat; have HE2 := Aside0.mk (HOW.out.kept hg (by simp)); have n0_ := Aside0.mk hb; have n1_ := Aside0.mk ho; clear HB; have HB := n0_; have HO := n1_; clear n0_ n1_ hb ho hg hat); obtain ⟨g, cap, ev, hg1, hg2, _⟩ := Kd.R_form HO.out (by rw [List.length_replicate, Int.toNat_natCast]; exact HP.out.2.2.1); rw [List.length_replicate, Int.toNat_natCast] at ev; subst ev; have HG1 := Aside0.mk hg1; have HG2 := Aside0.mk hg2; clear hg1 hg2; have hcP : w26.cell? ⟨P, 0, none⟩ = some (.slice A0 l.length c0) := (HB.out.cell HLT.out.1).trans HCP.out) | ((with_reducible refine gate_callee (f := 33) rfl ?_); refine goesL_ (some 31) rfl rfl Try.func33 (by kernel_rfl) rfl #[.agg #[.slice A0 l.length c0]] rfl (by (try simp only [List.map_toArray, List.map_cons, List.map_nil]); first | done | rfl | (simp only [List.length_drop, List.length_take]; rfl)) ?_; (with_reducible refine (row_calls _ _ l rr _ (Kd.C_below HC.out HB.out) HG.out HRO.out).mono ?_); rintro e w31 ⟨v31, rfl, ho0, hb⟩; have HE3 := Aside0.mk (own_below HE2.out hb); obtain ⟨g2, c31, ev_, hg2_, _⟩ := Kd.R_form ho0 (by have := HRL.out; have := HP.out.2.2.1; omega); obtain ⟨A31, c31', ev2_, _, hV_⟩ := Kd.R_reads ho0; have HV := Aside0.mk hV_; have HN : Aside0 (g2 ≠ g) := ⟨by have := HG2.out; omega⟩; rw [ev_] at ev2_; injection ev2_ with e1_ _ e3_; subst e1_; rw [HRL.out] at ev_; subst ev_; clear ho0 hV_ hg2_ e3_; refine ⟨_, rfl, ?_⟩; have f0_ := Aside0.mk (Kd.R_below (by (with_reducible repeat (first | apply Kd.R_alloc | apply Kd.R_drewN | apply Kd.R_drew)); exact HO.out) hb); have m1_ := Aside0.mk (below_step (by repeat (first | (with_reducible first | exact HB.out | apply below_alloc | apply pw_below_drewN | apply below_drew1) | exact HB.out)) hb); clear HB; have HB := m1_; clear m1_; clear HO; have HO := f0_; clear f0_; clear hb))
      have hrep : Kd.R (Kd.int .i64) 3 w31 w.heap.size (fun _ => True) (.slice (some ⟨g, 0, none⟩) L.length cap) (outK L 0) := by rw [outK_zero]; simpa using HO.out
      have HO0 := Aside0.mk hrep
      clear hrep HO hcP HE2 HOW
      go_loopg [33] (L.length + 1) (fun kq v33 w' => ∃ (i : Nat), v33 = .int .i64 (i : Int) ∧ (i : Int) ≤ (L.length : Int) ∧ Aside0 (kq + i = L.length + 1) ∧ Aside0 (Kd.R (Kd.int .i64) 3 w' w.heap.size (fun _ => True) (.slice (some ⟨g, 0, none⟩) L.length cap) (outK L i)) ∧ Aside0 (Kd.C (Kd.int .i64) w' (some ⟨g2, 0, none⟩) rr.length rr) ∧ Aside0 (w'.ownsMap Try.prog 3 PE w.heap.size n2 E) ∧ Aside0 (Below w.heap.size w w'))
      case atStart => exact ⟨0, rfl, by omega, ⟨rfl⟩, HO0, HV, HE3, HB⟩
      case round =>
        obtain ⟨i, rfl, hi, HK, HO, HV, HOW, HB⟩ := hrel
        by_cases h : (i : Int) < (L.length : Int)
        · have hil : i < L.length := by omega
          have hir : i < rr.length := by have := HRL.out; omega
          have hmm := HP.out.1.mem_iff.1 (List.getElem_mem hil)
          rw [mem_ints] at hmm
          have he := rd_get rr i hir
          have hko : L[i] ∈ o := HP.out.2.2.2.2.1.mem_iff.2 (List.getElem_mem hil)
          have hke : rr[i] = (o.idxOf L[i] : Int) := by have e := HRR.out; subst e; rw [List.getElem_map]; rfl
          have hix := List.idxOf_lt_length_of_mem hko
          have hkw : wf64 (o.idxOf L[i] : Int) := wf_nat (by have := HW.out.2.2; omega)
          obtain ⟨ad, ea, hx⟩ := Kd.at_int HV.out (i : Int) (by omega) (by omega)
          cases ea
          have hput0 := Kd.R_putn HO.out L[i] (i : Int)
          rw [outK_succ HP.out.1 i hil] at hput0
          obtain ⟨cc, hrun, hatc, _⟩ := HOW.out.lookup_int K3 Try.underlying83 Try.underlying3 (zero3 _) (key3 hkw)
          rw [HTOLD.out _ hko] at hatc
          obtain ⟨j, hj⟩ : ∃ j : Nat, L[i] = (j : Int) := ⟨L[i].toNat, by omega⟩
          have hcc : cc = (j : Int) := by rw [← hj]; simpa using hatc.symm
          subst hcc
          have hjl : (j : Int) < (L.length : Int) := by rw [← hj]; exact hmm.2
          obtain ⟨hy, hz⟩ := Kd.R_celln 0 HO.out (j : Int) (by omega) hjl
          rw [hj, Int.toNat_natCast] at hput0
          rw [he, hke, Int.toNat_natCast, add_mk0] at hx
          rw [Int.toNat_natCast] at hy hz
          obtain ⟨kk, hkk⟩ : ∃ q, (o.idxOf L[i] : Int) = q := ⟨_, rfl⟩
          rw [hkk] at hx hrun
          have HPUT := Aside0.mk hput0
          have HBn := Aside0.mk (HB.out.setCell (p := ⟨g, j, none⟩) HG1.out (.int .i64 (i : Int)))
          have HVn : Aside0 (Kd.C (Kd.int .i64) (wr.setCell ⟨g, j, none⟩ (.int .i64 (i : Int))) (some ⟨g2, 0, none⟩) rr.length rr) := ⟨C_at HV.out fun ad e => by cases e; exact Below.heap_setCell wr ⟨g, j, none⟩ _ g2 HN.out⟩
          have HOWn : Aside0 ((wr.setCell ⟨g, j, none⟩ (.int .i64 (i : Int))).ownsMap Try.prog 3 PE w.heap.size n2 E) := ⟨HOW.out.setCell (own_ne HOW.out HO.out) _⟩
          have hi2 : (i : Int) ≤ 1000 := by omega
          clear hput0 he hj hmm hir hko hke hix hkw hkk hatc
          go_wp2_with (first | ((with_reducible refine gate_store (t := 3) (p := 43) rfl ?_); refine store_event (t := 3) (p := 43) (v := ?vo_) (w1 := (wr.setCell ⟨g, j, none⟩ (.int .i64 (i : Int)))) ?hg ?ho ?hn ?hr ?_; (case ho => rfl); (case hg => rfl); (case hn => rfl); (case hr => first | (go_simp; done) | (go_simp; rfl)); intro w44 hw; have n0_ : Aside0 (Below w.heap.size w w44) := ⟨(by rw [hw]; exact (HBn.out))⟩; have n1_ : Aside0 (Kd.C (Kd.int .i64) w44 (some ⟨g2, 0, none⟩) rr.length rr) := ⟨(by rw [hw]; exact (HVn.out))⟩; have n2_ : Aside0 (w44.ownsMap Try.prog 3 PE w.heap.size n2 E) := ⟨(by rw [hw]; exact (HOWn.out))⟩; have n3_ : Aside0 (Kd.R (Kd.int .i64) 3 w44 w.heap.size (fun _ => True) (.slice (some ⟨g, 0, none⟩) L.length cap) (outK L (i + 1))) := ⟨(by rw [hw]; exact (HPUT.out))⟩; clear hw; (try clear HB); have HB := n0_; clear n0_; (try clear HV); have HV := n1_; clear n1_; (try clear HOW); have HOW := n2_; clear n2_; (try clear HO); have HO := n3_; clear n3_))
          go_roundg (gk - 1)
          case measure => have := HK.out; omega
          case rel => exact ⟨i + 1, by go_num, by omega, ⟨by have := HK.out; omega⟩, HO, HV, HOW, HB⟩
        · have hil : i = L.length := by omega
          have hF := HO.out
          rw [hil, outK_all HP.out.1] at hF
          have HF := Aside0.mk hF
          clear hF hil
          go_wp2
          go_ret
          exact ⟨_, rfl, HF.out, HB.out⟩
    · intro x c w2 cnt' hwx hwc hlx hat hrg hlt hg1 hsz hen
      obtain ⟨hxo, hcx, hF2⟩ := HF.out.step HW.out.1 HW.out.2.1 HW.out.2.2 hlx hat
      have hszb : w.heap.size + 1 ≤ w2.heap.size := by have := hrg.lt; omega
      have HO2 := Aside0.mk (HOW.out.kept hg1 (by simp))
      have HB2 := Aside0.mk (HB.out.grown hg1 (by have := HB.out.size; omega) (by intro k hk; cases hk; omega))
      have HRG2 := Aside0.mk hrg
      have HF2 := Aside0.mk hF2
      have HLT2 := Aside0.mk hlt
      have HK2 := Aside0.mk hcx
      clear hrg hg1 hsz hlx hat hlt hF2 hcx hxo HF HRG HOW HB
      go_wp2_with (first | (at_mapUpdate; refine wpList_mapUpdate_own _ rfl _ _ _ 83 rfl 3 3 K3 Try.underlying83 PE w.heap.size n2 E rfl HO2.out ?hn _ _ (.int .i64 c) rfl rfl (key3 hwc) (.lit (.int .i64 x)) [] (plainElem_int Try.underlying3 hwx) ?_; (case hn => (have := HN.out; have := HW.out.2.2; unfold maxLen; omega)); intro w3 hown3 hg3; have HO3 := Aside0.mk hown3; have HRG3 := Aside0.mk (HRG2.out.kept hg3 (by have := HLT.out.2; simp; omega) (by simp)); have HB3 := Aside0.mk (HB2.out.grown hg3 (by omega) (by intro k hk; cases hk; omega)); clear hown3 hg3))
      go_roundg (cnt' + 1)
      case measure => have := HK.out; have := HLT2.out; omega
      case rel => exact ⟨_, cnt', n2 + 1, _, ⟨rfl⟩, HRG3, HO3, ⟨by have := HN.out; have := HLT2.out; omega⟩, HF2, HB3⟩
end Go.Proofs.Ythjecgmgpnileaa.Bd
