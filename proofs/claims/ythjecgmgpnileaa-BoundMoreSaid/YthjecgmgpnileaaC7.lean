/- The row of an order, a new order, a list that has the strand 0: walked. -/
import Derived.Test.YthjecgmgpnileaaC6
import Derived.Test.YthjecgmgpnileaaMp
namespace Go.Proofs.Ythjecgmgpnileaa.Bd
open Go.RowKit Go.Lib Go.Proofs.YthjecgmgpnileaaW.PrintWords Go.Proofs.YthjecgmgpnileaaW.PrintLast Go.Proofs.YthjecgmgpnileaaW.PrintMore
attribute [local go_sem] max2_int min2_int max_two min_two max_three min_three max_four min_four   -- for this text's walks alone
set_option linter.unusedVariables false
set_option linter.unusedSimpArgs false

set_option maxHeartbeats 4000000 in
set_option maxRecDepth 100000 in
theorem row_calls (A : Option Addr) (c : Nat) (l r : List Int) (w : World) (hr : Kd.C (Kd.int .i64) w A l.length l) (hg : Good l) (hrow : IsRow l r) :
    Calls Try.prog 33 #[.agg #[.slice A l.length c]] w fun e w' => ∃ v0_ : Value, e = .returned v0_ ∧ Kd.R (Kd.int .i64) 3 w' w.heap.size (fun _ => True) v0_ r ∧ Below w.heap.size w w' := by
  have HR := Aside0.mk hr
  have HG := Aside0.mk hg
  have HW := Aside0.mk hrow
  have HB := Aside0.mk (Below.refl w.heap.size w)
  clear hr hg hrow
  go_enter Try.func33, Try.ntmps33
  go_wp2_with (first | (((with_reducible refine gate_dst (N := 1) rfl ?_); refine box_event ?hg (N := 1) ?hd (cs := #[.slice A l.length c]) (t := 81) ?hr ?_; (case hd => rfl); (case hg => rfl); (case hr => first | (go_simp; done) | (go_simp; rfl)); intro G2 hg w2 hbox hb; (first | (with_reducible have e0_ := Aside0.mk (Kd.C_below HR.out hb)) | (with_reducible have e0_ := Aside0.mk (Kd.C_below (Kd.C_drewN HR.out _) hb)) | (with_reducible have e0_ := Aside0.mk (Kd.C_below (Kd.C_alloc HR.out _) hb)) | (with_reducible have e0_ := Aside0.mk (Kd.C_below (Kd.C_drewN (Kd.C_alloc HR.out _) _) hb)) | (with_reducible have e0_ := Aside0.mk (Kd.C_below (Kd.C_alloc (Kd.C_drewN HR.out _) _) hb)) | (with_reducible have e0_ := Aside0.mk (Kd.C_below (Kd.C_drewN (Kd.C_drewN HR.out _) _) hb))); have n0_ := Aside0.mk (below_step (by repeat (first | (with_reducible first | exact HB.out | apply below_alloc | apply pw_below_drewN | apply below_drew1) | exact HB.out)) hb); have n1_ := Aside0.mk hbox; have n2_ := Aside0.mk ((by rw [hg]; exact (below_size (by repeat (first | (with_reducible first | exact HB.out | apply below_alloc | apply pw_below_drewN | apply below_drew1) | exact HB.out)))) : w.heap.size ≤ G2); clear HR; have HR := e0_; clear e0_; clear HB; have HB := n0_; have BK2 := n1_; have GE2 := n2_; clear n0_ n1_ n2_; clear hb hbox hg); have hc2 : w2.cell? ⟨G2, 0, none⟩ = some (.slice A l.length c) := (blk_cell BK2.out 0).trans rfl) | (((with_reducible refine gate_callee (f := 34) rfl ?_); refine goesL_ (some 4) rfl rfl Try.func34 (by kernel_rfl) rfl #[.agg #[.slice A l.length c]] rfl (by (try simp only [List.map_toArray, List.map_cons, List.map_nil]); first | done | rfl | (simp only [List.length_drop, List.length_take]; rfl)) ?_; (with_reducible refine (right_calls _ _ l _ HR.out HG.out).mono ?_); rintro e w4 ⟨rfl, hb⟩; refine ⟨_, rfl, ?_⟩; (first | (with_reducible have e0_ := Aside0.mk (Kd.C_below HR.out hb)) | (with_reducible have e0_ := Aside0.mk (Kd.C_below (Kd.C_drewN HR.out _) hb)) | (with_reducible have e0_ := Aside0.mk (Kd.C_below (Kd.C_alloc HR.out _) hb)) | (with_reducible have e0_ := Aside0.mk (Kd.C_below (Kd.C_drewN (Kd.C_alloc HR.out _) _) hb)) | (with_reducible have e0_ := Aside0.mk (Kd.C_below (Kd.C_alloc (Kd.C_drewN HR.out _) _) hb)) | (with_reducible have e0_ := Aside0.mk (Kd.C_below (Kd.C_drewN (Kd.C_drewN HR.out _) _) hb))); have b0_ := Aside0.mk (blk_below (by (with_reducible repeat (first | refine blk_drewN ?_ _ | refine blk_drew ?_ | refine blk_alloc ?_ _)); exact BK2.out) hb); have m1_ := Aside0.mk (below_step (by repeat (first | (with_reducible first | exact HB.out | apply below_alloc | apply pw_below_drewN | apply below_drew1) | exact HB.out)) hb); clear HB; have HB := m1_; clear m1_; clear HR; have HR := e0_; clear e0_; clear BK2; have BK2 := b0_; clear b0_; clear hb); have hc4 : w4.cell? ⟨G2, 0, none⟩ = some (.slice A l.length c) := (blk_cell BK2.out 0).trans rfl; have HS : Aside0 (w.heap.size ≤ w4.heap.size) := ⟨below_size HB.out⟩) | ((with_reducible refine gate_callee (f := 40) rfl ?_); refine goesL_ (some 8) rfl rfl Try.func40 (by kernel_rfl) rfl #[.slice A l.length c] rfl (by (try simp only [List.map_toArray, List.map_cons, List.map_nil]); first | done | rfl | (simp only [List.length_drop, List.length_take]; rfl)) ?_; (with_reducible refine (places_calls _ _ l _ _ HR.out HG.out HW.out).mono ?_); rintro e w8 ⟨v8, rfl, ho0, hb⟩; refine ⟨_, rfl, ?_⟩; have m1_ := Aside0.mk (below_step (by repeat (first | (with_reducible first | exact HB.out | apply below_alloc | apply pw_below_drewN | apply below_drew1) | exact HB.out)) hb); clear HB; have HB := m1_; clear m1_; clear hb; have HO := Aside0.mk (Kd.R_lower ho0 HS.out)))
  go_ret
  exact ⟨_, rfl, HO.out, HB.out⟩
/-- A list of strands, in memory: its order, and where each strand's label lies. -/
def LsAt (W : World) (base P mb : Nat) (L : List Int) : Prop :=
  ∃ (v : Value) (l o : List Int), W.heap[P]? = some (.cells #[v, .map (some mb)] 85 (0, 0)) ∧ Kd.R (Kd.int .i64) 3 W base (fun _ => True) v l ∧ MapAt W mb o ∧ Good l ∧ IsRow l (L.map fun s => (o.idxOf s : Int)) ∧ o.Perm L ∧ (∀ s ∈ L, 0 ≤ s ∧ s ≤ 1000000) ∧ base ≤ P ∧ base ≤ mb
set_option maxHeartbeats 4000000 in
set_option maxRecDepth 100000 in
theorem new_calls (w : World) :
    Calls Try.prog 30 #[] w fun e w' => ∃ v0_ : Value, e = .returned (.agg #[v0_]) ∧ Kd.R (Kd.int .i64) 3 w' w.heap.size (fun _ => True) v0_ [0] ∧ Below w.heap.size w w' := by
  go_enter Try.func30, Try.ntmps30
  go_wp2
  have hb : (w.alloc (Obj.cells #[Value.slice (some ⟨w.heap.size + 1, 0, none⟩) 1 1] 81)).heap.size = w.heap.size + 1 := by simp
  have ho := own_lit (w.alloc (Obj.cells #[Value.slice (some ⟨w.heap.size + 1, 0, none⟩) 1 1] 81)) w.heap.size 3 .i64 [0] (by rw [hb]; omega) (by decide)
  rw [hb] at ho
  refine bodyPost_ret (results_single rfl (.cell w.heap.size 81 #[Value.slice (some ⟨w.heap.size + 1, 0, none⟩) 1 1] (0, 0) _ rfl ?_ Try.underlying81 rfl (by kernel_rfl) .nil)) rfl ?_
  · rw [Below.heap_alloc _ _ _ (by rw [hb]; omega)]
    exact (MapKept.heap_alloc w _).1
  · exact ⟨_, rfl, Kd.R_of_own (enc := Value.int .i64) (h1 := fun _ => rfl) ho (fun _ _ => trivial), below_alloc (below_alloc (Below.refl _ _) _) _⟩
theorem lsAt_begun {w W : World} {v : Value} (hr : Kd.R (Kd.int .i64) 3 W w.heap.size (fun _ => True) v [0]) (hb : Below w.heap.size w W) :
    LsAt ((ChangeMaps.setBlock (W.alloc (.map #[] 0)) W.heap.size (.map (esOf [0]) 1)).alloc (.cells #[v, .map (some W.heap.size)] 85)) w.heap.size (W.heap.size + 1) W.heap.size [0] ∧
    Below w.heap.size w ((ChangeMaps.setBlock (W.alloc (.map #[] 0)) W.heap.size (.map (esOf [0]) 1)).alloc (.cells #[v, .map (some W.heap.size)] 85)) := by
  have hs := hb.size
  have h1 : Below W.heap.size W (ChangeMaps.setBlock (W.alloc (.map #[] 0)) W.heap.size (.map (esOf [0]) 1)) := setBlock_below (below_alloc (Below.refl _ _) _) (Nat.le_refl _) _
  have h2 := below_alloc h1 (.cells #[v, .map (some W.heap.size)] 85)
  have hz : (ChangeMaps.setBlock (W.alloc (.map #[] 0)) W.heap.size (.map (esOf [0]) 1)).heap.size = W.heap.size + 1 := by simp [ChangeMaps.setBlock]
  refine ⟨⟨v, [0], [0], ?_, Kd.R_below hr h2, ?_, ⟨by decide, by decide, by decide, by decide⟩, ⟨by decide, by decide⟩, .refl _, by decide, by omega, by omega⟩, hb.trans (h2.mono hs)⟩
  · have := (MapKept.heap_alloc (ChangeMaps.setBlock (W.alloc (.map #[] 0)) W.heap.size (.map (esOf [0]) 1)) (.cells #[v, .map (some W.heap.size)] 85)).1
    rw [hz] at this
    exact this
  · unfold MapAt
    rw [Below.heap_alloc _ _ _ (by rw [hz]; omega)]
    simp [ChangeMaps.setBlock]
set_option maxHeartbeats 4000000 in
set_option maxRecDepth 100000 in
theorem begun_calls (w : World) :
    Calls Try.prog 23 #[] w fun e w' => ∃ P mb : Nat, e = .returned (.pointer (some ⟨P, 0, none⟩)) ∧ LsAt w' w.heap.size P mb [0] ∧ Below w.heap.size w w' := by
  have hmm := @run_makeMap Try.prog
  have hup : ∀ W : World, (Instr.mapUpdate 83 (.map (some W.heap.size)) (.int .i64 0) (.int .i64 0)).run Try.prog (W.alloc (.map #[] 0)) = .ok () (ChangeMaps.setBlock (W.alloc (.map #[] 0)) W.heap.size (.map (esOf [0]) 1)) := fun W =>
    map_upd (o := []) (s := 0) (MapKept.heap_alloc W _).1 (by simp) (wf_small (by omega) (by omega)) (by simp) (.int .i64 0)
  have hsz : ∀ W : World, (ChangeMaps.setBlock (W.alloc (.map #[] 0)) W.heap.size (.map (esOf [0]) 1)).heap.size = W.heap.size + 1 := fun W => by simp [ChangeMaps.setBlock]
  go_enter Try.func23, Try.ntmps23
  go_wp2_with (go_at_call 30; refine (new_calls _).mono ?_; rintro e w1 ⟨v1, rfl, hr, hb⟩)
  go_ret
  exact ⟨_, _, rfl, (lsAt_begun hr hb).1, (lsAt_begun hr hb).2⟩
end Go.Proofs.Ythjecgmgpnileaa.Bd
