/- The labels' row (places), what is right, labels laid anew: walked. -/
import Derived.Test.YthjecgmgpnileaaC2
import Derived.Test.YthjecgmgpnileaaW0
namespace Go.Proofs.Ythjecgmgpnileaa.Bd
open Go.RowKit Go.Lib Go.Proofs.YthjecgmgpnileaaW.PrintWords Go.Proofs.YthjecgmgpnileaaW.PrintLast Go.Proofs.YthjecgmgpnileaaW.PrintMore
attribute [local go_sem] max2_int min2_int max_two min_two max_three min_three max_four min_four   -- for this text's walks alone
set_option linter.unusedVariables false
set_option linter.unusedSimpArgs false

theorem C_at {k : IntKind} {w w' : World} {A : Option Addr} {n : Nat} {l : List Int} (h : Kd.C (Kd.int k) w A n l) (hk : ∀ ad, A = some ad → w'.heap[ad.block]? = w.heap[ad.block]?) : Kd.C (Kd.int k) w' A n l := by
  have h1 := Kd.reads_of_C (enc := Value.int k) (d := (0 : Int)) (h1 := fun _ => rfl) h
  refine Kd.C_of_reads (enc := Value.int k) (d := (0 : Int)) (h1 := fun _ => rfl) ⟨h1.1, h1.2.1, fun hn => ?_⟩
  obtain ⟨ad, e, hc⟩ := h1.2.2 hn
  refine ⟨ad, e, fun j hj => ?_⟩
  rw [← hc j hj]
  unfold World.cell?
  have e2 : (ad.add j).block = ad.block := by unfold Addr.add; (try split) <;> rfl
  rw [e2, hk ad e]
theorem cell_at_blk {w w' : World} {b o : Nat} (h : w'.heap[b]? = w.heap[b]?) : w'.cell? ⟨b, o, none⟩ = w.cell? ⟨b, o, none⟩ := by
  unfold World.cell?
  rw [h]
set_option maxHeartbeats 4000000 in
set_option maxRecDepth 100000 in
/-- What the sort asks of two elements. -/
theorem cmp47_calls (A : Option Addr) (c : Nat) (l : List Int) (i j : Nat) (b : Nat) (W : World) (hC : Kd.C (Kd.int .i64) W A l.length l) (hb : W.cell? ⟨b, 0, none⟩ = some (.slice A l.length c)) (hi : i < l.length) (hj : j < l.length) :
    Calls Try.prog 47 #[.int .i64 (i : Int), .int .i64 (j : Int), .pointer (some ⟨b, 0, none⟩)] W fun e w' => e = .returned (.int .i64 (Lib.compareInt (at0 l (i : Int)) (at0 l (j : Int)))) ∧ ∃ q, w' = W.drewN q := by
  obtain ⟨ad, ea, x⟩ := Kd.at_int hC (i : Int) (by omega) (by omega)
  obtain ⟨ad', ea', y⟩ := Kd.at_int hC (j : Int) (by omega) (by omega)
  rw [ea] at ea'
  cases ea'
  cases ea
  rw [Int.toNat_natCast] at x y
  have h2 : (i : Int) < (l.length : Int) := by omega
  have h3 : (j : Int) < (l.length : Int) := by omega
  rw [← rd_at0, ← rd_at0]
  generalize rd l (i : Int) = p at x
  generalize rd l (j : Int) = q at y
  obtain ⟨r, hr⟩ : ∃ r, r = Lib.compareInt p q := ⟨_, rfl⟩
  rw [← hr]
  have HR := Aside0.mk hr
  clear hC hi hj hr
  go_enter Try.func47, Try.ntmps47
  go_wp2
  go_quiet ((go_at_call 48; (have hcc := Try.cmp_Compare_int p q); (rw [← HR.out] at hcc); exact Calls.quiet_of_same (hcc _)))
  go_wp2
  go_ret
  exact ⟨rfl, ⟨_, rfl⟩⟩
theorem enters47 : ∀ args w, (callFunc 47 args).run Try.prog w = .ok (.enter 47 args) w := enters_of Try.func47 (by kernel_rfl) rfl
/-- The sort of the places. -/
theorem sort_calls {base : Nat} {w0 wr : World} (A : Option Addr) (c : Nat) (l r : List Int) (b g cap : Nat) (hC : Kd.C (Kd.int .i64) wr A l.length l) (hb : wr.cell? ⟨b, 0, none⟩ = some (.slice A l.length c))
    (hR : Kd.R (Kd.int .i64) 3 wr base (fun _ => True) (.slice (some ⟨g, 0, none⟩) l.length cap) (ints l.length)) (hne : b ≠ g) (hA : ∀ ad, A = some ad → ad.block ≠ g) (hB : Below base w0 wr) (hl : Good l) (hr : IsRow l r) :
    Calls Try.prog 46 #[.slice (some ⟨g, 0, none⟩) l.length cap, .func (.func 47) #[] #[.pointer (some ⟨b, 0, none⟩)]] wr fun e w' => e = .returned (.tuple #[]) ∧ Kd.R (Kd.int .i64) 3 w' base (fun _ => True) (.slice (some ⟨g, 0, none⟩) l.length cap) r ∧ Below base w0 w' := by
  haveI : Inhabited (Fin l.length) := ⟨⟨0, hl.1⟩⟩
  have hlen : (ints l.length).length = l.length := ints_len _
  have hR' : Kd.R (Kd.int .i64) 3 wr base (fun _ => True) (.slice (some ⟨g, 0, none⟩) (ints l.length).length cap) (ints l.length) := by rw [hlen]; exact hR
  obtain ⟨h1, h2, h3, h4⟩ := holds_R hR'
  have hmap : ((List.finRange l.length).map fun i => (i.val : Int)) = ints l.length := by
    unfold ints
    apply List.ext_getElem
    · simp
    · intro i h1 h2; simp
  have hH : Go.Sort.Holds (encF l.length) wr g 0 (List.finRange l.length).toArray := holdsF (by rw [hmap]; exact h1)
  have hbl : b < wr.heap.size := World.block_lt_of_cell? wr ⟨b, 0, none⟩ hb
  have hcmp : Go.Proofs.CmpLays1 Try.prog 47 #[.pointer (some ⟨b, 0, none⟩)] (encF l.length) (cmpF l) g 0 (List.finRange l.length).toArray.size wr := by
    intro m os dk hs x y
    have hC' : Kd.C (Kd.int .i64) (Go.Proofs.sortWorld (encF l.length) wr g 0 m dk os) A l.length l := C_at hC fun ad e => by
      have hlt : ad.block < wr.heap.size := by
        obtain ⟨ad', e', hx⟩ := Kd.at_int hC 0 (by omega) (by have := hl.1; omega)
        rw [e] at e'
        cases e'
        exact World.block_lt_of_cell? wr _ hx
      exact sortWorld_keep hlt (hA ad e)
    have hb' : (Go.Proofs.sortWorld (encF l.length) wr g 0 m dk os).cell? ⟨b, 0, none⟩ = some (.slice A l.length c) := by
      rw [cell_at_blk (sortWorld_keep hbl hne)]; exact hb
    refine (cmp47_calls A c l x.val y.val b _ hC' hb' x.isLt y.isLt).mono fun e w' ⟨he, q, hq⟩ => ⟨he, q, #[], ?_⟩
    rw [hq, Go.Sort.grow_empty]
  have hS := Try.slices_SortFunc_total (encF l.length) (fun _ => rfl) (cmpF l) (swoF l l.length) 47 #[.pointer (some ⟨b, 0, none⟩)] g 0 cap (List.finRange l.length).toArray wr enters47 hcmp hH h2
    (by have := hl.2.1; simp; omega) (totF hl.2.2.2 rfl)
  have hsz : (List.finRange l.length).toArray.size = l.length := by simp
  rw [hsz] at hS
  refine hS.mono fun e w' ⟨he, q, os, hw⟩ => ⟨he, ?_⟩
  have hrow := hr.unique (sort_row hl.2.2.2 (n := l.length) rfl)
  have hw' : w' = Go.Sort.grow (Go.Sort.putRow (Value.int .i64) (Sort.ahead wr q) g 0 r.toArray) os := by
    rw [hw, hrow]
    unfold Go.Proofs.sortWorld
    rw [putF]
  have hrl : r.length = (ints l.length).length := by rw [hlen, hr.len]
  have hput := R_put (q := q) hR' (ys := r) hrl
  have hrl2 : r.length = l.length := hr.len
  rw [hrl2] at hput
  rw [hw']
  exact ⟨R_grow hput os, below_grow (below_put hB h3) (by rw [size_putRow]; omega) os⟩
def Box (w w1 : World) (v : Value) : Prop := Below w.heap.size w w1 ∧ w.heap.size < w1.heap.size ∧ w1.cell? ⟨w.heap.size, 0, none⟩ = some v
theorem box_one (w : World) (v : Value) (t : TypeId) : Box w (w.alloc (.cells #[v] t)) v :=
  ⟨below_alloc (Below.refl _ _) _, by show _ < (w.heap.push _).size; simp, by unfold World.cell?; rw [heap_alloc_new]; rfl⟩
set_option maxHeartbeats 4000000 in
set_option maxRecDepth 100000 in
theorem places_calls (A : Option Addr) (c : Nat) (l r : List Int) (w : World) (hr : Kd.C (Kd.int .i64) w A l.length l) (hg : Good l) (hrow : IsRow l r) :
    Calls Try.prog 40 #[.slice A l.length c] w fun e w' => ∃ v0_ : Value, e = .returned v0_ ∧ Kd.R (Kd.int .i64) 3 w' w.heap.size (fun _ => True) v0_ r ∧ Below w.heap.size w w' := by
  have HR := Aside0.mk hr
  have HG := Aside0.mk hg
  have HW := Aside0.mk hrow
  have hm : (l.length : Int) ≤ 1000 := by have := hg.2.1; omega
  clear hr hg hrow
  go_enter Try.func40, Try.ntmps40
  go_wp2
  go_loopg [3, 7] (l.length + 1) (fun kq v3 v7 w' => ∃ (wb : World) (i : Nat), v7 = .int .i64 (i : Int) ∧ (i : Int) ≤ (l.length : Int) ∧ Aside0 (kq + i = l.length + 1) ∧ Aside0 (Box w wb (.slice A l.length c)) ∧ Aside0 (Kd.R (Kd.int .i64) 3 w' wb.heap.size (fun _ => True) v3 (ints i)) ∧ Aside0 (Below wb.heap.size wb w'))
  case atStart => exact ⟨_, 0, rfl, by omega, ⟨rfl⟩, ⟨box_one _ _ _⟩, ⟨Kd.R_nil _ _ _ _ _⟩, ⟨Below.refl _ _⟩⟩
  case round =>
    obtain ⟨wb, i, rfl, hi, HK, HX, HO, HB⟩ := hrel
    by_cases h : (i : Int) < (l.length : Int)
    · have hil : i ≤ 1000 := by omega
      have HIL : Aside0 ((ints i).length = i) := ⟨ints_len i⟩
      go_wp2_with (first | ((with_reducible refine gate_builtin (b := .append) (xs := #[.tmp 10, .tmp 12]) rfl ?_); at_builtin; refine Kd.R_append (Kd.int .i64) (w0 := wb) wb.heap.size rfl (.tmp 10) (.tmp 12) 23 3 (.int .i64 0) 8 rfl Try.underlying23 info3 rfl (by decide) (by omega) u3 (ints i) ((i : Int)) [.int .i64 (i : Int)] (fun _ => True) (fun _ => False) rfl rfl ?aP (fun _ hk => hk.elim) ?aF ?aO ?aB ?aS ?aL ?_; (case aP => exact rfl); (case aB => exact (by repeat (first | (with_reducible first | exact HB.out | apply below_alloc | apply pw_below_drewN | apply below_drew1) | exact HB.out))); (case aF => exact (fun _ _ => trivial)); (case aO => exact (by (with_reducible repeat (first | apply Kd.R_alloc | apply Kd.R_drewN | apply Kd.R_drew)); exact HO.out)); (case aS => exact (below_size (by repeat (first | (with_reducible first | exact HB.out | apply below_alloc | apply pw_below_drewN | apply below_drew1) | exact HB.out)))); (case aL => rw [HIL.out]; omega); intro v1 w1 ho hb hg hat; have n0_ := Aside0.mk (hb); have n1_ := Aside0.mk (ho); clear HB; clear HO; have HB := n0_; have HO := n1_; clear n0_ n1_; clear ho hb hg hat))
      go_roundg (gk - 1)
      case measure => have := HK.out; omega
      case rel => exact ⟨wb, i + 1, by go_num, by omega, ⟨by have := HK.out; omega⟩, HX, ⟨by rw [ints_succ]; exact HO.out⟩, HB⟩
    · obtain rfl : i = l.length := by omega
      have hl1 := HG.out.1
      have hil : (ints l.length).length = l.length := ints_len _
      obtain ⟨g, cap, ev, hg1, hg2, _⟩ := Kd.R_form HO.out (by omega)
      rw [hil] at ev
      subst ev
      have HO' := HO
      have hbx := HX.out
      have hbb : w.heap.size ≠ g := by have := hbx.2.1; omega
      have hbc : wr.cell? ⟨w.heap.size, 0, none⟩ = some (.slice A l.length c) := (HB.out.cell (p := ⟨w.heap.size, 0, none⟩) hbx.2.1).trans hbx.2.2
      have hbel : Below w.heap.size w wr := hbx.1.trans (HB.out.mono (by have := hbx.2.1; omega))
      have hCr : Kd.C (Kd.int .i64) wr A l.length l := Kd.C_below HR.out hbel
      have hAg : ∀ ad, A = some ad → ad.block ≠ g := fun ad e => by
        obtain ⟨ad', e', hx⟩ := Kd.at_int HR.out 0 (by omega) (by omega)
        rw [e] at e'
        cases e'
        have : ad.block < w.heap.size := World.block_lt_of_cell? w _ hx
        have := hbx.2.1
        omega
      have hS := sort_calls A c l r w.heap.size g cap hCr hbc HO.out hbb hAg HB.out HG.out HW.out
      have HS := Aside0.mk hS
      have HX1 := Aside0.mk hbx.1
      have HX2 := Aside0.mk hbx.2.1
      clear hS hbx hbb hbc hbel hCr hAg hl1 hil hg1 hg2 HO HO' h hi HX
      go_wp2_with (go_at_call 46; refine HS.out.mono ?_; rintro e w' ⟨rfl, hR2, hB2⟩; have HR2 := Aside0.mk hR2; have HB2 := Aside0.mk hB2; clear hR2 hB2)
      go_ret
      exact ⟨_, rfl, Kd.R_lower HR2.out (by have := HX2.out; omega), HX1.out.trans (HB2.out.mono (by have := HX2.out; omega))⟩
end Go.Proofs.Ythjecgmgpnileaa.Bd
