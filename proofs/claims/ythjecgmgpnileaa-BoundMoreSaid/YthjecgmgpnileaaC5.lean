/- Labels laid anew, walked. -/
import Derived.Test.YthjecgmgpnileaaC4
namespace Go.Proofs.Ythjecgmgpnileaa.Bd
open Go.RowKit Go.Lib Go.Proofs.YthjecgmgpnileaaW.PrintWords Go.Proofs.YthjecgmgpnileaaW.PrintLast Go.Proofs.YthjecgmgpnileaaW.PrintMore
attribute [local go_sem] max2_int min2_int max_two min_two max_three min_three max_four min_four   -- for this text's walks alone
set_option linter.unusedVariables false
set_option linter.unusedSimpArgs false

theorem add_mk (b o i : Nat) : (⟨b, o, none⟩ : Addr).add i = ⟨b, o + i, none⟩ := by
  unfold Addr.add
  by_cases h : i = 0
  · subst h; rfl
  · rw [if_neg h]
theorem add_mk0 (b i : Nat) : (⟨b, 0, none⟩ : Addr).add i = ⟨b, i, none⟩ := by rw [add_mk, Nat.zero_add]
/-- Labels of which the first k of a row are laid. -/
def anewK (r : List Int) (k : Nat) : List Int := (ints r.length).map fun i => if i ∈ r.take k then (r.idxOf i : Int) * 1048576 else 0
theorem anewK_len (r : List Int) (k : Nat) : (anewK r k).length = r.length := by unfold anewK; rw [List.length_map, ints_len]
theorem anewK_zero (r : List Int) : anewK r 0 = List.replicate r.length 0 := by
  unfold anewK
  apply List.ext_getElem
  · simp [ints_len]
  · intro i h1 h2; simp
theorem anewK_all {l r : List Int} (hr : IsRow l r) : anewK r r.length = anew r := by
  unfold anewK anew
  rw [List.take_length]
  apply List.map_congr_left
  intro i hi
  have : i ∈ r := by rw [hr.mem]; rw [mem_ints, hr.len] at hi; exact hi
  rw [if_pos this]
theorem anewK_succ {l r : List Int} (hr : IsRow l r) (k : Nat) (hk : k < r.length) : (anewK r k).set (rd r (k : Int)).toNat ((k : Int) * 1048576) = anewK r (k + 1) := by
  have hm := hr.mem.1 (List.getElem_mem hk)
  have e : rd r (k : Int) = r[k] := rd_get r k hk
  rw [e]
  have hl := hr.len
  unfold anewK
  apply List.ext_getElem
  · simp [ints_len]
  · intro i h1 h2
    have hi : i < r.length := by simpa [ints_len] using h2
    rw [List.getElem_set]
    have hii : (ints r.length)[i]'(by rw [ints_len]; exact hi) = (i : Int) := by unfold ints; simp
    rw [List.getElem_map, List.getElem_map, hii]
    have ht : (i : Int) ∈ r.take (k + 1) ↔ (i : Int) ∈ r.take k ∨ (i : Int) = r[k] := by rw [List.take_succ_eq_append_getElem hk, List.mem_append, List.mem_singleton]
    by_cases h : r[k].toNat = i
    · have h3 : (i : Int) = r[k] := by omega
      rw [if_pos h, if_pos (ht.2 (.inr h3)), h3, List.Nodup.idxOf_getElem hr.nodup]
    · have h3 : ¬ (i : Int) = r[k] := by omega
      rw [if_neg h]
      by_cases h4 : (i : Int) ∈ r.take k
      · rw [if_pos h4, if_pos (ht.2 (.inl h4))]
      · rw [if_neg h4, if_neg (fun h5 => (ht.1 h5).elim h4 h3)]
set_option maxHeartbeats 8000000 in
set_option maxRecDepth 100000 in
theorem anew_calls (A : Option Addr) (c : Nat) (l r : List Int) (w : World) (hr : Kd.C (Kd.int .i64) w A l.length l) (hg : Good l) (hrow : IsRow l r) :
    Calls Try.prog 36 #[.slice A l.length c] w fun e w' => ∃ v0_ : Value, e = .returned v0_ ∧ Kd.R (Kd.int .i64) 3 w' w.heap.size (fun _ => True) v0_ (anew r) ∧ Below w.heap.size w w' := by
  have HR := Aside0.mk hr
  have HG := Aside0.mk hg
  have HW := Aside0.mk hrow
  have hm : (l.length : Int) ≤ 1000 := by have := hg.2.1; omega
  have hm1 : 0 ≤ (l.length : Int) := by omega
  have HB := Aside0.mk (Below.refl w.heap.size w)
  have hl := hrow.len
  clear hr hg hrow
  go_enter Try.func36, Try.ntmps36
  go_wp2_with (first | (((with_reducible refine gate_dst (N := 8) rfl ?_); refine Kd.R_make (Kd.int .i64) (w0 := w) w.heap.size 3 rfl (N := 8) rfl 91 (.tmp 7) (.tmp 7) rfl (l.length) rfl rfl Try.underlying91 (.int .i64 0) 8 info3 rfl (by decide) (by omega) (0 : Int) (ok := fun _ => True) (okp := fun _ => False) rfl (fun _ hk => hk.elim) trivial ?a0 ?aL ?aB ?aS ?_; (case a0 => omega); (case aL => omega); (case aB => exact (by repeat (first | (with_reducible first | exact HB.out | apply below_alloc | apply pw_below_drewN | apply below_drew1) | exact HB.out))); (case aS => exact (below_size (by repeat (first | (with_reducible first | exact HB.out | apply below_alloc | apply pw_below_drewN | apply below_drew1) | exact HB.out)))); intro v8 w8 ho hb hg hat; have n0_ := Aside0.mk hb; have n1_ := Aside0.mk ho; clear HB; have HB := n0_; have HO := n1_; clear n0_ n1_ hb ho hg hat); obtain ⟨g, cap, ev, hg1, hg2, _⟩ := Kd.R_form HO.out (by rw [List.length_replicate, Int.toNat_natCast]; exact HG.out.1); rw [List.length_replicate, Int.toNat_natCast] at ev; subst ev; have HG1 := Aside0.mk hg1; have HG2 := Aside0.mk hg2; clear hg1 hg2) | ((with_reducible refine gate_callee (f := 40) rfl ?_); refine goesL_ (some 10) rfl rfl Try.func40 (by kernel_rfl) rfl #[.slice A l.length c] rfl (by (try simp only [List.map_toArray, List.map_cons, List.map_nil]); first | done | rfl | (simp only [List.length_drop, List.length_take]; rfl)) ?_; (with_reducible refine (places_calls _ _ l r _ (Kd.C_below HR.out HB.out) HG.out HW.out).mono ?_); rintro e w10 ⟨v10, rfl, ho0, hb⟩; refine ⟨_, rfl, ?_⟩; have f0_ := Aside0.mk (Kd.R_below (by (with_reducible repeat (first | apply Kd.R_alloc | apply Kd.R_drewN | apply Kd.R_drew)); exact HO.out) hb); have m1_ := Aside0.mk (below_step (by repeat (first | (with_reducible first | exact HB.out | apply below_alloc | apply pw_below_drewN | apply below_drew1) | exact HB.out)) hb); clear HB; have HB := m1_; clear m1_; clear HO; have HO := f0_; clear f0_; clear hb; obtain ⟨g2, c10, ev_, hg2_, _⟩ := Kd.R_form ho0 (by have h_ := HG.out.1; have k_ := HW.out.len; omega); obtain ⟨A10, c10', ev2_, _, hV_⟩ := Kd.R_reads ho0; have HV := Aside0.mk hV_; have HN : Aside0 (g2 ≠ g) := ⟨by have := HG2.out; omega⟩; rw [ev_] at ev2_; injection ev2_ with e1_ _ e3_; subst e1_; subst ev_; clear ho0 hV_ hg2_ e3_))
  have hrep : Kd.R (Kd.int .i64) 3 w10 w.heap.size (fun _ => True) (.slice (some ⟨g, 0, none⟩) l.length cap) (anewK r 0) := by rw [anewK_zero, hl]; simpa using HO.out
  have HO0 := Aside0.mk hrep
  have HK0 : Aside0 (0 < l.length) := ⟨HG.out.1⟩
  have HL := Aside0.mk hl
  clear hrep HO HK0
  go_loopg [12] (l.length + 1) (fun kq v12 w' => ∃ (i : Nat), v12 = .int .i64 (i : Int) ∧ (i : Int) ≤ (l.length : Int) ∧ Aside0 (kq + i = l.length + 1) ∧ Aside0 (Kd.R (Kd.int .i64) 3 w' w.heap.size (fun _ => True) (.slice (some ⟨g, 0, none⟩) l.length cap) (anewK r i)) ∧ Aside0 (Kd.C (Kd.int .i64) w' (some ⟨g2, 0, none⟩) r.length r) ∧ Aside0 (Below w.heap.size w w'))
  case atStart => exact ⟨0, rfl, by omega, ⟨rfl⟩, HO0, HV, HB⟩
  case round =>
    obtain ⟨i, rfl, hi, HK, HO, HV, HB⟩ := hrel
    by_cases h : (i : Int) < (l.length : Int)
    · have hir : i < r.length := by have := HL.out; omega
      have hm2 := HW.out.mem.1 (List.getElem_mem hir)
      have he := rd_get r i hir
      obtain ⟨ad, ea, hx⟩ := Kd.at_int HV.out (i : Int) (by omega) (by omega)
      cases ea
      have hput0 := Kd.R_putn HO.out (rd r (i : Int)) ((i : Int) * 1048576)
      rw [anewK_succ HW.out i hir] at hput0
      obtain ⟨j, hj⟩ : ∃ j : Nat, rd r (i : Int) = (j : Int) := ⟨(rd r (i : Int)).toNat, by rw [he]; omega⟩
      have hjl : (j : Int) < (l.length : Int) := by rw [← hj, he]; exact hm2.2
      obtain ⟨hy, hz⟩ := Kd.R_celln 0 HO.out (j : Int) (by omega) hjl
      rw [hj, Int.toNat_natCast] at hput0
      rw [hj, Int.toNat_natCast, add_mk0] at hx
      rw [Int.toNat_natCast] at hy hz
      have HPUT := Aside0.mk hput0
      have HBn := Aside0.mk (HB.out.setCell (p := ⟨g, j, none⟩) HG1.out (.int .i64 ((i : Int) * 1048576)))
      have HVn : Aside0 (Kd.C (Kd.int .i64) (wr.setCell ⟨g, j, none⟩ (.int .i64 ((i : Int) * 1048576))) (some ⟨g2, 0, none⟩) r.length r) := ⟨C_at HV.out fun ad e => by cases e; exact Below.heap_setCell wr ⟨g, j, none⟩ _ g2 HN.out⟩
      have hi2 : (i : Int) ≤ 1000 := by omega
      clear hput0 he hj hm2 hir
      go_wp2_with (first | ((with_reducible refine gate_store (t := 3) (p := 21) rfl ?_); refine store_event (t := 3) (p := 21) (v := ?vo_) (w1 := (wr.setCell ⟨g, j, none⟩ (.int .i64 ((i : Int) * 1048576)))) ?hg ?ho ?hn ?hr ?_; (case ho => rfl); (case hg => rfl); (case hn => rfl); (case hr => first | (go_simp; done) | (go_simp; rfl)); intro w22 hw; have n0_ : Aside0 (Below w.heap.size w w22) := ⟨(by rw [hw]; exact (HBn.out))⟩; have n1_ : Aside0 (Kd.C (Kd.int .i64) w22 (some ⟨g2, 0, none⟩) r.length r) := ⟨(by rw [hw]; exact (HVn.out))⟩; have n2_ : Aside0 (Kd.R (Kd.int .i64) 3 w22 w.heap.size (fun _ => True) (.slice (some ⟨g, 0, none⟩) l.length cap) (anewK r (i + 1))) := ⟨(by rw [hw]; exact (HPUT.out))⟩; clear hw; (try clear HB); have HB := n0_; clear n0_; (try clear HV); have HV := n1_; clear n1_; (try clear HO); have HO := n2_; clear n2_))
      go_roundg (gk - 1)
      case measure => have := HK.out; omega
      case rel => exact ⟨i + 1, by go_num, by omega, ⟨by have := HK.out; omega⟩, HO, HV, HB⟩
    · have hir : i = r.length := by have := HL.out; omega
      have hF := HO.out
      rw [hir, anewK_all HW.out] at hF
      have HF := Aside0.mk hF
      clear hF hir
      go_wp2
      go_ret
      exact ⟨_, rfl, HF.out, HB.out⟩
end Go.Proofs.Ythjecgmgpnileaa.Bd
