/- trace.Bytes and trace.Picks, walked. -/
import Derived.Test.YtiefonnhgjpbfaaC6
import Derived.Outline
namespace Go.Proofs.Ytiefonnhgjpbfaa.Tr
open Go.RowKit Go.Proofs.YtiefonnhgjpbfaaW.PrintWords Go.Proofs.YtiefonnhgjpbfaaW.PrintLast Go.Proofs.YtiefonnhgjpbfaaW.PrintMore
attribute [local go_sem] max2_int min2_int max_two min_two max_three min_three max_four min_four   -- for this text's walks alone
set_option linter.unusedVariables false
set_option linter.unusedSimpArgs false

theorem at_T58 {w : World} {A : Option Addr} {n : Nat} {xs : List S58} (h : Kd.C k58 w A n xs) (i : Int) (h0 : 0 ≤ i) (h1 : i < n) : ∃ ad , A = some ad ∧ w.cell? (ad.add (i.toNat * 8)) = some (.int .i64 (rd_T58 xs i).f0) ∧ w.cell? ⟨(ad.add (i.toNat * 8)).block, (ad.add (i.toNat * 8)).off + 1, none⟩ = some (.int .i64 (rd_T58 xs i).f1) ∧ w.cell? ⟨(ad.add (i.toNat * 8)).block, (ad.add (i.toNat * 8)).off + 2, none⟩ = some (.int .i64 (rd_T58 xs i).f2) ∧ w.cell? ⟨(ad.add (i.toNat * 8)).block, (ad.add (i.toNat * 8)).off + 3, none⟩ = some (.int .i64 (rd_T58 xs i).f3) ∧ w.cell? ⟨(ad.add (i.toNat * 8)).block, (ad.add (i.toNat * 8)).off + 4, none⟩ = some (.int .i64 (rd_T58 xs i).f4) ∧ w.cell? ⟨(ad.add (i.toNat * 8)).block, (ad.add (i.toNat * 8)).off + 5, none⟩ = some (.int .i64 (rd_T58 xs i).f5) ∧ w.cell? ⟨(ad.add (i.toNat * 8)).block, (ad.add (i.toNat * 8)).off + 6, none⟩ = some (.int .i64 (rd_T58 xs i).f6) ∧ w.cell? ⟨(ad.add (i.toNat * 8)).block, (ad.add (i.toNat * 8)).off + 7, none⟩ = some (.int .i64 (rd_T58 xs i).f7) := by
  obtain ⟨ad, c, e, _, hK, hc0⟩ := Kd.C_get h z58 i h0 h1
  have hc : ∀ j u, c[j]? = some u → w.cell? (ad.add (i.toNat * 8 + j)) = some u := hc0
  obtain rfl := k58_open hK
  exact ⟨ad, e, hc 0 _ rfl, by rw [← add_field _ _ 1 (by omega)]; exact hc 1 _ rfl, by rw [← add_field _ _ 2 (by omega)]; exact hc 2 _ rfl, by rw [← add_field _ _ 3 (by omega)]; exact hc 3 _ rfl, by rw [← add_field _ _ 4 (by omega)]; exact hc 4 _ rfl, by rw [← add_field _ _ 5 (by omega)]; exact hc 5 _ rfl, by rw [← add_field _ _ 6 (by omega)]; exact hc 6 _ rfl, by rw [← add_field _ _ 7 (by omega)]; exact hc 7 _ rfl⟩
theorem C_arr8 (W : World) (y : S58) : Kd.C (Kd.int .i64) (W.alloc (.cells #[.int .i64 y.f0, .int .i64 y.f1, .int .i64 y.f2, .int .i64 y.f3, .int .i64 y.f4, .int .i64 y.f5, .int .i64 y.f6, .int .i64 y.f7] 58)) (some ⟨W.heap.size, 0, none⟩) 8 (l58 y) := by
  have h : ReadsOf (Value.int .i64) (0 : Int) (W.alloc (.cells #[.int .i64 y.f0, .int .i64 y.f1, .int .i64 y.f2, .int .i64 y.f3, .int .i64 y.f4, .int .i64 y.f5, .int .i64 y.f6, .int .i64 y.f7] 58)) (some ⟨W.heap.size, 0, none⟩) 8 (l58 y) := by
    refine ⟨rfl, by omega, fun _ => ⟨_, rfl, fun j hj => ?_⟩⟩
    rw [add_plain]
    have hh := heap_alloc_new W (.cells #[.int .i64 y.f0, .int .i64 y.f1, .int .i64 y.f2, .int .i64 y.f3, .int .i64 y.f4, .int .i64 y.f5, .int .i64 y.f6, .int .i64 y.f7] 58)
    unfold World.cell?
    rw [hh]
    match j, hj with
    | 0, _ => rfl
    | 1, _ => rfl
    | 2, _ => rfl
    | 3, _ => rfl
    | 4, _ => rfl
    | 5, _ => rfl
    | 6, _ => rfl
    | 7, _ => rfl
  exact Kd.C_of_reads (h1 := fun _ => rfl) h
def bytesE (l : List S48) : List Int := sel (nums (all8 l))
theorem bytesE_byt (l : List S48) : Byt (bytesE l) := sel_byt (nums_byt _)
theorem bytesE_len (l : List S48) : (bytesE l).length ≤ 30 + 80 * l.length := by
  unfold bytesE
  have h1 := sel_len (nums (all8 l))
  have h2 := nums_len (all8 l)
  have h3 := all8_len l
  omega
theorem take_all8 (l : List S48) (i : Nat) (h : i < l.length) : all8 (l.take (i + 1)) = all8 (l.take i) ++ l58 (rd_T58 (l.map toS58) (i : Int)) := by
  have e : rd_T58 (l.map toS58) (i : Int) = toS58 l[i] := by
    unfold rd_T58
    simp [List.getD_eq_getElem?_getD, List.getElem?_eq_getElem h]
  rw [e, l58_nev]
  unfold all8
  rw [List.take_succ_eq_append_getElem h, List.flatMap_append, List.flatMap_cons, List.flatMap_nil, List.append_nil]

theorem each58Z (A : Option Addr) (c : Nat) (l : List S48) (Z : List S58) (hZ : Z = l.map toS58) (w : World) (hr : Kd.C k48 w A l.length l) (hc : l.length ≤ c) (hn : l.length ≤ 1000000) :
    Calls Try.prog 23 #[.slice A l.length c, .func (.func 24) #[] #[]] w fun e w' => ∃ v0_ : Value, e = .returned v0_ ∧ Kd.R k58 58 w' w.heap.size (fun _ => True) v0_ Z ∧ Below w.heap.size w w' := by
  subst hZ
  exact each58_calls A c l w hr hc hn
set_option maxHeartbeats 8000000 in
set_option maxRecDepth 100000 in
theorem trace_Bytes_calls (A : Option Addr) (c : Nat) (l : List S48) (w : World) (hr : Kd.C k48 w A l.length l) (hc : l.length ≤ c) (hn : l.length ≤ 1000000) (hb : ∀ x ∈ l, EvOk x) :
    Calls Try.prog 9 #[.slice A l.length c] w fun e w' => ∃ v0_ : Value, e = .returned v0_ ∧ Kd.R (Kd.int .u8) 5 w' w.heap.size (fun _ => True) v0_ (bytesE l) ∧ Below w.heap.size w w' := by
  have hu58 := Try.underlying58
  have HR := Aside0.mk hr
  have HC := Aside0.mk hc
  have HN := Aside0.mk hn
  have HE := Aside0.mk (all8_i64 hb)
  have HB := Aside0.mk (Below.refl w.heap.size w)
  have HM : Aside0 ((l.map toS58).length = l.length) := ⟨by simp⟩
  have hm : ((l.map toS58).length : Int) ≤ 1000000 := by simp; omega
  obtain ⟨Z, hZ⟩ : ∃ Z, Z = l.map toS58 := ⟨_, rfl⟩
  rw [← hZ] at hm HM
  have HZ := Aside0.mk hZ
  clear hr hc hn hb hZ
  go_enter Try.func9, Try.ntmps9
  go_wp2_with (first | ((with_reducible refine gate_callee (f := 23) rfl ?_); refine goesL_ (some 7) rfl rfl Try.func23 (by kernel_rfl) rfl #[.slice A l.length c, .func (.func 24) #[] #[]] rfl (by (try simp only [List.map_toArray, List.map_cons, List.map_nil]); first | done | rfl | (simp only [List.length_drop, List.length_take]; rfl)) ?_; (with_reducible refine (each58Z _ _ _ Z HZ.out _ HR.out HC.out HN.out).mono ?_); rintro e w1 ⟨v_, rfl, ho0, hb⟩; refine ⟨_, rfl, ?_⟩; obtain ⟨A7, c7, ev_, hl_, hc_⟩ := Kd.R_reads ho0; have m0_ := Aside0.mk hc_; have m2_ := Aside0.mk hl_; have m1_ := Aside0.mk (below_step (by repeat (first | (with_reducible first | exact HB.out | apply below_alloc | apply pw_below_drewN | apply below_drew1) | exact HB.out)) hb); clear HB; have HV := m0_; have HVl := m2_; have HB := m1_; clear m0_ m1_ m2_; clear ho0 hb hl_ hc_; subst ev_))
  go_loopg [3, 9] (l.length + 1) (fun kq v3 v9 w' => ∃ (i : Nat), v9 = .int .i64 (i : Int) ∧ (i : Int) ≤ (Z.length : Int) ∧ Aside0 (kq + i = l.length + 1) ∧ Aside0 (Kd.R (Kd.int .i64) 3 w' w1.heap.size (fun _ => True) v3 (all8 (l.take i))) ∧ Aside0 (Below w1.heap.size w1 w'))
  case atStart => exact ⟨0, rfl, by omega, ⟨rfl⟩, ⟨Kd.R_nil _ _ _ _ _⟩, ⟨Below.refl _ _⟩⟩
  case round =>
    obtain ⟨i, rfl, hi, HK, HO, HB2⟩ := hrel
    by_cases h : (i : Int) < (Z.length : Int)
    · have hil : i < l.length := by have := HM.out; omega
      obtain ⟨ad, ea, hx0, hx1, hx2, hx3, hx4, hx5, hx6, hx7⟩ := at_T58 HV.out (i : Int) (by omega) h
      have hF := take_all8 l i hil
      rw [← HZ.out] at hF
      obtain ⟨y, hy⟩ : ∃ y, rd_T58 Z (i : Int) = y := ⟨_, rfl⟩
      rw [hy] at hF hx0 hx1 hx2 hx3 hx4 hx5 hx6 hx7
      have HF := Aside0.mk hF
      have HL : Aside0 ((all8 (l.take i)).length ≤ 8000000) := ⟨by rw [all8_len]; simp; have := HN.out; omega⟩
      clear hF hy
      cases ea
      replace hx0 := (HB2.out.cell (World.block_lt_of_cell? w1 _ hx0)).trans hx0
      replace hx1 := (HB2.out.cell (World.block_lt_of_cell? w1 _ hx1)).trans hx1
      replace hx2 := (HB2.out.cell (World.block_lt_of_cell? w1 _ hx2)).trans hx2
      replace hx3 := (HB2.out.cell (World.block_lt_of_cell? w1 _ hx3)).trans hx3
      replace hx4 := (HB2.out.cell (World.block_lt_of_cell? w1 _ hx4)).trans hx4
      replace hx5 := (HB2.out.cell (World.block_lt_of_cell? w1 _ hx5)).trans hx5
      replace hx6 := (HB2.out.cell (World.block_lt_of_cell? w1 _ hx6)).trans hx6
      replace hx7 := (HB2.out.cell (World.block_lt_of_cell? w1 _ hx7)).trans hx7
      rw [Int.toNat_natCast] at hx0 hx1 hx2 hx3 hx4 hx5 hx6 hx7
      have h0 : 0 ≤ (i : Int) := by omega
      have HC8 := Aside0.mk (C_arr8 wr y)
      go_wp2_with (first | ((with_reducible refine gate_builtin (b := .append) (xs := #[.tmp 13, .tmp 14]) rfl ?_); at_builtin; refine Kd.R_append_rows (Kd.int .i64) (w0 := w1) w1.heap.size rfl (.tmp 13) (.tmp 14) 50 3 (.int .i64 0) 8 rfl Try.underlying50 info3 rfl (by decide) (by omega) u3 (all8 (l.take i)) (l58 y) _ _ _ (fun _ => True) (fun _ => False) rfl rfl ?aO ?aR (fun _ _ h => h) (fun _ h => h.elim) ?aF ?aB ?aS ?aL ?_; (case aR => exact HC8.out); (case aB => exact (by repeat (first | (with_reducible first | exact HB2.out | apply below_alloc | apply pw_below_drewN | apply below_drew1) | exact HB2.out))); (case aF => exact (fun _ _ => trivial)); (case aO => exact (by (with_reducible repeat (first | apply Kd.R_alloc | apply Kd.R_drewN | apply Kd.R_drew)); exact HO.out)); (case aS => exact (below_size (by repeat (first | (with_reducible first | exact HB2.out | apply below_alloc | apply pw_below_drewN | apply below_drew1) | exact HB2.out)))); (case aL => have := HL.out; omega); intro v9 w9 ho hb hg hat; have n0_ := Aside0.mk (hb); have n1_ := Aside0.mk (ho); clear HB2; clear HO; have HB2 := n0_; have HO := n1_; clear n0_ n1_; clear ho hb hg hat))
      go_roundg (gk - 1)
      case measure => have := HK.out; omega
      case rel => exact ⟨i + 1, by go_num, by omega, ⟨by have := HK.out; omega⟩, ⟨by rw [HF.out]; exact HO.out⟩, HB2⟩
    · have hiZ : i = Z.length := by omega
      have e : l.take i = l := List.take_of_length_le (by have := HM.out; omega)
      have hO := HO.out
      rw [e] at hO
      obtain ⟨A9, c9, rfl, hc9, hC9⟩ := Kd.R_reads hO
      have HC9 := Aside0.mk hC9
      have Hc9 := Aside0.mk hc9
      have HL8 : Aside0 ((all8 l).length ≤ 1000000000) := ⟨by rw [all8_len]; have := HN.out; omega⟩
      have HLN : Aside0 ((nums (all8 l)).length ≤ 1000000000) := ⟨by have := nums_len (all8 l); have h8 := all8_len l; have := HN.out; omega⟩
      have HBn := Aside0.mk (HB.out.trans (HB2.out.mono (below_size HB.out)))
      clear HB hO hc9 hC9 e hiZ HO
      have HB := HBn
      clear HBn
      go_wp2_with (first | ((with_reducible refine gate_callee (f := 26) rfl ?_); refine goesL_ (some 18) rfl rfl Try.func26 (by kernel_rfl) rfl #[.slice A9 (all8 l).length c9] rfl (by (try simp only [List.map_toArray, List.map_cons, List.map_nil]); first | done | rfl | (simp only [List.length_drop, List.length_take]; rfl)) ?_; (with_reducible refine (wire_Nums_calls _ _ _ _ HC9.out Hc9.out HE.out HL8.out).mono ?_); rintro e w18 ⟨v_, rfl, ho0, hb⟩; refine ⟨_, rfl, ?_⟩; obtain ⟨A18, c18, ev_, hl_, hc_⟩ := Kd.R_reads ho0; have m0_ := Aside0.mk hc_; have m2_ := Aside0.mk hl_; have m1_ := Aside0.mk (below_step (by repeat (first | (with_reducible first | exact HB.out | apply below_alloc | apply pw_below_drewN | apply below_drew1) | exact HB.out)) hb); clear HB; have HV18 := m0_; have HV18l := m2_; have HB := m1_; clear m0_ m1_ m2_; clear ho0 hb hl_ hc_; subst ev_) | ((with_reducible refine gate_callee (f := 25) rfl ?_); refine goesL_ (some 19) rfl rfl Try.func25 (by kernel_rfl) rfl #[.slice A18 (nums (all8 l)).length c18] rfl (by (try simp only [List.map_toArray, List.map_cons, List.map_nil]); first | done | rfl | (simp only [List.length_drop, List.length_take]; rfl)) ?_; (with_reducible refine (wire_Seal_calls _ _ _ _ HV18.out HV18l.out (nums_byt _) HLN.out).mono ?_); rintro e w19 ⟨v19, rfl, ho0, hb⟩; refine ⟨_, rfl, ?_⟩; have m0_ := Aside0.mk (Kd.R_lower ho0 (below_size (by repeat (first | (with_reducible first | exact HB.out | apply below_alloc | apply pw_below_drewN | apply below_drew1) | exact HB.out)))); have m1_ := Aside0.mk (below_step (by repeat (first | (with_reducible first | exact HB.out | apply below_alloc | apply pw_below_drewN | apply below_drew1) | exact HB.out)) hb); clear HB; have HO19 := m0_; have HB := m1_; clear m0_ m1_; clear ho0 hb))
      go_ret
      exact ⟨_, rfl, (by (with_reducible repeat (first | apply Kd.R_alloc | apply Kd.R_drewN | apply Kd.R_drew)); exact HO19.out), (by repeat (first | (with_reducible first | exact HB.out | apply below_alloc | apply pw_below_drewN | apply below_drew1) | exact HB.out))⟩

set_option maxHeartbeats 8000000 in
theorem trace_Picks_calls (A : Option Addr) (c : Nat) (l : List S48) (w : World) (hr : Kd.C k48 w A l.length l) (hc : l.length ≤ c) (hn : l.length ≤ 1000000) :
    Calls Try.prog 14 #[.slice A l.length c] w fun e w' => ∃ v0_ : Value, e = .returned v0_ ∧ Kd.R k55 55 w' w.heap.size (fun _ => True) v0_ (l.map pickOf) ∧ Below w.heap.size w w' := by
  have HR := Aside0.mk hr
  have HC := Aside0.mk hc
  have HN := Aside0.mk hn
  have HB := Aside0.mk (Below.refl w.heap.size w)
  clear hr hc hn
  go_enter Try.func14, Try.ntmps14
  go_wp2_with (first | ((with_reducible refine gate_callee (f := 30) rfl ?_); refine goesL_ (some 4) rfl rfl Try.func30 (by kernel_rfl) rfl #[.slice A l.length c, .func (.func 31) #[] #[]] rfl (by (try simp only [List.map_toArray, List.map_cons, List.map_nil]); first | done | rfl | (simp only [List.length_drop, List.length_take]; rfl)) ?_; (with_reducible refine (each55_calls _ _ _ _ HR.out HC.out HN.out).mono ?_); rintro e w1 ⟨v4, rfl, ho0, hb⟩; refine ⟨_, rfl, ?_⟩; have m0_ := Aside0.mk (Kd.R_lower ho0 (below_size (by repeat (first | (with_reducible first | exact HB.out | apply below_alloc | apply pw_below_drewN | apply below_drew1) | exact HB.out)))); have m1_ := Aside0.mk (below_step (by repeat (first | (with_reducible first | exact HB.out | apply below_alloc | apply pw_below_drewN | apply below_drew1) | exact HB.out)) hb); clear HB; have HO := m0_; have HB := m1_; clear m0_ m1_; clear ho0 hb))
  go_ret
  exact ⟨_, rfl, (by (with_reducible repeat (first | apply Kd.R_alloc | apply Kd.R_drewN | apply Kd.R_drew)); exact HO.out), (by repeat (first | (with_reducible first | exact HB.out | apply below_alloc | apply pw_below_drewN | apply below_drew1) | exact HB.out))⟩
end Go.Proofs.Ytiefonnhgjpbfaa.Tr
