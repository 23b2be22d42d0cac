/- What each makes of events, walked. -/
import Derived.Test.YtiefonnhgjpbfaaC5
import Derived.Outline
namespace Go.Proofs.Ytiefonnhgjpbfaa.Tr
open Go.RowKit Go.Proofs.YtiefonnhgjpbfaaW.PrintWords Go.Proofs.YtiefonnhgjpbfaaW.PrintLast Go.Proofs.YtiefonnhgjpbfaaW.PrintMore
attribute [local go_sem] max2_int min2_int max_two min_two max_three min_three max_four min_four   -- for this text's walks alone
set_option linter.unusedVariables false
set_option linter.unusedSimpArgs false

theorem info58 : (Try.prog.info? 58).map (fun i => (i.zero, i.size, i.bytes)) = some (some (.agg #[(.int .i64 0), (.int .i64 0), (.int .i64 0), (.int .i64 0), (.int .i64 0), (.int .i64 0), (.int .i64 0), (.int .i64 0)]), 8, 64) := by kernel_rfl
structure S58 where
  f0 : Int
  f1 : Int
  f2 : Int
  f3 : Int
  f4 : Int
  f5 : Int
  f6 : Int
  f7 : Int
def z58 : S58 := ⟨0, 0, 0, 0, 0, 0, 0, 0⟩
def k58 : Kd S58 := Kd.iso (Kd.pair (Kd.int .i64) (Kd.pair (Kd.int .i64) (Kd.pair (Kd.int .i64) (Kd.pair (Kd.int .i64) (Kd.pair (Kd.int .i64) (Kd.pair (Kd.int .i64) (Kd.pair (Kd.int .i64) (Kd.int .i64)))))))) (fun x : S58 => (x.f0, x.f1, x.f2, x.f3, x.f4, x.f5, x.f6, x.f7))
def cs58 (x : S58) : List Value := [.int .i64 x.f0, .int .i64 x.f1, .int .i64 x.f2, .int .i64 x.f3, .int .i64 x.f4, .int .i64 x.f5, .int .i64 x.f6, .int .i64 x.f7]
theorem k58_open {w : World} {x : S58} {cs : List Value} (h : k58.K w x cs) : cs = cs58 x := by
  obtain ⟨_, _, rfl, rfl, ⟨_, _, rfl, rfl, ⟨_, _, rfl, rfl, ⟨_, _, rfl, rfl, ⟨_, _, rfl, rfl, ⟨_, _, rfl, rfl, ⟨_, _, rfl, rfl, rfl⟩⟩⟩⟩⟩⟩⟩ := h
  exact rfl
theorem k58_mkM (w : World) (base : Nat) (ok : Nat → Prop) (x : S58) : k58.M w base ok x (cs58 x) :=
  ⟨[.int .i64 x.f0], [.int .i64 x.f1, .int .i64 x.f2, .int .i64 x.f3, .int .i64 x.f4, .int .i64 x.f5, .int .i64 x.f6, .int .i64 x.f7], rfl, rfl, ⟨[.int .i64 x.f1], [.int .i64 x.f2, .int .i64 x.f3, .int .i64 x.f4, .int .i64 x.f5, .int .i64 x.f6, .int .i64 x.f7], rfl, rfl,
    ⟨[.int .i64 x.f2], [.int .i64 x.f3, .int .i64 x.f4, .int .i64 x.f5, .int .i64 x.f6, .int .i64 x.f7], rfl, rfl, ⟨[.int .i64 x.f3], [.int .i64 x.f4, .int .i64 x.f5, .int .i64 x.f6, .int .i64 x.f7], rfl, rfl,
      ⟨[.int .i64 x.f4], [.int .i64 x.f5, .int .i64 x.f6, .int .i64 x.f7], rfl, rfl, ⟨[.int .i64 x.f5], [.int .i64 x.f6, .int .i64 x.f7], rfl, rfl, ⟨[.int .i64 x.f6], [.int .i64 x.f7], rfl, rfl, rfl⟩⟩⟩⟩⟩⟩⟩
def toS58 (x : S48) : S58 := ⟨x.f0, x.f1, x.f2.f0, x.f2.f1, x.f2.f2, x.f2.f3, x.f3.f0, if x.f3.f1 = true then 1 else 0⟩
def l58 (x : S58) : List Int := [x.f0, x.f1, x.f2, x.f3, x.f4, x.f5, x.f6, x.f7]
theorem l58_nev (x : S48) : l58 (toS58 x) = nev x := rfl
def rd_T58 (xs : List S58) (i : Int) : S58 := xs.getD i.toNat z58

theorem numbers48 (x : S48) (y : S58) (hy : toS58 x = y) (w : World) :
    Calls Try.prog 24 #[.agg #[.int .i64 x.f0, .int .i64 x.f1, .int .i64 x.f2.f0, .int .i64 x.f2.f1, .int .i64 x.f2.f2, .int .i64 x.f2.f3, .int .i64 x.f3.f0, .bool x.f3.f1]] w fun r w' =>
      r = .returned (.agg #[.int .i64 y.f0, .int .i64 y.f1, .int .i64 y.f2, .int .i64 y.f3, .int .i64 y.f4, .int .i64 y.f5, .int .i64 y.f6, .int .i64 y.f7]) ∧ Below w.heap.size w w' := by
  subst hy
  exact numbers_calls x.f0 x.f1 x.f2.f0 x.f2.f1 x.f2.f2 x.f2.f3 x.f3.f0 x.f3.f1 w
theorem pick48 (x : S48) (y : S55) (hy : pickOf x = y) (w : World) :
    Calls Try.prog 31 #[.agg #[.int .i64 x.f0, .int .i64 x.f1, .int .i64 x.f2.f0, .int .i64 x.f2.f1, .int .i64 x.f2.f2, .int .i64 x.f2.f3, .int .i64 x.f3.f0, .bool x.f3.f1]] w fun r w' =>
      r = .returned (.agg #[.int .i64 y.f0, .int .i64 y.f1, .int .i64 y.f2]) ∧ Below w.heap.size w w' := by
  subst hy
  refine (pick_calls x.f0 x.f1 x.f2.f0 x.f2.f1 x.f2.f2 x.f2.f3 x.f3.f0 x.f3.f1 w).mono fun r w' h => ⟨?_, h.2⟩
  rw [h.1]
  unfold pickOf
  split <;> simp_all
theorem take48_map {β : Type} (F : S48 → β) (l : List S48) (i : Nat) (h : i < l.length) : (l.take (i + 1)).map F = (l.take i).map F ++ [F (rd_T48 l (i : Int))] := by
  rw [rd48_get l i h, List.take_succ_eq_append_getElem h, List.map_append, List.map_cons, List.map_nil]

set_option maxHeartbeats 8000000 in
set_option maxRecDepth 100000 in
theorem each58_calls (A : Option Addr) (c : Nat) (l : List S48) (w : World) (hr : Kd.C k48 w A l.length l) (hc : l.length ≤ c) (hn : l.length ≤ 1000000) :
    Calls Try.prog 23 #[.slice A l.length c, .func (.func 24) #[] #[]] w fun e w' => ∃ v0_ : Value, e = .returned v0_ ∧ Kd.R k58 58 w' w.heap.size (fun _ => True) v0_ (l.map toS58) ∧ Below w.heap.size w w' := by
  have hu48 := Try.underlying48
  have hu44 := Try.underlying44
  have hu46 := Try.underlying46
  have hu58 := Try.underlying58
  have HR := Aside0.mk hr
  have HC := Aside0.mk hc
  have HB := Aside0.mk (Below.refl w.heap.size w)
  have hm : (l.length : Int) ≤ 1000000 := by omega
  clear hr hc hn
  go_enter Try.func23, Try.ntmps23
  go_wp2
  go_loopg [5, 10] (l.length + 1) (fun kq v5 v10 w' => ∃ (i : Nat), v10 = .int .i64 (i : Int) ∧ (i : Int) ≤ (l.length : Int) ∧ Aside0 (kq + i = l.length + 1) ∧ Aside0 (Kd.R k58 58 w' w.heap.size (fun _ => True) v5 ((l.take i).map toS58)) ∧ Aside0 (Below w.heap.size w w'))
  case atStart => exact ⟨0, rfl, by omega, ⟨rfl⟩, ⟨Kd.R_nil _ _ _ _ _⟩, HB⟩
  case round =>
    obtain ⟨i, rfl, hi, HK, HO, HB⟩ := hrel
    by_cases h : (i : Int) < (l.length : Int)
    · obtain ⟨y, hy⟩ : ∃ y, toS58 (rd_T48 l (i : Int)) = y := ⟨_, rfl⟩
      have HF := Aside0.mk (take48_map toS58 l i (by omega))
      rw [hy] at HF
      have HY := Aside0.mk hy
      clear hy
      have HL : Aside0 (((l.take i).map toS58).length ≤ 1000000) := ⟨by simp; omega⟩
      obtain ⟨ad, ea, hx0, hx1, hx2, hx3, hx4, hx5, hx6, hx7⟩ := at_T48 HR.out (i : Int) (by omega) h
      cases ea
      replace hx0 := (HB.out.cell (World.block_lt_of_cell? w _ hx0)).trans hx0
      replace hx1 := (HB.out.cell (World.block_lt_of_cell? w _ hx1)).trans hx1
      replace hx2 := (HB.out.cell (World.block_lt_of_cell? w _ hx2)).trans hx2
      replace hx3 := (HB.out.cell (World.block_lt_of_cell? w _ hx3)).trans hx3
      replace hx4 := (HB.out.cell (World.block_lt_of_cell? w _ hx4)).trans hx4
      replace hx5 := (HB.out.cell (World.block_lt_of_cell? w _ hx5)).trans hx5
      replace hx6 := (HB.out.cell (World.block_lt_of_cell? w _ hx6)).trans hx6
      replace hx7 := (HB.out.cell (World.block_lt_of_cell? w _ hx7)).trans hx7
      rw [Int.toNat_natCast] at hx0 hx1 hx2 hx3 hx4 hx5 hx6 hx7
      have h0 : 0 ≤ (i : Int) := by omega
      go_wp2_with (first | (go_at_call 24; refine (numbers48 (rd_T48 l (i : Int)) y HY.out _).mono ?_; rintro e w2 ⟨rfl, hb⟩; have n0_ := Aside0.mk (Kd.R_below (by (with_reducible repeat (first | apply Kd.R_alloc | apply Kd.R_drewN | apply Kd.R_drew)); exact HO.out) hb); have n1_ := Aside0.mk (below_step (by repeat (first | (with_reducible first | exact HB.out | apply below_alloc | apply pw_below_drewN | apply below_drew1) | exact HB.out)) hb); clear HO HB hb; have HO := n0_; have HB := n1_; clear n0_ n1_) | ((with_reducible refine gate_builtin (b := .append) (xs := #[.tmp 14, .tmp 18]) rfl ?_); at_builtin; refine Kd.R_append (k58) (w0 := w) w.heap.size rfl (.tmp 14) (.tmp 18) 56 58 (.agg #[(.int .i64 0), (.int .i64 0), (.int .i64 0), (.int .i64 0), (.int .i64 0), (.int .i64 0), (.int .i64 0), (.int .i64 0)]) 64 rfl Try.underlying56 info58 rfl (by decide) (by omega) u5 ((l.take i).map toS58) (y) [.int .i64 y.f0, .int .i64 y.f1, .int .i64 y.f2, .int .i64 y.f3, .int .i64 y.f4, .int .i64 y.f5, .int .i64 y.f6, .int .i64 y.f7] (fun _ => True) (fun _ => False) rfl rfl ?aP (fun _ hk => hk.elim) ?aF ?aO ?aB ?aS ?aL ?_; (case aP => exact k58_mkM _ _ _ y); (case aB => exact (by repeat (first | (with_reducible first | exact HB.out | apply below_alloc | apply pw_below_drewN | apply below_drew1) | exact HB.out))); (case aF => exact (fun _ _ => trivial)); (case aO => exact (by (with_reducible repeat (first | apply Kd.R_alloc | apply Kd.R_drewN | apply Kd.R_drew)); exact HO.out)); (case aS => exact (below_size (by repeat (first | (with_reducible first | exact HB.out | apply below_alloc | apply pw_below_drewN | apply below_drew1) | exact HB.out)))); (case aL => have := HL.out; omega); intro v1 w1 ho hb hg hat; have n0_ := Aside0.mk (hb); have n1_ := Aside0.mk (ho); clear HB; clear HO; have HB := n0_; have HO := n1_; clear n0_ n1_; clear ho hb hg hat))
      go_roundg (gk - 1)
      case measure => have := HK.out; omega
      case rel => exact ⟨i + 1, by go_num, by omega, ⟨by have := HK.out; omega⟩, ⟨by rw [HF.out]; exact HO.out⟩, HB⟩
    · go_wp2
      go_ret
      have e : l.take i = l := List.take_of_length_le (by omega)
      exact ⟨_, rfl, by rw [e] at HO; exact HO.out, HB.out⟩

set_option maxHeartbeats 8000000 in
set_option maxRecDepth 100000 in
theorem each55_calls (A : Option Addr) (c : Nat) (l : List S48) (w : World) (hr : Kd.C k48 w A l.length l) (hc : l.length ≤ c) (hn : l.length ≤ 1000000) :
    Calls Try.prog 30 #[.slice A l.length c, .func (.func 31) #[] #[]] w fun e w' => ∃ v0_ : Value, e = .returned v0_ ∧ Kd.R k55 55 w' w.heap.size (fun _ => True) v0_ (l.map pickOf) ∧ Below w.heap.size w w' := by
  have hu48 := Try.underlying48
  have hu44 := Try.underlying44
  have hu46 := Try.underlying46
  have hu55 := Try.underlying55
  have HR := Aside0.mk hr
  have HC := Aside0.mk hc
  have HB := Aside0.mk (Below.refl w.heap.size w)
  have hm : (l.length : Int) ≤ 1000000 := by omega
  clear hr hc hn
  go_enter Try.func30, Try.ntmps30
  go_wp2
  go_loopg [5, 10] (l.length + 1) (fun kq v5 v10 w' => ∃ (i : Nat), v10 = .int .i64 (i : Int) ∧ (i : Int) ≤ (l.length : Int) ∧ Aside0 (kq + i = l.length + 1) ∧ Aside0 (Kd.R k55 55 w' w.heap.size (fun _ => True) v5 ((l.take i).map pickOf)) ∧ Aside0 (Below w.heap.size w w'))
  case atStart => exact ⟨0, rfl, by omega, ⟨rfl⟩, ⟨Kd.R_nil _ _ _ _ _⟩, HB⟩
  case round =>
    obtain ⟨i, rfl, hi, HK, HO, HB⟩ := hrel
    by_cases h : (i : Int) < (l.length : Int)
    · obtain ⟨y, hy⟩ : ∃ y, pickOf (rd_T48 l (i : Int)) = y := ⟨_, rfl⟩
      have HF := Aside0.mk (take48_map pickOf l i (by omega))
      rw [hy] at HF
      have HY := Aside0.mk hy
      clear hy
      have HL : Aside0 (((l.take i).map pickOf).length ≤ 1000000) := ⟨by simp; omega⟩
      obtain ⟨ad, ea, hx0, hx1, hx2, hx3, hx4, hx5, hx6, hx7⟩ := at_T48 HR.out (i : Int) (by omega) h
      cases ea
      replace hx0 := (HB.out.cell (World.block_lt_of_cell? w _ hx0)).trans hx0
      replace hx1 := (HB.out.cell (World.block_lt_of_cell? w _ hx1)).trans hx1
      replace hx2 := (HB.out.cell (World.block_lt_of_cell? w _ hx2)).trans hx2
      replace hx3 := (HB.out.cell (World.block_lt_of_cell? w _ hx3)).trans hx3
      replace hx4 := (HB.out.cell (World.block_lt_of_cell? w _ hx4)).trans hx4
      replace hx5 := (HB.out.cell (World.block_lt_of_cell? w _ hx5)).trans hx5
      replace hx6 := (HB.out.cell (World.block_lt_of_cell? w _ hx6)).trans hx6
      replace hx7 := (HB.out.cell (World.block_lt_of_cell? w _ hx7)).trans hx7
      rw [Int.toNat_natCast] at hx0 hx1 hx2 hx3 hx4 hx5 hx6 hx7
      have h0 : 0 ≤ (i : Int) := by omega
      go_wp2_with (first | (go_at_call 31; refine (pick48 (rd_T48 l (i : Int)) y HY.out _).mono ?_; rintro e w2 ⟨rfl, hb⟩; have n0_ := Aside0.mk (Kd.R_below (by (with_reducible repeat (first | apply Kd.R_alloc | apply Kd.R_drewN | apply Kd.R_drew)); exact HO.out) hb); have n1_ := Aside0.mk (below_step (by repeat (first | (with_reducible first | exact HB.out | apply below_alloc | apply pw_below_drewN | apply below_drew1) | exact HB.out)) hb); clear HO HB hb; have HO := n0_; have HB := n1_; clear n0_ n1_) | ((with_reducible refine gate_builtin (b := .append) (xs := #[.tmp 14, .tmp 18]) rfl ?_); at_builtin; refine Kd.R_append (k55) (w0 := w) w.heap.size rfl (.tmp 14) (.tmp 18) 31 55 (.agg #[(.int .i64 0), (.int .i64 0), (.int .i64 0)]) 24 rfl Try.underlying31 info55 rfl (by decide) (by omega) u5 ((l.take i).map pickOf) (y) [.int .i64 y.f0, .int .i64 y.f1, .int .i64 y.f2] (fun _ => True) (fun _ => False) rfl rfl ?aP (fun _ hk => hk.elim) ?aF ?aO ?aB ?aS ?aL ?_; (case aP => exact k55_mkM _ _ _ y); (case aB => exact (by repeat (first | (with_reducible first | exact HB.out | apply below_alloc | apply pw_below_drewN | apply below_drew1) | exact HB.out))); (case aF => exact (fun _ _ => trivial)); (case aO => exact (by (with_reducible repeat (first | apply Kd.R_alloc | apply Kd.R_drewN | apply Kd.R_drew)); exact HO.out)); (case aS => exact (below_size (by repeat (first | (with_reducible first | exact HB.out | apply below_alloc | apply pw_below_drewN | apply below_drew1) | exact HB.out)))); (case aL => have := HL.out; omega); intro v1 w1 ho hb hg hat; have n0_ := Aside0.mk (hb); have n1_ := Aside0.mk (ho); clear HB; clear HO; have HB := n0_; have HO := n1_; clear n0_ n1_; clear ho hb hg hat))
      go_roundg (gk - 1)
      case measure => have := HK.out; omega
      case rel => exact ⟨i + 1, by go_num, by omega, ⟨by have := HK.out; omega⟩, ⟨by rw [HF.out]; exact HO.out⟩, HB⟩
    · go_wp2
      go_ret
      have e : l.take i = l := List.take_of_length_le (by omega)
      exact ⟨_, rfl, by rw [e] at HO; exact HO.out, HB.out⟩

end Go.Proofs.Ytiefonnhgjpbfaa.Tr
