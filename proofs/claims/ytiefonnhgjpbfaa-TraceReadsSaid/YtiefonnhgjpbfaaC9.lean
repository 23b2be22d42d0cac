/- trace.Parse, walked. -/
import Derived.Test.YtiefonnhgjpbfaaC8
import Derived.Outline
namespace Go.Proofs.Ytiefonnhgjpbfaa.Tr
open Go.RowKit Go.Proofs.YtiefonnhgjpbfaaW.PrintWords Go.Proofs.YtiefonnhgjpbfaaW.PrintLast Go.Proofs.YtiefonnhgjpbfaaW.PrintMore
attribute [local go_sem] max2_int min2_int max_two min_two max_three min_three max_four min_four   -- for this text's walks alone
set_option linter.unusedVariables false
set_option linter.unusedSimpArgs false

theorem info48 : (Try.prog.info? 48).map (fun i => (i.zero, i.size, i.bytes)) = some (some (.agg #[(.int .i64 0), (.int .i64 0), (.int .i64 0), (.int .i64 0), (.int .i64 0), (.int .i64 0), (.int .i64 0), (.bool false)]), 8, 64) := by kernel_rfl
def ParseRet (W : World) (r : Option (List S48)) (e : Ending) (w' : World) : Prop :=
  Below W.heap.size W w' ∧ ((r = none ∧ e = .returned (.tuple #[.slice none 0 0, .int .i64 3])) ∨
    ∃ (l : List S48) (A : Option Addr) (c : Nat), r = some l ∧ e = .returned (.tuple #[.slice A l.length c, .int .i64 0]) ∧ Kd.C k48 w' A l.length l ∧ l.length ≤ c)
theorem parseRet_none {W w' : World} {e : Ending} {r : Option (List S48)} (hr : r = none) (h : e = .returned (.tuple #[.slice none 0 0, .int .i64 3])) (hb : Below W.heap.size W w') : ParseRet W r e w' := ⟨hb, .inl ⟨hr, h⟩⟩
theorem parse_no {b : List Int} (h : opn b = none) : parse b = none := by unfold parse; rw [h]
theorem parse_left {b s : List Int} {u : Nat} (h : opn b = some (s, u)) (hu : u ≠ b.length) : parse b = none := by unfold parse; rw [h]; simp only; rw [if_neg hu]
theorem parse_nonum {b s : List Int} {u : Nat} (h : opn b = some (s, u)) (hg : getNums s = none) : parse b = none := by
  unfold parse; rw [h]; simp only; rw [hg]; split <;> rfl
theorem parse_odd {b s x : List Int} {u v : Nat} (h : opn b = some (s, u)) (hg : getNums s = some (x, v)) (hv : ¬ (v = s.length ∧ x.length % 8 = 0)) : parse b = none := by
  unfold parse; rw [h]; simp only; rw [hg]; simp only; rw [if_neg hv]; split <;> rfl
theorem parse_at {b s x : List Int} {v : Nat} (h : opn b = some (s, b.length)) (hg : getNums s = some (x, v)) (hv : v = s.length ∧ x.length % 8 = 0) : parse b = evs (x.length / 8) x := by
  unfold parse; rw [h]; simp only [if_true]; rw [hg]; simp only; rw [if_pos hv]
theorem opn_byt {b s : List Int} {u : Nat} (hb : Byt b) (h : opn b = some (s, u)) : Byt s ∧ s.length ≤ b.length ∧ u ≤ b.length := by
  obtain ⟨r, hr, hk⟩ := opn_some h
  have h1 : s.length ≤ b.length ∧ u ≤ b.length := by
    have := congrArg List.length hr
    simp only [List.length_append] at this
    have h2 : s.length ≤ (sel s).length := by unfold sel; simp only [List.length_append]; omega
    omega
  refine ⟨?_, h1⟩
  intro x hx
  refine hb x ?_
  rw [hr, List.mem_append]
  left
  unfold sel
  simp only [List.mem_append]
  exact .inl (.inr hx)
theorem getNums_long {s x : List Int} {v : Nat} (h : getNums s = some (x, v)) : x.length ≤ s.length ∧ v ≤ s.length := by
  obtain ⟨_, h2, r, h3⟩ := getNums_some h
  have h4 := congrArg List.length h3
  simp only [List.length_append] at h4
  have h5 := flat_len_ge x
  have h6 : x.length ≤ (nums x).length := by unfold nums; rw [List.length_append]; omega
  omega
theorem ex8 {y : List Int} (h : 8 ≤ y.length) : ∃ a b c d e f g q r, y = a :: b :: c :: d :: e :: f :: g :: q :: r := by
  match y, h with
  | a :: b :: c :: d :: e :: f :: g :: q :: r, _ => exact ⟨a, b, c, d, e, f, g, q, r, rfl⟩
theorem arr8 {A : Option Addr} {n c : Nat} (h : 8 ≤ n) (W : World) : (Instr.arrayAt 58 (.slice A n c)).run Try.prog W = .ok (.pointer A) W := by
  unfold Instr.arrayAt
  simp only [Sem.run_bind, run_underlying Try.underlying58, Result.andThen_ok]
  rw [if_neg (by omega)]
  rfl
theorem cells8 {w : World} {A : Option Addr} {n : Nat} {a b c d e f g q : Int} {r : List Int} (h : Kd.C (Kd.int .i64) w A n (a :: b :: c :: d :: e :: f :: g :: q :: r)) : ∃ ad, A = some ad ∧ w.cell? ad = some (.int .i64 a) ∧
    w.cell? ⟨ad.block, ad.off + 1, none⟩ = some (.int .i64 b) ∧ w.cell? ⟨ad.block, ad.off + 2, none⟩ = some (.int .i64 c) ∧ w.cell? ⟨ad.block, ad.off + 3, none⟩ = some (.int .i64 d) ∧ w.cell? ⟨ad.block, ad.off + 4, none⟩ = some (.int .i64 e) ∧
    w.cell? ⟨ad.block, ad.off + 5, none⟩ = some (.int .i64 f) ∧ w.cell? ⟨ad.block, ad.off + 6, none⟩ = some (.int .i64 g) ∧ w.cell? ⟨ad.block, ad.off + 7, none⟩ = some (.int .i64 q) := by
  have hl := Kd.C_len h
  obtain ⟨h1, h2, h3⟩ := Kd.reads_of_C (enc := Value.int .i64) (d := (0 : Int)) (h1 := fun _ => rfl) h
  simp only [List.length_cons] at hl
  obtain ⟨ad, e1, hc⟩ := h3 (by omega)
  have e0 : ad.add 0 = ad := by unfold Addr.add; simp
  have es : ∀ j, 0 < j → ad.add j = ⟨ad.block, ad.off + j, none⟩ := fun j hj => by
    have := add_field ad 0 j hj
    rwa [Nat.zero_add, e0] at this
  refine ⟨ad, e1, ?_, ?_, ?_, ?_, ?_, ?_, ?_, ?_⟩
  · have := hc 0 (by omega); rwa [e0] at this
  · have := hc 1 (by omega); rwa [es 1 (by omega)] at this
  · have := hc 2 (by omega); rwa [es 2 (by omega)] at this
  · have := hc 3 (by omega); rwa [es 3 (by omega)] at this
  · have := hc 4 (by omega); rwa [es 4 (by omega)] at this
  · have := hc 5 (by omega); rwa [es 5 (by omega)] at this
  · have := hc 6 (by omega); rwa [es 6 (by omega)] at this
  · have := hc 7 (by omega); rwa [es 7 (by omega)] at this
theorem blk_cells {w w' : World} {C : Array Value} {t : TypeId} (hb : Below (w.alloc (.cells C t)).heap.size (w.alloc (.cells C t)) w') (j : Nat) : w'.cell? ⟨w.heap.size, j, none⟩ = C[j]? := by
  have h1 := hb.block w.heap.size (by show _ < (w.heap.push _).size; simp)
  rw [heap_alloc_new] at h1
  unfold World.cell?
  rw [h1]
  rfl
theorem blk_size {w w' : World} {o : Obj} (hb : Below (w.alloc o).heap.size (w.alloc o) w') : w.heap.size < w'.heap.size := by
  have := hb.size
  have e : (w.alloc o).heap.size = w.heap.size + 1 := by show (w.heap.push _).size = _; simp
  omega
theorem size_alloc' (w : World) (o : Obj) : (w.alloc o).heap.size = w.heap.size + 1 := by show (w.heap.push _).size = _; simp
theorem below_a {w3 w4 : World} {X : Obj} (h : Below (w3.alloc X).heap.size (w3.alloc X) w4) : Below (w3.heap.size + 1) (w3.alloc X) w4 := by rw [← size_alloc' w3 X]; exact h
theorem below_b {w3 w4 : World} {X : Obj} (h : Below (w3.alloc X).drew.heap.size (w3.alloc X).drew w4) : Below (w3.heap.size + 1) (w3.alloc X) w4 := below_a (X := X) ⟨h.os, h.tape, h.output, h.size, h.block⟩
theorem blk_far {w3 w4 : World} {X : Obj} {b j : Nat} {v : Option Value} (hb : Below (w3.heap.size + 1) (w3.alloc X) w4) (hlt : b < w3.heap.size) (h : w3.cell? ⟨b, j, none⟩ = v) : w4.cell? ⟨b, j, none⟩ = v := by
  have h1 := hb.block b (by omega)
  have h2 : (w3.alloc X).heap[b]? = w3.heap[b]? := by
    show (w3.heap.push X)[b]? = _
    rw [Array.getElem?_push, if_neg (by omega)]
  unfold World.cell? at h ⊢
  rw [h1, h2]
  exact h
theorem blk_here {w3 w4 : World} {C : Array Value} {t : TypeId} (hb : Below (w3.heap.size + 1) (w3.alloc (.cells C t)) w4) (j : Nat) : w4.cell? ⟨w3.heap.size, j, none⟩ = C[j]? := by
  have h1 := hb.block w3.heap.size (by omega)
  rw [heap_alloc_new] at h1
  unfold World.cell?
  rw [h1]
  rfl
theorem below_chain {wr w3 w4 : World} {X Y : Obj} (h1 : Below (wr.alloc X).heap.size (wr.alloc X) w3) (h2 : Below (w3.heap.size + 1) (w3.alloc Y) w4) : Below wr.heap.size wr w4 := by
  have a1 : Below wr.heap.size wr w3 := (below_alloc (Below.refl _ _) X).trans (h1.mono (by rw [size_alloc']; omega))
  have hs := a1.size
  have a2 : Below wr.heap.size wr (w3.alloc Y) := a1.alloc hs Y
  exact a2.trans (h2.mono (by omega))
theorem same_q {q q1 : Int} {p : Bool} (hp : (q == 1) = p) (hq1 : (if p = true then 1 else 0) = q1) (hq : q = 0 ∨ q = 1) : (q1 == q) = true := by
  subst hp hq1
  rcases hq with rfl | rfl <;> rfl
theorem other_q {q q1 : Int} {p : Bool} (hp : (q == 1) = p) (hq1 : (if p = true then 1 else 0) = q1) (hq : ¬ (q = 0 ∨ q = 1)) : (q1 == q) = false := by
  subst hp hq1
  refine beq_eq_false_iff_ne.mpr fun e => hq ?_
  by_cases h : q = 1
  · exact .inr h
  · have h1 : (q == 1) = false := beq_eq_false_iff_ne.mpr h
    rw [h1] at e
    exact .inl (by simpa using e.symm)
theorem cut_of8 {A : Option Addr} {c : Nat} {l : List Int} (hk : 8 ≤ l.length) (hc : l.length ≤ c) : ∃ A' : Option Addr,
    (∀ W : World, (Instr.slice 50 (.slice A l.length c) (some (.int .i64 8)) none none).run Try.prog W = .ok (.slice A' (l.drop 8).length (c - 8)) W) ∧
    (∀ w : World, Kd.C (Kd.int .i64) w A l.length l → Kd.C (Kd.int .i64) w A' (l.drop 8).length (l.drop 8)) ∧ (l.drop 8).length ≤ c - 8 := by
  obtain ⟨i0, hi0, _, hsz, _⟩ := info_parts info3
  obtain ⟨A', h1, h2⟩ := print_cut_of (P := Try.prog) (Value.int .i64) 0 50 3 .i64 Try.underlying50 hi0 hsz A l.length c 8 hk
  refine ⟨A', fun W => by rw [List.length_drop]; exact h1 W, fun w h => ?_, by rw [List.length_drop]; omega⟩
  have h3 := h2 w l hc (Kd.reads_of_C h)
  rw [← List.length_drop] at h3
  exact Kd.C_of_reads (h1 := fun _ => rfl) h3

theorem wire_GetNums_none (A : Option Addr) (c : Nat) (l : List Int) (w : World) (hr : Kd.C (Kd.int .u8) w A l.length l) (hc : l.length ≤ c) (hb : Byt l) (hn : l.length ≤ 1000000000) (h : getNums l = none) :
    Calls Try.prog 21 #[.slice A l.length c] w fun e w' => e = .returned (.tuple #[.slice none 0 0, .int .i64 0, .int .i64 3]) ∧ Below w.heap.size w w' := by
  refine (wire_GetNums_calls A c l w hr hc hb hn).mono fun e w' hret => ?_
  obtain ⟨hb, h1 | ⟨x, u, A, c, h1, _⟩⟩ := hret
  · exact ⟨h1.2, hb⟩
  · rw [h] at h1; cases h1
theorem wire_GetNums_some (A : Option Addr) (c : Nat) (l : List Int) (w : World) (hr : Kd.C (Kd.int .u8) w A l.length l) (hc : l.length ≤ c) (hb : Byt l) (hn : l.length ≤ 1000000000) {x : List Int} {v : Nat} (h : getNums l = some (x, v)) :
    Calls Try.prog 21 #[.slice A l.length c] w fun e w' => ∃ (A1 : Option Addr) (c1 : Nat), e = .returned (.tuple #[.slice A1 x.length c1, .int .i64 (v : Int), .int .i64 0]) ∧ Kd.C (Kd.int .i64) w' A1 x.length x ∧ x.length ≤ c1 ∧ Below w.heap.size w w' := by
  refine (wire_GetNums_calls A c l w hr hc hb hn).mono fun e w' hret => ?_
  obtain ⟨hb, h1 | ⟨x', u', A', c', h1, h2, h3, h4⟩⟩ := hret
  · rw [h] at h1; cases h1.1
  · rw [h] at h1
    simp only [Option.some.injEq, Prod.mk.injEq] at h1
    obtain ⟨rfl, rfl⟩ := h1
    exact ⟨A', c', h2, h3, h4, hb⟩
set_option maxHeartbeats 16000000 in
set_option maxRecDepth 100000 in
theorem trace_Parse_calls (A : Option Addr) (c : Nat) (l : List Int) (w : World) (hr : Kd.C (Kd.int .u8) w A l.length l) (hc : l.length ≤ c) (hb : Byt l) (hn : l.length ≤ 1000000) :
    Calls Try.prog 10 #[.slice A l.length c] w (ParseRet w (parse l)) := by
  have hu58 := Try.underlying58
  have hu48 := Try.underlying48
  have hu44 := Try.underlying44
  have hu46 := Try.underlying46
  have HR := Aside0.mk hr
  have HC := Aside0.mk hc
  have HY := Aside0.mk hb
  have HN : Aside0 (l.length ≤ 1000000000) := ⟨by omega⟩
  have HN6 := Aside0.mk hn
  have HB := Aside0.mk (Below.refl w.heap.size w)
  cases ho : opn l with
  | none =>
    have HO1 := Aside0.mk ho
    have HF := Aside0.mk (parse_no ho)
    clear ho hr hc hb hn
    go_enter Try.func10, Try.ntmps10
    go_wp2_with (first | (go_at_call 18; refine (wire_Open_none _ _ _ _ HR.out HC.out HY.out HN.out HO1.out).mono ?_; rintro e w1 ⟨rfl, hb1⟩; have HB1 := Aside0.mk hb1; clear hb1))
    go_ret2
    exact parseRet_none HF.out rfl HB1.out
  | some p =>
    obtain ⟨s, u⟩ := p
    have HO1 := Aside0.mk ho
    have hs := opn_byt hb ho
    have hl1 : (l.length : Int) ≤ 1000000 := by omega
    have hu1 : (u : Int) ≤ (l.length : Int) := by omega
    by_cases hu : u = l.length
    · subst hu
      have HYs := Aside0.mk hs.1
      have HNs : Aside0 (s.length ≤ 1000000000) := ⟨by omega⟩
      have hs1 : (s.length : Int) ≤ 1000000 := by omega
      cases hg : getNums s with
      | none =>
        have HG := Aside0.mk hg
        have HF := Aside0.mk (parse_nonum ho hg)
        clear ho hr hc hb hn hs hg hu1
        go_enter Try.func10, Try.ntmps10
        go_wp2_with (first | (go_at_call 18; refine (wire_Open_some _ _ _ _ HR.out HC.out HY.out HN.out HO1.out).mono ?_; rintro e w1 ⟨A1, c1, rfl, hC1, hc1, hb1⟩; have HB1 := Aside0.mk hb1; clear hb1; have HCa := Aside0.mk hC1; clear hC1; have HC1 := Aside0.mk hc1; clear hc1) | (go_at_call 21; refine (wire_GetNums_none _ _ s _ HCa.out HC1.out HYs.out HNs.out HG.out).mono ?_; rintro e w2 ⟨rfl, hb2⟩; have HB2 := Aside0.mk (below_step HB1.out hb2); clear hb2))
        go_ret2
        exact parseRet_none HF.out rfl HB2.out
      | some p =>
        obtain ⟨x, v⟩ := p
        have HG := Aside0.mk hg
        have hx := getNums_long hg
        have hx1 : (x.length : Int) ≤ 1000000 := by omega
        have hv1 : (v : Int) ≤ (s.length : Int) := by omega
        by_cases hv : v = s.length
        · subst hv
          by_cases hm : x.length % 8 = 0
          · have hm1 : ((x.length : Int) % 8 == 0) = true := beq_iff_eq.mpr (by omega)
            have hm2 : ((x.length : Int) % 8 != 0) = false := bne_eq_false_iff_eq.mpr (by omega)
            have HF := Aside0.mk (parse_at ho hg ⟨rfl, hm⟩)
            have HM := Aside0.mk hm
            have HX : Aside0 (x.length ≤ 1000000) := ⟨by omega⟩
            clear ho hr hc hb hn hs hg hu1 hx hv1 hm
            go_enter Try.func10, Try.ntmps10
            go_wp2_with (first | (go_at_call 18; refine (wire_Open_some _ _ _ _ HR.out HC.out HY.out HN.out HO1.out).mono ?_; rintro e w1 ⟨A1, c1, rfl, hC1, hc1, hb1⟩; have HB1 := Aside0.mk hb1; clear hb1; have HCa := Aside0.mk hC1; clear hC1; have HC1 := Aside0.mk hc1; clear hc1) | (go_at_call 21; refine (wire_GetNums_some _ _ s _ HCa.out HC1.out HYs.out HNs.out HG.out).mono ?_; rintro e w2 ⟨A2, c2, rfl, hC2, hc2, hb2⟩; have HB2 := Aside0.mk (below_step HB1.out hb2); clear hb2; have HCb := Aside0.mk hC2; clear hC2; have HC2 := Aside0.mk hc2; clear hc2))
            go_loopg [7, 8] (x.length / 8 + 1) (fun kq v7 v8 w' => ∃ (y : List Int) (i : Nat) (acc : List S48) (A7 : Option Addr) (c7 : Nat), v7 = .slice A7 y.length c7 ∧ (y.length : Int) ≤ 1000000 ∧ Aside0 (Kd.C (Kd.int .i64) w2 A7 y.length y) ∧ Aside0 (y.length ≤ c7) ∧ Aside0 (y.length + 8 * i = x.length) ∧ Aside0 (y.length % 8 = 0) ∧ Aside0 (kq + i = x.length / 8 + 1) ∧ Aside0 (acc.length = i) ∧
              Aside0 (parse l = (evs (y.length / 8) y).map fun z => acc ++ z) ∧ Aside0 (Kd.R k48 48 w' w2.heap.size (fun _ => True) v8 acc) ∧ Aside0 (Below w2.heap.size w2 w'))
            case atStart =>
              exact ⟨x, 0, [], A2, c2, rfl, hx1, HCb, HC2, ⟨rfl⟩, HM, ⟨rfl⟩, ⟨rfl⟩, ⟨by rw [HF.out]; simp⟩, ⟨Kd.R_nil _ _ _ _ _⟩, ⟨Below.refl _ _⟩⟩
            case round =>
              obtain ⟨y, i, acc, A7, c7, rfl, hy1, HC7, Hc7, HL, HM8, HK, HA, HP, HO, HB3⟩ := hrel
              by_cases h0 : (0 : Int) < (y.length : Int)
              · have hy8 : 8 ≤ y.length := by have := HM8.out; omega
                obtain ⟨a, b, c', d, e, f, g, q, r, hy⟩ := ex8 hy8
                obtain ⟨A8, hcut, hA8, hC8⟩ := cut_of8 hy8 Hc7.out
                have HC8 := Aside0.mk (hA8 _ HC7.out)
                have Hc8 := Aside0.mk hC8
                have hC7 := HC7.out
                have harr := fun W => arr8 (A := A7) (c := c7) hy8 W
                have hr : y.drop 8 = r := by rw [hy]; rfl
                rw [hr] at hcut HC8 Hc8
                have hP := HP.out
                have hk8 : y.length / 8 = r.length / 8 + 1 := by
                  have := congrArg List.length hy
                  simp only [List.length_cons] at this
                  omega
                rw [hk8, hy] at hP
                rw [hy] at hC7
                obtain ⟨ad, ea, hx0, hxb, hx2, hx3, hx4, hx5, hx6, hx7⟩ := cells8 hC7
                cases ea
                replace hx0 := (HB3.out.cell (World.block_lt_of_cell? w2 _ hx0)).trans hx0
                replace hxb := (HB3.out.cell (World.block_lt_of_cell? w2 _ hxb)).trans hxb
                replace hx2 := (HB3.out.cell (World.block_lt_of_cell? w2 _ hx2)).trans hx2
                replace hx3 := (HB3.out.cell (World.block_lt_of_cell? w2 _ hx3)).trans hx3
                replace hx4 := (HB3.out.cell (World.block_lt_of_cell? w2 _ hx4)).trans hx4
                replace hx5 := (HB3.out.cell (World.block_lt_of_cell? w2 _ hx5)).trans hx5
                replace hx6 := (HB3.out.cell (World.block_lt_of_cell? w2 _ hx6)).trans hx6
                replace hx7 := (HB3.out.cell (World.block_lt_of_cell? w2 _ hx7)).trans hx7
                obtain ⟨p, hp⟩ : ∃ p, (q == 1) = p := ⟨_, rfl⟩
                obtain ⟨q1, hq1⟩ : ∃ q1 : Int, (if p = true then 1 else 0) = q1 := ⟨_, rfl⟩
                have HPp := Aside0.mk hp
                have HQ1 := Aside0.mk hq1
                have HY8 := Aside0.mk hy
                have HHP := Aside0.mk hP
                have Hr8 := Aside0.mk hk8
                clear hP hC7 hA8 hC8 hr hk8 hp hq1 hy
                by_cases hq : q = 0 ∨ q = 1
                · have hs : (q1 == q) = true := same_q HPp.out HQ1.out hq
                  have hneq := fun W => neq58 W a b c' d e f g q q1 true hs
                  go_upto_region 12 with (first | (go_at_call 27; refine (event_is a b c' d e f g q p HPp.out _).mono ?_; rintro e w3 ⟨rfl, hb3⟩; have HB4 := Aside0.mk hb3; clear hb3))
                  have hsz := blk_size HB4.out
                  have g0 := blk_cells HB4.out 0
                  have g1 := blk_cells HB4.out 1
                  have g2 := blk_cells HB4.out 2
                  have g3 := blk_cells HB4.out 3
                  have g4 := blk_cells HB4.out 4
                  have g5 := blk_cells HB4.out 5
                  have g6 := blk_cells HB4.out 6
                  have g7 := blk_cells HB4.out 7
                  go_cut [58] (fun v58 wc => v58 = .bool false ∧ Aside0 (Below (w3.heap.size + 1) (w3.alloc (.cells #[.int .i64 a, .int .i64 b, .int .i64 c', .int .i64 d, .int .i64 e, .int .i64 f, .int .i64 g, .bool p] 48)) wc))
                  case first =>
                    go_region_with (go_at_call 24; refine (numbers_is a b c' d e f g p q1 HQ1.out _).mono ?_; rintro e w4 ⟨rfl, hb4⟩; have HB5 : Aside0 (Below (w3.heap.size + 1) (w3.alloc (.cells #[.int .i64 a, .int .i64 b, .int .i64 c', .int .i64 d, .int .i64 e, .int .i64 f, .int .i64 g, .bool p] 48)) w4) := (by first | exact ⟨below_b hb4⟩ | exact ⟨below_a hb4⟩); have k0 := blk_far HB5.out hsz g0; have k1 := blk_far HB5.out hsz g1; have k2 := blk_far HB5.out hsz g2; have k3 := blk_far HB5.out hsz g3; have k4 := blk_far HB5.out hsz g4; have k5 := blk_far HB5.out hsz g5; have k6 := blk_far HB5.out hsz g6; have k7 := blk_far HB5.out hsz g7; clear hb4)
                    all_goals (go_wp2; go_meet; case rel => exact ⟨rfl, HB5⟩)
                  case rest =>
                    obtain ⟨rfl, HB6⟩ := hcut
                    have HBc := Aside0.mk (below_chain HB4.out HB6.out)
                    have HOc := Aside0.mk (Kd.R_below HO.out HBc.out)
                    have HBd := Aside0.mk (HB3.out.trans (HBc.out.mono (below_size HB3.out)))
                    have k0 := blk_here HB6.out 0
                    have k1 := blk_here HB6.out 1
                    have k2 := blk_here HB6.out 2
                    have k3 := blk_here HB6.out 3
                    have k4 := blk_here HB6.out 4
                    have k5 := blk_here HB6.out 5
                    have k6 := blk_here HB6.out 6
                    have k7 := blk_here HB6.out 7
                    have hstep := evs_step (x := []) HHP.out hq
                    rw [HPp.out] at hstep
                    have HST := Aside0.mk hstep
                    clear hstep g0 g1 g2 g3 g4 g5 g6 g7 hx0 hxb hx2 hx3 hx4 hx5 hx6 hx7 hneq HO
                    have HO := HOc
                    have HB := HBd
                    clear HOc HBd
                    go_wp2_with (first | ((with_reducible refine gate_builtin (b := .append) (xs := #[.tmp 59, .tmp 61]) rfl ?_); at_builtin; refine Kd.R_append (k48) (w0 := w2) w2.heap.size rfl (.tmp 59) (.tmp 61) 22 48 (.agg #[(.int .i64 0), (.int .i64 0), (.int .i64 0), (.int .i64 0), (.int .i64 0), (.int .i64 0), (.int .i64 0), (.bool false)]) 64 rfl Try.underlying22 info48 rfl (by decide) (by omega) u8 (acc) ((⟨a, b, ⟨c', d, e, f⟩, ⟨g, p⟩⟩ : S48)) [.int .i64 a, .int .i64 b, .int .i64 c', .int .i64 d, .int .i64 e, .int .i64 f, .int .i64 g, .bool p] (fun _ => True) (fun _ => False) rfl rfl ?aP (fun _ hk => hk.elim) ?aF ?aO ?aB ?aS ?aL ?_; (case aP => exact k48_mkM _ _ _ (⟨a, b, ⟨c', d, e, f⟩, ⟨g, p⟩⟩ : S48)); (case aB => exact (by repeat (first | (with_reducible first | exact HB.out | apply below_alloc | apply pw_below_drewN | apply below_drew1) | exact HB.out))); (case aF => exact (fun _ _ => trivial)); (case aO => exact (by (with_reducible repeat (first | apply Kd.R_alloc | apply Kd.R_drewN | apply Kd.R_drew)); exact HO.out)); (case aS => exact (below_size (by repeat (first | (with_reducible first | exact HB.out | apply below_alloc | apply pw_below_drewN | apply below_drew1) | exact HB.out)))); (case aL => have := HA.out; have := HL.out; have := HX.out; omega); intro v1 w1 ho hb hg hat; have n0_ := Aside0.mk (hb); have n1_ := Aside0.mk (ho); clear HB; clear HO; have HB := n0_; have HO := n1_; clear n0_ n1_; clear ho hb hg hat))
                    go_roundg (gk - 1)
                    case measure => have := HK.out; have := HL.out; have := congrArg List.length HY8.out; simp only [List.length_cons] at this; omega
                    case rel =>
                      have hl8 := congrArg List.length HY8.out
                      simp only [List.length_cons] at hl8
                      have hK := HK.out
                      have hL := HL.out
                      have hm8 := HM8.out
                      exact ⟨r, i + 1, acc ++ [(⟨a, b, ⟨c', d, e, f⟩, ⟨g, p⟩⟩ : S48)], A8, c7 - 8, rfl, by omega, HC8, Hc8, ⟨by omega⟩, ⟨by omega⟩, ⟨by omega⟩, ⟨by simp [HA.out]⟩, HST, HO, HB⟩
                · have hs : (q1 == q) = false := other_q HPp.out HQ1.out hq
                  have hneq := fun W => neq58 W a b c' d e f g q q1 false hs
                  go_upto_region 12 with (first | (go_at_call 27; refine (event_is a b c' d e f g q p HPp.out _).mono ?_; rintro e w3 ⟨rfl, hb3⟩; have HB4 := Aside0.mk hb3; clear hb3))
                  have hsz := blk_size HB4.out
                  have g0 := blk_cells HB4.out 0
                  have g1 := blk_cells HB4.out 1
                  have g2 := blk_cells HB4.out 2
                  have g3 := blk_cells HB4.out 3
                  have g4 := blk_cells HB4.out 4
                  have g5 := blk_cells HB4.out 5
                  have g6 := blk_cells HB4.out 6
                  have g7 := blk_cells HB4.out 7
                  go_cut [58] (fun v58 wc => v58 = .bool true ∧ Aside0 (Below (w3.heap.size + 1) (w3.alloc (.cells #[.int .i64 a, .int .i64 b, .int .i64 c', .int .i64 d, .int .i64 e, .int .i64 f, .int .i64 g, .bool p] 48)) wc))
                  case first =>
                    go_region_with (go_at_call 24; refine (numbers_is a b c' d e f g p q1 HQ1.out _).mono ?_; rintro e w4 ⟨rfl, hb4⟩; have HB5 : Aside0 (Below (w3.heap.size + 1) (w3.alloc (.cells #[.int .i64 a, .int .i64 b, .int .i64 c', .int .i64 d, .int .i64 e, .int .i64 f, .int .i64 g, .bool p] 48)) w4) := (by first | exact ⟨below_b hb4⟩ | exact ⟨below_a hb4⟩); have k0 := blk_far HB5.out hsz g0; have k1 := blk_far HB5.out hsz g1; have k2 := blk_far HB5.out hsz g2; have k3 := blk_far HB5.out hsz g3; have k4 := blk_far HB5.out hsz g4; have k5 := blk_far HB5.out hsz g5; have k6 := blk_far HB5.out hsz g6; have k7 := blk_far HB5.out hsz g7; clear hb4)
                    all_goals (go_wp2; go_meet; case rel => exact ⟨rfl, HB5⟩)
                  case rest =>
                    obtain ⟨rfl, HB6⟩ := hcut
                    have HBc := Aside0.mk (below_chain HB4.out HB6.out)
                    have HBe := Aside0.mk ((HB2.out.trans (HB3.out.mono (below_size HB2.out))).trans (HBc.out.mono (by have := HB2.out.size; have := HB3.out.size; omega)))
                    have HST := Aside0.mk (evs_stop (r := r) HHP.out hq)
                    clear g0 g1 g2 g3 g4 g5 g6 g7 hx0 hxb hx2 hx3 hx4 hx5 hx6 hx7 hneq
                    go_wp2
                    go_ret2
                    exact parseRet_none HST.out rfl HBe.out
              · have hy0 : y = [] := List.eq_nil_of_length_eq_zero (by omega)
                have hP := HP.out
                have HBe := Aside0.mk (HB2.out.trans (HB3.out.mono (below_size HB2.out)))
                obtain ⟨A9, c9, rfl, hc9, hC9⟩ := Kd.R_reads HO.out
                have HC9 := Aside0.mk hC9
                have Hc9 := Aside0.mk hc9
                subst hy0
                have HPE : Aside0 (parse l = some acc) := ⟨by rw [hP]; simp [evs]⟩
                clear hP hC9 hc9
                go_wp2
                go_ret2
                exact ⟨HBe.out, .inr ⟨acc, A9, c9, HPE.out, rfl, HC9.out, Hc9.out⟩⟩
          · have hm1 : ((x.length : Int) % 8 == 0) = false := beq_eq_false_iff_ne.mpr (by omega)
            have hm2 : ((x.length : Int) % 8 != 0) = true := bne_iff_ne.mpr (by omega)
            have HF := Aside0.mk (parse_odd ho hg (fun h => hm h.2))
            clear ho hr hc hb hn hs hg hu1 hx hv1 hm
            go_enter Try.func10, Try.ntmps10
            go_wp2_with (first | (go_at_call 18; refine (wire_Open_some _ _ _ _ HR.out HC.out HY.out HN.out HO1.out).mono ?_; rintro e w1 ⟨A1, c1, rfl, hC1, hc1, hb1⟩; have HB1 := Aside0.mk hb1; clear hb1; have HCa := Aside0.mk hC1; clear hC1; have HC1 := Aside0.mk hc1; clear hc1) | (go_at_call 21; refine (wire_GetNums_some _ _ s _ HCa.out HC1.out HYs.out HNs.out HG.out).mono ?_; rintro e w2 ⟨A2, c2, rfl, hC2, hc2, hb2⟩; have HB2 := Aside0.mk (below_step HB1.out hb2); clear hb2; have HCb := Aside0.mk hC2; clear hC2; have HC2 := Aside0.mk hc2; clear hc2))
            go_ret2
            exact parseRet_none HF.out rfl HB2.out
        · have hv2 : ((v : Int) == (s.length : Int)) = false := beq_eq_false_iff_ne.mpr (by omega)
          have hv3 : ((v : Int) != (s.length : Int)) = true := bne_iff_ne.mpr (by omega)
          have hv4 : (v == s.length) = false := beq_eq_false_iff_ne.mpr hv
          have HF := Aside0.mk (parse_odd ho hg (fun h => hv h.1))
          clear ho hr hc hb hn hs hg hu1 hx hv
          go_enter Try.func10, Try.ntmps10
          go_wp2_with (first | (go_at_call 18; refine (wire_Open_some _ _ _ _ HR.out HC.out HY.out HN.out HO1.out).mono ?_; rintro e w1 ⟨A1, c1, rfl, hC1, hc1, hb1⟩; have HB1 := Aside0.mk hb1; clear hb1; have HCa := Aside0.mk hC1; clear hC1; have HC1 := Aside0.mk hc1; clear hc1) | (go_at_call 21; refine (wire_GetNums_some _ _ s _ HCa.out HC1.out HYs.out HNs.out HG.out).mono ?_; rintro e w2 ⟨A2, c2, rfl, hC2, hc2, hb2⟩; have HB2 := Aside0.mk (below_step HB1.out hb2); clear hb2; have HCb := Aside0.mk hC2; clear hC2; have HC2 := Aside0.mk hc2; clear hc2))
          go_ret2
          exact parseRet_none HF.out rfl HB2.out
    · have hu2 : ((u : Int) == (l.length : Int)) = false := beq_eq_false_iff_ne.mpr (by omega)
      have hu3 : ((u : Int) != (l.length : Int)) = true := bne_iff_ne.mpr (by omega)
      have hu4 : (u == l.length) = false := beq_eq_false_iff_ne.mpr hu
      have HF := Aside0.mk (parse_left ho hu)
      clear ho hr hc hb hn hs hu
      go_enter Try.func10, Try.ntmps10
      go_wp2_with (first | (go_at_call 18; refine (wire_Open_some _ _ _ _ HR.out HC.out HY.out HN.out HO1.out).mono ?_; rintro e w1 ⟨A1, c1, rfl, hC1, hc1, hb1⟩; have HB1 := Aside0.mk hb1; clear hb1; clear hC1; have HC1 := Aside0.mk hc1; clear hc1))
      go_ret2
      exact parseRet_none HF.out rfl HB1.out
end Go.Proofs.Ytiefonnhgjpbfaa.Tr
