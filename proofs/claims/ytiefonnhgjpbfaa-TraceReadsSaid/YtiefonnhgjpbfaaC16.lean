/- The document's opening of a seal, walked. -/
import Derived.Test.YtiefonnhgjpbfaaC12
namespace Go.Proofs.Ytiefonnhgjpbfaa.Tr
open Go.RowKit Go.Proofs.YtiefonnhgjpbfaaW.PrintWords Go.Proofs.YtiefonnhgjpbfaaW.PrintLast Go.Proofs.YtiefonnhgjpbfaaW.PrintMore
attribute [local go_sem] max2_int min2_int max_two min_two max_three min_three max_four min_four   -- for this text's walks alone
set_option linter.unusedVariables false
set_option linter.unusedSimpArgs false

theorem refGet_some (A : Option Addr) (c : Nat) (l : List Int) (w : World) (hr : Kd.C (Kd.int .u8) w A l.length l) (hc : l.length ≤ c) (hb : Byt l) (hn : l.length ≤ 1000000000) {n : Int} {k : Nat} (h : get l = some (n, k)) :
    Calls Try.prog 40 #[.slice A l.length c] w fun e w' => e = .returned (.tuple #[.int .i64 n, .int .i64 (k : Int), .int .i64 0]) ∧ Below w.heap.size w w' :=
  underwoodref03_Get.calls 101 A c l n k 0 w hr hc (by rw [ref_Get_is l hb (by omega) 101 (by omega), gt_some h])
theorem refGet_none (A : Option Addr) (c : Nat) (l : List Int) (w : World) (hr : Kd.C (Kd.int .u8) w A l.length l) (hc : l.length ≤ c) (hb : Byt l) (hn : l.length ≤ 1000000000) (h : get l = none) :
    Calls Try.prog 40 #[.slice A l.length c] w fun e w' => e = .returned (.tuple #[.int .i64 0, .int .i64 0, .int .i64 3]) ∧ Below w.heap.size w w' :=
  underwoodref03_Get.calls 101 A c l 0 0 3 w hr hc (by rw [ref_Get_is l hb (by omega) 101 (by omega), gt_none h])
def OpnRet2 (W : World) (e : Ending) (w' : World) (o : Option (List Int × Nat)) : Prop :=
  Below W.heap.size W w' ∧ ((o = none ∧ e = .returned (.tuple #[.slice none 0 0, .int .i64 0, .int .i64 3])) ∨ ∃ (s : List Int) (k : Nat) (A : Option Addr) (c : Nat), o = some (s, k) ∧ e = .returned (.tuple #[.slice A s.length c, .int .i64 (k : Int), .int .i64 0]) ∧ Kd.C (Kd.int .u8) w' A s.length s ∧ s.length ≤ c)
set_option maxHeartbeats 8000000 in
set_option maxRecDepth 100000 in
theorem refOpen_calls (A : Option Addr) (c : Nat) (l : List Int) (w : World) (hr : Kd.C (Kd.int .u8) w A l.length l) (hc : l.length ≤ c) (hb : Byt l) (hn : l.length ≤ 1000000) :
    Calls Try.prog 32 #[.slice A l.length c] w fun e w' => OpnRet2 w e w' (opn l) := by
  have HR := Aside0.mk hr
  have HC := Aside0.mk hc
  have HY := Aside0.mk hb
  have HN : Aside0 (l.length ≤ 1000000000) := ⟨by omega⟩
  have HB := Aside0.mk (Below.refl w.heap.size w)
  rw [opn_text]
  unfold text
  cases hg : get l with
  | none =>
    have HG := Aside0.mk hg
    clear hg hr hc hb hn
    go_enter Try.func32, Try.ntmps32
    go_wp2_with (first | ((with_reducible refine gate_callee (f := 40) rfl ?_); refine goesL_ (some 13) rfl rfl Try.func40 (by kernel_rfl) rfl #[.slice A l.length c] rfl (by (try simp only [List.map_toArray, List.map_cons, List.map_nil]); first | done | rfl | (simp only [List.length_drop, List.length_take]; rfl)) ?_; (with_reducible refine (refGet_none _ _ l _ HR.out HC.out HY.out HN.out HG.out).mono ?_); rintro e w13 ⟨rfl, hb⟩; refine ⟨_, rfl, ?_⟩; have m1_ := Aside0.mk (below_step (by repeat (first | (with_reducible first | exact HB.out | apply below_alloc | apply pw_below_drewN | apply below_drew1) | exact HB.out)) hb); clear HB; have HB := m1_; clear m1_; clear hb))
    go_ret3
    exact ⟨(by repeat (first | (with_reducible first | exact HB.out | apply below_alloc | apply pw_below_drewN | apply below_drew1) | exact HB.out)), .inl ⟨rfl, rfl⟩⟩
  | some p =>
    obtain ⟨n, k⟩ := p
    have hlen := get_len hg
    have hi := (get_some hg).1
    unfold I64 at hi
    obtain ⟨hi0, hi1⟩ := hi
    simp only
    have hk0 : 0 < k := hlen.1
    have hk1 : (k : Int) ≤ (l.length : Int) := by omega
    have hl1 : (l.length : Int) ≤ 1000000000 := by omega
    by_cases hc2 : 0 ≤ n ∧ n ≤ (l.length : Int) - (k : Int)
    · rw [if_pos hc2]
      obtain ⟨m, rfl⟩ := Int.eq_ofNat_of_zero_le hc2.1
      simp only [Int.toNat_natCast]
      have hm : (m : Int) ≤ (l.length : Int) - (k : Int) := hc2.2
      have hc3 : (l.length : Int) ≤ (c : Int) := by omega
      obtain ⟨q, hq⟩ : ∃ q : Nat, (k : Int) + (m : Int) = (q : Int) := ⟨k + m, by omega⟩
      have hqe : k + m = q := by omega
      rw [hqe]
      have hq1 : (q : Int) ≤ (l.length : Int) := by omega
      have hkq : (k : Int) ≤ (q : Int) := by omega
      obtain ⟨i0, hi0', _, hsz, _⟩ := info_parts info5
      obtain ⟨A1, hcut, hA1, hC1⟩ := print_mid_of (P := Try.prog) (Value.int .u8) 0 24 5 .i64 .i64 Try.underlying24 hi0' hsz A c l (k : Int) (q : Int) (by omega) (by omega) (by omega) hc
      obtain ⟨s, hs⟩ : ∃ s, (l.take q).drop k = s := ⟨_, rfl⟩
      have e1 : ((q : Int)).toNat = q := by omega
      have e2 : ((k : Int)).toNat = k := by omega
      rw [e1, e2, hs] at hcut hC1
      rw [e1, e2, hs] at hA1
      rw [hs]
      have hsl : s.length ≤ l.length := by rw [← hs]; simp; omega
      have HR1 : Aside0 (Kd.C (Kd.int .u8) w A1 s.length s) := ⟨Kd.C_of_reads (h1 := fun _ => rfl) (hA1 _ (Kd.reads_of_C hr))⟩
      have HC1 := Aside0.mk hC1
      have HS : Aside0 (Byt s) := ⟨by rw [← hs]; exact byt_drop (byt_take hb _) _⟩
      have HSum : Aside0 (underwoodref03_Sum.f (s.length + 1) s = some (sum s)) := ⟨ref_Sum_is s HS.out (by omega) _ (by omega)⟩
      obtain ⟨A2, hcut2, hA2, hC2⟩ := cut_of (A := A) (c := c) (l := l) q (by omega) hc
      have HR2 := Aside0.mk (hA2 _ hr)
      have HC2 := Aside0.mk hC2
      have HY2 := Aside0.mk (byt_drop hb q)
      have HN2 : Aside0 ((l.drop q).length ≤ 1000000000) := ⟨by simp; omega⟩
      have HG := Aside0.mk hg
      have hq2 : (q : Int) ≤ (c : Int) := by omega
      cases hg2 : get (l.drop q) with
      | none =>
        have HG2 := Aside0.mk hg2
        clear hg hr hc hb hn hlen hc2 hi0' hsz hA1 hC1 e1 e2 hs hA2 hC2 hqe hg2 hsl
        go_enter Try.func32, Try.ntmps32
        go_wp2_with (first | ((with_reducible refine gate_callee (f := 40) rfl ?_); refine goesL_ (some 13) rfl rfl Try.func40 (by kernel_rfl) rfl #[.slice A l.length c] rfl (by (try simp only [List.map_toArray, List.map_cons, List.map_nil]); first | done | rfl | (simp only [List.length_drop, List.length_take]; rfl)) ?_; (with_reducible refine (refGet_some _ _ l _ HR.out HC.out HY.out HN.out HG.out).mono ?_); rintro e w13 ⟨rfl, hb⟩; refine ⟨_, rfl, ?_⟩; (first | (with_reducible have e0_ := Aside0.mk (Kd.C_below HR1.out hb)) | (with_reducible have e0_ := Aside0.mk (Kd.C_below (Kd.C_drewN HR1.out _) hb)) | (with_reducible have e0_ := Aside0.mk (Kd.C_below (Kd.C_alloc HR1.out _) hb)) | (with_reducible have e0_ := Aside0.mk (Kd.C_below (Kd.C_drewN (Kd.C_alloc HR1.out _) _) hb)) | (with_reducible have e0_ := Aside0.mk (Kd.C_below (Kd.C_alloc (Kd.C_drewN HR1.out _) _) hb)) | (with_reducible have e0_ := Aside0.mk (Kd.C_below (Kd.C_drewN (Kd.C_drewN HR1.out _) _) hb))); (first | (with_reducible have e1_ := Aside0.mk (Kd.C_below HR2.out hb)) | (with_reducible have e1_ := Aside0.mk (Kd.C_below (Kd.C_drewN HR2.out _) hb)) | (with_reducible have e1_ := Aside0.mk (Kd.C_below (Kd.C_alloc HR2.out _) hb)) | (with_reducible have e1_ := Aside0.mk (Kd.C_below (Kd.C_drewN (Kd.C_alloc HR2.out _) _) hb)) | (with_reducible have e1_ := Aside0.mk (Kd.C_below (Kd.C_alloc (Kd.C_drewN HR2.out _) _) hb)) | (with_reducible have e1_ := Aside0.mk (Kd.C_below (Kd.C_drewN (Kd.C_drewN HR2.out _) _) hb))); have m1_ := Aside0.mk (below_step (by repeat (first | (with_reducible first | exact HB.out | apply below_alloc | apply pw_below_drewN | apply below_drew1) | exact HB.out)) hb); clear HB; have HB := m1_; clear m1_; clear HR1; have HR1 := e0_; clear e0_; clear HR2; have HR2 := e1_; clear e1_; clear hb) | ((with_reducible refine gate_callee (f := 40) rfl ?_); refine goesL_ (some 37) rfl rfl Try.func40 (by kernel_rfl) rfl #[.slice A2 (l.drop q).length (c - q)] rfl (by (try simp only [List.map_toArray, List.map_cons, List.map_nil]); first | done | rfl | (simp only [List.length_drop, List.length_take]; rfl)) ?_; (with_reducible refine (refGet_none _ _ (l.drop q) _ HR2.out HC2.out HY2.out HN2.out HG2.out).mono ?_); rintro e w37 ⟨rfl, hb⟩; refine ⟨_, rfl, ?_⟩; (first | (with_reducible have e0_ := Aside0.mk (Kd.C_below HR1.out hb)) | (with_reducible have e0_ := Aside0.mk (Kd.C_below (Kd.C_drewN HR1.out _) hb)) | (with_reducible have e0_ := Aside0.mk (Kd.C_below (Kd.C_alloc HR1.out _) hb)) | (with_reducible have e0_ := Aside0.mk (Kd.C_below (Kd.C_drewN (Kd.C_alloc HR1.out _) _) hb)) | (with_reducible have e0_ := Aside0.mk (Kd.C_below (Kd.C_alloc (Kd.C_drewN HR1.out _) _) hb)) | (with_reducible have e0_ := Aside0.mk (Kd.C_below (Kd.C_drewN (Kd.C_drewN HR1.out _) _) hb))); have m1_ := Aside0.mk (below_step (by repeat (first | (with_reducible first | exact HB.out | apply below_alloc | apply pw_below_drewN | apply below_drew1) | exact HB.out)) hb); clear HB; have HB := m1_; clear m1_; clear HR1; have HR1 := e0_; clear e0_; clear hb))
        go_ret3
        exact ⟨(by repeat (first | (with_reducible first | exact HB.out | apply below_alloc | apply pw_below_drewN | apply below_drew1) | exact HB.out)), .inl ⟨rfl, rfl⟩⟩
      | some p =>
        obtain ⟨x, u⟩ := p
        have hu := get_len hg2
        have hu1 : (u : Int) ≤ (l.length : Int) := by have := hu.2; simp at this; omega
        obtain ⟨K, hK⟩ : ∃ K : Nat, (q : Int) + (u : Int) = (K : Int) := ⟨q + u, by omega⟩
        have hKe : q + u = K := by omega
        have HG2 := Aside0.mk hg2
        simp only
        rw [hKe]
        by_cases he : x = sum s
        · rw [if_pos he]
          have hne1 : (x == sum s) = true := beq_iff_eq.mpr he
          have hne2 : (x != sum s) = false := bne_eq_false_iff_eq.mpr he
          clear hg hr hc hb hn hlen hc2 hi0' hsz hA1 hC1 e1 e2 hs hA2 hC2 hqe hg2 hsl hu he hKe
          go_enter Try.func32, Try.ntmps32
          go_wp2_with (first | ((with_reducible refine gate_callee (f := 40) rfl ?_); refine goesL_ (some 13) rfl rfl Try.func40 (by kernel_rfl) rfl #[.slice A l.length c] rfl (by (try simp only [List.map_toArray, List.map_cons, List.map_nil]); first | done | rfl | (simp only [List.length_drop, List.length_take]; rfl)) ?_; (with_reducible refine (refGet_some _ _ l _ HR.out HC.out HY.out HN.out HG.out).mono ?_); rintro e w13 ⟨rfl, hb⟩; refine ⟨_, rfl, ?_⟩; (first | (with_reducible have e0_ := Aside0.mk (Kd.C_below HR1.out hb)) | (with_reducible have e0_ := Aside0.mk (Kd.C_below (Kd.C_drewN HR1.out _) hb)) | (with_reducible have e0_ := Aside0.mk (Kd.C_below (Kd.C_alloc HR1.out _) hb)) | (with_reducible have e0_ := Aside0.mk (Kd.C_below (Kd.C_drewN (Kd.C_alloc HR1.out _) _) hb)) | (with_reducible have e0_ := Aside0.mk (Kd.C_below (Kd.C_alloc (Kd.C_drewN HR1.out _) _) hb)) | (with_reducible have e0_ := Aside0.mk (Kd.C_below (Kd.C_drewN (Kd.C_drewN HR1.out _) _) hb))); (first | (with_reducible have e1_ := Aside0.mk (Kd.C_below HR2.out hb)) | (with_reducible have e1_ := Aside0.mk (Kd.C_below (Kd.C_drewN HR2.out _) hb)) | (with_reducible have e1_ := Aside0.mk (Kd.C_below (Kd.C_alloc HR2.out _) hb)) | (with_reducible have e1_ := Aside0.mk (Kd.C_below (Kd.C_drewN (Kd.C_alloc HR2.out _) _) hb)) | (with_reducible have e1_ := Aside0.mk (Kd.C_below (Kd.C_alloc (Kd.C_drewN HR2.out _) _) hb)) | (with_reducible have e1_ := Aside0.mk (Kd.C_below (Kd.C_drewN (Kd.C_drewN HR2.out _) _) hb))); have m1_ := Aside0.mk (below_step (by repeat (first | (with_reducible first | exact HB.out | apply below_alloc | apply pw_below_drewN | apply below_drew1) | exact HB.out)) hb); clear HB; have HB := m1_; clear m1_; clear HR1; have HR1 := e0_; clear e0_; clear HR2; have HR2 := e1_; clear e1_; clear hb) | ((with_reducible refine gate_callee (f := 40) rfl ?_); refine goesL_ (some 37) rfl rfl Try.func40 (by kernel_rfl) rfl #[.slice A2 (l.drop q).length (c - q)] rfl (by (try simp only [List.map_toArray, List.map_cons, List.map_nil]); first | done | rfl | (simp only [List.length_drop, List.length_take]; rfl)) ?_; (with_reducible refine (refGet_some _ _ (l.drop q) _ HR2.out HC2.out HY2.out HN2.out HG2.out).mono ?_); rintro e w37 ⟨rfl, hb⟩; refine ⟨_, rfl, ?_⟩; (first | (with_reducible have e0_ := Aside0.mk (Kd.C_below HR1.out hb)) | (with_reducible have e0_ := Aside0.mk (Kd.C_below (Kd.C_drewN HR1.out _) hb)) | (with_reducible have e0_ := Aside0.mk (Kd.C_below (Kd.C_alloc HR1.out _) hb)) | (with_reducible have e0_ := Aside0.mk (Kd.C_below (Kd.C_drewN (Kd.C_alloc HR1.out _) _) hb)) | (with_reducible have e0_ := Aside0.mk (Kd.C_below (Kd.C_alloc (Kd.C_drewN HR1.out _) _) hb)) | (with_reducible have e0_ := Aside0.mk (Kd.C_below (Kd.C_drewN (Kd.C_drewN HR1.out _) _) hb))); have m1_ := Aside0.mk (below_step (by repeat (first | (with_reducible first | exact HB.out | apply below_alloc | apply pw_below_drewN | apply below_drew1) | exact HB.out)) hb); clear HB; have HB := m1_; clear m1_; clear HR1; have HR1 := e0_; clear e0_; clear hb) | (go_at_call 39; refine (underwoodref03_Sum.calls (s.length + 1) _ _ s (sum s) _ ?s1 HC1.out HSum.out).mono ?_; (case s1 => exact (by (with_reducible repeat (first | exact HR1.out | refine Kd.C_alloc ?_ _ | refine Kd.C_drewN ?_ _ | refine Kd.C_drew ?_)); done)); rintro e w' ⟨rfl, ⟨nd, rfl⟩⟩))
          go_ret3
          exact ⟨(by repeat (first | (with_reducible first | exact HB.out | apply below_alloc | apply pw_below_drewN | apply below_drew1) | exact HB.out)), .inr ⟨s, K, A1, c - k, rfl, rfl, (by (with_reducible repeat (first | exact HR1.out | refine Kd.C_alloc ?_ _ | refine Kd.C_drewN ?_ _ | refine Kd.C_drew ?_)); done), HC1.out⟩⟩
        · rw [if_neg he]
          have hne1 : (x == sum s) = false := beq_eq_false_iff_ne.mpr he
          have hne2 : (x != sum s) = true := bne_iff_ne.mpr he
          clear hg hr hc hb hn hlen hc2 hi0' hsz hA1 hC1 e1 e2 hs hA2 hC2 hqe hg2 hsl hu he hKe
          go_enter Try.func32, Try.ntmps32
          go_wp2_with (first | ((with_reducible refine gate_callee (f := 40) rfl ?_); refine goesL_ (some 13) rfl rfl Try.func40 (by kernel_rfl) rfl #[.slice A l.length c] rfl (by (try simp only [List.map_toArray, List.map_cons, List.map_nil]); first | done | rfl | (simp only [List.length_drop, List.length_take]; rfl)) ?_; (with_reducible refine (refGet_some _ _ l _ HR.out HC.out HY.out HN.out HG.out).mono ?_); rintro e w13 ⟨rfl, hb⟩; refine ⟨_, rfl, ?_⟩; (first | (with_reducible have e0_ := Aside0.mk (Kd.C_below HR1.out hb)) | (with_reducible have e0_ := Aside0.mk (Kd.C_below (Kd.C_drewN HR1.out _) hb)) | (with_reducible have e0_ := Aside0.mk (Kd.C_below (Kd.C_alloc HR1.out _) hb)) | (with_reducible have e0_ := Aside0.mk (Kd.C_below (Kd.C_drewN (Kd.C_alloc HR1.out _) _) hb)) | (with_reducible have e0_ := Aside0.mk (Kd.C_below (Kd.C_alloc (Kd.C_drewN HR1.out _) _) hb)) | (with_reducible have e0_ := Aside0.mk (Kd.C_below (Kd.C_drewN (Kd.C_drewN HR1.out _) _) hb))); (first | (with_reducible have e1_ := Aside0.mk (Kd.C_below HR2.out hb)) | (with_reducible have e1_ := Aside0.mk (Kd.C_below (Kd.C_drewN HR2.out _) hb)) | (with_reducible have e1_ := Aside0.mk (Kd.C_below (Kd.C_alloc HR2.out _) hb)) | (with_reducible have e1_ := Aside0.mk (Kd.C_below (Kd.C_drewN (Kd.C_alloc HR2.out _) _) hb)) | (with_reducible have e1_ := Aside0.mk (Kd.C_below (Kd.C_alloc (Kd.C_drewN HR2.out _) _) hb)) | (with_reducible have e1_ := Aside0.mk (Kd.C_below (Kd.C_drewN (Kd.C_drewN HR2.out _) _) hb))); have m1_ := Aside0.mk (below_step (by repeat (first | (with_reducible first | exact HB.out | apply below_alloc | apply pw_below_drewN | apply below_drew1) | exact HB.out)) hb); clear HB; have HB := m1_; clear m1_; clear HR1; have HR1 := e0_; clear e0_; clear HR2; have HR2 := e1_; clear e1_; clear hb) | ((with_reducible refine gate_callee (f := 40) rfl ?_); refine goesL_ (some 37) rfl rfl Try.func40 (by kernel_rfl) rfl #[.slice A2 (l.drop q).length (c - q)] rfl (by (try simp only [List.map_toArray, List.map_cons, List.map_nil]); first | done | rfl | (simp only [List.length_drop, List.length_take]; rfl)) ?_; (with_reducible refine (refGet_some _ _ (l.drop q) _ HR2.out HC2.out HY2.out HN2.out HG2.out).mono ?_); rintro e w37 ⟨rfl, hb⟩; refine ⟨_, rfl, ?_⟩; (first | (with_reducible have e0_ := Aside0.mk (Kd.C_below HR1.out hb)) | (with_reducible have e0_ := Aside0.mk (Kd.C_below (Kd.C_drewN HR1.out _) hb)) | (with_reducible have e0_ := Aside0.mk (Kd.C_below (Kd.C_alloc HR1.out _) hb)) | (with_reducible have e0_ := Aside0.mk (Kd.C_below (Kd.C_drewN (Kd.C_alloc HR1.out _) _) hb)) | (with_reducible have e0_ := Aside0.mk (Kd.C_below (Kd.C_alloc (Kd.C_drewN HR1.out _) _) hb)) | (with_reducible have e0_ := Aside0.mk (Kd.C_below (Kd.C_drewN (Kd.C_drewN HR1.out _) _) hb))); have m1_ := Aside0.mk (below_step (by repeat (first | (with_reducible first | exact HB.out | apply below_alloc | apply pw_below_drewN | apply below_drew1) | exact HB.out)) hb); clear HB; have HB := m1_; clear m1_; clear HR1; have HR1 := e0_; clear e0_; clear hb) | (go_at_call 39; refine (underwoodref03_Sum.calls (s.length + 1) _ _ s (sum s) _ ?s1 HC1.out HSum.out).mono ?_; (case s1 => exact (by (with_reducible repeat (first | exact HR1.out | refine Kd.C_alloc ?_ _ | refine Kd.C_drewN ?_ _ | refine Kd.C_drew ?_)); done)); rintro e w' ⟨rfl, ⟨nd, rfl⟩⟩))
          go_ret3
          exact ⟨(by repeat (first | (with_reducible first | exact HB.out | apply below_alloc | apply pw_below_drewN | apply below_drew1) | exact HB.out)), .inl ⟨rfl, rfl⟩⟩
    · rw [if_neg hc2]
      have HG := Aside0.mk hg
      clear hg hr hc hb hn hlen
      by_cases h0 : n < 0
      · clear hc2
        go_enter Try.func32, Try.ntmps32
        go_wp2_with (first | ((with_reducible refine gate_callee (f := 40) rfl ?_); refine goesL_ (some 13) rfl rfl Try.func40 (by kernel_rfl) rfl #[.slice A l.length c] rfl (by (try simp only [List.map_toArray, List.map_cons, List.map_nil]); first | done | rfl | (simp only [List.length_drop, List.length_take]; rfl)) ?_; (with_reducible refine (refGet_some _ _ l _ HR.out HC.out HY.out HN.out HG.out).mono ?_); rintro e w13 ⟨rfl, hb⟩; refine ⟨_, rfl, ?_⟩; have m1_ := Aside0.mk (below_step (by repeat (first | (with_reducible first | exact HB.out | apply below_alloc | apply pw_below_drewN | apply below_drew1) | exact HB.out)) hb); clear HB; have HB := m1_; clear m1_; clear hb))
        go_ret3
        exact ⟨(by repeat (first | (with_reducible first | exact HB.out | apply below_alloc | apply pw_below_drewN | apply below_drew1) | exact HB.out)), .inl ⟨rfl, rfl⟩⟩
      · have h1 : (l.length : Int) - (k : Int) < n := by omega
        clear hc2
        go_enter Try.func32, Try.ntmps32
        go_wp2_with (first | ((with_reducible refine gate_callee (f := 40) rfl ?_); refine goesL_ (some 13) rfl rfl Try.func40 (by kernel_rfl) rfl #[.slice A l.length c] rfl (by (try simp only [List.map_toArray, List.map_cons, List.map_nil]); first | done | rfl | (simp only [List.length_drop, List.length_take]; rfl)) ?_; (with_reducible refine (refGet_some _ _ l _ HR.out HC.out HY.out HN.out HG.out).mono ?_); rintro e w13 ⟨rfl, hb⟩; refine ⟨_, rfl, ?_⟩; have m1_ := Aside0.mk (below_step (by repeat (first | (with_reducible first | exact HB.out | apply below_alloc | apply pw_below_drewN | apply below_drew1) | exact HB.out)) hb); clear HB; have HB := m1_; clear m1_; clear hb))
        go_ret3
        exact ⟨(by repeat (first | (with_reducible first | exact HB.out | apply below_alloc | apply pw_below_drewN | apply below_drew1) | exact HB.out)), .inl ⟨rfl, rfl⟩⟩
end Go.Proofs.Ytiefonnhgjpbfaa.Tr
