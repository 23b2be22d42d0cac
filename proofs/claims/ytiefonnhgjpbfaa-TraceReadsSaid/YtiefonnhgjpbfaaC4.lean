/- wire.GetNums and the closures that it reads by, walked. -/
import Derived.Test.YtiefonnhgjpbfaaC3
namespace Go.Proofs.Ytiefonnhgjpbfaa.Tr
open Go.RowKit Go.Proofs.YtiefonnhgjpbfaaW.PrintWords Go.Proofs.YtiefonnhgjpbfaaW.PrintLast Go.Proofs.YtiefonnhgjpbfaaW.PrintMore
attribute [local go_sem] max2_int min2_int max_two min_two max_three min_three max_four min_four   -- for this text's walks alone
set_option linter.unusedVariables false
set_option linter.unusedSimpArgs false

/-- One variable of its own block has another value; all else is as it was. -/
structure Told1 (w w' : World) (b : Nat) (t : TypeId) (u : Value) : Prop where
  new : w'.heap[b]? = some (.cells #[u] t (0, 0))
  size : w'.heap.size = w.heap.size
  os : w'.os = w.os
  tape : w'.tape = w.tape
  output : w'.output = w.output
  other : ∀ k, k ≠ b → w'.heap[k]? = w.heap[k]?
theorem told_set {w : World} {b : Nat} {v u : Value} {t : TypeId} (h : w.heap[b]? = some (.cells #[v] t (0, 0))) (n m : Nat) : Told1 w (((w.drewN n).setCell ⟨b, 0, none⟩ u).drewN m) b t u := by
  refine ⟨one_setCell h, ?_, rfl, rfl, rfl, fun k hk => Below.heap_setCell w ⟨b, 0, none⟩ u k hk⟩
  show (w.heap.modify b _).size = _
  simp
theorem Told1.below {w w' : World} {b : Nat} {t : TypeId} {u : Value} (h : Told1 w w' b t u) {B : Nat} (hB : B ≤ b) : Below B w w' := ⟨h.os, h.tape, h.output, by rw [h.size]; exact Nat.le_refl _, fun k hk => h.other k (by omega)⟩
theorem Told1.row {α : Type} {d : Kd α} {e base : Nat} {v : Value} {xs : List α} {w w' : World} {b : Nat} {t : TypeId} {u : Value} (h : Told1 w w' b t u) (hr : d.R e w base (fun _ => True) v xs) (hb : b < base) : d.R e w' base (fun _ => True) v xs :=
  Kd.R_mono (Kd.R_step (Kd.R_mono (Kd.R_bound hr) (ok' := fun k => base ≤ k) (fun k hk => hk.2.1)) (fun k hk _ => h.other k (by omega))) (fun _ _ => trivial)
theorem Told1.then {W w w' : World} {b : Nat} {t : TypeId} {u : Value} (h : Told1 w w' b t u) {B : Nat} (hB : B ≤ b) (h0 : Below B W w) : Below B W w' := h0.trans (h.below hB)

set_option maxHeartbeats 8000000 in
set_option maxRecDepth 100000 in
theorem reader1_none (Bb Ba : Nat) (A : Option Addr) (c : Nat) (l : List Int) (w : World) (q : Nat) (hB : w.heap[Bb]? = some (.cells #[.slice A l.length c] 24 (0, 0))) (hA : w.heap[Ba]? = some (.cells #[.int .i64 (q : Int)] 3 (0, 0)))
    (hr : Kd.C (Kd.int .u8) w A l.length l) (hc : l.length ≤ c) (hb : Byt l) (hn : l.length ≤ 1000000000) (hq : q ≤ l.length) (h : get (l.drop q) = none) :
    Calls Try.prog 41 #[.pointer (some ⟨Bb, 0, none⟩), .pointer (some ⟨Ba, 0, none⟩)] w fun e w' => e = .returned (.tuple #[.int .i64 0, .bool false]) ∧ Told1 w w' Ba 3 (.int .i64 (q : Int)) := by
  have HA := Aside0.mk hA
  have hcb := cell_of_one hB
  have hca := cell_of_one hA
  have hfa := free_of_one hA
  obtain ⟨A1, hcut, hA1, hC1⟩ := cut_of (A := A) (c := c) (l := l) q hq hc
  have HR1 := Aside0.mk (hA1 _ hr)
  have HC1 := Aside0.mk hC1
  have HY1 := Aside0.mk (byt_drop hb q)
  have HN1 : Aside0 ((l.drop q).length ≤ 1000000000) := ⟨by simp; omega⟩
  have hl1 : (l.length : Int) ≤ 1000000000 := by omega
  have hq1 : (q : Int) ≤ (l.length : Int) := by omega
  have HG := Aside0.mk h
  clear hA hB hr hc hb hn hq h hA1 hC1
  go_enter Try.func41, Try.ntmps41
  go_wp2_with (first | ((with_reducible refine gate_callee (f := 35) rfl ?_); refine goesL_ (some 11) rfl rfl Try.func35 (by kernel_rfl) rfl #[.slice A1 (l.drop q).length (c - q)] rfl (by (try simp only [List.map_toArray, List.map_cons, List.map_nil]); first | done | rfl | (simp only [List.length_drop, List.length_take]; rfl)) ?_; (with_reducible refine (wire_Get_none _ _ (l.drop q) _ ?side1 HC1.out HY1.out HN1.out HG.out).mono ?_); (case side1 => repeat (first | exact HR1.out | exact (Kd.C_below HR1.out HB.out) | (with_reducible refine Kd.C_alloc ?_ _) | (with_reducible refine Kd.C_drewN ?_ _) | (with_reducible refine Kd.C_drew ?_))); rintro e w' ⟨rfl, ⟨nd, rfl⟩⟩; refine ⟨_, rfl, ?_⟩))
  go_ret2
  exact ⟨rfl, told_set HA.out _ 0⟩
set_option maxHeartbeats 8000000 in
set_option maxRecDepth 100000 in
theorem reader1_some (Bb Ba : Nat) (A : Option Addr) (c : Nat) (l : List Int) (w : World) (q : Nat) (hB : w.heap[Bb]? = some (.cells #[.slice A l.length c] 24 (0, 0))) (hA : w.heap[Ba]? = some (.cells #[.int .i64 (q : Int)] 3 (0, 0)))
    (hr : Kd.C (Kd.int .u8) w A l.length l) (hc : l.length ≤ c) (hb : Byt l) (hn : l.length ≤ 1000000000) (hq : q ≤ l.length) {n : Int} {k : Nat} (h : get (l.drop q) = some (n, k)) :
    Calls Try.prog 41 #[.pointer (some ⟨Bb, 0, none⟩), .pointer (some ⟨Ba, 0, none⟩)] w fun e w' => e = .returned (.tuple #[.int .i64 n, .bool true]) ∧ Told1 w w' Ba 3 (.int .i64 ((q + k : Nat) : Int)) := by
  have HA := Aside0.mk hA
  have hcb := cell_of_one hB
  have hca := cell_of_one hA
  have hfa := free_of_one hA
  obtain ⟨A1, hcut, hA1, hC1⟩ := cut_of (A := A) (c := c) (l := l) q hq hc
  have HR1 := Aside0.mk (hA1 _ hr)
  have HC1 := Aside0.mk hC1
  have HY1 := Aside0.mk (byt_drop hb q)
  have HN1 : Aside0 ((l.drop q).length ≤ 1000000000) := ⟨by simp; omega⟩
  have hl1 : (l.length : Int) ≤ 1000000000 := by omega
  have hq1 : (q : Int) ≤ (l.length : Int) := by omega
  have hu := get_len h
  have hu1 : (k : Int) ≤ (l.length : Int) := by have := hu.2; simp at this; omega
  have HK : Aside0 ((q : Int) + (k : Int) = ((q + k : Nat) : Int)) := ⟨by omega⟩
  have HG := Aside0.mk h
  clear hA hB hr hc hb hn hq h hA1 hC1 hu
  go_enter Try.func41, Try.ntmps41
  go_wp2_with (first | ((with_reducible refine gate_callee (f := 35) rfl ?_); refine goesL_ (some 11) rfl rfl Try.func35 (by kernel_rfl) rfl #[.slice A1 (l.drop q).length (c - q)] rfl (by (try simp only [List.map_toArray, List.map_cons, List.map_nil]); first | done | rfl | (simp only [List.length_drop, List.length_take]; rfl)) ?_; (with_reducible refine (wire_Get_some _ _ (l.drop q) _ ?side1 HC1.out HY1.out HN1.out HG.out).mono ?_); (case side1 => repeat (first | exact HR1.out | exact (Kd.C_below HR1.out HB.out) | (with_reducible refine Kd.C_alloc ?_ _) | (with_reducible refine Kd.C_drewN ?_ _) | (with_reducible refine Kd.C_drew ?_))); rintro e w' ⟨rfl, ⟨nd, rfl⟩⟩; refine ⟨_, rfl, ?_⟩))
  go_ret2
  exact ⟨rfl, by rw [← HK.out]; exact told_set HA.out _ 0⟩
set_option maxHeartbeats 8000000 in
theorem reader2_calls (Ba : Nat) (w : World) (x : Int) (hA : w.heap[Ba]? = some (.cells #[.int .i64 x] 3 (0, 0))) :
    Calls Try.prog 42 #[.pointer (some ⟨Ba, 0, none⟩)] w fun e w' => e = .returned (.int .i64 x) ∧ Drawn0 w w' := by
  have hca := cell_of_one hA
  clear hA
  go_enter Try.func42, Try.ntmps42
  go_wp2
  go_ret
  exact ⟨rfl, ⟨⟨0, rfl⟩⟩⟩

def fnNext (B : Nat) : Value := .func (.func 41) #[] #[.pointer (some ⟨B, 0, none⟩), .pointer (some ⟨B + 1, 0, none⟩)]
def fnUpto (B : Nat) : Value := .func (.func 42) #[] #[.pointer (some ⟨B + 1, 0, none⟩)]
set_option maxHeartbeats 8000000 in
theorem reader_calls (A : Option Addr) (c n : Nat) (w : World) :
    Calls Try.prog 37 #[.slice A n c] w fun e w' => e = .returned (.tuple #[.func (.func 41) #[] #[.pointer (some ⟨w.heap.size, 0, none⟩), .pointer (some ⟨w.heap.size + 1, 0, none⟩)], .func (.func 42) #[] #[.pointer (some ⟨w.heap.size + 1, 0, none⟩)]]) ∧
      w' = (w.alloc (.cells #[.slice A n c] 24)).alloc (.cells #[.int .i64 0] 3) := by
  have hmf : ∀ (fn : Fn) (first cap : Array Value) (w : World), (Instr.makeFunc fn first cap).run Try.prog w = .ok (.func fn first cap) w := fun _ _ _ _ => rfl
  go_enter Try.func37, Try.ntmps37
  go_wp2
  go_ret2
  exact ⟨rfl, rfl⟩
def NumsRet (W : World) (r : Option (List Int × Nat)) (e : Ending) (w' : World) : Prop :=
  Below W.heap.size W w' ∧ ((r = none ∧ e = .returned (.tuple #[.slice none 0 0, .int .i64 0, .int .i64 3])) ∨
    ∃ (x : List Int) (u : Nat) (A : Option Addr) (c : Nat), r = some (x, u) ∧ e = .returned (.tuple #[.slice A x.length c, .int .i64 (u : Int), .int .i64 0]) ∧ Kd.C (Kd.int .i64) w' A x.length x ∧ x.length ≤ c)
theorem numsRet_none {W w' : World} {e : Ending} {r : Option (List Int × Nat)} (hr : r = none) (h : e = .returned (.tuple #[.slice none 0 0, .int .i64 0, .int .i64 3])) (hb : Below W.heap.size W w') : NumsRet W r e w' := ⟨hb, .inl ⟨hr, h⟩⟩
theorem getNums_neg {l : List Int} {m : Int} {a : Nat} (h : get l = some (m, a)) (h0 : m < 0) : getNums l = none := by
  unfold getNums; rw [h]; simp only; rw [if_neg (by omega)]
theorem getNums_many {l : List Int} {m : Int} {a : Nat} (h : get l = some (m, a)) (h0 : (l.length : Int) < m) : getNums l = none := by
  unfold getNums; rw [h]; simp only; rw [if_pos (by omega), getn_none_long _ _ (by simp; omega)]; rfl
theorem getNums_no {l : List Int} (h : get l = none) : getNums l = none := by
  unfold getNums; rw [h]
theorem getNums_at {l : List Int} {m a : Nat} (h : get l = some ((m : Int), a)) : getNums l = (getn m (l.drop a)).map fun p => (([] : List Int) ++ p.1, a + p.2) := by
  unfold getNums; rw [h]; simp
theorem getNums_step {l acc : List Int} {r q k : Nat} {n : Int} (h : getNums l = (getn (r + 1) (l.drop q)).map fun p => (acc ++ p.1, q + p.2)) (hg : get (l.drop q) = some (n, k)) :
    getNums l = (getn r (l.drop (q + k))).map fun p => ((acc ++ [n]) ++ p.1, (q + k) + p.2) := by
  rw [h, getn, hg]
  simp only [Option.map_map, List.drop_drop]
  refine congrArg (fun F => Option.map F (getn r (l.drop (q + k)))) (funext fun p => ?_)
  simp [Function.comp, Nat.add_assoc]
theorem getNums_stop {l acc : List Int} {r q : Nat} (h : getNums l = (getn (r + 1) (l.drop q)).map fun p => (acc ++ p.1, q + p.2)) (hg : get (l.drop q) = none) : getNums l = none := by
  rw [h, getn, hg]; rfl
theorem getNums_end {l acc : List Int} {q : Nat} (h : getNums l = (getn 0 (l.drop q)).map fun p => (acc ++ p.1, q + p.2)) : getNums l = some (acc, q) := by
  rw [h]; simp [getn]
set_option maxHeartbeats 16000000 in
set_option maxRecDepth 100000 in
theorem wire_GetNums_calls (A : Option Addr) (c : Nat) (l : List Int) (w : World) (hr : Kd.C (Kd.int .u8) w A l.length l) (hc : l.length ≤ c) (hb : Byt l) (hn : l.length ≤ 1000000000) :
    Calls Try.prog 21 #[.slice A l.length c] w (NumsRet w (getNums l)) := by
  have HR := Aside0.mk hr
  have HC := Aside0.mk hc
  have HY := Aside0.mk hb
  have HN := Aside0.mk hn
  have HR0 := Aside0.mk (Kd.C_alloc (Kd.C_alloc hr (.cells #[.slice A l.length c] 24)) (.cells #[.int .i64 0] 3))
  have HB0 : Aside0 (((w.alloc (.cells #[.slice A l.length c] 24)).alloc (.cells #[.int .i64 0] 3)).heap[w.heap.size]? = some (.cells #[.slice A l.length c] 24 (0, 0))) := ⟨by
    show ((w.heap.push _).push _)[w.heap.size]? = _
    simp [Array.getElem?_push]⟩
  have HA0 : Aside0 (((w.alloc (.cells #[.slice A l.length c] 24)).alloc (.cells #[.int .i64 0] 3)).heap[w.heap.size + 1]? = some (.cells #[.int .i64 ((0 : Nat) : Int)] 3 (0, 0))) := ⟨by
    show ((w.heap.push _).push _)[w.heap.size + 1]? = _
    rw [Array.getElem?_push, if_pos (by simp)]
    rfl⟩
  have HBl : Aside0 (Below w.heap.size w ((w.alloc (.cells #[.slice A l.length c] 24)).alloc (.cells #[.int .i64 0] 3))) := ⟨below_alloc (below_alloc (Below.refl _ _) _) _⟩
  cases hg : get l with
  | none =>
    have HG := Aside0.mk (show get (l.drop 0) = none from by simpa using hg)
    have HF := Aside0.mk (getNums_no hg)
    clear hg hr hc hb hn
    go_enter Try.func21, Try.ntmps21
    go_wp2_with (first | (go_at_call 37; refine (reader_calls _ _ _ _).mono ?_; rintro e w' ⟨rfl, rfl⟩) | (go_at_call 41; refine (reader1_none _ _ A c l _ 0 HB0.out HA0.out HR0.out HC.out HY.out HN.out (Nat.zero_le _) HG.out).mono ?_; rintro e w2 ⟨rfl, ht⟩; have HT := Aside0.mk ht; clear ht))
    go_ret3
    exact numsRet_none HF.out rfl (HT.out.then (Nat.le_succ _) HBl.out)
  | some p =>
    obtain ⟨m, a⟩ := p
    have HG := Aside0.mk (show get (l.drop 0) = some (m, a) from by simpa using hg)
    have hl1 : (l.length : Int) ≤ 1000000000 := by omega
    by_cases h0 : m < 0
    · have HF := Aside0.mk (getNums_neg hg h0)
      clear hg hr hc hb hn
      go_enter Try.func21, Try.ntmps21
      go_wp2_with (first | (go_at_call 37; refine (reader_calls _ _ _ _).mono ?_; rintro e w' ⟨rfl, rfl⟩) | (go_at_call 41; refine (reader1_some _ _ A c l _ 0 HB0.out HA0.out HR0.out HC.out HY.out HN.out (Nat.zero_le _) HG.out).mono ?_; rintro e w2 ⟨rfl, ht⟩; have HT := Aside0.mk ht; clear ht))
      go_ret3
      exact numsRet_none HF.out rfl (HT.out.then (Nat.le_succ _) HBl.out)
    · by_cases h1 : (l.length : Int) < m
      · have HF := Aside0.mk (getNums_many hg h1)
        clear hg hr hc hb hn
        go_enter Try.func21, Try.ntmps21
        go_wp2_with (first | (go_at_call 37; refine (reader_calls _ _ _ _).mono ?_; rintro e w' ⟨rfl, rfl⟩) | (go_at_call 41; refine (reader1_some _ _ A c l _ 0 HB0.out HA0.out HR0.out HC.out HY.out HN.out (Nat.zero_le _) HG.out).mono ?_; rintro e w2 ⟨rfl, ht⟩; have HT := Aside0.mk ht; clear ht))
        go_ret3
        exact numsRet_none HF.out rfl (HT.out.then (Nat.le_succ _) HBl.out)
      · obtain ⟨M, rfl⟩ := Int.eq_ofNat_of_zero_le (show 0 ≤ m from by omega)
        have HF := Aside0.mk (getNums_at hg)
        have HM : Aside0 (M ≤ l.length) := ⟨by omega⟩
        have hd1 : decide ((M : Int) < 0) = false := decide_eq_false (by omega)
        have hd2 : decide (l.length < M) = false := decide_eq_false (by omega)
        have HAa : Aside0 (a ≤ l.length) := ⟨(get_len hg).2⟩
        clear hg hr hc hb hn
        go_enter Try.func21, Try.ntmps21
        go_wp2_with (first | (go_at_call 37; refine (reader_calls _ _ _ _).mono ?_; rintro e w' ⟨rfl, rfl⟩) | (go_at_call 41; refine (reader1_some _ _ A c l _ 0 HB0.out HA0.out HR0.out HC.out HY.out HN.out (Nat.zero_le _) HG.out).mono ?_; rintro e w2 ⟨rfl, ht⟩; have HT := Aside0.mk ht; clear ht))
        go_loopg [9, 35] (M + 1) (fun kq v9 v35 w' => ∃ (j q : Nat) (acc : List Int), v35 = .int .i64 (j : Int) ∧ (j : Int) ≤ (M : Int) ∧ Aside0 (kq + j = M + 1) ∧ Aside0 (q ≤ l.length) ∧ Aside0 (acc.length = j) ∧ Aside0 (getNums l = (getn (M - j) (l.drop q)).map fun p => (acc ++ p.1, q + p.2)) ∧
          Aside0 (w'.heap[w.heap.size]? = some (.cells #[.slice A l.length c] 24 (0, 0))) ∧ Aside0 (w'.heap[w.heap.size + 1]? = some (.cells #[.int .i64 (q : Int)] 3 (0, 0))) ∧ Aside0 (w.heap.size + 2 ≤ w'.heap.size) ∧
          Aside0 (Kd.R (Kd.int .i64) 3 w' (w.heap.size + 2) (fun _ => True) v9 acc) ∧ Aside0 (Below w.heap.size w w'))
        case atStart =>
          have hM := HM.out
          exact ⟨0, a, [], rfl, by omega, ⟨rfl⟩, HAa, ⟨rfl⟩, ⟨HF.out⟩, ⟨(HT.out.other _ (by omega)).trans HB0.out⟩, ⟨by have := HT.out.new; rwa [Nat.zero_add] at this⟩, ⟨by rw [HT.out.size]; show _ ≤ ((w.heap.push _).push _).size; simp⟩, ⟨Kd.R_nil _ _ _ _ _⟩, ⟨HT.out.then (Nat.le_succ _) HBl.out⟩⟩
        case round =>
          clear HT HB0 HA0 HR0 HBl HG HF HAa
          obtain ⟨j, q, acc, rfl, hj, HK, HQ, HL, HE, HCb, HCa, HSz, HO, HB⟩ := hrel
          by_cases h : (j : Int) < (M : Int)
          · obtain ⟨r, hr⟩ : ∃ r, M - j = r + 1 := ⟨M - j - 1, by omega⟩
            have HE1 := HE.out
            rw [hr] at HE1
            cases hg2 : get (l.drop q) with
            | none =>
              have HG2 := Aside0.mk hg2
              have HF2 := Aside0.mk (getNums_stop HE1 hg2)
              clear HE1 hg2 hr
              go_wp2_with (first | (go_at_call 41; refine (reader1_none _ _ A c l _ q HCb.out HCa.out (Kd.C_below HR.out HB.out) HC.out HY.out HN.out HQ.out HG2.out).mono ?_; rintro e w3 ⟨rfl, ht⟩; have HT2 := Aside0.mk ht; clear ht))
              go_ret3
              exact numsRet_none HF2.out rfl (HT2.out.then (Nat.le_succ _) HB.out)
            | some p =>
              obtain ⟨n, k⟩ := p
              have HG2 := Aside0.mk hg2
              have HF2 := Aside0.mk (getNums_step HE1 hg2)
              have HQ2 : Aside0 (q + k ≤ l.length) := ⟨by have := (get_len hg2).2; have := HQ.out; simp at *; omega⟩
              have HR2 : Aside0 (M - (j + 1) = r) := ⟨by omega⟩
              clear HE1 hg2 hr
              go_wp2_with (first | (go_at_call 41; refine (reader1_some _ _ A c l _ q HCb.out HCa.out (Kd.C_below HR.out HB.out) HC.out HY.out HN.out HQ.out HG2.out).mono ?_; rintro e w3 ⟨rfl, ht⟩; have HT2 := Aside0.mk ht; clear ht; have HO2 := Aside0.mk (HT2.out.row HO.out (Nat.lt_succ_self _))) | ((with_reducible refine gate_builtin (b := .append) (xs := #[.tmp 44, .tmp 46]) rfl ?_); at_builtin; refine Kd.R_append (Kd.int .i64) (w0 := w3) (w.heap.size + 2) rfl (.tmp 44) (.tmp 46) 50 3 (.int .i64 0) 8 rfl Try.underlying50 info3 rfl (by decide) (by omega) u9 acc n [.int .i64 n] (fun _ => True) (fun _ => False) rfl rfl ?aP (fun _ hk => hk.elim) ?aF ?aO ?aB ?aS ?aL ?_; (case aP => exact rfl); (case aB => exact Below.refl _ _); (case aF => exact (fun _ _ => trivial)); (case aO => exact HO2.out); (case aS => rw [HT2.out.size]; exact HSz.out); (case aL => have := HL.out; have := HM.out; omega); intro v1 w4 ho hb hg hat; have HO3 := Aside0.mk ho; have HB3 := Aside0.mk hb; clear ho hb hg hat))
              go_roundg (gk - 1)
              case measure => have := HK.out; omega
              case rel =>
                have hB3 := HB3.out
                have hT2 := HT2.out
                have hS := HSz.out
                exact ⟨j + 1, q + k, acc ++ [n], by go_num, by omega, ⟨by have := HK.out; omega⟩, HQ2, ⟨by have := HL.out; simp; omega⟩, ⟨by rw [HR2.out]; exact HF2.out⟩, ⟨(hB3.block _ (by omega)).trans ((hT2.other _ (by omega)).trans HCb.out)⟩, ⟨(hB3.block _ (by omega)).trans hT2.new⟩, ⟨by have := hB3.size; have := hT2.size; omega⟩, HO3, ⟨(hT2.then (Nat.le_succ _) HB.out).trans (hB3.mono (by omega))⟩⟩
          · obtain rfl : j = M := by omega
            have HE1 := HE.out
            rw [Nat.sub_self] at HE1
            have HF2 := Aside0.mk (getNums_end HE1)
            obtain ⟨A9, c9, rfl, hc9, hC9⟩ := Kd.R_reads HO.out
            have HC9 := Aside0.mk hC9
            have Hc9 := Aside0.mk hc9
            clear HE1 hC9 hc9
            go_wp2_with (first | (go_at_call 42; refine (reader2_calls _ _ _ HCa.out).mono ?_; rintro e w3 ⟨rfl, ⟨nd, rfl⟩⟩))
            go_ret3
            exact ⟨(by repeat (first | (with_reducible first | exact HB.out | apply below_alloc | apply pw_below_drewN | apply below_drew1) | exact HB.out)), .inr ⟨acc, q, A9, c9, HF2.out, rfl, Kd.C_drewN HC9.out _, Hc9.out⟩⟩
end Go.Proofs.Ytiefonnhgjpbfaa.Tr
