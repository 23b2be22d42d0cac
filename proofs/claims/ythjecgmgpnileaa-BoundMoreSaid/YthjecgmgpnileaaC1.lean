/- The labels' small functions, walked: above, tight, has, what Right asks of each. -/
import Derived.Test.YthjecgmgpnileaaL
import Derived.Test.YthjecgmgpnileaaA
import Derived.Outline
namespace Go.Proofs.Ythjecgmgpnileaa.Bd
open Go.RowKit Go.Proofs.YthjecgmgpnileaaW.PrintWords Go.Proofs.YthjecgmgpnileaaW.PrintLast Go.Proofs.YthjecgmgpnileaaW.PrintMore
attribute [local go_sem] max2_int min2_int max_two min_two max_three min_three max_four min_four   -- for this text's walks alone
set_option linter.unusedVariables false
set_option linter.unusedSimpArgs false

theorem ret_int {k : IntKind} {a b : Int} (h : a = b) : Ending.returned (.int k a) = .returned (.int k b) := by rw [h]
theorem ret_bool {a b : Bool} (h : a = b) : Ending.returned (.bool a) = .returned (.bool b) := by rw [h]
theorem rd_at0 (l : List Int) (i : Int) : rd l i = at0 l i := rfl
theorem rd_get (l : List Int) (i : Nat) (h : i < l.length) : rd l (i : Int) = l[i] := by
  unfold rd
  rw [Int.toNat_natCast, List.getD_eq_getElem?_getD, List.getElem?_eq_getElem h]
  rfl
theorem ab_take (l : List Int) (a : Int) (i : Nat) (h : i < l.length) (p : Int × Bool) : (l.take (i + 1)).foldl (abStep a) p = abStep a ((l.take i).foldl (abStep a) p) (rd l (i : Int)) := by
  rw [rd_get l i h, List.take_succ_eq_append_getElem h, List.foldl_append]
  rfl
theorem abs_no1 {a x b : Int} {f : Bool} (h : ¬ a < x) : abStep a (b, f) x = (b, f) := by unfold abStep; rw [if_neg (fun k => h k.1)]
theorem abs_no2 {a x b : Int} (h : ¬ x < b) : abStep a (b, true) x = (b, true) := by unfold abStep; rw [if_neg (fun k => k.2.elim (fun e => nomatch e) h)]
theorem abs_yes1 {a x b : Int} (h : a < x) : abStep a (b, false) x = (x, true) := by unfold abStep; rw [if_pos ⟨h, .inl rfl⟩]
theorem abs_yes2 {a x b : Int} (h : a < x) (k : x < b) : abStep a (b, true) x = (x, true) := by unfold abStep; rw [if_pos ⟨h, .inr k⟩]
set_option maxHeartbeats 4000000 in
set_option maxRecDepth 100000 in
theorem above_calls (A : Option Addr) (c : Nat) (l : List Int) (a : Int) (w : World) (hr : Kd.C (Kd.int .i64) w A l.length l) (hn : l.length ≤ 1000) (h0 : 0 ≤ a) (h1 : a ≤ 2199023255552) :
    Calls Try.prog 38 #[.slice A l.length c, .int .i64 a] w fun e w' => e = .returned (.int .i64 (above l a)) ∧ w' = w := by
  have HR := Aside0.mk hr
  have hm : (l.length : Int) ≤ 1000 := by omega
  clear hr hn
  go_enter Try.func38, Try.ntmps38
  go_wp2
  go_loopg [5, 6, 13] (l.length + 1) (fun kq v5 v6 v13 w' => ∃ (i : Nat) (b : Int) (f : Bool), v5 = .int .i64 b ∧ v6 = .bool f ∧ v13 = .int .i64 (i : Int) ∧ (i : Int) ≤ (l.length : Int) ∧ Aside0 (kq + i = l.length + 1) ∧ Aside0 ((l.take i).foldl (abStep a) (a + 2097152, false) = (b, f)) ∧ w' = w)
  case atStart => exact ⟨0, a + 2097152, false, by first | rfl | go_num, rfl, rfl, by omega, ⟨rfl⟩, ⟨rfl⟩, rfl⟩
  case round =>
    obtain ⟨i, b, f, rfl, rfl, rfl, hi, HK, HF, rfl⟩ := hrel
    by_cases h : (i : Int) < (l.length : Int)
    · obtain ⟨ad, ea, hx⟩ := Kd.at_int HR.out (i : Int) (by omega) h
      cases ea
      rw [Int.toNat_natCast] at hx
      have hT := ab_take l a i (by omega) (a + 2097152, false)
      rw [HF.out] at hT
      generalize rd l (i : Int) = x at hx hT
      by_cases c1 : a < x
      · cases f with
        | false =>
          rw [abs_yes1 c1] at hT
          have HT := Aside0.mk hT
          clear hT
          go_wp2
          go_roundg (gk - 1)
          case measure => have := HK.out; omega
          case rel => exact ⟨i + 1, x, true, rfl, rfl, by go_num, by omega, ⟨by have := HK.out; omega⟩, HT, rfl⟩
        | true =>
          by_cases c2 : x < b
          · rw [abs_yes2 c1 c2] at hT
            have HT := Aside0.mk hT
            clear hT
            go_wp2
            go_roundg (gk - 1)
            case measure => have := HK.out; omega
            case rel => exact ⟨i + 1, x, true, rfl, rfl, by go_num, by omega, ⟨by have := HK.out; omega⟩, HT, rfl⟩
          · rw [abs_no2 c2] at hT
            have HT := Aside0.mk hT
            clear hT
            go_wp2
            go_roundg (gk - 1)
            case measure => have := HK.out; omega
            case rel => exact ⟨i + 1, b, true, rfl, rfl, by go_num, by omega, ⟨by have := HK.out; omega⟩, HT, rfl⟩
      · rw [abs_no1 c1] at hT
        have HT := Aside0.mk hT
        clear hT
        go_wp2
        go_roundg (gk - 1)
        case measure => have := HK.out; omega
        case rel => exact ⟨i + 1, b, f, rfl, rfl, by go_num, by omega, ⟨by have := HK.out; omega⟩, HT, rfl⟩
    · have e : l.take i = l := List.take_of_length_le (by omega)
      have hF := HF.out
      rw [e] at hF
      have HE : Aside0 (above l a = b) := ⟨by unfold above; rw [hF]⟩
      clear hF e
      go_wp2
      go_ret
      exact ⟨by first | exact ret_int HE.out.symm | rfl, rfl⟩
set_option maxHeartbeats 4000000 in
set_option maxRecDepth 100000 in
theorem tight_calls (A : Option Addr) (c : Nat) (l : List Int) (a : Int) (w : World) (hr : Kd.C (Kd.int .i64) w A l.length l) (hn : l.length ≤ 1000) (h0 : 0 ≤ a) (h1 : a ≤ 2199023255552) :
    Calls Try.prog 37 #[.slice A l.length c, .int .i64 a] w fun e w' => e = .returned (.bool (tight l a)) ∧ w' = w := by
  have HR := Aside0.mk hr
  have HN := Aside0.mk hn
  have HT : Aside0 (tight l a = (decide (above l a = a + 1) || decide (1099511627776 < above l a))) := ⟨by unfold tight; rw [Bool.decide_or]⟩
  clear hr hn
  generalize hb : above l a = b at HT
  have HB := Aside0.mk hb
  clear hb
  by_cases c1 : b = a + 1
  · have e1 : (b == a + 1) = true := beq_iff_eq.mpr c1
    have HT' : Aside0 (tight l a = true) := ⟨by rw [HT.out, decide_eq_true c1]; rfl⟩
    go_enter Try.func37, Try.ntmps37
    go_wp2_with (go_at_call 38; refine (above_calls _ _ l a _ HR.out HN.out h0 h1).mono ?_; rw [HB.out]; rintro e w' ⟨rfl, rfl⟩)
    go_ret
    exact ⟨by first | exact ret_bool HT'.out.symm | rfl, rfl⟩
  · have e1 : (b == a + 1) = false := beq_eq_false_iff_ne.mpr c1
    by_cases c2 : 1099511627776 < b
    · have HT' : Aside0 (tight l a = true) := ⟨by rw [HT.out, decide_eq_true c2, Bool.or_true]⟩
      go_enter Try.func37, Try.ntmps37
      go_wp2_with (go_at_call 38; refine (above_calls _ _ l a _ HR.out HN.out h0 h1).mono ?_; rw [HB.out]; rintro e w' ⟨rfl, rfl⟩)
      go_ret
      exact ⟨by first | exact ret_bool HT'.out.symm | rfl, rfl⟩
    · have HT' : Aside0 (tight l a = false) := ⟨by rw [HT.out, decide_eq_false c2, decide_eq_false c1]; rfl⟩
      have e2 : decide (1099511627776 < b) = false := decide_eq_false c2
      go_enter Try.func37, Try.ntmps37
      go_wp2_with (go_at_call 38; refine (above_calls _ _ l a _ HR.out HN.out h0 h1).mono ?_; rw [HB.out]; rintro e w' ⟨rfl, rfl⟩)
      go_ret
      exact ⟨by first | exact ret_bool HT'.out.symm | rfl, rfl⟩
set_option maxHeartbeats 4000000 in
theorem has_calls (A : Option Addr) (c n : Nat) (x : Int) (w : World) (h0 : 0 ≤ x) (h1 : x < (n : Int)) :
    Calls Try.prog 35 #[.slice A n c, .int .i64 x] w fun e w' => e = .returned (.bool true) ∧ w' = w := by
  go_enter Try.func35, Try.ntmps35
  go_wp2
  go_ret
  exact ⟨rfl, rfl⟩
set_option maxHeartbeats 4000000 in
theorem right1_calls (x : Int) (w : World) : Calls Try.prog 42 #[.int .i64 x] w fun e w' => e = .returned (.bool (decide (x < 0) || decide (1099511627776 < x))) ∧ w' = w := by
  by_cases c1 : x < 0
  · have HT : Aside0 ((decide (x < 0) || decide (1099511627776 < x)) = true) := ⟨by simp [c1]⟩
    go_enter Try.func42, Try.ntmps42
    go_wp2
    go_ret
    exact ⟨by first | exact ret_bool HT.out.symm | rfl, rfl⟩
  · by_cases c2 : 1099511627776 < x
    · have HT : Aside0 ((decide (x < 0) || decide (1099511627776 < x)) = true) := ⟨by simp [c2]⟩
      go_enter Try.func42, Try.ntmps42
      go_wp2
      go_ret
      exact ⟨by first | exact ret_bool HT.out.symm | rfl, rfl⟩
    · have HT : Aside0 ((decide (x < 0) || decide (1099511627776 < x)) = false) := ⟨by simp [c1, c2]⟩
      go_enter Try.func42, Try.ntmps42
      go_wp2
      go_ret
      exact ⟨by first | exact ret_bool HT.out.symm | rfl, rfl⟩
end Go.Proofs.Ythjecgmgpnileaa.Bd
