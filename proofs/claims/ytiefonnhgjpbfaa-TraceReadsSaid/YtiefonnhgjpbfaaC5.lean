/- trace.numbers, trace.event and what each makes of events, walked. -/
import Derived.Test.YtiefonnhgjpbfaaC4
import Derived.Outline
namespace Go.Proofs.Ytiefonnhgjpbfaa.Tr
open Go.RowKit Go.Proofs.YtiefonnhgjpbfaaW.PrintWords Go.Proofs.YtiefonnhgjpbfaaW.PrintLast Go.Proofs.YtiefonnhgjpbfaaW.PrintMore
attribute [local go_sem] max2_int min2_int max_two min_two max_three min_three max_four min_four   -- for this text's walks alone
set_option linter.unusedVariables false
set_option linter.unusedSimpArgs false

set_option maxHeartbeats 8000000 in
set_option maxRecDepth 100000 in
theorem numbers_calls (a b c d e f g : Int) (p : Bool) (w : World) :
    Calls Try.prog 24 #[.agg #[.int .i64 a, .int .i64 b, .int .i64 c, .int .i64 d, .int .i64 e, .int .i64 f, .int .i64 g, .bool p]] w fun r w' => r = .returned (.agg #[.int .i64 a, .int .i64 b, .int .i64 c, .int .i64 d, .int .i64 e, .int .i64 f, .int .i64 g, .int .i64 (if p = true then 1 else 0)]) ∧ Below w.heap.size w w' := by
  have hu48 := Try.underlying48
  have hu44 := Try.underlying44
  have hu46 := Try.underlying46
  have hu58 := Try.underlying58
  cases p with
  | true =>
    go_enter Try.func24, Try.ntmps24
    go_wp2
    exact bodyPost_ret (v := .agg #[.int .i64 a, .int .i64 b, .int .i64 c, .int .i64 d, .int .i64 e, .int .i64 f, .int .i64 g, .int .i64 1]) (by simp [results, Try.results24, go_sem]) rfl ⟨rfl, below_alloc (below_alloc (below_alloc (Below.refl _ _) _) _) _⟩
  | false =>
    go_enter Try.func24, Try.ntmps24
    go_wp2
    exact bodyPost_ret (v := .agg #[.int .i64 a, .int .i64 b, .int .i64 c, .int .i64 d, .int .i64 e, .int .i64 f, .int .i64 g, .int .i64 0]) (by simp [results, Try.results24, go_sem]) rfl ⟨rfl, below_alloc (below_alloc (below_alloc (Below.refl _ _) _) _) _⟩
set_option maxHeartbeats 8000000 in
set_option maxRecDepth 100000 in
theorem event_calls (a b c d e f g h : Int) (w : World) :
    Calls Try.prog 27 #[.agg #[.int .i64 a, .int .i64 b, .int .i64 c, .int .i64 d, .int .i64 e, .int .i64 f, .int .i64 g, .int .i64 h]] w fun r w' => r = .returned (.agg #[.int .i64 a, .int .i64 b, .int .i64 c, .int .i64 d, .int .i64 e, .int .i64 f, .int .i64 g, .bool (h == 1)]) ∧ Below w.heap.size w w' := by
  have hu48 := Try.underlying48
  have hu44 := Try.underlying44
  have hu46 := Try.underlying46
  have hu58 := Try.underlying58
  go_enter Try.func27, Try.ntmps27
  go_wp2
  exact bodyPost_ret (v := .agg #[.int .i64 a, .int .i64 b, .int .i64 c, .int .i64 d, .int .i64 e, .int .i64 f, .int .i64 g, .bool (h == 1)]) (by simp [results, Try.results27, go_sem]) rfl ⟨rfl, below_alloc (below_alloc (Below.refl _ _) _) _⟩
set_option maxHeartbeats 8000000 in
set_option maxRecDepth 100000 in
theorem pick_calls (a b c d e f g : Int) (p : Bool) (w : World) :
    Calls Try.prog 31 #[.agg #[.int .i64 a, .int .i64 b, .int .i64 c, .int .i64 d, .int .i64 e, .int .i64 f, .int .i64 g, .bool p]] w fun r w' => r = .returned (.agg #[.int .i64 (if c = 0 then 3 else 1), .int .i64 a, .int .i64 0]) ∧ Below w.heap.size w w' := by
  have hu48 := Try.underlying48
  have hu44 := Try.underlying44
  have hu46 := Try.underlying46
  have hu55 := Try.underlying55
  by_cases hc : c = 0
  · have hc1 : (c == 0) = true := beq_iff_eq.mpr hc
    rw [if_pos hc]
    clear hc
    go_enter Try.func31, Try.ntmps31
    go_wp2
    exact bodyPost_ret (v := .agg #[.int .i64 3, .int .i64 a, .int .i64 0]) (by simp [results, Try.results31, go_sem]) rfl ⟨rfl, below_alloc (below_alloc (Below.refl _ _) _) _⟩
  · have hc1 : (c == 0) = false := beq_eq_false_iff_ne.mpr hc
    rw [if_neg hc]
    clear hc
    go_enter Try.func31, Try.ntmps31
    go_wp2
    exact bodyPost_ret (v := .agg #[.int .i64 1, .int .i64 a, .int .i64 0]) (by simp [results, Try.results31, go_sem]) rfl ⟨rfl, below_alloc (below_alloc (Below.refl _ _) _) _⟩
end Go.Proofs.Ytiefonnhgjpbfaa.Tr
