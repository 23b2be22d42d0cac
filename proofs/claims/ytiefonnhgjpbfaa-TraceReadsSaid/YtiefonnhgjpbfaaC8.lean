/- What trace.Parse needs: eight numbers compared, and events out of numbers. -/
import Derived.Test.YtiefonnhgjpbfaaC7
import Derived.ChangeKeysEq
namespace Go.Proofs.Ytiefonnhgjpbfaa.Tr
open Go.RowKit Go.Proofs.YtiefonnhgjpbfaaW.PrintWords Go.Proofs.YtiefonnhgjpbfaaW.PrintLast Go.Proofs.YtiefonnhgjpbfaaW.PrintMore
attribute [local go_sem] max2_int min2_int max_two min_two max_three min_three max_four min_four   -- for this text's walks alone
set_option linter.unusedVariables false
set_option linter.unusedSimpArgs false

theorem eqi_cons {P : Program} {d : Nat} {e : TypeId} {c : Nat} {xs ys : Array Value} {i : Nat} {is : List Nat} {a b : Value} {r s : Bool} {w : World} (ha : (part e xs (i * c)).run P w = .ok a w) (hb : (part e ys (i * c)).run P w = .ok b w)
    (he : (Op.equalIn d e a b).run P w = .ok r w) (hr : (Op.eqItems d e c xs ys is).run P w = .ok s w) : (Op.eqItems d e c xs ys (i :: is)).run P w = .ok (r && s) w := by
  rw [Op.eqItems]
  simp only [Sem.run_bind, ha, hb, he, Result.andThen_ok]
  cases r
  · simp
  · simpa using hr
theorem eqi_nil {P : Program} {d : Nat} {e : TypeId} {c : Nat} {xs ys : Array Value} {w : World} : (Op.eqItems d e c xs ys []).run P w = .ok true w := by simp [Op.eqItems]
theorem eqA58 (d : Nat) (w : World) (x0 x1 x2 x3 x4 x5 x6 x7 y0 y1 y2 y3 y4 y5 y6 y7 : Int) :
    (Op.equalIn (d + 2) 58 (.agg #[.int .i64 x0, .int .i64 x1, .int .i64 x2, .int .i64 x3, .int .i64 x4, .int .i64 x5, .int .i64 x6, .int .i64 x7]) (.agg #[.int .i64 y0, .int .i64 y1, .int .i64 y2, .int .i64 y3, .int .i64 y4, .int .i64 y5, .int .i64 y6, .int .i64 y7])).run Try.prog w
      = .ok (x0 == y0 && (x1 == y1 && (x2 == y2 && (x3 == y3 && (x4 == y4 && (x5 == y5 && (x6 == y6 && (x7 == y7)))))))) w := by
  obtain ⟨i0, hi0, _, hsz, _⟩ := info_parts info3
  rw [run_equalIn_array (P := Try.prog) w (d + 1) _ _ Try.underlying58 hi0]
  have hc : Try.prog.cellsOf 3 = 1 := by kernel_rfl
  rw [hc, show List.range 8 = [0, 1, 2, 3, 4, 5, 6, 7] from rfl]
  refine eqi_cons (by go_simp; rfl) (by go_simp; rfl) (by go_simp) ?_
  refine eqi_cons (by go_simp; rfl) (by go_simp; rfl) (by go_simp) ?_
  refine eqi_cons (by go_simp; rfl) (by go_simp; rfl) (by go_simp) ?_
  refine eqi_cons (by go_simp; rfl) (by go_simp; rfl) (by go_simp) ?_
  refine eqi_cons (by go_simp; rfl) (by go_simp; rfl) (by go_simp) ?_
  refine eqi_cons (by go_simp; rfl) (by go_simp; rfl) (by go_simp) ?_
  refine eqi_cons (by go_simp; rfl) (by go_simp; rfl) (by go_simp) ?_
  rw [show (x7 == y7) = ((x7 == y7) && true) from by simp]
  exact eqi_cons (by go_simp; rfl) (by go_simp; rfl) (by go_simp) eqi_nil
theorem guard58 : Try.prog.eqGuardType Try.prog.depth 58 = false := by kernel_rfl
/-- Eight numbers against those of their event: as the eighth ones are. -/
theorem neq58 (w : World) (a b c d e f g h q : Int) (s : Bool) (hs : (q == h) = s) :
    (binOp .neq 58 (.agg #[.int .i64 a, .int .i64 b, .int .i64 c, .int .i64 d, .int .i64 e, .int .i64 f, .int .i64 g, .int .i64 q]) (.agg #[.int .i64 a, .int .i64 b, .int .i64 c, .int .i64 d, .int .i64 e, .int .i64 f, .int .i64 g, .int .i64 h])).run Try.prog w = .ok (.bool (!s)) w := by
  rw [run_neq_struct, eqA58 9998]
  simp [hs, Result.andThen]

def evs : Nat → List Int → Option (List S48)
  | 0, [] => some []
  | 0, _ :: _ => none
  | k + 1, a :: b :: c :: d :: e :: f :: g :: h :: r => if h = 0 ∨ h = 1 then (evs k r).map fun l => (⟨a, b, ⟨c, d, e, f⟩, ⟨g, h == 1⟩⟩ : S48) :: l else none
  | _ + 1, _ => none
def parse (b : List Int) : Option (List S48) :=
  match opn b with
  | some (s, u) =>
    if u = b.length then
      match getNums s with
      | some (x, v) => if v = s.length ∧ x.length % 8 = 0 then evs (x.length / 8) x else none
      | none => none
    else none
  | none => none
theorem evs_all8 (l : List S48) : evs l.length (all8 l) = some l := by
  induction l with
  | nil => rfl
  | cons x l ih =>
    obtain ⟨a, b, ⟨c, d, e, f⟩, ⟨g, p⟩⟩ := x
    have : all8 (⟨a, b, ⟨c, d, e, f⟩, ⟨g, p⟩⟩ :: l) = a :: b :: c :: d :: e :: f :: g :: (if p = true then 1 else 0) :: all8 l := rfl
    rw [this, List.length_cons, evs]
    cases p <;> simp [ih]
theorem evs_some {k : Nat} {x : List Int} {l : List S48} (h : evs k x = some l) : l.length = k ∧ all8 l = x := by
  induction k generalizing x l with
  | zero =>
    cases x with
    | nil => simp only [evs, Option.some.injEq] at h; subst h; exact ⟨rfl, rfl⟩
    | cons a x => simp [evs] at h
  | succ k ih =>
    match x, h with
    | a :: b :: c :: d :: e :: f :: g :: q :: r, h =>
      rw [evs] at h
      split at h
      · rename_i hq
        simp only [Option.map_eq_some_iff] at h
        obtain ⟨l', h1, rfl⟩ := h
        obtain ⟨h2, h3⟩ := ih h1
        refine ⟨by simp [h2], ?_⟩
        have : all8 ((⟨a, b, ⟨c, d, e, f⟩, ⟨g, q == 1⟩⟩ : S48) :: l') = a :: b :: c :: d :: e :: f :: g :: (if (q == 1) = true then 1 else 0) :: all8 l' := rfl
        rw [this, h3]
        rcases hq with rfl | rfl <;> rfl
      · cases h
    | [], h => simp [evs] at h
    | [_], h => simp [evs] at h
    | [_, _], h => simp [evs] at h
    | [_, _, _], h => simp [evs] at h
    | [_, _, _, _], h => simp [evs] at h
    | [_, _, _, _, _], h => simp [evs] at h
    | [_, _, _, _, _, _], h => simp [evs] at h
    | [_, _, _, _, _, _, _], h => simp [evs] at h
theorem parse_bytes {l : List S48} (hl : ∀ x ∈ l, EvOk x) (hn : l.length ≤ 1000000) : parse (bytesE l) = some l := by
  unfold parse bytesE
  have h8 := all8_len l
  have hN := nums_len (all8 l)
  have h1 := opn_sel (b := nums (all8 l)) (by omega) []
  rw [List.append_nil] at h1
  rw [h1]
  simp only [if_true]
  have h2 := getNums_nums (l := all8 l) (by omega) (all8_i64 hl) []
  rw [List.append_nil] at h2
  rw [h2]
  simp only
  rw [if_pos ⟨by trivial, by omega⟩, h8, Nat.mul_div_cancel_left _ (by omega)]
  exact evs_all8 l
theorem parse_some {b : List Int} {l : List S48} (h : parse b = some l) : b = bytesE l ∧ ∀ x ∈ l, EvOk x := by
  unfold parse at h
  split at h
  · rename_i s u ho
    split at h
    · rename_i hu
      split at h
      · rename_i x v hg
        split at h
        · rename_i hv
          obtain ⟨r, hb, hk⟩ := opn_some ho
          obtain ⟨hx, hv2, r2, hs⟩ := getNums_some hg
          obtain ⟨h1, h2⟩ := evs_some h
          have hr : r = [] := by
            have := congrArg List.length hb
            simp only [List.length_append] at this
            exact List.eq_nil_of_length_eq_zero (by omega)
          have hr2 : r2 = [] := by
            have := congrArg List.length hs
            simp only [List.length_append] at this
            exact List.eq_nil_of_length_eq_zero (by omega)
          subst hr hr2
          rw [List.append_nil] at hb hs
          refine ⟨?_, ?_⟩
          · unfold bytesE; rw [h2, ← hs]; exact hb
          · intro y hy n hn
            refine hx n ?_
            rw [← h2]
            unfold all8
            rw [List.mem_flatMap]
            exact ⟨y, hy, hn⟩
        · cases h
      · cases h
    · cases h
  · cases h
/-- The loop's step: what is behind eight numbers. -/
theorem evs_step {x : List Int} {acc : List S48} {k : Nat} {a b c d e f g q : Int} {r : List Int} {l : Option (List S48)} (h : l = (evs (k + 1) (a :: b :: c :: d :: e :: f :: g :: q :: r)).map fun y => acc ++ y) (hq : q = 0 ∨ q = 1) :
    l = (evs k r).map fun y => (acc ++ [(⟨a, b, ⟨c, d, e, f⟩, ⟨g, q == 1⟩⟩ : S48)]) ++ y := by
  rw [h, evs, if_pos hq, Option.map_map]
  refine congrArg (fun F => Option.map F (evs k r)) (funext fun p => ?_)
  simp [Function.comp]
theorem evs_stop {acc : List S48} {k : Nat} {a b c d e f g q : Int} {r : List Int} {l : Option (List S48)} (h : l = (evs (k + 1) (a :: b :: c :: d :: e :: f :: g :: q :: r)).map fun y => acc ++ y) (hq : ¬ (q = 0 ∨ q = 1)) : l = none := by
  rw [h, evs, if_neg hq]; rfl

theorem event_is (a b c d e f g h : Int) (p : Bool) (hp : (h == 1) = p) (w : World) :
    Calls Try.prog 27 #[.agg #[.int .i64 a, .int .i64 b, .int .i64 c, .int .i64 d, .int .i64 e, .int .i64 f, .int .i64 g, .int .i64 h]] w fun r w' => r = .returned (.agg #[.int .i64 a, .int .i64 b, .int .i64 c, .int .i64 d, .int .i64 e, .int .i64 f, .int .i64 g, .bool p]) ∧ Below w.heap.size w w' := by
  subst hp
  exact event_calls a b c d e f g h w
theorem numbers_is (a b c d e f g : Int) (p : Bool) (q : Int) (hq : (if p = true then 1 else 0) = q) (w : World) :
    Calls Try.prog 24 #[.agg #[.int .i64 a, .int .i64 b, .int .i64 c, .int .i64 d, .int .i64 e, .int .i64 f, .int .i64 g, .bool p]] w fun r w' => r = .returned (.agg #[.int .i64 a, .int .i64 b, .int .i64 c, .int .i64 d, .int .i64 e, .int .i64 f, .int .i64 g, .int .i64 q]) ∧ Below w.heap.size w w' := by
  subst hq
  exact numbers_calls a b c d e f g p w
end Go.Proofs.Ytiefonnhgjpbfaa.Tr
