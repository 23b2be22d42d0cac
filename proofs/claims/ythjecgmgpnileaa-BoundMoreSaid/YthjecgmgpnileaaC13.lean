/- What stays of lists and tasks while others are written; calls of method values. -/
import Derived.Test.YthjecgmgpnileaaC12
import Derived.Test.YthjecgmgpnileaaC9
namespace Go.Proofs.Ythjecgmgpnileaa.Bd
open Go.RowKit Go.Lib Go.Proofs.YthjecgmgpnileaaW.PrintWords Go.Proofs.YthjecgmgpnileaaW.PrintLast Go.Proofs.YthjecgmgpnileaaW.PrintMore
set_option linter.unusedVariables false
set_option linter.unusedSimpArgs false

theorem goesV_ {P : Program} {ops : Array Oper} {Q : Exit → Act → World → Prop} {oi : Oper} {N : Option Tmp} {a : Act} {w : World} {K : Act → World → Prop} {f : FuncId} {fn : Func} {p : Operand} {xs : Array Operand} {ts : Array TypeId} {first : Array Value} (hf : P.funcs[f]? = some fn) (hname : (fn.name == "runtime.NumGoroutine") = false) (hb : fn.body.isSome = true) (args : Array Value)
    (hw : Region.wanted oi (yielded ops a.tmps) = true) (hN : oi.dst = N) (hop : oi.op = .call { callee := .value p, args := xs, argTypes := ts }) (hp : a.eval p = .func (.func f) first #[]) (hargs : first ++ xs.map a.eval = args)
    (h : Calls P f args w fun e w' => ∃ v, e = .returned v ∧ K (a.put N v) w') : if Region.wanted oi (yielded ops a.tmps) = true then Oper.wp P oi a w K Q else K (a.put N undef) w := by
  refine call_ f args hw hN ?_ h
  have he := enters_ hf hname hb args w
  unfold execOp
  simp [hop, resolve, hp, Deferred.ofValue, invoke, hargs, he]
theorem ls_keptS {W W' : World} {base P mb : Nat} {L : List Int} {S : Nat → Prop} (h : LsAt W base P mb L) (hk : Kept W W' S) (h1 : ¬ S P) (h2 : ¬ S mb) (h3 : ∀ k, S k → ∀ cs, W.heap[k]? ≠ some (.cells cs 3 (0, 0))) : LsAt W' base P mb L := by
  obtain ⟨v, l, o, hP, hR, hM, hr⟩ := h
  refine ⟨v, l, o, blk_kept hP hk h1, R_blk hR fun k hl hc => hk.2 k hl (fun hs => ?_), blk_kept hM hk h2, hr⟩
  obtain ⟨cs, hc⟩ := hc
  exact h3 k hs cs hc
theorem ts_keptS {W W' : World} {base T g cap n : Nat} {us : List (Int × Int)} {cur : Int × Int} {S : Nat → Prop} (h : TsAt W base T g cap us cur n) (hk : Kept W W' S) (h1 : ¬ S T) (h2 : ¬ S g) : TsAt W' base T g cap us cur n := by
  obtain ⟨hT, hR, hb⟩ := h
  refine ⟨blk_kept hT hk h1, ?_, hb⟩
  refine Kd.R_mono (Kd.R_step (Kd.R_tight rfl hR) fun k ho hl => hk.2 k hl (fun hs => ?_)) fun _ _ => trivial
  have e : k = g := by simpa [Value.ownBlock] using ho
  subst e
  exact h2 hs
/-- The blocks of a list are of no other kind. -/
theorem ls_types {W : World} {base P mb : Nat} {L : List Int} (h : LsAt W base P mb L) : (∀ cs t, W.heap[P]? = some (.cells cs t (0, 0)) → t = 85) ∧ (∀ cs t, W.heap[mb]? ≠ some (.cells cs t (0, 0))) ∧ P < W.heap.size ∧ mb < W.heap.size ∧ base ≤ P ∧ base ≤ mb := by
  obtain ⟨v, l, o, hP, hR, hM, _, _, _, _, h1, h2⟩ := h
  refine ⟨fun cs t hc => ?_, fun cs t hc => ?_, (Array.getElem?_eq_some_iff.1 hP).1, (Array.getElem?_eq_some_iff.1 hM).1, h1, h2⟩
  · rw [hP] at hc
    simp at hc
    exact hc.2.symm
  · unfold MapAt at hM
    rw [hM] at hc
    cases hc
theorem ls_ts {W W' : World} {base P mb : Nat} {L : List Int} (h : LsAt W base P mb L) (hk : TsK W W') : LsAt W' base P mb L := by
  obtain ⟨h1, h2, _⟩ := ls_types h
  refine ls_keptS h hk ?_ ?_ ?_
  · rintro ⟨cs, hc | hc⟩
    · exact absurd (h1 _ _ hc) (by decide)
    · exact absurd (h1 _ _ hc) (by decide)
  · rintro ⟨cs, hc | hc⟩
    · exact h2 _ _ hc
    · exact h2 _ _ hc
  · rintro k ⟨cs, hc | hc⟩ cs' hc' <;> rw [hc] at hc' <;> cases hc'
theorem ls_only {W W' : World} {base P mb P' mb' : Nat} {L L' : List Int} (h : LsAt W base P mb L) (h' : LsAt W base P' mb' L') (hne : P ≠ P') (hme : mb ≠ mb') (hk : OnlyAt P' mb' W W') : LsAt W' base P mb L := by
  obtain ⟨h1, h2, _⟩ := ls_types h
  obtain ⟨v', l', o', hP', hR', hM', _⟩ := h'
  obtain ⟨v, l, o, hP, hR, hM, _⟩ := h
  refine ls_keptS ⟨v, l, o, hP, hR, hM, by assumption⟩ hk ?_ ?_ ?_
  · rintro (rfl | rfl)
    · exact hne rfl
    · unfold MapAt at hM'; rw [hP] at hM'; cases hM'
  · rintro (rfl | rfl)
    · exact h2 _ _ hP'
    · exact hme rfl
  · rintro k (rfl | rfl) cs hc
    · rw [hP'] at hc; cases hc
    · unfold MapAt at hM'; rw [hM'] at hc; cases hc
theorem ts_only {W W' : World} {base T g cap n P' mb' : Nat} {us : List (Int × Int)} {cur : Int × Int} {L' : List Int} (h : TsAt W base T g cap us cur n) (h' : LsAt W base P' mb' L') (hk : OnlyAt P' mb' W W') : TsAt W' base T g cap us cur n := by
  obtain ⟨h1, h2, _⟩ := ls_types h'
  obtain ⟨cs, hg⟩ := Kd.R_typed h.2.1 g rfl
  refine ts_keptS h hk ?_ ?_
  · rintro (rfl | rfl)
    · exact absurd (h1 _ _ h.1) (by decide)
    · exact h2 _ _ h.1
  · rintro (rfl | rfl)
    · exact absurd (h1 _ _ hg) (by decide)
    · exact h2 _ _ hg
theorem blk_only {W W' : World} {base P' mb' : Nat} {L' : List Int} {k t : Nat} {cs : Array Value} (h : W.heap[k]? = some (.cells cs t (0, 0))) (h' : LsAt W base P' mb' L') (ht : t ≠ 85) (hk : OnlyAt P' mb' W W') : W'.heap[k]? = some (.cells cs t (0, 0)) := by
  obtain ⟨h1, h2, _⟩ := ls_types h'
  refine blk_kept h hk ?_
  rintro (rfl | rfl)
  · exact ht (h1 _ _ h)
  · exact h2 _ _ h
theorem blk_ts {W W' : World} {k t : Nat} {cs : Array Value} (h : W.heap[k]? = some (.cells cs t (0, 0))) (h1 : t ≠ 71) (h2 : t ≠ 68) (hk : TsK W W') : W'.heap[k]? = some (.cells cs t (0, 0)) := by
  refine blk_kept h hk ?_
  rintro ⟨cs', hc | hc⟩ <;> rw [h] at hc <;> simp at hc
  · exact h1 hc.2
  · exact h2 hc.2
/-- What sp.Of keeps while it goes through splits. -/
structure OfAt (W : World) (base T PE mE PH mH G7 G8 : Nat) (s : St) : Prop where
  ts : ∃ g cap, TsAt W base T g cap s.us s.cur s.n
  e : LsAt W base PE mE s.e
  h : LsAt W base PH mH s.h
  p7 : W.heap[G7]? = some (.cells #[.func (.func 24) #[.pointer (some ⟨PE, 0, none⟩)] #[], .func (.func 24) #[.pointer (some ⟨PH, 0, none⟩)] #[]] 75 (0, 0))
  p8 : W.heap[G8]? = some (.cells #[.nilFunc, .func (.func 25) #[.pointer (some ⟨T, 0, none⟩)] #[], .func (.func 26) #[.pointer (some ⟨T, 0, none⟩)] #[], .func (.func 27) #[.pointer (some ⟨T, 0, none⟩)] #[]] 77 (0, 0))
  ne : PE ≠ PH
  me : mE ≠ mH
theorem ls_below {W W' : World} {base P mb : Nat} {L : List Int} (h : LsAt W base P mb L) (hb : Below W.heap.size W W') : LsAt W' base P mb L :=
  ls_keptS h (Kept.of_below hb fun _ => False) (fun h => h) (fun h => h) fun _ h => h.elim
theorem OfAt.below {W W' : World} {base T PE mE PH mH G7 G8 : Nat} {s : St} (h : OfAt W base T PE mE PH mH G7 G8 s) (hb : Below W.heap.size W W') : OfAt W' base T PE mE PH mH G7 G8 s :=
  ⟨by obtain ⟨g, cap, ht⟩ := h.ts; exact ⟨g, cap, ts_below ht hb⟩, ls_below h.e hb, ls_below h.h hb, blk_below h.p7 hb, blk_below h.p8 hb, h.ne, h.me⟩
end Go.Proofs.Ythjecgmgpnileaa.Bd
