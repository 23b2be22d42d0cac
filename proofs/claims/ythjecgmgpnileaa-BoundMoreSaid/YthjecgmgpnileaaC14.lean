/- What a split does to the tasks: the three together. -/
import Derived.Test.YthjecgmgpnileaaC13
namespace Go.Proofs.Ythjecgmgpnileaa.Bd
open Go.RowKit Go.Lib Go.Proofs.YthjecgmgpnileaaW.PrintWords Go.Proofs.YthjecgmgpnileaaW.PrintLast Go.Proofs.YthjecgmgpnileaaW.PrintMore
set_option linter.unusedVariables false
set_option linter.unusedSimpArgs false

theorem ls_lower {W : World} {base base' P mb : Nat} {L : List Int} (h : LsAt W base P mb L) (hb : base' ≤ base) : LsAt W base' P mb L := by
  obtain ⟨v, l, o, hP, hR, hM, h1, h2, h3, h4, h5, h6⟩ := h
  exact ⟨v, l, o, hP, Kd.R_lower hR hb, hM, h1, h2, h3, h4, by omega, by omega⟩
theorem row1 (W : World) (base : Nat) (hb : base ≤ W.heap.size) : Kd.R kP 68 (W.alloc (.cells #[.int .i64 0, .int .i64 0] 68)) base (fun _ => True) (.slice (some ⟨W.heap.size, 0, none⟩) 1 1) [((0, 0) : Int × Int)] := by
  refine ⟨fun _ _ => trivial, [.int .i64 0, .int .i64 0], ?_, rfl, fun j p hj => ?_⟩
  · exact World.ownsRow_lit (base := base) (e := 68) (size := 2) W #[.int .i64 0, .int .i64 0] 1 hb (by decide) rfl
  · match j, hj with
    | 0, hj => cases hj; exact kP_mkM _ _ _ ((0, 0) : Int × Int)
theorem ts_start (w : World) : TsAt ((w.alloc (.cells #[.int .i64 0, .int .i64 0] 68)).alloc (.cells #[.slice (some ⟨w.heap.size, 0, none⟩) 1 1, .int .i64 1] 71)) w.heap.size (w.heap.size + 1) w.heap.size 1 [] (0, 0) 1 := by
  have hs : (w.alloc (.cells #[.int .i64 0, .int .i64 0] 68)).heap.size = w.heap.size + 1 := by simp
  refine ⟨?_, Kd.R_alloc (row1 w w.heap.size (Nat.le_refl _)) _, by omega⟩
  have := (MapKept.heap_alloc (w.alloc (.cells #[.int .i64 0, .int .i64 0] 68)) (.cells #[.slice (some ⟨w.heap.size, 0, none⟩) 1 1, .int .i64 1] 71)).1
  rw [hs] at this
  exact this
theorem OfAt.tsK {W W' : World} {base T PE mE PH mH G7 G8 : Nat} {s t : St} (h : OfAt W base T PE mE PH mH G7 G8 s) (hk : TsK W W') (ht : ∃ g cap, TsAt W' base T g cap t.us t.cur t.n) : OfAt W' base T PE mE PH mH G7 G8 { t with e := s.e, h := s.h } :=
  ⟨ht, ls_ts h.e hk, ls_ts h.h hk, blk_ts h.p7 (by decide) (by decide) hk, blk_ts h.p8 (by decide) (by decide) hk, h.ne, h.me⟩
theorem does_calls {W : World} {base T PE mE PH mH G7 G8 : Nat} {s : St} (h : OfAt W base T PE mE PH mH G7 G8 s) (hm : s.us.length < 900) (hn : s.n < 1000) (x : S53) (f : Nat) (hf : (x.f0 = 1 ∧ f = 25) ∨ (x.f0 = 2 ∧ f = 26) ∨ (x.f0 = 3 ∧ f = 27)) (o : Option St) (ho : stepS s x = o) :
    Calls Try.prog f #[.pointer (some ⟨T, 0, none⟩), enc53 x] W fun e w' => e = .returned (.bool o.isSome) ∧ Below base W w' ∧ (∀ t, o = some t → OfAt w' base T PE mE PH mH G7 G8 { t with e := s.e, h := s.h } ∧ TsK W w') := by
  obtain ⟨g, cap, ht⟩ := h.ts
  rcases hf with ⟨hk, rfl⟩ | ⟨hk, rfl⟩ | ⟨hk, rfl⟩
  · have hs : stepS s x = forkS s x := by unfold stepS; rw [if_pos hk]
    rw [hs] at ho
    refine (fork_calls base T g cap s.us s.cur s.n x W ht hm hn hk _ rfl).mono ?_
    rintro e w' ⟨rfl, hb, hy⟩
    unfold forkS at ho
    by_cases h0 : s.cur.2 = 0
    · simp only [if_pos h0] at ho hy ⊢
      by_cases hc : x.f1 = s.cur.1 ∧ x.f2 = (s.n : Int) ∧ x.f3 = (s.n : Int) + 1 ∧ x.f4 = (s.n : Int) + 2
      · rw [if_pos (show isF s x ((s.n : Int) + 2) from hc)] at ho
        subst ho
        refine ⟨by simp [hc], hb, fun t e => ?_⟩
        cases e
        obtain ⟨h1, h2⟩ := hy (by simpa using hc)
        exact ⟨h.tsK (t := fork2 s x) h2 h1, h2⟩
      · rw [if_neg (show ¬ isF s x ((s.n : Int) + 2) from hc)] at ho
        subst ho
        exact ⟨by simp [hc], hb, fun t e => by cases e⟩
    · simp only [if_neg h0] at ho hy ⊢
      by_cases hc : x.f1 = s.cur.1 ∧ x.f2 = (s.n : Int) ∧ x.f3 = (s.n : Int) + 1 ∧ x.f4 = s.cur.2
      · rw [if_pos (show isF s x s.cur.2 from hc)] at ho
        subst ho
        refine ⟨by simp [hc], hb, fun t e => ?_⟩
        cases e
        obtain ⟨h1, h2⟩ := hy (by simpa using hc)
        exact ⟨h.tsK (t := fork1 s x) h2 h1, h2⟩
      · rw [if_neg (show ¬ isF s x s.cur.2 from hc)] at ho
        subst ho
        exact ⟨by simp [hc], hb, fun t e => by cases e⟩
  · have hs : stepS s x = endS s x := by unfold stepS; rw [if_neg (by omega), if_pos hk]
    rw [hs] at ho
    rcases List.eq_nil_or_concat s.us with hu | ⟨us', v, hu⟩
    · have ht' := ht
      rw [hu] at ht'
      refine (end_none base T g cap s.cur s.n x W ht').mono ?_
      rintro e w' ⟨rfl, hb⟩
      unfold endS at ho
      rw [hu] at ho
      have : (none : Option St) = o := ho
      subst this
      exact ⟨rfl, hb, fun t e => by cases e⟩
    · rw [List.concat_eq_append] at hu
      have ht' := ht
      rw [hu] at ht'
      have hlen : us'.length < 1000 := by rw [hu] at hm; simp at hm; omega
      refine (end_calls base T g cap us' v s.cur s.n x W ht' hlen hk _ rfl).mono ?_
      rintro e w' ⟨rfl, hb, hy⟩
      unfold endS at ho
      have hgl : s.us.getLast? = some v := by rw [hu]; simp
      have hdl : s.us.dropLast = us' := by rw [hu]; simp
      rw [hgl] at ho
      simp only [hdl] at ho
      by_cases hc : s.cur.2 = 0 ∧ x.f1 = s.cur.1 ∧ x.f2 = 0 ∧ x.f3 = 0 ∧ x.f4 = v.2
      · rw [if_pos (show s.cur.2 = 0 ∧ isE s x v.2 from hc)] at ho
        subst ho
        refine ⟨by simp [hc], hb, fun t e => ?_⟩
        cases e
        obtain ⟨h1, h2⟩ := hy (by simpa using hc)
        exact ⟨h.tsK (t := { s with us := us', cur := v }) h2 ⟨_, _, h1⟩, h2⟩
      · rw [if_neg (show ¬ (s.cur.2 = 0 ∧ isE s x v.2) from hc)] at ho
        subst ho
        refine ⟨by rw [decide_eq_false hc]; rfl, hb, fun t e => by cases e⟩
  · have hs : stepS s x = joinS s x := by unfold stepS; rw [if_neg (by omega), if_neg (by omega), if_pos hk]
    rw [hs] at ho
    refine (join_calls base T g cap s.us s.cur s.n x W ht (by omega) hk _ rfl).mono ?_
    rintro e w' ⟨rfl, hb, hy⟩
    unfold joinS at ho
    by_cases h0 : s.cur.2 = 0
    · rw [if_pos h0] at ho
      subst ho
      exact ⟨by simp [h0], hb, fun t e => by cases e⟩
    · rw [if_neg h0] at ho
      by_cases hc : x.f1 = s.cur.1 ∧ x.f2 = 0 ∧ x.f3 = 0 ∧ x.f4 = s.cur.2
      · rw [if_pos (show isE s x s.cur.2 from hc)] at ho
        subst ho
        refine ⟨by simp [hc, h0], hb, fun t e => ?_⟩
        cases e
        obtain ⟨h1, h2⟩ := hy (decide_eq_true ⟨h0, hc⟩)
        exact ⟨h.tsK (t := { s with cur := (x.f4, 0) }) h2 ⟨_, _, h1⟩, h2⟩
      · rw [if_neg (show ¬ isE s x s.cur.2 from hc)] at ho
        subst ho
        exact ⟨by simp [hc], hb, fun t e => by cases e⟩
end Go.Proofs.Ythjecgmgpnileaa.Bd
