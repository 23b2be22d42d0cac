/- Splits, and the two orders of strands that they make: plain. -/
import Derived.Test.YthjecgmgpnileaaK
import Derived.Test.YthjecgmgpnileaaA
namespace Go.Proofs.Ythjecgmgpnileaa.Bd
open Go.RowKit Go.Proofs.YthjecgmgpnileaaW.PrintWords Go.Proofs.YthjecgmgpnileaaW.PrintLast Go.Proofs.YthjecgmgpnileaaW.PrintMore
set_option linter.unusedVariables false

/-- Where a number stands in a list; below 0: nowhere. -/
def plc (l : List Int) (s : Int) : Int := if s ∈ l then (l.idxOf s : Int) else -1
theorem plc_neg {l : List Int} {s : Int} : plc l s < 0 ↔ s ∉ l := by
  unfold plc
  split
  · rename_i h; exact ⟨fun k => by omega, fun k => absurd h k⟩
  · rename_i h; exact ⟨fun _ => h, fun _ => by omega⟩
/-- What there is while splits are gone through: the tasks below, the one that is on (its strand, its join), how many strands, the two orders. -/
structure St where
  us : List (Int × Int)
  cur : Int × Int
  n : Nat
  e : List Int
  h : List Int
def st0 : St := ⟨[], (0, 0), 1, [0], [0]⟩
def isF (s : St) (x : S53) (d : Int) : Prop := x.f1 = s.cur.1 ∧ x.f2 = (s.n : Int) ∧ x.f3 = (s.n : Int) + 1 ∧ x.f4 = d
instance (s : St) (x : S53) (d : Int) : Decidable (isF s x d) := by unfold isF; infer_instance
def isE (s : St) (x : S53) (d : Int) : Prop := x.f1 = s.cur.1 ∧ x.f2 = 0 ∧ x.f3 = 0 ∧ x.f4 = d
instance (s : St) (x : S53) (d : Int) : Decidable (isE s x d) := by unfold isE; infer_instance
def fork1 (s : St) (x : S53) : St := ⟨s.us ++ [(x.f3, s.cur.2)], (x.f2, 0), s.n + 2, insAfter (insAfter s.e x.f1 x.f2) x.f2 x.f3, insAfter (insAfter s.h x.f1 x.f3) x.f3 x.f2⟩
def fork2 (s : St) (x : S53) : St := ⟨s.us ++ [(x.f3, (s.n : Int) + 2)], (x.f2, 0), s.n + 3, insAfter (insAfter (insAfter s.e x.f1 x.f2) x.f2 x.f3) x.f3 x.f4, insAfter (insAfter (insAfter s.h x.f1 x.f3) x.f3 x.f2) x.f2 x.f4⟩
def forkS (s : St) (x : S53) : Option St := if s.cur.2 = 0 then (if isF s x ((s.n : Int) + 2) then some (fork2 s x) else none) else if isF s x s.cur.2 then some (fork1 s x) else none
def endS (s : St) (x : S53) : Option St := match s.us.getLast? with
  | none => none
  | some v => if s.cur.2 = 0 ∧ isE s x v.2 then some { s with us := s.us.dropLast, cur := v } else none
def joinS (s : St) (x : S53) : Option St := if s.cur.2 = 0 then none else if isE s x s.cur.2 then some { s with cur := (x.f4, 0) } else none
def stepS (s : St) (x : S53) : Option St := if x.f0 = 1 then forkS s x else if x.f0 = 2 then endS s x else if x.f0 = 3 then joinS s x else none
def runF : St → List S53 → Option St
  | s, [] => some s
  | s, x :: l => (stepS s x).bind fun t => runF t l
theorem runF_app (s : St) (l m : List S53) : runF s (l ++ m) = (runF s l).bind fun t => runF t m := by
  induction l generalizing s with
  | nil => rfl
  | cons x l ih =>
    show (stepS s x).bind _ = ((stepS s x).bind _).bind _
    cases stepS s x with
    | none => rfl
    | some t => exact ih t
theorem runF_take (s : St) (l : List S53) (i : Nat) (h : i < l.length) : runF s (l.take (i + 1)) = (runF s (l.take i)).bind fun t => stepS t l[i] := by
  rw [List.take_succ_eq_append_getElem h, runF_app]
  congr 1
  funext t
  show (stepS t l[i]).bind _ = _
  cases stepS t l[i] <;> rfl
theorem runF_none {s : St} {l : List S53} {i : Nat} (h : runF s (l.take i) = none) : runF s l = none := by
  rw [← List.take_append_drop i l, runF_app, h]
  rfl
def ofL (l : List S53) : Option (List (Int × Int)) := (runF st0 l).map fun s => (ints s.n).map fun i => (plc s.e i, plc s.h i)

/-- What stays true. -/
structure Inv (s : St) : Prop where
  pos : 1 ≤ s.n
  e : s.e.Perm (ints s.n)
  h : s.h.Perm (ints s.n)
  cur : (0 ≤ s.cur.1 ∧ s.cur.1 < (s.n : Int)) ∧ 0 ≤ s.cur.2 ∧ s.cur.2 < (s.n : Int)
  us : ∀ t ∈ s.us, (0 ≤ t.1 ∧ t.1 < (s.n : Int)) ∧ 0 ≤ t.2 ∧ t.2 < (s.n : Int)
theorem inv0 : Inv st0 := ⟨Nat.le_refl _, List.Perm.refl _, List.Perm.refl _, by decide, fun t h => by cases h⟩
theorem Inv.mem_e {s : St} (h : Inv s) {x : Int} : x ∈ s.e ↔ 0 ≤ x ∧ x < (s.n : Int) := by rw [h.e.mem_iff, mem_ints]
theorem Inv.mem_h {s : St} (h : Inv s) {x : Int} : x ∈ s.h ↔ 0 ≤ x ∧ x < (s.n : Int) := by rw [h.h.mem_iff, mem_ints]
theorem Inv.nd_e {s : St} (h : Inv s) : s.e.Nodup := h.e.nodup_iff.2 (ints_nodup _)
theorem Inv.nd_h {s : St} (h : Inv s) : s.h.Nodup := h.h.nodup_iff.2 (ints_nodup _)
theorem ins_nodup {l : List Int} (hl : l.Nodup) {x s : Int} (hx : x ∈ l) (hs : s ∉ l) : (insAfter l x s).Nodup := (ins_perm hl hx s).nodup_iff.2 (List.nodup_cons.2 ⟨hs, hl⟩)
theorem ins_mem {l : List Int} (hl : l.Nodup) {x s y : Int} (hx : x ∈ l) : y ∈ insAfter l x s ↔ y = s ∨ y ∈ l := by rw [(ins_perm hl hx s).mem_iff, List.mem_cons]
theorem ins_two {l : List Int} {n : Nat} (hl : l.Perm (ints n)) {a x y : Int} (ha : a ∈ l) (hxy : (x = n ∧ y = n + 1) ∨ (y = n ∧ x = n + 1)) :
    (insAfter (insAfter l a x) x y).Perm (ints (n + 2)) ∧ x ∉ l ∧ y ∉ insAfter l a x ∧ x ∈ insAfter l a x ∧ y ∈ insAfter (insAfter l a x) x y := by
  have hn : l.Nodup := hl.nodup_iff.2 (ints_nodup _)
  have hm : ∀ z, z ∈ l ↔ 0 ≤ z ∧ z < (n : Int) := fun z => by rw [hl.mem_iff, mem_ints]
  have hx : x ∉ l := by rw [hm]; omega
  have h1 := ins_nodup hn ha hx
  have h2 : x ∈ insAfter l a x := (ins_mem hn ha).2 (.inl rfl)
  have h3 : y ∉ insAfter l a x := by rw [ins_mem hn ha, hm]; omega
  refine ⟨?_, hx, h3, h2, (ins_mem h1 h2).2 (.inl rfl)⟩
  refine (ins_perm h1 h2 y).trans ?_
  refine ((ins_perm hn ha x).cons y).trans ?_
  rw [ints_succ, ints_succ, List.append_assoc]
  have hp : (y :: x :: l).Perm ([(n : Int), ((n + 1 : Nat) : Int)] ++ l) := by
    rcases hxy with ⟨rfl, rfl⟩ | ⟨rfl, rfl⟩
    · exact List.Perm.swap _ _ _
    · exact List.Perm.refl _
  exact (hp.trans List.perm_append_comm).trans (List.Perm.append_right _ hl)
theorem ins_three {l : List Int} {n : Nat} (hl : l.Perm (ints n)) {a x y z : Int} (ha : a ∈ l) (hxy : (x = n ∧ y = n + 1) ∨ (y = n ∧ x = n + 1)) (hz : z = (n : Int) + 2) :
    (insAfter (insAfter (insAfter l a x) x y) y z).Perm (ints (n + 3)) ∧ z ∉ insAfter (insAfter l a x) x y := by
  obtain ⟨h1, _, _, _, h5⟩ := ins_two hl ha hxy
  have hn : (insAfter (insAfter l a x) x y).Nodup := h1.nodup_iff.2 (ints_nodup _)
  have hz' : z ∉ insAfter (insAfter l a x) x y := by rw [h1.mem_iff, mem_ints]; omega
  refine ⟨?_, hz'⟩
  refine (ins_perm hn h5 z).trans ?_
  rw [ints_succ (n + 2), hz]
  exact (h1.cons _).trans (List.perm_append_singleton _ _).symm
theorem Inv.fork1 {s : St} (h : Inv s) {x : S53} (hx : isF s x s.cur.2) : Inv (fork1 s x) := by
  obtain ⟨h1, h2, h3, h4⟩ := hx
  have hc := h.cur
  refine ⟨by show 1 ≤ s.n + 2; omega, ?_, ?_, ?_, ?_⟩
  · exact (ins_two h.e (h.mem_e.2 (by rw [h1]; exact hc.1)) (.inl ⟨h2, h3⟩)).1
  · exact (ins_two h.h (h.mem_h.2 (by rw [h1]; exact hc.1)) (.inr ⟨h2, h3⟩)).1
  · show (0 ≤ x.f2 ∧ x.f2 < ((s.n + 2 : Nat) : Int)) ∧ (0 : Int) ≤ 0 ∧ (0 : Int) < ((s.n + 2 : Nat) : Int)
    omega
  · intro t ht
    show (0 ≤ t.1 ∧ t.1 < ((s.n + 2 : Nat) : Int)) ∧ 0 ≤ t.2 ∧ t.2 < ((s.n + 2 : Nat) : Int)
    rcases List.mem_append.1 ht with ht | ht
    · have := h.us t ht; omega
    · rw [List.mem_singleton.1 ht]; simp only; omega
theorem Inv.fork2 {s : St} (h : Inv s) {x : S53} (hx : isF s x ((s.n : Int) + 2)) : Inv (fork2 s x) := by
  obtain ⟨h1, h2, h3, h4⟩ := hx
  have hc := h.cur
  refine ⟨by show 1 ≤ s.n + 3; omega, ?_, ?_, ?_, ?_⟩
  · exact (ins_three h.e (h.mem_e.2 (by rw [h1]; exact hc.1)) (.inl ⟨h2, h3⟩) h4).1
  · exact (ins_three h.h (h.mem_h.2 (by rw [h1]; exact hc.1)) (.inr ⟨h2, h3⟩) h4).1
  · show (0 ≤ x.f2 ∧ x.f2 < ((s.n + 3 : Nat) : Int)) ∧ (0 : Int) ≤ 0 ∧ (0 : Int) < ((s.n + 3 : Nat) : Int)
    omega
  · intro t ht
    show (0 ≤ t.1 ∧ t.1 < ((s.n + 3 : Nat) : Int)) ∧ 0 ≤ t.2 ∧ t.2 < ((s.n + 3 : Nat) : Int)
    rcases List.mem_append.1 ht with ht | ht
    · have := h.us t ht; omega
    · rw [List.mem_singleton.1 ht]; simp only; omega
theorem Inv.step {s t : St} (h : Inv s) {x : S53} (hs : stepS s x = some t) : Inv t ∧ t.n ≤ s.n + 3 ∧ t.us.length ≤ s.us.length + 1 := by
  unfold stepS forkS endS joinS at hs
  split at hs
  · split at hs
    · split at hs
      · rename_i hx; cases hs; exact ⟨h.fork2 hx, Nat.le_refl _, by show (_ ++ [_]).length ≤ _; simp⟩
      · cases hs
    · split at hs
      · rename_i hx; cases hs; exact ⟨h.fork1 hx, by show s.n + 2 ≤ _; omega, by show (_ ++ [_]).length ≤ _; simp⟩
      · cases hs
  · split at hs
    · split at hs
      · cases hs
      · rename_i v hv
        split at hs
        · cases hs
          have hm : v ∈ s.us := List.mem_of_getLast? hv
          exact ⟨⟨h.pos, h.e, h.h, h.us v hm, fun t ht => h.us t ((List.dropLast_sublist _).mem ht)⟩, by show s.n ≤ _; omega, by show (List.dropLast _).length ≤ _; simp; omega⟩
        · cases hs
    · split at hs
      · split at hs
        · cases hs
        · split at hs
          · rename_i hx
            cases hs
            have hc := h.cur
            exact ⟨⟨h.pos, h.e, h.h, ⟨by show 0 ≤ x.f4 ∧ x.f4 < _; rw [hx.2.2.2]; exact hc.2, by show (0 : Int) ≤ 0 ∧ (0 : Int) < ((s.n : Nat) : Int); have := h.pos; omega⟩, h.us⟩, by show s.n ≤ _; omega, by show s.us.length ≤ _; omega⟩
          · cases hs
      · cases hs
theorem Inv.run {s t : St} (h : Inv s) {l : List S53} (hs : runF s l = some t) : Inv t ∧ t.n ≤ s.n + 3 * l.length ∧ t.us.length ≤ s.us.length + l.length := by
  induction l generalizing s with
  | nil => cases hs; exact ⟨h, Nat.le_refl _, Nat.le_refl _⟩
  | cons x l ih =>
    have hs' : (stepS s x).bind (fun t => runF t l) = some t := hs
    cases hx : stepS s x with
    | none => rw [hx] at hs'; cases hs'
    | some u =>
      rw [hx] at hs'
      have h1 := h.step hx
      have h2 := ih h1.1 hs'
      refine ⟨h2.1, ?_, ?_⟩ <;> rw [List.length_cons] <;> omega

/-- The document's second round: of forks alone, a join's strand where it isn't there. -/
def refE (p : List Int × List Int) (x : S53) : List Int × List Int :=
  if x.f0 = 1 then
    (let e := insAfter (insAfter p.1 x.f1 x.f2) x.f2 x.f3; let h := insAfter (insAfter p.2 x.f1 x.f3) x.f3 x.f2
     if plc e x.f4 < 0 then (insAfter e x.f3 x.f4, insAfter h x.f2 x.f4) else (e, h))
  else p
theorem ref_step {s t : St} (h : Inv s) {x : S53} (hs : stepS s x = some t) : refE (s.e, s.h) x = (t.e, t.h) := by
  unfold stepS forkS endS joinS at hs
  unfold refE
  split at hs
  · rename_i hk
    rw [if_pos hk]
    have hc := h.cur
    split at hs
    · split at hs
      · rename_i hx
        cases hs
        have h3 := ins_three (a := x.f1) h.e (h.mem_e.2 (by rw [hx.1]; exact hc.1)) (.inl ⟨hx.2.1, hx.2.2.1⟩) hx.2.2.2
        show (if plc (insAfter (insAfter s.e x.f1 x.f2) x.f2 x.f3) x.f4 < 0 then _ else _) = _
        rw [if_pos (plc_neg.2 h3.2)]
        rfl
      · cases hs
    · rename_i h0
      split at hs
      · rename_i hx
        cases hs
        have h3 := ins_two (a := x.f1) h.e (h.mem_e.2 (by rw [hx.1]; exact hc.1)) (.inl ⟨hx.2.1, hx.2.2.1⟩)
        show (if plc (insAfter (insAfter s.e x.f1 x.f2) x.f2 x.f3) x.f4 < 0 then _ else _) = _
        rw [if_neg (fun k => plc_neg.1 k (by rw [h3.1.mem_iff, mem_ints, hx.2.2.2]; omega))]
        rfl
      · cases hs
  · rename_i hk
    rw [if_neg hk]
    split at hs
    · split at hs
      · cases hs
      · split at hs
        · cases hs; rfl
        · cases hs
    · split at hs
      · split at hs
        · cases hs
        · split at hs
          · cases hs; rfl
          · cases hs
      · cases hs
theorem ref_run {s t : St} (h : Inv s) {l : List S53} (hs : runF s l = some t) : l.foldl refE (s.e, s.h) = (t.e, t.h) := by
  induction l generalizing s with
  | nil => cases hs; rfl
  | cons x l ih =>
    have hs' : (stepS s x).bind (fun t => runF t l) = some t := hs
    cases hx : stepS s x with
    | none => rw [hx] at hs'; cases hs'
    | some u =>
      rw [hx] at hs'
      rw [List.foldl_cons, ref_step h hx]
      exact ih (h.step hx).1 hs'
end Go.Proofs.Ythjecgmgpnileaa.Bd
