/- May splits be? As the document goes through them: plain. -/
import Derived.Test.YthjecgmgpnileaaB
namespace Go.Proofs.Ythjecgmgpnileaa.Bd
set_option linter.unusedVariables false
set_option linter.unusedSimpArgs false

/-- How many strands there are; -1: they may not be. -/
def mayL (l : List S53) : Int := match runF st0 l with
  | some s => (s.n : Int)
  | none => -1
def sS (s : St) : List Int := s.us.map Prod.fst ++ [s.cur.1]
def sJ (s : St) : List Int := s.us.map Prod.snd ++ [s.cur.2]
theorem sS_len (s : St) : (sS s).length = s.us.length + 1 := by simp [sS]
theorem sJ_len (s : St) : (sJ s).length = s.us.length + 1 := by simp [sJ]
theorem sS_last (s : St) : at0 (sS s) (s.us.length : Int) = s.cur.1 := by simp [at0, sS]
theorem sJ_last (s : St) : at0 (sJ s) (s.us.length : Int) = s.cur.2 := by simp [at0, sJ]
theorem may_none {l : List S53} {i : Nat} {s : St} (h : i < l.length) (hs : runF st0 (l.take i) = some s) (hx : stepS s l[i] = none) : mayL l = -1 := by
  unfold mayL
  rw [runF_none (i := i + 1) (by rw [runF_take st0 l i h, hs]; exact hx)]
theorem may_next {l : List S53} {i : Nat} {s t : St} (h : i < l.length) (hs : runF st0 (l.take i) = some s) (hx : stepS s l[i] = some t) : runF st0 (l.take (i + 1)) = some t := by
  rw [runF_take st0 l i h, hs]
  exact hx
theorem step_A {s : St} {x : S53} (h : x.f1 ≠ s.cur.1) : stepS s x = none := by
  unfold stepS forkS endS joinS
  split
  · split
    · rw [if_neg (fun k => h k.1)]
    · rw [if_neg (fun k => h k.1)]
  · split
    · split
      · rfl
      · rw [if_neg (fun k => h k.2.1)]
    · split
      · split
        · rfl
        · rw [if_neg (fun k => h k.1)]
      · rfl
theorem step_fork2 {s : St} {x : S53} (hk : x.f0 = 1) (hA : x.f1 = s.cur.1) (h0 : s.cur.2 = 0) : stepS s x = if x.f2 = (s.n : Int) ∧ x.f3 = (s.n : Int) + 1 ∧ x.f4 = (s.n : Int) + 2 then some (fork2 s x) else none := by
  unfold stepS forkS
  rw [if_pos hk, if_pos h0]
  by_cases h : x.f2 = (s.n : Int) ∧ x.f3 = (s.n : Int) + 1 ∧ x.f4 = (s.n : Int) + 2
  · rw [if_pos h, if_pos (show isF s x ((s.n : Int) + 2) from ⟨hA, h⟩)]
  · rw [if_neg h, if_neg (fun k : isF s x ((s.n : Int) + 2) => h k.2)]
theorem step_fork1 {s : St} {x : S53} (hk : x.f0 = 1) (hA : x.f1 = s.cur.1) (h0 : s.cur.2 ≠ 0) : stepS s x = if x.f2 = (s.n : Int) ∧ x.f3 = (s.n : Int) + 1 ∧ x.f4 = s.cur.2 then some (fork1 s x) else none := by
  unfold stepS forkS
  rw [if_pos hk, if_neg h0]
  by_cases h : x.f2 = (s.n : Int) ∧ x.f3 = (s.n : Int) + 1 ∧ x.f4 = s.cur.2
  · rw [if_pos h, if_pos (show isF s x s.cur.2 from ⟨hA, h⟩)]
  · rw [if_neg h, if_neg (fun k : isF s x s.cur.2 => h k.2)]
theorem step_end0 {s : St} {x : S53} (hk : x.f0 = 2) (h : s.us = []) : stepS s x = none := by
  unfold stepS endS
  rw [if_neg (by omega), if_pos hk, h]
  rfl
theorem step_end {s : St} {x : S53} {us : List (Int × Int)} {v : Int × Int} (hk : x.f0 = 2) (hA : x.f1 = s.cur.1) (h : s.us = us ++ [v]) : stepS s x = if s.cur.2 = 0 ∧ x.f2 = 0 ∧ x.f3 = 0 ∧ x.f4 = v.2 then some { s with us := us, cur := v } else none := by
  unfold stepS endS
  have e1 : s.us.getLast? = some v := by rw [h]; simp
  have e2 : s.us.dropLast = us := by rw [h]; simp
  rw [if_neg (by omega), if_pos hk, e1]
  simp only [e2]
  by_cases hc : s.cur.2 = 0 ∧ x.f2 = 0 ∧ x.f3 = 0 ∧ x.f4 = v.2
  · rw [if_pos hc, if_pos (show s.cur.2 = 0 ∧ isE s x v.2 from ⟨hc.1, hA, hc.2⟩)]
  · rw [if_neg hc, if_neg (fun k : s.cur.2 = 0 ∧ isE s x v.2 => hc ⟨k.1, k.2.2⟩)]
theorem step_join {s : St} {x : S53} (hk : x.f0 = 3) (hA : x.f1 = s.cur.1) : stepS s x = if s.cur.2 ≠ 0 ∧ x.f4 = s.cur.2 ∧ x.f2 = 0 ∧ x.f3 = 0 then some { s with cur := (x.f4, 0) } else none := by
  unfold stepS joinS
  rw [if_neg (by omega), if_neg (by omega), if_pos hk]
  by_cases h0 : s.cur.2 = 0
  · rw [if_pos h0, if_neg (fun k => k.1 h0)]
  · rw [if_neg h0]
    by_cases hc : x.f4 = s.cur.2 ∧ x.f2 = 0 ∧ x.f3 = 0
    · rw [if_pos (show isE s x s.cur.2 from ⟨hA, hc.2.1, hc.2.2, hc.1⟩), if_pos ⟨h0, hc⟩]
    · rw [if_neg (fun k : isE s x s.cur.2 => hc ⟨k.2.2.2, k.2.1, k.2.2.1⟩), if_neg (fun k => hc k.2)]
theorem sS_fork (s : St) (a b : Int) (d : Int) (us : List (Int × Int)) (h : us = s.us ++ [(a, d)]) (t : St) (ht : t.us = us) (hc : t.cur.1 = b) : sS t = (sS s).set s.us.length a ++ [b] := by
  unfold sS
  rw [ht, h, hc]
  simp
theorem sJ_fork (s : St) (a d : Int) (us : List (Int × Int)) (h : us = s.us ++ [(a, d)]) (t : St) (ht : t.us = us) (hc : t.cur.2 = 0) : sJ t = (sJ s).set s.us.length d ++ [0] := by
  unfold sJ
  rw [ht, h, hc]
  simp
end Go.Proofs.Ythjecgmgpnileaa.Bd
