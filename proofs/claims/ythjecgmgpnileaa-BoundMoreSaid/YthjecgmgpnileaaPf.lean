/- A fork, as strands put behind one: plain. -/
import Derived.Test.YthjecgmgpnileaaPl
namespace Go.Proofs.Ythjecgmgpnileaa.Bd
set_option linter.unusedVariables false
set_option linter.unusedSimpArgs false

structure PutOk (L : List Int) (x : Int) (ss : List Int) : Prop where
  x : x ∈ L
  nd : ss.Nodup
  new : ∀ s ∈ ss, s ∉ L ∧ 0 ≤ s ∧ s ≤ 1000000
  len : L.length + ss.length ≤ 1000
theorem fork_facts {s t : St} (hi : Inv s) (hn : s.n ≤ 181) {x : S53} (h : stepS s x = some t) (hk : x.f0 = 1) :
    ∃ m : Nat, (m = 2 ∨ m = 3) ∧ t.n = s.n + m ∧ t.e = putL s.e x.f1 ([x.f2, x.f3, x.f4].take m) ∧ t.h = putL s.h x.f1 ([x.f3, x.f2, x.f4].take m) ∧ PutOk s.e x.f1 ([x.f2, x.f3, x.f4].take m) ∧ PutOk s.h x.f1 ([x.f3, x.f2, x.f4].take m) := by
  have hc := hi.cur
  have he : ∀ y : Int, y ∈ s.e ↔ 0 ≤ y ∧ y < (s.n : Int) := fun y => hi.mem_e
  have hh : ∀ y : Int, y ∈ s.h ↔ 0 ≤ y ∧ y < (s.n : Int) := fun y => hi.mem_h
  have hle : s.e.length = s.n := by rw [hi.e.length_eq, ints_len]
  have hlh : s.h.length = s.n := by rw [hi.h.length_eq, ints_len]
  unfold stepS forkS at h
  rw [if_pos hk] at h
  split at h
  · split at h
    · rename_i hx
      obtain ⟨h1, h2, h3, h4⟩ := hx
      cases h
      refine ⟨3, .inr rfl, rfl, rfl, rfl, ⟨?_, ?_, ?_, ?_⟩, ⟨?_, ?_, ?_, ?_⟩⟩
      · rw [he, h1]; exact hc.1
      · simp [h2, h3, h4]; omega
      · intro y hy
        simp only [List.take_succ_cons, List.take_zero, List.mem_cons, List.not_mem_nil, or_false] at hy
        rw [he]
        omega
      · simp [hle]; omega
      · rw [hh, h1]; exact hc.1
      · simp [h2, h3, h4]; omega
      · intro y hy
        simp only [List.take_succ_cons, List.take_zero, List.mem_cons, List.not_mem_nil, or_false] at hy
        rw [hh]
        omega
      · simp [hlh]; omega
    · cases h
  · split at h
    · rename_i hx
      obtain ⟨h1, h2, h3, h4⟩ := hx
      cases h
      refine ⟨2, .inl rfl, rfl, rfl, rfl, ⟨?_, ?_, ?_, ?_⟩, ⟨?_, ?_, ?_, ?_⟩⟩
      · rw [he, h1]; exact hc.1
      · simp [h2, h3]; omega
      · intro y hy
        simp only [List.take_succ_cons, List.take_zero, List.mem_cons, List.not_mem_nil, or_false] at hy
        rw [he]
        omega
      · simp [hle]; omega
      · rw [hh, h1]; exact hc.1
      · simp [h2, h3]; omega
      · intro y hy
        simp only [List.take_succ_cons, List.take_zero, List.mem_cons, List.not_mem_nil, or_false] at hy
        rw [hh]
        omega
      · simp [hlh]; omega
    · cases h
end Go.Proofs.Ythjecgmgpnileaa.Bd
