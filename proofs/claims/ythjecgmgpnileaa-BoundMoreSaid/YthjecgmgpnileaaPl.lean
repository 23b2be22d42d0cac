/- Strands put behind one, one behind the other: plain; what a list in memory comes to with one more. -/
import Derived.Test.YthjecgmgpnileaaMp
import Derived.Test.YthjecgmgpnileaaB
namespace Go.Proofs.Ythjecgmgpnileaa.Bd
set_option linter.unusedVariables false
set_option linter.unusedSimpArgs false

def putL : List Int → Int → List Int → List Int
  | L, _, [] => L
  | L, x, s :: t => putL (insAfter L x s) s t
def lastOf : Int → List Int → Int
  | x, [] => x
  | _, s :: t => lastOf s t
theorem putL_snoc (L : List Int) (x : Int) (t : List Int) (s : Int) : putL L x (t ++ [s]) = insAfter (putL L x t) (lastOf x t) s := by
  induction t generalizing L x with
  | nil => rfl
  | cons a t ih => exact ih _ _
theorem lastOf_snoc (x : Int) (t : List Int) (s : Int) : lastOf x (t ++ [s]) = s := by
  induction t generalizing x with
  | nil => rfl
  | cons a t ih => exact ih _
theorem putL_ok {L : List Int} {x : Int} {t : List Int} (hL : L.Nodup) (hx : x ∈ L) (ht : t.Nodup) (hn : ∀ s ∈ t, s ∉ L) :
    (putL L x t).Nodup ∧ (∀ y, y ∈ putL L x t ↔ y ∈ t ∨ y ∈ L) ∧ (putL L x t).length = L.length + t.length ∧ lastOf x t ∈ putL L x t := by
  induction t generalizing L x with
  | nil => exact ⟨hL, fun y => by simp [putL], rfl, hx⟩
  | cons a t ih =>
    have ha := hn a (by simp)
    have h1 := List.nodup_cons.1 ht
    have hp := ins_perm hL hx a
    obtain ⟨i1, i2, i3, i4⟩ := ih (L := insAfter L x a) (x := a) (ins_nodup hL hx ha) ((ins_mem hL hx).2 (.inl rfl)) h1.2 (fun s hs => by
      rw [ins_mem hL hx]
      rintro (rfl | h)
      · exact h1.1 hs
      · exact hn s (by simp [hs]) h)
    refine ⟨i1, fun y => ?_, ?_, i4⟩
    · show y ∈ putL (insAfter L x a) a t ↔ _
      rw [i2, ins_mem hL hx, List.mem_cons]
      constructor
      · rintro (h | h | h)
        · exact .inl (.inr h)
        · exact .inl (.inl h)
        · exact .inr h
      · rintro ((h | h) | h)
        · exact .inr (.inl h)
        · exact .inl h
        · exact .inr (.inr h)
    · show (putL (insAfter L x a) a t).length = _
      rw [i3, hp.length_eq]
      simp
      omega
def fOf (o : List Int) (s : Int) : Int := (o.idxOf s : Int)
theorem idx_mem {o : List Int} {s y : Int} (h : y ∈ o) : (o ++ [s]).idxOf y = o.idxOf y := by rw [List.idxOf_append, if_pos h]
theorem idx_new {o : List Int} {s : Int} (h : s ∉ o) : (o ++ [s]).idxOf s = o.length := by rw [List.idxOf_append, if_neg h]; simp
theorem ls_nodup {l L : List Int} {f : Int → Int} (h : IsRow l (L.map f)) : L.Nodup := List.Pairwise.of_map f (fun a b h1 h2 => h1 (by rw [h2])) h.nodup
/-- A strand more, behind x. -/
theorem ls_step {l L o : List Int} {x s : Int} (hg : Good l) (hr : IsRow l (L.map (fOf o))) (hp : o.Perm L) (hx : x ∈ L) (hs : s ∉ L) (hl : L.length < 1000) :
    o.length = l.length ∧ o.idxOf x < l.length ∧ l.length < 1000 ∧ Good (newL l (L.map (fOf o)) (o.idxOf x : Int)) ∧ IsRow (newL l (L.map (fOf o)) (o.idxOf x : Int)) ((insAfter L x s).map (fOf (o ++ [s]))) ∧ (o ++ [s]).Perm (insAfter L x s) := by
  have hll := hr.len
  rw [List.length_map] at hll
  have hpl := hp.length_eq
  have hxo : x ∈ o := hp.mem_iff.2 hx
  have hso : s ∉ o := fun h => hs (hp.mem_iff.1 h)
  have hix := List.idxOf_lt_length_of_mem hxo
  obtain ⟨n1, n2, n3⟩ := new_ok hr hg (by omega) (x := (o.idxOf x : Int)) (by omega) (by omega)
  have hnd := ls_nodup hr
  refine ⟨by omega, by omega, by omega, n1, ?_, ?_⟩
  · have hinj : ∀ y ∈ L, fOf (o ++ [s]) y = fOf (o ++ [s]) x → y = x := by
      intro y hy e
      have hyo : y ∈ o := hp.mem_iff.2 hy
      unfold fOf at e
      rw [idx_mem hyo, idx_mem hxo] at e
      have e' : o.idxOf y = o.idxOf x := by omega
      have h1 : o[o.idxOf y]'(List.idxOf_lt_length_of_mem hyo) = y := List.getElem_idxOf _
      have h2 : o[o.idxOf x]'hix = x := List.getElem_idxOf _
      rw [← h1, ← h2]
      congr 1
    rw [ins_map hinj]
    have e1 : fOf (o ++ [s]) x = (o.idxOf x : Int) := by unfold fOf; rw [idx_mem hxo]
    have e2 : fOf (o ++ [s]) s = (l.length : Int) := by
      unfold fOf
      rw [idx_new hso]
      omega
    have e3 : L.map (fOf (o ++ [s])) = L.map (fOf o) := List.map_congr_left fun y hy => by unfold fOf; rw [idx_mem (hp.mem_iff.2 hy)]
    rw [e1, e2, e3]
    exact n2
  · exact (List.perm_append_singleton s o).trans ((hp.cons s).trans (ins_perm hnd hx s).symm)
end Go.Proofs.Ythjecgmgpnileaa.Bd
