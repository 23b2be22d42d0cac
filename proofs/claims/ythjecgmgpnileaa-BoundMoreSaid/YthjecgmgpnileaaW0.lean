/- Between the words of rows and those of the library's sorts. -/
import Derived.Test.YthjecgmgpnileaaKO
import Derived.Test.YthjecgmgpnileaaSh
import Derived.Lib.OwnBridge
import Derived.Lib.RowBridge
namespace Go.Proofs.Ythjecgmgpnileaa.Bd
open Go.RowKit Go.Sort Go.Lib Go.Shelf Go.Proofs.YthjecgmgpnileaaW.PrintWords Go.Proofs.YthjecgmgpnileaaW.PrintLast Go.Proofs.YthjecgmgpnileaaW.PrintMore
set_option linter.unusedVariables false

theorem R_of_ints {w : World} {base : Nat} {v : Value} {n : Nat} {xs : List Int} (ho : w.ownsRow base 3 1 v n (xs.map (Value.int .i64))) (hn : xs.length = n) : Kd.R (Kd.int .i64) 3 w base (fun _ => True) v xs :=
  Kd.R_of_own (by subst hn; exact ho) (fun _ _ => trivial)
theorem below_grow {B : Nat} {w0 w : World} (h : Go.RowKit.Below B w0 w) (hB : B ≤ w.heap.size) (os : Array Obj) : Go.RowKit.Below B w0 (grow w os) :=
  ⟨h.os, h.tape, h.output, by rw [size_grow]; exact Nat.le_trans h.size (Nat.le_add_right _ _), fun k hk => by rw [heap_grow_old w os (by omega)]; exact h.block k hk⟩
theorem size_putRow {α : Type} [Inhabited α] (enc : α → Value) (w : World) (blk off : Nat) (d : Array α) (n : Nat) : (putRow enc (Sort.ahead w n) blk off d).heap.size = w.heap.size := by simp [putRow, mapBlock, Sort.ahead]
/-- A row of ints, sorted or turned in place. -/
theorem R_put {w : World} {base g cap q : Nat} {zs ys : List Int} (h : Kd.R (Kd.int .i64) 3 w base (fun _ => True) (.slice (some ⟨g, 0, none⟩) zs.length cap) zs) (hy : ys.length = zs.length) :
    Kd.R (Kd.int .i64) 3 (putRow (Value.int .i64) (Sort.ahead w q) g 0 ys.toArray) base (fun _ => True) (.slice (some ⟨g, 0, none⟩) ys.length cap) ys := by
  have h1 := Lib.ownsRow_putRow (enc := Value.int .i64) (q := q) (k := zs.length) (ys := ys) (Kd.own_of_R h) hy (Nat.le_refl _)
  rw [List.take_of_length_le (by omega)] at h1
  rw [hy]
  exact R_of_ints h1 hy
theorem R_grow {w : World} {base : Nat} {v : Value} {ys : List Int} (h : Kd.R (Kd.int .i64) 3 w base (fun _ => True) v ys) (os : Array Obj) : Kd.R (Kd.int .i64) 3 (grow w os) base (fun _ => True) v ys :=
  Kd.R_below h (below_grow (Go.RowKit.Below.refl _ _) (Nat.le_refl _) os)
theorem holds_R {w : World} {base g cap : Nat} {zs : List Int} (h : Kd.R (Kd.int .i64) 3 w base (fun _ => True) (.slice (some ⟨g, 0, none⟩) zs.length cap) zs) : Holds (Value.int .i64) w g 0 zs.toArray ∧ g < w.heap.size ∧ base ≤ g ∧ zs.length ≤ cap := by
  obtain ⟨g', cap', e, h1, h2, h3, h4, h5, h6⟩ := Lib.holds_of_ownsRow (enc := Value.int .i64) (Kd.own_of_R h) (by simp)
  simp only [Value.slice.injEq, Option.some.injEq, Addr.mk.injEq, and_true, true_and] at e
  obtain ⟨rfl, rfl⟩ := e
  exact ⟨h6, h2, h1, h3⟩
theorem below_put {α : Type} [Inhabited α] {enc : α → Value} {B : Nat} {w0 w : World} {g q : Nat} {d : Array α} (h : Go.RowKit.Below B w0 w) (hg : B ≤ g) : Go.RowKit.Below B w0 (putRow enc (Sort.ahead w q) g 0 d) := Lib.below_putRow h hg
theorem compact_nodup {zs : List Int} (h : zs.Nodup) : Lib.compact zs = zs := by
  refine Lib.compact_all zs fun j hj => ?_
  unfold Lib.keeps
  refine decide_eq_true ?_
  by_cases h0 : j = 0
  · exact .inl h0
  · right
    intro e
    have h1 : zs.toArray[j]! = zs[j] := by simp [hj]
    have h2 : zs.toArray[j - 1]! = zs[j - 1] := by rw [getElem!_pos zs.toArray (j - 1) (by simp; omega)]; simp
    rw [h1, h2] at e
    have h3 := List.Nodup.idxOf_getElem h _ hj
    have h4 := List.Nodup.idxOf_getElem h (j - 1) (by omega)
    rw [e, h4] at h3
    omega
theorem compact_sorted {zs : List Int} (h : zs.Nodup) : Lib.compact (zs.mergeSort fun x y => decide (x ≤ y)) = zs.mergeSort fun x y => decide (x ≤ y) :=
  compact_nodup ((List.mergeSort_perm zs _).nodup_iff.2 h)
/-- The places of labels, as numbers of their own kind. -/
def encF (n : Nat) (i : Fin n) : Value := .int .i64 (i.val : Int)
theorem putF {n : Nat} [Inhabited (Fin n)] (w : World) (g : Nat) (d : List (Fin n)) : putRow (encF n) w g 0 d.toArray = putRow (Value.int .i64) w g 0 (d.map fun i => (i.val : Int)).toArray := by
  unfold putRow
  congr 1
  funext c
  unfold putCells
  apply Array.ext_getElem?
  intro k
  simp only [Array.getElem?_mapIdx]
  congr 1
  funext x
  have e : (d.map fun i => (i.val : Int)).toArray.size = d.toArray.size := by simp
  rw [e]
  split
  · rename_i h
    have hk : k - 0 < d.length := by have := h.2; simp at this; omega
    unfold encF
    rw [getElem!_pos d.toArray (k - 0) (by simpa using hk), getElem!_pos (d.map fun i => (i.val : Int)).toArray (k - 0) (by simpa using hk)]
    simp
  · rfl
theorem holdsF {n : Nat} [Inhabited (Fin n)] {w : World} {g : Nat} {d : List (Fin n)} (h : Holds (Value.int .i64) w g 0 (d.map fun i => (i.val : Int)).toArray) : Holds (encF n) w g 0 d.toArray := by
  intro j hj
  have hj' : j < d.length := by simpa using hj
  have h1 := h j (by simpa using hj')
  refine ⟨?_, h1.2⟩
  rw [h1.1]
  unfold encF
  rw [getElem!_pos d.toArray j (by simpa using hj'), getElem!_pos (d.map fun i => (i.val : Int)).toArray j (by simpa using hj')]
  simp
def cmpF (l : List Int) {n : Nat} (i j : Fin n) : Int := Lib.compareInt (at0 l (i.val : Int)) (at0 l (j.val : Int))
theorem ltF (l : List Int) {n : Nat} (i j : Fin n) : ltOf (cmpF l) i j = decide (at0 l (i.val : Int) < at0 l (j.val : Int)) := by
  unfold ltOf cmpF Lib.compareInt
  by_cases h1 : at0 l (i.val : Int) < at0 l (j.val : Int)
  · simp [h1]
  · by_cases h2 : at0 l (j.val : Int) < at0 l (i.val : Int) <;> simp [h1, h2]
theorem swoF (l : List Int) (n : Nat) : SWO (ltOf (cmpF l (n := n))) where
  irrefl x := by rw [ltF]; simp
  trans x y z h1 h2 := by rw [ltF] at *; simp at *; omega
  ntrans x y z h1 h2 := by rw [ltF] at *; simp at *; omega
theorem totF {l : List Int} (hl : l.Nodup) {n : Nat} (hn : n = l.length) (x y : Fin n) (h1 : ltOf (cmpF l) x y = false) (h2 : ltOf (cmpF l) y x = false) : x = y := by
  rw [ltF] at h1 h2
  simp at h1 h2
  have hx := x.isLt
  have hy := y.isLt
  have := at0_inj hl (i := (x.val : Int)) (j := (y.val : Int)) ⟨by omega, by omega⟩ ⟨by omega, by omega⟩ (by omega)
  exact Fin.ext (by omega)
/-- What the sort makes of the places is the labels' row. -/
theorem sort_row {l : List Int} (hl : l.Nodup) {n : Nat} (hn : n = l.length) : IsRow l (((List.finRange n).mergeSort fun x y => !(ltOf (cmpF l)) y x).map fun i => (i.val : Int)) := by
  have hle : (fun x y : Fin n => !(ltOf (cmpF l)) y x) = fun x y => decide (at0 l (x.val : Int) ≤ at0 l (y.val : Int)) := by
    funext x y
    rw [ltF]
    by_cases h : at0 l (x.val : Int) ≤ at0 l (y.val : Int)
    · have h' : ¬ at0 l (y.val : Int) < at0 l (x.val : Int) := by omega
      simp [h, h']
    · have h' : at0 l (y.val : Int) < at0 l (x.val : Int) := by omega
      simp [h, h']
  rw [hle]
  have hp := List.mergeSort_perm (List.finRange n) fun x y => decide (at0 l (x.val : Int) ≤ at0 l (y.val : Int))
  have hr : ((List.finRange n).map fun i => (i.val : Int)) = ints l.length := by
    unfold ints
    rw [← hn]
    apply List.ext_getElem
    · simp
    · intro i h1 h2; simp
  refine ⟨by rw [← hr]; exact hp.map _, ?_⟩
  have hs := List.pairwise_mergeSort (le := fun x y : Fin n => decide (at0 l (x.val : Int) ≤ at0 l (y.val : Int))) (fun a b c h1 h2 => by simp at *; omega) (fun a b => by simp; omega) (List.finRange n)
  have hnd : ((List.finRange n).mergeSort fun x y => decide (at0 l (x.val : Int) ≤ at0 l (y.val : Int))).Nodup := hp.nodup_iff.2 (List.nodup_finRange n)
  rw [List.pairwise_map]
  refine (hs.and hnd).imp fun {x y} h => ?_
  have h1 : at0 l (x.val : Int) ≤ at0 l (y.val : Int) := by simpa using h.1
  rcases Int.lt_or_eq_of_le h1 with h2 | h2
  · exact h2
  · have hx := x.isLt
    have hy := y.isLt
    have := at0_inj hl (i := (x.val : Int)) (j := (y.val : Int)) ⟨by omega, by omega⟩ ⟨by omega, by omega⟩ h2
    exact absurd (Fin.ext (by omega)) h.2
theorem sortWorld_keep {α : Type} [Inhabited α] {enc : α → Value} {w : World} {g off q : Nat} {d : Array α} {os : Array Obj} {k : Nat} (hk : k < w.heap.size) (hne : k ≠ g) : (sortWorld enc w g off q d os).heap[k]? = w.heap[k]? := by
  unfold sortWorld
  rw [heap_grow_old _ _ (by rw [size_putRow]; exact hk)]
  simp [putRow, mapBlock, Sort.ahead, Array.getElem?_modify, show g ≠ k from fun e => hne e.symm]
end Go.Proofs.Ythjecgmgpnileaa.Bd
