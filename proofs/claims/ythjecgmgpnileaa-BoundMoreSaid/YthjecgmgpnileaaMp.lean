/- A map of which the i-th entry that was put has the value i: its block written out; looked up, and an entry more. -/
import Derived.Test.YthjecgmgpnileaaKO
import Derived.Maps.Range
import Derived.Maps.OwnSet
import Derived.WideKeyEntry
namespace Go.Proofs.Ythjecgmgpnileaa.Bd
open Go.RowKit Go.MapKept Go.ChangeMaps Go.WideElems
set_option linter.unusedVariables false
set_option linter.unusedSimpArgs false

theorem K3 : Maps.Keyed Try.prog 3 := Maps.int_keyed Try.underlying3
theorem zero3 (w : World) : (zeroValue 3).run Try.prog w = .ok (.int .i64 0) w := by kernel_rfl
def ent (p : Int × Nat) : MapEntry := ⟨.int .i64 p.1, .int .i64 (p.2 : Int), p.2⟩
def esOf (o : List Int) : Array MapEntry := (o.zipIdx.map ent).toArray
def MapAt (w : World) (b : Nat) (o : List Int) : Prop := w.heap[b]? = some (.map (esOf o) o.length)
theorem esOf_push (o : List Int) (s : Int) : esOf (o ++ [s]) = (esOf o).push (ent (s, o.length)) := by
  apply Array.ext'
  simp [esOf, List.zipIdx_append]
theorem esOf_list (o : List Int) : (esOf o).toList = o.zipIdx.map ent := by simp [esOf]
def wf64 (s : Int) : Prop := (Lit.int .i64 s).wf = true
theorem key3 {s : Int} (h : wf64 s) : keyOf Try.prog 3 (.int .i64 s) = some (.int .i64 s) := Maps.keyOf_int_mk Try.underlying3 h
theorem wf_small {s : Int} (h0 : 0 ≤ s) (h1 : s ≤ 1000000) : wf64 s :=
   WalkArith.wf_i64 (by omega)
theorem esOf_keys {o : List Int} (h : ∀ s ∈ o, wf64 s) : ∀ e ∈ (esOf o).toList, ∃ l, keyOf Try.prog 3 e.key = some l := by
  intro e he
  rw [esOf_list, List.mem_map] at he
  obtain ⟨p, hp, rfl⟩ := he
  exact ⟨_, key3 (h p.1 (List.fst_mem_of_mem_zipIdx hp))⟩
theorem map_look {w : World} {b : Nat} {o : List Int} {s : Int} (hm : MapAt w b o) (ho : ∀ s ∈ o, wf64 s) (hn : o.Nodup) (hs : s ∈ o) :
    (Instr.lookup 83 (.map (some b)) (.int .i64 s) false).run Try.prog w = .ok (.int .i64 (o.idxOf s : Int)) w := by
  have hk := key3 (ho s hs)
  rcases K3.find w hk (esOf o).toList (esOf_keys ho) with ⟨h1, h2⟩ | ⟨j, e0, h1, h2, h3⟩
  · exfalso
    obtain ⟨i, hi, e⟩ := List.getElem_of_mem hs
    refine h2 (ent (s, i)) ?_ rfl
    rw [esOf_list]
    exact List.mem_map.2 ⟨(s, i), by rw [List.mem_zipIdx_iff_getElem?]; simp [← e, hi], rfl⟩
  · have hj : o[j]? = some s ∧ e0.val = .int .i64 (j : Int) := by
      rw [esOf_list] at h2
      simp only [List.getElem?_map, List.getElem?_zipIdx, Option.map_map, Option.map_eq_some_iff] at h2
      obtain ⟨x, hx, e⟩ := h2
      subst e
      simp [ent] at h3
      subst h3
      exact ⟨hx, by simp [ent]⟩
    obtain ⟨hjl, hje⟩ := List.getElem?_eq_some_iff.1 hj.1
    have hix : o.idxOf s = j := by rw [← hje]; exact List.Nodup.idxOf_getElem hn j hjl
    rw [hj.2] at h1
    rw [hix]
    simp [Instr.lookup, run_underlying Try.underlying83, MapKept.run_getObj_map hm, K3.check w _ hk, h1, Result.andThen]
theorem esOf_new {o : List Int} {s : Int} (hs : s ∉ o) : ∀ e ∈ (esOf o).toList, e.key ≠ .int .i64 s := by
  intro e he h
  rw [esOf_list, List.mem_map] at he
  obtain ⟨p, hp, rfl⟩ := he
  simp [ent] at h
  exact hs (h ▸ List.fst_mem_of_mem_zipIdx hp)
theorem map_find {w : World} {o : List Int} {s : Int} (ho : ∀ s ∈ o, wf64 s) (hw : wf64 s) (hs : s ∉ o) : (Instr.findKey 3 (.int .i64 s) (esOf o).toList).run Try.prog w = .ok none w := by
  rcases K3.find w (key3 hw) (esOf o).toList (esOf_keys ho) with ⟨h1, h2⟩ | ⟨j, e0, h1, h2, h3⟩
  · exact h1
  · exact absurd h3 (esOf_new hs e0 (List.mem_of_getElem? h2))
def half (o : List Int) (s : Int) : Obj := .map ((esOf o).push ⟨.int .i64 s, .int .i64 0, o.length⟩) (o.length + 1)
theorem map_entry {w : World} {b : Nat} {o : List Int} {s : Int} (hm : MapAt w b o) (ho : ∀ s ∈ o, wf64 s) (hw : wf64 s) (hs : s ∉ o) :
    (Instr.mapEntry 83 (.map (some b)) (.int .i64 s)).run Try.prog w = .ok (.tuple #[.int .i64 0, goInt o.length]) (setBlock w b (half o s)) := by
  simp [Instr.mapEntry, run_underlying Try.underlying83, MapKept.run_getObj_map hm, K3.check w false (key3 hw), map_find ho hw hs, zero3, MapKept.run_setObj_map _ hm, Result.andThen, setBlock, half]
theorem born_list (o : List Int) : (esOf o).toList.map (·.born) = List.range o.length := by
  rw [esOf_list, List.map_map]
  have : ((fun e : MapEntry => e.born) ∘ ent) = Prod.snd := by funext p; rfl
  rw [this, List.zipIdx_map_snd, List.range_eq_range']
theorem map_store {w : World} {b : Nat} {o : List Int} {s : Int} (hm : w.heap[b]? = some (half o s)) (val : Value) :
    (Instr.entryStore 83 (.map (some b)) (goInt o.length) val).run Try.prog w = .ok () (setBlock w b (.map ((esOf o).push ⟨.int .i64 s, val, o.length⟩) (o.length + 1))) := by
  have hsz : (esOf o).size = o.length := by simp [esOf]
  have hidx : ((esOf o).push ⟨.int .i64 s, .int .i64 0, o.length⟩).findIdx? (fun e => ((e.born : Nat) : Int) == ((o.length : Nat) : Int)) = some (esOf o).size := by
    rw [findIdx_arr]
    have := findIdx_born (l := ((esOf o).push ⟨.int .i64 s, .int .i64 0, o.length⟩).toList) (j := (esOf o).size) (e0 := ⟨.int .i64 s, .int .i64 0, o.length⟩) (by
      simp only [Array.toList_push, List.map_append, List.map_cons, List.map_nil, born_list]
      refine List.nodup_append.2 ⟨List.nodup_range, by simp, fun a ha c hc e1 => ?_⟩
      simp only [List.mem_singleton] at hc
      have := List.mem_range.1 ha
      omega) (by simp)
    exact this
  have hmod : ((esOf o).push ⟨.int .i64 s, .int .i64 0, o.length⟩).modify (esOf o).size (fun e => { e with val := val }) = (esOf o).push ⟨.int .i64 s, val, o.length⟩ := by
    apply Array.ext'
    rw [Array.toList_modify, Array.toList_push, Array.toList_push, ← Array.length_toList, modify_last]
  unfold half at hm
  simp [Instr.entryStore, MapKept.run_getObj_map hm, asInt, asIntOf, goInt, hidx, hmod, MapKept.run_setObj_map _ hm, Result.andThen, setBlock]
theorem push_is (o : List Int) (s : Int) : Obj.map ((esOf o).push ⟨.int .i64 s, .int .i64 (o.length : Int), o.length⟩) (o.length + 1) = .map (esOf (o ++ [s])) (o ++ [s]).length := by
  rw [esOf_push]
  simp [ent]
theorem map_set {w : World} {b : Nat} {o : List Int} {s : Int} (h : b < w.heap.size) : MapAt (setBlock w b (.map ((esOf o).push ⟨.int .i64 s, .int .i64 (o.length : Int), o.length⟩) (o.length + 1))) b (o ++ [s]) := by
  unfold MapAt
  rw [push_is]
  simp [setBlock, h]
theorem map_upd {w : World} {b : Nat} {o : List Int} {s : Int} (hm : MapAt w b o) (ho : ∀ s ∈ o, wf64 s) (hw : wf64 s) (hs : s ∉ o) (val : Value) :
    (Instr.mapUpdate 83 (.map (some b)) (.int .i64 s) val).run Try.prog w = .ok () (setBlock w b (.map ((esOf o).push ⟨.int .i64 s, val, o.length⟩) (o.length + 1))) := by
  simp [Instr.mapUpdate, run_underlying Try.underlying83, MapKept.run_getObj_map hm, K3.check w false (key3 hw), map_find ho hw hs, MapKept.run_setObj_map _ hm, Result.andThen, setBlock]
theorem setBlock_heap {w : World} {b k : Nat} {x : Obj} (h : k ≠ b) : (setBlock w b x).heap[k]? = w.heap[k]? := by
  have h' : ¬ b = k := fun e => h e.symm
  simp [setBlock, Array.getElem?_setIfInBounds, h']
theorem setBlock_below {B : Nat} {w0 w : World} {b : Nat} (h : Go.RowKit.Below B w0 w) (hb : B ≤ b) (x : Obj) : Go.RowKit.Below B w0 (setBlock w b x) :=
  ⟨h.os, h.tape, h.output, by have := h.size; simpa [setBlock] using this, fun k hk => (setBlock_heap (by omega)).trans (h.block k hk)⟩
end Go.Proofs.Ythjecgmgpnileaa.Bd
