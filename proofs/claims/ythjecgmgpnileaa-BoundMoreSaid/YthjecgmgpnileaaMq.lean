/- Such a map as a datum: what it has; what its turning round fills. -/
import Derived.Test.YthjecgmgpnileaaMp
import Derived.Maps.RangeWalk
import Derived.Maps.OwnOps
import Derived.Maps.Ext
namespace Go.Proofs.Ythjecgmgpnileaa.Bd
open Go.MapKept Go.WideShapes
set_option linter.unusedVariables false
set_option linter.unusedSimpArgs false

noncomputable abbrev PE : Value → Option (DataW Unit × List MemPlace) := plainElem (H := Unit) Try.prog 3
noncomputable def DOf (o : List Int) : DataW Unit := .map (((esOf o).toList.map (WideElems.rg Try.prog 3 PE)).foldr DataW.insert [])
theorem wf_nat {n : Nat} (h : n ≤ 1000000) : wf64 (n : Int) := wf_small (by omega) (by omega)
theorem rd_ent {s : Int} {i : Nat} (hs : wf64 s) (hi : i ≤ 1000000) : WideElems.rd Try.prog 3 PE (ent (s, i)) = some ((.int .i64 s, .lit (.int .i64 (i : Int)))) :=
  WideElems.rd_mk (born := i) (key3 hs) (plainElem_int Try.underlying3 (wf_nat hi))
theorem mem_es {o : List Int} {x : MapEntry} (h : x ∈ (esOf o).toList) : ∃ i, ∃ h : i < o.length, x = ent (o[i], i) := by
  rw [esOf_list, List.mem_map] at h
  obtain ⟨⟨s, i⟩, hp, rfl⟩ := h
  rw [List.mem_zipIdx_iff_getElem?] at hp
  obtain ⟨hi, e⟩ := List.getElem?_eq_some_iff.1 hp
  have e' : o[i] = s := e
  exact ⟨i, hi, by rw [e']⟩
theorem es_mem {o : List Int} {i : Nat} (h : i < o.length) : ent (o[i], i) ∈ (esOf o).toList := by
  rw [esOf_list, List.mem_map]
  exact ⟨(o[i], i), by rw [List.mem_zipIdx_iff_getElem?]; simp [h], rfl⟩
theorem fitOf {o : List Int} (ho : ∀ s ∈ o, wf64 s) (hn : o.Nodup) (hl : o.length ≤ 1000000) : WideElems.Fit Try.prog 3 PE (esOf o) o.length := by
  refine ⟨by simp [esOf, maxLen]; omega, ⟨fun x hx => ?_, by rw [born_list]; exact List.nodup_range, ?_⟩, fun x hx => ?_⟩
  · obtain ⟨i, hi, rfl⟩ := mem_es hx
    exact hi
  · rw [esOf_list, List.map_map]
    have : ((fun e : MapEntry => e.key) ∘ ent) = (fun s : Int => Value.int .i64 s) ∘ Prod.fst := by funext p; rfl
    rw [this, ← List.map_map, List.zipIdx_map_fst]
    exact List.Pairwise.map _ (fun a b h e => h (by simpa using e)) hn
  · obtain ⟨i, hi, rfl⟩ := mem_es hx
    exact ⟨_, rd_ent (ho _ (List.getElem_mem hi)) (by omega)⟩
theorem own_of {w : World} {b : Nat} {o : List Int} (hm : MapAt w b o) (ho : ∀ s ∈ o, wf64 s) (hn : o.Nodup) (hl : o.length ≤ 1000000) : w.ownsMap Try.prog 3 PE b o.length (DOf o) :=
  ⟨esOf o, o.length, hm, fitOf ho hn hl, by simp [esOf], rfl⟩
theorem D_size (o : List Int) : Maps.size (DOf o) = o.length := by
  unfold DOf
  rw [Maps.size_eq, length_read]
  simp [esOf]
theorem D_has {o : List Int} (ho : ∀ s ∈ o, wf64 s) (hl : o.length ≤ 1000000) {kl : Lit} (h : Maps.has (DOf o) kl = true) : ∃ s ∈ o, kl = .int .i64 s := by
  unfold DOf at h
  rw [Maps.has_eq, List.any_eq_true] at h
  obtain ⟨p, hp, hk⟩ := h
  obtain ⟨x, hx, rfl⟩ := List.mem_map.1 (mem_sorted.1 hp)
  obtain ⟨i, hi, rfl⟩ := mem_es hx
  rw [WideElems.rg_of (rd_ent (ho _ (List.getElem_mem hi)) (by omega))] at hk
  exact ⟨o[i], List.getElem_mem hi, (WideAt.sameKey_eq hk).symm⟩
theorem D_at {o : List Int} (ho : ∀ s ∈ o, wf64 s) (hn : o.Nodup) (hl : o.length ≤ 1000000) {s : Int} (hs : s ∈ o) (zd : DataW Unit) : (DOf o).atKey (.int .i64 s) zd = .lit (.int .i64 (o.idxOf s : Int)) := by
  have hi := List.idxOf_lt_length_of_mem hs
  have he : o[o.idxOf s]'hi = s := List.getElem_idxOf _
  have hat := atKey_sorted ((esOf o).toList.map (WideElems.rg Try.prog 3 PE)) (Maps.fit_rising K3 (fitOf ho hn hl)) (.int .i64 s) (K3.key (key3 (ho s hs)))
  have hr : WideElems.rd Try.prog 3 PE (ent (o[o.idxOf s]'hi, o.idxOf s)) = some ((.int .i64 s, .lit (.int .i64 (o.idxOf s : Int)))) := by rw [he]; exact rd_ent (ho s hs) (by omega)
  have := hat.2 (WideElems.rg Try.prog 3 PE (ent (o[o.idxOf s]'hi, o.idxOf s))) (List.mem_map.2 ⟨_, es_mem hi, rfl⟩) (by rw [WideElems.rg_of hr])
  unfold DOf
  rw [this, WideElems.rg_of hr]

/-- What is filled while such a map is gone through: each element's strand. -/
structure Fills (o : List Int) (left : Lit → Bool) (E : DataW Unit) : Prop where
  isMap : Maps.IsMap E
  sub : ∀ kl, left kl = true → Maps.has (DOf o) kl = true
  told : ∀ s ∈ o, left (.int .i64 s) = false → ∀ zd, E.atKey (.int .i64 (o.idxOf s : Int)) zd = .lit (.int .i64 s)
theorem fills0 {o : List Int} (ho : ∀ s ∈ o, wf64 s) (hn : o.Nodup) (hl : o.length ≤ 1000000) : Fills o (Maps.has (DOf o)) (.map []) :=
  ⟨⟨_, rfl⟩, fun _ h => h, fun s hs h => by
    have h1 := D_at ho hn hl hs
    have := Maps.has_true_of_atKey h1
    rw [this] at h
    cases h⟩
theorem idx_inj {o : List Int} {a b : Int} (ha : a ∈ o) (hb : b ∈ o) (h : o.idxOf a = o.idxOf b) : a = b := by
  have h1 : o[o.idxOf a]'(List.idxOf_lt_length_of_mem ha) = a := List.getElem_idxOf _
  have h2 : o[o.idxOf b]'(List.idxOf_lt_length_of_mem hb) = b := List.getElem_idxOf _
  rw [← h1, ← h2]
  congr 1
theorem Fills.step {o : List Int} {left : Lit → Bool} {E : DataW Unit} (h : Fills o left E) (ho : ∀ s ∈ o, wf64 s) (hn : o.Nodup) (hl : o.length ≤ 1000000) {x c : Int} (hx : left (.int .i64 x) = true) (hc : ∀ zd, (DOf o).atKey (.int .i64 x) zd = .lit (.int .i64 c)) :
    x ∈ o ∧ c = (o.idxOf x : Int) ∧ Fills o (fun z => left z && !z.sameKey (.int .i64 x)) (E.put (.int .i64 c) (.lit (.int .i64 x))) := by
  obtain ⟨s, hs, e⟩ := D_has ho hl (h.sub _ hx)
  simp only [Lit.int.injEq, true_and] at e
  subst e
  have hcc : c = (o.idxOf x : Int) := by
    have h1 := hc .nil
    rw [D_at ho hn hl hs] at h1
    simpa using h1.symm
  subst hcc
  refine ⟨hs, rfl, h.isMap.put _ _, fun kl hk => h.sub _ (by simp at hk; exact hk.1), fun s' hs' hleft zd => ?_⟩
  by_cases e : s' = x
  · subst e
    exact Maps.atKey_put_same h.isMap (K3.key (key3 (wf_nat (by have := List.idxOf_lt_length_of_mem hs; omega)))) _ _
  · rw [Maps.atKey_put_other (fun e1 => e (idx_inj hs' hs (by have := (Lit.int.inj e1).2; omega)))]
    refine h.told s' hs' ?_ zd
    have h1 : (Lit.int .i64 s').sameKey (.int .i64 x) = false := Maps.sameKey_ne (fun e1 => e (by simpa using e1))
    simpa [h1] using hleft
end Go.Proofs.Ythjecgmgpnileaa.Bd
