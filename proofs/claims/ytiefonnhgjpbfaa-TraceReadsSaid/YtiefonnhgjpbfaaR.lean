/- Events that come in, read: a slice of events as a list of them, each number of its kind. -/
import Derived.Test.YtiefonnhgjpbfaaC12
import Derived.Test.YtiefonnhgjpbfaaRows
import Derived.ProofKit
import Derived.OpenShut
import Derived.Deep.Slices
import Derived.Below
import Derived.SizedLaws
import Derived.ChangeOld
import Derived.ShutString
namespace Go.Proofs.Ytiefonnhgjpbfaa.Tr
open Go.ChangeShapes Go.WideShapes Go.ChangeAt Go.RowKit
open Go.Proofs.YtiefonnhgjpbfaaW.PrintWords
set_option linter.unusedVariables false

theorem wf_i64 {n : Int} (h : (Lit.int .i64 n).wf = true) : I64 n := by
  simp only [Lit.wf, Bool.and_eq_true, decide_eq_true_eq] at h
  have h1 : IntKind.i64.min = -9223372036854775808 := rfl
  have h2 : IntKind.i64.max = 9223372036854775807 := rfl
  unfold I64
  omega
theorem cellsOf48 : Try.prog.cellsOf 48 = 8 := by kernel_rfl
theorem cellsOf44 : Try.prog.cellsOf 44 = 4 := by kernel_rfl
theorem cellsOf46 : Try.prog.cellsOf 46 = 2 := by kernel_rfl
theorem cellsOf3 : Try.prog.cellsOf 3 = 1 := by kernel_rfl
theorem cellsOf4 : Try.prog.cellsOf 4 = 1 := by kernel_rfl
theorem one_int {H : Type} {enc : TypeId × Value → H} {W : World} {base : Nat} {sp : Nat → Bool} {hd : Bool} {n : Nat} {c : Value} {o : Option (DataW H × List MemPlace)} (h : DataW.trod enc Try.prog W base sp hd n 3 [c] = o) (hs : o.isSome = true) : ∃ z, c = .int .i64 z ∧ I64 z := by
  cases o with
  | none => exact absurd hs (by simp)
  | some y =>
    obtain ⟨z, hz, -, hw⟩ := DataW.trod_int Try.underlying3 h
    exact ⟨z, by simpa using hz, wf_i64 hw⟩
theorem one_bool {H : Type} {enc : TypeId × Value → H} {W : World} {base : Nat} {sp : Nat → Bool} {hd : Bool} {n : Nat} {c : Value} {o : Option (DataW H × List MemPlace)} (h : DataW.trod enc Try.prog W base sp hd n 4 [c] = o) (hs : o.isSome = true) : ∃ z, c = .bool z := by
  cases o with
  | none => exact absurd hs (by simp)
  | some y =>
    obtain ⟨z, hz, -⟩ := DataW.trod_bool Try.underlying4 h
    exact ⟨z, by simpa using hz⟩
theorem at_some {α : Type} {l : List α} {n i : Nat} (h : l.length = n) (hi : i < n) : (l[i]?).isSome = true := by
  rw [List.getElem?_eq_getElem (by omega)]; rfl
theorem acc_of_trod {H : Type} {enc : TypeId × Value → H} {W : World} {base : Nat} {sp : Nat → Bool} {hd : Bool} {fuel : Nat} {c0 c1 c2 c3 : Value} {o : Option (DataW H × List MemPlace)} (h : DataW.trod enc Try.prog W base sp hd fuel 44 [c0, c1, c2, c3] = o) (hs : o.isSome = true) :
    ∃ a b c d, c0 = .int .i64 a ∧ c1 = .int .i64 b ∧ c2 = .int .i64 c ∧ c3 = .int .i64 d ∧ I64 a ∧ I64 b ∧ I64 c ∧ I64 d := by
  cases o with
  | none => exact absurd hs (by simp)
  | some x =>
  obtain ⟨xs, n, rfl, rfl, hl, hs, hf⟩ := DataW.trod_struct Try.underlying44 h
  have hs4 : xs.length = 4 := hs
  have e0 : DataW.trod enc Try.prog W base sp hd n 3 (List.take (Try.prog.cellsOf 3) (List.drop 0 [c0, c1, c2, c3])) = xs[0]? := hf 0 _ rfl
  rw [cellsOf3] at e0
  have e1 : DataW.trod enc Try.prog W base sp hd n 3 (List.take (Try.prog.cellsOf 3) (List.drop 1 [c0, c1, c2, c3])) = xs[1]? := hf 1 _ rfl
  rw [cellsOf3] at e1
  have e2 : DataW.trod enc Try.prog W base sp hd n 3 (List.take (Try.prog.cellsOf 3) (List.drop 2 [c0, c1, c2, c3])) = xs[2]? := hf 2 _ rfl
  rw [cellsOf3] at e2
  have e3 : DataW.trod enc Try.prog W base sp hd n 3 (List.take (Try.prog.cellsOf 3) (List.drop 3 [c0, c1, c2, c3])) = xs[3]? := hf 3 _ rfl
  rw [cellsOf3] at e3
  obtain ⟨a, rfl, ha⟩ := one_int e0 (at_some hs4 (by omega))
  obtain ⟨b, rfl, hb⟩ := one_int e1 (at_some hs4 (by omega))
  obtain ⟨c, rfl, hc⟩ := one_int e2 (at_some hs4 (by omega))
  obtain ⟨d, rfl, hd⟩ := one_int e3 (at_some hs4 (by omega))
  exact ⟨a, b, c, d, rfl, rfl, rfl, rfl, ha, hb, hc, hd⟩
theorem res_of_trod {H : Type} {enc : TypeId × Value → H} {W : World} {base : Nat} {sp : Nat → Bool} {hd : Bool} {fuel : Nat} {c0 c1 : Value} {o : Option (DataW H × List MemPlace)} (h : DataW.trod enc Try.prog W base sp hd fuel 46 [c0, c1] = o) (hs : o.isSome = true) :
    ∃ a b, c0 = .int .i64 a ∧ c1 = .bool b ∧ I64 a := by
  cases o with
  | none => exact absurd hs (by simp)
  | some x =>
  obtain ⟨xs, n, rfl, rfl, hl, hs, hf⟩ := DataW.trod_struct Try.underlying46 h
  have hs4 : xs.length = 2 := hs
  have e0 : DataW.trod enc Try.prog W base sp hd n 3 (List.take (Try.prog.cellsOf 3) (List.drop 0 [c0, c1])) = xs[0]? := hf 0 _ rfl
  rw [cellsOf3] at e0
  have e1 : DataW.trod enc Try.prog W base sp hd n 4 (List.take (Try.prog.cellsOf 4) (List.drop 1 [c0, c1])) = xs[1]? := hf 1 _ rfl
  rw [cellsOf4] at e1
  obtain ⟨a, rfl, ha⟩ := one_int e0 (at_some hs4 (by omega))
  obtain ⟨b, rfl⟩ := one_bool e1 (at_some hs4 (by omega))
  exact ⟨a, b, rfl, rfl, ha⟩
theorem ev_of_trod {H : Type} {enc : TypeId × Value → H} {W : World} {base : Nat} {sp : Nat → Bool} {hd : Bool} {fuel : Nat} {cs : List Value} {x : DataW H × List MemPlace} (h : DataW.trod enc Try.prog W base sp hd fuel 48 cs = some x) :
    ∃ y : S48, cs = [.int .i64 y.f0, .int .i64 y.f1, .int .i64 y.f2.f0, .int .i64 y.f2.f1, .int .i64 y.f2.f2, .int .i64 y.f2.f3, .int .i64 y.f3.f0, .bool y.f3.f1] ∧ EvOk y := by
  obtain ⟨xs, n, rfl, rfl, hl, hs, hf⟩ := DataW.trod_struct Try.underlying48 h
  rw [cellsOf48] at hl
  have hs4 : xs.length = 4 := hs
  match cs, hl with
  | [c0, c1, c2, c3, c4, c5, c6, c7], _ =>
    have e0 : DataW.trod enc Try.prog W base sp hd n 3 (List.take (Try.prog.cellsOf 3) (List.drop 0 [c0, c1, c2, c3, c4, c5, c6, c7])) = xs[0]? := hf 0 _ rfl
    rw [cellsOf3] at e0
    have e1 : DataW.trod enc Try.prog W base sp hd n 3 (List.take (Try.prog.cellsOf 3) (List.drop 1 [c0, c1, c2, c3, c4, c5, c6, c7])) = xs[1]? := hf 1 _ rfl
    rw [cellsOf3] at e1
    have e2 : DataW.trod enc Try.prog W base sp hd n 44 (List.take (Try.prog.cellsOf 44) (List.drop 2 [c0, c1, c2, c3, c4, c5, c6, c7])) = xs[2]? := hf 2 _ rfl
    rw [cellsOf44] at e2
    have e3 : DataW.trod enc Try.prog W base sp hd n 46 (List.take (Try.prog.cellsOf 46) (List.drop 6 [c0, c1, c2, c3, c4, c5, c6, c7])) = xs[3]? := hf 3 _ rfl
    rw [cellsOf46] at e3
    obtain ⟨a, rfl, ha⟩ := one_int e0 (at_some hs4 (by omega))
    obtain ⟨b, rfl, hb⟩ := one_int e1 (at_some hs4 (by omega))
    obtain ⟨k, ce, od, nw, rfl, rfl, rfl, rfl, g0, g1, g2, g3⟩ := acc_of_trod e2 (at_some hs4 (by omega))
    obtain ⟨v, o, rfl, rfl, hv⟩ := res_of_trod e3 (at_some hs4 (by omega))
    refine ⟨⟨a, b, ⟨k, ce, od, nw⟩, ⟨v, o⟩⟩, rfl, ?_⟩
    intro m hm
    simp only [nev, List.mem_cons, List.not_mem_nil, or_false] at hm
    rcases hm with rfl | rfl | rfl | rfl | rfl | rfl | rfl | rfl <;> try assumption
    cases o
    · show I64 0; unfold I64; omega
    · show I64 1; unfold I64; omega
instance : Inhabited S48 := ⟨z48⟩
/-- A slice of events that came in: the events it holds. -/
theorem events_of {H : Type} {enc : TypeId × Value → H} {W : World} {hd : Bool} {fuel : Nat} {a : Option Addr} {len cap : Nat} {x : DataW H × List MemPlace} (h : DataW.trod enc Try.prog W 0 (fun _ => true) hd fuel 22 [.slice a len cap] = some x) :
    ∃ l : List S48, l.length = len ∧ len ≤ cap ∧ Kd.C k48 W a len l ∧ ∀ y ∈ l, EvOk y := by
  rcases Go.Deep.open_slice Try.underlying22 h with ⟨hcs, _⟩ | ⟨b, n, c, m, q, D, Pl, hcs, _, hl, hcap, hm, _, hx⟩
  · simp only [List.cons.injEq, Value.slice.injEq, and_true] at hcs
    obtain ⟨rfl, rfl, rfl⟩ := hcs
    exact ⟨[], rfl, Nat.le_refl _, ⟨rfl, Nat.zero_le _, fun h => absurd h (Nat.lt_irrefl _)⟩, by simp⟩
  · simp only [List.cons.injEq, Value.slice.injEq, and_true] at hcs
    obtain ⟨rfl, rfl, rfl⟩ := hcs
    rw [if_pos rfl] at hm
    subst hm
    obtain ⟨f, hf⟩ := Go.Deep.choose_lt (α := S48) (n := m) (p := fun i y => W.cells? 0 (b.add (i * 8)) 8 = some [.int .i64 y.f0, .int .i64 y.f1, .int .i64 y.f2.f0, .int .i64 y.f2.f1, .int .i64 y.f2.f2, .int .i64 y.f2.f3, .int .i64 y.f3.f0, .bool y.f3.f1] ∧ EvOk y) (fun i hi => by
      obtain ⟨cs', h1, h2⟩ := hx i hi
      rw [cellsOf48] at h1
      obtain ⟨y, rfl, hy⟩ := ev_of_trod h2
      exact ⟨y, h1, hy⟩)
    refine ⟨(List.range len).map f, by simp, hl, ?_, ?_⟩
    · refine ⟨by simp, Nat.le_trans hl (Nat.le_trans hcap (by decide)), fun _ => ⟨b, rfl, fun j p hj => ?_⟩⟩
      have hj' : j < len := by
        rcases Nat.lt_or_ge j len with h | h
        · exact h
        · rw [List.getElem?_eq_none (by simpa using h)] at hj; cases hj
      rw [List.getElem?_map, List.getElem?_range hj'] at hj
      simp only [Option.map_some, Option.some.injEq] at hj
      subst hj
      refine ⟨_, rfl, k48_mk W (f j), fun i u hu => ?_⟩
      obtain ⟨_, h2, h3⟩ := World.cells?_some (hf j (by omega)).1
      have hi : i < 8 := by
        rcases Nat.lt_or_ge i 8 with h | h
        · exact h
        · rw [List.getElem?_eq_none (by simpa using h)] at hu; cases hu
      have := h3 i hi
      rw [Go.Deep.add_add, hu] at this
      exact this
    · intro y hy
      obtain ⟨i, hi, rfl⟩ := List.mem_map.1 hy
      exact (hf i (by have := List.mem_range.1 hi; omega)).2
end Go.Proofs.Ytiefonnhgjpbfaa.Tr
