/- Elisions that come in, read: their uses and splits as lists. -/
import Derived.Test.YthjecgmgpnileaaKO
import Derived.Test.YthjecgmgpnileaaRows
import Derived.ProofKit
import Derived.OpenShut
import Derived.Deep.Slices
import Derived.Below
import Derived.SizedLaws
import Derived.ChangeOld
import Derived.ChangeSlices
import Derived.ShutString
namespace Go.Proofs.Ythjecgmgpnileaa.Bd
open Go.ChangeShapes Go.WideShapes Go.ChangeAt Go.RowKit
open Go.Proofs.YthjecgmgpnileaaW.PrintWords
set_option linter.unusedVariables false

theorem cellsOf22 : Try.prog.cellsOf 22 = 1 := by kernel_rfl
theorem cellsOf3 : Try.prog.cellsOf 3 = 1 := by kernel_rfl
theorem cellsOf4 : Try.prog.cellsOf 4 = 1 := by kernel_rfl
theorem cellsOf23 : Try.prog.cellsOf 23 = 1 := by kernel_rfl
theorem cellsOf24 : Try.prog.cellsOf 24 = 1 := by kernel_rfl
theorem cellsOf25 : Try.prog.cellsOf 25 = 1 := by kernel_rfl
theorem cellsOf26 : Try.prog.cellsOf 26 = 1 := by kernel_rfl
theorem cellsOf27 : Try.prog.cellsOf 27 = 1 := by kernel_rfl
theorem cellsOf44 : Try.prog.cellsOf 44 = 4 := by kernel_rfl
theorem cellsOf46 : Try.prog.cellsOf 46 = 10 := by kernel_rfl
theorem cellsOf53 : Try.prog.cellsOf 53 = 5 := by kernel_rfl
theorem cellsOf29 : Try.prog.cellsOf 29 = 11 := by kernel_rfl
theorem cellsOf42 : Try.prog.cellsOf 42 = 9 := by kernel_rfl
theorem cellsOf47 : Try.prog.cellsOf 47 = 1 := by kernel_rfl
theorem cellsOf5 : Try.prog.cellsOf 5 = 1 := by kernel_rfl
theorem one_int3 {H : Type} {enc : TypeId × Value → H} {W : World} {base : Nat} {sp : Nat → Bool} {hd : Bool} {n : Nat} {c : Value} {o : Option (DataW H × List MemPlace)} (h : DataW.trod enc Try.prog W base sp hd n 3 [c] = o) (hs : o.isSome = true) : ∃ z, c = .int .i64 z ∧ (Lit.int .i64 z).wf = true := by
  cases o with
  | none => exact absurd hs (by simp)
  | some y =>
    obtain ⟨z, hz, -, hw⟩ := DataW.trod_int Try.underlying3 h
    exact ⟨z, by simpa using hz, hw⟩
theorem one_int22 {H : Type} {enc : TypeId × Value → H} {W : World} {base : Nat} {sp : Nat → Bool} {hd : Bool} {n : Nat} {c : Value} {o : Option (DataW H × List MemPlace)} (h : DataW.trod enc Try.prog W base sp hd n 22 [c] = o) (hs : o.isSome = true) : ∃ z, c = .int .i64 z ∧ (Lit.int .i64 z).wf = true := by
  cases o with
  | none => exact absurd hs (by simp)
  | some y =>
    obtain ⟨z, hz, -, hw⟩ := DataW.trod_int Try.underlying22 h
    exact ⟨z, by simpa using hz, hw⟩
theorem one_int47 {H : Type} {enc : TypeId × Value → H} {W : World} {base : Nat} {sp : Nat → Bool} {hd : Bool} {n : Nat} {c : Value} {o : Option (DataW H × List MemPlace)} (h : DataW.trod enc Try.prog W base sp hd n 47 [c] = o) (hs : o.isSome = true) : ∃ z, c = .int .u16 z ∧ (Lit.int .u16 z).wf = true := by
  cases o with
  | none => exact absurd hs (by simp)
  | some y =>
    obtain ⟨z, hz, -, hw⟩ := DataW.trod_int Try.underlying47 h
    exact ⟨z, by simpa using hz, hw⟩
theorem one_bool {H : Type} {enc : TypeId × Value → H} {W : World} {base : Nat} {sp : Nat → Bool} {hd : Bool} {n : Nat} {c : Value} {o : Option (DataW H × List MemPlace)} (h : DataW.trod enc Try.prog W base sp hd n 4 [c] = o) (hs : o.isSome = true) : ∃ z, c = .bool z := by
  cases o with
  | none => exact absurd hs (by simp)
  | some y =>
    obtain ⟨z, hz, -⟩ := DataW.trod_bool Try.underlying4 h
    exact ⟨z, by simpa using hz⟩
theorem one_slice {H : Type} {enc : TypeId × Value → H} {W : World} {base : Nat} {sp : Nat → Bool} {hd : Bool} {n : Nat} {t e : TypeId} (ht : Try.prog.underlying t = some (.slice e)) {c : Value} {o : Option (DataW H × List MemPlace)} (h : DataW.trod enc Try.prog W base sp hd n t [c] = o) (hs : o.isSome = true) : ∃ s : SlV, c = .slice s.1 s.2.1 s.2.2 := by
  cases o with
  | none => exact absurd hs (by simp)
  | some y =>
    rcases Go.Deep.open_slice ht h with ⟨hcs, _⟩ | ⟨b, len, cap, m, q, D, Pl, hcs, _⟩
    · simp only [List.cons.injEq, and_true] at hcs
      exact ⟨(none, 0, 0), hcs⟩
    · simp only [List.cons.injEq, and_true] at hcs
      exact ⟨(some b, len, cap), hcs⟩
theorem at_some {α : Type} {l : List α} {n i : Nat} (h : l.length = n) (hi : i < n) : (l[i]?).isSome = true := by
  rw [List.getElem?_eq_getElem (by omega)]; rfl
theorem wf_i {n : Int} (h : (Lit.int .i64 n).wf = true) : -9223372036854775808 ≤ n ∧ n ≤ 9223372036854775807 := by
  simp only [Lit.wf, Bool.and_eq_true, decide_eq_true_eq] at h
  have h1 : IntKind.i64.min = -9223372036854775808 := rfl
  have h2 : IntKind.i64.max = 9223372036854775807 := rfl
  omega
theorem wf_h {n : Int} (h : (Lit.int .u16 n).wf = true) : 0 ≤ n ∧ n ≤ 65535 := by
  simp only [Lit.wf, Bool.and_eq_true, decide_eq_true_eq] at h
  have h1 : IntKind.u16.min = 0 := rfl
  have h2 : IntKind.u16.max = 65535 := rfl
  omega
theorem wf_b {n : Int} (h : (Lit.int .u8 n).wf = true) : 0 ≤ n ∧ n ≤ 255 := by
  simp only [Lit.wf, Bool.and_eq_true, decide_eq_true_eq] at h
  have h1 : IntKind.u8.min = 0 := rfl
  have h2 : IntKind.u8.max = 255 := rfl
  omega
theorem op_of {H : Type} {enc : TypeId × Value → H} {W : World} {base : Nat} {sp : Nat → Bool} {hd : Bool} {n : Nat} {c0 c1 c2 c3 : Value} {o : Option (DataW H × List MemPlace)} (h : DataW.trod enc Try.prog W base sp hd n 44 [c0, c1, c2, c3] = o) (hs : o.isSome = true) : ∃ a b c d, c0 = .int .i64 a ∧ c1 = .int .i64 b ∧ c2 = .int .i64 c ∧ c3 = .int .i64 d := by
  cases o with
  | none => exact absurd hs (by simp)
  | some x =>
  obtain ⟨xs, m, rfl, rfl, hl, hs, hf⟩ := DataW.trod_struct Try.underlying44 h
  have hs4 : xs.length = 4 := hs
  have e0 : DataW.trod enc Try.prog W base sp hd m 3 (List.take (Try.prog.cellsOf 3) (List.drop 0 [c0, c1, c2, c3])) = xs[0]? := hf 0 _ rfl
  rw [cellsOf3] at e0
  have e1 : DataW.trod enc Try.prog W base sp hd m 3 (List.take (Try.prog.cellsOf 3) (List.drop 1 [c0, c1, c2, c3])) = xs[1]? := hf 1 _ rfl
  rw [cellsOf3] at e1
  have e2 : DataW.trod enc Try.prog W base sp hd m 3 (List.take (Try.prog.cellsOf 3) (List.drop 2 [c0, c1, c2, c3])) = xs[2]? := hf 2 _ rfl
  rw [cellsOf3] at e2
  have e3 : DataW.trod enc Try.prog W base sp hd m 3 (List.take (Try.prog.cellsOf 3) (List.drop 3 [c0, c1, c2, c3])) = xs[3]? := hf 3 _ rfl
  rw [cellsOf3] at e3
  obtain ⟨a, rfl, w0⟩ := one_int3 e0 (at_some hs4 (by omega))
  obtain ⟨b, rfl, w1⟩ := one_int3 e1 (at_some hs4 (by omega))
  obtain ⟨c, rfl, w2⟩ := one_int3 e2 (at_some hs4 (by omega))
  obtain ⟨d, rfl, w3⟩ := one_int3 e3 (at_some hs4 (by omega))
  exact ⟨a, b, c, d, rfl, rfl, rfl, rfl⟩
theorem use_of {H : Type} {enc : TypeId × Value → H} {W : World} {base : Nat} {sp : Nat → Bool} {hd : Bool} {n : Nat} {c0 c1 c2 c3 c4 c5 c6 c7 c8 c9 : Value} {o : Option (DataW H × List MemPlace)} (h : DataW.trod enc Try.prog W base sp hd n 46 [c0, c1, c2, c3, c4, c5, c6, c7, c8, c9] = o) (hs : o.isSome = true) : ∃ y : SU, [c0, c1, c2, c3, c4, c5, c6, c7, c8, c9] = cellsU y := by
  cases o with
  | none => exact absurd hs (by simp)
  | some x =>
  obtain ⟨xs, m, rfl, rfl, hl, hs, hf⟩ := DataW.trod_struct Try.underlying46 h
  have hs4 : xs.length = 7 := hs
  have e0 : DataW.trod enc Try.prog W base sp hd m 3 (List.take (Try.prog.cellsOf 3) (List.drop 0 [c0, c1, c2, c3, c4, c5, c6, c7, c8, c9])) = xs[0]? := hf 0 _ rfl
  rw [cellsOf3] at e0
  have e1 : DataW.trod enc Try.prog W base sp hd m 23 (List.take (Try.prog.cellsOf 23) (List.drop 1 [c0, c1, c2, c3, c4, c5, c6, c7, c8, c9])) = xs[1]? := hf 1 _ rfl
  rw [cellsOf23] at e1
  have e2 : DataW.trod enc Try.prog W base sp hd m 3 (List.take (Try.prog.cellsOf 3) (List.drop 2 [c0, c1, c2, c3, c4, c5, c6, c7, c8, c9])) = xs[2]? := hf 2 _ rfl
  rw [cellsOf3] at e2
  have e3 : DataW.trod enc Try.prog W base sp hd m 3 (List.take (Try.prog.cellsOf 3) (List.drop 3 [c0, c1, c2, c3, c4, c5, c6, c7, c8, c9])) = xs[3]? := hf 3 _ rfl
  rw [cellsOf3] at e3
  have e4 : DataW.trod enc Try.prog W base sp hd m 44 (List.take (Try.prog.cellsOf 44) (List.drop 4 [c0, c1, c2, c3, c4, c5, c6, c7, c8, c9])) = xs[4]? := hf 4 _ rfl
  rw [cellsOf44] at e4
  have e5 : DataW.trod enc Try.prog W base sp hd m 3 (List.take (Try.prog.cellsOf 3) (List.drop 8 [c0, c1, c2, c3, c4, c5, c6, c7, c8, c9])) = xs[5]? := hf 5 _ rfl
  rw [cellsOf3] at e5
  have e6 : DataW.trod enc Try.prog W base sp hd m 4 (List.take (Try.prog.cellsOf 4) (List.drop 9 [c0, c1, c2, c3, c4, c5, c6, c7, c8, c9])) = xs[6]? := hf 6 _ rfl
  rw [cellsOf4] at e6
  obtain ⟨a, rfl, w0⟩ := one_int3 e0 (at_some hs4 (by omega))
  obtain ⟨s, rfl⟩ := one_slice Try.underlying23 e1 (at_some hs4 (by omega))
  obtain ⟨b, rfl, w2⟩ := one_int3 e2 (at_some hs4 (by omega))
  obtain ⟨c, rfl, w3⟩ := one_int3 e3 (at_some hs4 (by omega))
  obtain ⟨k, q, u, v, rfl, rfl, rfl, rfl⟩ := op_of e4 (at_some hs4 (by omega))
  obtain ⟨d, rfl, w5⟩ := one_int3 e5 (at_some hs4 (by omega))
  obtain ⟨z, rfl⟩ := one_bool e6 (at_some hs4 (by omega))
  exact ⟨⟨a, s, b, c, k, q, u, v, d, z⟩, rfl⟩
theorem split_of {H : Type} {enc : TypeId × Value → H} {W : World} {base : Nat} {sp : Nat → Bool} {hd : Bool} {n : Nat} {c0 c1 c2 c3 c4 : Value} {o : Option (DataW H × List MemPlace)} (h : DataW.trod enc Try.prog W base sp hd n 53 [c0, c1, c2, c3, c4] = o) (hs : o.isSome = true) : ∃ y : S53, [c0, c1, c2, c3, c4] = [.int .i64 y.f0, .int .i64 y.f1, .int .i64 y.f2, .int .i64 y.f3, .int .i64 y.f4] := by
  cases o with
  | none => exact absurd hs (by simp)
  | some x =>
  obtain ⟨xs, m, rfl, rfl, hl, hs, hf⟩ := DataW.trod_struct Try.underlying53 h
  have hs4 : xs.length = 5 := hs
  have e0 : DataW.trod enc Try.prog W base sp hd m 3 (List.take (Try.prog.cellsOf 3) (List.drop 0 [c0, c1, c2, c3, c4])) = xs[0]? := hf 0 _ rfl
  rw [cellsOf3] at e0
  have e1 : DataW.trod enc Try.prog W base sp hd m 3 (List.take (Try.prog.cellsOf 3) (List.drop 1 [c0, c1, c2, c3, c4])) = xs[1]? := hf 1 _ rfl
  rw [cellsOf3] at e1
  have e2 : DataW.trod enc Try.prog W base sp hd m 3 (List.take (Try.prog.cellsOf 3) (List.drop 2 [c0, c1, c2, c3, c4])) = xs[2]? := hf 2 _ rfl
  rw [cellsOf3] at e2
  have e3 : DataW.trod enc Try.prog W base sp hd m 3 (List.take (Try.prog.cellsOf 3) (List.drop 3 [c0, c1, c2, c3, c4])) = xs[3]? := hf 3 _ rfl
  rw [cellsOf3] at e3
  have e4 : DataW.trod enc Try.prog W base sp hd m 3 (List.take (Try.prog.cellsOf 3) (List.drop 4 [c0, c1, c2, c3, c4])) = xs[4]? := hf 4 _ rfl
  rw [cellsOf3] at e4
  obtain ⟨a, rfl, w0⟩ := one_int3 e0 (at_some hs4 (by omega))
  obtain ⟨b, rfl, w1⟩ := one_int3 e1 (at_some hs4 (by omega))
  obtain ⟨c, rfl, w2⟩ := one_int3 e2 (at_some hs4 (by omega))
  obtain ⟨d, rfl, w3⟩ := one_int3 e3 (at_some hs4 (by omega))
  obtain ⟨e, rfl, w4⟩ := one_int3 e4 (at_some hs4 (by omega))
  exact ⟨⟨a, b, c, d, e⟩, rfl⟩
theorem conf_of {H : Type} {enc : TypeId × Value → H} {W : World} {base : Nat} {sp : Nat → Bool} {hd : Bool} {n : Nat} {c0 c1 c2 c3 c4 c5 c6 c7 c8 : Value} {o : Option (DataW H × List MemPlace)} (h : DataW.trod enc Try.prog W base sp hd n 42 [c0, c1, c2, c3, c4, c5, c6, c7, c8] = o) (hs : o.isSome = true) : ∃ b0 b1 b2 b3 b4 b5 b6 b7 b8, [c0, c1, c2, c3, c4, c5, c6, c7, c8] = [.int .i64 b0, .int .i64 b1, .int .i64 b2, .int .i64 b3, .int .i64 b4, .int .i64 b5, .int .i64 b6, .int .i64 b7, .int .i64 b8] ∧ (-9223372036854775808 ≤ b0 ∧ b0 ≤ 9223372036854775807) ∧ (-9223372036854775808 ≤ b1 ∧ b1 ≤ 9223372036854775807) := by
  cases o with
  | none => exact absurd hs (by simp)
  | some x =>
  obtain ⟨xs, m, rfl, rfl, hl, hs, hf⟩ := DataW.trod_struct Try.underlying42 h
  have hs4 : xs.length = 9 := hs
  have e0 : DataW.trod enc Try.prog W base sp hd m 3 (List.take (Try.prog.cellsOf 3) (List.drop 0 [c0, c1, c2, c3, c4, c5, c6, c7, c8])) = xs[0]? := hf 0 _ rfl
  rw [cellsOf3] at e0
  have e1 : DataW.trod enc Try.prog W base sp hd m 3 (List.take (Try.prog.cellsOf 3) (List.drop 1 [c0, c1, c2, c3, c4, c5, c6, c7, c8])) = xs[1]? := hf 1 _ rfl
  rw [cellsOf3] at e1
  have e2 : DataW.trod enc Try.prog W base sp hd m 3 (List.take (Try.prog.cellsOf 3) (List.drop 2 [c0, c1, c2, c3, c4, c5, c6, c7, c8])) = xs[2]? := hf 2 _ rfl
  rw [cellsOf3] at e2
  have e3 : DataW.trod enc Try.prog W base sp hd m 3 (List.take (Try.prog.cellsOf 3) (List.drop 3 [c0, c1, c2, c3, c4, c5, c6, c7, c8])) = xs[3]? := hf 3 _ rfl
  rw [cellsOf3] at e3
  have e4 : DataW.trod enc Try.prog W base sp hd m 3 (List.take (Try.prog.cellsOf 3) (List.drop 4 [c0, c1, c2, c3, c4, c5, c6, c7, c8])) = xs[4]? := hf 4 _ rfl
  rw [cellsOf3] at e4
  have e5 : DataW.trod enc Try.prog W base sp hd m 3 (List.take (Try.prog.cellsOf 3) (List.drop 5 [c0, c1, c2, c3, c4, c5, c6, c7, c8])) = xs[5]? := hf 5 _ rfl
  rw [cellsOf3] at e5
  have e6 : DataW.trod enc Try.prog W base sp hd m 3 (List.take (Try.prog.cellsOf 3) (List.drop 6 [c0, c1, c2, c3, c4, c5, c6, c7, c8])) = xs[6]? := hf 6 _ rfl
  rw [cellsOf3] at e6
  have e7 : DataW.trod enc Try.prog W base sp hd m 3 (List.take (Try.prog.cellsOf 3) (List.drop 7 [c0, c1, c2, c3, c4, c5, c6, c7, c8])) = xs[7]? := hf 7 _ rfl
  rw [cellsOf3] at e7
  have e8 : DataW.trod enc Try.prog W base sp hd m 3 (List.take (Try.prog.cellsOf 3) (List.drop 8 [c0, c1, c2, c3, c4, c5, c6, c7, c8])) = xs[8]? := hf 8 _ rfl
  rw [cellsOf3] at e8
  obtain ⟨b0, rfl, w0⟩ := one_int3 e0 (at_some hs4 (by omega))
  obtain ⟨b1, rfl, w1⟩ := one_int3 e1 (at_some hs4 (by omega))
  obtain ⟨b2, rfl, w2⟩ := one_int3 e2 (at_some hs4 (by omega))
  obtain ⟨b3, rfl, w3⟩ := one_int3 e3 (at_some hs4 (by omega))
  obtain ⟨b4, rfl, w4⟩ := one_int3 e4 (at_some hs4 (by omega))
  obtain ⟨b5, rfl, w5⟩ := one_int3 e5 (at_some hs4 (by omega))
  obtain ⟨b6, rfl, w6⟩ := one_int3 e6 (at_some hs4 (by omega))
  obtain ⟨b7, rfl, w7⟩ := one_int3 e7 (at_some hs4 (by omega))
  obtain ⟨b8, rfl, w8⟩ := one_int3 e8 (at_some hs4 (by omega))
  exact ⟨b0, b1, b2, b3, b4, b5, b6, b7, b8, rfl, wf_i w0, wf_i w1⟩
theorem rows_of {α : Type} [Inhabited α] {d : Kd α} {t e sz : Nat} (ht : Try.prog.underlying t = some (.slice e)) (hsz : Try.prog.cellsOf e = sz) (hdz : d.sz = sz) {g : α → List Value} (hg : ∀ W y, d.K W y (g y)) (hgl : ∀ y, (g y).length = sz)
    {H : Type} {enc : TypeId × Value → H} {W : World} {hd : Bool} {n : Nat}
    (hel : ∀ {m : Nat} {cs : List Value} {o : Option (DataW H × List MemPlace)}, cs.length = sz → DataW.trod enc Try.prog W 0 (fun _ => true) hd m e cs = o → o.isSome = true → ∃ y, cs = g y)
    {c : Value} {o : Option (DataW H × List MemPlace)} (h : DataW.trod enc Try.prog W 0 (fun _ => true) hd n t [c] = o) (hs : o.isSome = true) :
    ∃ (A : Option Addr) (cap : Nat) (l : List α), c = .slice A l.length cap ∧ l.length ≤ cap ∧ d.C W A l.length l := by
  cases o with
  | none => exact absurd hs (by simp)
  | some x =>
  rcases Go.Deep.open_slice ht h with ⟨hcs, _⟩ | ⟨b, len, cap, m, q, D, Pl, hcs, _, hl, hcap, hm, _, hx⟩
  · simp only [List.cons.injEq, and_true] at hcs
    exact ⟨none, 0, [], hcs, Nat.le_refl _, ⟨rfl, Nat.zero_le _, fun h => absurd h (Nat.lt_irrefl _)⟩⟩
  · simp only [List.cons.injEq, and_true] at hcs
    rw [if_pos rfl] at hm
    subst hm
    obtain ⟨f, hf⟩ := Go.Deep.choose_lt (α := α) (n := m) (p := fun i y => W.cells? 0 (b.add (i * sz)) sz = some (g y)) (fun i hi => by
      obtain ⟨cs', h1, h2⟩ := hx i hi
      rw [hsz] at h1
      obtain ⟨_, hlen, _⟩ := World.cells?_some h1
      obtain ⟨y, rfl⟩ := hel hlen h2 rfl
      exact ⟨y, h1⟩)
    have hll : ((List.range len).map f).length = len := by simp
    refine ⟨some b, m, (List.range len).map f, by rw [hll]; exact hcs, by rw [hll]; exact hl, ?_⟩
    rw [hll]
    refine ⟨hll, Nat.le_trans hl (Nat.le_trans hcap (by decide)), fun _ => ⟨b, rfl, fun j p hj => ?_⟩⟩
    have hj' : j < len := by
      rcases Nat.lt_or_ge j len with h | h
      · exact h
      · rw [List.getElem?_eq_none (by simpa using h)] at hj; cases hj
    rw [List.getElem?_map, List.getElem?_range hj'] at hj
    simp only [Option.map_some, Option.some.injEq] at hj
    subst hj
    refine ⟨_, by rw [hgl, hdz], hg W (f j), fun i u hu => ?_⟩
    obtain ⟨_, h2, h3⟩ := World.cells?_some (hf j (by omega))
    have hi : i < sz := by
      rcases Nat.lt_or_ge i sz with h | h
      · exact h
      · rw [List.getElem?_eq_none (by rw [hgl]; exact h)] at hu; cases hu
    have := h3 i hi
    rw [Go.Deep.add_add, hu] at this
    rw [hdz]
    exact this
instance : Inhabited S53 := ⟨z53⟩
theorem uses_of {H : Type} {enc : TypeId × Value → H} {W : World} {hd : Bool} {n : Nat} {c : Value} {o : Option (DataW H × List MemPlace)} (h : DataW.trod enc Try.prog W 0 (fun _ => true) hd n 25 [c] = o) (hs : o.isSome = true) :
    ∃ (A : Option Addr) (cap : Nat) (l : List SU), c = .slice A l.length cap ∧ l.length ≤ cap ∧ Kd.C kU W A l.length l :=
  rows_of (d := kU) Try.underlying25 cellsOf46 rfl (g := cellsU) kU_mk (fun _ => rfl) (fun {m cs o} hl h hs => by
    match cs, hl with
    | [c0, c1, c2, c3, c4, c5, c6, c7, c8, c9], _ => exact use_of h hs) h hs
theorem splits_of {H : Type} {enc : TypeId × Value → H} {W : World} {hd : Bool} {n : Nat} {c : Value} {o : Option (DataW H × List MemPlace)} (h : DataW.trod enc Try.prog W 0 (fun _ => true) hd n 26 [c] = o) (hs : o.isSome = true) :
    ∃ (A : Option Addr) (cap : Nat) (l : List S53), c = .slice A l.length cap ∧ l.length ≤ cap ∧ Kd.C k53 W A l.length l :=
  rows_of (d := k53) Try.underlying26 cellsOf53 rfl (g := fun y : S53 => [.int .i64 y.f0, .int .i64 y.f1, .int .i64 y.f2, .int .i64 y.f3, .int .i64 y.f4]) k53_mk (fun _ => rfl) (fun {m cs o} hl h hs => by
    match cs, hl with
    | [c0, c1, c2, c3, c4], _ => exact split_of h hs) h hs
theorem elided_of {H : Type} {enc : TypeId × Value → H} {W : World} {hd : Bool} {n : Nat} {c0 c1 c2 c3 c4 c5 c6 c7 c8 c9 c10 : Value} {o : Option (DataW H × List MemPlace)} (h : DataW.trod enc Try.prog W 0 (fun _ => true) hd n 29 [c0, c1, c2, c3, c4, c5, c6, c7, c8, c9, c10] = o) (hs : o.isSome = true) : ∃ (a0 a1 : Int) (s2 s3 s4 s5 : SlV) (A6 : Option Addr) (k6 : Nat) (us : List SU) (A7 : Option Addr) (k7 : Nat) (sp : List S53) (a8 a9 : Int) (s10 : SlV), [c0, c1, c2, c3, c4, c5, c6, c7, c8, c9, c10] = [.int .i64 a0, .int .i64 a1, .slice s2.1 s2.2.1 s2.2.2, .slice s3.1 s3.2.1 s3.2.2, .slice s4.1 s4.2.1 s4.2.2, .slice s5.1 s5.2.1 s5.2.2, .slice A6 us.length k6, .slice A7 sp.length k7, .int .i64 a8, .int .i64 a9, .slice s10.1 s10.2.1 s10.2.2] ∧ Kd.C kU W A6 us.length us ∧ Kd.C k53 W A7 sp.length sp ∧ us.length ≤ k6 ∧ sp.length ≤ k7 ∧ (-9223372036854775808 ≤ a9 ∧ a9 ≤ 9223372036854775807) := by
  cases o with
  | none => exact absurd hs (by simp)
  | some x =>
  obtain ⟨xs, m, rfl, rfl, hl, hs, hf⟩ := DataW.trod_struct Try.underlying29 h
  have hs4 : xs.length = 11 := hs
  have e0 : DataW.trod enc Try.prog W 0 (fun _ => true) hd m 22 (List.take (Try.prog.cellsOf 22) (List.drop 0 [c0, c1, c2, c3, c4, c5, c6, c7, c8, c9, c10])) = xs[0]? := hf 0 _ rfl
  rw [cellsOf22] at e0
  have e1 : DataW.trod enc Try.prog W 0 (fun _ => true) hd m 3 (List.take (Try.prog.cellsOf 3) (List.drop 1 [c0, c1, c2, c3, c4, c5, c6, c7, c8, c9, c10])) = xs[1]? := hf 1 _ rfl
  rw [cellsOf3] at e1
  have e2 : DataW.trod enc Try.prog W 0 (fun _ => true) hd m 23 (List.take (Try.prog.cellsOf 23) (List.drop 2 [c0, c1, c2, c3, c4, c5, c6, c7, c8, c9, c10])) = xs[2]? := hf 2 _ rfl
  rw [cellsOf23] at e2
  have e3 : DataW.trod enc Try.prog W 0 (fun _ => true) hd m 24 (List.take (Try.prog.cellsOf 24) (List.drop 3 [c0, c1, c2, c3, c4, c5, c6, c7, c8, c9, c10])) = xs[3]? := hf 3 _ rfl
  rw [cellsOf24] at e3
  have e4 : DataW.trod enc Try.prog W 0 (fun _ => true) hd m 24 (List.take (Try.prog.cellsOf 24) (List.drop 4 [c0, c1, c2, c3, c4, c5, c6, c7, c8, c9, c10])) = xs[4]? := hf 4 _ rfl
  rw [cellsOf24] at e4
  have e5 : DataW.trod enc Try.prog W 0 (fun _ => true) hd m 24 (List.take (Try.prog.cellsOf 24) (List.drop 5 [c0, c1, c2, c3, c4, c5, c6, c7, c8, c9, c10])) = xs[5]? := hf 5 _ rfl
  rw [cellsOf24] at e5
  have e6 : DataW.trod enc Try.prog W 0 (fun _ => true) hd m 25 (List.take (Try.prog.cellsOf 25) (List.drop 6 [c0, c1, c2, c3, c4, c5, c6, c7, c8, c9, c10])) = xs[6]? := hf 6 _ rfl
  rw [cellsOf25] at e6
  have e7 : DataW.trod enc Try.prog W 0 (fun _ => true) hd m 26 (List.take (Try.prog.cellsOf 26) (List.drop 7 [c0, c1, c2, c3, c4, c5, c6, c7, c8, c9, c10])) = xs[7]? := hf 7 _ rfl
  rw [cellsOf26] at e7
  have e8 : DataW.trod enc Try.prog W 0 (fun _ => true) hd m 3 (List.take (Try.prog.cellsOf 3) (List.drop 8 [c0, c1, c2, c3, c4, c5, c6, c7, c8, c9, c10])) = xs[8]? := hf 8 _ rfl
  rw [cellsOf3] at e8
  have e9 : DataW.trod enc Try.prog W 0 (fun _ => true) hd m 3 (List.take (Try.prog.cellsOf 3) (List.drop 9 [c0, c1, c2, c3, c4, c5, c6, c7, c8, c9, c10])) = xs[9]? := hf 9 _ rfl
  rw [cellsOf3] at e9
  have e10 : DataW.trod enc Try.prog W 0 (fun _ => true) hd m 27 (List.take (Try.prog.cellsOf 27) (List.drop 10 [c0, c1, c2, c3, c4, c5, c6, c7, c8, c9, c10])) = xs[10]? := hf 10 _ rfl
  rw [cellsOf27] at e10
  obtain ⟨a0, rfl, w0⟩ := one_int22 e0 (at_some hs4 (by omega))
  obtain ⟨a1, rfl, w1⟩ := one_int3 e1 (at_some hs4 (by omega))
  obtain ⟨s2, rfl⟩ := one_slice Try.underlying23 e2 (at_some hs4 (by omega))
  obtain ⟨s3, rfl⟩ := one_slice Try.underlying24 e3 (at_some hs4 (by omega))
  obtain ⟨s4, rfl⟩ := one_slice Try.underlying24 e4 (at_some hs4 (by omega))
  obtain ⟨s5, rfl⟩ := one_slice Try.underlying24 e5 (at_some hs4 (by omega))
  obtain ⟨A6, k6, us, rfl, l6, h6⟩ := uses_of e6 (at_some hs4 (by omega))
  obtain ⟨A7, k7, sp, rfl, l7, h7⟩ := splits_of e7 (at_some hs4 (by omega))
  obtain ⟨a8, rfl, w8⟩ := one_int3 e8 (at_some hs4 (by omega))
  obtain ⟨a9, rfl, w9⟩ := one_int3 e9 (at_some hs4 (by omega))
  obtain ⟨s10, rfl⟩ := one_slice Try.underlying27 e10 (at_some hs4 (by omega))
  exact ⟨a0, a1, s2, s3, s4, s5, A6, k6, us, A7, k7, sp, a8, a9, s10, rfl, h6, h7, l6, l7, wf_i w9⟩
theorem elided_in {H : Type} {enc : TypeId × Value → H} {W : World} {hd : Bool} {n : Nat} {cs : Array Value} {x : DataW H × List MemPlace} (hsz : cs.size = Try.prog.cellsOf 29) (h : DataW.trod enc Try.prog W 0 (fun _ => true) hd n 29 (Value.agg cs).cells.toList = some x) :
    ∃ (a0 a1 : Int) (s2 s3 s4 s5 : SlV) (A6 : Option Addr) (k6 : Nat) (us : List SU) (A7 : Option Addr) (k7 : Nat) (sp : List S53) (a8 a9 : Int) (s10 : SlV), Value.agg cs = .agg #[.int .i64 a0, .int .i64 a1, .slice s2.1 s2.2.1 s2.2.2, .slice s3.1 s3.2.1 s3.2.2, .slice s4.1 s4.2.1 s4.2.2, .slice s5.1 s5.2.1 s5.2.2, .slice A6 us.length k6, .slice A7 sp.length k7, .int .i64 a8, .int .i64 a9, .slice s10.1 s10.2.1 s10.2.2] ∧ Kd.C kU W A6 us.length us ∧ Kd.C k53 W A7 sp.length sp ∧ sp.length ≤ k7 := by
  rw [cellsOf29] at hsz
  obtain ⟨l⟩ := cs
  have hl : l.length = 11 := hsz
  match l, hl with
  | [c0, c1, c2, c3, c4, c5, c6, c7, c8, c9, c10], _ =>
    obtain ⟨a0, a1, s2, s3, s4, s5, A6, k6, us, A7, k7, sp, a8, a9, s10, e, h1, h2, h3, h4, h5⟩ := elided_of (o := some x) h rfl
    exact ⟨a0, a1, s2, s3, s4, s5, A6, k6, us, A7, k7, sp, a8, a9, s10, by rw [e], h1, h2, h4⟩
theorem bytes_of {H : Type} {enc : TypeId × Value → H} {W : World} {hd : Bool} {fuel : Nat} {a : Option Addr} {len cap : Nat} {x : DataW H × List MemPlace} (h : DataW.trod enc Try.prog W 0 (fun _ => true) hd fuel 30 [.slice a len cap] = some x) :
    ∃ l : List Int, l.length = len ∧ len ≤ cap ∧ Kd.C (Kd.int .u8) W a len l ∧ ∀ y ∈ l, 0 ≤ y ∧ y ≤ 255 := by
  rcases open_ints Try.underlying30 Try.underlying5 (by kernel_rfl) h with ⟨hcs, _⟩ | ⟨b, n, c, zs, hcs, _, hl, hcap, hz, _, hcell, hwz⟩
  · simp only [List.cons.injEq, Value.slice.injEq, and_true] at hcs
    obtain ⟨rfl, rfl, rfl⟩ := hcs
    exact ⟨[], rfl, Nat.le_refl _, ⟨rfl, Nat.zero_le _, fun h => absurd h (Nat.lt_irrefl _)⟩, by intro y hy; cases hy⟩
  · simp only [List.cons.injEq, Value.slice.injEq, and_true] at hcs
    obtain ⟨rfl, rfl, rfl⟩ := hcs
    rw [if_pos rfl] at hz
    refine ⟨zs.take len, by rw [List.length_take]; omega, hl, ?_, fun y hy => wf_b (hwz y (List.mem_of_mem_take hy))⟩
    refine Kd.C_of_reads (enc := Value.int .u8) (d := (0 : Int)) (h1 := fun _ => rfl) ⟨by rw [List.length_take]; omega, Nat.le_trans hl hcap, fun h0 => ⟨b, rfl, fun i hi => ?_⟩⟩
    rw [hcell i (by omega)]
    simp only [List.getD_eq_getElem?_getD, List.getElem?_take, if_pos hi]
end Go.Proofs.Ythjecgmgpnileaa.Bd
