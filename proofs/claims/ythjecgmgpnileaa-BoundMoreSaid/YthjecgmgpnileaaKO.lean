/- Kinds of our own: pairs of numbers; a use, whose task is a slice of which only the value is told. -/
import Derived.Test.YthjecgmgpnileaaK
import Derived.Test.YthjecgmgpnileaaA
namespace Go.Proofs.Ythjecgmgpnileaa.Bd
open Go.RowKit Go.Proofs.YthjecgmgpnileaaW.PrintWords Go.Proofs.YthjecgmgpnileaaW.PrintLast Go.Proofs.YthjecgmgpnileaaW.PrintMore
set_option linter.unusedVariables false

theorem info59 : (Try.prog.info? 59).map (fun i => (i.zero, i.size, i.bytes)) = some (some (.agg #[.int .i64 0, .int .i64 0]), 2, 16) := by kernel_rfl
theorem info62 : (Try.prog.info? 62).map (fun i => (i.zero, i.size, i.bytes)) = some (some (.agg #[.int .i64 0, .int .i64 0]), 2, 16) := by kernel_rfl
theorem info68 : (Try.prog.info? 68).map (fun i => (i.zero, i.size, i.bytes)) = some (some (.agg #[.int .i64 0, .int .i64 0]), 2, 16) := by kernel_rfl
theorem info53 : (Try.prog.info? 53).map (fun i => (i.zero, i.size, i.bytes)) = some (some (.agg #[.int .i64 0, .int .i64 0, .int .i64 0, .int .i64 0, .int .i64 0]), 5, 40) := by kernel_rfl
theorem info46 : (Try.prog.info? 46).map (fun i => (i.zero, i.size, i.bytes)) = some (some (.agg #[.int .i64 0, .slice none 0 0, .int .i64 0, .int .i64 0, .int .i64 0, .int .i64 0, .int .i64 0, .int .i64 0, .int .i64 0, .bool false]), 10, 96) := by kernel_rfl

/-- Two numbers in line. -/
def kP : Kd (Int × Int) := Kd.pair (Kd.int .i64) (Kd.int .i64)
theorem kP_open {w : World} {x : Int × Int} {cs : List Value} (h : kP.K w x cs) : cs = [.int .i64 x.1, .int .i64 x.2] := by
  obtain ⟨_, _, rfl, rfl, rfl⟩ := h
  exact rfl
theorem kP_mk (w : World) (x : Int × Int) : kP.K w x [.int .i64 x.1, .int .i64 x.2] := ⟨[.int .i64 x.1], [.int .i64 x.2], rfl, rfl, rfl⟩
theorem kP_mkM (w : World) (base : Nat) (ok : Nat → Prop) (x : Int × Int) : kP.M w base ok x [.int .i64 x.1, .int .i64 x.2] := ⟨[.int .i64 x.1], [.int .i64 x.2], rfl, rfl, rfl⟩
def rdP (xs : List (Int × Int)) (i : Int) : Int × Int := xs.getD i.toNat (0, 0)
theorem at_P {w : World} {A : Option Addr} {n : Nat} {xs : List (Int × Int)} (h : Kd.C kP w A n xs) (i : Int) (h0 : 0 ≤ i) (h1 : i < n) : ∃ ad, A = some ad ∧ w.cell? (ad.add (i.toNat * 2)) = some (.int .i64 (rdP xs i).1) ∧ w.cell? ⟨(ad.add (i.toNat * 2)).block, (ad.add (i.toNat * 2)).off + 1, none⟩ = some (.int .i64 (rdP xs i).2) := by
  obtain ⟨ad, c, e, _, hK, hc0⟩ := Kd.C_get h ((0, 0) : Int × Int) i h0 h1
  have hc : ∀ j u, c[j]? = some u → w.cell? (ad.add (i.toNat * 2 + j)) = some u := hc0
  obtain rfl := kP_open hK
  exact ⟨ad, e, hc 0 _ rfl, by rw [← add_field _ _ 1 (by omega)]; exact hc 1 _ rfl⟩

/-- A slice's value, told alone. -/
abbrev SlV := Option Addr × Nat × Nat
def kSl : Kd SlV := Kd.scalar (fun v : SlV => .slice v.1 v.2.1 v.2.2) (fun _ => rfl)
structure SU where
  f0 : Int
  f1 : SlV
  f2 : Int
  f3 : Int
  f4 : Int
  f5 : Int
  f6 : Int
  f7 : Int
  f8 : Int
  f9 : Bool
def zU : SU := ⟨0, (none, 0, 0), 0, 0, 0, 0, 0, 0, 0, false⟩
instance : Inhabited SU := ⟨zU⟩
def kU : Kd SU := Kd.iso (Kd.pair (Kd.int .i64) (Kd.pair kSl (Kd.pair (Kd.int .i64) (Kd.pair (Kd.int .i64) (Kd.pair (Kd.int .i64) (Kd.pair (Kd.int .i64) (Kd.pair (Kd.int .i64) (Kd.pair (Kd.int .i64) (Kd.pair (Kd.int .i64) Kd.bool))))))))) (fun x : SU => (x.f0, x.f1, x.f2, x.f3, x.f4, x.f5, x.f6, x.f7, x.f8, x.f9))
def cellsU (x : SU) : List Value := [.int .i64 x.f0, .slice x.f1.1 x.f1.2.1 x.f1.2.2, .int .i64 x.f2, .int .i64 x.f3, .int .i64 x.f4, .int .i64 x.f5, .int .i64 x.f6, .int .i64 x.f7, .int .i64 x.f8, .bool x.f9]
theorem kU_open {w : World} {x : SU} {cs : List Value} (h : kU.K w x cs) : cs = cellsU x := by
  obtain ⟨_, _, rfl, rfl, _, _, rfl, rfl, _, _, rfl, rfl, _, _, rfl, rfl, _, _, rfl, rfl, _, _, rfl, rfl, _, _, rfl, rfl, _, _, rfl, rfl, _, _, rfl, rfl, rfl⟩ := h
  exact rfl
theorem kU_mk (w : World) (x : SU) : kU.K w x (cellsU x) :=
  ⟨[.int .i64 x.f0], _, rfl, rfl, [.slice x.f1.1 x.f1.2.1 x.f1.2.2], _, rfl, rfl, [.int .i64 x.f2], _, rfl, rfl, [.int .i64 x.f3], _, rfl, rfl, [.int .i64 x.f4], _, rfl, rfl, [.int .i64 x.f5], _, rfl, rfl, [.int .i64 x.f6], _, rfl, rfl, [.int .i64 x.f7], _, rfl, rfl, [.int .i64 x.f8], [.bool x.f9], rfl, rfl, rfl⟩
theorem kU_mkM (w : World) (base : Nat) (ok : Nat → Prop) (x : SU) : kU.M w base ok x (cellsU x) :=
  ⟨[.int .i64 x.f0], _, rfl, rfl, [.slice x.f1.1 x.f1.2.1 x.f1.2.2], _, rfl, rfl, [.int .i64 x.f2], _, rfl, rfl, [.int .i64 x.f3], _, rfl, rfl, [.int .i64 x.f4], _, rfl, rfl, [.int .i64 x.f5], _, rfl, rfl, [.int .i64 x.f6], _, rfl, rfl, [.int .i64 x.f7], _, rfl, rfl, [.int .i64 x.f8], [.bool x.f9], rfl, rfl, rfl⟩
/-- The strands of uses. -/
def strands (us : List SU) : List Int := us.map SU.f0
theorem at_U {w : World} {A : Option Addr} {n : Nat} {xs : List SU} (h : Kd.C kU w A n xs) (i : Int) (h0 : 0 ≤ i) (h1 : i < n) : ∃ ad, A = some ad ∧ w.cell? (ad.add (i.toNat * 10)) = some (.int .i64 (at0 (strands xs) i)) := by
  obtain ⟨ad, c, e, _, hK, hc0⟩ := Kd.C_get h zU i h0 h1
  have hc : ∀ j u, c[j]? = some u → w.cell? (ad.add (i.toNat * 10 + j)) = some u := hc0
  obtain rfl := kU_open hK
  refine ⟨ad, e, ?_⟩
  have e2 : (xs.getD i.toNat zU).f0 = at0 (strands xs) i := by
    unfold at0 strands
    rw [List.getD_eq_getElem?_getD, List.getD_eq_getElem?_getD, List.getElem?_map]
    cases xs[i.toNat]? <;> rfl
  rw [← e2]
  exact hc 0 _ rfl
end Go.Proofs.Ythjecgmgpnileaa.Bd
