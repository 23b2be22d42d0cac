/- What BoundMore is asked of, as it comes in, read. -/
import Derived.Test.YthjecgmgpnileaaRn
namespace Go.Proofs.Ythjecgmgpnileaa.Bd
open Go.ChangeShapes Go.WideShapes Go.ChangeAt Go.RowKit
open Go.Proofs.YthjecgmgpnileaaW.PrintWords
set_option linter.unusedVariables false

theorem cellsOf49 : Try.prog.cellsOf 49 = 31 := by kernel_rfl
theorem more_in {H : Type} {enc : TypeId × Value → H} {W : World} {hd : Bool} {n : Nat} {cs : Array Value} {x : DataW H × List MemPlace} (hsz : cs.size = Try.prog.cellsOf 49) (h : DataW.trod enc Try.prog W 0 (fun _ => true) hd n 49 (Value.agg cs).cells.toList = some x) :
    ∃ (b0 b1 b2 b3 b4 b5 b6 b7 b8 a0 a1 : Int) (s2 s3 s4 s5 : SlV) (A6 : Option Addr) (k6 : Nat) (us : List SU) (A7 : Option Addr) (k7 : Nat) (sp : List S53) (a8 a9 : Int) (s10 : SlV) (u : SU) (pk : Int),
      Value.agg cs = .agg #[.int .i64 b0, .int .i64 b1, .int .i64 b2, .int .i64 b3, .int .i64 b4, .int .i64 b5, .int .i64 b6, .int .i64 b7, .int .i64 b8, .int .i64 a0, .int .i64 a1, .slice s2.1 s2.2.1 s2.2.2, .slice s3.1 s3.2.1 s3.2.2, .slice s4.1 s4.2.1 s4.2.2, .slice s5.1 s5.2.1 s5.2.2, .slice A6 us.length k6, .slice A7 sp.length k7, .int .i64 a8, .int .i64 a9, .slice s10.1 s10.2.1 s10.2.2, .int .i64 u.f0, .slice u.f1.1 u.f1.2.1 u.f1.2.2, .int .i64 u.f2, .int .i64 u.f3, .int .i64 u.f4, .int .i64 u.f5, .int .i64 u.f6, .int .i64 u.f7, .int .i64 u.f8, .bool u.f9, .int .u16 pk] ∧
      Kd.C kU W A6 us.length us ∧ Kd.C k53 W A7 sp.length sp ∧ us.length ≤ k6 ∧ sp.length ≤ k7 ∧ (-9223372036854775808 ≤ b0 ∧ b0 ≤ 9223372036854775807) ∧ (-9223372036854775808 ≤ b1 ∧ b1 ≤ 9223372036854775807) ∧ (-9223372036854775808 ≤ a9 ∧ a9 ≤ 9223372036854775807) ∧ (0 ≤ pk ∧ pk ≤ 65535) := by
  rw [cellsOf49] at hsz
  obtain ⟨l⟩ := cs
  have hl : l.length = 31 := hsz
  match l, hl with
  | [c0, c1, c2, c3, c4, c5, c6, c7, c8, c9, c10, c11, c12, c13, c14, c15, c16, c17, c18, c19, c20, c21, c22, c23, c24, c25, c26, c27, c28, c29, c30], _ =>
    obtain ⟨xs, m, rfl, rfl, hl, hs, hf⟩ := DataW.trod_struct Try.underlying49 h
    have hs4 : xs.length = 4 := hs
    have e0 : DataW.trod enc Try.prog W 0 (fun _ => true) hd m 42 (List.take (Try.prog.cellsOf 42) (List.drop 0 [c0, c1, c2, c3, c4, c5, c6, c7, c8, c9, c10, c11, c12, c13, c14, c15, c16, c17, c18, c19, c20, c21, c22, c23, c24, c25, c26, c27, c28, c29, c30])) = xs[0]? := hf 0 _ rfl
    rw [cellsOf42] at e0
    have e1 : DataW.trod enc Try.prog W 0 (fun _ => true) hd m 29 (List.take (Try.prog.cellsOf 29) (List.drop 9 [c0, c1, c2, c3, c4, c5, c6, c7, c8, c9, c10, c11, c12, c13, c14, c15, c16, c17, c18, c19, c20, c21, c22, c23, c24, c25, c26, c27, c28, c29, c30])) = xs[1]? := hf 1 _ rfl
    rw [cellsOf29] at e1
    have e2 : DataW.trod enc Try.prog W 0 (fun _ => true) hd m 46 (List.take (Try.prog.cellsOf 46) (List.drop 20 [c0, c1, c2, c3, c4, c5, c6, c7, c8, c9, c10, c11, c12, c13, c14, c15, c16, c17, c18, c19, c20, c21, c22, c23, c24, c25, c26, c27, c28, c29, c30])) = xs[2]? := hf 2 _ rfl
    rw [cellsOf46] at e2
    have e3 : DataW.trod enc Try.prog W 0 (fun _ => true) hd m 47 (List.take (Try.prog.cellsOf 47) (List.drop 30 [c0, c1, c2, c3, c4, c5, c6, c7, c8, c9, c10, c11, c12, c13, c14, c15, c16, c17, c18, c19, c20, c21, c22, c23, c24, c25, c26, c27, c28, c29, c30])) = xs[3]? := hf 3 _ rfl
    rw [cellsOf47] at e3
    obtain ⟨b0, b1, b2, b3, b4, b5, b6, b7, b8, q0, w0, w1⟩ := conf_of e0 (at_some hs4 (by omega))
    obtain ⟨a0, a1, s2, s3, s4, s5, A6, k6, us, A7, k7, sp, a8, a9, s10, q1, g1, g2, g3, g4, g5⟩ := elided_of e1 (at_some hs4 (by omega))
    obtain ⟨u, q2⟩ := use_of e2 (at_some hs4 (by omega))
    obtain ⟨pk, rfl, wp⟩ := one_int47 e3 (at_some hs4 (by omega))
    simp only [List.cons.injEq, and_true, cellsU] at q0 q1 q2
    obtain ⟨rfl, rfl, rfl, rfl, rfl, rfl, rfl, rfl, rfl⟩ := q0
    obtain ⟨rfl, rfl, rfl, rfl, rfl, rfl, rfl, rfl, rfl, rfl, rfl⟩ := q1
    obtain ⟨rfl, rfl, rfl, rfl, rfl, rfl, rfl, rfl, rfl, rfl⟩ := q2
    exact ⟨b0, b1, b2, b3, b4, b5, b6, b7, b8, a0, a1, s2, s3, s4, s5, A6, k6, us, A7, k7, sp, a8, a9, s10, u, pk, rfl, g1, g2, g3, g4, w0, w1, g5, wf_h wp⟩
end Go.Proofs.Ythjecgmgpnileaa.Bd
