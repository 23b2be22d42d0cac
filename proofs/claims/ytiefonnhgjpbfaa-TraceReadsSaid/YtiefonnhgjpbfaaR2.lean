/- Bytes that come in, read: a slice of bytes as a list of numbers, each of its kind. -/
import Derived.Test.YtiefonnhgjpbfaaR
import Derived.ChangeSlices
namespace Go.Proofs.Ytiefonnhgjpbfaa.Tr
open Go.ChangeShapes Go.WideShapes Go.ChangeAt Go.RowKit
open Go.Proofs.YtiefonnhgjpbfaaW.PrintWords
set_option linter.unusedVariables false

theorem wf_byte {n : Int} (h : (Lit.int .u8 n).wf = true) : 0 ≤ n ∧ n ≤ 255 := by
  simp only [Lit.wf, Bool.and_eq_true, decide_eq_true_eq] at h
  have h1 : IntKind.u8.min = 0 := rfl
  have h2 : IntKind.u8.max = 255 := rfl
  omega
/-- A slice of bytes that came in: the numbers it holds. -/
theorem bytes_of {H : Type} {enc : TypeId × Value → H} {W : World} {hd : Bool} {fuel : Nat} {a : Option Addr} {len cap : Nat} {x : DataW H × List MemPlace} (h : DataW.trod enc Try.prog W 0 (fun _ => true) hd fuel 24 [.slice a len cap] = some x) :
    ∃ l : List Int, l.length = len ∧ len ≤ cap ∧ Kd.C (Kd.int .u8) W a len l ∧ Byt l := by
  rcases open_ints Try.underlying24 Try.underlying5 (by kernel_rfl) h with ⟨hcs, _⟩ | ⟨b, n, c, zs, hcs, _, hl, hcap, hz, _, hcell, hwz⟩
  · simp only [List.cons.injEq, Value.slice.injEq, and_true] at hcs
    obtain ⟨rfl, rfl, rfl⟩ := hcs
    exact ⟨[], rfl, Nat.le_refl _, ⟨rfl, Nat.zero_le _, fun h => absurd h (Nat.lt_irrefl _)⟩, by intro y hy; cases hy⟩
  · simp only [List.cons.injEq, Value.slice.injEq, and_true] at hcs
    obtain ⟨rfl, rfl, rfl⟩ := hcs
    rw [if_pos rfl] at hz
    refine ⟨zs.take len, by rw [List.length_take]; omega, hl, ?_, fun y hy => wf_byte (hwz y (List.mem_of_mem_take hy))⟩
    refine Kd.C_of_reads (enc := Value.int .u8) (d := (0 : Int)) (h1 := fun _ => rfl) ⟨by rw [List.length_take]; omega, Nat.le_trans hl hcap, fun h0 => ⟨b, rfl, fun i hi => ?_⟩⟩
    rw [hcell i (by omega)]
    simp only [List.getD_eq_getElem?_getD, List.getElem?_take, if_pos hi]
end Go.Proofs.Ytiefonnhgjpbfaa.Tr
