/-
  No cell of these rows narrows 'for every input' (looked for: loops, veiled, ifaces, maps, wideKeys, modest, calm, conditions, laid).
  DERIVED. THE GIVEN ROWS OF THIS SEAT. 5 by the template 'for every input the law returns true; each argument reads behind the call as it read before'; 0 by the template 'total and deterministic' (their statements: YtiefonnhgjpbfaaTotals.lean).
  GIVEN WITH THE SEED: the statements are not yours to turn. If you find one false, say at which input.
  Laid BY PROGRAM, IN A SANDBOX (cutbox-rows.mjs): the forced cells as the released guide's own fill.sh prints them over the translation 1e6939b2da488730… (all of the seat's roots in one cut). By AI agents, Wed Nov 11 2026. No macro, syntax, notation, axiom, sorry.
-/
import Derived.Test.YtiefonnhgjpbfaaChecked
import GoSem.Claim
import GoSem.ClaimJoined
import GoSem.ClaimMapViews
import Derived.JoinedTies
import Derived.KernelRfl
namespace Go.Proofs.Ytiefonnhgjpbfaa
/- THE CELL 'sum', in the pinned program and in every row, IS THE sha256 OF THE DUMP (.gsa) THAT YtiefonnhgjpbfaaProg.lean LOADS. Nothing in Lean hashes anything: it is a label: what it is worth is what the hold of that sum in a sandbox is worth. -/
noncomputable def Try.pinned : Pinned := { name := "ytiefonnhgjpbfaa", sum := "1e6939b2da488730dbf726bed235e15a63af6a0f48c8adecb745a760fc394629", checked := Try.checked }
namespace Rows
def none {H : Type} : Left H := { results := [], args := [] }

/-- 'underwoodlaw32.TraceWrites': WHATEVER THE INPUT: true; the input reads as it did. -/
def traceWritesSpec : ChangeSpec := { name := "traceWrites", fn := fun _ => fun
  | [d] => { results := [.lit (.bool true)], args := [d] }
  | _ => none }
def traceWritesRow : OpenClaim := { program := "ytiefonnhgjpbfaa", sum := "1e6939b2da488730dbf726bed235e15a63af6a0f48c8adecb745a760fc394629", func := "underwood/underwoodlaw32.TraceWrites", spec := "traceWrites", unfollowed := true, recurses := true, apart := false }
def TraceWritesSaid : Prop := traceWritesRow.holds Try.pinned (OpenSpec.ofChange traceWritesSpec)

/-- ITS FALSE NEIGHBOUR: 'it returns false'. Refute it at one input. -/
def traceWritesWrong : ChangeSpec := { name := "traceWrites", fn := fun _ => fun
  | [d] => { results := [.lit (.bool false)], args := [d] }
  | _ => none }
def TraceWritesWrongFalsely : Prop := traceWritesRow.holds Try.pinned (OpenSpec.ofChange traceWritesWrong)

/-- 'underwoodlaw32.TraceReads': WHATEVER THE INPUT: true; the input reads as it did. -/
def traceReadsSpec : ChangeSpec := { name := "traceReads", fn := fun _ => fun
  | [d] => { results := [.lit (.bool true)], args := [d] }
  | _ => none }
def traceReadsRow : OpenClaim := { program := "ytiefonnhgjpbfaa", sum := "1e6939b2da488730dbf726bed235e15a63af6a0f48c8adecb745a760fc394629", func := "underwood/underwoodlaw32.TraceReads", spec := "traceReads", unfollowed := true, recurses := true, apart := false }
def TraceReadsSaid : Prop := traceReadsRow.holds Try.pinned (OpenSpec.ofChange traceReadsSpec)

/-- ITS FALSE NEIGHBOUR: 'it returns false'. Refute it at one input. -/
def traceReadsWrong : ChangeSpec := { name := "traceReads", fn := fun _ => fun
  | [d] => { results := [.lit (.bool false)], args := [d] }
  | _ => none }
def TraceReadsWrongFalsely : Prop := traceReadsRow.holds Try.pinned (OpenSpec.ofChange traceReadsWrong)

/-- 'underwoodlaw32.TraceTurned': WHATEVER THE INPUT: true; the input reads as it did. -/
def traceTurnedSpec : ChangeSpec := { name := "traceTurned", fn := fun _ => fun
  | [d1, d2, d3, d4] => { results := [.lit (.bool true)], args := [d1, d2, d3, d4] }
  | _ => none }
def traceTurnedRow : OpenClaim := { program := "ytiefonnhgjpbfaa", sum := "1e6939b2da488730dbf726bed235e15a63af6a0f48c8adecb745a760fc394629", func := "underwood/underwoodlaw32.TraceTurned", spec := "traceTurned", unfollowed := true, recurses := true, apart := false }
def TraceTurnedSaid : Prop := traceTurnedRow.holds Try.pinned (OpenSpec.ofChange traceTurnedSpec)

/-- ITS FALSE NEIGHBOUR: 'it returns false'. Refute it at one input. -/
def traceTurnedWrong : ChangeSpec := { name := "traceTurned", fn := fun _ => fun
  | [d1, d2, d3, d4] => { results := [.lit (.bool false)], args := [d1, d2, d3, d4] }
  | _ => none }
def TraceTurnedWrongFalsely : Prop := traceTurnedRow.holds Try.pinned (OpenSpec.ofChange traceTurnedWrong)

/-- 'underwoodlaw32.TraceSealed': WHATEVER THE INPUT: true; the input reads as it did. -/
def traceSealedSpec : ChangeSpec := { name := "traceSealed", fn := fun _ => fun
  | [d1, d2, d3] => { results := [.lit (.bool true)], args := [d1, d2, d3] }
  | _ => none }
def traceSealedRow : OpenClaim := { program := "ytiefonnhgjpbfaa", sum := "1e6939b2da488730dbf726bed235e15a63af6a0f48c8adecb745a760fc394629", func := "underwood/underwoodlaw32.TraceSealed", spec := "traceSealed", unfollowed := true, recurses := true, apart := false }
def TraceSealedSaid : Prop := traceSealedRow.holds Try.pinned (OpenSpec.ofChange traceSealedSpec)

/-- ITS FALSE NEIGHBOUR: 'it returns false'. Refute it at one input. -/
def traceSealedWrong : ChangeSpec := { name := "traceSealed", fn := fun _ => fun
  | [d1, d2, d3] => { results := [.lit (.bool false)], args := [d1, d2, d3] }
  | _ => none }
def TraceSealedWrongFalsely : Prop := traceSealedRow.holds Try.pinned (OpenSpec.ofChange traceSealedWrong)

/-- 'underwoodlaw32.TraceApart': WHATEVER THE INPUT: true; the input reads as it did. -/
def traceApartSpec : ChangeSpec := { name := "traceApart", fn := fun _ => fun
  | [d1, d2, d3] => { results := [.lit (.bool true)], args := [d1, d2, d3] }
  | _ => none }
def traceApartRow : OpenClaim := { program := "ytiefonnhgjpbfaa", sum := "1e6939b2da488730dbf726bed235e15a63af6a0f48c8adecb745a760fc394629", func := "underwood/underwoodlaw32.TraceApart", spec := "traceApart", unfollowed := true, recurses := true, apart := false }
def TraceApartSaid : Prop := traceApartRow.holds Try.pinned (OpenSpec.ofChange traceApartSpec)

/-- ITS FALSE NEIGHBOUR: 'it returns false'. Refute it at one input. -/
def traceApartWrong : ChangeSpec := { name := "traceApart", fn := fun _ => fun
  | [d1, d2, d3] => { results := [.lit (.bool false)], args := [d1, d2, d3] }
  | _ => none }
def TraceApartWrongFalsely : Prop := traceApartRow.holds Try.pinned (OpenSpec.ofChange traceApartWrong)

/- THE SECOND FORM. 'bulk': how many values and letters a reading holds, each counted each time it is reached (what is shared counts as often as it is met; a slice's spare places count too). A statement '..UptoSaid' is the law's where the arguments, and the package variables that the reading takes, are together of bulk at most 1048576: NARROWER than '..Said'. Prove '..Said' where nothing that the law and all that it calls make is longer than what came in: it says more and counts as full. Else prove '..UptoSaid'. A law counts once. -/
mutual
def uptoBulk {H : Type} : DataW H → Nat
  | .lit (.string bytes) => bytes.length + 1
  | .lit _ => 1
  | .nil => 1
  | .ptr d => uptoBulk d + 1
  | .slice elems spare => uptoBulkAll elems + uptoBulkAll spare + 1
  | .agg parts => uptoBulkAll parts + 1
  | .iface _ d => uptoBulk d + 1
  | .map entries => uptoBulkEntries entries + 1
  | .held _ => 1
def uptoBulkAll {H : Type} : List (DataW H) → Nat
  | [] => 0
  | d :: r => uptoBulk d + uptoBulkAll r
def uptoBulkEntries {H : Type} : List (Lit × DataW H) → Nat
  | [] => 0
  | x :: r => uptoBulkEntry x + uptoBulkEntries r
def uptoBulkEntry {H : Type} : Lit × DataW H → Nat
  | (.string bytes, d) => bytes.length + uptoBulk d + 1
  | (_, d) => uptoBulk d + 1
 end
def uptoSmall : (H : Type) → List (DataW H) → Bool := fun _ ds => decide (uptoBulkAll ds ≤ 1048576)
def OpenSpec.upto (s : _root_.Go.ChangeSpec) : _root_.Go.OpenSpec := { _root_.Go.OpenSpec.ofChange s with cond := some uptoSmall }

/-- 'underwoodlaw32.TraceWrites', WHERE WHAT IT READS IS OF BULK AT MOST 1048576: true; the input reads as it did. -/
def traceWritesUptoRow : OpenClaim := { program := "ytiefonnhgjpbfaa", sum := "1e6939b2da488730dbf726bed235e15a63af6a0f48c8adecb745a760fc394629", func := "underwood/underwoodlaw32.TraceWrites", spec := "traceWrites", unfollowed := true, recurses := true, apart := false, narrowed := true }
def TraceWritesUptoSaid : Prop := traceWritesUptoRow.holds Try.pinned (OpenSpec.upto traceWritesSpec)

/-- 'underwoodlaw32.TraceReads', WHERE WHAT IT READS IS OF BULK AT MOST 1048576: true; the input reads as it did. -/
def traceReadsUptoRow : OpenClaim := { program := "ytiefonnhgjpbfaa", sum := "1e6939b2da488730dbf726bed235e15a63af6a0f48c8adecb745a760fc394629", func := "underwood/underwoodlaw32.TraceReads", spec := "traceReads", unfollowed := true, recurses := true, apart := false, narrowed := true }
def TraceReadsUptoSaid : Prop := traceReadsUptoRow.holds Try.pinned (OpenSpec.upto traceReadsSpec)

/-- 'underwoodlaw32.TraceTurned', WHERE WHAT IT READS IS OF BULK AT MOST 1048576: true; the input reads as it did. -/
def traceTurnedUptoRow : OpenClaim := { program := "ytiefonnhgjpbfaa", sum := "1e6939b2da488730dbf726bed235e15a63af6a0f48c8adecb745a760fc394629", func := "underwood/underwoodlaw32.TraceTurned", spec := "traceTurned", unfollowed := true, recurses := true, apart := false, narrowed := true }
def TraceTurnedUptoSaid : Prop := traceTurnedUptoRow.holds Try.pinned (OpenSpec.upto traceTurnedSpec)

/-- 'underwoodlaw32.TraceSealed', WHERE WHAT IT READS IS OF BULK AT MOST 1048576: true; the input reads as it did. -/
def traceSealedUptoRow : OpenClaim := { program := "ytiefonnhgjpbfaa", sum := "1e6939b2da488730dbf726bed235e15a63af6a0f48c8adecb745a760fc394629", func := "underwood/underwoodlaw32.TraceSealed", spec := "traceSealed", unfollowed := true, recurses := true, apart := false, narrowed := true }
def TraceSealedUptoSaid : Prop := traceSealedUptoRow.holds Try.pinned (OpenSpec.upto traceSealedSpec)

/-- 'underwoodlaw32.TraceApart', WHERE WHAT IT READS IS OF BULK AT MOST 1048576: true; the input reads as it did. -/
def traceApartUptoRow : OpenClaim := { program := "ytiefonnhgjpbfaa", sum := "1e6939b2da488730dbf726bed235e15a63af6a0f48c8adecb745a760fc394629", func := "underwood/underwoodlaw32.TraceApart", spec := "traceApart", unfollowed := true, recurses := true, apart := false, narrowed := true }
def TraceApartUptoSaid : Prop := traceApartUptoRow.holds Try.pinned (OpenSpec.upto traceApartSpec)

end Rows
end Go.Proofs.Ytiefonnhgjpbfaa
