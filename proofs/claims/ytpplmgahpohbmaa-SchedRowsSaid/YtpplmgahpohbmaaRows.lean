/-
  No cell of these rows narrows 'for every input' (looked for: loops, veiled, ifaces, maps, wideKeys, modest, calm, conditions, laid).
  DERIVED. THE GIVEN ROWS OF THIS SEAT. 4 by the template 'for every input the law returns true; each argument reads behind the call as it read before'; 0 by the template 'total and deterministic' (their statements: YtpplmgahpohbmaaTotals.lean).
  GIVEN WITH THE SEED: the statements are not yours to turn. If you find one false, say at which input.
  Laid BY PROGRAM, IN A SANDBOX (cutbox-rows.mjs): the forced cells as the released guide's own fill.sh prints them over the translation 8e472b2f92dc6c18… (all of the seat's roots in one cut). By AI agents, Wed Nov 11 2026. No macro, syntax, notation, axiom, sorry.
-/
import Derived.Test.YtpplmgahpohbmaaChecked
import GoSem.Claim
import GoSem.ClaimJoined
import GoSem.ClaimMapViews
import Derived.JoinedTies
import Derived.KernelRfl
namespace Go.Proofs.Ytpplmgahpohbmaa
/- THE CELL 'sum', in the pinned program and in every row, IS THE sha256 OF THE DUMP (.gsa) THAT YtpplmgahpohbmaaProg.lean LOADS. Nothing in Lean hashes anything: it is a label: what it is worth is what the hold of that sum in a sandbox is worth. -/
noncomputable def Try.pinned : Pinned := { name := "ytpplmgahpohbmaa", sum := "8e472b2f92dc6c18c8729903134958caa57699f77d0c9f706cb4a2c2d7367419", checked := Try.checked }
namespace Rows
def none {H : Type} : Left H := { results := [], args := [] }

/-- 'allotmentlaw21.SchedTurns': WHATEVER THE INPUT: true; the input reads as it did. -/
def schedTurnsSpec : ChangeSpec := { name := "schedTurns", fn := fun _ => fun
  | [d1, d2] => { results := [.lit (.bool true)], args := [d1, d2] }
  | _ => none }
def schedTurnsRow : OpenClaim := { program := "ytpplmgahpohbmaa", sum := "8e472b2f92dc6c18c8729903134958caa57699f77d0c9f706cb4a2c2d7367419", func := "allotment/allotmentlaw21.SchedTurns", spec := "schedTurns", inPlace := ["math.Float64bits", "math.Float64frombits"], apart := false }
def SchedTurnsSaid : Prop := schedTurnsRow.holds Try.pinned (OpenSpec.ofChange schedTurnsSpec)

/-- ITS FALSE NEIGHBOUR: 'it returns false'. Refute it at one input. -/
def schedTurnsWrong : ChangeSpec := { name := "schedTurns", fn := fun _ => fun
  | [d1, d2] => { results := [.lit (.bool false)], args := [d1, d2] }
  | _ => none }
def SchedTurnsWrongFalsely : Prop := schedTurnsRow.holds Try.pinned (OpenSpec.ofChange schedTurnsWrong)

/-- 'allotmentlaw21.SchedKeeps': WHATEVER THE INPUT: true; the input reads as it did. -/
def schedKeepsSpec : ChangeSpec := { name := "schedKeeps", fn := fun _ => fun
  | [d1, d2, d3] => { results := [.lit (.bool true)], args := [d1, d2, d3] }
  | _ => none }
def schedKeepsRow : OpenClaim := { program := "ytpplmgahpohbmaa", sum := "8e472b2f92dc6c18c8729903134958caa57699f77d0c9f706cb4a2c2d7367419", func := "allotment/allotmentlaw21.SchedKeeps", spec := "schedKeeps", inPlace := ["math.Float64bits", "math.Float64frombits"], apart := false }
def SchedKeepsSaid : Prop := schedKeepsRow.holds Try.pinned (OpenSpec.ofChange schedKeepsSpec)

/-- ITS FALSE NEIGHBOUR: 'it returns false'. Refute it at one input. -/
def schedKeepsWrong : ChangeSpec := { name := "schedKeeps", fn := fun _ => fun
  | [d1, d2, d3] => { results := [.lit (.bool false)], args := [d1, d2, d3] }
  | _ => none }
def SchedKeepsWrongFalsely : Prop := schedKeepsRow.holds Try.pinned (OpenSpec.ofChange schedKeepsWrong)

/-- 'allotmentlaw21.SchedCuts': WHATEVER THE INPUT: true; the input reads as it did. -/
def schedCutsSpec : ChangeSpec := { name := "schedCuts", fn := fun _ => fun
  | [d1, d2, d3] => { results := [.lit (.bool true)], args := [d1, d2, d3] }
  | _ => none }
def schedCutsRow : OpenClaim := { program := "ytpplmgahpohbmaa", sum := "8e472b2f92dc6c18c8729903134958caa57699f77d0c9f706cb4a2c2d7367419", func := "allotment/allotmentlaw21.SchedCuts", spec := "schedCuts", inPlace := ["math.Float64bits", "math.Float64frombits"], apart := false }
def SchedCutsSaid : Prop := schedCutsRow.holds Try.pinned (OpenSpec.ofChange schedCutsSpec)

/-- ITS FALSE NEIGHBOUR: 'it returns false'. Refute it at one input. -/
def schedCutsWrong : ChangeSpec := { name := "schedCuts", fn := fun _ => fun
  | [d1, d2, d3] => { results := [.lit (.bool false)], args := [d1, d2, d3] }
  | _ => none }
def SchedCutsWrongFalsely : Prop := schedCutsRow.holds Try.pinned (OpenSpec.ofChange schedCutsWrong)

/-- 'allotmentlaw21.SchedRows': WHATEVER THE INPUT: true; the input reads as it did. -/
def schedRowsSpec : ChangeSpec := { name := "schedRows", fn := fun _ => fun
  | [d1, d2, d3] => { results := [.lit (.bool true)], args := [d1, d2, d3] }
  | _ => none }
def schedRowsRow : OpenClaim := { program := "ytpplmgahpohbmaa", sum := "8e472b2f92dc6c18c8729903134958caa57699f77d0c9f706cb4a2c2d7367419", func := "allotment/allotmentlaw21.SchedRows", spec := "schedRows", inPlace := ["math.Float64bits", "math.Float64frombits"], apart := false }
def SchedRowsSaid : Prop := schedRowsRow.holds Try.pinned (OpenSpec.ofChange schedRowsSpec)

/-- ITS FALSE NEIGHBOUR: 'it returns false'. Refute it at one input. -/
def schedRowsWrong : ChangeSpec := { name := "schedRows", fn := fun _ => fun
  | [d1, d2, d3] => { results := [.lit (.bool false)], args := [d1, d2, d3] }
  | _ => none }
def SchedRowsWrongFalsely : Prop := schedRowsRow.holds Try.pinned (OpenSpec.ofChange schedRowsWrong)

/- THE SECOND FORM. 'bulk': how many values and letters a reading holds, each counted each time it is reached (what is shared counts as often as it is met; a slice's spare places count too). A statement '..UptoSaid' is the law's where the arguments, and the package variables that the reading takes, are together of bulk at most 1048576: NARROWER than '..Said'. Prove '..Said' where nothing that the law and all that it calls make is longer than what came in: it says more and counts as full. Else prove '..UptoSaid'. A law counts once. -/
mutual
def uptoBulk {H : Type} : DataW H → Nat
  | .lit (.string bytes) => bytes.length + 1
  | .lit _ => 1
  | .nil => 1
  | .ptr d => uptoBulk d + 1
  | .slice elems spare => uptoBulkAll elems + uptoBulkAll spare + 1
  | .agg parts => uptoBulkAll parts + 1
  | .iface _ d => uptoBulk d + 1
  | .map entries => uptoBulkEntries entries + 1
  | .held _ => 1
def uptoBulkAll {H : Type} : List (DataW H) → Nat
  | [] => 0
  | d :: r => uptoBulk d + uptoBulkAll r
def uptoBulkEntries {H : Type} : List (Lit × DataW H) → Nat
  | [] => 0
  | x :: r => uptoBulkEntry x + uptoBulkEntries r
def uptoBulkEntry {H : Type} : Lit × DataW H → Nat
  | (.string bytes, d) => bytes.length + uptoBulk d + 1
  | (_, d) => uptoBulk d + 1
 end
def uptoSmall : (H : Type) → List (DataW H) → Bool := fun _ ds => decide (uptoBulkAll ds ≤ 1048576)
def OpenSpec.upto (s : _root_.Go.ChangeSpec) : _root_.Go.OpenSpec := { _root_.Go.OpenSpec.ofChange s with cond := some uptoSmall }

/-- 'allotmentlaw21.SchedTurns', WHERE WHAT IT READS IS OF BULK AT MOST 1048576: true; the input reads as it did. -/
def schedTurnsUptoRow : OpenClaim := { program := "ytpplmgahpohbmaa", sum := "8e472b2f92dc6c18c8729903134958caa57699f77d0c9f706cb4a2c2d7367419", func := "allotment/allotmentlaw21.SchedTurns", spec := "schedTurns", inPlace := ["math.Float64bits", "math.Float64frombits"], apart := false, narrowed := true }
def SchedTurnsUptoSaid : Prop := schedTurnsUptoRow.holds Try.pinned (OpenSpec.upto schedTurnsSpec)

/-- 'allotmentlaw21.SchedKeeps', WHERE WHAT IT READS IS OF BULK AT MOST 1048576: true; the input reads as it did. -/
def schedKeepsUptoRow : OpenClaim := { program := "ytpplmgahpohbmaa", sum := "8e472b2f92dc6c18c8729903134958caa57699f77d0c9f706cb4a2c2d7367419", func := "allotment/allotmentlaw21.SchedKeeps", spec := "schedKeeps", inPlace := ["math.Float64bits", "math.Float64frombits"], apart := false, narrowed := true }
def SchedKeepsUptoSaid : Prop := schedKeepsUptoRow.holds Try.pinned (OpenSpec.upto schedKeepsSpec)

/-- 'allotmentlaw21.SchedCuts', WHERE WHAT IT READS IS OF BULK AT MOST 1048576: true; the input reads as it did. -/
def schedCutsUptoRow : OpenClaim := { program := "ytpplmgahpohbmaa", sum := "8e472b2f92dc6c18c8729903134958caa57699f77d0c9f706cb4a2c2d7367419", func := "allotment/allotmentlaw21.SchedCuts", spec := "schedCuts", inPlace := ["math.Float64bits", "math.Float64frombits"], apart := false, narrowed := true }
def SchedCutsUptoSaid : Prop := schedCutsUptoRow.holds Try.pinned (OpenSpec.upto schedCutsSpec)

/-- 'allotmentlaw21.SchedRows', WHERE WHAT IT READS IS OF BULK AT MOST 1048576: true; the input reads as it did. -/
def schedRowsUptoRow : OpenClaim := { program := "ytpplmgahpohbmaa", sum := "8e472b2f92dc6c18c8729903134958caa57699f77d0c9f706cb4a2c2d7367419", func := "allotment/allotmentlaw21.SchedRows", spec := "schedRows", inPlace := ["math.Float64bits", "math.Float64frombits"], apart := false, narrowed := true }
def SchedRowsUptoSaid : Prop := schedRowsUptoRow.holds Try.pinned (OpenSpec.upto schedRowsSpec)

end Rows
end Go.Proofs.Ytpplmgahpohbmaa
