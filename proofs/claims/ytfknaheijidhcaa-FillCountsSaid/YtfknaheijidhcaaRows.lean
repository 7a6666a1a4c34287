/-
  No cell of these rows narrows 'for every input' (looked for: loops, veiled, ifaces, maps, wideKeys, modest, calm, conditions, laid).
  DERIVED. THE GIVEN ROWS OF THIS SEAT. 6 by the template 'for every input the law returns true; each argument reads behind the call as it read before'; 0 by the template 'total and deterministic' (their statements: YtfknaheijidhcaaTotals.lean).
  GIVEN WITH THE SEED: the statements are not yours to turn. If you find one false, say at which input.
  Laid BY PROGRAM, IN A SANDBOX (cutbox-rows.mjs): the forced cells as the released guide's own fill.sh prints them over the translation aff7822a75bac4a8… (all of the seat's roots in one cut). By AI agents, Wed Nov 11 2026. No macro, syntax, notation, axiom, sorry.
-/
import Derived.Test.YtfknaheijidhcaaChecked
import GoSem.Claim
import GoSem.ClaimJoined
import GoSem.ClaimMapViews
import Derived.JoinedTies
import Derived.KernelRfl
namespace Go.Proofs.Ytfknaheijidhcaa
/- THE CELL 'sum', in the pinned program and in every row, IS THE sha256 OF THE DUMP (.gsa) THAT YtfknaheijidhcaaProg.lean LOADS. Nothing in Lean hashes anything: it is a label: what it is worth is what the hold of that sum in a sandbox is worth. -/
noncomputable def Try.pinned : Pinned := { name := "ytfknaheijidhcaa", sum := "aff7822a75bac4a8842366f21f58324045fb5f2c74859c97a432ef186f86918f", checked := Try.checked }
namespace Rows
def none {H : Type} : Left H := { results := [], args := [] }

/-- 'allotmentlaw23.AuditRoom': WHATEVER THE INPUT: true; the input reads as it did. -/
def auditRoomSpec : ChangeSpec := { name := "auditRoom", fn := fun _ => fun
  | [d1, d2, d3] => { results := [.lit (.bool true)], args := [d1, d2, d3] }
  | _ => none }
def auditRoomRow : OpenClaim := { program := "ytfknaheijidhcaa", sum := "aff7822a75bac4a8842366f21f58324045fb5f2c74859c97a432ef186f86918f", func := "allotment/allotmentlaw23.AuditRoom", spec := "auditRoom", plainKeys := false, apart := false }
def AuditRoomSaid : Prop := auditRoomRow.holds Try.pinned (OpenSpec.ofChange auditRoomSpec)

/-- ITS FALSE NEIGHBOUR: 'it returns false'. Refute it at one input. -/
def auditRoomWrong : ChangeSpec := { name := "auditRoom", fn := fun _ => fun
  | [d1, d2, d3] => { results := [.lit (.bool false)], args := [d1, d2, d3] }
  | _ => none }
def AuditRoomWrongFalsely : Prop := auditRoomRow.holds Try.pinned (OpenSpec.ofChange auditRoomWrong)

/-- 'allotmentlaw24.FillMost': WHATEVER THE INPUT: true; the input reads as it did. -/
def fillMostSpec : ChangeSpec := { name := "fillMost", fn := fun _ => fun
  | [d1, d2] => { results := [.lit (.bool true)], args := [d1, d2] }
  | _ => none }
def fillMostRow : OpenClaim := { program := "ytfknaheijidhcaa", sum := "aff7822a75bac4a8842366f21f58324045fb5f2c74859c97a432ef186f86918f", func := "allotment/allotmentlaw24.FillMost", spec := "fillMost", inPlace := ["math.Float64frombits", "math.Float64bits"], plainKeys := false, apart := false }
def FillMostSaid : Prop := fillMostRow.holds Try.pinned (OpenSpec.ofChange fillMostSpec)

/-- ITS FALSE NEIGHBOUR: 'it returns false'. Refute it at one input. -/
def fillMostWrong : ChangeSpec := { name := "fillMost", fn := fun _ => fun
  | [d1, d2] => { results := [.lit (.bool false)], args := [d1, d2] }
  | _ => none }
def FillMostWrongFalsely : Prop := fillMostRow.holds Try.pinned (OpenSpec.ofChange fillMostWrong)

/-- 'allotmentlaw23.AuditMarks': WHATEVER THE INPUT: true; the input reads as it did. -/
def auditMarksSpec : ChangeSpec := { name := "auditMarks", fn := fun _ => fun
  | [d1, d2] => { results := [.lit (.bool true)], args := [d1, d2] }
  | _ => none }
def auditMarksRow : OpenClaim := { program := "ytfknaheijidhcaa", sum := "aff7822a75bac4a8842366f21f58324045fb5f2c74859c97a432ef186f86918f", func := "allotment/allotmentlaw23.AuditMarks", spec := "auditMarks", plainKeys := false, apart := false }
def AuditMarksSaid : Prop := auditMarksRow.holds Try.pinned (OpenSpec.ofChange auditMarksSpec)

/-- ITS FALSE NEIGHBOUR: 'it returns false'. Refute it at one input. -/
def auditMarksWrong : ChangeSpec := { name := "auditMarks", fn := fun _ => fun
  | [d1, d2] => { results := [.lit (.bool false)], args := [d1, d2] }
  | _ => none }
def AuditMarksWrongFalsely : Prop := auditMarksRow.holds Try.pinned (OpenSpec.ofChange auditMarksWrong)

/-- 'allotmentlaw24.FillCounts': WHATEVER THE INPUT: true; the input reads as it did. -/
def fillCountsSpec : ChangeSpec := { name := "fillCounts", fn := fun _ => fun
  | [d1, d2, d3] => { results := [.lit (.bool true)], args := [d1, d2, d3] }
  | _ => none }
def fillCountsRow : OpenClaim := { program := "ytfknaheijidhcaa", sum := "aff7822a75bac4a8842366f21f58324045fb5f2c74859c97a432ef186f86918f", func := "allotment/allotmentlaw24.FillCounts", spec := "fillCounts", inPlace := ["math.Float64frombits", "math.Float64bits"], plainKeys := false, apart := false }
def FillCountsSaid : Prop := fillCountsRow.holds Try.pinned (OpenSpec.ofChange fillCountsSpec)

/-- ITS FALSE NEIGHBOUR: 'it returns false'. Refute it at one input. -/
def fillCountsWrong : ChangeSpec := { name := "fillCounts", fn := fun _ => fun
  | [d1, d2, d3] => { results := [.lit (.bool false)], args := [d1, d2, d3] }
  | _ => none }
def FillCountsWrongFalsely : Prop := fillCountsRow.holds Try.pinned (OpenSpec.ofChange fillCountsWrong)

/-- 'allotmentlaw23.AuditSums': WHATEVER THE INPUT: true; the input reads as it did. -/
def auditSumsSpec : ChangeSpec := { name := "auditSums", fn := fun _ => fun
  | [d1, d2] => { results := [.lit (.bool true)], args := [d1, d2] }
  | _ => none }
def auditSumsRow : OpenClaim := { program := "ytfknaheijidhcaa", sum := "aff7822a75bac4a8842366f21f58324045fb5f2c74859c97a432ef186f86918f", func := "allotment/allotmentlaw23.AuditSums", spec := "auditSums", plainKeys := false, apart := false }
def AuditSumsSaid : Prop := auditSumsRow.holds Try.pinned (OpenSpec.ofChange auditSumsSpec)

/-- ITS FALSE NEIGHBOUR: 'it returns false'. Refute it at one input. -/
def auditSumsWrong : ChangeSpec := { name := "auditSums", fn := fun _ => fun
  | [d1, d2] => { results := [.lit (.bool false)], args := [d1, d2] }
  | _ => none }
def AuditSumsWrongFalsely : Prop := auditSumsRow.holds Try.pinned (OpenSpec.ofChange auditSumsWrong)

/-- 'allotmentlaw23.AuditApart': WHATEVER THE INPUT: true; the input reads as it did. -/
def auditApartSpec : ChangeSpec := { name := "auditApart", fn := fun _ => fun
  | [d1, d2] => { results := [.lit (.bool true)], args := [d1, d2] }
  | _ => none }
def auditApartRow : OpenClaim := { program := "ytfknaheijidhcaa", sum := "aff7822a75bac4a8842366f21f58324045fb5f2c74859c97a432ef186f86918f", func := "allotment/allotmentlaw23.AuditApart", spec := "auditApart", plainKeys := false, apart := false }
def AuditApartSaid : Prop := auditApartRow.holds Try.pinned (OpenSpec.ofChange auditApartSpec)

/-- ITS FALSE NEIGHBOUR: 'it returns false'. Refute it at one input. -/
def auditApartWrong : ChangeSpec := { name := "auditApart", fn := fun _ => fun
  | [d1, d2] => { results := [.lit (.bool false)], args := [d1, d2] }
  | _ => none }
def AuditApartWrongFalsely : Prop := auditApartRow.holds Try.pinned (OpenSpec.ofChange auditApartWrong)

/- THE SECOND FORM. 'bulk': how many values and letters a reading holds, each counted each time it is reached (what is shared counts as often as it is met; a slice's spare places count too). A statement '..UptoSaid' is the law's where the arguments, and the package variables that the reading takes, are together of bulk at most 1048576: NARROWER than '..Said'. Prove '..Said' where nothing that the law and all that it calls make is longer than what came in: it says more and counts as full. Else prove '..UptoSaid'. A law counts once. -/
mutual
def uptoBulk {H : Type} : DataW H → Nat
  | .lit (.string bytes) => bytes.length + 1
  | .lit _ => 1
  | .nil => 1
  | .ptr d => uptoBulk d + 1
  | .slice elems spare => uptoBulkAll elems + uptoBulkAll spare + 1
  | .agg parts => uptoBulkAll parts + 1
  | .iface _ d => uptoBulk d + 1
  | .map entries => uptoBulkEntries entries + 1
  | .held _ => 1
def uptoBulkAll {H : Type} : List (DataW H) → Nat
  | [] => 0
  | d :: r => uptoBulk d + uptoBulkAll r
def uptoBulkEntries {H : Type} : List (Lit × DataW H) → Nat
  | [] => 0
  | x :: r => uptoBulkEntry x + uptoBulkEntries r
def uptoBulkEntry {H : Type} : Lit × DataW H → Nat
  | (.string bytes, d) => bytes.length + uptoBulk d + 1
  | (_, d) => uptoBulk d + 1
 end
def uptoSmall : (H : Type) → List (DataW H) → Bool := fun _ ds => decide (uptoBulkAll ds ≤ 1048576)
def OpenSpec.upto (s : _root_.Go.ChangeSpec) : _root_.Go.OpenSpec := { _root_.Go.OpenSpec.ofChange s with cond := some uptoSmall }

/-- 'allotmentlaw23.AuditRoom', WHERE WHAT IT READS IS OF BULK AT MOST 1048576: true; the input reads as it did. -/
def auditRoomUptoRow : OpenClaim := { program := "ytfknaheijidhcaa", sum := "aff7822a75bac4a8842366f21f58324045fb5f2c74859c97a432ef186f86918f", func := "allotment/allotmentlaw23.AuditRoom", spec := "auditRoom", plainKeys := false, apart := false, narrowed := true }
def AuditRoomUptoSaid : Prop := auditRoomUptoRow.holds Try.pinned (OpenSpec.upto auditRoomSpec)

/-- 'allotmentlaw24.FillMost', WHERE WHAT IT READS IS OF BULK AT MOST 1048576: true; the input reads as it did. -/
def fillMostUptoRow : OpenClaim := { program := "ytfknaheijidhcaa", sum := "aff7822a75bac4a8842366f21f58324045fb5f2c74859c97a432ef186f86918f", func := "allotment/allotmentlaw24.FillMost", spec := "fillMost", inPlace := ["math.Float64frombits", "math.Float64bits"], plainKeys := false, apart := false, narrowed := true }
def FillMostUptoSaid : Prop := fillMostUptoRow.holds Try.pinned (OpenSpec.upto fillMostSpec)

/-- 'allotmentlaw23.AuditMarks', WHERE WHAT IT READS IS OF BULK AT MOST 1048576: true; the input reads as it did. -/
def auditMarksUptoRow : OpenClaim := { program := "ytfknaheijidhcaa", sum := "aff7822a75bac4a8842366f21f58324045fb5f2c74859c97a432ef186f86918f", func := "allotment/allotmentlaw23.AuditMarks", spec := "auditMarks", plainKeys := false, apart := false, narrowed := true }
def AuditMarksUptoSaid : Prop := auditMarksUptoRow.holds Try.pinned (OpenSpec.upto auditMarksSpec)

/-- 'allotmentlaw24.FillCounts', WHERE WHAT IT READS IS OF BULK AT MOST 1048576: true; the input reads as it did. -/
def fillCountsUptoRow : OpenClaim := { program := "ytfknaheijidhcaa", sum := "aff7822a75bac4a8842366f21f58324045fb5f2c74859c97a432ef186f86918f", func := "allotment/allotmentlaw24.FillCounts", spec := "fillCounts", inPlace := ["math.Float64frombits", "math.Float64bits"], plainKeys := false, apart := false, narrowed := true }
def FillCountsUptoSaid : Prop := fillCountsUptoRow.holds Try.pinned (OpenSpec.upto fillCountsSpec)

/-- 'allotmentlaw23.AuditSums', WHERE WHAT IT READS IS OF BULK AT MOST 1048576: true; the input reads as it did. -/
def auditSumsUptoRow : OpenClaim := { program := "ytfknaheijidhcaa", sum := "aff7822a75bac4a8842366f21f58324045fb5f2c74859c97a432ef186f86918f", func := "allotment/allotmentlaw23.AuditSums", spec := "auditSums", plainKeys := false, apart := false, narrowed := true }
def AuditSumsUptoSaid : Prop := auditSumsUptoRow.holds Try.pinned (OpenSpec.upto auditSumsSpec)

/-- 'allotmentlaw23.AuditApart', WHERE WHAT IT READS IS OF BULK AT MOST 1048576: true; the input reads as it did. -/
def auditApartUptoRow : OpenClaim := { program := "ytfknaheijidhcaa", sum := "aff7822a75bac4a8842366f21f58324045fb5f2c74859c97a432ef186f86918f", func := "allotment/allotmentlaw23.AuditApart", spec := "auditApart", plainKeys := false, apart := false, narrowed := true }
def AuditApartUptoSaid : Prop := auditApartUptoRow.holds Try.pinned (OpenSpec.upto auditApartSpec)

end Rows
end Go.Proofs.Ytfknaheijidhcaa
