/-
  No cell of these rows narrows 'for every input' (looked for: loops, veiled, ifaces, maps, wideKeys, modest, calm, conditions, laid).
  DERIVED. THE GIVEN ROWS OF THIS SEAT. 6 by the template 'for every input the law returns true; each argument reads behind the call as it read before'; 0 by the template 'total and deterministic' (their statements: YtngglkefhinkgabTotals.lean).
  GIVEN WITH THE SEED: the statements are not yours to turn. If you find one false, say at which input.
  Laid BY PROGRAM, IN A SANDBOX (cutbox-rows.mjs): the forced cells as the released guide's own fill.sh prints them over the translation dee451d59518ec63… (all of the seat's roots in one cut). By AI agents, Wed Nov 11 2026. No macro, syntax, notation, axiom, sorry.
-/
import Derived.Test.YtngglkefhinkgabChecked
import GoSem.Claim
import GoSem.ClaimJoined
import GoSem.ClaimMapViews
import Derived.JoinedTies
import Derived.KernelRfl
namespace Go.Proofs.Ytngglkefhinkgab
/- THE CELL 'sum', in the pinned program and in every row, IS THE sha256 OF THE DUMP (.gsa) THAT YtngglkefhinkgabProg.lean LOADS. Nothing in Lean hashes anything: it is a label: what it is worth is what the hold of that sum in a sandbox is worth. -/
noncomputable def Try.pinned : Pinned := { name := "ytngglkefhinkgab", sum := "dee451d59518ec637888a258d635e1ac00eae219bbbb83f52ea654703a092262", checked := Try.checked }
namespace Rows
def none {H : Type} : Left H := { results := [], args := [] }

/-- 'allotmentlaw1.EdgeOrder': WHATEVER THE INPUT: true; the input reads as it did. -/
def edgeOrderSpec : ChangeSpec := { name := "edgeOrder", fn := fun _ => fun
  | [d] => { results := [.lit (.bool true)], args := [d] }
  | _ => none }
def edgeOrderRow : OpenClaim := { program := "ytngglkefhinkgab", sum := "dee451d59518ec637888a258d635e1ac00eae219bbbb83f52ea654703a092262", func := "allotment/allotmentlaw1.EdgeOrder", spec := "edgeOrder", inPlace := ["math.Float64frombits", "math.Float64bits"], apart := false }
def EdgeOrderSaid : Prop := edgeOrderRow.holds Try.pinned (OpenSpec.ofChange edgeOrderSpec)

/-- ITS FALSE NEIGHBOUR: 'it returns false'. Refute it at one input. -/
def edgeOrderWrong : ChangeSpec := { name := "edgeOrder", fn := fun _ => fun
  | [d] => { results := [.lit (.bool false)], args := [d] }
  | _ => none }
def EdgeOrderWrongFalsely : Prop := edgeOrderRow.holds Try.pinned (OpenSpec.ofChange edgeOrderWrong)

/-- 'allotmentlaw1.EdgeShares': WHATEVER THE INPUT: true; the input reads as it did. -/
def edgeSharesSpec : ChangeSpec := { name := "edgeShares", fn := fun _ => fun
  | [d1, d2, d3] => { results := [.lit (.bool true)], args := [d1, d2, d3] }
  | _ => none }
def edgeSharesRow : OpenClaim := { program := "ytngglkefhinkgab", sum := "dee451d59518ec637888a258d635e1ac00eae219bbbb83f52ea654703a092262", func := "allotment/allotmentlaw1.EdgeShares", spec := "edgeShares", inPlace := ["math.Float64frombits", "math.Float64bits"], apart := false }
def EdgeSharesSaid : Prop := edgeSharesRow.holds Try.pinned (OpenSpec.ofChange edgeSharesSpec)

/-- ITS FALSE NEIGHBOUR: 'it returns false'. Refute it at one input. -/
def edgeSharesWrong : ChangeSpec := { name := "edgeShares", fn := fun _ => fun
  | [d1, d2, d3] => { results := [.lit (.bool false)], args := [d1, d2, d3] }
  | _ => none }
def EdgeSharesWrongFalsely : Prop := edgeSharesRow.holds Try.pinned (OpenSpec.ofChange edgeSharesWrong)

/-- 'allotmentlaw1.EdgeRatios': WHATEVER THE INPUT: true; the input reads as it did. -/
def edgeRatiosSpec : ChangeSpec := { name := "edgeRatios", fn := fun _ => fun
  | [d1, d2] => { results := [.lit (.bool true)], args := [d1, d2] }
  | _ => none }
def edgeRatiosRow : OpenClaim := { program := "ytngglkefhinkgab", sum := "dee451d59518ec637888a258d635e1ac00eae219bbbb83f52ea654703a092262", func := "allotment/allotmentlaw1.EdgeRatios", spec := "edgeRatios", inPlace := ["math.Float64frombits", "math.Float64bits"], apart := false }
def EdgeRatiosSaid : Prop := edgeRatiosRow.holds Try.pinned (OpenSpec.ofChange edgeRatiosSpec)

/-- ITS FALSE NEIGHBOUR: 'it returns false'. Refute it at one input. -/
def edgeRatiosWrong : ChangeSpec := { name := "edgeRatios", fn := fun _ => fun
  | [d1, d2] => { results := [.lit (.bool false)], args := [d1, d2] }
  | _ => none }
def EdgeRatiosWrongFalsely : Prop := edgeRatiosRow.holds Try.pinned (OpenSpec.ofChange edgeRatiosWrong)

/-- 'allotmentlaw1.EdgeReckons': WHATEVER THE INPUT: true; the input reads as it did. -/
def edgeReckonsSpec : ChangeSpec := { name := "edgeReckons", fn := fun _ => fun
  | [d1, d2, d3] => { results := [.lit (.bool true)], args := [d1, d2, d3] }
  | _ => none }
def edgeReckonsRow : OpenClaim := { program := "ytngglkefhinkgab", sum := "dee451d59518ec637888a258d635e1ac00eae219bbbb83f52ea654703a092262", func := "allotment/allotmentlaw1.EdgeReckons", spec := "edgeReckons", inPlace := ["math.Float64frombits", "math.Float64bits"], apart := false }
def EdgeReckonsSaid : Prop := edgeReckonsRow.holds Try.pinned (OpenSpec.ofChange edgeReckonsSpec)

/-- ITS FALSE NEIGHBOUR: 'it returns false'. Refute it at one input. -/
def edgeReckonsWrong : ChangeSpec := { name := "edgeReckons", fn := fun _ => fun
  | [d1, d2, d3] => { results := [.lit (.bool false)], args := [d1, d2, d3] }
  | _ => none }
def EdgeReckonsWrongFalsely : Prop := edgeReckonsRow.holds Try.pinned (OpenSpec.ofChange edgeReckonsWrong)

/-- 'allotmentlaw1.EdgeMost': WHATEVER THE INPUT: true; the input reads as it did. -/
def edgeMostSpec : ChangeSpec := { name := "edgeMost", fn := fun _ => fun
  | [d1, d2] => { results := [.lit (.bool true)], args := [d1, d2] }
  | _ => none }
def edgeMostRow : OpenClaim := { program := "ytngglkefhinkgab", sum := "dee451d59518ec637888a258d635e1ac00eae219bbbb83f52ea654703a092262", func := "allotment/allotmentlaw1.EdgeMost", spec := "edgeMost", inPlace := ["math.Float64frombits", "math.Float64bits"], apart := false }
def EdgeMostSaid : Prop := edgeMostRow.holds Try.pinned (OpenSpec.ofChange edgeMostSpec)

/-- ITS FALSE NEIGHBOUR: 'it returns false'. Refute it at one input. -/
def edgeMostWrong : ChangeSpec := { name := "edgeMost", fn := fun _ => fun
  | [d1, d2] => { results := [.lit (.bool false)], args := [d1, d2] }
  | _ => none }
def EdgeMostWrongFalsely : Prop := edgeMostRow.holds Try.pinned (OpenSpec.ofChange edgeMostWrong)

/-- 'allotmentlaw1.EdgeKnown': WHATEVER THE INPUT: true; the input reads as it did. -/
def edgeKnownSpec : ChangeSpec := { name := "edgeKnown", fn := fun _ => fun
  | [] => { results := [.lit (.bool true)], args := [] }
  | _ => none }
def edgeKnownRow : OpenClaim := { program := "ytngglkefhinkgab", sum := "dee451d59518ec637888a258d635e1ac00eae219bbbb83f52ea654703a092262", func := "allotment/allotmentlaw1.EdgeKnown", spec := "edgeKnown", inPlace := ["math.Float64frombits", "math.Float64bits"], apart := false }
def EdgeKnownSaid : Prop := edgeKnownRow.holds Try.pinned (OpenSpec.ofChange edgeKnownSpec)

/-- ITS FALSE NEIGHBOUR: 'it returns false'. Refute it at one input. -/
def edgeKnownWrong : ChangeSpec := { name := "edgeKnown", fn := fun _ => fun
  | [] => { results := [.lit (.bool false)], args := [] }
  | _ => none }
def EdgeKnownWrongFalsely : Prop := edgeKnownRow.holds Try.pinned (OpenSpec.ofChange edgeKnownWrong)

/- THE SECOND FORM. 'bulk': how many values and letters a reading holds, each counted each time it is reached (what is shared counts as often as it is met; a slice's spare places count too). A statement '..UptoSaid' is the law's where the arguments, and the package variables that the reading takes, are together of bulk at most 1048576: NARROWER than '..Said'. Prove '..Said' where nothing that the law and all that it calls make is longer than what came in: it says more and counts as full. Else prove '..UptoSaid'. A law counts once. -/
mutual
def uptoBulk {H : Type} : DataW H → Nat
  | .lit (.string bytes) => bytes.length + 1
  | .lit _ => 1
  | .nil => 1
  | .ptr d => uptoBulk d + 1
  | .slice elems spare => uptoBulkAll elems + uptoBulkAll spare + 1
  | .agg parts => uptoBulkAll parts + 1
  | .iface _ d => uptoBulk d + 1
  | .map entries => uptoBulkEntries entries + 1
  | .held _ => 1
def uptoBulkAll {H : Type} : List (DataW H) → Nat
  | [] => 0
  | d :: r => uptoBulk d + uptoBulkAll r
def uptoBulkEntries {H : Type} : List (Lit × DataW H) → Nat
  | [] => 0
  | x :: r => uptoBulkEntry x + uptoBulkEntries r
def uptoBulkEntry {H : Type} : Lit × DataW H → Nat
  | (.string bytes, d) => bytes.length + uptoBulk d + 1
  | (_, d) => uptoBulk d + 1
 end
def uptoSmall : (H : Type) → List (DataW H) → Bool := fun _ ds => decide (uptoBulkAll ds ≤ 1048576)
def OpenSpec.upto (s : _root_.Go.ChangeSpec) : _root_.Go.OpenSpec := { _root_.Go.OpenSpec.ofChange s with cond := some uptoSmall }

/-- 'allotmentlaw1.EdgeOrder', WHERE WHAT IT READS IS OF BULK AT MOST 1048576: true; the input reads as it did. -/
def edgeOrderUptoRow : OpenClaim := { program := "ytngglkefhinkgab", sum := "dee451d59518ec637888a258d635e1ac00eae219bbbb83f52ea654703a092262", func := "allotment/allotmentlaw1.EdgeOrder", spec := "edgeOrder", inPlace := ["math.Float64frombits", "math.Float64bits"], apart := false, narrowed := true }
def EdgeOrderUptoSaid : Prop := edgeOrderUptoRow.holds Try.pinned (OpenSpec.upto edgeOrderSpec)

/-- 'allotmentlaw1.EdgeShares', WHERE WHAT IT READS IS OF BULK AT MOST 1048576: true; the input reads as it did. -/
def edgeSharesUptoRow : OpenClaim := { program := "ytngglkefhinkgab", sum := "dee451d59518ec637888a258d635e1ac00eae219bbbb83f52ea654703a092262", func := "allotment/allotmentlaw1.EdgeShares", spec := "edgeShares", inPlace := ["math.Float64frombits", "math.Float64bits"], apart := false, narrowed := true }
def EdgeSharesUptoSaid : Prop := edgeSharesUptoRow.holds Try.pinned (OpenSpec.upto edgeSharesSpec)

/-- 'allotmentlaw1.EdgeRatios', WHERE WHAT IT READS IS OF BULK AT MOST 1048576: true; the input reads as it did. -/
def edgeRatiosUptoRow : OpenClaim := { program := "ytngglkefhinkgab", sum := "dee451d59518ec637888a258d635e1ac00eae219bbbb83f52ea654703a092262", func := "allotment/allotmentlaw1.EdgeRatios", spec := "edgeRatios", inPlace := ["math.Float64frombits", "math.Float64bits"], apart := false, narrowed := true }
def EdgeRatiosUptoSaid : Prop := edgeRatiosUptoRow.holds Try.pinned (OpenSpec.upto edgeRatiosSpec)

/-- 'allotmentlaw1.EdgeReckons', WHERE WHAT IT READS IS OF BULK AT MOST 1048576: true; the input reads as it did. -/
def edgeReckonsUptoRow : OpenClaim := { program := "ytngglkefhinkgab", sum := "dee451d59518ec637888a258d635e1ac00eae219bbbb83f52ea654703a092262", func := "allotment/allotmentlaw1.EdgeReckons", spec := "edgeReckons", inPlace := ["math.Float64frombits", "math.Float64bits"], apart := false, narrowed := true }
def EdgeReckonsUptoSaid : Prop := edgeReckonsUptoRow.holds Try.pinned (OpenSpec.upto edgeReckonsSpec)

/-- 'allotmentlaw1.EdgeMost', WHERE WHAT IT READS IS OF BULK AT MOST 1048576: true; the input reads as it did. -/
def edgeMostUptoRow : OpenClaim := { program := "ytngglkefhinkgab", sum := "dee451d59518ec637888a258d635e1ac00eae219bbbb83f52ea654703a092262", func := "allotment/allotmentlaw1.EdgeMost", spec := "edgeMost", inPlace := ["math.Float64frombits", "math.Float64bits"], apart := false, narrowed := true }
def EdgeMostUptoSaid : Prop := edgeMostUptoRow.holds Try.pinned (OpenSpec.upto edgeMostSpec)

/-- 'allotmentlaw1.EdgeKnown', WHERE WHAT IT READS IS OF BULK AT MOST 1048576: true; the input reads as it did. -/
def edgeKnownUptoRow : OpenClaim := { program := "ytngglkefhinkgab", sum := "dee451d59518ec637888a258d635e1ac00eae219bbbb83f52ea654703a092262", func := "allotment/allotmentlaw1.EdgeKnown", spec := "edgeKnown", inPlace := ["math.Float64frombits", "math.Float64bits"], apart := false, narrowed := true }
def EdgeKnownUptoSaid : Prop := edgeKnownUptoRow.holds Try.pinned (OpenSpec.upto edgeKnownSpec)

end Rows
end Go.Proofs.Ytngglkefhinkgab
