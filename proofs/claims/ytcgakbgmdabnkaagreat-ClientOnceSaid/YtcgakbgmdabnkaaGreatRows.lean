/-
  No cell of these rows narrows 'for every input' (looked for: loops, veiled, ifaces, maps, wideKeys, modest, calm, conditions, laid).
  DERIVED. THE GIVEN ROWS OF THIS SEAT. 5 by the template 'for every input the law returns true; each argument reads behind the call as it read before'; 0 by the template 'total and deterministic' (their statements: YtcgakbgmdabnkaaGreatTotals.lean).
  GIVEN WITH THE SEED: the statements are not yours to turn. If you find one false, say at which input.
  Laid BY PROGRAM, IN A SANDBOX (cutbox-rows.mjs): the forced cells as the released guide's own fill.sh prints them over the translation 5a8a939cd804b01b… (all of the seat's roots in one cut). By AI agents, Wed Nov 11 2026. No macro, syntax, notation, axiom, sorry.
-/
import Derived.Test.YtcgakbgmdabnkaaGreatChecked
import GoSem.Claim
import GoSem.ClaimJoined
import GoSem.ClaimMapViews
import Derived.JoinedTies
import Derived.KernelRfl
namespace Go.Proofs.YtcgakbgmdabnkaaGreat
/- THE CELL 'sum', in the pinned program and in every row, IS THE sha256 OF THE DUMP (.gsa) THAT YtcgakbgmdabnkaaGreatProg.lean LOADS. Nothing in Lean hashes anything: it is a label: what it is worth is what the hold of that sum in a sandbox is worth. -/
noncomputable def Tryz.pinned : Pinned := { name := "ytcgakbgmdabnkaagreat", sum := "5a8a939cd804b01bb49982a5caf6d9b0eb377918d2d950e4b1806d846acc6e05", checked := Tryz.checked }
namespace Rows
def none {H : Type} : Left H := { results := [], args := [] }

/-- 'allotmentlaw20.ClientOnce': WHATEVER THE INPUT: true; the input reads as it did. -/
def clientOnceSpec : ChangeSpec := { name := "clientOnce", fn := fun _ => fun
  | [d1, d2, d3] => { results := [.lit (.bool true)], args := [d1, d2, d3] }
  | _ => none }
def clientOnceRow : OpenClaim := { program := "ytcgakbgmdabnkaagreat", sum := "5a8a939cd804b01bb49982a5caf6d9b0eb377918d2d950e4b1806d846acc6e05", func := "allotment/allotmentlaw20.ClientOnce", spec := "clientOnce", inPlace := ["math.Float64bits", "math.Float64frombits"], unfollowed := true, recurses := true, apart := false }
def ClientOnceSaid : Prop := clientOnceRow.holds Tryz.pinned (OpenSpec.ofChange clientOnceSpec)

/-- ITS FALSE NEIGHBOUR: 'it returns false'. Refute it at one input. -/
def clientOnceWrong : ChangeSpec := { name := "clientOnce", fn := fun _ => fun
  | [d1, d2, d3] => { results := [.lit (.bool false)], args := [d1, d2, d3] }
  | _ => none }
def ClientOnceWrongFalsely : Prop := clientOnceRow.holds Tryz.pinned (OpenSpec.ofChange clientOnceWrong)

/-- 'allotmentlaw20.ClientBusy': WHATEVER THE INPUT: true; the input reads as it did. -/
def clientBusySpec : ChangeSpec := { name := "clientBusy", fn := fun _ => fun
  | [d1, d2, d3] => { results := [.lit (.bool true)], args := [d1, d2, d3] }
  | _ => none }
def clientBusyRow : OpenClaim := { program := "ytcgakbgmdabnkaagreat", sum := "5a8a939cd804b01bb49982a5caf6d9b0eb377918d2d950e4b1806d846acc6e05", func := "allotment/allotmentlaw20.ClientBusy", spec := "clientBusy", inPlace := ["math.Float64bits", "math.Float64frombits"], unfollowed := true, recurses := true, apart := false }
def ClientBusySaid : Prop := clientBusyRow.holds Tryz.pinned (OpenSpec.ofChange clientBusySpec)

/-- ITS FALSE NEIGHBOUR: 'it returns false'. Refute it at one input. -/
def clientBusyWrong : ChangeSpec := { name := "clientBusy", fn := fun _ => fun
  | [d1, d2, d3] => { results := [.lit (.bool false)], args := [d1, d2, d3] }
  | _ => none }
def ClientBusyWrongFalsely : Prop := clientBusyRow.holds Tryz.pinned (OpenSpec.ofChange clientBusyWrong)

/-- 'allotmentlaw20.ClientKnown': WHATEVER THE INPUT: true; the input reads as it did. -/
def clientKnownSpec : ChangeSpec := { name := "clientKnown", fn := fun _ => fun
  | [] => { results := [.lit (.bool true)], args := [] }
  | _ => none }
def clientKnownRow : OpenClaim := { program := "ytcgakbgmdabnkaagreat", sum := "5a8a939cd804b01bb49982a5caf6d9b0eb377918d2d950e4b1806d846acc6e05", func := "allotment/allotmentlaw20.ClientKnown", spec := "clientKnown", inPlace := ["math.Float64bits", "math.Float64frombits"], unfollowed := true, recurses := true, apart := false }
def ClientKnownSaid : Prop := clientKnownRow.holds Tryz.pinned (OpenSpec.ofChange clientKnownSpec)

/-- ITS FALSE NEIGHBOUR: 'it returns false'. Refute it at one input. -/
def clientKnownWrong : ChangeSpec := { name := "clientKnown", fn := fun _ => fun
  | [] => { results := [.lit (.bool false)], args := [] }
  | _ => none }
def ClientKnownWrongFalsely : Prop := clientKnownRow.holds Tryz.pinned (OpenSpec.ofChange clientKnownWrong)

/-- 'allotmentlaw20.ClientSame': WHATEVER THE INPUT: true; the input reads as it did. -/
def clientSameSpec : ChangeSpec := { name := "clientSame", fn := fun _ => fun
  | [d1, d2, d3] => { results := [.lit (.bool true)], args := [d1, d2, d3] }
  | _ => none }
def clientSameRow : OpenClaim := { program := "ytcgakbgmdabnkaagreat", sum := "5a8a939cd804b01bb49982a5caf6d9b0eb377918d2d950e4b1806d846acc6e05", func := "allotment/allotmentlaw20.ClientSame", spec := "clientSame", inPlace := ["math.Float64bits", "math.Float64frombits"], unfollowed := true, recurses := true, apart := false }
def ClientSameSaid : Prop := clientSameRow.holds Tryz.pinned (OpenSpec.ofChange clientSameSpec)

/-- ITS FALSE NEIGHBOUR: 'it returns false'. Refute it at one input. -/
def clientSameWrong : ChangeSpec := { name := "clientSame", fn := fun _ => fun
  | [d1, d2, d3] => { results := [.lit (.bool false)], args := [d1, d2, d3] }
  | _ => none }
def ClientSameWrongFalsely : Prop := clientSameRow.holds Tryz.pinned (OpenSpec.ofChange clientSameWrong)

/-- 'allotmentlaw20.ClientPlays': WHATEVER THE INPUT: true; the input reads as it did. -/
def clientPlaysSpec : ChangeSpec := { name := "clientPlays", fn := fun _ => fun
  | [d1, d2, d3] => { results := [.lit (.bool true)], args := [d1, d2, d3] }
  | _ => none }
def clientPlaysRow : OpenClaim := { program := "ytcgakbgmdabnkaagreat", sum := "5a8a939cd804b01bb49982a5caf6d9b0eb377918d2d950e4b1806d846acc6e05", func := "allotment/allotmentlaw20.ClientPlays", spec := "clientPlays", inPlace := ["math.Float64bits", "math.Float64frombits"], unfollowed := true, recurses := true, apart := false }
def ClientPlaysSaid : Prop := clientPlaysRow.holds Tryz.pinned (OpenSpec.ofChange clientPlaysSpec)

/-- ITS FALSE NEIGHBOUR: 'it returns false'. Refute it at one input. -/
def clientPlaysWrong : ChangeSpec := { name := "clientPlays", fn := fun _ => fun
  | [d1, d2, d3] => { results := [.lit (.bool false)], args := [d1, d2, d3] }
  | _ => none }
def ClientPlaysWrongFalsely : Prop := clientPlaysRow.holds Tryz.pinned (OpenSpec.ofChange clientPlaysWrong)

/- THE SECOND FORM. 'bulk': how many values and letters a reading holds, each counted each time it is reached (what is shared counts as often as it is met; a slice's spare places count too). A statement '..UptoSaid' is the law's where the arguments, and the package variables that the reading takes, are together of bulk at most 1048576: NARROWER than '..Said'. Prove '..Said' where nothing that the law and all that it calls make is longer than what came in: it says more and counts as full. Else prove '..UptoSaid'. A law counts once. -/
mutual
def uptoBulk {H : Type} : DataW H → Nat
  | .lit (.string bytes) => bytes.length + 1
  | .lit _ => 1
  | .nil => 1
  | .ptr d => uptoBulk d + 1
  | .slice elems spare => uptoBulkAll elems + uptoBulkAll spare + 1
  | .agg parts => uptoBulkAll parts + 1
  | .iface _ d => uptoBulk d + 1
  | .map entries => uptoBulkEntries entries + 1
  | .held _ => 1
def uptoBulkAll {H : Type} : List (DataW H) → Nat
  | [] => 0
  | d :: r => uptoBulk d + uptoBulkAll r
def uptoBulkEntries {H : Type} : List (Lit × DataW H) → Nat
  | [] => 0
  | x :: r => uptoBulkEntry x + uptoBulkEntries r
def uptoBulkEntry {H : Type} : Lit × DataW H → Nat
  | (.string bytes, d) => bytes.length + uptoBulk d + 1
  | (_, d) => uptoBulk d + 1
 end
def uptoSmall : (H : Type) → List (DataW H) → Bool := fun _ ds => decide (uptoBulkAll ds ≤ 1048576)
def OpenSpec.upto (s : _root_.Go.ChangeSpec) : _root_.Go.OpenSpec := { _root_.Go.OpenSpec.ofChange s with cond := some uptoSmall }

/-- 'allotmentlaw20.ClientOnce', WHERE WHAT IT READS IS OF BULK AT MOST 1048576: true; the input reads as it did. -/
def clientOnceUptoRow : OpenClaim := { program := "ytcgakbgmdabnkaagreat", sum := "5a8a939cd804b01bb49982a5caf6d9b0eb377918d2d950e4b1806d846acc6e05", func := "allotment/allotmentlaw20.ClientOnce", spec := "clientOnce", inPlace := ["math.Float64bits", "math.Float64frombits"], unfollowed := true, recurses := true, apart := false, narrowed := true }
def ClientOnceUptoSaid : Prop := clientOnceUptoRow.holds Tryz.pinned (OpenSpec.upto clientOnceSpec)

/-- 'allotmentlaw20.ClientBusy', WHERE WHAT IT READS IS OF BULK AT MOST 1048576: true; the input reads as it did. -/
def clientBusyUptoRow : OpenClaim := { program := "ytcgakbgmdabnkaagreat", sum := "5a8a939cd804b01bb49982a5caf6d9b0eb377918d2d950e4b1806d846acc6e05", func := "allotment/allotmentlaw20.ClientBusy", spec := "clientBusy", inPlace := ["math.Float64bits", "math.Float64frombits"], unfollowed := true, recurses := true, apart := false, narrowed := true }
def ClientBusyUptoSaid : Prop := clientBusyUptoRow.holds Tryz.pinned (OpenSpec.upto clientBusySpec)

/-- 'allotmentlaw20.ClientKnown', WHERE WHAT IT READS IS OF BULK AT MOST 1048576: true; the input reads as it did. -/
def clientKnownUptoRow : OpenClaim := { program := "ytcgakbgmdabnkaagreat", sum := "5a8a939cd804b01bb49982a5caf6d9b0eb377918d2d950e4b1806d846acc6e05", func := "allotment/allotmentlaw20.ClientKnown", spec := "clientKnown", inPlace := ["math.Float64bits", "math.Float64frombits"], unfollowed := true, recurses := true, apart := false, narrowed := true }
def ClientKnownUptoSaid : Prop := clientKnownUptoRow.holds Tryz.pinned (OpenSpec.upto clientKnownSpec)

/-- 'allotmentlaw20.ClientSame', WHERE WHAT IT READS IS OF BULK AT MOST 1048576: true; the input reads as it did. -/
def clientSameUptoRow : OpenClaim := { program := "ytcgakbgmdabnkaagreat", sum := "5a8a939cd804b01bb49982a5caf6d9b0eb377918d2d950e4b1806d846acc6e05", func := "allotment/allotmentlaw20.ClientSame", spec := "clientSame", inPlace := ["math.Float64bits", "math.Float64frombits"], unfollowed := true, recurses := true, apart := false, narrowed := true }
def ClientSameUptoSaid : Prop := clientSameUptoRow.holds Tryz.pinned (OpenSpec.upto clientSameSpec)

/-- 'allotmentlaw20.ClientPlays', WHERE WHAT IT READS IS OF BULK AT MOST 1048576: true; the input reads as it did. -/
def clientPlaysUptoRow : OpenClaim := { program := "ytcgakbgmdabnkaagreat", sum := "5a8a939cd804b01bb49982a5caf6d9b0eb377918d2d950e4b1806d846acc6e05", func := "allotment/allotmentlaw20.ClientPlays", spec := "clientPlays", inPlace := ["math.Float64bits", "math.Float64frombits"], unfollowed := true, recurses := true, apart := false, narrowed := true }
def ClientPlaysUptoSaid : Prop := clientPlaysUptoRow.holds Tryz.pinned (OpenSpec.upto clientPlaysSpec)

end Rows
end Go.Proofs.YtcgakbgmdabnkaaGreat
