/-
  No cell of these rows narrows 'for every input' (looked for: loops, veiled, ifaces, maps, wideKeys, modest, calm, conditions, laid).
  DERIVED. THE GIVEN ROWS OF THIS SEAT. 3 by the template 'for every input the law returns true; each argument reads behind the call as it read before'; 0 by the template 'total and deterministic' (their statements: YtmmbicppdjgbmaaGreatTotals.lean).
  GIVEN WITH THE SEED: the statements are not yours to turn. If you find one false, say at which input.
  Laid BY PROGRAM, IN A SANDBOX (cutbox-rows.mjs): the forced cells as the released guide's own fill.sh prints them over the translation 670ac3721415aeff… (all of the seat's roots in one cut). By AI agents, Wed Nov 11 2026. No macro, syntax, notation, axiom, sorry.
-/
import Derived.Test.YtmmbicppdjgbmaaGreatChecked
import GoSem.Claim
import GoSem.ClaimJoined
import GoSem.ClaimMapViews
import Derived.JoinedTies
import Derived.KernelRfl
namespace Go.Proofs.YtmmbicppdjgbmaaGreat
/- THE CELL 'sum', in the pinned program and in every row, IS THE sha256 OF THE DUMP (.gsa) THAT YtmmbicppdjgbmaaGreatProg.lean LOADS. Nothing in Lean hashes anything: it is a label: what it is worth is what the hold of that sum in a sandbox is worth. -/
noncomputable def Tryz.pinned : Pinned := { name := "ytmmbicppdjgbmaagreat", sum := "670ac3721415aeffd4c1a5616b84d15b3588b0b2f177d6c09120fa006c1538f1", checked := Tryz.checked }
namespace Rows
def none {H : Type} : Left H := { results := [], args := [] }

/-- 'allotmentlaw22.WorldOrder': WHATEVER THE INPUT: true; the input reads as it did. -/
def worldOrderSpec : ChangeSpec := { name := "worldOrder", fn := fun _ => fun
  | [d1, d2] => { results := [.lit (.bool true)], args := [d1, d2] }
  | _ => none }
def worldOrderRow : OpenClaim := { program := "ytmmbicppdjgbmaagreat", sum := "670ac3721415aeffd4c1a5616b84d15b3588b0b2f177d6c09120fa006c1538f1", func := "allotment/allotmentlaw22.WorldOrder", spec := "worldOrder", inPlace := ["math.Float64bits", "math.Float64frombits", "slices.overlaps[allotment/model.Block]"], unfollowed := true, recurses := true, plainKeys := false, apart := false }
def WorldOrderSaid : Prop := worldOrderRow.holds Tryz.pinned (OpenSpec.ofChange worldOrderSpec)

/-- ITS FALSE NEIGHBOUR: 'it returns false'. Refute it at one input. -/
def worldOrderWrong : ChangeSpec := { name := "worldOrder", fn := fun _ => fun
  | [d1, d2] => { results := [.lit (.bool false)], args := [d1, d2] }
  | _ => none }
def WorldOrderWrongFalsely : Prop := worldOrderRow.holds Tryz.pinned (OpenSpec.ofChange worldOrderWrong)

/-- 'allotmenttop.TopKilled': WHATEVER THE INPUT: true; the input reads as it did. -/
def topKilledSpec : ChangeSpec := { name := "topKilled", fn := fun _ => fun
  | [d1, d2, d3] => { results := [.lit (.bool true)], args := [d1, d2, d3] }
  | _ => none }
def topKilledRow : OpenClaim := { program := "ytmmbicppdjgbmaagreat", sum := "670ac3721415aeffd4c1a5616b84d15b3588b0b2f177d6c09120fa006c1538f1", func := "allotment/allotmenttop.TopKilled", spec := "topKilled", inPlace := ["math.Float64bits", "math.Float64frombits"], unfollowed := true, recurses := true, plainKeys := false, apart := false }
def TopKilledSaid : Prop := topKilledRow.holds Tryz.pinned (OpenSpec.ofChange topKilledSpec)

/-- ITS FALSE NEIGHBOUR: 'it returns false'. Refute it at one input. -/
def topKilledWrong : ChangeSpec := { name := "topKilled", fn := fun _ => fun
  | [d1, d2, d3] => { results := [.lit (.bool false)], args := [d1, d2, d3] }
  | _ => none }
def TopKilledWrongFalsely : Prop := topKilledRow.holds Tryz.pinned (OpenSpec.ofChange topKilledWrong)

/-- 'allotmenttop.TopBusy': WHATEVER THE INPUT: true; the input reads as it did. -/
def topBusySpec : ChangeSpec := { name := "topBusy", fn := fun _ => fun
  | [d1, d2, d3] => { results := [.lit (.bool true)], args := [d1, d2, d3] }
  | _ => none }
def topBusyRow : OpenClaim := { program := "ytmmbicppdjgbmaagreat", sum := "670ac3721415aeffd4c1a5616b84d15b3588b0b2f177d6c09120fa006c1538f1", func := "allotment/allotmenttop.TopBusy", spec := "topBusy", inPlace := ["math.Float64bits", "math.Float64frombits"], unfollowed := true, recurses := true, plainKeys := false, apart := false }
def TopBusySaid : Prop := topBusyRow.holds Tryz.pinned (OpenSpec.ofChange topBusySpec)

/-- ITS FALSE NEIGHBOUR: 'it returns false'. Refute it at one input. -/
def topBusyWrong : ChangeSpec := { name := "topBusy", fn := fun _ => fun
  | [d1, d2, d3] => { results := [.lit (.bool false)], args := [d1, d2, d3] }
  | _ => none }
def TopBusyWrongFalsely : Prop := topBusyRow.holds Tryz.pinned (OpenSpec.ofChange topBusyWrong)

/- THE SECOND FORM. 'bulk': how many values and letters a reading holds, each counted each time it is reached (what is shared counts as often as it is met; a slice's spare places count too). A statement '..UptoSaid' is the law's where the arguments, and the package variables that the reading takes, are together of bulk at most 1048576: NARROWER than '..Said'. Prove '..Said' where nothing that the law and all that it calls make is longer than what came in: it says more and counts as full. Else prove '..UptoSaid'. A law counts once. -/
mutual
def uptoBulk {H : Type} : DataW H → Nat
  | .lit (.string bytes) => bytes.length + 1
  | .lit _ => 1
  | .nil => 1
  | .ptr d => uptoBulk d + 1
  | .slice elems spare => uptoBulkAll elems + uptoBulkAll spare + 1
  | .agg parts => uptoBulkAll parts + 1
  | .iface _ d => uptoBulk d + 1
  | .map entries => uptoBulkEntries entries + 1
  | .held _ => 1
def uptoBulkAll {H : Type} : List (DataW H) → Nat
  | [] => 0
  | d :: r => uptoBulk d + uptoBulkAll r
def uptoBulkEntries {H : Type} : List (Lit × DataW H) → Nat
  | [] => 0
  | x :: r => uptoBulkEntry x + uptoBulkEntries r
def uptoBulkEntry {H : Type} : Lit × DataW H → Nat
  | (.string bytes, d) => bytes.length + uptoBulk d + 1
  | (_, d) => uptoBulk d + 1
 end
def uptoSmall : (H : Type) → List (DataW H) → Bool := fun _ ds => decide (uptoBulkAll ds ≤ 1048576)
def OpenSpec.upto (s : _root_.Go.ChangeSpec) : _root_.Go.OpenSpec := { _root_.Go.OpenSpec.ofChange s with cond := some uptoSmall }

/-- 'allotmentlaw22.WorldOrder', WHERE WHAT IT READS IS OF BULK AT MOST 1048576: true; the input reads as it did. -/
def worldOrderUptoRow : OpenClaim := { program := "ytmmbicppdjgbmaagreat", sum := "670ac3721415aeffd4c1a5616b84d15b3588b0b2f177d6c09120fa006c1538f1", func := "allotment/allotmentlaw22.WorldOrder", spec := "worldOrder", inPlace := ["math.Float64bits", "math.Float64frombits", "slices.overlaps[allotment/model.Block]"], unfollowed := true, recurses := true, plainKeys := false, apart := false, narrowed := true }
def WorldOrderUptoSaid : Prop := worldOrderUptoRow.holds Tryz.pinned (OpenSpec.upto worldOrderSpec)

/-- 'allotmenttop.TopKilled', WHERE WHAT IT READS IS OF BULK AT MOST 1048576: true; the input reads as it did. -/
def topKilledUptoRow : OpenClaim := { program := "ytmmbicppdjgbmaagreat", sum := "670ac3721415aeffd4c1a5616b84d15b3588b0b2f177d6c09120fa006c1538f1", func := "allotment/allotmenttop.TopKilled", spec := "topKilled", inPlace := ["math.Float64bits", "math.Float64frombits"], unfollowed := true, recurses := true, plainKeys := false, apart := false, narrowed := true }
def TopKilledUptoSaid : Prop := topKilledUptoRow.holds Tryz.pinned (OpenSpec.upto topKilledSpec)

/-- 'allotmenttop.TopBusy', WHERE WHAT IT READS IS OF BULK AT MOST 1048576: true; the input reads as it did. -/
def topBusyUptoRow : OpenClaim := { program := "ytmmbicppdjgbmaagreat", sum := "670ac3721415aeffd4c1a5616b84d15b3588b0b2f177d6c09120fa006c1538f1", func := "allotment/allotmenttop.TopBusy", spec := "topBusy", inPlace := ["math.Float64bits", "math.Float64frombits"], unfollowed := true, recurses := true, plainKeys := false, apart := false, narrowed := true }
def TopBusyUptoSaid : Prop := topBusyUptoRow.holds Tryz.pinned (OpenSpec.upto topBusySpec)

end Rows
end Go.Proofs.YtmmbicppdjgbmaaGreat
