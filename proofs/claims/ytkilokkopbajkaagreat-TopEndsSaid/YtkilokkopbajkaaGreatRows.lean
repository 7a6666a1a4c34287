/-
  No cell of these rows narrows 'for every input' (looked for: loops, veiled, ifaces, maps, wideKeys, modest, calm, conditions, laid).
  DERIVED. THE GIVEN ROWS OF THIS SEAT. 5 by the template 'for every input the law returns true; each argument reads behind the call as it read before'; 0 by the template 'total and deterministic' (their statements: YtkilokkopbajkaaGreatTotals.lean).
  GIVEN WITH THE SEED: the statements are not yours to turn. If you find one false, say at which input.
  Laid BY PROGRAM, IN A SANDBOX (cutbox-rows.mjs): the forced cells as the released guide's own fill.sh prints them over the translation 3909d844c980ebe6… (all of the seat's roots in one cut). By AI agents, Wed Nov 11 2026. No macro, syntax, notation, axiom, sorry.
-/
import Derived.Test.YtkilokkopbajkaaGreatChecked
import GoSem.Claim
import GoSem.ClaimJoined
import GoSem.ClaimMapViews
import Derived.JoinedTies
import Derived.KernelRfl
namespace Go.Proofs.YtkilokkopbajkaaGreat
/- THE CELL 'sum', in the pinned program and in every row, IS THE sha256 OF THE DUMP (.gsa) THAT YtkilokkopbajkaaGreatProg.lean LOADS. Nothing in Lean hashes anything: it is a label: what it is worth is what the hold of that sum in a sandbox is worth. -/
noncomputable def Tryz.pinned : Pinned := { name := "ytkilokkopbajkaagreat", sum := "3909d844c980ebe6e9777f031969f4efa4deafcc3d7c38b98eee98df6c3273df", checked := Tryz.checked }
namespace Rows
def none {H : Type} : Left H := { results := [], args := [] }

/-- 'allotmenttop.TopAlone': WHATEVER THE INPUT: true; the input reads as it did. -/
def topAloneSpec : ChangeSpec := { name := "topAlone", fn := fun _ => fun
  | [d1, d2, d3] => { results := [.lit (.bool true)], args := [d1, d2, d3] }
  | _ => none }
def topAloneRow : OpenClaim := { program := "ytkilokkopbajkaagreat", sum := "3909d844c980ebe6e9777f031969f4efa4deafcc3d7c38b98eee98df6c3273df", func := "allotment/allotmenttop.TopAlone", spec := "topAlone", inPlace := ["math.Float64bits", "math.Float64frombits"], unfollowed := true, recurses := true, plainKeys := false, apart := false }
def TopAloneSaid : Prop := topAloneRow.holds Tryz.pinned (OpenSpec.ofChange topAloneSpec)

/-- ITS FALSE NEIGHBOUR: 'it returns false'. Refute it at one input. -/
def topAloneWrong : ChangeSpec := { name := "topAlone", fn := fun _ => fun
  | [d1, d2, d3] => { results := [.lit (.bool false)], args := [d1, d2, d3] }
  | _ => none }
def TopAloneWrongFalsely : Prop := topAloneRow.holds Tryz.pinned (OpenSpec.ofChange topAloneWrong)

/-- 'allotmentlaw22.WorldAlone': WHATEVER THE INPUT: true; the input reads as it did. -/
def worldAloneSpec : ChangeSpec := { name := "worldAlone", fn := fun _ => fun
  | [d1, d2, d3] => { results := [.lit (.bool true)], args := [d1, d2, d3] }
  | _ => none }
def worldAloneRow : OpenClaim := { program := "ytkilokkopbajkaagreat", sum := "3909d844c980ebe6e9777f031969f4efa4deafcc3d7c38b98eee98df6c3273df", func := "allotment/allotmentlaw22.WorldAlone", spec := "worldAlone", inPlace := ["math.Float64bits", "math.Float64frombits"], unfollowed := true, recurses := true, plainKeys := false, apart := false }
def WorldAloneSaid : Prop := worldAloneRow.holds Tryz.pinned (OpenSpec.ofChange worldAloneSpec)

/-- ITS FALSE NEIGHBOUR: 'it returns false'. Refute it at one input. -/
def worldAloneWrong : ChangeSpec := { name := "worldAlone", fn := fun _ => fun
  | [d1, d2, d3] => { results := [.lit (.bool false)], args := [d1, d2, d3] }
  | _ => none }
def WorldAloneWrongFalsely : Prop := worldAloneRow.holds Tryz.pinned (OpenSpec.ofChange worldAloneWrong)

/-- 'allotmentlaw23.AuditSound': WHATEVER THE INPUT: true; the input reads as it did. -/
def auditSoundSpec : ChangeSpec := { name := "auditSound", fn := fun _ => fun
  | [d1, d2] => { results := [.lit (.bool true)], args := [d1, d2] }
  | _ => none }
def auditSoundRow : OpenClaim := { program := "ytkilokkopbajkaagreat", sum := "3909d844c980ebe6e9777f031969f4efa4deafcc3d7c38b98eee98df6c3273df", func := "allotment/allotmentlaw23.AuditSound", spec := "auditSound", inPlace := ["math.Float64bits", "math.Float64frombits"], unfollowed := true, recurses := true, plainKeys := false, apart := false }
def AuditSoundSaid : Prop := auditSoundRow.holds Tryz.pinned (OpenSpec.ofChange auditSoundSpec)

/-- ITS FALSE NEIGHBOUR: 'it returns false'. Refute it at one input. -/
def auditSoundWrong : ChangeSpec := { name := "auditSound", fn := fun _ => fun
  | [d1, d2] => { results := [.lit (.bool false)], args := [d1, d2] }
  | _ => none }
def AuditSoundWrongFalsely : Prop := auditSoundRow.holds Tryz.pinned (OpenSpec.ofChange auditSoundWrong)

/-- 'allotmenttop.TopEnds': WHATEVER THE INPUT: true; the input reads as it did. -/
def topEndsSpec : ChangeSpec := { name := "topEnds", fn := fun _ => fun
  | [d1, d2] => { results := [.lit (.bool true)], args := [d1, d2] }
  | _ => none }
def topEndsRow : OpenClaim := { program := "ytkilokkopbajkaagreat", sum := "3909d844c980ebe6e9777f031969f4efa4deafcc3d7c38b98eee98df6c3273df", func := "allotment/allotmenttop.TopEnds", spec := "topEnds", inPlace := ["math.Float64bits", "math.Float64frombits"], unfollowed := true, recurses := true, plainKeys := false, apart := false }
def TopEndsSaid : Prop := topEndsRow.holds Tryz.pinned (OpenSpec.ofChange topEndsSpec)

/-- ITS FALSE NEIGHBOUR: 'it returns false'. Refute it at one input. -/
def topEndsWrong : ChangeSpec := { name := "topEnds", fn := fun _ => fun
  | [d1, d2] => { results := [.lit (.bool false)], args := [d1, d2] }
  | _ => none }
def TopEndsWrongFalsely : Prop := topEndsRow.holds Tryz.pinned (OpenSpec.ofChange topEndsWrong)

/-- 'allotmenttop.TopMany': WHATEVER THE INPUT: true; the input reads as it did. -/
def topManySpec : ChangeSpec := { name := "topMany", fn := fun _ => fun
  | [d1, d2, d3] => { results := [.lit (.bool true)], args := [d1, d2, d3] }
  | _ => none }
def topManyRow : OpenClaim := { program := "ytkilokkopbajkaagreat", sum := "3909d844c980ebe6e9777f031969f4efa4deafcc3d7c38b98eee98df6c3273df", func := "allotment/allotmenttop.TopMany", spec := "topMany", inPlace := ["math.Float64bits", "math.Float64frombits"], unfollowed := true, recurses := true, plainKeys := false, apart := false }
def TopManySaid : Prop := topManyRow.holds Tryz.pinned (OpenSpec.ofChange topManySpec)

/-- ITS FALSE NEIGHBOUR: 'it returns false'. Refute it at one input. -/
def topManyWrong : ChangeSpec := { name := "topMany", fn := fun _ => fun
  | [d1, d2, d3] => { results := [.lit (.bool false)], args := [d1, d2, d3] }
  | _ => none }
def TopManyWrongFalsely : Prop := topManyRow.holds Tryz.pinned (OpenSpec.ofChange topManyWrong)

/- THE SECOND FORM. 'bulk': how many values and letters a reading holds, each counted each time it is reached (what is shared counts as often as it is met; a slice's spare places count too). A statement '..UptoSaid' is the law's where the arguments, and the package variables that the reading takes, are together of bulk at most 1048576: NARROWER than '..Said'. Prove '..Said' where nothing that the law and all that it calls make is longer than what came in: it says more and counts as full. Else prove '..UptoSaid'. A law counts once. -/
mutual
def uptoBulk {H : Type} : DataW H → Nat
  | .lit (.string bytes) => bytes.length + 1
  | .lit _ => 1
  | .nil => 1
  | .ptr d => uptoBulk d + 1
  | .slice elems spare => uptoBulkAll elems + uptoBulkAll spare + 1
  | .agg parts => uptoBulkAll parts + 1
  | .iface _ d => uptoBulk d + 1
  | .map entries => uptoBulkEntries entries + 1
  | .held _ => 1
def uptoBulkAll {H : Type} : List (DataW H) → Nat
  | [] => 0
  | d :: r => uptoBulk d + uptoBulkAll r
def uptoBulkEntries {H : Type} : List (Lit × DataW H) → Nat
  | [] => 0
  | x :: r => uptoBulkEntry x + uptoBulkEntries r
def uptoBulkEntry {H : Type} : Lit × DataW H → Nat
  | (.string bytes, d) => bytes.length + uptoBulk d + 1
  | (_, d) => uptoBulk d + 1
 end
def uptoSmall : (H : Type) → List (DataW H) → Bool := fun _ ds => decide (uptoBulkAll ds ≤ 1048576)
def OpenSpec.upto (s : _root_.Go.ChangeSpec) : _root_.Go.OpenSpec := { _root_.Go.OpenSpec.ofChange s with cond := some uptoSmall }

/-- 'allotmenttop.TopAlone', WHERE WHAT IT READS IS OF BULK AT MOST 1048576: true; the input reads as it did. -/
def topAloneUptoRow : OpenClaim := { program := "ytkilokkopbajkaagreat", sum := "3909d844c980ebe6e9777f031969f4efa4deafcc3d7c38b98eee98df6c3273df", func := "allotment/allotmenttop.TopAlone", spec := "topAlone", inPlace := ["math.Float64bits", "math.Float64frombits"], unfollowed := true, recurses := true, plainKeys := false, apart := false, narrowed := true }
def TopAloneUptoSaid : Prop := topAloneUptoRow.holds Tryz.pinned (OpenSpec.upto topAloneSpec)

/-- 'allotmentlaw22.WorldAlone', WHERE WHAT IT READS IS OF BULK AT MOST 1048576: true; the input reads as it did. -/
def worldAloneUptoRow : OpenClaim := { program := "ytkilokkopbajkaagreat", sum := "3909d844c980ebe6e9777f031969f4efa4deafcc3d7c38b98eee98df6c3273df", func := "allotment/allotmentlaw22.WorldAlone", spec := "worldAlone", inPlace := ["math.Float64bits", "math.Float64frombits"], unfollowed := true, recurses := true, plainKeys := false, apart := false, narrowed := true }
def WorldAloneUptoSaid : Prop := worldAloneUptoRow.holds Tryz.pinned (OpenSpec.upto worldAloneSpec)

/-- 'allotmentlaw23.AuditSound', WHERE WHAT IT READS IS OF BULK AT MOST 1048576: true; the input reads as it did. -/
def auditSoundUptoRow : OpenClaim := { program := "ytkilokkopbajkaagreat", sum := "3909d844c980ebe6e9777f031969f4efa4deafcc3d7c38b98eee98df6c3273df", func := "allotment/allotmentlaw23.AuditSound", spec := "auditSound", inPlace := ["math.Float64bits", "math.Float64frombits"], unfollowed := true, recurses := true, plainKeys := false, apart := false, narrowed := true }
def AuditSoundUptoSaid : Prop := auditSoundUptoRow.holds Tryz.pinned (OpenSpec.upto auditSoundSpec)

/-- 'allotmenttop.TopEnds', WHERE WHAT IT READS IS OF BULK AT MOST 1048576: true; the input reads as it did. -/
def topEndsUptoRow : OpenClaim := { program := "ytkilokkopbajkaagreat", sum := "3909d844c980ebe6e9777f031969f4efa4deafcc3d7c38b98eee98df6c3273df", func := "allotment/allotmenttop.TopEnds", spec := "topEnds", inPlace := ["math.Float64bits", "math.Float64frombits"], unfollowed := true, recurses := true, plainKeys := false, apart := false, narrowed := true }
def TopEndsUptoSaid : Prop := topEndsUptoRow.holds Tryz.pinned (OpenSpec.upto topEndsSpec)

/-- 'allotmenttop.TopMany', WHERE WHAT IT READS IS OF BULK AT MOST 1048576: true; the input reads as it did. -/
def topManyUptoRow : OpenClaim := { program := "ytkilokkopbajkaagreat", sum := "3909d844c980ebe6e9777f031969f4efa4deafcc3d7c38b98eee98df6c3273df", func := "allotment/allotmenttop.TopMany", spec := "topMany", inPlace := ["math.Float64bits", "math.Float64frombits"], unfollowed := true, recurses := true, plainKeys := false, apart := false, narrowed := true }
def TopManyUptoSaid : Prop := topManyUptoRow.holds Tryz.pinned (OpenSpec.upto topManySpec)

end Rows
end Go.Proofs.YtkilokkopbajkaaGreat
