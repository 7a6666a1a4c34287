/-
  No cell of these rows narrows 'for every input' (looked for: loops, veiled, ifaces, maps, wideKeys, modest, calm, conditions, laid).
  DERIVED. THE GIVEN ROWS OF THIS SEAT. 12 by the template 'for every input the law returns true; each argument reads behind the call as it read before'; 0 by the template 'total and deterministic' (their statements: YtampacmmhhilaaaGreatTotals.lean).
  GIVEN WITH THE SEED: the statements are not yours to turn. If you find one false, say at which input.
  Laid BY PROGRAM, IN A SANDBOX (cutbox-rows.mjs): the forced cells as the released guide's own fill.sh prints them over the translation 38af741ee6b43f29… (all of the seat's roots in one cut). By AI agents, Wed Nov 11 2026. No macro, syntax, notation, axiom, sorry.
-/
import Derived.Test.YtampacmmhhilaaaGreatChecked
import GoSem.Claim
import GoSem.ClaimJoined
import GoSem.ClaimMapViews
import Derived.JoinedTies
import Derived.KernelRfl
namespace Go.Proofs.YtampacmmhhilaaaGreat
/- THE CELL 'sum', in the pinned program and in every row, IS THE sha256 OF THE DUMP (.gsa) THAT YtampacmmhhilaaaGreatProg.lean LOADS. Nothing in Lean hashes anything: it is a label: what it is worth is what the hold of that sum in a sandbox is worth. -/
noncomputable def Tryz.pinned : Pinned := { name := "ytampacmmhhilaaagreat", sum := "38af741ee6b43f296edc46750a9ceb12140c26f536ed72fbe1e3befc6c257022", checked := Tryz.checked }
namespace Rows
def none {H : Type} : Left H := { results := [], args := [] }

/-- 'allotmenttop.TopSolo': WHATEVER THE INPUT: true; the input reads as it did. -/
def topSoloSpec : ChangeSpec := { name := "topSolo", fn := fun _ => fun
  | [d1, d2, d3] => { results := [.lit (.bool true)], args := [d1, d2, d3] }
  | _ => none }
def topSoloRow : OpenClaim := { program := "ytampacmmhhilaaagreat", sum := "38af741ee6b43f296edc46750a9ceb12140c26f536ed72fbe1e3befc6c257022", func := "allotment/allotmenttop.TopSolo", spec := "topSolo", inPlace := ["math.Float64bits", "math.Float64frombits"], unfollowed := true, recurses := true, plainKeys := false, apart := false }
def TopSoloSaid : Prop := topSoloRow.holds Tryz.pinned (OpenSpec.ofChange topSoloSpec)

/-- ITS FALSE NEIGHBOUR: 'it returns false'. Refute it at one input. -/
def topSoloWrong : ChangeSpec := { name := "topSolo", fn := fun _ => fun
  | [d1, d2, d3] => { results := [.lit (.bool false)], args := [d1, d2, d3] }
  | _ => none }
def TopSoloWrongFalsely : Prop := topSoloRow.holds Tryz.pinned (OpenSpec.ofChange topSoloWrong)

/-- 'allotmentlaw22.WorldKills': WHATEVER THE INPUT: true; the input reads as it did. -/
def worldKillsSpec : ChangeSpec := { name := "worldKills", fn := fun _ => fun
  | [d1, d2, d3] => { results := [.lit (.bool true)], args := [d1, d2, d3] }
  | _ => none }
def worldKillsRow : OpenClaim := { program := "ytampacmmhhilaaagreat", sum := "38af741ee6b43f296edc46750a9ceb12140c26f536ed72fbe1e3befc6c257022", func := "allotment/allotmentlaw22.WorldKills", spec := "worldKills", inPlace := ["math.Float64bits", "math.Float64frombits"], unfollowed := true, recurses := true, plainKeys := false, apart := false }
def WorldKillsSaid : Prop := worldKillsRow.holds Tryz.pinned (OpenSpec.ofChange worldKillsSpec)

/-- ITS FALSE NEIGHBOUR: 'it returns false'. Refute it at one input. -/
def worldKillsWrong : ChangeSpec := { name := "worldKills", fn := fun _ => fun
  | [d1, d2, d3] => { results := [.lit (.bool false)], args := [d1, d2, d3] }
  | _ => none }
def WorldKillsWrongFalsely : Prop := worldKillsRow.holds Tryz.pinned (OpenSpec.ofChange worldKillsWrong)

/-- 'allotmentlaw22.WorldSteps': WHATEVER THE INPUT: true; the input reads as it did. -/
def worldStepsSpec : ChangeSpec := { name := "worldSteps", fn := fun _ => fun
  | [d1, d2] => { results := [.lit (.bool true)], args := [d1, d2] }
  | _ => none }
def worldStepsRow : OpenClaim := { program := "ytampacmmhhilaaagreat", sum := "38af741ee6b43f296edc46750a9ceb12140c26f536ed72fbe1e3befc6c257022", func := "allotment/allotmentlaw22.WorldSteps", spec := "worldSteps", inPlace := ["math.Float64bits", "math.Float64frombits"], unfollowed := true, recurses := true, plainKeys := false, apart := false }
def WorldStepsSaid : Prop := worldStepsRow.holds Tryz.pinned (OpenSpec.ofChange worldStepsSpec)

/-- ITS FALSE NEIGHBOUR: 'it returns false'. Refute it at one input. -/
def worldStepsWrong : ChangeSpec := { name := "worldSteps", fn := fun _ => fun
  | [d1, d2] => { results := [.lit (.bool false)], args := [d1, d2] }
  | _ => none }
def WorldStepsWrongFalsely : Prop := worldStepsRow.holds Tryz.pinned (OpenSpec.ofChange worldStepsWrong)

/-- 'allotmentlaw22.WorldAlone': WHATEVER THE INPUT: true; the input reads as it did. -/
def worldAloneSpec : ChangeSpec := { name := "worldAlone", fn := fun _ => fun
  | [d1, d2, d3] => { results := [.lit (.bool true)], args := [d1, d2, d3] }
  | _ => none }
def worldAloneRow : OpenClaim := { program := "ytampacmmhhilaaagreat", sum := "38af741ee6b43f296edc46750a9ceb12140c26f536ed72fbe1e3befc6c257022", func := "allotment/allotmentlaw22.WorldAlone", spec := "worldAlone", inPlace := ["math.Float64bits", "math.Float64frombits"], unfollowed := true, recurses := true, plainKeys := false, apart := false }
def WorldAloneSaid : Prop := worldAloneRow.holds Tryz.pinned (OpenSpec.ofChange worldAloneSpec)

/-- ITS FALSE NEIGHBOUR: 'it returns false'. Refute it at one input. -/
def worldAloneWrong : ChangeSpec := { name := "worldAlone", fn := fun _ => fun
  | [d1, d2, d3] => { results := [.lit (.bool false)], args := [d1, d2, d3] }
  | _ => none }
def WorldAloneWrongFalsely : Prop := worldAloneRow.holds Tryz.pinned (OpenSpec.ofChange worldAloneWrong)

/-- 'allotmentlaw22.WorldReady': WHATEVER THE INPUT: true; the input reads as it did. -/
def worldReadySpec : ChangeSpec := { name := "worldReady", fn := fun _ => fun
  | [d1, d2] => { results := [.lit (.bool true)], args := [d1, d2] }
  | _ => none }
def worldReadyRow : OpenClaim := { program := "ytampacmmhhilaaagreat", sum := "38af741ee6b43f296edc46750a9ceb12140c26f536ed72fbe1e3befc6c257022", func := "allotment/allotmentlaw22.WorldReady", spec := "worldReady", inPlace := ["math.Float64bits", "math.Float64frombits"], unfollowed := true, recurses := true, plainKeys := false, apart := false }
def WorldReadySaid : Prop := worldReadyRow.holds Tryz.pinned (OpenSpec.ofChange worldReadySpec)

/-- ITS FALSE NEIGHBOUR: 'it returns false'. Refute it at one input. -/
def worldReadyWrong : ChangeSpec := { name := "worldReady", fn := fun _ => fun
  | [d1, d2] => { results := [.lit (.bool false)], args := [d1, d2] }
  | _ => none }
def WorldReadyWrongFalsely : Prop := worldReadyRow.holds Tryz.pinned (OpenSpec.ofChange worldReadyWrong)

/-- 'allotmentlaw22.WorldParts': WHATEVER THE INPUT: true; the input reads as it did. -/
def worldPartsSpec : ChangeSpec := { name := "worldParts", fn := fun _ => fun
  | [d1, d2, d3] => { results := [.lit (.bool true)], args := [d1, d2, d3] }
  | _ => none }
def worldPartsRow : OpenClaim := { program := "ytampacmmhhilaaagreat", sum := "38af741ee6b43f296edc46750a9ceb12140c26f536ed72fbe1e3befc6c257022", func := "allotment/allotmentlaw22.WorldParts", spec := "worldParts", inPlace := ["math.Float64bits", "math.Float64frombits"], unfollowed := true, recurses := true, plainKeys := false, apart := false }
def WorldPartsSaid : Prop := worldPartsRow.holds Tryz.pinned (OpenSpec.ofChange worldPartsSpec)

/-- ITS FALSE NEIGHBOUR: 'it returns false'. Refute it at one input. -/
def worldPartsWrong : ChangeSpec := { name := "worldParts", fn := fun _ => fun
  | [d1, d2, d3] => { results := [.lit (.bool false)], args := [d1, d2, d3] }
  | _ => none }
def WorldPartsWrongFalsely : Prop := worldPartsRow.holds Tryz.pinned (OpenSpec.ofChange worldPartsWrong)

/-- 'allotmentlaw22.WorldStart': WHATEVER THE INPUT: true; the input reads as it did. -/
def worldStartSpec : ChangeSpec := { name := "worldStart", fn := fun _ => fun
  | [d1, d2] => { results := [.lit (.bool true)], args := [d1, d2] }
  | _ => none }
def worldStartRow : OpenClaim := { program := "ytampacmmhhilaaagreat", sum := "38af741ee6b43f296edc46750a9ceb12140c26f536ed72fbe1e3befc6c257022", func := "allotment/allotmentlaw22.WorldStart", spec := "worldStart", inPlace := ["math.Float64bits", "math.Float64frombits"], unfollowed := true, recurses := true, plainKeys := false, apart := false }
def WorldStartSaid : Prop := worldStartRow.holds Tryz.pinned (OpenSpec.ofChange worldStartSpec)

/-- ITS FALSE NEIGHBOUR: 'it returns false'. Refute it at one input. -/
def worldStartWrong : ChangeSpec := { name := "worldStart", fn := fun _ => fun
  | [d1, d2] => { results := [.lit (.bool false)], args := [d1, d2] }
  | _ => none }
def WorldStartWrongFalsely : Prop := worldStartRow.holds Tryz.pinned (OpenSpec.ofChange worldStartWrong)

/-- 'allotmentlaw22.WorldKnown': WHATEVER THE INPUT: true; the input reads as it did. -/
def worldKnownSpec : ChangeSpec := { name := "worldKnown", fn := fun _ => fun
  | [] => { results := [.lit (.bool true)], args := [] }
  | _ => none }
def worldKnownRow : OpenClaim := { program := "ytampacmmhhilaaagreat", sum := "38af741ee6b43f296edc46750a9ceb12140c26f536ed72fbe1e3befc6c257022", func := "allotment/allotmentlaw22.WorldKnown", spec := "worldKnown", inPlace := ["math.Float64bits", "math.Float64frombits"], unfollowed := true, recurses := true, plainKeys := false, apart := false }
def WorldKnownSaid : Prop := worldKnownRow.holds Tryz.pinned (OpenSpec.ofChange worldKnownSpec)

/-- ITS FALSE NEIGHBOUR: 'it returns false'. Refute it at one input. -/
def worldKnownWrong : ChangeSpec := { name := "worldKnown", fn := fun _ => fun
  | [] => { results := [.lit (.bool false)], args := [] }
  | _ => none }
def WorldKnownWrongFalsely : Prop := worldKnownRow.holds Tryz.pinned (OpenSpec.ofChange worldKnownWrong)

/-- 'allotmentlaw22.WorldOrder': WHATEVER THE INPUT: true; the input reads as it did. -/
def worldOrderSpec : ChangeSpec := { name := "worldOrder", fn := fun _ => fun
  | [d1, d2] => { results := [.lit (.bool true)], args := [d1, d2] }
  | _ => none }
def worldOrderRow : OpenClaim := { program := "ytampacmmhhilaaagreat", sum := "38af741ee6b43f296edc46750a9ceb12140c26f536ed72fbe1e3befc6c257022", func := "allotment/allotmentlaw22.WorldOrder", spec := "worldOrder", inPlace := ["math.Float64bits", "math.Float64frombits", "slices.overlaps[allotment/model.Block]"], unfollowed := true, recurses := true, plainKeys := false, apart := false }
def WorldOrderSaid : Prop := worldOrderRow.holds Tryz.pinned (OpenSpec.ofChange worldOrderSpec)

/-- ITS FALSE NEIGHBOUR: 'it returns false'. Refute it at one input. -/
def worldOrderWrong : ChangeSpec := { name := "worldOrder", fn := fun _ => fun
  | [d1, d2] => { results := [.lit (.bool false)], args := [d1, d2] }
  | _ => none }
def WorldOrderWrongFalsely : Prop := worldOrderRow.holds Tryz.pinned (OpenSpec.ofChange worldOrderWrong)

/-- 'allotmentlaw23.AuditSound': WHATEVER THE INPUT: true; the input reads as it did. -/
def auditSoundSpec : ChangeSpec := { name := "auditSound", fn := fun _ => fun
  | [d1, d2] => { results := [.lit (.bool true)], args := [d1, d2] }
  | _ => none }
def auditSoundRow : OpenClaim := { program := "ytampacmmhhilaaagreat", sum := "38af741ee6b43f296edc46750a9ceb12140c26f536ed72fbe1e3befc6c257022", func := "allotment/allotmentlaw23.AuditSound", spec := "auditSound", inPlace := ["math.Float64bits", "math.Float64frombits"], unfollowed := true, recurses := true, plainKeys := false, apart := false }
def AuditSoundSaid : Prop := auditSoundRow.holds Tryz.pinned (OpenSpec.ofChange auditSoundSpec)

/-- ITS FALSE NEIGHBOUR: 'it returns false'. Refute it at one input. -/
def auditSoundWrong : ChangeSpec := { name := "auditSound", fn := fun _ => fun
  | [d1, d2] => { results := [.lit (.bool false)], args := [d1, d2] }
  | _ => none }
def AuditSoundWrongFalsely : Prop := auditSoundRow.holds Tryz.pinned (OpenSpec.ofChange auditSoundWrong)

/-- 'allotmenttop.TopAdopted': WHATEVER THE INPUT: true; the input reads as it did. -/
def topAdoptedSpec : ChangeSpec := { name := "topAdopted", fn := fun _ => fun
  | [d1, d2] => { results := [.lit (.bool true)], args := [d1, d2] }
  | _ => none }
def topAdoptedRow : OpenClaim := { program := "ytampacmmhhilaaagreat", sum := "38af741ee6b43f296edc46750a9ceb12140c26f536ed72fbe1e3befc6c257022", func := "allotment/allotmenttop.TopAdopted", spec := "topAdopted", inPlace := ["math.Float64bits", "math.Float64frombits"], unfollowed := true, recurses := true, plainKeys := false, apart := false }
def TopAdoptedSaid : Prop := topAdoptedRow.holds Tryz.pinned (OpenSpec.ofChange topAdoptedSpec)

/-- ITS FALSE NEIGHBOUR: 'it returns false'. Refute it at one input. -/
def topAdoptedWrong : ChangeSpec := { name := "topAdopted", fn := fun _ => fun
  | [d1, d2] => { results := [.lit (.bool false)], args := [d1, d2] }
  | _ => none }
def TopAdoptedWrongFalsely : Prop := topAdoptedRow.holds Tryz.pinned (OpenSpec.ofChange topAdoptedWrong)

/-- 'allotmenttop.TopEnds': WHATEVER THE INPUT: true; the input reads as it did. -/
def topEndsSpec : ChangeSpec := { name := "topEnds", fn := fun _ => fun
  | [d1, d2] => { results := [.lit (.bool true)], args := [d1, d2] }
  | _ => none }
def topEndsRow : OpenClaim := { program := "ytampacmmhhilaaagreat", sum := "38af741ee6b43f296edc46750a9ceb12140c26f536ed72fbe1e3befc6c257022", func := "allotment/allotmenttop.TopEnds", spec := "topEnds", inPlace := ["math.Float64bits", "math.Float64frombits"], unfollowed := true, recurses := true, plainKeys := false, apart := false }
def TopEndsSaid : Prop := topEndsRow.holds Tryz.pinned (OpenSpec.ofChange topEndsSpec)

/-- ITS FALSE NEIGHBOUR: 'it returns false'. Refute it at one input. -/
def topEndsWrong : ChangeSpec := { name := "topEnds", fn := fun _ => fun
  | [d1, d2] => { results := [.lit (.bool false)], args := [d1, d2] }
  | _ => none }
def TopEndsWrongFalsely : Prop := topEndsRow.holds Tryz.pinned (OpenSpec.ofChange topEndsWrong)

/- THE SECOND FORM. 'bulk': how many values and letters a reading holds, each counted each time it is reached (what is shared counts as often as it is met; a slice's spare places count too). A statement '..UptoSaid' is the law's where the arguments, and the package variables that the reading takes, are together of bulk at most 1048576: NARROWER than '..Said'. Prove '..Said' where nothing that the law and all that it calls make is longer than what came in: it says more and counts as full. Else prove '..UptoSaid'. A law counts once. -/
mutual
def uptoBulk {H : Type} : DataW H → Nat
  | .lit (.string bytes) => bytes.length + 1
  | .lit _ => 1
  | .nil => 1
  | .ptr d => uptoBulk d + 1
  | .slice elems spare => uptoBulkAll elems + uptoBulkAll spare + 1
  | .agg parts => uptoBulkAll parts + 1
  | .iface _ d => uptoBulk d + 1
  | .map entries => uptoBulkEntries entries + 1
  | .held _ => 1
def uptoBulkAll {H : Type} : List (DataW H) → Nat
  | [] => 0
  | d :: r => uptoBulk d + uptoBulkAll r
def uptoBulkEntries {H : Type} : List (Lit × DataW H) → Nat
  | [] => 0
  | x :: r => uptoBulkEntry x + uptoBulkEntries r
def uptoBulkEntry {H : Type} : Lit × DataW H → Nat
  | (.string bytes, d) => bytes.length + uptoBulk d + 1
  | (_, d) => uptoBulk d + 1
 end
def uptoSmall : (H : Type) → List (DataW H) → Bool := fun _ ds => decide (uptoBulkAll ds ≤ 1048576)
def OpenSpec.upto (s : _root_.Go.ChangeSpec) : _root_.Go.OpenSpec := { _root_.Go.OpenSpec.ofChange s with cond := some uptoSmall }

/-- 'allotmenttop.TopSolo', WHERE WHAT IT READS IS OF BULK AT MOST 1048576: true; the input reads as it did. -/
def topSoloUptoRow : OpenClaim := { program := "ytampacmmhhilaaagreat", sum := "38af741ee6b43f296edc46750a9ceb12140c26f536ed72fbe1e3befc6c257022", func := "allotment/allotmenttop.TopSolo", spec := "topSolo", inPlace := ["math.Float64bits", "math.Float64frombits"], unfollowed := true, recurses := true, plainKeys := false, apart := false, narrowed := true }
def TopSoloUptoSaid : Prop := topSoloUptoRow.holds Tryz.pinned (OpenSpec.upto topSoloSpec)

/-- 'allotmentlaw22.WorldKills', WHERE WHAT IT READS IS OF BULK AT MOST 1048576: true; the input reads as it did. -/
def worldKillsUptoRow : OpenClaim := { program := "ytampacmmhhilaaagreat", sum := "38af741ee6b43f296edc46750a9ceb12140c26f536ed72fbe1e3befc6c257022", func := "allotment/allotmentlaw22.WorldKills", spec := "worldKills", inPlace := ["math.Float64bits", "math.Float64frombits"], unfollowed := true, recurses := true, plainKeys := false, apart := false, narrowed := true }
def WorldKillsUptoSaid : Prop := worldKillsUptoRow.holds Tryz.pinned (OpenSpec.upto worldKillsSpec)

/-- 'allotmentlaw22.WorldSteps', WHERE WHAT IT READS IS OF BULK AT MOST 1048576: true; the input reads as it did. -/
def worldStepsUptoRow : OpenClaim := { program := "ytampacmmhhilaaagreat", sum := "38af741ee6b43f296edc46750a9ceb12140c26f536ed72fbe1e3befc6c257022", func := "allotment/allotmentlaw22.WorldSteps", spec := "worldSteps", inPlace := ["math.Float64bits", "math.Float64frombits"], unfollowed := true, recurses := true, plainKeys := false, apart := false, narrowed := true }
def WorldStepsUptoSaid : Prop := worldStepsUptoRow.holds Tryz.pinned (OpenSpec.upto worldStepsSpec)

/-- 'allotmentlaw22.WorldAlone', WHERE WHAT IT READS IS OF BULK AT MOST 1048576: true; the input reads as it did. -/
def worldAloneUptoRow : OpenClaim := { program := "ytampacmmhhilaaagreat", sum := "38af741ee6b43f296edc46750a9ceb12140c26f536ed72fbe1e3befc6c257022", func := "allotment/allotmentlaw22.WorldAlone", spec := "worldAlone", inPlace := ["math.Float64bits", "math.Float64frombits"], unfollowed := true, recurses := true, plainKeys := false, apart := false, narrowed := true }
def WorldAloneUptoSaid : Prop := worldAloneUptoRow.holds Tryz.pinned (OpenSpec.upto worldAloneSpec)

/-- 'allotmentlaw22.WorldReady', WHERE WHAT IT READS IS OF BULK AT MOST 1048576: true; the input reads as it did. -/
def worldReadyUptoRow : OpenClaim := { program := "ytampacmmhhilaaagreat", sum := "38af741ee6b43f296edc46750a9ceb12140c26f536ed72fbe1e3befc6c257022", func := "allotment/allotmentlaw22.WorldReady", spec := "worldReady", inPlace := ["math.Float64bits", "math.Float64frombits"], unfollowed := true, recurses := true, plainKeys := false, apart := false, narrowed := true }
def WorldReadyUptoSaid : Prop := worldReadyUptoRow.holds Tryz.pinned (OpenSpec.upto worldReadySpec)

/-- 'allotmentlaw22.WorldParts', WHERE WHAT IT READS IS OF BULK AT MOST 1048576: true; the input reads as it did. -/
def worldPartsUptoRow : OpenClaim := { program := "ytampacmmhhilaaagreat", sum := "38af741ee6b43f296edc46750a9ceb12140c26f536ed72fbe1e3befc6c257022", func := "allotment/allotmentlaw22.WorldParts", spec := "worldParts", inPlace := ["math.Float64bits", "math.Float64frombits"], unfollowed := true, recurses := true, plainKeys := false, apart := false, narrowed := true }
def WorldPartsUptoSaid : Prop := worldPartsUptoRow.holds Tryz.pinned (OpenSpec.upto worldPartsSpec)

/-- 'allotmentlaw22.WorldStart', WHERE WHAT IT READS IS OF BULK AT MOST 1048576: true; the input reads as it did. -/
def worldStartUptoRow : OpenClaim := { program := "ytampacmmhhilaaagreat", sum := "38af741ee6b43f296edc46750a9ceb12140c26f536ed72fbe1e3befc6c257022", func := "allotment/allotmentlaw22.WorldStart", spec := "worldStart", inPlace := ["math.Float64bits", "math.Float64frombits"], unfollowed := true, recurses := true, plainKeys := false, apart := false, narrowed := true }
def WorldStartUptoSaid : Prop := worldStartUptoRow.holds Tryz.pinned (OpenSpec.upto worldStartSpec)

/-- 'allotmentlaw22.WorldKnown', WHERE WHAT IT READS IS OF BULK AT MOST 1048576: true; the input reads as it did. -/
def worldKnownUptoRow : OpenClaim := { program := "ytampacmmhhilaaagreat", sum := "38af741ee6b43f296edc46750a9ceb12140c26f536ed72fbe1e3befc6c257022", func := "allotment/allotmentlaw22.WorldKnown", spec := "worldKnown", inPlace := ["math.Float64bits", "math.Float64frombits"], unfollowed := true, recurses := true, plainKeys := false, apart := false, narrowed := true }
def WorldKnownUptoSaid : Prop := worldKnownUptoRow.holds Tryz.pinned (OpenSpec.upto worldKnownSpec)

/-- 'allotmentlaw22.WorldOrder', WHERE WHAT IT READS IS OF BULK AT MOST 1048576: true; the input reads as it did. -/
def worldOrderUptoRow : OpenClaim := { program := "ytampacmmhhilaaagreat", sum := "38af741ee6b43f296edc46750a9ceb12140c26f536ed72fbe1e3befc6c257022", func := "allotment/allotmentlaw22.WorldOrder", spec := "worldOrder", inPlace := ["math.Float64bits", "math.Float64frombits", "slices.overlaps[allotment/model.Block]"], unfollowed := true, recurses := true, plainKeys := false, apart := false, narrowed := true }
def WorldOrderUptoSaid : Prop := worldOrderUptoRow.holds Tryz.pinned (OpenSpec.upto worldOrderSpec)

/-- 'allotmentlaw23.AuditSound', WHERE WHAT IT READS IS OF BULK AT MOST 1048576: true; the input reads as it did. -/
def auditSoundUptoRow : OpenClaim := { program := "ytampacmmhhilaaagreat", sum := "38af741ee6b43f296edc46750a9ceb12140c26f536ed72fbe1e3befc6c257022", func := "allotment/allotmentlaw23.AuditSound", spec := "auditSound", inPlace := ["math.Float64bits", "math.Float64frombits"], unfollowed := true, recurses := true, plainKeys := false, apart := false, narrowed := true }
def AuditSoundUptoSaid : Prop := auditSoundUptoRow.holds Tryz.pinned (OpenSpec.upto auditSoundSpec)

/-- 'allotmenttop.TopAdopted', WHERE WHAT IT READS IS OF BULK AT MOST 1048576: true; the input reads as it did. -/
def topAdoptedUptoRow : OpenClaim := { program := "ytampacmmhhilaaagreat", sum := "38af741ee6b43f296edc46750a9ceb12140c26f536ed72fbe1e3befc6c257022", func := "allotment/allotmenttop.TopAdopted", spec := "topAdopted", inPlace := ["math.Float64bits", "math.Float64frombits"], unfollowed := true, recurses := true, plainKeys := false, apart := false, narrowed := true }
def TopAdoptedUptoSaid : Prop := topAdoptedUptoRow.holds Tryz.pinned (OpenSpec.upto topAdoptedSpec)

/-- 'allotmenttop.TopEnds', WHERE WHAT IT READS IS OF BULK AT MOST 1048576: true; the input reads as it did. -/
def topEndsUptoRow : OpenClaim := { program := "ytampacmmhhilaaagreat", sum := "38af741ee6b43f296edc46750a9ceb12140c26f536ed72fbe1e3befc6c257022", func := "allotment/allotmenttop.TopEnds", spec := "topEnds", inPlace := ["math.Float64bits", "math.Float64frombits"], unfollowed := true, recurses := true, plainKeys := false, apart := false, narrowed := true }
def TopEndsUptoSaid : Prop := topEndsUptoRow.holds Tryz.pinned (OpenSpec.upto topEndsSpec)

end Rows
end Go.Proofs.YtampacmmhhilaaaGreat
