/-
  No cell of these rows narrows 'for every input' (looked for: loops, veiled, ifaces, maps, wideKeys, modest, calm, conditions, laid).
  DERIVED. THE GIVEN ROWS OF THIS SEAT. 4 by the template 'for every input the law returns true; each argument reads behind the call as it read before'; 0 by the template 'total and deterministic' (their statements: YtclidckjnoafcaaTotals.lean).
  GIVEN WITH THE SEED: the statements are not yours to turn. If you find one false, say at which input.
  Laid BY PROGRAM, IN A SANDBOX (cutbox-rows.mjs): the forced cells as the released guide's own fill.sh prints them over the translation c2c5f6f730c4f6d4… (all of the seat's roots in one cut). By AI agents, Wed Nov 11 2026. No macro, syntax, notation, axiom, sorry.
-/
import Derived.Test.YtclidckjnoafcaaChecked
import GoSem.Claim
import GoSem.ClaimJoined
import GoSem.ClaimMapViews
import Derived.JoinedTies
import Derived.KernelRfl
namespace Go.Proofs.Ytclidckjnoafcaa
/- THE CELL 'sum', in the pinned program and in every row, IS THE sha256 OF THE DUMP (.gsa) THAT YtclidckjnoafcaaProg.lean LOADS. Nothing in Lean hashes anything: it is a label: what it is worth is what the hold of that sum in a sandbox is worth. -/
noncomputable def Try.pinned : Pinned := { name := "ytclidckjnoafcaa", sum := "c2c5f6f730c4f6d4e900dfa0c94b9b5b1891870c9247bd1b41f8b3b4f005b02e", checked := Try.checked }
namespace Rows
def none {H : Type} : Left H := { results := [], args := [] }

/-- 'allotmentlaw7.JudgeFirst': WHATEVER THE INPUT: true; the input reads as it did. -/
def judgeFirstSpec : ChangeSpec := { name := "judgeFirst", fn := fun _ => fun
  | [d1, d2, d3] => { results := [.lit (.bool true)], args := [d1, d2, d3] }
  | _ => none }
def judgeFirstRow : OpenClaim := { program := "ytclidckjnoafcaa", sum := "c2c5f6f730c4f6d4e900dfa0c94b9b5b1891870c9247bd1b41f8b3b4f005b02e", func := "allotment/allotmentlaw7.JudgeFirst", spec := "judgeFirst", inPlace := ["slices.overlaps[allotment/model.Block]"], unfollowed := true, recurses := true, apart := false }
def JudgeFirstSaid : Prop := judgeFirstRow.holds Try.pinned (OpenSpec.ofChange judgeFirstSpec)

/-- ITS FALSE NEIGHBOUR: 'it returns false'. Refute it at one input. -/
def judgeFirstWrong : ChangeSpec := { name := "judgeFirst", fn := fun _ => fun
  | [d1, d2, d3] => { results := [.lit (.bool false)], args := [d1, d2, d3] }
  | _ => none }
def JudgeFirstWrongFalsely : Prop := judgeFirstRow.holds Try.pinned (OpenSpec.ofChange judgeFirstWrong)

/-- 'allotmentlaw7.JudgeAnswers': WHATEVER THE INPUT: true; the input reads as it did. -/
def judgeAnswersSpec : ChangeSpec := { name := "judgeAnswers", fn := fun _ => fun
  | [d1, d2, d3] => { results := [.lit (.bool true)], args := [d1, d2, d3] }
  | _ => none }
def judgeAnswersRow : OpenClaim := { program := "ytclidckjnoafcaa", sum := "c2c5f6f730c4f6d4e900dfa0c94b9b5b1891870c9247bd1b41f8b3b4f005b02e", func := "allotment/allotmentlaw7.JudgeAnswers", spec := "judgeAnswers", inPlace := ["slices.overlaps[allotment/model.Block]"], unfollowed := true, recurses := true, apart := false }
def JudgeAnswersSaid : Prop := judgeAnswersRow.holds Try.pinned (OpenSpec.ofChange judgeAnswersSpec)

/-- ITS FALSE NEIGHBOUR: 'it returns false'. Refute it at one input. -/
def judgeAnswersWrong : ChangeSpec := { name := "judgeAnswers", fn := fun _ => fun
  | [d1, d2, d3] => { results := [.lit (.bool false)], args := [d1, d2, d3] }
  | _ => none }
def JudgeAnswersWrongFalsely : Prop := judgeAnswersRow.holds Try.pinned (OpenSpec.ofChange judgeAnswersWrong)

/-- 'allotmentlaw7.JudgeKills': WHATEVER THE INPUT: true; the input reads as it did. -/
def judgeKillsSpec : ChangeSpec := { name := "judgeKills", fn := fun _ => fun
  | [d1, d2, d3] => { results := [.lit (.bool true)], args := [d1, d2, d3] }
  | _ => none }
def judgeKillsRow : OpenClaim := { program := "ytclidckjnoafcaa", sum := "c2c5f6f730c4f6d4e900dfa0c94b9b5b1891870c9247bd1b41f8b3b4f005b02e", func := "allotment/allotmentlaw7.JudgeKills", spec := "judgeKills", inPlace := ["slices.overlaps[allotment/model.Block]"], unfollowed := true, recurses := true, apart := false }
def JudgeKillsSaid : Prop := judgeKillsRow.holds Try.pinned (OpenSpec.ofChange judgeKillsSpec)

/-- ITS FALSE NEIGHBOUR: 'it returns false'. Refute it at one input. -/
def judgeKillsWrong : ChangeSpec := { name := "judgeKills", fn := fun _ => fun
  | [d1, d2, d3] => { results := [.lit (.bool false)], args := [d1, d2, d3] }
  | _ => none }
def JudgeKillsWrongFalsely : Prop := judgeKillsRow.holds Try.pinned (OpenSpec.ofChange judgeKillsWrong)

/-- 'allotmentlaw7.JudgeBlocks': WHATEVER THE INPUT: true; the input reads as it did. -/
def judgeBlocksSpec : ChangeSpec := { name := "judgeBlocks", fn := fun _ => fun
  | [d1, d2] => { results := [.lit (.bool true)], args := [d1, d2] }
  | _ => none }
def judgeBlocksRow : OpenClaim := { program := "ytclidckjnoafcaa", sum := "c2c5f6f730c4f6d4e900dfa0c94b9b5b1891870c9247bd1b41f8b3b4f005b02e", func := "allotment/allotmentlaw7.JudgeBlocks", spec := "judgeBlocks", inPlace := ["slices.overlaps[allotment/model.Block]"], unfollowed := true, recurses := true, apart := false }
def JudgeBlocksSaid : Prop := judgeBlocksRow.holds Try.pinned (OpenSpec.ofChange judgeBlocksSpec)

/-- ITS FALSE NEIGHBOUR: 'it returns false'. Refute it at one input. -/
def judgeBlocksWrong : ChangeSpec := { name := "judgeBlocks", fn := fun _ => fun
  | [d1, d2] => { results := [.lit (.bool false)], args := [d1, d2] }
  | _ => none }
def JudgeBlocksWrongFalsely : Prop := judgeBlocksRow.holds Try.pinned (OpenSpec.ofChange judgeBlocksWrong)

/- THE SECOND FORM. 'bulk': how many values and letters a reading holds, each counted each time it is reached (what is shared counts as often as it is met; a slice's spare places count too). A statement '..UptoSaid' is the law's where the arguments, and the package variables that the reading takes, are together of bulk at most 1048576: NARROWER than '..Said'. Prove '..Said' where nothing that the law and all that it calls make is longer than what came in: it says more and counts as full. Else prove '..UptoSaid'. A law counts once. -/
mutual
def uptoBulk {H : Type} : DataW H → Nat
  | .lit (.string bytes) => bytes.length + 1
  | .lit _ => 1
  | .nil => 1
  | .ptr d => uptoBulk d + 1
  | .slice elems spare => uptoBulkAll elems + uptoBulkAll spare + 1
  | .agg parts => uptoBulkAll parts + 1
  | .iface _ d => uptoBulk d + 1
  | .map entries => uptoBulkEntries entries + 1
  | .held _ => 1
def uptoBulkAll {H : Type} : List (DataW H) → Nat
  | [] => 0
  | d :: r => uptoBulk d + uptoBulkAll r
def uptoBulkEntries {H : Type} : List (Lit × DataW H) → Nat
  | [] => 0
  | x :: r => uptoBulkEntry x + uptoBulkEntries r
def uptoBulkEntry {H : Type} : Lit × DataW H → Nat
  | (.string bytes, d) => bytes.length + uptoBulk d + 1
  | (_, d) => uptoBulk d + 1
 end
def uptoSmall : (H : Type) → List (DataW H) → Bool := fun _ ds => decide (uptoBulkAll ds ≤ 1048576)
def OpenSpec.upto (s : _root_.Go.ChangeSpec) : _root_.Go.OpenSpec := { _root_.Go.OpenSpec.ofChange s with cond := some uptoSmall }

/-- 'allotmentlaw7.JudgeFirst', WHERE WHAT IT READS IS OF BULK AT MOST 1048576: true; the input reads as it did. -/
def judgeFirstUptoRow : OpenClaim := { program := "ytclidckjnoafcaa", sum := "c2c5f6f730c4f6d4e900dfa0c94b9b5b1891870c9247bd1b41f8b3b4f005b02e", func := "allotment/allotmentlaw7.JudgeFirst", spec := "judgeFirst", inPlace := ["slices.overlaps[allotment/model.Block]"], unfollowed := true, recurses := true, apart := false, narrowed := true }
def JudgeFirstUptoSaid : Prop := judgeFirstUptoRow.holds Try.pinned (OpenSpec.upto judgeFirstSpec)

/-- 'allotmentlaw7.JudgeAnswers', WHERE WHAT IT READS IS OF BULK AT MOST 1048576: true; the input reads as it did. -/
def judgeAnswersUptoRow : OpenClaim := { program := "ytclidckjnoafcaa", sum := "c2c5f6f730c4f6d4e900dfa0c94b9b5b1891870c9247bd1b41f8b3b4f005b02e", func := "allotment/allotmentlaw7.JudgeAnswers", spec := "judgeAnswers", inPlace := ["slices.overlaps[allotment/model.Block]"], unfollowed := true, recurses := true, apart := false, narrowed := true }
def JudgeAnswersUptoSaid : Prop := judgeAnswersUptoRow.holds Try.pinned (OpenSpec.upto judgeAnswersSpec)

/-- 'allotmentlaw7.JudgeKills', WHERE WHAT IT READS IS OF BULK AT MOST 1048576: true; the input reads as it did. -/
def judgeKillsUptoRow : OpenClaim := { program := "ytclidckjnoafcaa", sum := "c2c5f6f730c4f6d4e900dfa0c94b9b5b1891870c9247bd1b41f8b3b4f005b02e", func := "allotment/allotmentlaw7.JudgeKills", spec := "judgeKills", inPlace := ["slices.overlaps[allotment/model.Block]"], unfollowed := true, recurses := true, apart := false, narrowed := true }
def JudgeKillsUptoSaid : Prop := judgeKillsUptoRow.holds Try.pinned (OpenSpec.upto judgeKillsSpec)

/-- 'allotmentlaw7.JudgeBlocks', WHERE WHAT IT READS IS OF BULK AT MOST 1048576: true; the input reads as it did. -/
def judgeBlocksUptoRow : OpenClaim := { program := "ytclidckjnoafcaa", sum := "c2c5f6f730c4f6d4e900dfa0c94b9b5b1891870c9247bd1b41f8b3b4f005b02e", func := "allotment/allotmentlaw7.JudgeBlocks", spec := "judgeBlocks", inPlace := ["slices.overlaps[allotment/model.Block]"], unfollowed := true, recurses := true, apart := false, narrowed := true }
def JudgeBlocksUptoSaid : Prop := judgeBlocksUptoRow.holds Try.pinned (OpenSpec.upto judgeBlocksSpec)

end Rows
end Go.Proofs.Ytclidckjnoafcaa
