/- For any shape and any row of events the law JudgeBlocks answers true: of a history in order what is in blocks is what was taken and not given since. -/
import Derived.Test.YtclidckjnoafcaaJudgeBlocksW

import Derived.Test.YtclidckjnoafcaaJudO

namespace Go.Proofs.Ytclidckjnoafcaa

open Go.RowKit Go.ChangeShapes Go.WideShapes Go.ChangeAt

set_option maxRecDepth 100000 in
theorem judgeBlocks_lifted (os : Os) (started : os.Started) (H : Type) (enc : TypeId × Value → H) :
    ReturnsInHanded {} Try.checked os 6 .any (Rows.judgeBlocksSpec.pre6 enc Try.prog Try.f6 Rows.judgeBlocksRow.domain false) (Rows.judgeBlocksSpec.post enc Try.prog Try.f6 false true false false) := by
  refine returnsInHanded_of_change_sized (C := Try.checked) own started (by kernel_rfl) Try.func6
    (ChangeSpec.witness6 (enc := enc) (C := Try.checked) false ⟨#[], #[.agg #[.int .i64 0, .int .i64 0, .int .i64 0], .slice none 0 0], []⟩ 8 (by kernel_rfl) (by kernel_rfl) (by kernel_rfl) (by kernel_rfl)) ?_
  intro W base args ds gs before hval0 hW _ hsz0 _
  have hsz : (DataW.weightsEach Try.prog (Try.f6.params.toList ++ Rows.judgeBlocksSpec.plain.varTypes Try.prog) (ds ++ gs)).all (· ≤ reachBytes) = true := hsz0
  have hval : ∀ (j : Nat) t v, Try.f6.params[j]? = some t → args[j]? = some v → Value.okWide Try.prog W .any base t v := hval0
  have hW' := hW
  obtain ⟨p, q, hA0, hV, rfl, _, _⟩ := hW
  have hA : DataW.TrodAll enc Try.prog W 0 (fun _ => true) true Try.f6.params.toList args.toList ds p := hA0
  clear hA0 hval0 hsz0
  rw [Try.params6] at hA hval hsz
  obtain ⟨rfl, rfl⟩ := trodVars_none hV
  obtain ⟨v0, vs0, d0, ds0, p0, q0, hargs, rfl, rfl, h0, r0⟩ := trodAll_cons hA
  obtain ⟨v1, vs1, d1, ds1, p1, q1, rfl, rfl, rfl, h1, r1⟩ := trodAll_cons r0
  obtain ⟨rfl, rfl, rfl⟩ := trodAll_nil r1
  obtain rfl : args = #[v0, v1] := by cases args; simp_all
  have key : Calls Try.prog 6 #[v0, v1] W fun e W' => e = .returned (.bool true) ∧ Below W.heap.size W W' := by
    obtain ⟨p, c, m, rfl, _, _, _⟩ := open_int3 Try.underlying23 Try.underlying3 Try.underlying3 Try.underlying3 (by kernel_rfl) (by kernel_rfl) (by kernel_rfl) rfl rfl rfl (by kernel_rfl) (hval 0 _ v0 rfl rfl) h0
    obtain ⟨es, hr, hf⟩ := open_evs (hval 1 24 v1 rfl rfl) h1
    exact judgeBlocks_any p c m es v1 W hr hf
  exact key.mono fun e W' ⟨he, hb⟩ => ⟨_, he, law_post laidOut (by kernel_rfl) Try.underlying4 rfl (by kernel_rfl) ⟨rfl, rfl, rfl⟩ hW' hb⟩

theorem judgeBlocks_holds : Rows.JudgeBlocksSaid :=
  OpenClaim.holds_of_wide 6 Try.f6 rfl rfl rfl rfl rfl rfl rfl ⟨rfl, rfl, rfl, rfl, rfl⟩ rfl rfl rfl rfl rfl (by kernel_rfl) Try.func6 (by kernel_rfl)
    (of_decide_eq_true (by kernel_rfl)) (by unfold Func.isWrapper; first | (rw [if_pos (by decide +kernel)]; kernel_rfl) | (rw [if_neg (by decide +kernel)]; exact ⟨rfl, rfl⟩))
    (fun os started H enc _ => judgeBlocks_lifted os started H enc)

end Go.Proofs.Ytclidckjnoafcaa
