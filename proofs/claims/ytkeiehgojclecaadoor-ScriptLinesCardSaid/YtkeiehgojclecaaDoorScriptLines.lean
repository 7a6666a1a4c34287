/- For any choices the law ScriptLines answers true: a line that is none, among lines that are, is told by its number; without it the others are read. -/
import Derived.Test.YtkeiehgojclecaaDoorScriptLinesW

import Derived.Test.YtkeiehgojclecaaDoorScrWit

import Derived.SevenTiedAt

import Derived.OpenShut

import Derived.ProofKit

namespace Go.Proofs.YtkeiehgojclecaaDoor

open Go.RowKit Go.ChangeShapes Go.WideShapes Go.ChangeAt

theorem scriptLines_met (os : Os) : laidMet Tryd.prog Rows.scriptLinesRow.laid ((witW 2000 os).forCall (fun _ _ => 0) ⟨#[], #[.slice none 0 0, .int .u8 0, .int .u8 0], []⟩).memory :=
  laidMet_of_run' 8 (by kernel_rfl) (by kernel_rfl)
theorem scriptLines_reads (os : Os) {H : Type} (enc : TypeId × Value → H) : ∃ places, DataW.whole enc Tryd.prog ((witW 2000 os).forCall (fun _ _ => 0) ⟨#[], #[.slice none 0 0, .int .u8 0, .int .u8 0], []⟩).memory Tryd.f3.params.toList Rows.scriptLinesSpec.vars false #[Value.slice none 0 0, .int .u8 0, .int .u8 0].toList 8 = some ([.nil, .lit (.int .u8 0), .lit (.int .u8 0)], [], places) :=
  ⟨[], by kernel_rfl⟩
set_option maxRecDepth 100000 in
theorem scriptLines_lifted (os : Os) (started : os.Started) (H : Type) (enc : TypeId × Value → H) (F : Stop.Interp) :
    ReturnsInHanded {} Tryd.checked os 3 .any ((OpenSpec.ofChange Rows.scriptLinesSpec).preRow enc Tryd.prog Tryd.f3 Rows.scriptLinesRow.domain false Rows.scriptLinesRow.laid) (((OpenSpec.ofChange Rows.scriptLinesSpec).at F).post enc Tryd.prog Tryd.f3 false true false false) := by
  obtain ⟨places, hx⟩ := scriptLines_reads os enc
  refine returnsInHanded_of_row (C := Tryd.checked) (s := OpenSpec.ofChange Rows.scriptLinesSpec) own started (by kernel_rfl) Tryd.func3
    (witness_row_atRef (enc := enc) (C := Tryd.checked) false (witW 2000 os) #[.slice none 0 0, .int .u8 0, .int .u8 0] rfl (by kernel_rfl) (by kernel_rfl) (by kernel_rfl)
      (OpenSpec.preRow_of_cond 8 hx (by kernel_rfl) (fun k hk => by cases hk) (by kernel_rfl) (scriptLines_met os))) ?_
  intro W base args ds gs before hval0 hW _ _ _ hL hSh _
  have hval : ∀ (j : Nat) t v, Tryd.f3.params[j]? = some t → args[j]? = some v → Value.okWide Tryd.prog W .any base t v := hval0
  have hW' := hW
  obtain ⟨p, q, hA0, hV, rfl, _, _⟩ := hW
  have hA : DataW.TrodAll enc Tryd.prog W 0 (fun _ => true) true Tryd.f3.params.toList args.toList ds p := hA0
  clear hA0 hval0
  rw [Tryd.params3] at hA hval
  obtain ⟨rfl, rfl⟩ := trodVars_none hV
  obtain ⟨v0, vs0, d0, ds0, p0, q0, hargs, rfl, rfl, h0, r0⟩ := trodAll_cons hA
  obtain ⟨v1, vs1, d1, ds1, p1, q1, rfl, rfl, rfl, h1, r1⟩ := trodAll_cons r0
  obtain ⟨v2, vs2, d2, ds2, p2, q2, rfl, rfl, rfl, h2, r2⟩ := trodAll_cons r1
  obtain ⟨rfl, rfl, rfl⟩ := trodAll_nil r2
  obtain rfl : args = #[v0, v1, v2] := by cases args; simp_all
  have hLaid : Laid W := laid_of (show laidMetH Tryd.prog Rows.scriptPrintsRow.laid W from hL) hSh
  have key : Calls Tryd.prog 3 #[v0, v1, v2] W fun e W' => e = .returned (.bool true) ∧ Below W.heap.size W W' := by
    obtain ⟨xs, hr, hx⟩ := open_chw (hval 0 22 v0 rfl rfl) h0
    obtain ⟨a, rfl, rfl, rfl, wa⟩ := open_int Tryd.underlying5 (hval 1 _ v1 rfl rfl) h1
    obtain ⟨b, rfl, rfl, rfl, wb⟩ := open_int Tryd.underlying5 (hval 2 _ v2 rfl rfl) h2
    obtain ⟨a0, a1⟩ := bd_u8 wa
    obtain ⟨b0, b1⟩ := bd_u8 wb
    obtain ⟨x, rfl⟩ := Int.eq_ofNat_of_zero_le a0
    obtain ⟨y, rfl⟩ := Int.eq_ofNat_of_zero_le b0
    exact slines_any xs v0 x y (by omega) (by omega) W hr hx hLaid
  exact key.mono fun e W' ⟨he, hb⟩ => ⟨_, he, law_post laidOut (by kernel_rfl) Tryd.underlying4 rfl (by kernel_rfl) ⟨rfl, rfl, rfl⟩ hW' hb⟩
theorem scriptLines_said : Rows.ScriptLinesSaid :=
  OpenClaim.holds_of_cond 3 Tryd.f3 rfl rfl rfl rfl rfl rfl rfl ⟨rfl, rfl, rfl, rfl, rfl⟩ rfl rfl rfl rfl rfl (by kernel_rfl) Tryd.func3 (by kernel_rfl)
    (of_decide_eq_true (by kernel_rfl)) (by unfold Func.isWrapper; first | (rw [if_pos (by decide +kernel)]; kernel_rfl) | (rw [if_neg (by decide +kernel)]; exact ⟨rfl, rfl⟩))
    (fun os started H enc _ F => by rw [OpenClaim.pre_eq_preRow]; exact scriptLines_lifted os started H enc F)
theorem scriptLines_plain (f : FuncId) (fn : Func) (hf : Tryd.pinned.checked.prog.funcNamed "allotment/allotmentlaw25.ScriptLines" = some f) (hfn : Tryd.pinned.checked.prog.funcs[f]? = some fn) :
    true = Tryd.pinned.checked.prog.looks [] ∧ ∀ (j : Nat) t, fn.params[j]? = some t → Tryd.pinned.checked.prog.wantsStandIn t = false := by
  obtain rfl : f = 3 := Option.some.inj ((show Tryd.prog.funcNamed "allotment/allotmentlaw25.ScriptLines" = some 3 by kernel_rfl).symm.trans hf) |>.symm
  obtain rfl : fn = Tryd.f3 := (Option.some.inj (Tryd.func3.symm.trans hfn)).symm
  refine ⟨by kernel_rfl, fun j t ht => ?_⟩
  rw [Tryd.params3] at ht
  have hm : t ∈ [22, 5, 5] := by simpa using Array.mem_of_getElem? ht
  have hall : ([22, 5, 5].all fun u => !Tryd.prog.wantsStandIn u) = true := by kernel_rfl
  exact (show Tryd.prog.wantsStandIn t = false by simpa using List.all_eq_true.1 hall t hm)
theorem scriptLines_holds : Rows.ScriptLinesCardSaid :=
  Claim7.holds_tied_plain_at .later [] _ _ _ _ scriptLines_said (fun _ h => by cases h) (by kernel_rfl) (fun _ h => by cases h) scriptLines_row_tie rfl ⟨rfl, rfl⟩ (by kernel_rfl) rfl scriptLines_plain (by kernel_rfl)
end Go.Proofs.YtkeiehgojclecaaDoor
