/- For any two floats the law ScriptBias answers true: each is written and read as it was, but that one no number is like the other. -/
import Derived.Test.YtkeiehgojclecaaDoorScriptBiasW

import Derived.Test.YtkeiehgojclecaaDoorScrWit

import Derived.Test.YtkeiehgojclecaaDoorFlOpen

import Derived.SevenTiedAt

import Derived.OpenShut

import Derived.ProofKit

namespace Go.Proofs.YtkeiehgojclecaaDoor

open Go.RowKit Go.ChangeShapes Go.WideShapes Go.ChangeAt

theorem scriptBias_met (os : Os) : laidMet Tryd.prog Rows.scriptBiasRow.laid ((witW 2000 os).forCall (fun _ _ => 0) ⟨#[], #[.int .u64 0, .float .f64 0], []⟩).memory :=
  laidMet_of_run' 8 (by kernel_rfl) (by kernel_rfl)
theorem scriptBias_reads (os : Os) {H : Type} (enc : TypeId × Value → H) : ∃ places, DataW.whole enc Tryd.prog ((witW 2000 os).forCall (fun _ _ => 0) ⟨#[], #[.int .u64 0, .float .f64 0], []⟩).memory Tryd.f5.params.toList Rows.scriptBiasSpec.vars false #[Value.int .u64 0, .float .f64 0].toList 8 = some ([.lit (.int .u64 0), .lit (.float .f64 0)], [], places) :=
  ⟨[], by kernel_rfl⟩
set_option maxRecDepth 100000 in
theorem scriptBias_lifted (os : Os) (started : os.Started) (H : Type) (enc : TypeId × Value → H) (F : Stop.Interp) :
    ReturnsInHanded {} Tryd.checked os 5 .any ((OpenSpec.ofChange Rows.scriptBiasSpec).preRow enc Tryd.prog Tryd.f5 Rows.scriptBiasRow.domain false Rows.scriptBiasRow.laid) (((OpenSpec.ofChange Rows.scriptBiasSpec).at F).post enc Tryd.prog Tryd.f5 false true false false) := by
  obtain ⟨places, hx⟩ := scriptBias_reads os enc
  refine returnsInHanded_of_row (C := Tryd.checked) (s := OpenSpec.ofChange Rows.scriptBiasSpec) own started (by kernel_rfl) Tryd.func5
    (witness_row_atRef (enc := enc) (C := Tryd.checked) false (witW 2000 os) #[.int .u64 0, .float .f64 0] rfl (by kernel_rfl) (by kernel_rfl) (by kernel_rfl)
      (OpenSpec.preRow_of_cond 8 hx (by kernel_rfl) (fun k hk => by cases hk) (by kernel_rfl) (scriptBias_met os))) ?_
  intro W base args ds gs before hval0 hW _ _ _ hL hSh _
  have hval : ∀ (j : Nat) t v, Tryd.f5.params[j]? = some t → args[j]? = some v → Value.okWide Tryd.prog W .any base t v := hval0
  have hW' := hW
  obtain ⟨p, q, hA0, hV, rfl, _, _⟩ := hW
  have hA : DataW.TrodAll enc Tryd.prog W 0 (fun _ => true) true Tryd.f5.params.toList args.toList ds p := hA0
  clear hA0 hval0
  rw [Tryd.params5] at hA hval
  obtain ⟨rfl, rfl⟩ := trodVars_none hV
  obtain ⟨v0, vs0, d0, ds0, p0, q0, hargs, rfl, rfl, h0, r0⟩ := trodAll_cons hA
  obtain ⟨v1, vs1, d1, ds1, p1, q1, rfl, rfl, rfl, h1, r1⟩ := trodAll_cons r0
  obtain ⟨rfl, rfl, rfl⟩ := trodAll_nil r1
  obtain rfl : args = #[v0, v1] := by cases args; simp_all
  have hLaid : Laid W := laid_of (show laidMetH Tryd.prog Rows.scriptPrintsRow.laid W from hL) hSh
  have key : Calls Tryd.prog 5 #[v0, v1] W fun e W' => e = .returned (.bool true) ∧ Below W.heap.size W W' := by
    obtain ⟨a, rfl, rfl, rfl, wa⟩ := open_int Tryd.underlying39 (hval 0 _ v0 rfl rfl) h0
    obtain ⟨y, rfl, rfl, rfl, wy⟩ := open_float Tryd.underlying40 (hval 1 _ v1 rfl rfl) h1
    obtain ⟨a0, a1⟩ := bounds_u64 wa
    obtain ⟨x, rfl⟩ := Int.eq_ofNat_of_zero_le a0
    exact bias_any x y (by omega) (float_bd wy) W hLaid
  exact key.mono fun e W' ⟨he, hb⟩ => ⟨_, he, law_post laidOut (by kernel_rfl) Tryd.underlying4 rfl (by kernel_rfl) ⟨rfl, rfl, rfl⟩ hW' hb⟩
theorem scriptBias_said : Rows.ScriptBiasSaid :=
  OpenClaim.holds_of_cond 5 Tryd.f5 rfl rfl rfl rfl rfl rfl rfl ⟨rfl, rfl, rfl, rfl, rfl⟩ rfl rfl rfl rfl rfl (by kernel_rfl) Tryd.func5 (by kernel_rfl)
    (of_decide_eq_true (by kernel_rfl)) (by unfold Func.isWrapper; first | (rw [if_pos (by decide +kernel)]; kernel_rfl) | (rw [if_neg (by decide +kernel)]; exact ⟨rfl, rfl⟩))
    (fun os started H enc _ F => by rw [OpenClaim.pre_eq_preRow]; exact scriptBias_lifted os started H enc F)
theorem scriptBias_plain (f : FuncId) (fn : Func) (hf : Tryd.pinned.checked.prog.funcNamed "allotment/allotmentlaw25.ScriptBias" = some f) (hfn : Tryd.pinned.checked.prog.funcs[f]? = some fn) :
    true = Tryd.pinned.checked.prog.looks [] ∧ ∀ (j : Nat) t, fn.params[j]? = some t → Tryd.pinned.checked.prog.wantsStandIn t = false := by
  obtain rfl : f = 5 := Option.some.inj ((show Tryd.prog.funcNamed "allotment/allotmentlaw25.ScriptBias" = some 5 by kernel_rfl).symm.trans hf) |>.symm
  obtain rfl : fn = Tryd.f5 := (Option.some.inj (Tryd.func5.symm.trans hfn)).symm
  refine ⟨by kernel_rfl, fun j t ht => ?_⟩
  rw [Tryd.params5] at ht
  have hm : t ∈ [39, 40] := by simpa using Array.mem_of_getElem? ht
  have hall : ([39, 40].all fun u => !Tryd.prog.wantsStandIn u) = true := by kernel_rfl
  exact (show Tryd.prog.wantsStandIn t = false by simpa using List.all_eq_true.1 hall t hm)
theorem scriptBias_holds : Rows.ScriptBiasCardSaid :=
  Claim7.holds_tied_plain_at .later [] _ _ _ _ scriptBias_said (fun _ h => by cases h) (by kernel_rfl) (fun _ h => by cases h) scriptBias_row_tie rfl ⟨rfl, rfl⟩ (by kernel_rfl) rfl scriptBias_plain (by kernel_rfl)
end Go.Proofs.YtkeiehgojclecaaDoor
