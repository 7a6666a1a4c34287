/- For any numbers, bits and place the law SchedKeeps answers true: woven rows keep each its own order, nothing is lost, and what is cut is there without the cut. -/
import Derived.Test.YtpplmgahpohbmaaSchedKeepsW
namespace Go.Proofs.Ytpplmgahpohbmaa
open Go.RowKit Go.ChangeShapes Go.WideShapes Go.ChangeAt

/-- Two integers by value. -/
theorem open_arr2 {H : Type} {enc : TypeId × Value → H} {P : Program} {w : World} {r : Reach} {b0 : Nat} {t e : TypeId} {k : IntKind} {v : Value} {d : DataW H} {ps : List MemPlace} (ht : P.underlying t = some (.array 2 e)) (he : P.underlying e = some (.int k)) (ce : P.cellsOf e = 1) (ct : P.cellsOf t = 2)
    (hv : Value.okWide P w r b0 t v) (h : DataW.Trod enc P w 0 (fun _ => true) true t v d ps) :
    ∃ a b : Int, v = .agg #[.int k a, .int k b] ∧ (Lit.int k a).wf = true ∧ (Lit.int k b).wf = true := by
  obtain ⟨cs, rfl⟩ := agg_of (.inr ⟨_, _, ht⟩) hv
  obtain ⟨zs, hl, hc, hz⟩ := arr_ints ht he ce ct (rd_of_trod h)
  obtain ⟨a, b, rfl⟩ := list2 hl
  refine ⟨a, b, ?_, hz a (by simp), hz b (by simp)⟩
  congr 1
  exact Array.toList_inj.1 (by simpa [Value.cells] using hc)

set_option maxRecDepth 100000 in
theorem schedKeeps_lifted (os : Os) (started : os.Started) (H : Type) (enc : TypeId × Value → H) :
    ReturnsInHanded {} Try.checked os 4 .any (Rows.schedKeepsSpec.pre6 enc Try.prog Try.f4 Rows.schedKeepsRow.domain false) (Rows.schedKeepsSpec.post enc Try.prog Try.f4 false true false false) := by
  refine returnsInHanded_of_change_sized (C := Try.checked) own started (by kernel_rfl) Try.func4
    (ChangeSpec.witness6 (enc := enc) (C := Try.checked) false ⟨#[], #[.agg #[.int .u8 0, .int .u8 0], .slice none 0 0, .int .i64 0], []⟩ 8 (by kernel_rfl) (by kernel_rfl) (by kernel_rfl) (by kernel_rfl)) ?_
  intro W base args ds gs before hval0 hW _ hsz0 _
  have hsz : (DataW.weightsEach Try.prog (Try.f4.params.toList ++ Rows.schedKeepsSpec.plain.varTypes Try.prog) (ds ++ gs)).all (· ≤ reachBytes) = true := hsz0
  have hval : ∀ (j : Nat) t v, Try.f4.params[j]? = some t → args[j]? = some v → Value.okWide Try.prog W .any base t v := hval0
  have hW' := hW
  obtain ⟨p, q, hA0, hV, rfl, _, _⟩ := hW
  have hA : DataW.TrodAll enc Try.prog W 0 (fun _ => true) true Try.f4.params.toList args.toList ds p := hA0
  clear hA0 hval0 hsz0
  rw [Try.params4] at hA hval hsz
  obtain ⟨rfl, rfl⟩ := trodVars_none hV
  obtain ⟨v0, vs0, d0, ds0, p0, q0, hargs, rfl, rfl, h0, r0⟩ := trodAll_cons hA
  obtain ⟨v1, vs1, d1, ds1, p1, q1, rfl, rfl, rfl, h1, r1⟩ := trodAll_cons r0
  obtain ⟨v2, vs2, d2, ds2, p2, q2, rfl, rfl, rfl, h2, r2⟩ := trodAll_cons r1
  obtain ⟨rfl, rfl, rfl⟩ := trodAll_nil r2
  obtain rfl : args = #[v0, v1, v2] := by cases args; simp_all
  have key : Calls Try.prog 4 #[v0, v1, v2] W fun e W' => e = .returned (.bool true) ∧ Below W.heap.size W W' := by
    obtain ⟨a, b, rfl, wa, wb⟩ := open_arr2 Try.underlying36 Try.underlying5 (by kernel_rfl) (by kernel_rfl) (hval 0 36 v0 rfl rfl) h0
    obtain ⟨l, hr⟩ := open_bos Try.underlying37 Try.underlying4 (by kernel_rfl) (hval 1 37 v1 rfl rfl) h1
    obtain ⟨n, rfl, rfl, rfl, wn⟩ := open_int Try.underlying3 (hval 2 _ v2 rfl rfl) h2
    obtain ⟨t0, t1⟩ := bounds_i64 wn
    obtain ⟨a0, a1⟩ := bounds_u8 wa
    obtain ⟨b0, b1⟩ := bounds_u8 wb
    obtain ⟨x, rfl⟩ := Int.eq_ofNat_of_zero_le a0
    obtain ⟨y, rfl⟩ := Int.eq_ofNat_of_zero_le b0
    exact schedKeeps_any x y l _ n W hr (by omega) (by omega) t0 t1
  exact key.mono fun e W' ⟨he, hb⟩ => ⟨_, he, law_post laidOut (by kernel_rfl) Try.underlying4 rfl (by kernel_rfl) ⟨rfl, rfl, rfl⟩ hW' hb⟩

theorem schedKeeps_holds : Rows.SchedKeepsSaid :=
  OpenClaim.holds_of_wide 4 Try.f4 rfl rfl rfl rfl rfl rfl rfl ⟨rfl, rfl, rfl, rfl, rfl⟩ rfl rfl rfl rfl rfl (by kernel_rfl) Try.func4 (by kernel_rfl)
    (of_decide_eq_true (by kernel_rfl)) (by unfold Func.isWrapper; first | (rw [if_pos (by decide +kernel)]; kernel_rfl) | (rw [if_neg (by decide +kernel)]; exact ⟨rfl, rfl⟩))
    (fun os started H enc _ => schedKeeps_lifted os started H enc)
end Go.Proofs.Ytpplmgahpohbmaa
