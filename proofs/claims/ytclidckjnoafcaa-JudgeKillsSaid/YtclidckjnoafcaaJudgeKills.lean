/- For any shape, any row of events and any two numbers the law JudgeKills answers true: one that is killed with an operation that has not taken is out of it, what it gave stays given, and it may not be heard of any more. -/
import Derived.Test.YtclidckjnoafcaaJudgeKillsW

import Derived.Test.YtclidckjnoafcaaJudO

namespace Go.Proofs.Ytclidckjnoafcaa

open Go.RowKit Go.ChangeShapes Go.WideShapes Go.ChangeAt

theorem bounds_u8' {a : Int} (h : (Lit.int .u8 a).wf = true) : 0 ≤ a ∧ a < 256 := by
  simp [Lit.wf, IntKind.min, IntKind.max, IntKind.bits, IntKind.signed] at h
  omega

theorem open_arr2 {H : Type} {enc : TypeId × Value → H} {P : Program} {w : World} {r : Reach} {b0 : Nat} {t e : TypeId} {k : IntKind} {v : Value} {d : DataW H} {ps : List MemPlace} (ht : P.underlying t = some (.array 2 e)) (he : P.underlying e = some (.int k)) (ce : P.cellsOf e = 1) (ct : P.cellsOf t = 2)
    (hv : Value.okWide P w r b0 t v) (h : DataW.Trod enc P w 0 (fun _ => true) true t v d ps) :
    ∃ a b : Int, v = .agg #[.int k a, .int k b] ∧ (Lit.int k a).wf = true ∧ (Lit.int k b).wf = true := by
  obtain ⟨cs, rfl⟩ := agg_of (.inr ⟨_, _, ht⟩) hv
  obtain ⟨zs, hl, hc, hz⟩ := arr_ints ht he ce ct (rd_of_trod h)
  obtain ⟨a, b, rfl⟩ := list2 hl
  refine ⟨a, b, ?_, hz a (by simp), hz b (by simp)⟩
  congr 1
  exact Array.toList_inj.1 (by simpa [Value.cells] using hc)

attribute [local go_sem ↓] Go.wp_at_zero Go.wp_at_succ

set_option maxRecDepth 100000 in
set_option maxHeartbeats 1000000 in
theorem judgeKills_any (p c m a b : Int) (es : List Ev) (v : Value) (w : World) (ha : 0 ≤ a ∧ a < 256) (hb : 0 ≤ b ∧ b < 256) (hr : RdE w v es) (hf : fitE es) :
    Calls Try.prog 5 #[.agg #[.int .i64 p, .int .i64 c, .int .i64 m], v, .agg #[.int .u8 a, .int .u8 b]] w fun e w' => e = .returned (.bool true) ∧ Below w.heap.size w w' := by
  have haw := Lib.hid (fun X => awake7_any X)
  have hki : Hid (∀ X, Below w.heap.size w X → Calls Try.prog 12 #[.agg #[.int .i64 p, .int .i64 c, .int .i64 m], v, .int .i64 a, .int .i64 b] X fun e w' => e = .returned (.bool true) ∧ Below X.heap.size X w') := Lib.hid fun X hX => kills_any p c m a b es v X ha hb (hr.below hX) hf
  have wa : IntKind.i64.wrap a = a := IntWalk.i64_in _ ⟨by omega, by omega⟩
  have wb : IntKind.i64.wrap b = b := IntWalk.i64_in _ ⟨by omega, by omega⟩
  clear hr hf
  obtain ⟨t1, t2, _, _⟩ := two_blocks w (.cells #[.int .i64 p, .int .i64 c, .int .i64 m] 23) (.cells #[.int .u8 a, .int .u8 b] 41)
  have b1 := (Below.refl w.heap.size w).alloc (Nat.le_refl _) (.cells #[.int .i64 p, .int .i64 c, .int .i64 m] 23)
  have b2 := b1.alloc b1.size (.cells #[.int .u8 a, .int .u8 b] 41)
  go_enter Try.func5, Try.ntmps5
  go_upto_region 1 with fail
  generalize (w.alloc (.cells #[.int .i64 p, .int .i64 c, .int .i64 m] 23)).alloc (.cells #[.int .u8 a, .int .u8 b] 41) = W at *
  go_wp2_with fail
  refine (haw.out W).mono ?_
  rintro r W1 ⟨rfl, hb1⟩
  have hB := b2.trans (hb1.mono b2.size)
  have c0 : W1.cell? ⟨w.heap.size, 0, .none⟩ = some (.int .i64 p) := keepF hb1 _ _ _ (rowCells t1 0)
  have c1 : W1.cell? ⟨w.heap.size, 1, .none⟩ = some (.int .i64 c) := keepF hb1 _ _ _ (rowCells t1 1)
  have c2 : W1.cell? ⟨w.heap.size, 2, .none⟩ = some (.int .i64 m) := keepF hb1 _ _ _ (rowCells t1 2)
  have d0 : W1.cell? ⟨w.heap.size + 1, 0, .none⟩ = some (.int .u8 a) := keepF hb1 _ _ _ (rowCells t2 0)
  have d1 : W1.cell? ⟨w.heap.size + 1, 1, .none⟩ = some (.int .u8 b) := keepF hb1 _ _ _ (rowCells t2 1)
  clear t1 t2 b1 b2 hb1
  go_wp2_with fail
  refine (hki.out W1 hB).mono ?_
  rintro r W2 ⟨rfl, hb2⟩
  have hB2 := hB.trans (hb2.mono hB.size)
  go_wp2
  go_ret
  exact ⟨rfl, hB2⟩

set_option maxRecDepth 100000 in
theorem judgeKills_lifted (os : Os) (started : os.Started) (H : Type) (enc : TypeId × Value → H) :
    ReturnsInHanded {} Try.checked os 5 .any (Rows.judgeKillsSpec.pre6 enc Try.prog Try.f5 Rows.judgeKillsRow.domain false) (Rows.judgeKillsSpec.post enc Try.prog Try.f5 false true false false) := by
  refine returnsInHanded_of_change_sized (C := Try.checked) own started (by kernel_rfl) Try.func5
    (ChangeSpec.witness6 (enc := enc) (C := Try.checked) false ⟨#[], #[.agg #[.int .i64 0, .int .i64 0, .int .i64 0], .slice none 0 0, .agg #[.int .u8 0, .int .u8 0]], []⟩ 8 (by kernel_rfl) (by kernel_rfl) (by kernel_rfl) (by kernel_rfl)) ?_
  intro W base args ds gs before hval0 hW _ hsz0 _
  have hsz : (DataW.weightsEach Try.prog (Try.f5.params.toList ++ Rows.judgeKillsSpec.plain.varTypes Try.prog) (ds ++ gs)).all (· ≤ reachBytes) = true := hsz0
  have hval : ∀ (j : Nat) t v, Try.f5.params[j]? = some t → args[j]? = some v → Value.okWide Try.prog W .any base t v := hval0
  have hW' := hW
  obtain ⟨p, q, hA0, hV, rfl, _, _⟩ := hW
  have hA : DataW.TrodAll enc Try.prog W 0 (fun _ => true) true Try.f5.params.toList args.toList ds p := hA0
  clear hA0 hval0 hsz0
  rw [Try.params5] at hA hval hsz
  obtain ⟨rfl, rfl⟩ := trodVars_none hV
  obtain ⟨v0, vs0, d0, ds0, p0, q0, hargs, rfl, rfl, h0, r0⟩ := trodAll_cons hA
  obtain ⟨v1, vs1, d1, ds1, p1, q1, rfl, rfl, rfl, h1, r1⟩ := trodAll_cons r0
  obtain ⟨v2, vs2, d2, ds2, p2, q2, rfl, rfl, rfl, h2, r2⟩ := trodAll_cons r1
  obtain ⟨rfl, rfl, rfl⟩ := trodAll_nil r2
  obtain rfl : args = #[v0, v1, v2] := by cases args; simp_all
  have key : Calls Try.prog 5 #[v0, v1, v2] W fun e W' => e = .returned (.bool true) ∧ Below W.heap.size W W' := by
    obtain ⟨p, c, m, rfl, _, _, _⟩ := open_int3 Try.underlying23 Try.underlying3 Try.underlying3 Try.underlying3 (by kernel_rfl) (by kernel_rfl) (by kernel_rfl) rfl rfl rfl (by kernel_rfl) (hval 0 _ v0 rfl rfl) h0
    obtain ⟨es, hr, hf⟩ := open_evs (hval 1 24 v1 rfl rfl) h1
    obtain ⟨a, b, rfl, wa, wb⟩ := open_arr2 Try.underlying41 Try.underlying5 (by kernel_rfl) (by kernel_rfl) (hval 2 _ v2 rfl rfl) h2
    exact judgeKills_any p c m a b es v1 W (bounds_u8' wa) (bounds_u8' wb) hr hf
  exact key.mono fun e W' ⟨he, hb⟩ => ⟨_, he, law_post laidOut (by kernel_rfl) Try.underlying4 rfl (by kernel_rfl) ⟨rfl, rfl, rfl⟩ hW' hb⟩

theorem judgeKills_holds : Rows.JudgeKillsSaid :=
  OpenClaim.holds_of_wide 5 Try.f5 rfl rfl rfl rfl rfl rfl rfl ⟨rfl, rfl, rfl, rfl, rfl⟩ rfl rfl rfl rfl rfl (by kernel_rfl) Try.func5 (by kernel_rfl)
    (of_decide_eq_true (by kernel_rfl)) (by unfold Func.isWrapper; first | (rw [if_pos (by decide +kernel)]; kernel_rfl) | (rw [if_neg (by decide +kernel)]; exact ⟨rfl, rfl⟩))
    (fun os started H enc _ => judgeKills_lifted os started H enc)
end Go.Proofs.Ytclidckjnoafcaa
