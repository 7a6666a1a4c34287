/- Whatever words and operations, the law ClientBusy answers true: who has an operation takes no other one, and is not changed by the asking; who has none does no step. -/
import Derived.Test.YtcgakbgmdabnkaaGreatZBusyW

import Derived.Test.YtcgakbgmdabnkaaGreatBn5

set_option linter.all false
namespace Go.Proofs.YtcgakbgmdabnkaaGreat

open Go.RowKit Go.ChangeShapes Go.WideShapes Go.ChangeAt

theorem bounds_u64 {a : Int} (h : (Lit.int .u64 a).wf = true) : 0 ≤ a ∧ a < 18446744073709551616 := by
  simp [Lit.wf, IntKind.min, IntKind.max, IntKind.bits, IntKind.signed] at h
  omega
/-- Two structs of three integers each, by value. -/
theorem open_two3 {H : Type} {enc : TypeId × Value → H} {P : Program} {w : World} {r : Reach} {b0 : Nat} {t e : TypeId} {k : IntKind} {f0 f1 f2 : Field} {v : Value} {d : DataW H} {ps : List MemPlace} (hta : P.underlying t = some (.array 2 e)) (ht : P.underlying e = some (.struct #[f0, f1, f2]))
    (u0 : P.underlying f0.type = some (.int k)) (u1 : P.underlying f1.type = some (.int k)) (u2 : P.underlying f2.type = some (.int k)) (c0 : P.cellsOf f0.type = 1) (c1 : P.cellsOf f1.type = 1) (c2 : P.cellsOf f2.type = 1)
    (o0 : f0.offset = 0) (o1 : f1.offset = 1) (o2 : f2.offset = 2) (ce : P.cellsOf e = 3) (ct : P.cellsOf t = 6) (hv : Value.okWide P w r b0 t v) (h : DataW.Trod enc P w 0 (fun _ => true) true t v d ps) :
    ∃ a b c d e f : Int, v = .agg #[.int k a, .int k b, .int k c, .int k d, .int k e, .int k f] := by
  obtain ⟨cs, rfl⟩ := agg_of (.inr ⟨_, _, hta⟩) hv
  obtain ⟨hl, ha⟩ := rd_array hta (rd_of_trod h)
  have hone : ∀ i, i < 2 → ∃ a b c : Int, (((Value.agg cs).cells.toList).drop (i * 3)).take 3 = [.int k a, .int k b, .int k c] := fun i hi => by
    have := ha i hi
    rw [ce] at this
    obtain ⟨hl2, hf⟩ := rd_struct ht this
    rw [ce] at hl2
    obtain ⟨x, y, z, hx⟩ := list3 hl2
    have g0 := hf 0 f0 rfl
    have g1 := hf 1 f1 rfl
    have g2 := hf 2 f2 rfl
    rw [hx, o0, c0] at g0
    rw [hx, o1, c1] at g1
    rw [hx, o2, c2] at g2
    obtain ⟨a, ha, _⟩ := rd_int u0 g0
    obtain ⟨b, hb, _⟩ := rd_int u1 g1
    obtain ⟨c, hc, _⟩ := rd_int u2 g2
    simp only [List.drop_zero, List.take_succ_cons, List.take_zero, List.cons.injEq, and_true, List.drop_succ_cons] at ha hb hc
    exact ⟨a, b, c, by rw [hx, ha, hb, hc]⟩
  obtain ⟨a, b, c, h1⟩ := hone 0 (by omega)
  obtain ⟨d, e, f, h2⟩ := hone 1 (by omega)
  refine ⟨a, b, c, d, e, f, ?_⟩
  congr 1
  apply Array.toList_inj.1
  have e0 : (Value.agg cs).cells.toList = cs.toList := by simp [Value.cells]
  rw [e0] at h1 h2 hl
  rw [ct] at hl
  have e2 : cs.toList = ((cs.toList.drop (0 * 3)).take 3) ++ ((cs.toList.drop (1 * 3)).take 3) := by
    have h3 : (cs.toList.drop (1 * 3)).take 3 = cs.toList.drop 3 := List.take_of_length_le (by rw [List.length_drop]; omega)
    rw [h3]
    simp
  rw [h1, h2] at e2
  exact e2
set_option maxRecDepth 100000 in
theorem clientBusy_lifted (os : Os) (started : os.Started) (H : Type) (enc : TypeId × Value → H) :
    ReturnsInHanded {} Tryz.checked os 4 .any (Rows.clientBusySpec.pre6 enc Tryz.prog Tryz.f4 Rows.clientBusyRow.domain false) (Rows.clientBusySpec.post enc Tryz.prog Tryz.f4 false true false false) := by
  refine returnsInHanded_of_change_sized (C := Tryz.checked) own started (by kernel_rfl) Tryz.func4
    (ChangeSpec.witness6 (enc := enc) (C := Tryz.checked) false ⟨#[], #[.agg #[.int .i64 0, .int .i64 0, .int .i64 0], .slice none 0 0, .agg #[.int .i64 0, .int .i64 0, .int .i64 0, .int .i64 0, .int .i64 0, .int .i64 0]], []⟩ 8 (by kernel_rfl) (by kernel_rfl) (by kernel_rfl) (by kernel_rfl)) ?_
  intro W base args ds gs before hval0 hW _ hsz0 _
  have hsz : (DataW.weightsEach Tryz.prog (Tryz.f4.params.toList ++ Rows.clientBusySpec.plain.varTypes Tryz.prog) (ds ++ gs)).all (· ≤ reachBytes) = true := hsz0
  have hval : ∀ (j : Nat) t v, Tryz.f4.params[j]? = some t → args[j]? = some v → Value.okWide Tryz.prog W .any base t v := hval0
  have hW' := hW
  obtain ⟨p, q, hA0, hV, rfl, _, _⟩ := hW
  have hA : DataW.TrodAll enc Tryz.prog W 0 (fun _ => true) true Tryz.f4.params.toList args.toList ds p := hA0
  clear hA0 hval0 hsz0
  rw [Tryz.params4] at hA hval hsz
  obtain ⟨rfl, rfl⟩ := trodVars_none hV
  obtain ⟨v0, vs0, d0, ds0, p0, q0, hargs, rfl, rfl, h0, r0⟩ := trodAll_cons hA
  obtain ⟨v1, vs1, d1, ds1, p1, q1, rfl, rfl, rfl, h1, r1⟩ := trodAll_cons r0
  obtain ⟨v2, vs2, d2, ds2, p2, q2, rfl, rfl, rfl, h2, r2⟩ := trodAll_cons r1
  obtain ⟨rfl, rfl, rfl⟩ := trodAll_nil r2
  obtain rfl : args = #[v0, v1, v2] := by cases args; simp_all
  have key : Calls Tryz.prog 4 #[v0, v1, v2] W fun e W' => e = .returned (.bool true) ∧ Below W.heap.size W W' := by
    obtain ⟨sp, sc, sm, rfl, _, _, _⟩ := open_int3 Tryz.underlying23 Tryz.underlying3 Tryz.underlying3 Tryz.underlying3 (by kernel_rfl) (by kernel_rfl) (by kernel_rfl) rfl rfl rfl (by kernel_rfl) (hval 0 _ v0 rfl rfl) h0
    obtain ⟨xs, hr, hf⟩ := open_zs Tryz.underlying24 Tryz.underlying76 (by kernel_rfl) (hval 1 _ v1 rfl rfl) h1
    obtain ⟨a, b, c, d, e, f, rfl⟩ := open_two3 Tryz.underlying44 Tryz.underlying26 Tryz.underlying3 Tryz.underlying3 Tryz.underlying3 (by kernel_rfl) (by kernel_rfl) (by kernel_rfl) rfl rfl rfl (by kernel_rfl) (by kernel_rfl) (hval 2 _ v2 rfl rfl) h2
    exact busy_any ⟨sp, sc, sm⟩ xs ⟨a, b, c⟩ ⟨d, e, f⟩ v1 W hr (fun x hx => bounds_u64 (hf x hx))
  exact key.mono fun e W' ⟨he, hb⟩ => ⟨_, he, law_post laidOut (by kernel_rfl) Tryz.underlying4 rfl (by kernel_rfl) ⟨rfl, rfl, rfl⟩ hW' hb⟩

theorem clientBusy_holds : Rows.ClientBusySaid :=
  OpenClaim.holds_of_wide 4 Tryz.f4 rfl rfl rfl rfl rfl rfl rfl ⟨rfl, rfl, rfl, rfl, rfl⟩ rfl rfl rfl rfl rfl (by kernel_rfl) Tryz.func4 (by kernel_rfl)
    (of_decide_eq_true (by kernel_rfl)) (by unfold Func.isWrapper; first | (rw [if_pos (by decide +kernel)]; kernel_rfl) | (rw [if_neg (by decide +kernel)]; exact ⟨rfl, rfl⟩))
    (fun os started H enc _ => clientBusy_lifted os started H enc)
end Go.Proofs.YtcgakbgmdabnkaaGreat
