/- For any rows of choices, any bits, place, client and number the law SchedRows answers true: rows alone, in turns, woven and cut are the reference's. -/
import Derived.Test.YtpplmgahpohbmaaSchedRowsW
import Derived.Test.YtpplmgahpohbmaaSchO
import Derived.Test.YtpplmgahpohbmaaRwP
namespace Go.Proofs.Ytpplmgahpohbmaa
open Go.RowKit Go.ChangeShapes Go.WideShapes Go.ChangeAt

theorem open_ask {H : Type} {enc : TypeId × Value → H} {w : World} {r : Reach} {b0 : Nat} {v : Value} {d : DataW H} {ps : List MemPlace} (hv : Value.okWide Try.prog w r b0 48 v) (h : DataW.Trod enc Try.prog w 0 (fun _ => true) true 48 v d ps) :
    ∃ (t c k : Int) (zs : List Int) (l : List Bool) (vL vB : Value), v = .agg #[.int .i64 t, .int .i64 c, .int .i64 k, vL, vB] ∧ RdZ .i64 w vL zs ∧ RdBo w vB l ∧ (Lit.int .i64 t).wf = true ∧ (Lit.int .i64 k).wf = true := by
  obtain ⟨cs, rfl⟩ := agg_of (.inl ⟨_, Try.underlying48⟩) hv
  obtain ⟨hl, hf⟩ := rd_struct Try.underlying48 (rd_of_trod h)
  have ct : Try.prog.cellsOf 48 = 5 := by kernel_rfl
  have k1 : Try.prog.cellsOf 3 = 1 := by kernel_rfl
  have k2 : Try.prog.cellsOf 24 = 1 := by kernel_rfl
  have k3 : Try.prog.cellsOf 37 = 1 := by kernel_rfl
  rw [ct] at hl
  have h5 : ∃ x0 x1 x2 x3 x4, (Value.agg cs).cells.toList = [x0, x1, x2, x3, x4] := by
    match (Value.agg cs).cells.toList, hl with
    | [x0, x1, x2, x3, x4], _ => exact ⟨x0, x1, x2, x3, x4, rfl⟩
  obtain ⟨x0, x1, x2, x3, x4, hx⟩ := h5
  rw [hx] at hf
  have g0 : Rd enc Try.prog w 3 (([x0, x1, x2, x3, x4].drop 0).take (Try.prog.cellsOf 3)) := hf 0 _ rfl
  have g1 : Rd enc Try.prog w 3 (([x0, x1, x2, x3, x4].drop 1).take (Try.prog.cellsOf 3)) := hf 1 _ rfl
  have g2 : Rd enc Try.prog w 3 (([x0, x1, x2, x3, x4].drop 2).take (Try.prog.cellsOf 3)) := hf 2 _ rfl
  have g3 : Rd enc Try.prog w 24 (([x0, x1, x2, x3, x4].drop 3).take (Try.prog.cellsOf 24)) := hf 3 _ rfl
  have g4 : Rd enc Try.prog w 37 (([x0, x1, x2, x3, x4].drop 4).take (Try.prog.cellsOf 37)) := hf 4 _ rfl
  rw [k1] at g0 g1 g2
  rw [k2] at g3
  rw [k3] at g4
  obtain ⟨t, ht, wt⟩ := rd_int Try.underlying3 g0
  obtain ⟨c, hc, _⟩ := rd_int Try.underlying3 g1
  obtain ⟨k, hk, wk⟩ := rd_int Try.underlying3 g2
  obtain ⟨vL, zs, hL, hz, _⟩ := zs_of_rd Try.underlying24 Try.underlying3 k1 g3
  obtain ⟨vB, l, hB, hl'⟩ := bos_of_rd Try.underlying37 Try.underlying4 (by kernel_rfl) g4
  injection ht with ht; injection hc with hc; injection hk with hk; injection hL with hL; injection hB with hB
  subst ht hc hk hL hB
  refine ⟨t, c, k, zs, l, _, _, ?_, hz, hl', wt, wk⟩
  congr 1
  exact Array.toList_inj.1 (by simpa [Value.cells] using hx)

set_option maxRecDepth 100000 in
theorem schedRows_lifted (os : Os) (started : os.Started) (H : Type) (enc : TypeId × Value → H) :
    ReturnsInHanded {} Try.checked os 6 .any (Rows.schedRowsSpec.pre6 enc Try.prog Try.f6 Rows.schedRowsRow.domain false) (Rows.schedRowsSpec.post enc Try.prog Try.f6 false true false false) := by
  refine returnsInHanded_of_change_sized (C := Try.checked) own started (by kernel_rfl) Try.func6
    (ChangeSpec.witness6 (enc := enc) (C := Try.checked) false ⟨#[], #[.slice none 0 0, .slice none 0 0, .agg #[.int .i64 0, .int .i64 0, .int .i64 0, .slice none 0 0, .slice none 0 0]], []⟩ 8 (by kernel_rfl) (by kernel_rfl) (by kernel_rfl) (by kernel_rfl)) ?_
  intro W base args ds gs before hval0 hW _ hsz0 _
  have hsz : (DataW.weightsEach Try.prog (Try.f6.params.toList ++ Rows.schedRowsSpec.plain.varTypes Try.prog) (ds ++ gs)).all (· ≤ reachBytes) = true := hsz0
  have hval : ∀ (j : Nat) t v, Try.f6.params[j]? = some t → args[j]? = some v → Value.okWide Try.prog W .any base t v := hval0
  have hW' := hW
  obtain ⟨p, q, hA0, hV, rfl, _, _⟩ := hW
  have hA : DataW.TrodAll enc Try.prog W 0 (fun _ => true) true Try.f6.params.toList args.toList ds p := hA0
  clear hA0 hval0 hsz0
  rw [Try.params6] at hA hval hsz
  obtain ⟨rfl, rfl⟩ := trodVars_none hV
  obtain ⟨v0, vs0, d0, ds0, p0, q0, hargs, rfl, rfl, h0, r0⟩ := trodAll_cons hA
  obtain ⟨v1, vs1, d1, ds1, p1, q1, rfl, rfl, rfl, h1, r1⟩ := trodAll_cons r0
  obtain ⟨v2, vs2, d2, ds2, p2, q2, rfl, rfl, rfl, h2, r2⟩ := trodAll_cons r1
  obtain ⟨rfl, rfl, rfl⟩ := trodAll_nil r2
  obtain rfl : args = #[v0, v1, v2] := by cases args; simp_all
  have key : Calls Try.prog 6 #[v0, v1, v2] W fun e W' => e = .returned (.bool true) ∧ Below W.heap.size W W' := by
    obtain ⟨xs, hx, fx⟩ := open_chs (hval 0 41 v0 rfl rfl) h0
    obtain ⟨ys, hy, fy⟩ := open_chs (hval 1 41 v1 rfl rfl) h1
    obtain ⟨t, c, k, zs, l, vL, vB, rfl, hz, hl, wt, wk⟩ := open_ask (hval 2 48 v2 rfl rfl) h2
    obtain ⟨t0, t1⟩ := bounds_i64 wt
    obtain ⟨k0, k1⟩ := bounds_i64 wk
    exact schedRows_any xs ys _ _ vL vB t c k zs l W hx hy fx fy hz hl t0 t1 k0 k1
  exact key.mono fun e W' ⟨he, hb⟩ => ⟨_, he, law_post laidOut (by kernel_rfl) Try.underlying4 rfl (by kernel_rfl) ⟨rfl, rfl, rfl⟩ hW' hb⟩

theorem schedRows_holds : Rows.SchedRowsSaid :=
  OpenClaim.holds_of_wide 6 Try.f6 rfl rfl rfl rfl rfl rfl rfl ⟨rfl, rfl, rfl, rfl, rfl⟩ rfl rfl rfl rfl rfl (by kernel_rfl) Try.func6 (by kernel_rfl)
    (of_decide_eq_true (by kernel_rfl)) (by unfold Func.isWrapper; first | (rw [if_pos (by decide +kernel)]; kernel_rfl) | (rw [if_neg (by decide +kernel)]; exact ⟨rfl, rfl⟩))
    (fun os started H enc _ => schedRows_lifted os started H enc)
end Go.Proofs.Ytpplmgahpohbmaa
