/- For every row of settings the law FrameRegs answers true: each register of the last frame holds what was set last, and none of another frame is touched. -/
import Derived.Test.YtngglkefhinkgaaFrameR
import Derived.Test.YtngglkefhinkgaaOpen
namespace Go.Proofs.Ytngglkefhinkgaa
open Go.RowKit Go.ChangeShapes Go.WideShapes Go.ChangeAt

theorem pick2 {R : Nat → Int → Int → Prop} (len : Nat) (h : ∀ j, j < len → ∃ r x : Int, R j r x) : ∃ f : Nat → Int × Int, ∀ j, j < len → R j (f j).1 (f j).2 := by
  refine ⟨fun j => if hj : j < len then (Classical.choose (h j hj), Classical.choose (Classical.choose_spec (h j hj))) else (0, 0), fun j hj => ?_⟩
  simp only [dif_pos hj]
  exact Classical.choose_spec (Classical.choose_spec (h j hj))
theorem getD_range (f : Nat → Int) (j n : Nat) (h : j < n) : ((List.range n).map f).getD j 0 = f j := by simp [List.getD_eq_getElem?_getD, h]
theorem getD_range_out (f : Nat → Int) (j n : Nat) (h : ¬ j < n) : ((List.range n).map f).getD j 0 = 0 := by simp [List.getD_eq_getElem?_getD, h]

set_option maxRecDepth 100000 in
theorem frameRegs_lifted (os : Os) (started : os.Started) (H : Type) (enc : TypeId × Value → H) :
    ReturnsInHanded {} Try.checked os 6 .any (Rows.frameRegsSpec.pre6 enc Try.prog Try.f6 Rows.frameRegsRow.domain false) (Rows.frameRegsSpec.post enc Try.prog Try.f6 false true false false) := by
  refine returnsInHanded_of_change_sized (C := Try.checked) own started (by kernel_rfl) Try.func6
    (ChangeSpec.witness6 (enc := enc) (C := Try.checked) false ⟨#[], #[.slice none 0 0, .int .u8 0], []⟩ 8 (by kernel_rfl) (by kernel_rfl) (by kernel_rfl) (by kernel_rfl)) ?_
  intro W base args ds gs before hval0 hW _ hsz0 _
  have hsz : (DataW.weightsEach Try.prog (Try.f6.params.toList ++ Rows.frameRegsSpec.plain.varTypes Try.prog) (ds ++ gs)).all (· ≤ reachBytes) = true := hsz0
  have hval : ∀ (j : Nat) t v, Try.f6.params[j]? = some t → args[j]? = some v → Value.okWide Try.prog W .any base t v := hval0
  have hW' := hW
  obtain ⟨p, q, hA0, hV, rfl, _, _⟩ := hW
  have hA : DataW.TrodAll enc Try.prog W 0 (fun _ => true) true Try.f6.params.toList args.toList ds p := hA0
  clear hA0 hval0 hsz0
  rw [Try.params6] at hA hval hsz
  obtain ⟨rfl, rfl⟩ := trodVars_none hV
  obtain ⟨v0, vs0, d0, ds0, p0, q0, hargs, rfl, rfl, h0, r0⟩ := trodAll_cons hA
  obtain ⟨v1, vs1, d1, ds1, p1, q1, rfl, rfl, rfl, h1, r1⟩ := trodAll_cons r0
  obtain ⟨rfl, rfl, rfl⟩ := trodAll_nil r1
  obtain rfl : args = #[v0, v1] := by cases args; simp_all
  have key : Calls Try.prog 6 #[v0, v1] W fun e W' => e = .returned (.bool true) ∧ Below W.heap.size W W' := by
    obtain ⟨a0, len, cap, rfl⟩ := okWide_slice Try.underlying50 (hval 0 50 v0 rfl rfl)
    obtain ⟨d, rfl, rfl, rfl, wd⟩ := open_int Try.underlying5 (hval 1 _ v1 rfl rfl) h1
    have bd := bounds_u8 wd
    by_cases hlen : (100 : Int) < (len : Int)
    · exact frameRegs_long a0 len cap d W hlen
    · obtain ⟨rs, xs, hc, hz⟩ : ∃ rs xs : List Int, (∀ j, j < len → ∃ b off, a0 = some ⟨b, off, .none⟩ ∧ b < W.heap.size ∧ W.cell? ⟨b, off + j * 2, .none⟩ = some (.int .i8 (rs.getD j 0)) ∧ W.cell? ⟨b, off + j * 2 + 1, .none⟩ = some (.int .i8 (xs.getD j 0))) ∧
          (∀ j, -128 ≤ rs.getD j 0 ∧ rs.getD j 0 ≤ 127 ∧ -128 ≤ xs.getD j 0 ∧ xs.getD j 0 ≤ 127) := by
        by_cases hl0 : len = 0
        · exact ⟨[], [], fun j hj => by omega, fun j => by simp⟩
        · obtain ⟨b, off, rfl, hb, hcap, hmax, hr⟩ := open_rows (sz := 2) Try.underlying50 (by kernel_rfl) (by decide) (rd_of_trod h0) hl0
          have key : ∀ j, j < len → ∃ r x : Int, W.cell? ⟨b, off + j * 2, .none⟩ = some (.int .i8 r) ∧ W.cell? ⟨b, off + j * 2 + 1, .none⟩ = some (.int .i8 x) ∧ -128 ≤ r ∧ r ≤ 127 ∧ -128 ≤ x ∧ x ≤ 127 := fun j hj => by
            obtain ⟨es, h3, h4, h5⟩ := hr j (by omega)
            obtain ⟨zs, h6, rfl, h7⟩ := arr_ints Try.underlying52 Try.underlying51 (by kernel_rfl) (by kernel_rfl) h4
            obtain ⟨r, x, rfl⟩ := list2 h6
            have br := bounds_i8 (h7 r (by simp))
            have bx := bounds_i8 (h7 x (by simp))
            exact ⟨r, x, h5 0 (by decide), h5 1 (by decide), br.1, br.2, bx.1, bx.2⟩
          obtain ⟨f, hf⟩ := pick2 len key
          refine ⟨(List.range len).map (fun i => (f i).1), (List.range len).map (fun i => (f i).2), fun j hj => ⟨b, off, rfl, hb, ?_, ?_⟩, fun j => ?_⟩
          · rw [getD_range _ j len hj]; exact (hf j hj).1
          · rw [getD_range _ j len hj]; exact (hf j hj).2.1
          · by_cases hj : j < len
            · rw [getD_range _ j len hj, getD_range _ j len hj]; exact (hf j hj).2.2
            · rw [getD_range_out _ j len hj, getD_range_out _ j len hj]; omega
      exact frameRegs_any a0 len cap rs xs d W (by omega) bd.1 bd.2 hc hz
  exact key.mono fun e W' ⟨he, hb⟩ => ⟨_, he, law_post laidOut (by kernel_rfl) Try.underlying4 rfl (by kernel_rfl) ⟨rfl, rfl, rfl⟩ hW' hb⟩

theorem frameRegs_holds : Rows.FrameRegsSaid :=
  OpenClaim.holds_of_wide 6 Try.f6 rfl rfl rfl rfl rfl rfl rfl ⟨rfl, rfl, rfl, rfl, rfl⟩ rfl rfl rfl rfl rfl (by kernel_rfl) Try.func6 (by kernel_rfl)
    (of_decide_eq_true (by kernel_rfl)) (by unfold Func.isWrapper; first | (rw [if_pos (by decide +kernel)]; kernel_rfl) | (rw [if_neg (by decide +kernel)]; exact ⟨rfl, rfl⟩))
    (fun os started H enc _ => frameRegs_lifted os started H enc)
end Go.Proofs.Ytngglkefhinkgaa
