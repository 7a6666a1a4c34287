/- For any row of floats and any three the law EdgeMost answers true: the greatest is one of them and none is above it; a float brought between two is one of the three, and lies between. -/
import Derived.Test.YtngglkefhinkgabEdgeMoW
import Derived.Test.YtngglkefhinkgabFlOpen
namespace Go.Proofs.Ytngglkefhinkgab
open Go.RowKit Go.ChangeShapes Go.WideShapes Go.ChangeAt

section
variable {H : Type} {enc : TypeId × Value → H} {w : World}
theorem open_floats {a0 : Option Addr} {len cap : Nat} (h : Rd enc Try.prog w 36 (Value.slice a0 len cap).cells.toList) : ∃ X : Nat → Nat, (len : Int) ≤ 9223372036854775807 ∧ Row w a0 len X := by
  have ce : Try.prog.cellsOf 22 = 1 := by kernel_rfl
  by_cases hl : len = 0
  · subst hl
    exact ⟨fun _ => 0, by omega, fun j hj => by omega, fun j => by show 0 < _; omega⟩
  · obtain ⟨b, off, rfl, _, hcap, hmax, hes⟩ := open_rows Try.underlying36 (sz := 1) ce (by omega) h hl
    have key : ∀ i, i < len → ∃ x : Nat, w.cell? ⟨b, off + i, .none⟩ = some (F64 x) ∧ x < 18446744073709551616 := fun i hi => by
      obtain ⟨es, h1, h2, h3⟩ := hes i (by omega)
      obtain ⟨x, rfl, hx⟩ := rd_float Try.underlying22 h2
      have := h3 0 (by omega)
      rw [Nat.mul_one, Nat.add_zero] at this
      exact ⟨x, this, float_bd hx⟩
    let f : Nat → Nat := fun i => match w.cell? ⟨b, off + i, .none⟩ with | some (.float _ x) => if x < 18446744073709551616 then x else 0 | _ => 0
    refine ⟨f, by simp only [maxLen] at hmax; omega, fun j hj => ⟨b, off, rfl, ?_⟩, fun j => ?_⟩
    · obtain ⟨x, h1, h2⟩ := key j hj
      have : f j = x := by simp only [f, h1, if_pos h2]
      rw [this]; exact h1
    · simp only [f]
      split
      · split <;> omega
      · omega
end

set_option maxRecDepth 100000 in
theorem edgeMost_lifted (os : Os) (started : os.Started) (H : Type) (enc : TypeId × Value → H) :
    ReturnsInHanded {} Try.checked os 7 .any (Rows.edgeMostSpec.pre6 enc Try.prog Try.f7 Rows.edgeMostRow.domain false) (Rows.edgeMostSpec.post enc Try.prog Try.f7 false true false false) := by
  refine returnsInHanded_of_change_sized (C := Try.checked) own started (by kernel_rfl) Try.func7
    (ChangeSpec.witness6 (enc := enc) (C := Try.checked) false ⟨#[], #[.slice none 0 0, .agg #[.float .f64 0, .float .f64 0, .float .f64 0]], []⟩ 8 (by kernel_rfl) (by kernel_rfl) (by kernel_rfl) (by kernel_rfl)) ?_
  intro W base args ds gs before hval0 hW _ hsz0 _
  have hsz : (DataW.weightsEach Try.prog (Try.f7.params.toList ++ Rows.edgeMostSpec.plain.varTypes Try.prog) (ds ++ gs)).all (· ≤ reachBytes) = true := hsz0
  have hval : ∀ (j : Nat) t v, Try.f7.params[j]? = some t → args[j]? = some v → Value.okWide Try.prog W .any base t v := hval0
  have hW' := hW
  obtain ⟨p, q, hA0, hV, rfl, _, _⟩ := hW
  have hA : DataW.TrodAll enc Try.prog W 0 (fun _ => true) true Try.f7.params.toList args.toList ds p := hA0
  clear hA0 hval0 hsz0
  rw [Try.params7] at hA hval hsz
  obtain ⟨rfl, rfl⟩ := trodVars_none hV
  obtain ⟨v0, vs0, d0, ds0, p0, q0, hargs, rfl, rfl, h0, r0⟩ := trodAll_cons hA
  obtain ⟨v1, vs1, d1, ds1, p1, q1, rfl, rfl, rfl, h1, r1⟩ := trodAll_cons r0
  obtain ⟨rfl, rfl, rfl⟩ := trodAll_nil r1
  obtain rfl : args = #[v0, v1] := by cases args; simp_all
  have key : Calls Try.prog 7 #[v0, v1] W fun e W' => e = .returned (.bool true) ∧ Below W.heap.size W W' := by
    obtain ⟨a0, len, cap, rfl⟩ := okWide_slice Try.underlying36 (hval 0 36 v0 rfl rfl)
    obtain ⟨cs, rfl⟩ := agg_of (.inr ⟨_, _, Try.underlying23⟩) (hval 1 _ v1 rfl rfl)
    obtain ⟨x0, x1, x2, hc, b0, b1, b2⟩ := arr_floats3 Try.underlying23 Try.underlying22 (by kernel_rfl) (by kernel_rfl) (rd_of_trod h1)
    obtain rfl : cs = #[F64 x0, F64 x1, F64 x2] := Array.toList_inj.1 (by simpa [Value.cells] using hc)
    obtain ⟨X, hlen, hX⟩ := open_floats (enc := enc) (w := W) (rd_of_trod h0)
    exact edgeMost_any a0 len cap X x0 x1 x2 W hlen hX b0 b1 b2
  exact key.mono fun e W' ⟨he, hb⟩ => ⟨_, he, law_post laidOut (by kernel_rfl) Try.underlying4 rfl (by kernel_rfl) ⟨rfl, rfl, rfl⟩ hW' hb⟩

theorem edgeMost_holds : Rows.EdgeMostSaid :=
  OpenClaim.holds_of_wide 7 Try.f7 rfl rfl rfl rfl rfl rfl rfl ⟨rfl, rfl, rfl, rfl, rfl⟩ rfl rfl rfl rfl rfl (by kernel_rfl) Try.func7 (by kernel_rfl)
    (of_decide_eq_true (by kernel_rfl)) (by unfold Func.isWrapper; first | (rw [if_pos (by decide +kernel)]; kernel_rfl) | (rw [if_neg (by decide +kernel)]; exact ⟨rfl, rfl⟩))
    (fun os started H enc _ => edgeMost_lifted os started H enc)
end Go.Proofs.Ytngglkefhinkgab
