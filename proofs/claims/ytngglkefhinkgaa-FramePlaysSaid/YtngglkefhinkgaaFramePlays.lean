/- For any bound and any row of deeds the law FramePlays answers true: whatever is pushed, popped, set, each answer, the depth and the last frame are the reference's. -/
import Derived.Test.YtngglkefhinkgaaPlays
import Derived.Test.YtngglkefhinkgaaOpen
namespace Go.Proofs.Ytngglkefhinkgaa
open Go.RowKit Go.ChangeShapes Go.WideShapes Go.ChangeAt

set_option maxRecDepth 100000 in
theorem framePlays_long (most : Int) (ao : Option Addr) (len cap : Nat) (w : World) (_hmax : (len : Int) ≤ 9223372036854775807) (hlen : (100 : Int) < (len : Int)) :
    Calls Try.prog 7 #[.int .i64 most, .slice ao len cap] w fun e w' => e = .returned (.bool true) ∧ Below w.heap.size w w' := by
  go_enter Try.func7, Try.ntmps7
  go_wp2_with (go_at_call 14; refine (frame_awake _).mono ?_; rintro e w1 ⟨rfl, hw1⟩)
  go_ret
  exact ⟨rfl, hw1⟩

section
variable {H : Type} {enc : TypeId × Value → H} {w : World}
/-- A row of integers: where it lies, its numbers. -/
theorem ints_slice {P : Program} {t e : TypeId} {cs : List Value} (ht : P.underlying t = some (.slice e)) (he : P.underlying e = some (.int .i64)) (ce : P.cellsOf e = 1) (h : Rd enc P w t cs) :
    ∃ (ao : Option Addr) (rl rc : Nat) (zs : List Int), cs = [.slice ao rl rc] ∧ (rl : Int) ≤ 9223372036854775807 ∧ zs.length = rl ∧ (∀ a, ao = some a → ∀ j v, (zs.map (Value.int .i64))[j]? = some v → w.cell? (a.add j) = some v) ∧ (ao = none → zs = []) := by
  rcases rd_slice ht h with rfl | ⟨a, len, cap, rfl, h1, h2, h3⟩
  · exact ⟨none, 0, 0, [], rfl, by omega, rfl, fun a ha => (by cases ha), fun _ => rfl⟩
  · have key : ∀ i, i < len → ∃ n, w.cell? (a.add i) = some (.int .i64 n) := fun i hi => by
      obtain ⟨es, h4, h5⟩ := h3 i (by omega)
      rw [ce, Nat.mul_one] at h4
      obtain ⟨n, rfl, _⟩ := rd_int he h5
      exact ⟨n, cell_of_cells?_one h4⟩
    let f : Nat → Int := fun i => match w.cell? (a.add i) with | some (.int _ n) => n | _ => 0
    refine ⟨some a, len, cap, (List.range len).map f, rfl, by simp only [maxLen] at h2; omega, by simp, fun a' ha j v hv => ?_, fun h => by cases h⟩
    obtain rfl := Option.some.inj ha
    by_cases hj : j < len
    · obtain ⟨n, hn⟩ := key j hj
      simp [hj, f, hn] at hv
      rw [hn, hv]
    · simp [hj] at hv
theorem deed_at {b off j : Nat} {es : List Value} (hel : es.length = 4) (hrd : Rd enc Try.prog w 60 es) (hcs : ∀ i, i < 4 → w.cell? ⟨b, off + j * 4 + i, .none⟩ = es[i]?) :
    ∃ dv n x ao' rl rc, DeedAt w b (off + j * 4) dv n x ao' rl rc := by
  obtain ⟨_, hf⟩ := rd_struct Try.underlying60 hrd
  match es, hel with
  | [x0, x1, x2, x3], _ =>
    have k1 : Try.prog.cellsOf 3 = 1 := by kernel_rfl
    have k2 : Try.prog.cellsOf 2 = 1 := by kernel_rfl
    have k3 : Try.prog.cellsOf 44 = 1 := by kernel_rfl
    have g0 : Rd enc Try.prog w 3 (([x0, x1, x2, x3].drop 0).take (Try.prog.cellsOf 3)) := hf 0 _ rfl
    have g1 : Rd enc Try.prog w 3 (([x0, x1, x2, x3].drop 1).take (Try.prog.cellsOf 3)) := hf 1 _ rfl
    have g2 : Rd enc Try.prog w 2 (([x0, x1, x2, x3].drop 2).take (Try.prog.cellsOf 2)) := hf 2 _ rfl
    have g3 : Rd enc Try.prog w 44 (([x0, x1, x2, x3].drop 3).take (Try.prog.cellsOf 44)) := hf 3 _ rfl
    rw [k1] at g0 g1
    rw [k2] at g2
    rw [k3] at g3
    obtain ⟨dv, h0, _⟩ := rd_int Try.underlying3 g0
    obtain ⟨n, h1, _⟩ := rd_int Try.underlying3 g1
    obtain ⟨x, h2, _⟩ := rd_int Try.underlying2 g2
    obtain ⟨ao, rl, rc, zs, h3, hrl, hz, hc, hn⟩ := ints_slice Try.underlying44 Try.underlying2 k2 g3
    injection h0 with h0; injection h1 with h1; injection h2 with h2; injection h3 with h3
    subst h0 h1 h2 h3
    exact ⟨dv, n, x, ao, rl, rc, hcs 0 (by omega), hcs 1 (by omega), hcs 2 (by omega), hcs 3 (by omega), hrl, fun _ => ⟨zs, hz, hc, hn⟩⟩
end

set_option maxRecDepth 100000 in
theorem framePlays_lifted (os : Os) (started : os.Started) (H : Type) (enc : TypeId × Value → H) :
    ReturnsInHanded {} Try.checked os 7 .any (Rows.framePlaysSpec.pre6 enc Try.prog Try.f7 Rows.framePlaysRow.domain false) (Rows.framePlaysSpec.post enc Try.prog Try.f7 false true false false) := by
  refine returnsInHanded_of_change_sized (C := Try.checked) own started (by kernel_rfl) Try.func7
    (ChangeSpec.witness6 (enc := enc) (C := Try.checked) false ⟨#[], #[.int .i64 0, .slice none 0 0], []⟩ 8 (by kernel_rfl) (by kernel_rfl) (by kernel_rfl) (by kernel_rfl)) ?_
  intro W base args ds gs before hval0 hW _ hsz0 _
  have hsz : (DataW.weightsEach Try.prog (Try.f7.params.toList ++ Rows.framePlaysSpec.plain.varTypes Try.prog) (ds ++ gs)).all (· ≤ reachBytes) = true := hsz0
  have hval : ∀ (j : Nat) t v, Try.f7.params[j]? = some t → args[j]? = some v → Value.okWide Try.prog W .any base t v := hval0
  have hW' := hW
  obtain ⟨p, q, hA0, hV, rfl, _, _⟩ := hW
  have hA : DataW.TrodAll enc Try.prog W 0 (fun _ => true) true Try.f7.params.toList args.toList ds p := hA0
  clear hA0 hval0 hsz0
  rw [Try.params7] at hA hval hsz
  obtain ⟨rfl, rfl⟩ := trodVars_none hV
  obtain ⟨v0, vs0, d0, ds0, p0, q0, hargs, rfl, rfl, h0, r0⟩ := trodAll_cons hA
  obtain ⟨v1, vs1, d1, ds1, p1, q1, rfl, rfl, rfl, h1, r1⟩ := trodAll_cons r0
  obtain ⟨rfl, rfl, rfl⟩ := trodAll_nil r1
  obtain rfl : args = #[v0, v1] := by cases args; simp_all
  have key : Calls Try.prog 7 #[v0, v1] W fun e W' => e = .returned (.bool true) ∧ Below W.heap.size W W' := by
    obtain ⟨most, rfl, rfl, rfl, wm⟩ := open_int Try.underlying3 (hval 0 _ v0 rfl rfl) h0
    obtain ⟨a0, len, cap, rfl⟩ := okWide_slice Try.underlying54 (hval 1 54 v1 rfl rfl)
    obtain ⟨b1, b2⟩ := bounds_i64 wm
    by_cases hl0 : len = 0
    · subst hl0
      exact framePlays_any most a0 0 cap W b1 b2 (by omega) (fun b off _ j hj => by omega) (fun j hj => by omega)
    · obtain ⟨b, off, rfl, hb, hcap, hmax, hes⟩ := open_rows Try.underlying54 (sz := 4) (by kernel_rfl) (by omega) (rd_of_trod h1) hl0
      by_cases hl : len ≤ 100
      · refine framePlays_any most _ len cap W b1 b2 (by omega) (fun b' off' e j hj => ?_) (fun j _ => ⟨b, off, rfl⟩)
        obtain ⟨rfl, rfl⟩ : b = b' ∧ off = off' := by injection e with e; injection e with e1 e2; exact ⟨e1, e2⟩
        obtain ⟨es, hel, hrd, hcs⟩ := hes j (by omega)
        exact deed_at hel hrd hcs
      · exact framePlays_long most _ len cap W (by simp only [maxLen] at hmax; omega) (by omega)
  exact key.mono fun e W' ⟨he, hb⟩ => ⟨_, he, law_post laidOut (by kernel_rfl) Try.underlying4 rfl (by kernel_rfl) ⟨rfl, rfl, rfl⟩ hW' hb⟩

theorem framePlays_holds : Rows.FramePlaysSaid :=
  OpenClaim.holds_of_wide 7 Try.f7 rfl rfl rfl rfl rfl rfl rfl ⟨rfl, rfl, rfl, rfl, rfl⟩ rfl rfl rfl rfl rfl (by kernel_rfl) Try.func7 (by kernel_rfl)
    (of_decide_eq_true (by kernel_rfl)) (by unfold Func.isWrapper; first | (rw [if_pos (by decide +kernel)]; kernel_rfl) | (rw [if_neg (by decide +kernel)]; exact ⟨rfl, rfl⟩))
    (fun os started H enc _ => framePlays_lifted os started H enc)
end Go.Proofs.Ytngglkefhinkgaa
