/- Equality of rows of eight registers, and of frames. -/
import Derived.Test.YtngglkefhinkgaaBase
import Derived.ChangeKeysEq
namespace Go.Proofs.Ytngglkefhinkgaa
open Go.RowKit

theorem info64some : (Try.prog.info? 2).isSome = true := by kernel_rfl
theorem cells64 : Try.prog.cellsOf 2 = 1 := by kernel_rfl
/-- Two rows of registers are the same just if each register is. -/
theorem run_eqItems_ints (w : World) (d : Nat) (us bs : List Int) : ∀ (is : List Nat), (∀ i ∈ is, i < us.length ∧ i < bs.length) →
    (Op.eqItems (d + 1) 2 1 (us.map (Value.int .i64)).toArray (bs.map (Value.int .i64)).toArray is).run Try.prog w = .ok (is.all fun i => us.getD i 0 == bs.getD i 0) w
  | [], _ => by simp [Op.eqItems]
  | i :: is, h => by
    have hi := h i (by simp)
    have ih := run_eqItems_ints w d us bs is fun j hj => h j (by simp [hj])
    have he := Try.underlying2
    have px : (part 2 (us.map (Value.int .i64)).toArray (i * 1)).run Try.prog w = .ok (.int .i64 (us.getD i 0)) w := by
      simp [part, isAgg, run_underlying he, List.getD, List.getElem?_eq_getElem hi.1]
    have py : (part 2 (bs.map (Value.int .i64)).toArray (i * 1)).run Try.prog w = .ok (.int .i64 (bs.getD i 0)) w := by
      simp [part, isAgg, run_underlying he, List.getD, List.getElem?_eq_getElem hi.2]
    simp only [Op.eqItems, Sem.run_bind, px, py, run_equalIn_int w d _ .i64 .i64 _ _ he, Result.andThen_ok, List.all_cons]
    cases hb : (us.getD i 0 == bs.getD i 0)
    · simp
    · simpa using ih

theorem all_range_eq_beq (us bs : List Int) (h : us.length = bs.length) : ((List.range us.length).all fun i => us.getD i 0 == bs.getD i 0) = (us == bs) := by
  rw [Bool.eq_iff_iff]
  simp only [List.all_eq_true, List.mem_range, beq_iff_eq]
  constructor
  · intro hh
    apply List.ext_getElem h
    intro i h1 h2
    have := hh i h1
    simpa [List.getD_eq_getElem?_getD, h1, h2] using this
  · rintro rfl _ _; rfl

theorem run_equalIn_regs (w : World) (d : Nat) (us bs : List Int) (ha : us.length = 8) (hb : bs.length = 8) :
    (Op.equalIn (d + 2) 39 (.agg (us.map (Value.int .i64)).toArray) (.agg (bs.map (Value.int .i64)).toArray)).run Try.prog w = .ok (us == bs) w := by
  obtain ⟨i0, hi⟩ := Option.isSome_iff_exists.1 info64some
  rw [run_equalIn_array w (d + 1) _ _ Try.underlying39 hi, cells64, run_eqItems_ints w d us bs _ (fun i hi => by have := List.mem_range.1 hi; omega)]
  rw [← all_range_eq_beq us bs (by omega), ha]
end Go.Proofs.Ytngglkefhinkgaa
