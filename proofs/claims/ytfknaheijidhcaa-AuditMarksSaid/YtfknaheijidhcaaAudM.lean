/- Maps whose keys are pairs: what a look-up and a setting do. -/
import Derived.Test.YtfknaheijidhcaaAudF

import Derived.ChangeKeysEq

import Derived.Maps.Own

namespace Go.Proofs.Ytfknaheijidhcaa

open Go.RowKit

theorem infoIntSome : (Try.prog.info? 3).isSome = true := by kernel_rfl
theorem cellsInt : Try.prog.cellsOf 3 = 1 := by kernel_rfl
theorem run_eqItems_pair (w : World) (d : Nat) (us bs : List Int) : ∀ (is : List Nat), (∀ i ∈ is, i < us.length ∧ i < bs.length) →
    (Op.eqItems (d + 1) 3 1 (us.map (Value.int .i64)).toArray (bs.map (Value.int .i64)).toArray is).run Try.prog w = .ok (is.all fun i => us.getD i 0 == bs.getD i 0) w
  | [], _ => by simp [Op.eqItems]
  | i :: is, h => by
    have hi := h i (by simp)
    have ih := run_eqItems_pair w d us bs is fun j hj => h j (by simp [hj])
    have he := Try.underlying3
    have px : (part 3 (us.map (Value.int .i64)).toArray (i * 1)).run Try.prog w = .ok (.int .i64 (us.getD i 0)) w := by
      simp [part, isAgg, run_underlying he, List.getD, List.getElem?_eq_getElem hi.1]
    have py : (part 3 (bs.map (Value.int .i64)).toArray (i * 1)).run Try.prog w = .ok (.int .i64 (bs.getD i 0)) w := by
      simp [part, isAgg, run_underlying he, List.getD, List.getElem?_eq_getElem hi.2]
    simp only [Op.eqItems, Sem.run_bind, px, py, run_equalIn_int w d _ .i64 .i64 _ _ he, Result.andThen_ok, List.all_cons]
    cases hb : (us.getD i 0 == bs.getD i 0)
    · simp
    · simpa using ih
theorem equal2 (a b c d : Int) (w : World) : ∃ r : Bool, (Op.equal 65 (.agg #[.int .i64 a, .int .i64 b]) (.agg #[.int .i64 c, .int .i64 d])).run Try.prog w = .ok r w ∧ r = ([0, 1].all fun i => [a, b].getD i 0 == [c, d].getD i 0) := by
  obtain ⟨i0, hi⟩ := Option.isSome_iff_exists.1 infoIntSome
  refine ⟨_, ?_, rfl⟩
  show (Op.equalIn (9998 + 2) 65 (.agg ([a, b].map (Value.int .i64)).toArray) (.agg ([c, d].map (Value.int .i64)).toArray)).run Try.prog w = _
  rw [run_equalIn_array w (9998 + 1) _ _ Try.underlying65 hi, cellsInt, run_eqItems_pair w 9998 [a, b] [c, d] _ (fun i hi => by have := List.mem_range.1 hi; simp; omega)]
  rfl
theorem check2 (e : Bool) (a b : Int) (w : World) : (Instr.checkKey e 10000 65 (.agg #[.int .i64 a, .int .i64 b])).run Try.prog w = .ok () w := by
  kernel_rfl

/-- Entries whose keys are pairs and whose values are empty structs. -/
def Pairs (es : Array MapEntry) : Prop := ∀ e ∈ es.toList, (∃ a b : Int, e.key = .agg #[.int .i64 a, .int .i64 b]) ∧ e.val = .agg #[]
theorem Pairs.nil : Pairs #[] := fun e he => by simp at he
theorem Pairs.push {es : Array MapEntry} (h : Pairs es) (a b : Int) (n : Nat) : Pairs (es.push ⟨.agg #[.int .i64 a, .int .i64 b], .agg #[], n⟩) := fun e he => by
  simp only [Array.toList_push, List.mem_append, List.mem_singleton] at he
  rcases he with he | he
  · exact h e he
  · subst he; exact ⟨⟨a, b, rfl⟩, rfl⟩
theorem asking2 (a b : Int) : ∀ (es : List MapEntry) (i : Nat), (∀ e ∈ es, (∃ a b : Int, e.key = .agg #[.int .i64 a, .int .i64 b]) ∧ e.val = .agg #[]) →
    ∃ r : Option Nat, ∀ w : World, (Instr.findAsking 65 (.agg #[.int .i64 a, .int .i64 b]) es i).run Try.prog w = .ok (r.map fun j => (j, .agg #[])) w
  | [], i, _ => ⟨none, fun w => rfl⟩
  | e :: es, i, h => by
    obtain ⟨⟨c, d, hk⟩, hv⟩ := h e (by simp)
    obtain ⟨r, hr⟩ := asking2 a b es (i + 1) fun e he => h e (by simp [he])
    have heq := fun w => equal2 a b c d w
    cases hb : ([0, 1].all fun i => [a, b].getD i 0 == [c, d].getD i 0)
    · refine ⟨r, fun w => ?_⟩
      obtain ⟨q, h1, h2⟩ := heq w
      rw [hb] at h2; subst h2
      simp only [Instr.findAsking, Sem.run_bind, hk, h1, Result.andThen_ok]
      exact hr w
    · refine ⟨some i, fun w => ?_⟩
      obtain ⟨q, h1, h2⟩ := heq w
      rw [hb] at h2; subst h2
      simp only [Instr.findAsking, Sem.run_bind, hk, h1, Result.andThen_ok]
      simp [hv]
theorem find2 (a b : Int) (es : Array MapEntry) (h : Pairs es) : ∃ r : Option Nat, ∀ w : World, (Instr.findKey 65 (.agg #[.int .i64 a, .int .i64 b]) es.toList).run Try.prog w = .ok (r.map fun j => (j, .agg #[])) w := by
  obtain ⟨r, hr⟩ := asking2 a b es.toList 0 h
  have hu := Try.underlying65
  cases hes : es.toList with
  | nil =>
    refine ⟨none, fun w => ?_⟩
    simp [Instr.findKey, Instr.findNow, run_underlying hu]
  | cons e es' =>
    refine ⟨r, fun w => ?_⟩
    rw [← hes]
    have hn : ∀ d : TypeDesc, (∀ k, d ≠ .int k) → d ≠ .string → d ≠ .bool → Instr.findNow d (.agg #[.int .i64 a, .int .i64 b]) es.toList 0 = none := fun d h1 h2 h3 => by
      rw [hes]
      obtain ⟨⟨c, d', hk⟩, _⟩ := h e (by rw [hes]; simp)
      simp only [Instr.findNow, hk]
      cases d <;> simp_all [Instr.sameNow]
    simp only [Instr.findKey, Sem.run_bind, run_underlying hu, Result.andThen_ok]
    rw [hn _ (fun k => by simp) (by simp) (by simp)]
    exact hr w

theorem zeroS (w : World) : (zeroValue 110).run Try.prog w = .ok (.agg #[]) w := by kernel_rfl
/-- The world with a map set anew. -/
def setMap (w : World) (M : Nat) (es : Array MapEntry) (c : Nat) : World := { w with heap := w.heap.setIfInBounds M (.map es c) }
theorem setMap_at {w : World} {M : Nat} (es : Array MapEntry) (c : Nat) (h : M < w.heap.size) : (setMap w M es c).heap[M]? = some (.map es c) := by
  unfold setMap
  simp [h]
theorem setMap_only (w : World) (M : Nat) (es : Array MapEntry) (c : Nat) {B : Nat} (h : B ≤ M) : Below B w (setMap w M es c) :=
  ⟨rfl, rfl, rfl, by simp [setMap], fun k hk => by
    unfold setMap
    simp only
    rw [Array.getElem?_setIfInBounds_ne (by omega)]⟩
theorem setMap_size (w : World) (M : Nat) (es : Array MapEntry) (c : Nat) : (setMap w M es c).heap.size = w.heap.size := by simp [setMap]
theorem map2 (a b : Int) (es : Array MapEntry) (h : Pairs es) : ∃ r : Bool,
    (∀ (w : World) (M c : Nat), w.heap[M]? = some (.map es c) → (Instr.lookup 105 (.map (some M)) (.agg #[.int .i64 a, .int .i64 b]) true).run Try.prog w = .ok (.tuple #[.agg #[], .bool r]) w) ∧
    (r = false → ∀ (w : World) (M c : Nat), w.heap[M]? = some (.map es c) → (Instr.mapUpdate 105 (.map (some M)) (.agg #[.int .i64 a, .int .i64 b]) (.agg #[])).run Try.prog w = .ok () (setMap w M (es.push ⟨.agg #[.int .i64 a, .int .i64 b], .agg #[], c⟩) (c + 1))) := by
  obtain ⟨r, hr⟩ := find2 a b es h
  have hu := Try.underlying105
  refine ⟨r.isSome, fun w M c hM => ?_, fun hn w M c hM => ?_⟩
  · have hg : (getObj M).run Try.prog w = .ok (.map es c) w := by simp [getObj, Sem.run, hM]
    have hz := zeroS w
    have hc := check2 es.isEmpty a b w
    have hf := hr w
    cases r with
    | none => simp [Instr.lookup, run_underlying hu, hg, hc, hf, hz]
    | some j => simp [Instr.lookup, run_underlying hu, hg, hc, hf]
  · have hg : (getObj M).run Try.prog w = .ok (.map es c) w := by simp [getObj, Sem.run, hM]
    have hc := check2 false a b w
    have hf := hr w
    cases r with
    | some j => cases hn
    | none =>
      have hs : ∀ o, (setObj M o).run Try.prog w = .ok () { w with heap := w.heap.setIfInBounds M o } := fun o => by simp [setObj, Sem.run, hM]
      simp [Instr.mapUpdate, run_underlying hu, hg, hc, hf, hs, setMap]
end Go.Proofs.Ytfknaheijidhcaa
