/- Opening an argument that is a slice: it reads as a list of what its elements are. -/
import Derived.Test.YtkeiehgojclecaaDoorRw

import Derived.Test.YtkeiehgojclecaaDoorOpen

namespace Go.Proofs.YtkeiehgojclecaaDoor

open Go.RowKit Go.ChangeShapes Go.WideShapes Go.ChangeAt

theorem flatF_length {α : Type} (f : α → List Value) (sz : Nat) (hf : ∀ a, (f a).length = sz) (xs : List α) : (xs.flatMap f).length = xs.length * sz := by
  induction xs with
  | nil => simp
  | cons x xs ih => rw [List.flatMap_cons, List.length_append, hf, ih, List.length_cons, Nat.add_mul, Nat.one_mul, Nat.add_comm]
theorem flatF_get {α : Type} (f : α → List Value) (sz : Nat) (hf : ∀ a, (f a).length = sz) (xs : List α) (i j : Nat) (hi : i < xs.length) (hj : j < sz) : (xs.flatMap f)[i * sz + j]? = (f xs[i])[j]? := by
  induction xs generalizing i with
  | nil => simp at hi
  | cons x xs ih =>
    rw [List.flatMap_cons]
    cases i with
    | zero => rw [List.getElem?_append_left (by rw [hf]; omega)]; simp
    | succ i =>
      rw [List.getElem?_append_right (by rw [hf, Nat.add_mul, Nat.one_mul]; omega), hf, show (i + 1) * sz + j - sz = i * sz + j from by rw [Nat.add_mul, Nat.one_mul]; omega]
      simpa using ih i (by simpa using hi)
theorem flatF_one {α : Type} (f : α → Value) (xs : List α) : xs.flatMap (fun a => [f a]) = xs.map f := by
  induction xs with
  | nil => rfl
  | cons x xs ih => rw [List.flatMap_cons, ih]; rfl

section

variable {H : Type} {enc : TypeId × Value → H} {P : Program} {w : World}

theorem open_list {α : Type} (f : α → List Value) (good : α → Prop) {t e : TypeId} {v : Value} {sz : Nat} (ht : P.underlying t = some (.slice e)) (ce : P.cellsOf e = sz) (hsz : 0 < sz) (hf : ∀ a, (f a).length = sz)
    (hα : ∀ es, es.length = sz → Rd enc P w e es → ∃ a, f a = es ∧ good a) {r : Reach} {b0 : Nat} {d : DataW H} {ps : List MemPlace} (hv : Value.okWide P w r b0 t v) (h0 : DataW.Trod enc P w 0 (fun _ => true) true t v d ps) :
    ∃ xs : List α, RdS w sz v xs.length (xs.flatMap f) ∧ ∀ a ∈ xs, good a := by
  obtain ⟨a0, len, cap, rfl⟩ := okWide_slice ht hv
  have h := rd_of_trod h0
  by_cases hl : len = 0
  · subst hl
    refine ⟨[], ?_, fun a ha => by cases ha⟩
    have hcap : cap ≤ maxLen := by
      rcases rd_slice ht h with h0 | ⟨a, len', cap', h0, h1, h2, h3⟩
      · simp [Value.cells] at h0
        omega
      · simp [Value.cells] at h0
        obtain ⟨rfl, _, rfl⟩ := h0
        exact h2
    exact ⟨a0, cap, rfl, Nat.zero_le _, by simp only [maxLen] at hcap; omega, by simp, fun h => absurd rfl h⟩
  · obtain ⟨b, off, rfl, hb, hcap, hmax, hes⟩ := open_rows ht ce hsz h hl
    have key : ∀ i : Fin len, ∃ a, good a ∧ ∀ j, j < sz → w.cell? ⟨b, off + i * sz + j, .none⟩ = (f a)[j]? := fun i => by
      obtain ⟨es, h1, h2, h3⟩ := hes i (by have := i.2; omega)
      obtain ⟨a, rfl, hg⟩ := hα es h1 h2
      exact ⟨a, hg, h3⟩
    let xs : List α := List.ofFn fun i : Fin len => Classical.choose (key i)
    have hxl : xs.length = len := List.length_ofFn
    have hxi : ∀ i (hi : i < xs.length), xs[i] = Classical.choose (key ⟨i, hxl ▸ hi⟩) := fun i hi => List.getElem_ofFn _
    refine ⟨xs, ?_, fun a ha => ?_⟩
    · rw [hxl]
      refine ⟨_, cap, rfl, hcap, by simp only [maxLen] at hmax; omega, by rw [flatF_length f sz hf, hxl], fun _ => ⟨b, off, rfl, hb, fun i hi => ?_⟩⟩
      have h1 : i / sz < xs.length := by rw [hxl]; exact Nat.div_lt_of_lt_mul (by rw [Nat.mul_comm]; exact hi)
      have h2 := (Classical.choose_spec (key ⟨i / sz, hxl ▸ h1⟩)).2 (i % sz) (Nat.mod_lt _ hsz)
      have h3 := flatF_get f sz hf xs (i / sz) (i % sz) h1 (Nat.mod_lt _ hsz)
      rw [← hxi _ h1, ← h3] at h2
      have e0 : i / sz * sz + i % sz = i := by rw [Nat.mul_comm]; exact Nat.div_add_mod i sz
      have h4 : w.cell? ⟨b, off + i / sz * sz + i % sz, .none⟩ = (xs.flatMap f)[i / sz * sz + i % sz]? := h2
      rw [Nat.add_assoc, e0] at h4
      exact h4
    · obtain ⟨i, hi, rfl⟩ := List.getElem_of_mem ha
      rw [hxi i hi]
      exact (Classical.choose_spec (key ⟨i, hxl ▸ hi⟩)).1

/-- A slice of integers. -/
def RdZ (k : IntKind) (w : World) (v : Value) (zs : List Int) : Prop := RdS w 1 v zs.length (zs.map (.int k))
def RdBo (w : World) (v : Value) (l : List Bool) : Prop := RdS w 1 v l.length (l.map .bool)
theorem len1 {α : Type} {l : List α} (h : l.length = 1) : ∃ a, l = [a] := by
  match l, h with
  | [a], _ => exact ⟨a, rfl⟩
theorem open_zs {t e : TypeId} {k : IntKind} {v : Value} (ht : P.underlying t = some (.slice e)) (he : P.underlying e = some (.int k)) (ce : P.cellsOf e = 1)
    {r : Reach} {b0 : Nat} {d : DataW H} {ps : List MemPlace} (hv : Value.okWide P w r b0 t v) (h0 : DataW.Trod enc P w 0 (fun _ => true) true t v d ps) : ∃ zs : List Int, RdZ k w v zs ∧ ∀ z ∈ zs, (Lit.int k z).wf = true := by
  obtain ⟨xs, h1, h2⟩ := open_list (fun z : Int => [Value.int k z]) (fun z => (Lit.int k z).wf = true) ht ce (by omega) (fun _ => rfl) (fun es h1 h2 => by
    obtain ⟨n, rfl, hn⟩ := rd_int he h2
    exact ⟨n, rfl, hn⟩) hv h0
  rw [flatF_one] at h1
  exact ⟨xs, h1, h2⟩
theorem open_bos {t e : TypeId} {v : Value} (ht : P.underlying t = some (.slice e)) (he : P.underlying e = some .bool) (ce : P.cellsOf e = 1)
    {r : Reach} {b0 : Nat} {d : DataW H} {ps : List MemPlace} (hv : Value.okWide P w r b0 t v) (h0 : DataW.Trod enc P w 0 (fun _ => true) true t v d ps) : ∃ l : List Bool, RdBo w v l := by
  obtain ⟨xs, h1, _⟩ := open_list (fun z : Bool => [Value.bool z]) (fun _ => True) ht ce (by omega) (fun _ => rfl) (fun es h1 h2 => by
    obtain ⟨n, rfl⟩ := rd_bool he h2
    exact ⟨n, rfl, trivial⟩) hv h0
  rw [flatF_one] at h1
  exact ⟨xs, h1⟩
end

theorem RdZ.cells {k : IntKind} {w : World} {v : Value} {zs : List Int} (h : RdZ k w v zs) : ∃ ao cap, v = .slice ao zs.length cap ∧ zs.length ≤ cap ∧ (cap : Int) ≤ 9223372036854775807 ∧
    (zs ≠ [] → ∃ b off, ao = some ⟨b, off, .none⟩ ∧ b < w.heap.size ∧ ∀ i (hi : i < zs.length), w.cell? ⟨b, off + i, .none⟩ = some (.int k zs[i])) := by
  obtain ⟨ao, cap, e, h1, h2, _, h4⟩ := h
  refine ⟨ao, cap, e, h1, h2, fun hn => ?_⟩
  obtain ⟨b, off, ea, hlt, hc⟩ := h4 (fun h => hn (List.eq_nil_of_length_eq_zero h))
  refine ⟨b, off, ea, hlt, fun i hi => (hc i (by omega)).trans ?_⟩
  simp [hi]
theorem RdBo.cells {w : World} {v : Value} {zs : List Bool} (h : RdBo w v zs) : ∃ ao cap, v = .slice ao zs.length cap ∧ zs.length ≤ cap ∧ (cap : Int) ≤ 9223372036854775807 ∧
    (zs ≠ [] → ∃ b off, ao = some ⟨b, off, .none⟩ ∧ b < w.heap.size ∧ ∀ i (hi : i < zs.length), w.cell? ⟨b, off + i, .none⟩ = some (.bool zs[i])) := by
  obtain ⟨ao, cap, e, h1, h2, _, h4⟩ := h
  refine ⟨ao, cap, e, h1, h2, fun hn => ?_⟩
  obtain ⟨b, off, ea, hlt, hc⟩ := h4 (fun h => hn (List.eq_nil_of_length_eq_zero h))
  refine ⟨b, off, ea, hlt, fun i hi => (hc i (by omega)).trans ?_⟩
  simp [hi]
theorem RdZ.below {k : IntKind} {w w' : World} {v : Value} {zs : List Int} (h : RdZ k w v zs) (hb : Below w.heap.size w w') : RdZ k w' v zs := RdS.below h hb
theorem RdBo.below {w w' : World} {v : Value} {zs : List Bool} (h : RdBo w v zs) (hb : Below w.heap.size w w') : RdBo w' v zs := RdS.below h hb
end Go.Proofs.YtkeiehgojclecaaDoor
