/- Slices within what is read: by what the cells say alone. -/
import Derived.Test.YtpplmgahpohbmaaRwO
namespace Go.Proofs.Ytpplmgahpohbmaa
open Go.RowKit Go.ChangeShapes Go.WideShapes Go.ChangeAt

section
variable {H : Type} {enc : TypeId × Value → H} {P : Program} {w : World}
theorem list_of_rd {α : Type} (f : α → List Value) (good : α → Prop) {t e : TypeId} {cs : List Value} {sz : Nat} (ht : P.underlying t = some (.slice e)) (ce : P.cellsOf e = sz) (hsz : 0 < sz) (hf : ∀ a, (f a).length = sz)
    (hα : ∀ es, es.length = sz → Rd enc P w e es → ∃ a, f a = es ∧ good a) (h : Rd enc P w t cs) :
    ∃ (v : Value) (xs : List α), cs = [v] ∧ RdS w sz v xs.length (xs.flatMap f) ∧ ∀ a ∈ xs, good a := by
  have hcs : ∃ a0 len cap, cs = [.slice a0 len cap] := by
    rcases rd_slice ht h with h0 | ⟨a, len', cap', h0, _⟩
    · exact ⟨_, _, _, h0⟩
    · exact ⟨_, _, _, h0⟩
  obtain ⟨a0, len, cap, rfl⟩ := hcs
  have h : Rd enc P w t (Value.slice a0 len cap).cells.toList := h
  by_cases hl : len = 0
  · subst hl
    refine ⟨_, [], rfl, ?_, fun a ha => by cases ha⟩
    have hcap : cap ≤ maxLen := by
      rcases rd_slice ht h with h0 | ⟨a, len', cap', h0, h1, h2, h3⟩
      · simp [Value.cells] at h0
        omega
      · simp [Value.cells] at h0
        obtain ⟨rfl, _, rfl⟩ := h0
        exact h2
    exact ⟨a0, cap, rfl, Nat.zero_le _, by simp only [maxLen] at hcap; omega, by simp, fun h => absurd rfl h⟩
  · obtain ⟨b, off, rfl, hb, hcap, hmax, hes⟩ := open_rows ht ce hsz h hl
    have key : ∀ i : Fin len, ∃ a, good a ∧ ∀ j, j < sz → w.cell? ⟨b, off + i * sz + j, .none⟩ = (f a)[j]? := fun i => by
      obtain ⟨es, h1, h2, h3⟩ := hes i (by have := i.2; omega)
      obtain ⟨a, rfl, hg⟩ := hα es h1 h2
      exact ⟨a, hg, h3⟩
    let xs : List α := List.ofFn fun i : Fin len => Classical.choose (key i)
    have hxl : xs.length = len := List.length_ofFn
    have hxi : ∀ i (hi : i < xs.length), xs[i] = Classical.choose (key ⟨i, hxl ▸ hi⟩) := fun i hi => List.getElem_ofFn _
    refine ⟨_, xs, rfl, ?_, fun a ha => ?_⟩
    · rw [hxl]
      refine ⟨_, cap, rfl, hcap, by simp only [maxLen] at hmax; omega, by rw [flatF_length f sz hf, hxl], fun _ => ⟨b, off, rfl, hb, fun i hi => ?_⟩⟩
      have h1 : i / sz < xs.length := by rw [hxl]; exact Nat.div_lt_of_lt_mul (by rw [Nat.mul_comm]; exact hi)
      have h2 := (Classical.choose_spec (key ⟨i / sz, hxl ▸ h1⟩)).2 (i % sz) (Nat.mod_lt _ hsz)
      have h3 := flatF_get f sz hf xs (i / sz) (i % sz) h1 (Nat.mod_lt _ hsz)
      rw [← hxi _ h1, ← h3] at h2
      have e0 : i / sz * sz + i % sz = i := by rw [Nat.mul_comm]; exact Nat.div_add_mod i sz
      have h4 : w.cell? ⟨b, off + i / sz * sz + i % sz, .none⟩ = (xs.flatMap f)[i / sz * sz + i % sz]? := h2
      rw [Nat.add_assoc, e0] at h4
      exact h4
    · obtain ⟨i, hi, rfl⟩ := List.getElem_of_mem ha
      rw [hxi i hi]
      exact (Classical.choose_spec (key ⟨i, hxl ▸ hi⟩)).1
theorem zs_of_rd {t e : TypeId} {k : IntKind} {cs : List Value} (ht : P.underlying t = some (.slice e)) (he : P.underlying e = some (.int k)) (ce : P.cellsOf e = 1) (h : Rd enc P w t cs) :
    ∃ (v : Value) (zs : List Int), cs = [v] ∧ RdZ k w v zs ∧ ∀ z ∈ zs, (Lit.int k z).wf = true := by
  obtain ⟨v, xs, h0, h1, h2⟩ := list_of_rd (fun z : Int => [Value.int k z]) (fun z => (Lit.int k z).wf = true) ht ce (by omega) (fun _ => rfl) (fun es h1 h2 => by
    obtain ⟨n, rfl, hn⟩ := rd_int he h2
    exact ⟨n, rfl, hn⟩) h
  rw [flatF_one] at h1
  exact ⟨v, xs, h0, h1, h2⟩
theorem bos_of_rd {t e : TypeId} {cs : List Value} (ht : P.underlying t = some (.slice e)) (he : P.underlying e = some .bool) (ce : P.cellsOf e = 1) (h : Rd enc P w t cs) : ∃ (v : Value) (l : List Bool), cs = [v] ∧ RdBo w v l := by
  obtain ⟨v, xs, h0, h1, _⟩ := list_of_rd (fun z : Bool => [Value.bool z]) (fun _ => True) ht ce (by omega) (fun _ => rfl) (fun es h1 h2 => by
    obtain ⟨n, rfl⟩ := rd_bool he h2
    exact ⟨n, rfl, trivial⟩) h
  rw [flatF_one] at h1
  exact ⟨v, xs, h0, h1⟩
end
end Go.Proofs.Ytpplmgahpohbmaa
