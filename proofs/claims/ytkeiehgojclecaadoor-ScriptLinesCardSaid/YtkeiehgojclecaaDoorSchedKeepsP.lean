/- Rows of steps that are numbered, and what weaving leaves of them: plain. -/
import Derived.Test.YtkeiehgojclecaaDoorSchedTurnsW

import Derived.Test.YtkeiehgojclecaaDoorRwM

namespace Go.Proofs.YtkeiehgojclecaaDoor

open Go.RowKit Fl

/-- N steps of a client, the first j of them numbered. -/
def markL (c : Int) (N j : Nat) : List Ch := (List.range N).map fun i => ⟨3, c, 0, if i < j then (i : Int) else 0, 0, 0⟩
theorem markL_length (c : Int) (N j : Nat) : (markL c N j).length = N := by simp [markL]
theorem markL_zero (c : Int) (N : Nat) : turnsL [c] N = markL c N 0 := by
  have h : ∀ i (hi : i < (turnsL [c] N).length), (turnsL [c] N)[i] = stepC c := fun i hi => by
    have h1 : i % ([c] : List Int).length < ([c] : List Int).length := Nat.mod_lt _ (by simp)
    rw [turnsL_get [c] N i hi h1]
    congr 1
    simp
  refine List.ext_getElem (by rw [turnsL_length, markL_length]; simp) fun i h1 h2 => ?_
  rw [h i h1]
  simp [markL, stepC]
theorem markL_mem {c : Int} {N j : Nat} {x : Ch} (h : x ∈ markL c N j) : x.client = c ∧ x.bias = 0 := by
  obtain ⟨i, _, rfl⟩ := List.mem_map.1 h
  exact ⟨rfl, rfl⟩
theorem flatC_markL (c : Int) (N j : Nat) (hj : j < N) : (flatC (markL c N j)).set (j * 6 + 3) (.int .i64 j) = flatC (markL c N (j + 1)) := by
  refine List.ext_getElem? fun q => ?_
  by_cases hq : q < N * 6
  · have e0 : q / 6 * 6 + q % 6 = q := by omega
    have hd : q / 6 < N := by omega
    have hm : q % 6 < 6 := by omega
    have g : ∀ j', (flatC (markL c N j'))[q]? = ((markL c N j')[q / 6]'(by rw [markL_length]; exact hd)).cells[q % 6]? := fun j' => by
      have := flatC_get (markL c N j') (q / 6) (q % 6) (by rw [markL_length]; exact hd) hm
      rwa [e0] at this
    rw [List.getElem?_set, g, g]
    by_cases hqj : j * 6 + 3 = q
    · have h1 : q / 6 = j := by omega
      have h2 : q % 6 = 3 := by omega
      rw [if_pos hqj, if_pos (by rw [flatC_length, markL_length]; omega)]
      simp only [markL, List.getElem_map, List.getElem_range]
      rw [h1, h2]
      simp [Ch.cells]
    · rw [if_neg hqj]
      simp only [markL, List.getElem_map, List.getElem_range]
      by_cases h1 : q / 6 = j
      · have h2 : q % 6 ≠ 3 := by omega
        rw [h1]
        have : q % 6 = 0 ∨ q % 6 = 1 ∨ q % 6 = 2 ∨ q % 6 = 4 ∨ q % 6 = 5 := by omega
        rcases this with h | h | h | h | h <;> rw [h] <;> simp [Ch.cells]
      · by_cases h3 : q / 6 < j
        · rw [if_pos h3, if_pos (by omega)]
        · rw [if_neg h3, if_neg (by omega)]
  · rw [List.getElem?_eq_none (by rw [List.length_set, flatC_length, markL_length]; omega), List.getElem?_eq_none (by rw [flatC_length, markL_length]; omega)]

theorem weave_filter (p : Ch → Bool) (a b : List Ch) (l : List Bool) (ha : ∀ c ∈ a, p c = true) (hb : ∀ c ∈ b, p c = false) : (weaveL a b l).filter p = a ∧ (weaveL a b l).filter (fun c => !p c) = b := by
  have fa : ∀ a : List Ch, (∀ c ∈ a, p c = true) → a.filter p = a ∧ a.filter (fun c => !p c) = [] := fun a ha =>
    ⟨List.filter_eq_self.2 ha, List.filter_eq_nil_iff.2 (fun c hc => by simp [ha c hc])⟩
  have fb : ∀ a : List Ch, (∀ c ∈ a, p c = false) → a.filter p = [] ∧ a.filter (fun c => !p c) = a := fun a ha =>
    ⟨List.filter_eq_nil_iff.2 (fun c hc => by simp [ha c hc]), List.filter_eq_self.2 (fun c hc => by simp [ha c hc])⟩
  induction l generalizing a b with
  | nil =>
    show (a ++ b).filter _ = _ ∧ (a ++ b).filter _ = _
    rw [List.filter_append, List.filter_append, (fa a ha).1, (fa a ha).2, (fb b hb).1, (fb b hb).2]
    simp
  | cons t l ih =>
    have key : ∀ x a' b', (∀ c ∈ x :: a', p c = true) → (∀ c ∈ b', p c = false) → (x :: weaveL a' b' l).filter p = x :: a' ∧ (x :: weaveL a' b' l).filter (fun c => !p c) = b' := fun x a' b' h1 h2 => by
      obtain ⟨e1, e2⟩ := ih a' b' (fun c hc => h1 c (by simp [hc])) h2
      have hx := h1 x (by simp)
      constructor
      · rw [List.filter_cons_of_pos hx, e1]
      · rw [List.filter_cons_of_neg (by simp [hx]), e2]
    have key2 : ∀ y a' b', (∀ c ∈ a', p c = true) → (∀ c ∈ y :: b', p c = false) → (y :: weaveL a' b' l).filter p = a' ∧ (y :: weaveL a' b' l).filter (fun c => !p c) = y :: b' := fun y a' b' h1 h2 => by
      obtain ⟨e1, e2⟩ := ih a' b' h1 (fun c hc => h2 c (by simp [hc]))
      have hy := h2 y (by simp)
      constructor
      · rw [List.filter_cons_of_neg (by simp [hy]), e1]
      · rw [List.filter_cons_of_pos (by simp [hy]), e2]
    rcases a with _ | ⟨x, a⟩ <;> rcases b with _ | ⟨y, b⟩ <;> rcases t with _ | _
    · exact ⟨rfl, rfl⟩
    · exact ⟨rfl, rfl⟩
    · exact key2 y [] b ha hb
    · exact key2 y [] b ha hb
    · exact key x a [] ha hb
    · exact key x a [] ha hb
    · exact key x a (y :: b) ha hb
    · exact key2 y (x :: a) b ha hb
theorem weave_mem (a b : List Ch) (l : List Bool) {c : Ch} (h : c ∈ weaveL a b l) : c ∈ a ∨ c ∈ b := by
  induction l generalizing a b with
  | nil => exact List.mem_append.1 h
  | cons t l ih =>
    rcases a with _ | ⟨x, a⟩ <;> rcases b with _ | ⟨y, b⟩ <;> rcases t with _ | _ <;> simp only [weaveL, List.not_mem_nil, List.mem_cons] at h ⊢ <;>
      first | exact h.elim | (rcases h with h | h; (simp [h]); (rcases ih _ _ h with h' | h' <;> simp_all))
theorem filter_at (p : Ch → Bool) (l : List Ch) (i : Nat) (hi : i < l.length) (hp : p l[i] = true) : (l.filter p)[((l.take i).filter p).length]? = some l[i] := by
  induction l generalizing i with
  | nil => simp at hi
  | cons x l ih =>
    cases i with
    | zero => simp at hp; simp [hp]
    | succ i =>
      have hi' : i < l.length := by simpa using hi
      have h := ih i hi' (by simpa using hp)
      simp only [List.take_succ_cons, List.getElem_cons_succ]
      by_cases hx : p x = true
      · rw [List.filter_cons_of_pos hx, List.filter_cons_of_pos hx, List.length_cons, List.getElem?_cons_succ]; exact h
      · rw [List.filter_cons_of_neg hx, List.filter_cons_of_neg hx]; exact h
def isOne (c : Ch) : Bool := decide (c.client = 1)
/-- What is numbered, woven, is found in its order. -/
theorem weave_at (n0 n1 : Nat) (l : List Bool) (i : Nat) (hi : i < (weaveL (markL 1 n0 n0) (markL 2 n1 n1) l).length) :
    ((weaveL (markL 1 n0 n0) (markL 2 n1 n1) l)[i].client = 1 → (weaveL (markL 1 n0 n0) (markL 2 n1 n1) l)[i].oa = ((((weaveL (markL 1 n0 n0) (markL 2 n1 n1) l).take i).filter isOne).length : Int)) ∧
    ((weaveL (markL 1 n0 n0) (markL 2 n1 n1) l)[i].client ≠ 1 → (weaveL (markL 1 n0 n0) (markL 2 n1 n1) l)[i].oa = ((((weaveL (markL 1 n0 n0) (markL 2 n1 n1) l).take i).filter (fun c => !isOne c)).length : Int)) := by
  obtain ⟨f1, f2⟩ := weave_filter isOne (markL 1 n0 n0) (markL 2 n1 n1) l (fun c hc => by simp [isOne, (markL_mem hc).1]) (fun c hc => by simp [isOne, (markL_mem hc).1])
  generalize weaveL (markL 1 n0 n0) (markL 2 n1 n1) l = L at *
  have num : ∀ (c : Int) (N k : Nat) (x : Ch), (markL c N N)[k]? = some x → x.oa = (k : Int) := fun c N k x h => by
    obtain ⟨hk, rfl⟩ := List.getElem?_eq_some_iff.1 h
    rw [markL_length] at hk
    simp [markL, hk]
  refine ⟨fun h => ?_, fun h => ?_⟩
  · have := filter_at isOne L i hi (by simp [isOne, h])
    rw [f1] at this
    exact num _ _ _ _ this
  · have := filter_at (fun c => !isOne c) L i hi (by simp [isOne, h])
    rw [f2] at this
    exact num _ _ _ _ this
theorem cut_back (L : List Ch) (t c : Int) : (cutL L t c).take (cutK L t) ++ (cutL L t c).drop (cutK L t + 1) = L := by
  have hk := cutK_le L t
  have hl : (L.take (cutK L t)).length = cutK L t := by rw [List.length_take]; omega
  unfold cutL
  rw [List.take_append, hl, Nat.sub_self, List.take_zero, List.append_nil, List.take_of_length_le (by omega)]
  rw [List.drop_append, hl, List.drop_of_length_le (by omega), Nat.add_sub_cancel_left, List.nil_append]
  exact List.take_append_drop _ _
theorem cutL_length (L : List Ch) (t c : Int) : (cutL L t c).length = L.length + 1 := by
  have hk := cutK_le L t
  unfold cutL
  rw [List.length_append, List.length_take, List.length_cons, List.length_drop]; omega
theorem cutL_at (L : List Ch) (t c : Int) : (cutL L t c)[cutK L t]? = some (killC c) := by
  have hk := cutK_le L t
  have hl : (L.take (cutK L t)).length = cutK L t := by rw [List.length_take]; omega
  unfold cutL
  rw [List.getElem?_append_right (by omega), hl, Nat.sub_self]
  rfl
end Go.Proofs.YtkeiehgojclecaaDoor
