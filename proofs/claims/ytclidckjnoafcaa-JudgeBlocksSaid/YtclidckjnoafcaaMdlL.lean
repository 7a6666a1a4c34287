/- What Take and Give do to blocks, and where there is room: plain. -/
import Derived.Test.YtclidckjnoafcaaMdlP

namespace Go.Proofs.Ytclidckjnoafcaa

theorem posB_put (l : List Bk) (a n : Int) : posB a (putB l a n) = posB a l := by
  unfold putB
  induction l with
  | nil => simp [posB]
  | cons b l ih =>
    by_cases hb : b.a < a
    · simp only [posB, if_pos hb, List.take_succ_cons, List.drop_succ_cons, List.cons_append]
      rw [ih]
    · simp [posB, hb]
theorem put_at (l : List Bk) (a n : Int) : (putB l a n)[posB a l]? = some ⟨a, n⟩ := by
  have hp := posB_le a l
  have hl : (l.take (posB a l)).length = posB a l := by rw [List.length_take]; omega
  unfold putB
  rw [List.getElem?_append_right (by omega), hl, Nat.sub_self]
  rfl
theorem foundB_put (l : List Bk) (a n : Int) : foundB a (putB l a n) = true := by
  simp only [foundB, decide_eq_true_eq, posB_put]
  exact ⟨_, put_at l a n, rfl⟩
theorem atB_put (l : List Bk) (a n : Int) : atB (putB l a n) a = some ⟨a, n⟩ := by
  unfold atB; rw [if_pos (foundB_put l a n), posB_put, put_at]
theorem giveB_put (l : List Bk) (a n : Int) : giveB (putB l a n) a = l := by
  have hp := posB_le a l
  have hl : (l.take (posB a l)).length = posB a l := by rw [List.length_take]; omega
  unfold giveB dropB
  rw [if_pos (foundB_put l a n), posB_put]
  unfold putB
  rw [List.take_append, hl, Nat.sub_self, List.take_zero, List.append_nil, List.take_of_length_le (by omega), List.drop_append, List.drop_of_length_le (by omega), hl, Nat.add_sub_cancel_left, List.nil_append]
  exact List.take_append_drop _ _
theorem usedB_append (l k : List Bk) : usedB (l ++ k) = usedB l + usedB k := by simp [usedB]
theorem usedB_put (l : List Bk) (a n : Int) : usedB (putB l a n) = usedB l + n := by
  have : usedB l = usedB (l.take (posB a l)) + usedB (l.drop (posB a l)) := by rw [← usedB_append, List.take_append_drop]
  unfold putB
  rw [usedB_append]
  have h2 : usedB (⟨a, n⟩ :: l.drop (posB a l)) = n + usedB (l.drop (posB a l)) := by simp [usedB]
  rw [h2]; omega

/-- A row of n words from e on that is in no block. -/
theorem roomB_iff {W n : Int} {l : List Bk} (_hn : 1 ≤ n) : ∀ {e : Int}, okK W e l → (roomB W n e l = true ↔ ∃ a, e ≤ a ∧ a + n ≤ W ∧ ∀ b ∈ l, ¬ (b.a < a + n ∧ a < b.a + b.n)) := by
  induction l with
  | nil =>
    intro e h
    simp only [roomB, decide_eq_true_eq]
    constructor
    · intro h1; exact ⟨e, Int.le_refl _, by omega, fun b hb => by cases hb⟩
    · rintro ⟨a, h1, h2, _⟩; omega
  | cons b l ih =>
    intro e h
    have hih := ih h.2.2
    simp only [roomB, Bool.or_eq_true, decide_eq_true_eq]
    rw [hih]
    have h1 := h.1; have h2 := h.2.1
    constructor
    · rintro (h3 | ⟨a, h3, h4, h5⟩)
      · refine ⟨e, Int.le_refl _, by have := h.2.2.le; omega, fun c hc => ?_⟩
        rcases List.mem_cons.1 hc with rfl | hc
        · omega
        · have := (h.2.2.mem c hc).1; omega
      · refine ⟨a, by omega, h4, fun c hc => ?_⟩
        rcases List.mem_cons.1 hc with rfl | hc
        · omega
        · exact h5 c hc
    · rintro ⟨a, h3, h4, h5⟩
      have h6 := h5 b (by simp)
      rcases Int.lt_or_le a (b.a + b.n) with h7 | h7
      · exact .inl (by omega)
      · exact .inr ⟨a, h7, h4, fun c hc => h5 c (by simp [hc])⟩
theorem room_take {W n : Int} {l : List Bk} (h : okK W 0 l) (hn : 1 ≤ n) : roomB W n 0 l = true ↔ ∃ a, 0 ≤ a ∧ a < W ∧ takeOk W l a n = true := by
  rw [roomB_iff hn h]
  constructor
  · rintro ⟨a, h1, h2, h3⟩
    refine ⟨a, h1, by omega, ?_⟩
    simp only [takeOk, fitsK, Bool.and_eq_true, decide_eq_true_eq, Bool.not_eq_true', List.any_eq_false, meets]
    exact ⟨⟨hn, h1, by omega, by omega⟩, h3⟩
  · rintro ⟨a, h1, h2, h3⟩
    simp only [takeOk, fitsK, Bool.and_eq_true, decide_eq_true_eq, Bool.not_eq_true', List.any_eq_false, meets] at h3
    exact ⟨a, h1, by omega, h3.2⟩
theorem takeB_eq {W n a : Int} {l : List Bk} (h : takeOk W l a n = true) : takeB W l a n = putB l a n := by unfold takeB; rw [if_pos h]
theorem takeB_no {W n a : Int} {l : List Bk} (h : takeOk W l a n = false) : takeB W l a n = l := by unfold takeB; rw [if_neg (by simp [h])]
end Go.Proofs.Ytclidckjnoafcaa
