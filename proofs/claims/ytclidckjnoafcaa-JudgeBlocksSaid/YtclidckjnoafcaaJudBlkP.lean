/- What is in blocks, and what was taken and not given: plain. -/
import Derived.Test.YtclidckjnoafcaaJudKilP

namespace Go.Proofs.Ytclidckjnoafcaa

theorem putB_perm (l : List Bk) (a n : Int) : List.Perm (putB l a n) (⟨a, n⟩ :: l) := by
  unfold putB
  refine List.perm_middle.trans ?_
  rw [List.take_append_drop]
theorem drop_perm {l : List Bk} {a : Int} (h : posB a l < l.length) : List.Perm l (l[posB a l] :: dropB l a) := by
  unfold dropB
  have : l = l.take (posB a l) ++ l[posB a l] :: l.drop (posB a l + 1) := by rw [← List.drop_eq_getElem_cons h, List.take_append_drop]
  exact (List.Perm.of_eq this).trans List.perm_middle
/-- A permutation of which one is struck. -/
theorem strike_perm {xs ys : List Bk} {b : Bk} (i : Nat) (h : i < xs.length) (hb : xs[i] = b) (hp : List.Perm xs (b :: ys)) : List.Perm (xs.take i ++ xs.drop (i + 1)) ys := by
  have : xs = xs.take i ++ b :: xs.drop (i + 1) := by rw [← hb, ← List.drop_eq_getElem_cons h, List.take_append_drop]
  have h2 : List.Perm xs (b :: (xs.take i ++ xs.drop (i + 1))) := (List.Perm.of_eq this).trans List.perm_middle
  exact (h2.symm.trans hp).cons_inv
theorem usedB_perm {xs ys : List Bk} (h : List.Perm xs ys) : usedB xs = usedB ys := by
  induction h with
  | nil => rfl
  | cons x _ ih => simp [usedB] at ih ⊢; omega
  | swap x y l => simp [usedB]; omega
  | trans _ _ h1 h2 => exact h1.trans h2
/-- Of sorted blocks one lies at a place. -/
theorem one_at {W lo a : Int} {l : List Bk} (h : okK W lo l) {b : Bk} (hb : b ∈ l) (ha : b.a = a) : ∃ hp : posB a l < l.length, l[posB a l] = b := by
  have hf := (foundB_mem (at' := a) h).2 ⟨b, hb, ha⟩
  obtain ⟨hp, hpa⟩ := (foundB_iff a l).1 hf
  refine ⟨hp, ?_⟩
  obtain ⟨i, hi, rfl⟩ := List.getElem_of_mem hb
  rcases Nat.lt_trichotomy i (posB a l) with h1 | h1 | h1
  · have := h.lt _ _ h1 hp
    have := (h.mem l[i] (List.getElem_mem hi)).2.1
    omega
  · simp only [h1]
  · have := h.lt _ _ h1 hi
    have := (h.mem l[posB a l] (List.getElem_mem hp)).2.1
    omega
theorem atB_mem {W lo a : Int} {l : List Bk} (h : okK W lo l) {b : Bk} (hb : b ∈ l) (ha : b.a = a) : atB l a = some b := by
  have hf := (foundB_mem (at' := a) h).2 ⟨b, hb, ha⟩
  obtain ⟨hp, he⟩ := one_at h hb ha
  unfold atB
  rw [if_pos hf, List.getElem?_eq_getElem hp, he]
/-- What is taken and what is given, struck from the list. -/
theorem give_perm {W a : Int} {l xs : List Bk} (h : okK W 0 l) (hp : List.Perm xs l) (i : Nat) (hi : i < xs.length) (ha : xs[i].a = a) : List.Perm (xs.take i ++ xs.drop (i + 1)) (giveB l a) ∧ usedB (giveB l a) = usedB l - xs[i].n := by
  have hm : xs[i] ∈ l := hp.mem_iff.1 (List.getElem_mem hi)
  obtain ⟨hq, he⟩ := one_at h hm ha
  have hf := (foundB_mem (at' := a) h).2 ⟨_, hm, ha⟩
  have hd := drop_perm hq
  rw [he] at hd
  unfold giveB
  rw [if_pos hf]
  refine ⟨strike_perm i hi rfl (hp.trans hd), ?_⟩
  have := usedB_perm hd
  simp only [usedB, List.map_cons, List.sum_cons] at this ⊢
  omega
/-- What an event in order does to the blocks. -/
theorem hear_blocks {j : Jd} {e : Ev} (ho : hearB j e = true) : (e.k = 3 → (hearJ j e).l = putB j.l e.at' e.n) ∧ (e.k = 4 → foundB e.at' j.l = true ∧ (hearJ j e).l = giveB j.l e.at') ∧ (e.k ≠ 3 → e.k ≠ 4 → (hearJ j e).l = j.l) := by
  have hl : (hearJ j e).l = (whyJ j.W j.l j.ps e).l := by rw [hear_ok ho]
  have hc := ((hearB_iff j e).1 ho).2
  rw [hl]
  unfold whyJ at hc ⊢
  by_cases g1 : e.c < 0 ∨ (j.ps.length : Int) ≤ e.c ∨ e.k < 0 ∨ 5 < e.k
  · rw [if_pos g1] at hc; exact absurd hc (by simp)
  rw [if_neg g1] at hc ⊢
  by_cases g2 : e.k < 3
  · rw [if_pos g2]
    exact ⟨fun h => by omega, fun h => by omega, fun _ _ => rfl⟩
  rw [if_neg g2] at hc ⊢
  by_cases g3 : (j.ps.getD e.c.toNat Pt.zero).lives = false ∨ (j.ps.getD e.c.toNat Pt.zero).asks = false
  · rw [if_pos g3] at hc; exact absurd hc (by simp)
  rw [if_neg g3] at hc ⊢
  by_cases g4 : e.k = 3
  · rw [if_pos g4] at hc ⊢
    by_cases g5 : tookC j.W j.l (j.ps.getD e.c.toNat Pt.zero) e = 0
    · rw [if_pos g5]
      exact ⟨fun _ => rfl, fun h => by omega, fun h => absurd g4 h⟩
    · rw [if_neg g5] at hc; exact absurd hc g5
  rw [if_neg g4] at hc ⊢
  by_cases g6 : e.k = 4
  · rw [if_pos g6] at hc ⊢
    by_cases g5 : gaveC j.l (j.ps.getD e.c.toNat Pt.zero) e = 0
    · rw [if_pos g5]
      refine ⟨fun h => absurd h g4, fun _ => ⟨?_, rfl⟩, fun _ h => absurd g6 h⟩
      unfold gaveC at g5
      split at g5
      · omega
      · split at g5
        · assumption
        · omega
    · rw [if_neg g5] at hc; exact absurd hc g5
  rw [if_neg g6]
  split <;> exact ⟨fun h => absurd h g4, fun h => absurd h g6, fun _ _ => rfl⟩
end Go.Proofs.Ytclidckjnoafcaa
