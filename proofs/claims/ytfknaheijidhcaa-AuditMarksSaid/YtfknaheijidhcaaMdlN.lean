/- Word by word: which words are in blocks, how many, and the longest row of those that are not: plain. -/
import Derived.Test.YtfknaheijidhcaaMdlL

namespace Go.Proofs.Ytfknaheijidhcaa

def inW (b : Bk) (a : Int) : Bool := decide (b.a ≤ a ∧ a < b.a + b.n)
def cov (l : List Bk) (a : Int) : Bool := l.any (fun b => inW b a)
def manyB (l : List Bk) (a : Int) : Nat := (l.filter (fun b => inW b a)).length
theorem cov_cons (b : Bk) (l : List Bk) (a : Int) : cov (b :: l) a = (inW b a || cov l a) := rfl
theorem manyB_cons (b : Bk) (l : List Bk) (a : Int) : manyB (b :: l) a = (if inW b a then 1 else 0) + manyB l a := by
  unfold manyB
  rw [List.filter_cons]
  cases inW b a
  · simp
  · simp; omega
theorem manyB_eq {W lo a : Int} {l : List Bk} (h : okK W lo l) : manyB l a = if cov l a then 1 else 0 := by
  induction l generalizing lo with
  | nil => rfl
  | cons b l ih =>
    have h1 := ih h.2.2
    rw [manyB_cons, cov_cons, h1]
    by_cases hb : inW b a = true
    · have hn : cov l a = false := by
        rw [cov, List.any_eq_false]
        intro c hc
        have := h.2.2.mem c hc
        simp only [inW, decide_eq_true_eq] at hb ⊢
        omega
      rw [hb, hn]; rfl
    · simp only [Bool.not_eq_true] at hb
      rw [hb]; cases cov l a <;> rfl
theorem inside_cov (l : List Bk) (a : Int) : (insideB l a).isSome = cov l a := by
  unfold insideB cov inW
  rw [Bool.eq_iff_iff, List.find?_isSome, List.any_eq_true]
theorem inside_in {l : List Bk} {a : Int} {b : Bk} (h : insideB l a = some b) : b.a ≤ a ∧ a < b.a + b.n ∧ b ∈ l := by
  have h1 := List.find?_some h
  simp only [decide_eq_true_eq] at h1
  exact ⟨h1.1, h1.2, List.mem_of_find?_eq_some h⟩

/-- How many free words end at a; the most; how many are in blocks. -/
def rowF (l : List Bk) : Nat → Nat
  | 0 => 0
  | a + 1 => if cov l a then 0 else rowF l a + 1
def mostF (l : List Bk) : Nat → Nat
  | 0 => 0
  | a + 1 => max (mostF l a) (rowF l (a + 1))
def usedF (l : List Bk) : Nat → Nat
  | 0 => 0
  | a + 1 => if cov l a then usedF l a + 1 else usedF l a
theorem rowF_le (l : List Bk) (a : Nat) : rowF l a ≤ a := by
  induction a with
  | zero => exact Nat.le_refl _
  | succ a ih => simp only [rowF]; split <;> omega
theorem mostF_le (l : List Bk) (a : Nat) : mostF l a ≤ a := by
  induction a with
  | zero => exact Nat.le_refl _
  | succ a ih => have := rowF_le l (a + 1); simp only [mostF]; omega
theorem usedF_le (l : List Bk) (a : Nat) : usedF l a ≤ a := by
  induction a with
  | zero => exact Nat.le_refl _
  | succ a ih => simp only [usedF]; split <;> omega
theorem row_free (l : List Bk) (A : Nat) : ∀ x : Nat, A - rowF l A ≤ x → x < A → cov l x = false := by
  induction A with
  | zero => intro x _ h; omega
  | succ A ih =>
    intro x h1 h2
    simp only [rowF] at h1
    by_cases hc : cov l A = true
    · rw [if_pos hc] at h1; omega
    · rw [if_neg hc] at h1
      rcases Nat.lt_or_ge x A with h3 | h3
      · exact ih x (by have := rowF_le l A; omega) h3
      · have : x = A := by omega
        subst this; simpa using hc
theorem row_ge (l : List Bk) (n : Nat) : ∀ A : Nat, n ≤ A → (∀ x : Nat, A - n ≤ x → x < A → cov l x = false) → n ≤ rowF l A := by
  induction n with
  | zero => intro A _ _; exact Nat.zero_le _
  | succ n ih =>
    intro A hA hf
    obtain ⟨A, rfl⟩ : ∃ B, A = B + 1 := ⟨A - 1, by omega⟩
    have h1 := ih A (by omega) (fun x h1 h2 => hf x (by omega) (by omega))
    have h2 := hf A (by omega) (by omega)
    simp only [rowF, h2]
    simp; exact h1
theorem most_ge (l : List Bk) (A B : Nat) (h : A ≤ B) : rowF l A ≤ mostF l B := by
  induction B with
  | zero => have : A = 0 := by omega
            subst this; exact Nat.le_refl _
  | succ B ih =>
    simp only [mostF]
    rcases Nat.lt_or_ge A (B + 1) with h1 | h1
    · have := ih (by omega); omega
    · have : A = B + 1 := by omega
      subst this; omega
theorem most_at (l : List Bk) (B : Nat) : ∃ A, A ≤ B ∧ mostF l B = rowF l A := by
  induction B with
  | zero => exact ⟨0, Nat.le_refl _, rfl⟩
  | succ B ih =>
    obtain ⟨A, h1, h2⟩ := ih
    simp only [mostF]
    rcases Nat.le_total (mostF l B) (rowF l (B + 1)) with h | h
    · exact ⟨B + 1, Nat.le_refl _, by omega⟩
    · exact ⟨A, by omega, by omega⟩
theorem free_iff {l : List Bk} {a n : Int} (hn : 1 ≤ n) (hpos : ∀ b ∈ l, 1 ≤ b.n) : (∀ b ∈ l, ¬ (b.a < a + n ∧ a < b.a + b.n)) ↔ ∀ x, a ≤ x → x < a + n → cov l x = false := by
  constructor
  · intro h x h1 h2
    rw [cov, List.any_eq_false]
    intro b hb
    have := h b hb
    simp only [inW, decide_eq_true_eq]
    omega
  · rintro h b hb ⟨h1, h2⟩
    have hp := hpos b hb
    have hx := h (max a b.a) (by omega) (by omega)
    rw [cov, List.any_eq_false] at hx
    have := hx b hb
    simp only [inW, decide_eq_true_eq] at this
    omega
theorem room_more {W : Nat} {l : List Bk} (h : okK W 0 l) : roomB W ((mostF l W : Nat) + 1 : Int) 0 l = false := by
  rw [Bool.eq_false_iff]
  intro hr
  obtain ⟨a, h1, h2, h3⟩ := (roomB_iff (by omega) h).1 hr
  have h4 := (free_iff (by omega) (fun b hb => (h.mem b hb).2.1)).1 h3
  obtain ⟨A, rfl⟩ := Int.eq_ofNat_of_zero_le h1
  have h5 : mostF l W + 1 ≤ rowF l (A + (mostF l W + 1)) := row_ge l _ _ (by omega) (fun x hx1 hx2 => h4 x (by omega) (by omega))
  have h6 := most_ge l (A + (mostF l W + 1)) W (by omega)
  omega
theorem room_most {W : Nat} {l : List Bk} (h : okK W 0 l) (hm : mostF l W ≠ 0) : roomB W (mostF l W : Int) 0 l = true := by
  obtain ⟨A, h1, h2⟩ := most_at l W
  have h3 := row_free l A
  have h4 := rowF_le l A
  refine (roomB_iff (by omega) h).2 ⟨((A - rowF l A : Nat) : Int), by omega, by omega, ?_⟩
  refine (free_iff (by omega) (fun b hb => (h.mem b hb).2.1)).2 (fun x hx1 hx2 => ?_)
  obtain ⟨X, rfl⟩ := Int.eq_ofNat_of_zero_le (show 0 ≤ x by omega)
  exact h3 X (by omega) (by omega)
/-- The words of one block. -/
theorem used_one (b : Bk) (h0 : 0 ≤ b.a) (hn : 0 ≤ b.n) (A : Nat) : (usedF [b] A : Int) = if (A : Int) ≤ b.a then 0 else if (A : Int) ≤ b.a + b.n then A - b.a else b.n := by
  induction A with
  | zero => simp only [usedF]; split <;> simp_all <;> omega
  | succ A ih =>
    have hc : cov [b] A = inW b A := by simp [cov]
    simp only [usedF, hc]
    by_cases hi : inW b A = true
    · rw [if_pos hi]
      simp only [inW, decide_eq_true_eq] at hi
      rw [Int.natCast_add, ih]
      repeat' split
      all_goals omega
    · rw [if_neg hi, ih]
      simp only [inW, decide_eq_true_eq] at hi
      repeat' split
      all_goals omega
theorem used_cons {W lo : Int} {b : Bk} {l : List Bk} (h : okK W lo (b :: l)) (A : Nat) : usedF (b :: l) A = usedF [b] A + usedF l A := by
  induction A with
  | zero => rfl
  | succ A ih =>
    have hc : cov (b :: l) A = (inW b A || cov l A) := rfl
    have hc1 : cov [b] A = inW b A := by simp [cov]
    simp only [usedF, hc, hc1]
    by_cases hb : inW b A = true
    · have hn : cov l A = false := by
        rw [cov, List.any_eq_false]
        intro c hc
        have := h.2.2.mem c hc
        simp only [inW, decide_eq_true_eq] at hb ⊢
        omega
      rw [hb, hn]; simp; omega
    · simp only [Bool.not_eq_true] at hb
      rw [hb]
      by_cases hl : cov l A = true
      · rw [hl]; simp; omega
      · simp only [Bool.not_eq_true] at hl
        rw [hl]; simp; omega
theorem used_all {W : Nat} {lo : Int} {l : List Bk} (h : okK W lo l) (hlo : 0 ≤ lo) : (usedF l W : Int) = usedB l := by
  induction l generalizing lo with
  | nil =>
    have : ∀ A, usedF [] A = 0 := fun A => by
      induction A with
      | zero => rfl
      | succ A ih => simp [usedF, cov, ih]
    rw [this]; rfl
  | cons b l ih =>
    have h1 := h.1; have h2 := h.2.1; have h3 := h.2.2.le
    rw [used_cons h, Int.natCast_add, ih h.2.2 (by omega), used_one b (by omega) (by omega)]
    have : usedB (b :: l) = b.n + usedB l := by simp [usedB]
    rw [this]
    repeat' split
    all_goals omega

/-- What a deed does. -/
def doB (W : Int) (l : List Bk) (d a n : Int) : List Bk := if d ≤ 3 then takeB W l a n else giveB l a
theorem doB_ok {W d a n : Int} {l : List Bk} (h : okK W 0 l) : okK W 0 (doB W l d a n) := by
  unfold doB; split
  · exact takeB_ok h
  · exact giveB_ok h
end Go.Proofs.Ytfknaheijidhcaa
