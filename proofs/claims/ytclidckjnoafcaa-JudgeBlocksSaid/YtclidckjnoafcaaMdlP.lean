/- Blocks of a heap, by rising places: plain. -/
namespace Go.Proofs.Ytclidckjnoafcaa

/-- A block: its place, its words. -/
structure Bk where
  a : Int
  n : Int
  deriving DecidableEq

/-- Sorted, apart, within lo .. W. -/
def okK (W : Int) : Int → List Bk → Prop
  | lo, [] => lo ≤ W
  | lo, b :: l => lo ≤ b.a ∧ 1 ≤ b.n ∧ okK W (b.a + b.n) l
theorem okK.le {W : Int} {l : List Bk} : ∀ {lo : Int}, okK W lo l → lo ≤ W := by
  induction l with
  | nil => exact fun h => h
  | cons b l ih => exact fun h => by have := ih h.2.2; have := h.1; have := h.2.1; omega
theorem okK.mono {W : Int} {l : List Bk} {lo lo' : Int} (h : okK W lo l) (hl : lo' ≤ lo) : okK W lo' l := by
  cases l with
  | nil => exact Int.le_trans hl h
  | cons b l => exact ⟨Int.le_trans hl h.1, h.2⟩
theorem okK.mem {W : Int} {l : List Bk} : ∀ {lo : Int}, okK W lo l → ∀ b ∈ l, lo ≤ b.a ∧ 1 ≤ b.n ∧ b.a + b.n ≤ W := by
  induction l with
  | nil => exact fun _ b hb => by cases hb
  | cons c l ih =>
    intro lo h b hb
    rcases List.mem_cons.1 hb with rfl | hb
    · exact ⟨h.1, h.2.1, h.2.2.le⟩
    · have := ih h.2.2 b hb
      have := h.1; have := h.2.1
      omega

/-- How many blocks begin below a place. -/
def posB (at' : Int) : List Bk → Nat
  | [] => 0
  | b :: l => if b.a < at' then posB at' l + 1 else 0
def foundB (at' : Int) (l : List Bk) : Bool := decide (∃ b, l[posB at' l]? = some b ∧ b.a = at')
theorem posB_le (at' : Int) (l : List Bk) : posB at' l ≤ l.length := by
  induction l with
  | nil => exact Nat.le_refl _
  | cons b l ih => simp only [posB, List.length_cons]; split <;> omega
theorem posB_below (at' : Int) (l : List Bk) (i : Nat) (hi : i < posB at' l) (h : i < l.length) : l[i].a < at' := by
  induction l generalizing i with
  | nil => simp at h
  | cons b l ih =>
    simp only [posB] at hi
    split at hi
    · rename_i hb
      cases i with
      | zero => exact hb
      | succ i => exact ih i (by omega) (by simpa using h)
    · omega
theorem posB_at (at' : Int) (l : List Bk) (h : posB at' l < l.length) : at' ≤ l[posB at' l].a := by
  induction l with
  | nil => simp at h
  | cons b l ih =>
    by_cases hb : b.a < at'
    · simp only [posB, if_pos hb, List.getElem_cons_succ]
      exact ih (by simpa [posB, hb] using h)
    · simp only [posB, if_neg hb, List.getElem_cons_zero]; omega
/-- Sorted rows. -/
theorem okK.lt {W : Int} {l : List Bk} {lo : Int} (h : okK W lo l) : ∀ i j (_ : i < j) (hj : j < l.length), (l[i]'(by omega)).a + (l[i]'(by omega)).n ≤ l[j].a := by
  induction l generalizing lo with
  | nil => exact fun i j _ hj => by simp at hj
  | cons b l ih =>
    intro i j hij hj
    cases j with
    | zero => omega
    | succ j =>
      have hj' : j < l.length := by simpa using hj
      cases i with
      | zero => exact (h.2.2.mem l[j] (List.getElem_mem hj')).1
      | succ i => exact ih h.2.2 i j (by omega) hj'
theorem posB_from {W lo at' : Int} {l : List Bk} (h : okK W lo l) (j : Nat) (hj : posB at' l ≤ j) (hl : j < l.length) : at' ≤ l[j].a := by
  rcases Nat.lt_or_ge (posB at' l) j with h1 | h1
  · have h2 := posB_at at' l (by omega)
    have h3 := h.lt _ _ h1 hl
    have h4 := (h.mem _ (List.getElem_mem (show posB at' l < l.length by omega))).2.1
    omega
  · have e : posB at' l = j := by omega
    have := posB_at at' l (by omega)
    simp only [e] at this
    exact this
/-- Where a search ends. -/
theorem posB_unique (at' : Int) (l : List Bk) (i : Nat) (hi : i ≤ l.length) (h1 : ∀ k (_ : k < i) (hk : k < l.length), l[k].a < at') (h2 : ∀ hk : i < l.length, at' ≤ l[i].a) : posB at' l = i := by
  rcases Nat.lt_trichotomy (posB at' l) i with h | h | h
  · have := h1 _ h (by omega)
    have := posB_at at' l (by omega)
    omega
  · exact h
  · have hp := posB_le at' l
    have := posB_below at' l i h (by omega)
    have := h2 (by omega)
    omega
theorem foundB_iff (at' : Int) (l : List Bk) : foundB at' l = true ↔ ∃ h : posB at' l < l.length, l[posB at' l].a = at' := by
  simp only [foundB, decide_eq_true_eq]
  constructor
  · rintro ⟨b, h1, h2⟩
    obtain ⟨h3, rfl⟩ := List.getElem?_eq_some_iff.1 h1
    exact ⟨h3, h2⟩
  · rintro ⟨h1, h2⟩
    exact ⟨_, List.getElem?_eq_getElem h1, h2⟩
theorem foundB_mem {W lo at' : Int} {l : List Bk} (h : okK W lo l) : foundB at' l = true ↔ ∃ b ∈ l, b.a = at' := by
  rw [foundB_iff]
  constructor
  · rintro ⟨h1, h2⟩
    exact ⟨_, List.getElem_mem h1, h2⟩
  · rintro ⟨b, hb, rfl⟩
    obtain ⟨i, hi, rfl⟩ := List.getElem_of_mem hb
    have hp := posB_unique l[i].a l i (by omega) (fun k hk hkl => by have := h.lt k i hk hi; have := (h.mem _ (List.getElem_mem hkl)).2.1; omega) (fun _ => Int.le_refl _)
    exact ⟨by omega, by simp only [hp]⟩

/-- Do two stretches share a word? -/
def meets (b : Bk) (at' n : Int) : Bool := decide (b.a < at' + n ∧ at' < b.a + b.n)
def fitsK (W at' n : Int) : Bool := decide (1 ≤ n ∧ 0 ≤ at' ∧ at' ≤ W ∧ n ≤ W - at')
def takeOk (W : Int) (l : List Bk) (at' n : Int) : Bool := fitsK W at' n && !l.any (fun b => meets b at' n)
def putB (l : List Bk) (at' n : Int) : List Bk := l.take (posB at' l) ++ ⟨at', n⟩ :: l.drop (posB at' l)
def takeB (W : Int) (l : List Bk) (at' n : Int) : List Bk := if takeOk W l at' n then putB l at' n else l
/-- What Take of the program asks. -/
def clash (l : List Bk) (at' n : Int) : Bool :=
  foundB at' l || (match l[posB at' l]? with | some b => decide (b.a - at' < n) | none => false) || (decide (0 < posB at' l) && match l[posB at' l - 1]? with | some b => decide (at' - b.a < b.n) | none => false)
theorem clash_eq {W lo at' n : Int} {l : List Bk} (h : okK W lo l) (hn : 1 ≤ n) : clash l at' n = l.any (fun b => meets b at' n) := by
  have hp := posB_le at' l
  rw [Bool.eq_iff_iff]
  simp only [clash, Bool.or_eq_true, Bool.and_eq_true, List.any_eq_true, meets, decide_eq_true_eq]
  constructor
  · rintro ((h1 | h1) | ⟨h1, h2⟩)
    · obtain ⟨b, hb, e⟩ := (foundB_mem h).1 h1
      have := (h.mem b hb).2.1
      exact ⟨b, hb, by omega, by omega⟩
    · rcases Nat.lt_or_ge (posB at' l) l.length with h3 | h3
      · rw [List.getElem?_eq_getElem h3] at h1
        simp only [decide_eq_true_eq] at h1
        have := posB_at at' l h3
        have := (h.mem _ (List.getElem_mem h3)).2.1
        exact ⟨_, List.getElem_mem h3, by omega, by omega⟩
      · rw [List.getElem?_eq_none h3] at h1; cases h1
    · have h3 : posB at' l - 1 < l.length := by omega
      rw [List.getElem?_eq_getElem h3] at h2
      simp only [decide_eq_true_eq] at h2
      have := posB_below at' l (posB at' l - 1) (by omega) h3
      exact ⟨_, List.getElem_mem h3, by omega, by omega⟩
  · rintro ⟨b, hb, h1, h2⟩
    obtain ⟨i, hi, rfl⟩ := List.getElem_of_mem hb
    rcases Nat.lt_or_ge i (posB at' l) with h3 | h3
    · right
      refine ⟨by omega, ?_⟩
      have h4 : posB at' l - 1 < l.length := by omega
      rw [List.getElem?_eq_getElem h4]
      simp only [decide_eq_true_eq]
      rcases Nat.lt_or_ge i (posB at' l - 1) with h5 | h5
      · have h6 := h.lt _ _ h5 h4
        have h7 := posB_below at' l (posB at' l - 1) (by omega) h4
        omega
      · have e : i = posB at' l - 1 := by omega
        simp only [e] at h2
        omega
    · left; right
      have h4 : posB at' l < l.length := by omega
      rw [List.getElem?_eq_getElem h4]
      simp only [decide_eq_true_eq]
      rcases Nat.lt_or_ge (posB at' l) i with h5 | h5
      · have h6 := h.lt _ _ h5 hi
        have := (h.mem _ (List.getElem_mem h4)).2.1
        omega
      · have e : i = posB at' l := by omega
        simp only [e] at h1
        omega
/-- What is put in stays sorted and apart. -/
theorem putB_ok {W lo at' n : Int} {l : List Bk} (h : okK W lo l) (hlo : lo ≤ at') (hn : 1 ≤ n) (hW : at' + n ≤ W) (hc : ∀ b ∈ l, ¬ (b.a < at' + n ∧ at' < b.a + b.n)) : okK W lo (putB l at' n) := by
  induction l generalizing lo with
  | nil => exact ⟨hlo, hn, hW⟩
  | cons b l ih =>
    have hb := hc b (by simp)
    have h1 := h.2.1
    unfold putB
    simp only [posB]
    split
    · rename_i hlt
      simp only [List.take_succ_cons, List.drop_succ_cons, List.cons_append]
      exact ⟨h.1, h.2.1, ih h.2.2 (by omega) (fun c hc' => hc c (by simp [hc']))⟩
    · rename_i hge
      simp only [List.take_zero, List.drop_zero, List.nil_append]
      exact ⟨hlo, hn, ⟨by show at' + n ≤ b.a; omega, h.2⟩⟩
theorem takeB_ok {W at' n : Int} {l : List Bk} (h : okK W 0 l) : okK W 0 (takeB W l at' n) := by
  unfold takeB
  by_cases hc : takeOk W l at' n = true
  · rw [if_pos hc]
    simp only [takeOk, fitsK, Bool.and_eq_true, decide_eq_true_eq, Bool.not_eq_true', List.any_eq_false, meets] at hc
    exact putB_ok h hc.1.2.1 hc.1.1 (by omega) (fun b hb => hc.2 b hb)
  · rw [if_neg hc]; exact h
theorem putB_length (l : List Bk) (at' n : Int) : (putB l at' n).length = l.length + 1 := by
  have := posB_le at' l
  unfold putB
  rw [List.length_append, List.length_take, List.length_cons, List.length_drop]; omega

/-- One block less. -/
def dropB (l : List Bk) (at' : Int) : List Bk := l.take (posB at' l) ++ l.drop (posB at' l + 1)
def giveB (l : List Bk) (at' : Int) : List Bk := if foundB at' l then dropB l at' else l
theorem okK.drop_one {W lo : Int} {l : List Bk} (h : okK W lo l) (i : Nat) : okK W lo (l.take i ++ l.drop (i + 1)) := by
  induction l generalizing lo i with
  | nil => simpa using h
  | cons b l ih =>
    cases i with
    | zero => simpa using h.2.2.mono (by have := h.1; have := h.2.1; omega)
    | succ i => exact ⟨h.1, h.2.1, ih h.2.2 i⟩
theorem giveB_ok {W at' : Int} {l : List Bk} (h : okK W 0 l) : okK W 0 (giveB l at') := by
  unfold giveB
  split
  · exact h.drop_one _
  · exact h

/-- The block that begins at a place; the one in which a word is. -/
def atB (l : List Bk) (at' : Int) : Option Bk := if foundB at' l then l[posB at' l]? else none
def insideB (l : List Bk) (at' : Int) : Option Bk := l.find? (fun b => decide (b.a ≤ at' ∧ at' < b.a + b.n))
/-- Is there a row of n words in no block? -/
def roomB (W n : Int) : Int → List Bk → Bool
  | e, [] => decide (n ≤ W - e)
  | e, b :: l => decide (n ≤ b.a - e) || roomB W n (b.a + b.n) l
def usedB (l : List Bk) : Int := (l.map (·.n)).sum
theorem usedB_le {W lo : Int} {l : List Bk} (h : okK W lo l) : 0 ≤ usedB l ∧ usedB l ≤ W - lo := by
  induction l generalizing lo with
  | nil => have := h.le; simp [usedB]; omega
  | cons b l ih =>
    have ih' := ih h.2.2
    have := h.1; have := h.2.1
    simp only [usedB, List.map_cons, List.sum_cons] at ih' ⊢
    omega
theorem okK.len {W lo : Int} {l : List Bk} (h : okK W lo l) : (l.length : Int) ≤ W - lo := by
  induction l generalizing lo with
  | nil => have := h.le; simp; omega
  | cons b l ih =>
    have := ih h.2.2
    have := h.1; have := h.2.1
    simp only [List.length_cons]
    omega
end Go.Proofs.Ytclidckjnoafcaa
