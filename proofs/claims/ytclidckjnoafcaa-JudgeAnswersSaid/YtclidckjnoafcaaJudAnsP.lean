/- An operation that did nothing may be answered with just the errors that are its own: plain. -/
import Derived.Test.YtclidckjnoafcaaJudP

namespace Go.Proofs.Ytclidckjnoafcaa

def ansL (blk : Bool) : List Ev := [⟨0, 0, 0, 0, 0, 0, 0, 0⟩, ⟨0, 1, 0, 0, 0, 0, 0, 0⟩] ++ if blk = true then [⟨2, 1, 1, 0, 8, 0, 0, 0⟩, ⟨3, 1, 0, 0, 0, 16, 8, 0⟩, ⟨5, 1, 1, 0, 8, 16, 0, 0⟩] else []
def askE (k a n : Int) : Ev := ⟨2, 0, k, a, n, 0, 0, 0⟩
def ansE (k a n e : Int) : Ev := ⟨5, 0, k, a, n, 0, 0, e⟩
def wantB (th : Bool) (k n e : Int) : Bool :=
  if k = 1 then e == 3 || (e == 1 && !lenB n) else if k = 2 then e == 1 && !th else if k = 3 then e == 3 || (e == 1 && (!th || !lenB n)) else e == 0 || e == 1 || e == 4 || e == 5
def ansJ (blk : Bool) : Jd := ⟨128, if blk = true then [⟨16, 8⟩] else [], [⟨true, true, false, 0, 0, 0, false, false, 0, false⟩, if blk = true then ⟨true, true, false, 1, 0, 8, true, false, 16, true⟩ else ⟨true, true, false, 0, 0, 0, false, false, 0, false⟩], if blk = true then 5 else 2, -1, 0⟩
theorem ans_run (blk : Bool) : runJ (newJ 2 2 0) (ansL blk) = ansJ blk := by cases blk <;> rfl
theorem ans_begins (blk : Bool) (k a n : Int) : hearB (runJ (newJ 2 2 0) (ansL blk)) (askE k a n) = (decide (1 ≤ k) && decide (k ≤ 4)) := by
  rw [ans_run]
  cases blk <;> simp [ansJ, hearB, whyJ, askE, beginsC]
theorem ans_found (blk : Bool) (a : Int) : foundB a (ansJ blk).l = (blk && a == 16) := by
  cases blk
  · simp [ansJ, foundB, posB]
  · by_cases h : a = 16
    · subst h; rfl
    · have hb : (a == 16) = false := by simpa using h
      have h' : ¬ (16 : Int) = a := fun e => h e.symm
      rw [hb]
      simp only [ansJ, foundB, if_true, Bool.and_false, decide_eq_false_iff_not, not_exists, not_and]
      intro b hb2
      have : b ∈ [(⟨16, 8⟩ : Bk)] := List.mem_of_getElem? hb2
      simp only [List.mem_singleton] at this
      subst this
      exact h'
theorem ans_says (blk : Bool) (k a n e : Int) (h1 : 1 ≤ k) (h2 : k ≤ 4) : hearB (runJ (newJ 2 2 0) (ansL blk ++ [askE k a n])) (ansE k a n e) = wantB (blk && a == 16) k n e := by
  have hs : runJ (newJ 2 2 0) (ansL blk ++ [askE k a n]) = hearJ (ansJ blk) (askE k a n) := by
    rw [← ans_run]; simp [runJ]
  have hw : whyJ 128 (ansJ blk).l (ansJ blk).ps (askE k a n) = ⟨0, (ansJ blk).l, (ansJ blk).ps.set 0 ⟨true, true, true, k, a, n, false, false, 0, false⟩⟩ := by
    have n1 : ¬ k < 1 := by omega
    have n2 : ¬ 4 < k := by omega
    cases blk <;> simp [whyJ, askE, ansJ, beginsC, beginsP, n1, n2]
  have hj : (hearJ (ansJ blk) (askE k a n)).l = (ansJ blk).l ∧ (hearJ (ansJ blk) (askE k a n)).why = 0 ∧ (hearJ (ansJ blk) (askE k a n)).W = 128 ∧ (hearJ (ansJ blk) (askE k a n)).ps.length = 2 ∧
      (hearJ (ansJ blk) (askE k a n)).ps.getD 0 Pt.zero = ⟨true, true, true, k, a, n, false, false, 0, !(blk && a == 16)⟩ := by
    have h0 : (ansJ blk).why = 0 := rfl
    have hW : (ansJ blk).W = 128 := rfl
    unfold hearJ
    rw [hW, hw, h0]
    have hf := ans_found blk a
    refine ⟨rfl, rfl, rfl, by cases blk <;> rfl, ?_⟩
    have hl : (ansJ blk).ps.set 0 ⟨true, true, true, k, a, n, false, false, 0, false⟩ = ⟨true, true, true, k, a, n, false, false, 0, false⟩ :: (ansJ blk).ps.tail := by cases blk <;> rfl
    simp only [ne_eq, not_true_eq_false, if_false]
    rw [hl]
    simp only [List.map_cons, List.getD_cons_zero]
    unfold abP
    dsimp only
    rw [hf]
    cases (blk && a == 16) <;> simp
  rw [hs]
  obtain ⟨j1, j2, j3, j4, j5⟩ := hj
  have hc : (whyJ 128 (ansJ blk).l (hearJ (ansJ blk) (askE k a n)).ps (ansE k a n e)).c = if answersB ⟨true, true, true, k, a, n, false, false, 0, !(blk && a == 16)⟩ (ansE k a n e) = true then 0 else 4 := by
    unfold whyJ ansE
    dsimp only
    rw [j4, if_neg (by omega), if_neg (by omega), show (0 : Int).toNat = 0 from rfl, j5, if_neg (by simp), if_neg (by omega), if_neg (by omega)]
    split <;> rfl
  unfold hearB
  rw [j2, j3, j1, hc]
  have hk : k = 1 ∨ k = 2 ∨ k = 3 ∨ k = 4 := by omega
  generalize (blk && a == 16) = th
  have fin : answersB ⟨true, true, true, k, a, n, false, false, 0, !th⟩ (ansE k a n e) = wantB th k n e := by
    unfold answersB ansE wantB
    dsimp only
    by_cases e0 : e = 0
    · subst e0
      rcases hk with rfl | rfl | rfl | rfl <;> simp [doneB]
    · by_cases e1 : e = 1
      · subst e1
        rcases hk with rfl | rfl | rfl | rfl <;> simp [refusedB]
      · by_cases e3 : e = 3
        · subst e3
          rcases hk with rfl | rfl | rfl | rfl <;> simp
        · by_cases e4 : e = 4
          · subst e4
            rcases hk with rfl | rfl | rfl | rfl <;> simp
          · by_cases e5 : e = 5
            · subst e5
              rcases hk with rfl | rfl | rfl | rfl <;> simp
            · rcases hk with rfl | rfl | rfl | rfl <;> simp [e0, e1, e3, e4, e5]
  rw [fin]
  cases wantB th k n e <;> simp
end Go.Proofs.Ytclidckjnoafcaa
