/- Room: plain. -/
import Derived.Test.YtfknaheijidhcaaAudN

namespace Go.Proofs.Ytfknaheijidhcaa

theorem pages_mono {a b : Int} (h : a ≤ b) (ha : lenB a = true) (hb : lenB b = true) : pagesV a ≤ pagesV b := by
  have ha' := wi_iff.1 ha
  have hb' := wi_iff.1 hb
  unfold pagesV
  rcases Bool.eq_false_or_eq_true (wi a 33 512) with h1 | h1 <;> rcases Bool.eq_false_or_eq_true (wi b 33 512) with h2 | h2 <;> rw [h1, h2]
  · have := wi_iff.1 h1; have := wi_iff.1 h2
    simp only [if_true, runV, h1, h2]; omega
  · have := wi_iff.1 h1; have := wi_false.1 h2; omega
  · have := wi_iff.1 h2
    simp only [if_true, runV, h2]; simp; omega
  · simp
theorem upto_mono_n (h : Hp) {a b : Int} (hab : pagesV a ≤ pagesV b) (k : Nat) (hu : h.upto b k = true) : h.upto a k = true := by
  induction k with
  | zero => cases hu
  | succ k ih =>
    unfold Hp.upto at hu ⊢
    rw [Bool.or_eq_true, decide_eq_true_eq] at hu ⊢
    rcases hu with hu | hu
    · exact .inl (ih hu)
    · right; omega
/-- Where there is room for a longer row there is room for a shorter one. -/
theorem room_mono (h : Hp) {a b : Int} (hab : a ≤ b) (ha : lenB a = true) (hb : lenB b = true) (hr : h.room b = true) : h.room a = true := by
  unfold Hp.room at hr ⊢
  rw [Bool.and_eq_true, Bool.and_eq_true] at hr ⊢
  exact ⟨⟨hr.1.1, ha⟩, upto_mono_n h (pages_mono hab ha hb) _ hr.2⟩
theorem room_bad (h : Hp) (n : Int) (ho : h.ok = false) : h.room n = false := by unfold Hp.room; rw [ho]; rfl
theorem room_len (h : Hp) (n : Int) (ho : lenB n = false) : h.room n = false := by unfold Hp.room; rw [ho, Bool.and_false]; rfl

theorem wd_blank (n : Nat) (i : Int) : wd (List.replicate n 0) i = 0 := by
  unfold wd
  rw [List.getD_eq_getElem?_getD]
  rcases Nat.lt_or_ge i.toNat n with h | h
  · rw [List.getElem?_replicate, if_pos h]; rfl
  · rw [List.getElem?_eq_none (by rw [List.length_replicate]; exact h)]; rfl
section

variable {p c m : Int} {T : Nat} (hm : mayB p c m = true)

include hm

theorem pb_blank {a : Int} (h0 : 0 ≤ a) (h1 : a < p) : (Hp.mk p c m (List.replicate T 0)).pb a = true := by
  show readPageB p c m a (wd (List.replicate T 0) (c + a)) = true
  rw [wd_blank]
  have hb := mayB_iff.1 hm
  have hp : pageIx p c m a = c + a := by unfold pageIx; rw [if_pos ⟨hm, wi_iff.2 (by omega)⟩]
  unfold readPageB
  rw [hp, decide_eq_true (by omega : 0 ≤ c + a)]
  rfl
theorem fr_blank {a : Int} (h0 : 0 ≤ a) (h1 : a < p) : (Hp.mk p c m (List.replicate T 0)).fr a = true := by
  have hb := pb_blank (T := T) hm h0 h1
  have hk : (Hp.mk p c m (List.replicate T 0)).pk a = 0 := by
    unfold Hp.pk
    rw [if_pos hb]
    show kindV (wd (List.replicate T 0) (c + a)) = 0
    rw [wd_blank]; rfl
  unfold Hp.fr
  rw [hb, hk]
  rfl
theorem rw_blank (k : Nat) (hk : (k : Int) ≤ p) : (Hp.mk p c m (List.replicate T 0)).rw k = k := by
  induction k with
  | zero => rfl
  | succ k ih =>
    unfold Hp.rw
    rw [if_pos (fr_blank hm (by omega) (by omega)), ih (by omega)]
theorem upto_blank (n : Int) (k : Nat) (hk : (k : Int) ≤ p) : (Hp.mk p c m (List.replicate T 0)).upto n k = decide (1 ≤ k ∧ pagesV n ≤ (k : Int)) := by
  induction k with
  | zero => rfl
  | succ k ih =>
    unfold Hp.upto
    rw [ih (by omega), rw_blank hm _ hk, Bool.eq_iff_iff, Bool.or_eq_true, decide_eq_true_eq, decide_eq_true_eq, decide_eq_true_eq]
    omega
theorem room_blank (n : Int) (hn : lenB n = true) (hT : (T : Int) = totalV p c m) : (Hp.mk p c m (List.replicate T 0)).room n = decide (pagesV n ≤ p) := by
  have hb := mayB_iff.1 hm
  have hok : (Hp.mk p c m (List.replicate T 0)).ok = true := by
    show (mayB p c m && decide (totalV p c m ≤ ((List.replicate T (0 : Int)).length : Int))) = true
    rw [hm, List.length_replicate, hT]; simp
  unfold Hp.room
  rw [hok, hn, Bool.true_and, Bool.true_and, upto_blank hm n _ (by show (p.toNat : Int) ≤ p; omega)]
  show decide (1 ≤ p.toNat ∧ pagesV n ≤ (p.toNat : Int)) = _
  rw [Bool.eq_iff_iff, decide_eq_true_eq, decide_eq_true_eq]
  omega
theorem room_short (n : Int) (hT : (T : Int) < totalV p c m) : (Hp.mk p c m (List.replicate T 0)).room n = false := by
  refine room_bad _ _ ?_
  show (mayB p c m && decide (totalV p c m ≤ ((List.replicate T (0 : Int)).length : Int))) = false
  rw [hm, List.length_replicate, Bool.true_and, decide_eq_false (by omega)]
end

end Go.Proofs.Ytfknaheijidhcaa
