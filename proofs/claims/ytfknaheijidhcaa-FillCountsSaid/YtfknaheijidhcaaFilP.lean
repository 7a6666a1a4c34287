/- How full a heap is: plain. -/
import Derived.Test.YtfknaheijidhcaaAudC

import Derived.Test.YtfknaheijidhcaaFlX

namespace Go.Proofs.Ytfknaheijidhcaa

open Fl

/-- How many of a page's first slots are taken. -/
def Hp.tk (h : Hp) (a : Int) : Nat → Int
  | 0 => 0
  | i + 1 => h.tk a i + if h.sk a i = 3 then 1 else 0
def Hp.isC (h : Hp) (k a : Int) : Bool := h.pk a == 2 && h.pa a == k
/-- How many slots of a class are taken, and how many there are, in the first pages. -/
def Hp.fT (h : Hp) (k : Int) : Nat → Int
  | 0 => 0
  | a + 1 => h.fT k a + if h.isC k a = true then h.tk a (slotsV k).toNat else 0
def Hp.fA (h : Hp) (k : Int) : Nat → Int
  | 0 => 0
  | a + 1 => h.fA k a + if h.isC k a = true then slotsV k else 0
def Hp.fill (h : Hp) (k : Int) : Nat := if h.ok = true then ratioF (h.fT k h.p.toNat) (h.fA k h.p.toNat) else ratioF 0 0
def Hp.heapF (h : Hp) : Nat := if h.ok = true then ratioF h.count.t (h.p * 64) else ratioF 0 0
theorem Hp.tk_bd (h : Hp) (a : Int) (i : Nat) : 0 ≤ h.tk a i ∧ h.tk a i ≤ i := by
  induction i with
  | zero => simp [Hp.tk]
  | succ i ih => unfold Hp.tk; split <;> omega
theorem Hp.fill_bd (h : Hp) (k : Int) (a : Nat) : 0 ≤ h.fT k a ∧ h.fT k a ≤ h.fA k a ∧ h.fA k a ≤ 16 * a := by
  have hs := slots_bd k
  induction a with
  | zero => simp [Hp.fT, Hp.fA]
  | succ a ih =>
    have ht := h.tk_bd a (slotsV k).toNat
    unfold Hp.fT Hp.fA
    split <;> omega
theorem nan_none : nan (ratioF 0 0) = true := by decide +kernel
namespace Fl

/-- A part of a whole lies between nought and one. -/
theorem ratio_in (a b : Int) (ha : 0 ≤ a ∧ a ≤ b) (hb : 0 < b ∧ b ≤ 2147483647) : nan (ratioF a b) = false ∧ neg (ratioF a b) = false ∧ 0 ≤ iv (ratioF a b) ∧ iv (ratioF a b) ≤ (ONE : Int) := by
  have hB := B_pos
  have hBv : B = 4503599627370496 := rfl
  obtain ⟨e1, e2, _, e4⟩ := ofInt_rung (n := a) (by omega) (by omega)
  obtain ⟨f1, f2, _, f4⟩ := ofInt_rung (n := b) (by omega) (by omega)
  obtain ⟨c, hc1, hc2, hc3, hc4, hc5, hc6⟩ := int_form (A := b.natAbs) (by omega) (by omega)
  have h0 : rung (floatOfInt .f64 b) ≠ 0 := by rw [f1, hc1]; exact hc4
  have hq : quoR (rung (floatOfInt .f64 a)) (rung (floatOfInt .f64 b)) ≤ ONE := by
    rw [e1, f1, hc1]
    by_cases h : a = 0
    · subst h
      have : R (Int.natAbs 0) 0 = 0 := rfl
      rw [this]
      have hm : quoMag 0 c = 0 := by
        have : mg 0 = 0 := rfl
        unfold quoMag; rw [this]; simp
      unfold quoR; rw [hm]; unfold R; rw [if_pos rfl]; exact Nat.zero_le _
    · obtain ⟨d, hd1, hd2, hd3, hd4, hd5, hd6⟩ := int_form (A := a.natAbs) (by omega) (by omega)
      rw [hd1]
      have hl : a.natAbs.log2 ≤ b.natAbs.log2 := by
        rw [Nat.le_log2 (by omega)]
        exact Nat.le_trans (Nat.log2_self_le (by omega)) (by omega)
      refine (quo_bounds (t := 0) (G := 0) (H := 1) (g := 0) (h := ONE) hd2 hc2 hd5 hc5 (by omega) (by omega) (Nat.zero_le _) (by simp) (by simp; omega) ?_ ?_ (Nat.zero_le _)).2
      · rw [V_zero]; simp
      · rw [V_one]; simp
  have hw : ratioF a b = Ieee.double.word false (quoR (rung (floatOfInt .f64 a)) (rung (floatOfInt .f64 b))) := by
    unfold ratioF
    rw [if_neg (by omega), div_word e4 f4 h0, e2, f2, decide_eq_false (by omega), decide_eq_false (by omega)]; rfl
  have hI : INF = 9218868437227405312 := rfl
  have hO : ONE = 4607182418800017408 := rfl
  have hS : SW = 9223372036854775808 := rfl
  have hn : neg (ratioF a b) = false := by rw [hw]; exact neg_word _ (by omega)
  have hr : rung (ratioF a b) ≤ ONE := by rw [hw, rung_word _ (by omega)]; exact hq
  refine ⟨?_, hn, ?_, ?_⟩
  · unfold nan; exact decide_eq_false (by omega)
  · unfold iv; rw [hn]; simp
  · unfold iv; rw [hn]; simp; omega
end Fl

/-- A share: no number, or one without a sign. -/
def shareB (x : Nat) : Prop := nan x = true ∨ nan x = false ∧ neg x = false ∧ 0 ≤ iv x ∧ iv x ≤ (ONE : Int)
theorem Hp.fill_share (h : Hp) (k : Int) : shareB (h.fill k) ∧ h.fill k < 18446744073709551616 := by
  have hb := h.fill_bd k h.p.toNat
  unfold Hp.fill
  split
  · rename_i hok
    have hp : h.p.toNat ≤ 64 := by
      unfold Hp.ok at hok
      rw [Bool.and_eq_true] at hok
      have := mayB_iff.1 hok.1
      omega
    generalize h.fT k h.p.toNat = t at *
    generalize h.fA k h.p.toNat = n at *
    refine ⟨?_, ratio_lt _ _ (by omega) (by omega)⟩
    by_cases hn : n = 0
    · obtain rfl : t = 0 := by omega
      subst hn
      exact .inl nan_none
    · exact .inr (Fl.ratio_in t n (by omega) (by omega))
  · exact ⟨.inl nan_none, ratio_lt _ _ (by omega) (by omega)⟩
theorem Hp.heap_share (h : Hp) : shareB h.heapF ∧ h.heapF < 18446744073709551616 := by
  unfold Hp.heapF
  split
  · rename_i hok
    have hp : 1 ≤ h.p ∧ h.p ≤ 64 := by
      unfold Hp.ok at hok
      rw [Bool.and_eq_true] at hok
      have := mayB_iff.1 hok.1
      omega
    have hc : 0 ≤ h.count.t ∧ h.count.t ≤ h.p * 64 := by
      unfold Hp.count
      rw [if_pos hok]
      have h1 := h.cn_sum h.p.toNat
      have h2 := h.cn_nn h.p.toNat
      have h3 : (h.p.toNat : Int) = h.p := by omega
      have := Cn.bd h2 (n := h.p * 64) (by omega)
      exact this.2.1
    exact ⟨.inr (Fl.ratio_in _ _ hc (by omega)), ratio_lt _ _ (by omega) (by omega)⟩
  · exact ⟨.inl nan_none, ratio_lt _ _ (by omega) (by omega)⟩
/-- Which of the first i shares is the fullest. -/
structure Bst where
  k : Int
  ok : Bool
  m : Nat
def bestF (X : Nat → Nat) : Nat → Bst
  | 0 => ⟨0, false, ratioF 0 0⟩
  | i + 1 => if nan (X i) = false ∧ key (bestF X i).m < key (X i) then ⟨i, true, X i⟩ else bestF X i
theorem bestF_ok (X : Nat → Nat) (i : Nat) : ((bestF X i).ok = false → (bestF X i).m = ratioF 0 0 ∧ (bestF X i).k = 0 ∧ ∀ j, j < i → nan (X j) = true) ∧
    ((bestF X i).ok = true → ∃ b : Nat, (bestF X i).k = b ∧ b < i ∧ (bestF X i).m = X b ∧ nan (X b) = false ∧ (∀ j, j < i → nan (X j) = true ∨ key (X j) ≤ key (X b)) ∧ ∀ j, j < b → nan (X j) = true ∨ key (X j) < key (X b)) := by
  induction i with
  | zero => exact ⟨fun _ => ⟨rfl, rfl, fun j hj => by omega⟩, fun h => by simp [bestF] at h⟩
  | succ i ih =>
    unfold bestF
    obtain ⟨h1, h2⟩ := ih
    split
    · rename_i hc
      refine ⟨fun h => by simp at h, fun _ => ⟨i, rfl, by omega, rfl, hc.1, ?_, ?_⟩⟩
      all_goals
        rcases Bool.eq_false_or_eq_true (bestF X i).ok with ho | ho
        · obtain ⟨b, e1, e2, e3, e4, e5, e6⟩ := h2 ho
          rw [e3] at hc
          intro j hj
          rcases Nat.lt_or_ge j i with hj2 | hj2
          · rcases e5 j hj2 with h | h
            · exact .inl h
            · exact .inr (by omega)
          · first | omega | (obtain rfl : j = i := (by omega); exact .inr (Int.le_refl _))
        · obtain ⟨e1, e2, e3⟩ := h1 ho
          intro j hj
          rcases Nat.lt_or_ge j i with hj2 | hj2
          · exact .inl (e3 j hj2)
          · first | omega | (obtain rfl : j = i := (by omega); exact .inr (Int.le_refl _))
    · rename_i hc
      refine ⟨fun ho => ?_, fun ho => ?_⟩
      · obtain ⟨e1, e2, e3⟩ := h1 ho
        refine ⟨e1, e2, fun j hj => ?_⟩
        rcases Nat.lt_or_ge j i with hj2 | hj2
        · exact e3 j hj2
        · obtain rfl : j = i := by omega
          rcases Bool.eq_false_or_eq_true (nan (X j)) with hn | hn
          · exact hn
          · exfalso
            refine hc ⟨hn, ?_⟩
            rw [e1, key_nan nan_none]
            exact key_gt hn
      · obtain ⟨b, e1, e2, e3, e4, e5, e6⟩ := h2 ho
        refine ⟨b, e1, by omega, e3, e4, fun j hj => ?_, e6⟩
        rcases Nat.lt_or_ge j i with hj2 | hj2
        · exact e5 j hj2
        · obtain rfl : j = i := by omega
          rcases Bool.eq_false_or_eq_true (nan (X j)) with hn | hn
          · exact .inl hn
          · refine .inr ?_
            rw [e3] at hc
            exact Int.not_lt.1 fun h => hc ⟨hn, h⟩
theorem bestF_lt {X : Nat → Nat} (h : ∀ j, X j < 18446744073709551616) (i : Nat) : (bestF X i).m < 18446744073709551616 := by
  have := bestF_ok X i
  rcases Bool.eq_false_or_eq_true (bestF X i).ok with ho | ho
  · obtain ⟨b, _, _, e3, _⟩ := this.2 ho
    rw [e3]; exact h b
  · rw [(this.1 ho).1]; exact ratio_lt _ _ (by omega) (by omega)
theorem bestF_bd (X : Nat → Nat) (i : Nat) : 0 ≤ (bestF X i).k ∧ (bestF X i).k ≤ i := by
  have := bestF_ok X i
  rcases Bool.eq_false_or_eq_true (bestF X i).ok with ho | ho
  · obtain ⟨b, e, _, _⟩ := this.2 ho; omega
  · have := (this.1 ho).2.1; omega
/-- Shares without a sign: less by the order of keys is less by number. -/
theorem share_lt {x y : Nat} (hx : shareB x) (hy : shareB y) (nx : nan x = false) (ny : nan y = false) : key x < key y ↔ iv x < iv y := by
  rcases hx with hx | ⟨_, sx, _⟩
  · rw [nx] at hx; cases hx
  · rcases hy with hy | ⟨_, sy, _⟩
    · rw [ny] at hy; cases hy
    · rw [key_num nx, key_num ny, sx, sy]
      unfold iv
      rw [sx, sy]
      simp
end Go.Proofs.Ytfknaheijidhcaa
