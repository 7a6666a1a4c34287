/- A heap's words as an auditor reads them: plain. -/
import Derived.Test.YtfknaheijidhcaaPackR

import Derived.Test.YtfknaheijidhcaaPlnX

namespace Go.Proofs.Ytfknaheijidhcaa

/-- A shape and words. -/
structure Hp where
  p : Int
  c : Int
  m : Int
  xs : List Int
def wd (xs : List Int) (i : Int) : Int := xs.getD i.toNat 0
theorem wd_get {xs : List Int} {i : Int} (h0 : 0 ≤ i) (h1 : i < xs.length) : wd xs i = xs[i.toNat]'(by omega) := by
  unfold wd
  rw [List.getD_eq_getElem?_getD, List.getElem?_eq_getElem (by omega)]
  rfl
def Hp.ok (h : Hp) : Bool := mayB h.p h.c h.m && decide (totalV h.p h.c h.m ≤ (h.xs.length : Int))
def Hp.pw (h : Hp) (a : Int) : Int := wd h.xs (h.c + a)
def Hp.pb (h : Hp) (a : Int) : Bool := readPageB h.p h.c h.m a (h.pw a)
def Hp.pk (h : Hp) (a : Int) : Int := if h.pb a = true then kindV (h.pw a) else 0
def Hp.pa (h : Hp) (a : Int) : Int := if h.pb a = true then partV (h.pw a) 0 else 0
def Hp.pn (h : Hp) (a : Int) : Int := if h.pb a = true then partV (h.pw a) 1 else 0
def Hp.sw (h : Hp) (a i : Int) : Int := wd h.xs (h.c + h.p + a * 16 + i)
def Hp.sk (h : Hp) (a i : Int) : Int := if readSlotB (h.sw a i) = true then kindV (h.sw a i) else 0
def Hp.sa (h : Hp) (a i : Int) : Int := if readSlotB (h.sw a i) = true then partV (h.sw a i) 0 else 0
/-- Does anybody hold a page? Who? -/
def Hp.hd (h : Hp) (a : Int) : Int := if (h.pb a && h.pk a == 4) = true then h.pa a else a
def Hp.hb (h : Hp) (a : Int) : Bool := h.pb (h.hd a) && h.pk (h.hd a) == 1
def Hp.hc (h : Hp) (a : Int) : Int := if h.hb a = true then h.pa (h.hd a) else 0
/-- Does a client live? -/
def liveB (x : Int) : Bool := statusV (kindV x) (partV x 0) == x && kindV x == 1
def Hp.lv (h : Hp) (x : Int) : Bool := mayB h.p h.c h.m && wi x 0 (h.c - 1) && liveB (wd h.xs x)
/-- Are all slots below i open? -/
def Hp.op (h : Hp) (a : Int) : Nat → Bool
  | 0 => true
  | i + 1 => h.op a i && h.sk a i == 1
def Hp.fr (h : Hp) (a : Int) : Bool := if (h.pb a && h.pk a == 2) = true then h.op a (slotsV (h.pa a)).toNat else h.pb a && h.pk a == 0
/-- How many free pages in a row end ahead of page k. -/
def Hp.rw (h : Hp) : Nat → Nat
  | 0 => 0
  | k + 1 => if h.fr k = true then h.rw k + 1 else 0
def pagesV (n : Int) : Int := if wi n 33 512 = true then runV n else 1
def Hp.upto (h : Hp) (n : Int) : Nat → Bool
  | 0 => false
  | k + 1 => h.upto n k || decide (pagesV n ≤ (h.rw (k + 1) : Int))
def Hp.room (h : Hp) (n : Int) : Bool := h.ok && lenB n && h.upto n h.p.toNat

/-- Words that are words. -/
def Hp.fit (h : Hp) : Prop := ∀ x ∈ h.xs, 0 ≤ x ∧ x < 18446744073709551616
theorem Hp.wd_bd {h : Hp} (hf : h.fit) (i : Int) : 0 ≤ wd h.xs i ∧ wd h.xs i < 18446744073709551616 := by
  unfold wd
  rw [List.getD_eq_getElem?_getD]
  rcases Nat.lt_or_ge i.toNat h.xs.length with h1 | h1
  · rw [List.getElem?_eq_getElem h1]
    exact hf _ (List.getElem_mem h1)
  · rw [List.getElem?_eq_none h1]
    exact ⟨by decide, by decide⟩
theorem readPage_fits {p c m a x : Int} (h : readPageB p c m a x = true) : fitsB p c a (kindV x) (partV x 0) (partV x 1) = true := by
  unfold readPageB at h
  simp only [Bool.and_eq_true] at h
  exact h.2
theorem Hp.page_fits {h : Hp} {a : Int} (hp : h.pb a = true) : fitsB h.p h.c a (h.pk a) (h.pa a) (h.pn a) = true := by
  unfold Hp.pk Hp.pa Hp.pn
  rw [if_pos hp, if_pos hp, if_pos hp]
  exact readPage_fits hp
theorem Hp.page_bd (h : Hp) (a : Int) : (0 ≤ h.pk a ∧ h.pk a ≤ 15) ∧ (0 ≤ h.pa a ∧ h.pa a ≤ 255) ∧ 0 ≤ h.pn a ∧ h.pn a ≤ 255 := by
  unfold Hp.pk Hp.pa Hp.pn
  have := kindV_bd (h.pw a); have := partV_bd (h.pw a) 0; have := partV_bd (h.pw a) 1
  split <;> simp_all
theorem Hp.slot_bd (h : Hp) (a i : Int) : (0 ≤ h.sk a i ∧ h.sk a i ≤ 15) ∧ 0 ≤ h.sa a i ∧ h.sa a i ≤ 255 := by
  unfold Hp.sk Hp.sa
  have := kindV_bd (h.sw a i); have := partV_bd (h.sw a i) 0
  split <;> simp_all
theorem Hp.kind4 {h : Hp} {a : Int} (hp : (h.pb a && h.pk a == 4) = true) : h.pa a < a ∧ a - 8 < h.pa a ∧ 0 ≤ h.pa a := by
  simp only [Bool.and_eq_true, beq_iff_eq] at hp
  have := h.page_fits hp.1
  rw [hp.2] at this
  simp [fitsB] at this
  exact ⟨this.1, this.2, (h.page_bd a).2.1.1⟩
theorem Hp.kind3 {h : Hp} {a : Int} (hp : (h.pb a && h.pk a == 3) = true) : 1 ≤ h.pa a ∧ h.pa a ≤ 8 ∧ h.pa a ≤ h.p - a := by
  simp only [Bool.and_eq_true, beq_iff_eq] at hp
  have := h.page_fits hp.1
  rw [hp.2] at this
  simp [fitsB] at this
  omega
theorem Hp.kind2 {h : Hp} {a : Int} (hp : (h.pb a && h.pk a == 2) = true) : 0 ≤ h.pa a ∧ h.pa a ≤ 3 := by
  simp only [Bool.and_eq_true, beq_iff_eq] at hp
  have := h.page_fits hp.1
  rw [hp.2] at this
  simp [fitsB] at this
  have := (h.page_bd a).2.1.1
  omega
theorem Hp.kind1 {h : Hp} {a : Int} (hp : (h.pb a && h.pk a == 1) = true) : 0 ≤ h.pa a ∧ h.pa a < h.c := by
  simp only [Bool.and_eq_true, beq_iff_eq] at hp
  have := h.page_fits hp.1
  rw [hp.2] at this
  simp [fitsB] at this
  exact ⟨(h.page_bd a).2.1.1, this⟩
theorem Hp.hd_in {h : Hp} {a : Int} (h0 : 0 ≤ a) (h1 : a < h.p) : 0 ≤ h.hd a ∧ h.hd a < h.p := by
  unfold Hp.hd
  split
  · rename_i hp; have := Hp.kind4 hp; omega
  · exact ⟨h0, h1⟩
end Go.Proofs.Ytfknaheijidhcaa
