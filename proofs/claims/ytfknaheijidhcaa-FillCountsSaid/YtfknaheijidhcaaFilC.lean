/- A heap of pages of one class, built slot by slot: plain. -/
import Derived.Test.YtfknaheijidhcaaFilP

namespace Go.Proofs.Ytfknaheijidhcaa

open Fl

/-- How many of the first ones are set. -/
def ctB (bs : List Bool) : Nat → Nat
  | 0 => 0
  | t + 1 => ctB bs t + if bs.getD t false = true then 1 else 0
theorem ctB_le (bs : List Bool) (t : Nat) : ctB bs t ≤ t := by
  induction t with
  | zero => simp [ctB]
  | succ t ih => unfold ctB; split <;> omega
theorem ctB_add (bs : List Bool) (a q : Nat) : ctB bs a ≤ ctB bs (a + q) := by
  induction q with
  | zero => exact Nat.le_refl _
  | succ q ih =>
    have : ctB bs (a + (q + 1)) = ctB bs (a + q) + if bs.getD (a + q) false = true then 1 else 0 := rfl
    omega
def swC (k : Int) (b : Bool) : Int := (if b = true then 3 else 1) + 16 * k
/-- The words where b pages are, and t slots of s a page. -/
structure InvC (k : Int) (s P : Nat) (bs : List Bool) (b t : Nat) (xs : List Int) : Prop where
  len : xs.length = 1 + 17 * P
  zero : xs.getD 0 0 = 0
  page : ∀ p, p < P → xs.getD (1 + p) 0 = if p < b then 2 + 16 * k else 0
  slot : ∀ p i, p < P → i < 16 → xs.getD (1 + P + 16 * p + i) 0 = if i < s ∧ p * s + i < t then swC k (bs.getD (p * s + i) false) else 0
theorem getD_set' (xs : List Int) (i j : Nat) (v : Int) (hi : i < xs.length) : (xs.set i v).getD j 0 = if j = i then v else xs.getD j 0 := by
  rw [List.getD_eq_getElem?_getD, List.getD_eq_getElem?_getD, List.getElem?_set]
  by_cases h : i = j
  · subst h; rw [if_pos rfl, if_pos rfl, if_pos hi]; rfl
  · rw [if_neg h, if_neg (by omega)]
theorem InvC.start (k : Int) (s P : Nat) (bs : List Bool) : InvC k s P bs 0 0 (List.replicate (1 + 17 * P) 0) := by
  have h : ∀ j, (List.replicate (1 + 17 * P) (0 : Int)).getD j 0 = 0 := fun j => by
    rw [List.getD_eq_getElem?_getD, List.getElem?_replicate]; split <;> rfl
  refine ⟨by simp, h 0, fun p _ => ?_, fun p i _ _ => ?_⟩
  · rw [h, if_neg (by omega)]
  · rw [h, if_neg (by omega)]
section

variable {k : Int} {s P : Nat} {bs : List Bool} {xs : List Int}

theorem InvC.setPage {a : Nat} (h : InvC k s P bs a (a * s) xs) (ha : a < P) : InvC k s P bs (a + 1) (a * s) (xs.set (1 + a) (2 + 16 * k)) := by
  have hl := h.len
  refine ⟨by rw [List.length_set]; exact hl, by rw [getD_set' _ _ _ _ (by omega), if_neg (by omega)]; exact h.zero, fun p hp => ?_, fun p i hp hi => ?_⟩
  · rw [getD_set' _ _ _ _ (by omega)]
    by_cases e : p = a
    · subst e; rw [if_pos rfl, if_pos (by omega)]
    · rw [if_neg (by omega), h.page p hp]
      by_cases e2 : p < a
      · rw [if_pos e2, if_pos (by omega)]
      · rw [if_neg e2, if_neg (by omega)]
  · rw [getD_set' _ _ _ _ (by omega), if_neg (by omega)]; exact h.slot p i hp hi
theorem slot_ix {s a q p i : Nat} (hq : q < s) (hi : i < s) (h : p * s + i = a * s + q) : p = a ∧ i = q := by
  have h1 : (p * s + i) / s = p := by rw [Nat.mul_comm, Nat.mul_add_div (by omega), Nat.div_eq_of_lt hi, Nat.add_zero]
  have h2 : (a * s + q) / s = a := by rw [Nat.mul_comm, Nat.mul_add_div (by omega), Nat.div_eq_of_lt hq, Nat.add_zero]
  have h3 : p = a := by rw [← h1, ← h2, h]
  subst h3
  exact ⟨rfl, by omega⟩
theorem InvC.setSlot {a q : Nat} (h : InvC k s P bs (a + 1) (a * s + q) xs) (ha : a < P) (hq : q < s) (hs : s ≤ 16) : InvC k s P bs (a + 1) (a * s + (q + 1)) (xs.set (1 + P + 16 * a + q) (swC k (bs.getD (a * s + q) false))) := by
  have hl := h.len
  refine ⟨by rw [List.length_set]; exact hl, by rw [getD_set' _ _ _ _ (by omega), if_neg (by omega)]; exact h.zero, fun p hp => ?_, fun p i hp hi => ?_⟩
  · rw [getD_set' _ _ _ _ (by omega), if_neg (by omega)]; exact h.page p hp
  · rw [getD_set' _ _ _ _ (by omega)]
    by_cases e : p = a ∧ i = q
    · obtain ⟨rfl, rfl⟩ := e
      rw [if_pos rfl, if_pos ⟨hq, by omega⟩]
    · rw [if_neg (by omega), h.slot p i hp hi]
      by_cases e2 : i < s ∧ p * s + i < a * s + q
      · rw [if_pos e2, if_pos ⟨e2.1, by omega⟩]
      · rw [if_neg e2, if_neg]
        rintro ⟨h1, h2⟩
        rcases Nat.lt_or_ge (p * s + i) (a * s + q) with h3 | h3
        · exact e2 ⟨h1, h3⟩
        · exact e (slot_ix hq h1 (by omega))
/-- The whole heap. -/
abbrev hpC (P : Nat) (xs : List Int) : Hp := ⟨P, 1, 0, xs⟩
variable (h : InvC k s P bs P (P * s) xs) (hP : 1 ≤ P ∧ P ≤ 10) (hk : 0 ≤ k ∧ k ≤ 3) (hs : slotsV k = (s : Int))

include h hP hk hs
omit hk hs in
theorem hpC_ok : (hpC P xs).ok = true := by
  have hm : mayB (P : Int) 1 0 = true := mayB_iff.2 (by omega)
  show (mayB (P : Int) 1 0 && decide (totalV (P : Int) 1 0 ≤ (xs.length : Int))) = true
  unfold totalV
  rw [hm, if_pos rfl, h.len, Bool.true_and, decide_eq_true (by omega)]
omit hs in
theorem hpC_page (a : Nat) (ha : a < P) : (hpC P xs).pb a = true ∧ (hpC P xs).pk a = 2 ∧ (hpC P xs).pa a = k := by
  have hw : (hpC P xs).pw a = 2 + 16 * k := by
    show xs.getD ((1 : Int) + a).toNat 0 = _
    rw [show ((1 : Int) + a).toNat = 1 + a by omega, h.page a ha, if_pos ha]
  have hix : decide (0 ≤ pageIx (P : Int) 1 0 (a : Int)) = true := by
    unfold pageIx
    rw [if_pos ⟨mayB_iff.2 (by omega), wi_iff.2 (by omega)⟩]
    exact decide_eq_true (by omega)
  have h4 : k = 0 ∨ k = 1 ∨ k = 2 ∨ k = 3 := by omega
  have hv : pageV (kindV (2 + 16 * k)) (partV (2 + 16 * k) 0) (partV (2 + 16 * k) 1) = 2 + 16 * k ∧ kindV (2 + 16 * k) = 2 ∧ partV (2 + 16 * k) 0 = k ∧ partV (2 + 16 * k) 1 = 0 := by
    rcases h4 with rfl | rfl | rfl | rfl <;> decide
  have hb : (hpC P xs).pb a = true := by
    show readPageB (P : Int) 1 0 a ((hpC P xs).pw a) = true
    rw [hw]
    unfold readPageB
    rw [hv.1, hix, hv.2.1, hv.2.2.1, hv.2.2.2]
    unfold fitsB
    simp; omega
  refine ⟨hb, ?_, ?_⟩
  · unfold Hp.pk; rw [if_pos hb, hw]; exact hv.2.1
  · unfold Hp.pa; rw [if_pos hb, hw]; exact hv.2.2.1
omit hP in
theorem hpC_slot (a i : Nat) (ha : a < P) (hi : i < s) : (hpC P xs).sk a i = if bs.getD (a * s + i) false = true then 3 else 1 := by
  have hb := slots_bd k
  have hlt : a * s + i < P * s := by
    have := Nat.mul_le_mul_right s (show a + 1 ≤ P by omega)
    rw [Nat.add_mul] at this; omega
  have hw : (hpC P xs).sw a i = swC k (bs.getD (a * s + i) false) := by
    show xs.getD ((1 : Int) + P + a * 16 + i).toNat 0 = _
    rw [show ((1 : Int) + P + a * 16 + i).toNat = 1 + P + 16 * a + i by omega, h.slot a i ha (by omega), if_pos ⟨hi, hlt⟩]
  have h4 : k = 0 ∨ k = 1 ∨ k = 2 ∨ k = 3 := by omega
  unfold Hp.sk
  rw [hw]
  unfold swC
  rcases h4 with rfl | rfl | rfl | rfl <;> cases bs.getD (a * s + i) false <;> decide
omit hP in
theorem hpC_tk (a q : Nat) (ha : a < P) (hq : q ≤ s) : (hpC P xs).tk a q + (ctB bs (a * s) : Int) = (ctB bs (a * s + q) : Int) := by
  induction q with
  | zero => simp [Hp.tk]
  | succ q ih =>
    have e : ctB bs (a * s + (q + 1)) = ctB bs (a * s + q) + if bs.getD (a * s + q) false = true then 1 else 0 := rfl
    have e2 : (hpC P xs).tk a (q + 1) = (hpC P xs).tk a q + if (hpC P xs).sk a (q : Nat) = 3 then 1 else 0 := rfl
    have ih := ih (by omega)
    rw [e, e2, hpC_slot h hk hs a q ha (by omega)]
    cases bs.getD (a * s + q) false <;> simp <;> omega
theorem hpC_sum (a : Nat) (ha : a ≤ P) : (hpC P xs).fT k a = (ctB bs (a * s) : Int) ∧ (hpC P xs).fA k a = ((a * s : Nat) : Int) := by
  induction a with
  | zero => simp [Hp.fT, Hp.fA, ctB]
  | succ a ih =>
    obtain ⟨_, h2, h3⟩ := hpC_page h hP hk a (by omega)
    obtain ⟨i1, i2⟩ := ih (by omega)
    have hc : (hpC P xs).isC k a = true := by unfold Hp.isC; rw [h2, h3]; simp
    have ht := hpC_tk h hk hs a s (by omega) (Nat.le_refl _)
    have e1 : (hpC P xs).fT k (a + 1) = (hpC P xs).fT k a + if (hpC P xs).isC k a = true then (hpC P xs).tk a (slotsV k).toNat else 0 := rfl
    have e2 : (hpC P xs).fA k (a + 1) = (hpC P xs).fA k a + if (hpC P xs).isC k a = true then slotsV k else 0 := rfl
    rw [e1, e2, if_pos hc, if_pos hc, i1, i2, hs, Int.toNat_natCast, show (a + 1) * s = a * s + s from Nat.succ_mul a s]
    exact ⟨by omega, by omega⟩
omit hs in
theorem hpC_none (k' : Int) (hne : k' ≠ k) (a : Nat) (ha : a ≤ P) : (hpC P xs).fT k' a = 0 ∧ (hpC P xs).fA k' a = 0 := by
  induction a with
  | zero => simp [Hp.fT, Hp.fA]
  | succ a ih =>
    obtain ⟨_, h2, h3⟩ := hpC_page h hP hk a (by omega)
    obtain ⟨i1, i2⟩ := ih (by omega)
    have hc : (hpC P xs).isC k' a = false := by unfold Hp.isC; rw [h2, h3]; simp; omega
    have e1 : (hpC P xs).fT k' (a + 1) = (hpC P xs).fT k' a + if (hpC P xs).isC k' a = true then (hpC P xs).tk a (slotsV k').toNat else 0 := rfl
    have e2 : (hpC P xs).fA k' (a + 1) = (hpC P xs).fA k' a + if (hpC P xs).isC k' a = true then slotsV k' else 0 := rfl
    rw [e1, e2, hc, i1, i2]; simp
theorem hpC_fill : (hpC P xs).fill k = ratioF (ctB bs (P * s)) ((P * s : Nat) : Int) := by
  obtain ⟨h1, h2⟩ := hpC_sum h hP hk hs P (Nat.le_refl _)
  unfold Hp.fill
  rw [if_pos (hpC_ok h hP)]
  show ratioF ((hpC P xs).fT k P) ((hpC P xs).fA k P) = _
  rw [h1, h2]
omit hs in
theorem hpC_fill_none (k' : Int) (hne : k' ≠ k) : (hpC P xs).fill k' = ratioF 0 0 := by
  obtain ⟨h1, h2⟩ := hpC_none h hP hk k' hne P (Nat.le_refl _)
  unfold Hp.fill
  rw [if_pos (hpC_ok h hP)]
  show ratioF ((hpC P xs).fT k' P) ((hpC P xs).fA k' P) = _
  rw [h1, h2]
omit hP in
theorem hpC_slS (a q : Nat) (z : Int) (ha : a < P) (hq : q ≤ s) : ((hpC P xs).slS a z q).t = z * (hpC P xs).tk a q := by
  induction q with
  | zero => simp [Hp.slS, Hp.tk, Cn.zero]
  | succ q ih =>
    have e1 : (hpC P xs).slS a z (q + 1) = ((hpC P xs).slS a z q).add ((hpC P xs).slC a z q) := rfl
    have e2 : (hpC P xs).tk a (q + 1) = (hpC P xs).tk a q + if (hpC P xs).sk a (q : Nat) = 3 then 1 else 0 := rfl
    have h3 := hpC_slot h hk hs a q ha (by omega)
    rw [e1, e2, Int.mul_add, ← ih (by omega)]
    show ((hpC P xs).slS a z q).t + ((hpC P xs).slC a z q).t = _
    congr 1
    unfold Hp.slC
    rw [h3]
    cases bs.getD (a * s + q) false <;> simp
theorem hpC_cn (a : Nat) (ha : a ≤ P) : ((hpC P xs).cn a).t = sizeV k * (ctB bs (a * s) : Int) := by
  induction a with
  | zero => simp [Hp.cn, Cn.zero, ctB]
  | succ a ih =>
    obtain ⟨h1, h2, h3⟩ := hpC_page h hP hk a (by omega)
    have ht := hpC_tk h hk hs a s (by omega) (Nat.le_refl _)
    have hk4 : (hpC P xs).pk a ≠ 4 := by rw [h2]; decide
    have hhb : (hpC P xs).hb a = false := by
      unfold Hp.hb Hp.hd
      rw [if_neg (by simp [h2]), h2]; simp
    have e1 : (hpC P xs).cn (a + 1) = ((hpC P xs).cn a).add ((hpC P xs).pgC a) := rfl
    have e2 : (hpC P xs).pgC a = (hpC P xs).slS a (sizeV k) s := by
      unfold Hp.pgC
      rw [hhb, h1, h2, h3, hs, Int.toNat_natCast]
      simp
    rw [e1, e2]
    show ((hpC P xs).cn a).t + ((hpC P xs).slS a (sizeV k) s).t = _
    rw [ih (by omega), hpC_slS h hk hs a s _ (by omega) (Nat.le_refl _), ← Int.mul_add, Int.add_comm, ht]
    congr 2
    rw [show (a + 1) * s = a * s + s from Nat.succ_mul a s]
theorem hpC_heap : (hpC P xs).heapF = ratioF (sizeV k * (ctB bs (P * s) : Int)) ((P : Int) * 64) := by
  unfold Hp.heapF
  rw [if_pos (hpC_ok h hP)]
  unfold Hp.count
  rw [if_pos (hpC_ok h hP)]
  show ratioF ((hpC P xs).cn P).t _ = _
  rw [hpC_cn h hP hk hs P (Nat.le_refl _)]
omit hP hs in
theorem hpC_fit : (hpC P xs).fit := by
  intro x hx
  obtain ⟨j, hj, rfl⟩ := List.getElem_of_mem hx
  replace hj : j < xs.length := hj
  have hl := h.len
  have hsb := slots_bd k
  have hg : xs[j] = xs.getD j 0 := by rw [List.getD_eq_getElem?_getD, List.getElem?_eq_getElem hj]; rfl
  rw [hg]
  rcases Nat.lt_or_ge j 1 with h0 | h0
  · obtain rfl : j = 0 := by omega
    rw [h.zero]; omega
  · rcases Nat.lt_or_ge j (1 + P) with h1 | h1
    · rw [show j = 1 + (j - 1) by omega, h.page _ (by omega)]
      split <;> omega
    · rw [show j = 1 + P + 16 * ((j - 1 - P) / 16) + (j - 1 - P) % 16 by omega, h.slot _ _ (by omega) (by omega)]
      unfold swC
      repeat' split
      all_goals omega
/-- The fullest class is the only one. -/
theorem hpC_best : (bestF (fun i => (hpC P xs).fill i) 4).ok = true ∧ (bestF (fun i => (hpC P xs).fill i) 4).k = k := by
  have hb := bestF_ok (fun i => (hpC P xs).fill i) 4
  have hsp : 0 < s := by
    have h4 : k = 0 ∨ k = 1 ∨ k = 2 ∨ k = 3 := by omega
    rcases h4 with rfl | rfl | rfl | rfl <;> (have : slotsV 0 = 16 ∧ slotsV 1 = 8 ∧ slotsV 2 = 4 ∧ slotsV 3 = 2 := by decide) <;> omega
  have hnum : nan ((hpC P xs).fill k) = false := by
    rw [hpC_fill h hP hk hs]
    have hc := ctB_le bs (P * s)
    have hb := slots_bd k
    have hm : P * s ≤ 10 * 16 := Nat.mul_le_mul (by omega) (by omega)
    have hm0 : 0 < P * s := Nat.mul_pos (by omega) hsp
    exact (Fl.ratio_in _ _ (by omega) (by omega)).1
  have hkk : ((k.toNat : Nat) : Int) = k := by omega
  rcases Bool.eq_false_or_eq_true (bestF (fun i => (hpC P xs).fill i) 4).ok with ho | ho
  · refine ⟨ho, ?_⟩
    obtain ⟨b, e1, _, _, e4, _⟩ := hb.2 ho
    rw [e1]
    by_cases e : (b : Int) = k
    · exact e
    · rw [hpC_fill_none h hP hk b e, nan_none] at e4
      cases e4
  · have := (hb.1 ho).2.2 k.toNat (by omega)
    simp only [hkk] at this
    rw [hnum] at this
    cases this
end

end Go.Proofs.Ytfknaheijidhcaa
