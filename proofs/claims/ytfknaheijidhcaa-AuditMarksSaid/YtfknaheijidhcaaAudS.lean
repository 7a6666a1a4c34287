/- What Words counts is what Blocks and Holder say, where all is sound: plain. -/
import Derived.Test.YtfknaheijidhcaaAudB

import Derived.Test.YtfknaheijidhcaaAudC

import Derived.Test.YtfknaheijidhcaaAudJ

import Derived.Test.YtfknaheijidhcaaAudH

namespace Go.Proofs.Ytfknaheijidhcaa

/-- Sums over the numbers below n. -/
def sm (f : Nat → Int) : Nat → Int
  | 0 => 0
  | n + 1 => sm f n + f n
theorem sm_congr {f g : Nat → Int} {n : Nat} (h : ∀ i, i < n → f i = g i) : sm f n = sm g n := by
  induction n with
  | zero => rfl
  | succ n ih => unfold sm; rw [ih (fun i hi => h i (by omega)), h n (by omega)]
theorem sm_add (f g : Nat → Int) (n : Nat) : sm (fun i => f i + g i) n = sm f n + sm g n := by
  induction n with
  | zero => rfl
  | succ n ih => simp only [sm]; rw [ih]; omega
theorem sm_zero (n : Nat) : sm (fun _ => 0) n = 0 := by
  induction n with
  | zero => rfl
  | succ n ih => simp only [sm]; rw [ih]; rfl
theorem sm_const (c : Int) (n : Nat) : sm (fun _ => c) n = n * c := by
  induction n with
  | zero => simp [sm]
  | succ n ih => simp only [sm]; rw [ih, Int.natCast_add, Int.add_mul]; simp
theorem sm_mul (c : Int) (f : Nat → Int) (n : Nat) : sm (fun i => c * f i) n = c * sm f n := by
  induction n with
  | zero => simp [sm]
  | succ n ih => simp only [sm]; rw [ih, Int.mul_add]
theorem sm_single (b : Nat) (n : Nat) : sm (fun i => if i = b then 1 else 0) n = if b < n then 1 else 0 := by
  induction n with
  | zero => simp [sm]
  | succ n ih =>
    simp only [sm]
    rw [ih]
    by_cases h1 : n = b
    · subst h1; simp
    · by_cases h2 : b < n
      · rw [if_pos h2, if_neg h1, if_pos (by omega)]; rfl
      · rw [if_neg h2, if_neg h1, if_neg (by omega)]; rfl
theorem sm_split (f : Nat → Int) (n m : Nat) : sm f (n + m) = sm f n + sm (fun i => f (n + i)) m := by
  induction m with
  | zero => simp [sm]
  | succ m ih => rw [← Nat.add_assoc]; simp only [sm]; rw [ih]; omega
/-- A sum over equal parts, each of like summands. -/
theorem sm_parts (f g : Nat → Int) (z n : Nat) (h : ∀ i j, i < n → j < z → f (z * i + j) = g i) : sm f (z * n) = z * sm g n := by
  induction n with
  | zero => simp [sm]
  | succ n ih =>
    rw [Nat.mul_succ, sm_split, ih (fun i j hi hj => h i j (by omega) hj), sm_congr (g := fun _ => g n) (fun j hj => h n j (by omega) hj), sm_const]
    simp only [sm]
    rw [Int.mul_add]
def one (b : Bool) : Int := if b = true then 1 else 0

/-- The words of the blocks. -/
def lenS (l : List Bk) : Int := (l.map Bk.n).sum
theorem lenS_append (l k : List Bk) : lenS (l ++ k) = lenS l + lenS k := by simp [lenS]

theorem Hp.kinds {h : Hp} {a : Int} (hp : h.pb a = true) : h.pk a = 0 ∨ h.pk a = 1 ∨ h.pk a = 2 ∨ h.pk a = 3 ∨ h.pk a = 4 := by
  have hb := (h.page_bd a).1
  have : h.pk a ≤ 4 := by
    unfold Hp.pk
    rw [if_pos hp]
    unfold Hp.pb readPageB at hp
    simp only [Bool.and_eq_true, beq_iff_eq] at hp
    have h1 := hp.1.1
    generalize h.pw a = x at *
    false_or_by_contra
    rename_i hc
    have : pageBad (kindV x) (partV x 0) (partV x 1) = true := by
      unfold pageBad
      simp only [Bool.or_eq_true, decide_eq_true_eq]
      left; left; right; omega
    unfold pageV at h1
    rw [if_pos this] at h1
    subst h1
    exact hc (by decide)
  omega
theorem Hp.snd_pb {h : Hp} {a : Int} (hs : h.snd a = true) : h.pb a = true := by
  unfold Hp.snd at hs
  split at hs
  · assumption
  · cases hs
theorem Hp.hb_far {h : Hp} {a : Int} (hk : h.pk a ≠ 4) : h.hb a = (h.pb a && h.pk a == 1) := by
  have : h.hd a = a := by
    unfold Hp.hd
    rw [if_neg]
    simp only [Bool.and_eq_true, beq_iff_eq, not_and]
    exact fun _ => hk
  unfold Hp.hb
  rw [this]
theorem Hp.hb_body {h : Hp} {a : Int} (hp : h.pb a = true) (hk : h.pk a = 4) : h.hb a = (h.pb (h.pa a) && h.pk (h.pa a) == 1) := by
  have : h.hd a = h.pa a := by
    unfold Hp.hd
    rw [if_pos]
    simp only [Bool.and_eq_true, beq_iff_eq]
    exact ⟨hp, hk⟩
  unfold Hp.hb
  rw [this]
theorem Hp.pb_of {h : Hp} {a : Int} (hk : h.pk a ≠ 0) : h.pb a = true := by
  unfold Hp.pk at hk
  split at hk
  · assumption
  · exact absurd rfl hk

theorem Hp.slS_t (h : Hp) (a z : Int) (q : Nat) : (h.slS a z q).t = z * sm (fun i => one (h.sk a i == 3)) q := by
  induction q with
  | zero => simp [Hp.slS, sm, Cn.zero]
  | succ q ih =>
    show (h.slS a z q).t + (h.slC a z q).t = _
    simp only [sm]
    rw [ih, Int.mul_add]
    congr 1
    unfold Hp.slC one heldC
    by_cases h1 : h.sk a q = 1
    · rw [if_pos h1, h1]; simp
    · rw [if_neg h1]
      by_cases h3 : h.sk a q = 3
      · rw [if_pos h3, h3]; simp
      · have h3' : (h.sk a q == 3) = false := by rw [beq_eq_false_iff_ne]; exact h3
        rw [if_neg h3, h3']; split <;> simp
theorem Hp.slS_h (h : Hp) (a z : Int) (q : Nat) (hk : ∀ i : Nat, i < q → h.sk a i = 1 ∨ h.sk a i = 2 ∨ h.sk a i = 3) : (h.slS a z q).l + (h.slS a z q).o = z * sm (fun i => one (h.sk a i == 2)) q := by
  induction q with
  | zero => simp [Hp.slS, sm, Cn.zero]
  | succ q ih =>
    have ih := ih (fun i hi => hk i (by omega))
    show (h.slS a z q).l + (h.slC a z q).l + ((h.slS a z q).o + (h.slC a z q).o) = _
    simp only [sm]
    rw [Int.mul_add, ← ih]
    have : (h.slC a z q).l + (h.slC a z q).o = z * one (h.sk a q == 2) := by
      unfold Hp.slC one heldC
      rcases hk q (by omega) with h1 | h1 | h1
      · rw [h1]; simp
      · rw [h1]; simp only [show ¬ ((2 : Int) = 1) by decide, show ¬ ((2 : Int) = 3) by decide, if_false]; split <;> simp
      · rw [h1]; simp
    omega
theorem Hp.slB_sum (h : Hp) (a : Int) (q : Nat) : lenS (h.slB a q) = sizeV (h.pa a) * sm (fun i => one (h.sk a i == 3)) q := by
  induction q with
  | zero => simp [Hp.slB, sm, lenS]
  | succ q ih =>
    unfold Hp.slB
    simp only [sm]
    rw [lenS_append, ih, Int.mul_add]
    congr 1
    unfold one
    by_cases h3 : h.sk a q = 3
    · rw [if_pos h3, h3]; simp [lenS]
    · have h3' : (h.sk a q == 3) = false := by rw [beq_eq_false_iff_ne]; exact h3
      rw [if_neg h3, h3']; simp [lenS]
theorem Hp.supT_get {h : Hp} {a k : Int} {n : Nat} (hs : h.supT a k n = true) : ∀ i : Nat, i < n → h.okS a k i = true := by
  induction n with
  | zero => intro i hi; omega
  | succ n ih =>
    intro i hi
    have h1 : (h.supT a k n && h.okS a k n) = true := hs
    rw [Bool.and_eq_true] at h1
    rcases Nat.lt_or_ge i n with h2 | h2
    · exact ih h1.1 i h2
    · have : i = n := by omega
      subst this; exact h1.2
theorem Hp.rowT_get {h : Hp} {a : Int} {n : Nat} (hs : h.rowT a n = true) : ∀ i : Nat, i < n → h.pk (a + 1 + i) = 4 ∧ h.pa (a + 1 + i) = a := by
  induction n with
  | zero => intro i hi; omega
  | succ n ih =>
    intro i hi
    have h1 : (h.rowT a n && (h.pk (a + 1 + n) == 4 && h.pa (a + 1 + n) == a)) = true := hs
    simp only [Bool.and_eq_true, beq_iff_eq] at h1
    rcases Nat.lt_or_ge i n with h2 | h2
    · exact ih h1.1 i h2
    · have : i = n := by omega
      subst this; exact h1.2
theorem Hp.slots_kinds {h : Hp} {a : Int} (hs : h.snd a = true) (hk : h.pk a = 2) : ∀ i : Nat, i < (slotsV (h.pa a)).toNat → h.sk a i = 1 ∨ h.sk a i = 2 ∨ h.sk a i = 3 := by
  have hp := Hp.snd_pb hs
  unfold Hp.snd at hs
  rw [if_pos hp, if_pos hk] at hs
  intro i hi
  have hb := slots_bd (h.pa a)
  have := Hp.supT_get hs i (by omega)
  unfold Hp.okS at this
  rw [if_pos (by omega)] at this
  simp only [Bool.or_eq_true, Bool.and_eq_true, beq_iff_eq] at this
  omega

/-- Who holds a page's words. -/
theorem Hp.holdB_at {h : Hp} (hok : h.ok = true) {a o : Nat} (ha : (a : Int) < h.p) (ho : o < 64) :
    h.holdB ((64 * a + o : Nat) : Int) = (h.hb a || ((h.pb a && h.pk a == 2) && h.sk a ((o : Int) / sizeV (h.pa a)) == 2)) := by
  have hm : mayB h.p h.c h.m = true := by unfold Hp.ok at hok; rw [Bool.and_eq_true] at hok; exact hok.1
  have h1 : ((64 * a + o : Nat) : Int) / 64 = a := by omega
  have h2 : ((64 * a + o : Nat) : Int) % 64 = o := by omega
  have h3 : h.at' ((64 * a + o : Nat) : Int) = true := by
    unfold Hp.at' splitB
    rw [hok, hm, wi_iff.2 (by omega)]; rfl
  unfold Hp.holdB Hp.wayB
  rw [h3, h1, h2, Bool.true_and]
theorem one_false : one false = 0 := rfl
theorem one_true : one true = 1 := rfl
/-- The held words of a page. -/
theorem Hp.page_held {h : Hp} (hok : h.ok = true) {a : Nat} (ha : (a : Int) < h.p) (hs : h.snd a = true) :
    sm (fun o => one (h.holdB ((64 * a + o : Nat) : Int))) 64 = (h.pgC a).l + (h.pgC a).o := by
  have hp := Hp.snd_pb hs
  rw [sm_congr (g := fun o => one (h.hb a || ((h.pb a && h.pk a == 2) && h.sk a ((o : Int) / sizeV (h.pa a)) == 2))) (fun o ho => by rw [Hp.holdB_at hok ha ho])]
  unfold Hp.pgC
  rw [hp]
  rcases Bool.eq_false_or_eq_true (h.hb a) with hb | hb
  · rw [hb]
    simp only [Bool.true_or, one_true, if_true]
    rw [sm_const]
    have := heldC_sum (true && h.lv (h.hc a)) 64
    unfold Cn.sum at this
    have h0 : (heldC (true && h.lv (h.hc a)) 64).f = 0 ∧ (heldC (true && h.lv (h.hc a)) 64).t = 0 := by unfold heldC; split <;> exact ⟨rfl, rfl⟩
    omega
  · rw [hb]
    simp only [Bool.false_or, Bool.not_true, Bool.true_and, if_false, Bool.false_eq_true]
    by_cases hk : h.pk a = 2
    · rw [hk, if_neg (by decide), if_pos rfl]
      have hk2 := Hp.kind2 (h := h) (a := a) (by rw [hp, hk]; rfl)
      have hsz := size_slots hk2
      have hzb := size_bd (h.pa a)
      have hsb := slots_bd (h.pa a)
      rw [Hp.slS_h h a _ _ (Hp.slots_kinds hs hk)]
      obtain ⟨z, hz⟩ : ∃ z : Nat, sizeV (h.pa a) = z := ⟨(sizeV (h.pa a)).toNat, by omega⟩
      obtain ⟨q, hq⟩ : ∃ q : Nat, slotsV (h.pa a) = q := ⟨(slotsV (h.pa a)).toNat, by omega⟩
      rw [hz, hq, Int.toNat_natCast]
      rw [hz, hq] at hsz
      have hzq : z * q = 64 := by exact_mod_cast hsz
      have hz0 : 0 < z := by rcases Nat.eq_zero_or_pos z with e | e; subst e; omega; exact e
      rw [← hzq]
      refine sm_parts _ _ z q (fun i j hi hj => ?_)
      have : ((z * i + j : Nat) : Int) / (z : Int) = i := by
        rw [← Int.natCast_ediv, Nat.mul_add_div hz0, Nat.div_eq_of_lt hj]; simp
      rw [this]; rfl
    · have hk' : (h.pk a == 2) = false := by rw [beq_eq_false_iff_ne]; exact hk
      rw [hk']
      simp only [Bool.false_and, one_false]
      rw [sm_zero, if_neg hk]
      split <;> rfl
/-- The held words of the heap. -/
theorem Hp.all_held {h : Hp} (hok : h.ok = true) {k : Nat} (hk : (k : Int) ≤ h.p) (hs : ∀ i : Nat, i < k → h.snd i = true) :
    sm (fun a => one (h.holdB (a : Nat))) (64 * k) = (h.cn k).l + (h.cn k).o := by
  induction k with
  | zero => simp [sm, Hp.cn, Cn.zero]
  | succ k ih =>
    rw [Nat.mul_succ, sm_split, ih (by omega) (fun i hi => hs i (by omega)), Hp.page_held hok (by omega) (hs k (by omega))]
    show _ = (h.cn k).l + (h.pgC k).l + ((h.cn k).o + (h.pgC k).o)
    omega
end Go.Proofs.Ytfknaheijidhcaa
