/- The words of a sound heap's blocks: plain. -/
import Derived.Test.YtfknaheijidhcaaAudS

import Derived.Test.YtfknaheijidhcaaMdlN

namespace Go.Proofs.Ytfknaheijidhcaa

theorem okK.widen {W W' : Int} (hw : W ≤ W') {l : List Bk} : ∀ {lo : Int}, okK W lo l → okK W' lo l := by
  induction l with
  | nil => exact fun h => Int.le_trans h hw
  | cons b l ih => exact fun h => ⟨h.1, h.2.1, ih h.2.2⟩
theorem okK.append {W M : Int} {l k : List Bk} (hk : okK W M k) : ∀ {lo : Int}, okK M lo l → okK W lo (l ++ k) := by
  induction l with
  | nil => exact fun h => hk.mono h
  | cons b l ih => exact fun h => ⟨h.1, h.2.1, ih h.2.2⟩
theorem Hp.mem_slB {h : Hp} {a : Int} {q : Nat} {b : Bk} : b ∈ h.slB a q ↔ ∃ i : Nat, i < q ∧ h.sk a i = 3 ∧ b = ⟨a * 64 + i * sizeV (h.pa a), sizeV (h.pa a)⟩ := by
  induction q with
  | zero => simp [Hp.slB]
  | succ q ih =>
    unfold Hp.slB
    rw [List.mem_append, ih]
    constructor
    · rintro (⟨i, h1, h2, h3⟩ | h1)
      · exact ⟨i, by omega, h2, h3⟩
      · split at h1
        · rename_i h2
          exact ⟨q, by omega, h2, by simpa using h1⟩
        · simp at h1
    · rintro ⟨i, h1, h2, h3⟩
      rcases Nat.lt_or_ge i q with h4 | h4
      · exact .inl ⟨i, h4, h2, h3⟩
      · have : i = q := by omega
        subst this
        right; rw [if_pos h2]; simp [h3]
theorem Hp.mem_blT {h : Hp} {k : Nat} {b : Bk} : b ∈ h.blT k ↔ ∃ a : Nat, a < k ∧ b ∈ h.pgB a := by
  induction k with
  | zero => simp [Hp.blT]
  | succ k ih =>
    unfold Hp.blT
    rw [List.mem_append, ih]
    constructor
    · rintro (⟨a, h1, h2⟩ | h1)
      · exact ⟨a, by omega, h2⟩
      · exact ⟨k, by omega, h1⟩
    · rintro ⟨a, h1, h2⟩
      rcases Nat.lt_or_ge a k with h4 | h4
      · exact .inl ⟨a, h4, h2⟩
      · have : a = k := by omega
        subst this; exact .inr h2
theorem Hp.slB_ok {h : Hp} {a : Int} (hz : 1 ≤ sizeV (h.pa a)) (q : Nat) : okK (a * 64 + q * sizeV (h.pa a)) (a * 64) (h.slB a q) := by
  induction q with
  | zero => show a * 64 ≤ a * 64 + ((0 : Nat) : Int) * _; simp
  | succ q ih =>
    unfold Hp.slB
    have e : ((q + 1 : Nat) : Int) * sizeV (h.pa a) = q * sizeV (h.pa a) + sizeV (h.pa a) := by rw [Int.natCast_add, Int.add_mul]; simp
    rw [e]
    split
    · refine okK.append (M := a * 64 + q * sizeV (h.pa a)) ?_ ih
      exact ⟨Int.le_refl _, hz, by show _ + _ ≤ _; simp only; omega⟩
    · rw [List.append_nil]; exact ih.widen (by omega)
/-- A row's first page's bodies. -/
theorem Hp.row_of {h : Hp} {a : Int} (hs : h.snd a = true) (hk : h.pk a = 3) : (1 ≤ h.pa a ∧ h.pa a ≤ 8 ∧ h.pa a ≤ h.p - a) ∧ ∀ q : Int, a < q → q < a + h.pa a → h.pk q = 4 ∧ h.pa q = a := by
  have hp := Hp.snd_pb hs
  refine ⟨Hp.kind3 (by rw [hp, hk]; rfl), fun q h1 h2 => ?_⟩
  unfold Hp.snd at hs
  rw [if_pos hp, if_neg (by rw [hk]; decide), if_pos hk, Bool.and_eq_true] at hs
  have h3 := Hp.rowT_get hs.2 (q - a - 1).toNat (by omega)
  rw [show a + 1 + ((q - a - 1).toNat : Int) = q by omega] at h3
  exact h3
theorem Hp.head_of {h : Hp} {a : Int} (hs : h.snd a = true) (hk : h.pk a = 4) : (h.pa a < a ∧ a - 8 < h.pa a ∧ 0 ≤ h.pa a) ∧ (h.pk (h.pa a) = 1 ∨ (h.pk (h.pa a) = 3 ∧ a < h.pa a + h.pa (h.pa a))) := by
  have hp := Hp.snd_pb hs
  refine ⟨Hp.kind4 (by rw [hp, hk]; rfl), ?_⟩
  unfold Hp.snd at hs
  rw [if_pos hp, if_neg (by rw [hk]; decide), if_neg (by rw [hk]; decide), if_pos hk] at hs
  simp only [Bool.and_eq_true, Bool.or_eq_true, beq_iff_eq, decide_eq_true_eq] at hs
  exact hs.2
theorem Hp.sup_of {h : Hp} {a : Int} (hs : h.snd a = true) (hk : h.pk a = 2) : ∃ z q : Nat, sizeV (h.pa a) = z ∧ slotsV (h.pa a) = q ∧ 1 ≤ z ∧ z * q = 64 := by
  have hp := Hp.snd_pb hs
  have hk2 := Hp.kind2 (h := h) (a := a) (by rw [hp, hk]; rfl)
  have hsz := size_slots hk2
  have hzb := size_bd (h.pa a)
  have hsb := slots_bd (h.pa a)
  obtain ⟨z, hz⟩ : ∃ z : Nat, sizeV (h.pa a) = z := ⟨(sizeV (h.pa a)).toNat, by omega⟩
  obtain ⟨q, hq⟩ : ∃ q : Nat, slotsV (h.pa a) = q := ⟨(slotsV (h.pa a)).toNat, by omega⟩
  rw [hz, hq] at hsz
  have hzq : z * q = 64 := by exact_mod_cast hsz
  refine ⟨z, q, hz, hq, ?_, hzq⟩
  rcases Nat.eq_zero_or_pos z with e | e
  · subst e; omega
  · exact e
/-- Where the pages of the blocks below page k end. -/
def Hp.en (h : Hp) : Nat → Int
  | 0 => 0
  | k + 1 => if h.pk k = 3 then k + h.pa k else max (h.en k) (k + 1)
theorem Hp.blT_ok {h : Hp} {P : Nat} (hP : h.p = P) (hs : ∀ i : Nat, i < P → h.snd i = true) (k : Nat) (hk : k ≤ P) :
    okK (64 * h.en k) 0 (h.blT k) ∧ (k : Int) ≤ h.en k ∧ h.en k ≤ P ∧ ∀ q : Int, k ≤ q → q < h.en k → h.pk q = 4 := by
  induction k with
  | zero => exact ⟨Int.le_refl 0, Int.le_refl 0, by show (0 : Int) ≤ P; omega, fun q h1 h2 => by have : h.en 0 = 0 := rfl; omega⟩
  | succ k ih =>
    obtain ⟨i1, i2, i3, i4⟩ := ih (by omega)
    have hk' := hs k (by omega)
    have hkk : h.pk k ≠ 4 → h.en k = k := fun hn => by
      false_or_by_contra
      exact hn (i4 k (Int.le_refl _) (by omega))
    unfold Hp.blT Hp.pgB Hp.en
    by_cases h3 : h.pk k = 3
    · rw [if_pos h3, if_pos h3]
      have he := hkk (by rw [h3]; decide)
      obtain ⟨b1, b2⟩ := Hp.row_of hk' h3
      refine ⟨?_, by omega, by omega, fun q h4 h5 => (b2 q (by omega) h5).1⟩
      rw [he] at i1
      have hone : okK (64 * ((k : Int) + h.pa k)) (64 * k) [⟨(k : Int) * 64, h.pa k * 64⟩] := ⟨by show 64 * (k : Int) ≤ k * 64; omega, by show 1 ≤ h.pa k * 64; omega, by show (k : Int) * 64 + h.pa k * 64 ≤ _; omega⟩
      exact okK.append hone i1
    · rw [if_neg h3, if_neg h3]
      refine ⟨?_, by omega, by omega, fun q h4 h5 => i4 q (by omega) (by omega)⟩
      by_cases h2 : h.pk k = 2
      · rw [if_pos h2]
        have he := hkk (by rw [h2]; decide)
        obtain ⟨z, q, hz, hq, hz1, hzq⟩ := Hp.sup_of hk' h2
        have ho := Hp.slB_ok (h := h) (a := k) (by omega) q
        rw [hz] at ho
        have e : (q : Int) * z = 64 := by rw [Int.mul_comm]; exact_mod_cast hzq
        rw [e] at ho
        rw [hq, Int.toNat_natCast]
        rw [he] at i1 ⊢
        exact okK.append (M := 64 * k) ((ho.mono (by omega)).widen (by omega)) i1
      · rw [if_neg h2, List.append_nil]
        exact i1.widen (by omega)
/-- Is a word of a page in a block? -/
def Hp.tk (h : Hp) (a : Int) (o : Int) : Bool :=
  if h.pk a = 3 then true else if h.pk a = 4 then h.pk (h.pa a) == 3 else if h.pk a = 2 then h.sk a (o / sizeV (h.pa a)) == 3 else false
theorem cov_iff {l : List Bk} {x : Int} : cov l x = true ↔ ∃ b ∈ l, b.a ≤ x ∧ x < b.a + b.n := by
  unfold cov inW
  rw [List.any_eq_true]
  simp only [decide_eq_true_eq]
theorem Hp.cov_at {h : Hp} {P : Nat} (hP : h.p = P) (hs : ∀ i : Nat, i < P → h.snd i = true) {a o : Nat} (ha : a < P) (ho : o < 64) :
    cov (h.blT P) ((64 * a + o : Nat) : Int) = h.tk a o := by
  have hsa := hs a ha
  rw [Bool.eq_iff_iff, cov_iff]
  constructor
  · rintro ⟨b, hb, hb1, hb2⟩
    obtain ⟨q, hq, hb⟩ := Hp.mem_blT.1 hb
    have hsq := hs q hq
    unfold Hp.pgB at hb
    split at hb
    · rename_i h3
      obtain ⟨r1, r2⟩ := Hp.row_of hsq h3
      have hb := List.mem_singleton.1 hb
      subst hb
      simp only at hb1 hb2
      unfold Hp.tk
      by_cases hqa : q = a
      · subst hqa; rw [if_pos h3]
      · have := r2 a (by omega) (by omega)
        rw [if_neg (by rw [this.1]; decide), if_pos this.1, this.2, h3]; rfl
    · split at hb
      · rename_i h3 h2
        obtain ⟨z, n, hz, hn, hz1, hzn⟩ := Hp.sup_of hsq h2
        rw [hn, Int.toNat_natCast] at hb
        obtain ⟨i, hi, hk, rfl⟩ := Hp.mem_slB.1 hb
        rw [hz] at hb1 hb2
        simp only at hb1 hb2
        have hin : i * z + z ≤ 64 := by
          have : (i + 1) * z ≤ n * z := Nat.mul_le_mul_right z hi
          rw [Nat.mul_comm n z, hzn, Nat.add_mul] at this; omega
        have hin' : (i : Int) * z + z ≤ 64 := by exact_mod_cast hin
        have h0 : (0 : Int) ≤ (i : Int) * z := Int.mul_nonneg (by omega) (by omega)
        have hqa : q = a := by omega
        subst hqa
        unfold Hp.tk
        rw [if_neg h3, if_neg (by rw [h2]; decide), if_pos h2, hz]
        have : (o : Int) / (z : Int) = i := by
          have e : (o : Int) = (o - i * z) + i * z := by omega
          rw [e, Int.add_mul_ediv_right _ _ (by omega), Int.ediv_eq_zero_of_lt (by omega) (by omega), Int.zero_add]
        rw [this, hk]; rfl
      · cases hb
  · intro ht
    unfold Hp.tk at ht
    split at ht
    · rename_i h3
      obtain ⟨r1, r2⟩ := Hp.row_of hsa h3
      refine ⟨⟨a * 64, h.pa a * 64⟩, Hp.mem_blT.2 ⟨a, ha, ?_⟩, ?_⟩
      · unfold Hp.pgB; rw [if_pos h3]; simp
      · simp only; omega
    · split at ht
      · rename_i h3 h4
        obtain ⟨r1, r2⟩ := Hp.head_of hsa h4
        have ht := beq_iff_eq.1 ht
        rw [ht] at r2
        have r2 : (a : Int) < h.pa a + h.pa (h.pa a) := by
          rcases r2 with r2 | r2
          · cases r2
          · exact r2.2
        obtain ⟨q, hq⟩ : ∃ q : Nat, h.pa a = q := ⟨(h.pa a).toNat, by omega⟩
        rw [hq] at ht r1 r2
        refine ⟨⟨q * 64, h.pa q * 64⟩, Hp.mem_blT.2 ⟨q, by omega, ?_⟩, ?_⟩
        · unfold Hp.pgB; rw [if_pos ht]; simp
        · simp only; omega
      · split at ht
        · rename_i h3 h4 h2
          obtain ⟨z, n, hz, hn, hz1, hzn⟩ := Hp.sup_of hsa h2
          rw [hz] at ht
          have hdm := Nat.div_add_mod o z
          have hml := Nat.mod_lt o (show z > 0 by omega)
          have hlt : o / z < n := by
            rw [Nat.div_lt_iff_lt_mul (by omega), Nat.mul_comm n z, hzn]; exact ho
          have hdm' : (z : Int) * ((o / z : Nat) : Int) + ((o % z : Nat) : Int) = o := by exact_mod_cast hdm
          have hcm : (z : Int) * ((o / z : Nat) : Int) = ((o / z : Nat) : Int) * z := Int.mul_comm _ _
          refine ⟨⟨a * 64 + ((o / z : Nat) : Int) * sizeV (h.pa a), sizeV (h.pa a)⟩, Hp.mem_blT.2 ⟨a, ha, ?_⟩, ?_⟩
          · unfold Hp.pgB
            rw [if_neg h3, if_pos h2, hn, Int.toNat_natCast]
            refine Hp.mem_slB.2 ⟨o / z, hlt, ?_, rfl⟩
            have := beq_iff_eq.1 ht
            rw [Int.natCast_ediv]; exact this
          · rw [hz]; simp only; omega
        · cases ht
/-- The words of a page that are in blocks. -/
theorem Hp.page_taken {h : Hp} {a : Nat} (hs : h.snd a = true) : sm (fun o => one (h.tk a o)) 64 = (h.pgC a).t := by
  have hp := Hp.snd_pb hs
  have hheld : ∀ b : Bool, (heldC b 64).t = 0 := fun b => by unfold heldC; split <;> rfl
  have hfar : ∀ k, h.pk a = k → k ≠ 4 → h.hb a = (k == 1) := fun k e hk => by rw [Hp.hb_far (by rw [e]; exact hk), hp, e]; rfl
  unfold Hp.pgC
  rw [hp]
  rcases Hp.kinds hp with hk | hk | hk | hk | hk
  · rw [hfar 0 hk (by decide), hk]
    unfold Hp.tk
    simp only [hk]
    refine (sm_zero 64).trans ?_
    simp
  · rw [hfar 1 hk (by decide)]
    unfold Hp.tk
    simp only [hk]
    refine (sm_zero 64).trans ?_
    simp [hheld]
  · rw [hfar 2 hk (by decide), hk]
    obtain ⟨z, n, hz, hn, hz1, hzn⟩ := Hp.sup_of hs hk
    have e : (if ((2 : Int) == 1 || !true) = true then heldC ((2 : Int) == 1 && h.lv (h.hc a)) 64 else if (2 : Int) = 0 then ⟨64, 0, 0, 0⟩ else if (2 : Int) = 2 then h.slS a (sizeV (h.pa a)) (slotsV (h.pa a)).toNat else (⟨0, 64, 0, 0⟩ : Cn)) = h.slS a (sizeV (h.pa a)) (slotsV (h.pa a)).toNat := by simp
    rw [e, hz, hn, Int.toNat_natCast, Hp.slS_t, ← hzn]
    refine sm_parts _ _ z n (fun i j hi hj => ?_)
    unfold Hp.tk
    rw [if_neg (by rw [hk]; decide), if_neg (by rw [hk]; decide), if_pos hk, hz]
    have : ((z * i + j : Nat) : Int) / (z : Int) = i := by
      rw [← Int.natCast_ediv, Nat.mul_add_div (by omega), Nat.div_eq_of_lt hj]; simp
    rw [this]
  · rw [hfar 3 hk (by decide), hk]
    unfold Hp.tk
    simp only [hk]
    refine (sm_const 1 64).trans ?_
    simp
  · obtain ⟨r1, r2⟩ := Hp.head_of hs hk
    rw [Hp.hb_body hp hk]
    unfold Hp.tk
    simp only [hk]
    rcases r2 with r2 | ⟨r2, _⟩
    · rw [r2, Hp.pb_of (h := h) (a := h.pa a) (by rw [r2]; decide)]
      refine (sm_zero 64).trans ?_
      simp [hheld]
    · rw [r2, Hp.pb_of (h := h) (a := h.pa a) (by rw [r2]; decide)]
      refine (sm_const 1 64).trans ?_
      simp
theorem usedF_sm (l : List Bk) (n : Nat) : (usedF l n : Int) = sm (fun x => one (cov l (x : Nat))) n := by
  induction n with
  | zero => rfl
  | succ n ih =>
    simp only [sm, usedF]
    rw [← ih]
    cases cov l n <;> simp [one]
theorem Hp.cn_t {h : Hp} {P : Nat} (hs : ∀ i : Nat, i < P → h.snd i = true) (k : Nat) (hk : k ≤ P) (f : Nat → Bool) (hf : ∀ a o : Nat, a < P → o < 64 → f (64 * a + o) = h.tk a o) :
    sm (fun x => one (f x)) (64 * k) = (h.cn k).t := by
  induction k with
  | zero => rfl
  | succ k ih =>
    rw [Nat.mul_succ, sm_split, ih (by omega), sm_congr (g := fun o => one (h.tk k o)) (fun o ho => by rw [hf k o (by omega) ho]), Hp.page_taken (hs k (by omega))]
    rfl
theorem Hp.sound_all {h : Hp} (hs : h.sound = true) : h.ok = true ∧ ∃ P : Nat, h.p = P ∧ h.p.toNat = P ∧ P ≤ 64 ∧ ∀ i : Nat, i < P → h.snd i = true := by
  unfold Hp.sound at hs
  rw [Bool.and_eq_true] at hs
  have hm : mayB h.p h.c h.m = true := by have := hs.1; unfold Hp.ok at this; rw [Bool.and_eq_true] at this; exact this.1
  have hb := mayB_iff.1 hm
  exact ⟨hs.1, h.p.toNat, by omega, rfl, by omega, Hp.sndT_get h hs.2⟩
/-- The blocks of a sound heap stand apart, one behind the other. -/
theorem Hp.bl_ok {h : Hp} (hs : h.sound = true) : okK (64 * h.p) 0 h.bl := by
  obtain ⟨ho, P, hP, hP', hP6, hsn⟩ := Hp.sound_all hs
  unfold Hp.bl
  rw [if_pos ho, hP']
  obtain ⟨k1, k2, k3, k4⟩ := Hp.blT_ok hP hsn P (Nat.le_refl _)
  exact k1.widen (by omega)
theorem Hp.cov_bl {h : Hp} (hs : h.sound = true) {a o : Nat} (ha : (a : Int) < h.p) (ho : o < 64) : cov h.bl ((64 * a + o : Nat) : Int) = h.tk a o := by
  obtain ⟨ho', P, hP, hP', hP6, hsn⟩ := Hp.sound_all hs
  unfold Hp.bl
  rw [if_pos ho', hP']
  exact Hp.cov_at hP hsn (by omega) ho
/-- The words of the blocks are those that are taken. -/
theorem Hp.bl_used {h : Hp} (hs : h.sound = true) : usedB h.bl = h.count.t := by
  have hok := Hp.bl_ok hs
  obtain ⟨ho, P, hP, hP', hP6, hsn⟩ := Hp.sound_all hs
  have h1 := used_all (W := 64 * P) (lo := 0) (by rw [show ((64 * P : Nat) : Int) = 64 * h.p by rw [hP]; omega]; exact hok) (Int.le_refl _)
  rw [← h1, usedF_sm]
  unfold Hp.count
  rw [if_pos ho, hP']
  exact Hp.cn_t hsn P (Nat.le_refl _) (fun x => cov h.bl (x : Nat)) (fun a o h1 h2 => Hp.cov_bl hs (by omega) h2)
/-- No word of a block is held. -/
theorem Hp.cov_free {h : Hp} (hs : h.sound = true) {x : Int} (h0 : 0 ≤ x) (h1 : x < 64 * h.p) (hc : cov h.bl x = true) : h.holdB x = false := by
  obtain ⟨ho, P, hP, hP', hP6, hsn⟩ := Hp.sound_all hs
  obtain ⟨a, ha⟩ : ∃ a : Nat, x / 64 = a := ⟨(x / 64).toNat, by omega⟩
  obtain ⟨o, ho2⟩ : ∃ o : Nat, x % 64 = o := ⟨(x % 64).toNat, by omega⟩
  have hx : x = ((64 * a + o : Nat) : Int) := by omega
  have hap : (a : Int) < h.p := by omega
  have ho3 : o < 64 := by omega
  have hsa := hsn a (by omega)
  have hp := Hp.snd_pb hsa
  rw [hx, Hp.cov_bl hs hap ho3] at hc
  rw [hx, Hp.holdB_at ho hap ho3]
  unfold Hp.tk at hc
  split at hc
  · rename_i h3
    rw [Hp.hb_far (by rw [h3]; decide), h3, hp]; rfl
  · split at hc
    · rename_i h3 h4
      have hc := beq_iff_eq.1 hc
      rw [Hp.hb_body hp h4, hc, h4, hp]; simp
    · split at hc
      · rename_i h3 h4 h2
        have hc := beq_iff_eq.1 hc
        rw [Hp.hb_far (by rw [h2]; decide), h2, hp, hc]; rfl
      · cases hc
/-- How many words are held. -/
theorem Hp.held_all {h : Hp} (hs : h.sound = true) : ∃ P : Nat, h.p = P ∧ sm (fun a => one (h.holdB (a : Nat))) (64 * P) = h.count.l + h.count.o := by
  obtain ⟨ho, P, hP, hP', hP6, hsn⟩ := Hp.sound_all hs
  refine ⟨P, hP, ?_⟩
  unfold Hp.count
  rw [if_pos ho, hP']
  exact Hp.all_held ho (by omega) hsn
end Go.Proofs.Ytfknaheijidhcaa
