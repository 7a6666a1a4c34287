/- A heap that is built page by page: plain. -/
import Derived.Test.YtfknaheijidhcaaAudT

namespace Go.Proofs.Ytfknaheijidhcaa

/-- What is counted, while it is built: free, taken, held. -/
structure Tr where
  f : Int
  t : Int
  d : Int
def Tr.zero : Tr := ⟨0, 0, 0⟩
def Tr.add (x y : Tr) : Tr := ⟨x.f + y.f, x.t + y.t, x.d + y.d⟩
def clsV (x : Int) : Int := x / 4 % 4
def skV (i : Int) : Int := 1 + i % 3
def saV (k i : Int) : Int := if i % 3 = 1 then 1 else k
def stW (lives : Bool) : Int := if lives = true then 1 else 2
def pgW (x : Int) : Int := if x % 4 = 0 then 0 else if x % 4 = 1 then 19 else if x % 4 = 2 then 17 else 2 + 16 * clsV x
def slW (x i : Int) : Int := if x % 4 = 3 ∧ i < slotsV (clsV x) then skV i + 16 * saV (clsV x) i else 0
def sT (z i : Int) : Tr := if i % 3 = 0 then ⟨z, 0, 0⟩ else if i % 3 = 2 then ⟨0, z, 0⟩ else ⟨0, 0, z⟩
def sS (z : Int) : Nat → Tr
  | 0 => Tr.zero
  | i + 1 => (sS z i).add (sT z i)
def pT (x : Int) : Tr := if x % 4 = 0 then ⟨64, 0, 0⟩ else if x % 4 = 1 then ⟨0, 64, 0⟩ else if x % 4 = 2 then ⟨0, 0, 64⟩ else sS (sizeV (clsV x)) (slotsV (clsV x)).toNat
def hT (ks : List Int) : Nat → Tr
  | 0 => Tr.zero
  | k + 1 => (hT ks k).add (pT (ks.getD k 0))
/-- The words behind k pages. -/
def mkW (lives : Bool) (ks : List Int) (k j : Nat) : Int :=
  if j = 0 then 0 else if j = 1 then stW lives
  else if j < 2 + ks.length then (if j - 2 < k then pgW (ks.getD (j - 2) 0) else 0)
  else if (j - 2 - ks.length) / 16 < k then slW (ks.getD ((j - 2 - ks.length) / 16) 0) ((j - 2 - ks.length) % 16 : Nat) else 0
/-- Are these the words behind k pages? -/
def Mk (lives : Bool) (ks : List Int) (k : Nat) (xs : List Int) : Prop := xs.length = 2 + 17 * ks.length ∧ ∀ j, j < xs.length → xs.getD j 0 = mkW lives ks k j
/-- The same, and the next page's word, and its first q slots. -/
def Mq (lives : Bool) (ks : List Int) (k q : Nat) (xs : List Int) : Prop := xs.length = 2 + 17 * ks.length ∧ ∀ j, j < xs.length → xs.getD j 0 = if j = 2 + k then pgW (ks.getD k 0) else if 2 + ks.length + 16 * k ≤ j ∧ j < 2 + ks.length + 16 * k + q then slW (ks.getD k 0) ((j - (2 + ks.length + 16 * k) : Nat) : Int) else mkW lives ks k j
theorem getD_set (xs : List Int) (i j : Nat) (v : Int) (hi : i < xs.length) : (xs.set i v).getD j 0 = if j = i then v else xs.getD j 0 := by
  rw [List.getD_eq_getElem?_getD, List.getD_eq_getElem?_getD, List.getElem?_set]
  by_cases h : i = j
  · subst h; rw [if_pos rfl, if_pos rfl, if_pos hi]; rfl
  · rw [if_neg h, if_neg (by omega)]
theorem Mk.start (ks : List Int) (lives : Bool) : Mk lives ks 0 ((List.replicate (2 + 17 * ks.length) 0).set 1 (stW lives)) := by
  refine ⟨by simp, fun j hj => ?_⟩
  rw [getD_set _ _ _ _ (by simp; omega)]
  unfold mkW
  simp only [Nat.not_lt_zero, if_false]
  by_cases h1 : j = 1
  · subst h1; simp
  · rw [if_neg h1, if_neg h1]
    have : (List.replicate (2 + 17 * ks.length) (0 : Int)).getD j 0 = 0 := by
      rw [List.getD_eq_getElem?_getD, List.getElem?_replicate]; split <;> rfl
    rw [this]; simp
theorem Mk.page {lives : Bool} {ks xs : List Int} {k : Nat} (h : Mk lives ks k xs) (hk : k < ks.length) : Mq lives ks k 0 (xs.set (2 + k) (pgW (ks.getD k 0))) := by
  refine ⟨by rw [List.length_set]; exact h.1, fun j hj => ?_⟩
  rw [List.length_set] at hj
  rw [getD_set _ _ _ _ (by rw [h.1]; omega)]
  split
  · rfl
  · rw [if_neg (by omega)]; exact h.2 j hj
theorem Mq.slot {lives : Bool} {ks xs : List Int} {k q : Nat} (h : Mq lives ks k q xs) (hk : k < ks.length) (hq : q < 16) : Mq lives ks k (q + 1) (xs.set (2 + ks.length + 16 * k + q) (slW (ks.getD k 0) q)) := by
  have hl := h.1
  refine ⟨by rw [List.length_set]; exact h.1, fun j hj => ?_⟩
  rw [List.length_set] at hj
  rw [getD_set _ _ _ _ (by omega)]
  by_cases h1 : j = 2 + ks.length + 16 * k + q
  · subst h1
    rw [if_pos rfl, if_neg (by omega), if_pos (by omega)]
    congr 1; omega
  · rw [if_neg h1, h.2 j hj]
    by_cases h2 : j = 2 + k
    · rw [if_pos h2, if_pos h2]
    · rw [if_neg h2, if_neg h2]
      by_cases h3 : 2 + ks.length + 16 * k ≤ j ∧ j < 2 + ks.length + 16 * k + q
      · rw [if_pos h3, if_pos (by omega)]
      · rw [if_neg h3, if_neg (by omega)]
theorem Mq.done {lives : Bool} {ks xs : List Int} {k q : Nat} (h : Mq lives ks k q xs) (hk : k < ks.length) (hq : ∀ i : Nat, q ≤ i → i < 16 → slW (ks.getD k 0) i = 0) (hq2 : q ≤ 16) : Mk lives ks (k + 1) xs := by
  refine ⟨h.1, fun j hj => ?_⟩
  have hl := h.1
  rw [h.2 j hj]
  unfold mkW
  by_cases h0 : j = 0
  · subst h0; rw [if_neg (by omega), if_neg (by omega), if_pos rfl, if_pos rfl]
  · by_cases h1 : j = 1
    · subst h1; rw [if_neg (by omega), if_neg (by omega)]; rfl
    · by_cases h2 : j < 2 + ks.length
      · by_cases h3 : j = 2 + k
        · subst h3
          rw [if_pos rfl, if_neg h0, if_neg h1, if_pos h2, if_pos (by omega)]
          congr 2; omega
        · rw [if_neg h3, if_neg (by omega), if_neg h0, if_neg h1, if_pos h2, if_neg h0, if_neg h1, if_pos h2]
          by_cases h4 : j - 2 < k
          · rw [if_pos h4, if_pos (by omega)]
          · rw [if_neg h4, if_neg (by omega)]
      · rw [if_neg (by omega), if_neg h0, if_neg h1, if_neg h2, if_neg h0, if_neg h1, if_neg h2]
        obtain ⟨a, i, hi, rfl⟩ : ∃ a i : Nat, i < 16 ∧ j = 2 + ks.length + 16 * a + i := ⟨(j - 2 - ks.length) / 16, (j - 2 - ks.length) % 16, by omega, by omega⟩
        have e1 : (2 + ks.length + 16 * a + i - 2 - ks.length) / 16 = a := by omega
        have e2 : (2 + ks.length + 16 * a + i - 2 - ks.length) % 16 = i := by omega
        rw [e1, e2]
        by_cases h5 : a < k
        · rw [if_neg (by omega), if_pos h5, if_pos (by omega)]
        · rw [if_neg h5]
          by_cases h6 : a = k
          · subst h6
            rw [if_pos (by omega : a < a + 1)]
            by_cases h7 : i < q
            · rw [if_pos (by omega)]
              congr 1; omega
            · rw [if_neg (by omega), hq i (by omega) hi]
          · rw [if_neg (by omega), if_neg (by omega)]
theorem Mk.skip {lives : Bool} {ks xs : List Int} {k : Nat} (h : Mk lives ks k xs) (hk : k < ks.length) (hx : pgW (ks.getD k 0) = 0) : Mq lives ks k 0 xs := by
  refine ⟨h.1, fun j hj => ?_⟩
  by_cases h1 : j = 2 + k
  · rw [if_pos h1, hx, h.2 j hj]
    unfold mkW
    rw [if_neg (by omega), if_neg (by omega)]
    by_cases h2 : j < 2 + ks.length
    · rw [if_pos h2, if_neg (by omega)]
    · rw [if_neg h2, if_neg (by omega)]
  · rw [if_neg h1, if_neg (by omega)]; exact h.2 j hj
theorem slW_none {x i : Int} (h : x % 4 ≠ 3 ∨ slotsV (clsV x) ≤ i) : slW x i = 0 := by
  unfold slW; rw [if_neg (by omega)]
section

variable {lives : Bool} {ks xs : List Int} (hm : Mk lives ks ks.length xs) (hn : 1 ≤ ks.length ∧ ks.length ≤ 40) (hks : ∀ x ∈ ks, 0 ≤ x ∧ x ≤ 255)

include hm hn

abbrev hpM (ks xs : List Int) : Hp := ⟨ks.length, 2, 0, xs⟩
omit hm in
theorem mk_may : mayB (ks.length : Int) 2 0 = true := mayB_iff.2 (by omega)
theorem mk_ok : (hpM ks xs).ok = true := by
  have := mk_may hn
  show (mayB (ks.length : Int) 2 0 && decide (totalV (ks.length : Int) 2 0 ≤ (xs.length : Int))) = true
  unfold totalV
  rw [this, if_pos rfl, hm.1, Bool.true_and, decide_eq_true (by omega)]
omit hn in
theorem mk_pw (a : Nat) (ha : a < ks.length) : (hpM ks xs).pw a = pgW (ks.getD a 0) := by
  show xs.getD ((2 : Int) + a).toNat 0 = _
  rw [show ((2 : Int) + a).toNat = 2 + a by omega, hm.2 _ (by rw [hm.1]; omega)]
  unfold mkW
  rw [if_neg (by omega), if_neg (by omega), if_pos (by omega), if_pos (by omega)]
  congr 2; omega
theorem mk_sw (a : Nat) (i : Nat) (ha : a < ks.length) (hi : i < 16) : (hpM ks xs).sw a i = slW (ks.getD a 0) i := by
  show xs.getD ((2 : Int) + ks.length + a * 16 + i).toNat 0 = _
  rw [show ((2 : Int) + ks.length + a * 16 + i).toNat = 2 + ks.length + 16 * a + i by omega, hm.2 _ (by rw [hm.1]; omega)]
  unfold mkW
  have e1 : (2 + ks.length + 16 * a + i - 2 - ks.length) / 16 = a := by omega
  have e2 : (2 + ks.length + 16 * a + i - 2 - ks.length) % 16 = i := by omega
  rw [if_neg (by omega), if_neg (by omega), if_neg (by omega), e1, e2, if_pos ha]
theorem mk_lv : (hpM ks xs).lv 1 = lives := by
  show (mayB (ks.length : Int) 2 0 && wi 1 0 (2 - 1) && liveB (xs.getD (1 : Int).toNat 0)) = lives
  rw [mk_may hn, show (1 : Int).toNat = 1 from rfl, hm.2 1 (by rw [hm.1]; omega)]
  show (true && true && liveB (stW lives)) = lives
  cases lives <;> decide
end

theorem cls_bd (x : Int) : 0 ≤ clsV x ∧ clsV x ≤ 3 := by unfold clsV; omega
theorem four (x : Int) : x % 4 = 0 ∨ x % 4 = 1 ∨ x % 4 = 2 ∨ x % 4 = 3 := by omega
theorem cls4 (x : Int) : clsV x = 0 ∨ clsV x = 1 ∨ clsV x = 2 ∨ clsV x = 3 := by have := cls_bd x; omega
/-- A page's word as it is read. -/
theorem mk_page {p a x : Int} (hp : 1 ≤ p ∧ p ≤ 40) (ha : 0 ≤ a ∧ a < p) : readPageB p 2 0 a (pgW x) = true ∧ kindV (pgW x) = (if x % 4 = 0 then 0 else if x % 4 = 1 then 3 else if x % 4 = 2 then 1 else 2) ∧ partV (pgW x) 0 = (if x % 4 = 0 then 0 else if x % 4 = 1 then 1 else if x % 4 = 2 then 1 else clsV x) := by
  have hix : decide (0 ≤ pageIx p 2 0 a) = true := by
    unfold pageIx
    rw [if_pos ⟨mayB_iff.2 (by omega), wi_iff.2 (by omega)⟩]
    exact decide_eq_true (by omega)
  have key : ∀ w : Int, pageV (kindV w) (partV w 0) (partV w 1) = w → fitsB p 2 a (kindV w) (partV w 0) (partV w 1) = true → readPageB p 2 0 a w = true := fun w h1 h2 => by
    unfold readPageB
    rw [h1, hix, h2]; simp
  have fit : ∀ w : Int, (kindV w = 0 ∨ kindV w = 1 ∧ partV w 0 = 1 ∨ kindV w = 2 ∧ partV w 0 < 4 ∧ partV w 1 = 0 ∨ kindV w = 3 ∧ partV w 0 = 1) → fitsB p 2 a (kindV w) (partV w 0) (partV w 1) = true := fun w hw => by
    unfold fitsB
    rcases hw with e | ⟨e, e1⟩ | ⟨e, e1, e2⟩ | ⟨e, e1⟩
    · rw [e]; simp
    · rw [e, e1]; simp
    · rw [e, e2]; simp [e1]
    · rw [e, e1]; simp; omega
  rcases four x with h | h | h | h
  · have e : pgW x = 0 := by unfold pgW; rw [if_pos h]
    rw [e, h]
    exact ⟨key 0 (by decide) (fit 0 (by decide)), by decide, by rw [if_pos rfl]; decide⟩
  · have e : pgW x = 19 := by unfold pgW; rw [if_neg (by omega), if_pos h]
    rw [e, h]
    exact ⟨key 19 (by decide) (fit 19 (by decide)), by decide, by rw [if_neg (by decide), if_pos rfl]; decide⟩
  · have e : pgW x = 17 := by unfold pgW; rw [if_neg (by omega), if_neg (by omega), if_pos h]
    rw [e, h]
    exact ⟨key 17 (by decide) (fit 17 (by decide)), by decide, by rw [if_neg (by decide), if_neg (by decide), if_pos rfl]; decide⟩
  · have e : pgW x = 2 + 16 * clsV x := by unfold pgW; rw [if_neg (by omega), if_neg (by omega), if_neg (by omega)]
    rw [e, h]
    rcases cls4 x with e | e | e | e <;> rw [e] <;> exact ⟨key _ (by decide) (fit _ (by decide)), by decide, by decide⟩
/-- A slot's word as it is read. -/
theorem mk_slot {x i : Int} (h : x % 4 = 3 ∧ i < slotsV (clsV x)) : readSlotB (slW x i) = true ∧ kindV (slW x i) = skV i ∧ partV (slW x i) 0 = saV (clsV x) i := by
  unfold slW
  rw [if_pos h]
  unfold skV saV
  have h3 : i % 3 = 0 ∨ i % 3 = 1 ∨ i % 3 = 2 := by omega
  rcases cls4 x with e | e | e | e <;> rcases h3 with h3 | h3 | h3 <;> rw [e, h3] <;> decide
/-- What is counted, by whether the holder lives. -/
def cnT (lives : Bool) (x : Tr) : Cn := if lives = true then ⟨x.f, x.t, x.d, 0⟩ else ⟨x.f, x.t, 0, x.d⟩
theorem cnT_add (lives : Bool) (x y : Tr) : cnT lives (x.add y) = (cnT lives x).add (cnT lives y) := by
  unfold cnT Tr.add Cn.add
  cases lives <;> simp
theorem Hp.supT_all {h : Hp} {a k : Int} {n : Nat} (hs : ∀ i : Nat, i < n → h.okS a k i = true) : h.supT a k n = true := by
  induction n with
  | zero => rfl
  | succ n ih =>
    show (h.supT a k n && h.okS a k n) = true
    rw [ih (fun i hi => hs i (by omega)), hs n (by omega)]; rfl
theorem Hp.bareT_all {h : Hp} {a : Int} {n : Nat} (hs : ∀ i : Nat, i < n → h.sw a i = 0) : h.bareT a n = true := by
  induction n with
  | zero => rfl
  | succ n ih =>
    show (h.bareT a n && h.sw a n == 0) = true
    rw [ih (fun i hi => hs i (by omega)), hs n (by omega)]; rfl
theorem Hp.sndT_all {h : Hp} {n : Nat} (hs : ∀ i : Nat, i < n → h.snd i = true) : h.sndT n = true := by
  induction n with
  | zero => rfl
  | succ n ih =>
    show (h.sndT n && h.snd n) = true
    rw [ih (fun i hi => hs i (by omega)), hs n (by omega)]; rfl
section

variable {lives : Bool} {ks xs : List Int} (hm : Mk lives ks ks.length xs) (hn : 1 ≤ ks.length ∧ ks.length ≤ 40)

include hm hn

theorem mk_read (a : Nat) (ha : a < ks.length) : (hpM ks xs).pb a = true ∧ (hpM ks xs).pk a = (if ks.getD a 0 % 4 = 0 then 0 else if ks.getD a 0 % 4 = 1 then 3 else if ks.getD a 0 % 4 = 2 then 1 else 2) ∧ (hpM ks xs).pa a = (if ks.getD a 0 % 4 = 0 then 0 else if ks.getD a 0 % 4 = 1 then 1 else if ks.getD a 0 % 4 = 2 then 1 else clsV (ks.getD a 0)) := by
  have hp := mk_page (p := ks.length) (a := a) (x := ks.getD a 0) (by omega) (by omega)
  have hw := mk_pw hm a ha
  have hb : (hpM ks xs).pb a = true := by
    show readPageB (ks.length : Int) 2 0 a ((hpM ks xs).pw a) = true
    rw [hw]; exact hp.1
  refine ⟨hb, ?_, ?_⟩
  · unfold Hp.pk; rw [if_pos hb, hw]; exact hp.2.1
  · unfold Hp.pa; rw [if_pos hb, hw]; exact hp.2.2
theorem mk_sread (a i : Nat) (ha : a < ks.length) (hx : ks.getD a 0 % 4 = 3) (hi : (i : Int) < slotsV (clsV (ks.getD a 0))) : (hpM ks xs).sk a i = skV i ∧ (hpM ks xs).sa a i = saV (clsV (ks.getD a 0)) i := by
  have hb := slots_bd (clsV (ks.getD a 0))
  have hw := mk_sw hm hn a i ha (by omega)
  obtain ⟨h1, h2, h3⟩ := mk_slot (x := ks.getD a 0) (i := i) ⟨hx, hi⟩
  unfold Hp.sk Hp.sa
  rw [hw, if_pos h1, if_pos h1]
  exact ⟨h2, h3⟩
theorem mk_snd (a : Nat) (ha : a < ks.length) : (hpM ks xs).snd a = true := by
  obtain ⟨hb, hk, hA⟩ := mk_read hm hn a ha
  have hsw := fun i (hi : i < 16) => mk_sw hm hn a i ha hi
  have hsr := fun i hx hi => mk_sread hm hn a i ha hx hi
  have hbare : ks.getD a 0 % 4 ≠ 3 → (hpM ks xs).bare a = true := fun hx => Hp.bareT_all fun i hi => by rw [hsw i hi]; exact slW_none (.inl hx)
  unfold Hp.snd
  rw [if_pos hb, hk, hA]
  rcases four (ks.getD a 0) with h | h | h | h
  · simp only [h]; exact hbare (by omega)
  · simp only [h]
    show ((hpM ks xs).bare a && (hpM ks xs).rowT a 0) = true
    rw [hbare (by omega)]; rfl
  · simp only [h]; rfl
  · simp only [h]
    show (hpM ks xs).supT a (clsV (ks.getD a 0)) 16 = true
    refine Hp.supT_all fun i hi => ?_
    unfold Hp.okS
    by_cases hq : (i : Int) < slotsV (clsV (ks.getD a 0))
    · rw [if_pos hq, (hsr i h hq).1, (hsr i h hq).2]
      unfold skV saV
      have h3 : (i : Int) % 3 = 0 ∨ (i : Int) % 3 = 1 ∨ (i : Int) % 3 = 2 := by omega
      rcases h3 with h3 | h3 | h3 <;> rw [h3] <;> simp
    · rw [if_neg hq, hsw i hi, slW_none (.inr (by omega))]; rfl
theorem mk_sound : (hpM ks xs).sound = true := by
  unfold Hp.sound
  rw [mk_ok hm hn, Bool.true_and]
  exact Hp.sndT_all fun i hi => mk_snd hm hn i (by have : ((hpM ks xs).p).toNat = ks.length := Int.toNat_natCast _; omega)
theorem mk_slS (a : Nat) (ha : a < ks.length) (hx : ks.getD a 0 % 4 = 3) (z : Int) (q : Nat) (hq : (q : Int) ≤ slotsV (clsV (ks.getD a 0))) : (hpM ks xs).slS a z q = cnT lives (sS z q) := by
  induction q with
  | zero => unfold cnT; cases lives <;> rfl
  | succ q ih =>
    show ((hpM ks xs).slS a z q).add ((hpM ks xs).slC a z q) = cnT lives ((sS z q).add (sT z q))
    rw [cnT_add, ih (by omega)]
    congr 1
    obtain ⟨h1, h2⟩ := mk_sread hm hn a q ha hx (by omega)
    have hl := mk_lv hm hn
    unfold Hp.slC sT
    rw [h1, h2]
    unfold skV saV
    have h3 : (q : Int) % 3 = 0 ∨ (q : Int) % 3 = 1 ∨ (q : Int) % 3 = 2 := by omega
    rcases h3 with h3 | h3 | h3 <;> rw [h3]
    · unfold cnT; cases lives <;> simp
    · simp only [show ((1 : Int) + 1) = 2 from rfl, if_true, hl, show ((2 : Int) == 2) = true from rfl, Bool.true_and]
      unfold cnT heldC; cases lives <;> simp
    · unfold cnT; cases lives <;> simp
theorem mk_pgC (a : Nat) (ha : a < ks.length) : (hpM ks xs).pgC a = cnT lives (pT (ks.getD a 0)) := by
  obtain ⟨hb, hk, hA⟩ := mk_read hm hn a ha
  have hl := mk_lv hm hn
  have hk4 : (hpM ks xs).pk a ≠ 4 := by rw [hk]; split <;> (try split) <;> (try split) <;> decide
  have hhb := Hp.hb_far hk4
  have hhd : (hpM ks xs).hd a = a := by
    unfold Hp.hd
    rw [if_neg]
    simp only [Bool.and_eq_true, beq_iff_eq, not_and]
    exact fun _ => hk4
  unfold Hp.pgC pT
  have hss := mk_slS hm hn a ha
  rcases four (ks.getD a 0) with h | h | h | h
  · simp only [h] at hk hA ⊢
    rw [hhb, hk, hb]
    unfold cnT; cases lives <;> simp
  · simp only [h] at hk hA ⊢
    rw [hhb, hk, hb]
    unfold cnT; cases lives <;> simp
  · simp only [h] at hk hA ⊢
    have hhc : (hpM ks xs).hc a = 1 := by
      unfold Hp.hc
      rw [hhb, hb, hk, hhd, hA]; simp
    rw [hhb, hk, hb, hhc, hl]
    unfold cnT heldC; cases lives <;> simp
  · have hs := hss h (sizeV (clsV (ks.getD a 0))) (slotsV (clsV (ks.getD a 0))).toNat (by have := slots_bd (clsV (ks.getD a 0)); omega)
    simp only [h] at hk hA ⊢
    rw [hhb, hk, hb, hA]
    simp only [show ((2 : Int) == 1) = false from rfl, Bool.and_false, Bool.not_true, Bool.or_false, Bool.false_eq_true, if_false, if_true, show ¬ ((2 : Int) = 0) by decide, show ¬ ((3 : Int) = 0) by decide, show ¬ ((3 : Int) = 1) by decide, show ¬ ((3 : Int) = 2) by decide] at hs ⊢
    exact hs
theorem mk_cn (k : Nat) (hk : k ≤ ks.length) : (hpM ks xs).cn k = cnT lives (hT ks k) := by
  induction k with
  | zero => unfold cnT; cases lives <;> rfl
  | succ k ih =>
    show ((hpM ks xs).cn k).add ((hpM ks xs).pgC k) = cnT lives ((hT ks k).add (pT (ks.getD k 0)))
    rw [cnT_add, ih (by omega), mk_pgC hm hn k (by omega)]
/-- What is counted in the end. -/
theorem mk_count : (hpM ks xs).count = cnT lives (hT ks ks.length) := by
  unfold Hp.count
  rw [if_pos (mk_ok hm hn)]
  have : ((hpM ks xs).p).toNat = ks.length := Int.toNat_natCast _
  rw [this]
  exact mk_cn hm hn _ (Nat.le_refl _)
end

theorem sT_bd (z i : Int) (hz : 0 ≤ z ∧ z ≤ 64) : (0 ≤ (sT z i).f ∧ (sT z i).f ≤ 64) ∧ (0 ≤ (sT z i).t ∧ (sT z i).t ≤ 64) ∧ 0 ≤ (sT z i).d ∧ (sT z i).d ≤ 64 := by
  unfold sT; split <;> (try split) <;> simp <;> omega
theorem sS_bd (z : Int) (hz : 0 ≤ z ∧ z ≤ 64) (q : Nat) : (0 ≤ (sS z q).f ∧ (sS z q).f ≤ 64 * q) ∧ (0 ≤ (sS z q).t ∧ (sS z q).t ≤ 64 * q) ∧ 0 ≤ (sS z q).d ∧ (sS z q).d ≤ 64 * q := by
  induction q with
  | zero => simp [sS, Tr.zero]
  | succ q ih =>
    have := sT_bd z q hz
    simp only [sS, Tr.add]
    omega
theorem pT_bd (x : Int) : (0 ≤ (pT x).f ∧ (pT x).f ≤ 1024) ∧ (0 ≤ (pT x).t ∧ (pT x).t ≤ 1024) ∧ 0 ≤ (pT x).d ∧ (pT x).d ≤ 1024 := by
  unfold pT
  have hz := size_bd (clsV x)
  have hb := slots_bd (clsV x)
  have := sS_bd (sizeV (clsV x)) (by omega) (slotsV (clsV x)).toNat
  split
  · simp
  · split
    · simp
    · split
      · simp
      · omega
theorem hT_bd (ks : List Int) (k : Nat) : (0 ≤ (hT ks k).f ∧ (hT ks k).f ≤ 1024 * k) ∧ (0 ≤ (hT ks k).t ∧ (hT ks k).t ≤ 1024 * k) ∧ 0 ≤ (hT ks k).d ∧ (hT ks k).d ≤ 1024 * k := by
  induction k with
  | zero => simp [hT, Tr.zero]
  | succ k ih =>
    have := pT_bd (ks.getD k 0)
    simp only [hT, Tr.add]
    omega
end Go.Proofs.Ytfknaheijidhcaa
