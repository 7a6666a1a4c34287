/- What is printed is read as it was: plain. -/
import Derived.Test.YtkeiehgojclecaaDoorScrT

import Derived.Test.YtkeiehgojclecaaDoorRfD

namespace Go.Proofs.YtkeiehgojclecaaDoor

open Go.RowKit

theorem dec_bytes (u : Nat) : ∀ b ∈ Lib.decDigits u, 48 ≤ b.toNat ∧ b.toNat ≤ 57 := by
  induction u using Nat.strongRecOn with
  | _ u ih =>
    rw [Lib.decDigits]
    split
    · rename_i h
      intro b hb
      simp only [List.mem_singleton] at hb
      subst hb
      rw [toNat48 h]; omega
    · rename_i h
      intro b hb
      rw [List.mem_append, List.mem_singleton] at hb
      rcases hb with hb | hb
      · exact ih (u / 10) (by omega) b hb
      · subst hb
        rw [toNat48 (Nat.mod_lt _ (by decide))]
        have := Nat.mod_lt u (by decide : 10 > 0)
        omega
/-- Neither a blank nor a byte 10. -/
def ink (l : List UInt8) : Prop := ∀ b ∈ l, b ≠ 32 ∧ b ≠ 10
theorem ink_of {b : UInt8} (h : 33 ≤ b.toNat) : b ≠ 32 ∧ b ≠ 10 := by
  constructor
  · intro e; rw [e] at h; exact absurd h (by decide)
  · intro e; rw [e] at h; exact absurd h (by decide)
theorem ink_itoa (z : Int) : ink (Lib.itoa z) := by
  unfold Lib.itoa
  intro b hb
  split at hb
  · rw [List.mem_cons] at hb
    rcases hb with rfl | hb
    · exact ⟨by decide, by decide⟩
    · exact ink_of (by have := dec_bytes _ b hb; omega)
  · exact ink_of (by have := dec_bytes _ b hb; omega)
theorem ink_hexd {d : Nat} (h : d < 16) : 33 ≤ (hexd d).toNat := by
  rcases hexd_cases h with ⟨h, _⟩ | ⟨h, _⟩ <;> omega
theorem ink_hexL (u : Nat) : ink (hexL u) := by
  induction u using Nat.strongRecOn with
  | _ u ih =>
    rw [hex_rec]
    intro b hb
    split at hb
    · rename_i h
      simp only [List.mem_singleton] at hb
      subst hb
      exact ink_of (ink_hexd h)
    · rw [List.mem_append, List.mem_singleton] at hb
      rcases hb with hb | hb
      · exact ih (u / 16) (by omega) b hb
      · subst hb
        exact ink_of (ink_hexd (Nat.mod_lt _ (by decide)))
theorem ink_wr (x : Nat) : ink (wrL x) := by
  intro b hb
  unfold wrL at hb
  split at hb
  · simp only [List.mem_cons, List.not_mem_nil, or_false] at hb
    rcases hb with rfl | rfl | rfl <;> exact ⟨by decide, by decide⟩
  · unfold pad16 at hb
    rw [List.mem_append] at hb
    rcases hb with hb | hb
    · rw [List.eq_of_mem_replicate hb]; exact ⟨by decide, by decide⟩
    · exact ink_hexL x b hb
theorem spl_none {c : UInt8} {l : List UInt8} (h : ∀ b ∈ l, b ≠ c) : spl c l = [l] := by
  induction l with
  | nil => rfl
  | cons b l ih =>
    unfold spl
    rw [if_neg (h b (by simp)), ih (fun d hd => h d (by simp [hd]))]
theorem spl_cut {c : UInt8} {l : List UInt8} (h : ∀ b ∈ l, b ≠ c) (t : List UInt8) : spl c (l ++ c :: t) = l :: spl c t := by
  induction l with
  | nil => simp [spl]
  | cons b l ih =>
    rw [List.cons_append, spl, if_neg (h b (by simp)), ih (fun d hd => h d (by simp [hd]))]
theorem spl_words (p : List UInt8) (hp : ink p) (zs : List Int) : spl 32 (wordsL p zs) = p :: zs.map Lib.itoa := by
  induction zs generalizing p with
  | nil => simp only [wordsL, List.flatMap_nil, List.append_nil, List.map_nil]; exact spl_none fun b hb => (hp b hb).1
  | cons z zs ih =>
    have e : wordsL p (z :: zs) = p ++ 32 :: wordsL (Lib.itoa z) zs := by simp [wordsL]
    rw [e, spl_cut (fun b hb => (hp b hb).1), ih _ (ink_itoa z)]
    rfl
theorem words_no10 (p : List UInt8) (hp : ink p) (zs : List Int) : ∀ b ∈ wordsL p zs, b ≠ 10 := by
  intro b hb
  unfold wordsL at hb
  rw [List.mem_append, List.mem_flatMap] at hb
  rcases hb with hb | ⟨z, _, hb⟩
  · exact (hp b hb).2
  · rw [List.mem_cons] at hb
    rcases hb with rfl | hb
    · decide
    · exact (ink_itoa z b hb).2
theorem numO_itoa {z : Int} (h : i64 z) : numO (Lib.itoa z) = some z := (numO_iff _ _).2 ⟨rfl, h.1, h.2⟩
theorem numsO_itoa {zs : List Int} (h : ∀ z ∈ zs, i64 z) : numsO (zs.map Lib.itoa) = some zs := by
  induction zs with
  | nil => rfl
  | cons z zs ih =>
    rw [List.map_cons, numsO, numO_itoa (h z (by simp)), ih (fun y hy => h y (by simp [hy]))]
    rfl
/-- What a choice's line has of it. -/
def Ch.norm (c : Ch) : Ch :=
  if c.kind = 1 then ⟨1, c.client, 0, 0, 0, if Fl.nan c.bias = true then nanV else c.bias⟩
  else if c.kind = 2 then ⟨2, c.client, c.ok, c.oa, c.on, 0⟩
  else ⟨c.kind, c.client, 0, 0, 0, 0⟩
theorem rdO_wrL {x : Nat} (h : x < 18446744073709551616) : rdO (wrL x) = some (if Fl.nan x = true then nanV else x) := by
  rw [rdO_iff]
  unfold wrL
  by_cases hn : Fl.nan x = true
  · rw [if_pos hn, if_pos hn]; exact .inl ⟨rfl, rfl⟩
  · rw [if_neg hn, if_neg hn]; exact .inr ⟨h, by simpa using hn, rfl⟩
theorem ink_ws : ink [115, 116, 97, 114, 116] ∧ ink [109, 97, 108, 108, 111, 99] ∧ ink [102, 114, 101, 101] ∧ ink [114, 101, 97, 108, 108, 111, 99] ∧ ink [97, 100, 111, 112, 116] ∧ ink [115, 116, 101, 112] ∧ ink [107, 105, 108, 108] ∧ ink [104, 101, 97, 112] := by
  refine ⟨?_, ?_, ?_, ?_, ?_, ?_, ?_, ?_⟩ <;> (unfold ink; decide)
theorem i64_two {a b : Int} (ha : i64 a) (hb : i64 b) : ∀ z ∈ [a, b], i64 z := by
  intro z hz; simp at hz; rcases hz with rfl | rfl <;> assumption
theorem i64_three {a b c : Int} (ha : i64 a) (hb : i64 b) (hc : i64 c) : ∀ z ∈ [a, b, c], i64 z := by
  intro z hz; simp at hz; rcases hz with rfl | rfl | rfl <;> assumption
theorem line_show {c : Ch} (hc : c.wf) {s : List UInt8} (h : showL c = some s) : lineO s = some c.norm ∧ ∀ b ∈ s, b ≠ 10 := by
  obtain ⟨k1, k2, k3, k4, k5, k6, k7, k8⟩ := ink_ws
  obtain ⟨_, w2, _, w4, w5, w6⟩ := hc
  obtain ⟨c1, c2, c3, c4, c5, c6⟩ := c
  dsimp only at w2 w4 w5 w6
  unfold showL at h
  dsimp only at h
  by_cases e1 : c1 = 1
  · rw [if_pos e1] at h
    injection h with h
    have e : s = [115, 116, 97, 114, 116] ++ 32 :: (Lib.itoa c2 ++ 32 :: wrL c6) := by rw [← h]; simp [wordsL]
    constructor
    · rw [e, lineO, spl_cut (fun b hb => (k1 b hb).1), spl_cut (fun b hb => (ink_itoa c2 b hb).1), spl_none (fun b hb => (ink_wr c6 b hb).1)]
      simp only [wordsO, if_true, startO, numO_itoa w2, rdO_wrL w6, Option.bind_some, Option.map_some, Ch.norm, if_pos e1]
    · intro b hb
      rw [e, List.mem_append] at hb
      rcases hb with hb | hb
      · exact (k1 b hb).2
      rw [List.mem_cons] at hb
      rcases hb with rfl | hb
      · decide
      rw [List.mem_append] at hb
      rcases hb with hb | hb
      · exact (ink_itoa c2 b hb).2
      rw [List.mem_cons] at hb
      rcases hb with rfl | hb
      · decide
      · exact (ink_wr c6 b hb).2
  rw [if_neg e1] at h
  by_cases e2 : c1 = 2
  · rw [if_pos e2] at h
    unfold askL at h
    dsimp only at h
    have en : (⟨c1, c2, c3, c4, c5, c6⟩ : Ch).norm = ⟨2, c2, c3, c4, c5, 0⟩ := by unfold Ch.norm; dsimp only; rw [if_neg e1, if_pos e2]
    rw [en]
    by_cases f1 : c3 = 1
    · rw [if_pos f1] at h
      split at h
      · rename_i f
        injection h with h
        subst h
        refine ⟨?_, words_no10 _ k2 _⟩
        rw [lineO, spl_words _ k2]
        have hz := numsO_itoa (i64_two w2 w5)
        simp only [List.map_cons, List.map_nil] at hz
        simp [wordsO, opO, hz, opV, f, f1]
      · cases h
    rw [if_neg f1] at h
    by_cases f2 : c3 = 2
    · rw [if_pos f2] at h
      split at h
      · rename_i f
        injection h with h
        subst h
        refine ⟨?_, words_no10 _ k3 _⟩
        rw [lineO, spl_words _ k3]
        have hz := numsO_itoa (i64_two w2 w4)
        simp only [List.map_cons, List.map_nil] at hz
        simp [wordsO, opO, hz, opV, f, f2]
      · cases h
    rw [if_neg f2] at h
    by_cases f3 : c3 = 3
    · rw [if_pos f3] at h
      injection h with h
      subst h
      refine ⟨?_, words_no10 _ k4 _⟩
      rw [lineO, spl_words _ k4]
      have hz := numsO_itoa (i64_three w2 w4 w5)
      simp only [List.map_cons, List.map_nil] at hz
      simp [wordsO, opO, hz, opV, f3]
    rw [if_neg f3] at h
    by_cases f4 : c3 = 4
    · rw [if_pos f4] at h
      split at h
      · rename_i f
        injection h with h
        subst h
        refine ⟨?_, words_no10 _ k5 _⟩
        rw [lineO, spl_words _ k5]
        have hz := numsO_itoa (i64_two w2 w4)
        simp only [List.map_cons, List.map_nil] at hz
        simp [wordsO, opO, hz, opV, f, f4]
      · cases h
    rw [if_neg f4] at h
    cases h
  rw [if_neg e2] at h
  have en : (⟨c1, c2, c3, c4, c5, c6⟩ : Ch).norm = ⟨c1, c2, 0, 0, 0, 0⟩ := by unfold Ch.norm; dsimp only; rw [if_neg e1, if_neg e2]
  have h1 : ∀ z ∈ [c2], i64 z := by intro z hz; simp at hz; subst hz; exact w2
  rw [en]
  by_cases e3 : c1 = 3
  · rw [if_pos e3] at h
    injection h with h
    subst h
    refine ⟨?_, words_no10 _ k6 _⟩
    rw [lineO, spl_words _ k6]
    have := numsO_itoa h1
    simp only [List.map_cons, List.map_nil] at this
    simp [wordsO, oneO, this, e3]
  rw [if_neg e3] at h
  by_cases e4 : c1 = 4
  · rw [if_pos e4] at h
    injection h with h
    subst h
    refine ⟨?_, words_no10 _ k7 _⟩
    rw [lineO, spl_words _ k7]
    have := numsO_itoa h1
    simp only [List.map_cons, List.map_nil] at this
    simp [wordsO, oneO, this, e4]
  rw [if_neg e4] at h
  cases h
/-- Lines ahead of a text. -/
theorem spl_shows {l : List Ch} (hl : ∀ c ∈ l, c.wf) {t : List UInt8} (h : showsO l = some t) (r : List UInt8) :
    ∃ ps, ps.length = l.length ∧ spl 10 (t ++ r) = ps ++ spl 10 r ∧ ∀ i s xs, 0 < i → goO i s xs (ps ++ spl 10 r) = goO (i + l.length) s (xs ++ l.map Ch.norm) (spl 10 r) := by
  induction l generalizing t with
  | nil =>
    simp [showsO] at h; subst h
    exact ⟨[], rfl, rfl, fun i s xs _ => by simp⟩
  | cons c l ih =>
    obtain ⟨s, h1, h2⟩ := Option.bind_eq_some_iff.1 h
    obtain ⟨u, h3, rfl⟩ := Option.map_eq_some_iff.1 h2
    obtain ⟨ps, g1, g2, g3⟩ := ih (fun d hd => hl d (by simp [hd])) h3
    obtain ⟨k1, k2⟩ := line_show (hl c (by simp)) h1
    refine ⟨s :: ps, by simp [g1], ?_, fun i sh xs hi => ?_⟩
    · rw [show (s ++ [10] ++ u) ++ r = s ++ 10 :: (u ++ r) by simp, spl_cut k2, g2]; rfl
    · obtain ⟨q, qs, hq⟩ : ∃ q qs, ps ++ spl 10 r = q :: qs := List.exists_cons_of_ne_nil (by
        intro e
        exact spl_ne 10 r (List.append_eq_nil_iff.1 e).2)
      have := g3 (i + 1) sh (xs ++ [c.norm]) (by omega)
      rw [List.cons_append, hq, goO, if_neg (by omega), k1]
      dsimp only
      rw [← hq, this]
      simp [Nat.add_assoc, Nat.add_comm 1]
theorem heap_head {p c m : Int} (hp : i64 p) (hc : i64 c) (hm : i64 m) : heapO (wordsL [104, 101, 97, 112] [p, c, m]) = some (p, c, m) := by
  rw [heapO, spl_words _ ink_ws.2.2.2.2.2.2.2]
  have := numsO_itoa (i64_three hp hc hm)
  simp only [List.map_cons, List.map_nil] at this
  simp [this]
/-- A printed beginning is read, and then what stands behind it. -/
theorem parse_head {p c m : Int} (hp : i64 p) (hc : i64 c) (hm : i64 m) {l : List Ch} (hl : ∀ c ∈ l, c.wf) {t : List UInt8} (h : showsO l = some t) (r : List UInt8) (hn : (headL p c m ++ t ++ r).length ≤ 65536) (hm2 : l.length + (spl 10 r).length < 4000) :
    parseO (headL p c m ++ t ++ r) = goO (1 + l.length) (p, c, m) (l.map Ch.norm) (spl 10 r) := by
  obtain ⟨ps, g1, g2, g3⟩ := spl_shows hl h r
  have e : spl 10 (headL p c m ++ t ++ r) = wordsL [104, 101, 97, 112] [p, c, m] :: (ps ++ spl 10 r) := by
    rw [← g2, ← spl_cut (words_no10 _ ink_ws.2.2.2.2.2.2.2 _)]
    unfold headL
    congr 1
    simp
  have hmany : manyO (spl 10 (headL p c m ++ t ++ r)) ≤ 4000 := by
    have : (spl 10 (headL p c m ++ t ++ r)).length ≤ 4000 := by rw [e]; simp only [List.length_cons, List.length_append]; omega
    unfold manyO
    split <;> omega
  unfold parseO
  rw [if_neg (by omega), e]
  obtain ⟨q, qs, hq⟩ : ∃ q qs, ps ++ spl 10 r = q :: qs := List.exists_cons_of_ne_nil (by
    intro e
    exact spl_ne 10 r (List.append_eq_nil_iff.1 e).2)
  rw [hq, goO, if_pos rfl, heap_head hp hc hm]
  dsimp only
  rw [← hq]
  have := g3 1 (p, c, m) [] (by omega)
  simpa using this
theorem parse_print {p c m : Int} (hp : i64 p) (hc : i64 c) (hm : i64 m) {l : List Ch} (hl : ∀ c ∈ l, c.wf) {t : List UInt8} (h : showsO l = some t) (hn : (headL p c m ++ t).length ≤ 65536) (hm2 : l.length < 3999) :
    parseO (headL p c m ++ t) = ((p, c, m), l.map Ch.norm, 0, 0) := by
  have := parse_head hp hc hm hl h [] (by rw [List.append_nil]; exact hn) (by show _ + 1 < _; omega)
  rw [List.append_nil] at this
  rw [this]
  show goO _ _ _ [[]] = _
  rw [goO, if_neg (by simp)]
end Go.Proofs.YtkeiehgojclecaaDoor
