/- What was read is printed as it stood: plain. -/
import Derived.Test.YtkeiehgojclecaaDoorScrRt

import Derived.Test.YtkeiehgojclecaaDoorScrI

namespace Go.Proofs.YtkeiehgojclecaaDoor

open Go.RowKit

theorem spl_join {c : UInt8} {l w : List UInt8} {r : List (List UInt8)} (h : spl c l = w :: r) : l = w ++ r.flatMap (c :: ·) := by
  induction l generalizing w r with
  | nil => simp [spl] at h; obtain ⟨rfl, rfl⟩ := h; rfl
  | cons b l ih =>
    unfold spl at h
    split at h
    · rename_i hb
      injection h with h1 h2
      subst h1
      cases hs : spl c l with
      | nil => exact absurd hs (spl_ne c l)
      | cons p ps =>
        rw [← h2, hs]
        have := ih hs
        simp [hb, ← this]
    · cases hs : spl c l with
      | nil => exact absurd hs (spl_ne c l)
      | cons p ps =>
        rw [hs] at h
        injection h with h1 h2
        subst h1 h2
        have := ih hs
        simp [← this]
theorem nums_back {r : List (List UInt8)} {zs : List Int} (h : numsO r = some zs) : r = zs.map Lib.itoa ∧ ∀ z ∈ zs, i64 z := by
  induction r generalizing zs with
  | nil => simp [numsO] at h; subst h; exact ⟨rfl, by simp⟩
  | cons l r ih =>
    rw [numsO] at h
    obtain ⟨v, h1, h2⟩ := Option.bind_eq_some_iff.1 h
    obtain ⟨vs, h3, rfl⟩ := Option.map_eq_some_iff.1 h2
    obtain ⟨h4, h5⟩ := ih h3
    obtain ⟨h6, h7, h8⟩ := (numO_iff _ _).1 h1
    refine ⟨by rw [List.map_cons, ← h4, ← h6], fun z hz => ?_⟩
    rcases List.mem_cons.1 hz with rfl | hz
    · exact ⟨h7, h8⟩
    · exact h5 z hz
theorem words_join (p : List UInt8) (zs : List Int) : p ++ (zs.map Lib.itoa).flatMap ((32 : UInt8) :: ·) = wordsL p zs := by
  unfold wordsL
  rw [List.flatMap_map]
theorem rd_back {b : List UInt8} {x : Nat} (h : rdO b = some x) : b = wrL x ∧ x < 18446744073709551616 := by
  rcases (rdO_iff b x).1 h with ⟨h1, h2⟩ | ⟨h1, h2, h3⟩
  · subst h2
    refine ⟨?_, by decide⟩
    unfold wrL
    rw [if_pos (by decide), h1]
  · refine ⟨?_, h1⟩
    unfold wrL
    rw [if_neg (by simp [h2]), h3]
theorem i64_0 : i64 0 := ⟨by decide, by decide⟩
theorem i64_n {n : Int} (h : 0 ≤ n ∧ n ≤ 10) : i64 n := ⟨by omega, by omega⟩
theorem op_back {k : Int} {m : Nat} {w : List UInt8} {r : List (List UInt8)} {c : Ch} (h : opO k m r = some c) : r.length = m ∧ ∃ zs, numsO r = some zs ∧ zs.length = m ∧ c = opV k (zs.getD 0 0) (zs.getD 1 0) (zs.getD 2 0) ∧ w ++ r.flatMap ((32 : UInt8) :: ·) = wordsL w zs ∧ ∀ z ∈ zs, i64 z := by
  unfold opO at h
  split at h
  · rename_i hr
    obtain ⟨zs, h1, h2⟩ := Option.map_eq_some_iff.1 h
    obtain ⟨h3, h4⟩ := nums_back h1
    exact ⟨hr, zs, h1, (numsO_length h1).trans hr, h2.symm, by rw [h3, words_join], h4⟩
  · cases h
theorem one_back {k : Int} {w : List UInt8} {r : List (List UInt8)} {c : Ch} (h : oneO k r = some c) : ∃ z, c = ⟨k, z, 0, 0, 0, 0⟩ ∧ w ++ r.flatMap ((32 : UInt8) :: ·) = wordsL w [z] ∧ i64 z := by
  unfold oneO at h
  split at h
  · rename_i hr
    obtain ⟨zs, h1, h2⟩ := Option.map_eq_some_iff.1 h
    obtain ⟨h3, h4⟩ := nums_back h1
    have hl := (numsO_length h1).trans hr
    match zs, hl with
    | [z], _ => exact ⟨z, h2.symm, by rw [h3, words_join], h4 z (by simp)⟩
  · cases h
theorem line_back {t : List UInt8} {c : Ch} (h : lineO t = some c) : c.wf ∧ showL c = some t := by
  unfold lineO at h
  cases hs : spl 32 t with
  | nil => exact absurd hs (spl_ne 32 t)
  | cons w r =>
    rw [hs] at h
    have ht := spl_join hs
    replace h : wordsO w r = some c := h
    unfold wordsO at h
    have b0 : (0 : Nat) < 18446744073709551616 := by decide
    split at h
    · rename_i hw
      match r, h with
      | [a, b], h =>
        unfold startO at h
        obtain ⟨v, h1, h2⟩ := Option.bind_eq_some_iff.1 h
        obtain ⟨x, h3, rfl⟩ := Option.map_eq_some_iff.1 h2
        obtain ⟨h6, h7, h8⟩ := (numO_iff _ _).1 h1
        obtain ⟨h9, h10⟩ := rd_back h3
        refine ⟨⟨(i64_n (n := 1) (by decide)), ⟨h7, h8⟩, i64_0, i64_0, i64_0, h10⟩, ?_⟩
        rw [ht, hw, h6, h9]
        simp [showL, wordsL]
    · split at h
      · rename_i hw
        obtain ⟨_, zs, _, hl, rfl, h3, h4⟩ := op_back (w := w) h
        match zs, hl with
        | [z, x], _ =>
          refine ⟨⟨(i64_n (n := 2) (by decide)), h4 z (by simp), (i64_n (n := 1) (by decide)), i64_0, h4 x (by simp), b0⟩, ?_⟩
          rw [ht, h3, hw]
          simp [showL, askL, opV]
      · split at h
        · rename_i hw
          obtain ⟨_, zs, _, hl, rfl, h3, h4⟩ := op_back (w := w) h
          match zs, hl with
          | [z, x], _ =>
            refine ⟨⟨(i64_n (n := 2) (by decide)), h4 z (by simp), (i64_n (n := 2) (by decide)), h4 x (by simp), i64_0, b0⟩, ?_⟩
            rw [ht, h3, hw]
            simp [showL, askL, opV]
        · split at h
          · rename_i hw
            obtain ⟨_, zs, _, hl, rfl, h3, h4⟩ := op_back (w := w) h
            match zs, hl with
            | [z, x, y], _ =>
              refine ⟨⟨(i64_n (n := 2) (by decide)), h4 z (by simp), (i64_n (n := 3) (by decide)), h4 x (by simp), h4 y (by simp), b0⟩, ?_⟩
              rw [ht, h3, hw]
              simp [showL, askL, opV]
          · split at h
            · rename_i hw
              obtain ⟨_, zs, _, hl, rfl, h3, h4⟩ := op_back (w := w) h
              match zs, hl with
              | [z, x], _ =>
                refine ⟨⟨(i64_n (n := 2) (by decide)), h4 z (by simp), (i64_n (n := 4) (by decide)), h4 x (by simp), i64_0, b0⟩, ?_⟩
                rw [ht, h3, hw]
                simp [showL, askL, opV]
            · split at h
              · rename_i hw
                obtain ⟨z, rfl, h3, h4⟩ := one_back (w := w) h
                refine ⟨⟨(i64_n (n := 3) (by decide)), h4, i64_0, i64_0, i64_0, b0⟩, ?_⟩
                rw [ht, h3, hw]
                simp [showL]
              · split at h
                · rename_i hw
                  obtain ⟨z, rfl, h3, h4⟩ := one_back (w := w) h
                  refine ⟨⟨(i64_n (n := 4) (by decide)), h4, i64_0, i64_0, i64_0, b0⟩, ?_⟩
                  rw [ht, h3, hw]
                  simp [showL]
                · cases h
/-- A text's lines, joined. -/
def joinL : List (List UInt8) → List UInt8
  | [] => []
  | p :: r => p ++ r.flatMap ((10 : UInt8) :: ·)
theorem go_back {i : Nat} (hi : 0 < i) {s : Shp} {xs : List Ch} {ps : List (List UInt8)} (hps : ps ≠ []) (h : (goO i s xs ps).2.2.2 = 0) :
    ∃ cs t, goO i s xs ps = (s, xs ++ cs, 0, 0) ∧ (∀ c ∈ cs, c.wf) ∧ showsO cs = some t ∧ joinL ps = t ∧ cs.length + 1 = ps.length := by
  induction ps generalizing i xs with
  | nil => exact absurd rfl hps
  | cons p r ih =>
    cases r with
    | nil =>
      rw [goO] at h ⊢
      split at h
      · cases h
      · rename_i hn
        rw [if_neg hn]
        have hp : p = [] := by
          by_cases hp : p = []
          · exact hp
          · exact absurd (.inr hp) hn
        exact ⟨[], [], by simp, by simp, rfl, by rw [hp]; rfl, rfl⟩
    | cons q r =>
      rw [goO, if_neg (by omega)] at h ⊢
      cases hl : lineO p with
      | none => rw [hl] at h; cases h
      | some c =>
        rw [hl] at h
        obtain ⟨cs, t, h1, h2, h3, h4, h5⟩ := ih (i := i + 1) (by omega) (xs := xs ++ [c]) (by simp) h
        obtain ⟨hw, hsl⟩ := line_back hl
        refine ⟨c :: cs, p ++ [10] ++ t, ?_, ?_, ?_, ?_, by simp [← h5]⟩
        · dsimp only
          rw [h1]
          simp
        · intro d hd
          rcases List.mem_cons.1 hd with rfl | hd
          · exact hw
          · exact h2 d hd
        · rw [showsO, hsl, h3]; rfl
        · rw [← h4]; simp [joinL]
theorem heap_back {p : List UInt8} {a b c : Int} (h : heapO p = some (a, b, c)) : p = wordsL [104, 101, 97, 112] [a, b, c] ∧ i64 a ∧ i64 b ∧ i64 c := by
  unfold heapO at h
  cases hs : spl 32 p with
  | nil => exact absurd hs (spl_ne 32 p)
  | cons w r =>
    rw [hs] at h
    have ht := spl_join hs
    dsimp only at h
    split at h
    · rename_i hc
      cases hn : numsO r with
      | none => rw [hn] at h; cases h
      | some zs =>
        obtain ⟨h1, h2⟩ := nums_back hn
        have hl := (numsO_length hn).trans hc.2
        match zs, hl with
        | [x, y, z], _ =>
          rw [hn] at h
          injection h with h
          injection h with e1 h
          injection h with e2 e3
          subst e1 e2 e3
          refine ⟨by rw [ht, hc.1, h1, words_join], h2 _ (by simp), h2 _ (by simp), h2 _ (by simp)⟩
    · cases h
theorem parse_back {l : List UInt8} (h : (parseO l).2.2.2 = 0) : ∃ p c m xs t, parseO l = ((p, c, m), xs, 0, 0) ∧ i64 p ∧ i64 c ∧ i64 m ∧ (∀ c ∈ xs, c.wf) ∧ showsO xs = some t ∧ l = headL p c m ++ t ∧ xs.length < 4000 := by
  unfold parseO at h ⊢
  split at h
  · cases h
  · rename_i hm
    rw [if_neg hm]
    cases hs : spl 10 l with
    | nil => exact absurd hs (spl_ne 10 l)
    | cons p r =>
      rw [hs] at h hm
      have hl := spl_join hs
      cases r with
      | nil => rw [goO, if_pos (.inl rfl)] at h; cases h
      | cons q r =>
        rw [goO, if_pos rfl] at h ⊢
        cases hh : heapO p with
        | none => rw [hh] at h; cases h
        | some s =>
          obtain ⟨a, b, c⟩ := s
          rw [hh] at h
          obtain ⟨cs, t, h1, h2, h3, h4, h5⟩ := go_back (i := 0 + 1) (by omega) (s := (a, b, c)) (xs := []) (ps := q :: r) (by simp) h
          obtain ⟨k1, k2, k3, k4⟩ := heap_back hh
          refine ⟨a, b, c, cs, t, ?_, k2, k3, k4, h2, h3, ?_, ?_⟩
          · dsimp only
            rw [h1]; rfl
          · rw [hl, k1, ← h4]
            simp [joinL, headL]
          · have : manyO (p :: q :: r) ≥ (p :: q :: r).length - 1 := by unfold manyO; split <;> omega
            simp only [List.length_cons] at this h5
            omega
theorem go_err {i : Nat} {s : Shp} {xs : List Ch} {ps : List (List UInt8)} (h : (goO i s xs ps).2.2.2 ≠ 0) : (goO i s xs ps).1 = (0, 0, 0) ∧ (goO i s xs ps).2.1 = [] := by
  induction ps generalizing i s xs with
  | nil => exact absurd rfl h
  | cons p r ih =>
    cases r with
    | nil =>
      rw [goO] at h ⊢
      split
      · exact ⟨rfl, rfl⟩
      · rename_i hn; rw [if_neg hn] at h; exact absurd rfl h
    | cons q r =>
      rw [goO] at h ⊢
      by_cases hi : i = 0
      · rw [if_pos hi] at h ⊢
        cases hh : heapO p with
        | none => exact ⟨rfl, rfl⟩
        | some s' => rw [hh] at h; exact ih h
      · rw [if_neg hi] at h ⊢
        cases hh : lineO p with
        | none => exact ⟨rfl, rfl⟩
        | some s' => rw [hh] at h; exact ih h
theorem parse_err {l : List UInt8} (h : (parseO l).2.2.2 ≠ 0) : (parseO l).1 = (0, 0, 0) ∧ (parseO l).2.1 = [] := by
  unfold parseO at h ⊢
  split
  · exact ⟨rfl, rfl⟩
  · rename_i hn
    rw [if_neg hn] at h
    exact go_err h
theorem shows_split {l m : List Ch} {t : List UInt8} (h : showsO (l ++ m) = some t) : ∃ a b, showsO l = some a ∧ showsO m = some b ∧ t = a ++ b := by
  induction l generalizing t with
  | nil => exact ⟨[], t, rfl, h, rfl⟩
  | cons c l ih =>
    rw [List.cons_append, showsO] at h
    obtain ⟨s, h1, h2⟩ := Option.bind_eq_some_iff.1 h
    obtain ⟨u, h3, rfl⟩ := Option.map_eq_some_iff.1 h2
    obtain ⟨a, b, h4, h5, rfl⟩ := ih h3
    exact ⟨s ++ [10] ++ a, b, by rw [showsO, h1, h4]; rfl, h5, by simp⟩
theorem take_short {p c m : Int} {xs : List Ch} {t l : List UInt8} (h : showsO xs = some t) (hl : l = headL p c m ++ t) (h6 : l.length ≤ 6000) (i : Nat) (u : List UInt8) (hu : showsO (xs.take i) = some u) : (headL p c m ++ u).length ≤ 65536 := by
  rw [← List.take_append_drop i xs] at h
  obtain ⟨a, b, h1, _, rfl⟩ := shows_split h
  rw [h1] at hu
  injection hu with hu
  subst hu
  rw [hl] at h6
  simp only [List.length_append] at h6 ⊢
  omega
end Go.Proofs.YtkeiehgojclecaaDoor
