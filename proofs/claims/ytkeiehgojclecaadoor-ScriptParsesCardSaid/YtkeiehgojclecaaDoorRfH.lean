/- The reference's word: plain, and its walk. -/
import Derived.Test.YtkeiehgojclecaaDoorRfD

import Derived.Test.YtkeiehgojclecaaDoorScrH

namespace Go.Proofs.YtkeiehgojclecaaDoor

open Go.RowKit

attribute [local go_sem ↓] Go.wp_at_zero Go.wp_at_succ

/-- Up to the next blank; what stands behind it; was there one? -/
def wordR : List UInt8 → List UInt8 × List UInt8 × Bool
  | [] => ([], [], false)
  | b :: l => if b = 32 then ([], l, true) else (b :: (wordR l).1, (wordR l).2.1, (wordR l).2.2)
theorem spl_word (l : List UInt8) : spl 32 l = (wordR l).1 :: (if (wordR l).2.2 = true then spl 32 (wordR l).2.1 else []) := by
  induction l with
  | nil => rfl
  | cons b l ih =>
    by_cases h : b = 32
    · simp [spl, wordR, h]
    · rw [spl, if_neg h, ih]
      simp [wordR, h]
theorem wordR_at (l : List UInt8) (i : Nat) (hi : i < l.length) (h : ∀ j (hj : j < i), l[j]'(by omega) ≠ 32) (hb : l[i] = 32) : wordR l = (l.take i, l.drop (i + 1), true) := by
  induction l generalizing i with
  | nil => simp at hi
  | cons b l ih =>
    cases i with
    | zero => simp only [List.getElem_cons_zero] at hb; simp [wordR, hb]
    | succ i =>
      have hb0 : b ≠ 32 := h 0 (by omega)
      have := ih i (by simpa using hi) (fun j hj => h (j + 1) (by omega)) (by simpa using hb)
      simp [wordR, hb0, this]
theorem wordR_none (l : List UInt8) (h : ∀ j (hj : j < l.length), l[j] ≠ 32) : wordR l = (l, [], false) := by
  induction l with
  | nil => rfl
  | cons b l ih =>
    have hb0 : b ≠ 32 := h 0 (by simp)
    have := ih (fun j hj => h (j + 1) (by simpa using hj))
    simp [wordR, hb0, this]
theorem S_get (l : List UInt8) (i : Nat) (h : i < (S l).size) : (S l)[i] = l[i]'(by rw [S_size] at h; exact h) := rfl
theorem S_cut (l : List UInt8) (a b : Nat) : (S l).extract a b = S ((l.drop a).take (b - a)) := by
  apply ByteArray.ext
  rw [ByteArray.data_extract]
  simp [List.extract_eq_take_drop]
theorem S_head (l : List UInt8) (i : Nat) : (S l).extract 0 i = S (l.take i) := by rw [S_cut, List.drop_zero, Nat.sub_zero]
theorem S_tail (l : List UInt8) (i n : Nat) (h : l.length = n) : (S l).extract i n = S (l.drop i) := by
  rw [S_cut, List.take_of_length_le (by rw [List.length_drop, h]; exact Nat.le_refl _)]
set_option maxRecDepth 100000 in
set_option maxHeartbeats 400000 in
theorem word_any (l : List UInt8) (hl : l.length < 1000000) (w : World) :
    Calls Tryd.prog 30 #[.string (S l)] w fun e w' => e = .returned (.tuple #[.string (S (wordR l).1), .string (S (wordR l).2.1), .bool (wordR l).2.2]) ∧ Below w.heap.size w w' := by
  have hsz : (S l).size = l.length := S_size l
  obtain ⟨n, hn, hn'⟩ : ∃ n, Hid (n = l.length) ∧ n = l.length := ⟨_, Lib.hid rfl, rfl⟩
  rw [← hn'] at hsz hl
  have hall := Lib.hid (fun h => wordR_none l h)
  have hat := Lib.hid (fun i hi h hb => wordR_at l i hi h hb)
  have htl := Lib.hid (fun i => S_tail l i n hn'.symm)
  clear hn'
  go_enter Tryd.func30, Tryd.ntmps30
  go_wp2_with fail
  go_loopw [5] (fun v5 wr => ∃ i : Nat, v5 = .int .i64 i ∧ i ≤ n ∧ wr = w ∧ Hid (∀ j (hj : j < i) (h : j < l.length), l[j] ≠ 32)) (fun v5 _ => n - (intOf v5).toNat)
  case atStart => exact ⟨0, rfl, by omega, rfl, Lib.hid fun j hj => by omega⟩
  case round =>
    obtain ⟨i, rfl, hi, rfl, hno⟩ := hrel
    obtain ⟨Y, rfl⟩ : ∃ V : World, V = wr := ⟨_, rfl⟩
    by_cases hlt : i < n
    · have hlt' : (i : Int) < (n : Int) := by omega
      have hle : (i : Int) + 1 ≤ (n : Int) := by omega
      have hi0 : (0 : Int) ≤ (i : Int) := by omega
      have hi1 : (0 : Int) ≤ (i : Int) + 1 := by omega
      have hle0 : (i : Int) ≤ (n : Int) := by omega
      have hit : ((i : Int)).toNat = i := by omega
      have hit1 : ((i : Int) + 1).toNat = i + 1 := by omega
      have wi1 : IntKind.i64.wrap ((i : Int) + 1) = (i : Int) + 1 := IntWalk.i64_in _ ⟨by omega, by omega⟩
      have hil : i < l.length := by have := hn.out; omega
      by_cases hb : l[i] = 32
      · have hx : ∀ h : i < (S l).size, ((((S l)[i]'h).toNat : Int) == 32) = true := fun h => by rw [S_get, hb]; rfl
        have hr := hat.out i hil (fun j hj => hno.out j hj (by omega)) hb
        have h1 := S_head l i
        have h2 := htl.out (i + 1)
        replace hr := Lib.hid hr
        replace hb := Lib.hid hb
        replace hil := Lib.hid hil
        generalize l.take i = A at *
        generalize l.drop (i + 1) = B at *
        go_wp2_with fail
        go_quiet (fail)
        go_wp2_with fail
        refine bodyPost_ret (v := .tuple #[.string (S A), .string (S B), .bool true]) (by simp [results, Tryd.results30, go_sem]) rfl ⟨?_, ?_⟩
        · rw [hr.out]
        · exact below_drewN (Below.refl _ _) _
      · have hx : ∀ h : i < (S l).size, ((((S l)[i]'h).toNat : Int) == 32) = false := fun h => by
          rw [S_get]
          have : l[i].toNat ≠ 32 := fun e => hb (UInt8.toNat_inj.1 (by simpa using e))
          simpa using (by omega : ((l[i].toNat : Int)) ≠ 32)
        replace hb := Lib.hid hb
        replace hil := Lib.hid hil
        go_wp2_with fail
        exact ⟨⟨i + 1, by go_num, by omega, trivial, Lib.hid fun j hj h => by
          by_cases e : j = i
          · subst e; exact hb.out
          · exact hno.out j (by omega) h⟩, by simp [intOf]; omega⟩
    · have hlt' : ¬ (i : Int) < (n : Int) := by omega
      have hr := Lib.hid (hall.out fun j hj => hno.out j (by have := hn.out; omega) hj)
      go_wp2_with fail
      refine bodyPost_ret (v := .tuple #[.string (S l), .string (S []), .bool false]) (by simp [results, Tryd.results30, go_sem]) rfl ⟨by rw [hr.out], Below.refl _ _⟩
end Go.Proofs.YtkeiehgojclecaaDoor
