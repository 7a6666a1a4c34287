/- Scripts: texts, numbers, pieces: plain. -/
import Derived.Lib.SplitLaws

import Derived.Lib.ParseIntB

import Derived.Lib.ParseIntBTie

import Derived.Lib.ItoaNum

import Derived.Lib.ItoaLen

import Derived.Test.YtkeiehgojclecaaDoorScrU

import Derived.Test.YtkeiehgojclecaaDoorFlE

namespace Go.Proofs.YtkeiehgojclecaaDoor

open Go.Lib

/-- A text as the program holds it. -/
abbrev S (l : List UInt8) : ByteArray := ⟨l.toArray⟩
theorem S_data (s : ByteArray) : S s.data.toList = s := by cases s; simp [S]
theorem S_list (l : List UInt8) : (S l).data.toList = l := by simp
theorem S_inj {l m : List UInt8} (h : S l = S m) : l = m := by have := congrArg (fun s : ByteArray => s.data.toList) h; simpa [S] using this
theorem S_size (l : List UInt8) : (S l).size = l.length := by simp [ByteArray.size]
theorem S_append (l m : List UInt8) : S l ++ S m = S (l ++ m) := by
  apply ByteArray.ext
  simp [S]

/-- The pieces between the bytes c. -/
def spl (c : UInt8) : List UInt8 → List (List UInt8)
  | [] => [[]]
  | b :: l => if b = c then [] :: spl c l else match spl c l with | [] => [[b]] | p :: ps => (b :: p) :: ps
theorem spl_ne (c : UInt8) (l : List UInt8) : spl c l ≠ [] := by
  cases l with
  | nil => simp [spl]
  | cons b l =>
    unfold spl
    split
    · simp
    · split <;> simp
theorem splitK_spl (c : UInt8) (l : List UInt8) : splitK [c] 0 (count l [c]) l = spl c l := by
  induction l with
  | nil => rw [count_miss (by simp [index])]; rfl
  | cons b l ih =>
    by_cases h : b = c
    · subst h
      have hix : index (b :: l) [b] = ((0 : Nat) : Int) := by rw [index]; simp [List.isPrefixOf]
      rw [count_cons_eq, Nat.add_comm, splitK, if_neg (by rw [hix]; decide), hix, spl, if_pos rfl, ← ih]
      simp
    · have hp : ([c] : List UInt8).isPrefixOf (b :: l) = false := by simp [List.isPrefixOf, Ne.symm h]
      have hix : index (b :: l) [c] = if index l [c] == -1 then -1 else index l [c] + 1 := by rw [index, hp]; simp
      rw [count_cons_ne b c l h, spl, if_neg h, ← ih]
      by_cases hm : index l [c] = -1
      · rw [count_miss hm]; rfl
      · have hge := index_ge l [c]
        obtain ⟨j, hj⟩ : ∃ j : Nat, index l [c] = j := ⟨(index l [c]).toNat, by omega⟩
        have hx : index (b :: l) [c] = ((j + 1 : Nat) : Int) := by rw [hix, if_neg (fun e => hm (beq_iff_eq.1 e)), hj]; omega
        rw [count_hit (by simp) hj, Nat.add_comm, splitK, splitK, if_neg (by rw [hx, beq_iff_eq]; omega), if_neg (by rw [hj, beq_iff_eq]; omega), hx, hj]
        simp
theorem split_any' (s : List UInt8) (c : UInt8) : (splitB (S [c]) 0 (countB (S s) (S [c])) (S s)).map (·.data.toList) = spl c s := by
  rw [splitB_data, S_list, S_list]
  unfold countB
  rw [S_list, S_list, splitK_spl]
end Go.Proofs.YtkeiehgojclecaaDoor
