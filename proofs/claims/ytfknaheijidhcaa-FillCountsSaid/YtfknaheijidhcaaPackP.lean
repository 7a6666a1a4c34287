/- Plain facts on packed words: a kind and parts of eight bits each, put together and taken apart. -/
import Derived.Laws.BitsLemmas

import Derived.Laws.BitsAllLaws

namespace Go.Proofs.Ytfknaheijidhcaa

/-- The number that parts of eight bits make. -/
def horner : List Int → Int
  | [] => 0
  | x :: xs => x + 256 * horner xs
def okB (x : Int) : Bool := decide (0 ≤ x) && decide (x ≤ 255)
def okAll (xs : List Int) : Bool := xs.all okB
/-- The word that 'put' makes. -/
def putV (k : Int) (xs : List Int) : Int := if okAll xs = true then k + 16 * horner xs else 0

theorem okB_iff {x : Int} : okB x = true ↔ 0 ≤ x ∧ x ≤ 255 := by simp [okB]
theorem pow256_succ (n : Nat) : (256 : Int) ^ (n + 1) = 256 * 256 ^ n := by rw [Int.pow_succ, Int.mul_comm]
theorem pow256_pos (n : Nat) : (0 : Int) < 256 ^ n := Int.pow_pos (by decide)

theorem horner_bd (xs : List Int) (h : okAll xs = true) : 0 ≤ horner xs ∧ horner xs < 256 ^ xs.length := by
  induction xs with
  | nil => simp [horner]
  | cons x xs ih =>
    simp only [okAll, List.all_cons, Bool.and_eq_true] at h
    have hx := okB_iff.1 h.1
    have := ih h.2
    simp only [horner, List.length_cons, pow256_succ]
    omega

theorem horner_snoc (xs : List Int) (x : Int) : horner (xs ++ [x]) = horner xs + x * 256 ^ xs.length := by
  induction xs with
  | nil => simp [horner]
  | cons y xs ih =>
    simp only [List.cons_append, horner, ih, List.length_cons, pow256_succ]
    rw [Int.mul_add, Int.mul_left_comm 256 x]
    omega

theorem okAll_snoc (xs : List Int) (x : Int) : okAll (xs ++ [x]) = (okAll xs && okB x) := by simp [okAll]

theorem take_snoc_i (xs : List Int) (j : Nat) (h : j < xs.length) : xs.take (j + 1) = xs.take j ++ [xs.getD j 0] := by
  rw [List.take_succ_eq_append_getElem h]; simp [List.getD_eq_getElem?_getD, h]

theorem u64_wraps (n : Int) (h0 : 0 ≤ n) (h1 : n < 18446744073709551616) : IntKind.u64.wrap n = n := by
  simp only [IntKind.wrap, IntKind.bits, IntKind.signed]
  simp
  omega

/-- One part more, laid in by a shift and an 'or'. -/
theorem or_step (acc x : Int) (j : Nat) (hj : j ≤ 6) (h0 : 0 ≤ acc) (h1 : acc < 16 * 256 ^ j) (hx0 : 0 ≤ x) (hx1 : x ≤ 255) :
    bits .or .u64 acc (IntKind.u64.wrap (x * 2 ^ (4 + 8 * j))) = acc + 16 * (x * 256 ^ j) := by
  have hp : (2 : Int) ^ (4 + 8 * j) = 16 * 256 ^ j := by
    rw [Int.pow_add, Int.pow_mul]; rfl
  have hb : (256 : Int) ^ j ≤ 281474976710656 := by
    have : j = 0 ∨ j = 1 ∨ j = 2 ∨ j = 3 ∨ j = 4 ∨ j = 5 ∨ j = 6 := by omega
    rcases this with rfl | rfl | rfl | rfl | rfl | rfl | rfl <;> decide
  have pp := pow256_pos j
  have hm : x * (16 * 256 ^ j) ≤ 255 * (16 * 256 ^ j) := Int.mul_le_mul_of_nonneg_right hx1 (by omega)
  have hm0 : 0 ≤ x * (16 * 256 ^ j) := Int.mul_nonneg hx0 (by omega)
  have hw : IntKind.u64.wrap (x * 2 ^ (4 + 8 * j)) = x * (16 * 256 ^ j) := by
    rw [hp]; exact u64_wraps _ hm0 (by omega)
  rw [hw]
  have hc : bits .or .u64 acc (x * (16 * 256 ^ j)) = bits .or .u64 (x * (16 * 256 ^ j)) acc := by simp only [bits, BitVec.or_comm]
  have hd : x * (16 * 256 ^ j) % 2 ^ (4 + 8 * j) = 0 := by rw [hp]; exact Int.mul_emod_left _ _
  rw [hc, bits_join .u64 64 (by decide) (fun n a b => u64_wraps n a b) (4 + 8 * j) _ _ hm0 hd (by omega) h0 (by omega) (by omega)]
  rw [Int.mul_left_comm]; omega

theorem putV_bad (k : Int) (xs : List Int) (j : Nat) (h : j < xs.length) (hx : xs[j] < 0 ∨ 255 < xs[j]) : putV k xs = 0 := by
  have : okAll xs ≠ true := fun hc => by
    have := List.all_eq_true.1 hc xs[j] (List.getElem_mem h)
    have := okB_iff.1 this
    omega
  rw [putV, if_neg this]

theorem put_step (k : Int) (xs : List Int) (j : Nat) (hk : 0 ≤ k) (hk2 : k ≤ 15) (hl : xs.length ≤ 7) (h : j < xs.length) (h0 : 0 ≤ xs[j]) (h1 : xs[j] ≤ 255) (hok : okAll (xs.take j) = true) :
    bits .or .u64 (k + 16 * horner (xs.take j)) (IntKind.u64.wrap (xs[j] * 2 ^ (4 + 8 * j))) = k + 16 * horner (xs.take (j + 1)) ∧ okAll (xs.take (j + 1)) = true := by
  have hb := horner_bd _ hok
  have hlen : (xs.take j).length = j := by simp; omega
  rw [hlen] at hb
  have hg : xs.getD j 0 = xs[j] := by simp [List.getD_eq_getElem?_getD, h]
  rw [take_snoc_i xs j h, horner_snoc, okAll_snoc, hok, hlen, hg, or_step _ _ j (by omega) (by omega) (by omega) h0 h1]
  exact ⟨by omega, by simpa using okB_iff.2 ⟨h0, h1⟩⟩

theorem putV_ok (k : Int) (xs : List Int) (h : okAll xs = true) : putV k xs = k + 16 * horner xs := by rw [putV, if_pos h]

/-- What PutPage answers, of any numbers. -/
def pageBad (k a b : Int) : Bool := decide (k < 0) || decide (4 < k) || (k == 0 && a != 0) || (k != 2 && b != 0)
def pageV (k a b : Int) : Int := if pageBad k a b = true then 0 else putV k [a, b]
def slotBad (k a : Int) : Bool := decide (k < 0) || decide (3 < k) || (k == 0 && a != 0)
def slotV (k a : Int) : Int := if slotBad k a = true then 0 else putV k [a]
def statusBad (k a : Int) : Bool := decide (k < 0) || decide (4 < k) || (k != 3 && a != 0)
def statusV (k a : Int) : Int := if statusBad k a = true then 0 else putV k [a]
theorem putV1 (k a : Int) (h0 : 0 ≤ a) (h1 : a ≤ 255) : putV k [a] = k + 16 * a := by
  rw [putV_ok k _ (by simp [okAll, okB]; omega)]; simp [horner]
theorem putV2 (k a b : Int) (h0 : 0 ≤ a) (h1 : a ≤ 255) (h2 : 0 ≤ b) (h3 : b ≤ 255) : putV k [a, b] = k + 16 * a + 4096 * b := by
  rw [putV_ok k _ (by simp [okAll, okB]; omega)]; simp [horner]; omega
theorem putV3 (k a b c : Int) (h0 : 0 ≤ a) (h1 : a ≤ 255) (h2 : 0 ≤ b) (h3 : b ≤ 255) (h4 : 0 ≤ c) (h5 : c ≤ 255) : putV k [a, b, c] = k + 16 * a + 4096 * b + 1048576 * c := by
  rw [putV_ok k _ (by simp [okAll, okB]; omega)]; simp [horner]; omega
end Go.Proofs.Ytfknaheijidhcaa
