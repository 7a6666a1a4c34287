/- Counting a heap's words: plain. -/
import Derived.Test.YtfknaheijidhcaaAudP

namespace Go.Proofs.Ytfknaheijidhcaa

/-- So many words are free, taken, held by one who lives, loose. -/
structure Cn where
  f : Int
  t : Int
  l : Int
  o : Int
  deriving DecidableEq
def Cn.zero : Cn := ⟨0, 0, 0, 0⟩
def Cn.add (x y : Cn) : Cn := ⟨x.f + y.f, x.t + y.t, x.l + y.l, x.o + y.o⟩
def Cn.sum (x : Cn) : Int := x.f + x.t + x.l + x.o
def Cn.nn (x : Cn) : Prop := 0 ≤ x.f ∧ 0 ≤ x.t ∧ 0 ≤ x.l ∧ 0 ≤ x.o
theorem Cn.sum_add (x y : Cn) : (x.add y).sum = x.sum + y.sum := by simp only [Cn.sum, Cn.add]; omega
theorem Cn.nn_add {x y : Cn} (h : x.nn) (k : y.nn) : (x.add y).nn := by unfold Cn.nn Cn.add at *; simp only; omega
theorem Cn.bd {x : Cn} {n : Int} (h : x.nn) (k : x.sum ≤ n) : (0 ≤ x.f ∧ x.f ≤ n) ∧ (0 ≤ x.t ∧ x.t ≤ n) ∧ (0 ≤ x.l ∧ x.l ≤ n) ∧ 0 ≤ x.o ∧ x.o ≤ n := by unfold Cn.nn Cn.sum at *; omega
theorem Cn.add_assoc (x y z : Cn) : (x.add y).add z = x.add (y.add z) := by simp only [Cn.add, Int.add_assoc]
theorem Cn.add_zero (x : Cn) : x.add Cn.zero = x := by simp [Cn.add, Cn.zero]
def heldC (b : Bool) (k : Int) : Cn := if b = true then ⟨0, 0, k, 0⟩ else ⟨0, 0, 0, k⟩
theorem heldC_sum (b : Bool) (k : Int) : (heldC b k).sum = k := by unfold heldC Cn.sum; split <;> simp
theorem heldC_nn (b : Bool) {k : Int} (h : 0 ≤ k) : (heldC b k).nn := by unfold heldC Cn.nn; split <;> simp [h]
/-- What a slot counts for. -/
def Hp.slC (h : Hp) (a z i : Int) : Cn := if h.sk a i = 1 then ⟨z, 0, 0, 0⟩ else if h.sk a i = 3 then ⟨0, z, 0, 0⟩ else heldC (h.sk a i == 2 && h.lv (h.sa a i)) z
def Hp.slS (h : Hp) (a z : Int) : Nat → Cn
  | 0 => Cn.zero
  | i + 1 => (h.slS a z i).add (h.slC a z i)
theorem Hp.slC_sum (h : Hp) (a z i : Int) : (h.slC a z i).sum = z := by
  unfold Hp.slC
  split
  · simp [Cn.sum]
  · split
    · simp [Cn.sum]
    · exact heldC_sum _ _
theorem Hp.slC_nn (h : Hp) (a i : Int) {z : Int} (hz : 0 ≤ z) : (h.slC a z i).nn := by
  unfold Hp.slC
  split
  · simp [Cn.nn, hz]
  · split
    · simp [Cn.nn, hz]
    · exact heldC_nn _ hz
theorem Hp.slS_sum (h : Hp) (a z : Int) (i : Nat) : (h.slS a z i).sum = z * i := by
  induction i with
  | zero => simp [Hp.slS, Cn.zero, Cn.sum]
  | succ i ih =>
    show ((h.slS a z i).add (h.slC a z i)).sum = _
    rw [Cn.sum_add, ih, Hp.slC_sum, Int.natCast_add, Int.mul_add]; simp
theorem Hp.slS_nn (h : Hp) (a : Int) {z : Int} (hz : 0 ≤ z) (i : Nat) : (h.slS a z i).nn := by
  induction i with
  | zero => simp [Hp.slS, Cn.zero, Cn.nn]
  | succ i ih => exact Cn.nn_add ih (h.slC_nn a i hz)
/-- What a page counts for. -/
def Hp.pgC (h : Hp) (a : Int) : Cn :=
  if (h.hb a || !h.pb a) = true then heldC (h.hb a && h.lv (h.hc a)) 64
  else if h.pk a = 0 then ⟨64, 0, 0, 0⟩
  else if h.pk a = 2 then h.slS a (sizeV (h.pa a)) (slotsV (h.pa a)).toNat
  else ⟨0, 64, 0, 0⟩
def Hp.cn (h : Hp) : Nat → Cn
  | 0 => Cn.zero
  | k + 1 => (h.cn k).add (h.pgC k)
def Hp.count (h : Hp) : Cn := if h.ok = true then h.cn h.p.toNat else Cn.zero
theorem Hp.pgC_sum (h : Hp) (a : Int) : (h.pgC a).sum = 64 := by
  unfold Hp.pgC
  split
  · exact heldC_sum _ _
  · rename_i h1
    simp only [Bool.or_eq_true, Bool.not_eq_true', not_or, Bool.not_eq_false] at h1
    split
    · simp [Cn.sum]
    · split
      · rename_i h2
        have := Hp.kind2 (h := h) (a := a) (by rw [h1.2, h2]; rfl)
        have hb := slots_bd (h.pa a)
        rw [Hp.slS_sum, Int.toNat_of_nonneg hb.1]
        exact size_slots this
      · simp [Cn.sum]
theorem Hp.pgC_nn (h : Hp) (a : Int) : (h.pgC a).nn := by
  unfold Hp.pgC
  split
  · exact heldC_nn _ (by decide)
  · split
    · simp [Cn.nn]
    · split
      · exact h.slS_nn a (size_bd _).1 _
      · simp [Cn.nn]
theorem Hp.cn_sum (h : Hp) (k : Nat) : (h.cn k).sum = 64 * k := by
  induction k with
  | zero => simp [Hp.cn, Cn.zero, Cn.sum]
  | succ k ih =>
    show ((h.cn k).add (h.pgC k)).sum = _
    rw [Cn.sum_add, ih, Hp.pgC_sum]; omega
theorem Hp.cn_nn (h : Hp) (k : Nat) : (h.cn k).nn := by
  induction k with
  | zero => simp [Hp.cn, Cn.zero, Cn.nn]
  | succ k ih => exact Cn.nn_add ih (h.pgC_nn k)
end Go.Proofs.Ytfknaheijidhcaa
