/- Plain facts on shapes: what may be, where words stand. -/
namespace Go.Proofs.Ytclidckjnoafcaa

def wi (n lo hi : Int) : Bool := decide (lo ≤ n) && decide (n ≤ hi)
theorem wi_iff {n lo hi : Int} : wi n lo hi = true ↔ lo ≤ n ∧ n ≤ hi := by simp [wi]
theorem wi_false {n lo hi : Int} : wi n lo hi = false ↔ ¬ (lo ≤ n ∧ n ≤ hi) := by rw [← wi_iff]; simp
/-- May a shape be? -/
def mayB (p c m : Int) : Bool := wi p 1 64 && wi c 1 12 && wi m 0 8
theorem mayB_iff {p c m : Int} : mayB p c m = true ↔ 1 ≤ p ∧ p ≤ 64 ∧ 1 ≤ c ∧ c ≤ 12 ∧ 0 ≤ m ∧ m ≤ 8 := by
  simp only [mayB, Bool.and_eq_true, wi_iff]; omega
/-- Where a page's word stands; -1: nowhere. -/
def pageIx (p c m at' : Int) : Int := if mayB p c m = true ∧ wi at' 0 (p - 1) = true then c + at' else -1
def sizeV (k : Int) : Int := if k = 0 then 4 else if k = 1 then 8 else if k = 2 then 16 else if k = 3 then 32 else 0
def slotsV (k : Int) : Int := if k = 0 then 16 else if k = 1 then 8 else if k = 2 then 4 else if k = 3 then 2 else 0
end Go.Proofs.Ytclidckjnoafcaa
