/- Opening floats. -/
import Derived.Test.YtkeiehgojclecaaDoorOpen

namespace Go.Proofs.YtkeiehgojclecaaDoor

open Go.RowKit

theorem bounds_u16 {n : Int} (h : (Lit.int .u16 n).wf = true) : 0 ≤ n ∧ n ≤ 65535 := by
  simpa [Lit.wf, IntKind.min, IntKind.max, IntKind.signed, IntKind.bits] using h
theorem bounds_i32 {n : Int} (h : (Lit.int .i32 n).wf = true) : -2147483648 ≤ n ∧ n ≤ 2147483647 := by
  simpa [Lit.wf, IntKind.min, IntKind.max, IntKind.signed, IntKind.bits] using h
section

variable {H : Type} {enc : TypeId × Value → H} {P : Program} {w : World}

theorem float_bd {b : Nat} (h : (Lit.float .f64 b).wf = true) : b < 18446744073709551616 := by
  simp only [Lit.wf, decide_eq_true_eq] at h
  exact h
/-- An array of three floats. -/
theorem arr_floats3 {t e : TypeId} {cs : List Value} (ht : P.underlying t = some (.array 3 e)) (he : P.underlying e = some (.float .f64)) (ce : P.cellsOf e = 1) (ct : P.cellsOf t = 3) (h : Rd enc P w t cs) :
    ∃ a b c : Nat, cs = [.float .f64 a, .float .f64 b, .float .f64 c] ∧ a < 18446744073709551616 ∧ b < 18446744073709551616 ∧ c < 18446744073709551616 := by
  obtain ⟨h1, h2⟩ := rd_array ht h
  rw [ct] at h1
  obtain ⟨x, y, z, rfl⟩ := list3 h1
  have g0 := h2 0 (by omega)
  have g1 := h2 1 (by omega)
  have g2 := h2 2 (by omega)
  rw [ce] at g0 g1 g2
  simp only [Nat.mul_one, List.drop_zero, List.take_succ_cons, List.take_zero, List.drop_succ_cons] at g0 g1 g2
  obtain ⟨a, ha, wa⟩ := rd_float he g0
  obtain ⟨b, hb, wb⟩ := rd_float he g1
  obtain ⟨c, hc, wc⟩ := rd_float he g2
  injection ha with ha; injection hb with hb; injection hc with hc
  subst ha hb hc
  exact ⟨a, b, c, rfl, float_bd wa, float_bd wb, float_bd wc⟩
end

end Go.Proofs.YtkeiehgojclecaaDoor
