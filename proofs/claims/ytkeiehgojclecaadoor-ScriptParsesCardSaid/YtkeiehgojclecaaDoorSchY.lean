/- The walk of the reference's Weave. -/
import Derived.Test.YtkeiehgojclecaaDoorSchS

namespace Go.Proofs.YtkeiehgojclecaaDoor

open Go.RowKit Fl

attribute [local go_sem ↓] Go.wp_at_zero Go.wp_at_succ

attribute [local go_sem high] run_cut_l run_cut_h run_cut_lh

/-- The cells of one choice of a row. -/
theorem RdC.nth {w : World} {ao : Option Addr} {n cap : Nat} {xs : List Ch} (r : RdC w (.slice ao n cap) xs) (i : Nat) (hi : i < xs.length) : ∃ b off, ao = some ⟨b, off, .none⟩ ∧ b < w.heap.size ∧
    w.cell? ⟨b, off + i * 6, .none⟩ = some (.int .i64 xs[i].kind) ∧ w.cell? ⟨b, off + i * 6 + 1, .none⟩ = some (.int .i64 xs[i].client) ∧ w.cell? ⟨b, off + i * 6 + 2, .none⟩ = some (.int .i64 xs[i].ok) ∧ w.cell? ⟨b, off + i * 6 + 3, .none⟩ = some (.int .i64 xs[i].oa) ∧
    w.cell? ⟨b, off + i * 6 + 4, .none⟩ = some (.int .i64 xs[i].on) ∧ w.cell? ⟨b, off + i * 6 + 5, .none⟩ = some (.float .f64 xs[i].bias) := by
  obtain ⟨ao', cap', e, h1, h2, h3⟩ := r
  injection e with e1 _ _
  subst e1
  obtain ⟨b, off, rfl, hlt, hc⟩ := h3 (fun h => by subst h; simp at hi)
  exact ⟨b, off, rfl, hlt, hc i 0 hi (by omega), hc i 1 hi (by omega), hc i 2 hi (by omega), hc i 3 hi (by omega), hc i 4 hi (by omega), hc i 5 hi (by omega)⟩

theorem wv_takeb {l : List Bool} {tot a b out : List Ch} {x y i : Nat} (hi : i < l.length) (hy : y < b.length) (hor : l[i] = true ∨ x = a.length) (he : out ++ weaveL (a.drop x) (b.drop y) (l.drop i) = tot) :
    (out ++ [b[y]]) ++ weaveL (a.drop x) (b.drop (y + 1)) (l.drop (i + 1)) = tot := by
  rw [← he, List.drop_eq_getElem_cons hi, List.drop_eq_getElem_cons hy, List.append_assoc]
  congr 1
  rcases hor with h | h
  · rw [h]
    cases a.drop x <;> rfl
  · rw [List.drop_of_length_le (by omega)]
    cases l[i] <;> rfl
theorem wv_takea {l : List Bool} {tot a b out : List Ch} {x y i : Nat} (hi : i < l.length) (hx : x < a.length) (hor : l[i] = false ∨ y = b.length) (he : out ++ weaveL (a.drop x) (b.drop y) (l.drop i) = tot) :
    (out ++ [a[x]]) ++ weaveL (a.drop (x + 1)) (b.drop y) (l.drop (i + 1)) = tot := by
  rw [← he, List.drop_eq_getElem_cons hi, List.drop_eq_getElem_cons hx, List.append_assoc]
  congr 1
  rcases hor with h | h
  · rw [h]
    cases b.drop y <;> rfl
  · rw [show b.drop y = [] from List.drop_of_length_le (by omega)]
    cases l[i] <;> rfl
theorem wv_len {l : List Bool} {tot a b out : List Ch} {x y : Nat} (he : out ++ weaveL (a.drop x) (b.drop y) l = tot) (_hx : x ≤ a.length) (_hy : y ≤ b.length) : out.length + (a.length - x) + (b.length - y) = tot.length := by
  rw [← he, List.length_append, weaveL_length, List.length_drop, List.length_drop]
  omega

end Go.Proofs.YtkeiehgojclecaaDoor
