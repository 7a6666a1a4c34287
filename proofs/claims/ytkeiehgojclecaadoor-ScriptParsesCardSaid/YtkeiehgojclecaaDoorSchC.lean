/- The walks of Cut, of package sched and of the reference. -/
import Derived.Test.YtkeiehgojclecaaDoorSchX

namespace Go.Proofs.YtkeiehgojclecaaDoor

open Go.RowKit Fl

attribute [local go_sem ↓] Go.wp_at_zero Go.wp_at_succ

attribute [local go_sem high] run_cut_l run_cut_h run_cut_lh

theorem infoChR : (Tryd.prog.info? 45).map (fun i => (i.zero, i.size, i.bytes)) = some (some zeroCh, 6, 48) := by kernel_rfl
def killC (c : Int) : Ch := ⟨4, c, 0, 0, 0, 0⟩
def cutK (xs : List Ch) (t : Int) : Nat := (max 0 (min t (xs.length : Int))).toNat
theorem cutK_le (xs : List Ch) (t : Int) : cutK xs t ≤ xs.length := by unfold cutK; omega
def cutL (xs : List Ch) (t c : Int) : List Ch := xs.take (cutK xs t) ++ killC c :: xs.drop (cutK xs t)
theorem cut_end {w : World} {E : TypeId} {B k n : Nat} {xs : List Ch} {t c : Int} {v : Value} (hk : k = cutK xs t) (hn : n = xs.length)
    (h : w.ownsRow B E 6 v (k + 1 + (n - k)) (flatC (xs.take k) ++ (killC c).cells ++ flatC (xs.drop k))) : OwnC E B w v (cutL xs t c) := by
  subst hk hn
  have hl := cutK_le xs t
  have e1 : (cutL xs t c).length = cutK xs t + 1 + (xs.length - cutK xs t) := by
    unfold cutL; rw [List.length_append, List.length_take, List.length_cons, List.length_drop]; omega
  have e2 : flatC (cutL xs t c) = flatC (xs.take (cutK xs t)) ++ (killC c).cells ++ flatC (xs.drop (cutK xs t)) := by
    unfold cutL; rw [flatC_append, List.append_assoc]; rfl
  show w.ownsRow B E 6 v _ _
  rw [e1, e2]
  exact h

end Go.Proofs.YtkeiehgojclecaaDoor
