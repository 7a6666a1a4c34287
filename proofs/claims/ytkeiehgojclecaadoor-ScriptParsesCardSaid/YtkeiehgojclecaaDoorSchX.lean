/- The walk of sched.Weave. -/
import Derived.Test.YtkeiehgojclecaaDoorSchW

import Derived.Test.YtkeiehgojclecaaDoorRw

import Derived.Deep.DrawnRows

namespace Go.Proofs.YtkeiehgojclecaaDoor

open Go.RowKit Fl

attribute [local go_sem ↓] Go.wp_at_zero Go.wp_at_succ

attribute [local go_sem high] run_cut_l run_cut_h run_cut_lh

theorem RdC.s {w : World} {v : Value} {xs : List Ch} (h : RdC w v xs) : RdS w 6 v xs.length (flatC xs) := by
  obtain ⟨ao, cap, e, h1, h2, h3⟩ := h
  refine ⟨ao, cap, e, h1, h2, flatC_length xs, fun hn => ?_⟩
  obtain ⟨b, off, ea, hlt, hc⟩ := h3 (fun h => by subst h; simp at hn)
  refine ⟨b, off, ea, hlt, fun i hi => ?_⟩
  have e1 : i = i / 6 * 6 + i % 6 := by omega
  rw [e1, ← Nat.add_assoc, hc (i / 6) (i % 6) (by omega) (by omega), flatC_get xs _ _ (by omega) (by omega)]
theorem RdS.c {w : World} {v : Value} {n : Nat} {xs : List Ch} (h : RdS w 6 v n (flatC xs)) : RdC w v xs := by
  obtain ⟨ao, cap, e, h1, h2, h3, h4⟩ := h
  have hn : n = xs.length := by rw [flatC_length] at h3; omega
  subst hn
  refine ⟨ao, cap, e, h1, h2, fun hx => ?_⟩
  obtain ⟨b, off, ea, hlt, hc⟩ := h4 (fun h => hx (List.eq_nil_of_length_eq_zero h))
  refine ⟨b, off, ea, hlt, fun i j hi hj => ?_⟩
  rw [← flatC_get xs i j hi hj, Nat.add_assoc]
  exact hc _ (by omega)
theorem flatC_drop (xs : List Ch) (k : Nat) : (flatC xs).drop (k * 6) = flatC (xs.drop k) := by
  induction k generalizing xs with
  | zero => simp
  | succ k ih =>
    cases xs with
    | nil => simp [flatC]
    | cons x xs =>
      show (x.cells ++ flatC xs).drop _ = flatC (xs.drop k)
      rw [← ih, List.drop_append, show x.cells.length = 6 from rfl, show (k + 1) * 6 - 6 = k * 6 from by omega, List.drop_of_length_le (by show 6 ≤ _; omega)]
      rfl
theorem flatC_take (xs : List Ch) (k : Nat) : (flatC xs).take (k * 6) = flatC (xs.take k) := by
  induction k generalizing xs with
  | zero => simp [flatC]
  | succ k ih =>
    cases xs with
    | nil => simp [flatC]
    | cons x xs =>
      show (x.cells ++ flatC xs).take _ = x.cells ++ flatC (xs.take k)
      rw [← ih, List.take_append, show x.cells.length = 6 from rfl, show (k + 1) * 6 - 6 = k * 6 from by omega, List.take_of_length_le (by show 6 ≤ _; omega)]
/-- A cut of a row of choices. -/
theorem RdC.cut {w : World} {ao : Option Addr} {n cap l h : Nat} {xs : List Ch} (r : RdC w (.slice ao n cap) xs) (hl : l ≤ h) (hh : h ≤ n) : RdC w (cutV ao l h cap 6) ((xs.drop l).take (h - l)) := by
  have hn : n = xs.length := by obtain ⟨_, _, e, _⟩ := r; injection e
  subst hn
  have := r.s.cut hl hh
  rw [flatC_drop, flatC_take] at this
  exact this.c
theorem RdC.first {w : World} {v : Value} {x : Ch} {xs : List Ch} (r : RdC w v (x :: xs)) : ∃ b off cap, v = .slice (some ⟨b, off, .none⟩) (xs.length + 1) cap ∧ xs.length + 1 ≤ cap ∧ (cap : Int) ≤ 9223372036854775807 ∧ b < w.heap.size ∧
    w.cell? ⟨b, off, .none⟩ = some (.int .i64 x.kind) ∧ w.cell? ⟨b, off + 1, .none⟩ = some (.int .i64 x.client) ∧ w.cell? ⟨b, off + 2, .none⟩ = some (.int .i64 x.ok) ∧ w.cell? ⟨b, off + 3, .none⟩ = some (.int .i64 x.oa) ∧
    w.cell? ⟨b, off + 4, .none⟩ = some (.int .i64 x.on) ∧ w.cell? ⟨b, off + 5, .none⟩ = some (.float .f64 x.bias) := by
  obtain ⟨ao, cap, e, h1, h2, h3⟩ := r
  obtain ⟨b, off, rfl, hlt, hc⟩ := h3 (by simp)
  have hc' := fun j hj => hc 0 j (by simp) hj
  simp only [Nat.zero_mul, Nat.add_zero, List.getElem_cons_zero] at hc'
  exact ⟨b, off, cap, e, h1, h2, hlt, hc' 0 (by omega), hc' 1 (by omega), hc' 2 (by omega), hc' 3 (by omega), hc' 4 (by omega), hc' 5 (by omega)⟩

def weaveL : List Ch → List Ch → List Bool → List Ch
  | a, b, [] => a ++ b
  | [], [], _ :: _ => []
  | a, y :: b, true :: l => y :: weaveL a b l
  | [], y :: b, false :: l => y :: weaveL [] b l
  | x :: a, b, false :: l => x :: weaveL a b l
  | x :: a, [], true :: l => x :: weaveL a [] l
theorem weaveL_length (a b : List Ch) (l : List Bool) : (weaveL a b l).length = a.length + b.length := by
  induction l generalizing a b with
  | nil => simp [weaveL]
  | cons t l ih =>
    cases a <;> cases b <;> cases t <;> simp [weaveL, ih] <;> omega

/-- A row of bools. -/
def RdB (w : World) (v : Value) (l : List Bool) : Prop := RdS w 1 v l.length (l.map .bool)

/-- What holds of the loop of Weave ahead of bit i. -/
def WvRel (B : Nat) (w : World) (l : List Bool) (tot : List Ch) (i : Nat) (va vb vo : Value) (wr : World) : Prop :=
  ∃ a b out : List Ch, RdC w va a ∧ RdC w vb b ∧ OC B wr vo out ∧ out ++ weaveL a b (l.drop i) = tot ∧ Below B w wr
theorem cell_b {w : World} {v : Value} {l : List Bool} (h : RdB w v l) : ∃ ao cap, v = .slice ao l.length cap ∧ l.length ≤ cap ∧ (cap : Int) ≤ 9223372036854775807 ∧
    ∀ i (hi : i < l.length), ∃ b off, ao = some ⟨b, off, .none⟩ ∧ b < w.heap.size ∧ w.cell? ⟨b, off + i, .none⟩ = some (.bool l[i]) := by
  obtain ⟨ao, cap, e, h1, h2, _, h4⟩ := h
  refine ⟨ao, cap, e, h1, h2, fun i hi => ?_⟩
  obtain ⟨b, off, ea, hlt, hc⟩ := h4 (by omega)
  refine ⟨b, off, ea, hlt, (hc i (by omega)).trans ?_⟩
  simp [hi]

theorem flat_one (xs : List Ch) : ∀ u ∈ flatC xs, u.oneCell' = true := by
  intro u hu
  obtain ⟨c, _, hc⟩ := List.mem_flatMap.1 hu
  exact Ch.one c u hc
theorem nm (k : Nat) : ∃ n, Hid (n = k) ∧ n = k := ⟨k, Lib.hid rfl, rfl⟩

theorem wv_b {B : Nat} {w w1 : World} {l : List Bool} {tot a b' out : List Ch} {y : Ch} {aa : Value} {bb : Option Addr} {cb n m q i : Nat} {v1 : Value} (ra : RdC w aa a) (rb : RdC w (.slice bb (m + 1) cb) (y :: b')) (_hn : n = a.length) (_hm : m = b'.length) (hq : q = out.length)
    (hown : w1.ownsRow B 46 6 v1 (q + 1) (flatC out ++ y.cells)) (hb : Below B w w1) (he : out ++ y :: weaveL a b' (l.drop (i + 1)) = tot) : WvRel B w l tot (i + 1) aa (cutV bb 1 (m + 1) cb 6) v1 w1 := by
  have hc := rb.cut (l := 1) (h := m + 1) (by omega) (by omega)
  rw [List.drop_succ_cons, List.drop_zero, Nat.add_sub_cancel, List.take_of_length_le (by omega)] at hc
  refine ⟨a, b', out ++ [y], ra, hc, ?_, by rw [List.append_assoc]; exact he, hb⟩
  show w1.ownsRow _ _ 6 _ (out ++ [y]).length (flatC (out ++ [y]))
  rw [flatC_append, List.length_append, ← hq]
  exact hown
theorem wv_a {B : Nat} {w w1 : World} {l : List Bool} {tot a' b out : List Ch} {x : Ch} {bb : Value} {aa : Option Addr} {ca n m q i : Nat} {v1 : Value} (ra : RdC w (.slice aa (n + 1) ca) (x :: a')) (rb : RdC w bb b) (hn : n = a'.length) (_hm : m = b.length) (hq : q = out.length)
    (hown : w1.ownsRow B 46 6 v1 (q + 1) (flatC out ++ x.cells)) (hb : Below B w w1) (he : out ++ x :: weaveL a' b (l.drop (i + 1)) = tot) : WvRel B w l tot (i + 1) (cutV aa 1 (n + 1) ca 6) bb v1 w1 := by
  have hc := ra.cut (l := 1) (h := n + 1) (by omega) (by omega)
  rw [List.drop_succ_cons, List.drop_zero, Nat.add_sub_cancel, List.take_of_length_le (by omega)] at hc
  refine ⟨a', b, out ++ [x], hc, rb, ?_, by rw [List.append_assoc]; exact he, hb⟩
  show w1.ownsRow _ _ 6 _ (out ++ [x]).length (flatC (out ++ [x]))
  rw [flatC_append, List.length_append, ← hq]
  exact hown

end Go.Proofs.YtkeiehgojclecaaDoor
