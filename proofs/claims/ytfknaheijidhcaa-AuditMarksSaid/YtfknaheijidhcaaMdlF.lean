/- What a model is in memory; the search in it. -/
import Derived.Test.YtfknaheijidhcaaRwC

import Derived.Test.YtfknaheijidhcaaMdlP

import Derived.Deep.DrawnRows

namespace Go.Proofs.Ytfknaheijidhcaa

open Go.RowKit

def Bk.cells (b : Bk) : List Value := [.int .i64 b.a, .int .i64 b.n]
def flatB (l : List Bk) : List Value := l.flatMap Bk.cells
theorem flatB_length (l : List Bk) : (flatB l).length = l.length * 2 := by
  induction l with
  | nil => rfl
  | cons b l ih => show (b.cells ++ flatB l).length = _; rw [List.length_append, ih, List.length_cons]; show 2 + _ = _; omega
theorem flatB_append (l k : List Bk) : flatB (l ++ k) = flatB l ++ flatB k := by simp [flatB]
theorem flatB_get (l : List Bk) (i j : Nat) (hi : i < l.length) (hj : j < 2) : (flatB l)[i * 2 + j]? = (l[i].cells)[j]? := by
  induction l generalizing i with
  | nil => simp at hi
  | cons b l ih =>
    show (b.cells ++ flatB l)[i * 2 + j]? = _
    have hl : b.cells.length = 2 := rfl
    cases i with
    | zero => rw [List.getElem?_append_left (by omega)]; simp
    | succ i =>
      rw [List.getElem?_append_right (by omega), hl, show (i + 1) * 2 + j - 2 = i * 2 + j from by omega]
      simpa using ih i (by simpa using hi)
theorem flatB_take (l : List Bk) (k : Nat) : (flatB l).take (k * 2) = flatB (l.take k) := by
  induction k generalizing l with
  | zero => simp [flatB]
  | succ k ih =>
    cases l with
    | nil => simp [flatB]
    | cons b l =>
      show (b.cells ++ flatB l).take _ = b.cells ++ flatB (l.take k)
      rw [← ih, List.take_append, show b.cells.length = 2 from rfl, show (k + 1) * 2 - 2 = k * 2 from by omega, List.take_of_length_le (by show 2 ≤ _; omega)]
theorem flatB_drop (l : List Bk) (k : Nat) : (flatB l).drop (k * 2) = flatB (l.drop k) := by
  induction k generalizing l with
  | zero => simp
  | succ k ih =>
    cases l with
    | nil => simp [flatB]
    | cons b l =>
      show (b.cells ++ flatB l).drop _ = flatB (l.drop k)
      rw [← ih, List.drop_append, show b.cells.length = 2 from rfl, show (k + 1) * 2 - 2 = k * 2 from by omega, List.drop_of_length_le (by show 2 ≤ _; omega)]
      rfl
theorem flatB_one (l : List Bk) : ∀ u ∈ flatB l, u.oneCell' = true := by
  intro u hu
  obtain ⟨b, _, hb⟩ := List.mem_flatMap.1 hu
  simp only [Bk.cells, List.mem_cons, List.not_mem_nil, or_false] at hb
  rcases hb with rfl | rfl <;> rfl

/-- A slice that reads as a row of blocks. -/
def RdK (w : World) (v : Value) (l : List Bk) : Prop := RdS w 2 v l.length (flatB l)
theorem RdK.nth {w : World} {v : Value} {l : List Bk} (r : RdK w v l) : ∃ ao cap, v = .slice ao l.length cap ∧ l.length ≤ cap ∧ (cap : Int) ≤ 9223372036854775807 ∧ (l ≠ [] → ∃ b off, ao = some ⟨b, off, .none⟩ ∧ b < w.heap.size ∧
    ∀ i (hi : i < l.length), w.cell? ⟨b, off + i * 2, .none⟩ = some (.int .i64 l[i].a) ∧ w.cell? ⟨b, off + i * 2 + 1, .none⟩ = some (.int .i64 l[i].n)) := by
  obtain ⟨ao, cap, e, h1, h2, _, h4⟩ := r
  refine ⟨ao, cap, e, h1, h2, fun hn => ?_⟩
  obtain ⟨b, off, ea, hlt, hc⟩ := h4 (fun h => hn (List.eq_nil_of_length_eq_zero h))
  refine ⟨b, off, ea, hlt, fun i hi => ⟨?_, ?_⟩⟩
  · have := hc (i * 2) (by omega)
    rw [this, show i * 2 = i * 2 + 0 from rfl, flatB_get l i 0 hi (by omega)]
    rfl
  · have := hc (i * 2 + 1) (by omega)
    rw [Nat.add_assoc, this, flatB_get l i 1 hi (by omega)]
    rfl

/-- The model that lies at block s: its slice's value, its words, its blocks. 'B': all of it lies from block B on. -/
structure Mdl (T E : TypeId) (B : Nat) (w : World) (s : Nat) (sl : Value) (W : Int) (l : List Bk) : Prop where
  lies : B ≤ s
  head : w.heap[s]? = some (.cells #[sl, .int .i64 W] T (0, 0))
  owns : w.ownsRow B E 2 sl l.length (flatB l)
  apart : sl.ownBlock ≠ some s
  ok : okK W 0 l
  small : W ≤ 4096

section

variable {T E : TypeId} {B : Nat} {w w' : World} {s : Nat} {sl : Value} {W : Int} {l : List Bk}

theorem Mdl.lt (h : Mdl T E B w s sl W l) : s < w.heap.size := (Array.getElem?_eq_some_iff.1 h.head).1
theorem Mdl.rowLt (h : Mdl T E B w s sl W l) : ∀ k, sl.ownBlock = some k → B ≤ k ∧ k < w.heap.size := h.owns.lt
theorem Mdl.cell0 (h : Mdl T E B w s sl W l) : w.cell? ⟨s, 0, .none⟩ = some sl := by simpa using cell_of_row w s 0 _ T (0, 0) h.head
theorem Mdl.cell1 (h : Mdl T E B w s sl W l) : w.cell? ⟨s, 1, .none⟩ = some (.int .i64 W) := by simpa using cell_of_row w s 1 _ T (0, 0) h.head
theorem Mdl.free (h : Mdl T E B w s sl W l) (i : Nat) : w.frozen? ⟨s, i, .none⟩ = false := rowFree h.head i
theorem Mdl.rd (h : Mdl T E B w s sl W l) : RdK w sl l := RdS.of_own h.owns
theorem Mdl.blocks (h : Mdl T E B w s sl W l) (hb : ∀ k, foot s sl k → w'.heap[k]? = w.heap[k]?) : Mdl T E B w' s sl W l :=
  ⟨h.lies, by rw [hb s (.inl rfl)]; exact h.head, ownsRow_of_blocks h.owns (fun k hk => hb k (.inr hk)), h.apart, h.ok, h.small⟩
theorem Mdl.below (h : Mdl T E B w s sl W l) (hb : Below w.heap.size w w') : Mdl T E B w' s sl W l :=
  h.blocks fun k hk => hb.block k (by rcases hk with rfl | hk; exact h.lt; exact (h.rowLt k hk).2)
theorem Mdl.only {F : Nat → Prop} (h : Mdl T E B w s sl W l) (ho : Only F w w') (hF : ∀ k, foot s sl k → ¬ F k) : Mdl T E B w' s sl W l :=
  h.blocks fun k hk => ho.block k (by rcases hk with rfl | hk; exact h.lt; exact (h.rowLt k hk).2) (hF k hk)
theorem Mdl.len (h : Mdl T E B w s sl W l) : l.length ≤ 4096 := by have := h.ok.len; have := h.small; omega
end

theorem cmpI_zero' (a b : Int) : (if a < b then (-1 : Int) else if b < a then 1 else 0) = 0 ↔ a = b := by
  split
  · omega
  · split <;> omega
/-- Which is ahead. -/
def cmpZ (a b : Int) : Int := if a < b then -1 else if b < a then 1 else 0

theorem isNaNint_any (x : Int) (w : World) : Calls Try.prog 87 #[.int .i64 x] w fun e w' => e = .returned (.bool false) ∧ w' = w := by
  have hx : (x != x) = false := by simp
  go_enter Try.func87, Try.ntmps87
  go_wp2
  go_ret
  exact ⟨rfl, rfl⟩
theorem cmpInt_any (a b : Int) (w : World) : Calls Try.prog 69 #[.int .i64 a, .int .i64 b] w fun e w' => e = .returned (.int .i64 (cmpZ a b)) ∧ w' = w := by
  unfold cmpZ
  by_cases h1 : a < b
  · rw [if_pos h1]
    go_enter Try.func69, Try.ntmps69
    go_wp2_with (go_at_call 87; refine (isNaNint_any _ _).mono ?_; rintro e w1 ⟨rfl, hw⟩; obtain rfl := hw.symm)
    go_ret
    exact ⟨rfl, rfl⟩
  · rw [if_neg h1]
    by_cases h2 : b < a
    · rw [if_pos h2]
      go_enter Try.func69, Try.ntmps69
      go_wp2_with (go_at_call 87; refine (isNaNint_any _ _).mono ?_; rintro e w1 ⟨rfl, hw⟩; obtain rfl := hw.symm)
      go_ret
      exact ⟨rfl, rfl⟩
    · rw [if_neg h2]
      go_enter Try.func69, Try.ntmps69
      go_wp2_with (go_at_call 87; refine (isNaNint_any _ _).mono ?_; rintro e w1 ⟨rfl, hw⟩; obtain rfl := hw.symm)
      go_ret
      exact ⟨rfl, rfl⟩
end Go.Proofs.Ytfknaheijidhcaa
