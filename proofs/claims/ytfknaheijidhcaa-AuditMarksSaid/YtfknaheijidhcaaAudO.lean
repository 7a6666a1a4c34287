/- A heap while it is built: its words, its count, in memory. -/
import Derived.Test.YtfknaheijidhcaaAudK

import Derived.Test.YtfknaheijidhcaaRefK

namespace Go.Proofs.Ytfknaheijidhcaa

open Go.RowKit

def rowU (xs : List Int) : Array Value := (xs.map (Value.int .u64)).toArray
/-- What lies where: the shape at block H, the words at block G, the count at block N. -/
structure Stt (w0 w : World) (H G N : Nat) (n : Int) (xs : List Int) (c : Cn) : Prop where
  shape : w.heap[H]? = some (.cells #[.int .i64 n, .int .i64 2, .int .i64 0] 23 (0, 0))
  words : w.heap[G]? = some (.cells (rowU xs) 41 (0, 0))
  count : CntAt w N c
  below : Below w0.heap.size w0 w
  apart : w0.heap.size ≤ H ∧ H < G ∧ G < N
section

variable {w0 w w' : World} {H G N : Nat} {n : Int} {xs : List Int} {c : Cn}

theorem Stt.lts (h : Stt w0 w H G N n xs c) : H < w.heap.size ∧ G < w.heap.size ∧ N < w.heap.size := ⟨(Array.getElem?_eq_some_iff.1 h.shape).1, (Array.getElem?_eq_some_iff.1 h.words).1, h.count.lt⟩
theorem Stt.of (h : Stt w0 w H G N n xs c) (hb : Below w.heap.size w w') : Stt w0 w' H G N n xs c := by
  obtain ⟨l1, l2, l3⟩ := h.lts
  exact ⟨(hb.block _ l1).trans h.shape, (hb.block _ l2).trans h.words, h.count.below hb, h.below.trans (hb.mono h.below.size), h.apart⟩
theorem Stt.setW (h : Stt w0 w H G N n xs c) (j : Nat) (x : Int) : Stt w0 (w.setCell ⟨G, j, .none⟩ (.int .u64 x)) H G N n (xs.set j x) c := by
  obtain ⟨a1, a2, a3⟩ := h.apart
  refine ⟨(heap_setCell_other w ⟨G, j, .none⟩ H _ (by simp; omega)).trans h.shape, ?_, (heap_setCell_other w ⟨G, j, .none⟩ N _ (by simp; omega)).trans h.count, ?_, h.apart⟩
  · rw [heap_setCell_same w G j _ _ _ h.words]
    simp [rowU, List.map_set]
  · exact Below.setCell h.below (by simp; omega) _
theorem Stt.setN (h : Stt w0 w H G N n xs c) (i : Nat) (v : Value) {c' : Cn} (hc : CntAt (w.setCell ⟨N, i, .none⟩ v) N c') : Stt w0 (w.setCell ⟨N, i, .none⟩ v) H G N n xs c' := by
  obtain ⟨a1, a2, a3⟩ := h.apart
  exact ⟨(heap_setCell_other w ⟨N, i, .none⟩ H _ (by simp; omega)).trans h.shape, (heap_setCell_other w ⟨N, i, .none⟩ G _ (by simp; omega)).trans h.words, hc, Below.setCell h.below (by simp; omega) _, h.apart⟩
theorem Stt.set0 (h : Stt w0 w H G N n xs c) (x : Int) : Stt w0 (w.setCell ⟨N, 0, .none⟩ (.int .i64 x)) H G N n xs ⟨x, c.t, c.l, c.o⟩ := h.setN 0 _ (h.count.set0 x)
theorem Stt.set1 (h : Stt w0 w H G N n xs c) (x : Int) : Stt w0 (w.setCell ⟨N, 1, .none⟩ (.int .i64 x)) H G N n xs ⟨c.f, x, c.l, c.o⟩ := h.setN 1 _ (h.count.set1 x)
theorem Stt.set2 (h : Stt w0 w H G N n xs c) (x : Int) : Stt w0 (w.setCell ⟨N, 2, .none⟩ (.int .i64 x)) H G N n xs ⟨c.f, c.t, x, c.o⟩ := h.setN 2 _ (h.count.set2 x)
theorem Stt.set3 (h : Stt w0 w H G N n xs c) (x : Int) : Stt w0 (w.setCell ⟨N, 3, .none⟩ (.int .i64 x)) H G N n xs ⟨c.f, c.t, c.l, x⟩ := h.setN 3 _ (h.count.set3 x)
theorem Stt.s0 (h : Stt w0 w H G N n xs c) : w.cell? ⟨H, 0, .none⟩ = some (.int .i64 n) := rowCells h.shape 0
theorem Stt.s1 (h : Stt w0 w H G N n xs c) : w.cell? ⟨H, 1, .none⟩ = some (.int .i64 2) := rowCells h.shape 1
theorem Stt.s2 (h : Stt w0 w H G N n xs c) : w.cell? ⟨H, 2, .none⟩ = some (.int .i64 0) := rowCells h.shape 2
theorem Stt.wc (h : Stt w0 w H G N n xs c) (j : Nat) (hj : j < xs.length) : w.cell? ⟨G, j, .none⟩ = some (.int .u64 xs[j]) := by
  refine (rowCells h.words j).trans ?_
  simp [rowU, hj]
theorem Stt.wf (h : Stt w0 w H G N n xs c) (j : Nat) : w.frozen? ⟨G, j, .none⟩ = false := rowFree h.words j
theorem Stt.rd (h : Stt w0 w H G N n xs c) (hl : xs.length ≤ 100000) : RdZ .u64 w (.slice (some ⟨G, 0, .none⟩) xs.length xs.length) xs := by
  have := RdS.new (w := w) (g := G) (cs := rowU xs) (t := 41) (sz := 1) (n := xs.length) h.words (by simp [rowU]) (by omega)
  simpa [RdZ, rowU] using this
end

theorem and3 (x : Int) (h0 : 0 ≤ x) (h1 : x < 256) : bits .and .u8 x 3 = x % 4 :=
  bits_mask .u8 8 (by decide) wraps_u8 2 (by decide) x h0 h1
end Go.Proofs.Ytfknaheijidhcaa
