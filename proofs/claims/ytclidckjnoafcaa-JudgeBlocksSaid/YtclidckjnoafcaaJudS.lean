/- A judge's state in memory. -/
import Derived.Test.YtclidckjnoafcaaJudB

import Derived.Test.YtclidckjnoafcaaQTail

namespace Go.Proofs.Ytclidckjnoafcaa

open Go.RowKit

/-- The judge's slice of clients. -/
def pvV (pb n : Nat) : Value := if n = 0 then .slice none 0 0 else .slice (some ⟨pb, 0, .none⟩) n n
structure JgA (B : Nat) (w : World) (jb s pb : Nat) (sl : Value) (J : Jd) : Prop where
  head : w.heap[jb]? = some (.cells #[.pointer (some ⟨s, 0, .none⟩), pvV pb J.ps.length, .int .i64 J.m, .int .i64 J.at', .int .i64 J.why] 47 (0, 0))
  model : PM B w s sl J.W J.l
  row : J.ps ≠ [] → RowP w pb J.ps
  lies : B ≤ jb ∧ B ≤ pb
  plt : pb < w.heap.size
  apart : jb ≠ s ∧ pb ≠ s ∧ pb ≠ jb ∧ sl.ownBlock ≠ some jb ∧ sl.ownBlock ≠ some pb
/-- The judge's blocks. -/
def footJ (jb s pb : Nat) (sl : Value) : Nat → Prop := fun k => k = jb ∨ k = pb ∨ foot s sl k
section

variable {B : Nat} {w w' : World} {jb s pb : Nat} {sl sl' : Value} {J : Jd}

theorem JgA.lt (h : JgA B w jb s pb sl J) : jb < w.heap.size := (Array.getElem?_eq_some_iff.1 h.head).1
theorem JgA.below (h : JgA B w jb s pb sl J) (hb : Below w.heap.size w w') : JgA B w' jb s pb sl J :=
  ⟨(hb.block _ h.lt).trans h.head, h.model.below hb, fun e => (h.row e).of_block (hb.block _ (h.row e).lt), h.lies, Nat.lt_of_lt_of_le h.plt hb.size, h.apart⟩
theorem JgA.h0 (h : JgA B w jb s pb sl J) : w.cell? ⟨jb, 0, .none⟩ = some (.pointer (some ⟨s, 0, .none⟩)) := rowCells h.head 0
theorem JgA.h1 (h : JgA B w jb s pb sl J) : w.cell? ⟨jb, 1, .none⟩ = some (pvV pb J.ps.length) := rowCells h.head 1
theorem JgA.h2 (h : JgA B w jb s pb sl J) : w.cell? ⟨jb, 2, .none⟩ = some (.int .i64 J.m) := rowCells h.head 2
theorem JgA.h3 (h : JgA B w jb s pb sl J) : w.cell? ⟨jb, 3, .none⟩ = some (.int .i64 J.at') := rowCells h.head 3
theorem JgA.h4 (h : JgA B w jb s pb sl J) : w.cell? ⟨jb, 4, .none⟩ = some (.int .i64 J.why) := rowCells h.head 4
theorem JgA.fr (h : JgA B w jb s pb sl J) (i : Nat) : w.frozen? ⟨jb, i, .none⟩ = false := rowFree h.head i
/-- The model has changed. -/
theorem JgA.setM (h : JgA B w jb s pb sl J) {l' : List Bk} (hm : PM B w' s sl' J.W l') (ho : Only (foot s sl) w w') (hf : ∀ k, foot s sl' k → foot s sl k ∨ w.heap.size ≤ k) : JgA B w' jb s pb sl' { J with l := l' } := by
  obtain ⟨a1, a2, a3, a4, a5⟩ := h.apart
  have hj : ¬ foot s sl jb := by rintro (e | e); exact a1 e; exact a4 e
  have hp : ¬ foot s sl pb := by rintro (e | e); exact a2 e; exact a5 e
  refine ⟨(ho.block _ h.lt hj).trans h.head, hm, fun e => (h.row e).of_block (ho.block _ (h.row e).lt hp), h.lies, Nat.lt_of_lt_of_le h.plt ho.size, a1, a2, a3, fun e => ?_, fun e => ?_⟩
  · rcases hf jb (.inr e) with h1 | h1
    · exact hj h1
    · have := h.lt; omega
  · rcases hf pb (.inr e) with h1 | h1
    · exact hp h1
    · have := h.plt; omega
/-- One client has changed. -/
theorem JgA.setP (h : JgA B w jb s pb sl J) {qs : List Pt} (hl : qs.length = J.ps.length) (hr : RowP w' pb qs) (ho : Only (atP pb) w w') : JgA B w' jb s pb sl { J with ps := qs } := by
  obtain ⟨a1, a2, a3, a4, a5⟩ := h.apart
  refine ⟨?_, ?_, fun _ => hr, h.lies, Nat.lt_of_lt_of_le h.plt ho.size, h.apart⟩
  · show w'.heap[jb]? = _
    rw [ho.block _ h.lt (fun e => a3 e.symm), h.head, hl]
  · have hm := h.model
    refine ⟨hm.lies, (ho.block _ hm.lt (fun e => a2 e.symm)).trans hm.head, ownsRow_of_blocks hm.owns fun k hk => ho.block _ (hm.owns.lt k hk).2 (fun e => a5 (by rw [hk, e])), hm.apart, hm.ok, hm.small⟩
/-- The judge's own cells have changed. -/
theorem JgA.setJ (h : JgA B w jb s pb sl J) (m at' why : Int) (hh : w'.heap[jb]? = some (.cells #[.pointer (some ⟨s, 0, .none⟩), pvV pb J.ps.length, .int .i64 m, .int .i64 at', .int .i64 why] 47 (0, 0))) (ho : Only (atP jb) w w') : JgA B w' jb s pb sl { J with m := m, at' := at', why := why } := by
  obtain ⟨a1, a2, a3, a4, a5⟩ := h.apart
  refine ⟨hh, ?_, fun e => (h.row e).of_block (ho.block _ (h.row e).lt (fun e => a3 e)), h.lies, Nat.lt_of_lt_of_le h.plt ho.size, h.apart⟩
  have hm := h.model
  exact ⟨hm.lies, (ho.block _ hm.lt (fun e => a1 e.symm)).trans hm.head, ownsRow_of_blocks hm.owns fun k hk => ho.block _ (hm.owns.lt k hk).2 (fun e => a4 (by rw [hk, e])), hm.apart, hm.ok, hm.small⟩
end

end Go.Proofs.Ytclidckjnoafcaa
