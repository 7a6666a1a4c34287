/- A judge in memory. -/
import Derived.Test.YtclidckjnoafcaaJudP

import Derived.Test.YtclidckjnoafcaaMdlK

import Derived.Test.YtclidckjnoafcaaMdlW

import Derived.Test.YtclidckjnoafcaaMdlG

import Derived.Test.YtclidckjnoafcaaRwO

import Derived.Test.YtclidckjnoafcaaPlnS

import Derived.Deep.CutBlock

namespace Go.Proofs.Ytclidckjnoafcaa

open Go.RowKit

def Ev.cells (e : Ev) : Array Value := #[.int .i64 e.k, .int .i64 e.c, .int .i64 e.ok, .int .i64 e.oa, .int .i64 e.on, .int .i64 e.at', .int .i64 e.n, .int .i64 e.er]
def Ev.val (e : Ev) : Value := .agg e.cells
def Pt.cells (p : Pt) : List Value := [.bool p.was, .bool p.lives, .bool p.asks, .int .i64 p.k, .int .i64 p.a, .int .i64 p.n, .bool p.took, .bool p.gave, .int .i64 p.at', .bool p.ab]
theorem Pt.cells_len (p : Pt) : p.cells.length = 10 := rfl
def ptsC (ps : List Pt) : List Value := ps.flatMap Pt.cells
theorem ptsC_len (ps : List Pt) : (ptsC ps).length = ps.length * 10 := flatF_length Pt.cells 10 Pt.cells_len ps
theorem ptsC_append (a b : List Pt) : ptsC (a ++ b) = ptsC a ++ ptsC b := by simp [ptsC]
theorem ptsC_get (ps : List Pt) (i j : Nat) (hi : i < ps.length) (hj : j < 10) : (ptsC ps)[i * 10 + j]? = (ps[i]).cells[j]? := flatF_get Pt.cells 10 Pt.cells_len ps i j hi hj
/-- One cell of one client changes. -/
theorem ptsC_set (ps : List Pt) (i j : Nat) (v : Value) (q : Pt) (hi : i < ps.length) (hj : j < 10) (hq : (ps[i]).cells.set j v = q.cells) : (ptsC ps).set (i * 10 + j) v = ptsC (ps.set i q) := by
  have e : ps = ps.take i ++ ps[i] :: ps.drop (i + 1) := by rw [List.getElem_cons_drop, List.take_append_drop]
  have hl : (ps.take i).length = i := by rw [List.length_take]; omega
  have hr : ps.set i q = ps.take i ++ q :: ps.drop (i + 1) := by rw [List.set_eq_take_append_cons_drop, if_pos hi]
  have h1 : ptsC ps = ptsC (ps.take i) ++ ((ps[i]).cells ++ ptsC (ps.drop (i + 1))) := by
    conv => lhs; rw [e]
    rw [ptsC_append]; rfl
  have h2 : ptsC (ps.set i q) = ptsC (ps.take i) ++ (q.cells ++ ptsC (ps.drop (i + 1))) := by rw [hr, ptsC_append]; rfl
  have h3 : (ptsC (ps.take i)).length = i * 10 := by rw [ptsC_len, hl]
  rw [h1, h2, List.set_append_right _ _ (by omega), h3, Nat.add_sub_cancel_left, List.set_append_left _ _ (by rw [Pt.cells_len]; exact hj), hq]
/-- The clients, in a block. -/
def RowP (w : World) (pb : Nat) (ps : List Pt) : Prop := w.heap[pb]? = some (.cells (ptsC ps).toArray 61 (0, 0))
section

variable {w w' : World} {pb : Nat} {ps : List Pt}

theorem RowP.lt (h : RowP w pb ps) : pb < w.heap.size := (Array.getElem?_eq_some_iff.1 h).1
theorem RowP.of_block (h : RowP w pb ps) (hb : w'.heap[pb]? = w.heap[pb]?) : RowP w' pb ps := hb.trans h
theorem RowP.cell (h : RowP w pb ps) (i j : Nat) (hi : i < ps.length) (hj : j < 10) : w.cell? ⟨pb, i * 10 + j, .none⟩ = (ps[i]).cells[j]? := by
  rw [rowCells h, List.getElem?_toArray]; exact ptsC_get ps i j hi hj
theorem RowP.fr (h : RowP w pb ps) (j : Nat) : w.frozen? ⟨pb, j, .none⟩ = false := rowFree h j
theorem RowP.set (h : RowP w pb ps) (i j : Nat) (v : Value) (q : Pt) (hi : i < ps.length) (hj : j < 10) (hq : (ps[i]).cells.set j v = q.cells) : RowP (w.setCell ⟨pb, i * 10 + j, .none⟩ v) pb (ps.set i q) := by
  unfold RowP at *
  rw [heap_setCell_same w pb _ _ _ _ h, List.setIfInBounds_toArray, ptsC_set ps i j v q hi hj hq]
end

/-- One client's cells. -/
structure PtAt (w : World) (b o : Nat) (p : Pt) : Prop where
  lt : b < w.heap.size
  c0 : w.cell? ⟨b, o, .none⟩ = some (.bool p.was)
  c1 : w.cell? ⟨b, o + 1, .none⟩ = some (.bool p.lives)
  c2 : w.cell? ⟨b, o + 2, .none⟩ = some (.bool p.asks)
  c3 : w.cell? ⟨b, o + 3, .none⟩ = some (.int .i64 p.k)
  c4 : w.cell? ⟨b, o + 4, .none⟩ = some (.int .i64 p.a)
  c5 : w.cell? ⟨b, o + 5, .none⟩ = some (.int .i64 p.n)
  c6 : w.cell? ⟨b, o + 6, .none⟩ = some (.bool p.took)
  c7 : w.cell? ⟨b, o + 7, .none⟩ = some (.bool p.gave)
  c8 : w.cell? ⟨b, o + 8, .none⟩ = some (.int .i64 p.at')
  c9 : w.cell? ⟨b, o + 9, .none⟩ = some (.bool p.ab)
  fr : ∀ j, w.frozen? ⟨b, j, .none⟩ = false
theorem RowP.pt {w : World} {pb : Nat} {ps : List Pt} (h : RowP w pb ps) (i : Nat) (hi : i < ps.length) : PtAt w pb (i * 10) ps[i] :=
  ⟨h.lt, h.cell i 0 hi (by omega), h.cell i 1 hi (by omega), h.cell i 2 hi (by omega), h.cell i 3 hi (by omega), h.cell i 4 hi (by omega), h.cell i 5 hi (by omega), h.cell i 6 hi (by omega), h.cell i 7 hi (by omega), h.cell i 8 hi (by omega), h.cell i 9 hi (by omega), h.fr⟩
theorem PtAt.below {w w' : World} {b o : Nat} {p : Pt} (h : PtAt w b o p) (hb : Below w.heap.size w w') : PtAt w' b o p :=
  ⟨Nat.lt_of_lt_of_le h.lt hb.size, keepF hb _ _ _ h.c0, keepF hb _ _ _ h.c1, keepF hb _ _ _ h.c2, keepF hb _ _ _ h.c3, keepF hb _ _ _ h.c4, keepF hb _ _ _ h.c5, keepF hb _ _ _ h.c6, keepF hb _ _ _ h.c7, keepF hb _ _ _ h.c8, keepF hb _ _ _ h.c9, fun j => (hb.frozen (p := ⟨b, j, .none⟩) h.lt).trans (h.fr j)⟩

set_option maxHeartbeats 1000000 in
theorem done_any (p : Pt) (b o : Nat) (at' : Int) (w : World) (h : PtAt w b o p) :
    Calls Try.prog 39 #[.pointer (some ⟨b, o, .none⟩), .int .i64 at'] w fun e w' => e = .returned (.bool (doneB p at')) ∧ w' = w := by
  obtain ⟨hlt, c0, c1, c2, c3, c4, c5, c6, c7, c8, c9, hfr⟩ := h
  go_enter Try.func39, Try.ntmps39
  go_wp2
  all_goals go_ret
  all_goals exact ⟨ret_bool (by first | (simp_all [doneB]; done) | (rw [Bool.eq_iff_iff]; simp_all [doneB])), by first | rfl | trivial⟩

set_option maxHeartbeats 1000000 in
theorem refused_any (p : Pt) (b o : Nat) (w : World) (h : PtAt w b o p) :
    Calls Try.prog 40 #[.pointer (some ⟨b, o, .none⟩)] w fun e w' => e = .returned (.bool (refusedB p)) ∧ w' = w := by
  obtain ⟨hlt, c0, c1, c2, c3, c4, c5, c6, c7, c8, c9, hfr⟩ := h
  have hl := fun X => length_any p.n X
  go_enter Try.func40, Try.ntmps40
  go_wp2_with (go_at_call 36; refine (hl _).mono ?_; rintro e w1 ⟨rfl, hw⟩; obtain rfl := hw.symm)
  all_goals go_ret
  all_goals exact ⟨ret_bool (by simp_all [refusedB]), by first | rfl | trivial⟩

set_option maxRecDepth 100000 in
set_option maxHeartbeats 2000000 in
theorem answers_any (p : Pt) (e : Ev) (b o : Nat) (w : World) (h : PtAt w b o p) :
    Calls Try.prog 32 #[.pointer (some ⟨b, o, .none⟩), e.val] w fun r w' => r = .returned (.bool (answersB p e)) ∧ Below w.heap.size w w' := by
  unfold Ev.val Ev.cells
  have h2 := h.below ((Below.refl _ _).alloc (Nat.le_refl _) (.cells #[.int .i64 e.k, .int .i64 e.c, .int .i64 e.ok, .int .i64 e.oa, .int .i64 e.on, .int .i64 e.at', .int .i64 e.n, .int .i64 e.er] 37))
  have t1 := heap_alloc_new w (.cells #[.int .i64 e.k, .int .i64 e.c, .int .i64 e.ok, .int .i64 e.oa, .int .i64 e.on, .int .i64 e.at', .int .i64 e.n, .int .i64 e.er] 37)
  have t2 := (Below.refl w.heap.size w).alloc (Nat.le_refl _) (.cells #[.int .i64 e.k, .int .i64 e.c, .int .i64 e.ok, .int .i64 e.oa, .int .i64 e.on, .int .i64 e.at', .int .i64 e.n, .int .i64 e.er] 37)
  go_enter Try.func32, Try.ntmps32
  go_upto_region 1 with fail
  generalize w.alloc (.cells #[.int .i64 e.k, .int .i64 e.c, .int .i64 e.ok, .int .i64 e.oa, .int .i64 e.on, .int .i64 e.at', .int .i64 e.n, .int .i64 e.er] 37) = W at *
  have hd := Lib.hid (done_any p b o e.at' W h2)
  have hf := Lib.hid (refused_any p b o W h2)
  obtain ⟨hlt, c0, c1, c2, c3, c4, c5, c6, c7, c8, c9, hfr⟩ := h2
  have e5 := rowCells t1 5
  have e7 := rowCells t1 7
  go_wp2_with (first
    | (go_at_call 39; refine hd.out.mono ?_; rintro r w1 ⟨rfl, hw⟩; obtain rfl := hw.symm)
    | (go_at_call 40; refine hf.out.mono ?_; rintro r w1 ⟨rfl, hw⟩; obtain rfl := hw.symm))
  all_goals go_ret
  all_goals exact ⟨ret_bool (by first | (simp_all [answersB]; done) | (rw [Bool.eq_iff_iff]; simp_all [answersB])), t2⟩
end Go.Proofs.Ytclidckjnoafcaa
