/- Opening a row of events. -/
import Derived.Test.YtclidckjnoafcaaJudR

import Derived.Test.YtclidckjnoafcaaRwO

namespace Go.Proofs.Ytclidckjnoafcaa

open Go.RowKit Go.ChangeShapes Go.WideShapes Go.ChangeAt

section

variable {H : Type} {enc : TypeId × Value → H} {w : World}

theorem rd_op {es : List Value} (h : Rd enc Try.prog w 31 es) : ∃ a b c : Int, es = [.int .i64 a, .int .i64 b, .int .i64 c] := by
  obtain ⟨hl, hf⟩ := rd_struct Try.underlying31 h
  have ct : Try.prog.cellsOf 31 = 3 := by kernel_rfl
  have k1 : Try.prog.cellsOf 3 = 1 := by kernel_rfl
  rw [ct] at hl
  obtain ⟨x, y, z, rfl⟩ := list3 hl
  have g0 : Rd enc Try.prog w 3 (([x, y, z].drop 0).take (Try.prog.cellsOf 3)) := hf 0 _ rfl
  have g1 : Rd enc Try.prog w 3 (([x, y, z].drop 1).take (Try.prog.cellsOf 3)) := hf 1 _ rfl
  have g2 : Rd enc Try.prog w 3 (([x, y, z].drop 2).take (Try.prog.cellsOf 3)) := hf 2 _ rfl
  rw [k1] at g0 g1 g2
  obtain ⟨a, ha, _⟩ := rd_int Try.underlying3 g0
  obtain ⟨b, hb, _⟩ := rd_int Try.underlying3 g1
  obtain ⟨c, hc, _⟩ := rd_int Try.underlying3 g2
  injection ha with ha; injection hb with hb; injection hc with hc
  subst ha hb hc
  exact ⟨a, b, c, rfl⟩
theorem bounds_i64 {a : Int} (h : (Lit.int .i64 a).wf = true) : -9223372036854775808 ≤ a ∧ a ≤ 9223372036854775807 := by
  simp [Lit.wf, IntKind.min, IntKind.max, IntKind.bits, IntKind.signed] at h
  omega
theorem rd_ev {es : List Value} (hl : es.length = 8) (h : Rd enc Try.prog w 37 es) : ∃ e : Ev, e.cells.toList = es ∧ e.fit := by
  obtain ⟨_, hf⟩ := rd_struct Try.underlying37 h
  match es, hl with
  | [x0, x1, x2, x3, x4, x5, x6, x7], _ =>
    have k1 : Try.prog.cellsOf 3 = 1 := by kernel_rfl
    have k2 : Try.prog.cellsOf 31 = 3 := by kernel_rfl
    have k3 : Try.prog.cellsOf 35 = 1 := by kernel_rfl
    have g0 : Rd enc Try.prog w 3 (([x0, x1, x2, x3, x4, x5, x6, x7].drop 0).take (Try.prog.cellsOf 3)) := hf 0 _ rfl
    have g1 : Rd enc Try.prog w 3 (([x0, x1, x2, x3, x4, x5, x6, x7].drop 1).take (Try.prog.cellsOf 3)) := hf 1 _ rfl
    have g2 : Rd enc Try.prog w 31 (([x0, x1, x2, x3, x4, x5, x6, x7].drop 2).take (Try.prog.cellsOf 31)) := hf 2 _ rfl
    have g3 : Rd enc Try.prog w 3 (([x0, x1, x2, x3, x4, x5, x6, x7].drop 5).take (Try.prog.cellsOf 3)) := hf 3 _ rfl
    have g4 : Rd enc Try.prog w 3 (([x0, x1, x2, x3, x4, x5, x6, x7].drop 6).take (Try.prog.cellsOf 3)) := hf 4 _ rfl
    have g5 : Rd enc Try.prog w 35 (([x0, x1, x2, x3, x4, x5, x6, x7].drop 7).take (Try.prog.cellsOf 35)) := hf 5 _ rfl
    rw [k1] at g0 g1 g3 g4
    rw [k2] at g2
    rw [k3] at g5
    obtain ⟨a, ha, _⟩ := rd_int Try.underlying3 g0
    obtain ⟨b, hb, _⟩ := rd_int Try.underlying3 g1
    obtain ⟨c, d, e, hc⟩ := rd_op g2
    obtain ⟨f, hd, wf⟩ := rd_int Try.underlying3 g3
    obtain ⟨g, he, wg⟩ := rd_int Try.underlying3 g4
    obtain ⟨i, hi, _⟩ := rd_int Try.underlying35 g5
    injection ha with ha; injection hb with hb; injection hd with hd; injection he with he; injection hi with hi
    injection hc with h2 hc; injection hc with h3 hc; injection hc with h4 hc
    subst ha hb h2 h3 h4 hd he hi
    exact ⟨⟨a, b, c, d, e, f, g, i⟩, rfl, bounds_i64 wf, bounds_i64 wg⟩
theorem open_evs {v : Value} {r : Reach} {b0 : Nat} {d : DataW H} {ps : List MemPlace} (hv : Value.okWide Try.prog w r b0 24 v) (h0 : DataW.Trod enc Try.prog w 0 (fun _ => true) true 24 v d ps) :
    ∃ es : List Ev, RdE w v es ∧ fitE es :=
  open_list (fun e : Ev => e.cells.toList) Ev.fit Try.underlying24 (sz := 8) (by kernel_rfl) (by omega) evC_len (fun es h1 h2 => rd_ev h1 h2) hv h0
end

end Go.Proofs.Ytclidckjnoafcaa
