/- Opening a row of the reference's choices. -/
import Derived.Test.YtkeiehgojclecaaDoorSchedKeepsP

namespace Go.Proofs.YtkeiehgojclecaaDoor

open Go.RowKit Go.ChangeShapes Go.WideShapes Go.ChangeAt

section

variable {H : Type} {enc : TypeId × Value → H} {w : World}

theorem rd_op {es : List Value} (h : Rd enc Tryd.prog w 43 es) : ∃ a b c : Int, es = [.int .i64 a, .int .i64 b, .int .i64 c] := by
  obtain ⟨hl, hf⟩ := rd_struct Tryd.underlying43 h
  have ct : Tryd.prog.cellsOf 43 = 3 := by kernel_rfl
  have k1 : Tryd.prog.cellsOf 3 = 1 := by kernel_rfl
  rw [ct] at hl
  obtain ⟨x, y, z, rfl⟩ := list3 hl
  have g0 : Rd enc Tryd.prog w 3 (([x, y, z].drop 0).take (Tryd.prog.cellsOf 3)) := hf 0 _ rfl
  have g1 : Rd enc Tryd.prog w 3 (([x, y, z].drop 1).take (Tryd.prog.cellsOf 3)) := hf 1 _ rfl
  have g2 : Rd enc Tryd.prog w 3 (([x, y, z].drop 2).take (Tryd.prog.cellsOf 3)) := hf 2 _ rfl
  rw [k1] at g0 g1 g2
  obtain ⟨a, ha, _⟩ := rd_int Tryd.underlying3 g0
  obtain ⟨b, hb, _⟩ := rd_int Tryd.underlying3 g1
  obtain ⟨c, hc, _⟩ := rd_int Tryd.underlying3 g2
  injection ha with ha; injection hb with hb; injection hc with hc
  subst ha hb hc
  exact ⟨a, b, c, rfl⟩
set_option maxRecDepth 20000 in
theorem rd_ch {es : List Value} (hl : es.length = 6) (h : Rd enc Tryd.prog w 45 es) : ∃ c : Ch, c.cells = es ∧ c.fit := by
  obtain ⟨_, hf⟩ := rd_struct Tryd.underlying45 h
  match es, hl with
  | [x0, x1, x2, x3, x4, x5], _ =>
    have k1 : Tryd.prog.cellsOf 3 = 1 := by kernel_rfl
    have k2 : Tryd.prog.cellsOf 43 = 3 := by kernel_rfl
    have k3 : Tryd.prog.cellsOf 40 = 1 := by kernel_rfl
    have g0 : Rd enc Tryd.prog w 3 (([x0, x1, x2, x3, x4, x5].drop 0).take (Tryd.prog.cellsOf 3)) := hf 0 _ rfl
    have g1 : Rd enc Tryd.prog w 3 (([x0, x1, x2, x3, x4, x5].drop 1).take (Tryd.prog.cellsOf 3)) := hf 1 _ rfl
    have g2 : Rd enc Tryd.prog w 43 (([x0, x1, x2, x3, x4, x5].drop 2).take (Tryd.prog.cellsOf 43)) := hf 2 _ rfl
    have g3 : Rd enc Tryd.prog w 40 (([x0, x1, x2, x3, x4, x5].drop 5).take (Tryd.prog.cellsOf 40)) := hf 3 _ rfl
    rw [k1] at g0 g1
    rw [k2] at g2
    rw [k3] at g3
    obtain ⟨a, ha, _⟩ := rd_int Tryd.underlying3 g0
    obtain ⟨b, hb, _⟩ := rd_int Tryd.underlying3 g1
    obtain ⟨c, d, e, hc⟩ := rd_op g2
    obtain ⟨f, hd, hw⟩ := rd_float Tryd.underlying40 g3
    injection ha with ha; injection hb with hb; injection hd with hd
    injection hc with h2 hc; injection hc with h3 hc; injection hc with h4 hc
    subst ha hb h2 h3 h4 hd
    exact ⟨⟨a, b, c, d, e, f⟩, rfl, by show f < _; simpa [Lit.wf] using hw⟩
set_option maxRecDepth 20000 in
theorem open_chs {v : Value} {r : Reach} {b0 : Nat} {d : DataW H} {ps : List MemPlace} (hv : Value.okWide Tryd.prog w r b0 22 v) (h0 : DataW.Trod enc Tryd.prog w 0 (fun _ => true) true 22 v d ps) :
    ∃ xs : List Ch, RdC w v xs ∧ ∀ c ∈ xs, c.fit := by
  obtain ⟨xs, h1, h2⟩ := open_list Ch.cells Ch.fit Tryd.underlying22 (sz := 6) (by kernel_rfl) (by omega) (fun _ => rfl) (fun es h1 h2 => rd_ch h1 h2) hv h0
  exact ⟨xs, RdS.c h1, h2⟩
end

end Go.Proofs.YtkeiehgojclecaaDoor
