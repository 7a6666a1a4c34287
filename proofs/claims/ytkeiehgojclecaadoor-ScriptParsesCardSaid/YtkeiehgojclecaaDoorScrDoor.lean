/- What the rows' condition gives: the library's variables as they are laid; the witness's world. -/
import Derived.Test.YtkeiehgojclecaaDoorCards

import Derived.Test.YtkeiehgojclecaaDoorTie

import Derived.Test.YtkeiehgojclecaaDoorScrL

import Derived.Test.YtkeiehgojclecaaDoorOpen

import Derived.Deep.DeepHandedRow

import Derived.Deep.DeepWitnessRowRef

import Derived.Lib.LaidTab

import Derived.Shelf.Vars

import Derived.Stop.LaidErr

import Derived.LaidMore

namespace Go.Proofs.YtkeiehgojclecaaDoor

open Go.RowKit Go.ChangeShapes Go.WideShapes Go.ChangeAt

theorem dstar : "*" ++ "errors.errorString" = "*errors.errorString" := by decide
theorem row154 (u : TypeId) (h : Tryd.prog.typeName? 3 u = some "*errors.errorString") : u = 154 :=
  typeName_ptr_named (nm := "errors.errorString") (by rw [dstar]; kernel_rfl) (by kernel_rfl) (by decide) u (by rw [dstar]; exact h)
theorem laid_of {W : World} (h0 : laidMetH Tryd.prog Rows.scriptPrintsRow.laid W) (hs : W.ShapedOpen Tryd.prog) : Laid W := by
  rw [MakeChecks.laidMetH_plain _ _ _ (by kernel_rfl)] at h0
  have h1 := laidMet.tail h0
  have h2 := laidMet.tail h1
  have h3 := laidMet.tail h2
  have h4 := laidMet.tail h3
  have h5 := laidMet.tail h4
  have t1 : Lib.TabIs Tryd.prog W "math/bits.deBruijn64tab" .u8 _ := Lib.tabIs_of_head (g := 8) (by kernel_rfl) (by kernel_rfl) Tryd.underlying158 Tryd.underlying5 (by kernel_rfl) (by kernel_rfl) (zs := [0, 1, 56, 2, 57, 49, 28, 3, 61, 58, 42, 50, 38, 29, 17, 4, 62, 47, 59, 36, 45, 43, 51, 22, 53, 39, 33, 30, 24, 18, 12, 5, 63, 55, 48, 27, 60, 41, 37, 16, 46, 35, 44, 21, 52, 32, 23, 11, 54, 26, 40, 15, 34, 20, 31, 10, 25, 14, 19, 9, 13, 8, 7, 6]) h1
  have t2 : Lib.TabIs Tryd.prog W "internal/strconv.uint64pow10" .u64 Lib.pow10Tab := Lib.tabIs_of_head (g := 4) (by kernel_rfl) (by kernel_rfl) Tryd.underlying144 Tryd.underlying39 (by kernel_rfl) (by kernel_rfl) h2
  obtain ⟨a0, s0, hv0, -, -, -⟩ := laid_sentinel h4 (g := 6) (by kernel_rfl) (by kernel_rfl) Tryd.underlying67 row154 Tryd.underlying154 Tryd.underlying156 rfl rfl Tryd.underlying9 (by kernel_rfl) (by kernel_rfl)
  obtain ⟨a1, s1, hv1, -, -, -⟩ := laid_sentinel h5 (g := 5) (by kernel_rfl) (by kernel_rfl) Tryd.underlying67 row154 Tryd.underlying154 Tryd.underlying156 rfl rfl Tryd.underlying9 (by kernel_rfl) (by kernel_rfl)
  have c1 := World.var?_cell (P := Tryd.prog) (g := 5) (by kernel_rfl) hv1 0
  have c0 := World.var?_cell (P := Tryd.prog) (g := 6) (by kernel_rfl) hv0 0
  have c2 := t1.cell (g := 8) (by kernel_rfl) 15 (by decide)
  have c3 := cell_of_shapedOpen_int hs (g := 1) (t := 3) (zero := #[.int .i64 0]) (of_decide_eq_true (by kernel_rfl)) (by kernel_rfl) rfl (by kernel_rfl) (by kernel_rfl) Tryd.underlying3
  exact ⟨t2, ⟨154, .pointer (some a1), by simpa using c1⟩, ⟨154, .pointer (some a0), by simpa using c0⟩, c3, c2⟩
end Go.Proofs.YtkeiehgojclecaaDoor
