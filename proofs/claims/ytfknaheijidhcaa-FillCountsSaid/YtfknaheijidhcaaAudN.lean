/- The reference's Total and Run; empty heaps; the law's awake. -/
import Derived.Test.YtfknaheijidhcaaAudV

import Derived.Test.YtfknaheijidhcaaAudR

namespace Go.Proofs.Ytfknaheijidhcaa

open Go.RowKit

set_option maxHeartbeats 400000 in
theorem refTotal_any (p c m : Int) (w : World) :
    Calls Try.prog 12 #[.agg #[.int .i64 p, .int .i64 c, .int .i64 m]] w fun e w' => e = .returned (.int .i64 (totalV p c m)) ∧ Below w.heap.size w w' := by
  by_cases h1 : mayB p c m = true
  · have hb := mayB_iff.1 h1
    have hm := mul_bd (c := c) (m := m) (C := 12) (M := 8) (by omega) (by omega)
    have hv : totalV p c m = c + p + 16 * p + c * m := by unfold totalV; rw [if_pos h1]; omega
    rw [hv]
    clear hv
    have w1 : IntKind.i64.wrap (c + p) = c + p := IntWalk.i64_in _ ⟨by omega, by omega⟩
    have w2 : IntKind.i64.wrap (16 * p) = 16 * p := IntWalk.i64_in _ ⟨by omega, by omega⟩
    have w3 : IntKind.i64.wrap (c + p + 16 * p) = c + p + 16 * p := IntWalk.i64_in _ ⟨by omega, by omega⟩
    have w4 : IntKind.i64.wrap (c * m) = c * m := IntWalk.i64_in _ ⟨by omega, by omega⟩
    have w5 : IntKind.i64.wrap (c + p + 16 * p + c * m) = c + p + 16 * p + c * m := IntWalk.i64_in _ ⟨by omega, by omega⟩
    go_enter Try.func12, Try.ntmps12
    go_wp2_with (go_at_call 11; refine (refMay_any _ _ _ _).mono ?_; rintro e w1 ⟨rfl, rfl⟩)
    go_ret
    exact ⟨rfl, by go_grown⟩
  · have h1' : mayB p c m = false := by simpa using h1
    have hv : totalV p c m = 0 := by unfold totalV; rw [if_neg h1]
    rw [hv]
    clear h1 hv
    go_enter Try.func12, Try.ntmps12
    go_wp2_with (go_at_call 11; refine (refMay_any _ _ _ _).mono ?_; rintro e w1 ⟨rfl, rfl⟩)
    go_ret
    exact ⟨rfl, by go_grown⟩

theorem infoU : (Try.prog.info? 41).map (fun i => (i.zero, i.size, i.bytes)) = some (some (.int .u64 0), 1, 8) := by kernel_rfl
/-- make([]uint64, n). -/
theorem make_us (n : Nat) (hn : n ≤ 100000) : ∀ u : World, (Instr.makeSlice 24 (.int .i64 (n : Int)) (.int .i64 (n : Int))).run Try.prog u = .ok (.slice (some ⟨u.heap.size, 0, .none⟩) n n) (u.alloc (.cells (madeCells #[.int .u64 0] n) 41)) := fun u => by
  obtain ⟨i0, hi, hz0, hz1, hz2⟩ := info_parts infoU
  have h := run_make (P := Try.prog) u 24 41 i0 (.int .u64 0) Try.underlying24 hi hz0 .i64 .i64 (n : Int) (n : Int) (by omega) (Int.le_refl _) (by rw [hz2]; omega) (by omega)
  rw [Int.toNat_natCast] at h
  simpa [hz1, Value.cells] using h
/-- So many noughts read as a slice. -/
theorem blank_rd (n : Nat) (hn : n ≤ 100000) (u : World) : RdZ .u64 (u.alloc (.cells (madeCells #[.int .u64 0] n) 41)) (.slice (some ⟨u.heap.size, 0, .none⟩) n n) (List.replicate n 0) := by
  have h := RdS.new (sz := 1) (n := n) (heap_alloc_new u (.cells (madeCells #[.int .u64 0] n) 41)) (by rw [size_madeCells]; omega) (by omega)
  unfold RdZ
  rw [List.length_replicate, List.map_replicate]
  rwa [toList_madeCells_one] at h
theorem blank_fit (p c m : Int) (n : Nat) : (Hp.mk p c m (List.replicate n 0)).fit := fun x hx => by
  rw [List.eq_of_mem_replicate hx]; exact ⟨by decide, by decide⟩

def h35 : Hp := ⟨2, 1, 0, List.replicate 35 0⟩
theorem h35_count : h35.count = ⟨128, 0, 0, 0⟩ := by decide +kernel
theorem h35_room : h35.room 100 = true := by decide +kernel

set_option maxRecDepth 100000 in
set_option maxHeartbeats 4000000 in
theorem awake_any (w : World) : Calls Try.prog 9 #[] w fun e w' => e = .returned (.bool true) ∧ Below w.heap.size w w' := by
  obtain ⟨mk, hmk, hbl⟩ : ∃ mk : Array Value, (∀ u : World, (Instr.makeSlice 24 (.int .i64 35) (.int .i64 35)).run Try.prog u = .ok (.slice (some ⟨u.heap.size, 0, .none⟩) 35 35) (u.alloc (.cells mk 41))) ∧ Hid (∀ u : World, RdZ .u64 (u.alloc (.cells mk 41)) (.slice (some ⟨u.heap.size, 0, .none⟩) 35 35) (List.replicate 35 0)) := ⟨_, make_us 35 (by omega), Lib.hid (blank_rd 35 (by omega))⟩
  have hbl2 : Hid (∀ (u : World) (o : Obj), RdZ .u64 ((u.alloc o).alloc (.cells mk 41)) (.slice (some ⟨u.heap.size + 1, 0, .none⟩) 35 35) (List.replicate 35 0)) := Lib.hid fun u o => by
    have := hbl.out (u.alloc o)
    rwa [show (u.alloc o).heap.size = u.heap.size + 1 from by simp] at this
  have htt : ∀ w, Calls Try.prog 12 #[.agg #[.int .i64 2, .int .i64 1, .int .i64 0]] w fun e w' => e = .returned (.int .i64 35) ∧ Below w.heap.size w w' := refTotal_any 2 1 0
  have hww : ∀ v w, RdZ .u64 w v (List.replicate 35 0) → Calls Try.prog 25 #[.agg #[.int .i64 2, .int .i64 1, .int .i64 0], v] w fun e w' => e = .returned (.agg #[.int .i64 128, .int .i64 0, .int .i64 0, .int .i64 0]) ∧ Below w.heap.size w w' := fun v w hr => by
    have := awords_any h35 v w hr (blank_fit 2 1 0 35)
    rw [h35_count] at this
    exact this
  have hro : ∀ v w, RdZ .u64 w v (List.replicate 35 0) → Calls Try.prog 10 #[.agg #[.int .i64 2, .int .i64 1, .int .i64 0], v, .int .i64 100] w fun e w' => e = .returned (.bool true) ∧ Below w.heap.size w w' := fun v w hr => by
    have := room_any h35 v 100 w hr (blank_fit 2 1 0 35)
    rw [h35_room] at this
    exact this
  replace htt := Lib.hid htt
  replace hww := Lib.hid hww
  replace hro := Lib.hid hro
  go_enter Try.func9, Try.ntmps9
  go_upto_region 2 with fail
  have b0 : Below w.heap.size w (w.alloc (.cells #[.int .i64 2, .int .i64 1, .int .i64 0] 23)) := (Below.refl _ _).alloc (Nat.le_refl _) _
  have bS := heap_alloc_new w (.cells #[.int .i64 2, .int .i64 1, .int .i64 0] 23)
  obtain ⟨H, hH, hH'⟩ : ∃ H, Hid (H = w.heap.size) ∧ H = w.heap.size := ⟨_, Lib.hid rfl, rfl⟩
  generalize w.alloc (.cells #[.int .i64 2, .int .i64 1, .int .i64 0] 23) = W at *
  rw [← hH'] at bS ⊢
  clear hH'
  have lS := (Array.getElem?_eq_some_iff.1 bS).1
  have c0 : W.cell? ⟨H, 0, .none⟩ = some (.int .i64 2) := rowCells bS 0
  have c1 : W.cell? ⟨H, 1, .none⟩ = some (.int .i64 1) := rowCells bS 1
  have c2 : W.cell? ⟨H, 2, .none⟩ = some (.int .i64 0) := rowCells bS 2
  go_cut [2] (fun s2 wx => ∃ g : Nat, s2 = .pointer (some ⟨g, 0, .none⟩) ∧ g < wx.heap.size ∧ Below W.heap.size W wx ∧ wx.cell? ⟨g, 0, .none⟩ = some (.int .i64 128) ∧ wx.cell? ⟨g, 1, .none⟩ = some (.int .i64 0))
  case first =>
    have hK : ∀ Y : World, Below W.heap.size W Y → (Y.cell? ⟨H, 0, .none⟩ = some (.int .i64 2) ∧ Y.cell? ⟨H, 1, .none⟩ = some (.int .i64 1) ∧ Y.cell? ⟨H, 2, .none⟩ = some (.int .i64 0)) := fun Y hb => ⟨keepF hb _ _ _ c0, keepF hb _ _ _ c1, keepF hb _ _ _ c2⟩
    replace hK := Lib.hid hK
    go_region_held3 (fun X => X.cell? ⟨H, 0, .none⟩ = some (.int .i64 2) ∧ X.cell? ⟨H, 1, .none⟩ = some (.int .i64 1) ∧ X.cell? ⟨H, 2, .none⟩ = some (.int .i64 0))
      (first | exact hK.out _ (by go_grown))
      (first
        | (go_at_call 12; refine (htt.out _).mono ?_; rintro e w1 ⟨rfl, hb1⟩; have hB1 := belowTrans (w := W) (by go_grown) hb1; have hS1 := hB1.size; try (have hz := CntAt.below (N := W.heap.size) (c := Cn.zero) (heap_alloc_new W.drew (.cells #[.int .i64 0, .int .i64 0, .int .i64 0, .int .i64 0] 44)) hb1; have q0 := hz.c0; have q1 := hz.c1; have q2 := hz.c2; have q3 := hz.c3; have qF := hz.fr))
        | (go_at_call 25; refine (hww.out _ _ (by first | exact hbl2.out _ _ | exact hbl.out _ | exact (hbl.out _).below ((Below.refl _ _).alloc (Nat.le_refl _) _))).mono ?_; rintro e w2 ⟨rfl, hb2⟩; have hB2 := belowTrans (w := W) (by go_grown) hb2; have hS2 := hB2.size;
            try (first
              | (have hz := (hz.below ((Below.refl _ _).alloc (Nat.le_refl _) (.cells mk 41))).below hb2; have q0 := hz.c0; have q1 := hz.c1; have q2 := hz.c2; have q3 := hz.c3; have qF := hz.fr)
              | (have hz := CntAt.below (N := w1.heap.size + 1) (c := Cn.zero) (two_blocks w1 (.cells mk 41) (.cells #[.int .i64 0, .int .i64 0, .int .i64 0, .int .i64 0] 44)).2.1 hb2; have q0 := hz.c0; have q1 := hz.c1; have q2 := hz.c2; have q3 := hz.c3; have qF := hz.fr)
              | (have hz := CntAt.below (N := w1.heap.size) (c := Cn.zero) (two_blocks w1 (.cells #[.int .i64 0, .int .i64 0, .int .i64 0, .int .i64 0] 44) (.cells mk 41)).1 hb2; have q0 := hz.c0; have q1 := hz.c1; have q2 := hz.c2; have q3 := hz.c3; have qF := hz.fr))))
    all_goals (go_wp2_with fail; go_meet)
    all_goals refine ⟨_, rfl, ?_, by go_grown, ?_, ?_⟩
    all_goals first | go_cell | go_size | (simp; done) | (simp; exact hz.lt)
  case rest =>
    obtain ⟨g, rfl, hg, hb3, g0, g1⟩ := hcut
    have d0 := keepF hb3 _ _ _ c0
    have d1 := keepF hb3 _ _ _ c1
    have d2 := keepF hb3 _ _ _ c2
    have hbw := b0.trans (hb3.mono b0.size)
    clear hb3 c0 c1 c2 bS lS b0
    obtain ⟨V, rfl⟩ : ∃ V : World, V = wc := ⟨_, rfl⟩
    have hK : ∀ Y : World, Below V.heap.size V Y → (Y.cell? ⟨H, 0, .none⟩ = some (.int .i64 2) ∧ Y.cell? ⟨H, 1, .none⟩ = some (.int .i64 1) ∧ Y.cell? ⟨H, 2, .none⟩ = some (.int .i64 0) ∧ Y.cell? ⟨g, 0, .none⟩ = some (.int .i64 128) ∧ Y.cell? ⟨g, 1, .none⟩ = some (.int .i64 0)) := fun Y hb => ⟨keepF hb _ _ _ d0, keepF hb _ _ _ d1, keepF hb _ _ _ d2, keepF hb _ _ _ g0, keepF hb _ _ _ g1⟩
    replace hK := Lib.hid hK
    go_upto_region 3 with fail
    go_region_held3 (fun Y => Y.cell? ⟨H, 0, .none⟩ = some (.int .i64 2) ∧ Y.cell? ⟨H, 1, .none⟩ = some (.int .i64 1) ∧ Y.cell? ⟨H, 2, .none⟩ = some (.int .i64 0) ∧ Y.cell? ⟨g, 0, .none⟩ = some (.int .i64 128) ∧ Y.cell? ⟨g, 1, .none⟩ = some (.int .i64 0))
      (first | exact hK.out _ (by go_grown))
      (first
        | (go_at_call 12; refine (htt.out _).mono ?_; rintro e w1 ⟨rfl, hb1⟩; have hB1 := belowTrans (w := V) (by go_grown) hb1; have hS1 := hB1.size)
        | (go_at_call 10; refine (hro.out _ _ (hbl.out _)).mono ?_; rintro e w2 ⟨rfl, hb2⟩; have hB2 := belowTrans (w := V) (by go_grown) hb2; have hS2 := hB2.size))
    go_wp2
    go_ret
    exact ⟨rfl, hbw.trans (hB2.mono hbw.size)⟩
end Go.Proofs.Ytfknaheijidhcaa
