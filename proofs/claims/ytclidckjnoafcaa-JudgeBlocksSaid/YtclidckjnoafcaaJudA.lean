/- The judge's example: the walk. -/
import Derived.Test.YtclidckjnoafcaaJudR

import Derived.Test.YtclidckjnoafcaaQVars

namespace Go.Proofs.Ytclidckjnoafcaa

open Go.RowKit

attribute [local go_sem ↓] Go.wp_at_zero Go.wp_at_succ

attribute [local go_sem high] run_cut_l run_cut_h run_cut_lh

/-- A ruling in a block. -/
def RuAt (w : World) (N : Nat) (a b : Int) : Prop := w.heap[N]? = some (.cells #[.int .i64 a, .int .i64 b] 27 (0, 0))
abbrev rz : Obj := .cells #[.int .i64 0, .int .i64 0] 27
section

variable {w w' X : World} {N : Nat} {a b : Int}

theorem RuAt.c0 (h : RuAt w N a b) : w.cell? ⟨N, 0, .none⟩ = some (.int .i64 a) := rowCells h 0
theorem RuAt.c1 (h : RuAt w N a b) : w.cell? ⟨N, 1, .none⟩ = some (.int .i64 b) := rowCells h 1
theorem RuAt.fr (h : RuAt w N a b) (i : Nat) : w.frozen? ⟨N, i, .none⟩ = false := rowFree h i
theorem RuAt.lt (h : RuAt w N a b) : N < w.heap.size := (Array.getElem?_eq_some_iff.1 h).1
theorem RuAt.below (h : RuAt w N a b) (hb : Below w.heap.size w w') : RuAt w' N a b := (hb.block N h.lt).trans h
theorem ru1 (hb : Below (X.alloc rz).heap.size (X.alloc rz) w') : RuAt w' X.heap.size 0 0 := RuAt.below (heap_alloc_new X rz) hb
theorem ru2a (hb : Below ((X.alloc rz).alloc rz).heap.size ((X.alloc rz).alloc rz) w') : RuAt w' X.heap.size 0 0 := RuAt.below (w := (X.alloc rz).alloc rz) (two_blocks X rz rz).1 hb
theorem ru2b (hb : Below ((X.alloc rz).alloc rz).heap.size ((X.alloc rz).alloc rz) w') : RuAt w' (X.heap.size + 1) 0 0 := RuAt.below (w := (X.alloc rz).alloc rz) (two_blocks X rz rz).2.1 hb
end

/-- A ruling variable: made, filled. -/
theorem rul_step {l : List Oper} {aF : Act} {Q : Exit → Act → World → Prop} {x : VarOp} {a0 b0 : Int} {ty1 ty2 : TypeId} {p1 p2 : String} {af1 af2 : Array Edge} {oz : Oper}
    (ht : x.t = 27) (hz : x.zero = #[.int .i64 0, .int .i64 0]) (hv : x.val = #[.int .i64 a0, .int .i64 b0]) (hF : aF.eval (.tmp x.src) = .agg #[.int .i64 a0, .int .i64 b0])
    (h1 : l.toArray[x.al]? = some { dst := some x.d, op := .alloc 27, type := ty1, pos := p1, after := af1, guard := none })
    (h2 : l.toArray[x.st]? = some { dst := none, op := .store 27 (.tmp x.d) (.tmp x.src), type := ty2, pos := p2, after := af2, guard := none })
    (h3 : l.toArray[x.so]? = some oz) (h4 : oz.dst = some x.src) (ha : (af2.any fun e => Region.binds .any e && e.on == x.al) = true) (hs : (af2.any fun e => Region.binds .any e && e.on == x.so) = true) : VarStep Try.prog l Q aF x := by
  obtain ⟨al, st, so, d, src, t, zero, val⟩ := x
  subst ht hz hv
  dsimp only at *
  refine ⟨fun a w K hK => ?_, fun a w K M e1 e2 hM hK => ?_, fun listed hr => ?_, ⟨oz, h3, h4⟩⟩
  · unfold wpOp
    rw [h1]
    simp only [Region.wanted, if_true]
    left
    simp [go_sem, Oper.wp]
    exact hK
  · unfold wpOp
    rw [h2]
    simp only [Region.wanted, if_true]
    left
    have m0 : w.cell? ⟨M, 0, .none⟩ = some (.int .i64 0) := rowCells hM 0
    have m1 : w.cell? ⟨M, 1, .none⟩ = some (.int .i64 0) := rowCells hM 1
    have f0 : ∀ i, w.frozen? ⟨M, i, .none⟩ = false := fun i => rowFree hM i
    rw [← e2] at hF
    have e3 : a.tmps[d]?.getD undef = .pointer (some ⟨M, 0, .none⟩) := by simpa [Act.eval, vptr] using e1
    have e4 : a.tmps[src]?.getD undef = .agg #[.int .i64 a0, .int .i64 b0] := by simpa [Act.eval] using hF
    simp [go_sem, Oper.wp, e3, e4, m0, m1, f0]
    refine hK _ ?_ ?_ ?_
    · rw [heap_setCell_same _ M 1 _ _ _ (heap_setCell_same _ M 0 _ _ _ hM)]; rfl
    · exact ((Only.refl (fun k => k = M) w).setCell (p := ⟨M, 0, .none⟩) (.inl rfl) _).setCell (p := ⟨M, 1, .none⟩) (.inl rfl) _
    · simp [World.setCell]
  · obtain ⟨_, o, ho, he⟩ := mem_ready.1 hr
    rw [h2] at ho
    injection ho with ho
    subst ho
    have out : ∀ n, (af2.any fun e => Region.binds .any e && e.on == n) = true → listed.getD n false = true := fun n hn => by
      obtain ⟨i, hi, hu⟩ := Array.any_eq_true.1 hn
      simp only [Bool.and_eq_true, beq_iff_eq] at hu
      exact hu.2 ▸ he _ (Array.getElem_mem hi) hu.1
    exact ⟨out _ ha, out _ hs⟩
def exL : List Ev := [⟨0, 0, 0, 0, 0, 0, 0, 0⟩, ⟨2, 0, 1, 0, 4, 0, 0, 0⟩, ⟨3, 0, 0, 0, 0, 0, 4, 0⟩, ⟨5, 0, 1, 0, 4, 0, 0, 0⟩]
theorem ex_run : (runJ (newJ 1 1 0) exL).at' = -1 ∧ (runJ (newJ 1 1 0) exL).why = 0 ∧ (runJ (newJ 1 1 0) exL.tail).at' = 0 ∧ (runJ (newJ 1 1 0) exL.tail).why = 1 := by decide +kernel
theorem ex_fit : fitE exL := by
  intro e he
  simp only [exL, List.mem_cons, List.not_mem_nil, or_false] at he
  rcases he with rfl | rfl | rfl | rfl <;> (unfold Ev.fit; simp)

set_option maxRecDepth 100000 in
set_option maxHeartbeats 4000000 in
theorem awake7_any (w : World) : Calls Try.prog 7 #[] w fun e w' => e = .returned (.bool true) ∧ Below w.heap.size w w' := by
  obtain ⟨EC, hEC⟩ : ∃ EC : Array Value, EC = #[.int .i64 0, .int .i64 0, .int .i64 0, .int .i64 0, .int .i64 0, .int .i64 0, .int .i64 0, .int .i64 0, .int .i64 2, .int .i64 0, .int .i64 1, .int .i64 0, .int .i64 4, .int .i64 0, .int .i64 0, .int .i64 0, .int .i64 3, .int .i64 0, .int .i64 0, .int .i64 0, .int .i64 0, .int .i64 0, .int .i64 4, .int .i64 0, .int .i64 5, .int .i64 0, .int .i64 1, .int .i64 0, .int .i64 4, .int .i64 0, .int .i64 0, .int .i64 0] := ⟨_, rfl⟩
  obtain ⟨t1, t2, t3, t4, t5⟩ := three_blocks w (.cells #[.int .i64 1, .int .i64 1, .int .i64 0] 23) (.cells #[.int .i64 1, .int .i64 0, .int .i64 4] 31) (.cells EC 37)
  obtain ⟨H, hH, hH'⟩ : ∃ H, Hid (H = w.heap.size) ∧ H = w.heap.size := ⟨_, Lib.hid rfl, rfl⟩
  obtain ⟨G, hG, hG'⟩ : ∃ G, Hid (G = w.heap.size + 1 + 1) ∧ G = w.heap.size + 1 + 1 := ⟨_, Lib.hid rfl, rfl⟩
  have hrd : ∀ X : World, X.heap[G]? = some (.cells EC 37 (0, 0)) → RdE X (.slice (some ⟨G, 0, .none⟩) 4 4) exL := fun X h => by
    have := RdS.new (sz := 8) (n := 4) h (by rw [hEC]; rfl) (by omega)
    unfold RdE
    rw [hEC] at this
    exact this
  have hrd2 : ∀ X : World, X.heap[G]? = some (.cells EC 37 (0, 0)) → RdE X (cutV (some ⟨G, 0, .none⟩) 1 4 4 8) exL.tail := fun X h => by
    exact RdS.cut (l := 1) (h := 4) (hrd X h) (by omega) (by omega)
  go_enter Try.func7, Try.ntmps7
  go_upto_region 4 with fail
  rw [← hEC]
  generalize ((w.alloc (.cells #[.int .i64 1, .int .i64 1, .int .i64 0] 23)).alloc (.cells #[.int .i64 1, .int .i64 0, .int .i64 4] 31)).alloc (.cells EC 37) = W at *
  try rw [← hG'] at t3 ⊢
  try rw [← hH'] at t1 ⊢
  clear hG' hH' t2 t4
  have c0 : W.cell? ⟨H, 0, .none⟩ = some (.int .i64 1) := rowCells t1 0
  have c1 : W.cell? ⟨H, 1, .none⟩ = some (.int .i64 1) := rowCells t1 1
  have c2 : W.cell? ⟨H, 2, .none⟩ = some (.int .i64 0) := rowCells t1 2
  have lH : H < W.heap.size := (Array.getElem?_eq_some_iff.1 t1).1
  have lG : G < W.heap.size := (Array.getElem?_eq_some_iff.1 t3).1
  have hr1 : Hid (∀ X, Below W.heap.size W X → Calls Try.prog 8 #[.agg #[.int .i64 1, .int .i64 1, .int .i64 0], .slice (some ⟨G, 0, .none⟩) 4 4] X fun r w' => r = .returned (.agg #[.int .i64 (-1), .int .i64 0]) ∧ Below X.heap.size X w') := Lib.hid fun X hX => by
    have := rule_any 1 1 0 _ exL X (hrd X ((hX.block _ lG).trans t3)) ex_fit (by decide)
    rwa [ex_run.1, ex_run.2.1] at this
  have hr2 : Hid (∀ X, Below W.heap.size W X → Calls Try.prog 8 #[.agg #[.int .i64 1, .int .i64 1, .int .i64 0], cutV (some ⟨G, 0, .none⟩) 1 4 4 8] X fun r w' => r = .returned (.agg #[.int .i64 0, .int .i64 1]) ∧ Below X.heap.size X w') := Lib.hid fun X hX => by
    have := rule_any 1 1 0 _ exL.tail X (hrd2 X ((hX.block _ lG).trans t3)) (fun e he => ex_fit e (List.mem_of_mem_tail he)) (by decide)
    rwa [ex_run.2.2.1, ex_run.2.2.2] at this
  clear hrd hrd2 hEC
  refine wp_region_two_ext (x := ⟨7, 9, 2, 4, 17, 27, #[.int .i64 0, .int .i64 0], #[.int .i64 (-1), .int .i64 0]⟩) (y := ⟨8, 10, 6, 5, 21, 27, #[.int .i64 0, .int .i64 0], #[.int .i64 0, .int .i64 1]⟩) (by kernel_rfl) (by simp only [nopF, nopO, ownB, Nat.reduceBEq, Bool.or_false, Bool.or_true, Bool.false_eq_true, ↓reduceIte, Nat.reduceAdd]; exact rfl) (by kernel_rfl) (by kernel_rfl) (by kernel_rfl) (by constructor <;> decide) (by refine ⟨?_, ?_, ?_, ?_⟩ <;> decide) (by constructor <;> rfl) (by constructor <;> simp) ?_
  apply Exists.intro
  refine ⟨fun B hb => ?_, ?_, ?_, ?_⟩
  case refine_1 =>
    have k0 : B.cell? ⟨H, 0, .none⟩ = some (.int .i64 1) := keepF hb _ _ _ c0
    have k1 : B.cell? ⟨H, 1, .none⟩ = some (.int .i64 1) := keepF hb _ _ _ c1
    have k2 : B.cell? ⟨H, 2, .none⟩ = some (.int .i64 0) := keepF hb _ _ _ c2
    have lB : H < B.heap.size := Nat.lt_of_lt_of_le lH hb.size
    repeat (go_big_quiet_step ((first
      | (go_at_call 8; with_reducible exact ext_of (hr1.out _ (belowTrans hb (Ext.below _))))
      | (go_at_call 8; with_reducible exact ext_of (hr2.out _ (belowTrans hb (Ext.below _)))))))
    exact wpQuiet_nil rfl
  case refine_2 => exact rul_step rfl rfl rfl rfl rfl rfl rfl rfl (by decide +kernel) (by decide +kernel)
  case refine_3 => exact rul_step rfl rfl rfl rfl rfl rfl rfl rfl (by decide +kernel) (by decide +kernel)
  case refine_4 =>
    intro a w4 M N hf
    obtain ⟨rfl, hb, hMN, _, hM, hN⟩ := hf
    have hM : RuAt w4 M (-1) 0 := hM
    have hN : RuAt w4 N 0 1 := hN
    have m0 := hM.c0
    have m1 := hM.c1
    have n0 := hN.c0
    have n1 := hN.c1
    clear hM hN
    simp only [Act.put, vptr]
    go_wp2
    go_ret
    exact ⟨rfl, t5.trans (hb.mono t5.size)⟩
end Go.Proofs.Ytclidckjnoafcaa
