/- A judge hears of who is there, and asks: the walk. -/
import Derived.Test.YtclidckjnoafcaaJudM

namespace Go.Proofs.Ytclidckjnoafcaa

open Go.RowKit

theorem PtAt.of_eq {w : World} {b o : Nat} {p q : Pt} (h : PtAt w b o p) (e : p = q) : PtAt w b o q := e ▸ h
def atP (b : Nat) : Nat → Prop := fun k => k = b

set_option maxRecDepth 100000 in
set_option maxHeartbeats 2000000 in
theorem begins_any (e : Ev) (pb i o : Nat) (ps : List Pt) (p : Pt) (w : World) (h : RowP w pb ps) (hi : i < ps.length) (hp : ps[i] = p) (ho : o = i * 10) :
    Calls Try.prog 29 #[.pointer (some ⟨pb, o, .none⟩), e.val] w fun r w' => r = .returned (.int .i64 (beginsC p e)) ∧ Only (atP pb) w w' ∧ RowP w' pb (ps.set i (beginsP p e)) := by
  have hnil : ∀ W a, (binOp .eql 69 (.pointer (some a)) (.pointer none)).run Try.prog W = .ok (.bool false) W := fun W a => by kernel_rfl
  unfold Ev.val Ev.cells
  have hb2 := (Below.refl w.heap.size w).alloc (Nat.le_refl _) (.cells #[.int .i64 e.k, .int .i64 e.c, .int .i64 e.ok, .int .i64 e.oa, .int .i64 e.on, .int .i64 e.at', .int .i64 e.n, .int .i64 e.er] 37)
  have hr2 : RowP (w.alloc (.cells #[.int .i64 e.k, .int .i64 e.c, .int .i64 e.ok, .int .i64 e.oa, .int .i64 e.on, .int .i64 e.at', .int .i64 e.n, .int .i64 e.er] 37)) pb ps := h.of_block (hb2.block _ h.lt)
  have t1 := heap_alloc_new w (.cells #[.int .i64 e.k, .int .i64 e.c, .int .i64 e.ok, .int .i64 e.oa, .int .i64 e.on, .int .i64 e.at', .int .i64 e.n, .int .i64 e.er] 37)
  have hO : Only (atP pb) w (w.alloc (.cells #[.int .i64 e.k, .int .i64 e.c, .int .i64 e.ok, .int .i64 e.oa, .int .i64 e.on, .int .i64 e.at', .int .i64 e.n, .int .i64 e.er] 37)) := (Only.refl _ _).alloc _
  have hlt := h.lt
  go_enter Try.func29, Try.ntmps29
  go_upto_region 1 with fail
  generalize w.alloc (.cells #[.int .i64 e.k, .int .i64 e.c, .int .i64 e.ok, .int .i64 e.oa, .int .i64 e.on, .int .i64 e.at', .int .i64 e.n, .int .i64 e.er] 37) = W at *
  obtain ⟨hlt2, c0, c1, c2, c3, c4, c5, c6, c7, c8, c9, hfr⟩ := ho ▸ ((hr2.pt i hi).of_eq hp)
  have e0 := rowCells t1 0
  have e2 := rowCells t1 2
  have e3 := rowCells t1 3
  have e4 := rowCells t1 4
  have hset : ∀ (X : World) (q : Pt) (j : Nat) (v : Value) (q' : Pt), Only (atP pb) w X → RowP X pb (ps.set i q) → q.cells.set j v = q'.cells → j < 10 → Only (atP pb) w (X.setCell ⟨pb, o + j, .none⟩ v) ∧ RowP (X.setCell ⟨pb, o + j, .none⟩ v) pb (ps.set i q') := fun X q j v q' h1 h2 h4 h5 => by
    rw [ho]
    refine ⟨h1.setCell (p := ⟨pb, i * 10 + j, .none⟩) (.inl rfl) v, ?_⟩
    have := h2.set i j v q' (by rw [List.length_set]; exact hi) h5 (by rw [List.getElem_set_self]; exact h4)
    rwa [List.set_set] at this
  have hrow : RowP W pb (ps.set i p) := by rw [← hp, List.set_getElem_self]; exact hr2
  have hB : Only (atP pb) w ((W.setCell ⟨pb, o, .none⟩ (.bool true)).setCell ⟨pb, o + 1, .none⟩ (.bool true)) ∧ RowP ((W.setCell ⟨pb, o, .none⟩ (.bool true)).setCell ⟨pb, o + 1, .none⟩ (.bool true)) pb (ps.set i { p with was := true, lives := true }) := by
    have z0 := hset W p 0 (.bool true) { p with was := true } hO hrow rfl (by omega)
    rw [Nat.add_zero] at z0
    exact hset _ _ 1 (.bool true) _ z0.1 z0.2 rfl (by omega)
  have hC : Only (atP pb) w ((W.setCell ⟨pb, o + 1, .none⟩ (.bool false)).setCell ⟨pb, o + 2, .none⟩ (.bool false)) ∧ RowP ((W.setCell ⟨pb, o + 1, .none⟩ (.bool false)).setCell ⟨pb, o + 2, .none⟩ (.bool false)) pb (ps.set i { p with lives := false, asks := false }) := by
    have z0 := hset W p 1 (.bool false) { p with lives := false } hO hrow rfl (by omega)
    exact hset _ _ 2 (.bool false) _ z0.1 z0.2 rfl (by omega)
  have hD : ∃ Y, Y = ((((((((((W.setCell ⟨pb, o, .none⟩ (.bool true)).setCell ⟨pb, o + 1, .none⟩ (.bool true)).setCell ⟨pb, o + 2, .none⟩ (.bool true)).setCell ⟨pb, o + 3, .none⟩ (.int .i64 e.ok)).setCell ⟨pb, o + 4, .none⟩ (.int .i64 e.oa)).setCell ⟨pb, o + 5, .none⟩ (.int .i64 e.on)).setCell ⟨pb, o + 6, .none⟩ (.bool false)).setCell ⟨pb, o + 7, .none⟩ (.bool false)).setCell ⟨pb, o + 8, .none⟩ (.int .i64 0)).setCell ⟨pb, o + 9, .none⟩ (.bool false)) ∧ Only (atP pb) w Y ∧ RowP Y pb (ps.set i ⟨true, true, true, e.ok, e.oa, e.on, false, false, 0, false⟩) := by
    refine ⟨_, rfl, ?_⟩
    have z0 := hset W p 0 (.bool true) { p with was := true } hO hrow rfl (by omega)
    rw [Nat.add_zero] at z0
    have z1 := hset _ _ 1 (.bool true) ⟨true, true, p.asks, p.k, p.a, p.n, p.took, p.gave, p.at', p.ab⟩ z0.1 z0.2 rfl (by omega)
    have z2 := hset _ _ 2 (.bool true) ⟨true, true, true, p.k, p.a, p.n, p.took, p.gave, p.at', p.ab⟩ z1.1 z1.2 rfl (by omega)
    have z3 := hset _ _ 3 (.int .i64 e.ok) ⟨true, true, true, e.ok, p.a, p.n, p.took, p.gave, p.at', p.ab⟩ z2.1 z2.2 rfl (by omega)
    have z4 := hset _ _ 4 (.int .i64 e.oa) ⟨true, true, true, e.ok, e.oa, p.n, p.took, p.gave, p.at', p.ab⟩ z3.1 z3.2 rfl (by omega)
    have z5 := hset _ _ 5 (.int .i64 e.on) ⟨true, true, true, e.ok, e.oa, e.on, p.took, p.gave, p.at', p.ab⟩ z4.1 z4.2 rfl (by omega)
    have z6 := hset _ _ 6 (.bool false) ⟨true, true, true, e.ok, e.oa, e.on, false, p.gave, p.at', p.ab⟩ z5.1 z5.2 rfl (by omega)
    have z7 := hset _ _ 7 (.bool false) ⟨true, true, true, e.ok, e.oa, e.on, false, false, p.at', p.ab⟩ z6.1 z6.2 rfl (by omega)
    have z8 := hset _ _ 8 (.int .i64 0) ⟨true, true, true, e.ok, e.oa, e.on, false, false, 0, p.ab⟩ z7.1 z7.2 rfl (by omega)
    exact hset _ _ 9 (.bool false) _ z8.1 z8.2 rfl (by omega)
  replace hB := Lib.hid hB
  replace hC := Lib.hid hC
  replace hD := Lib.hid hD
  clear hset hr2 hb2
  replace hi := Lib.hid hi
  replace hp := Lib.hid hp
  replace ho := Lib.hid ho
  have hne : w.heap.size ≠ pb := by omega
  go_wp2
  all_goals go_ret
  all_goals first
    | (refine ⟨?_, (by with_reducible exact hO), ?_⟩; exact ret_int (by clear hO hrow hB hC hD t1 hlt2 hfr c0 c1 c2 c3 c4 c5 c6 c7 c8 c9 e0 e2 e3 e4 hnil hp hi ho hne hlt h; simp_all [beginsC]); rw [show beginsP p e = p by clear hO hrow hB hC hD t1 hlt2 hfr c0 c1 c2 c3 c4 c5 c6 c7 c8 c9 e0 e2 e3 e4 hnil hp hi ho hne hlt h; simp_all [beginsP, beginsC]]; exact hrow)
    | (refine ⟨?_, (by with_reducible exact hB.out.1), ?_⟩; exact ret_int (by clear hO hrow hB hC hD t1 hlt2 hfr c0 c1 c2 c3 c4 c5 c6 c7 c8 c9 e0 e2 e3 e4 hnil hp hi ho hne hlt h; simp_all [beginsC]); rw [show beginsP p e = { p with was := true, lives := true } by clear hO hrow hB hC hD t1 hlt2 hfr c0 c1 c2 c3 c4 c5 c6 c7 c8 c9 e0 e2 e3 e4 hnil hp hi ho hne hlt h; simp_all [beginsP, beginsC]]; exact hB.out.2)
    | (refine ⟨?_, (by with_reducible exact hC.out.1), ?_⟩; exact ret_int (by clear hO hrow hB hC hD t1 hlt2 hfr c0 c1 c2 c3 c4 c5 c6 c7 c8 c9 e0 e2 e3 e4 hnil hp hi ho hne hlt h; simp_all [beginsC]); rw [show beginsP p e = { p with lives := false, asks := false } by clear hO hrow hB hC hD t1 hlt2 hfr c0 c1 c2 c3 c4 c5 c6 c7 c8 c9 e0 e2 e3 e4 hnil hp hi ho hne hlt h; simp_all [beginsP, beginsC]]; exact hC.out.2)
    | (obtain ⟨Y, hY, h1, h2⟩ := hD.out; rw [← hY]; have hc : beginsC p e = 0 := (by clear hY h1 h2; clear hO hrow hB hC hD t1 hlt2 hfr c0 c1 c2 c3 c4 c5 c6 c7 c8 c9 e0 e2 e3 e4 hnil hp hi ho hne hlt h; simp_all [beginsC]; done); refine ⟨ret_int hc.symm, h1, ?_⟩; rw [show beginsP p e = ⟨true, true, true, e.ok, e.oa, e.on, false, false, 0, false⟩ by unfold beginsP; rw [hc]; clear hY h1 h2; clear hO hrow hB hC hD t1 hlt2 hfr c0 c1 c2 c3 c4 c5 c6 c7 c8 c9 e0 e2 e3 e4 hnil hp hi ho hne hlt h; simp_all]; exact h2)
    | trace_state
end Go.Proofs.Ytclidckjnoafcaa
