/- Texts bound together: FreeW FreeT. -/
import Derived.Test.YtcgakbgmdabnkaaGreatBn21

import Derived.Test.YtcgakbgmdabnkaaGreatBn22

set_option linter.all false
/- The Freer in memory: its small methods. -/
namespace Go.Proofs.YtcgakbgmdabnkaaGreat

open Go.RowKit

attribute [local go_sem ↓] Go.wp_at_zero Go.wp_at_succ

def feCells (s : Sh) (t : Fe) (pv : Value) : Array Value := #[.int .i64 s.p, .int .i64 s.c, .int .i64 s.m, .int .i64 t.c, .int .i64 t.a, .int .i64 t.page, .int .i64 t.slot, .int .u64 t.word, .int .i64 t.pk, .int .i64 t.pa, .int .i64 t.pb, .int .i64 t.next, .int .i64 t.i, pv, .bool t.gave, .bool t.done]
/-- The Freer's object in block q, its Putter in block q2. -/
structure FeAt (w : World) (q q2 : Nat) (s : Sh) (t : Fe) : Prop where
  row : RowAt w q (feCells s t (ptrV t.put q2)) 237
  inn : ∀ x, t.put = some x → RowAt w q2 (puCells s x) 315 ∧ q ≠ q2
theorem fedone_any (q : Nat) (cs : Array Value) (v : Bool) (w : World) (h : RowAt w q cs 237) (hv : cs[15]? = some (.bool v)) : Calls Tryz.prog 167 #[.pointer (some ⟨q, 0, .none⟩)] w fun e w' => e = .returned (.bool v) ∧ w' = w := by
  have c := (h.cell 15).trans hv
  clear h hv
  go_enter Tryz.func167, Tryz.ntmps167
  go_wp2_with fail
  go_returns
  exact ⟨rfl, rfl⟩
theorem fegave_any (q : Nat) (cs : Array Value) (v : Bool) (w : World) (h : RowAt w q cs 237) (hv : cs[14]? = some (.bool v)) : Calls Tryz.prog 168 #[.pointer (some ⟨q, 0, .none⟩)] w fun e w' => e = .returned (.bool v) ∧ w' = w := by
  have c := (h.cell 14).trans hv
  clear h hv
  go_enter Tryz.func168, Tryz.ntmps168
  go_wp2_with fail
  go_returns
  exact ⟨rfl, rfl⟩
theorem fegave_any_nil (w : World) : Calls Tryz.prog 168 #[.pointer none] w fun e w' => e = .returned (.bool false) ∧ w' = w := by
  go_enter Tryz.func168, Tryz.ntmps168
  go_wp2_with fail
  go_returns
  exact ⟨rfl, rfl⟩
/-- Split's answer. -/
theorem split3 (s : Sh) (a : Int) (w : World) : Calls Tryz.prog 105 #[.agg #[.int .i64 s.p, .int .i64 s.c, .int .i64 s.m], .int .i64 a] w fun e w' => e = .returned (.tuple #[.int .i64 (if spB s a = true then a / 64 else 0), .int .i64 (if spB s a = true then a % 64 else 0), .bool (spB s a)]) ∧ Below w.heap.size w w' := by
  refine (split_any s.p s.c s.m a w).mono ?_
  rintro e w' ⟨rfl, hb⟩
  refine ⟨?_, hb⟩
  have h : splitB s.p s.c s.m a = spB s a := rfl
  rw [h]
  cases spB s a <;> rfl
set_option maxHeartbeats 1000000 in
theorem fenew_any (s : Sh) (c a : Int) (w : World) :
    Calls Tryz.prog 109 #[.agg #[.int .i64 s.p, .int .i64 s.c, .int .i64 s.m], .int .i64 c, .int .i64 a] w fun e w' => Born w w' e (feCells s (feNew s c a) (.pointer none)) 237 := by
  have hg := fun W => planStatus_any s.p s.c s.m c W
  have hsp := fun W => split3 s a W
  have hn : feCells s (feNew s c a) (.pointer none) = #[.int .i64 s.p, .int .i64 s.c, .int .i64 s.m, .int .i64 c, .int .i64 a, .int .i64 (if spB s a = true then a / 64 else 0), .int .i64 0, .int .u64 0, .int .i64 0, .int .i64 0, .int .i64 0, .int .i64 0, .int .i64 0, .pointer none, .bool false, .bool (!spB s a || decide (statusIx s.p s.c s.m c < 0))] := rfl
  rw [hn]
  clear hn
  generalize statusIx s.p s.c s.m c = sx at *
  generalize (if spB s a = true then a / 64 else 0) = d at *
  generalize (if spB s a = true then a % 64 else 0) = f at *
  generalize spB s a = g at *
  obtain ⟨sp, sc, sm⟩ := s
  dsimp only at hg hsp ⊢
  replace hg := Lib.hid hg
  replace hsp := Lib.hid hsp
  have hb0 := (Below.refl w.heap.size w).alloc (Nat.le_refl _) (.cells #[.int .i64 sp, .int .i64 sc, .int .i64 sm] 23)
  have t0 := heap_alloc_new w (.cells #[.int .i64 sp, .int .i64 sc, .int .i64 sm] 23)
  go_enter Tryz.func109, Tryz.ntmps109
  go_upto_region 1 with fail
  generalize w.alloc (.cells #[.int .i64 sp, .int .i64 sc, .int .i64 sm] 23) = W at *
  obtain ⟨H, hH, hH'⟩ : ∃ H, Hid (H = w.heap.size) ∧ H = w.heap.size := ⟨_, Lib.hid rfl, rfl⟩
  rw [← hH'] at t0 ⊢
  have lH : H < W.heap.size := (Array.getElem?_eq_some_iff.1 t0).1
  have c0 : W.cell? ⟨H, 0, .none⟩ = some (.int .i64 sp) := rowCells t0 0
  have c1 : W.cell? ⟨H, 1, .none⟩ = some (.int .i64 sc) := rowCells t0 1
  have c2 : W.cell? ⟨H, 2, .none⟩ = some (.int .i64 sm) := rowCells t0 2
  clear hH' t0
  go_upto_region 2 with (first
    | (go_at_call 105; (with_reducible refine (hsp.out _).mono ?_); rintro r w1 ⟨rfl, hb1⟩; have d0 := keepF hb1 _ _ _ c0; have d1 := keepF hb1 _ _ _ c1; have d2 := keepF hb1 _ _ _ c2; have lH1 := cell_lt d0)
    | fail)
  clear c0 c1 c2
  rcases (by cases g <;> simp <;> omega : g = false ∨ (g = true ∧ sx < 0) ∨ (g = true ∧ ¬ sx < 0)) with rfl | ⟨rfl, h1⟩ | ⟨rfl, h1⟩
  all_goals
    try have q1 := decide_eq_false h1
    refine wp_region_ext_tail 13 (by kernel_rfl) (by kernel_rfl) ?_
    dsimp only [List.take, List.drop]
    repeat (go_big_quiet_step ((first | (go_at_call 43; exact ext_of (hg.out _)) | fail)))
    refine wpQuiet_nil ?_
    rintro _ ⟨e', rfl⟩
    have hbe := e'.below
    generalize e'.w = X at *
    change wpList _ _ _ _ _ X
    go_wp2_with fail
    go_returns
  · exact born_alloc hb0 (belowTrans hb1 hbe) rfl
  · exact born_alloc hb0 (belowTrans hb1 hbe) (by simp [h1])
  · exact born_alloc hb0 (belowTrans hb1 hbe) (by simp [h1])
set_option maxHeartbeats 1000000 in
theorem fekept_any (q q2 : Nat) (s : Sh) (t : Fe) (x : Pu) (w : World) (h : FeAt w q q2 s t) (hx : t.put = some x) :
    Calls Tryz.prog 242 #[.pointer (some ⟨q, 0, .none⟩)] w fun e w' => Turned q w w' e (feCells s t.kept (.pointer (some ⟨q2, 0, .none⟩))) 237 := by
  obtain ⟨hin, hne⟩ := h.inn x hx
  have hput := puput_any q2 (puCells s x) x.put w hin rfl
  have hdone := pudone_any q2 (puCells s x) x.done w hin rfl
  have h0 : At1 q w w (feCells s t (.pointer (some ⟨q2, 0, .none⟩))) 237 := At1.start (by have := h.row; rw [hx] at this; exact this)
  have hk := feKept_cases t x hx
  obtain ⟨t2, ht2⟩ : ∃ t2, t2 = t.kept := ⟨_, rfl⟩
  rw [← ht2] at hk ⊢
  clear ht2 h hx hin
  generalize puCells s x = ics at *
  generalize x.put = g at *
  generalize x.done = d at *
  obtain ⟨sp, sc, sm⟩ := s
  obtain ⟨tc, ta, tg, tl, tw, pk, pa, pb, tn, ti, tput, tgave, tdone⟩ := t
  dsimp only at hk
  replace hput := Lib.hid hput
  replace hdone := Lib.hid hdone
  have c11 : w.cell? ⟨q, 11, .none⟩ = some (.int .i64 tn) := h0.cell 11
  have c13 : w.cell? ⟨q, 13, .none⟩ = some (.pointer (some ⟨q2, 0, .none⟩)) := h0.cell 13
  have c15 : w.cell? ⟨q, 15, .none⟩ = some (.bool tdone) := h0.cell 15
  have zf := h0.free
  rcases hk with ⟨rfl, ht2⟩ | ⟨rfl, rfl, ht2⟩ | ⟨rfl, rfl, ht2⟩
  all_goals
    replace ht2 := Lib.hid ht2
    go_enter Tryz.func242, Tryz.ntmps242
    go_wp2_with (first
      | (go_at_call 247; (with_reducible refine hput.out.mono ?_); rintro r w2 ⟨rfl, hw2⟩; obtain rfl := hw2.symm)
      | (go_at_call 248; (with_reducible refine hdone.out.mono ?_); rintro r w3 ⟨rfl, hw3⟩; obtain rfl := hw3.symm)
      | fail)
    go_returns
  · exact (h0.set 15 _).fin (by rw [ht2.out]; rfl)
  · exact (h0.set 11 _).fin (by rw [ht2.out]; rfl)
  · exact h0.fin (by rw [ht2.out])
set_option maxRecDepth 100000 in
set_option maxHeartbeats 1000000 in
theorem feempty_any (q p b : Nat) (s : Sh) (t : Fe) (pv : Value) (m : Mem) (w : World) (h0 : At3 q p b w w (feCells s t pv) 237 m) (hf : Fits s m) (hs : m.st < 1000000000) (hpg : 0 ≤ t.page ∧ t.page < s.p) (hpa : 1 ≤ t.pa ∧ t.pa ≤ 8 ∧ t.pa ≤ s.p - t.page) (hi : 0 ≤ t.i ∧ t.i < t.pa) :
    Calls Tryz.prog 246 #[.pointer (some ⟨q, 0, .none⟩), .pointer (some ⟨p, 0, .none⟩)] w fun e w' => e = .returned (.tuple #[]) ∧ At3 q p b w w' (feCells s (if t.i = t.pa - 1 then { t with done := true } else { t with i := t.i + 1 }) pv) 237 (if t.i = t.pa - 1 then m.store t.c (pageIx s.p s.c s.m t.page) 0 else m.store t.c (pageIx s.p s.c s.m (t.page + t.i + 1)) 0) := by
  have hbd := hf.bd
  have w1 : IntKind.i64.wrap (t.pa - 1) = t.pa - 1 := IntWalk.i64_in _ ⟨by omega, by omega⟩
  have w2 : IntKind.i64.wrap (t.i + 1) = t.i + 1 := IntWalk.i64_in _ ⟨by omega, by omega⟩
  have w3 : IntKind.i64.wrap (t.page + t.i) = t.page + t.i := IntWalk.i64_in _ ⟨by omega, by omega⟩
  have w4 : IntKind.i64.wrap (t.page + t.i + 1) = t.page + t.i + 1 := IntWalk.i64_in _ ⟨by omega, by omega⟩
  by_cases hcs : t.i = t.pa - 1
  · rw [if_pos hcs, if_pos hcs]
    have hcb : (t.i == t.pa - 1) = true := by simpa using hcs
    obtain ⟨hpx, hph⟩ := hf.page hpg
    have hcpp := fun Y => planPage_any s.p s.c s.m t.page Y
    rw [hpx] at hcpp ⊢
    have hst := fun Y (hY : WdsAt Y p b m) => wstore_any p b m t.c (s.c + t.page) 0 Y hY hph (by decide) hs
    generalize s.c + t.page = pg at *
    clear hpx hph hpg hpa hi hbd hf w2 w3 w4 hcs
    obtain ⟨sp, sc, sm⟩ := s
    obtain ⟨tc, ta, tg, tl, tw, pk, pa, pb, tn, ti, tput, tgave, tdone⟩ := t
    dsimp only at hcpp hst w1 hcb ⊢
    replace hcpp := Lib.hid hcpp
    replace hst := Lib.hid hst
    have lq := h0.lt
    have c0 : w.cell? ⟨q, 0, .none⟩ = some (.int .i64 sp) := h0.cell 0
    have c1 : w.cell? ⟨q, 1, .none⟩ = some (.int .i64 sc) := h0.cell 1
    have c2 : w.cell? ⟨q, 2, .none⟩ = some (.int .i64 sm) := h0.cell 2
    have c3 : w.cell? ⟨q, 3, .none⟩ = some (.int .i64 tc) := h0.cell 3
    have c4 : w.cell? ⟨q, 4, .none⟩ = some (.int .i64 ta) := h0.cell 4
    have c5 : w.cell? ⟨q, 5, .none⟩ = some (.int .i64 tg) := h0.cell 5
    have c6 : w.cell? ⟨q, 6, .none⟩ = some (.int .i64 tl) := h0.cell 6
    have c7 : w.cell? ⟨q, 7, .none⟩ = some (.int .u64 tw) := h0.cell 7
    have c8 : w.cell? ⟨q, 8, .none⟩ = some (.int .i64 pk) := h0.cell 8
    have c9 : w.cell? ⟨q, 9, .none⟩ = some (.int .i64 pa) := h0.cell 9
    have c10 : w.cell? ⟨q, 10, .none⟩ = some (.int .i64 pb) := h0.cell 10
    have c11 : w.cell? ⟨q, 11, .none⟩ = some (.int .i64 tn) := h0.cell 11
    have c12 : w.cell? ⟨q, 12, .none⟩ = some (.int .i64 ti) := h0.cell 12
    have c13 : w.cell? ⟨q, 13, .none⟩ = some (pv) := h0.cell 13
    have c14 : w.cell? ⟨q, 14, .none⟩ = some (.bool tgave) := h0.cell 14
    have c15 : w.cell? ⟨q, 15, .none⟩ = some (.bool tdone) := h0.cell 15
    go_enter Tryz.func246, Tryz.ntmps246
    go_upto_region 0 with fail
    refine wp_region_ext (by kernel_rfl) (by kernel_rfl) ?_
    repeat (go_big_quiet_step (fail))
    refine wpQuiet_nil ?_
    rintro _ ⟨e', rfl⟩
    have hX := h0.below e'.below
    generalize e'.w = X at *
    clear c0 c1 c2 c3 c4 c5 c6 c7 c8 c9 c10 c11 c12 c13 c14 c15 lq
    have k0 : X.cell? ⟨q, 0, .none⟩ = some (.int .i64 sp) := hX.cell 0
    have k1 : X.cell? ⟨q, 1, .none⟩ = some (.int .i64 sc) := hX.cell 1
    have k2 : X.cell? ⟨q, 2, .none⟩ = some (.int .i64 sm) := hX.cell 2
    have k3 : X.cell? ⟨q, 3, .none⟩ = some (.int .i64 tc) := hX.cell 3
    have k5 : X.cell? ⟨q, 5, .none⟩ = some (.int .i64 tg) := hX.cell 5
    go_upto_region 1 with fail
    have lX := hX.lt
    refine wp_region_ext_tail 14 (by kernel_rfl) (by kernel_rfl) ?_
    dsimp only [List.take, List.drop]
    repeat (go_big_quiet_step ((first | (go_at_call 160; exact ext_of (hcpp.out _)) | fail)))
    refine wpQuiet_nil ?_
    rintro _ ⟨e', rfl⟩
    have hZ := hX.below e'.below
    generalize e'.w = Z at *
    change wpList _ _ _ _ _ Z
    clear k0 k1 k2 k3 k5 hX lX
    go_wp2_with (first | (go_at_call 219; (with_reducible refine (hst.out _ hZ.wds).mono ?_); rintro r w2 ⟨rfl, hw2, ho2⟩; have hA := hZ.access hw2 ho2; have z15 : w2.cell? ⟨q, 15, .none⟩ = some (.bool tdone) := hA.cell 15; have zf := hA.free) | fail)
    go_returns
    exact ⟨rfl, hA.set 15 _⟩
  · rw [if_neg hcs, if_neg hcs]
    have hcb : (t.i == t.pa - 1) = false := by simpa using hcs
    obtain ⟨hpx, hph⟩ := hf.page (x := t.page + t.i + 1) (by omega)
    have hcpp := fun Y => planPage_any s.p s.c s.m (t.page + t.i + 1) Y
    rw [hpx] at hcpp ⊢
    have hst := fun Y (hY : WdsAt Y p b m) => wstore_any p b m t.c (s.c + (t.page + t.i + 1)) 0 Y hY hph (by decide) hs
    generalize s.c + (t.page + t.i + 1) = pg at *
    clear hpx hph hpg hpa hi hbd hf hcs
    obtain ⟨sp, sc, sm⟩ := s
    obtain ⟨tc, ta, tg, tl, tw, pk, pa, pb, tn, ti, tput, tgave, tdone⟩ := t
    dsimp only at hcpp hst w1 w2 w3 w4 hcb ⊢
    replace hcpp := Lib.hid hcpp
    replace hst := Lib.hid hst
    have lq := h0.lt
    have c0 : w.cell? ⟨q, 0, .none⟩ = some (.int .i64 sp) := h0.cell 0
    have c1 : w.cell? ⟨q, 1, .none⟩ = some (.int .i64 sc) := h0.cell 1
    have c2 : w.cell? ⟨q, 2, .none⟩ = some (.int .i64 sm) := h0.cell 2
    have c3 : w.cell? ⟨q, 3, .none⟩ = some (.int .i64 tc) := h0.cell 3
    have c4 : w.cell? ⟨q, 4, .none⟩ = some (.int .i64 ta) := h0.cell 4
    have c5 : w.cell? ⟨q, 5, .none⟩ = some (.int .i64 tg) := h0.cell 5
    have c6 : w.cell? ⟨q, 6, .none⟩ = some (.int .i64 tl) := h0.cell 6
    have c7 : w.cell? ⟨q, 7, .none⟩ = some (.int .u64 tw) := h0.cell 7
    have c8 : w.cell? ⟨q, 8, .none⟩ = some (.int .i64 pk) := h0.cell 8
    have c9 : w.cell? ⟨q, 9, .none⟩ = some (.int .i64 pa) := h0.cell 9
    have c10 : w.cell? ⟨q, 10, .none⟩ = some (.int .i64 pb) := h0.cell 10
    have c11 : w.cell? ⟨q, 11, .none⟩ = some (.int .i64 tn) := h0.cell 11
    have c12 : w.cell? ⟨q, 12, .none⟩ = some (.int .i64 ti) := h0.cell 12
    have c13 : w.cell? ⟨q, 13, .none⟩ = some (pv) := h0.cell 13
    have c14 : w.cell? ⟨q, 14, .none⟩ = some (.bool tgave) := h0.cell 14
    have c15 : w.cell? ⟨q, 15, .none⟩ = some (.bool tdone) := h0.cell 15
    go_enter Tryz.func246, Tryz.ntmps246
    go_upto_region 0 with fail
    refine wp_region_ext (by kernel_rfl) (by kernel_rfl) ?_
    repeat (go_big_quiet_step (fail))
    refine wpQuiet_nil ?_
    rintro _ ⟨e', rfl⟩
    have hX := h0.below e'.below
    generalize e'.w = X at *
    clear c0 c1 c2 c3 c4 c5 c6 c7 c8 c9 c10 c11 c12 c13 c14 c15 lq
    have k0 : X.cell? ⟨q, 0, .none⟩ = some (.int .i64 sp) := hX.cell 0
    have k1 : X.cell? ⟨q, 1, .none⟩ = some (.int .i64 sc) := hX.cell 1
    have k2 : X.cell? ⟨q, 2, .none⟩ = some (.int .i64 sm) := hX.cell 2
    have k3 : X.cell? ⟨q, 3, .none⟩ = some (.int .i64 tc) := hX.cell 3
    have k5 : X.cell? ⟨q, 5, .none⟩ = some (.int .i64 tg) := hX.cell 5
    have k12 : X.cell? ⟨q, 12, .none⟩ = some (.int .i64 ti) := hX.cell 12
    go_upto_region 3 with fail
    have lX := hX.lt
    refine wp_region_ext_tail 20 (by kernel_rfl) (by kernel_rfl) ?_
    dsimp only [List.take, List.drop]
    repeat (go_big_quiet_step ((first | (go_at_call 160; exact ext_of (hcpp.out _)) | fail)))
    refine wpQuiet_nil ?_
    rintro _ ⟨e', rfl⟩
    have hZ := hX.below e'.below
    generalize e'.w = Z at *
    change wpList _ _ _ _ _ Z
    clear k0 k1 k2 k3 k5 k12 hX lX
    go_wp2_with (first | (go_at_call 219; (with_reducible refine (hst.out _ hZ.wds).mono ?_); rintro r w2 ⟨rfl, hw2, ho2⟩; have hA := hZ.access hw2 ho2; have z12 : w2.cell? ⟨q, 12, .none⟩ = some (.int .i64 ti) := hA.cell 12; have zf := hA.free) | fail)
    go_returns
    exact ⟨rfl, hA.set 12 _⟩
end Go.Proofs.YtcgakbgmdabnkaaGreat
/- The Freer in memory: look. -/
namespace Go.Proofs.YtcgakbgmdabnkaaGreat

open Go.RowKit

attribute [local go_sem ↓] Go.wp_at_zero Go.wp_at_succ

set_option maxRecDepth 100000 in
set_option maxHeartbeats 2000000 in
theorem felook_any (q p b : Nat) (s : Sh) (t : Fe) (pv : Value) (m : Mem) (w : World) (h0 : At3 q p b w w (feCells s t pv) 237 m) (hf : Fits s m) (hs : m.st < 1000000000) (hpg : 0 ≤ t.page ∧ t.page < s.p) (hsp : spB s t.a = true) :
    Calls Tryz.prog 243 #[.pointer (some ⟨q, 0, .none⟩), .pointer (some ⟨p, 0, .none⟩)] w fun e w' => e = .returned (.tuple #[]) ∧ At3 q p b w w' (feCells s (t.look s m).1 pv) 237 (t.look s m).2 := by
  have hbd := hf.bd
  have hsplit := fun Y => split3 s t.a Y
  rw [hsp, if_pos rfl, if_pos rfl] at hsplit
  have hoff : 0 ≤ t.a % 64 ∧ t.a % 64 < 64 := by omega
  obtain ⟨hpx, hph⟩ := hf.page hpg
  have hcpp := fun Y => planPage_any s.p s.c s.m t.page Y
  rw [hpx] at hcpp
  have hlp := fun Y (hY : WdsAt Y p b m) => wload_any p b m t.c (s.c + t.page) Y hY hph hs
  have hrp := fun Y => readPage3 s t.page (m.get (s.c + t.page)) Y (Mem.get_fit h0.wds.fit _)
  have hsz := fun k Y => size_any k Y
  have hr : t.look s m = (if readPageB s.p s.c s.m t.page (m.get (s.c + t.page)) = true ∧ pgK s t.page (m.get (s.c + t.page)) = 3 ∧ t.a % 64 = 0 then { t with word := m.get (s.c + t.page), pk := pgK s t.page (m.get (s.c + t.page)), pa := pgP s t.page (m.get (s.c + t.page)) 0, pb := pgP s t.page (m.get (s.c + t.page)) 1, next := 1 }
      else if readPageB s.p s.c s.m t.page (m.get (s.c + t.page)) = true ∧ pgK s t.page (m.get (s.c + t.page)) = 2 ∧ t.a % 64 % sizeV (pgP s t.page (m.get (s.c + t.page)) 0) = 0 then { t with word := m.get (s.c + t.page), pk := pgK s t.page (m.get (s.c + t.page)), pa := pgP s t.page (m.get (s.c + t.page)) 0, pb := pgP s t.page (m.get (s.c + t.page)) 1, next := 1, slot := t.a % 64 / sizeV (pgP s t.page (m.get (s.c + t.page)) 0) }
      else { t with word := m.get (s.c + t.page), pk := pgK s t.page (m.get (s.c + t.page)), pa := pgP s t.page (m.get (s.c + t.page)) 0, pb := pgP s t.page (m.get (s.c + t.page)) 1, next := 1, done := true }, m.load t.c (s.c + t.page)) := by
    unfold Fe.look pgK pgP
    dsimp only
    rw [hpx]
    by_cases hB : readPageB s.p s.c s.m t.page (m.get (s.c + t.page)) = true <;> simp [hB]
  have hpos : readPageB s.p s.c s.m t.page (m.get (s.c + t.page)) = true ∧ pgK s t.page (m.get (s.c + t.page)) = 2 → 0 < sizeV (pgP s t.page (m.get (s.c + t.page)) 0) := fun h => by
    have h2 := h.2
    unfold pgK at h2
    rw [if_pos h.1] at h2
    unfold pgP
    rw [if_pos h.1]
    exact (off_slot hoff (readPage_super h.1 h2).2.2).1
  rw [hr]
  clear hr hsp hpx hph hpg hbd hf
  generalize s.c + t.page = pga at *
  generalize m.get pga = x at *
  generalize readPageB s.p s.c s.m t.page x = B at *
  generalize pgK s t.page x = e0 at *
  generalize pgP s t.page x 0 = e1 at *
  generalize pgP s t.page x 1 = e2 at *
  replace hsz := fun Y => hsz e1 Y
  have hszb := size_bd e1
  generalize sizeV e1 = z at *
  generalize t.a % 64 = off at *
  generalize t.a / 64 = qu at *
  dsimp only
  obtain ⟨t2, ht2, ht2'⟩ : ∃ t2 : Fe, Hid (t2 = if B = true ∧ e0 = 3 ∧ off = 0 then { t with word := x, pk := e0, pa := e1, pb := e2, next := 1 } else if B = true ∧ e0 = 2 ∧ off % z = 0 then { t with word := x, pk := e0, pa := e1, pb := e2, next := 1, slot := off / z } else { t with word := x, pk := e0, pa := e1, pb := e2, next := 1, done := true }) ∧ t2 = _ := ⟨_, Lib.hid rfl, rfl⟩
  rw [← ht2']
  clear ht2'
  obtain ⟨sp, sc, sm⟩ := s
  obtain ⟨tc, ta, tg, tl, tw, pk, pa, pb, tn, ti, tput, tgave, tdone⟩ := t
  dsimp only at hsplit hcpp hlp hrp ht2 ⊢
  replace hsplit := Lib.hid hsplit
  replace hcpp := Lib.hid hcpp
  replace hlp := Lib.hid hlp
  replace hrp := Lib.hid hrp
  replace hsz := Lib.hid hsz
  replace hpos := Lib.hid hpos
  have lq := h0.lt
  have c0 : w.cell? ⟨q, 0, .none⟩ = some (.int .i64 sp) := h0.cell 0
  have c1 : w.cell? ⟨q, 1, .none⟩ = some (.int .i64 sc) := h0.cell 1
  have c2 : w.cell? ⟨q, 2, .none⟩ = some (.int .i64 sm) := h0.cell 2
  have c3 : w.cell? ⟨q, 3, .none⟩ = some (.int .i64 tc) := h0.cell 3
  have c4 : w.cell? ⟨q, 4, .none⟩ = some (.int .i64 ta) := h0.cell 4
  go_enter Tryz.func243, Tryz.ntmps243
  go_upto_region 0 with fail
  refine wp_region_ext (by kernel_rfl) (by kernel_rfl) ?_
  repeat (go_big_quiet_step ((first | (go_at_call 105; exact ext_of (hsplit.out _)) | fail)))
  refine wpQuiet_nil ?_
  rintro _ ⟨e', rfl⟩
  have hX := h0.below e'.below
  generalize e'.w = X at *
  clear c0 c1 c2 c3 c4 lq
  go_upto_region 1 with fail
  go_cut [5] (fun s5 wx => s5 = .int .i64 off ∧ At3 q p b w wx (feCells ⟨sp, sc, sm⟩ ⟨tc, ta, tg, tl, x, pk, pa, pb, tn, ti, tput, tgave, tdone⟩ pv) 237 (m.load tc pga))
  case first =>
    refine wp_region_loud_last 18 (last := { dst := none, op := Op.store 76 (Operand.tmp 39) (Operand.tmp 37), type := 0, pos := _, after := _, guard := none }) (x := noVar 60) (ld := 15) (v := .int .u64 x) (ts := [23, 27, 36])
      (K0 := fun Y => At3 q p b w Y (feCells ⟨sp, sc, sm⟩ ⟨tc, ta, tg, tl, tw, pk, pa, pb, tn, ti, tput, tgave, tdone⟩ pv) 237 m) (K1 := fun Y => At3 q p b w Y (feCells ⟨sp, sc, sm⟩ ⟨tc, ta, tg, tl, tw, pk, pa, pb, tn, ti, tput, tgave, tdone⟩ pv) 237 (m.load tc pga))
      (by kernel_rfl) rfl (by kernel_rfl) (by simp only [List.take, noVar, nopMF, nopM1, nopO, nopC, Nat.reduceBEq, Bool.or_false, Bool.or_true, Bool.false_eq_true, ↓reduceIte, Nat.reduceAdd]; exact rfl) (by kernel_rfl) (by kernel_rfl) (by kernel_rfl) (by simp [noVar]) (by simp [noVar]) (by simp [noVar]) (by simp [noVar]) (by kernel_rfl) (by simp [noVar]) (by simp [noVar])
      ⟨⟨fun Y Y' h1 h2 h3 => h1.far h2 h3 hX.only.size⟩, ⟨fun Y Y' h1 h2 h3 => h1.far h2 h3 hX.only.size⟩⟩ hX.drew ?_
    apply Exists.intro
    refine ⟨fun B hb hs => ?_, fun h => (by simp [noVar] at h), fun Q0 => ?_, ?_⟩
    case refine_1 =>
      have hrB : RowAt B q (feCells ⟨sp, sc, sm⟩ ⟨tc, ta, tg, tl, tw, pk, pa, pb, tn, ti, tput, tgave, tdone⟩ pv) 237 := hb.elim (fun h => h.row) (fun h => h.row)
      have lB := hrB.lt
      have k0 : B.cell? ⟨q, 0, .none⟩ = some (.int .i64 sp) := hrB.cell 0
      have k1 : B.cell? ⟨q, 1, .none⟩ = some (.int .i64 sc) := hrB.cell 1
      have k2 : B.cell? ⟨q, 2, .none⟩ = some (.int .i64 sm) := hrB.cell 2
      have k3 : B.cell? ⟨q, 3, .none⟩ = some (.int .i64 tc) := hrB.cell 3
      have k5 : B.cell? ⟨q, 5, .none⟩ = some (.int .i64 tg) := hrB.cell 5
      repeat (go_big_quiet_step ((first | (go_at_call 160; exact ext_of (hcpp.out _)) | fail)))
      exact wpQuiet_nil rfl
    case refine_2 => exact loud_step rfl (fun _ _ => by simp [go_sem]) fun Y hY2 hs => (hlp.out Y hY2.wds).mono fun r Y' ⟨h1, h2, h3⟩ => ⟨h1, hY2.load h2 h3, h3.weak fun k hk => hk ▸ Nat.lt_of_lt_of_le hY2.ls.2.1 hX.only.size⟩
    case refine_3 =>
      intro a w4 M hf
      obtain ⟨rfl, hbig, hk1, _⟩ := hf
      have z7 : w4.cell? ⟨q, 7, .none⟩ = some (.int .u64 tw) := hk1.cell 7
      have zf := hk1.free
      have hB := hk1.set 7 (.int .u64 x)
      simp only [noVar, vput, List.take, List.size_toArray, List.length_cons, List.length_nil, Nat.reduceAdd, Nat.reduceLT, decide_false, Bool.false_eq_true, if_false]
      go_wp2
      go_meet
      exact ⟨rfl, hB⟩
  case rest =>
    obtain ⟨rfl, hA⟩ := hcut
    clear hX hlp hcpp hsplit
    obtain ⟨Y, rfl⟩ : ∃ V : World, V = wc := ⟨_, rfl⟩
    have lY := hA.lt
    have c0 : Y.cell? ⟨q, 0, .none⟩ = some (.int .i64 sp) := hA.cell 0
    have c1 : Y.cell? ⟨q, 1, .none⟩ = some (.int .i64 sc) := hA.cell 1
    have c2 : Y.cell? ⟨q, 2, .none⟩ = some (.int .i64 sm) := hA.cell 2
    have c3 : Y.cell? ⟨q, 3, .none⟩ = some (.int .i64 tc) := hA.cell 3
    have c5 : Y.cell? ⟨q, 5, .none⟩ = some (.int .i64 tg) := hA.cell 5
    have c7 : Y.cell? ⟨q, 7, .none⟩ = some (.int .u64 x) := hA.cell 7
    go_upto_region 2 with fail
    go_cut [7, 8] (fun s7 s8 wx => ∃ E, s7 = .pointer (some ⟨E, 0, .none⟩) ∧ s8 = .bool B ∧ Y.heap.size ≤ E ∧ RowAt wx E #[.int .i64 e0, .int .i64 e1, .int .i64 e2] 234 ∧ Below Y.heap.size Y wx)
    case first =>
      refine wp_region_one_ext (x := ⟨16, 17, 14, 7, 54, 234, #[.int .i64 0, .int .i64 0, .int .i64 0], #[.int .i64 e0, .int .i64 e1, .int .i64 e2]⟩) (y := ⟨1000, 1001, 0, 98, 97, 0, #[], #[]⟩) (by kernel_rfl) (by simp only [nopF, nopO, ownB, Nat.reduceBEq, Bool.or_false, Bool.or_true, Bool.false_eq_true, ↓reduceIte, Nat.reduceAdd]; exact rfl) (by kernel_rfl) (by kernel_rfl) (by kernel_rfl) (by constructor <;> (dsimp only; decide)) (by refine ⟨?_, ?_, ?_, ?_⟩ <;> (dsimp only; decide)) rfl (by constructor <;> simp) ?_
      apply Exists.intro
      refine ⟨fun B hb => ?_, ?_, ?_⟩
      case refine_1 =>
        have hrB := hA.row.below hb
        have lB := hrB.lt
        have k0 : B.cell? ⟨q, 0, .none⟩ = some (.int .i64 sp) := hrB.cell 0
        have k1 : B.cell? ⟨q, 1, .none⟩ = some (.int .i64 sc) := hrB.cell 1
        have k2 : B.cell? ⟨q, 2, .none⟩ = some (.int .i64 sm) := hrB.cell 2
        have k3 : B.cell? ⟨q, 3, .none⟩ = some (.int .i64 tc) := hrB.cell 3
        have k5 : B.cell? ⟨q, 5, .none⟩ = some (.int .i64 tg) := hrB.cell 5
        have k7 : B.cell? ⟨q, 7, .none⟩ = some (.int .u64 x) := hrB.cell 7
        repeat (go_big_quiet_step ((first | (go_at_call 223; exact ext_of (hrp.out _)) | fail)))
        exact wpQuiet_nil rfl
      case refine_2 => exact pg_step rfl rfl rfl rfl rfl rfl rfl rfl (by dsimp only; decide +kernel) (by dsimp only; decide +kernel)
      case refine_3 =>
        intro a w4 M hf
        obtain ⟨rfl, hb, hM0, hM⟩ := hf
        simp only [Act.put, vptr]
        go_wp2
        go_meet
        exact ⟨_, rfl, rfl, hM0, hM, hb⟩
    case rest =>
      obtain ⟨E, rfl, rfl, hE, hEr, hbX⟩ := hcut
      have hC := hA.below hbX
      clear hA c0 c1 c2 c3 c5 c7 hrp
      have hEq : E ≠ q := fun e => by rw [e] at hE; omega
      obtain ⟨Z, rfl⟩ : ∃ V : World, V = wc := ⟨_, rfl⟩
      clear hbX
      have g0 : Z.cell? ⟨E, 0, .none⟩ = some (.int .i64 e0) := hEr.cell 0
      have g1 : Z.cell? ⟨E, 1, .none⟩ = some (.int .i64 e1) := hEr.cell 1
      have g2 : Z.cell? ⟨E, 2, .none⟩ = some (.int .i64 e2) := hEr.cell 2
      have c6 : Z.cell? ⟨q, 6, .none⟩ = some (.int .i64 tl) := hC.cell 6
      have c8 : Z.cell? ⟨q, 8, .none⟩ = some (.int .i64 pk) := hC.cell 8
      have c9 : Z.cell? ⟨q, 9, .none⟩ = some (.int .i64 pa) := hC.cell 9
      have c10 : Z.cell? ⟨q, 10, .none⟩ = some (.int .i64 pb) := hC.cell 10
      have c11 : Z.cell? ⟨q, 11, .none⟩ = some (.int .i64 tn) := hC.cell 11
      have c15 : Z.cell? ⟨q, 15, .none⟩ = some (.bool tdone) := hC.cell 15
      have zf := hC.free
      have hD := (((hC.set 8 (.int .i64 e0)).set 9 (.int .i64 e1)).set 10 (.int .i64 e2)).set 11 (.int .i64 1)
      obtain ⟨o1, o2⟩ := hoff
      obtain ⟨z1, z2⟩ := hszb
      have hneg : ∀ (h1 : ¬ (B = true ∧ e0 = 3 ∧ off = 0)) (h2 : ¬ (B = true ∧ e0 = 2 ∧ off % z = 0)), t2 = ⟨tc, ta, tg, tl, x, e0, e1, e2, 1, ti, tput, tgave, true⟩ := fun h1 h2 => (ht2.out.trans (if_neg h1)).trans (if_neg h2)
      replace hneg := Lib.hid hneg
      by_cases hB1 : B = true ∧ e0 = 3 ∧ off = 0
      · replace ht2 := Lib.hid (ht2.out.trans (if_pos hB1))
        obtain ⟨rfl, rfl, rfl⟩ := hB1
        clear hneg hpos
        go_wp2_with fail
        go_returns
        exact ⟨rfl, by rw [ht2.out]; exact hD⟩
      by_cases hB2 : B = true ∧ e0 = 2 ∧ off % z = 0
      · replace ht2 := Lib.hid ((ht2.out.trans (if_neg hB1)).trans (if_pos hB2))
        have hz : 0 < z := hpos.out ⟨hB2.1, hB2.2.1⟩
        have hrem : off.tmod z = 0 := by rw [Int.tmod_eq_emod_of_nonneg o1]; exact hB2.2.2
        have hquo : off.tdiv z = off / z := Int.tdiv_eq_ediv_of_nonneg o1
        have hzb : (z == 0) = false := by simp; omega
        have hdb : IntKind.i64.wrap (off / z) = off / z := by
          have h1 : 0 ≤ off / z := Int.ediv_nonneg o1 (by omega)
          have h2 : off / z ≤ off := Int.ediv_le_self _ o1
          exact IntWalk.i64_in _ ⟨by omega, by omega⟩
        obtain ⟨rfl, rfl, hq0⟩ := hB2
        clear hneg hpos hB1
        replace hq0 := Lib.hid hq0
        go_wp2_with (first | (go_at_call 148; (with_reducible refine (hsz.out _).mono ?_); rintro r w1 ⟨rfl, rfl⟩) | fail)
        go_returns
        exact ⟨rfl, by rw [ht2.out]; exact hD.set 6 _⟩
      · have hne : B = false ∨ (B = true ∧ e0 = 3 ∧ (off == 0) = false) ∨ (B = true ∧ e0 = 2 ∧ (off % z == 0) = false ∧ 0 < z) ∨ (B = true ∧ (e0 == 3) = false ∧ (e0 == 2) = false) := by
          rcases Bool.eq_false_or_eq_true B with h | h
          · by_cases h1 : e0 = 3
            · exact .inr (.inl ⟨h, h1, by simpa [h, h1] using hB1⟩)
            · by_cases h2 : e0 = 2
              · exact .inr (.inr (.inl ⟨h, h2, by simpa [h, h2] using hB2, hpos.out ⟨h, h2⟩⟩))
              · exact .inr (.inr (.inr ⟨h, by simpa using h1, by simpa using h2⟩))
          · exact .inl h
        replace hneg := Lib.hid (hneg.out hB1 hB2)
        clear hB1 hB2 hpos ht2
        rcases hne with rfl | ⟨rfl, rfl, hne⟩ | ⟨rfl, rfl, hne, hz⟩ | ⟨rfl, hne, hne2⟩
        · go_wp2_with fail
          go_returns
          exact ⟨rfl, by rw [hneg.out]; exact hD.set 15 _⟩
        · go_wp2_with fail
          go_returns
          exact ⟨rfl, by rw [hneg.out]; exact hD.set 15 _⟩
        · have hrem : off.tmod z = off % z := Int.tmod_eq_emod_of_nonneg o1
          have hzb : (z == 0) = false := by simp; omega
          go_wp2_with (first | (go_at_call 148; (with_reducible refine (hsz.out _).mono ?_); rintro r w1 ⟨rfl, rfl⟩) | fail)
          go_returns
          exact ⟨rfl, by rw [hneg.out]; exact hD.set 15 _⟩
        · go_wp2_with fail
          go_returns
          exact ⟨rfl, by rw [hneg.out]; exact hD.set 15 _⟩
end Go.Proofs.YtcgakbgmdabnkaaGreat
