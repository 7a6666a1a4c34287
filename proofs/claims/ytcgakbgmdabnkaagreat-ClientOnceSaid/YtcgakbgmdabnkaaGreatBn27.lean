/- Texts bound together: AdA AdB AudP AudW AdC. -/
import Derived.Test.YtcgakbgmdabnkaaGreatBn24

import Derived.Test.YtcgakbgmdabnkaaGreatBn26

import Derived.Test.YtcgakbgmdabnkaaGreatBn2

import Derived.Test.YtcgakbgmdabnkaaGreatBn7

import Derived.Test.YtcgakbgmdabnkaaGreatBn5

set_option linter.all false
/- The Adopter in memory: New and its small methods. -/
namespace Go.Proofs.YtcgakbgmdabnkaaGreat

open Go.RowKit

attribute [local go_sem ↓] Go.wp_at_zero Go.wp_at_succ

def adCells (s : Sh) (t : Ad) : Array Value := #[.int .i64 s.p, .int .i64 s.c, .int .i64 s.m, .int .i64 t.c, .int .i64 t.d, .int .i64 t.next, .int .u64 t.was, .int .i64 t.who, .int .i64 t.at', .int .i64 t.i, .int .i64 t.pk, .int .i64 t.pa, .int .i64 t.pb, .int .i64 t.err, .bool t.done]
theorem addone_any (q : Nat) (cs : Array Value) (v : Bool) (w : World) (h : RowAt w q cs 243) (hv : cs[14]? = some (.bool v)) : Calls Tryz.prog 264 #[.pointer (some ⟨q, 0, .none⟩)] w fun e w' => e = .returned (.bool v) ∧ w' = w := by
  have c := (h.cell 14).trans hv
  clear h hv
  go_enter Tryz.func264, Tryz.ntmps264
  go_wp2_with fail
  go_returns
  exact ⟨rfl, rfl⟩
theorem adend_any (q : Nat) (s : Sh) (t : Ad) (x : Int) (w : World) (hq : RowAt w q (adCells s t) 243) :
    Calls Tryz.prog 153 #[.pointer (some ⟨q, 0, .none⟩), .int .i64 x] w fun e w' => Turned q w w' e (adCells s (t.fin x)) 243 := by
  have h0 := At1.start hq
  clear hq
  obtain ⟨sp, sc, sm⟩ := s
  obtain ⟨tc, td, tn, tw, tby, ta, ti, pk, pa, pb, terr, tdone⟩ := t
  have c13 : w.cell? ⟨q, 13, .none⟩ = some (.int .i64 terr) := h0.cell 13
  have c14 : w.cell? ⟨q, 14, .none⟩ = some (.bool tdone) := h0.cell 14
  have zf := h0.free
  go_enter Tryz.func153, Tryz.ntmps153
  go_wp2_with fail
  go_returns
  exact ((h0.set 13 _).set 14 _).fin rfl
theorem aderr_any (q : Nat) (s : Sh) (t : Ad) (w : World) (hq : RowAt w q (adCells s t) 243) :
    Calls Tryz.prog 279 #[.pointer (some ⟨q, 0, .none⟩)] w fun e w' => e = .returned (.int .i64 t.err) ∧ w' = w := by
  have c : w.cell? ⟨q, 13, .none⟩ = some (.int .i64 t.err) := hq.cell 13
  clear hq
  go_enter Tryz.func279, Tryz.ntmps279
  go_wp2_with fail
  go_returns
  exact ⟨rfl, rfl⟩
/-- What turn comes to. -/
theorem ad_turns (s : Sh) (t : Ad) (again next : Int) : (t.at' + 1 = s.p ∧ next = 9 ∧ s.m = 0 ∧ t.turn s again next = { t with at' := 0, i := 0, next := 10 }) ∨ (t.at' + 1 = s.p ∧ next = 9 ∧ (s.m == 0) = false ∧ t.turn s again next = { t with at' := 0, i := 0, next := 9 }) ∨ (t.at' + 1 = s.p ∧ (next == 9) = false ∧ t.turn s again next = { t with at' := 0, i := 0, next := next })
    ∨ ((t.at' + 1 == s.p) = false ∧ again = 9 ∧ s.m = 0 ∧ t.turn s again next = { t with at' := t.at' + 1, next := 10 }) ∨ ((t.at' + 1 == s.p) = false ∧ again = 9 ∧ (s.m == 0) = false ∧ t.turn s again next = { t with at' := t.at' + 1, next := 9 }) ∨ ((t.at' + 1 == s.p) = false ∧ (again == 9) = false ∧ t.turn s again next = { t with at' := t.at' + 1, next := again }) := by
  by_cases h1 : t.at' + 1 = s.p <;> by_cases h2 : next = 9 <;> by_cases h3 : s.m = 0 <;> by_cases h4 : again = 9 <;> simp [Ad.turn, h1, h2, h3, h4]
set_option maxHeartbeats 1000000 in
theorem adturn_any (q : Nat) (s : Sh) (t : Ad) (again next : Int) (w : World) (hq : RowAt w q (adCells s t) 243) (ha : 0 ≤ t.at' ∧ t.at' < 64) :
    Calls Tryz.prog 274 #[.pointer (some ⟨q, 0, .none⟩), .int .i64 again, .int .i64 next] w fun e w' => Turned q w w' e (adCells s (t.turn s again next)) 243 := by
  have h0 := At1.start hq
  clear hq
  have hk := ad_turns s t again next
  have w1 : IntKind.i64.wrap (t.at' + 1) = t.at' + 1 := IntWalk.i64_in _ ⟨by omega, by omega⟩
  obtain ⟨t2, ht2⟩ : ∃ t2, t2 = t.turn s again next := ⟨_, rfl⟩
  rw [← ht2] at hk ⊢
  clear ht2 ha
  obtain ⟨sp, sc, sm⟩ := s
  obtain ⟨tc, td, tn, tw, tby, ta, ti, pk, pa, pb, terr, tdone⟩ := t
  dsimp only at hk w1
  have c0 : w.cell? ⟨q, 0, .none⟩ = some (.int .i64 sp) := h0.cell 0
  have c1 : w.cell? ⟨q, 1, .none⟩ = some (.int .i64 sc) := h0.cell 1
  have c2 : w.cell? ⟨q, 2, .none⟩ = some (.int .i64 sm) := h0.cell 2
  have c3 : w.cell? ⟨q, 3, .none⟩ = some (.int .i64 tc) := h0.cell 3
  have c4 : w.cell? ⟨q, 4, .none⟩ = some (.int .i64 td) := h0.cell 4
  have c5 : w.cell? ⟨q, 5, .none⟩ = some (.int .i64 tn) := h0.cell 5
  have c6 : w.cell? ⟨q, 6, .none⟩ = some (.int .u64 tw) := h0.cell 6
  have c7 : w.cell? ⟨q, 7, .none⟩ = some (.int .i64 tby) := h0.cell 7
  have c8 : w.cell? ⟨q, 8, .none⟩ = some (.int .i64 ta) := h0.cell 8
  have c9 : w.cell? ⟨q, 9, .none⟩ = some (.int .i64 ti) := h0.cell 9
  have c10 : w.cell? ⟨q, 10, .none⟩ = some (.int .i64 pk) := h0.cell 10
  have c11 : w.cell? ⟨q, 11, .none⟩ = some (.int .i64 pa) := h0.cell 11
  have c12 : w.cell? ⟨q, 12, .none⟩ = some (.int .i64 pb) := h0.cell 12
  have c13 : w.cell? ⟨q, 13, .none⟩ = some (.int .i64 terr) := h0.cell 13
  have c14 : w.cell? ⟨q, 14, .none⟩ = some (.bool tdone) := h0.cell 14
  have zf := h0.free
  go_enter Tryz.func274, Tryz.ntmps274
  go_upto_region 2 with fail
  have hB := (h0.set 8 (.int .i64 (ta + 1))).set 5 (.int .i64 again)
  generalize World.setCell _ ⟨q, 5, .none⟩ (.int .i64 again) = U at *
  clear c0 c1 c2 c3 c4 c5 c6 c7 c8 c9 c10 c11 c12 c13 c14 h0 zf
  have z0 : U.cell? ⟨q, 0, .none⟩ = some (.int .i64 sp) := hB.cell 0
  have z8 : U.cell? ⟨q, 8, .none⟩ = some (.int .i64 (ta + 1)) := hB.cell 8
  have lU := hB.lt
  refine wp_region_ext (by kernel_rfl) (by kernel_rfl) ?_
  repeat (go_big_quiet_step (fail))
  refine wpQuiet_nil ?_
  rintro _ ⟨e', rfl⟩
  have hX := hB.below e'.below
  generalize e'.w = X at *
  have k0 : X.cell? ⟨q, 0, .none⟩ = some (.int .i64 sp) := hX.cell 0
  have k2 : X.cell? ⟨q, 2, .none⟩ = some (.int .i64 sm) := hX.cell 2
  have k5 : X.cell? ⟨q, 5, .none⟩ = some (.int .i64 again) := hX.cell 5
  have k8 : X.cell? ⟨q, 8, .none⟩ = some (.int .i64 (ta + 1)) := hX.cell 8
  have k9 : X.cell? ⟨q, 9, .none⟩ = some (.int .i64 ti) := hX.cell 9
  have zf := hX.free
  rcases hk with ⟨hs, rfl, hm, ht2⟩ | ⟨hs, rfl, hm, ht2⟩ | ⟨hs, hn, ht2⟩ | ⟨hs, rfl, hm, ht2⟩ | ⟨hs, rfl, hm, ht2⟩ | ⟨hs, hn, ht2⟩
  all_goals
    replace ht2 := Lib.hid ht2
    try subst hs
    go_wp2_with fail
    go_returns
  · exact ((((hX.set 8 _).set 9 _).set 5 _).set 5 _).fin (by rw [ht2.out]; rfl)
  · exact (((hX.set 8 _).set 9 _).set 5 _).fin (by rw [ht2.out]; rfl)
  · exact (((hX.set 8 _).set 9 _).set 5 _).fin (by rw [ht2.out]; rfl)
  · exact (hX.set 5 _).fin (by rw [ht2.out]; rfl)
  · exact hX.fin (by rw [ht2.out]; rfl)
  · exact hX.fin (by rw [ht2.out]; rfl)
set_option maxHeartbeats 1000000 in
theorem adslot_any (q : Nat) (s : Sh) (t : Ad) (w : World) (hq : RowAt w q (adCells s t) 243) (ha : 0 ≤ t.at' ∧ t.at' < 64) (hi : 0 ≤ t.i ∧ t.i < 16) :
    Calls Tryz.prog 266 #[.pointer (some ⟨q, 0, .none⟩)] w fun e w' => Turned q w w' e (adCells s (t.slot s)) 243 := by
  have h0 := At1.start hq
  clear hq
  unfold Ad.slot
  have hsl := fun W => slots_any t.pa W
  have htn := fun Y (hY : RowAt Y q (adCells s { t with i := 0, next := 11 }) 243) => adturn_any q s { t with i := 0, next := 11 } 10 13 Y hY ha
  have w1 : IntKind.i64.wrap (t.i + 1) = t.i + 1 := IntWalk.i64_in _ ⟨by omega, by omega⟩
  have hcs : t.i + 1 = slotsV t.pa ∨ (¬ t.i + 1 = slotsV t.pa ∧ (t.i + 1 == slotsV t.pa) = false) := by
    by_cases h : t.i + 1 = slotsV t.pa
    · exact .inl h
    · exact .inr ⟨h, by simpa using h⟩
  obtain ⟨t2, ht2, ht2'⟩ : ∃ t2 : Ad, Hid (t2 = if t.i + 1 = slotsV t.pa then ({ t with i := 0, next := 11 } : Ad).turn s 10 13 else { t with i := t.i + 1, next := 11 }) ∧ t2 = _ := ⟨_, Lib.hid rfl, rfl⟩
  rw [← ht2']
  clear ht2'
  generalize slotsV t.pa = sv at *
  obtain ⟨sp, sc, sm⟩ := s
  obtain ⟨tc, td, tn, tw, tby, ta, ti, pk, pa, pb, terr, tdone⟩ := t
  dsimp only at hsl htn hcs ht2 w1
  clear ha hi
  replace hsl := Lib.hid hsl
  replace htn := Lib.hid htn
  have c0 : w.cell? ⟨q, 0, .none⟩ = some (.int .i64 sp) := h0.cell 0
  have c1 : w.cell? ⟨q, 1, .none⟩ = some (.int .i64 sc) := h0.cell 1
  have c2 : w.cell? ⟨q, 2, .none⟩ = some (.int .i64 sm) := h0.cell 2
  have c3 : w.cell? ⟨q, 3, .none⟩ = some (.int .i64 tc) := h0.cell 3
  have c4 : w.cell? ⟨q, 4, .none⟩ = some (.int .i64 td) := h0.cell 4
  have c5 : w.cell? ⟨q, 5, .none⟩ = some (.int .i64 tn) := h0.cell 5
  have c6 : w.cell? ⟨q, 6, .none⟩ = some (.int .u64 tw) := h0.cell 6
  have c7 : w.cell? ⟨q, 7, .none⟩ = some (.int .i64 tby) := h0.cell 7
  have c8 : w.cell? ⟨q, 8, .none⟩ = some (.int .i64 ta) := h0.cell 8
  have c9 : w.cell? ⟨q, 9, .none⟩ = some (.int .i64 ti) := h0.cell 9
  have c10 : w.cell? ⟨q, 10, .none⟩ = some (.int .i64 pk) := h0.cell 10
  have c11 : w.cell? ⟨q, 11, .none⟩ = some (.int .i64 pa) := h0.cell 11
  have c12 : w.cell? ⟨q, 12, .none⟩ = some (.int .i64 pb) := h0.cell 12
  have c13 : w.cell? ⟨q, 13, .none⟩ = some (.int .i64 terr) := h0.cell 13
  have c14 : w.cell? ⟨q, 14, .none⟩ = some (.bool tdone) := h0.cell 14
  have zf := h0.free
  go_enter Tryz.func266, Tryz.ntmps266
  go_upto_region 2 with fail
  have hB := (h0.set 9 (.int .i64 (ti + 1))).set 5 (.int .i64 11)
  generalize World.setCell _ ⟨q, 5, .none⟩ (.int .i64 11) = U at *
  clear c0 c1 c2 c3 c4 c5 c6 c7 c8 c9 c10 c11 c12 c13 c14 h0 zf
  have z9 : U.cell? ⟨q, 9, .none⟩ = some (.int .i64 (ti + 1)) := hB.cell 9
  have z11 : U.cell? ⟨q, 11, .none⟩ = some (.int .i64 pa) := hB.cell 11
  have lU := hB.lt
  refine wp_region_ext (by kernel_rfl) (by kernel_rfl) ?_
  repeat (go_big_quiet_step ((first | (go_at_call 159; exact ext_same ((hsl.out _).mono fun _ _ h => ⟨h.1, h.2⟩)) | fail)))
  refine wpQuiet_nil ?_
  rintro _ ⟨e', rfl⟩
  have hX := hB.below e'.below
  generalize e'.w = X at *
  rcases hcs with hcs | ⟨hn, hcs⟩
  · subst hcs
    replace ht2 := Lib.hid (ht2.out.trans (if_pos rfl))
    have k9 : X.cell? ⟨q, 9, .none⟩ = some (.int .i64 (ti + 1)) := hX.cell 9
    have zf := hX.free
    have hE := hX.set 9 (.int .i64 0)
    go_wp2_with (first | (go_at_call 274; (with_reducible refine (htn.out _ hE.row).mono ?_); rintro r w1 hT; obtain rfl := hT.ret) | fail)
    go_returns
    exact (hE.turned hT).fin (by rw [ht2.out])
  · replace ht2 := Lib.hid (ht2.out.trans (if_neg hn))
    clear hn
    go_wp2_with fail
    go_returns
    exact hX.fin (by rw [ht2.out]; rfl)
end Go.Proofs.YtcgakbgmdabnkaaGreat
/- The Adopter in memory: New, own, read. -/
namespace Go.Proofs.YtcgakbgmdabnkaaGreat

open Go.RowKit

attribute [local go_sem ↓] Go.wp_at_zero Go.wp_at_succ

set_option maxHeartbeats 1000000 in
theorem adown_any (q : Nat) (s : Sh) (t : Ad) (k a b : Int) (ok : Bool) (w : World) (hq : RowAt w q (adCells s t) 243) :
    Calls Tryz.prog 275 #[.pointer (some ⟨q, 0, .none⟩), .agg #[.int .i64 k, .int .i64 a, .int .i64 b], .bool ok] w fun e w' => e = .returned (.bool (ok && (k == 1 && a == t.d))) ∧ Below w.heap.size w w' := by
  have h0 := hq
  clear hq
  obtain ⟨sp, sc, sm⟩ := s
  obtain ⟨tc, td, tn, tw, tby, ta, ti, pk, pa, pb, terr, tdone⟩ := t
  dsimp only
  have hb0 := (Below.refl w.heap.size w).alloc (Nat.le_refl _) (.cells #[.int .i64 k, .int .i64 a, .int .i64 b] 234)
  have t0 := heap_alloc_new w (.cells #[.int .i64 k, .int .i64 a, .int .i64 b] 234)
  have lq := h0.lt
  go_enter Tryz.func275, Tryz.ntmps275
  go_upto_region 1 with fail
  generalize w.alloc (.cells #[.int .i64 k, .int .i64 a, .int .i64 b] 234) = W at *
  have h1 := h0.below hb0
  obtain ⟨H, hH, hH'⟩ : ∃ H, Hid (H = w.heap.size) ∧ H = w.heap.size := ⟨_, Lib.hid rfl, rfl⟩
  rw [← hH'] at t0 ⊢
  have lH : H < W.heap.size := (Array.getElem?_eq_some_iff.1 t0).1
  have c0 : W.cell? ⟨H, 0, .none⟩ = some (.int .i64 k) := rowCells t0 0
  have c1 : W.cell? ⟨H, 1, .none⟩ = some (.int .i64 a) := rowCells t0 1
  have d4 : W.cell? ⟨q, 4, .none⟩ = some (.int .i64 td) := h1.cell 4
  have lqW := h1.lt

  clear hH' t0 h0
  rcases (by cases ok <;> simp : ok = false ∨ ok = true) with rfl | rfl
  case inr =>
    rcases (by by_cases h : k = 1 <;> simp [h] : k = 1 ∨ (k == 1) = false) with rfl | hk
    all_goals
      refine wp_region_ext (by kernel_rfl) (by kernel_rfl) ?_
      repeat (go_big_quiet_step (fail))
      refine wpQuiet_nil ?_
      rintro _ ⟨e', rfl⟩
      have hbe := e'.below
      generalize e'.w = X at *
      go_wp2_with fail
      go_returns
    · exact ⟨by simp, belowTrans hb0 hbe⟩
    · exact ⟨by simp [hk], belowTrans hb0 hbe⟩
  case inl =>
    refine wp_region_ext (by kernel_rfl) (by kernel_rfl) ?_
    repeat (go_big_quiet_step (fail))
    refine wpQuiet_nil ?_
    rintro _ ⟨e', rfl⟩
    have hbe := e'.below
    generalize e'.w = X at *
    go_wp2_with fail
    go_returns
    exact ⟨by simp, belowTrans hb0 hbe⟩
set_option maxRecDepth 100000 in
set_option maxHeartbeats 2000000 in
theorem adread_any (q p b : Nat) (s : Sh) (t : Ad) (m : Mem) (a : Int) (w : World) (h0 : At3 q p b w w (adCells s t) 243 m) (hf : Fits s m) (hs : m.st < 1000000000) (ha : 0 ≤ a ∧ a < s.p) :
    Calls Tryz.prog 273 #[.pointer (some ⟨q, 0, .none⟩), .pointer (some ⟨p, 0, .none⟩), .int .i64 a] w fun e w' => e = .returned (.tuple #[.agg #[.int .i64 (pgK s a (m.get (pageIx s.p s.c s.m a))), .int .i64 (pgP s a (m.get (pageIx s.p s.c s.m a)) 0), .int .i64 (pgP s a (m.get (pageIx s.p s.c s.m a)) 1)], .bool (readPageB s.p s.c s.m a (m.get (pageIx s.p s.c s.m a)))]) ∧ At3 q p b w w' (adCells s t) 243 (m.load t.c (pageIx s.p s.c s.m a)) := by
  obtain ⟨hpx, hph⟩ := hf.page ha
  have hcpp := fun Y => planPage_any s.p s.c s.m a Y
  rw [hpx] at hcpp ⊢
  have hlp := fun Y (hY : WdsAt Y p b m) => wload_any p b m t.c (s.c + a) Y hY hph hs
  have hrp := fun Y => readPage3 s a (m.get (s.c + a)) Y (Mem.get_fit h0.wds.fit _)
  clear hpx hph hf ha
  generalize s.c + a = pga at *
  generalize m.get pga = x at *
  generalize readPageB s.p s.c s.m a x = B at *
  generalize pgK s a x = e0 at *
  generalize pgP s a x 0 = e1 at *
  generalize pgP s a x 1 = e2 at *
  obtain ⟨sp, sc, sm⟩ := s
  obtain ⟨tc, td, tn, tw, tby, ta, ti, pk, pa, pb, terr, tdone⟩ := t
  dsimp only at hcpp hlp hrp ⊢
  replace hcpp := Lib.hid hcpp
  replace hlp := Lib.hid hlp
  replace hrp := Lib.hid hrp
  have t0 := heap_alloc_new w (.cells #[.int .i64 0, .int .i64 0, .int .i64 0] 234)
  have hX := h0.alloc (.cells #[.int .i64 0, .int .i64 0, .int .i64 0] 234)
  go_enter Tryz.func273, Tryz.ntmps273
  go_upto_region 1 with fail
  generalize w.alloc (.cells #[.int .i64 0, .int .i64 0, .int .i64 0] 234) = X at *
  obtain ⟨H, hH, hH'⟩ : ∃ H, Hid (H = w.heap.size) ∧ H = w.heap.size := ⟨_, Lib.hid rfl, rfl⟩
  rw [← hH'] at t0 ⊢
  have hHw : w.heap.size ≤ H := by omega
  clear hH'
  have hHq : H ≠ q := fun e => by have := h0.lt; omega
  have hHp : H ≠ p := fun e => by have := h0.wds.ltp; omega
  have hHb : H ≠ b := fun e => by have := h0.wds.ltb; omega
  have hHr : RowAt X H #[.int .i64 0, .int .i64 0, .int .i64 0] 234 := t0
  clear t0
  have lX := hX.lt
  refine wp_region_loud_last2 20 (p := { dst := none, op := Op.store 234 (Operand.tmp 6) (Operand.tmp 26), type := 0, pos := _, after := _, guard := none }) (q := { dst := some 7, op := Op.assign (Operand.tmp 27), type := _, pos := _, after := _, guard := none }) (x := noVar 4) (ld := 16) (v := .int .u64 x) (ts := [13, 17, 23])
    (K0 := fun Y => At3 q p b w Y (adCells ⟨sp, sc, sm⟩ ⟨tc, td, tn, tw, tby, ta, ti, pk, pa, pb, terr, tdone⟩) 243 m ∧ RowAt Y H #[.int .i64 0, .int .i64 0, .int .i64 0] 234) (K1 := fun Y => At3 q p b w Y (adCells ⟨sp, sc, sm⟩ ⟨tc, td, tn, tw, tby, ta, ti, pk, pa, pb, terr, tdone⟩) 243 (m.load tc pga) ∧ RowAt Y H #[.int .i64 0, .int .i64 0, .int .i64 0] 234)
    (by kernel_rfl) rfl (by kernel_rfl) (by kernel_rfl) (by simp only [List.take, noVar, nopMF, nopM1, nopO, nopC, Nat.reduceBEq, Bool.or_false, Bool.or_true, Bool.false_eq_true, ↓reduceIte, Nat.reduceAdd]; exact rfl) (by kernel_rfl) (by kernel_rfl) (by kernel_rfl) (by simp [noVar]) (by simp [noVar]) (by simp [noVar]) (by simp [noVar]) (by kernel_rfl) (by simp [noVar]) (by simp [noVar])
    ⟨⟨fun Y Y' h1 h2 h3 => ⟨h1.1.far h2 h3 hX.only.size, h1.2.only h3 (by have := hHr.lt; omega)⟩⟩, ⟨fun Y Y' h1 h2 h3 => ⟨h1.1.far h2 h3 hX.only.size, h1.2.only h3 (by have := hHr.lt; omega)⟩⟩⟩ ⟨hX.drew, hHr.drew⟩ ?_
  apply Exists.intro
  refine ⟨fun B hb hs => ?_, fun h => (by simp [noVar] at h), fun Q0 => ?_, ?_⟩
  case refine_1 =>
    have hrB : RowAt B q (adCells ⟨sp, sc, sm⟩ ⟨tc, td, tn, tw, tby, ta, ti, pk, pa, pb, terr, tdone⟩) 243 := hb.elim (fun h => h.1.row) (fun h => h.1.row)
    have lB := hrB.lt
    have k0 : B.cell? ⟨q, 0, .none⟩ = some (.int .i64 sp) := hrB.cell 0
    have k1 : B.cell? ⟨q, 1, .none⟩ = some (.int .i64 sc) := hrB.cell 1
    have k2 : B.cell? ⟨q, 2, .none⟩ = some (.int .i64 sm) := hrB.cell 2
    have k3 : B.cell? ⟨q, 3, .none⟩ = some (.int .i64 tc) := hrB.cell 3
    repeat (go_big_quiet_step ((first | (go_at_call 160; exact ext_of (hcpp.out _)) | (go_at_call 223; exact ext_of (hrp.out _)) | fail)))
    exact wpQuiet_nil rfl
  case refine_2 => exact loud_step rfl (fun _ _ => by simp [go_sem]) fun Y hY2 hs => (hlp.out Y hY2.1.wds).mono fun r Y' ⟨h1, h2, h3⟩ => ⟨h1, ⟨hY2.1.load h2 h3, hY2.2.only h3 hHp⟩, h3.weak fun k hk => hk ▸ Nat.lt_of_lt_of_le hY2.1.ls.2.1 hX.only.size⟩
  case refine_3 =>
    intro a w4 M hf
    obtain ⟨rfl, hbig, ⟨hk1, hk2⟩, _⟩ := hf
    have z0 : w4.cell? ⟨H, 0, .none⟩ = some (.int .i64 0) := hk2.cell 0
    have z1 : w4.cell? ⟨H, 1, .none⟩ = some (.int .i64 0) := hk2.cell 1
    have z2 : w4.cell? ⟨H, 2, .none⟩ = some (.int .i64 0) := hk2.cell 2
    have zf : ∀ i, w4.frozen? ⟨H, i, .none⟩ = false := fun i => rowFree hk2 i
    have hB := ((hk1.new hHw 0 (.int .i64 e0)).new hHw 1 (.int .i64 e1)).new hHw 2 (.int .i64 e2)
    have hR := ((hk2.set 0 (.int .i64 e0)).set 1 (.int .i64 e1)).set 2 (.int .i64 e2)
    simp only [noVar, vput, List.take, List.size_toArray, List.length_cons, List.length_nil, Nat.reduceAdd, Nat.reduceLT, decide_false, Bool.false_eq_true, if_false]
    clear hk1 hk2 hX h0
    go_wp2
    generalize World.setCell _ ⟨H, 2, .none⟩ (.int .i64 e2) = V at *
    clear z0 z1 z2 zf
    have z0 : V.cell? ⟨H, 0, .none⟩ = some (.int .i64 e0) := hR.cell 0
    have z1 : V.cell? ⟨H, 1, .none⟩ = some (.int .i64 e1) := hR.cell 1
    have z2 : V.cell? ⟨H, 2, .none⟩ = some (.int .i64 e2) := hR.cell 2
    refine bodyPost_ret (by simp [results, Tryz.results273, go_sem, z0, z1, z2]; try rfl) rfl ?_
    exact ⟨rfl, hB⟩
end Go.Proofs.YtcgakbgmdabnkaaGreat
/- A heap's words as an auditor reads them: plain. -/
namespace Go.Proofs.YtcgakbgmdabnkaaGreat

/-- A shape and words. -/
structure Hp where
  p : Int
  c : Int
  m : Int
  xs : List Int
def wd (xs : List Int) (i : Int) : Int := xs.getD i.toNat 0
theorem wd_get {xs : List Int} {i : Int} (h0 : 0 ≤ i) (h1 : i < xs.length) : wd xs i = xs[i.toNat]'(by omega) := by
  unfold wd
  rw [List.getD_eq_getElem?_getD, List.getElem?_eq_getElem (by omega)]
  rfl
def Hp.ok (h : Hp) : Bool := mayB h.p h.c h.m && decide (totalV h.p h.c h.m ≤ (h.xs.length : Int))
def Hp.pw (h : Hp) (a : Int) : Int := wd h.xs (h.c + a)
def Hp.pb (h : Hp) (a : Int) : Bool := readPageB h.p h.c h.m a (h.pw a)
def Hp.pk (h : Hp) (a : Int) : Int := if h.pb a = true then kindV (h.pw a) else 0
def Hp.pa (h : Hp) (a : Int) : Int := if h.pb a = true then partV (h.pw a) 0 else 0
def Hp.sw (h : Hp) (a i : Int) : Int := wd h.xs (h.c + h.p + a * 16 + i)
def Hp.sk (h : Hp) (a i : Int) : Int := if readSlotB (h.sw a i) = true then kindV (h.sw a i) else 0
def Hp.sa (h : Hp) (a i : Int) : Int := if readSlotB (h.sw a i) = true then partV (h.sw a i) 0 else 0
/-- Does anybody hold a page? Who? -/
def Hp.hd (h : Hp) (a : Int) : Int := if (h.pb a && h.pk a == 4) = true then h.pa a else a
def Hp.hb (h : Hp) (a : Int) : Bool := h.pb (h.hd a) && h.pk (h.hd a) == 1
def Hp.hc (h : Hp) (a : Int) : Int := if h.hb a = true then h.pa (h.hd a) else 0
/-- Are all slots below i open? -/
def Hp.op (h : Hp) (a : Int) : Nat → Bool
  | 0 => true
  | i + 1 => h.op a i && h.sk a i == 1
def Hp.fr (h : Hp) (a : Int) : Bool := if (h.pb a && h.pk a == 2) = true then h.op a (slotsV (h.pa a)).toNat else h.pb a && h.pk a == 0
/-- How many free pages in a row end ahead of page k. -/
def Hp.rw (h : Hp) : Nat → Nat
  | 0 => 0
  | k + 1 => if h.fr k = true then h.rw k + 1 else 0
/-- Words that are words. -/
def Hp.fit (h : Hp) : Prop := ∀ x ∈ h.xs, 0 ≤ x ∧ x < 18446744073709551616
end Go.Proofs.YtcgakbgmdabnkaaGreat
/- The walks of package audit: a heap's book, its pages and slots. -/
namespace Go.Proofs.YtcgakbgmdabnkaaGreat

open Go.RowKit

abbrev shV (h : Hp) : Value := .agg #[.int .i64 h.p, .int .i64 h.c, .int .i64 h.m]
abbrev bookV (h : Hp) (v : Value) : Value := .agg #[.int .i64 h.p, .int .i64 h.c, .int .i64 h.m, v]

/-- What a book's methods lean on. -/
structure Bok (w : World) (v : Value) (h : Hp) : Prop where
  ok : h.ok = true
  rd : RdZ .u64 w v h.xs
  fit : h.fit
theorem Bok.below {w w' : World} {v : Value} {h : Hp} (b : Bok w v h) (hb : Below w.heap.size w w') : Bok w' v h := ⟨b.ok, b.rd.below hb, b.fit⟩
theorem Bok.may {w : World} {v : Value} {h : Hp} (b : Bok w v h) : mayB h.p h.c h.m = true := by
  have := b.ok
  unfold Hp.ok at this
  rw [Bool.and_eq_true] at this
  exact this.1
theorem Bok.len {w : World} {v : Value} {h : Hp} (b : Bok w v h) : totalV h.p h.c h.m ≤ (h.xs.length : Int) := by
  have := b.ok
  unfold Hp.ok at this
  rw [Bool.and_eq_true, decide_eq_true_eq] at this
  exact this.2
theorem Bok.bd {w : World} {v : Value} {h : Hp} (b : Bok w v h) : (1 ≤ h.p ∧ h.p ≤ 64) ∧ (1 ≤ h.c ∧ h.c ≤ 12) ∧ (0 ≤ h.m ∧ h.m ≤ 8) ∧ h.c + h.p + h.p * 16 + h.c * h.m ≤ (h.xs.length : Int) := by
  have h1 := mayB_iff.1 b.may
  have h2 := b.len
  unfold totalV at h2
  rw [if_pos b.may] at h2
  omega
/-- A word of the heap, in memory. -/
theorem Bok.word {w : World} {v : Value} {h : Hp} (b : Bok w v h) (i : Int) (h0 : 0 ≤ i) (h1 : i < (h.xs.length : Int)) : ∃ g off cap, ∃ k : Nat, v = .slice (some ⟨g, off, .none⟩) h.xs.length cap ∧ h.xs.length ≤ cap ∧ g < w.heap.size ∧ i = (k : Int) ∧ k < h.xs.length ∧ w.cell? ⟨g, off + k, .none⟩ = some (.int .u64 (wd h.xs i)) := by
  obtain ⟨ao, cap, e, hcap, hcm, hrow⟩ := b.rd.cells
  obtain ⟨g, off, rfl, hg, hc⟩ := hrow (fun e => by rw [e] at h1; simp at h1; omega)
  refine ⟨g, off, cap, i.toNat, e, hcap, hg, by omega, by omega, ?_⟩
  rw [hc i.toNat (by omega), wd_get h0 h1]

theorem readStatus_any (x : Int) (w : World) (h0 : 0 ≤ x) (h1 : x < 18446744073709551616) :
    Calls Tryz.prog 271 #[.int .u64 x] w fun e w' => Below w.heap.size w w' ∧ e = .returned (.tuple (if (statusV (kindV x) (partV x 0) == x) = true then #[.int .i64 (kindV x), .int .i64 (partV x 0)] else #[.int .i64 0, .int .i64 0])) := by
  have hp0 := fun w => part_any x 0 w h0 h1 (by omega)
  have hk0 := fun w => kind_any x w h0 h1
  generalize kindV x = k at *
  generalize partV x 0 = A at *
  by_cases h2 : statusV k A = x
  · have h2' : (statusV k A != x) = false := by simpa using h2
    have h3 : (statusV k A == x) = true := by simpa using h2
    rw [h3, if_pos rfl]
    clear h2 h3
    go_enter Tryz.func271, Tryz.ntmps271
    go_wp2_with (first
      | (go_at_call 238; refine (hk0 _).mono ?_; rintro e w1 ⟨rfl, rfl⟩)
      | (go_at_call 239; refine (hp0 _).mono ?_; rintro e w1 ⟨rfl, rfl⟩)
      | (go_at_call 272; refine (status_any _ _ _).mono ?_; rintro e w2 ⟨rfl, hb⟩))
    go_ret2
    exact ⟨hb, rfl⟩
  · have h2' : (statusV k A != x) = true := by simpa using h2
    have h3 : (statusV k A == x) = false := by simpa using h2
    rw [h3, if_neg Bool.false_ne_true]
    clear h2 h3
    go_enter Tryz.func271, Tryz.ntmps271
    go_wp2_with (first
      | (go_at_call 238; refine (hk0 _).mono ?_; rintro e w1 ⟨rfl, rfl⟩)
      | (go_at_call 239; refine (hp0 _).mono ?_; rintro e w1 ⟨rfl, rfl⟩)
      | (go_at_call 272; refine (status_any _ _ _).mono ?_; rintro e w2 ⟨rfl, hb⟩))
    go_ret2
    exact ⟨hb, rfl⟩
end Go.Proofs.YtcgakbgmdabnkaaGreat
/- The Adopter in memory: New, ask, begin. -/
namespace Go.Proofs.YtcgakbgmdabnkaaGreat

open Go.RowKit

attribute [local go_sem ↓] Go.wp_at_zero Go.wp_at_succ

theorem rs2 (x : Int) (w : World) (h0 : 0 ≤ x ∧ x < 18446744073709551616) :
    Calls Tryz.prog 271 #[.int .u64 x] w fun e w' => e = .returned (.tuple #[.int .i64 (statusK x), .int .i64 (statusA x)]) ∧ Below w.heap.size w w' := by
  refine (readStatus_any x w h0.1 h0.2).mono ?_
  rintro e w' ⟨hb, rfl⟩
  refine ⟨?_, hb⟩
  have h : (statusV (kindV x) (partV x 0) == x) = statusB x := rfl
  rw [h]
  unfold statusK statusA
  cases statusB x <;> rfl
set_option maxHeartbeats 1000000 in
theorem adnew_any (s : Sh) (c d : Int) (w : World) :
    Calls Tryz.prog 111 #[.agg #[.int .i64 s.p, .int .i64 s.c, .int .i64 s.m], .int .i64 c, .int .i64 d] w fun e w' => Born w w' e (adCells s (adNew s c d)) 243 := by
  have hc1 := fun W => planStatus_any s.p s.c s.m c W
  have hc2 := fun W => planStatus_any s.p s.c s.m d W
  have hend := fun k Y (hY : RowAt Y k (adCells s ⟨c, d, 0, 0, 0, 0, 0, 0, 0, 0, 0, false⟩) 243) => adend_any k s ⟨c, d, 0, 0, 0, 0, 0, 0, 0, 0, 0, false⟩ 1 Y hY
  obtain ⟨t2, ht2, ht2'⟩ : ∃ t2 : Ad, Hid (t2 = if statusIx s.p s.c s.m c < 0 ∨ statusIx s.p s.c s.m d < 0 ∨ c = d then (⟨c, d, 0, 0, 0, 0, 0, 0, 0, 0, 0, false⟩ : Ad).fin 1 else ⟨c, d, 0, 0, 0, 0, 0, 0, 0, 0, 0, false⟩) ∧ t2 = adNew s c d := ⟨_, Lib.hid rfl, rfl⟩
  rw [← ht2']
  clear ht2'
  generalize statusIx s.p s.c s.m c = sx at *
  generalize statusIx s.p s.c s.m d = sd at *
  obtain ⟨sp, sc, sm⟩ := s
  dsimp only at hc1 hc2
  replace hc1 := Lib.hid hc1
  replace hc2 := Lib.hid hc2
  replace hend := Lib.hid hend
  have hb0 := (Below.refl w.heap.size w).alloc (Nat.le_refl _) (.cells #[.int .i64 sp, .int .i64 sc, .int .i64 sm] 23)
  have t0 := heap_alloc_new w (.cells #[.int .i64 sp, .int .i64 sc, .int .i64 sm] 23)
  go_enter Tryz.func111, Tryz.ntmps111
  go_upto_region 1 with fail
  generalize w.alloc (.cells #[.int .i64 sp, .int .i64 sc, .int .i64 sm] 23) = W at *
  obtain ⟨H, hH, hH'⟩ : ∃ H, Hid (H = w.heap.size) ∧ H = w.heap.size := ⟨_, Lib.hid rfl, rfl⟩
  rw [← hH'] at t0 ⊢
  have hr0 : RowAt W H #[.int .i64 sp, .int .i64 sc, .int .i64 sm] 23 := t0
  have lH : H < W.heap.size := hr0.lt
  have c0 : W.cell? ⟨H, 0, .none⟩ = some (.int .i64 sp) := hr0.cell 0
  have c1 : W.cell? ⟨H, 1, .none⟩ = some (.int .i64 sc) := hr0.cell 1
  have c2 : W.cell? ⟨H, 2, .none⟩ = some (.int .i64 sm) := hr0.cell 2
  clear t0 hH'
  have hWw := Lib.hid hb0.size
  go_upto_region 2 with fail
  have hr : RowAt (W.alloc (.cells (adCells ⟨sp, sc, sm⟩ ⟨c, d, 0, 0, 0, 0, 0, 0, 0, 0, 0, false⟩) 243)) W.heap.size (adCells ⟨sp, sc, sm⟩ ⟨c, d, 0, 0, 0, 0, 0, 0, 0, 0, 0, false⟩) 243 := heap_alloc_new _ _
  have hbV := hb0.trans ((Below.refl w.heap.size W).alloc hb0.size (.cells (adCells ⟨sp, sc, sm⟩ ⟨c, d, 0, 0, 0, 0, 0, 0, 0, 0, 0, false⟩) 243))
  have hrr := hr0.alloc (.cells (adCells ⟨sp, sc, sm⟩ ⟨c, d, 0, 0, 0, 0, 0, 0, 0, 0, 0, false⟩) 243)
  dsimp only [adCells] at hr hbV hrr hend
  generalize W.alloc (.cells #[.int .i64 sp, .int .i64 sc, .int .i64 sm, .int .i64 c, .int .i64 d, .int .i64 0, .int .u64 0, .int .i64 0, .int .i64 0, .int .i64 0, .int .i64 0, .int .i64 0, .int .i64 0, .int .i64 0, .bool false] 243) = V at *
  obtain ⟨K, hK, hK'⟩ : ∃ K, Hid (K = W.heap.size) ∧ K = W.heap.size := ⟨_, Lib.hid rfl, rfl⟩
  rw [← hK'] at hr ⊢
  have hKw : w.heap.size ≤ K := hK' ▸ hWw.out
  have lHV : H < V.heap.size := hrr.lt
  have lKV : K < V.heap.size := hr.lt
  clear hK' c0 c1 c2 lH hr0 hb0
  have c0 : V.cell? ⟨H, 0, .none⟩ = some (.int .i64 sp) := hrr.cell 0
  have c1 : V.cell? ⟨H, 1, .none⟩ = some (.int .i64 sc) := hrr.cell 1
  have c2 : V.cell? ⟨H, 2, .none⟩ = some (.int .i64 sm) := hrr.cell 2
  clear hrr
  have hcs : sx < 0 ∨ (0 ≤ sx ∧ sd < 0) ∨ (0 ≤ sx ∧ 0 ≤ sd ∧ c = d) ∨ (0 ≤ sx ∧ 0 ≤ sd ∧ (c == d) = false) := by
    by_cases h1 : sx < 0
    · exact .inl h1
    by_cases h2 : sd < 0
    · exact .inr (.inl ⟨by omega, h2⟩)
    by_cases h : c = d
    · exact .inr (.inr (.inl ⟨by omega, by omega, h⟩))
    · exact .inr (.inr (.inr ⟨by omega, by omega, by simpa using h⟩))
  rcases hcs with h1 | ⟨h1, h2⟩ | ⟨h1, h2, rfl⟩ | ⟨h1, h2, h3⟩
  case inr.inr.inr =>
    replace ht2 := Lib.hid (ht2.out.trans (if_neg (by rintro (h | h | h) <;> first | omega | (rw [h] at h3; simp at h3))))
    clear hend
    go_wp2_with (first
      | (go_at_call 43; (with_reducible refine (hc1.out _).mono ?_); rintro r w1 ⟨rfl, hb1⟩; have d0 := keepF hb1 _ _ _ c0; have d1 := keepF hb1 _ _ _ c1; have d2 := keepF hb1 _ _ _ c2; have hr1 := hr.below hb1)
      | (go_at_call 43; (with_reducible refine (hc2.out _).mono ?_); rintro r w2 ⟨rfl, hb2⟩; have hr2 := hr1.below hb2)
      | fail)
    go_returns
    exact ⟨K, rfl, hKw, by rw [ht2.out]; exact hr2, belowTrans (belowTrans hbV hb1) hb2⟩
  case inl =>
    replace ht2 := Lib.hid (ht2.out.trans (if_pos (.inl h1)))
    go_wp2_with (first
      | (go_at_call 43; (with_reducible refine (hc1.out _).mono ?_); rintro r w1 ⟨rfl, hb1⟩; have d0 := keepF hb1 _ _ _ c0; have d1 := keepF hb1 _ _ _ c1; have d2 := keepF hb1 _ _ _ c2; have hr1 := hr.below hb1)
      | (go_at_call 153; (with_reducible refine (hend.out _ _ hr1).mono ?_); rintro r w3 hT; obtain rfl := hT.ret)
      | fail)
    go_returns
    have hbW := belowTrans hbV hb1
    exact ⟨K, rfl, hKw, by rw [ht2.out]; exact hT.row, hbW.trans (hT.only.below hbW.size fun k hk => by rw [hk]; exact hKw)⟩
  case inr.inl =>
    replace ht2 := Lib.hid (ht2.out.trans (if_pos (.inr (.inl h2))))
    go_wp2_with (first
      | (go_at_call 43; (with_reducible refine (hc1.out _).mono ?_); rintro r w1 ⟨rfl, hb1⟩; have d0 := keepF hb1 _ _ _ c0; have d1 := keepF hb1 _ _ _ c1; have d2 := keepF hb1 _ _ _ c2; have hr1 := hr.below hb1)
      | (go_at_call 43; (with_reducible refine (hc2.out _).mono ?_); rintro r w2 ⟨rfl, hb2⟩; have hr2 := hr1.below hb2)
      | (go_at_call 153; (with_reducible refine (hend.out _ _ hr2).mono ?_); rintro r w3 hT; obtain rfl := hT.ret)
      | fail)
    go_returns
    have hbW := belowTrans (belowTrans hbV hb1) hb2
    exact ⟨K, rfl, hKw, by rw [ht2.out]; exact hT.row, hbW.trans (hT.only.below hbW.size fun k hk => by rw [hk]; exact hKw)⟩
  case inr.inr.inl =>
    replace ht2 := Lib.hid (ht2.out.trans (if_pos (.inr (.inr rfl))))
    go_wp2_with (first
      | (go_at_call 43; (with_reducible refine (hc1.out _).mono ?_); rintro r w1 ⟨rfl, hb1⟩; have d0 := keepF hb1 _ _ _ c0; have d1 := keepF hb1 _ _ _ c1; have d2 := keepF hb1 _ _ _ c2; have hr1 := hr.below hb1)
      | (go_at_call 43; (with_reducible refine (hc2.out _).mono ?_); rintro r w2 ⟨rfl, hb2⟩; have hr2 := hr1.below hb2)
      | (go_at_call 153; (with_reducible refine (hend.out _ _ hr2).mono ?_); rintro r w3 hT; obtain rfl := hT.ret)
      | fail)
    go_returns
    have hbW := belowTrans (belowTrans hbV hb1) hb2
    exact ⟨K, rfl, hKw, by rw [ht2.out]; exact hT.row, hbW.trans (hT.only.below hbW.size fun k hk => by rw [hk]; exact hKw)⟩
end Go.Proofs.YtcgakbgmdabnkaaGreat
