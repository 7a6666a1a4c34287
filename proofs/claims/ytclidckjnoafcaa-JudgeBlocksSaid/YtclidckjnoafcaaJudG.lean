/- A judge hears of a block that was given: the walk. -/
import Derived.Test.YtclidckjnoafcaaJudT

namespace Go.Proofs.Ytclidckjnoafcaa

open Go.RowKit

attribute [local go_sem ↓] Go.wp_at_zero Go.wp_at_succ

theorem giveB_no {l : List Bk} {a : Int} (h : foundB a l = false) : giveB l a = l := by unfold giveB; rw [if_neg (by simp [h])]

set_option maxRecDepth 100000 in
set_option maxHeartbeats 2000000 in
theorem gave_any {B : Nat} {w : World} {jb s pb : Nat} {sl : Value} {J : Jd} (h : JgA B w jb s pb sl J) (e : Ev) (i o : Nat) (p : Pt) (hi : i < J.ps.length) (hp : J.ps[i] = p) (ho : o = i * 10) :
    Calls Try.prog 31 #[.pointer (some ⟨jb, 0, .none⟩), .pointer (some ⟨pb, o, .none⟩), e.val] w fun r w' => r = .returned (.int .i64 (gaveC J.l p e)) ∧
      Left B w w' jb s pb sl (if gaveC J.l p e = 0 then { J with l := giveB J.l e.at', ps := J.ps.set i { p with gave := true } } else J) := by
  unfold Ev.val Ev.cells
  have hb2 := (Below.refl w.heap.size w).alloc (Nat.le_refl _) (.cells #[.int .i64 e.k, .int .i64 e.c, .int .i64 e.ok, .int .i64 e.oa, .int .i64 e.on, .int .i64 e.at', .int .i64 e.n, .int .i64 e.er] 37)
  have t1 := heap_alloc_new w (.cells #[.int .i64 e.k, .int .i64 e.c, .int .i64 e.ok, .int .i64 e.oa, .int .i64 e.on, .int .i64 e.at', .int .i64 e.n, .int .i64 e.er] 37)
  have hJ := h.below hb2
  have hps : J.ps ≠ [] := fun e => by rw [e] at hi; simp at hi
  obtain ⟨hlt2, c0, c1, c2, c3, c4, c5, c6, c7, c8, c9, hfr⟩ := ho ▸ (((hJ.row hps).pt i hi).of_eq hp)
  replace ho := Lib.hid ho
  replace hp := Lib.hid hp
  replace hi := Lib.hid hi
  have hltj := h.lt
  have hltp := h.plt
  have hlts := h.model.lt
  obtain ⟨R, hR⟩ : ∃ R, Hid (gaveC J.l p e = R) := ⟨_, Lib.hid rfl⟩
  obtain ⟨JR, hJR⟩ : ∃ JR, Hid ((if R = 0 then { J with l := giveB J.l e.at', ps := J.ps.set i { p with gave := true } } else J) = JR) := ⟨_, Lib.hid rfl⟩
  rw [hR.out, hJR.out]
  have hR2 : (R = 5 ∧ ((p.k ≠ 2 ∧ p.k ≠ 3) ∨ ((p.k = 2 ∨ p.k ≠ 2 ∧ p.k = 3) ∧ (p.gave = true ∨ p.gave = false ∧ e.at' ≠ p.a)))) ∨ ((p.k = 2 ∨ p.k ≠ 2 ∧ p.k = 3) ∧ p.gave = false ∧ e.at' = p.a ∧ R = if foundB e.at' J.l = true then 0 else 3) := by
    rw [← hR.out]; unfold gaveC mayG
    by_cases h2 : p.k = 2 <;> by_cases h3 : p.k = 3 <;> by_cases h4 : e.at' = p.a <;> cases p.gave <;> simp_all
  have hsl : ∀ k, sl.ownBlock = some k → k < w.heap.size := fun k hk => (h.model.owns.lt k hk).2
  have hgv0 : Hid (∀ X, PM B X s sl J.W J.l → Calls Try.prog 38 #[.pointer (some ⟨s, 0, .none⟩), .int .i64 e.at'] X fun r w' => r = .returned (.bool (foundB e.at' J.l)) ∧ ∃ sl', PM B w' s sl' J.W (giveB J.l e.at') ∧ Only (foot s sl) X w' ∧ ∀ k, foot s sl' k → foot s sl k) := Lib.hid fun X hX => give_any hX e.at'
  have hfin : Hid (∀ X w2 sl' l', Below w.heap.size w X → JgA B X jb s pb sl J → PM B w2 s sl' J.W l' → Only (foot s sl) X w2 → (∀ k, foot s sl' k → foot s sl k) → ∃ sl', JgA B w2 jb s pb sl' { J with l := l' } ∧ (∀ k, sl'.ownBlock = some k → sl.ownBlock = some k ∨ w.heap.size ≤ k) ∧ Only (footJ jb s pb sl) w w2) := Lib.hid fun X w2 sl' l' hw hj hm ho hf => by
    refine ⟨sl', hj.setM hm ho (fun k e => .inl (hf k e)), fun k e => ?_, (Only.of_below hw).trans ho fun k _ e => .inr (.inr e)⟩
    rcases hf k (.inr e) with h1 | h1
    · exact absurd (h1 ▸ e) hm.apart
    · exact .inl h1
  have hLeft : Hid (∀ W, Below w.heap.size w W → JgA B W jb s pb sl J → Left B w W jb s pb sl J) := Lib.hid fun W hb hj => ⟨⟨sl, hj, fun k e => .inl e⟩, Only.of_below hb⟩
  rcases hR2 with ⟨rfl, hbad⟩ | ⟨hk, hg, ha, hRv⟩
  · have hJJ : J = JR := by rw [← hJR.out]; rfl
    subst hJJ
    clear hJR hR hgv0 hfin
    rcases hbad with ⟨hk2, hk3⟩ | ⟨hk, hbad⟩
    · have hb2' : (p.k == 2) = false := by simpa using hk2
      have hb3' : (p.k == 3) = false := by simpa using hk3
      go_enter Try.func31, Try.ntmps31
      go_upto_region 1 with fail
      generalize w.alloc (.cells #[.int .i64 e.k, .int .i64 e.c, .int .i64 e.ok, .int .i64 e.oa, .int .i64 e.on, .int .i64 e.at', .int .i64 e.n, .int .i64 e.er] 37) = W at *
      obtain ⟨E, hE, hE'⟩ : ∃ E, Hid (E = w.heap.size) ∧ E = w.heap.size := ⟨_, Lib.hid rfl, rfl⟩
      rw [← hE'] at t1 ⊢
      have e5 : W.cell? ⟨E, 5, .none⟩ = some (.int .i64 e.at') := rowCells t1 5
      have h0 := hJ.h0
      clear hE'
      go_upto_region 2 with fail
      go_quiet (fail)
      have hbq : Below w.heap.size w (W.drewN nq) := below_drewN hb2 nq
      have hJq : JgA B (W.drewN nq) jb s pb sl J := hJ.below (below_drewN (Below.refl _ _) nq)
      have p7 : (W.drewN nq).cell? ⟨pb, o + 7, .none⟩ = some (.bool p.gave) := c7
      have e5q : (W.drewN nq).cell? ⟨E, 5, .none⟩ = some (.int .i64 e.at') := e5
      have h0q := hJq.h0
      clear c0 c1 c2 c3 c4 c5 c6 c7 c8 c9 hfr e5 h0 t1 hb2 hJ
      generalize W.drewN nq = V at *
      go_wp2
      go_ret
      exact ⟨rfl, hLeft.out _ hbq hJq⟩
    · rcases hbad with hg | ⟨hg, hat⟩
      · rcases hk with hk | ⟨hk1, hk⟩
        · have hkb : (p.k == 2) = true := by simpa using hk
          go_enter Try.func31, Try.ntmps31
          go_upto_region 1 with fail
          generalize w.alloc (.cells #[.int .i64 e.k, .int .i64 e.c, .int .i64 e.ok, .int .i64 e.oa, .int .i64 e.on, .int .i64 e.at', .int .i64 e.n, .int .i64 e.er] 37) = W at *
          obtain ⟨E, hE, hE'⟩ : ∃ E, Hid (E = w.heap.size) ∧ E = w.heap.size := ⟨_, Lib.hid rfl, rfl⟩
          rw [← hE'] at t1 ⊢
          have e5 : W.cell? ⟨E, 5, .none⟩ = some (.int .i64 e.at') := rowCells t1 5
          have h0 := hJ.h0
          clear hE'
          go_upto_region 2 with fail
          go_quiet (fail)
          have hbq : Below w.heap.size w (W.drewN nq) := below_drewN hb2 nq
          have hJq : JgA B (W.drewN nq) jb s pb sl J := hJ.below (below_drewN (Below.refl _ _) nq)
          have p7 : (W.drewN nq).cell? ⟨pb, o + 7, .none⟩ = some (.bool p.gave) := c7
          have e5q : (W.drewN nq).cell? ⟨E, 5, .none⟩ = some (.int .i64 e.at') := e5
          have h0q := hJq.h0
          clear c0 c1 c2 c3 c4 c5 c6 c7 c8 c9 hfr e5 h0 t1 hb2 hJ
          generalize W.drewN nq = V at *
          go_wp2
          go_ret
          exact ⟨rfl, hLeft.out _ hbq hJq⟩
        · have hkb : (p.k == 2) = false := by simpa using hk1
          have hkc : (p.k == 3) = true := by simpa using hk
          go_enter Try.func31, Try.ntmps31
          go_upto_region 1 with fail
          generalize w.alloc (.cells #[.int .i64 e.k, .int .i64 e.c, .int .i64 e.ok, .int .i64 e.oa, .int .i64 e.on, .int .i64 e.at', .int .i64 e.n, .int .i64 e.er] 37) = W at *
          obtain ⟨E, hE, hE'⟩ : ∃ E, Hid (E = w.heap.size) ∧ E = w.heap.size := ⟨_, Lib.hid rfl, rfl⟩
          rw [← hE'] at t1 ⊢
          have e5 : W.cell? ⟨E, 5, .none⟩ = some (.int .i64 e.at') := rowCells t1 5
          have h0 := hJ.h0
          clear hE'
          go_upto_region 2 with fail
          go_quiet (fail)
          have hbq : Below w.heap.size w (W.drewN nq) := below_drewN hb2 nq
          have hJq : JgA B (W.drewN nq) jb s pb sl J := hJ.below (below_drewN (Below.refl _ _) nq)
          have p7 : (W.drewN nq).cell? ⟨pb, o + 7, .none⟩ = some (.bool p.gave) := c7
          have e5q : (W.drewN nq).cell? ⟨E, 5, .none⟩ = some (.int .i64 e.at') := e5
          have h0q := hJq.h0
          clear c0 c1 c2 c3 c4 c5 c6 c7 c8 c9 hfr e5 h0 t1 hb2 hJ
          generalize W.drewN nq = V at *
          go_wp2
          go_ret
          exact ⟨rfl, hLeft.out _ hbq hJq⟩
      · have hatb : (e.at' != p.a) = true := by simpa using hat
        rcases hk with hk | ⟨hk1, hk⟩
        · have hkb : (p.k == 2) = true := by simpa using hk
          go_enter Try.func31, Try.ntmps31
          go_upto_region 1 with fail
          generalize w.alloc (.cells #[.int .i64 e.k, .int .i64 e.c, .int .i64 e.ok, .int .i64 e.oa, .int .i64 e.on, .int .i64 e.at', .int .i64 e.n, .int .i64 e.er] 37) = W at *
          obtain ⟨E, hE, hE'⟩ : ∃ E, Hid (E = w.heap.size) ∧ E = w.heap.size := ⟨_, Lib.hid rfl, rfl⟩
          rw [← hE'] at t1 ⊢
          have e5 : W.cell? ⟨E, 5, .none⟩ = some (.int .i64 e.at') := rowCells t1 5
          have h0 := hJ.h0
          clear hE'
          go_upto_region 2 with fail
          go_quiet (fail)
          have hbq : Below w.heap.size w (W.drewN nq) := below_drewN hb2 nq
          have hJq : JgA B (W.drewN nq) jb s pb sl J := hJ.below (below_drewN (Below.refl _ _) nq)
          have p7 : (W.drewN nq).cell? ⟨pb, o + 7, .none⟩ = some (.bool p.gave) := c7
          have e5q : (W.drewN nq).cell? ⟨E, 5, .none⟩ = some (.int .i64 e.at') := e5
          have h0q := hJq.h0
          clear c0 c1 c2 c3 c4 c5 c6 c7 c8 c9 hfr e5 h0 t1 hb2 hJ
          generalize W.drewN nq = V at *
          go_wp2
          go_ret
          exact ⟨rfl, hLeft.out _ hbq hJq⟩
        · have hkb : (p.k == 2) = false := by simpa using hk1
          have hkc : (p.k == 3) = true := by simpa using hk
          go_enter Try.func31, Try.ntmps31
          go_upto_region 1 with fail
          generalize w.alloc (.cells #[.int .i64 e.k, .int .i64 e.c, .int .i64 e.ok, .int .i64 e.oa, .int .i64 e.on, .int .i64 e.at', .int .i64 e.n, .int .i64 e.er] 37) = W at *
          obtain ⟨E, hE, hE'⟩ : ∃ E, Hid (E = w.heap.size) ∧ E = w.heap.size := ⟨_, Lib.hid rfl, rfl⟩
          rw [← hE'] at t1 ⊢
          have e5 : W.cell? ⟨E, 5, .none⟩ = some (.int .i64 e.at') := rowCells t1 5
          have h0 := hJ.h0
          clear hE'
          go_upto_region 2 with fail
          go_quiet (fail)
          have hbq : Below w.heap.size w (W.drewN nq) := below_drewN hb2 nq
          have hJq : JgA B (W.drewN nq) jb s pb sl J := hJ.below (below_drewN (Below.refl _ _) nq)
          have p7 : (W.drewN nq).cell? ⟨pb, o + 7, .none⟩ = some (.bool p.gave) := c7
          have e5q : (W.drewN nq).cell? ⟨E, 5, .none⟩ = some (.int .i64 e.at') := e5
          have h0q := hJq.h0
          clear c0 c1 c2 c3 c4 c5 c6 c7 c8 c9 hfr e5 h0 t1 hb2 hJ
          generalize W.drewN nq = V at *
          go_wp2
          go_ret
          exact ⟨rfl, hLeft.out _ hbq hJq⟩
  · have hatb : (e.at' != p.a) = false := by simpa using ha
    clear ha
    rcases hk with hk | ⟨hk1, hk⟩
    · have hkb : (p.k == 2) = true := by simpa using hk
      rcases Bool.eq_false_or_eq_true (foundB e.at' J.l) with hto | hto
      · rw [hto] at hgv0
        rw [hto, if_pos rfl] at hRv
        subst hRv
        obtain rfl : JR = { J with l := giveB J.l e.at', ps := J.ps.set i { p with gave := true } } := by rw [← hJR.out, if_pos rfl]
        clear hJR hR hto hLeft
        go_enter Try.func31, Try.ntmps31
        go_upto_region 1 with fail
        generalize w.alloc (.cells #[.int .i64 e.k, .int .i64 e.c, .int .i64 e.ok, .int .i64 e.oa, .int .i64 e.on, .int .i64 e.at', .int .i64 e.n, .int .i64 e.er] 37) = W at *
        obtain ⟨E, hE, hE'⟩ : ∃ E, Hid (E = w.heap.size) ∧ E = w.heap.size := ⟨_, Lib.hid rfl, rfl⟩
        rw [← hE'] at t1 ⊢
        have e5 : W.cell? ⟨E, 5, .none⟩ = some (.int .i64 e.at') := rowCells t1 5
        have h0 := hJ.h0
        clear hE'
        go_upto_region 2 with fail
        go_quiet (fail)
        have hbq : Below w.heap.size w (W.drewN nq) := below_drewN hb2 nq
        have hJq : JgA B (W.drewN nq) jb s pb sl J := hJ.below (below_drewN (Below.refl _ _) nq)
        have p7 : (W.drewN nq).cell? ⟨pb, o + 7, .none⟩ = some (.bool p.gave) := c7
        have e5q : (W.drewN nq).cell? ⟨E, 5, .none⟩ = some (.int .i64 e.at') := e5
        have h0q := hJq.h0
        clear c0 c1 c2 c3 c4 c5 c6 c7 c8 c9 hfr e5 h0 t1 hb2 hJ
        generalize W.drewN nq = V at *
        have lj : jb < V.heap.size := hJq.lt
        have lE : E < V.heap.size := cell_lt e5q
        go_wp2_with fail
        refine wp_region_ext_tail 6 (by kernel_rfl) (by kernel_rfl) ?_
        dsimp only [List.take, List.drop]
        repeat (go_big_quiet_step (fail))
        refine wpQuiet_nil ?_
        rintro _ ⟨e', rfl⟩
        have hbe := e'.below
        generalize e'.w = X at *
        change wpList _ _ _ _ _ X
        have hwX := hbq.trans (hbe.mono hbq.size)
        have hJX := hJq.below hbe
        clear hJq hbq e5q h0q p7 hbe
        go_upto_region 6 with (go_at_call 38; refine (hgv0.out X hJX.model).mono ?_; rintro r w2 ⟨rfl, sl', hm, ho2, hf2⟩)
        obtain ⟨sl2, hJ2, hk2, hO2⟩ := hfin.out X w2 sl' _ hwX hJX hm ho2 hf2
        have hr2 : RowP w2 pb J.ps := hJ2.row hps
        have lp2 : pb < w2.heap.size := hr2.lt
        have hpt : PtAt w2 pb o p := ho.out ▸ ((hr2.pt i hi.out).of_eq hp.out)
        have p7 := hpt.c7
        have pf := hpt.fr
        have hr3 : RowP (w2.setCell ⟨pb, o + 7, .none⟩ (.bool true)) pb (J.ps.set i { p with gave := true }) := by
          rw [ho.out]
          exact hr2.set i 7 (.bool true) { p with gave := true } hi.out (by omega) (by rw [hp.out]; rfl)
        have ho3 : Only (atP pb) w2 (w2.setCell ⟨pb, o + 7, .none⟩ (.bool true)) := (Only.refl _ _).setCell (p := ⟨pb, o + 7, .none⟩) (.inl (show atP pb pb from rfl)) _
        have hL : Left B w (w2.setCell ⟨pb, o + 7, .none⟩ (.bool true)) jb s pb sl { J with l := giveB J.l e.at', ps := J.ps.set i { p with gave := true } } := ⟨⟨sl2, hJ2.setP (by rw [List.length_set]) hr3 ho3, hk2⟩, hO2.trans ho3 fun k _ e => .inr (.inl e)⟩
        clear hr2 hJ2 hm ho2 hf2 hO2 hfin hgv0 hJX hpt hr3 ho3
        go_wp2
        go_ret
        exact ⟨rfl, hL⟩
      · rw [giveB_no hto, hto] at hgv0
        rw [hto, if_neg Bool.false_ne_true] at hRv
        subst hRv
        have hJJ : J = JR := by rw [← hJR.out, if_neg (by omega)]
        subst hJJ
        clear hJR hR hto hLeft
        go_enter Try.func31, Try.ntmps31
        go_upto_region 1 with fail
        generalize w.alloc (.cells #[.int .i64 e.k, .int .i64 e.c, .int .i64 e.ok, .int .i64 e.oa, .int .i64 e.on, .int .i64 e.at', .int .i64 e.n, .int .i64 e.er] 37) = W at *
        obtain ⟨E, hE, hE'⟩ : ∃ E, Hid (E = w.heap.size) ∧ E = w.heap.size := ⟨_, Lib.hid rfl, rfl⟩
        rw [← hE'] at t1 ⊢
        have e5 : W.cell? ⟨E, 5, .none⟩ = some (.int .i64 e.at') := rowCells t1 5
        have h0 := hJ.h0
        clear hE'
        go_upto_region 2 with fail
        go_quiet (fail)
        have hbq : Below w.heap.size w (W.drewN nq) := below_drewN hb2 nq
        have hJq : JgA B (W.drewN nq) jb s pb sl J := hJ.below (below_drewN (Below.refl _ _) nq)
        have p7 : (W.drewN nq).cell? ⟨pb, o + 7, .none⟩ = some (.bool p.gave) := c7
        have e5q : (W.drewN nq).cell? ⟨E, 5, .none⟩ = some (.int .i64 e.at') := e5
        have h0q := hJq.h0
        clear c0 c1 c2 c3 c4 c5 c6 c7 c8 c9 hfr e5 h0 t1 hb2 hJ
        generalize W.drewN nq = V at *
        have lj : jb < V.heap.size := hJq.lt
        have lE : E < V.heap.size := cell_lt e5q
        go_wp2_with fail
        refine wp_region_ext_tail 6 (by kernel_rfl) (by kernel_rfl) ?_
        dsimp only [List.take, List.drop]
        repeat (go_big_quiet_step (fail))
        refine wpQuiet_nil ?_
        rintro _ ⟨e', rfl⟩
        have hbe := e'.below
        generalize e'.w = X at *
        change wpList _ _ _ _ _ X
        have hwX := hbq.trans (hbe.mono hbq.size)
        have hJX := hJq.below hbe
        clear hJq hbq e5q h0q p7 hbe
        go_wp2_with (go_at_call 38; refine (hgv0.out X hJX.model).mono ?_; rintro r w2 ⟨rfl, sl', hm, ho2, hf2⟩)
        obtain ⟨sl2, hJ2, hk2, hO2⟩ := hfin.out X w2 sl' _ hwX hJX hm ho2 hf2
        go_wp2
        go_ret
        exact ⟨rfl, ⟨sl2, hJ2, hk2⟩, hO2⟩
    · have hkb : (p.k == 2) = false := by simpa using hk1
      have hkc : (p.k == 3) = true := by simpa using hk
      rcases Bool.eq_false_or_eq_true (foundB e.at' J.l) with hto | hto
      · rw [hto] at hgv0
        rw [hto, if_pos rfl] at hRv
        subst hRv
        obtain rfl : JR = { J with l := giveB J.l e.at', ps := J.ps.set i { p with gave := true } } := by rw [← hJR.out, if_pos rfl]
        clear hJR hR hto hLeft
        go_enter Try.func31, Try.ntmps31
        go_upto_region 1 with fail
        generalize w.alloc (.cells #[.int .i64 e.k, .int .i64 e.c, .int .i64 e.ok, .int .i64 e.oa, .int .i64 e.on, .int .i64 e.at', .int .i64 e.n, .int .i64 e.er] 37) = W at *
        obtain ⟨E, hE, hE'⟩ : ∃ E, Hid (E = w.heap.size) ∧ E = w.heap.size := ⟨_, Lib.hid rfl, rfl⟩
        rw [← hE'] at t1 ⊢
        have e5 : W.cell? ⟨E, 5, .none⟩ = some (.int .i64 e.at') := rowCells t1 5
        have h0 := hJ.h0
        clear hE'
        go_upto_region 2 with fail
        go_quiet (fail)
        have hbq : Below w.heap.size w (W.drewN nq) := below_drewN hb2 nq
        have hJq : JgA B (W.drewN nq) jb s pb sl J := hJ.below (below_drewN (Below.refl _ _) nq)
        have p7 : (W.drewN nq).cell? ⟨pb, o + 7, .none⟩ = some (.bool p.gave) := c7
        have e5q : (W.drewN nq).cell? ⟨E, 5, .none⟩ = some (.int .i64 e.at') := e5
        have h0q := hJq.h0
        clear c0 c1 c2 c3 c4 c5 c6 c7 c8 c9 hfr e5 h0 t1 hb2 hJ
        generalize W.drewN nq = V at *
        have lj : jb < V.heap.size := hJq.lt
        have lE : E < V.heap.size := cell_lt e5q
        go_wp2_with fail
        refine wp_region_ext_tail 6 (by kernel_rfl) (by kernel_rfl) ?_
        dsimp only [List.take, List.drop]
        repeat (go_big_quiet_step (fail))
        refine wpQuiet_nil ?_
        rintro _ ⟨e', rfl⟩
        have hbe := e'.below
        generalize e'.w = X at *
        change wpList _ _ _ _ _ X
        have hwX := hbq.trans (hbe.mono hbq.size)
        have hJX := hJq.below hbe
        clear hJq hbq e5q h0q p7 hbe
        go_upto_region 6 with (go_at_call 38; refine (hgv0.out X hJX.model).mono ?_; rintro r w2 ⟨rfl, sl', hm, ho2, hf2⟩)
        obtain ⟨sl2, hJ2, hk2, hO2⟩ := hfin.out X w2 sl' _ hwX hJX hm ho2 hf2
        have hr2 : RowP w2 pb J.ps := hJ2.row hps
        have lp2 : pb < w2.heap.size := hr2.lt
        have hpt : PtAt w2 pb o p := ho.out ▸ ((hr2.pt i hi.out).of_eq hp.out)
        have p7 := hpt.c7
        have pf := hpt.fr
        have hr3 : RowP (w2.setCell ⟨pb, o + 7, .none⟩ (.bool true)) pb (J.ps.set i { p with gave := true }) := by
          rw [ho.out]
          exact hr2.set i 7 (.bool true) { p with gave := true } hi.out (by omega) (by rw [hp.out]; rfl)
        have ho3 : Only (atP pb) w2 (w2.setCell ⟨pb, o + 7, .none⟩ (.bool true)) := (Only.refl _ _).setCell (p := ⟨pb, o + 7, .none⟩) (.inl (show atP pb pb from rfl)) _
        have hL : Left B w (w2.setCell ⟨pb, o + 7, .none⟩ (.bool true)) jb s pb sl { J with l := giveB J.l e.at', ps := J.ps.set i { p with gave := true } } := ⟨⟨sl2, hJ2.setP (by rw [List.length_set]) hr3 ho3, hk2⟩, hO2.trans ho3 fun k _ e => .inr (.inl e)⟩
        clear hr2 hJ2 hm ho2 hf2 hO2 hfin hgv0 hJX hpt hr3 ho3
        go_wp2
        go_ret
        exact ⟨rfl, hL⟩
      · rw [giveB_no hto, hto] at hgv0
        rw [hto, if_neg Bool.false_ne_true] at hRv
        subst hRv
        have hJJ : J = JR := by rw [← hJR.out, if_neg (by omega)]
        subst hJJ
        clear hJR hR hto hLeft
        go_enter Try.func31, Try.ntmps31
        go_upto_region 1 with fail
        generalize w.alloc (.cells #[.int .i64 e.k, .int .i64 e.c, .int .i64 e.ok, .int .i64 e.oa, .int .i64 e.on, .int .i64 e.at', .int .i64 e.n, .int .i64 e.er] 37) = W at *
        obtain ⟨E, hE, hE'⟩ : ∃ E, Hid (E = w.heap.size) ∧ E = w.heap.size := ⟨_, Lib.hid rfl, rfl⟩
        rw [← hE'] at t1 ⊢
        have e5 : W.cell? ⟨E, 5, .none⟩ = some (.int .i64 e.at') := rowCells t1 5
        have h0 := hJ.h0
        clear hE'
        go_upto_region 2 with fail
        go_quiet (fail)
        have hbq : Below w.heap.size w (W.drewN nq) := below_drewN hb2 nq
        have hJq : JgA B (W.drewN nq) jb s pb sl J := hJ.below (below_drewN (Below.refl _ _) nq)
        have p7 : (W.drewN nq).cell? ⟨pb, o + 7, .none⟩ = some (.bool p.gave) := c7
        have e5q : (W.drewN nq).cell? ⟨E, 5, .none⟩ = some (.int .i64 e.at') := e5
        have h0q := hJq.h0
        clear c0 c1 c2 c3 c4 c5 c6 c7 c8 c9 hfr e5 h0 t1 hb2 hJ
        generalize W.drewN nq = V at *
        have lj : jb < V.heap.size := hJq.lt
        have lE : E < V.heap.size := cell_lt e5q
        go_wp2_with fail
        refine wp_region_ext_tail 6 (by kernel_rfl) (by kernel_rfl) ?_
        dsimp only [List.take, List.drop]
        repeat (go_big_quiet_step (fail))
        refine wpQuiet_nil ?_
        rintro _ ⟨e', rfl⟩
        have hbe := e'.below
        generalize e'.w = X at *
        change wpList _ _ _ _ _ X
        have hwX := hbq.trans (hbe.mono hbq.size)
        have hJX := hJq.below hbe
        clear hJq hbq e5q h0q p7 hbe
        go_wp2_with (go_at_call 38; refine (hgv0.out X hJX.model).mono ?_; rintro r w2 ⟨rfl, sl', hm, ho2, hf2⟩)
        obtain ⟨sl2, hJ2, hk2, hO2⟩ := hfin.out X w2 sl' _ hwX hJX hm ho2 hf2
        go_wp2
        go_ret
        exact ⟨rfl, ⟨sl2, hJ2, hk2⟩, hO2⟩
end Go.Proofs.Ytclidckjnoafcaa
