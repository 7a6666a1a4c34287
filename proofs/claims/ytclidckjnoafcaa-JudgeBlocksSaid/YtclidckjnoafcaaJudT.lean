/- A judge hears of a block that was taken, or given: the walk. -/
import Derived.Test.YtclidckjnoafcaaJudS

namespace Go.Proofs.Ytclidckjnoafcaa

open Go.RowKit

attribute [local go_sem ↓] Go.wp_at_zero Go.wp_at_succ

set_option maxHeartbeats 1000000 in
theorem of_any {B : Nat} {w : World} {jb s pb : Nat} {sl : Value} {J : Jd} (h : JgA B w jb s pb sl J) (c : Int) :
    Calls Try.prog 28 #[.pointer (some ⟨jb, 0, .none⟩), .int .i64 c] w fun r w' => r = .returned (if c < 0 ∨ (J.ps.length : Int) ≤ c then .pointer none else .pointer (some ⟨pb, c.toNat * 10, .none⟩)) ∧ w' = w := by
  have hnil : ∀ W a, (binOp .eql 32 (.pointer (some a)) (.pointer none)).run Try.prog W = .ok (.bool false) W := fun W a => by kernel_rfl
  have h1 := h.h1
  generalize J.ps.length = n at *
  by_cases hc : c < 0
  · rw [if_pos (.inl hc)]
    go_enter Try.func28, Try.ntmps28
    go_wp2
    go_ret
    exact ⟨rfl, rfl⟩
  · by_cases hn : (n : Int) ≤ c
    · rw [if_pos (.inr hn)]
      unfold pvV at h1
      by_cases h0 : n = 0
      · subst h0
        rw [if_pos rfl] at h1
        go_enter Try.func28, Try.ntmps28
        go_wp2
        go_ret
        exact ⟨rfl, rfl⟩
      · rw [if_neg h0] at h1
        go_enter Try.func28, Try.ntmps28
        go_wp2
        go_ret
        exact ⟨rfl, rfl⟩
    · rw [if_neg (by omega)]
      unfold pvV at h1
      rw [if_neg (by omega)] at h1
      have hcn : ¬ (c ≥ (n : Int)) := by omega
      have hc1 : c < (n : Int) := by omega
      have hc0 : 0 ≤ c := by omega
      go_enter Try.func28, Try.ntmps28
      go_wp2
      go_ret
      exact ⟨rfl, rfl⟩

/-- What a hearing leaves. -/
structure Left (B : Nat) (w w' : World) (jb s pb : Nat) (sl : Value) (J' : Jd) : Prop where
  judge : ∃ sl', JgA B w' jb s pb sl' J' ∧ (∀ k, sl'.ownBlock = some k → sl.ownBlock = some k ∨ w.heap.size ≤ k)
  only : Only (footJ jb s pb sl) w w'

set_option maxRecDepth 100000 in
set_option maxHeartbeats 2000000 in
theorem took_any {B : Nat} {w : World} {jb s pb : Nat} {sl : Value} {J : Jd} (h : JgA B w jb s pb sl J) (e : Ev) (i o : Nat) (p : Pt) (hi : i < J.ps.length) (hp : J.ps[i] = p) (ho : o = i * 10)
    (ha : -9223372036854775808 ≤ e.at' ∧ e.at' ≤ 9223372036854775807) (hn : -9223372036854775808 ≤ e.n ∧ e.n ≤ 9223372036854775807) :
    Calls Try.prog 30 #[.pointer (some ⟨jb, 0, .none⟩), .pointer (some ⟨pb, o, .none⟩), e.val] w fun r w' => r = .returned (.int .i64 (tookC J.W J.l p e)) ∧
      Left B w w' jb s pb sl (if tookC J.W J.l p e = 0 then { J with l := putB J.l e.at' e.n, ps := J.ps.set i { p with took := true, at' := e.at' } } else J) := by
  have hlen := fun X => length_any p.n X
  unfold Ev.val Ev.cells
  have hb2 := (Below.refl w.heap.size w).alloc (Nat.le_refl _) (.cells #[.int .i64 e.k, .int .i64 e.c, .int .i64 e.ok, .int .i64 e.oa, .int .i64 e.on, .int .i64 e.at', .int .i64 e.n, .int .i64 e.er] 37)
  have t1 := heap_alloc_new w (.cells #[.int .i64 e.k, .int .i64 e.c, .int .i64 e.ok, .int .i64 e.oa, .int .i64 e.on, .int .i64 e.at', .int .i64 e.n, .int .i64 e.er] 37)
  have hJ := h.below hb2
  have hps : J.ps ≠ [] := fun e => by rw [e] at hi; simp at hi
  obtain ⟨hlt2, c0, c1, c2, c3, c4, c5, c6, c7, c8, c9, hfr⟩ := ho ▸ (((hJ.row hps).pt i hi).of_eq hp)
  replace ho := Lib.hid ho
  replace hp := Lib.hid hp
  replace hi := Lib.hid hi
  have hltj := h.lt
  have hltp := h.plt
  have hlts := h.model.lt
  obtain ⟨R, hR⟩ : ∃ R, Hid (tookC J.W J.l p e = R) := ⟨_, Lib.hid rfl⟩
  obtain ⟨JR, hJR⟩ : ∃ JR, Hid ((if R = 0 then { J with l := putB J.l e.at' e.n, ps := J.ps.set i { p with took := true, at' := e.at' } } else J) = JR) := ⟨_, Lib.hid rfl⟩
  rw [hR.out, hJR.out]
  have hR2 : (R = 5 ∧ (mayT p = false ∨ p.took = true ∨ lenB p.n = false ∨ lenV p.n ≠ e.n)) ∨ ((p.k = 1 ∨ p.k ≠ 1 ∧ p.k = 3 ∧ p.gave = true) ∧ p.took = false ∧ lenB p.n = true ∧ lenV p.n = e.n ∧ R = if takeOk J.W J.l e.at' e.n = true then 0 else 2) := by
    rw [← hR.out]; unfold tookC
    by_cases hb : mayT p = false ∨ p.took = true ∨ lenB p.n = false ∨ lenV p.n ≠ e.n
    · rw [if_pos hb]; exact .inl ⟨rfl, hb⟩
    · rw [if_neg hb]
      simp only [not_or, Bool.not_eq_false, Bool.not_eq_true, ne_eq, Decidable.not_not] at hb
      obtain ⟨h1, h2, h3, h4⟩ := hb
      refine .inr ⟨?_, h2, h3, h4, rfl⟩
      simp only [mayT, Bool.or_eq_true, decide_eq_true_eq, Bool.and_eq_true] at h1
      by_cases hk : p.k = 1
      · exact .inl hk
      · exact .inr ⟨hk, by rcases h1 with h1 | h1; exact absurd h1 hk; exact h1⟩
  rcases hR2 with ⟨rfl, hbad⟩ | ⟨hk, ht, hl, hv, hRv⟩
  · have hJJ : JR = J := by rw [← hJR.out]; rfl
    subst hJJ
    replace hbad := Lib.hid hbad
    have hLeft : ∀ W, Below w.heap.size w W → JgA B W jb s pb sl JR → Left B w W jb s pb sl JR := fun W hb hj => ⟨⟨sl, hj, fun k e => .inl e⟩, Only.of_below hb⟩
    go_enter Try.func30, Try.ntmps30
    go_upto_region 1 with fail
    generalize w.alloc (.cells #[.int .i64 e.k, .int .i64 e.c, .int .i64 e.ok, .int .i64 e.oa, .int .i64 e.on, .int .i64 e.at', .int .i64 e.n, .int .i64 e.er] 37) = W at *
    obtain ⟨E, hE, hE'⟩ : ∃ E, Hid (E = w.heap.size) ∧ E = w.heap.size := ⟨_, Lib.hid rfl, rfl⟩
    rw [← hE'] at t1 ⊢
    have e5 : W.cell? ⟨E, 5, .none⟩ = some (.int .i64 e.at') := rowCells t1 5
    have e6 : W.cell? ⟨E, 6, .none⟩ = some (.int .i64 e.n) := rowCells t1 6
    have h0 := hJ.h0
    clear hE'
    go_wp2_with (go_at_call 36; refine (hlen _).mono ?_; rintro r w1 ⟨rfl, hw⟩; obtain rfl := hw.symm)
    all_goals first
      | (go_ret; exact ⟨rfl, hLeft _ hb2 hJ⟩)
      | (exfalso; have hbad := hbad.out; clear hR hJR hLeft h hb2 t1 hJ hlt2 c0 c1 c2 c3 c4 c5 c6 c7 c8 c9 hfr e5 e6 h0 hlen; simp_all [mayT])
  · have hvb : (lenV p.n != e.n) = false := by simpa using hv
    clear hv
    have hsl : ∀ k, sl.ownBlock = some k → k < w.heap.size := fun k hk => (h.model.owns.lt k hk).2
    have htk0 : Hid (∀ X, PM B X s sl J.W J.l → Calls Try.prog 37 #[.pointer (some ⟨s, 0, .none⟩), .int .i64 e.at', .int .i64 e.n] X fun r w' => r = .returned (.bool (takeOk J.W J.l e.at' e.n)) ∧ ∃ sl', PM B w' s sl' J.W (takeB J.W J.l e.at' e.n) ∧ Only (foot s sl) X w' ∧ ∀ k, foot s sl' k → foot s sl k ∨ X.heap.size ≤ k) := Lib.hid fun X hX => take_any hX e.at' e.n ha.1 ha.2 hn.1 hn.2
    have hfin : Hid (∀ X w2 sl' l', w.heap.size ≤ X.heap.size → Below w.heap.size w X → JgA B X jb s pb sl J → PM B w2 s sl' J.W l' → Only (foot s sl) X w2 → (∀ k, foot s sl' k → foot s sl k ∨ X.heap.size ≤ k) → Left B w w2 jb s pb sl { J with l := l' }) := Lib.hid fun X w2 sl' l' hs hw hj hm ho hf => by
      refine ⟨⟨sl', hj.setM hm ho hf, fun k e => ?_⟩, (Only.of_below hw).trans ho fun k _ e => .inr (.inr e)⟩
      rcases hf k (.inr e) with (h1 | h1) | h1
      · exact absurd (h1 ▸ e) hm.apart
      · exact .inl h1
      · exact .inr (by omega)
    rcases Bool.eq_false_or_eq_true (takeOk J.W J.l e.at' e.n) with hto | hto
    · rw [takeB_eq hto, hto] at htk0
      rw [hto, if_pos rfl] at hRv
      subst hRv
      obtain rfl : JR = { J with l := putB J.l e.at' e.n, ps := J.ps.set i { p with took := true, at' := e.at' } } := by rw [← hJR.out, if_pos rfl]
      clear hJR hR hto
      rcases hk with hk | ⟨hk1, hk3, hg⟩
      all_goals
        go_enter Try.func30, Try.ntmps30
        go_upto_region 1 with fail
        generalize w.alloc (.cells #[.int .i64 e.k, .int .i64 e.c, .int .i64 e.ok, .int .i64 e.oa, .int .i64 e.on, .int .i64 e.at', .int .i64 e.n, .int .i64 e.er] 37) = W at *
        obtain ⟨E, hE, hE'⟩ : ∃ E, Hid (E = w.heap.size) ∧ E = w.heap.size := ⟨_, Lib.hid rfl, rfl⟩
        rw [← hE'] at t1 ⊢
        have e5 : W.cell? ⟨E, 5, .none⟩ = some (.int .i64 e.at') := rowCells t1 5
        have e6 : W.cell? ⟨E, 6, .none⟩ = some (.int .i64 e.n) := rowCells t1 6
        have h0 := hJ.h0
        clear hE'
        go_upto_region 5 with (go_at_call 36; refine (hlen _).mono ?_; rintro r w1 ⟨rfl, hw⟩; obtain rfl := hw.symm)
        have lj : jb < W.heap.size := hJ.lt
        have lE : E < W.heap.size := (Array.getElem?_eq_some_iff.1 t1).1
        refine wp_region_ext_tail 8 (by kernel_rfl) (by kernel_rfl) ?_
        dsimp only [List.take, List.drop]
        repeat (go_big_quiet_step (fail))
        refine wpQuiet_nil ?_
        rintro _ ⟨e', rfl⟩
        have hbe := e'.below
        generalize e'.w = X at *
        change wpList _ _ _ _ _ X
        have hwX := hb2.trans (hbe.mono hb2.size)
        have hJX := hJ.below hbe
        have e5X := keepF hbe _ _ _ e5
        have lEX : E < X.heap.size := cell_lt e5X
        clear c0 c1 c2 c3 c4 c5 c6 c7 c8 c9 hfr e5 e6 h0 t1 hbe hb2 hJ
        go_wp2_with (go_at_call 37; refine (htk0.out X hJX.model).mono ?_; rintro r w2 ⟨rfl, sl', hm, ho2, hf2⟩)
        have hL2 := hfin.out X w2 sl' _ hwX.size hwX hJX hm ho2 hf2
        obtain ⟨⟨sl2, hJ2, hk2⟩, hO2⟩ := hL2
        have hEn : ¬ foot s sl E := by
          have hEE := hE.out
          rintro (e | e)
          · omega
          · have := hsl E e; omega
        have e5w : w2.cell? ⟨E, 5, .none⟩ = some (.int .i64 e.at') := by
          have := ho2.block E lEX hEn
          simp only [World.cell?, this] at e5X ⊢; exact e5X
        have lE2 : E < w2.heap.size := cell_lt e5w
        have hr2 : RowP w2 pb J.ps := hJ2.row hps
        have lp2 : pb < w2.heap.size := hr2.lt
        have hEp : E ≠ pb := by have := hE.out; omega
        have hpt : PtAt w2 pb o p := ho.out ▸ ((hr2.pt i hi.out).of_eq hp.out)
        have p6 := hpt.c6
        have p8 := hpt.c8
        have pf := hpt.fr
        have hfin2 : Hid (∀ W3, RowP W3 pb (J.ps.set i { p with took := true, at' := e.at' }) → Only (atP pb) w2 W3 → Left B w W3 jb s pb sl { J with l := putB J.l e.at' e.n, ps := J.ps.set i { p with took := true, at' := e.at' } }) := Lib.hid fun W3 hr ho3 => by
          refine ⟨⟨sl2, hJ2.setP (by rw [List.length_set]) hr ho3, hk2⟩, hO2.trans ho3 fun k _ e => .inr (.inl e)⟩
        have hset : Hid (∀ (Y : World) (q : Pt) (j : Nat) (v : Value) (q' : Pt), Only (atP pb) w2 Y → RowP Y pb (J.ps.set i q) → q.cells.set j v = q'.cells → j < 10 → Only (atP pb) w2 (Y.setCell ⟨pb, o + j, .none⟩ v) ∧ RowP (Y.setCell ⟨pb, o + j, .none⟩ v) pb (J.ps.set i q')) := Lib.hid fun Y q j v q' h1 h2 h4 h5 => by
          rw [ho.out]
          refine ⟨h1.setCell (p := ⟨pb, i * 10 + j, .none⟩) (.inl rfl) v, ?_⟩
          have := h2.set i j v q' (by rw [List.length_set]; exact hi.out) h5 (by rw [List.getElem_set_self]; exact h4)
          rwa [List.set_set] at this
        have hrow : RowP w2 pb (J.ps.set i p) := by rw [← hp.out, List.set_getElem_self]; exact hr2
        have z0 := hset.out w2 p 6 (.bool true) { p with took := true } (Only.refl _ _) hrow rfl (by omega)
        have z1 := hset.out _ _ 8 (.int .i64 e.at') { p with took := true, at' := e.at' } z0.1 z0.2 rfl (by omega)
        replace z1 := Lib.hid z1
        clear z0 hrow hset hpt hr2 hJ2 hm ho2 hf2 hO2 hfin htk0 hJX e5X lEX
        have hkp : Hid (∀ (Y : World) (a : Nat) (v : Value), Y.cell? ⟨E, 5, .none⟩ = some (.int .i64 e.at') → (Y.setCell ⟨pb, a, .none⟩ v).cell? ⟨E, 5, .none⟩ = some (.int .i64 e.at')) := Lib.hid fun Y a v h => by
          have := heap_setCell_other Y ⟨pb, a, .none⟩ E v (by simpa using hEp)
          simp only [World.cell?, this] at h ⊢; exact h
        have hkd : Hid (∀ (Y : World) (a : Nat) (v : Value), Y.cell? ⟨E, 5, .none⟩ = some (.int .i64 e.at') → (Y.setCell ⟨pb, a, .none⟩ v).drew.cell? ⟨E, 5, .none⟩ = some (.int .i64 e.at')) := Lib.hid fun Y a v h => hkp.out Y a v h
        go_region_held3 (fun Y => Y.cell? ⟨E, 5, .none⟩ = some (.int .i64 e.at'))
          (first | exact hkd.out _ _ _ e5w | exact hkd.out _ _ _ (hkp.out _ _ _ e5w) | go_keep)
          (fail)
        go_wp2
        go_ret
        exact ⟨rfl, hfin2.out _ z1.out.2 z1.out.1.drew⟩
    · rw [takeB_no hto, hto] at htk0
      rw [hto, if_neg Bool.false_ne_true] at hRv
      subst hRv
      obtain rfl : JR = J := by rw [← hJR.out, if_neg (by omega)]
      clear hJR hR hto
      rcases hk with hk | ⟨hk1, hk3, hg⟩
      all_goals
        go_enter Try.func30, Try.ntmps30
        go_upto_region 1 with fail
        generalize w.alloc (.cells #[.int .i64 e.k, .int .i64 e.c, .int .i64 e.ok, .int .i64 e.oa, .int .i64 e.on, .int .i64 e.at', .int .i64 e.n, .int .i64 e.er] 37) = W at *
        obtain ⟨E, hE, hE'⟩ : ∃ E, Hid (E = w.heap.size) ∧ E = w.heap.size := ⟨_, Lib.hid rfl, rfl⟩
        rw [← hE'] at t1 ⊢
        have e5 : W.cell? ⟨E, 5, .none⟩ = some (.int .i64 e.at') := rowCells t1 5
        have e6 : W.cell? ⟨E, 6, .none⟩ = some (.int .i64 e.n) := rowCells t1 6
        have h0 := hJ.h0
        clear hE'
        go_upto_region 5 with (go_at_call 36; refine (hlen _).mono ?_; rintro r w1 ⟨rfl, hw⟩; obtain rfl := hw.symm)
        have lj : jb < W.heap.size := hJ.lt
        have lE : E < W.heap.size := (Array.getElem?_eq_some_iff.1 t1).1
        refine wp_region_ext_tail 8 (by kernel_rfl) (by kernel_rfl) ?_
        dsimp only [List.take, List.drop]
        repeat (go_big_quiet_step (fail))
        refine wpQuiet_nil ?_
        rintro _ ⟨e', rfl⟩
        have hbe := e'.below
        generalize e'.w = X at *
        change wpList _ _ _ _ _ X
        have hwX := hb2.trans (hbe.mono hb2.size)
        have hJX := hJ.below hbe
        have e5X := keepF hbe _ _ _ e5
        have lEX : E < X.heap.size := cell_lt e5X
        clear c0 c1 c2 c3 c4 c5 c6 c7 c8 c9 hfr e5 e6 h0 t1 hbe hb2 hJ
        go_wp2_with (go_at_call 37; refine (htk0.out X hJX.model).mono ?_; rintro r w2 ⟨rfl, sl', hm, ho2, hf2⟩)
        go_ret
        exact ⟨rfl, hfin.out X w2 sl' _ hwX.size hwX hJX hm ho2 hf2⟩
end Go.Proofs.Ytclidckjnoafcaa
