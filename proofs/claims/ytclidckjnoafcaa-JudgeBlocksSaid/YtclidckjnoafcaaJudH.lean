/- Why an event is not in order: the walk. -/
import Derived.Test.YtclidckjnoafcaaJudG

namespace Go.Proofs.Ytclidckjnoafcaa

open Go.RowKit

attribute [local go_sem ↓] Go.wp_at_zero Go.wp_at_succ

/-- Words that a machine's numbers can be. -/
def Ev.fit (e : Ev) : Prop := (-9223372036854775808 ≤ e.at' ∧ e.at' ≤ 9223372036854775807) ∧ (-9223372036854775808 ≤ e.n ∧ e.n ≤ 9223372036854775807)

theorem Only.mono' {F G : Nat → Prop} {a b : World} (h : Only F a b) (hF : ∀ k, F k → G k) : Only G a b := ⟨h.os, h.tape, h.output, h.size, fun k hk hn => h.block k hk (fun e => hn (hF k e))⟩

set_option maxRecDepth 100000 in
set_option maxHeartbeats 4000000 in
theorem why_any {B : Nat} {w : World} {jb s pb : Nat} {sl : Value} {J : Jd} (h : JgA B w jb s pb sl J) (e : Ev) (hf : e.fit) :
    Calls Try.prog 19 #[.pointer (some ⟨jb, 0, .none⟩), e.val] w fun r w' => r = .returned (.int .i64 (whyJ J.W J.l J.ps e).c) ∧
      Left B w w' jb s pb sl { J with l := (whyJ J.W J.l J.ps e).l, ps := (whyJ J.W J.l J.ps e).ps } := by
  have hnil : ∀ W a, (binOp .eql 69 (.pointer (some a)) (.pointer none)).run Try.prog W = .ok (.bool false) W := fun W a => by kernel_rfl
  have hnil2 : ∀ W, (binOp .eql 69 (.pointer none) (.pointer none)).run Try.prog W = .ok (.bool true) W := fun W => by kernel_rfl
  have hb2 := (Below.refl w.heap.size w).alloc (Nat.le_refl _) (.cells #[.int .i64 e.k, .int .i64 e.c, .int .i64 e.ok, .int .i64 e.oa, .int .i64 e.on, .int .i64 e.at', .int .i64 e.n, .int .i64 e.er] 37)
  have t1 := heap_alloc_new w (.cells #[.int .i64 e.k, .int .i64 e.c, .int .i64 e.ok, .int .i64 e.oa, .int .i64 e.on, .int .i64 e.at', .int .i64 e.n, .int .i64 e.er] 37)
  have hJ := h.below hb2
  obtain ⟨E, hE, hE'⟩ : ∃ E, Hid (E = w.heap.size) ∧ E = w.heap.size := ⟨_, Lib.hid rfl, rfl⟩
  have hpost : ∃ (R : Int) (JR : Jd), Hid (R = (whyJ J.W J.l J.ps e).c) ∧ Hid (JR = { J with l := (whyJ J.W J.l J.ps e).l, ps := (whyJ J.W J.l J.ps e).ps }) := ⟨_, _, Lib.hid rfl, Lib.hid rfl⟩
  obtain ⟨R, JR, hR, hJR⟩ := hpost
  rw [← hR.out, ← hJR.out]
  have hof := of_any hJ e.c
  have hlow : ∀ W w', Below w.heap.size w W → Left B W w' jb s pb sl JR → Left B w w' jb s pb sl JR := fun W w' hb hl => by
    obtain ⟨⟨sl', hj, hk⟩, ho⟩ := hl
    refine ⟨⟨sl', hj, fun k e => ?_⟩, (Only.of_below hb).trans ho fun _ _ e => e⟩
    rcases hk k e with h1 | h1
    · exact .inl h1
    · exact .inr (by have := hb.size; omega)
  unfold Ev.val Ev.cells
  by_cases hc : e.c < 0 ∨ (J.ps.length : Int) ≤ e.c
  · rw [if_pos hc] at hof
    have hw : whyJ J.W J.l J.ps e = ⟨1, J.l, J.ps⟩ := by unfold whyJ; rw [if_pos (by rcases hc with h | h; exact .inl h; exact .inr (.inl h))]
    obtain rfl : R = 1 := by rw [hR.out, hw]
    obtain rfl : JR = J := by rw [hJR.out, hw]
    replace hof := Lib.hid hof
    have hL : Hid (Left B w (w.alloc (.cells #[.int .i64 e.k, .int .i64 e.c, .int .i64 e.ok, .int .i64 e.oa, .int .i64 e.on, .int .i64 e.at', .int .i64 e.n, .int .i64 e.er] 37)) jb s pb sl JR) := Lib.hid ⟨⟨sl, hJ, fun k e => .inl e⟩, Only.of_below hb2⟩
    clear hw hc hlow
    go_enter Try.func19, Try.ntmps19
    go_wp2_with (go_at_call 28; refine hof.out.mono ?_; rintro r w1 ⟨rfl, hw⟩; obtain rfl := hw.symm)
    go_ret
    exact ⟨rfl, hL.out⟩
  · rw [if_neg hc] at hof
    obtain ⟨i, hi⟩ : ∃ i : Nat, e.c = (i : Int) := ⟨e.c.toNat, by omega⟩
    have hil : i < J.ps.length := by omega
    have hic : e.c.toNat = i := by omega
    rw [hic] at hof
    have hps : J.ps ≠ [] := fun e => by rw [e] at hil; simp at hil
    obtain ⟨p, hp⟩ : ∃ p, J.ps[i] = p := ⟨_, rfl⟩
    have hpd : J.ps.getD i Pt.zero = p := by rw [List.getD_eq_getElem?_getD, List.getElem?_eq_getElem hil, hp]; rfl
    by_cases hk : e.k < 0 ∨ 5 < e.k
    · have hw : whyJ J.W J.l J.ps e = ⟨1, J.l, J.ps⟩ := by unfold whyJ; rw [if_pos (by rcases hk with h | h; exact .inr (.inr (.inl h)); exact .inr (.inr (.inr h)))]
      obtain rfl : R = 1 := by rw [hR.out, hw]
      obtain rfl : JR = J := by rw [hJR.out, hw]
      replace hof := Lib.hid hof
      have hL : Hid (Left B w (w.alloc (.cells #[.int .i64 e.k, .int .i64 e.c, .int .i64 e.ok, .int .i64 e.oa, .int .i64 e.on, .int .i64 e.at', .int .i64 e.n, .int .i64 e.er] 37)) jb s pb sl JR) := Lib.hid ⟨⟨sl, hJ, fun k e => .inl e⟩, Only.of_below hb2⟩
      clear hw hc hlow hi hic hpd
      rcases hk with hk | hk
      · go_enter Try.func19, Try.ntmps19
        go_wp2_with (go_at_call 28; refine hof.out.mono ?_; rintro r w1 ⟨rfl, hw⟩; obtain rfl := hw.symm)
        go_ret
        exact ⟨rfl, hL.out⟩
      · have hk2 : ¬ e.k < 0 := by omega
        go_enter Try.func19, Try.ntmps19
        go_wp2_with (go_at_call 28; refine hof.out.mono ?_; rintro r w1 ⟨rfl, hw⟩; obtain rfl := hw.symm)
        go_ret
        exact ⟨rfl, hL.out⟩
    · have hk0 : ¬ e.k < 0 := by omega
      have hk5 : ¬ 5 < e.k := by omega
      have hwv : whyJ J.W J.l J.ps e = (if e.k < 3 then ⟨beginsC p e, J.l, J.ps.set i (beginsP p e)⟩
          else if p.lives = false ∨ p.asks = false then ⟨1, J.l, J.ps⟩
          else if e.k = 3 then (if tookC J.W J.l p e = 0 then ⟨0, putB J.l e.at' e.n, J.ps.set i { p with took := true, at' := e.at' }⟩ else ⟨tookC J.W J.l p e, J.l, J.ps⟩)
          else if e.k = 4 then (if gaveC J.l p e = 0 then ⟨0, giveB J.l e.at', J.ps.set i { p with gave := true }⟩ else ⟨gaveC J.l p e, J.l, J.ps⟩)
          else if answersB p e = true then ⟨0, J.l, J.ps.set i { p with asks := false }⟩ else ⟨4, J.l, J.ps⟩) := by
        unfold whyJ
        rw [if_neg (by omega), hic, hpd]
      have hrow := hJ.row hps
      have hpt : PtAt (w.alloc (.cells #[.int .i64 e.k, .int .i64 e.c, .int .i64 e.ok, .int .i64 e.oa, .int .i64 e.on, .int .i64 e.at', .int .i64 e.n, .int .i64 e.er] 37)) pb (i * 10) p := (hrow.pt i hil).of_eq hp
      obtain ⟨o, ho, ho'⟩ : ∃ o, Hid (o = i * 10) ∧ o = i * 10 := ⟨_, Lib.hid rfl, rfl⟩
      rw [← ho'] at hof hpt
      clear ho' hk hc
      by_cases hk3 : e.k < 3
      · rw [if_pos hk3] at hwv
        have hbg := begins_any e pb i o J.ps p _ hrow hil hp ho.out
        unfold Ev.val Ev.cells at hbg
        have hfin : Hid (∀ w', Only (atP pb) (w.alloc (.cells #[.int .i64 e.k, .int .i64 e.c, .int .i64 e.ok, .int .i64 e.oa, .int .i64 e.on, .int .i64 e.at', .int .i64 e.n, .int .i64 e.er] 37)) w' → RowP w' pb (J.ps.set i (beginsP p e)) → Left B w w' jb s pb sl JR) := Lib.hid fun w' ho hr => by
          refine hlow _ _ hb2 ?_
          rw [hJR.out, hwv]
          exact ⟨⟨sl, hJ.setP (by rw [List.length_set]) hr ho, fun k e => .inl e⟩, ho.mono' fun k e => .inr (.inl e)⟩
        obtain rfl : R = beginsC p e := by rw [hR.out, hwv]
        replace hbg := Lib.hid hbg
        replace hof := Lib.hid hof
        clear hwv hlow hJ hrow hi hic hpd hJR hR
        go_enter Try.func19, Try.ntmps19
        go_upto_region 1 with fail
        generalize w.alloc (.cells #[.int .i64 e.k, .int .i64 e.c, .int .i64 e.ok, .int .i64 e.oa, .int .i64 e.on, .int .i64 e.at', .int .i64 e.n, .int .i64 e.er] 37) = W at *
        rw [← hE'] at t1 ⊢
        obtain ⟨hlt2, c0, c1, c2, c3, c4, c5, c6, c7, c8, c9, hfr⟩ := hpt
        have e0 : W.cell? ⟨E, 0, .none⟩ = some (.int .i64 e.k) := rowCells t1 0
        have e1 : W.cell? ⟨E, 1, .none⟩ = some (.int .i64 e.c) := rowCells t1 1
        have e2 : W.cell? ⟨E, 2, .none⟩ = some (.int .i64 e.ok) := rowCells t1 2
        have e3 : W.cell? ⟨E, 3, .none⟩ = some (.int .i64 e.oa) := rowCells t1 3
        have e4 : W.cell? ⟨E, 4, .none⟩ = some (.int .i64 e.on) := rowCells t1 4
        have e5 : W.cell? ⟨E, 5, .none⟩ = some (.int .i64 e.at') := rowCells t1 5
        have e6 : W.cell? ⟨E, 6, .none⟩ = some (.int .i64 e.n) := rowCells t1 6
        have e7 : W.cell? ⟨E, 7, .none⟩ = some (.int .i64 e.er) := rowCells t1 7
        clear hE'
        go_wp2_with (first
          | (go_at_call 28; refine hof.out.mono ?_; rintro r w1 ⟨rfl, hw⟩; obtain rfl := hw.symm)
          | (go_at_call 29; refine hbg.out.mono ?_; rintro r w2 ⟨rfl, ho2, hr2⟩))
        go_ret
        exact ⟨rfl, hfin.out _ ho2 hr2⟩
      · rw [if_neg hk3] at hwv
        by_cases hla : p.lives = false ∨ p.asks = false
        · rw [if_pos hla] at hwv
          obtain rfl : R = 1 := by rw [hR.out, hwv]
          obtain rfl : JR = J := by rw [hJR.out, hwv]
          replace hof := Lib.hid hof
          have hL : Hid (Left B w (w.alloc (.cells #[.int .i64 e.k, .int .i64 e.c, .int .i64 e.ok, .int .i64 e.oa, .int .i64 e.on, .int .i64 e.at', .int .i64 e.n, .int .i64 e.er] 37)) jb s pb sl JR) := Lib.hid ⟨⟨sl, hJ, fun k e => .inl e⟩, Only.of_below hb2⟩
          clear hwv hlow hJ hrow hi hic hpd hJR hR
          by_cases hl : p.lives = false
          · clear hla
            go_enter Try.func19, Try.ntmps19
            go_upto_region 1 with fail
            generalize w.alloc (.cells #[.int .i64 e.k, .int .i64 e.c, .int .i64 e.ok, .int .i64 e.oa, .int .i64 e.on, .int .i64 e.at', .int .i64 e.n, .int .i64 e.er] 37) = W at *
            rw [← hE'] at t1 ⊢
            obtain ⟨hlt2, c0, c1, c2, c3, c4, c5, c6, c7, c8, c9, hfr⟩ := hpt
            have e0 : W.cell? ⟨E, 0, .none⟩ = some (.int .i64 e.k) := rowCells t1 0
            have e1 : W.cell? ⟨E, 1, .none⟩ = some (.int .i64 e.c) := rowCells t1 1
            have e2 : W.cell? ⟨E, 2, .none⟩ = some (.int .i64 e.ok) := rowCells t1 2
            have e3 : W.cell? ⟨E, 3, .none⟩ = some (.int .i64 e.oa) := rowCells t1 3
            have e4 : W.cell? ⟨E, 4, .none⟩ = some (.int .i64 e.on) := rowCells t1 4
            have e5 : W.cell? ⟨E, 5, .none⟩ = some (.int .i64 e.at') := rowCells t1 5
            have e6 : W.cell? ⟨E, 6, .none⟩ = some (.int .i64 e.n) := rowCells t1 6
            have e7 : W.cell? ⟨E, 7, .none⟩ = some (.int .i64 e.er) := rowCells t1 7
            clear hE'
            go_wp2_with (go_at_call 28; refine hof.out.mono ?_; rintro r w1 ⟨rfl, hw⟩; obtain rfl := hw.symm)
            go_ret
            exact ⟨rfl, hL.out⟩
          · have hl1 : p.lives = true := by simpa using hl
            have hl2 : p.asks = false := hla.resolve_left hl
            clear hla hl
            go_enter Try.func19, Try.ntmps19
            go_upto_region 1 with fail
            generalize w.alloc (.cells #[.int .i64 e.k, .int .i64 e.c, .int .i64 e.ok, .int .i64 e.oa, .int .i64 e.on, .int .i64 e.at', .int .i64 e.n, .int .i64 e.er] 37) = W at *
            rw [← hE'] at t1 ⊢
            obtain ⟨hlt2, c0, c1, c2, c3, c4, c5, c6, c7, c8, c9, hfr⟩ := hpt
            have e0 : W.cell? ⟨E, 0, .none⟩ = some (.int .i64 e.k) := rowCells t1 0
            have e1 : W.cell? ⟨E, 1, .none⟩ = some (.int .i64 e.c) := rowCells t1 1
            have e2 : W.cell? ⟨E, 2, .none⟩ = some (.int .i64 e.ok) := rowCells t1 2
            have e3 : W.cell? ⟨E, 3, .none⟩ = some (.int .i64 e.oa) := rowCells t1 3
            have e4 : W.cell? ⟨E, 4, .none⟩ = some (.int .i64 e.on) := rowCells t1 4
            have e5 : W.cell? ⟨E, 5, .none⟩ = some (.int .i64 e.at') := rowCells t1 5
            have e6 : W.cell? ⟨E, 6, .none⟩ = some (.int .i64 e.n) := rowCells t1 6
            have e7 : W.cell? ⟨E, 7, .none⟩ = some (.int .i64 e.er) := rowCells t1 7
            clear hE'
            go_wp2_with (go_at_call 28; refine hof.out.mono ?_; rintro r w1 ⟨rfl, hw⟩; obtain rfl := hw.symm)
            go_ret
            exact ⟨rfl, hL.out⟩
        · rw [if_neg hla] at hwv
          have hl1 : p.lives = true := by cases hp1 : p.lives <;> simp_all
          have hl2 : p.asks = true := by cases hp1 : p.asks <;> simp_all
          clear hla
          by_cases hk3e : e.k = 3
          · rw [if_pos hk3e] at hwv
            have htk := took_any hJ e i o p hil hp ho.out hf.1 hf.2
            unfold Ev.val Ev.cells at htk
            have hfin : Hid (∀ w', Left B (w.alloc (.cells #[.int .i64 e.k, .int .i64 e.c, .int .i64 e.ok, .int .i64 e.oa, .int .i64 e.on, .int .i64 e.at', .int .i64 e.n, .int .i64 e.er] 37)) w' jb s pb sl (if tookC J.W J.l p e = 0 then { J with l := putB J.l e.at' e.n, ps := J.ps.set i { p with took := true, at' := e.at' } } else J) → Left B w w' jb s pb sl JR) := Lib.hid fun w' hL => by
              refine hlow _ _ hb2 ?_
              rw [hJR.out, hwv]
              by_cases h0 : tookC J.W J.l p e = 0
              · rw [if_pos h0] at hL ⊢; exact hL
              · rw [if_neg h0] at hL ⊢; exact hL
            obtain rfl : R = tookC J.W J.l p e := by
              rw [hR.out, hwv]
              by_cases h0 : tookC J.W J.l p e = 0
              · rw [if_pos h0]; exact h0.symm
              · rw [if_neg h0]
            have hkb3 : (e.k == 3) = true := by simpa using hk3e
            replace hk3e := Lib.hid hk3e
            replace htk := Lib.hid htk
            replace hof := Lib.hid hof
            clear hwv hlow hJ hrow hi hic hpd hJR hR
            go_enter Try.func19, Try.ntmps19
            go_upto_region 1 with fail
            generalize w.alloc (.cells #[.int .i64 e.k, .int .i64 e.c, .int .i64 e.ok, .int .i64 e.oa, .int .i64 e.on, .int .i64 e.at', .int .i64 e.n, .int .i64 e.er] 37) = W at *
            rw [← hE'] at t1 ⊢
            obtain ⟨hlt2, c0, c1, c2, c3, c4, c5, c6, c7, c8, c9, hfr⟩ := hpt
            have e0 : W.cell? ⟨E, 0, .none⟩ = some (.int .i64 e.k) := rowCells t1 0
            have e1 : W.cell? ⟨E, 1, .none⟩ = some (.int .i64 e.c) := rowCells t1 1
            have e2 : W.cell? ⟨E, 2, .none⟩ = some (.int .i64 e.ok) := rowCells t1 2
            have e3 : W.cell? ⟨E, 3, .none⟩ = some (.int .i64 e.oa) := rowCells t1 3
            have e4 : W.cell? ⟨E, 4, .none⟩ = some (.int .i64 e.on) := rowCells t1 4
            have e5 : W.cell? ⟨E, 5, .none⟩ = some (.int .i64 e.at') := rowCells t1 5
            have e6 : W.cell? ⟨E, 6, .none⟩ = some (.int .i64 e.n) := rowCells t1 6
            have e7 : W.cell? ⟨E, 7, .none⟩ = some (.int .i64 e.er) := rowCells t1 7
            clear hE'
            go_wp2_with (first
              | (go_at_call 28; refine hof.out.mono ?_; rintro r w1 ⟨rfl, hw⟩; obtain rfl := hw.symm)
              | (go_at_call 30; refine htk.out.mono ?_; rintro r w2 ⟨rfl, hL⟩))
            go_ret
            exact ⟨rfl, hfin.out _ hL⟩
          · rw [if_neg hk3e] at hwv
            by_cases hk4e : e.k = 4
            · rw [if_pos hk4e] at hwv
              have htk := gave_any hJ e i o p hil hp ho.out
              unfold Ev.val Ev.cells at htk
              have hfin : Hid (∀ w', Left B (w.alloc (.cells #[.int .i64 e.k, .int .i64 e.c, .int .i64 e.ok, .int .i64 e.oa, .int .i64 e.on, .int .i64 e.at', .int .i64 e.n, .int .i64 e.er] 37)) w' jb s pb sl (if gaveC J.l p e = 0 then { J with l := giveB J.l e.at', ps := J.ps.set i { p with gave := true } } else J) → Left B w w' jb s pb sl JR) := Lib.hid fun w' hL => by
                refine hlow _ _ hb2 ?_
                rw [hJR.out, hwv]
                by_cases h0 : gaveC J.l p e = 0
                · rw [if_pos h0] at hL ⊢; exact hL
                · rw [if_neg h0] at hL ⊢; exact hL
              obtain rfl : R = gaveC J.l p e := by
                rw [hR.out, hwv]
                by_cases h0 : gaveC J.l p e = 0
                · rw [if_pos h0]; exact h0.symm
                · rw [if_neg h0]
              have hkb3 : (e.k == 3) = false := by simpa using hk3e
              have hkb4 : (e.k == 4) = true := by simpa using hk4e
              replace hk4e := Lib.hid hk4e
              replace htk := Lib.hid htk
              replace hof := Lib.hid hof
              clear hwv hlow hJ hrow hi hic hpd hJR hR
              go_enter Try.func19, Try.ntmps19
              go_upto_region 1 with fail
              generalize w.alloc (.cells #[.int .i64 e.k, .int .i64 e.c, .int .i64 e.ok, .int .i64 e.oa, .int .i64 e.on, .int .i64 e.at', .int .i64 e.n, .int .i64 e.er] 37) = W at *
              rw [← hE'] at t1 ⊢
              obtain ⟨hlt2, c0, c1, c2, c3, c4, c5, c6, c7, c8, c9, hfr⟩ := hpt
              have e0 : W.cell? ⟨E, 0, .none⟩ = some (.int .i64 e.k) := rowCells t1 0
              have e1 : W.cell? ⟨E, 1, .none⟩ = some (.int .i64 e.c) := rowCells t1 1
              have e2 : W.cell? ⟨E, 2, .none⟩ = some (.int .i64 e.ok) := rowCells t1 2
              have e3 : W.cell? ⟨E, 3, .none⟩ = some (.int .i64 e.oa) := rowCells t1 3
              have e4 : W.cell? ⟨E, 4, .none⟩ = some (.int .i64 e.on) := rowCells t1 4
              have e5 : W.cell? ⟨E, 5, .none⟩ = some (.int .i64 e.at') := rowCells t1 5
              have e6 : W.cell? ⟨E, 6, .none⟩ = some (.int .i64 e.n) := rowCells t1 6
              have e7 : W.cell? ⟨E, 7, .none⟩ = some (.int .i64 e.er) := rowCells t1 7
              clear hE'
              go_wp2_with (first
                | (go_at_call 28; refine hof.out.mono ?_; rintro r w1 ⟨rfl, hw⟩; obtain rfl := hw.symm)
                | (go_at_call 31; refine htk.out.mono ?_; rintro r w2 ⟨rfl, hL⟩))
              go_ret
              exact ⟨rfl, hfin.out _ hL⟩
            · rw [if_neg hk4e] at hwv
              have hk5e : e.k = 5 := by omega
              have han := Lib.hid (fun X (hX : PtAt X pb o p) => answers_any p e pb o X hX)
              unfold Ev.val Ev.cells at han
              have hkb3 : (e.k == 3) = false := by simpa using hk3e
              have hkb4 : (e.k == 4) = false := by simpa using hk4e
              replace hk5e := Lib.hid hk5e
              have hfinT : answersB p e = true → R = 0 ∧ ∀ W w', Below w.heap.size w W → JgA B W jb s pb sl J → Only (atP pb) W w' → RowP w' pb (J.ps.set i { p with asks := false }) → Left B w w' jb s pb sl JR := fun ha => by
                rw [if_pos ha] at hwv
                refine ⟨by rw [hR.out, hwv], fun W w' hb hj ho hr => hlow _ _ hb ?_⟩
                rw [hJR.out, hwv]
                exact ⟨⟨sl, hj.setP (by rw [List.length_set]) hr ho, fun k e => .inl e⟩, ho.mono' fun k e => .inr (.inl e)⟩
              have hfinF : answersB p e = false → R = 4 ∧ ∀ W, Below w.heap.size w W → JgA B W jb s pb sl J → Left B w W jb s pb sl JR := fun ha => by
                rw [if_neg (by rw [ha]; decide)] at hwv
                refine ⟨by rw [hR.out, hwv], fun W hb hj => ?_⟩
                rw [hJR.out, hwv]
                exact ⟨⟨sl, hj, fun k e => .inl e⟩, Only.of_below hb⟩
              have hptJ : Hid (∀ X, JgA B X jb s pb sl J → RowP X pb J.ps ∧ PtAt X pb o p) := Lib.hid fun X hX => ⟨hX.row hps, ho.out ▸ (((hX.row hps).pt i hil).of_eq hp)⟩
              have hset : Hid (∀ X, RowP X pb J.ps → RowP (X.setCell ⟨pb, o + 2, .none⟩ (.bool false)) pb (J.ps.set i { p with asks := false })) := Lib.hid fun X hX => by
                rw [ho.out]
                exact hX.set i 2 (.bool false) { p with asks := false } hil (by omega) (by rw [hp]; rfl)
              replace hof := Lib.hid hof
              replace hnil := Lib.hid hnil
              clear hwv hlow hrow hi hic hpd hJR hR
              have hnil := hnil.out
              have hptW := hpt
              go_enter Try.func19, Try.ntmps19
              go_upto_region 1 with fail
              generalize w.alloc (.cells #[.int .i64 e.k, .int .i64 e.c, .int .i64 e.ok, .int .i64 e.oa, .int .i64 e.on, .int .i64 e.at', .int .i64 e.n, .int .i64 e.er] 37) = W at *
              rw [← hE'] at t1 ⊢
              obtain ⟨hlt2, c0, c1, c2, c3, c4, c5, c6, c7, c8, c9, hfr⟩ := hpt
              have e0 : W.cell? ⟨E, 0, .none⟩ = some (.int .i64 e.k) := rowCells t1 0
              have e1 : W.cell? ⟨E, 1, .none⟩ = some (.int .i64 e.c) := rowCells t1 1
              have e2 : W.cell? ⟨E, 2, .none⟩ = some (.int .i64 e.ok) := rowCells t1 2
              have e3 : W.cell? ⟨E, 3, .none⟩ = some (.int .i64 e.oa) := rowCells t1 3
              have e4 : W.cell? ⟨E, 4, .none⟩ = some (.int .i64 e.on) := rowCells t1 4
              have e5 : W.cell? ⟨E, 5, .none⟩ = some (.int .i64 e.at') := rowCells t1 5
              have e6 : W.cell? ⟨E, 6, .none⟩ = some (.int .i64 e.n) := rowCells t1 6
              have e7 : W.cell? ⟨E, 7, .none⟩ = some (.int .i64 e.er) := rowCells t1 7
              clear hE'
              rcases Bool.eq_false_or_eq_true (answersB p e) with hab | hab
              · obtain ⟨rfl, hL⟩ := hfinT hab
                rw [hab] at han
                clear hfinF hfinT hab
                go_wp2_with (go_at_call 28; refine hof.out.mono ?_; rintro r w1 ⟨rfl, hw⟩; obtain rfl := hw.symm)
                refine (han.out _ hptW).mono ?_
                rintro r w2 ⟨rfl, hbx⟩
                have hJ2 := hJ.below hbx
                obtain ⟨hr2, hp2⟩ := hptJ.out _ hJ2
                have q2 := hp2.c2
                have qf := hp2.fr
                have hLL := Lib.hid (hL w2 _ (hb2.trans (hbx.mono hb2.size)) hJ2 ((Only.refl (atP pb) w2).setCell (p := ⟨pb, o + 2, .none⟩) (.inl (show atP pb pb from rfl)) (.bool false)) (hset.out _ hr2))
                clear hr2 hp2 hL hset hptJ hJ2 hptW
                go_wp2
                go_ret
                exact ⟨rfl, hLL.out⟩
              · obtain ⟨rfl, hL⟩ := hfinF hab
                rw [hab] at han
                clear hfinF hfinT hab
                go_wp2_with (go_at_call 28; refine hof.out.mono ?_; rintro r w1 ⟨rfl, hw⟩; obtain rfl := hw.symm)
                refine (han.out _ hptW).mono ?_
                rintro r w2 ⟨rfl, hbx⟩
                have hLL := Lib.hid (hL w2 (hb2.trans (hbx.mono hb2.size)) (hJ.below hbx))
                clear hL hset hptJ hptW
                go_wp2
                go_ret
                exact ⟨rfl, hLL.out⟩
end Go.Proofs.Ytclidckjnoafcaa
