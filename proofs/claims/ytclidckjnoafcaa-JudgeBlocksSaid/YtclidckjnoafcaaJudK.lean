/- A judge hears an event: the walk. -/
import Derived.Test.YtclidckjnoafcaaJudH

namespace Go.Proofs.Ytclidckjnoafcaa

open Go.RowKit

attribute [local go_sem ↓] Go.wp_at_zero Go.wp_at_succ

/-- The first i clients have been looked at. -/
def mapTo (f : Pt → Pt) (i : Nat) (ps : List Pt) : List Pt := (ps.take i).map f ++ ps.drop i
theorem mapTo_len (f : Pt → Pt) (i : Nat) (ps : List Pt) : (mapTo f i ps).length = ps.length := by
  unfold mapTo; rw [List.length_append, List.length_map, List.length_take, List.length_drop]; omega
theorem mapTo_zero (f : Pt → Pt) (ps : List Pt) : mapTo f 0 ps = ps := by simp [mapTo]
theorem mapTo_all (f : Pt → Pt) (ps : List Pt) : mapTo f ps.length ps = ps.map f := by simp [mapTo]
theorem mapTo_get (f : Pt → Pt) (i : Nat) (ps : List Pt) (h : i < ps.length) : (mapTo f i ps)[i]'(by rw [mapTo_len]; exact h) = ps[i] := by
  unfold mapTo
  have hl : ((ps.take i).map f).length = i := by rw [List.length_map, List.length_take]; omega
  rw [List.getElem_append_right (by omega), List.getElem_drop]
  congr 1
  omega
theorem mapTo_succ (f : Pt → Pt) (i : Nat) (ps : List Pt) (h : i < ps.length) : mapTo f (i + 1) ps = (mapTo f i ps).set i (f ps[i]) := by
  unfold mapTo
  have hl : ((ps.take i).map f).length = i := by rw [List.length_map, List.length_take]; omega
  rw [List.set_append_right _ _ (by omega), hl, Nat.sub_self]
  have h1 : ps.drop i = ps[i] :: ps.drop (i + 1) := (List.getElem_cons_drop h).symm
  rw [h1, List.set_cons_zero]
  have h2 : ps.take (i + 1) = ps.take i ++ [ps[i]] := List.take_succ_eq_append_getElem h
  rw [h2, List.map_append, List.append_assoc]; rfl
/-- Two numbers in a block. -/
def TwAt (w : World) (N : Nat) (a b : Int) : Prop := w.heap[N]? = some (.cells #[.int .i64 a, .int .i64 b] 52 (0, 0))
section

variable {w w' : World} {N : Nat} {a b : Int}

theorem TwAt.c0 (h : TwAt w N a b) : w.cell? ⟨N, 0, .none⟩ = some (.int .i64 a) := rowCells h 0
theorem TwAt.c1 (h : TwAt w N a b) : w.cell? ⟨N, 1, .none⟩ = some (.int .i64 b) := rowCells h 1
theorem TwAt.fr (h : TwAt w N a b) (i : Nat) : w.frozen? ⟨N, i, .none⟩ = false := rowFree h i
theorem TwAt.lt (h : TwAt w N a b) : N < w.heap.size := (Array.getElem?_eq_some_iff.1 h).1
theorem TwAt.below (h : TwAt w N a b) (hb : Below w.heap.size w w') : TwAt w' N a b := (hb.block N h.lt).trans h
end

def okV (l : List Bk) (a : Int) : Bool := foundB a l
theorem blk_form {W : Int} {l : List Bk} (h : okK W 0 l) (a : Int) : ∃ x y : Int, blkV (atB l a) = .tuple #[.agg #[.int .i64 x, .int .i64 y], .bool (foundB a l)] := by
  unfold atB
  rcases Bool.eq_false_or_eq_true (foundB a l) with hb | hb
  · rw [if_pos hb, hb]
    obtain ⟨h1, h2⟩ := (foundB_iff a l).1 hb
    rw [List.getElem?_eq_getElem h1]
    exact ⟨_, _, rfl⟩
  · rw [if_neg (by rw [hb]; decide), hb]
    exact ⟨0, 0, rfl⟩

theorem why_len (W : Int) (l : List Bk) (ps : List Pt) (e : Ev) : (whyJ W l ps e).ps.length = ps.length := by
  unfold whyJ
  repeat' split
  all_goals simp
theorem pv_form (pb n : Nat) : ∃ ao, pvV pb n = .slice ao n n ∧ (n ≠ 0 → ao = some ⟨pb, 0, .none⟩) := by
  unfold pvV
  by_cases h : n = 0
  · rw [if_pos h]; subst h; exact ⟨none, rfl, fun e => absurd rfl e⟩
  · rw [if_neg h]; exact ⟨_, rfl, fun _ => rfl⟩

set_option maxRecDepth 100000 in
set_option maxHeartbeats 4000000 in
theorem hear_any {B : Nat} {w : World} {jb s pb : Nat} {sl : Value} {J : Jd} (h : JgA B w jb s pb sl J) (e : Ev) (hf : e.fit) (hm : 0 ≤ J.m ∧ J.m ≤ 1000000) (hn : J.ps.length ≤ 100) :
    Calls Try.prog 10 #[.pointer (some ⟨jb, 0, .none⟩), e.val] w fun r w' => r = .returned (.bool (hearB J e)) ∧ Left B w w' jb s pb sl (hearJ J e) := by
  have hnil : ∀ W a, (binOp .eql 32 (.pointer (some a)) (.pointer none)).run Try.prog W = .ok (.bool false) W := fun W a => by kernel_rfl
  have hb2 := (Below.refl w.heap.size w).alloc (Nat.le_refl _) (.cells #[.int .i64 e.k, .int .i64 e.c, .int .i64 e.ok, .int .i64 e.oa, .int .i64 e.on, .int .i64 e.at', .int .i64 e.n, .int .i64 e.er] 37)
  have t1 := heap_alloc_new w (.cells #[.int .i64 e.k, .int .i64 e.c, .int .i64 e.ok, .int .i64 e.oa, .int .i64 e.on, .int .i64 e.at', .int .i64 e.n, .int .i64 e.er] 37)
  have hJ := h.below hb2
  obtain ⟨E, hE, hE'⟩ : ∃ E, Hid (E = w.heap.size) ∧ E = w.heap.size := ⟨_, Lib.hid rfl, rfl⟩
  have hwhy := why_any hJ e hf
  unfold Ev.val Ev.cells at hwhy ⊢
  have hlow : Hid (∀ W w' JR, Below w.heap.size w W → Left B W w' jb s pb sl JR → Left B w w' jb s pb sl JR) := Lib.hid fun W w' JR hb hl => by
    obtain ⟨⟨sl', hj, hk⟩, ho⟩ := hl
    refine ⟨⟨sl', hj, fun k e => ?_⟩, (Only.of_below hb).trans ho fun _ _ e => e⟩
    rcases hk k e with h1 | h1
    · exact .inl h1
    · exact .inr (by have := hb.size; omega)
  by_cases hw0 : J.why = 0
  · have hw0b : (J.why != 0) = false := by simpa using hw0
    have hB : hearB J e = decide ((whyJ J.W J.l J.ps e).c = 0) := by unfold hearB; rw [decide_eq_true hw0, Bool.true_and]
    have hJr : hearJ J e = if (whyJ J.W J.l J.ps e).c ≠ 0 then { J with l := (whyJ J.W J.l J.ps e).l, ps := (whyJ J.W J.l J.ps e).ps, at' := J.m, why := (whyJ J.W J.l J.ps e).c } else { J with l := (whyJ J.W J.l J.ps e).l, ps := (whyJ J.W J.l J.ps e).ps.map (abP (whyJ J.W J.l J.ps e).l), m := J.m + 1 } := by
      unfold hearJ; rw [if_neg (by omega)]
    rw [hB, hJr]
    clear hB hJr
    have hyl := why_len J.W J.l J.ps e
    generalize whyJ J.W J.l J.ps e = y at *
    obtain ⟨c, l2, ps2⟩ := y
    dsimp only at hwhy hyl ⊢
    by_cases hc : c = 0
    · subst hc
      rw [decide_eq_true rfl, if_neg (by omega)]
      replace hwhy := Lib.hid hwhy
      have h4 := hJ.h4
      rw [hw0] at h4
      go_enter Try.func10, Try.ntmps10
      go_upto_region 1 with fail
      generalize w.alloc (.cells #[.int .i64 e.k, .int .i64 e.c, .int .i64 e.ok, .int .i64 e.oa, .int .i64 e.on, .int .i64 e.at', .int .i64 e.n, .int .i64 e.er] 37) = W at *
      rw [← hE'] at t1 ⊢
      have e0 : W.cell? ⟨E, 0, .none⟩ = some (.int .i64 e.k) := rowCells t1 0
      have e1 : W.cell? ⟨E, 1, .none⟩ = some (.int .i64 e.c) := rowCells t1 1
      have e2 : W.cell? ⟨E, 2, .none⟩ = some (.int .i64 e.ok) := rowCells t1 2
      have e3 : W.cell? ⟨E, 3, .none⟩ = some (.int .i64 e.oa) := rowCells t1 3
      have e4 : W.cell? ⟨E, 4, .none⟩ = some (.int .i64 e.on) := rowCells t1 4
      have e5 : W.cell? ⟨E, 5, .none⟩ = some (.int .i64 e.at') := rowCells t1 5
      have e6 : W.cell? ⟨E, 6, .none⟩ = some (.int .i64 e.n) := rowCells t1 6
      have e7 : W.cell? ⟨E, 7, .none⟩ = some (.int .i64 e.er) := rowCells t1 7
      clear hE'
      go_upto_region 9 with (go_at_call 19; refine hwhy.out.mono ?_; rintro r w2 ⟨rfl, hL⟩)
      obtain ⟨⟨sl2, hJ2, hk2⟩, hO2⟩ := hL
      have q2 := hJ2.h2
      have qf := hJ2.fr
      have hm1 : IntKind.i64.wrap (J.m + 1) = J.m + 1 := IntWalk.i64_in _ ⟨by omega, by omega⟩
      have hO3 : Only (atP jb) w2 (w2.setCell ⟨jb, 2, .none⟩ (.int .i64 (J.m + 1))) := (Only.refl (atP jb) w2).setCell (p := ⟨jb, 2, .none⟩) (.inl (show atP jb jb from rfl)) _
      have hJ3 := hJ2.setJ (J.m + 1) J.at' J.why (w' := w2.setCell ⟨jb, 2, .none⟩ (.int .i64 (J.m + 1))) (by rw [heap_setCell_same w2 jb 2 _ _ _ hJ2.head]; rfl) hO3
      have hO4 := hO2.trans hO3 fun k _ e => .inl e
      go_upto_region 10 with fail
      clear hJ2 hO2 hO3 q2 qf hJ t1 e0 e1 e2 e3 e4 e5 e6 e7 h4 hwhy
      generalize w2.setCell ⟨jb, 2, .none⟩ (.int .i64 (J.m + 1)) = V at *
      have hJ3 : JgA B V jb s pb sl2 { J with l := l2, ps := ps2, m := J.m + 1 } := hJ3
      have g1 : V.cell? ⟨jb, 1, .none⟩ = some (pvV pb ps2.length) := hJ3.h1
      obtain ⟨n, hn1, hn1'⟩ : ∃ n, Hid (n = ps2.length) ∧ n = ps2.length := ⟨_, Lib.hid rfl, rfl⟩
      have hn100 : n ≤ 100 := by omega
      rw [← hn1'] at g1
      obtain ⟨ao, hao, hao2⟩ := pv_form pb n
      rw [hao] at g1
      have hao' : pvV pb ps2.length = .slice ao n n := by rw [← hn1']; exact hao
      clear hao hn1' hyl
      replace hao' := Lib.hid hao'
      have hfin : Hid (∀ wr, JgA B wr jb s pb sl2 { J with l := l2, ps := ps2.map (abP l2), m := J.m + 1 } → Only (footJ jb s pb sl2) V wr → Left B w wr jb s pb sl { J with l := l2, ps := ps2.map (abP l2), m := J.m + 1 }) := Lib.hid fun wr hj ho => by
        refine hlow.out W wr _ hb2 ⟨⟨sl2, hj, hk2⟩, hO4.trans ho fun k hk e => ?_⟩
        rcases e with e | e | e | e
        · exact .inl e
        · exact .inr (.inl e)
        · exact .inr (.inr (.inl e))
        · rcases hk2 k e with h1 | h1
          · exact .inr (.inr (.inr h1))
          · omega
      go_wp2_with fail
      go_loopw [43] (fun vi wr => ∃ i : Nat, i ≤ n ∧ vi = .int .i64 i ∧ JgA B wr jb s pb sl2 { J with l := l2, ps := mapTo (abP l2) i ps2, m := J.m + 1 } ∧ Only (footJ jb s pb sl2) V wr) (fun vi _ => n - (intOf vi).toNat)
      case atStart => exact ⟨0, Nat.zero_le _, rfl, by rw [mapTo_zero]; exact hJ3, Only.refl _ _⟩
      case round =>
        obtain ⟨i, hi, rfl, hj, ho⟩ := hrel
        obtain ⟨Y, rfl⟩ : ∃ V : World, V = wr := ⟨_, rfl⟩
        by_cases hlt : i < n
        · have hlt' : (i : Int) < (n : Int) := by omega
          have hi0 : (0 : Int) ≤ (i : Int) := by omega
          have wi1 : IntKind.i64.wrap ((i : Int) + 1) = (i : Int) + 1 := IntWalk.i64_in _ ⟨by omega, by omega⟩
          have hil : i < ps2.length := by have := hn1.out; omega
          have hil2 : i < (mapTo (abP l2) i ps2).length := by rw [mapTo_len]; exact hil
          obtain rfl := hao2 (by omega)
          have hrow : RowP Y pb (mapTo (abP l2) i ps2) := hj.row (fun e => by have e : mapTo (abP l2) i ps2 = [] := e; rw [e] at hil2; simp at hil2)
          obtain ⟨p, hp⟩ : ∃ p, ps2[i] = p := ⟨_, rfl⟩
          have hmp := mapTo_get (abP l2) i ps2 hil
          rw [hp] at hmp
          have hpt := (hrow.pt i hil2).of_eq hmp
          have y0 := hj.h0
          have y1 : Y.cell? ⟨jb, 1, .none⟩ = some (.slice (some ⟨pb, 0, .none⟩) n n) := by
            have := hj.h1
            rw [show ({ J with l := l2, ps := mapTo (abP l2) i ps2, m := J.m + 1 } : Jd).ps.length = ps2.length from mapTo_len _ _ _, hao'.out] at this
            exact this
          have hms := mapTo_succ (abP l2) i ps2 hil
          rw [hp] at hms
          have hat := fun X (hX : Below Y.heap.size Y X) => at_any (hj.below hX).model p.a
          obtain ⟨bx, bn, hbv⟩ := blk_form hj.model.ok p.a
          dsimp only at hat hbv
          rw [hbv] at hat
          replace hat := Lib.hid hat
          have y4 := hpt.c4
          have lj : jb < Y.heap.size := hj.lt
          have lp : pb < Y.heap.size := hpt.lt
          replace hmp := Lib.hid hmp
          replace hms := Lib.hid hms
          replace hp := Lib.hid hp
          clear hbv
          go_upto_region 13 with fail
          go_cut [7, 8] (fun vx vo wx => (∃ N : Nat, vx = .pointer (some ⟨N, 0, .none⟩)) ∧ vo = .bool (foundB p.a l2) ∧ Below Y.heap.size Y wx)
          case first =>
            have hK : Hid (∀ X, Below Y.heap.size Y X → X.cell? ⟨jb, 0, .none⟩ = some (.pointer (some ⟨s, 0, .none⟩)) ∧ X.cell? ⟨jb, 1, .none⟩ = some (.slice (some ⟨pb, 0, .none⟩) n n) ∧ X.cell? ⟨pb, i * 10 + 4, .none⟩ = some (.int .i64 p.a)) := Lib.hid fun X hb => ⟨keepF hb _ _ _ y0, keepF hb _ _ _ y1, keepF hb _ _ _ y4⟩
            go_region_held3 (fun X => X.cell? ⟨jb, 0, .none⟩ = some (.pointer (some ⟨s, 0, .none⟩)) ∧ X.cell? ⟨jb, 1, .none⟩ = some (.slice (some ⟨pb, 0, .none⟩) n n) ∧ X.cell? ⟨pb, i * 10 + 4, .none⟩ = some (.int .i64 p.a))
              (first | exact hK.out _ (by go_grown))
              (first
                | (go_at_call 15; refine (hat.out _ (by go_grown)).mono ?_; rintro r w4 ⟨rfl, hb4⟩; have hB4 := belowTrans (w := Y) (by go_grown) hb4; have hS4 := hB4.size;
                    try (have hz := TwAt.below (N := Y.heap.size) (a := 0) (b := 0) (heap_alloc_new Y.drew (.cells #[.int .i64 0, .int .i64 0] 52)) hb4; have z0 := hz.c0; have z1 := hz.c1; have zF := hz.fr)))
            all_goals (go_wp2_with fail; go_meet)
            all_goals exact ⟨⟨_, rfl⟩, rfl, by go_grown⟩
          case rest =>
            obtain ⟨⟨N, rfl⟩, rfl, hbZ⟩ := hcut
            obtain ⟨Z, rfl⟩ : ∃ V : World, V = wc := ⟨_, rfl⟩
            have hjZ := hj.below hbZ
            have hoZ : Only (footJ jb s pb sl2) V Z := ho.trans (Only.of_below (F := fun _ => False) hbZ) fun _ _ e => e.elim
            have hrZ : RowP Z pb (mapTo (abP l2) i ps2) := hrow.of_block (hbZ.block _ hrow.lt)
            have hptZ : PtAt Z pb (i * 10) p := (hrZ.pt i hil2).of_eq hmp.out
            have y0 := keepF hbZ _ _ _ y0
            have y1 := keepF hbZ _ _ _ y1
            have y2 := hptZ.c2
            have y9 := hptZ.c9
            have yf := hptZ.fr
            have hsame : abP l2 p = p → ∃ i_1 : Nat, i_1 ≤ n ∧ Value.int .i64 ((i : Int) + 1) = .int .i64 i_1 ∧ JgA B Z jb s pb sl2 { J with l := l2, ps := mapTo (abP l2) i_1 ps2, m := J.m + 1 } ∧ Only (footJ jb s pb sl2) V Z := fun e => by
              refine ⟨i + 1, by omega, by go_num, ?_, hoZ⟩
              have : mapTo (abP l2) (i + 1) ps2 = mapTo (abP l2) i ps2 := by
                rw [hms.out, e, ← hmp.out, List.set_getElem_self]
              rw [this]; exact hjZ
            have hchg : abP l2 p = { p with ab := true } → ∃ i_1 : Nat, i_1 ≤ n ∧ Value.int .i64 ((i : Int) + 1) = .int .i64 i_1 ∧ JgA B (Z.setCell ⟨pb, i * 10 + 9, .none⟩ (.bool true)) jb s pb sl2 { J with l := l2, ps := mapTo (abP l2) i_1 ps2, m := J.m + 1 } ∧ Only (footJ jb s pb sl2) V (Z.setCell ⟨pb, i * 10 + 9, .none⟩ (.bool true)) := fun e => by
              have hoP : Only (atP pb) Z (Z.setCell ⟨pb, i * 10 + 9, .none⟩ (.bool true)) := (Only.refl _ _).setCell (p := ⟨pb, i * 10 + 9, .none⟩) (.inl (show atP pb pb from rfl)) _
              refine ⟨i + 1, by omega, by go_num, ?_, hoZ.trans hoP fun k _ e => .inr (.inl e)⟩
              rw [hms.out, e]
              have hr9 := hrZ.set i 9 (.bool true) { p with ab := true } hil2 (by omega) (by rw [hmp.out]; rfl)
              exact hjZ.setP (qs := (mapTo (abP l2) i ps2).set i { p with ab := true }) (by rw [List.length_set]) hr9 hoP
            replace hsame := Lib.hid hsame
            replace hchg := Lib.hid hchg
            clear hjZ hoZ hrZ hptZ hrow hpt hj ho hat y4
            rcases Bool.eq_false_or_eq_true (foundB p.a l2) with hfd | hfd
            · have hh := Lib.hid (hsame.out (by unfold abP; rw [if_neg (by rw [hfd]; simp)]))
              clear hsame hchg
              go_wp2
              exact ⟨hh.out, by simp [intOf]; omega⟩
            · rcases Bool.eq_false_or_eq_true p.asks with has | has
              · have hh := Lib.hid (hchg.out (by unfold abP; rw [if_pos ⟨hfd, has⟩]))
                clear hsame hchg
                go_wp2
                exact ⟨hh.out, by simp [intOf]; omega⟩
              · have hh := Lib.hid (hsame.out (by unfold abP; rw [if_neg (by rw [has]; simp)]))
                clear hsame hchg
                go_wp2
                exact ⟨hh.out, by simp [intOf]; omega⟩
        · have hie : i = n := by omega
          subst hie
          rw [hn1.out, mapTo_all] at hj
          have hL := Lib.hid (hfin.out _ hj ho)
          clear hj ho hfin
          go_wp2
          go_ret
          exact ⟨rfl, hL.out⟩
    · have hcb : (c != 0) = true := by simpa using hc
      rw [decide_eq_false hc, if_pos hc]
      replace hwhy := Lib.hid hwhy
      have h4 := hJ.h4
      rw [hw0] at h4
      go_enter Try.func10, Try.ntmps10
      go_upto_region 1 with fail
      generalize w.alloc (.cells #[.int .i64 e.k, .int .i64 e.c, .int .i64 e.ok, .int .i64 e.oa, .int .i64 e.on, .int .i64 e.at', .int .i64 e.n, .int .i64 e.er] 37) = W at *
      rw [← hE'] at t1 ⊢
      have e0 : W.cell? ⟨E, 0, .none⟩ = some (.int .i64 e.k) := rowCells t1 0
      have e1 : W.cell? ⟨E, 1, .none⟩ = some (.int .i64 e.c) := rowCells t1 1
      have e2 : W.cell? ⟨E, 2, .none⟩ = some (.int .i64 e.ok) := rowCells t1 2
      have e3 : W.cell? ⟨E, 3, .none⟩ = some (.int .i64 e.oa) := rowCells t1 3
      have e4 : W.cell? ⟨E, 4, .none⟩ = some (.int .i64 e.on) := rowCells t1 4
      have e5 : W.cell? ⟨E, 5, .none⟩ = some (.int .i64 e.at') := rowCells t1 5
      have e6 : W.cell? ⟨E, 6, .none⟩ = some (.int .i64 e.n) := rowCells t1 6
      have e7 : W.cell? ⟨E, 7, .none⟩ = some (.int .i64 e.er) := rowCells t1 7
      clear hE'
      go_upto_region 7 with (go_at_call 19; refine hwhy.out.mono ?_; rintro r w2 ⟨rfl, hL⟩)
      obtain ⟨⟨sl2, hJ2, hk2⟩, hO2⟩ := hL
      have q2 := hJ2.h2
      have q3 := hJ2.h3
      have q4 := hJ2.h4
      have qf := hJ2.fr
      have hO3 : Only (atP jb) w2 ((w2.setCell ⟨jb, 3, .none⟩ (.int .i64 J.m)).setCell ⟨jb, 4, .none⟩ (.int .i64 c)) := ((Only.refl (atP jb) w2).setCell (p := ⟨jb, 3, .none⟩) (.inl (show atP jb jb from rfl)) _).setCell (p := ⟨jb, 4, .none⟩) (.inl (show atP jb jb from rfl)) _
      have hJ3 := hJ2.setJ J.m J.m c (w' := (w2.setCell ⟨jb, 3, .none⟩ (.int .i64 J.m)).setCell ⟨jb, 4, .none⟩ (.int .i64 c)) (by rw [heap_setCell_same _ jb 4 _ _ _ (heap_setCell_same w2 jb 3 _ _ _ hJ2.head)]; rfl) hO3
      have hLL := Lib.hid (hlow.out _ _ _ hb2 ⟨⟨sl2, hJ3, hk2⟩, hO2.trans hO3 fun k _ e => .inl e⟩)
      clear hJ3 hO3 hO2 hJ2 hk2
      go_wp2
      go_ret
      exact ⟨rfl, hLL.out⟩
  · have hw0b : (J.why != 0) = true := by simpa using hw0
    rw [hear_bad hw0, show hearB J e = false by unfold hearB; rw [decide_eq_false hw0]; rfl]
    have h4 := hJ.h4
    have hL : Hid (Left B w (w.alloc (.cells #[.int .i64 e.k, .int .i64 e.c, .int .i64 e.ok, .int .i64 e.oa, .int .i64 e.on, .int .i64 e.at', .int .i64 e.n, .int .i64 e.er] 37)) jb s pb sl J) := Lib.hid ⟨⟨sl, hJ, fun k e => .inl e⟩, Only.of_below hb2⟩
    clear hwhy hlow
    go_enter Try.func10, Try.ntmps10
    go_wp2
    go_ret
    exact ⟨rfl, hL.out⟩
end Go.Proofs.Ytclidckjnoafcaa
