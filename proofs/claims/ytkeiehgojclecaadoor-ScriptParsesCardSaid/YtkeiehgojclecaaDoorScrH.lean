/- Lines, read: the walk of package script's line (printed by wip/scr_line.py). -/
import Derived.Test.YtkeiehgojclecaaDoorScrG

namespace Go.Proofs.YtkeiehgojclecaaDoor

open Go.RowKit

attribute [local go_sem ↓] Go.wp_at_zero Go.wp_at_succ

attribute [local go_sem high] run_cut_l run_cut_h run_cut_lh

attribute [local go_sem] run_store_float

/-- What a client is asked for, of words behind the first. -/
def opO (k : Int) (m : Nat) (r : List (List UInt8)) : Option Ch := if r.length = m then (numsO r).map fun zs => opV k (zs.getD 0 0) (zs.getD 1 0) (zs.getD 2 0) else none
/-- A step, a kill. -/
def oneO (k : Int) (r : List (List UInt8)) : Option Ch := if r.length = 1 then (numsO r).map fun zs => ⟨k, zs.getD 0 0, 0, 0, 0, 0⟩ else none
/-- A line of words. -/
def wordsO (w : List UInt8) (r : List (List UInt8)) : Option Ch :=
  if w = [115, 116, 97, 114, 116] then startO r else
  if w = [109, 97, 108, 108, 111, 99] then opO 1 2 r else
  if w = [102, 114, 101, 101] then opO 2 2 r else
  if w = [114, 101, 97, 108, 108, 111, 99] then opO 3 3 r else
  if w = [97, 100, 111, 112, 116] then opO 4 2 r else
  if w = [115, 116, 101, 112] then oneO 3 r else
  if w = [107, 105, 108, 108] then oneO 4 r else
  none
/-- A line. -/
def lineO (l : List UInt8) : Option Ch := match spl 32 l with
  | [] => none
  | w :: r => wordsO w r
theorem opO_some {k : Int} {m : Nat} {r : List (List UInt8)} : (opO k m r).isSome = (decide (r.length = m) && (numsO r).isSome) := by
  unfold opO
  split
  · rename_i h; simp [h]
  · rename_i h; simp [h]
theorem oneO_some {k : Int} {r : List (List UInt8)} : (oneO k r).isSome = (decide (r.length = 1) && (numsO r).isSome) := by
  unfold oneO
  split
  · rename_i h; simp [h]
  · rename_i h; simp [h]
theorem num_got {m : Nat} {r : List (List UInt8)} {b : Bool} (hb : b = (decide (r.length = m) && (numsO r).isSome)) (h : b = true) : r.length = m ∧ ∃ zs, numsO r = some zs ∧ zs.length = m := by
  subst h
  have h3 : r.length = m := by
    by_cases h : r.length = m
    · exact h
    · simp [h] at hb
  obtain ⟨vs, hvv⟩ : ∃ vs, numsO r = some vs := by
    cases h : numsO r with
    | none => simp [h] at hb
    | some x => exact ⟨x, rfl⟩
  exact ⟨h3, vs, hvv, (numsO_length hvv).trans h3⟩
set_option maxRecDepth 100000 in
set_option maxHeartbeats 400000 in
theorem line_any (l : List UInt8) (hl : l.length < 1000000) (w : World) (h : Laid w) :
    Calls Tryd.prog 23 #[.string (S l)] w fun e w' => (∃ c : Ch, e = .returned (.tuple #[c.val, .bool (lineO l).isSome]) ∧ ∀ r, lineO l = some r → c = r) ∧ Below w.heap.size w w' := by
  have hb0 := (Below.refl w.heap.size w).alloc (Nat.le_refl _) (.cells #[.int .i64 0, .int .i64 0, .int .i64 0, .int .i64 0, .int .i64 0, .float .f64 0] 46)
  have bx := heap_alloc_new w (.cells #[.int .i64 0, .int .i64 0, .int .i64 0, .int .i64 0, .int .i64 0, .float .f64 0] 46)
  have hho : lineO l = match spl 32 l with | [] => none | w :: r => wordsO w r := rfl
  have hpl := spl_length 32 l
  have hne := spl_ne 32 l
  have hcnt := spl_count 32 l
  go_enter Tryd.func23, Tryd.ntmps23
  go_upto_region 1 with fail
  generalize w.alloc (.cells #[.int .i64 0, .int .i64 0, .int .i64 0, .int .i64 0, .int .i64 0, .float .f64 0] 46) = W at *
  have hL := h.below hb0
  obtain ⟨H, hH, hH'⟩ : ∃ H, Hid (H = w.heap.size) ∧ H = w.heap.size := ⟨_, Lib.hid rfl, rfl⟩
  rw [← hH'] at bx ⊢
  clear hH'
  have l0 : H < W.heap.size := (Array.getElem?_eq_some_iff.1 bx).1
  have hsp := Lib.hid (split_any l 32 (by omega) W hL)
  obtain ⟨w0, r0, hspl⟩ : ∃ w0 r0, spl 32 l = w0 :: r0 := List.exists_cons_of_ne_nil hne
  rw [hspl] at hsp hho hpl hcnt
  clear hne
  obtain ⟨n, hn, hn'⟩ : ∃ n, Hid (n = r0.length + 1) ∧ n = r0.length + 1 := ⟨_, Lib.hid rfl, rfl⟩
  have hl1 : (w0 :: r0).length = n := by rw [List.length_cons, hn']
  rw [hl1] at hsp hcnt
  have c1 : (1 : Int) ≤ (n : Int) := by omega
  have c0 : (0 : Int) < (n : Int) := by omega
  clear hl1 hn'
  replace hho := Lib.hid hho
  replace hspl := Lib.hid hspl
  go_upto_region 2 with (go_at_call 21; refine hsp.out.mono ?_; rintro r w1 ⟨⟨b, rfl, hrd⟩, hb1⟩)
  have hn' := hn.out
  have hrd2 : RdT w1 (.slice (some ⟨b, 0, .none⟩) n n) (w0 :: r0) := hrd
  rw [hn'] at hrd2
  have htl := hrd2.tail
  rw [← hn'] at htl
  have hx0 : w1.cell? ⟨b, 0, .none⟩ = some (.string (S w0)) := by
    obtain ⟨ao, cap, e, _, _, hc⟩ := hrd2.cells
    injection e with e _ _
    subst e
    obtain ⟨b', off, e, _, hc⟩ := hc (by simp)
    injection e with e
    injection e with e1 e2
    subst e1 e2
    exact hc 0 (by simp)
  have hpr : ∀ p ∈ r0, p.length ≤ 281474976710656 := fun p hp => by have := hpl p (by simp [hp]); omega
  have hL1 := hL.below hb1
  have hnm := Lib.hid (fun (m : Nat) (hm : m ≤ 100) => numbers_any r0 _ m hm w1 htl hpr hL1)
  have hst := Lib.hid (start_any r0 _ w1 htl hpr hL1)
  have hbw := hb0.trans (hb1.mono hb0.size)
  have bx1 : w1.heap[H]? = some (.cells #[.int .i64 0, .int .i64 0, .int .i64 0, .int .i64 0, .int .i64 0, .float .f64 0] 46 (0, 0)) := (hb1.block H l0).trans bx
  have lb := cell_lt hx0
  have lh := (Array.getElem?_eq_some_iff.1 bx1).1
  have hend : Hid (∀ X, Below w1.heap.size w1 X → ∀ u0 u1 u2 u3 u4 u5, Below w.heap.size w ((((((X.setCell ⟨H, 0, .none⟩ u0).setCell ⟨H, 1, .none⟩ u1).setCell ⟨H, 2, .none⟩ u2).setCell ⟨H, 3, .none⟩ u3).setCell ⟨H, 4, .none⟩ u4).setCell ⟨H, 5, .none⟩ u5)) := by
    refine Lib.hid fun X hX _ _ _ _ _ _ => ?_
    have hH' := hH.out
    have hB2 := hbw.trans (hX.mono hbw.size)
    exact (((((hB2.setCell (Nat.le_of_eq hH'.symm) _).setCell (Nat.le_of_eq hH'.symm) _).setCell (Nat.le_of_eq hH'.symm) _).setCell (Nat.le_of_eq hH'.symm) _).setCell (Nat.le_of_eq hH'.symm) _).setCell (Nat.le_of_eq hH'.symm) _
  have hQ : ∀ X, Below w1.heap.size w1 X → X.heap[H]? = some (.cells #[.int .i64 0, .int .i64 0, .int .i64 0, .int .i64 0, .int .i64 0, .float .f64 0] 46 (0, 0)) := fun X hX => (hX.block H lh).trans bx1
  have q0 : w1.cell? ⟨H, 0, .none⟩ = some (.int .i64 0) := rowCells bx1 0
  have q1 : w1.cell? ⟨H, 1, .none⟩ = some (.int .i64 0) := rowCells bx1 1
  have q2 : w1.cell? ⟨H, 2, .none⟩ = some (.int .i64 0) := rowCells bx1 2
  have q3 : w1.cell? ⟨H, 3, .none⟩ = some (.int .i64 0) := rowCells bx1 3
  have q4 : w1.cell? ⟨H, 4, .none⟩ = some (.int .i64 0) := rowCells bx1 4
  have q5 : w1.cell? ⟨H, 5, .none⟩ = some (.float .f64 0) := rowCells bx1 5
  have qf := rowFree bx1
  replace hQ := Lib.hid hQ
  clear hn' hrd hrd2 htl hpl hsp bx hb1 hb0 hL h hpr bx1 hbw hL1
  go_upto_region 3 with fail
  have hl := hho.out
  clear hho
  by_cases hw0 : w0 = [115, 116, 97, 114, 116]
  · have hw := hw0
    have hl2 : lineO l = startO r0 := by rw [hl]; unfold wordsO; rw [hw]; rfl
    have e0 : (w0 == [115, 116, 97, 114, 116]) = true := by rw [hw]; rfl
    have e1 : (w0 == [109, 97, 108, 108, 111, 99]) = false := by rw [hw]; rfl
    have e2 : (w0 == [102, 114, 101, 101]) = false := by rw [hw]; rfl
    have e3 : (w0 == [114, 101, 97, 108, 108, 111, 99]) = false := by rw [hw]; rfl
    have e4 : (w0 == [97, 100, 111, 112, 116]) = false := by rw [hw]; rfl
    have e5 : (w0 == [115, 116, 101, 112]) = false := by rw [hw]; rfl
    have e6 : (w0 == [107, 105, 108, 108]) = false := by rw [hw]; rfl
    have hw9 := Lib.hid hw
    clear hl hw hw0
    replace hl2 := Lib.hid hl2
    go_wp2_with (go_at_call 38; refine hst.out.mono ?_; rintro r w2 ⟨⟨c, rfl, hc⟩, hb2⟩; replace hc := Lib.hid hc; have bx2 := hQ.out w2 hb2; have k0 : w2.cell? ⟨H, 0, .none⟩ = some (.int .i64 0) := rowCells bx2 0; have k1 : w2.cell? ⟨H, 1, .none⟩ = some (.int .i64 0) := rowCells bx2 1; have k2 : w2.cell? ⟨H, 2, .none⟩ = some (.int .i64 0) := rowCells bx2 2; have k3 : w2.cell? ⟨H, 3, .none⟩ = some (.int .i64 0) := rowCells bx2 3; have k4 : w2.cell? ⟨H, 4, .none⟩ = some (.int .i64 0) := rowCells bx2 4; have k5 : w2.cell? ⟨H, 5, .none⟩ = some (.float .f64 0) := rowCells bx2 5; have kf := rowFree bx2; unfold Ch.val)
    refine bodyPost_ret (v := .tuple #[c.val, .bool (startO r0).isSome]) (by simp [results, Tryd.results23, go_sem, Ch.val, k0, k1, k2, k3, k4, k5]) rfl ⟨⟨c, by rw [hl2.out], fun r hr => hc.out r (hl2.out ▸ hr)⟩, hend.out _ hb2 _ _ _ _ _ _⟩
  · skip
    by_cases hw1 : w0 = [109, 97, 108, 108, 111, 99]
    · have hw := hw1
      have hl2 : lineO l = opO 1 2 r0 := by rw [hl]; unfold wordsO; rw [hw]; rfl
      have e0 : (w0 == [115, 116, 97, 114, 116]) = false := by rw [hw]; rfl
      have e1 : (w0 == [109, 97, 108, 108, 111, 99]) = true := by rw [hw]; rfl
      have e2 : (w0 == [102, 114, 101, 101]) = false := by rw [hw]; rfl
      have e3 : (w0 == [114, 101, 97, 108, 108, 111, 99]) = false := by rw [hw]; rfl
      have e4 : (w0 == [97, 100, 111, 112, 116]) = false := by rw [hw]; rfl
      have e5 : (w0 == [115, 116, 101, 112]) = false := by rw [hw]; rfl
      have e6 : (w0 == [107, 105, 108, 108]) = false := by rw [hw]; rfl
      have hw9 := Lib.hid hw
      clear hl hw hw0 hw1
      replace hl2 := Lib.hid hl2
      go_upto_region 19 with (go_at_call 37; refine (hnm.out 2 (by decide)).mono ?_; rintro r w2 ⟨⟨v', bb, rfl, hbb, hvs⟩, hb2⟩; replace hbb := Lib.hid hbb; replace hvs := Lib.hid hvs)
      have bx2 := hQ.out w2 hb2
      have k0 : w2.cell? ⟨H, 0, .none⟩ = some (.int .i64 0) := rowCells bx2 0
      have k1 : w2.cell? ⟨H, 1, .none⟩ = some (.int .i64 0) := rowCells bx2 1
      have k2 : w2.cell? ⟨H, 2, .none⟩ = some (.int .i64 0) := rowCells bx2 2
      have k3 : w2.cell? ⟨H, 3, .none⟩ = some (.int .i64 0) := rowCells bx2 3
      have k4 : w2.cell? ⟨H, 4, .none⟩ = some (.int .i64 0) := rowCells bx2 4
      have k5 : w2.cell? ⟨H, 5, .none⟩ = some (.float .f64 0) := rowCells bx2 5
      have kf := rowFree bx2
      have kx := (hb2.cell (p := ⟨b, 0, .none⟩) lb).trans hx0
      clear q0 q1 q2 q3 q4 q5 qf hx0
      cases bb with
      | false =>
        have hl3 : Hid (lineO l = none) := Lib.hid (by rw [hl2.out, ← Option.not_isSome_iff_eq_none, opO_some, ← hbb.out]; simp)
        go_wp2_with fail
        refine bodyPost_ret (v := .tuple #[Ch.val ⟨0, 0, 0, 0, 0, 0⟩, .bool false]) (by simp [results, Tryd.results23, go_sem, Ch.val, k0, k1, k2, k3, k4, k5]) rfl ⟨⟨_, by rw [hl3.out]; rfl, fun r hr => by rw [hl3.out] at hr; cases hr⟩, hend.out _ hb2 _ _ _ _ _ _⟩
      | true =>
        obtain ⟨hrl, zs, hzs, hzl⟩ := num_got hbb.out rfl
        have hrz := hvs.out zs hrl hzs
        obtain ⟨c, x, rfl⟩ : ∃ c x, zs = [c, x] := by
          match zs, hzl with
          | [c, x], _ => exact ⟨c, x, rfl⟩
        have hl3 : Hid (lineO l = some (opV 1 c x 0)) := Lib.hid (by rw [hl2.out]; unfold opO; rw [if_pos hrl, hzs]; rfl)
        have hop := Lib.hid (op_any 1 (by decide) _ c x [] 0 (by simp) w2 hrz)
        clear hzs hrl hzl hrz hvs hbb
        go_wp2_with (go_at_call 39; refine hop.out.mono ?_; rintro r w3 ⟨rfl, hb3⟩; have hb4 := hb2.trans (hb3.mono hb2.size); have bx3 := hQ.out w3 hb4; have j0 : w3.cell? ⟨H, 0, .none⟩ = some (.int .i64 0) := rowCells bx3 0; have j1 : w3.cell? ⟨H, 1, .none⟩ = some (.int .i64 0) := rowCells bx3 1; have j2 : w3.cell? ⟨H, 2, .none⟩ = some (.int .i64 0) := rowCells bx3 2; have j3 : w3.cell? ⟨H, 3, .none⟩ = some (.int .i64 0) := rowCells bx3 3; have j4 : w3.cell? ⟨H, 4, .none⟩ = some (.int .i64 0) := rowCells bx3 4; have j5 : w3.cell? ⟨H, 5, .none⟩ = some (.float .f64 0) := rowCells bx3 5; have jf := rowFree bx3; unfold Ch.val opV)
        refine bodyPost_ret (v := .tuple #[(opV 1 c x 0).val, .bool true]) (by simp [results, Tryd.results23, go_sem, Ch.val, opV, j0, j1, j2, j3, j4, j5]) rfl ⟨⟨_, by rw [hl3.out]; rfl, fun r hr => by rw [hl3.out] at hr; injection hr⟩, hend.out _ hb4 _ _ _ _ _ _⟩
    · skip
      by_cases hw2 : w0 = [102, 114, 101, 101]
      · have hw := hw2
        have hl2 : lineO l = opO 2 2 r0 := by rw [hl]; unfold wordsO; rw [hw]; rfl
        have e0 : (w0 == [115, 116, 97, 114, 116]) = false := by rw [hw]; rfl
        have e1 : (w0 == [109, 97, 108, 108, 111, 99]) = false := by rw [hw]; rfl
        have e2 : (w0 == [102, 114, 101, 101]) = true := by rw [hw]; rfl
        have e3 : (w0 == [114, 101, 97, 108, 108, 111, 99]) = false := by rw [hw]; rfl
        have e4 : (w0 == [97, 100, 111, 112, 116]) = false := by rw [hw]; rfl
        have e5 : (w0 == [115, 116, 101, 112]) = false := by rw [hw]; rfl
        have e6 : (w0 == [107, 105, 108, 108]) = false := by rw [hw]; rfl
        have hw9 := Lib.hid hw
        clear hl hw hw0 hw1 hw2
        replace hl2 := Lib.hid hl2
        go_upto_region 19 with (go_at_call 37; refine (hnm.out 2 (by decide)).mono ?_; rintro r w2 ⟨⟨v', bb, rfl, hbb, hvs⟩, hb2⟩; replace hbb := Lib.hid hbb; replace hvs := Lib.hid hvs)
        have bx2 := hQ.out w2 hb2
        have k0 : w2.cell? ⟨H, 0, .none⟩ = some (.int .i64 0) := rowCells bx2 0
        have k1 : w2.cell? ⟨H, 1, .none⟩ = some (.int .i64 0) := rowCells bx2 1
        have k2 : w2.cell? ⟨H, 2, .none⟩ = some (.int .i64 0) := rowCells bx2 2
        have k3 : w2.cell? ⟨H, 3, .none⟩ = some (.int .i64 0) := rowCells bx2 3
        have k4 : w2.cell? ⟨H, 4, .none⟩ = some (.int .i64 0) := rowCells bx2 4
        have k5 : w2.cell? ⟨H, 5, .none⟩ = some (.float .f64 0) := rowCells bx2 5
        have kf := rowFree bx2
        have kx := (hb2.cell (p := ⟨b, 0, .none⟩) lb).trans hx0
        clear q0 q1 q2 q3 q4 q5 qf hx0
        cases bb with
        | false =>
          have hl3 : Hid (lineO l = none) := Lib.hid (by rw [hl2.out, ← Option.not_isSome_iff_eq_none, opO_some, ← hbb.out]; simp)
          go_wp2_with fail
          refine bodyPost_ret (v := .tuple #[Ch.val ⟨0, 0, 0, 0, 0, 0⟩, .bool false]) (by simp [results, Tryd.results23, go_sem, Ch.val, k0, k1, k2, k3, k4, k5]) rfl ⟨⟨_, by rw [hl3.out]; rfl, fun r hr => by rw [hl3.out] at hr; cases hr⟩, hend.out _ hb2 _ _ _ _ _ _⟩
        | true =>
          obtain ⟨hrl, zs, hzs, hzl⟩ := num_got hbb.out rfl
          have hrz := hvs.out zs hrl hzs
          obtain ⟨c, x, rfl⟩ : ∃ c x, zs = [c, x] := by
            match zs, hzl with
            | [c, x], _ => exact ⟨c, x, rfl⟩
          have hl3 : Hid (lineO l = some (opV 2 c x 0)) := Lib.hid (by rw [hl2.out]; unfold opO; rw [if_pos hrl, hzs]; rfl)
          have hop := Lib.hid (op_any 2 (by decide) _ c x [] 0 (by simp) w2 hrz)
          clear hzs hrl hzl hrz hvs hbb
          go_wp2_with (go_at_call 39; refine hop.out.mono ?_; rintro r w3 ⟨rfl, hb3⟩; have hb4 := hb2.trans (hb3.mono hb2.size); have bx3 := hQ.out w3 hb4; have j0 : w3.cell? ⟨H, 0, .none⟩ = some (.int .i64 0) := rowCells bx3 0; have j1 : w3.cell? ⟨H, 1, .none⟩ = some (.int .i64 0) := rowCells bx3 1; have j2 : w3.cell? ⟨H, 2, .none⟩ = some (.int .i64 0) := rowCells bx3 2; have j3 : w3.cell? ⟨H, 3, .none⟩ = some (.int .i64 0) := rowCells bx3 3; have j4 : w3.cell? ⟨H, 4, .none⟩ = some (.int .i64 0) := rowCells bx3 4; have j5 : w3.cell? ⟨H, 5, .none⟩ = some (.float .f64 0) := rowCells bx3 5; have jf := rowFree bx3; unfold Ch.val opV)
          refine bodyPost_ret (v := .tuple #[(opV 2 c x 0).val, .bool true]) (by simp [results, Tryd.results23, go_sem, Ch.val, opV, j0, j1, j2, j3, j4, j5]) rfl ⟨⟨_, by rw [hl3.out]; rfl, fun r hr => by rw [hl3.out] at hr; injection hr⟩, hend.out _ hb4 _ _ _ _ _ _⟩
      · skip
        by_cases hw3 : w0 = [114, 101, 97, 108, 108, 111, 99]
        · have hw := hw3
          have hl2 : lineO l = opO 3 3 r0 := by rw [hl]; unfold wordsO; rw [hw]; rfl
          have e0 : (w0 == [115, 116, 97, 114, 116]) = false := by rw [hw]; rfl
          have e1 : (w0 == [109, 97, 108, 108, 111, 99]) = false := by rw [hw]; rfl
          have e2 : (w0 == [102, 114, 101, 101]) = false := by rw [hw]; rfl
          have e3 : (w0 == [114, 101, 97, 108, 108, 111, 99]) = true := by rw [hw]; rfl
          have e4 : (w0 == [97, 100, 111, 112, 116]) = false := by rw [hw]; rfl
          have e5 : (w0 == [115, 116, 101, 112]) = false := by rw [hw]; rfl
          have e6 : (w0 == [107, 105, 108, 108]) = false := by rw [hw]; rfl
          have hw9 := Lib.hid hw
          clear hl hw hw0 hw1 hw2 hw3
          replace hl2 := Lib.hid hl2
          go_upto_region 19 with (go_at_call 37; refine (hnm.out 3 (by decide)).mono ?_; rintro r w2 ⟨⟨v', bb, rfl, hbb, hvs⟩, hb2⟩; replace hbb := Lib.hid hbb; replace hvs := Lib.hid hvs)
          have bx2 := hQ.out w2 hb2
          have k0 : w2.cell? ⟨H, 0, .none⟩ = some (.int .i64 0) := rowCells bx2 0
          have k1 : w2.cell? ⟨H, 1, .none⟩ = some (.int .i64 0) := rowCells bx2 1
          have k2 : w2.cell? ⟨H, 2, .none⟩ = some (.int .i64 0) := rowCells bx2 2
          have k3 : w2.cell? ⟨H, 3, .none⟩ = some (.int .i64 0) := rowCells bx2 3
          have k4 : w2.cell? ⟨H, 4, .none⟩ = some (.int .i64 0) := rowCells bx2 4
          have k5 : w2.cell? ⟨H, 5, .none⟩ = some (.float .f64 0) := rowCells bx2 5
          have kf := rowFree bx2
          have kx := (hb2.cell (p := ⟨b, 0, .none⟩) lb).trans hx0
          clear q0 q1 q2 q3 q4 q5 qf hx0
          cases bb with
          | false =>
            have hl3 : Hid (lineO l = none) := Lib.hid (by rw [hl2.out, ← Option.not_isSome_iff_eq_none, opO_some, ← hbb.out]; simp)
            go_wp2_with fail
            refine bodyPost_ret (v := .tuple #[Ch.val ⟨0, 0, 0, 0, 0, 0⟩, .bool false]) (by simp [results, Tryd.results23, go_sem, Ch.val, k0, k1, k2, k3, k4, k5]) rfl ⟨⟨_, by rw [hl3.out]; rfl, fun r hr => by rw [hl3.out] at hr; cases hr⟩, hend.out _ hb2 _ _ _ _ _ _⟩
          | true =>
            obtain ⟨hrl, zs, hzs, hzl⟩ := num_got hbb.out rfl
            have hrz := hvs.out zs hrl hzs
            obtain ⟨c, x, y, rfl⟩ : ∃ c x y, zs = [c, x, y] := by
              match zs, hzl with
              | [c, x, y], _ => exact ⟨c, x, y, rfl⟩
            have hl3 : Hid (lineO l = some (opV 3 c x y)) := Lib.hid (by rw [hl2.out]; unfold opO; rw [if_pos hrl, hzs]; rfl)
            have hop := Lib.hid (op_any 3 (by decide) _ c x [y] y (by simp) w2 hrz)
            clear hzs hrl hzl hrz hvs hbb
            go_wp2_with (go_at_call 39; refine hop.out.mono ?_; rintro r w3 ⟨rfl, hb3⟩; have hb4 := hb2.trans (hb3.mono hb2.size); have bx3 := hQ.out w3 hb4; have j0 : w3.cell? ⟨H, 0, .none⟩ = some (.int .i64 0) := rowCells bx3 0; have j1 : w3.cell? ⟨H, 1, .none⟩ = some (.int .i64 0) := rowCells bx3 1; have j2 : w3.cell? ⟨H, 2, .none⟩ = some (.int .i64 0) := rowCells bx3 2; have j3 : w3.cell? ⟨H, 3, .none⟩ = some (.int .i64 0) := rowCells bx3 3; have j4 : w3.cell? ⟨H, 4, .none⟩ = some (.int .i64 0) := rowCells bx3 4; have j5 : w3.cell? ⟨H, 5, .none⟩ = some (.float .f64 0) := rowCells bx3 5; have jf := rowFree bx3; unfold Ch.val opV)
            refine bodyPost_ret (v := .tuple #[(opV 3 c x y).val, .bool true]) (by simp [results, Tryd.results23, go_sem, Ch.val, opV, j0, j1, j2, j3, j4, j5]) rfl ⟨⟨_, by rw [hl3.out]; rfl, fun r hr => by rw [hl3.out] at hr; injection hr⟩, hend.out _ hb4 _ _ _ _ _ _⟩
        · skip
          by_cases hw4 : w0 = [97, 100, 111, 112, 116]
          · have hw := hw4
            have hl2 : lineO l = opO 4 2 r0 := by rw [hl]; unfold wordsO; rw [hw]; rfl
            have e0 : (w0 == [115, 116, 97, 114, 116]) = false := by rw [hw]; rfl
            have e1 : (w0 == [109, 97, 108, 108, 111, 99]) = false := by rw [hw]; rfl
            have e2 : (w0 == [102, 114, 101, 101]) = false := by rw [hw]; rfl
            have e3 : (w0 == [114, 101, 97, 108, 108, 111, 99]) = false := by rw [hw]; rfl
            have e4 : (w0 == [97, 100, 111, 112, 116]) = true := by rw [hw]; rfl
            have e5 : (w0 == [115, 116, 101, 112]) = false := by rw [hw]; rfl
            have e6 : (w0 == [107, 105, 108, 108]) = false := by rw [hw]; rfl
            have hw9 := Lib.hid hw
            clear hl hw hw0 hw1 hw2 hw3 hw4
            replace hl2 := Lib.hid hl2
            go_upto_region 19 with (go_at_call 37; refine (hnm.out 2 (by decide)).mono ?_; rintro r w2 ⟨⟨v', bb, rfl, hbb, hvs⟩, hb2⟩; replace hbb := Lib.hid hbb; replace hvs := Lib.hid hvs)
            have bx2 := hQ.out w2 hb2
            have k0 : w2.cell? ⟨H, 0, .none⟩ = some (.int .i64 0) := rowCells bx2 0
            have k1 : w2.cell? ⟨H, 1, .none⟩ = some (.int .i64 0) := rowCells bx2 1
            have k2 : w2.cell? ⟨H, 2, .none⟩ = some (.int .i64 0) := rowCells bx2 2
            have k3 : w2.cell? ⟨H, 3, .none⟩ = some (.int .i64 0) := rowCells bx2 3
            have k4 : w2.cell? ⟨H, 4, .none⟩ = some (.int .i64 0) := rowCells bx2 4
            have k5 : w2.cell? ⟨H, 5, .none⟩ = some (.float .f64 0) := rowCells bx2 5
            have kf := rowFree bx2
            have kx := (hb2.cell (p := ⟨b, 0, .none⟩) lb).trans hx0
            clear q0 q1 q2 q3 q4 q5 qf hx0
            cases bb with
            | false =>
              have hl3 : Hid (lineO l = none) := Lib.hid (by rw [hl2.out, ← Option.not_isSome_iff_eq_none, opO_some, ← hbb.out]; simp)
              go_wp2_with fail
              refine bodyPost_ret (v := .tuple #[Ch.val ⟨0, 0, 0, 0, 0, 0⟩, .bool false]) (by simp [results, Tryd.results23, go_sem, Ch.val, k0, k1, k2, k3, k4, k5]) rfl ⟨⟨_, by rw [hl3.out]; rfl, fun r hr => by rw [hl3.out] at hr; cases hr⟩, hend.out _ hb2 _ _ _ _ _ _⟩
            | true =>
              obtain ⟨hrl, zs, hzs, hzl⟩ := num_got hbb.out rfl
              have hrz := hvs.out zs hrl hzs
              obtain ⟨c, x, rfl⟩ : ∃ c x, zs = [c, x] := by
                match zs, hzl with
                | [c, x], _ => exact ⟨c, x, rfl⟩
              have hl3 : Hid (lineO l = some (opV 4 c x 0)) := Lib.hid (by rw [hl2.out]; unfold opO; rw [if_pos hrl, hzs]; rfl)
              have hop := Lib.hid (op_any 4 (by decide) _ c x [] 0 (by simp) w2 hrz)
              clear hzs hrl hzl hrz hvs hbb
              go_wp2_with (go_at_call 39; refine hop.out.mono ?_; rintro r w3 ⟨rfl, hb3⟩; have hb4 := hb2.trans (hb3.mono hb2.size); have bx3 := hQ.out w3 hb4; have j0 : w3.cell? ⟨H, 0, .none⟩ = some (.int .i64 0) := rowCells bx3 0; have j1 : w3.cell? ⟨H, 1, .none⟩ = some (.int .i64 0) := rowCells bx3 1; have j2 : w3.cell? ⟨H, 2, .none⟩ = some (.int .i64 0) := rowCells bx3 2; have j3 : w3.cell? ⟨H, 3, .none⟩ = some (.int .i64 0) := rowCells bx3 3; have j4 : w3.cell? ⟨H, 4, .none⟩ = some (.int .i64 0) := rowCells bx3 4; have j5 : w3.cell? ⟨H, 5, .none⟩ = some (.float .f64 0) := rowCells bx3 5; have jf := rowFree bx3; unfold Ch.val opV)
              refine bodyPost_ret (v := .tuple #[(opV 4 c x 0).val, .bool true]) (by simp [results, Tryd.results23, go_sem, Ch.val, opV, j0, j1, j2, j3, j4, j5]) rfl ⟨⟨_, by rw [hl3.out]; rfl, fun r hr => by rw [hl3.out] at hr; injection hr⟩, hend.out _ hb4 _ _ _ _ _ _⟩
          · skip
            by_cases hw5 : w0 = [115, 116, 101, 112]
            · have hw := hw5
              have hl2 : lineO l = oneO 3 r0 := by rw [hl]; unfold wordsO; rw [hw]; rfl
              have e0 : (w0 == [115, 116, 97, 114, 116]) = false := by rw [hw]; rfl
              have e1 : (w0 == [109, 97, 108, 108, 111, 99]) = false := by rw [hw]; rfl
              have e2 : (w0 == [102, 114, 101, 101]) = false := by rw [hw]; rfl
              have e3 : (w0 == [114, 101, 97, 108, 108, 111, 99]) = false := by rw [hw]; rfl
              have e4 : (w0 == [97, 100, 111, 112, 116]) = false := by rw [hw]; rfl
              have e5 : (w0 == [115, 116, 101, 112]) = true := by rw [hw]; rfl
              have e6 : (w0 == [107, 105, 108, 108]) = false := by rw [hw]; rfl
              have hw9 := Lib.hid hw
              clear hl hw hw0 hw1 hw2 hw3 hw4 hw5
              replace hl2 := Lib.hid hl2
              go_upto_region 19 with (go_at_call 37; refine (hnm.out 1 (by decide)).mono ?_; rintro r w2 ⟨⟨v', bb, rfl, hbb, hvs⟩, hb2⟩; replace hbb := Lib.hid hbb; replace hvs := Lib.hid hvs)
              have bx2 := hQ.out w2 hb2
              have k0 : w2.cell? ⟨H, 0, .none⟩ = some (.int .i64 0) := rowCells bx2 0
              have k1 : w2.cell? ⟨H, 1, .none⟩ = some (.int .i64 0) := rowCells bx2 1
              have k2 : w2.cell? ⟨H, 2, .none⟩ = some (.int .i64 0) := rowCells bx2 2
              have k3 : w2.cell? ⟨H, 3, .none⟩ = some (.int .i64 0) := rowCells bx2 3
              have k4 : w2.cell? ⟨H, 4, .none⟩ = some (.int .i64 0) := rowCells bx2 4
              have k5 : w2.cell? ⟨H, 5, .none⟩ = some (.float .f64 0) := rowCells bx2 5
              have kf := rowFree bx2
              have kx := (hb2.cell (p := ⟨b, 0, .none⟩) lb).trans hx0
              clear q0 q1 q2 q3 q4 q5 qf hx0
              cases bb with
              | false =>
                have hl3 : Hid (lineO l = none) := Lib.hid (by rw [hl2.out, ← Option.not_isSome_iff_eq_none, oneO_some, ← hbb.out]; simp)
                go_wp2_with fail
                refine bodyPost_ret (v := .tuple #[Ch.val ⟨0, 0, 0, 0, 0, 0⟩, .bool false]) (by simp [results, Tryd.results23, go_sem, Ch.val, k0, k1, k2, k3, k4, k5]) rfl ⟨⟨_, by rw [hl3.out]; rfl, fun r hr => by rw [hl3.out] at hr; cases hr⟩, hend.out _ hb2 _ _ _ _ _ _⟩
              | true =>
                obtain ⟨hrl, zs, hzs, hzl⟩ := num_got hbb.out rfl
                have hrz := hvs.out zs hrl hzs
                obtain ⟨c, rfl⟩ : ∃ c, zs = [c] := by
                  match zs, hzl with
                  | [c], _ => exact ⟨c, rfl⟩
                have hl3 : Hid (lineO l = some ⟨3, c, 0, 0, 0, 0⟩) := Lib.hid (by rw [hl2.out]; unfold oneO; rw [if_pos hrl, hzs]; rfl)
                obtain ⟨ao, cap, rfl, hcap, hcap2, hcc1⟩ := hrz.cells
                obtain ⟨d, off, rfl, hd, hcc⟩ := hcc1 (by simp)
                have z0 : w2.cell? ⟨d, off, .none⟩ = some (.int .i64 c) := hcc 0 (by simp)
                clear hcc hcc1 hcap hzs hrl hzl hrz hvs hbb
                go_wp2_with fail
                refine bodyPost_ret (v := .tuple #[Ch.val ⟨3, c, 0, 0, 0, 0⟩, .bool true]) (by simp [results, Tryd.results23, go_sem, Ch.val, k0, k1, k2, k3, k4, k5]) rfl ⟨⟨_, by rw [hl3.out]; rfl, fun r hr => by rw [hl3.out] at hr; injection hr⟩, hend.out _ hb2 _ _ _ _ _ _⟩
            · skip
              by_cases hw6 : w0 = [107, 105, 108, 108]
              · have hw := hw6
                have hl2 : lineO l = oneO 4 r0 := by rw [hl]; unfold wordsO; rw [hw]; rfl
                have e0 : (w0 == [115, 116, 97, 114, 116]) = false := by rw [hw]; rfl
                have e1 : (w0 == [109, 97, 108, 108, 111, 99]) = false := by rw [hw]; rfl
                have e2 : (w0 == [102, 114, 101, 101]) = false := by rw [hw]; rfl
                have e3 : (w0 == [114, 101, 97, 108, 108, 111, 99]) = false := by rw [hw]; rfl
                have e4 : (w0 == [97, 100, 111, 112, 116]) = false := by rw [hw]; rfl
                have e5 : (w0 == [115, 116, 101, 112]) = false := by rw [hw]; rfl
                have e6 : (w0 == [107, 105, 108, 108]) = true := by rw [hw]; rfl
                have hw9 := Lib.hid hw
                clear hl hw hw0 hw1 hw2 hw3 hw4 hw5 hw6
                replace hl2 := Lib.hid hl2
                go_upto_region 19 with (go_at_call 37; refine (hnm.out 1 (by decide)).mono ?_; rintro r w2 ⟨⟨v', bb, rfl, hbb, hvs⟩, hb2⟩; replace hbb := Lib.hid hbb; replace hvs := Lib.hid hvs)
                have bx2 := hQ.out w2 hb2
                have k0 : w2.cell? ⟨H, 0, .none⟩ = some (.int .i64 0) := rowCells bx2 0
                have k1 : w2.cell? ⟨H, 1, .none⟩ = some (.int .i64 0) := rowCells bx2 1
                have k2 : w2.cell? ⟨H, 2, .none⟩ = some (.int .i64 0) := rowCells bx2 2
                have k3 : w2.cell? ⟨H, 3, .none⟩ = some (.int .i64 0) := rowCells bx2 3
                have k4 : w2.cell? ⟨H, 4, .none⟩ = some (.int .i64 0) := rowCells bx2 4
                have k5 : w2.cell? ⟨H, 5, .none⟩ = some (.float .f64 0) := rowCells bx2 5
                have kf := rowFree bx2
                have kx := (hb2.cell (p := ⟨b, 0, .none⟩) lb).trans hx0
                clear q0 q1 q2 q3 q4 q5 qf hx0
                cases bb with
                | false =>
                  have hl3 : Hid (lineO l = none) := Lib.hid (by rw [hl2.out, ← Option.not_isSome_iff_eq_none, oneO_some, ← hbb.out]; simp)
                  go_wp2_with fail
                  refine bodyPost_ret (v := .tuple #[Ch.val ⟨0, 0, 0, 0, 0, 0⟩, .bool false]) (by simp [results, Tryd.results23, go_sem, Ch.val, k0, k1, k2, k3, k4, k5]) rfl ⟨⟨_, by rw [hl3.out]; rfl, fun r hr => by rw [hl3.out] at hr; cases hr⟩, hend.out _ hb2 _ _ _ _ _ _⟩
                | true =>
                  obtain ⟨hrl, zs, hzs, hzl⟩ := num_got hbb.out rfl
                  have hrz := hvs.out zs hrl hzs
                  obtain ⟨c, rfl⟩ : ∃ c, zs = [c] := by
                    match zs, hzl with
                    | [c], _ => exact ⟨c, rfl⟩
                  have hl3 : Hid (lineO l = some ⟨4, c, 0, 0, 0, 0⟩) := Lib.hid (by rw [hl2.out]; unfold oneO; rw [if_pos hrl, hzs]; rfl)
                  obtain ⟨ao, cap, rfl, hcap, hcap2, hcc1⟩ := hrz.cells
                  obtain ⟨d, off, rfl, hd, hcc⟩ := hcc1 (by simp)
                  have z0 : w2.cell? ⟨d, off, .none⟩ = some (.int .i64 c) := hcc 0 (by simp)
                  clear hcc hcc1 hcap hzs hrl hzl hrz hvs hbb
                  go_wp2_with fail
                  refine bodyPost_ret (v := .tuple #[Ch.val ⟨4, c, 0, 0, 0, 0⟩, .bool true]) (by simp [results, Tryd.results23, go_sem, Ch.val, k0, k1, k2, k3, k4, k5]) rfl ⟨⟨_, by rw [hl3.out]; rfl, fun r hr => by rw [hl3.out] at hr; injection hr⟩, hend.out _ hb2 _ _ _ _ _ _⟩
              · skip
                have hl3 : Hid (lineO l = none) := Lib.hid (by rw [hl]; unfold wordsO; rw [if_neg hw0, if_neg hw1, if_neg hw2, if_neg hw3, if_neg hw4, if_neg hw5, if_neg hw6])
                have e0 : (w0 == [115, 116, 97, 114, 116]) = false := by simpa using hw0
                have e1 : (w0 == [109, 97, 108, 108, 111, 99]) = false := by simpa using hw1
                have e2 : (w0 == [102, 114, 101, 101]) = false := by simpa using hw2
                have e3 : (w0 == [114, 101, 97, 108, 108, 111, 99]) = false := by simpa using hw3
                have e4 : (w0 == [97, 100, 111, 112, 116]) = false := by simpa using hw4
                have e5 : (w0 == [115, 116, 101, 112]) = false := by simpa using hw5
                have e6 : (w0 == [107, 105, 108, 108]) = false := by simpa using hw6
                clear hl hw0 hw1 hw2 hw3 hw4 hw5 hw6
                go_wp2_with fail
                refine bodyPost_ret (v := .tuple #[Ch.val ⟨0, 0, 0, 0, 0, 0⟩, .bool false]) (by simp [results, Tryd.results23, go_sem, Ch.val, q0, q1, q2, q3, q4, q5]) rfl ⟨⟨_, by rw [hl3.out]; rfl, fun r hr => by rw [hl3.out] at hr; cases hr⟩, hend.out _ (Below.refl _ _) _ _ _ _ _ _⟩
end Go.Proofs.YtkeiehgojclecaaDoor
