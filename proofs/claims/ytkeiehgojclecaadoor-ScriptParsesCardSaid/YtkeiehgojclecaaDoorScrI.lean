/- A text, read: the walk of package script's Parse. -/
import Derived.Test.YtkeiehgojclecaaDoorScrH

namespace Go.Proofs.YtkeiehgojclecaaDoor

open Go.RowKit

attribute [local go_sem ↓] Go.wp_at_zero Go.wp_at_succ

attribute [local go_sem] run_store_float

abbrev Shp := Int × Int × Int
/-- What stands behind line i. -/
def goO : Nat → Shp → List Ch → List (List UInt8) → Shp × List Ch × Int × Int
  | _, s, xs, [] => (s, xs, 0, 0)
  | i, s, xs, [p] => if i = 0 ∨ p ≠ [] then ((0, 0, 0), [], (i : Int) + 1, 7) else (s, xs, 0, 0)
  | i, s, xs, p :: q :: r => if i = 0 then (match heapO p with | some s' => goO (i + 1) s' xs (q :: r) | none => ((0, 0, 0), [], (i : Int) + 1, 7))
      else match lineO p with | some c => goO (i + 1) s (xs ++ [c]) (q :: r) | none => ((0, 0, 0), [], (i : Int) + 1, 7)
/-- How many lines. -/
def manyO (ps : List (List UInt8)) : Nat := if ps.getLast? = some [] then ps.length - 1 else ps.length
/-- A text. -/
def parseO (l : List UInt8) : Shp × List Ch × Int × Int :=
  if 65536 < l.length ∨ 4000 < manyO (spl 10 l) then ((0, 0, 0), [], 0, 6) else goO 0 (0, 0, 0) [] (spl 10 l)
/-- What Parse gives, in memory. -/
def Parsed (w : World) (e : Ending) (w' : World) (r : Shp × List Ch × Int × Int) : Prop :=
  (∃ v, e = .returned (.tuple #[.agg #[.int .i64 r.1.1, .int .i64 r.1.2.1, .int .i64 r.1.2.2], v, .int .i64 r.2.2.1, .int .i64 r.2.2.2]) ∧ RdC w' v r.2.1) ∧ Below w.heap.size w w'
theorem cell_blk {w w' : World} {b o : Nat} (h : w'.heap[b]? = w.heap[b]?) : w'.cell? ⟨b, o, .none⟩ = w.cell? ⟨b, o, .none⟩ := by simp [World.cell?, h]
theorem goO_step (i : Nat) (s : Shp) (xs : List Ch) (ps : List (List UInt8)) (h : i + 1 < ps.length) : goO i s xs (ps.drop i) = if i = 0 then (match heapO (ps[i]'(by omega)) with | some s' => goO (i + 1) s' xs (ps.drop (i + 1)) | none => ((0, 0, 0), [], (i : Int) + 1, 7))
      else match lineO (ps[i]'(by omega)) with | some c => goO (i + 1) s (xs ++ [c]) (ps.drop (i + 1)) | none => ((0, 0, 0), [], (i : Int) + 1, 7) := by
  rw [List.drop_eq_getElem_cons (by omega : i < ps.length), List.drop_eq_getElem_cons h]
  rfl
theorem goO_end (i : Nat) (s : Shp) (xs : List Ch) (ps : List (List UInt8)) (h : ps.length = i + 1) : goO i s xs (ps.drop i) = if i = 0 ∨ ps[i]'(by omega) ≠ [] then ((0, 0, 0), [], (i : Int) + 1, 7) else (s, xs, 0, 0) := by
  rw [List.drop_eq_getElem_cons (by omega : i < ps.length), List.drop_eq_nil_of_le (by omega)]
  rfl
theorem sh_set {w : World} {G : Nat} {a b c : Int} (h : w.heap[G]? = some (.cells #[.int .i64 a, .int .i64 b, .int .i64 c] 26 (0, 0))) (x y z : Int) :
    (((w.setCell ⟨G, 0, .none⟩ (.int .i64 x)).setCell ⟨G, 1, .none⟩ (.int .i64 y)).setCell ⟨G, 2, .none⟩ (.int .i64 z)).heap[G]? = some (.cells #[.int .i64 x, .int .i64 y, .int .i64 z] 26 (0, 0)) := by
  rw [heap_setCell_same _ G 2 _ _ _ (heap_setCell_same _ G 1 _ _ _ (heap_setCell_same _ G 0 _ _ _ h))]; rfl
theorem ch_set {w : World} {G : Nat} (h : w.heap[G]? = some (.cells #[.int .i64 0, .int .i64 0, .int .i64 0, .int .i64 0, .int .i64 0, .float .f64 0] 46 (0, 0))) (c : Ch) :
    ((((((w.setCell ⟨G, 0, .none⟩ (.int .i64 c.kind)).setCell ⟨G, 1, .none⟩ (.int .i64 c.client)).setCell ⟨G, 2, .none⟩ (.int .i64 c.ok)).setCell ⟨G, 3, .none⟩ (.int .i64 c.oa)).setCell ⟨G, 4, .none⟩ (.int .i64 c.on)).setCell ⟨G, 5, .none⟩ (.float .f64 c.bias)).heap[G]? = some (.cells #[.int .i64 c.kind, .int .i64 c.client, .int .i64 c.ok, .int .i64 c.oa, .int .i64 c.on, .float .f64 c.bias] 46 (0, 0)) := by
  rw [heap_setCell_same _ G 5 _ _ _ (heap_setCell_same _ G 4 _ _ _ (heap_setCell_same _ G 3 _ _ _ (heap_setCell_same _ G 2 _ _ _ (heap_setCell_same _ G 1 _ _ _ (heap_setCell_same _ G 0 _ _ _ h)))))]; rfl
set_option maxRecDepth 100000 in
set_option maxHeartbeats 2000000 in
theorem parse_any (l : List UInt8) (hl : l.length < 1000000) (w : World) (h : Laid w) :
    Calls Tryd.prog 11 #[.string (S l)] w fun e w' => Parsed w e w' (parseO l) := by
  have hb0 := (Below.refl w.heap.size w).alloc (Nat.le_refl _) (.cells #[.int .i64 0, .int .i64 0, .int .i64 0] 26)
  have bx := heap_alloc_new w (.cells #[.int .i64 0, .int .i64 0, .int .i64 0] 26)
  have hho : parseO l = if 65536 < l.length ∨ 4000 < manyO (spl 10 l) then ((0, 0, 0), [], 0, 6) else goO 0 (0, 0, 0) [] (spl 10 l) := rfl
  have hpl := spl_length 10 l
  have hne := spl_ne 10 l
  have hcnt := spl_count 10 l
  have hsz : (S l).size = l.length := S_size l
  go_enter Tryd.func11, Tryd.ntmps11
  go_upto_region 1 with fail
  generalize w.alloc (.cells #[.int .i64 0, .int .i64 0, .int .i64 0] 26) = W at *
  have hL := h.below hb0
  obtain ⟨H, hH, hH'⟩ : ∃ H, Hid (H = w.heap.size) ∧ H = w.heap.size := ⟨_, Lib.hid rfl, rfl⟩
  rw [← hH'] at bx ⊢
  clear hH'
  have l0 : H < W.heap.size := (Array.getElem?_eq_some_iff.1 bx).1
  have hsp := Lib.hid (split_any l 10 (by omega) W hL)
  generalize spl 10 l = ps at *
  obtain ⟨k, hk, hk'⟩ : ∃ k, Hid (ps.length = k + 1) ∧ ps.length = k + 1 := by
    match ps, hne with
    | p :: ps, _ => exact ⟨ps.length, Lib.hid rfl, rfl⟩
  clear hne
  obtain ⟨m, hm, hm'⟩ : ∃ m, Hid (m = k + 1) ∧ m = k + 1 := ⟨_, Lib.hid rfl, rfl⟩
  rw [hk'.trans hm'.symm] at hsp hcnt
  have wm : IntKind.i64.wrap ((m : Int) - 1) = (k : Int) := by rw [hm']; rw [IntWalk.i64_in _ ⟨by omega, by omega⟩]; omega
  have wk : IntKind.i64.wrap ((k : Int) + 1) = (k : Int) + 1 := IntWalk.i64_in _ ⟨by omega, by omega⟩
  have k0 : (0 : Int) ≤ (k : Int) := by omega
  have km : (k : Int) < (m : Int) := by omega
  have kt : ((k : Int)).toNat = k := by omega
  have kl : k < ps.length := by omega
  obtain ⟨z, hz, hz'⟩ : ∃ z, Hid (z = ps[k]) ∧ z = ps[k] := ⟨_, Lib.hid rfl, rfl⟩
  have hmn : Hid (manyO ps = if z = [] then k else k + 1) := Lib.hid (by
    unfold manyO
    rw [List.getLast?_eq_getElem?, hk']
    rw [show k + 1 - 1 = k by omega, List.getElem?_eq_getElem kl, ← hz']
    simp)
  clear hm' hk' hz'
  replace hho := Lib.hid hho
  replace kl := Lib.hid kl
  go_upto_region 2 with (go_at_call 21; refine hsp.out.mono ?_; rintro r w1 ⟨⟨b, rfl, hrd⟩, hb1⟩)
  have hx0 : ∀ i (hi : i < ps.length), w1.cell? ⟨b, i, .none⟩ = some (.string (S ps[i])) := by
    obtain ⟨ao, cap, e, _, _, hc⟩ := (show RdT w1 _ ps from hrd).cells
    injection e with e _ _
    subst e
    obtain ⟨b', off, e, _, hc⟩ := hc (fun e => by have := kl.out; rw [e] at this; simp at this)
    injection e with e
    injection e with e1 e2
    subst e1 e2
    intro i hi
    have := hc i hi
    rwa [Nat.zero_add] at this
  have hz0 : w1.cell? ⟨b, k, .none⟩ = some (.string (S z)) := hz.out ▸ hx0 k kl.out
  have hL1 := hL.below hb1
  have hbw := hb0.trans (hb1.mono hb0.size)
  have bx1 : w1.heap[H]? = some (.cells #[.int .i64 0, .int .i64 0, .int .i64 0] 26 (0, 0)) := (hb1.block H l0).trans bx
  have lb := cell_lt hz0
  have lh := (Array.getElem?_eq_some_iff.1 bx1).1
  replace hx0 := Lib.hid hx0
  clear hrd hsp bx hb1 hb0 hL
  obtain ⟨M, hM, hM'⟩ : ∃ M, Hid (M = manyO ps) ∧ M = manyO ps := ⟨_, Lib.hid rfl, rfl⟩
  rw [hmn.out] at hM'
  go_upto_if 25 with fail
  go_cut [8] (fun s wx => s = .int .i64 M ∧ wx = w1)
  case first =>
    by_cases hz1 : z = []
    · have e1 : z.isEmpty = true := by rw [hz1]; rfl
      have e1b : (z == []) = true := by rw [hz1]; rfl
      have e1c : (z != []) = false := by rw [hz1]; rfl
      rw [if_pos hz1] at hM'
      have e2 := Lib.hid (congrArg (fun n : Nat => Value.int .i64 n) hM')
      clear hz1 hM'
      go_wp2_with fail
      all_goals go_meet
      all_goals (first | (rename_i hq; rw [e1] at hq; cases hq; done) | exact ⟨e2.out.symm, rfl⟩)
    · have e1 : z.isEmpty = false := by cases z with | nil => exact absurd rfl hz1 | cons _ _ => rfl
      have e1b : (z == []) = false := by cases z with | nil => exact absurd rfl hz1 | cons _ _ => rfl
      have e1c : (z != []) = true := by cases z with | nil => exact absurd rfl hz1 | cons _ _ => rfl
      rw [if_neg hz1] at hM'
      have e2 := Lib.hid (congrArg (fun n : Nat => Value.int .i64 n) hM')
      clear hz1 hM'
      go_wp2_with fail
      all_goals go_meet
      all_goals (first | (rename_i hq; rw [e1] at hq; cases hq; done) | exact ⟨by rw [e2.out]; simp, rfl⟩)
  case rest =>
    obtain ⟨rfl, hw⟩ := hcut
    obtain rfl := hw.symm
    have q0 : w1.cell? ⟨H, 0, .none⟩ = some (.int .i64 0) := rowCells bx1 0
    have q1 : w1.cell? ⟨H, 1, .none⟩ = some (.int .i64 0) := rowCells bx1 1
    have q2 : w1.cell? ⟨H, 2, .none⟩ = some (.int .i64 0) := rowCells bx1 2
    have qf := rowFree bx1
    have hl' := hl
    have hend : Hid (∀ X, Below w.heap.size w X → ∀ u0 u1 u2, Below w.heap.size w (((X.setCell ⟨H, 0, .none⟩ u0).setCell ⟨H, 1, .none⟩ u1).setCell ⟨H, 2, .none⟩ u2)) := by
      refine Lib.hid fun X hB2 _ _ _ => ?_
      have hH' := hH.out
      exact ((hB2.setCell (Nat.le_of_eq hH'.symm) _).setCell (Nat.le_of_eq hH'.symm) _).setCell (Nat.le_of_eq hH'.symm) _
    clear hM'
    by_cases hlong : 65536 < l.length ∨ 4000 < M
    · have hp6 : Hid (parseO l = ((0, 0, 0), [], 0, 6)) := Lib.hid (by rw [hho.out, ← hM.out, if_pos hlong])
      by_cases h65 : 65536 < l.length
      · have e65 : (65536 : Int) < (l.length : Int) := by omega
        replace hlong := Lib.hid hlong
        replace h65 := Lib.hid h65
        go_wp2_with fail
        refine bodyPost_ret (v := .tuple #[.agg #[.int .i64 0, .int .i64 0, .int .i64 0], .slice none 0 0, .int .i64 0, .int .i64 6]) (by simp [results, Tryd.results11, go_sem, q0, q1, q2]) rfl ⟨⟨.slice none 0 0, by rw [hp6.out], by rw [hp6.out]; exact (OwnC.nil 0 0 _).rd⟩, hend.out _ hbw _ _ _⟩
      · have e65 : ¬ (65536 : Int) < (l.length : Int) := by omega
        have e4 : (4000 : Int) < (M : Int) := by omega
        replace hlong := Lib.hid hlong
        replace h65 := Lib.hid h65
        go_wp2_with fail
        refine bodyPost_ret (v := .tuple #[.agg #[.int .i64 0, .int .i64 0, .int .i64 0], .slice none 0 0, .int .i64 0, .int .i64 6]) (by simp [results, Tryd.results11, go_sem, q0, q1, q2]) rfl ⟨⟨.slice none 0 0, by rw [hp6.out], by rw [hp6.out]; exact (OwnC.nil 0 0 _).rd⟩, hend.out _ hbw _ _ _⟩
    · have e65 : ¬ (65536 : Int) < (l.length : Int) := by omega
      have e4 : ¬ (4000 : Int) < (M : Int) := by omega
      replace hlong := Lib.hid hlong
      have hp6 : Hid (parseO l = goO 0 (0, 0, 0) [] ps) := Lib.hid (by rw [hho.out, ← hM.out, if_neg hlong.out])
      have hM4 : Hid (k ≤ 4000) := Lib.hid (by have := hM.out; rw [hmn.out] at this; split at this <;> omega)
      go_upto_region 9 with fail
      clear hho hmn hlong e65 e4 q0 q1 q2 qf hM
      have bg := heap_alloc_new w1 (.cells #[.int .i64 0, .int .i64 0, .int .i64 0] 26)
      have hb9 := (Below.refl w1.heap.size w1).alloc (Nat.le_refl _) (.cells #[.int .i64 0, .int .i64 0, .int .i64 0] 26)
      have h9s : (w1.alloc (.cells #[.int .i64 0, .int .i64 0, .int .i64 0] 26)).heap.size = w1.heap.size + 1 := by simp
      generalize w1.alloc (.cells #[.int .i64 0, .int .i64 0, .int .i64 0] 26) = Z at *
      obtain ⟨G, hG, hG'⟩ : ∃ G, Hid (G = w1.heap.size) ∧ G = w1.heap.size := ⟨_, Lib.hid rfl, rfl⟩
      rw [← hG'] at bg ⊢
      have hG1 : w1.heap.size ≤ G := Nat.le_of_eq hG'.symm
      have lg : G < Z.heap.size := by omega
      have hx9 : Hid (∀ i (hi : i < ps.length), Z.cell? ⟨b, i, .none⟩ = some (.string (S ps[i]))) := Lib.hid fun i hi => (hb9.cell (p := ⟨b, i, .none⟩) lb).trans (hx0.out i hi)
      have hZ0 : Below w.heap.size w Z := hbw.trans (hb9.mono hbw.size)
      have lb9 : b < Z.heap.size := by omega
      have lh9 : H < Z.heap.size := by omega
      have hbG : b ≠ G := by omega
      have hHG : H ≠ G := by omega
      have bx9 : Z.heap[H]? = some (.cells #[.int .i64 0, .int .i64 0, .int .i64 0] 26 (0, 0)) := (hb9.block H lh).trans bx1
      have hOB : Hid (∀ X, Only (fun k => k = G) Z X → Below w.heap.size w X) := Lib.hid fun X hX => hZ0.trans (hX.below hZ0.size fun k e => by rw [e]; exact Nat.le_trans hbw.size hG1)
      have hLX : Hid (∀ X, Only (fun k => k = G) Z X → Laid X) := Lib.hid fun X hX => h.below (hOB.out X hX)
      have hpx : Hid (∀ i (hi : i < ps.length), ps[i].length < 1000000) := Lib.hid fun i hi => Nat.lt_of_le_of_lt (hpl _ (List.getElem_mem hi)) hl
      replace hG' := Lib.hid hG'
      clear hpl hx0 hz0 bx1 lb lh hbw hL1 hb9 hl' h9s hG1 l0 h
      obtain ⟨i0, hi0, hzz0, hzz1, hzz2⟩ := info_parts infoCh
      go_wp2_with fail
      go_loopw [10, 40] (fun v10 v40 wr => ∃ (i : Nat) (xs : List Ch) (sa sb sc : Int), i ≤ k ∧ v40 = .int .i64 i ∧ xs.length ≤ i ∧ Only (fun k => k = G) Z wr ∧ wr.heap[G]? = some (.cells #[.int .i64 sa, .int .i64 sb, .int .i64 sc] 26 (0, 0)) ∧ OwnC 46 Z.heap.size wr v10 xs ∧ parseO l = goO i (sa, sb, sc) xs (ps.drop i)) (fun _ v40 _ => k - (intOf v40).toNat)
      case atStart => exact ⟨0, [], 0, 0, 0, Nat.zero_le _, rfl, Nat.le_refl _, Only.refl _ _, bg, OwnC.nil _ _ _, by rw [hp6.out]; rfl⟩
      case round =>
        obtain ⟨i, xs, sa, sb, sc, hi, rfl, hxi, hon, hg, hown, hgo⟩ := hrel
        obtain ⟨Y, rfl⟩ : ∃ V : World, V = wr := ⟨_, rfl⟩
        replace hgo := Lib.hid hgo
        have bh := (hon.block H lh9 hHG).trans bx9
        have lgY := (Array.getElem?_eq_some_iff.1 hg).1
        have lhY := (Array.getElem?_eq_some_iff.1 bh).1
        have hYs := hon.size
        by_cases hlt : i < k
        · have hlt' : (i : Int) < (k : Int) := by omega
          have hi0' : (0 : Int) ≤ (i : Int) := by omega
          have wi1 : IntKind.i64.wrap ((i : Int) + 1) = (i : Int) + 1 := IntWalk.i64_in _ ⟨by omega, by omega⟩
          have hil : i < ps.length := by have := hk.out; omega
          have x0 : Y.cell? ⟨b, i, .none⟩ = some (.string (S ps[i])) := (cell_blk (hon.block b lb9 hbG)).trans (hx9.out i hil)
          have hstep := (hgo.out).trans (goO_step i (sa, sb, sc) xs ps (by have := hk.out; omega))
          have hlen := hpx.out i hil
          replace hk := Lib.hid hk.out
          replace hil := Lib.hid hil
          generalize ps[i]'hil.out = t at *
          have hbY := (Below.refl Y.heap.size Y).alloc (Nat.le_refl _) (.cells #[.int .i64 0, .int .i64 0, .int .i64 0, .int .i64 0, .int .i64 0, .float .f64 0] 46)
          have bd := heap_alloc_new Y (.cells #[.int .i64 0, .int .i64 0, .int .i64 0, .int .i64 0, .int .i64 0, .float .f64 0] 46)
          by_cases hzi : i = 0
          · rw [if_pos hzi] at hstep
            have ei : ((i : Int) == 0) = true := by simp [hzi]
            replace hzi := Lib.hid hzi
            replace hstep := Lib.hid hstep
            clear hgo bd
            go_upto_region 16 with fail
            have hon1 := hon.alloc (.cells #[.int .i64 0, .int .i64 0, .int .i64 0, .int .i64 0, .int .i64 0, .float .f64 0] 46)
            generalize Y.alloc (.cells #[.int .i64 0, .int .i64 0, .int .i64 0, .int .i64 0, .int .i64 0, .float .f64 0] 46) = Y1 at *
            have hg1 := (hbY.block G lgY).trans hg
            have bh1 := (hbY.block H lhY).trans bh
            have hown1 : OwnC 46 Z.heap.size Y1 u10 xs := hown.later hbY
            have hh := Lib.hid (heap_any t hlen Y1 (hLX.out Y1 hon1))
            have hs1 := hbY.size
            have lg1 : G < Y1.heap.size := by omega
            have lh1 : H < Y1.heap.size := by omega
            clear hbY hg bh hown x0 hon
            cases hht : heapO t with
            | none =>
              rw [hht] at hstep hh
              clear hht hown1
              go_upto_region 20 with (go_at_call 22; refine hh.out.mono ?_; rintro r w2 ⟨⟨a1, b1, d1, rfl, hr2⟩, hb2⟩; replace hr2 := Lib.hid hr2; have hg2 := (hb2.block G lg1).trans hg1; have j0 : w2.cell? ⟨G, 0, .none⟩ = some (.int .i64 sa) := rowCells hg2 0; have j1 : w2.cell? ⟨G, 1, .none⟩ = some (.int .i64 sb) := rowCells hg2 1; have j2 : w2.cell? ⟨G, 2, .none⟩ = some (.int .i64 sc) := rowCells hg2 2; have jf := rowFree hg2)
              have hon2 : Only (fun k => k = G) Z (((w2.setCell ⟨G, 0, .none⟩ (.int .i64 a1)).setCell ⟨G, 1, .none⟩ (.int .i64 b1)).setCell ⟨G, 2, .none⟩ (.int .i64 d1)) := (((hon1.trans (Only.of_below (F := fun k => k = G) hb2) (fun i _ h => h)).setCell (.inl rfl) _).setCell (.inl rfl) _).setCell (.inl rfl) _
              have hgX := sh_set hg2 a1 b1 d1
              have bhX : (((w2.setCell ⟨G, 0, .none⟩ (.int .i64 a1)).setCell ⟨G, 1, .none⟩ (.int .i64 b1)).setCell ⟨G, 2, .none⟩ (.int .i64 d1)).heap[H]? = some (.cells #[.int .i64 0, .int .i64 0, .int .i64 0] 26 (0, 0)) := ((Below.heap_setCell _ ⟨G, 2, .none⟩ _ H hHG).trans ((Below.heap_setCell _ ⟨G, 1, .none⟩ _ H hHG).trans (Below.heap_setCell _ ⟨G, 0, .none⟩ _ H hHG))).trans ((hb2.block H lh1).trans bh1)
              clear j0 j1 j2 jf hg2 hb2 hg1 bh1 hr2
              generalize (((w2.setCell ⟨G, 0, .none⟩ (.int .i64 a1)).setCell ⟨G, 1, .none⟩ (.int .i64 b1)).setCell ⟨G, 2, .none⟩ (.int .i64 d1)) = X at *
              have q0 : X.cell? ⟨H, 0, .none⟩ = some (.int .i64 0) := rowCells bhX 0
              have q1 : X.cell? ⟨H, 1, .none⟩ = some (.int .i64 0) := rowCells bhX 1
              have q2 : X.cell? ⟨H, 2, .none⟩ = some (.int .i64 0) := rowCells bhX 2
              have qf := rowFree bhX
              go_wp2_with fail
              refine bodyPost_ret (v := .tuple #[.agg #[.int .i64 0, .int .i64 0, .int .i64 0], .slice none 0 0, .int .i64 (i + 1), .int .i64 7]) (by simp [results, Tryd.results11, go_sem, q0, q1, q2]) rfl ⟨⟨.slice none 0 0, by rw [hstep.out], by rw [hstep.out]; exact (OwnC.nil 0 0 _).rd⟩, hend.out _ (hOB.out X hon2) _ _ _⟩
            | some sh =>
              rw [hht] at hstep hh
              clear hht
              go_upto_region 20 with (go_at_call 22; refine hh.out.mono ?_; rintro r w2 ⟨⟨a1, b1, d1, rfl, hr2⟩, hb2⟩; replace hr2 := Lib.hid hr2; have hg2 := (hb2.block G lg1).trans hg1; have j0 : w2.cell? ⟨G, 0, .none⟩ = some (.int .i64 sa) := rowCells hg2 0; have j1 : w2.cell? ⟨G, 1, .none⟩ = some (.int .i64 sb) := rowCells hg2 1; have j2 : w2.cell? ⟨G, 2, .none⟩ = some (.int .i64 sc) := rowCells hg2 2; have jf := rowFree hg2)
              have hon2 : Only (fun k => k = G) Z (((w2.setCell ⟨G, 0, .none⟩ (.int .i64 a1)).setCell ⟨G, 1, .none⟩ (.int .i64 b1)).setCell ⟨G, 2, .none⟩ (.int .i64 d1)) := (((hon1.trans (Only.of_below (F := fun k => k = G) hb2) (fun i _ h => h)).setCell (.inl rfl) _).setCell (.inl rfl) _).setCell (.inl rfl) _
              have hgX := sh_set hg2 a1 b1 d1
              have bhX : (((w2.setCell ⟨G, 0, .none⟩ (.int .i64 a1)).setCell ⟨G, 1, .none⟩ (.int .i64 b1)).setCell ⟨G, 2, .none⟩ (.int .i64 d1)).heap[H]? = some (.cells #[.int .i64 0, .int .i64 0, .int .i64 0] 26 (0, 0)) := ((Below.heap_setCell _ ⟨G, 2, .none⟩ _ H hHG).trans ((Below.heap_setCell _ ⟨G, 1, .none⟩ _ H hHG).trans (Below.heap_setCell _ ⟨G, 0, .none⟩ _ H hHG))).trans ((hb2.block H lh1).trans bh1)
              have hownX : OwnC 46 Z.heap.size (((w2.setCell ⟨G, 0, .none⟩ (.int .i64 a1)).setCell ⟨G, 1, .none⟩ (.int .i64 b1)).setCell ⟨G, 2, .none⟩ (.int .i64 d1)) u10 xs := ownsRow_of_blocks hown1 fun k hk => by
                have hl := hown1.lt k hk
                have hkG : k ≠ G := fun e => by omega
                exact ((Below.heap_setCell _ ⟨G, 2, .none⟩ _ k hkG).trans ((Below.heap_setCell _ ⟨G, 1, .none⟩ _ k hkG).trans (Below.heap_setCell _ ⟨G, 0, .none⟩ _ k hkG))).trans (hb2.block k hl.2)
              have hr3 : (a1, b1, d1) = sh := hr2.out sh rfl
              have hgo2 : Hid (parseO l = goO (i + 1) (a1, b1, d1) xs (ps.drop (i + 1))) := Lib.hid (by rw [hr3]; exact hstep.out)
              clear j0 j1 j2 jf hg2 hb2 hg1 bh1 hr2 hr3 hstep hown1
              generalize (((w2.setCell ⟨G, 0, .none⟩ (.int .i64 a1)).setCell ⟨G, 1, .none⟩ (.int .i64 b1)).setCell ⟨G, 2, .none⟩ (.int .i64 d1)) = X at *
              go_wp2_with fail
              exact ⟨⟨i + 1, xs, a1, b1, d1, by omega, by go_num, by omega, hon2, hgX, hownX, hgo2.out⟩, by simp [intOf]; omega⟩
          · rw [if_neg hzi] at hstep
            have ei : ((i : Int) == 0) = false := by simp [hzi]
            replace hzi := Lib.hid hzi
            replace hstep := Lib.hid hstep
            clear hgo
            go_upto_region 17 with fail
            have hon1 := hon.alloc (.cells #[.int .i64 0, .int .i64 0, .int .i64 0, .int .i64 0, .int .i64 0, .float .f64 0] 46)
            generalize Y.alloc (.cells #[.int .i64 0, .int .i64 0, .int .i64 0, .int .i64 0, .int .i64 0, .float .f64 0] 46) = Y1 at *
            obtain ⟨D, hD, hD'⟩ : ∃ D, Hid (D = Y.heap.size) ∧ D = Y.heap.size := ⟨_, Lib.hid rfl, rfl⟩
            rw [← hD'] at bd ⊢
            have hg1 := (hbY.block G lgY).trans hg
            have bh1 := (hbY.block H lhY).trans bh
            have hown1 : OwnC 46 Z.heap.size Y1 u10 xs := hown.later hbY
            have hh : Hid (Calls Tryd.prog 23 #[.string (S t)] Y1 fun e w' => (∃ c : Ch, e = .returned (.tuple #[.agg #[.int .i64 c.kind, .int .i64 c.client, .int .i64 c.ok, .int .i64 c.oa, .int .i64 c.on, .float .f64 c.bias], .bool (lineO t).isSome]) ∧ ∀ r, lineO t = some r → c = r) ∧ Below Y1.heap.size Y1 w') := Lib.hid (line_any t hlen Y1 (hLX.out Y1 hon1))
            have hs1 := hbY.size
            have hGD : G ≠ D := by omega
            have hHD : H ≠ D := by omega
            have lg1 : G < Y1.heap.size := by omega
            have lh1 : H < Y1.heap.size := by omega
            have ld1 := (Array.getElem?_eq_some_iff.1 bd).1
            have hkD : Hid (∀ k, Value.ownBlock u10 = some k → k ≠ D ∧ k < Y1.heap.size) := Lib.hid fun k hk => by have := hown.lt k hk; omega
            have hZD : Z.heap.size ≤ D := by omega
            replace hD' := Lib.hid hD'
            clear hbY hg bh hown x0 hon
            cases hht : lineO t with
            | none =>
              rw [hht] at hstep hh
              clear hht hown1
              go_upto_region 18 with (go_at_call 23; refine hh.out.mono ?_; rintro r w2 ⟨⟨c, rfl, hr2⟩, hb2⟩; replace hr2 := Lib.hid hr2; have hd2 := (hb2.block D ld1).trans bd; have j0 : w2.cell? ⟨D, 0, .none⟩ = some (.int .i64 0) := rowCells hd2 0; have j1 : w2.cell? ⟨D, 1, .none⟩ = some (.int .i64 0) := rowCells hd2 1; have j2 : w2.cell? ⟨D, 2, .none⟩ = some (.int .i64 0) := rowCells hd2 2; have j3 : w2.cell? ⟨D, 3, .none⟩ = some (.int .i64 0) := rowCells hd2 3; have j4 : w2.cell? ⟨D, 4, .none⟩ = some (.int .i64 0) := rowCells hd2 4; have j5 : w2.cell? ⟨D, 5, .none⟩ = some (.float .f64 0) := rowCells hd2 5; have jf := rowFree hd2)
              have hon2 : Only (fun k => k = G) Z ((((((w2.setCell ⟨D, 0, .none⟩ (.int .i64 c.kind)).setCell ⟨D, 1, .none⟩ (.int .i64 c.client)).setCell ⟨D, 2, .none⟩ (.int .i64 c.ok)).setCell ⟨D, 3, .none⟩ (.int .i64 c.oa)).setCell ⟨D, 4, .none⟩ (.int .i64 c.on)).setCell ⟨D, 5, .none⟩ (.float .f64 c.bias)) := (((((((hon1.trans (Only.of_below (F := fun k => k = G) hb2) (fun i _ h => h)).setCell (.inr hZD) _).setCell (.inr hZD) _).setCell (.inr hZD) _).setCell (.inr hZD) _).setCell (.inr hZD) _).setCell (.inr hZD) _)
              have hdX := ch_set hd2 c
              have hgX : ((((((w2.setCell ⟨D, 0, .none⟩ (.int .i64 c.kind)).setCell ⟨D, 1, .none⟩ (.int .i64 c.client)).setCell ⟨D, 2, .none⟩ (.int .i64 c.ok)).setCell ⟨D, 3, .none⟩ (.int .i64 c.oa)).setCell ⟨D, 4, .none⟩ (.int .i64 c.on)).setCell ⟨D, 5, .none⟩ (.float .f64 c.bias)).heap[G]? = some (.cells #[.int .i64 sa, .int .i64 sb, .int .i64 sc] 26 (0, 0)) := ((Below.heap_setCell _ ⟨D, 5, .none⟩ _ G hGD).trans ((Below.heap_setCell _ ⟨D, 4, .none⟩ _ G hGD).trans ((Below.heap_setCell _ ⟨D, 3, .none⟩ _ G hGD).trans ((Below.heap_setCell _ ⟨D, 2, .none⟩ _ G hGD).trans ((Below.heap_setCell _ ⟨D, 1, .none⟩ _ G hGD).trans (Below.heap_setCell _ ⟨D, 0, .none⟩ _ G hGD)))))).trans ((hb2.block G lg1).trans hg1)
              have bhX : ((((((w2.setCell ⟨D, 0, .none⟩ (.int .i64 c.kind)).setCell ⟨D, 1, .none⟩ (.int .i64 c.client)).setCell ⟨D, 2, .none⟩ (.int .i64 c.ok)).setCell ⟨D, 3, .none⟩ (.int .i64 c.oa)).setCell ⟨D, 4, .none⟩ (.int .i64 c.on)).setCell ⟨D, 5, .none⟩ (.float .f64 c.bias)).heap[H]? = some (.cells #[.int .i64 0, .int .i64 0, .int .i64 0] 26 (0, 0)) := ((Below.heap_setCell _ ⟨D, 5, .none⟩ _ H hHD).trans ((Below.heap_setCell _ ⟨D, 4, .none⟩ _ H hHD).trans ((Below.heap_setCell _ ⟨D, 3, .none⟩ _ H hHD).trans ((Below.heap_setCell _ ⟨D, 2, .none⟩ _ H hHD).trans ((Below.heap_setCell _ ⟨D, 1, .none⟩ _ H hHD).trans (Below.heap_setCell _ ⟨D, 0, .none⟩ _ H hHD)))))).trans ((hb2.block H lh1).trans bh1)
              clear j0 j1 j2 j3 j4 j5 jf hd2 hb2 hg1 bh1 hr2 bd
              generalize (((((w2.setCell ⟨D, 0, .none⟩ (.int .i64 c.kind)).setCell ⟨D, 1, .none⟩ (.int .i64 c.client)).setCell ⟨D, 2, .none⟩ (.int .i64 c.ok)).setCell ⟨D, 3, .none⟩ (.int .i64 c.oa)).setCell ⟨D, 4, .none⟩ (.int .i64 c.on)).setCell ⟨D, 5, .none⟩ (.float .f64 c.bias) = X at *
              have q0 : X.cell? ⟨H, 0, .none⟩ = some (.int .i64 0) := rowCells bhX 0
              have q1 : X.cell? ⟨H, 1, .none⟩ = some (.int .i64 0) := rowCells bhX 1
              have q2 : X.cell? ⟨H, 2, .none⟩ = some (.int .i64 0) := rowCells bhX 2
              have qf := rowFree bhX
              go_wp2_with fail
              refine bodyPost_ret (v := .tuple #[.agg #[.int .i64 0, .int .i64 0, .int .i64 0], .slice none 0 0, .int .i64 (i + 1), .int .i64 7]) (by simp [results, Tryd.results11, go_sem, q0, q1, q2]) rfl ⟨⟨.slice none 0 0, by rw [hstep.out], by rw [hstep.out]; exact (OwnC.nil 0 0 _).rd⟩, hend.out _ (hOB.out X hon2) _ _ _⟩
            | some sh =>
              rw [hht] at hstep hh
              clear hht
              go_upto_region 18 with (go_at_call 23; refine hh.out.mono ?_; rintro r w2 ⟨⟨c, rfl, hr2⟩, hb2⟩; replace hr2 := Lib.hid hr2; have hd2 := (hb2.block D ld1).trans bd; have j0 : w2.cell? ⟨D, 0, .none⟩ = some (.int .i64 0) := rowCells hd2 0; have j1 : w2.cell? ⟨D, 1, .none⟩ = some (.int .i64 0) := rowCells hd2 1; have j2 : w2.cell? ⟨D, 2, .none⟩ = some (.int .i64 0) := rowCells hd2 2; have j3 : w2.cell? ⟨D, 3, .none⟩ = some (.int .i64 0) := rowCells hd2 3; have j4 : w2.cell? ⟨D, 4, .none⟩ = some (.int .i64 0) := rowCells hd2 4; have j5 : w2.cell? ⟨D, 5, .none⟩ = some (.float .f64 0) := rowCells hd2 5; have jf := rowFree hd2)
              have hon2 : Only (fun k => k = G) Z ((((((w2.setCell ⟨D, 0, .none⟩ (.int .i64 c.kind)).setCell ⟨D, 1, .none⟩ (.int .i64 c.client)).setCell ⟨D, 2, .none⟩ (.int .i64 c.ok)).setCell ⟨D, 3, .none⟩ (.int .i64 c.oa)).setCell ⟨D, 4, .none⟩ (.int .i64 c.on)).setCell ⟨D, 5, .none⟩ (.float .f64 c.bias)) := (((((((hon1.trans (Only.of_below (F := fun k => k = G) hb2) (fun i _ h => h)).setCell (.inr hZD) _).setCell (.inr hZD) _).setCell (.inr hZD) _).setCell (.inr hZD) _).setCell (.inr hZD) _).setCell (.inr hZD) _)
              have hdX := ch_set hd2 c
              have hgX : ((((((w2.setCell ⟨D, 0, .none⟩ (.int .i64 c.kind)).setCell ⟨D, 1, .none⟩ (.int .i64 c.client)).setCell ⟨D, 2, .none⟩ (.int .i64 c.ok)).setCell ⟨D, 3, .none⟩ (.int .i64 c.oa)).setCell ⟨D, 4, .none⟩ (.int .i64 c.on)).setCell ⟨D, 5, .none⟩ (.float .f64 c.bias)).heap[G]? = some (.cells #[.int .i64 sa, .int .i64 sb, .int .i64 sc] 26 (0, 0)) := ((Below.heap_setCell _ ⟨D, 5, .none⟩ _ G hGD).trans ((Below.heap_setCell _ ⟨D, 4, .none⟩ _ G hGD).trans ((Below.heap_setCell _ ⟨D, 3, .none⟩ _ G hGD).trans ((Below.heap_setCell _ ⟨D, 2, .none⟩ _ G hGD).trans ((Below.heap_setCell _ ⟨D, 1, .none⟩ _ G hGD).trans (Below.heap_setCell _ ⟨D, 0, .none⟩ _ G hGD)))))).trans ((hb2.block G lg1).trans hg1)
              have bhX : ((((((w2.setCell ⟨D, 0, .none⟩ (.int .i64 c.kind)).setCell ⟨D, 1, .none⟩ (.int .i64 c.client)).setCell ⟨D, 2, .none⟩ (.int .i64 c.ok)).setCell ⟨D, 3, .none⟩ (.int .i64 c.oa)).setCell ⟨D, 4, .none⟩ (.int .i64 c.on)).setCell ⟨D, 5, .none⟩ (.float .f64 c.bias)).heap[H]? = some (.cells #[.int .i64 0, .int .i64 0, .int .i64 0] 26 (0, 0)) := ((Below.heap_setCell _ ⟨D, 5, .none⟩ _ H hHD).trans ((Below.heap_setCell _ ⟨D, 4, .none⟩ _ H hHD).trans ((Below.heap_setCell _ ⟨D, 3, .none⟩ _ H hHD).trans ((Below.heap_setCell _ ⟨D, 2, .none⟩ _ H hHD).trans ((Below.heap_setCell _ ⟨D, 1, .none⟩ _ H hHD).trans (Below.heap_setCell _ ⟨D, 0, .none⟩ _ H hHD)))))).trans ((hb2.block H lh1).trans bh1)
              have hownX : OwnC 46 Z.heap.size ((((((w2.setCell ⟨D, 0, .none⟩ (.int .i64 c.kind)).setCell ⟨D, 1, .none⟩ (.int .i64 c.client)).setCell ⟨D, 2, .none⟩ (.int .i64 c.ok)).setCell ⟨D, 3, .none⟩ (.int .i64 c.oa)).setCell ⟨D, 4, .none⟩ (.int .i64 c.on)).setCell ⟨D, 5, .none⟩ (.float .f64 c.bias)) u10 xs := ownsRow_of_blocks hown1 fun k hk => by
                have hkd := hkD.out k hk
                exact ((Below.heap_setCell _ ⟨D, 5, .none⟩ _ k hkd.1).trans ((Below.heap_setCell _ ⟨D, 4, .none⟩ _ k hkd.1).trans ((Below.heap_setCell _ ⟨D, 3, .none⟩ _ k hkd.1).trans ((Below.heap_setCell _ ⟨D, 2, .none⟩ _ k hkd.1).trans ((Below.heap_setCell _ ⟨D, 1, .none⟩ _ k hkd.1).trans (Below.heap_setCell _ ⟨D, 0, .none⟩ _ k hkd.1)))))).trans (hb2.block k hkd.2)
              have hr3 : c = sh := hr2.out sh rfl
              have hgo2 : Hid (parseO l = goO (i + 1) (sa, sb, sc) (xs ++ [c]) (ps.drop (i + 1))) := Lib.hid (by rw [hr3]; exact hstep.out)
              clear j0 j1 j2 j3 j4 j5 jf hd2 hb2 hg1 bh1 hr2 hr3 hstep hown1 bd
              generalize (((((w2.setCell ⟨D, 0, .none⟩ (.int .i64 c.kind)).setCell ⟨D, 1, .none⟩ (.int .i64 c.client)).setCell ⟨D, 2, .none⟩ (.int .i64 c.ok)).setCell ⟨D, 3, .none⟩ (.int .i64 c.oa)).setCell ⟨D, 4, .none⟩ (.int .i64 c.on)).setCell ⟨D, 5, .none⟩ (.float .f64 c.bias) = X at *
              have p0 : X.cell? ⟨D, 0, .none⟩ = some (.int .i64 c.kind) := rowCells hdX 0
              have p1 : X.cell? ⟨D, 1, .none⟩ = some (.int .i64 c.client) := rowCells hdX 1
              have p2 : X.cell? ⟨D, 2, .none⟩ = some (.int .i64 c.ok) := rowCells hdX 2
              have p3 : X.cell? ⟨D, 3, .none⟩ = some (.int .i64 c.oa) := rowCells hdX 3
              have p4 : X.cell? ⟨D, 4, .none⟩ = some (.int .i64 c.on) := rowCells hdX 4
              have p5 : X.cell? ⟨D, 5, .none⟩ = some (.float .f64 c.bias) := rowCells hdX 5
              have hXs := hon2.size
              have hM5 := hM4.out
              have hfl : flatC xs ++ c.cells = flatC (xs ++ [c]) := by rw [flatC_append]; simp [flatC]
              replace hfl := Lib.hid hfl
              have lgX := (Array.getElem?_eq_some_iff.1 hgX).1
              have hownA : ∀ o, (X.alloc o).ownsRow Z.heap.size 46 6 u10 xs.length (flatC xs) := fun o => OwnC.later hownX ((Below.refl X.heap.size X).alloc (Nat.le_refl _) o)
              have hsA : ∀ o, Z.heap.size ≤ (X.alloc o).heap.size := fun o => by simp; omega
              go_wp2_with (refine wpList_append_rd rfl (.tmp 58) (.tmp 60) 30 rfl Z.heap.size 46 i0 zeroCh 6 48 Tryd.underlying30 hi0 hzz0 hzz1 hzz2 rfl (by omega) _ xs.length (flatC xs) rfl (hownA _) _ 1 c.cells rfl (RdS.new (cs := c.cells.toArray) (t := 46) (sz := 6) (n := 1) (heap_alloc_new X _) rfl (by omega)) (Ch.one _) (by simp only [maxLen]; omega) (by omega) (hsA _) ?_; intro v1 w3 hown2 hgrow2 hat2; have hon3 := (hon2.alloc (.cells c.cells.toArray 46)).grown hgrow2 (fun k hk => .inr ((hownA (.cells c.cells.toArray 46)).lt k hk).1); replace hat2 := Lib.hid hat2)
              have hnG : ¬ some G = Value.ownBlock u10 := fun e => by have := (hownX.lt G e.symm).1; omega
              have hg3 : w3.heap[G]? = some (.cells #[.int .i64 sa, .int .i64 sb, .int .i64 sc] 26 (0, 0)) := (hgrow2.block G (by simp; omega) hnG).trans ((Below.heap_alloc _ _ G lgX).trans hgX)
              have hown3 : OwnC 46 Z.heap.size w3 v1 (xs ++ [c]) := by
                show w3.ownsRow _ _ 6 _ (xs ++ [c]).length _
                rw [← hfl.out, List.length_append]
                exact hown2
              clear hgrow2 hat2 hownA hsA hown2 hnG
              go_wp2_with fail
              exact ⟨⟨i + 1, xs ++ [c], sa, sb, sc, by omega, by go_num, by simp; omega, hon3, hg3, hown3, hgo2.out⟩, by simp [intOf]; omega⟩
        · have hik : i = k := by omega
          subst hik
          have hstep := hgo.out.trans (goO_end i (sa, sb, sc) xs ps hk.out)
          rw [← hz.out] at hstep
          replace hstep := Lib.hid hstep
          have x0 : Y.cell? ⟨b, i, .none⟩ = some (.string (S z)) := hz.out ▸ (cell_blk (hon.block b lb9 hbG)).trans (hx9.out i kl.out)
          have q0 : Y.cell? ⟨H, 0, .none⟩ = some (.int .i64 0) := rowCells bh 0
          have q1 : Y.cell? ⟨H, 1, .none⟩ = some (.int .i64 0) := rowCells bh 1
          have q2 : Y.cell? ⟨H, 2, .none⟩ = some (.int .i64 0) := rowCells bh 2
          have qf := rowFree bh
          have g0 : Y.cell? ⟨G, 0, .none⟩ = some (.int .i64 sa) := rowCells hg 0
          have g1 : Y.cell? ⟨G, 1, .none⟩ = some (.int .i64 sb) := rowCells hg 1
          have g2 : Y.cell? ⟨G, 2, .none⟩ = some (.int .i64 sc) := rowCells hg 2
          have hj0 : ¬ ((i : Int) < (i : Int)) := by omega
          clear hgo hz hx9 hpx hk
          by_cases hbad : i = 0 ∨ z ≠ []
          · have hp7 : Hid (parseO l = ((0, 0, 0), [], (i : Int) + 1, 7)) := Lib.hid (by rw [hstep.out, if_pos hbad])
            by_cases hz0 : i = 0
            · have e0 : ((i : Int) == 0) = true := by simp [hz0]
              replace hbad := Lib.hid hbad
              replace hz0 := Lib.hid hz0
              go_wp2_with fail
              refine bodyPost_ret (v := .tuple #[.agg #[.int .i64 0, .int .i64 0, .int .i64 0], .slice none 0 0, .int .i64 (i + 1), .int .i64 7]) (by simp [results, Tryd.results11, go_sem, q0, q1, q2]) rfl ⟨⟨.slice none 0 0, by rw [hp7.out], by rw [hp7.out]; exact (OwnC.nil 0 0 _).rd⟩, hend.out _ (hOB.out _ hon) _ _ _⟩
            · have e0 : ((i : Int) == 0) = false := by simp [hz0]
              obtain ⟨y, ys, rfl⟩ : ∃ y ys, z = y :: ys := List.exists_cons_of_ne_nil (hbad.resolve_left hz0)
              replace hbad := Lib.hid hbad
              replace hz0 := Lib.hid hz0
              go_wp2_with fail
              refine bodyPost_ret (v := .tuple #[.agg #[.int .i64 0, .int .i64 0, .int .i64 0], .slice none 0 0, .int .i64 (i + 1), .int .i64 7]) (by simp [results, Tryd.results11, go_sem, q0, q1, q2]) rfl ⟨⟨.slice none 0 0, by rw [hp7.out], by rw [hp7.out]; exact (OwnC.nil 0 0 _).rd⟩, hend.out _ (hOB.out _ hon) _ _ _⟩
          · have hp0 : Hid (parseO l = ((sa, sb, sc), xs, 0, 0)) := Lib.hid (by rw [hstep.out, if_neg hbad])
            have hz0 : ¬ i = 0 := fun e => hbad (.inl e)
            have e0 : ((i : Int) == 0) = false := by simp [hz0]
            obtain rfl : z = [] := by by_cases h : z = []; exact h; exact absurd (.inr h) hbad
            have hrd : ∀ u0 u1 u2, RdC (((Y.setCell ⟨H, 0, .none⟩ u0).setCell ⟨H, 1, .none⟩ u1).setCell ⟨H, 2, .none⟩ u2) u10 xs := fun u0 u1 u2 => by
              refine OwnC.rd (E := 46) (B := Z.heap.size) (ownsRow_of_blocks hown fun k hk => ?_)
              have hkH : k ≠ H := by have := (hown.lt k hk).1; omega
              exact (Below.heap_setCell _ ⟨H, 2, .none⟩ _ k hkH).trans ((Below.heap_setCell _ ⟨H, 1, .none⟩ _ k hkH).trans (Below.heap_setCell _ ⟨H, 0, .none⟩ _ k hkH))
            replace hbad := Lib.hid hbad
            replace hz0 := Lib.hid hz0
            replace hrd := Lib.hid hrd
            go_wp2_with fail
            refine bodyPost_ret (v := .tuple #[.agg #[.int .i64 sa, .int .i64 sb, .int .i64 sc], u10, .int .i64 0, .int .i64 0]) (by simp [results, Tryd.results11, go_sem, q0, q1, q2]) rfl ⟨⟨u10, by rw [hp0.out], by rw [hp0.out]; exact hrd.out _ _ _⟩, hend.out _ (hOB.out _ hon) _ _ _⟩
end Go.Proofs.YtkeiehgojclecaaDoor
